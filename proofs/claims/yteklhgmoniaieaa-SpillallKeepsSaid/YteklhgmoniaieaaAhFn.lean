/- Sequence, conditions, blocks, loops; a function's contract. -/
import Derived.Test.YteklhgmoniaieaaAhCode
import Derived.Tactics
set_option linter.unusedVariables false
set_option linter.unusedSimpArgs false
namespace Go.Proofs.YteklhgmoniaieaaAh
section
variable {P : Program} {n : Nat} {Q : Post}

def thenA (next : Env → AHeap → Prop) (Q : Post) : Post
  | .normal, e, H => next e H
  | ex, e, H => Q ex e H
def blockA (id : Nat) (Q : Post) : Post
  | .exit id', e, H => if id' = id then Q .normal e H else Q (.exit id') e H
  | ex, e, H => Q ex e H

theorem awp_mono {c : Code} {Q' : Post} {e : Env} {H : AHeap} (h : AWp P n c Q e H) (k : ∀ ex e H, Q ex e H → Q' ex e H) : AWp P n c Q' e H :=
  fun a w hf hr => wp_mono (h a w hf hr) fun ex a' w' ⟨e', H', hf', s, hq, hp⟩ => ⟨e', H', hf', s, k _ _ _ hq, hp⟩
theorem awp_skip {e : Env} {H : AHeap} (h : Q .normal e H) : AWp P n .skip Q e H := fun a w hf hr => wp_skip ⟨e, H, hf, Step.refl hr, h, fun ⟨_, hc⟩ => by cases hc⟩
theorem awp_label {l : Nat} {e : Env} {H : AHeap} (h : Q .normal e H) : AWp P n (.label l) Q e H := fun a w hf hr => wp_label ⟨e, H, hf, Step.refl hr, h, fun ⟨_, hc⟩ => by cases hc⟩
theorem awp_exit {id : Nat} {e : Env} {H : AHeap} (h : Q (.exit id) e H) : AWp P n (.exit id) Q e H := fun a w hf hr => wp_exit ⟨e, H, hf, Step.refl hr, h, fun ⟨_, hc⟩ => by cases hc⟩
theorem awp_goto {l : Nat} {e : Env} {H : AHeap} (h : Q (.goto l) e H) : AWp P n (.goto l) Q e H := fun a w hf hr => wp_goto ⟨e, H, hf, Step.refl hr, h, fun ⟨_, hc⟩ => by cases hc⟩
theorem awp_ret {e : Env} {H : AHeap} (h : Q .ret e H) : AWp P n .ret Q e H := fun a w hf hr => wp_ret ⟨e, H, hf, Step.refl hr, h, fun ⟨_, hc⟩ => by cases hc⟩

theorem awp_seq {x y : Code} {e : Env} {H : AHeap} (h : AWp P n x (thenA (AWp P n y Q) Q) e H) : AWp P n (.seq x y) Q e H := by
  intro a w hf hr
  refine wp_seq (wp_mono (h a w hf hr) fun ex a' w' hq => ?_)
  obtain ⟨e', H', hf', s, hq, hp⟩ := hq
  cases ex with
  | normal => exact wp_mono (hq a' w' hf' s.rel) fun ex a2 w2 h2 => h2.step s
  | exit id => exact ⟨e', H', hf', s, hq, hp⟩
  | goto l => exact ⟨e', H', hf', s, hq, hp⟩
  | ret => exact ⟨e', H', hf', s, hq, hp⟩
  | panic ch => exact ⟨e', H', hf', s, hq, hp⟩
  | outgrown => exact ⟨e', H', hf', s, hq, hp⟩
theorem awp_seq_k {x y : Code} {e : Env} {H : AHeap} (h : ∀ K : Env → AHeap → Prop, (∀ e H, AWp P n y Q e H → K e H) → AWp P n x (thenA K Q) e H) : AWp P n (.seq x y) Q e H :=
  awp_seq (h _ fun _ _ h => h)
theorem awp_cond {c : Operand} {x y : Code} {t : Bool} {e : Env} {H : AHeap} (hc : e.eval c = some (.bool t)) (ht : t = true → AWp P n x Q e H) (hf : t = false → AWp P n y Q e H) : AWp P n (.cond c x y) Q e H := by
  intro a w hfr hr
  refine wp_cond (t := t) (hfr.eval hc) ?_
  cases t
  · exact hf rfl a w hfr hr
  · exact ht rfl a w hfr hr
theorem awp_block {id : Nat} {c : Code} {e : Env} {H : AHeap} (h : AWp P n c (blockA id Q) e H) : AWp P n (.block id c) Q e H := by
  intro a w hf hr
  refine wp_block (wp_mono (h a w hf hr) fun ex a' w' hq => ?_)
  obtain ⟨e', H', hf', s, hq, hp⟩ := hq
  cases ex with
  | exit id' =>
    simp only [blockA] at hq
    simp only [Exit.inBlock]
    split
    · rename_i hid
      rw [if_pos hid] at hq
      exact ⟨e', H', hf', s, hq, fun ⟨_, hc⟩ => by cases hc⟩
    · rename_i hid
      rw [if_neg hid] at hq
      exact ⟨e', H', hf', s, hq, fun ⟨_, hc⟩ => by cases hc⟩
  | normal => exact ⟨e', H', hf', s, hq, hp⟩
  | goto l => exact ⟨e', H', hf', s, hq, hp⟩
  | ret => exact ⟨e', H', hf', s, hq, hp⟩
  | panic ch => exact ⟨e', H', hf', s, hq, hp⟩
  | outgrown => exact ⟨e', H', hf', s, hq, hp⟩

/-- e knows at least what e0 says. -/
def Covers (e e0 : Env) : Prop := e.ds = e0.ds ∧ ∀ p ∈ e0.l, lookL e.l p.1 = some p.2
theorem lookL_mem : ∀ {l : List (Nat × Value)} {t : Nat} {v : Value}, lookL l t = some v → (t, v) ∈ l
  | [], _, _, h => by cases h
  | (x, u) :: r, t, v, h => by
    simp only [lookL] at h
    split at h
    · rename_i e; subst e; cases h; exact List.mem_cons_self ..
    · exact List.mem_cons_of_mem _ (lookL_mem h)
theorem FRel.covers {e e0 : Env} {a : Act} (h : FRel n e a) (c : Covers e e0) : FRel n e0 a :=
  ⟨h.size, h.ds.trans c.1, fun t v hv => h.look t v (c.2 (t, v) (lookL_mem hv))⟩
theorem awp_weaken {c : Code} {e e0 : Env} {H H0 : AHeap} (hc : Covers e e0) (hs : Sub H0 H) (h : AWp P n c Q e0 H0) : AWp P n c Q e H := by
  intro a w hf hr
  refine wp_mono (h a w (hf.covers hc) (hr.sub hs)) fun ex a' w' hq => ?_
  exact hq.step ((Step.refl hr).sub hs)

theorem wp_loop_ix {ι : Type} {c : Code} {Q : Exit → Act → World → Prop} {a : Act} {w : World} (I : ι → Act → World → Prop) (μ : ι → Nat) (i0 : ι) (h₀ : I i0 a w)
    (round : ∀ i a w, I i a w → c.wp P (Exit.then (fun a' w' => ∃ j, I j a' w' ∧ μ j < μ i) Q) a w) : (Code.loop c).wp P Q a w := by
  intro b k cs
  have key : ∀ m i a w, μ i = m → I i a w →
      ∃ e a' w', Q e a' w' ∧ Arrives P (lone (b.at a (.code c :: .inLoop c :: k)) cs w) b k cs e a' w' := by
    intro m
    induction m using Nat.strongRecOn with
    | _ m ih =>
      intro i a w hm hI
      obtain ⟨e, a₁, w₁, hq, harr⟩ := round i a w hI b (.inLoop c :: k) cs
      cases e with
      | normal =>
        obtain ⟨j, hI₁, hlt⟩ := hq
        obtain ⟨e₂, a₂, w₂, hq₂, harr₂⟩ := ih (μ j) (hm ▸ hlt) j a₁ w₁ rfl hI₁
        exact ⟨e₂, a₂, w₂, hq₂, .of_steps (Steps.trans harr (.one step_inLoop)) harr₂⟩
      | exit id => exact ⟨_, a₁, w₁, hq, .pass (x := .inLoop c) rfl (fun _ _ => .inl (by simp)) harr⟩
      | goto l => exact ⟨_, a₁, w₁, hq, .pass (x := .inLoop c) rfl (fun _ _ => .inl (by simp)) harr⟩
      | ret => exact ⟨_, a₁, w₁, hq, .pass (x := .inLoop c) rfl (fun _ _ => .inl (by simp)) harr⟩
      | panic ch => exact ⟨_, a₁, w₁, hq, .pass (x := .inLoop c) rfl (fun _ _ => .inl (by simp)) harr⟩
      | outgrown => exact ⟨_, a₁, w₁, hq, .pass (x := .inLoop c) rfl (fun _ _ => .inl (by simp)) harr⟩
  obtain ⟨e, a', w', hq, harr⟩ := key _ i0 a w rfl h₀
  exact ⟨e, a', w', hq, .of_steps (.one step_loop) harr⟩

/-- A loop: at each round's head, for some index i, the slots are known as E i and memory meets Hp i; the measure goes down. -/
theorem awp_loop {ι : Type} {c : Code} {e : Env} {H : AHeap} (E : ι → Env) (Hp : ι → AHeap → Prop) (μ : ι → Nat) (i0 : ι) (hc : Covers e (E i0)) (H1 : AHeap) (hs : Sub H1 H) (h0 : Hp i0 H1)
    (round : ∀ i H, Hp i H → AWp P n c (thenA (fun e' H' => ∃ j H'', Covers e' (E j) ∧ Sub H'' H' ∧ Hp j H'' ∧ μ j < μ i) Q) (E i) H) : AWp P n (.loop c) Q e H := by
  intro a w hf hr
  refine wp_loop_ix (fun i a' w' => ∃ H', FRel n (E i) a' ∧ Step H w H' w' ∧ Hp i H') μ i0 ⟨H1, hf.covers hc, (Step.refl hr).sub hs, h0⟩ fun i a' w' hI => ?_
  obtain ⟨H', hf', s, hp⟩ := hI
  refine wp_mono (round i H' hp a' w' hf' s.rel) fun ex a2 w2 hq => ?_
  obtain ⟨e2, H2, hf2, s2, hq2, hpa⟩ := hq
  cases ex with
  | normal =>
    obtain ⟨j, H3, hcov, hsub, hp3, hlt⟩ := hq2
    exact ⟨j, ⟨H3, hf2.covers hcov, (s.trans s2).sub hsub, hp3⟩, hlt⟩
  | exit id => exact ⟨e2, H2, hf2, s.trans s2, hq2, hpa⟩
  | goto l => exact ⟨e2, H2, hf2, s.trans s2, hq2, hpa⟩
  | ret => exact ⟨e2, H2, hf2, s.trans s2, hq2, hpa⟩
  | panic ch => exact ⟨e2, H2, hf2, s.trans s2, hq2, hpa⟩
  | outgrown => exact ⟨e2, H2, hf2, s.trans s2, hq2, hpa⟩

/-- The first words on each slot that is not in `seen`. -/
def dropL : List Nat → List (Nat × Value) → List (Nat × Value)
  | _, [] => []
  | s, (t, v) :: r => if s.elem t then dropL s r else (t, v) :: dropL (t :: s) r
def Holds (l : List (Nat × Value)) : List (Nat × Value) → Prop
  | [] => True
  | (t, v) :: r => lookL l t = some v ∧ Holds l r
theorem Holds.mem {l : List (Nat × Value)} : ∀ {r : List (Nat × Value)}, Holds l r → ∀ p ∈ r, lookL l p.1 = some p.2
  | (t, v) :: r, h, p, hp => by
    rcases List.mem_cons.1 hp with rfl | hp
    · exact h.1
    · exact Holds.mem h.2 p hp
theorem Holds.app {l : List (Nat × Value)} : ∀ {r s : List (Nat × Value)}, Holds l r → Holds l s → Holds l (r ++ s)
  | [], _, _, h => h
  | (t, v) :: r, s, h, k => ⟨h.1, Holds.app h.2 k⟩
theorem dropL_look : ∀ {l : List (Nat × Value)} {s : List Nat}, ∀ p ∈ dropL s l, lookL l p.1 = some p.2 ∧ s.elem p.1 = false
  | [], _, _, h => by simp [dropL] at h
  | (t, v) :: r, s, p, h => by
    simp only [dropL] at h
    split at h
    · rename_i hs
      obtain ⟨h1, h2⟩ := dropL_look p h
      refine ⟨?_, h2⟩
      simp only [lookL]
      rw [if_neg]
      · exact h1
      · intro e; rw [e, hs] at h2; cases h2
    · rename_i hs
      rcases List.mem_cons.1 h with rfl | h
      · exact ⟨by simp [lookL], by simpa using hs⟩
      · obtain ⟨h1, h2⟩ := dropL_look p h
        simp only [List.elem_eq_mem, List.mem_cons, not_or, decide_eq_false_iff_not] at h2
        refine ⟨?_, by simpa using h2.2⟩
        simp only [lookL]
        rw [if_neg h2.1]
        exact h1
/-- A loop whose slots in `rm` change; `ovr` tells them at the head. -/
theorem awp_loop2 {ι : Type} {c : Code} {l : List (Nat × Value)} {ds : List Deferred} {H : AHeap} (rm : List Nat) (ovr : ι → List (Nat × Value)) (Hp : ι → AHeap → Prop) (μ : ι → Nat) (i0 : ι) (h0 : Holds l (ovr i0)) {H1 : AHeap} (hs : Sub H1 H) (hp : Hp i0 H1)
    (round : ∀ i H, Hp i H → AWp P n c (thenA (fun e' H' => ∃ j H'', e'.ds = ds ∧ Holds e'.l (ovr j) ∧ Holds e'.l (dropL rm l) ∧ Sub H'' H' ∧ Hp j H'' ∧ μ j < μ i) Q) ⟨ovr i ++ dropL rm l, ds⟩ H) : AWp P n (.loop c) Q ⟨l, ds⟩ H := by
  refine awp_loop (fun i => ⟨ovr i ++ dropL rm l, ds⟩) Hp μ i0 ⟨rfl, fun p hp => ?_⟩ H1 hs hp fun i H' hH => awp_mono (round i H' hH) fun ex e' H'' hq => ?_
  · rcases List.mem_append.1 hp with h | h
    · exact h0.mem p h
    · exact (dropL_look p h).1
  · cases ex with
    | normal =>
      obtain ⟨j, H3, h1, h2, h3, h4, h5, h6⟩ := hq
      exact ⟨j, H3, ⟨h1, (h2.app h3).mem⟩, h4, h5, h6⟩
    | exit id => exact hq
    | goto l => exact hq
    | ret => exact hq
    | panic ch => exact hq
    | outgrown => exact hq

def LoopTo {ι : Type} (rm : List Nat) (l : List (Nat × Value)) (ds : List Deferred) (ovr : ι → List (Nat × Value)) (Hp : ι → AHeap → Prop) (μ : ι → Nat) (i : ι) (e' : Env) (H' : AHeap) : Prop :=
  ∃ j H'', e'.ds = ds ∧ Holds e'.l (ovr j) ∧ Holds e'.l (dropL rm l) ∧ Sub H'' H' ∧ Hp j H'' ∧ μ j < μ i
theorem loopTo {ι : Type} {rm : List Nat} {l : List (Nat × Value)} {ds : List Deferred} {ovr : ι → List (Nat × Value)} {Hp : ι → AHeap → Prop} {μ : ι → Nat} {i : ι} {e' : Env} {H' : AHeap} (j : ι) {H'' : AHeap}
    (hd : e'.ds = ds) (h1 : Holds e'.l (ovr j)) (h2 : Holds e'.l (dropL rm l)) (h4 : Hp j H'') (h3 : Sub H'' H') (h5 : μ j < μ i) : LoopTo rm l ds ovr Hp μ i e' H' := ⟨j, H'', hd, h1, h2, h3, h4, h5⟩
theorem awp_loop3 {ι : Type} {c : Code} {l : List (Nat × Value)} {ds : List Deferred} {H : AHeap} (rm : List Nat) (ovr : ι → List (Nat × Value)) (Hp : ι → AHeap → Prop) (μ : ι → Nat) (i0 : ι) (h0 : Holds l (ovr i0)) {H1 : AHeap} (hs : Sub H1 H) (hp : Hp i0 H1)
    (round : ∀ i H, Hp i H → ∀ K : Env → AHeap → Prop, (∀ e H, LoopTo rm l ds ovr Hp μ i e H → K e H) → AWp P n c (thenA K Q) ⟨ovr i ++ dropL rm l, ds⟩ H) : AWp P n (.loop c) Q ⟨l, ds⟩ H :=
  awp_loop2 rm ovr Hp μ i0 h0 hs hp fun i H' hH => round i H' hH _ fun _ _ h => h
/-- The body's end, kept shut. -/
theorem awp_end_k {c : Code} {e : Env} {H : AHeap} (h : ∀ K : Env → AHeap → Prop, (∀ e H, Q .normal e H → K e H) → AWp P n c (thenA K Q) e H) : AWp P n c Q e H :=
  awp_mono (h _ fun _ _ h => h) fun ex e' H' hq => by cases ex <;> exact hq

/-! ### functions -/
def resL (P : Program) (e : Env) (H : AHeap) : List ResultVar → Option (List Value)
  | [] => some []
  | .tmp t :: r => match lookL e.l t, resL P e H r with
    | some v, some l => some (v :: l)
    | _, _ => none
  | .cell a t :: r => match lv P e H (.load t (.tmp a)), resL P e H r with
    | some v, some l => some (v :: l)
    | _, _ => none
def resV : List Value → Value
  | [v] => v
  | l => .tuple l.toArray
def FPost (P : Program) (rs : List ResultVar) (R : Ending → AHeap → Prop) : Post
  | .normal, e, H | .ret, e, H => e.ds = [] ∧ ∃ l, resL P e H rs = some l ∧ ∃ H', Sub H' H ∧ R (.returned (resV l)) H'
  | .panic ch, e, H => e.ds = [] ∧ R (.panicked ch) H
  | _, _, _ => False
def argsE : Nat → List Value → List (Nat × Value)
  | _, [] => []
  | i, v :: r => (i, v) :: argsE (i + 1) r
theorem lookL_args : ∀ (vs : List Value) (i t : Nat) (v : Value), lookL (argsE i vs) t = some v → i ≤ t ∧ vs[t - i]? = some v
  | [], _, _, _, h => by cases h
  | u :: r, i, t, v, h => by
    simp only [argsE, lookL] at h
    split at h
    · rename_i e; subst e; cases h; simp
    · rename_i hne
      obtain ⟨h1, h2⟩ := lookL_args r (i + 1) t v h
      refine ⟨by omega, ?_⟩
      rw [show t - i = (t - (i + 1)) + 1 by omega]
      simpa using h2
theorem lv_load {e : Env} {H : AHeap} {a : Act} {w : World} {b t : Nat} {v : Value} (hf : FRel n e a) (hr : Rel H w) (h : lv P e H (.load t (.tmp b)) = some v) :
    ∃ ad, a.tmps.getD b undef = .pointer (some ad) ∧ (loadVar t ad).run P w = .ok v w := by
  have h1 := lv_ok (P := P) (o := { dst := none, op := .load t (.tmp b), type := 0, pos := "", after := #[], guard := none }) hf hr h
  have : ∃ ad, e.eval (.tmp b) = some (.pointer (some ad)) := by
    simp only [lv] at h
    split at h
    · rename_i ad hx; exact ⟨ad, hx⟩
    · cases h
  obtain ⟨ad, had⟩ := this
  have hx := hf.look b _ had
  refine ⟨ad, hx, ?_⟩
  have hx' : a.eval (.tmp b) = .pointer (some ad) := hx
  unfold execOp at h1
  simp only [hx', Instr.loadAt, Instr.sureAddr, Sem.run_bind, Sem.run_pure, Result.andThen_ok] at h1
  cases hq : (loadVar t ad).run P w with
  | ok u w2 =>
    rw [hq] at h1
    simp only [Result.andThen_ok, Sem.run_pure, Result.ok.injEq, Next.value.injEq] at h1
    rw [h1.1, h1.2]
  | halt x w2 =>
    rw [hq] at h1
    simp [Result.andThen] at h1
def resS (tmps : Array Value) : ResultVar → Sem Value
  | .tmp t => pure (tmps.getD t undef)
  | .cell a t => do loadVar t (← asAddr (tmps.getD a undef))
theorem resL_ok {e : Env} {H : AHeap} {a : Act} {w : World} (hf : FRel n e a) (hr : Rel H w) : ∀ {rs : List ResultVar} {l : List Value}, resL P e H rs = some l →
    (rs.mapM (resS a.tmps)).run P w = .ok l w
  | [], l, h => by simp [resL] at h; subst h; simp [pure, Sem.run]
  | .tmp t :: r, l, h => by
    simp only [resL] at h
    split at h
    · rename_i v l' h1 h2
      cases h
      simp only [List.mapM_cons, Sem.run_bind, Sem.run_pure, Result.andThen_ok, resL_ok hf hr h2, resS, hf.look t v h1]
    · cases h
  | .cell b t :: r, l, h => by
    simp only [resL] at h
    split at h
    · rename_i v l' h1 h2
      cases h
      obtain ⟨ad, had, hrun⟩ := lv_load (P := P) hf hr h1
      simp only [List.mapM_cons, Sem.run_bind, Sem.run_pure, Result.andThen_ok, resL_ok hf hr h2, resS, had, asAddr, hrun]
    · cases h
theorem results_ok {fn : Func} {e : Env} {H : AHeap} {a : Act} {w : World} {l : List Value} (hf : FRel n e a) (hr : Rel H w) (h : resL P e H fn.results.toList = some l) :
    (results fn a.tmps).run P w = .ok (resV l) w := by
  have h1 := resL_ok (P := P) hf hr h
  have e1 : results fn a.tmps = (do let vs ← fn.results.mapM (resS a.tmps); pure (if h : vs.size = 1 then vs[0] else .tuple vs)) := by
    unfold results
    congr 1
  rw [e1, Array.mapM_eq_mapM_toList]
  have e2 : (List.toArray <$> fn.results.toList.mapM (resS a.tmps)).run P w = .ok l.toArray w := by
    show ((fn.results.toList.mapM (resS a.tmps)) >>= fun x => pure (List.toArray x) : Sem (Array Value)).run P w = _
    rw [Sem.run_bind, h1]
    rfl
  rw [Sem.run_bind, e2]
  simp only [Result.andThen_ok, Sem.run_pure]
  congr 1
  match l with
  | [] => rfl
  | [v] => rfl
  | v :: u :: r => simp [resV]

theorem acalls {f : FuncId} {fn : Func} {c : Code} {args : Array Value} {H : AHeap} {R : Ending → AHeap → Prop} (hf : P.funcs[f]? = some fn) (hb : fn.body = some c) (hn : (fn.name == "runtime.NumGoroutine") = false)
    (hsz : args.size ≤ fn.ntmps) (h : AWp P fn.ntmps c (FPost P fn.results.toList R) ⟨argsE 0 args.toList, []⟩ H) : ACallsE P f args H R := by
  refine ⟨⟨fn, hf, by rw [hb]; rfl, hn⟩, fun w hr => ?_⟩
  refine calls_of_wp hf hb (wp_mono (h _ w ⟨?_, rfl, fun t v hv => ?_⟩ hr) fun ex a' w' hq => ?_)
  · simp; omega
  · obtain ⟨_, h2⟩ := lookL_args _ _ _ _ hv
    simp only [Nat.sub_zero, Array.getElem?_toList] at h2
    obtain ⟨h3, h4⟩ := Array.getElem?_eq_some_iff.1 h2
    simp only [Array.getD_eq_getD_getElem?]
    rw [Array.getElem?_append_left h3, h2]
    rfl
  · obtain ⟨e', H', hf', s, hq, hp⟩ := hq
    cases ex with
    | normal =>
      obtain ⟨hd, l, hl, H2, hs, hR⟩ := hq
      exact ⟨hf'.ds.trans hd, _, results_ok hf' s.rel hl, H2, s.sub hs, hR⟩
    | ret =>
      obtain ⟨hd, l, hl, H2, hs, hR⟩ := hq
      exact ⟨hf'.ds.trans hd, _, results_ok hf' s.rel hl, H2, s.sub hs, hR⟩
    | panic ch => exact ⟨hf'.ds.trans hq.1, H', s, hq.2⟩
    | exit id => exact hq
    | goto l => exact hq
    | outgrown => exact hq.elim

/-- Up to here, and on from what is named. -/
theorem awp_seq_to {x y : Code} {e : Env} {H : AHeap} (E1 : Env) (H1 : AHeap) (h1 : AWp P n x (thenA (fun e' H' => Covers e' E1 ∧ Sub H1 H') Q) e H) (h2 : AWp P n y Q E1 H1) : AWp P n (.seq x y) Q e H :=
  awp_seq (awp_mono h1 fun ex e' H' h => by
    cases ex with
    | normal => exact awp_weaken h.1 h.2 h2
    | _ => exact h)
theorem awp_seq_cut {x y : Code} {e : Env} {H : AHeap} (R : Env → AHeap → Prop) (h1 : AWp P n x (thenA R Q) e H) (h2 : ∀ e H, R e H → AWp P n y Q e H) : AWp P n (.seq x y) Q e H :=
  awp_seq (awp_mono h1 fun ex e' H' h => by
    cases ex with
    | normal => exact h2 e' H' h
    | _ => exact h)
theorem awp_cond_t {c : Operand} {x y : Code} {e : Env} {H : AHeap} (hc : e.eval c = some (.bool true)) (h : AWp P n x Q e H) : AWp P n (.cond c x y) Q e H := awp_cond hc (fun _ => h) fun h => by cases h
theorem awp_cond_f {c : Operand} {x y : Code} {e : Env} {H : AHeap} (hc : e.eval c = some (.bool false)) (h : AWp P n y Q e H) : AWp P n (.cond c x y) Q e H := awp_cond hc (fun h => by cases h) fun _ => h

theorem Sub.refl {H : AHeap} (h : HLt H) : Sub H H := ⟨Nat.le_refl _, h, fun _ _ h => h⟩
theorem Sub.new {H0 H : AHeap} (s : Sub H0 H) {b : Nat} (h : H.next ≤ b) (o : AObj) : Sub H0 (H.new b o) :=
  ⟨by have := s.next; simp; omega, s.lt, fun x o' hx => by
    have h1 := s.lt x o' hx
    have h2 := s.next
    simp only [AHeap.at_new]
    rw [if_neg (by omega)]
    exact s.at_ x o' hx⟩
theorem Sub.set {H0 H : AHeap} (s : Sub H0 H) {b : Nat} (h : H0.next ≤ b) (o : AObj) : Sub H0 (H.set b o) :=
  ⟨s.next, s.lt, fun x o' hx => by
    have h1 := s.lt x o' hx
    simp only [AHeap.at_set]
    rw [if_neg (by omega)]
    exact s.at_ x o' hx⟩
theorem Sub.new_new {H0 H : AHeap} (s : Sub H0 H) {b : Nat} (h : H0.next ≤ b) (o : AObj) : Sub (H0.new b o) (H.new b o) :=
  ⟨by simp, fun x o' hx => by
    simp only [AHeap.at_new] at hx
    split at hx
    · simp; omega
    · have := s.lt x o' hx; simp; omega, fun x o' hx => by
    simp only [AHeap.at_new] at hx ⊢
    split at hx
    · rename_i e; rw [if_pos e]; exact hx
    · rename_i e; rw [if_neg e]; exact s.at_ x o' hx⟩
theorem HLt.new {H : AHeap} (h : HLt H) {b : Nat} (hb : H.next ≤ b) (o : AObj) : HLt (H.new b o) := fun x o' hx => by
  simp only [AHeap.at_new] at hx
  split at hx
  · simp; omega
  · have := h x o' hx; simp; omega
theorem HLt.set {H : AHeap} (h : HLt H) {b : Nat} (hb : b < H.next) (o : AObj) : HLt (H.set b o) := fun x o' hx => by
  simp only [AHeap.at_set] at hx
  split at hx
  · simp; omega
  · exact h x o' hx
theorem Sub.hlt {A B : AHeap} (s : Sub A B) : HLt A := s.lt

theorem awp_lt {c : Code} {e : Env} {H : AHeap} (h : HLt H → AWp P n c Q e H) : AWp P n c Q e H := fun a w hf hr => h hr.lt a w hf hr
theorem awp_sub {c : Code} {e : Env} {H H0 : AHeap} (hs : Sub H0 H) (h : AWp P n c Q e H0) : AWp P n c Q e H := by
  intro a w hf hr
  exact wp_mono (h a w hf (hr.sub hs)) fun ex a' w' hq => hq.step ((Step.refl hr).sub hs)

theorem acallsN {f : FuncId} {fn : Func} {c : Code} {args : Array Value} {H : AHeap} {R : Ending → AHeap → Prop} (n : Nat) {rs : List ResultVar} (hf : P.funcs[f]? = some fn) (hb : fn.body = some c) (hn : (fn.name == "runtime.NumGoroutine") = false)
    (hnt : fn.ntmps = n) (hrs : fn.results.toList = rs) (hsz : args.size ≤ n) (h : HLt H → AWp P n c (FPost P rs R) ⟨argsE 0 args.toList, []⟩ H) : ACallsE P f args H R := by
  subst hnt; subst hrs; exact acalls hf hb hn hsz (awp_lt h)
theorem fpost_ret {rs : List ResultVar} {R : Value → AHeap → Prop} {e : Env} {H H0 : AHeap} {l : List Value} (hd : e.ds = []) (hl : resL P e H rs = some l) (hs : Sub H0 H) (hR : R (resV l) H0) :
    FPost P rs (fun en H' => ∃ v, en = .returned v ∧ R v H') .ret e H := ⟨hd, l, hl, H0, hs, _, rfl, hR⟩
theorem fpost_end {rs : List ResultVar} {R : Value → AHeap → Prop} {e : Env} {H H0 : AHeap} {l : List Value} (hd : e.ds = []) (hl : resL P e H rs = some l) (hs : Sub H0 H) (hR : R (resV l) H0) :
    FPost P rs (fun en H' => ∃ v, en = .returned v ∧ R v H') .normal e H := ⟨hd, l, hl, H0, hs, _, rfl, hR⟩
/-- A call that only reckons. -/
theorem acallP {f : FuncId} {args : Array Value} {H : AHeap} {r : Value} {K : Value → AHeap → Prop} {Kp : List PanicEntry → AHeap → Prop} (h : ACalls P f args H fun v H' => v = r ∧ H' = H) (k : K r H) :
    ACallsE P f args H fun en H' => match en with
        | .returned v => K v H'
        | .panicked ch => Kp ch H'
        | .outgrown => False :=
  ACallsE.mono h fun en H' ⟨v, he, h1, h2⟩ => by subst he; subst h1; subst h2; exact k
/-- A call by its contract, inside an operation's effect. -/
theorem acall {f : FuncId} {args : Array Value} {H : AHeap} {R K : Value → AHeap → Prop} {Kp : List PanicEntry → AHeap → Prop} (h : ACalls P f args H R) (k : ∀ v H', R v H' → K v H') :
    ACallsE P f args H fun en H' => match en with
        | .returned v => K v H'
        | .panicked ch => Kp ch H'
        | .outgrown => False :=
  ACallsE.mono h fun en H' ⟨v, he, hr⟩ => by subst he; exact k v H' hr
end
@[simp] theorem add_blk (b o n : Nat) : (⟨b, o, none⟩ : Addr).add n = ⟨b, o + n, none⟩ := by
  unfold Addr.add
  split
  · rename_i h; subst h; rfl
  · rfl
@[simp] theorem add_block (a : Addr) (n : Nat) : (a.add n).block = a.block := by unfold Addr.add; split <;> rfl
@[simp] theorem add_add (a : Addr) (n m : Nat) : (a.add n).add m = a.add (n + m) := by
  unfold Addr.add
  by_cases hn : n = 0 <;> by_cases hm : m = 0 <;> simp [hn, hm, Nat.add_assoc]
def rowO : Option AObj → Nat → Option (List Value)
  | some (.cells c _ _), o => some (c.drop o)
  | some (.ro (.cells arr _ _)), o => some (arr.toList.drop o)
  | _, _ => none
@[simp] theorem rowO_cells (c : List Value) (e : TypeId) (m o : Nat) : rowO (some (.cells c e m)) o = some (c.drop o) := rfl
theorem row_mk (H : AHeap) (b o : Nat) : H.row ⟨b, o, none⟩ = rowO (H.at_ b) o := by
  unfold AHeap.row rowO
  simp only [Option.isSome_none, Bool.false_eq_true, if_false]
  cases H.at_ b with
  | none => rfl
  | some o =>
    cases o with
    | cells c e m => rfl
    | ro o => cases o <;> rfl
    | obj o => rfl
@[simp] theorem loadN_mk (H : AHeap) (b o n : Nat) : H.loadN ⟨b, o, none⟩ n = takeN n (rowO (H.at_ b) o) := by rw [AHeap.loadN, row_mk]
@[simp] theorem load1_mk (H : AHeap) (b o : Nat) : H.load1 ⟨b, o, none⟩ = headO (rowO (H.at_ b) o) := by rw [AHeap.load1, row_mk]
theorem row_new (H : AHeap) (b : Nat) (o : AObj) (a : Addr) (h : a.block ≠ b) : (H.new b o).row a = H.row a := by
  unfold AHeap.row; rw [AHeap.at_new_ne _ _ _ _ h]
theorem row_set (H : AHeap) (b : Nat) (o : AObj) (a : Addr) (h : a.block ≠ b) : (H.set b o).row a = H.row a := by
  unfold AHeap.row; rw [AHeap.at_set_ne _ _ _ _ h]
@[simp] theorem loadN_new (H : AHeap) (b : Nat) (o : AObj) (a : Addr) (j n : Nat) (h : a.block ≠ b) : (H.new b o).loadN (a.add j) n = H.loadN (a.add j) n := by
  rw [AHeap.loadN, AHeap.loadN, row_new]; simpa using h
@[simp] theorem load1_new (H : AHeap) (b : Nat) (o : AObj) (a : Addr) (j : Nat) (h : a.block ≠ b) : (H.new b o).load1 (a.add j) = H.load1 (a.add j) := by
  rw [AHeap.load1, AHeap.load1, row_new]; simpa using h
@[simp] theorem loadN_set (H : AHeap) (b : Nat) (o : AObj) (a : Addr) (j n : Nat) (h : a.block ≠ b) : (H.set b o).loadN (a.add j) n = H.loadN (a.add j) n := by
  rw [AHeap.loadN, AHeap.loadN, row_set]; simpa using h
@[simp] theorem load1_set (H : AHeap) (b : Nat) (o : AObj) (a : Addr) (j : Nat) (h : a.block ≠ b) : (H.set b o).load1 (a.add j) = H.load1 (a.add j) := by
  rw [AHeap.load1, AHeap.load1, row_set]; simpa using h
@[simp] theorem wrap64 (x : Int) (h : -9223372036854775808 ≤ x) (k : x < 9223372036854775808) : IntKind.i64.wrap x = x := by rw [IntKind.wrap_i64]; omega
@[simp] theorem one_int (k : IntKind) (x : Int) : (Value.int k x).oneCell' = true := rfl
@[simp] theorem one_bool (b : Bool) : (Value.bool b).oneCell' = true := rfl
@[simp] theorem one_string (s : ByteArray) : (Value.string s).oneCell' = true := rfl
@[simp] theorem one_slice (a : Option Addr) (n c : Nat) : (Value.slice a n c).oneCell' = true := rfl
@[simp] theorem one_pointer (a : Option Addr) : (Value.pointer a).oneCell' = true := rfl
@[simp] theorem one_map (a : Option Nat) : (Value.map a).oneCell' = true := rfl
@[simp] theorem one_func (f : Fn) (a b : Array Value) : (Value.func f a b).oneCell' = true := rfl
@[simp] theorem one_nilFunc : Value.nilFunc.oneCell' = true := rfl
@[simp] theorem one_iface (t : TypeId) (v : Value) : (Value.iface t v).oneCell' = true := rfl
@[simp] theorem one_nilIface : Value.nilIface.oneCell' = true := rfl
attribute [simp] List.getElem?_cons_zero List.getElem?_cons_succ
attribute [simp] Region.binds bnd eqL eqB argT dropL Holds AOps AWd wantE isEff yv isLoad lv pv est lookL Env.eval Env.put Env.look thenA blockA binV binI unV evalL argsE resL resV FPost headO takeN setCells buildV storeE ptr fltW waitsOn Covers nthL
attribute [simp] AHeap.at_new_ne AHeap.at_set_ne AHeap.set_new_ne
end Go.Proofs.YteklhgmoniaieaaAh
