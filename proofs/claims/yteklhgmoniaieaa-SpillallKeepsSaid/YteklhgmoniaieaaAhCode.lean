/- Code: regions, sequence, conditions, blocks, loops; a function's contract. -/
import Derived.Test.YteklhgmoniaieaaAhEff
import Derived.Test.YteklhgmoniaieaaAhRegion
set_option linter.unusedVariables false
set_option linter.unusedSimpArgs false
namespace Go.Proofs.YteklhgmoniaieaaAh

def isEff : Op → Bool
  | .move _ | .assign _ | .pick .. | .build .. | .load .. | .nilCheck _ | .binOp .. | .unOp .. | .convert .. | .makeInterface .. | .makeFunc .. | .slice ..
  | .fieldAddr .. | .field .. | .indexAddr .. | .index .. | .typeAssert .. | .extract .. => false
  | .call c => match c.callee with
    | .builtin .len | .builtin .cap | .builtin .min | .builtin .max => false
    | _ => true
  | _ => true
def gb (c want : Bool) : Bool := match want with
  | true => c
  | false => !c
@[simp] theorem gb_true (c : Bool) : gb c true = c := rfl
@[simp] theorem gb_false (c : Bool) : gb c false = !c := rfl
/-- Does a slot's value let the guarded operation run? -/
def wantV (v : Value) (want : Bool) : Bool := match v with
  | .bool b => gb b want
  | _ => false
@[simp] theorem wantV_bool (b want : Bool) : wantV (.bool b) want = gb b want := rfl
@[simp] theorem wantV_ifV (g : Bool) (v : Value) (want : Bool) : wantV (ifV g v) want = (g && wantV v want) := by cases g <;> rfl
def wantE (ops : Array Oper) (e : Env) (o : Oper) : Option Bool :=
  match o.guard with
  | none => some true
  | some (g, want) =>
    match (ops[g]?).bind (·.dst) with
    | some t => match lookL e.l t with
      | some v => some (wantV v want)
      | none => none
    | none => none
def yv (P : Program) (e : Env) (H : AHeap) (o : Op) : Option Value := if isLoad o then lv P e H o else pv P e o

abbrev Post := Exit → Env → AHeap → Prop
def PQ (n : Nat) (Q : Post) (H : AHeap) (w : World) (ex : Exit) (a' : Act) (w' : World) : Prop :=
  ∃ e' H', FRel n e' a' ∧ Step H w H' w' ∧ Q ex e' H' ∧ ((∃ ch, ex = .panic ch) → e'.l = [])
def AWp (P : Program) (n : Nat) (c : Code) (Q : Post) (e : Env) (H : AHeap) : Prop :=
  ∀ a w, FRel n e a → Rel H w → c.wp P (PQ n Q H w) a w

/-! ### regions -/
/-- One way or the other. -/
def Br (c : Option Bool) (A B : Prop) : Prop := ∃ b, c = some b ∧ (b = true → A) ∧ (b = false → B)
@[congr] theorem Br.congr_cond {c c' : Option Bool} {A B : Prop} (h : ∀ _ : Unit, c = c') : Br c A B = Br c' A B := by rw [h ()]
@[simp] theorem Br_true (A B : Prop) : Br (some true) A B = A := by simp [Br]
@[simp] theorem Br_false (A B : Prop) : Br (some false) A B = B := by simp [Br]
theorem br {b : Bool} {A B : Prop} (h1 : b = true → A) (h2 : b = false → B) : Br (some b) A B := ⟨b, rfl, h1, h2⟩
def bindO {α : Type} (x : Option α) (f : α → Prop) : Prop := ∃ v, x = some v ∧ f v
theorem bindO_intro {α : Type} {x : Option α} {f : α → Prop} {v : α} (h : x = some v) (k : f v) : bindO x f := ⟨v, h, k⟩
@[congr] theorem bindO_congr {α : Type} {x y : Option α} {f : α → Prop} (h : ∀ _ : Unit, x = y) : bindO x f = bindO y f := by rw [h ()]
@[simp] theorem bindO_some {α : Type} (v : α) (f : α → Prop) : bindO (some v) f = f v := by simp [bindO]
@[simp] theorem bindO_none {α : Type} (f : α → Prop) : bindO none f = False := by simp [bindO]
def AOps (P : Program) (ops : Array Oper) (Q : Post) (K : Env → AHeap → Prop) : List Oper → Env → AHeap → Prop
  | [], e, H => K e H
  | o :: r, e, H => Br (wantE ops e o)
      (if isEff o.op then est P e H o (fun v H' => AOps P ops Q K r (e.put o.dst v) H') (fun ch H' => Q (.panic ch) ⟨[], e.ds⟩ H')
      else bindO (yv P e H o.op) fun v => AOps P ops Q K r (e.put o.dst v) H)
      (AOps P ops Q K r (e.put o.dst undef) H)
theorem aops_append {P : Program} {ops : Array Oper} {Q : Post} {K : Env → AHeap → Prop} (l2 : List Oper) : ∀ (l1 : List Oper), AOps P ops Q K (l1 ++ l2) = AOps P ops Q (AOps P ops Q K l2) l1
  | [] => rfl
  | o :: r => by
    funext e H
    simp only [List.cons_append, AOps, aops_append l2 r]
/-- Up to the m-th operation, and on. -/
theorem aops_split {P : Program} {ops : Array Oper} {Q : Post} {K : Env → AHeap → Prop} {l : List Oper} {e : Env} {H : AHeap} (m : Nat)
    (h : ∀ K' : Env → AHeap → Prop, (∀ e H, AOps P ops Q K (l.drop m) e H → K' e H) → AOps P ops Q K' (l.take m) e H) : AOps P ops Q K l e H := by
  have := h _ fun _ _ h => h
  rw [← aops_append, List.take_append_drop] at this
  exact this
/-- An operation under a guard: what only reckons. -/
theorem aops_guard {P : Program} {ops : Array Oper} {Q : Post} {K : Env → AHeap → Prop} {o : Oper} {r : List Oper} {e : Env} {H : AHeap} {b : Bool} {v : Value} (hw : wantE ops e o = some b) (he : isEff o.op = false)
    (hv : b = true → yv P e H o.op = some v) (h : AOps P ops Q K r (e.put o.dst (ifV b v)) H) : AOps P ops Q K (o :: r) e H := by
  simp only [AOps, hw, he]
  refine br (fun hb => ?_) fun hb => ?_
  · simp only [Bool.false_eq_true, if_false]
    subst hb
    exact bindO_intro (hv rfl) h
  · subst hb
    exact h
/-- The bool that was reckoned last, under a name of its own. -/
theorem aops_gen {P : Program} {ops : Array Oper} {Q : Post} {K : Env → AHeap → Prop} {r : List Oper} {l : List (Nat × Value)} {ds : List Deferred} {H : AHeap} {c : Bool} {t : Nat}
    (h : ∀ g : Bool, g = c → AOps P ops Q K r ⟨(t, .bool g) :: l, ds⟩ H) : AOps P ops Q K r ⟨(t, .bool c) :: l, ds⟩ H := h c rfl
theorem aops_gen2 {P : Program} {ops : Array Oper} {Q : Post} {K : Env → AHeap → Prop} {r : List Oper} {l : List (Nat × Value)} {ds : List Deferred} {H : AHeap} {b c : Bool} {t : Nat}
    (h : ∀ g : Bool, g = c → AOps P ops Q K r ⟨(t, ifV b (.bool g)) :: l, ds⟩ H) : AOps P ops Q K r ⟨(t, ifV b (.bool c)) :: l, ds⟩ H := h c rfl
theorem aops_yv {P : Program} {ops : Array Oper} {Q : Post} {K : Env → AHeap → Prop} {o : Oper} {r : List Oper} {e : Env} {H : AHeap} {v : Value} (hw : wantE ops e o = some true) (he : isEff o.op = false)
    (hv : yv P e H o.op = some v) (h : AOps P ops Q K r (e.put o.dst v) H) : AOps P ops Q K (o :: r) e H := by
  simp only [AOps, hw, he]
  rw [Br_true]
  simp only [Bool.false_eq_true, if_false]
  exact bindO_intro hv h
/-- An operation under a guard: an effect that leaves memory as it was (a call that only reckons). -/
theorem aops_guard_eff {P : Program} {ops : Array Oper} {Q : Post} {K : Env → AHeap → Prop} {o : Oper} {r : List Oper} {e : Env} {H : AHeap} {b : Bool} {v : Value} (hw : wantE ops e o = some b) (he : isEff o.op = true)
    (hv : b = true → est P e H o (fun v' H' => v' = v ∧ H' = H) (fun _ _ => False)) (h : AOps P ops Q K r (e.put o.dst (ifV b v)) H) : AOps P ops Q K (o :: r) e H := by
  simp only [AOps, hw, he]
  refine br (fun hb => ?_) fun hb => ?_
  · simp only [if_true]
    subst hb
    exact est_mono (fun v' H' hk => by obtain ⟨rfl, rfl⟩ := hk; exact h) (fun _ _ hk => hk.elim) (hv rfl)
  · subst hb
    exact h
def dstOk (n : Nat) (ops : Array Oper) : Bool := ops.toList.all fun o => match o.dst with
  | some d => d < n
  | none => true

section
variable {P : Program} {n : Nat} {ops : Array Oper} {Q : Post}

theorem dst_lt (h : dstOk n ops = true) {i : Nat} {o : Oper} (ho : ops[i]? = some o) : ∀ x, o.dst = some x → x < n := by
  intro x hx
  unfold dstOk at h
  rw [List.all_eq_true] at h
  have hm : o ∈ ops.toList := by rw [Array.mem_toList_iff]; exact Array.mem_of_getElem? ho
  have := h o hm
  rw [hx] at this
  simpa using this
theorem want_ok {e : Env} {a : Act} {o : Oper} {b : Bool} (hf : FRel n e a) (h : wantE ops e o = some b) : Region.wanted o (yielded ops a.tmps) = b := by
  unfold wantE at h
  unfold Region.wanted
  split at h
  · rename_i hg; cases h; rw [hg]
  · rename_i g want hg
    rw [hg]
    split at h
    · rename_i t ht
      split at h
      · rename_i v hc
        cases h
        have hl := hf.look t _ hc
        have hy : (yielded ops a.tmps g == some want) = wantV v want := by
          unfold yielded
          rw [ht]
          simp only [Option.bind_some]
          cases hq : a.tmps[t]? with
          | none =>
            simp [Array.getD_eq_getD_getElem?, hq, undef] at hl
            subst hl
            rfl
          | some u =>
            simp [Array.getD_eq_getD_getElem?, hq] at hl
            subst hl
            cases u <;> try rfl
            rename_i c
            cases c <;> cases want <;> rfl
        simpa using hy
      · cases h
    · cases h
theorem yv_ok {e : Env} {H : AHeap} {a : Act} {w : World} {o : Oper} {v : Value} (hf : FRel n e a) (hr : Rel H w) (h : yv P e H o.op = some v) : (execOp a.eval o).run P w = .ok (.value v) w := by
  unfold yv at h
  split at h
  · exact lv_ok hf hr h
  · exact pv_ok hf h w

theorem PQ.step {H H1 : AHeap} {w w1 : World} {ex : Exit} {a' : Act} {w' : World} (s : Step H w H1 w1) (h : PQ n Q H1 w1 ex a' w') : PQ n Q H w ex a' w' := by
  obtain ⟨e', H', hf, st, hq, hp⟩ := h
  exact ⟨e', H', hf, s.trans st, hq, hp⟩
theorem PQ.panic {H H' : AHeap} {w w' : World} {ch : List PanicEntry} {a a' : Act} {ds : List Deferred} (hf : FRel n ⟨[], ds⟩ a') (s : Step H w H' w') (h : Q (.panic ch) ⟨[], ds⟩ H') : PQ n Q H w (.panic ch) a' w' :=
  ⟨_, H', hf, s, h, fun _ => rfl⟩
theorem FRel.forget {e : Env} {a : Act} (h : FRel n e a) : FRel n ⟨[], e.ds⟩ a := ⟨h.size, h.ds, fun t v hv => by cases hv⟩

theorem wpOp_est {H0 H : AHeap} {w0 w : World} {e : Env} {a : Act} {i : Nat} {o : Oper} {K : Act → World → Prop} {Kv : Value → AHeap → Prop} (ho : ops[i]? = some o) (hd : dstOk n ops = true) (hf : FRel n e a) (s : Step H0 w0 H w)
    (hw : wantE ops e o = some true) (h : est P e H o Kv (fun ch H' => Q (.panic ch) ⟨[], e.ds⟩ H'))
    (hK : ∀ v H' w', Step H0 w0 H' w' → Kv v H' → K (a.put o.dst v) w') : wpOp P ops (PQ n Q H0 w0) i K a w := by
  unfold wpOp
  rw [ho]
  simp only [want_ok hf hw, if_true]
  refine .inl ?_
  have h1 := est_ok hf s.rel h
  unfold Oper.wp at h1 ⊢
  generalize (execOp a.eval o).run P w = r at h1 ⊢
  have kp : ∀ ch a' w', KPanic a H w (fun ch H' => Q (.panic ch) ⟨[], e.ds⟩ H') (.panic ch) a' w' → PQ n Q H0 w0 (.panic ch) a' w' := by
    intro ch a' w' hk
    obtain ⟨ch', H', he, rfl, st, hq⟩ := hk
    cases he
    exact ⟨_, H', hf.forget, s.trans st, hq, fun _ => rfl⟩
  have kk : ∀ a' w', KPost a o H w Kv a' w' → K a' w' := by
    intro a' w' hk
    obtain ⟨v, H', rfl, st, hv⟩ := hk
    exact hK v H' w' (s.trans st) hv
  cases r with
  | ok nx w' =>
    cases nx <;> simp only [Oper.upon] at h1 ⊢ <;> first
      | exact kk _ _ h1
      | exact Calls.mono h1 (fun en w'' he => by
          cases en with
          | returned v => exact kk _ _ he
          | panicked c => exact kp _ _ _ he
          | outgrown => obtain ⟨a₀, w₀, ch, H', hc, _⟩ := he; cases hc)
      | exact Rows.mono h1 (fun _ _ he => kk _ _ he)
      | exact h1.elim
  | halt x w' =>
    cases x <;> simp only [Oper.upon] at h1 ⊢ <;> first
      | exact kp _ _ _ h1
      | exact h1.elim
theorem wpOp_off {Q' : Exit → Act → World → Prop} {e : Env} {a : Act} {w : World} {i : Nat} {o : Oper} {K : Act → World → Prop} (ho : ops[i]? = some o) (hf : FRel n e a) (hw : wantE ops e o = some false) (hK : K (a.put o.dst undef) w) : wpOp P ops Q' i K a w := by
  unfold wpOp
  rw [ho]
  simp only [want_ok hf hw, Bool.false_eq_true, if_false]
  exact hK
theorem wpOp_yv {Q' : Exit → Act → World → Prop} {e : Env} {H : AHeap} {a : Act} {w : World} {i : Nat} {o : Oper} {v : Value} {K : Act → World → Prop} (ho : ops[i]? = some o) (hf : FRel n e a) (hr : Rel H w) (hw : wantE ops e o = some true)
    (hv : yv P e H o.op = some v) (hK : K (a.put o.dst v) w) : wpOp P ops Q' i K a w := by
  unfold wpOp
  rw [ho]
  simp only [want_ok hf hw, if_true]
  refine .inl ?_
  unfold Oper.wp
  rw [yv_ok hf hr hv]
  exact hK

theorem aops_ok (hd : dstOk n ops = true) {H0 : AHeap} {w0 : World} : ∀ (r : List Oper) (k : Nat), ops.toList.drop k = r → ∀ (e : Env) (H : AHeap) (a : Act) (w : World), FRel n e a → Step H0 w0 H w → AOps P ops Q (Q .normal) r e H →
    wpOps P ops (PQ n Q H0 w0) (List.range' k (ops.size - k)) a w
  | [], k, hk, e, H, a, w, hf, s, h => by
    have hk' : ops.size - k = 0 := by
      have := congrArg List.length hk
      simpa using this
    rw [hk']
    simp only [List.range'_zero, wpOps]
    exact ⟨e, H, hf, s, h, fun ⟨ch, hc⟩ => by cases hc⟩
  | o :: r, k, hk, e, H, a, w, hf, s, h => by
    have hlt : k < ops.size := by
      rcases Nat.lt_or_ge k ops.size with h1 | h1
      · exact h1
      · rw [List.drop_eq_nil_of_le (by simpa using h1)] at hk; cases hk
    have hok : ops[k]? = some o := by
      have : (ops.toList.drop k)[0]? = some o := by rw [hk]; rfl
      rw [List.getElem?_drop] at this
      simpa using this
    have hr : ops.toList.drop (k + 1) = r := by
      have := congrArg List.tail hk
      simpa using this
    have hsz : ops.size - k = (ops.size - (k + 1)) + 1 := by omega
    rw [hsz, List.range'_succ, wpOps_cons]
    have hdst := dst_lt hd hok
    simp only [AOps] at h
    obtain ⟨b, hw, h1, h2⟩ := h
    cases b with
    | true =>
      have h := h1 rfl
      split at h
      · refine wpOp_est hok hd hf s hw h fun v H' w' st hv => ?_
        exact aops_ok hd r (k + 1) hr _ H' _ w' (hf.put hdst v) st hv
      · obtain ⟨v, hv, h⟩ := h
        refine wpOp_yv hok hf s.rel hw hv ?_
        exact aops_ok hd r (k + 1) hr _ H _ w (hf.put hdst v) s h
    | false =>
      refine wpOp_off hok hf hw ?_
      exact aops_ok hd r (k + 1) hr _ H _ w (hf.put hdst undef) s (h2 rfl)

theorem awp_region {id : Nat} {e : Env} {H : AHeap} (hd : dstOk n ops = true) (h : AOps P ops Q (Q .normal) ops.toList e H) : AWp P n (.region id ops false) Q e H := by
  intro a w hf hr
  refine wp_region ?_
  have := aops_ok (P := P) (Q := Q) hd ops.toList 0 rfl e H a w hf (Step.refl hr) h
  rw [List.range_eq_range']
  simpa using this

/-! ### a region that draws its order -/
theorem wpAnyG_true {Q' : Exit → Act → World → Prop} (i : Nat) : ∀ (fuel : Nat) (W : List (Nat × (World → Prop))) (listed : Array Bool) (a : Act) (w : World), wpAnyG P ops Q' W fuel listed a w → wpAnyG P ops Q' ((i, fun _ => True) :: W) fuel listed a w := by
  have key : ∀ (fuel : Nat) (W W' : List (Nat × (World → Prop))) (listed : Array Bool) (a : Act) (w : World), (∀ p ∈ W', p ∈ W ∨ p.2 = fun _ => True) → wpAnyG P ops Q' W fuel listed a w → wpAnyG P ops Q' W' fuel listed a w := by
    intro fuel
    induction fuel with
    | zero => intro W W' listed a w _ h; exact h
    | succ fuel ih =>
      intro W W' listed a w hs h
      refine ⟨h.1, fun j hj => wpOp_mono (fun a' w' h' => ?_) (h.2 j hj)⟩
      have hsub : ∀ p ∈ fltW ops j W', p ∈ fltW ops j W ∨ p.2 = fun _ => True := fun p hp => by
        obtain ⟨h1, h2⟩ := List.mem_filter.1 hp
        rcases hs p h1 with h3 | h3
        · exact .inl (List.mem_filter.2 ⟨h3, h2⟩)
        · exact .inr h3
      refine ⟨fun p hp => ?_, ih _ _ _ _ _ hsub h'.2⟩
      rcases hsub p hp with h3 | h3
      · exact h'.1 p h3
      · rw [h3]; trivial
  intro fuel W listed a w h
  refine key fuel W _ listed a w (fun p hp => ?_) h
  rcases List.mem_cons.1 hp with rfl | hp
  · exact .inr rfl
  · exact .inl hp
abbrev Watch := Op × Env × Value
def AWd (P : Program) (ops : Array Oper) (Q : Post) (K : Env → AHeap → List (Nat × Watch) → Prop) : List Nat → Env → AHeap → List (Nat × Watch) → Prop
  | [], e, H, W => K e H W
  | i :: r, e, H, W => bindO ops[i]? fun o => Br (wantE ops e o)
      (if isEff o.op then est P e H o (fun v H' => (∀ p ∈ fltW ops i W, lv P p.2.2.1 H' p.2.1 = some p.2.2.2) ∧ AWd P ops Q K r (e.put o.dst v) H' (fltW ops i W)) (fun ch H' => Q (.panic ch) ⟨[], e.ds⟩ H')
      else bindO (yv P e H o.op) fun v => AWd P ops Q K r (e.put o.dst v) H (if isLoad o.op then (i, o.op, e, v) :: W else W))
      (AWd P ops Q K r (e.put o.dst undef) H W)
theorem awd_append {K : Env → AHeap → List (Nat × Watch) → Prop} (l2 : List Nat) : ∀ (l1 : List Nat), AWd P ops Q K (l1 ++ l2) = AWd P ops Q (AWd P ops Q K l2) l1
  | [] => rfl
  | o :: r => by
    funext e H W
    simp only [List.cons_append, AWd, awd_append l2 r]
theorem awd_split {K : Env → AHeap → List (Nat × Watch) → Prop} {l : List Nat} {e : Env} {H : AHeap} {W : List (Nat × Watch)} (m : Nat)
    (h : ∀ K' : Env → AHeap → List (Nat × Watch) → Prop, (∀ e H W, AWd P ops Q K (l.drop m) e H W → K' e H W) → AWd P ops Q K' (l.take m) e H W) : AWd P ops Q K l e H W := by
  have := h _ fun _ _ _ h => h
  rw [← awd_append, List.take_append_drop] at this
  exact this
theorem awd_gen {P : Program} {ops : Array Oper} {Q : Post} {K : Env → AHeap → List (Nat × (Op × Env × Value)) → Prop} {r : List Nat} {l : List (Nat × Value)} {ds : List Deferred} {H : AHeap} {W : List (Nat × (Op × Env × Value))} {c : Bool} {t : Nat}
    (h : ∀ g : Bool, g = c → AWd P ops Q K r ⟨(t, .bool g) :: l, ds⟩ H W) : AWd P ops Q K r ⟨(t, .bool c) :: l, ds⟩ H W := h c rfl
/-- The one order is good: at each place the number is ready; what only reckons or loads may be taken first there; an effect is the only one that is ready. -/
def orderGo (ops : Array Oper) : List Nat → Array Bool → Bool
  | [], listed => Region.ready .any ops listed == []
  | i :: r, listed =>
    (match ops[i]? with
     | some o => if isEff o.op then Region.ready .any ops listed == [i] else (Region.ready .any ops listed).contains i && Region.free .any ops listed i
     | none => false) && orderGo ops r (listed.setIfInBounds i true)
def orderOk (n : Nat) (ops : Array Oper) (order : List Nat) : Bool :=
  dstOk n ops && Region.noSelect ops && order.length == ops.size && orderGo ops order (Array.replicate ops.size false)

def VW (P : Program) (p : Watch) (w : World) : Prop := ∃ H, Rel H w ∧ lv P p.2.1 H p.1 = some p.2.2
def toV (P : Program) (W : List (Nat × Watch)) : List (Nat × (World → Prop)) := W.map fun p => (p.1, VW P p.2)
theorem toV_flt (j : Nat) (W : List (Nat × Watch)) : fltW ops j (toV P W) = toV P (fltW ops j W) := by
  unfold fltW toV
  rw [List.filter_map]
  rfl
theorem wpAnyG_done {W : List (Nat × (World → Prop))} {Q' : Exit → Act → World → Prop} {listed : Array Bool} {a : Act} {w : World} (hr : Region.ready .any ops listed = []) (h : Q' .normal a w) : ∀ fuel, wpAnyG P ops Q' W fuel listed a w
  | 0 => ⟨hr, h⟩
  | _ + 1 => ⟨fun _ => h, by rw [hr]; simp⟩

theorem awd_ok (hd : dstOk n ops = true) (hsel : Region.noSelect ops = true) {H0 : AHeap} {w0 : World} : ∀ (r : List Nat) (fuel : Nat) (listed : Array Bool) (e : Env) (H : AHeap) (W : List (Nat × Watch)) (a : Act) (w : World),
    orderGo ops r listed = true → r.length ≤ fuel → FRel n e a → Step H0 w0 H w → (∀ p ∈ W, VW P p.2 w) → AWd P ops Q (fun e H _ => Q .normal e H) r e H W → wpAnyG P ops (PQ n Q H0 w0) (toV P W) fuel listed a w
  | [], fuel, listed, e, H, W, a, w, ho, _, hf, s, hW, h => by
    simp only [orderGo, beq_iff_eq] at ho
    exact wpAnyG_done ho ⟨e, H, hf, s, h, fun ⟨ch, hc⟩ => by cases hc⟩ fuel
  | i :: r, 0, listed, e, H, W, a, w, ho, hl, hf, s, hW, h => by simp at hl
  | i :: r, fuel + 1, listed, e, H, W, a, w, ho, hl, hf, s, hW, h => by
    have hl' : r.length ≤ fuel := by simpa using hl
    simp only [orderGo, Bool.and_eq_true] at ho
    obtain ⟨ho1, ho2⟩ := ho
    simp only [AWd] at h
    obtain ⟨o, hoi, h⟩ := h
    · rw [hoi] at ho1
      simp only at ho1
      have hdst := dst_lt hd hoi
      have hQ : ∀ c (a : Act) w u, PQ n Q H0 w0 (.panic c) (a.put o.dst u) w → PQ n Q H0 w0 (.panic c) a w := by
        intro c a w u hp
        obtain ⟨e', H', hf', st, hq, hpe⟩ := hp
        have hnil := hpe ⟨c, rfl⟩
        refine ⟨e', H', ⟨?_, ?_, fun t v hv => by rw [hnil] at hv; cases hv⟩, st, hq, hpe⟩
        · have := hf'.size; cases hdd : o.dst <;> simpa [Act.put, hdd] using this
        · have := hf'.ds; cases hdd : o.dst <;> simpa [Act.put, hdd] using this
      have hWV : ∀ p ∈ toV P W, p.2 w := by
        intro p hp
        obtain ⟨q, hq, rfl⟩ := List.mem_map.1 hp
        exact hW q hq
      obtain ⟨b, hw, ht, hfal⟩ := h
      by_cases heff : isEff o.op = true
      · rw [if_pos heff] at ho1
        simp only [beq_iff_eq] at ho1
        refine ⟨fun h0 => (by rw [h0] at ho1; cases ho1), fun j hj => ?_⟩
        rw [ho1] at hj
        obtain rfl : j = i := by simpa using hj
        cases b with
        | true =>
          have h := ht rfl
          simp only [heff, if_true] at h
          refine wpOp_est hoi hd hf s hw h fun v H' w' st hv => ?_
          obtain ⟨hv1, hv2⟩ := hv
          have hW' : ∀ p ∈ fltW ops j W, VW P p.2 w' := fun p hp => ⟨H', st.rel, hv1 p hp⟩
          refine ⟨?_, ?_⟩
          · intro p hp
            rw [toV_flt] at hp
            obtain ⟨q, hq, rfl⟩ := List.mem_map.1 hp
            exact hW' q hq
          · rw [toV_flt]
            exact awd_ok hd hsel r fuel _ _ H' _ _ w' ho2 hl' (hf.put hdst v) st hW' hv2
        | false =>
          refine wpOp_off hoi hf hw ⟨?_, ?_⟩
          · intro p hp
            exact hWV p (List.mem_filter.1 hp).1
          · rw [toV_flt]
            have hsub : ∀ p ∈ toV P (fltW ops j W), p ∈ toV P W := fun p hp => by
              obtain ⟨q, hq, rfl⟩ := List.mem_map.1 hp
              exact List.mem_map.2 ⟨q, (List.mem_filter.1 hq).1, rfl⟩
            exact wpAnyG_less _ _ _ _ _ _ hsub (awd_ok hd hsel r fuel _ _ H W _ w ho2 hl' (hf.put hdst undef) s hW (hfal rfl))
      · have heff' : isEff o.op = false := by simpa using heff
        rw [if_neg heff, Bool.and_eq_true] at ho1
        obtain ⟨hready, hfree⟩ := ho1
        have hready' : i ∈ Region.ready .any ops listed := by simpa using hready
        have hfirst := fun (v : Value) (V : World → Prop) (hy : YieldsIf P ops V o v a) (hV : V w) (H1 : wpAnyG P ops (PQ n Q H0 w0) ((i, V) :: toV P W) fuel (listed.setIfInBounds i true) (a.put o.dst v) w) =>
          wpAnyG_first hoi (Region.noSelect_spec hsel) (fun c a w => hQ c a w v) fuel (toV P W) listed a w (Region.free_spec hoi hfree) hready' hy hV hWV H1
        cases b with
        | true =>
          have h := ht rfl
          simp only [heff', Bool.false_eq_true, if_false] at h
          obtain ⟨v, hv, h⟩ := h
          by_cases hld : isLoad o.op = true
          · rw [if_pos hld] at h
            have hlv : lv P e H o.op = some v := by unfold yv at hv; rw [if_pos hld] at hv; exact hv
            refine hfirst v (VW P (o.op, e, v)) (.inl ⟨want_ok hf hw, fun w' hw' => ?_⟩) ⟨H, s.rel, hlv⟩ ?_
            · obtain ⟨H', hr', hl2⟩ := hw'
              exact lv_ok hf hr' hl2
            · exact awd_ok hd hsel r fuel _ _ H ((i, o.op, e, v) :: W) _ w ho2 hl' (hf.put hdst v) s (by
                intro p hp
                rcases List.mem_cons.1 hp with rfl | hp
                · exact ⟨H, s.rel, hlv⟩
                · exact hW p hp) h
          · rw [if_neg hld] at h
            have hpv : pv P e o.op = some v := by unfold yv at hv; rw [if_neg hld] at hv; exact hv
            refine hfirst v (fun _ => True) (.inl ⟨want_ok hf hw, fun w' _ => pv_ok hf hpv w'⟩) trivial ?_
            have h2 := awd_ok hd hsel r fuel (listed.setIfInBounds i true) _ H W _ w ho2 hl' (hf.put hdst v) s hW h
            exact wpAnyG_true i _ _ _ _ _ h2
        | false =>
          refine hfirst undef (fun _ => True) (.inr ⟨want_ok hf hw, rfl⟩) trivial ?_
          have h2 := awd_ok hd hsel r fuel (listed.setIfInBounds i true) _ H W _ w ho2 hl' (hf.put hdst undef) s hW (hfal rfl)
          exact wpAnyG_true i _ _ _ _ _ h2

theorem awp_draw {id : Nat} {e : Env} {H : AHeap} (hm : P.follows .mixedOrders = true) (order : List Nat) (ho : orderOk n ops order = true) (h : AWd P ops Q (fun e H _ => Q .normal e H) order e H []) : AWp P n (.region id ops true) Q e H := by
  intro a w hf hr
  simp only [orderOk, Bool.and_eq_true, beq_iff_eq] at ho
  obtain ⟨⟨⟨hd, hs⟩, hl⟩, hg⟩ := ho
  refine wp_region_any hm ?_
  have hr' : Rel H { w with drawn := w.drawn + 1 } := ⟨hr.le, hr.lt, hr.real⟩
  have s' : Step H w H { w with drawn := w.drawn + 1 } := ⟨hr', rfl, rfl, rfl, Nat.le_refl _, fun _ h => .inl h, fun _ _ _ => rfl⟩
  exact wpAny_of_G _ _ _ _ _ (awd_ok hd hs order ops.size _ e H [] a _ hg (by omega) hf s' (by simp) h)

theorem awd_of_aops {K : Env → AHeap → Prop} : ∀ (idx : List Nat) (l : List Oper) (e : Env) (H : AHeap) (W : List (Nat × Watch)), idx.map (fun i => ops[i]?) = l.map some → (∀ o ∈ l, isEff o.op = false) → AOps P ops Q K l e H → AWd P ops Q (fun e H _ => K e H) idx e H W
  | [], [], e, H, W, _, _, h => h
  | [], _ :: _, _, _, _, hm, _, _ => by simp at hm
  | _ :: _, [], _, _, _, hm, _, _ => by simp at hm
  | i :: r, o :: l, e, H, W, hm, hp, h => by
    simp only [List.map_cons, List.cons.injEq] at hm
    have he := hp o (List.mem_cons_self ..)
    have hp' : ∀ o ∈ l, isEff o.op = false := fun o ho => hp o (List.mem_cons_of_mem _ ho)
    simp only [AOps, he, Bool.false_eq_true, if_false] at h
    obtain ⟨b, hw, h1, h2⟩ := h
    refine bindO_intro hm.1 ?_
    refine ⟨b, hw, fun hb => ?_, fun hb => ?_⟩
    · simp only [he, Bool.false_eq_true, if_false]
      obtain ⟨v, hv, hk⟩ := h1 hb
      exact bindO_intro hv (awd_of_aops r l _ _ _ hm.2 hp' hk)
    · exact awd_of_aops r l _ _ _ hm.2 hp' (h2 hb)
/-- A drawn region that has no effect: the text's order will do. -/
theorem awp_draw_pure {id : Nat} {e : Env} {H : AHeap} (hm : P.follows .mixedOrders = true) (ho : orderOk n ops (List.range ops.size) = true) (hp : ops.toList.all (fun o => !isEff o.op) = true) (h : AOps P ops Q (Q .normal) ops.toList e H) : AWp P n (.region id ops true) Q e H := by
  refine awp_draw hm (List.range ops.size) ho (awd_of_aops _ ops.toList e H [] ?_ (fun o ho => by simpa using List.all_eq_true.1 hp o ho) h)
  apply List.ext_getElem?
  intro i
  simp only [List.getElem?_map, Array.getElem?_toList]
  by_cases hi : i < ops.size
  · simp [List.getElem?_range hi, hi]
  · rw [List.getElem?_eq_none (by simpa using hi), Array.getElem?_eq_none (by omega)]; rfl

theorem awd_guard {K : Env → AHeap → List (Nat × Watch) → Prop} {i : Nat} {o : Oper} {r : List Nat} {e : Env} {H : AHeap} {W : List (Nat × Watch)} {b : Bool} {v : Value} (ho : ops[i]? = some o) (hw : wantE ops e o = some b) (he : isEff o.op = false) (hl : isLoad o.op = false)
    (hv : b = true → yv P e H o.op = some v) (h : AWd P ops Q K r (e.put o.dst (ifV b v)) H W) : AWd P ops Q K (i :: r) e H W := by
  refine bindO_intro ho ?_
  rw [hw]
  simp only [he, hl, Bool.false_eq_true, if_false]
  refine br (fun hb => ?_) fun hb => ?_
  · subst hb
    exact bindO_intro (hv rfl) h
  · subst hb
    exact h

theorem awd_yv {K : Env → AHeap → List (Nat × Watch) → Prop} {i : Nat} {o : Oper} {r : List Nat} {e : Env} {H : AHeap} {W : List (Nat × Watch)} {v : Value} (ho : ops[i]? = some o) (hw : wantE ops e o = some true) (he : isEff o.op = false) (hl : isLoad o.op = false)
    (hv : yv P e H o.op = some v) (h : AWd P ops Q K r (e.put o.dst v) H W) : AWd P ops Q K (i :: r) e H W := by
  refine bindO_intro ho ?_
  rw [hw, Br_true]
  simp only [he, hl, Bool.false_eq_true, if_false]
  exact bindO_intro hv h
end
end Go.Proofs.YteklhgmoniaieaaAh
