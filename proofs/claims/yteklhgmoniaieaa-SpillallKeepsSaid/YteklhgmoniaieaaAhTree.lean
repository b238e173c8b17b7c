/- Drawn regions in which two effects may be ready at once: both orders are walked. -/
import Derived.Test.YteklhgmoniaieaaAhStep
set_option linter.unusedVariables false
set_option linter.unusedSimpArgs false
namespace Go.Proofs.YteklhgmoniaieaaAh
/-- An order, with forks. -/
inductive OT where
  | nil
  | op (i : Nat) (t : OT)
  | alt (i : Nat) (t : OT) (j : Nat) (u : OT)
section
variable {P : Program} {n : Nat} {ops : Array Oper} {Q : Post}
/-- One operation, and on. -/
def AWs (P : Program) (ops : Array Oper) (Q : Post) (i : Nat) (R : Env → AHeap → List (Nat × Watch) → Prop) (e : Env) (H : AHeap) (W : List (Nat × Watch)) : Prop :=
  bindO ops[i]? fun o => Br (wantE ops e o)
      (if isEff o.op then est P e H o (fun v H' => (∀ p ∈ fltW ops i W, lv P p.2.2.1 H' p.2.1 = some p.2.2.2) ∧ R (e.put o.dst v) H' (fltW ops i W)) (fun ch H' => Q (.panic ch) ⟨[], e.ds⟩ H')
      else bindO (yv P e H o.op) fun v => R (e.put o.dst v) H (if isLoad o.op then (i, o.op, e, v) :: W else W))
      (R (e.put o.dst undef) H W)
def AWt (P : Program) (ops : Array Oper) (Q : Post) (K : Env → AHeap → List (Nat × Watch) → Prop) : OT → Env → AHeap → List (Nat × Watch) → Prop
  | .nil => K
  | .op i t => AWs P ops Q i (AWt P ops Q K t)
  | .alt i t j u => fun e H W => AWs P ops Q i (AWt P ops Q K t) e H W ∧ AWs P ops Q j (AWt P ops Q K u) e H W
theorem awt_op {K : Env → AHeap → List (Nat × Watch) → Prop} {i : Nat} {t : OT} {e : Env} {H : AHeap} {W : List (Nat × Watch)} (h : AWd P ops Q (AWt P ops Q K t) [i] e H W) : AWt P ops Q K (.op i t) e H W := h
theorem awt_nil {K : Env → AHeap → List (Nat × Watch) → Prop} {e : Env} {H : AHeap} {W : List (Nat × Watch)} (h : K e H W) : AWt P ops Q K .nil e H W := h
theorem awt_alt {K : Env → AHeap → List (Nat × Watch) → Prop} {i j : Nat} {t u : OT} {e : Env} {H : AHeap} {W : List (Nat × Watch)} (h1 : AWd P ops Q (AWt P ops Q K t) [i] e H W) (h2 : AWd P ops Q (AWt P ops Q K u) [j] e H W) : AWt P ops Q K (.alt i t j u) e H W := ⟨h1, h2⟩
def effAt (ops : Array Oper) (i : Nat) : Bool := match ops[i]? with
  | some o => isEff o.op
  | none => false
def OT.len : OT → Nat
  | .nil => 0
  | .op _ t => t.len + 1
  | .alt _ t _ u => max t.len u.len + 1
def orderT (ops : Array Oper) : OT → Array Bool → Bool
  | .nil, listed => Region.ready .any ops listed == []
  | .op i t, listed =>
    (match ops[i]? with
     | some o => if isEff o.op then Region.ready .any ops listed == [i] else (Region.ready .any ops listed).contains i && Region.free .any ops listed i
     | none => false) && orderT ops t (listed.setIfInBounds i true)
  | .alt i t j u, listed => Region.ready .any ops listed == [i, j] && effAt ops i && effAt ops j && orderT ops t (listed.setIfInBounds i true) && orderT ops u (listed.setIfInBounds j true)
def orderTOk (n : Nat) (ops : Array Oper) (t : OT) : Bool :=
  dstOk n ops && Region.noSelect ops && decide (t.len ≤ ops.size) && orderT ops t (Array.replicate ops.size false)

theorem aws_eff (hd : dstOk n ops = true) {H0 : AHeap} {w0 : World} {R : Env → AHeap → List (Nat × Watch) → Prop} {i fuel : Nat} {listed : Array Bool} {e : Env} {H : AHeap} {W : List (Nat × Watch)} {a : Act} {w : World} (he : effAt ops i = true)
    (hf : FRel n e a) (s : Step H0 w0 H w) (hW : ∀ p ∈ W, VW P p.2 w) (h : AWs P ops Q i R e H W)
    (ih : ∀ e H W (a : Act) (w : World), FRel n e a → Step H0 w0 H w → (∀ p ∈ W, VW P p.2 w) → R e H W → wpAnyG P ops (PQ n Q H0 w0) (toV P W) fuel (listed.setIfInBounds i true) a w) :
    wpOp P ops (PQ n Q H0 w0) i (fun a' w' => (∀ p ∈ fltW ops i (toV P W), p.2 w') ∧ wpAnyG P ops (PQ n Q H0 w0) (fltW ops i (toV P W)) fuel (listed.setIfInBounds i true) a' w') a w := by
  obtain ⟨o, hoi, h⟩ := h
  have heff : isEff o.op = true := by unfold effAt at he; rw [hoi] at he; exact he
  have hdst := dst_lt hd hoi
  have hWV : ∀ p ∈ toV P W, p.2 w := by
    intro p hp
    obtain ⟨q, hq, rfl⟩ := List.mem_map.1 hp
    exact hW q hq
  obtain ⟨b, hw, ht, hfal⟩ := h
  cases b with
  | true =>
    have h := ht rfl
    simp only [heff, if_true] at h
    refine wpOp_est hoi hd hf s hw h fun v H' w' st hv => ?_
    obtain ⟨hv1, hv2⟩ := hv
    have hW' : ∀ p ∈ fltW ops i W, VW P p.2 w' := fun p hp => ⟨H', st.rel, hv1 p hp⟩
    refine ⟨?_, ?_⟩
    · intro p hp
      rw [toV_flt] at hp
      obtain ⟨q, hq, rfl⟩ := List.mem_map.1 hp
      exact hW' q hq
    · rw [toV_flt]
      exact ih _ _ _ _ _ (hf.put hdst v) st hW' hv2
  | false =>
    refine wpOp_off hoi hf hw ⟨?_, ?_⟩
    · intro p hp
      exact hWV p (List.mem_filter.1 hp).1
    · rw [toV_flt]
      have hsub : ∀ p ∈ toV P (fltW ops i W), p ∈ toV P W := fun p hp => by
        obtain ⟨q, hq, rfl⟩ := List.mem_map.1 hp
        exact List.mem_map.2 ⟨q, (List.mem_filter.1 hq).1, rfl⟩
      exact wpAnyG_less _ _ _ _ _ _ hsub (ih _ _ _ _ _ (hf.put hdst undef) s hW (hfal rfl))

theorem awt_ok (hd : dstOk n ops = true) (hsel : Region.noSelect ops = true) {H0 : AHeap} {w0 : World} : ∀ (t : OT) (fuel : Nat) (listed : Array Bool) (e : Env) (H : AHeap) (W : List (Nat × Watch)) (a : Act) (w : World),
    orderT ops t listed = true → t.len ≤ fuel → FRel n e a → Step H0 w0 H w → (∀ p ∈ W, VW P p.2 w) → AWt P ops Q (fun e H _ => Q .normal e H) t e H W → wpAnyG P ops (PQ n Q H0 w0) (toV P W) fuel listed a w
  | .nil, fuel, listed, e, H, W, a, w, ho, _, hf, s, hW, h => by
    simp only [orderT, beq_iff_eq] at ho
    exact wpAnyG_done ho ⟨e, H, hf, s, h, fun ⟨ch, hc⟩ => by cases hc⟩ fuel
  | .op i t, 0, listed, e, H, W, a, w, ho, hl, hf, s, hW, h => by simp [OT.len] at hl
  | .alt i t j u, 0, listed, e, H, W, a, w, ho, hl, hf, s, hW, h => by simp [OT.len] at hl
  | .alt i t j u, fuel + 1, listed, e, H, W, a, w, ho, hl, hf, s, hW, h => by
    simp only [orderT, Bool.and_eq_true, beq_iff_eq] at ho
    obtain ⟨⟨⟨⟨hr, hei⟩, hej⟩, hti⟩, htj⟩ := ho
    have hl1 : t.len ≤ fuel ∧ u.len ≤ fuel := by simp only [OT.len] at hl; omega
    refine ⟨fun h0 => (by rw [h0] at hr; cases hr), fun k hk => ?_⟩
    rw [hr] at hk
    rcases List.mem_cons.1 hk with rfl | hk
    · exact aws_eff hd hei hf s hW h.1 fun e H W a w hf s hW h => awt_ok hd hsel t fuel _ e H W a w hti hl1.1 hf s hW h
    · obtain rfl : k = j := by simpa using hk
      exact aws_eff hd hej hf s hW h.2 fun e H W a w hf s hW h => awt_ok hd hsel u fuel _ e H W a w htj hl1.2 hf s hW h
  | .op i t, fuel + 1, listed, e, H, W, a, w, ho, hl, hf, s, hW, h => by
    have hl' : t.len ≤ fuel := by simpa [OT.len] using hl
    simp only [orderT, Bool.and_eq_true] at ho
    obtain ⟨ho1, ho2⟩ := ho
    have ih := fun (e : Env) (H : AHeap) (W : List (Nat × Watch)) (a : Act) (w : World) (hf : FRel n e a) (s : Step H0 w0 H w) (hW : ∀ p ∈ W, VW P p.2 w) (h : AWt P ops Q (fun e H _ => Q .normal e H) t e H W) => awt_ok hd hsel t fuel _ e H W a w ho2 hl' hf s hW h
    simp only [AWt] at h
    obtain ⟨o, hoi, h⟩ := id h
    rename_i hAW
    rw [hoi] at ho1
    simp only at ho1
    have hdst := dst_lt hd hoi
    have hQ : ∀ c (a : Act) w u, PQ n Q H0 w0 (.panic c) (a.put o.dst u) w → PQ n Q H0 w0 (.panic c) a w := by
      intro c a w u hp
      obtain ⟨e', H', hf', st, hq, hpe⟩ := hp
      have hnil := hpe ⟨c, rfl⟩
      refine ⟨e', H', ⟨?_, ?_, fun t v hv => by rw [hnil] at hv; cases hv⟩, st, hq, hpe⟩
      · have := hf'.size; cases hdd : o.dst <;> simpa [Act.put, hdd] using this
      · have := hf'.ds; cases hdd : o.dst <;> simpa [Act.put, hdd] using this
    have hWV : ∀ p ∈ toV P W, p.2 w := by
      intro p hp
      obtain ⟨q, hq, rfl⟩ := List.mem_map.1 hp
      exact hW q hq
    by_cases heff : isEff o.op = true
    · rw [if_pos heff] at ho1
      simp only [beq_iff_eq] at ho1
      refine ⟨fun h0 => (by rw [h0] at ho1; cases ho1), fun j hj => ?_⟩
      rw [ho1] at hj
      obtain rfl : j = i := by simpa using hj
      exact aws_eff hd (by unfold effAt; rw [hoi]; exact heff) hf s hW hAW ih
    · obtain ⟨b, hw, ht, hfal⟩ := h
      have heff' : isEff o.op = false := by simpa using heff
      rw [if_neg heff, Bool.and_eq_true] at ho1
      obtain ⟨hready, hfree⟩ := ho1
      have hready' : i ∈ Region.ready .any ops listed := by simpa using hready
      have hfirst := fun (v : Value) (V : World → Prop) (hy : YieldsIf P ops V o v a) (hV : V w) (H1 : wpAnyG P ops (PQ n Q H0 w0) ((i, V) :: toV P W) fuel (listed.setIfInBounds i true) (a.put o.dst v) w) =>
        wpAnyG_first hoi (Region.noSelect_spec hsel) (fun c a w => hQ c a w v) fuel (toV P W) listed a w (Region.free_spec hoi hfree) hready' hy hV hWV H1
      cases b with
      | true =>
        have h := ht rfl
        simp only [heff', Bool.false_eq_true, if_false] at h
        obtain ⟨v, hv, h⟩ := h
        by_cases hld : isLoad o.op = true
        · rw [if_pos hld] at h
          have hlv : lv P e H o.op = some v := by unfold yv at hv; rw [if_pos hld] at hv; exact hv
          refine hfirst v (VW P (o.op, e, v)) (.inl ⟨want_ok hf hw, fun w' hw' => ?_⟩) ⟨H, s.rel, hlv⟩ ?_
          · obtain ⟨H', hr', hl2⟩ := hw'
            exact lv_ok hf hr' hl2
          · exact ih _ H ((i, o.op, e, v) :: W) _ w (hf.put hdst v) s (by
              intro p hp
              rcases List.mem_cons.1 hp with rfl | hp
              · exact ⟨H, s.rel, hlv⟩
              · exact hW p hp) h
        · rw [if_neg hld] at h
          have hpv : pv P e o.op = some v := by unfold yv at hv; rw [if_neg hld] at hv; exact hv
          refine hfirst v (fun _ => True) (.inl ⟨want_ok hf hw, fun w' _ => pv_ok hf hpv w'⟩) trivial ?_
          have h2 := ih _ H W _ w (hf.put hdst v) s hW h
          exact wpAnyG_true i _ _ _ _ _ h2
      | false =>
        refine hfirst undef (fun _ => True) (.inr ⟨want_ok hf hw, rfl⟩) trivial ?_
        have h2 := ih _ H W _ w (hf.put hdst undef) s hW (hfal rfl)
        exact wpAnyG_true i _ _ _ _ _ h2
theorem awp_drawT {id : Nat} {e : Env} {H : AHeap} (hm : P.follows .mixedOrders = true) (t : OT) (ho : orderTOk n ops t = true) (h : AWt P ops Q (fun e H _ => Q .normal e H) t e H []) : AWp P n (.region id ops true) Q e H := by
  intro a w hf hr
  simp only [orderTOk, Bool.and_eq_true, decide_eq_true_eq] at ho
  obtain ⟨⟨⟨hd, hs⟩, hl⟩, hg⟩ := ho
  refine wp_region_any hm ?_
  have hr' : Rel H { w with drawn := w.drawn + 1 } := ⟨hr.le, hr.lt, hr.real⟩
  have s' : Step H w H { w with drawn := w.drawn + 1 } := ⟨hr', rfl, rfl, rfl, Nat.le_refl _, fun _ h => .inl h, fun _ _ _ => rfl⟩
  exact wpAny_of_G _ _ _ _ _ (awt_ok hd hs t ops.size _ e H [] a _ hg hl hf s' (by simp) h)
end
end Go.Proofs.YteklhgmoniaieaaAh
