/- One operation at a time. -/
import Derived.Test.YteklhgmoniaieaaAhFn
set_option linter.unusedVariables false
set_option linter.unusedSimpArgs false
namespace Go.Proofs.YteklhgmoniaieaaAh
section
variable {P : Program} {ops : Array Oper} {Q : Post} {K : Env → AHeap → Prop} {o : Oper} {r : List Oper} {l : List (Nat × Value)} {ds : List Deferred} {H : AHeap} {d : Nat} {v : Value}

theorem wantE_none (hg : o.guard = none) {e : Env} : wantE ops e o = some true := by unfold wantE; rw [hg]
theorem put_some {e : Env} (hd : o.dst = some d) : e.put o.dst v = ⟨(d, v) :: e.l, e.ds⟩ := by rw [hd]; rfl
theorem aops_nil {e : Env} (h : K e H) : AOps P ops Q K [] e H := h
/-- What only reckons or loads. -/
theorem aops_op (hg : o.guard = none) (he : isEff o.op = false) (hd : o.dst = some d) (hv : yv P ⟨l, ds⟩ H o.op = some v) (h : AOps P ops Q K r ⟨(d, v) :: l, ds⟩ H) : AOps P ops Q K (o :: r) ⟨l, ds⟩ H :=
  aops_yv (wantE_none hg) he hv (by rw [put_some hd]; exact h)
theorem aops_gd {b : Bool} (hw : wantE ops ⟨l, ds⟩ o = some b) (he : isEff o.op = false) (hd : o.dst = some d) (hv : b = true → yv P ⟨l, ds⟩ H o.op = some v) (h : AOps P ops Q K r ⟨(d, ifV b v) :: l, ds⟩ H) : AOps P ops Q K (o :: r) ⟨l, ds⟩ H :=
  aops_guard hw he hv (by rw [put_some hd]; exact h)
/-- An effect. -/
theorem aops_eff (hg : o.guard = none) (he : isEff o.op = true) (h : est P ⟨l, ds⟩ H o (fun v H' => AOps P ops Q K r ((⟨l, ds⟩ : Env).put o.dst v) H') (fun ch H' => Q (.panic ch) ⟨[], ds⟩ H')) : AOps P ops Q K (o :: r) ⟨l, ds⟩ H := by
  simp only [AOps, wantE_none hg, he]
  rw [Br_true]
  simpa using h
theorem aops_alloc {t : TypeId} {z : List Value} {m : Nat} (hg : o.guard = none) (hop : o.op = .alloc t) (hd : o.dst = some d) (hz : zc P t = some z) (hm : z.length = m) (h : ∀ b, H.next ≤ b → AOps P ops Q K r ⟨(d, .pointer (some ⟨b, 0, none⟩)) :: l, ds⟩ (H.new b (.cells z t m))) : AOps P ops Q K (o :: r) ⟨l, ds⟩ H := by
  refine aops_eff hg (by rw [hop]; rfl) ?_
  unfold est
  simp only [hop, hz]
  subst hm
  intro b hb
  rw [put_some hd]; exact h b hb
theorem aops_box {t : TypeId} {x : Operand} {c : List Value} {m : Nat} (hg : o.guard = none) (hop : o.op = .box t x) (hd : o.dst = some d) (hx : (⟨l, ds⟩ : Env).eval x = some v) (hc : v.cells.toList = c) (hm : c.length = m) (h : ∀ b, H.next ≤ b → AOps P ops Q K r ⟨(d, .pointer (some ⟨b, 0, none⟩)) :: l, ds⟩ (H.new b (.cells c t m))) : AOps P ops Q K (o :: r) ⟨l, ds⟩ H := by
  refine aops_eff hg (by rw [hop]; rfl) ?_
  unfold est
  simp only [hop, hx]
  subst hm
  intro b hb
  rw [put_some hd, hc]; exact h b hb
theorem aops_store {t : TypeId} {x y : Operand} {b off n m : Nat} {u p : Value} {c vs c2 : List Value} {el : TypeId} {H2 : AHeap} {w : AObj} (hg : o.guard = none) (hop : o.op = .store t x y) (hd : o.dst = none) (hx : (⟨l, ds⟩ : Env).eval x = some p) (hp : p = .pointer (some ⟨b, off, none⟩)) (hy : (⟨l, ds⟩ : Env).eval y = some u) (hc : u.cells.toList = vs) (hn : tsz P t = some n)
    (ha : H.at_ b = some w) (hw : w = .cells c el m) (h1 : vs.length = n ∧ flatL vs ∧ off + n ≤ c.length) (hc2 : setCells c off vs = c2) (hH : H.set b (.cells c2 el m) = H2) (h : AOps P ops Q K r ⟨l, ds⟩ H2) : AOps P ops Q K (o :: r) ⟨l, ds⟩ H := by
  subst hp; subst hw; subst hc2
  refine aops_eff hg (by rw [hop]; rfl) ?_
  unfold est
  simp only [hop, hx, hy, hn]
  unfold storeE
  simp only [ha]
  rw [hc]
  refine ⟨h1.1, h1.2.1, h1.2.2, ?_⟩
  rw [hH, hd]; exact h
/-- A call that only reckons. -/
theorem aops_callP {c : Call} {F : FuncId} {vs : List Value} {u : Value} (hg : o.guard = none) (hop : o.op = .call c) (hc : c.callee = .value (.func F)) (hd : o.dst = some d) (hv : evalL ⟨l, ds⟩ c.args.toList = some vs) (hk : ACalls P F vs.toArray H fun v H' => v = u ∧ H' = H) (h : AOps P ops Q K r ⟨(d, u) :: l, ds⟩ H) : AOps P ops Q K (o :: r) ⟨l, ds⟩ H := by
  refine aops_eff hg (by rw [hop]; simp [isEff, hc]) ?_
  unfold est
  simp only [hop, hc, hv, Env.eval]
  have e1 : (#[] : Array Value) ++ vs.toArray ++ #[] = vs.toArray := by simp
  rw [e1]
  refine acallP hk ?_
  rw [put_some hd]; exact h
theorem aops_call {c : Call} {F : FuncId} {vs : List Value} {R : Value → AHeap → Prop} (hg : o.guard = none) (hop : o.op = .call c) (hc : c.callee = .value (.func F)) (hv : evalL ⟨l, ds⟩ c.args.toList = some vs) (hk : ACalls P F vs.toArray H R) (h : ∀ v H', R v H' → AOps P ops Q K r ((⟨l, ds⟩ : Env).put o.dst v) H') : AOps P ops Q K (o :: r) ⟨l, ds⟩ H := by
  refine aops_eff hg (by rw [hop]; simp [isEff, hc]) ?_
  unfold est
  simp only [hop, hc, hv, Env.eval]
  have e1 : (#[] : Array Value) ++ vs.toArray ++ #[] = vs.toArray := by simp
  rw [e1]
  exact acall hk h
theorem aops_gdcall {c : Call} {F : FuncId} {u : Value} {b : Bool} (hw : wantE ops ⟨l, ds⟩ o = some b) (hop : o.op = .call c) (hc : c.callee = .value (.func F)) (hd : o.dst = some d) (hk : b = true → ∃ vs, evalL ⟨l, ds⟩ c.args.toList = some vs ∧ ACalls P F vs.toArray H fun v H' => v = u ∧ H' = H) (h : AOps P ops Q K r ⟨(d, ifV b u) :: l, ds⟩ H) : AOps P ops Q K (o :: r) ⟨l, ds⟩ H := by
  refine aops_guard_eff hw (by rw [hop]; simp [isEff, hc]) (fun hb => ?_) (by rw [put_some hd]; exact h)
  obtain ⟨vs, hv, hk⟩ := hk hb
  unfold est
  simp only [hop, hc, hv, Env.eval]
  have e1 : (#[] : Array Value) ++ vs.toArray ++ #[] = vs.toArray := by simp
  rw [e1]
  exact acallP hk ⟨rfl, rfl⟩
theorem aops_buildSlice {t el : TypeId} {len sz mm : Nat} {parts : Array (Nat × Operand)} {vs z c : List Value} (hg : o.guard = none) (hop : o.op = .buildSlice t len parts) (hd : o.dst = some d) (he : elm P t = some el) (hv : evalL ⟨l, ds⟩ (parts.toList.map (·.2)) = some vs) (hz : zc P el = some z) (hs : tsz P el = some sz)
    (h1 : z.length = sz ∧ 0 < len * sz ∧ len * sz ≤ 16777216) (hb : buildV (fun i : Nat => some (i * sz, sz)) (zrep z len) ((parts.toList.map (·.1)).zip vs) = some c) (hmm : len * sz = mm) (h : ∀ b, H.next ≤ b → AOps P ops Q K r ⟨(d, .slice (some ⟨b, 0, none⟩) len len) :: l, ds⟩ (H.new b (.cells c el mm))) : AOps P ops Q K (o :: r) ⟨l, ds⟩ H := by
  subst hmm
  refine aops_eff hg (by rw [hop]; rfl) ?_
  unfold est
  simp only [hop, he, hv, hz, hs, hb]
  refine .inr ⟨h1.1, h1.2.1, h1.2.2, ?_⟩
  intro b hb
  rw [put_some hd]; exact h b hb
theorem aops_buildSlice0 {t el : TypeId} (hg : o.guard = none) (hop : o.op = .buildSlice t 0 #[]) (hd : o.dst = some d) (he : elm P t = some el) (hs : (tsz P el).isSome = true) (h : ∀ b, H.next ≤ b → AOps P ops Q K r ⟨(d, .slice (some ⟨b, 0, none⟩) 0 0) :: l, ds⟩ (H.new b (.cells [] el 0))) : AOps P ops Q K (o :: r) ⟨l, ds⟩ H := by
  refine aops_eff hg (by rw [hop]; rfl) ?_
  unfold est
  simp only [hop, he, evalL, List.map_nil]
  refine .inl ⟨trivial, trivial, hs, ?_⟩
  intro b hb
  rw [put_some hd]; exact h b hb
theorem aops_app {c : Call} {s x : Operand} {t : TypeId} {u1 u2 : Value} (hg : o.guard = none) (hop : o.op = .call c) (hc : c.callee = .builtin .append) (hargs : c.args.toList = [s, x]) (htys : c.argTypes.toList = [t, t]) (hd : o.dst = some d) (hs : (⟨l, ds⟩ : Env).eval s = some u1) (hx : (⟨l, ds⟩ : Env).eval x = some u2)
    (h : appE P t u1 u2 H fun v' H' => AOps P ops Q K r ⟨(d, v') :: l, ds⟩ H') : AOps P ops Q K (o :: r) ⟨l, ds⟩ H := by
  refine aops_eff hg (by rw [hop]; simp [isEff, hc]) ?_
  unfold est
  simp only [hop, hc, hargs, htys, hs, hx]
  refine ⟨trivial, appE_mono (fun v' H' hk => ?_) h⟩
  rw [put_some hd]; exact hk
theorem aops_makeSlice {t el : TypeId} {k1 k2 : IntKind} {x y : Int} {sz by_ : Nat} {z : List Value} {lo co : Operand} {u1 u2 : Value} (hg : o.guard = none) (hop : o.op = .makeSlice t lo co) (hd : o.dst = some d) (hl : (⟨l, ds⟩ : Env).eval lo = some u1) (hu1 : u1 = .int k1 x) (hc : (⟨l, ds⟩ : Env).eval co = some u2) (hu2 : u2 = .int k2 y) (he : elm P t = some el) (hz : zc P el = some z) (hs : tsz P el = some sz) (hby : tby P el = some by_)
    (h1 : z.length = sz ∧ 0 < sz ∧ 0 ≤ x ∧ x ≤ y ∧ y ≤ 9223372036854775807 ∧ (by_ : Int) * y ≤ 140737488355328) (h : ∀ b, H.next ≤ b → AOps P ops Q K r ⟨(d, .slice (some ⟨b, 0, none⟩) x.toNat y.toNat) :: l, ds⟩ (H.new b (.cells (zrep z x.toNat) el (y.toNat * sz)))) : AOps P ops Q K (o :: r) ⟨l, ds⟩ H := by
  subst hu1; subst hu2
  refine aops_eff hg (by rw [hop]; rfl) ?_
  unfold est
  simp only [hop, hl, hc, he, hz, hs, hby]
  refine ⟨h1.1, h1.2.1, h1.2.2.1, h1.2.2.2.1, h1.2.2.2.2.1, h1.2.2.2.2.2, ?_⟩
  intro b hb
  rw [put_some hd]; exact h b hb
/-! ### drawn regions that have effects -/
variable {KW : Env → AHeap → List (Nat × Watch) → Prop} {W W2 : List (Nat × Watch)} {i : Nat} {rs : List Nat}
theorem awd_nil {e : Env} (h : KW e H W) : AWd P ops Q KW [] e H W := h
theorem awd_op (ho : ops[i]? = some o) (hg : o.guard = none) (he : isEff o.op = false) (hl : isLoad o.op = false) (hd : o.dst = some d) (hv : yv P ⟨l, ds⟩ H o.op = some v) (h : AWd P ops Q KW rs ⟨(d, v) :: l, ds⟩ H W) : AWd P ops Q KW (i :: rs) ⟨l, ds⟩ H W :=
  awd_yv ho (wantE_none hg) he hl hv (by rw [put_some hd]; exact h)
theorem awd_ld (ho : ops[i]? = some o) (hg : o.guard = none) (he : isEff o.op = false) (hl : isLoad o.op = true) (hd : o.dst = some d) (hv : yv P ⟨l, ds⟩ H o.op = some v) (h : AWd P ops Q KW rs ⟨(d, v) :: l, ds⟩ H ((i, o.op, ⟨l, ds⟩, v) :: W)) : AWd P ops Q KW (i :: rs) ⟨l, ds⟩ H W := by
  refine bindO_intro ho ?_
  rw [wantE_none hg, Br_true]
  simp only [he, hl, Bool.false_eq_true, if_false, if_true]
  exact bindO_intro hv (by rw [put_some hd]; exact h)
theorem awd_eff (ho : ops[i]? = some o) (hg : o.guard = none) (he : isEff o.op = true) (hW : fltW ops i W = W2) (h : est P ⟨l, ds⟩ H o (fun v H' => (∀ p ∈ W2, lv P p.2.2.1 H' p.2.1 = some p.2.2.2) ∧ AWd P ops Q KW rs ((⟨l, ds⟩ : Env).put o.dst v) H' W2) (fun ch H' => Q (.panic ch) ⟨[], ds⟩ H')) : AWd P ops Q KW (i :: rs) ⟨l, ds⟩ H W := by
  refine bindO_intro ho ?_
  rw [wantE_none hg, Br_true]
  simp only [he, if_true, hW]
  exact h
def Wt (P : Program) (W : List (Nat × Watch)) (H : AHeap) : Prop := ∀ p ∈ W, lv P p.2.2.1 H p.2.1 = some p.2.2.2
theorem awd_callP {c : Call} {F : FuncId} {vs : List Value} {u : Value} (ho : ops[i]? = some o) (hg : o.guard = none) (hop : o.op = .call c) (hc : c.callee = .value (.func F)) (hd : o.dst = some d) (hW : fltW ops i W = W2) (hw : Wt P W2 H) (hv : evalL ⟨l, ds⟩ c.args.toList = some vs) (hk : ACalls P F vs.toArray H fun v H' => v = u ∧ H' = H) (h : AWd P ops Q KW rs ⟨(d, u) :: l, ds⟩ H W2) : AWd P ops Q KW (i :: rs) ⟨l, ds⟩ H W := by
  refine awd_eff ho hg (by rw [hop]; simp [isEff, hc]) hW ?_
  unfold est
  simp only [hop, hc, hv, Env.eval]
  have e1 : (#[] : Array Value) ++ vs.toArray ++ #[] = vs.toArray := by simp
  rw [e1]
  refine acallP hk ⟨hw, ?_⟩
  rw [put_some hd]; exact h
theorem awd_app {c : Call} {s x : Operand} {t : TypeId} {u1 u2 : Value} (ho : ops[i]? = some o) (hg : o.guard = none) (hop : o.op = .call c) (hc : c.callee = .builtin .append) (hargs : c.args.toList = [s, x]) (htys : c.argTypes.toList = [t, t]) (hd : o.dst = some d) (hW : fltW ops i W = W2) (hs : (⟨l, ds⟩ : Env).eval s = some u1) (hx : (⟨l, ds⟩ : Env).eval x = some u2)
    (h : appE P t u1 u2 H fun v' H' => Wt P W2 H' ∧ AWd P ops Q KW rs ⟨(d, v') :: l, ds⟩ H' W2) : AWd P ops Q KW (i :: rs) ⟨l, ds⟩ H W := by
  refine awd_eff ho hg (by rw [hop]; simp [isEff, hc]) hW ?_
  unfold est
  simp only [hop, hc, hargs, htys, hs, hx]
  refine ⟨trivial, appE_mono (fun v' H' hk => ⟨hk.1, ?_⟩) h⟩
  rw [put_some hd]; exact hk.2
theorem awd_buildSlice0 {t el : TypeId} (ho : ops[i]? = some o) (hg : o.guard = none) (hop : o.op = .buildSlice t 0 #[]) (hd : o.dst = some d) (hW : fltW ops i W = W2) (he : elm P t = some el) (hs : (tsz P el).isSome = true) (h : ∀ b, H.next ≤ b → Wt P W2 (H.new b (.cells [] el 0)) ∧ AWd P ops Q KW rs ⟨(d, .slice (some ⟨b, 0, none⟩) 0 0) :: l, ds⟩ (H.new b (.cells [] el 0)) W2) : AWd P ops Q KW (i :: rs) ⟨l, ds⟩ H W := by
  refine awd_eff ho hg (by rw [hop]; rfl) hW ?_
  unfold est
  simp only [hop, he, evalL, List.map_nil]
  refine .inl ⟨trivial, trivial, hs, ?_⟩
  intro b hb
  rw [put_some hd]; exact h b hb
theorem awd_buildSlice {t el : TypeId} {len sz mm : Nat} {parts : Array (Nat × Operand)} {vs z c : List Value} (ho : ops[i]? = some o) (hg : o.guard = none) (hop : o.op = .buildSlice t len parts) (hd : o.dst = some d) (hW : fltW ops i W = W2) (he : elm P t = some el) (hv : evalL ⟨l, ds⟩ (parts.toList.map (·.2)) = some vs) (hz : zc P el = some z) (hs : tsz P el = some sz)
    (h1 : z.length = sz ∧ 0 < len * sz ∧ len * sz ≤ 16777216) (hb : buildV (fun i : Nat => some (i * sz, sz)) (zrep z len) ((parts.toList.map (·.1)).zip vs) = some c) (hmm : len * sz = mm) (h : ∀ b, H.next ≤ b → Wt P W2 (H.new b (.cells c el mm)) ∧ AWd P ops Q KW rs ⟨(d, .slice (some ⟨b, 0, none⟩) len len) :: l, ds⟩ (H.new b (.cells c el mm)) W2) : AWd P ops Q KW (i :: rs) ⟨l, ds⟩ H W := by
  subst hmm
  refine awd_eff ho hg (by rw [hop]; rfl) hW ?_
  unfold est
  simp only [hop, he, hv, hz, hs, hb]
  refine .inr ⟨h1.1, h1.2.1, h1.2.2, ?_⟩
  intro b hb
  rw [put_some hd]; exact h b hb
theorem awd_store {t : TypeId} {x y : Operand} {b off n m : Nat} {u p : Value} {c vs c2 : List Value} {el : TypeId} {H2 : AHeap} {w : AObj} (ho : ops[i]? = some o) (hg : o.guard = none) (hop : o.op = .store t x y) (hd : o.dst = none) (hW : fltW ops i W = W2) (hx : (⟨l, ds⟩ : Env).eval x = some p) (hp : p = .pointer (some ⟨b, off, none⟩)) (hy : (⟨l, ds⟩ : Env).eval y = some u) (hc : u.cells.toList = vs) (hn : tsz P t = some n)
    (ha : H.at_ b = some w) (hw : w = .cells c el m) (h1 : vs.length = n ∧ flatL vs ∧ off + n ≤ c.length) (hc2 : setCells c off vs = c2) (hH : H.set b (.cells c2 el m) = H2) (h : Wt P W2 H2 ∧ AWd P ops Q KW rs ⟨l, ds⟩ H2 W2) : AWd P ops Q KW (i :: rs) ⟨l, ds⟩ H W := by
  subst hp; subst hw; subst hc2
  refine awd_eff ho hg (by rw [hop]; rfl) hW ?_
  unfold est
  simp only [hop, hx, hy, hn]
  unfold storeE
  simp only [ha]
  rw [hc]
  refine ⟨h1.1, h1.2.1, h1.2.2, ?_⟩
  rw [hH, hd]; exact h
theorem awd_alloc {t : TypeId} {z : List Value} {m : Nat} (ho : ops[i]? = some o) (hg : o.guard = none) (hop : o.op = .alloc t) (hd : o.dst = some d) (hW : fltW ops i W = W2) (hz : zc P t = some z) (hm : z.length = m) (h : ∀ b, H.next ≤ b → Wt P W2 (H.new b (.cells z t m)) ∧ AWd P ops Q KW rs ⟨(d, .pointer (some ⟨b, 0, none⟩)) :: l, ds⟩ (H.new b (.cells z t m)) W2) : AWd P ops Q KW (i :: rs) ⟨l, ds⟩ H W := by
  refine awd_eff ho hg (by rw [hop]; rfl) hW ?_
  unfold est
  simp only [hop, hz]
  subst hm
  intro b hb
  rw [put_some hd]; exact h b hb
theorem awd_box {t : TypeId} {x : Operand} {c : List Value} {m : Nat} (ho : ops[i]? = some o) (hg : o.guard = none) (hop : o.op = .box t x) (hd : o.dst = some d) (hW : fltW ops i W = W2) (hx : (⟨l, ds⟩ : Env).eval x = some v) (hc : v.cells.toList = c) (hm : c.length = m) (h : ∀ b, H.next ≤ b → Wt P W2 (H.new b (.cells c t m)) ∧ AWd P ops Q KW rs ⟨(d, .pointer (some ⟨b, 0, none⟩)) :: l, ds⟩ (H.new b (.cells c t m)) W2) : AWd P ops Q KW (i :: rs) ⟨l, ds⟩ H W := by
  refine awd_eff ho hg (by rw [hop]; rfl) hW ?_
  unfold est
  simp only [hop, hx]
  subst hm
  intro b hb
  rw [put_some hd, hc]; exact h b hb
theorem awd_makeSlice {t el : TypeId} {k1 k2 : IntKind} {x y : Int} {sz by_ : Nat} {z : List Value} {lo co : Operand} {u1 u2 : Value} (ho : ops[i]? = some o) (hg : o.guard = none) (hop : o.op = .makeSlice t lo co) (hd : o.dst = some d) (hW : fltW ops i W = W2) (hl : (⟨l, ds⟩ : Env).eval lo = some u1) (hu1 : u1 = .int k1 x) (hc : (⟨l, ds⟩ : Env).eval co = some u2) (hu2 : u2 = .int k2 y) (he : elm P t = some el) (hz : zc P el = some z) (hs : tsz P el = some sz) (hby : tby P el = some by_)
    (h1 : z.length = sz ∧ 0 < sz ∧ 0 ≤ x ∧ x ≤ y ∧ y ≤ 9223372036854775807 ∧ (by_ : Int) * y ≤ 140737488355328) (h : ∀ b, H.next ≤ b → Wt P W2 (H.new b (.cells (zrep z x.toNat) el (y.toNat * sz))) ∧ AWd P ops Q KW rs ⟨(d, .slice (some ⟨b, 0, none⟩) x.toNat y.toNat) :: l, ds⟩ (H.new b (.cells (zrep z x.toNat) el (y.toNat * sz))) W2) : AWd P ops Q KW (i :: rs) ⟨l, ds⟩ H W := by
  subst hu1; subst hu2
  refine awd_eff ho hg (by rw [hop]; rfl) hW ?_
  unfold est
  simp only [hop, hl, hc, he, hz, hs, hby]
  refine ⟨h1.1, h1.2.1, h1.2.2.1, h1.2.2.2.1, h1.2.2.2.2.1, h1.2.2.2.2.2, ?_⟩
  intro b hb
  rw [put_some hd]; exact h b hb
end
end Go.Proofs.YteklhgmoniaieaaAh
