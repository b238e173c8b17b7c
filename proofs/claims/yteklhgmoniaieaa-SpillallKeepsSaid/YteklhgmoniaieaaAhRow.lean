/- The row's ends: the world ahead of the call as an abstract heap; how its data read; behind the call all that was there is as it was. -/
import Derived.Test.YteklhgmoniaieaaAhRep
import Derived.Deep.Slices
import Derived.Carry
set_option linter.unusedVariables false
set_option linter.unusedSimpArgs false
namespace Go.Proofs.YteklhgmoniaieaaAh
open Go.RowKit Go.Deep

/-- All that was there: read alone. -/
def heap0 (W : World) : AHeap := ⟨W.heap.size, fun b => (W.heap[b]?).map AObj.ro⟩
theorem heap0_rel (W : World) : Rel (heap0 W) W := by
  refine ⟨Nat.le_refl _, fun b o h => ?_, fun b o h => ?_⟩
  · obtain ⟨o', h1, rfl⟩ := Option.map_eq_some_iff.1 h
    exact (Array.getElem?_eq_some_iff.1 h1).1
  · obtain ⟨o', h1, rfl⟩ := Option.map_eq_some_iff.1 h
    exact ⟨o', h1, rfl⟩
theorem heap0_wr (W : World) (b : Nat) : ¬ (heap0 W).wr b := by
  unfold AHeap.wr heap0
  cases h : W.heap[b]? <;> simp [h, AObj.writable]
theorem Step.below {W W' : World} {H' : AHeap} (s : Step (heap0 W) W H' W') : Below W.heap.size W W' :=
  ⟨s.os, s.tape, s.output, s.size, fun k hk => s.same k hk (heap0_wr W k)⟩

theorem loadN_of_cells {W : World} {a : Addr} {n : Nat} (h : ∀ k, k < n → ∃ v, W.cell? (a.add k) = some v) (h0 : 0 < n) :
    a.block < W.heap.size ∧ ∃ cs, (heap0 W).loadN a n = some cs ∧ cs.length = n ∧ ∀ k v, k < n → W.cell? (a.add k) = some v → cs[k]? = some v := by
  have key : ∃ c e fz, W.heap[a.block]? = some (.cells c e fz) ∧ a.spot.isSome = false ∧ ∀ k, W.cell? (a.add k) = c[a.off + k]? := by
    obtain ⟨v, hv⟩ := h 0 h0
    have e0 : a.add 0 = a := by simp [Addr.add]
    rw [e0] at hv
    unfold World.cell? at hv
    split at hv
    · rename_i c e fz hb
      split at hv
      · cases hv
      · rename_i hs
        refine ⟨c, e, fz, hb, by simpa using hs, fun k => ?_⟩
        have e1 : (a.add k).block = a.block := add_block a k
        have e2 : (a.add k).off = a.off + k := by unfold Addr.add; split <;> simp_all
        have e3 : (a.add k).spot.isSome = false := by unfold Addr.add; split <;> simp_all
        unfold World.cell?
        rw [e1, hb]
        simp only [e3, e2, Bool.false_eq_true, if_false]
    · cases hv
  obtain ⟨c, e, fz, hb, hs, hc⟩ := key
  refine ⟨(Array.getElem?_eq_some_iff.1 hb).1, ?_⟩
  have hrow : (heap0 W).row a = some (c.toList.drop a.off) := by
    unfold AHeap.row heap0
    simp [hs, hb]
  obtain ⟨v, hv⟩ := h (n - 1) (by omega)
  rw [hc] at hv
  have hlt := (Array.getElem?_eq_some_iff.1 hv).1
  have hle : n ≤ (c.toList.drop a.off).length := by simp; omega
  refine ⟨(c.toList.drop a.off).take n, ?_, by rw [List.length_take]; omega, fun k v hk hv => ?_⟩
  · rw [AHeap.loadN, hrow]
    simp only [takeN]
    rw [if_pos hle]
  · rw [hc] at hv
    rw [List.getElem?_take, if_pos hk, List.getElem?_drop, Array.getElem?_toList]
    exact hv

/-- How a type's readings lie in memory. -/
def Tr {α : Type} (P : Program) (t : TypeId) (R : Rp α) : Prop :=
  ∀ {Hh : Type} {enc : TypeId × Value → Hh} {W : World} {base : Nat} {spare : Nat → Bool} {held : Bool} {fuel : Nat} {cs : List Value} {x : DataW Hh × List MemPlace}, DataW.trod enc P W base spare held fuel t cs = some x → ∃ a, R (heap0 W) a cs
theorem tr_int {P : Program} {t : TypeId} (hu : P.underlying t = some (.int .i64)) : Tr P t (flat encI) := fun h => by
  obtain ⟨n, rfl, _⟩ := DataW.trod_int hu h
  exact ⟨n, rfl⟩
theorem exists_list {α : Type} {p : Nat → α → Prop} : ∀ (n : Nat), (∀ i, i < n → ∃ x, p i x) → ∃ xs : List α, xs.length = n ∧ ∀ (i : Nat) x, xs[i]? = some x → p i x
  | 0, _ => ⟨[], rfl, fun i x h => by simp at h⟩
  | n + 1, h => by
    obtain ⟨xs, h1, h2⟩ := exists_list n fun i hi => h i (by omega)
    obtain ⟨x, hx⟩ := h n (by omega)
    refine ⟨xs ++ [x], by simp [h1], fun i y hy => ?_⟩
    rcases Nat.lt_or_ge i xs.length with hi | hi
    · rw [List.getElem?_append_left hi] at hy
      exact h2 i y hy
    · rw [List.getElem?_append_right hi] at hy
      have : i - xs.length = 0 := by have := (List.getElem?_eq_some_iff.1 hy).1; simp at this; omega
      rw [this] at hy
      cases hy
      rw [show i = n by omega]; exact hx
theorem mapM_opt {α β : Type} {f : α → Option β} : ∀ {l : List α} {r : List β}, l.mapM f = some r → r.length = l.length ∧ ∀ (i : Nat) a, l[i]? = some a → f a = r[i]?
  | [], r, h => by simp at h; subst h; simp
  | a :: l, r, h => by
    rw [List.mapM_cons] at h
    cases ha : f a with
    | none => simp [ha] at h
    | some b =>
      cases hl : l.mapM f with
      | none => simp [ha, hl] at h
      | some r' =>
        simp [ha, hl] at h
        subst h
        obtain ⟨h1, h2⟩ := mapM_opt hl
        refine ⟨by simp [h1], fun i x hx => ?_⟩
        cases i with
        | zero => simp at hx; subst hx; simpa using ha
        | succ i => simp at hx ⊢; exact h2 i x hx
theorem cells_get {W : World} {base : Nat} {a : Addr} {n : Nat} {cs : List Value} (h : W.cells? base a n = some cs) : cs.length = n ∧ ∀ k, k < n → W.cell? (a.add k) = cs[k]? := by
  unfold World.cells? at h
  split at h
  · obtain ⟨h1, h2⟩ := mapM_opt h
    simp at h1
    exact ⟨h1, fun k hk => h2 k k (by simp [hk])⟩
  · cases h
theorem tr_slice {α : Type} {P : Program} {t e : TypeId} {R : Rp α} {sz : Nat} (hu : P.underlying t = some (.slice e)) (hsz : P.cellsOf e = sz) (h0 : 0 < sz) (he : Tr P e R) :
    ∀ {Hh : Type} {enc : TypeId × Value → Hh} {W : World} {base : Nat} {spare : Nat → Bool} {held : Bool} {fuel : Nat} {cs : List Value} {x : DataW Hh × List MemPlace}, DataW.trod enc P W base spare held fuel t cs = some x → ∃ v xs, cs = [v] ∧ SliceR (heap0 W) R sz v xs := by
  intro Hh enc W base spare held fuel cs x h
  rcases open_slice hu h with ⟨rfl, _⟩ | ⟨a, len, cap, m, n, D, Pl, rfl, hb, hl, hm, hmm, hx, hel⟩
  · exact ⟨_, [], rfl, none, 0, rfl, by simp, by simp, .inl rfl⟩
  have hlm : len ≤ m := by rw [hmm]; split <;> omega
  subst hsz
  have hall : ∀ i, i < len → ∃ cs', W.cells? base (a.add (i * P.cellsOf e)) (P.cellsOf e) = some cs' ∧ ∃ b, R (heap0 W) b cs' := fun i hi => by
    obtain ⟨cs', h1, h2⟩ := hel i (by omega)
    exact ⟨cs', h1, he h2⟩
  rcases Nat.eq_zero_or_pos len with hz | hpos
  · subst hz
    exact ⟨_, [], rfl, some a, cap, rfl, by simp, hm, .inl rfl⟩
  have hcell : ∀ k, k < len * P.cellsOf e → ∃ v, W.cell? (a.add k) = some v := fun k hk => by
    have hi : k / P.cellsOf e < len := by rw [Nat.div_lt_iff_lt_mul h0]; exact hk
    obtain ⟨cs', h1, _⟩ := hall _ hi
    obtain ⟨h2, h3⟩ := cells_get h1
    have hr := Nat.mod_lt k h0
    have := h3 (k % P.cellsOf e) hr
    rw [add_add, Nat.mul_comm, Nat.div_add_mod] at this
    rw [this]
    exact ⟨cs'[k % P.cellsOf e], List.getElem?_eq_getElem (by omega)⟩
  obtain ⟨hlt, all, hload, hlen, hget⟩ := loadN_of_cells hcell (Nat.mul_pos hpos h0)
  obtain ⟨xs, hxl, hxs⟩ := exists_list (p := fun i b => R (heap0 W) b ((all.drop (i * P.cellsOf e)).take (P.cellsOf e))) len fun i hi => by
    obtain ⟨cs', h1, b, hb⟩ := hall i hi
    obtain ⟨h2, h3⟩ := cells_get h1
    refine ⟨b, ?_⟩
    have e1 : (all.drop (i * P.cellsOf e)).take (P.cellsOf e) = cs' := by
      have hle : i * P.cellsOf e + P.cellsOf e ≤ len * P.cellsOf e := by rw [← Nat.succ_mul]; exact Nat.mul_le_mul_right _ hi
      apply List.ext_getElem
      · simp; omega
      · intro k k1 k2
        have hk : k < P.cellsOf e := by omega
        have h4 := h3 k hk
        rw [add_add, List.getElem?_eq_getElem k2] at h4
        have h5 := hget (i * P.cellsOf e + k) _ (by omega) h4
        have h6 := (List.getElem?_eq_some_iff.1 h5).2
        simp only [List.getElem_take, List.getElem_drop]
        exact h6
    rw [e1]; exact hb
  subst hxl
  exact ⟨_, xs, rfl, some a, cap, rfl, hl, hm, .inr ⟨a, all, rfl, hlt, hload, hxs⟩⟩
/-- A struct's readings, field by field. -/
theorem tr_fields {P : Program} {t : TypeId} {fs : Array Field} (hu : P.underlying t = some (.struct fs)) {Hh : Type} {enc : TypeId × Value → Hh} {W : World} {base : Nat} {spare : Nat → Bool} {held : Bool} {fuel : Nat} {cs : List Value} {x : DataW Hh × List MemPlace} (h : DataW.trod enc P W base spare held fuel t cs = some x) :
    cs.length = P.cellsOf t ∧ ∀ (i : Nat) (f : Field), fs[i]? = some f → ∃ n y, DataW.trod enc P W base spare held n f.type ((cs.drop f.offset).take (P.cellsOf f.type)) = some y := by
  obtain ⟨xs, n, _, _, h1, h2, h3⟩ := DataW.trod_struct hu h
  refine ⟨h1, fun i f hf => ⟨n, ?_⟩⟩
  have hi : i < xs.length := by rw [h2]; exact (Array.getElem?_eq_some_iff.1 hf).1
  exact ⟨xs[i], by rw [h3 i f hf]; exact List.getElem?_eq_getElem hi⟩
/-! ### the program's records, as they come in -/
def flatInts (P : Program) (t : TypeId) (k : Nat) : Bool := match P.underlying t with
  | some (.struct fs) => fs.size == k && P.cellsOf t == k && fs.toList.zipIdx.all fun p => p.1.offset == p.2 && (intk P p.1.type == some .i64) && P.cellsOf p.1.type == 1
  | _ => false
theorem intk_ul {P : Program} {t : TypeId} {k : IntKind} (h : intk P t = some k) : P.underlying t = some (.int k) := by
  unfold intk at h
  cases hu : P.underlying t with
  | none => simp [hu] at h
  | some d => cases d <;> simp [hu] at h; subst h; rfl
theorem tr_ints {P : Program} {t : TypeId} {k : Nat} (hk : flatInts P t k = true) {Hh : Type} {enc : TypeId × Value → Hh} {W : World} {base : Nat} {spare : Nat → Bool} {held : Bool} {fuel : Nat} {cs : List Value} {x : DataW Hh × List MemPlace} (h : DataW.trod enc P W base spare held fuel t cs = some x) :
    ∃ ns : List Int, ns.length = k ∧ cs = ns.map fun n => iv n := by
  unfold flatInts at hk
  cases hu : P.underlying t with
  | none => simp [hu] at hk
  | some d =>
    cases d <;> simp only [hu, Bool.and_eq_true, beq_iff_eq] at hk <;> try (cases hk; done)
    rename_i fs
    obtain ⟨⟨h1, h2⟩, h3⟩ := hk
    obtain ⟨hl, hf⟩ := tr_fields hu h
    rw [h2] at hl
    have hone : ∀ i, i < k → ∃ n : Int, cs[i]? = some (iv n) := fun i hi => by
      have hi' : i < fs.size := by omega
      have hfi : fs[i]? = some fs[i] := by simp [hi']
      obtain ⟨n, y, hy⟩ := hf i _ hfi
      have hz := List.all_eq_true.1 h3 (fs[i], i) (by
        rw [List.mem_zipIdx_iff_getElem?]
        simp [hi'])
      simp only [Bool.and_eq_true, beq_iff_eq] at hz
      obtain ⟨⟨z1, z2⟩, z3⟩ := hz
      rw [z1, z3] at hy
      obtain ⟨m, hm, _⟩ := DataW.trod_int (intk_ul z2) hy
      refine ⟨m, ?_⟩
      have := congrArg (fun l => l[0]?) hm
      simpa [List.getElem?_take, List.getElem?_drop] using this
    obtain ⟨ns, n1, n2⟩ := exists_list (p := fun i n => cs[i]? = some (iv n)) k hone
    refine ⟨ns, n1, ?_⟩
    apply List.ext_getElem?
    intro i
    rw [List.getElem?_map]
    rcases Nat.lt_or_ge i k with hi | hi
    · rw [List.getElem?_eq_getElem (by omega : i < ns.length), n2 i _ (List.getElem?_eq_getElem (by omega))]; rfl
    · rw [List.getElem?_eq_none (by omega), List.getElem?_eq_none (by omega)]; rfl
def sfl (P : Program) (t : TypeId) : Option (List (TypeId × Nat)) := match P.underlying t with
  | some (.struct fs) => some (fs.toList.map fun f => (f.type, f.offset))
  | _ => none
theorem tr_sfl {P : Program} {t : TypeId} {l : List (TypeId × Nat)} (hs : sfl P t = some l) {Hh : Type} {enc : TypeId × Value → Hh} {W : World} {base : Nat} {spare : Nat → Bool} {held : Bool} {fuel : Nat} {cs : List Value} {x : DataW Hh × List MemPlace} (h : DataW.trod enc P W base spare held fuel t cs = some x) :
    cs.length = P.cellsOf t ∧ ∀ (i : Nat) (p : TypeId × Nat), l[i]? = some p → ∃ n y, DataW.trod enc P W base spare held n p.1 ((cs.drop p.2).take (P.cellsOf p.1)) = some y := by
  unfold sfl at hs
  cases hu : P.underlying t with
  | none => simp [hu] at hs
  | some d =>
    cases d <;> simp only [hu] at hs <;> try (cases hs; done)
    rename_i fs
    simp only [Option.some.injEq] at hs
    subst hs
    obtain ⟨h1, h2⟩ := tr_fields hu h
    refine ⟨h1, fun i p hp => ?_⟩
    rw [List.getElem?_map, Array.getElem?_toList] at hp
    cases hf : fs[i]? with
    | none => rw [hf] at hp; cases hp
    | some f => rw [hf] at hp; cases hp; exact h2 i f hf
theorem tr_In {P : Program} {t : TypeId} (hk : flatInts P t 5 = true) : Tr P t (flat encIn) := fun h => by
  obtain ⟨ns, h1, rfl⟩ := tr_ints hk h
  match ns, h1 with
  | [a, b, c, d, e], _ => exact ⟨⟨a, b, c, d, e⟩, rfl⟩
theorem tr_M {P : Program} {t : TypeId} (hk : flatInts P t 7 = true) : Tr P t (flat encM) := fun h => by
  obtain ⟨ns, h1, rfl⟩ := tr_ints hk h
  match ns, h1 with
  | [a, b, c, d, e, f, g], _ => exact ⟨⟨a, b, c, d, e, f, g⟩, rfl⟩
theorem tr_P {P : Program} {t : TypeId} (hk : flatInts P t 2 = true) : Tr P t (flat encP) := fun h => by
  obtain ⟨ns, h1, rfl⟩ := tr_ints hk h
  match ns, h1 with
  | [a, b], _ => exact ⟨⟨a, b⟩, rfl⟩
theorem tr_T {P : Program} {t : TypeId} (hk : flatInts P t 4 = true) : Tr P t (flat encT) := fun h => by
  obtain ⟨ns, h1, rfl⟩ := tr_ints hk h
  match ns, h1 with
  | [a, b, c, d], _ => exact ⟨⟨a, b, c, d⟩, rfl⟩
theorem tr_B {P : Program} {t ts ti tt : TypeId} (hs : sfl P t = some [(ts, 0), (tt, 1)]) (hc : P.cellsOf t = 5) (hc1 : P.cellsOf ts = 1) (hc2 : P.cellsOf tt = 4) (hu : P.underlying ts = some (.slice ti)) (hi : P.cellsOf ti = 5) (k1 : flatInts P ti 5 = true) (k2 : flatInts P tt 4 = true) : Tr P t rB := fun h => by
  rename_i cs x
  obtain ⟨h1, h2⟩ := tr_sfl hs h
  obtain ⟨n, y, h3⟩ := h2 0 _ rfl
  obtain ⟨n', y', h4⟩ := h2 1 _ rfl
  simp only [hc1, hc2, List.drop_zero] at h3 h4
  obtain ⟨v, xs, h5, h6⟩ := tr_slice hu hi (by omega) (tr_In k1) h3
  obtain ⟨tm, h7⟩ := tr_T k2 h4
  refine ⟨⟨xs, tm⟩, v, ?_, h6⟩
  have e := List.take_append_drop 1 cs
  rw [h5] at e
  have e2 : (cs.drop 1).take 4 = cs.drop 1 := List.take_of_length_le (by simp; omega)
  rw [e2] at h7
  rw [← e, h7]; rfl
theorem tr_F {P : Program} {t tb : TypeId} {a b ts : TypeId} (hs : sfl P t = some [(a, 0), (b, 1), (ts, 2)]) (hc : P.cellsOf t = 3) (ha : intk P a = some .i64) (hb : intk P b = some .i64) (ca : P.cellsOf a = 1) (cb : P.cellsOf b = 1) (cs' : P.cellsOf ts = 1) (hu : P.underlying ts = some (.slice tb)) (hi : P.cellsOf tb = 5) (kB : Tr P tb rB) : Tr P t rF := fun h => by
  rename_i cs x
  obtain ⟨h1, h2⟩ := tr_sfl hs h
  obtain ⟨_, _, h3⟩ := h2 0 _ rfl
  obtain ⟨_, _, h4⟩ := h2 1 _ rfl
  obtain ⟨_, _, h5⟩ := h2 2 _ rfl
  simp only [ca, cb, cs', List.drop_zero] at h3 h4 h5
  obtain ⟨n, h3, _⟩ := DataW.trod_int (intk_ul ha) h3
  obtain ⟨m, h4, _⟩ := DataW.trod_int (intk_ul hb) h4
  obtain ⟨v, xs, h5, h6⟩ := tr_slice hu hi (by omega) kB h5
  rw [hc] at h1
  match cs, h1 with
  | [c0, c1, c2], _ =>
    simp at h3 h4 h5
    subst h3; subst h4; subst h5
    exact ⟨⟨n, m, xs⟩, _, rfl, h6⟩
end Go.Proofs.YteklhgmoniaieaaAh
