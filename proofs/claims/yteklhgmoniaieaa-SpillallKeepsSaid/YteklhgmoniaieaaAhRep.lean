/- How lists lie in memory: a row of cells, a slice, with nested slices. -/
import Derived.Test.YteklhgmoniaieaaAhTree
set_option linter.unusedVariables false
set_option linter.unusedSimpArgs false
namespace Go.Proofs.YteklhgmoniaieaaAh

/-- How a value of α lies in its cells. -/
abbrev Rp (α : Type) := AHeap → α → List Value → Prop
structure RpOk {α : Type} (R : Rp α) (sz : Nat) : Prop where
  len : ∀ {H x cs}, R H x cs → cs.length = sz
  sub : ∀ {H H' x cs}, Sub H H' → R H x cs → R H' x cs

/-- A row of elements at a, in H. -/
def RowR {α : Type} (H : AHeap) (R : Rp α) (sz : Nat) (a : Option Addr) (xs : List α) : Prop :=
  xs = [] ∨ ∃ ad cs, a = some ad ∧ ad.block < H.next ∧ H.loadN ad (xs.length * sz) = some cs ∧ ∀ i x, xs[i]? = some x → R H x ((cs.drop (i * sz)).take sz)
/-- A slice value that reads as xs. -/
def SliceR {α : Type} (H : AHeap) (R : Rp α) (sz : Nat) (v : Value) (xs : List α) : Prop :=
  ∃ a c, v = .slice a xs.length c ∧ xs.length ≤ c ∧ c ≤ maxLen ∧ RowR H R sz a xs

theorem Sub.cell {H H' : AHeap} (s : Sub H H') {a : Addr} {v : Value} (h : H.cell a = some v) : H'.cell a = some v := (⟨s.next, s.at_⟩ : Ext H H').cell h
theorem Sub.row {H H' : AHeap} (s : Sub H H') {a : Addr} {l : List Value} (h : H.row a = some l) : H'.row a = some l := by
  unfold AHeap.row at *
  split at h
  · cases h
  rename_i hs
  rw [if_neg hs]
  cases hb : H.at_ a.block with
  | none => rw [hb] at h; cases h
  | some o => rw [hb] at h; rw [s.at_ _ _ hb]; exact h
theorem Sub.loadN {H H' : AHeap} (s : Sub H H') {a : Addr} {n : Nat} {l : List Value} (h : H.loadN a n = some l) : H'.loadN a n = some l := by
  unfold AHeap.loadN at *
  cases hr : H.row a with
  | none => rw [hr] at h; cases h
  | some r => rw [hr] at h; rw [s.row hr]; exact h
theorem Sub.load1 {H H' : AHeap} (s : Sub H H') {a : Addr} {v : Value} (h : H.load1 a = some v) : H'.load1 a = some v := by
  unfold AHeap.load1 at *
  cases hr : H.row a with
  | none => rw [hr] at h; cases h
  | some r => rw [hr] at h; rw [s.row hr]; exact h
theorem RowR.sub {α : Type} {H H' : AHeap} {R : Rp α} {sz : Nat} (ok : RpOk R sz) {a : Option Addr} {xs : List α} (s : Sub H H') (h : RowR H R sz a xs) : RowR H' R sz a xs := by
  rcases h with h | ⟨ad, cs, h1, h2, h3, h4⟩
  · exact .inl h
  · exact .inr ⟨ad, cs, h1, Nat.lt_of_lt_of_le h2 s.next, s.loadN h3, fun i x hx => ok.sub s (h4 i x hx)⟩
theorem SliceR.sub {α : Type} {H H' : AHeap} {R : Rp α} {sz : Nat} (ok : RpOk R sz) {v : Value} {xs : List α} (s : Sub H H') (h : SliceR H R sz v xs) : SliceR H' R sz v xs := by
  obtain ⟨a, c, h1, h2, h3, h4⟩ := h
  exact ⟨a, c, h1, h2, h3, h4.sub ok s⟩

theorem row_add {H : AHeap} {a : Addr} {l : List Value} (h : H.row a = some l) (j : Nat) (hj : j ≤ l.length) : H.row (a.add j) = some (l.drop j) := by
  unfold AHeap.row at *
  split at h
  · cases h
  rename_i hs
  have e2 : (a.add j).off = a.off + j := by unfold Addr.add; split <;> simp_all
  have e3 : ¬ (a.add j).spot.isSome = true := by unfold Addr.add; split <;> simp_all
  rw [if_neg e3, add_block, e2]
  cases hb : H.at_ a.block with
  | none => rw [hb] at h; cases h
  | some o =>
    rw [hb] at h
    cases o with
    | cells c e m => cases h; simp
    | ro o => cases o <;> first | (simp only at h ⊢; cases h; simp; done) | cases h
    | obj o => cases h
theorem loadN_add {H : AHeap} {a : Addr} {n : Nat} {l : List Value} (h : H.loadN a n = some l) (j m : Nat) (hj : j + m ≤ n) : H.loadN (a.add j) m = some ((l.drop j).take m) := by
  unfold AHeap.loadN at *
  cases hr : H.row a with
  | none => rw [hr] at h; cases h
  | some r =>
    rw [hr] at h
    simp only [takeN] at h
    split at h
    · rename_i hn
      cases h
      rw [row_add hr j (by omega)]
      simp only [takeN, List.length_drop]
      rw [if_pos (by omega)]
      congr 1
      rw [List.drop_take, List.take_take]
      congr 1; omega
    · cases h
theorem loadN_load1 {H : AHeap} {a : Addr} {v : Value} {l : List Value} {n : Nat} (h : H.loadN a (n + 1) = some (v :: l)) : H.load1 a = some v := by
  unfold AHeap.loadN at h
  unfold AHeap.load1
  cases hr : H.row a with
  | none => rw [hr] at h; cases h
  | some r =>
    rw [hr] at h
    simp only [takeN] at h
    split at h
    · cases r with
      | nil => simp at h
      | cons u r => simp at h; rw [h.1]; rfl
    · cases h
/-- An element of a row, read. -/
theorem RowR.get {α : Type} {H : AHeap} {R : Rp α} {sz : Nat} {a : Option Addr} {xs : List α} (h : RowR H R sz a xs) {i : Nat} {x : α} (hx : xs[i]? = some x) :
    ∃ ad cs, a = some ad ∧ ad.block < H.next ∧ H.loadN (ad.add (i * sz)) sz = some cs ∧ R H x cs := by
  rcases h with h | ⟨ad, cs, h1, h2, h3, h4⟩
  · rw [h] at hx; simp at hx
  · have hi : i < xs.length := (List.getElem?_eq_some_iff.1 hx).1
    refine ⟨ad, _, h1, h2, loadN_add h3 (i * sz) sz ?_, h4 i x hx⟩
    rw [← Nat.succ_mul]; exact Nat.mul_le_mul_right _ hi

/-! ### flat values, and structs with slices inside -/
def flat {α : Type} (enc : α → List Value) : Rp α := fun _ x cs => cs = enc x
theorem flat_ok {α : Type} {enc : α → List Value} {sz : Nat} (h : ∀ x, (enc x).length = sz) : RpOk (flat enc) sz := ⟨fun {_ x _} e => by rw [e, h], fun {_ _ _ _} _ e => e⟩
def encI : Int → List Value := fun x => [.int .i64 x]
theorem encI_ok : RpOk (flat encI) 1 := flat_ok fun _ => rfl
theorem RowR.getI {H : AHeap} {a : Option Addr} {xs : List Int} (h : RowR H (flat encI) 1 a xs) {i : Nat} {x : Int} (hx : xs[i]? = some x) :
    ∃ ad, a = some ad ∧ ad.block < H.next ∧ H.load1 (ad.add i) = some (.int .i64 x) := by
  obtain ⟨ad, cs, h1, h2, h3, h4⟩ := h.get hx
  refine ⟨ad, h1, h2, ?_⟩
  rw [show cs = [.int .i64 x] from h4, Nat.mul_one] at h3
  exact loadN_load1 h3
/-- One cell of what was read. -/
theorem loadN_at {H : AHeap} {a : Addr} {n : Nat} {l : List Value} (h : H.loadN a n = some l) {j : Nat} {v : Value} (hj : l[j]? = some v) : H.load1 (a.add j) = some v := by
  have hlen : l.length = n := by
    unfold AHeap.loadN at h
    cases hr : H.row a with
    | none => rw [hr] at h; cases h
    | some r =>
      rw [hr] at h
      simp only [takeN] at h
      split at h
      · cases h; simp; omega
      · cases h
  have hjn : j < n := by rw [← hlen]; exact (List.getElem?_eq_some_iff.1 hj).1
  have h2 := loadN_add h j 1 hjn
  have h3 : (l.drop j).take 1 = [v] := by
    rw [List.take_one]
    simp [hj]
  rw [h3] at h2
  exact loadN_load1 (n := 0) h2

/-! ### the program's records -/
structure LInstr where
  (op d a b imm : Int)
  deriving DecidableEq
structure LTerm where
  (kind a to els : Int)
  deriving DecidableEq
structure LMach where
  (op d a b imm dst src : Int)
  deriving DecidableEq
structure LPair where
  (v l : Int)
  deriving DecidableEq
structure LBlock where
  code : List LInstr
  term : LTerm
  deriving DecidableEq
structure LMBlock where
  code : List LMach
  term : LTerm
  deriving DecidableEq
structure LFunc where
  (args regs : Int)
  blocks : List LBlock
  deriving DecidableEq
structure LMFunc where
  (args regs slots : Int)
  blocks : List LMBlock
  deriving DecidableEq
structure LCert where
  s : LFunc
  t : LMFunc
  w : List (List LPair)
  deriving DecidableEq
theorem LPair.ext2 {x y : LPair} (h : x.v = y.v ∧ x.l = y.l) : x = y := by cases x; cases y; simp_all
theorem LTerm.ext2 {x y : LTerm} (h : x.kind = y.kind ∧ x.a = y.a ∧ x.to = y.to ∧ x.els = y.els) : x = y := by cases x; cases y; simp_all
theorem LInstr.ext2 {x y : LInstr} (h : x.op = y.op ∧ x.d = y.d ∧ x.a = y.a ∧ x.b = y.b ∧ x.imm = y.imm) : x = y := by cases x; cases y; simp_all
theorem LMach.ext2 {x y : LMach} (h : x.op = y.op ∧ x.d = y.d ∧ x.a = y.a ∧ x.b = y.b ∧ x.imm = y.imm ∧ x.dst = y.dst ∧ x.src = y.src) : x = y := by cases x; cases y; simp_all
theorem LBlock.ext2 {x y : LBlock} (h : x.code = y.code) (k : x.term = y.term) : x = y := by cases x; cases y; simp_all
theorem LMBlock.ext2 {x y : LMBlock} (h : x.code = y.code) (k : x.term = y.term) : x = y := by cases x; cases y; simp_all
theorem LFunc.ext2 {x y : LFunc} (h : x.args = y.args) (k : x.regs = y.regs) (l : x.blocks = y.blocks) : x = y := by cases x; cases y; simp_all
theorem LMFunc.ext2 {x y : LMFunc} (h : x.args = y.args) (k : x.regs = y.regs) (m : x.slots = y.slots) (l : x.blocks = y.blocks) : x = y := by cases x; cases y; simp_all
theorem LCert.eq_iff {x y : LCert} : x = y ↔ (x.s = y.s ∧ x.t = y.t ∧ x.w = y.w) := by cases x; cases y; simp
abbrev iv (x : Int) : Value := .int .i64 x
def encIn (x : LInstr) : List Value := [iv x.op, iv x.d, iv x.a, iv x.b, iv x.imm]
def encT (x : LTerm) : List Value := [iv x.kind, iv x.a, iv x.to, iv x.els]
def encM (x : LMach) : List Value := [iv x.op, iv x.d, iv x.a, iv x.b, iv x.imm, iv x.dst, iv x.src]
def encP (x : LPair) : List Value := [iv x.v, iv x.l]
theorem encIn_len (x : LInstr) : (encIn x).length = 5 := rfl
theorem encM_len (x : LMach) : (encM x).length = 7 := rfl
theorem encP_len (x : LPair) : (encP x).length = 2 := rfl
theorem encI_len (x : Int) : (encI x).length = 1 := rfl
theorem encIn_ok : RpOk (flat encIn) 5 := flat_ok fun _ => rfl
theorem encM_ok : RpOk (flat encM) 7 := flat_ok fun _ => rfl
theorem encP_ok : RpOk (flat encP) 2 := flat_ok fun _ => rfl
/-- a slice of slices -/
def rS {α : Type} (R : Rp α) (sz : Nat) : Rp (List α) := fun H x cs => ∃ v, cs = [v] ∧ SliceR H R sz v x
theorem rS_ok {α : Type} {R : Rp α} {sz : Nat} (ok : RpOk R sz) : RpOk (rS R sz) 1 := ⟨fun ⟨_, e, _⟩ => by rw [e]; rfl, fun s ⟨v, e, h⟩ => ⟨v, e, h.sub ok s⟩⟩
def rB : Rp LBlock := fun H b cs => ∃ v, cs = v :: encT b.term ∧ SliceR H (flat encIn) 5 v b.code
theorem rB_ok : RpOk rB 5 := ⟨fun ⟨_, e, _⟩ => by rw [e]; rfl, fun s ⟨v, e, h⟩ => ⟨v, e, h.sub encIn_ok s⟩⟩
def rMB : Rp LMBlock := fun H b cs => ∃ v, cs = v :: encT b.term ∧ SliceR H (flat encM) 7 v b.code
theorem rMB_ok : RpOk rMB 5 := ⟨fun ⟨_, e, _⟩ => by rw [e]; rfl, fun s ⟨v, e, h⟩ => ⟨v, e, h.sub encM_ok s⟩⟩
def rF : Rp LFunc := fun H f cs => ∃ v, cs = [iv f.args, iv f.regs, v] ∧ SliceR H rB 5 v f.blocks
theorem rF_ok : RpOk rF 3 := ⟨fun ⟨_, e, _⟩ => by rw [e]; rfl, fun s ⟨v, e, h⟩ => ⟨v, e, h.sub rB_ok s⟩⟩
def rMF : Rp LMFunc := fun H f cs => ∃ v, cs = [iv f.args, iv f.regs, iv f.slots, v] ∧ SliceR H rMB 5 v f.blocks
theorem rMF_ok : RpOk rMF 4 := ⟨fun ⟨_, e, _⟩ => by rw [e]; rfl, fun s ⟨v, e, h⟩ => ⟨v, e, h.sub rMB_ok s⟩⟩
def rW : Rp (List (List LPair)) := rS (rS (flat encP) 2) 1
theorem rW_ok : RpOk rW 1 := rS_ok (rS_ok encP_ok)
def rC : Rp LCert := fun H c cs => ∃ s t w, cs = s ++ t ++ w ∧ rF H c.s s ∧ rMF H c.t t ∧ rW H c.w w
theorem rC_ok : RpOk rC 8 := ⟨fun ⟨s, t, w, e, h1, h2, h3⟩ => by rw [e]; simp [rF_ok.len h1, rMF_ok.len h2, rW_ok.len h3], fun s ⟨a, b, c, e, h1, h2, h3⟩ => ⟨a, b, c, e, rF_ok.sub s h1, rMF_ok.sub s h2, rW_ok.sub s h3⟩⟩

theorem flat_get {α : Type} {enc : α → List Value} {sz : Nat} (hsz : ∀ x, (enc x).length = sz) : ∀ (xs : List α) (i : Nat) (x : α) (r : List Value), xs[i]? = some x → (((xs.map enc).flatten ++ r).drop (i * sz)).take sz = enc x
  | [], i, x, r, h => by simp at h
  | y :: xs, 0, x, r, h => by
    simp only [List.getElem?_cons_zero, Option.some.injEq] at h
    subst h
    simp only [List.map_cons, List.flatten_cons, Nat.zero_mul, List.drop_zero, List.append_assoc]
    rw [← hsz y, List.take_left']
    rfl
  | y :: xs, i + 1, x, r, h => by
    simp only [List.getElem?_cons_succ] at h
    have ih := flat_get hsz xs i x r h
    simp only [List.map_cons, List.flatten_cons, List.append_assoc]
    rw [Nat.succ_mul, Nat.add_comm, ← List.drop_drop]
    have : List.drop sz (enc y ++ ((xs.map enc).flatten ++ r)) = (xs.map enc).flatten ++ r := by
      rw [← hsz y, List.drop_left']; rfl
    rw [this]; exact ih
theorem flat_len {α : Type} {enc : α → List Value} {sz : Nat} (hsz : ∀ x, (enc x).length = sz) : ∀ (xs : List α), ((xs.map enc).flatten).length = xs.length * sz
  | [] => by simp
  | y :: xs => by simp only [List.map_cons, List.flatten_cons, List.length_append, flat_len hsz xs, hsz, List.length_cons, Nat.succ_mul]; omega
/-- A row of the call's own, filled with flat values, reads as their list. -/
theorem SliceR.own {α : Type} {enc : α → List Value} {sz : Nat} (hsz : ∀ x, (enc x).length = sz) {H : AHeap} {b : Nat} {c : List Value} {el : TypeId} {m n k : Nat} (xs : List α) (hb : H.at_ b = some (.cells c el m)) (hlt : b < H.next) (hc : c = (xs.map enc).flatten) (hn : n = xs.length) (hk : n ≤ k) (hm : k ≤ maxLen) : SliceR H (flat enc) sz (.slice (some ⟨b, 0, none⟩) n k) xs := by
  subst hn
  refine ⟨_, _, rfl, hk, hm, .inr ⟨_, c, rfl, hlt, ?_, fun i x hx => ?_⟩⟩
  · rw [loadN_mk, hb, rowO_cells, List.drop_zero]
    have := flat_len hsz xs
    rw [← hc] at this
    simp only [takeN]
    rw [if_pos (by omega), ← this, List.take_length]
  · have := flat_get hsz xs i x [] hx
    rw [List.append_nil, ← hc] at this
    exact this

theorem flat_all {α : Type} {enc : α → List Value} {sz : Nat} (hsz : ∀ x, (enc x).length = sz) : ∀ (xs : List α) (cs : List Value), cs.length = xs.length * sz → (∀ i x, xs[i]? = some x → (cs.drop (i * sz)).take sz = enc x) → cs = (xs.map enc).flatten
  | [], cs, hl, _ => by simpa using hl
  | y :: xs, cs, hl, h => by
    have h0 := h 0 y rfl
    rw [Nat.zero_mul, List.drop_zero] at h0
    have ih := flat_all hsz xs (cs.drop sz) (by rw [List.length_drop, hl, List.length_cons, Nat.succ_mul]; omega) fun i x hx => by
      have := h (i + 1) x (by simpa using hx)
      rw [Nat.succ_mul, Nat.add_comm, ← List.drop_drop] at this
      exact this
    rw [List.map_cons, List.flatten_cons, ← ih, ← h0, List.take_append_drop]
/-- A flat slice, read whole. -/
theorem SliceR.all {α : Type} {enc : α → List Value} {sz : Nat} (hsz : ∀ x, (enc x).length = sz) {H : AHeap} {v : Value} {xs : List α} (h : SliceR H (flat enc) sz v xs) : ∃ a c, v = .slice a xs.length c ∧ ((xs.length = 0 ∧ (xs.map enc).flatten = []) ∨ ∃ ad, a = some ad ∧ H.loadN ad (xs.length * sz) = some (xs.map enc).flatten) := by
  obtain ⟨a, c, h1, h2, h3, h4⟩ := h
  refine ⟨a, c, h1, ?_⟩
  rcases h4 with e | ⟨ad, cs, ha, hb, hl, hx⟩
  · subst e; exact .inl ⟨rfl, rfl⟩
  · refine .inr ⟨ad, ha, ?_⟩
    have hlen : cs.length = xs.length * sz := by
      unfold AHeap.loadN at hl
      cases hr : H.row ad with
      | none => rw [hr] at hl; cases hl
      | some r =>
        rw [hr] at hl
        simp only [takeN] at hl
        split at hl
        · cases hl; simp; omega
        · cases hl
    rw [hl, flat_all hsz xs cs hlen hx]

/-- 'append' of a flat slice to one of the call's own. -/
theorem appE_flat {P : Program} {α : Type} {enc : α → List Value} {sz by_ : Nat} {z : List Value} {t el : TypeId} {v x : Value} {H : AHeap} {K : Value → AHeap → Prop} (hsz : ∀ x, (enc x).length = sz) (xs ys : List α) (hel : elm P t = some el) (hs : tsz P el = some sz) (hby : tby P el = some by_) (hz : zc P el = some z) (hzl : z.length = sz) (h0 : 0 < sz)
    (ho : OwnV H v el sz xs.length (xs.map enc).flatten) (hy : SliceR H (flat enc) sz x ys) (hfl : flatL (ys.map enc).flatten) (hmax : xs.length + ys.length ≤ maxLen ∧ (xs.length + ys.length) * by_ ≤ 140737488355328)
    (h : ∀ v' H', HLt H' → OwnV H' v' el sz (xs ++ ys).length ((xs ++ ys).map enc).flatten → Chg H v H' v' → (v' = .slice none 0 0 ↔ v = .slice none 0 0 ∧ ys.length = 0) → K v' H') : appE P t v x H K := by
  obtain ⟨a, c, rfl, hx⟩ := hy.all hsz
  exact ⟨el, sz, by_, xs.length, _, ys.length, _, a, c, hel, hs, hby, ⟨z, hz, hzl⟩, h0, ho, rfl, hx, hfl, hmax.1, hmax.2, fun v' H' h0 h1 h2 h3 => h v' H' h0 (by simpa using h1) h2 h3⟩

/-- What a slice's value says. -/
theorem SliceR.open {α : Type} {H : AHeap} {R : Rp α} {sz : Nat} {v : Value} {xs : List α} (h : SliceR H R sz v xs) : ∃ a c, v = .slice a xs.length c ∧ xs.length ≤ c ∧ c ≤ 9223372036854775807 ∧ RowR H R sz a xs := by
  obtain ⟨a, c, h1, h2, h3, h4⟩ := h
  exact ⟨a, c, h1, h2, by simpa [maxLen] using h3, h4⟩
theorem RowR.getB {H : AHeap} {a : Option Addr} {xs : List LBlock} (h : RowR H rB 5 a xs) {i : Nat} (hi : i < xs.length) :
    ∃ x ad v, xs[i]? = some x ∧ a = some ad ∧ ad.block < H.next ∧ H.loadN (ad.add (i * 5)) 5 = some (v :: encT x.term) ∧ H.load1 (ad.add (i * 5)) = some v ∧ SliceR H (flat encIn) 5 v x.code := by
  obtain ⟨ad, cs, h1, h2, h3, v, rfl, h5⟩ := h.get (List.getElem?_eq_getElem hi)
  exact ⟨xs[i], ad, v, List.getElem?_eq_getElem hi, h1, h2, h3, loadN_load1 (n := 4) h3, h5⟩
theorem RowR.getMB {H : AHeap} {a : Option Addr} {xs : List LMBlock} (h : RowR H rMB 5 a xs) {i : Nat} (hi : i < xs.length) :
    ∃ x ad v, xs[i]? = some x ∧ a = some ad ∧ ad.block < H.next ∧ H.loadN (ad.add (i * 5)) 5 = some (v :: encT x.term) ∧ H.load1 (ad.add (i * 5)) = some v ∧ SliceR H (flat encM) 7 v x.code := by
  obtain ⟨ad, cs, h1, h2, h3, v, rfl, h5⟩ := h.get (List.getElem?_eq_getElem hi)
  exact ⟨xs[i], ad, v, List.getElem?_eq_getElem hi, h1, h2, h3, loadN_load1 (n := 4) h3, h5⟩
theorem RowR.getF {α : Type} {enc : α → List Value} {sz : Nat} {H : AHeap} {a : Option Addr} {xs : List α} (h : RowR H (flat enc) sz a xs) {i : Nat} (hi : i < xs.length) :
    ∃ x ad, xs[i]? = some x ∧ a = some ad ∧ ad.block < H.next ∧ H.loadN (ad.add (i * sz)) sz = some (enc x) := by
  obtain ⟨ad, cs, h1, h2, h3, rfl⟩ := h.get (List.getElem?_eq_getElem hi)
  exact ⟨xs[i], ad, List.getElem?_eq_getElem hi, h1, h2, h3⟩
theorem RowR.getS {α : Type} {R : Rp α} {sz : Nat} {H : AHeap} {a : Option Addr} {xs : List (List α)} (h : RowR H (rS R sz) 1 a xs) {i : Nat} (hi : i < xs.length) :
    ∃ x ad v, xs[i]? = some x ∧ a = some ad ∧ ad.block < H.next ∧ H.load1 (ad.add i) = some v ∧ SliceR H R sz v x := by
  obtain ⟨ad, cs, h1, h2, h3, v, rfl, h5⟩ := h.get (List.getElem?_eq_getElem hi)
  rw [Nat.mul_one] at h3
  exact ⟨xs[i], ad, v, List.getElem?_eq_getElem hi, h1, h2, loadN_load1 (n := 0) h3, h5⟩
end Go.Proofs.YteklhgmoniaieaaAh
