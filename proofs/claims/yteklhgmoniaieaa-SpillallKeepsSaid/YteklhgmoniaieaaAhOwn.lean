/- Slices of the call's own, flat and nested; a heap behind a call or an append, told by what stays of the heap ahead. -/
import Derived.Test.YteklhgmoniaieaaAhRep
set_option linter.unusedVariables false
set_option linter.unusedSimpArgs false
namespace Go.Proofs.YteklhgmoniaieaaAh

/-- H', told as H1 and what lies beside it. -/
def AHeap.ov (H1 H' : AHeap) (_ : Sub H1 H') : AHeap := H'
@[simp] theorem next_ov (H1 H' : AHeap) (s : Sub H1 H') : (AHeap.ov H1 H' s).next = H'.next := rfl
@[simp] theorem at_ov (H1 H' : AHeap) (s : Sub H1 H') (x : Nat) : (AHeap.ov H1 H' s).at_ x = (H1.at_ x).or (H'.at_ x) := by
  cases h : H1.at_ x with
  | none => rfl
  | some o => exact s.at_ x o h
theorem loadN_ov (H1 H' : AHeap) (s : Sub H1 H') (a : Addr) (n : Nat) : (AHeap.ov H1 H' s).loadN a n = (H1.loadN a n).or (H'.loadN a n) := by
  cases h : H1.loadN a n with
  | none => rfl
  | some o => exact s.loadN h
theorem load1_ov (H1 H' : AHeap) (s : Sub H1 H') (a : Addr) : (AHeap.ov H1 H' s).load1 a = (H1.load1 a).or (H'.load1 a) := by
  cases h : H1.load1 a with
  | none => rfl
  | some o => exact s.load1 h
/-- An old row is read in H1, a new one in H'. -/
@[simp] theorem loadN_ov_l (H1 H' : AHeap) (s : Sub H1 H') (a : Addr) (j n : Nat) (_ : a.block < H1.next) : (AHeap.ov H1 H' s).loadN (a.add j) n = (H1.loadN (a.add j) n).or (H'.loadN (a.add j) n) := loadN_ov ..
@[simp] theorem load1_ov_l (H1 H' : AHeap) (s : Sub H1 H') (a : Addr) (j : Nat) (_ : a.block < H1.next) : (AHeap.ov H1 H' s).load1 (a.add j) = (H1.load1 (a.add j)).or (H'.load1 (a.add j)) := load1_ov ..
@[simp] theorem loadN_ov_r (H1 H' : AHeap) (s : Sub H1 H') (a : Addr) (j n : Nat) (_ : H1.next ≤ a.block) : (AHeap.ov H1 H' s).loadN (a.add j) n = H'.loadN (a.add j) n := rfl
@[simp] theorem load1_ov_r (H1 H' : AHeap) (s : Sub H1 H') (a : Addr) (j : Nat) (_ : H1.next ≤ a.block) : (AHeap.ov H1 H' s).load1 (a.add j) = H'.load1 (a.add j) := rfl
attribute [simp] Option.or_some Option.none_or
theorem Sub.nexts {H1 H' : AHeap} (_ : Sub H1 H') : H1.next = H1.next := rfl
theorem Sub.ov {H0 H1 H' : AHeap} (s : Sub H1 H') (h : Sub H0 H1) : Sub H0 (AHeap.ov H1 H' s) := h.trans s
theorem Sub.ov_r {H0 H1 H' : AHeap} (s : Sub H1 H') (h : Sub H0 H') : Sub H0 (AHeap.ov H1 H' s) := h

/-- The number of a slice's block. -/
def ownId : Value → Int
  | .slice (some a) _ _ => a.block
  | _ => -1
@[simp] theorem ownId_nil (n c : Nat) : ownId (.slice none n c) = -1 := rfl
@[simp] theorem ownId_some (a : Addr) (n c : Nat) : ownId (.slice (some a) n c) = a.block := rfl
theorem ownId_mk (b o n c : Nat) : ownId (.slice (some ⟨b, o, none⟩) n c) = (b : Int) := rfl
theorem ownId_eq {v : Value} {x : Nat} (h : v.ownBlock = some x) : ownId v = x := by
  cases v <;> simp [Value.ownBlock] at h
  rename_i a n c
  cases a with
  | none => simp at h
  | some a => simp at h; simp [h]
def AHeap.delV (H : AHeap) (g : Int) : AHeap := ⟨H.next, fun x => if g = (x : Int) then none else H.at_ x⟩
@[simp] theorem next_delV (H : AHeap) (g : Int) : (H.delV g).next = H.next := rfl
@[simp] theorem at_delV_self (H : AHeap) (b : Nat) : (H.delV (b : Int)).at_ b = none := by simp [AHeap.delV]
@[simp] theorem at_delV_ne (H : AHeap) (g : Int) (x : Nat) (h : g ≠ (x : Int)) : (H.delV g).at_ x = H.at_ x := by simp [AHeap.delV, h]
theorem row_delV (H : AHeap) (g : Int) (a : Addr) (h : g ≠ (a.block : Int)) : (H.delV g).row a = H.row a := by unfold AHeap.row; rw [at_delV_ne _ _ _ h]
@[simp] theorem loadN_delV (H : AHeap) (g : Int) (a : Addr) (j n : Nat) (h : g ≠ (a.block : Int)) : (H.delV g).loadN (a.add j) n = H.loadN (a.add j) n := by
  rw [AHeap.loadN, AHeap.loadN, row_delV]; simpa using h
@[simp] theorem load1_delV (H : AHeap) (g : Int) (a : Addr) (j : Nat) (h : g ≠ (a.block : Int)) : (H.delV g).load1 (a.add j) = H.load1 (a.add j) := by
  rw [AHeap.load1, AHeap.load1, row_delV]; simpa using h
theorem row_delV_self (H : AHeap) (g : Int) (a : Addr) (h : g = (a.block : Int)) : (H.delV g).row a = none := by
  unfold AHeap.row
  subst h
  rw [at_delV_self]
  split <;> rfl
@[simp] theorem loadN_delV_self (H : AHeap) (g : Int) (a : Addr) (j n : Nat) (h : g = (a.block : Int)) : (H.delV g).loadN (a.add j) n = none := by
  rw [AHeap.loadN, row_delV_self]; rfl
  simpa using h
@[simp] theorem load1_delV_self (H : AHeap) (g : Int) (a : Addr) (j : Nat) (h : g = (a.block : Int)) : (H.delV g).load1 (a.add j) = none := by
  rw [AHeap.load1, row_delV_self]; rfl
  simpa using h
theorem Sub.delV {H0 H : AHeap} (s : Sub H0 H) {g : Int} (h : g < 0 ∨ H0.next ≤ g) : Sub H0 (H.delV g) :=
  ⟨s.next, s.lt, fun b o hb => by
    have h1 := s.lt b o hb
    rw [at_delV_ne _ _ _ (by omega)]
    exact s.at_ b o hb⟩
theorem Sub.delV_n {H0 H : AHeap} (s : Sub H0 H) {g : Int} (h : ∀ b : Nat, g = b → H0.at_ b = none) : Sub H0 (H.delV g) :=
  ⟨s.next, s.lt, fun b o hb => by
    rw [at_delV_ne]
    · exact s.at_ b o hb
    · intro e; rw [h b e] at hb; cases hb⟩
theorem Sub.delV_g {H0 H : AHeap} (s : Sub H0 H) {g j : Int} (hj : ∀ b : Nat, j = b → H0.at_ b = none) (h : g < 0 ∨ g = j ∨ H0.next ≤ g) : Sub H0 (H.delV g) := by
  refine s.delV_n fun b hb => ?_
  rcases h with h | h | h
  · omega
  · exact hj b (by omega)
  · cases hq : H0.at_ b with
    | none => rfl
    | some o => have := s.lt b o hq; omega
theorem Sub.delV_d0 {X H : AHeap} {g j : Int} (s : Sub (X.delV j) H) (h : g < 0 ∨ g = j ∨ X.next ≤ g) : Sub (X.delV j) (H.delV g) :=
  s.delV_g (j := j) (fun b hb => by simp [AHeap.delV, hb]) h
theorem Sub.delV_d1 {X H : AHeap} {g j : Int} {c : Nat} (s : Sub ((X.delV j).del c) H) (h : g < 0 ∨ g = j ∨ X.next ≤ g) : Sub ((X.delV j).del c) (H.delV g) :=
  s.delV_g (j := j) (fun b hb => by simp [AHeap.delV, AHeap.del, hb]) h
theorem Sub.delV_d2 {X H : AHeap} {g j : Int} {c d : Nat} (s : Sub (((X.delV j).del c).del d) H) (h : g < 0 ∨ g = j ∨ X.next ≤ g) : Sub (((X.delV j).del c).del d) (H.delV g) :=
  s.delV_g (j := j) (fun b hb => by simp [AHeap.delV, AHeap.del, hb]) h
theorem Chg.sub {H H' : AHeap} {v v' : Value} (h : HLt H) (c : Chg H v H' v') : Sub (H.delV (ownId v)) H' :=
  ⟨c.next, fun b o hb => by
    simp only [AHeap.delV] at hb
    split at hb
    · cases hb
    · exact h b o hb, fun b o hb => by
    simp only [AHeap.delV] at hb
    split at hb
    · cases hb
    · rename_i hne
      exact c.at_ b o hb fun e => hne (ownId_eq e)⟩

/-- A slice of the call's own that reads as xs. -/
def OwnS {α : Type} (H : AHeap) (v : Value) (el : TypeId) (sz : Nat) (enc : α → List Value) (xs : List α) : Prop := OwnV H v el sz xs.length (xs.map enc).flatten
theorem OwnS.id_lt {α : Type} {H : AHeap} {v : Value} {el : TypeId} {sz : Nat} {enc : α → List Value} {xs : List α} (hl : HLt H) (h : OwnS H v el sz enc xs) : ownId v < H.next := by
  rcases h.2 with ⟨rfl, _⟩ | ⟨b, cap, rfl, _, _, h3⟩
  · simp; omega
  · have := hl b _ h3; simpa using this
theorem OwnS.nil {α : Type} {H : AHeap} {el : TypeId} {sz : Nat} {enc : α → List Value} : OwnS H (.slice none 0 0) el sz enc [] := ⟨by simp, .inl ⟨rfl, rfl⟩⟩
theorem OwnS.tr {α : Type} {H X : AHeap} {v : Value} {el : TypeId} {sz : Nat} {enc : α → List Value} {xs : List α} (h : OwnS H v el sz enc xs) (k : ∀ b : Nat, ownId v = b → X.at_ b = H.at_ b) : OwnS X v el sz enc xs := by
  refine ⟨h.1, ?_⟩
  rcases h.2 with h2 | ⟨b, cap, rfl, h1, h2, h3⟩
  · exact .inl h2
  · exact .inr ⟨b, cap, rfl, h1, h2, by rw [k b (by simp)]; exact h3⟩
theorem OwnS.slice {α : Type} {H : AHeap} {v : Value} {el : TypeId} {sz : Nat} {enc : α → List Value} {xs : List α} (hl : HLt H) (hsz : ∀ x, (enc x).length = sz) (h : OwnS H v el sz enc xs) : SliceR H (flat enc) sz v xs := by
  rcases h.2 with ⟨rfl, h0⟩ | ⟨b, cap, rfl, h1, h2, h3⟩
  · obtain rfl := List.eq_nil_of_length_eq_zero h0
    exact ⟨none, 0, rfl, by simp, by simp [maxLen], .inl rfl⟩
  · exact SliceR.own hsz xs h3 (hl _ _ h3) rfl rfl h1 h2
theorem OwnS.cells {α : Type} {H : AHeap} {v : Value} {el : TypeId} {sz : Nat} {enc : α → List Value} {xs : List α} (h : OwnS H v el sz enc xs) : v.cells = #[v] := by
  rcases h.2 with ⟨rfl, _⟩ | ⟨b, cap, rfl, _, _, _⟩ <;> rfl
theorem OwnS.one {α : Type} {H : AHeap} {v : Value} {el : TypeId} {sz : Nat} {enc : α → List Value} {xs : List α} (h : OwnS H v el sz enc xs) : v.oneCell' = true := by
  rcases h.2 with ⟨rfl, _⟩ | ⟨b, cap, rfl, _, _, _⟩ <;> rfl
theorem SliceR.cells {α : Type} {H : AHeap} {R : Rp α} {sz : Nat} {v : Value} {xs : List α} (h : SliceR H R sz v xs) : v.cells = #[v] := by
  obtain ⟨a, c, rfl, _⟩ := h; rfl
theorem SliceR.one {α : Type} {H : AHeap} {R : Rp α} {sz : Nat} {v : Value} {xs : List α} (h : SliceR H R sz v xs) : v.oneCell' = true := by
  obtain ⟨a, c, rfl, _⟩ := h; rfl
/-- A row that was just made. -/
theorem OwnS.mk {α : Type} {H : AHeap} {b n cap m : Nat} {c : List Value} {el : TypeId} {sz : Nat} {enc : α → List Value} (xs : List α) (hb : H.at_ b = some (.cells c el m)) (hsz : ∀ x, (enc x).length = sz) (hc : c = (xs.map enc).flatten) (hn : n = xs.length) (h1 : n ≤ cap) (h2 : cap ≤ maxLen) (hm : m = cap * sz) : OwnS H (.slice (some ⟨b, 0, none⟩) n cap) el sz enc xs := by
  subst hn; subst hc; subst hm
  exact ⟨flat_len hsz xs, .inr ⟨b, cap, rfl, h1, h2, hb⟩⟩

section
variable {P : Program} {ops : Array Oper} {Q : Post} {K : Env → AHeap → Prop} {o : Oper} {r : List Oper} {l : List (Nat × Value)} {ds : List Deferred} {H : AHeap} {d : Nat} {v : Value}
theorem appE_own {α : Type} {enc : α → List Value} {sz by_ : Nat} {z : List Value} {t el : TypeId} {v x : Value} {H : AHeap} {K : Value → AHeap → Prop} {xs ys : List α} {g : Int} (hgi : ownId v = g) (hl : HLt H) (ho : OwnS H v el sz enc xs) (hy : SliceR H (flat enc) sz x ys) (hsz : ∀ x, (enc x).length = sz) (hel : elm P t = some el) (hs : tsz P el = some sz) (hby : tby P el = some by_) (hz : zc P el = some z) (hzl : z.length = sz ∧ 0 < sz)
    (hfl : ∀ x ∈ ys, flatL (enc x)) (hmax : xs.length + ys.length ≤ maxLen ∧ (xs.length + ys.length) * by_ ≤ 140737488355328)
    (h : ∀ v' H' (s : Sub (H.delV g) H'), HLt H' → OwnS H' v' el sz enc (xs ++ ys) → (ownId v' = -1 ∨ ownId v' = g ∨ H.next ≤ ownId v') → ownId v' < H'.next → (v' = .slice none 0 0 ↔ v = .slice none 0 0 ∧ ys.length = 0) → K v' (AHeap.ov (H.delV g) H' s)) : appE P t v x H K := by
  subst hgi
  refine appE_flat hsz xs ys hel hs hby hz hzl.1 hzl.2 ho hy ?_ hmax fun v' H' hlt h1 h2 h3 => ?_
  · intro u hu
    obtain ⟨l, hl, hu⟩ := List.mem_flatten.1 hu
    obtain ⟨y, hy', rfl⟩ := List.mem_map.1 hl
    exact hfl y hy' u hu
  · refine h v' H' (h2.sub hl) hlt h1 ?_ (OwnS.id_lt hlt h1) h3
    rcases (show OwnV H' v' el sz _ _ from h1).2 with ⟨rfl, _⟩ | ⟨b, cap, rfl, _, _, _⟩
    · exact .inl rfl
    · rcases h2.own b rfl with h4 | h4
      · exact .inr (.inl (by rw [ownId_eq h4]; rfl))
      · exact .inr (.inr (by simp; exact h4))
theorem aops_appS {α : Type} {enc : α → List Value} {sz by_ : Nat} {z : List Value} {t el : TypeId} {xs ys : List α} {c : Call} {s x : Operand} {u1 u2 : Value} (hg : o.guard = none) (hop : o.op = .call c) (hc : c.callee = .builtin .append) (hargs : c.args.toList = [s, x]) (htys : c.argTypes.toList = [t, t]) (hd : o.dst = some d) (hs : (⟨l, ds⟩ : Env).eval s = some u1) (hx : (⟨l, ds⟩ : Env).eval x = some u2)
    {g : Int} (hgi : ownId u1 = g) (ho : OwnS H u1 el sz enc xs) (hy : SliceR H (flat enc) sz u2 ys) (hl : HLt H) (hsz : ∀ x, (enc x).length = sz) (hel : elm P t = some el) (hs' : tsz P el = some sz) (hby : tby P el = some by_) (hz : zc P el = some z) (hzl : z.length = sz ∧ 0 < sz) (hfl : ∀ x ∈ ys, flatL (enc x)) (hmax : xs.length + ys.length ≤ maxLen ∧ (xs.length + ys.length) * by_ ≤ 140737488355328)
    (h : ∀ v' H' (s : Sub (H.delV g) H'), HLt H' → OwnS H' v' el sz enc (xs ++ ys) → (ownId v' = -1 ∨ ownId v' = g ∨ H.next ≤ ownId v') → ownId v' < H'.next → (v' = .slice none 0 0 ↔ u1 = .slice none 0 0 ∧ ys.length = 0) → AOps P ops Q K r ⟨(d, v') :: l, ds⟩ (AHeap.ov (H.delV g) H' s)) : AOps P ops Q K (o :: r) ⟨l, ds⟩ H :=
  aops_app hg hop hc hargs htys hd hs hx (appE_own hgi hl ho hy hsz hel hs' hby hz hzl hfl hmax h)
theorem ACallsE.hlt {f : FuncId} {args : Array Value} {R : Ending → AHeap → Prop} (h : ACallsE P f args H R) : ACallsE P f args H fun e H' => HLt H' ∧ R e H' :=
  ⟨h.1, fun w hr => (h.2 w hr).mono fun e w' ⟨H', s, hR⟩ => ⟨H', s, s.rel.lt, hR⟩⟩
theorem ACalls.hlt {f : FuncId} {args : Array Value} {R : Value → AHeap → Prop} (h : ACalls P f args H R) : ACalls P f args H fun v H' => HLt H' ∧ R v H' :=
  ACallsE.mono (ACallsE.hlt h) fun e H' ⟨h1, v, h2, h3⟩ => ⟨v, h2, h1, h3⟩
/-- A call by its contract: the heap behind it, told by what stays. -/
theorem aops_callR {c : Call} {F : FuncId} {vs : List Value} {H1 : AHeap} {R : Value → AHeap → Prop} (hg : o.guard = none) (hop : o.op = .call c) (hc : c.callee = .value (.func F)) (hd : o.dst = some d) (hv : evalL ⟨l, ds⟩ c.args.toList = some vs) (hk : ACalls P F vs.toArray H fun v H' => Sub H1 H' ∧ R v H')
    (h : ∀ v H' (s : Sub H1 H'), HLt H' → R v H' → AOps P ops Q K r ⟨(d, v) :: l, ds⟩ (AHeap.ov H1 H' s)) : AOps P ops Q K (o :: r) ⟨l, ds⟩ H :=
  aops_call hg hop hc hv hk.hlt fun v H' ⟨hlt, s, hR⟩ => by rw [put_some hd]; exact h v H' s hlt hR
/-- The same, where the guard lets it run. -/
theorem aops_callRw {c : Call} {F : FuncId} {vs : List Value} {H1 : AHeap} {R : Value → AHeap → Prop} (hw : wantE ops ⟨l, ds⟩ o = some true) (hop : o.op = .call c) (hc : c.callee = .value (.func F)) (hd : o.dst = some d) (hv : evalL ⟨l, ds⟩ c.args.toList = some vs) (hk : ACalls P F vs.toArray H fun v H' => Sub H1 H' ∧ R v H')
    (h : ∀ v H' (s : Sub H1 H'), HLt H' → R v H' → AOps P ops Q K r ⟨(d, v) :: l, ds⟩ (AHeap.ov H1 H' s)) : AOps P ops Q K (o :: r) ⟨l, ds⟩ H := by
  simp only [AOps, hw]
  rw [Br_true, if_pos (by rw [hop]; simp [isEff, hc])]
  unfold est
  simp only [hop, hc, hv, Env.eval]
  have e1 : (#[] : Array Value) ++ vs.toArray ++ #[] = vs.toArray := by simp
  rw [e1]
  refine acall hk.hlt fun v H' ⟨hlt, s, hR⟩ => ?_
  rw [put_some hd]; exact h v H' s hlt hR
variable {KW : Env → AHeap → List (Nat × Watch) → Prop} {W W2 : List (Nat × Watch)} {i : Nat} {rs : List Nat}
theorem awd_callR {c : Call} {F : FuncId} {vs : List Value} {H1 : AHeap} {R : Value → AHeap → Prop} (ho : ops[i]? = some o) (hg : o.guard = none) (hop : o.op = .call c) (hc : c.callee = .value (.func F)) (hd : o.dst = some d) (hW : fltW ops i W = W2) (hv : evalL ⟨l, ds⟩ c.args.toList = some vs) (hk : ACalls P F vs.toArray H fun v H' => Sub H1 H' ∧ R v H')
    (h : ∀ v H' (s : Sub H1 H'), HLt H' → R v H' → Wt P W2 (AHeap.ov H1 H' s) ∧ AWd P ops Q KW rs ⟨(d, v) :: l, ds⟩ (AHeap.ov H1 H' s) W2) : AWd P ops Q KW (i :: rs) ⟨l, ds⟩ H W := by
  refine awd_eff ho hg (by rw [hop]; simp [isEff, hc]) hW ?_
  unfold est
  simp only [hop, hc, hv, Env.eval]
  have e1 : (#[] : Array Value) ++ vs.toArray ++ #[] = vs.toArray := by simp
  rw [e1]
  refine acall hk.hlt fun v H' ⟨hlt, s, hR⟩ => ?_
  rw [put_some hd]
  exact h v H' s hlt hR
theorem awd_appS {α : Type} {enc : α → List Value} {sz by_ : Nat} {z : List Value} {t el : TypeId} {xs ys : List α} {c : Call} {s x : Operand} {u1 u2 : Value} (hoi : ops[i]? = some o) (hg : o.guard = none) (hop : o.op = .call c) (hc : c.callee = .builtin .append) (hargs : c.args.toList = [s, x]) (htys : c.argTypes.toList = [t, t]) (hd : o.dst = some d) (hW : fltW ops i W = W2) (hs : (⟨l, ds⟩ : Env).eval s = some u1) (hx : (⟨l, ds⟩ : Env).eval x = some u2)
    {g : Int} (hgi : ownId u1 = g) (ho : OwnS H u1 el sz enc xs) (hy : SliceR H (flat enc) sz u2 ys) (hl : HLt H) (hsz : ∀ x, (enc x).length = sz) (hel : elm P t = some el) (hs' : tsz P el = some sz) (hby : tby P el = some by_) (hz : zc P el = some z) (hzl : z.length = sz ∧ 0 < sz) (hfl : ∀ x ∈ ys, flatL (enc x)) (hmax : xs.length + ys.length ≤ maxLen ∧ (xs.length + ys.length) * by_ ≤ 140737488355328)
    (h : ∀ v' H' (s : Sub (H.delV g) H'), HLt H' → OwnS H' v' el sz enc (xs ++ ys) → (ownId v' = -1 ∨ ownId v' = g ∨ H.next ≤ ownId v') → ownId v' < H'.next → (v' = .slice none 0 0 ↔ u1 = .slice none 0 0 ∧ ys.length = 0) → Wt P W2 (AHeap.ov (H.delV g) H' s) ∧ AWd P ops Q KW rs ⟨(d, v') :: l, ds⟩ (AHeap.ov (H.delV g) H' s) W2) : AWd P ops Q KW (i :: rs) ⟨l, ds⟩ H W :=
  awd_app hoi hg hop hc hargs htys hd hW hs hx (appE_own hgi hl ho hy hsz hel hs' hby hz hzl hfl hmax h)
end

/-! ### nested -/
/-- All that is known from lo on stays known, but for rows of el. -/
def KeepT (H X : AHeap) (lo : Nat) (el : TypeId) : Prop := ∀ b o, lo ≤ b → H.at_ b = some o → (∀ c m, o ≠ .cells c el m) → X.at_ b = some o
theorem KeepT.app {α : Type} {H H' : AHeap} {v : Value} {el : TypeId} {sz lo : Nat} {enc : α → List Value} {xs : List α} (s : Sub (H.delV (ownId v)) H') (h : OwnS H v el sz enc xs) : KeepT H H' lo el := by
  intro b o _ hb hne
  refine s.at_ b o ?_
  rw [at_delV_ne]
  · exact hb
  · rcases h.2 with ⟨rfl, _⟩ | ⟨g, cap, rfl, _, _, h3⟩
    · simp only [ownId_nil]; omega
    · simp only [ownId_some]
      intro e
      have e : g = b := by omega
      subst e
      rw [h3] at hb
      cases hb
      exact hne _ _ rfl
theorem KeepT.of {H X : AHeap} {lo : Nat} {el : TypeId} (hl : HLt H) (h : ∀ b, lo ≤ b → b < H.next → X.at_ b = H.at_ b) : KeepT H X lo el := fun b o h1 h2 _ => by rw [h b h1 (hl b o h2)]; exact h2
theorem KeepT.le {H X : AHeap} {lo lo' : Nat} {el : TypeId} (k : KeepT H X lo el) (h : lo ≤ lo') : KeepT H X lo' el := fun b o h1 h2 h3 => k b o (Nat.le_trans h h1) h2 h3
theorem KeepT.trans {A B C : AHeap} {lo : Nat} {el : TypeId} (h : KeepT A B lo el) (k : KeepT B C lo el) : KeepT A C lo el := fun b o h1 h2 h3 => k b o h1 (h b o h1 h2 h3) h3
/-- What lies within a row's elements. -/
abbrev Rin (Y X : Type) := AHeap → Nat → Y → X → Prop
structure RinOk {Y X : Type} (R : Rin Y X) (ts : List TypeId) : Prop where
  keep : ∀ {H H' : AHeap} {lo : Nat} {el : TypeId} {y : Y} {x : X}, KeepT H H' lo el → (∀ t ∈ ts, t ≠ el) → R H lo y x → R H' lo y x
  le : ∀ {H : AHeap} {lo lo' : Nat} {y : Y} {x : X}, lo' ≤ lo → R H lo y x → R H lo' y x
/-- A slice of the call's own, from block lo on, with what lies within. -/
def OwnN {Y X : Type} (H : AHeap) (lo : Nat) (v : Value) (el : TypeId) (sz : Nat) (enc : Y → List Value) (R : Rin Y X) (xs : List X) : Prop :=
  ∃ ys : List Y, ys.length = xs.length ∧ OwnS H v el sz enc ys ∧ (ownId v = -1 ∨ (lo : Int) ≤ ownId v) ∧ ∀ (i : Nat) (y : Y) (x : X), ys[i]? = some y → xs[i]? = some x → R H lo y x
def REq {X : Type} : Rin X X := fun _ _ y x => y = x
theorem REq_ok {X : Type} : RinOk (REq (X := X)) [] := ⟨fun _ _ h => h, fun _ h => h⟩
theorem OwnN.keep {Y X : Type} {H H' : AHeap} {lo : Nat} {v : Value} {el el0 : TypeId} {sz : Nat} {enc : Y → List Value} {R : Rin Y X} {ts : List TypeId} {xs : List X} (ok : RinOk R ts) (k : KeepT H H' lo el0) (h0 : ∀ t ∈ el :: ts, t ≠ el0) (h : OwnN H lo v el sz enc R xs) : OwnN H' lo v el sz enc R xs := by
  obtain ⟨ys, h1, h2, h3, h4⟩ := h
  refine ⟨ys, h1, ⟨h2.1, ?_⟩, h3, fun i y x hy hx => ok.keep k (fun t ht => h0 t (List.mem_cons_of_mem _ ht)) (h4 i y x hy hx)⟩
  rcases h2.2 with h5 | ⟨b, cap, rfl, h5, h6, h7⟩
  · exact .inl h5
  · refine .inr ⟨b, cap, rfl, h5, h6, k b _ ?_ h7 ?_⟩
    · simp at h3; omega
    · intro c m e
      cases e
      exact h0 el (List.mem_cons_self ..) rfl
theorem OwnN.le {Y X : Type} {H : AHeap} {lo lo' : Nat} {v : Value} {el : TypeId} {sz : Nat} {enc : Y → List Value} {R : Rin Y X} {ts : List TypeId} {xs : List X} (ok : RinOk R ts) (hl : lo' ≤ lo) (h : OwnN H lo v el sz enc R xs) : OwnN H lo' v el sz enc R xs := by
  obtain ⟨ys, h1, h2, h3, h4⟩ := h
  exact ⟨ys, h1, h2, by omega, fun i y x hy hx => ok.le hl (h4 i y x hy hx)⟩
def rN {Y X : Type} (el : TypeId) (sz : Nat) (enc : Y → List Value) (R : Rin Y X) : Rin Value (List X) := fun H lo v xs => OwnN H lo v el sz enc R xs
theorem rN_ok {Y X : Type} {el : TypeId} {sz : Nat} {enc : Y → List Value} {R : Rin Y X} {ts : List TypeId} (ok : RinOk R ts) : RinOk (rN el sz enc R) (el :: ts) :=
  ⟨fun k h0 h => OwnN.keep ok k h0 h, fun hl h => OwnN.le ok hl h⟩
theorem OwnN.nil {Y X : Type} {H : AHeap} {lo : Nat} {el : TypeId} {sz : Nat} {enc : Y → List Value} {R : Rin Y X} : OwnN H lo (.slice none 0 0) el sz enc R [] := ⟨[], rfl, OwnS.nil, .inl rfl, fun i y x h => by simp at h⟩
theorem OwnN.flat {X : Type} {H : AHeap} {lo : Nat} {v : Value} {el : TypeId} {sz : Nat} {enc : X → List Value} {xs : List X} (h : OwnN H lo v el sz enc REq xs) : OwnS H v el sz enc xs := by
  obtain ⟨ys, h1, h2, h3, h4⟩ := h
  have : ys = xs := by
    apply List.ext_getElem h1
    intro i h5 h6
    exact h4 i _ _ (List.getElem?_eq_getElem h5) (List.getElem?_eq_getElem h6)
  subst this
  exact h2
theorem OwnS.own {X : Type} {H : AHeap} {lo : Nat} {v : Value} {el : TypeId} {sz : Nat} {enc : X → List Value} {xs : List X} (h : OwnS H v el sz enc xs) (hlo : ownId v = -1 ∨ (lo : Int) ≤ ownId v) : OwnN H lo v el sz enc REq xs :=
  ⟨xs, rfl, h, hlo, fun i y x h1 h2 => by rw [h1] at h2; cases h2; rfl⟩
/-- One more element. -/
theorem OwnN.snoc {Y X : Type} {H' : AHeap} {lo : Nat} {v' : Value} {el : TypeId} {sz : Nat} {enc : Y → List Value} {R : Rin Y X} {ts : List TypeId} {xs : List X} {ys : List Y} {y : Y} {x : X} (hy : ys.length = xs.length) (h : OwnS H' v' el sz enc (ys ++ [y])) (hlo : ownId v' = -1 ∨ (lo : Int) ≤ ownId v')
    (h1 : ∀ (i : Nat) (y : Y) (x : X), ys[i]? = some y → xs[i]? = some x → R H' lo y x) (h2 : R H' lo y x) : OwnN H' lo v' el sz enc R (xs ++ [x]) := by
  refine ⟨ys ++ [y], by simp [hy], h, hlo, fun i u z hu hz => ?_⟩
  rcases Nat.lt_or_ge i ys.length with hi | hi
  · rw [List.getElem?_append_left hi] at hu
    rw [List.getElem?_append_left (by omega)] at hz
    exact h1 i u z hu hz
  · rw [List.getElem?_append_right hi] at hu
    rw [List.getElem?_append_right (by omega)] at hz
    have : i - ys.length = 0 := by
      have := (List.getElem?_eq_some_iff.1 hu).1
      simp at this; omega
    rw [this] at hu
    rw [← hy, this] at hz
    cases hu; cases hz; exact h2
/-- Own slices read as any slice does. -/
theorem OwnN.slice {Y X : Type} {H : AHeap} {lo : Nat} {v : Value} {el : TypeId} {sz : Nat} {enc : Y → List Value} {R : Rin Y X} {xs : List X} {Rp : Rp X} (hl : HLt H) (hsz : ∀ y, (enc y).length = sz) (hR : ∀ y x, R H lo y x → Rp H x (enc y)) (h : OwnN H lo v el sz enc R xs) : SliceR H Rp sz v xs := by
  obtain ⟨ys, h1, h2, h3, h4⟩ := h
  obtain ⟨a, c, h5, h6, h7, h8⟩ := h2.slice hl hsz
  rw [h1] at h5 h6
  refine ⟨a, c, h5, h6, h7, ?_⟩
  rcases h8 with h9 | ⟨ad, cs, h9, h10, h11, h12⟩
  · subst h9
    exact .inl (List.eq_nil_of_length_eq_zero h1.symm)
  · refine .inr ⟨ad, cs, h9, h10, by rw [← h1]; exact h11, fun i x hx => ?_⟩
    have hi : i < ys.length := by rw [h1]; exact (List.getElem?_eq_some_iff.1 hx).1
    have hy := List.getElem?_eq_getElem hi
    have := h12 i _ hy
    rw [show (cs.drop (i * sz)).take sz = enc ys[i] from this]
    exact hR _ _ (h4 i _ _ hy hx)
/-! ### what stays of an own slice; boxes that change -/
def KeepO (H X : AHeap) (v : Value) : Prop := ∀ (b : Nat) o, ownId v = b → H.at_ b = some o → X.at_ b = some o
theorem KeepO.refl {H : AHeap} {v : Value} : KeepO H H v := fun _ _ _ h => h
theorem KeepO.home {H1 H' : AHeap} {s : Sub H1 H'} {v : Value} : KeepO H' (AHeap.ov H1 H' s) v := fun _ _ _ h => h
theorem KeepO.new {H X : AHeap} {v : Value} {b : Nat} {o : AObj} (k : KeepO H X v) (h : ownId v ≠ (b : Int)) : KeepO H (X.new b o) v := fun x u hx hu => by
  rw [AHeap.at_new_ne _ _ _ _ (by omega)]; exact k x u hx hu
theorem KeepO.set {H X : AHeap} {v : Value} {b : Nat} {o : AObj} (k : KeepO H X v) (h : ownId v ≠ (b : Int)) : KeepO H (X.set b o) v := fun x u hx hu => by
  rw [AHeap.at_set_ne _ _ _ _ (by omega)]; exact k x u hx hu
theorem KeepO.ov {H H1 H' : AHeap} {v : Value} {s : Sub H1 H'} (k : KeepO H H1 v) : KeepO H (AHeap.ov H1 H' s) v := fun x u hx hu => s.at_ _ _ (k x u hx hu)
theorem KeepO.delV {H X : AHeap} {v : Value} {g : Int} (k : KeepO H X v) (h : ownId v ≠ g ∨ g < 0) : KeepO H (X.delV g) v := fun x u hx hu => by
  rw [at_delV_ne _ _ _ (by omega)]; exact k x u hx hu
theorem OwnS.keep {α : Type} {H X : AHeap} {v : Value} {el : TypeId} {sz : Nat} {enc : α → List Value} {xs : List α} (h : OwnS H v el sz enc xs) (k : KeepO H X v) : OwnS X v el sz enc xs := by
  refine ⟨h.1, ?_⟩
  rcases h.2 with h2 | ⟨b, cap, rfl, h1, h2, h3⟩
  · exact .inl h2
  · exact .inr ⟨b, cap, rfl, h1, h2, k b _ (by simp) h3⟩
theorem HLt.delV {H : AHeap} {g : Int} (h : HLt H) : HLt (H.delV g) := fun b o hb => by
  simp only [AHeap.delV] at hb
  split at hb
  · cases hb
  · exact h b o hb
theorem Sub.delV_l {H X : AHeap} {g : Int} (s : Sub H X) : Sub (H.delV g) X :=
  ⟨s.next, HLt.delV s.lt, fun x o hx => by
    simp only [AHeap.delV] at hx
    split at hx
    · cases hx
    · exact s.at_ x o hx⟩
theorem HLt.ov {H1 H' : AHeap} {s : Sub H1 H'} (h : HLt H') : HLt (AHeap.ov H1 H' s) := h
theorem KeepT.home {H1 H' : AHeap} {s : Sub H1 H'} {lo : Nat} {el : TypeId} : KeepT H' (AHeap.ov H1 H' s) lo el := fun _ _ _ h _ => h
theorem KeepT.refl {H : AHeap} {lo : Nat} {el : TypeId} : KeepT H H lo el := fun _ _ _ h _ => h
theorem KeepT.new {H X : AHeap} {lo : Nat} {el : TypeId} {b : Nat} {o : AObj} (hl : HLt H) (k : KeepT H X lo el) (h : H.next ≤ b) : KeepT H (X.new b o) lo el := fun x u hx hu hn => by
  have := hl x u hu
  rw [AHeap.at_new_ne _ _ _ _ (by omega)]; exact k x u hx hu hn
theorem KeepT.set {H X : AHeap} {lo : Nat} {el : TypeId} {b : Nat} {o : AObj} (hl : HLt H) (k : KeepT H X lo el) (h : H.next ≤ b ∨ b < lo) : KeepT H (X.set b o) lo el := fun x u hx hu hn => by
  have := hl x u hu
  rw [AHeap.at_set_ne _ _ _ _ (by omega)]; exact k x u hx hu hn
theorem KeepT.ov {H H1 H' : AHeap} {lo : Nat} {el : TypeId} {s : Sub H1 H'} (k : KeepT H H1 lo el) : KeepT H (AHeap.ov H1 H' s) lo el := fun x u hx hu hn => s.at_ _ _ (k x u hx hu hn)
/-- Behind an append to a row of el: all else stays. -/
theorem KeepT.ovA {α : Type} {H X H' : AHeap} {v : Value} {lo : Nat} {el : TypeId} {sz : Nat} {enc : α → List Value} {xs : List α} {s : Sub (X.delV (ownId v)) H'} (h : OwnS X v el sz enc xs) (k : KeepT H X lo el) : KeepT H (AHeap.ov (X.delV (ownId v)) H' s) lo el :=
  fun x u hx hu hn => KeepT.app s h x u hx (k x u hx hu hn) hn
@[simp] theorem at_del_self (H : AHeap) (b : Nat) : (H.del b).at_ b = none := by simp [AHeap.del]
@[simp] theorem at_del_ne (H : AHeap) (b x : Nat) (h : x ≠ b) : (H.del b).at_ x = H.at_ x := by simp [AHeap.del, h]
theorem row_del (H : AHeap) (b : Nat) (a : Addr) (h : a.block ≠ b) : (H.del b).row a = H.row a := by unfold AHeap.row; rw [at_del_ne _ _ _ h]
@[simp] theorem loadN_del (H : AHeap) (b : Nat) (a : Addr) (j n : Nat) (h : a.block ≠ b) : (H.del b).loadN (a.add j) n = H.loadN (a.add j) n := by
  rw [AHeap.loadN, AHeap.loadN, row_del]; simpa using h
@[simp] theorem load1_del (H : AHeap) (b : Nat) (a : Addr) (j : Nat) (h : a.block ≠ b) : (H.del b).load1 (a.add j) = H.load1 (a.add j) := by
  rw [AHeap.load1, AHeap.load1, row_del]; simpa using h
theorem Sub.del_l {H X : AHeap} {b : Nat} (s : Sub H X) : Sub (H.del b) X :=
  ⟨s.next, fun x o hx => by
    simp only [AHeap.at_del] at hx
    split at hx
    · cases hx
    · exact s.lt x o hx, fun x o hx => by
    simp only [AHeap.at_del] at hx
    split at hx
    · cases hx
    · exact s.at_ x o hx⟩
theorem Sub.del_r {H0 H : AHeap} {b : Nat} (s : Sub H0 H) (h : H0.at_ b = none) : Sub H0 (H.del b) :=
  ⟨s.next, s.lt, fun x o hx => by
    rw [at_del_ne]
    · exact s.at_ x o hx
    · intro e; subst e; rw [h] at hx; cases hx⟩
theorem Sub.del_ge {H0 H : AHeap} {b : Nat} (s : Sub H0 H) (h : H0.next ≤ b) : Sub H0 (H.del b) := s.del_r (by
  cases hq : H0.at_ b with
  | none => rfl
  | some o => have := s.lt b o hq; omega)
theorem Sub.set_n {H0 H : AHeap} {b : Nat} {o : AObj} (s : Sub H0 H) (h : H0.at_ b = none) : Sub H0 (H.set b o) :=
  ⟨s.next, s.lt, fun x u hx => by
    rw [AHeap.at_set_ne]
    · exact s.at_ x u hx
    · intro e; subst e; rw [h] at hx; cases hx⟩

/-! ### cuts and loops that change the heap -/
section
variable {P : Program} {n : Nat} {Q : Post}
def CutTo {ι : Type} (rm : List Nat) (l : List (Nat × Value)) (ds : List Deferred) (ovr : ι → List (Nat × Value)) (H1 : AHeap) (Hp : ι → AHeap → Prop) (e' : Env) (H' : AHeap) : Prop :=
  ∃ j, e'.ds = ds ∧ Holds e'.l (ovr j) ∧ Holds e'.l (dropL rm l) ∧ Sub H1 H' ∧ Hp j H'
theorem cutTo {ι : Type} {rm : List Nat} {l : List (Nat × Value)} {ds : List Deferred} {ovr : ι → List (Nat × Value)} {H1 : AHeap} {Hp : ι → AHeap → Prop} {e' : Env} {H' : AHeap} (j : ι)
    (hd : e'.ds = ds) (h1 : Holds e'.l (ovr j)) (h2 : Holds e'.l (dropL rm l)) (h3 : Sub H1 H') (h4 : Hp j H') : CutTo rm l ds ovr H1 Hp e' H' := ⟨j, hd, h1, h2, h3, h4⟩
theorem awp_cut4 {ι : Type} {x y : Code} {l : List (Nat × Value)} {ds : List Deferred} {H : AHeap} (rm : List Nat) (ovr : ι → List (Nat × Value)) (F : AHeap → AHeap) (Hp : ι → AHeap → Prop)
    (h1 : ∀ K : Env → AHeap → Prop, (∀ e H2, CutTo rm l ds ovr (F H) Hp e H2 → K e H2) → AWp P n x (thenA K Q) ⟨l, ds⟩ H)
    (h2 : ∀ i H' (s : Sub (F H) H'), HLt H' → Hp i H' → AWp P n y Q ⟨ovr i ++ dropL rm l, ds⟩ (AHeap.ov (F H) H' s)) : AWp P n (.seq x y) Q ⟨l, ds⟩ H :=
  awp_seq_cut _ (h1 _ fun _ _ h => h) fun e H' ⟨j, hd, k1, k2, s, hp⟩ => awp_lt fun hlt =>
    awp_weaken (e0 := ⟨ovr j ++ dropL rm l, ds⟩) (H0 := AHeap.ov (F H) H' s) ⟨hd, (k1.app k2).mem⟩ (Sub.refl hlt) (h2 j H' s hlt hp)
def LoopTo4 {ι : Type} (rm : List Nat) (l : List (Nat × Value)) (ds : List Deferred) (ovr : ι → List (Nat × Value)) (H1 : AHeap) (Hp : ι → AHeap → Prop) (μ : ι → Nat) (i : ι) (e' : Env) (H' : AHeap) : Prop :=
  ∃ j, e'.ds = ds ∧ Holds e'.l (ovr j) ∧ Holds e'.l (dropL rm l) ∧ Sub H1 H' ∧ Hp j H' ∧ μ j < μ i
theorem loopTo4 {ι : Type} {rm : List Nat} {l : List (Nat × Value)} {ds : List Deferred} {ovr : ι → List (Nat × Value)} {H1 : AHeap} {Hp : ι → AHeap → Prop} {μ : ι → Nat} {i : ι} {e' : Env} {H' : AHeap} (j : ι)
    (hd : e'.ds = ds) (h1 : Holds e'.l (ovr j)) (h2 : Holds e'.l (dropL rm l)) (h3 : Sub H1 H') (h4 : Hp j H') (h5 : μ j < μ i) : LoopTo4 rm l ds ovr H1 Hp μ i e' H' := ⟨j, hd, h1, h2, h3, h4, h5⟩
theorem awp_loop4 {ι : Type} {c : Code} {l : List (Nat × Value)} {ds : List Deferred} {H : AHeap} (rm : List Nat) (ovr : ι → List (Nat × Value)) (F : AHeap → AHeap) (Hp : ι → AHeap → Prop) (μ : ι → Nat) (i0 : ι) (h0 : Holds l (ovr i0)) (hs : Sub (F H) H) (hp : Hp i0 H)
    (round : ∀ i H' (s : Sub (F H) H'), HLt H' → Hp i H' → ∀ K : Env → AHeap → Prop, (∀ e H2, LoopTo4 rm l ds ovr (F H) Hp μ i e H2 → K e H2) → AWp P n c (thenA K Q) ⟨ovr i ++ dropL rm l, ds⟩ (AHeap.ov (F H) H' s)) : AWp P n (.loop c) Q ⟨l, ds⟩ H := by
  refine awp_lt fun hlt0 => ?_
  refine awp_loop2 rm ovr (fun i H' => Sub (F H) H' ∧ HLt H' ∧ Hp i H') μ i0 h0 (Sub.refl hlt0) ⟨hs, hlt0, hp⟩ fun i H' hH => ?_
  obtain ⟨s, hlt, hp'⟩ := hH
  intro a w hf hr
  refine wp_mono (round i H' s hlt hp' _ (fun _ _ h => h) a w hf hr) fun ex a2 w2 hq => ?_
  obtain ⟨e2, H2, hf2, s2, hq2, hpa⟩ := hq
  refine ⟨e2, H2, hf2, s2, ?_, hpa⟩
  cases ex with
  | normal =>
    obtain ⟨j, h1, h2, h3, h4, h5, h6⟩ := hq2
    exact ⟨j, H2, h1, h2, h3, Sub.refl s2.rel.lt, ⟨h4, s2.rel.lt, h5⟩, h6⟩
  | exit id => exact hq2
  | goto l => exact hq2
  | ret => exact hq2
  | panic ch => exact hq2
  | outgrown => exact hq2
theorem awp_cut5 {ι : Type} {x y : Code} {l : List (Nat × Value)} {ds : List Deferred} {H : AHeap} {K : Env → AHeap → Prop} (hK : ∀ e H, AWp P n y Q e H → K e H) (rm : List Nat) (ovr : ι → List (Nat × Value)) (F : AHeap → AHeap) (Hp : ι → AHeap → Prop)
    (h1 : ∀ K' : Env → AHeap → Prop, (∀ e H2, CutTo rm l ds ovr (F H) Hp e H2 → K' e H2) → AWp P n x (thenA K' Q) ⟨l, ds⟩ H)
    (h2 : ∀ i H' (s : Sub (F H) H'), HLt H' → Hp i H' → AWp P n y Q ⟨ovr i ++ dropL rm l, ds⟩ (AHeap.ov (F H) H' s)) : AWp P n x (thenA K Q) ⟨l, ds⟩ H := by
  refine awp_mono (h1 _ fun _ _ h => h) fun ex e H' hq => ?_
  cases ex with
  | normal =>
    obtain ⟨j, hd, k1, k2, s, hp⟩ := hq
    exact hK _ _ (awp_lt fun hlt => awp_weaken (e0 := ⟨ovr j ++ dropL rm l, ds⟩) (H0 := AHeap.ov (F H) H' s) ⟨hd, (k1.app k2).mem⟩ (Sub.refl hlt) (h2 j H' s hlt hp))
  | exit id => exact hq
  | goto l => exact hq
  | ret => exact hq
  | panic ch => exact hq
  | outgrown => exact hq
/-- A function's contract, its post kept shut. -/
theorem acallsK {f : FuncId} {fn : Func} {c : Code} {args : Array Value} {H : AHeap} {R : Value → AHeap → Prop} (n : Nat) {rs : List ResultVar} (hf : P.funcs[f]? = some fn) (hb : fn.body = some c) (hn : (fn.name == "runtime.NumGoroutine") = false)
    (hnt : fn.ntmps = n) (hrs : fn.results.toList = rs) (hsz : args.size ≤ n) (h : ∀ R' : Value → AHeap → Prop, (∀ v H', R v H' → R' v H') → HLt H → AWp P n c (FPost P rs (fun en H' => ∃ v, en = .returned v ∧ R' v H')) ⟨argsE 0 args.toList, []⟩ H) : ACalls P f args H R :=
  acallsN n hf hb hn hnt hrs hsz fun hl => h R (fun _ _ h => h) hl
/-- The return of a function that makes memory. -/
theorem fpost_retR {rs : List ResultVar} {R R' : Value → AHeap → Prop} {e : Env} {H H1 : AHeap} {l : List Value} (hk : ∀ v H', (Sub H1 H' ∧ R v H') → R' v H') (hl : HLt H) (hd : e.ds = []) (hr : resL P e H rs = some l) (hs : Sub H1 H) (hR : R (resV l) H) :
    FPost P rs (fun en H' => ∃ v, en = .returned v ∧ R' v H') .ret e H := ⟨hd, l, hr, H, Sub.refl hl, _, rfl, hk _ _ ⟨hs, hR⟩⟩
theorem fpost_endR {rs : List ResultVar} {R R' : Value → AHeap → Prop} {e : Env} {H H1 : AHeap} {l : List Value} (hk : ∀ v H', (Sub H1 H' ∧ R v H') → R' v H') (hl : HLt H) (hd : e.ds = []) (hr : resL P e H rs = some l) (hs : Sub H1 H) (hR : R (resV l) H) :
    FPost P rs (fun en H' => ∃ v, en = .returned v ∧ R' v H') .normal e H := ⟨hd, l, hr, H, Sub.refl hl, _, rfl, hk _ _ ⟨hs, hR⟩⟩
end
def nth {α : Type} [Inhabited α] (xs : List α) (k : Nat) : α := xs.getD k default
theorem nth_eq {α : Type} [Inhabited α] {xs : List α} {k : Nat} {x : α} (h : xs[k]? = some x) : nth xs k = x := by simp [nth, List.getD_eq_getElem?_getD, h]
theorem nth_get {α : Type} [Inhabited α] {xs : List α} {k : Nat} (h : k < xs.length) : xs[k]? = some (nth xs k) := by simp [nth, List.getD_eq_getElem?_getD, h]
/-- A flat slice, opened for rules: the walk's simp reads any element whose index it can bound. -/
theorem SliceR.openR {α : Type} [Inhabited α] {enc : α → List Value} {sz : Nat} {H : AHeap} {v : Value} {xs : List α} (h : SliceR H (flat enc) sz v xs) :
    ∃ a c ad, v = .slice a xs.length c ∧ xs.length ≤ c ∧ c ≤ 9223372036854775807 ∧ (0 < xs.length → a = some ad) ∧ (0 < xs.length → ad.block < H.next) ∧ ∀ i, i < xs.length → H.loadN (ad.add (i * sz)) sz = some (enc (nth xs i)) := by
  obtain ⟨a, c, h1, h2, h3, h4⟩ := h
  rcases h4 with h5 | ⟨ad, cs, h5, h6, h7, h8⟩
  · subst h5
    exact ⟨a, c, ⟨0, 0, none⟩, h1, h2, by simpa [maxLen] using h3, by simp, by simp, by simp⟩
  · refine ⟨a, c, ad, h1, h2, by simpa [maxLen] using h3, fun _ => h5, fun _ => h6, fun i hi => ?_⟩
    have hx := List.getElem?_eq_getElem hi
    have hg := loadN_add h7 (i * sz) sz (by rw [← Nat.succ_mul]; exact Nat.mul_le_mul_right _ hi)
    rw [hg, show (cs.drop (i * sz)).take sz = enc xs[i] from h8 i _ hx, nth_eq hx]

/-- An element written in a flat row. -/
theorem setCells_flat {α : Type} {enc : α → List Value} {sz : Nat} (hsz : ∀ x, (enc x).length = sz) (y : α) : ∀ (xs : List α) (i : Nat), i < xs.length → setCells (xs.map enc).flatten (i * sz) (enc y) = ((xs.set i y).map enc).flatten := by
  intro xs i hi
  have hl := flat_len hsz xs
  have hle : i * sz + sz ≤ xs.length * sz := by rw [← Nat.succ_mul]; exact Nat.mul_le_mul_right _ hi
  rw [setCells_eq _ _ _ (by rw [hl, hsz]; exact hle)]
  have e1 : (xs.map enc).flatten.take (i * sz) = ((xs.take i).map enc).flatten := by
    have e := flat_len hsz (xs.take i)
    have e2 : (xs.take i).length = i := by rw [List.length_take]; omega
    rw [e2] at e
    conv => lhs; rw [← List.take_append_drop i xs]
    rw [List.map_append, List.flatten_append, ← e, List.take_left']
    rfl
  have e3 : (xs.map enc).flatten.drop (i * sz + (enc y).length) = ((xs.drop (i + 1)).map enc).flatten := by
    have e := flat_len hsz (xs.take (i + 1))
    have e2 : (xs.take (i + 1)).length = i + 1 := by rw [List.length_take]; omega
    rw [e2, Nat.succ_mul] at e
    conv => lhs; rw [← List.take_append_drop (i + 1) xs]
    rw [List.map_append, List.flatten_append, hsz, ← e, List.drop_left']
    rfl
  rw [e1, e3]
  have e4 : xs.set i y = xs.take i ++ y :: xs.drop (i + 1) := by
    rw [List.set_eq_take_append_cons_drop, if_pos hi]
  rw [e4]
  simp
theorem zrep_flat {α : Type} {enc : α → List Value} (z : α) (n : Nat) : zrep (enc z) n = ((List.replicate n z).map enc).flatten := by simp [zrep]

/-- All that is known from lo on stays known. -/
def KeepA (H X : AHeap) (lo : Nat) : Prop := ∀ b o, lo ≤ b → H.at_ b = some o → X.at_ b = some o
theorem KeepA.home {H1 H' : AHeap} {s : Sub H1 H'} {lo : Nat} : KeepA H' (AHeap.ov H1 H' s) lo := fun _ _ _ h => h
theorem KeepA.refl {H : AHeap} {lo : Nat} : KeepA H H lo := fun _ _ _ h => h
theorem KeepA.of_sub {H X : AHeap} {lo : Nat} (s : Sub H X) : KeepA H X lo := fun _ _ _ h => s.at_ _ _ h
theorem KeepA.new {H X : AHeap} {lo : Nat} {b : Nat} {o : AObj} (hl : HLt H) (k : KeepA H X lo) (h : H.next ≤ b) : KeepA H (X.new b o) lo := fun x u hx hu => by
  have := hl x u hu
  rw [AHeap.at_new_ne _ _ _ _ (by omega)]; exact k x u hx hu
theorem KeepA.set {H X : AHeap} {lo : Nat} {b : Nat} {o : AObj} (hl : HLt H) (k : KeepA H X lo) (h : H.next ≤ b ∨ b < lo) : KeepA H (X.set b o) lo := fun x u hx hu => by
  have := hl x u hu
  rw [AHeap.at_set_ne _ _ _ _ (by omega)]; exact k x u hx hu
theorem KeepA.del {H X : AHeap} {lo : Nat} {b : Nat} (hl : HLt H) (k : KeepA H X lo) (h : H.next ≤ b ∨ b < lo) : KeepA H (X.del b) lo := fun x u hx hu => by
  have := hl x u hu
  rw [at_del_ne _ _ _ (by omega)]; exact k x u hx hu
theorem KeepA.delV {H X : AHeap} {lo : Nat} {g : Int} (hl : HLt H) (k : KeepA H X lo) (h : (H.next : Int) ≤ g ∨ g < lo) : KeepA H (X.delV g) lo := fun x u hx hu => by
  have := hl x u hu
  rw [at_delV_ne _ _ _ (by omega)]; exact k x u hx hu
theorem KeepA.ov {H H1 H' : AHeap} {lo : Nat} {s : Sub H1 H'} (k : KeepA H H1 lo) : KeepA H (AHeap.ov H1 H' s) lo := fun x u hx hu => s.at_ _ _ (k x u hx hu)
theorem KeepA.t {H X : AHeap} {lo : Nat} {el : TypeId} (k : KeepA H X lo) : KeepT H X lo el := fun b o h1 h2 _ => k b o h1 h2
/-- Behind an append to a row of el: all else stays. -/
theorem KeepA.app {α : Type} {H X H' : AHeap} {v : Value} {lo : Nat} {el : TypeId} {sz : Nat} {enc : α → List Value} {xs : List α} (s : Sub (X.delV (ownId v)) H') (h : OwnS X v el sz enc xs) (k : KeepA H X lo) : KeepT H H' lo el :=
  fun x u hx hu hn => KeepT.app s h x u hx (k x u hx hu) hn
theorem OwnN.keepA {Y X : Type} {H H' : AHeap} {lo : Nat} {v : Value} {el : TypeId} {sz : Nat} {enc : Y → List Value} {R : Rin Y X} {ts : List TypeId} {xs : List X} (ok : RinOk R ts) (k : KeepA H H' lo) (h : OwnN H lo v el sz enc R xs) : OwnN H' lo v el sz enc R xs := by
  obtain ⟨n, hn⟩ : ∃ n : Nat, ∀ t ∈ el :: ts, t ≠ n := by
    have key : ∀ l : List Nat, ∃ n : Nat, ∀ t ∈ l, t < n := fun l => by
      induction l with
      | nil => exact ⟨0, by simp⟩
      | cons a r ih =>
        obtain ⟨n, hn⟩ := ih
        exact ⟨max n (a + 1), fun t ht => by
          rcases List.mem_cons.1 ht with rfl | ht
          · omega
          · have := hn t ht; omega⟩
    obtain ⟨n, hn⟩ := key (el :: ts)
    exact ⟨n, fun t ht e => absurd (hn t ht) (by rw [e]; exact Nat.lt_irrefl n)⟩
  exact OwnN.keep ok (KeepA.t (el := n) k) hn h

/-! ### the program's records, of the call's own -/
def encYB (y : Value × LTerm) : List Value := y.1 :: encT y.2
theorem encYB_len (y : Value × LTerm) : (encYB y).length = 5 := rfl
def encV (v : Value) : List Value := [v]
theorem encV_len (v : Value) : (encV v).length = 1 := rfl
def rinB (ti : TypeId) : Rin (Value × LTerm) LBlock := fun H lo y x => y.2 = x.term ∧ OwnN H lo y.1 ti 5 encIn REq x.code
theorem rinB_ok (ti : TypeId) : RinOk (rinB ti) [ti] := ⟨fun k h ⟨h1, h2⟩ => ⟨h1, OwnN.keep REq_ok k (by simpa using h) h2⟩, fun hl ⟨h1, h2⟩ => ⟨h1, OwnN.le REq_ok hl h2⟩⟩
def rinMB (tm : TypeId) : Rin (Value × LTerm) LMBlock := fun H lo y x => y.2 = x.term ∧ OwnN H lo y.1 tm 7 encM REq x.code
theorem rinMB_ok (tm : TypeId) : RinOk (rinMB tm) [tm] := ⟨fun k h ⟨h1, h2⟩ => ⟨h1, OwnN.keep REq_ok k (by simpa using h) h2⟩, fun hl ⟨h1, h2⟩ => ⟨h1, OwnN.le REq_ok hl h2⟩⟩
def rinW (tp : TypeId) : Rin Value (List LPair) := rN tp 2 encP REq
theorem rinW_ok (tp : TypeId) : RinOk (rinW tp) [tp] := rN_ok REq_ok
def OwnB (ti tb : TypeId) (H : AHeap) (lo : Nat) (v : Value) (xs : List LBlock) : Prop := OwnN H lo v tb 5 encYB (rinB ti) xs
def OwnMB (tm tb : TypeId) (H : AHeap) (lo : Nat) (v : Value) (xs : List LMBlock) : Prop := OwnN H lo v tb 5 encYB (rinMB tm) xs
def OwnW (tp ts : TypeId) (H : AHeap) (lo : Nat) (v : Value) (xs : List (List LPair)) : Prop := OwnN H lo v ts 1 encV (rinW tp) xs
theorem OwnB.slice {ti tb : TypeId} {H : AHeap} {lo : Nat} {v : Value} {xs : List LBlock} (hl : HLt H) (h : OwnB ti tb H lo v xs) : SliceR H rB 5 v xs :=
  OwnN.slice hl encYB_len (fun y x hr => ⟨y.1, by rw [← hr.1]; rfl, hr.2.flat.slice hl encIn_len⟩) h
theorem OwnMB.slice {tm tb : TypeId} {H : AHeap} {lo : Nat} {v : Value} {xs : List LMBlock} (hl : HLt H) (h : OwnMB tm tb H lo v xs) : SliceR H rMB 5 v xs :=
  OwnN.slice hl encYB_len (fun y x hr => ⟨y.1, by rw [← hr.1]; rfl, hr.2.flat.slice hl encM_len⟩) h
theorem OwnW.slice {tp ts : TypeId} {H : AHeap} {lo : Nat} {v : Value} {xs : List (List LPair)} (hl : HLt H) (h : OwnW tp ts H lo v xs) : SliceR H (rS (flat encP) 2) 1 v xs :=
  OwnN.slice hl encV_len (fun y x hr => ⟨y, rfl, (OwnN.flat hr).slice hl encP_len⟩) h
theorem OwnN.id_lt {Y X : Type} {H : AHeap} {lo : Nat} {v : Value} {el : TypeId} {sz : Nat} {enc : Y → List Value} {R : Rin Y X} {xs : List X} (hl : HLt H) (h : OwnN H lo v el sz enc R xs) : ownId v < H.next := by
  obtain ⟨ys, _, h, _⟩ := h; exact OwnS.id_lt hl h
theorem OwnN.cells {Y X : Type} {H : AHeap} {lo : Nat} {v : Value} {el : TypeId} {sz : Nat} {enc : Y → List Value} {R : Rin Y X} {xs : List X} (h : OwnN H lo v el sz enc R xs) : v.cells = #[v] := by
  obtain ⟨ys, _, h, _⟩ := h; exact OwnS.cells h
theorem OwnN.one {Y X : Type} {H : AHeap} {lo : Nat} {v : Value} {el : TypeId} {sz : Nat} {enc : Y → List Value} {R : Rin Y X} {xs : List X} (h : OwnN H lo v el sz enc R xs) : v.oneCell' = true := by
  obtain ⟨ys, _, h, _⟩ := h; exact OwnS.one h

/-- Own rows of two kinds are two rows. -/
theorem OwnS.ne {α β : Type} {H : AHeap} {v u : Value} {el el' : TypeId} {sz sz' : Nat} {enc : α → List Value} {enc' : β → List Value} {xs : List α} {ys : List β} (h : OwnS H v el sz enc xs) (k : OwnS H u el' sz' enc' ys) (hne : el ≠ el') : ownId v ≠ ownId u ∨ ownId u < 0 := by
  rcases h.2 with ⟨rfl, _⟩ | ⟨b, cap, rfl, _, _, h3⟩ <;> rcases k.2 with ⟨rfl, _⟩ | ⟨b', cap', rfl, _, _, k3⟩
  · right; simp only [ownId_nil]; omega
  · left; simp only [ownId_nil, ownId_some]; omega
  · right; simp only [ownId_nil]; omega
  · left
    simp only [ownId_some]
    intro e
    have e : b = b' := by omega
    subst e
    rw [h3] at k3
    simp only [Option.some.injEq, AObj.cells.injEq] at k3
    exact hne k3.2.1

theorem OwnS.ne_box {α : Type} {H : AHeap} {v : Value} {el t : TypeId} {sz m b : Nat} {enc : α → List Value} {xs : List α} {c : List Value} (h : OwnS H v el sz enc xs) (k : H.at_ b = some (.cells c t m)) (hne : el ≠ t) : ownId v ≠ b := by
  rcases h.2 with ⟨rfl, _⟩ | ⟨b', cap, rfl, _, _, h3⟩
  · simp only [ownId_nil]; omega
  · simp only [ownId_some]
    intro e
    have e : b' = b := by omega
    subst e
    rw [h3] at k
    simp only [Option.some.injEq, AObj.cells.injEq] at k
    exact hne k.2.1
theorem OwnN.ne_box {Y X : Type} {H : AHeap} {lo : Nat} {v : Value} {el t : TypeId} {sz m b : Nat} {enc : Y → List Value} {R : Rin Y X} {xs : List X} {c : List Value} (h : OwnN H lo v el sz enc R xs) (k : H.at_ b = some (.cells c t m)) (hne : el ≠ t) : ownId v ≠ b := by
  obtain ⟨ys, _, h, _⟩ := h; exact OwnS.ne_box h k hne
/-- A box of type el is written: all else stays. -/
theorem KeepT.setT {H X : AHeap} {lo b m : Nat} {el : TypeId} {c : List Value} {o : AObj} (hb : H.at_ b = some (.cells c el m)) (k : KeepT H X lo el) : KeepT H (X.set b o) lo el := fun x u hx hu hn => by
  rw [AHeap.at_set_ne]
  · exact k x u hx hu hn
  · intro e; subst e; rw [hb] at hu; cases hu; exact hn _ _ rfl
theorem KeepT.delT {H X : AHeap} {lo b m : Nat} {el : TypeId} {c : List Value} (hb : H.at_ b = some (.cells c el m)) (k : KeepT H X lo el) : KeepT H (X.del b) lo el := fun x u hx hu hn => by
  rw [at_del_ne]
  · exact k x u hx hu hn
  · intro e; subst e; rw [hb] at hu; cases hu; exact hn _ _ rfl
theorem KeepT.delV {H X : AHeap} {lo : Nat} {el : TypeId} {g : Int} (hl : HLt H) (k : KeepT H X lo el) (h : (H.next : Int) ≤ g ∨ g < lo) : KeepT H (X.delV g) lo el := fun x u hx hu hn => by
  have := hl x u hu
  rw [at_delV_ne _ _ _ (by omega)]; exact k x u hx hu hn

/-- What is known below n. -/
def AHeap.low (H : AHeap) (n : Nat) : AHeap := ⟨n, fun x => if x < n then H.at_ x else none⟩
@[simp] theorem next_low (H : AHeap) (n : Nat) : (H.low n).next = n := rfl
@[simp] theorem at_low_lt (H : AHeap) (n x : Nat) (h : x < n) : (H.low n).at_ x = H.at_ x := by simp [AHeap.low, h]
@[simp] theorem at_low_ge (H : AHeap) (n x : Nat) (h : n ≤ x) : (H.low n).at_ x = none := by simp [AHeap.low, Nat.not_lt.2 h]
theorem row_low (H : AHeap) (n : Nat) (a : Addr) (h : a.block < n) : (H.low n).row a = H.row a := by unfold AHeap.row; rw [at_low_lt _ _ _ h]
@[simp] theorem loadN_low (H : AHeap) (n : Nat) (a : Addr) (j k : Nat) (h : a.block < n) : (H.low n).loadN (a.add j) k = H.loadN (a.add j) k := by
  rw [AHeap.loadN, AHeap.loadN, row_low]; simpa using h
@[simp] theorem load1_low (H : AHeap) (n : Nat) (a : Addr) (j : Nat) (h : a.block < n) : (H.low n).load1 (a.add j) = H.load1 (a.add j) := by
  rw [AHeap.load1, AHeap.load1, row_low]; simpa using h
theorem HLt.low {H : AHeap} {n : Nat} : HLt (H.low n) := fun b o hb => by
  simp only [AHeap.low] at hb
  split at hb
  · rename_i h; exact h
  · cases hb
theorem Sub.low_l {H X : AHeap} {n : Nat} (s : Sub H X) (h : n ≤ X.next) : Sub (H.low n) X :=
  ⟨h, HLt.low, fun b o hb => by
    simp only [AHeap.low] at hb
    split at hb
    · exact s.at_ b o hb
    · cases hb⟩
theorem Sub.low_r {A H : AHeap} {n : Nat} (s : Sub A H) (h : A.next ≤ n) : Sub A (H.low n) :=
  ⟨h, s.lt, fun b o hb => by
    have := s.lt b o hb
    rw [at_low_lt _ _ _ (by omega)]; exact s.at_ b o hb⟩
theorem SliceR.openS {α : Type} [Inhabited α] {enc : α → List Value} {sz n c : Nat} {a : Option Addr} {H : AHeap} {xs : List α} (h : SliceR H (flat enc) sz (.slice a n c) xs) :
    n = xs.length ∧ n ≤ c ∧ c ≤ 9223372036854775807 ∧ ∃ ad, (0 < n → a = some ad) ∧ (0 < n → ad.block < H.next) ∧ ∀ i, i < n → H.loadN (ad.add (i * sz)) sz = some (enc (nth xs i)) := by
  obtain ⟨a', c', ad, h1, h2, h3, h4, h5, h6⟩ := h.openR
  simp only [Value.slice.injEq] at h1
  obtain ⟨rfl, rfl, rfl⟩ := h1
  exact ⟨rfl, h2, h3, ad, h4, h5, h6⟩
/-- The lengths of the slices within. -/
def rinL {Y : Type} (el : TypeId) (sz : Nat) (pr : Y → Value) : Rin Y Nat := fun H lo y n => (pr y = .slice none 0 0 ∧ n = 0) ∨ ∃ g cap c m, pr y = .slice (some ⟨g, 0, none⟩) n cap ∧ lo ≤ g ∧ H.at_ g = some (.cells c el m) ∧ n * sz ≤ c.length
theorem rinL_ok {Y : Type} (el : TypeId) (sz : Nat) (pr : Y → Value) : RinOk (rinL el sz pr) [el] := ⟨fun {H H' lo e y x} k h hR => by
    rcases hR with h1 | ⟨g, cap, c, m, h1, h2, h3, h4⟩
    · exact .inl h1
    · exact .inr ⟨g, cap, c, m, h1, h2, k g _ h2 h3 (fun c m e => by cases e; exact h el (by simp) rfl), h4⟩, fun hl hR => by
    rcases hR with h1 | ⟨g, cap, c, m, h1, h2, h3, h4⟩
    · exact .inl h1
    · exact .inr ⟨g, cap, c, m, h1, Nat.le_trans hl h2, h3, h4⟩⟩
theorem rinL_get {Y : Type} {el : TypeId} {sz : Nat} {pr : Y → Value} {H : AHeap} {lo n n' k : Nat} {y : Y} {a : Option Addr} (h : rinL el sz pr H lo y n) (hv : pr y = .slice a n' k) (h0 : 0 < n) : ∃ g m cc, a = some ⟨g, 0, none⟩ ∧ lo ≤ g ∧ H.at_ g = some (.cells cc el m) ∧ n * sz ≤ cc.length := by
  rcases h with ⟨_, h1⟩ | ⟨g, cap, c, m, h1, h2, h3, h4⟩
  · omega
  · rw [hv] at h1
    simp only [Value.slice.injEq] at h1
    exact ⟨g, m, c, h1.1, h2, h3, h4⟩
theorem OwnS.len {α : Type} {H : AHeap} {lo : Nat} {v : Value} {el : TypeId} {sz : Nat} {enc : α → List Value} {xs : List α} (hsz : ∀ x, (enc x).length = sz) (h : OwnS H v el sz enc xs) (hlo : ownId v = -1 ∨ (lo : Int) ≤ ownId v) : (v = .slice none 0 0 ∧ xs.length = 0) ∨ ∃ g cap c m, v = .slice (some ⟨g, 0, none⟩) xs.length cap ∧ lo ≤ g ∧ H.at_ g = some (.cells c el m) ∧ xs.length * sz ≤ c.length := by
  rcases h.2 with h1 | ⟨b, cap, rfl, h1, h2, h3⟩
  · exact .inl h1
  · exact .inr ⟨b, cap, _, _, rfl, by simp at hlo; omega, h3, by rw [flat_len hsz]; exact Nat.le_refl _⟩
theorem OwnN.mapR {Y X Z : Type} {H : AHeap} {lo : Nat} {v : Value} {el : TypeId} {sz : Nat} {enc : Y → List Value} {R : Rin Y X} {R' : Rin Y Z} {xs : List X} (f : X → Z) (h : OwnN H lo v el sz enc R xs) (k : ∀ y x, R H lo y x → R' H lo y (f x)) : OwnN H lo v el sz enc R' (xs.map f) := by
  obtain ⟨ys, h1, h2, h3, h4⟩ := h
  refine ⟨ys, by simp [h1], h2, h3, fun i y z hy hz => ?_⟩
  rw [List.getElem?_map] at hz
  cases hq : xs[i]? with
  | none => rw [hq] at hz; cases hz
  | some x => rw [hq] at hz; cases hz; exact k y x (h4 i y x hy hq)
theorem OwnB.lens {ti tb : TypeId} {H : AHeap} {lo : Nat} {v : Value} {xs : List LBlock} (h : OwnB ti tb H lo v xs) : OwnN H lo v tb 5 encYB (rinL ti 5 Prod.fst) (xs.map fun b => b.code.length) :=
  OwnN.mapR _ h fun y x hr => by
    obtain ⟨ys, h1, h2, h3, h4⟩ := hr.2
    have := OwnS.len encIn_len h2 h3
    rw [h1] at this
    exact this
theorem OwnW.lens {tp ts : TypeId} {H : AHeap} {lo : Nat} {v : Value} {xs : List (List LPair)} (h : OwnW tp ts H lo v xs) : OwnN H lo v ts 1 encV (rinL tp 2 id) (xs.map List.length) :=
  OwnN.mapR _ h fun y x hr => by
    obtain ⟨ys, h1, h2, h3, h4⟩ := hr
    have := OwnS.len encP_len h2 h3
    rw [h1] at this
    exact this
/-- A write within one of the slices: the lengths stay. -/
theorem OwnN.storeL {Y : Type} {H : AHeap} {lo : Nat} {v : Value} {el tb : TypeId} {sz sz' g m : Nat} {enc : Y → List Value} {pr : Y → Value} {ns : List Nat} {c c' : List Value} (h : OwnN H lo v tb sz' enc (rinL el sz pr) ns) (hne : tb ≠ el) (hg : H.at_ g = some (.cells c el m)) (hc : c'.length = c.length) : OwnN (H.set g (.cells c' el m)) lo v tb sz' enc (rinL el sz pr) ns := by
  obtain ⟨ys, h1, h2, h3, h4⟩ := h
  refine ⟨ys, h1, ⟨h2.1, ?_⟩, h3, fun i y n hy hn => ?_⟩
  · rcases h2.2 with h5 | ⟨b, cap, rfl, h5, h6, h7⟩
    · exact .inl h5
    · refine .inr ⟨b, cap, rfl, h5, h6, ?_⟩
      rw [AHeap.at_set_ne]
      · exact h7
      · intro e; subst e; rw [h7] at hg; simp only [Option.some.injEq, AObj.cells.injEq] at hg; exact hne hg.2.1
  · rcases h4 i y n hy hn with h5 | ⟨b, cap, d, k, h5, h6, h7, h8⟩
    · exact .inl h5
    · by_cases e : b = g
      · subst e
        rw [hg] at h7
        simp only [Option.some.injEq, AObj.cells.injEq] at h7
        obtain ⟨rfl, _, rfl⟩ := h7
        exact .inr ⟨b, cap, c', m, h5, h6, by simp, by omega⟩
      · exact .inr ⟨b, cap, d, k, h5, h6, by rw [AHeap.at_set_ne _ _ _ _ e]; exact h7, h8⟩
theorem at_ne {H : AHeap} {b g : Nat} {c d : List Value} {t u : TypeId} {m k : Nat} (h1 : H.at_ b = some (.cells c t m)) (h2 : H.at_ g = some (.cells d u k)) (hne : t ≠ u) : b ≠ g := by
  intro e; subst e; rw [h1] at h2; simp only [Option.some.injEq, AObj.cells.injEq] at h2; exact hne h2.2.1

/-! ### the proofs that are alike everywhere -/
theorem hlt_auto {H : AHeap} (h : HLt H := by repeat (first | assumption | exact HLt.low | exact HLt.ov (by assumption) | refine HLt.new ?_ (by first | omega | (simp <;> omega)) _ | refine HLt.set ?_ (by first | omega | (simp <;> omega)) _)) : HLt H := h
theorem sub_auto {H0 X : AHeap} (h : Sub H0 X := by repeat (first | ((repeat (first | with_reducible refine Sub.del_l ?_ | with_reducible refine Sub.delV_l ?_ | (with_reducible refine Sub.low_l ?_ ?_; rotate_left; first | omega | (simp <;> omega)))); with_reducible exact Sub.refl hlt_auto) | exact Sub.refl HLt.low | (refine Sub.low_r ?_ ?_; rotate_left; first | omega | (simp <;> omega)) | exact Sub.refl (by assumption) | exact Sub.refl (HLt.ov (by assumption)) | exact Sub.ov_r _ (Sub.refl (by assumption)) | exact Sub.refl (HLt.delV (by assumption)) | refine Sub.new ?_ (by first | omega | (simp <;> omega)) _ | (refine Sub.set ?_ ?_ _; rotate_left; first | omega | (simp <;> omega)) | (refine Sub.set_n ?_ ?_; rotate_left; focus (simp (disch := omega); done)) | refine Sub.ov _ ?_ | (refine Sub.delV ?_ ?_; rotate_left; first | omega | (simp <;> omega)) | ((first | refine Sub.delV_d0 ?_ ?_ | refine Sub.delV_d1 ?_ ?_ | refine Sub.delV_d2 ?_ ?_); rotate_left; first | omega | (simp <;> omega)) | (refine Sub.del_ge ?_ ?_; rotate_left; first | omega | (simp <;> omega)) | (refine Sub.del_r ?_ ?_; rotate_left; focus (simp (disch := omega); done)) | refine Sub.del_l ?_ | refine Sub.delV_l ?_)) : Sub H0 X := h
theorem keep_auto {H X : AHeap} {v : Value} (h : KeepO H X v := by repeat (first | exact KeepO.home | exact KeepO.refl | refine KeepO.new ?_ (by first | omega | (simp <;> omega)) | refine KeepO.set ?_ (by first | omega | (simp <;> omega)) | refine KeepO.ov ?_ | refine KeepO.delV ?_ (by first | omega | (simp <;> omega)))) : KeepO H X v := h
theorem keepA_auto {H X : AHeap} {lo : Nat} (h : KeepA H X lo := by repeat (first | exact KeepA.home | exact KeepA.refl | (refine KeepA.new (by assumption) ?_ ?_; rotate_left; first | omega | (simp <;> omega)) | (refine KeepA.set (by assumption) ?_ ?_; rotate_left; first | omega | (simp <;> omega)) | (refine KeepA.del (by assumption) ?_ ?_; rotate_left; first | omega | (simp <;> omega)) | (refine KeepA.delV (by assumption) ?_ ?_; rotate_left; first | omega | (simp <;> omega)) | refine KeepA.ov ?_)) : KeepA H X lo := h
theorem keepT_auto {H X : AHeap} {lo : Nat} {el : TypeId} (h : KeepT H X lo el := by repeat (first | exact KeepT.home | exact KeepT.refl | (refine KeepT.new (by assumption) ?_ ?_; rotate_left; first | omega | (simp <;> omega)) | refine KeepT.setT (by assumption) ?_ | refine KeepT.delT (by assumption) ?_ | (refine KeepT.set (by assumption) ?_ ?_; rotate_left; first | omega | (simp <;> omega)) | (refine KeepT.delV (by assumption) ?_ ?_; rotate_left; first | omega | (simp <;> omega)) | refine KeepT.ov ?_)) : KeepT H X lo el := h
theorem set_auto {H H2 : AHeap} {b : Nat} {o : AObj} (h : H.set b o = H2 := by first | exact AHeap.set_new_self _ _ _ _ | exact AHeap.set_set_self _ _ _ _ | rfl) : H.set b o = H2 := h
end Go.Proofs.YteklhgmoniaieaaAh
