/- A small logic over the kit's wp: what is known of memory (AHeap), of a frame's slots (Env), and how a step of the program keeps to it. Plain definitions and theorems. -/
import Derived.OrdersHeld
import Derived.Below
import Derived.Laws.AppendOwn
import Derived.KernelRfl
set_option linter.unusedVariables false
set_option linter.unusedSimpArgs false
namespace Go.Proofs.YteklhgmoniaieaaAh

/-- What is known of a block: the call's own row, its first cells and how many cells it has (may be written) · a block that is read alone · an object of the call's own. -/
inductive AObj where
  | cells (c : List Value) (e : TypeId) (m : Nat)
  | ro (o : Obj)
  | obj (o : Obj)

structure AHeap where
  next : Nat
  at_ : Nat → Option AObj

def HLt (H : AHeap) : Prop := ∀ b o, H.at_ b = some o → b < H.next
def AHeap.set (H : AHeap) (b : Nat) (o : AObj) : AHeap := ⟨H.next, fun x => if x = b then some o else H.at_ x⟩
def AHeap.new (H : AHeap) (b : Nat) (o : AObj) : AHeap := ⟨b + 1, fun x => if x = b then some o else H.at_ x⟩
def AHeap.del (H : AHeap) (b : Nat) : AHeap := ⟨H.next, fun x => if x = b then none else H.at_ x⟩

theorem AHeap.at_set (H : AHeap) (b : Nat) (o : AObj) (x : Nat) : (H.set b o).at_ x = if x = b then some o else H.at_ x := rfl
theorem AHeap.at_new (H : AHeap) (b : Nat) (o : AObj) (x : Nat) : (H.new b o).at_ x = if x = b then some o else H.at_ x := rfl
theorem AHeap.at_del (H : AHeap) (b : Nat) (x : Nat) : (H.del b).at_ x = if x = b then none else H.at_ x := rfl
@[simp] theorem AHeap.at_new_self (H : AHeap) (b : Nat) (o : AObj) : (H.new b o).at_ b = some o := by simp [AHeap.at_new]
theorem AHeap.at_new_ne (H : AHeap) (b : Nat) (o : AObj) (x : Nat) (h : x ≠ b) : (H.new b o).at_ x = H.at_ x := by simp [AHeap.at_new, h]
@[simp] theorem AHeap.at_set_self (H : AHeap) (b : Nat) (o : AObj) : (H.set b o).at_ b = some o := by simp [AHeap.at_set]
theorem AHeap.at_set_ne (H : AHeap) (b : Nat) (o : AObj) (x : Nat) (h : x ≠ b) : (H.set b o).at_ x = H.at_ x := by simp [AHeap.at_set, h]
@[simp] theorem AHeap.set_new_self (H : AHeap) (b : Nat) (o o' : AObj) : (H.new b o).set b o' = H.new b o' := by
  unfold AHeap.new AHeap.set; congr 1; funext x; simp only; split <;> rfl
@[simp] theorem AHeap.set_set_self (H : AHeap) (b : Nat) (o o' : AObj) : (H.set b o).set b o' = H.set b o' := by
  unfold AHeap.set; congr 1; funext x; simp only; split <;> rfl
theorem AHeap.set_new_ne (H : AHeap) (b b' : Nat) (o o' : AObj) (h : b' ≠ b) : (H.new b o).set b' o' = (H.set b' o').new b o := by
  unfold AHeap.new AHeap.set; congr 1; funext x; simp only
  split
  · rename_i e; subst e; rw [if_neg h]
  · rfl
@[simp] theorem AHeap.next_set (H : AHeap) (b : Nat) (o : AObj) : (H.set b o).next = H.next := rfl
@[simp] theorem AHeap.next_new (H : AHeap) (b : Nat) (o : AObj) : (H.new b o).next = b + 1 := rfl
@[simp] theorem AHeap.next_del (H : AHeap) (b : Nat) : (H.del b).next = H.next := rfl

def Real : AObj → Obj → Prop
  | .cells c e m, .cells arr e' fz => e' = e ∧ fz = (0, 0) ∧ arr.size = m ∧ ∃ r, arr.toList = c ++ r
  | .ro o, o' => o' = o
  | .obj o, o' => o' = o
  | _, _ => False

def AObj.writable : AObj → Bool
  | .ro _ => false
  | _ => true
def AHeap.wr (H : AHeap) (b : Nat) : Prop := (H.at_ b).any AObj.writable = true

structure Rel (H : AHeap) (w : World) : Prop where
  le : H.next ≤ w.heap.size
  lt : ∀ b o, H.at_ b = some o → b < H.next
  real : ∀ b o, H.at_ b = some o → ∃ o', w.heap[b]? = some o' ∧ Real o o'

/-- From (H, w) to (H', w'): what holds of the new world; what was not the call's own is as it was. -/
structure Step (H : AHeap) (w : World) (H' : AHeap) (w' : World) : Prop where
  rel : Rel H' w'
  os : w'.os = w.os
  tape : w'.tape = w.tape
  output : w'.output = w.output
  size : w.heap.size ≤ w'.heap.size
  wr : ∀ b, H'.wr b → H.wr b ∨ w.heap.size ≤ b
  same : ∀ b, b < w.heap.size → ¬ H.wr b → w'.heap[b]? = w.heap[b]?

theorem Step.refl {H : AHeap} {w : World} (h : Rel H w) : Step H w H w :=
  ⟨h, rfl, rfl, rfl, Nat.le_refl _, fun _ h => .inl h, fun _ _ _ => rfl⟩

theorem Step.trans {H H1 H2 : AHeap} {w w1 w2 : World} (h : Step H w H1 w1) (k : Step H1 w1 H2 w2) : Step H w H2 w2 := by
  refine ⟨k.rel, k.os.trans h.os, k.tape.trans h.tape, k.output.trans h.output, Nat.le_trans h.size k.size, fun b hb => ?_, fun b hb hn => ?_⟩
  · rcases k.wr b hb with h1 | h1
    · exact h.wr b h1
    · exact .inr (Nat.le_trans h.size h1)
  · refine (k.same b (Nat.lt_of_lt_of_le hb h.size) fun h1 => ?_).trans (h.same b hb hn)
    rcases h.wr b h1 with h2 | h2
    · exact hn h2
    · omega

/-- H' knows no more than H. -/
structure Sub (H' H : AHeap) : Prop where
  next : H'.next ≤ H.next
  lt : ∀ b o, H'.at_ b = some o → b < H'.next
  at_ : ∀ b o, H'.at_ b = some o → H.at_ b = some o

theorem Sub.trans {A B C : AHeap} (h : Sub A B) (k : Sub B C) : Sub A C := ⟨Nat.le_trans h.next k.next, h.lt, fun b o hb => k.at_ b o (h.at_ b o hb)⟩
theorem Rel.sub {H' H : AHeap} {w : World} (h : Sub H' H) (r : Rel H w) : Rel H' w :=
  ⟨Nat.le_trans h.next r.le, h.lt, fun b o hb => r.real b o (h.at_ b o hb)⟩
theorem Sub.wr {H' H : AHeap} (h : Sub H' H) {b : Nat} (hb : H'.wr b) : H.wr b := by
  unfold AHeap.wr at *
  cases hx : H'.at_ b with
  | none => simp [hx] at hb
  | some o => rw [hx] at hb; rw [h.at_ b o hx]; exact hb
theorem Step.sub {H H1 H2 : AHeap} {w w1 : World} (h : Step H w H1 w1) (s : Sub H2 H1) : Step H w H2 w1 :=
  ⟨h.rel.sub s, h.os, h.tape, h.output, h.size, fun b hb => h.wr b (s.wr hb), h.same⟩

/-- All of H stays known in H'. -/
structure Ext (H H' : AHeap) : Prop where
  next : H.next ≤ H'.next
  at_ : ∀ b o, H.at_ b = some o → H'.at_ b = some o
theorem Ext.refl (H : AHeap) : Ext H H := ⟨Nat.le_refl _, fun _ _ h => h⟩
theorem Ext.trans {A B C : AHeap} (h : Ext A B) (k : Ext B C) : Ext A C := ⟨Nat.le_trans h.next k.next, fun b o hb => k.at_ b o (h.at_ b o hb)⟩

/-! ### cells -/
def AHeap.cell (H : AHeap) (a : Addr) : Option Value :=
  if a.spot.isSome then none else
  match H.at_ a.block with
  | some (.cells c _ _) => c[a.off]?
  | some (.ro (.cells arr _ _)) => arr[a.off]?
  | _ => none

theorem Rel.cell {H : AHeap} {w : World} (r : Rel H w) {a : Addr} {v : Value} (h : H.cell a = some v) : w.cell? a = some v := by
  unfold AHeap.cell at h
  split at h
  · cases h
  rename_i hs
  cases hb : H.at_ a.block with
  | none => rw [hb] at h; cases h
  | some o =>
    rw [hb] at h
    obtain ⟨o', ho', hr⟩ := r.real _ _ hb
    unfold World.cell?
    rw [ho']
    cases o with
    | cells c e m =>
      cases o' <;> simp only [Real] at hr
      obtain ⟨_, _, _, t, ht⟩ := hr
      simp only at h ⊢
      rw [if_neg hs]
      rw [← Array.getElem?_toList, ht, List.getElem?_append_left (List.getElem?_eq_some_iff.1 h).1]
      exact h
    | ro o =>
      obtain rfl : o' = o := hr
      cases o' <;> simp only at h ⊢ <;> first | cases h | (rw [if_neg hs]; exact h)
    | obj o => cases h
theorem Ext.cell {H H' : AHeap} (x : Ext H H') {a : Addr} {v : Value} (h : H.cell a = some v) : H'.cell a = some v := by
  unfold AHeap.cell at *
  split at h
  · cases h
  rename_i hs
  rw [if_neg hs]
  cases hb : H.at_ a.block with
  | none => rw [hb] at h; cases h
  | some o => rw [hb] at h; rw [x.at_ _ _ hb]; exact h

def AHeap.cellsFrom (H : AHeap) (a : Addr) : Nat → Nat → Option (List Value)
  | _, 0 => some []
  | i, n + 1 => match H.cell (a.add i), H.cellsFrom a (i + 1) n with
    | some v, some l => some (v :: l)
    | _, _ => none
theorem cellsFrom_length {H : AHeap} {a : Addr} : ∀ {n i : Nat} {l : List Value}, H.cellsFrom a i n = some l → l.length = n
  | 0, _, _, h => by simp [AHeap.cellsFrom] at h; simp [← h]
  | n + 1, i, l, h => by
    simp only [AHeap.cellsFrom] at h
    split at h
    · rename_i v l' h1 h2
      cases h
      simp [cellsFrom_length h2]
    · cases h
theorem Ext.cellsFrom {H H' : AHeap} (x : Ext H H') {a : Addr} : ∀ {n i : Nat} {l : List Value}, H.cellsFrom a i n = some l → H'.cellsFrom a i n = some l
  | 0, _, _, h => h
  | n + 1, i, l, h => by
    simp only [AHeap.cellsFrom] at h ⊢
    split at h
    · rename_i v l' h1 h2
      rw [x.cell h1, x.cellsFrom h2]
      exact h
    · cases h
theorem Rel.loadCells {P : Program} {H : AHeap} {w : World} (r : Rel H w) {a : Addr} : ∀ {n i : Nat} {l : List Value} (acc : Array Value),
    H.cellsFrom a i n = some l → (loadCellsFrom a i n acc).run P w = .ok (acc ++ l.toArray) w
  | 0, _, _, acc, h => by simp [AHeap.cellsFrom] at h; subst h; simp [loadCellsFrom, pure, Sem.run]
  | n + 1, i, l, acc, h => by
    simp only [AHeap.cellsFrom] at h
    split at h
    · rename_i v l' h1 h2
      cases h
      have ih := r.loadCells (P := P) (acc.push v) h2
      simp only [loadCellsFrom, bind, Sem.bind, load, Sem.run, r.cell h1]
      rw [ih]
      simp
    · cases h

/-! ### a frame's slots -/
structure Env where
  l : List (Nat × Value)
  ds : List Deferred
def lookL : List (Nat × Value) → Nat → Option Value
  | [], _ => none
  | (t, v) :: r, x => if x = t then some v else lookL r x
def Env.look (e : Env) (t : Nat) : Option Value := lookL e.l t
def Env.put (e : Env) (d : Option Nat) (v : Value) : Env :=
  match d with
  | some d => ⟨(d, v) :: e.l, e.ds⟩
  | none => e
def Env.eval (e : Env) : Operand → Option Value
  | .tmp t => lookL e.l t
  | .const v => some v
  | .global g => some (.pointer (some ⟨g, 0, none⟩))
  | .func f => some (.func (.func f) #[] #[])

structure FRel (n : Nat) (e : Env) (a : Act) : Prop where
  size : a.tmps.size = n
  ds : a.defers = e.ds
  look : ∀ t v, lookL e.l t = some v → a.tmps.getD t undef = v

theorem FRel.eval {n : Nat} {e : Env} {a : Act} (h : FRel n e a) {x : Operand} {v : Value} (hv : e.eval x = some v) : a.eval x = v := by
  cases x with
  | tmp t => exact h.look t v hv
  | const u => simpa [Env.eval, Act.eval] using hv
  | global g => simpa [Env.eval, Act.eval] using hv
  | func f => simpa [Env.eval, Act.eval] using hv
theorem FRel.put {n : Nat} {e : Env} {a : Act} (h : FRel n e a) {d : Option Nat} (hd : ∀ x, d = some x → x < n) (v : Value) : FRel n (e.put d v) (a.put d v) := by
  cases d with
  | none => exact h
  | some d =>
    have hlt := hd d rfl
    refine ⟨by simpa [Act.put] using h.size, h.ds, fun t u hu => ?_⟩
    simp only [Env.put, lookL] at hu
    split at hu
    · rename_i ht
      subst ht
      cases hu
      simp [Act.put, Array.getD_eq_getD_getElem?, h.size, hlt]
    · rename_i ht
      have := h.look t u hu
      simpa [Act.put, Array.getD_eq_getD_getElem?, Array.getElem?_setIfInBounds_ne (show d ≠ t from fun e => ht e.symm)] using this

/-! ### calls -/
def Enters (P : Program) (f : FuncId) : Prop := ∃ fn, P.funcs[f]? = some fn ∧ fn.body.isSome = true ∧ (fn.name == "runtime.NumGoroutine") = false

def ACallsE (P : Program) (f : FuncId) (args : Array Value) (H : AHeap) (R : Ending → AHeap → Prop) : Prop :=
  Enters P f ∧ ∀ w, Rel H w → Calls P f args w fun e w' => ∃ H', Step H w H' w' ∧ R e H'
def ACalls (P : Program) (f : FuncId) (args : Array Value) (H : AHeap) (R : Value → AHeap → Prop) : Prop :=
  ACallsE P f args H fun e H' => ∃ v, e = .returned v ∧ R v H'

theorem ACallsE.mono {P : Program} {f : FuncId} {args : Array Value} {H : AHeap} {R R' : Ending → AHeap → Prop} (h : ACallsE P f args H R)
    (k : ∀ e H', R e H' → R' e H') : ACallsE P f args H R' :=
  ⟨h.1, fun w r => (h.2 w r).mono fun e w' ⟨H', s, hr⟩ => ⟨H', s, k e H' hr⟩⟩
theorem ACalls.mono {P : Program} {f : FuncId} {args : Array Value} {H : AHeap} {R R' : Value → AHeap → Prop} (h : ACalls P f args H R)
    (k : ∀ v H', R v H' → R' v H') : ACalls P f args H R' :=
  ACallsE.mono h fun _ H' ⟨v, e, hr⟩ => ⟨v, e, k v H' hr⟩

end Go.Proofs.YteklhgmoniaieaaAh
