/- What an operation that only reckons, or only loads, leaves: pv, lv; and that the model agrees. -/
import Derived.Test.YteklhgmoniaieaaAhHeap
import Derived.Tactics
import Derived.WideLaws
import Derived.Laws.Tables
import Derived.Laws.Build
import Derived.Laws.StructEq
set_option linter.unusedVariables false
set_option linter.unusedSimpArgs false
namespace Go.Proofs.YteklhgmoniaieaaAh

/-! ### a program's types, in the few words that the walk asks -/
def tsz (P : Program) (t : TypeId) : Option Nat := (P.info? t).map (·.size)
def tagg (P : Program) (t : TypeId) : Option Bool :=
  match P.underlying t with
  | some (.struct _) | some (.array _ _) => some true
  | some _ => some false
  | none => none
def foff (P : Program) (t : TypeId) (f : Nat) : Option Nat :=
  match P.underlying t with
  | some (.struct fs) =>
    match fs[f]? with
    | some fl => match tsz P fl.type with
      | some (_ + 1) => some fl.offset
      | _ => none
    | none => none
  | _ => none
/-- A slice type's element type. -/
def elm (P : Program) (t : TypeId) : Option TypeId :=
  match P.underlying t with
  | some (.slice e) => some e
  | _ => none
def intk (P : Program) (t : TypeId) : Option IntKind :=
  match P.underlying t with
  | some (.int k) => some k
  | _ => none
def isStr (P : Program) (t : TypeId) : Option Bool := (P.underlying t).map fun | .string => true | _ => false
def lenT (P : Program) (t : TypeId) : Option Bool := match P.underlying t with
  | some .string => some true
  | some (.slice _) => some false
  | _ => none
def argT (P : Program) : List TypeId → Option Bool
  | t :: _ => lenT P t
  | [] => none
def isIface (P : Program) (t : TypeId) : Option Bool := (P.underlying t).map fun | .interface _ => true | _ => false
def zc (P : Program) (t : TypeId) : Option (List Value) := ((P.info? t).bind (·.zero)).map (·.cells.toList)
def zv (P : Program) (t : TypeId) : Option Value := (P.info? t).bind (·.zero)

theorem run_ul {P : Program} {t : TypeId} {d : TypeDesc} (h : P.underlying t = some d) (w : World) : (underlying t).run P w = .ok d w := by
  simp [underlying, program, bind, Sem.bind, Sem.run, h, pure]
theorem run_ti {P : Program} {t : TypeId} {i : TypeInfo} (h : P.info? t = some i) (w : World) : (typeInfo t).run P w = .ok i w := by
  simp [typeInfo, program, bind, Sem.bind, Sem.run, h, pure]
theorem run_sz {P : Program} {t : TypeId} {n : Nat} (h : tsz P t = some n) (w : World) : (sizeOf t).run P w = .ok n w := by
  unfold tsz at h
  cases hi : P.info? t with
  | none => simp [hi] at h
  | some i =>
    simp [hi] at h
    simp [sizeOf, Sem.run_bind, run_ti hi, Result.andThen, h, pure, Sem.run]
theorem run_agg {P : Program} {t : TypeId} {b : Bool} (h : tagg P t = some b) (w : World) : (isAgg t).run P w = .ok b w := by
  unfold tagg at h
  cases hu : P.underlying t with
  | none => simp [hu] at h
  | some d => cases d <;> simp [hu] at h <;> subst h <;> simp [isAgg, Sem.run_bind, run_ul hu, Result.andThen, pure, Sem.run]
theorem run_zv {P : Program} {t : TypeId} {z : Value} (h : zv P t = some z) (w : World) : (zeroValue t).run P w = .ok z w := by
  unfold zv at h
  cases hi : P.info? t with
  | none => simp [hi] at h
  | some i =>
    simp [hi] at h
    simp [zeroValue, Sem.run_bind, run_ti hi, Result.andThen, h, pure, Sem.run]

/-! ### loads -/
def AHeap.row (H : AHeap) (a : Addr) : Option (List Value) :=
  if a.spot.isSome then none else
  match H.at_ a.block with
  | some (.cells c _ _) => some (c.drop a.off)
  | some (.ro (.cells arr _ _)) => some (arr.toList.drop a.off)
  | _ => none
def takeN (n : Nat) : Option (List Value) → Option (List Value)
  | some l => if n ≤ l.length then some (l.take n) else none
  | none => none
def AHeap.loadN (H : AHeap) (a : Addr) (n : Nat) : Option (List Value) := takeN n (H.row a)
def headO : Option (List Value) → Option Value
  | some (v :: _) => some v
  | _ => none
def AHeap.load1 (H : AHeap) (a : Addr) : Option Value := headO (H.row a)

theorem row_cell {H : AHeap} {a : Addr} {l : List Value} (h : H.row a = some l) (i : Nat) {v : Value} (hv : l[i]? = some v) : H.cell (a.add i) = some v := by
  unfold AHeap.row at h
  split at h
  · cases h
  rename_i hs
  have e1 : (a.add i).block = a.block := by unfold Addr.add; split <;> rfl
  have e2 : (a.add i).off = a.off + i := by unfold Addr.add; split <;> simp_all
  have e3 : ¬ (a.add i).spot.isSome = true := by unfold Addr.add; split <;> simp_all
  unfold AHeap.cell
  rw [if_neg e3, e1, e2]
  cases hb : H.at_ a.block with
  | none => rw [hb] at h; cases h
  | some o =>
    rw [hb] at h
    cases o with
    | cells c e m => cases h; rw [List.getElem?_drop] at hv; exact hv
    | ro o => cases o <;> first | (simp only at h ⊢; cases h; rw [List.getElem?_drop, Array.getElem?_toList] at hv; exact hv) | cases h
    | obj o => cases h
theorem row_cells {H : AHeap} {a : Addr} {l : List Value} (h : H.row a = some l) : ∀ (n i : Nat), i + n ≤ l.length → H.cellsFrom a i n = some ((l.drop i).take n)
  | 0, i, _ => by simp [AHeap.cellsFrom]
  | n + 1, i, hn => by
    have hi : i < l.length := by omega
    simp only [AHeap.cellsFrom, row_cell h i (List.getElem?_eq_getElem hi), row_cells h n (i + 1) (by omega)]
    rw [List.drop_eq_getElem_cons hi]
    rfl
theorem loadN_cells {H : AHeap} {a : Addr} {n : Nat} {l : List Value} (h : H.loadN a n = some l) : H.cellsFrom a 0 n = some l := by
  unfold AHeap.loadN at h
  cases hr : H.row a with
  | none => rw [hr] at h; cases h
  | some r =>
    rw [hr] at h
    simp only [takeN] at h
    split at h
    · cases h; have := row_cells hr n 0 (by omega); simpa using this
    · cases h
theorem load1_cell {H : AHeap} {a : Addr} {v : Value} (h : H.load1 a = some v) : H.cell a = some v := by
  unfold AHeap.load1 at h
  cases hr : H.row a with
  | none => rw [hr] at h; cases h
  | some r =>
    rw [hr] at h
    cases r with
    | nil => cases h
    | cons u r =>
      simp only [headO] at h
      cases h
      have := row_cell hr 0 (v := v) rfl
      simpa [Addr.add] using this

def lv (P : Program) (e : Env) (H : AHeap) : Op → Option Value
  | .load t x =>
    match e.eval x with
    | some (.pointer (some ad)) =>
      match tagg P t with
      | some true => match tsz P t with
        | some n => (H.loadN ad n).map fun l => .agg l.toArray
        | none => none
      | some false => H.load1 ad
      | none => none
    | _ => none
  | _ => none
def isLoad : Op → Bool
  | .load _ _ => true
  | _ => false

theorem lv_ok {P : Program} {n : Nat} {e : Env} {H : AHeap} {a : Act} {w : World} {o : Oper} {v : Value} (hf : FRel n e a) (hr : Rel H w) (h : lv P e H o.op = some v) :
    (execOp a.eval o).run P w = .ok (.value v) w := by
  unfold lv at h
  split at h
  · rename_i t x hop
    split at h
    · rename_i ad hx
      have hx' := hf.eval hx
      unfold execOp
      simp only [hop, Instr.loadAt, hx', Sem.run_bind]
      split at h
      · rename_i hg
        split at h
        · rename_i m hm
          obtain ⟨l, hl, rfl⟩ := Option.map_eq_some_iff.1 h
          have := hr.loadCells (P := P) #[] (loadN_cells hl)
          simp only [Instr.sureAddr, loadVar, loadCells, Sem.run_bind, Sem.run_pure, Result.andThen_ok, run_agg hg, run_sz hm, this, if_true]
          simp
        · cases h
      · rename_i hg
        have hc := hr.cell (load1_cell h)
        simp only [Instr.sureAddr, loadVar, Sem.run_bind, Sem.run_pure, Result.andThen_ok, run_agg hg]
        simp [load, Sem.run, hc, Result.andThen]
      · cases h
    · cases h
  · cases h

@[simp] theorem cells_agg (c : Array Value) : (Value.agg c).cells = c := rfl
@[simp] theorem cells_int (k : IntKind) (x : Int) : (Value.int k x).cells = #[.int k x] := rfl
@[simp] theorem cells_bool (b : Bool) : (Value.bool b).cells = #[.bool b] := rfl
@[simp] theorem cells_string (s : ByteArray) : (Value.string s).cells = #[.string s] := rfl
@[simp] theorem cells_slice (a : Option Addr) (n c : Nat) : (Value.slice a n c).cells = #[.slice a n c] := rfl
@[simp] theorem cells_pointer (a : Option Addr) : (Value.pointer a).cells = #[.pointer a] := rfl
@[simp] theorem cells_map (a : Option Nat) : (Value.map a).cells = #[.map a] := rfl
@[simp] theorem cells_func (f : Fn) (a b : Array Value) : (Value.func f a b).cells = #[.func f a b] := rfl
@[simp] theorem cells_nilFunc : Value.nilFunc.cells = #[.nilFunc] := rfl
@[simp] theorem cells_iface (t : TypeId) (v : Value) : (Value.iface t v).cells = #[.iface t v] := rfl
@[simp] theorem cells_nilIface : Value.nilIface.cells = #[.nilIface] := rfl
def nthL {α : Type} : List α → Nat → Option α
  | [], _ => none
  | a :: _, 0 => some a
  | _ :: l, n + 1 => nthL l n
theorem nthL_eq {α : Type} : ∀ (l : List α) (n : Nat), nthL l n = l[n]?
  | [], _ => rfl
  | a :: l, 0 => rfl
  | a :: l, n + 1 => by rw [nthL, nthL_eq l n]; rfl

/-! ### what only reckons -/
def binI (op : BinOp) (k : IntKind) (a b : Int) : Option Value :=
  match op with
  | .add => some (.int k (k.wrap (a + b)))
  | .sub => some (.int k (k.wrap (a - b)))
  | .mul => some (.int k (k.wrap (a * b)))
  | .quo => if b = 0 then none else some (.int k (k.wrap (a.tdiv b)))
  | .rem => if b = 0 then none else some (.int k (a.tmod b))
  | .eql => some (.bool (a == b))
  | .neq => some (.bool (a != b))
  | .lss => some (.bool (decide (a < b)))
  | .leq => some (.bool (decide (a ≤ b)))
  | .gtr => some (.bool (decide (a > b)))
  | .geq => some (.bool (decide (a ≥ b)))
  | _ => none
def binS (op : BinOp) (a b : ByteArray) : Option Value :=
  match op with
  | .eql => some (.bool (a.toList == b.toList))
  | .neq => some (.bool (!(a.toList == b.toList)))
  | .add => if ((a.size + b.size : Nat) : Int) > IntKind.i64.max then none else some (.string (a ++ b))
  | _ => none
def isBool (P : Program) (t : TypeId) : Option Bool := (P.underlying t).map fun | .bool => true | _ => false
/-- The places of a struct's fields, if all are numbers. -/
def eqAt (P : Program) (t : TypeId) : Option (List Nat) :=
  match P.underlying t with
  | some (.struct fs) => if P.stoodInHeld t = false ∧ P.eqGuardType P.depth t = false ∧ fs.toList.all (fun f => f.name != "_" && ((intk P f.type).isSome && (tagg P f.type == some false))) = true then some (fs.toList.map (·.offset)) else none
  | _ => none
def eqL (xs ys : List Value) : List Nat → Option Bool
  | [] => some true
  | o :: r => match nthL xs o, nthL ys o with
    | some (.int k a), some (.int k' b) => if k = k' then match eqL xs ys r with
      | some s => some ((a == b) && s)
      | none => none
      else none
    | _, _ => none
def eqB (op : BinOp) (b : Bool) : Option Value := match op with
  | .eql => some (.bool b)
  | .neq => some (.bool (!b))
  | _ => none
def binV (P : Program) (op : BinOp) (t : TypeId) (x y : Value) : Option Value :=
  match x, y with
  | .int k a, .int k' b => if k = k' then binI op k a b else none
  | .string a, .string b => binS op a b
  | .bool a, .bool b =>
    if isBool P t = some true then
      match op with
      | .eql => some (.bool (a == b))
      | .neq => some (.bool (!(a == b)))
      | _ => none
    else none
  | .agg xs, .agg ys => match eqAt P t with
    | some l => match eqL xs.toList ys.toList l with
      | some b => eqB op b
      | none => none
    | none => none
  | .slice a _ _, .slice none 0 0 => match elm P t with
    | some _ => eqB op a.isNone
    | none => none
  | _, _ => none
def unV (op : UnOp) (x : Value) : Option Value :=
  match op, x with
  | .neg, .int k n => some (.int k (k.wrap (0 - n)))
  | .not, .bool b => some (.bool !b)
  | _, _ => none
def evalL (e : Env) : List Operand → Option (List Value)
  | [] => some []
  | x :: r => match e.eval x, evalL e r with
    | some v, some l => some (v :: l)
    | _, _ => none
def lenV (x : Value) : Option Value :=
  match x with
  | .string s => some (.int .i64 s.size)
  | .slice _ n _ => some (.int .i64 n)
  | _ => none
def setCells (z : List Value) (off : Nat) : List Value → List Value
  | [] => z
  | v :: r => setCells (z.set off v) (off + 1) r
def buildV (pl : Nat → Option (Nat × Nat)) (z : List Value) : List (Nat × Value) → Option (List Value)
  | [] => some z
  | (i, v) :: r =>
    match pl i with
    | some (off, n) => if v.cells.toList.length = n ∧ off + n ≤ z.length then buildV pl (setCells z off v.cells.toList) r else none
    | none => none
/-- A struct type's fields: where each begins, and its cells. -/
def flds (P : Program) (t : TypeId) : Option (List (Nat × Nat)) :=
  match P.underlying t with
  | some (.struct fs) => fs.toList.mapM fun f => (tsz P f.type).map fun n => (f.offset, n)
  | _ => none
/-- A value's part. -/
def partV (P : Program) (t : TypeId) (f : Nat) (cs : List Value) : Option Value :=
  match P.underlying t with
  | some (.struct fs) =>
    match fs[f]? with
    | some fl => match tagg P fl.type, tsz P fl.type with
      | some true, some n => some (.agg ((cs.drop fl.offset).take n).toArray)
      | some false, _ => cs[fl.offset]?
      | _, _ => none
    | none => none
  | _ => none
def slcA (a : Option Addr) (cap lo sz : Nat) : Option Addr := if cap = lo then a else a.map (·.add (lo * sz))
/-- 'x[lo:hi]' of a slice. -/
def slcV (a : Option Addr) (cap sz : Nat) (lo hi : Int) : Option Value := if 0 ≤ lo ∧ lo ≤ hi ∧ hi ≤ cap then some (.slice (slcA a cap lo.toNat sz) (hi - lo).toNat (cap - lo).toNat) else none
@[simp] theorem slcV_ok (a : Option Addr) (cap sz : Nat) (lo hi : Int) (h : 0 ≤ lo ∧ lo ≤ hi ∧ hi ≤ cap) : slcV a cap sz lo hi = some (.slice (slcA a cap lo.toNat sz) (hi - lo).toNat (cap - lo).toNat) := if_pos h
/-- 's[lo:hi]' of a string. -/
def slcS (s : ByteArray) (lo hi : Int) : Option Value := if 0 ≤ lo ∧ lo ≤ hi ∧ hi ≤ s.size then some (.string (s.extract lo.toNat hi.toNat)) else none
@[simp] theorem slcS_ok (s : ByteArray) (lo hi : Int) (h : 0 ≤ lo ∧ lo ≤ hi ∧ hi ≤ s.size) : slcS s lo hi = some (.string (s.extract lo.toNat hi.toNat)) := if_pos h
def bnd (e : Env) (d : Int) : Option Operand → Option Int
  | none => some d
  | some x => match e.eval x with
    | some (.int _ i) => some i
    | _ => none
def pickV (t : Bool) (u v : Value) : Value := if t then u else v
/-- What a guarded operation leaves. -/
def ifV (b : Bool) (v : Value) : Value := if b then v else undef
@[simp] theorem pickV_true (u v : Value) : pickV true u v = u := rfl
@[simp] theorem pickV_false (u v : Value) : pickV false u v = v := rfl
@[simp] theorem ifV_true (v : Value) : ifV true v = v := rfl
@[simp] theorem ifV_false (v : Value) : ifV false v = undef := rfl
@[simp] theorem pickV_and (b c : Bool) : pickV b (ifV b (.bool c)) (.bool false) = .bool (b && c) := by cases b <;> rfl
@[simp] theorem pickV_or (b c : Bool) : pickV b (.bool true) (ifV (!b) (.bool c)) = .bool (b || c) := by cases b <;> rfl
theorem pickV_and' {g b : Bool} (c : Bool) (h : g = b) : pickV b (ifV g (.bool c)) (.bool false) = .bool (b && c) := by subst h; cases g <;> rfl
theorem pickV_or' {g b : Bool} (c : Bool) (h : g = !b) : pickV b (.bool true) (ifV g (.bool c)) = .bool (b || c) := by subst h; cases b <;> rfl
@[simp] theorem pickV_bools (b c d : Bool) : pickV b (.bool c) (.bool d) = .bool (if b then c else d) := by cases b <;> rfl
/-- An index within its bounds. -/
def inRg (n : Int) (len : Nat) (v : Value) : Option Value := if 0 ≤ n ∧ n < len then some v else none
@[simp] theorem inRg_ok (n : Int) (len : Nat) (v : Value) (h : 0 ≤ n ∧ n < len) : inRg n len v = some v := if_pos h
def pv (P : Program) (e : Env) (o : Op) : Option Value :=
  match o with
  | .move x | .assign x => e.eval x
  | .pick c a b =>
    match e.eval c, e.eval a, e.eval b with
    | some (.bool t), some u, some v => some (pickV t u v)
    | _, _, _ => none
  | .binOp op t x y _ =>
    match e.eval x, e.eval y with
    | some u, some v => binV P op t u v
    | _, _ => none
  | .unOp op _ x => match e.eval x with
    | some u => unV op u
    | _ => none
  | .fieldAddr t x f =>
    match e.eval x, foff P t f with
    | some (.pointer (some ad)), some off => some (.pointer (some (ad.add off)))
    | _, _ => none
  | .field t x f =>
    match e.eval x with
    | some (.agg cs) => partV P t f cs.toList
    | _ => none
  | .indexAddr t x i =>
    match e.eval x, e.eval i, (elm P t).bind (tsz P) with
    | some (.slice (some ad) len _), some (.int _ n), some s => inRg n len (.pointer (some (ad.add (n.toNat * s))))
    | _, _, _ => none
  | .index t x i =>
    match e.eval x, e.eval i, isStr P t with
    | some (.string s), some (.int _ n), some true => inRg n s.size (.int .u8 ((s[n.toNat]?.map (·.toNat)).getD 0 : Nat))
    | _, _, _ => none
  | .extract x i =>
    match e.eval x with
    | some (.tuple vs) => nthL vs.toList i
    | _ => none
  | .nilCheck x =>
    match e.eval x with
    | some (.pointer (some ad)) => some (.pointer (some ad))
    | _ => none
  | .convert s d x =>
    match e.eval x, (P.underlying s).isSome, intk P d with
    | some (.int _ n), true, some k => some (.int k (k.wrap n))
    | _, _, _ => none
  | .makeFunc fn first cap =>
    match evalL e first.toList, evalL e cap.toList with
    | some f, some c => some (.func fn f.toArray c.toArray)
    | _, _ => none
  | .makeInterface t x =>
    match isIface P t, e.eval x with
    | some false, some v => some (.iface t v)
    | _, _ => none
  | .build t parts =>
    match flds P t, zc P t, evalL e (parts.toList.map (·.2)) with
    | some offs, some z, some vs => (buildV (nthL offs) z ((parts.toList.map (·.1)).zip vs)).map fun c => .agg c.toArray
    | _, _, _ => none
  | .slice t x lo hi mx =>
    match mx, e.eval x with
    | none, some (.string s) => match isStr P t, bnd e 0 lo, bnd e s.size hi with
      | some true, some l, some h => slcS s l h
      | _, _, _ => none
    | none, some (.slice a len cap) => match (elm P t).bind (tsz P), bnd e 0 lo, bnd e len hi with
      | some sz, some l, some h => slcV a cap sz l h
      | _, _, _ => none
    | _, _ => none
  | .call c =>
    match c.callee, c.args.toList with
    | .builtin .max, [x, y] => match e.eval x, e.eval y with
      | some (.int k a), some (.int _ b) => some (.int k (max a b))
      | _, _ => none
    | .builtin .min, [x, y] => match e.eval x, e.eval y with
      | some (.int k a), some (.int _ b) => some (.int k (min a b))
      | _, _ => none
    | .builtin .cap, [x] => match e.eval x, argT P c.argTypes.toList with
      | some (.slice _ _ n), some false => some (.int .i64 n)
      | _, _ => none
    | .builtin .len, [x] => match e.eval x, argT P c.argTypes.toList with
      | some (.string s), some true => some (.int .i64 s.size)
      | some (.slice _ n _), some false => some (.int .i64 n)
      | _, _ => none
    | _, _ => none
  | _ => none

theorem evalL_ok {n : Nat} {e : Env} {a : Act} (hf : FRel n e a) : ∀ {xs : List Operand} {vs : List Value}, evalL e xs = some vs → xs.map a.eval = vs
  | [], _, h => by simp [evalL] at h; simp [← h]
  | x :: r, vs, h => by
    simp only [evalL] at h
    split at h
    · rename_i v l h1 h2
      cases h
      simp [hf.eval h1, evalL_ok hf h2]
    · cases h

theorem binI_ok {P : Program} {op : BinOp} {k : IntKind} {a b : Int} {v : Value} (h : binI op k a b = some v) (w : World) (t : TypeId) :
    op ≠ .shl ∧ op ≠ .shr ∧ (binOp op t (.int k a) (.int k b)).run P w = .ok v w := by
  cases op <;> simp only [binI] at h <;> first
    | (simp only [Option.some.injEq] at h; subst h; simp [binOp, Op.intArith, Op.intCmp, Sem.run, pure]; done)
    | (split at h <;> first | (cases h; done) | (simp only [Option.some.injEq] at h; subst h; rename_i hb; simp [binOp, Op.intDiv, hb, Sem.run, pure]; done))
    | cases h
theorem equalIn_bool {P : Program} {t : TypeId} (hu : P.underlying t = some .bool) (d : Nat) (a b : Bool) (w : World) : (Op.equalIn (d + 1) t (.bool a) (.bool b)).run P w = .ok (a == b) w := by
  simp [Op.equalIn, Sem.run_bind, run_ul hu, Result.andThen, Sem.run, pure]
theorem run_pr {P : Program} {w : World} : (program : Sem Program).run P w = .ok P w := rfl
theorem eqF_ok {P : Program} {xs ys : Array Value} (d : Nat) (w : World) : ∀ (fs : List Field) (r : Bool), fs.all (fun f => f.name != "_" && ((intk P f.type).isSome && (tagg P f.type == some false))) = true → eqL xs.toList ys.toList (fs.map (·.offset)) = some r →
    (Op.eqFields (d + 1) xs ys fs).run P w = .ok r w
  | [], r, _, h => by simp [eqL] at h; subst h; simp [Op.eqFields, Sem.run, pure]
  | f :: fs, r, hall, h => by
    simp only [List.all_cons, Bool.and_eq_true, bne_iff_ne, ne_eq, beq_iff_eq] at hall
    obtain ⟨⟨hn, hi, hg⟩, hr⟩ := hall
    simp only [List.map_cons, eqL, nthL_eq, Array.getElem?_toList] at h
    split at h
    · rename_i k a k' b ha hb
      split at h
      · rename_i hk
        subst hk
        split at h
        · rename_i s hs
          cases h
          obtain ⟨ki, hki⟩ := Option.isSome_iff_exists.1 hi
          have hu : P.underlying f.type = some (.int ki) := by
            unfold intk at hki
            split at hki
            · rename_i hq; cases hki; exact hq
            · cases hki
          have p1 : (part f.type xs f.offset).run P w = .ok (.int k a) w := by simp [part, Sem.run_bind, run_agg hg, Result.andThen, ha, Sem.run, pure]
          have p2 : (part f.type ys f.offset).run P w = .ok (.int k b) w := by simp [part, Sem.run_bind, run_agg hg, Result.andThen, hb, Sem.run, pure]
          have he : (Op.equalIn (d + 1) f.type (.int k a) (.int k b)).run P w = .ok (a == b) w := run_equalIn_int w d f.type k ki a b hu
          have ih := eqF_ok d w fs s hr hs
          rw [Op.eqFields]
          simp only [if_pos hn, Sem.run_bind, p1, p2, he, Result.andThen_ok]
          cases hab : (a == b)
          · simp [Sem.run_pure]
          · simpa using ih
        · cases h
      · cases h
    · cases h
theorem eqNil_ok {P : Program} {t el : TypeId} (hu : P.underlying t = some (.slice el)) (d : Nat) (a : Option Addr) (len cap : Nat) (w : World) : (Op.equalIn (d + 1) t (.slice a len cap) (.slice none 0 0)).run P w = .ok a.isNone w := by
  cases a <;> simp [Op.equalIn, Sem.run_bind, run_ul hu, Result.andThen, Sem.run_pure]
theorem binV_ok {P : Program} {op : BinOp} {x y : Value} {v : Value} {t : TypeId} (h : binV P op t x y = some v) (w : World) (ox oy : Operand) :
    (do eqGuard op t ox oy x y; binOp op t x y : Sem Value).run P w = .ok v w := by
  unfold binV at h
  split at h
  · rename_i k a k' b
    split at h
    · rename_i hk
      subst hk
      have hg : (eqGuard op t ox oy (.int k a) (.int k b)).run P w = .ok () w := by
        unfold eqGuard; cases op <;> simp [bind, Sem.bind, pure, Sem.run]
      rw [Sem.run_bind, hg]
      exact (binI_ok h w t).2.2
    · cases h
  · rename_i a b
    have hg : (eqGuard op t ox oy (.string a) (.string b)).run P w = .ok () w := by
      unfold eqGuard; cases op <;> simp [bind, Sem.bind, pure, Sem.run]
    rw [Sem.run_bind, hg]
    cases op <;> simp only [binS] at h <;> first
      | (simp only [Option.some.injEq] at h; subst h; simp [binOp, Op.stringOp, Sem.run, pure, Result.andThen]; done)
      | (rename_i hz; split at h <;> first | (cases h; done) | (simp only [Option.some.injEq] at h; subst h; rename_i hb; simp only [binOp, Op.stringOp, hb, if_false, Result.andThen]; rfl))
      | (split at h <;> first | (cases h; done) | (simp only [Option.some.injEq] at h; subst h; rename_i hb; simp only [binOp, Op.stringOp, hb, if_false, Result.andThen]; rfl))
      | (cases h; done)
  · rename_i a b
    have hg : (eqGuard op t ox oy (.bool a) (.bool b)).run P w = .ok () w := by
      unfold eqGuard; cases op <;> simp [bind, Sem.bind, pure, Sem.run]
    rw [Sem.run_bind, hg]
    split at h
    · rename_i hb
      simp only [isBool] at hb
      cases hu : P.underlying t with
      | none => simp [hu] at hb
      | some d =>
        cases d <;> simp [hu] at hb
        have he : (Op.equal t (.bool a) (.bool b)).run P w = .ok (a == b) w :=
          equalIn_bool hu 9999 a b w
        cases op <;> simp only at h <;> first
          | (simp only [Option.some.injEq] at h; subst h; simp [binOp, Sem.run_bind, he, Result.andThen, Sem.run, pure]; done)
          | cases h
    · cases h
  · rename_i xs ys
    split at h
    · rename_i l hl
      split at h
      · rename_i b hb
        unfold eqAt at hl
        cases hu : P.underlying t with
        | none => simp [hu] at hl
        | some d =>
          cases d <;> simp only [hu] at hl <;> try (cases hl; done)
          rename_i fs
          split at hl
          · rename_i hc
            obtain ⟨h1, h2, h3⟩ := hc
            simp only [Option.some.injEq] at hl
            subst hl
            have hfs : P.fieldsOf t = fs := by simp [Program.fieldsOf, hu]
            have he : (Op.equal t (.agg xs) (.agg ys)).run P w = .ok b w := by
              show (Op.equalIn (9998 + 1 + 1) t (.agg xs) (.agg ys)).run P w = _
              rw [run_equalIn_struct (P := P) w (9998 + 1) t xs ys (by rw [hfs]; exact hu) h1, hfs]
              exact eqF_ok 9998 w fs.toList b h3 hb
            have hg : (eqGuard op t ox oy (.agg xs) (.agg ys)).run P w = .ok () w := by
              unfold eqGuard
              cases op <;> simp [Sem.run_bind, run_pr, Result.andThen, Sem.run_pure, h2]
            rw [Sem.run_bind, hg]
            cases op <;> simp only [eqB] at h <;> first
              | (simp only [Option.some.injEq] at h; subst h; simp [binOp, Sem.run_bind, he, Result.andThen, Sem.run_pure]; done)
              | cases h
          · cases hl
      · cases h
    · cases h
  · rename_i a len cap
    split at h
    · rename_i el hel
      have hu : P.underlying t = some (.slice el) := by
        unfold elm at hel
        cases hq : P.underlying t with
        | none => simp [hq] at hel
        | some d => cases d <;> simp [hq] at hel; subst hel; rfl
      have he : (Op.equal t (.slice a len cap) (.slice none 0 0)).run P w = .ok a.isNone w := eqNil_ok hu 9999 a len cap w
      have hg : (eqGuard op t ox oy (.slice a len cap) (.slice none 0 0)).run P w = .ok () w := by
        unfold eqGuard
        cases op <;> simp [Sem.run_bind, Sem.run_pure]
      rw [Sem.run_bind, hg]
      cases op <;> simp only [eqB] at h <;> first
        | (simp only [Option.some.injEq] at h; subst h; simp [binOp, Sem.run_bind, he, Result.andThen, Sem.run_pure]; done)
        | cases h
    · cases h
  · cases h
theorem unV_ok {P : Program} {op : UnOp} {x v : Value} (h : unV op x = some v) (w : World) : (Op.unary op x).run P w = .ok v w := by
  unfold unV at h
  split at h
  · simp only [Option.some.injEq] at h; subst h; simp [Op.unary, Op.intArith, Sem.run, pure]
  · simp only [Option.some.injEq] at h; subst h; simp [Op.unary, Sem.run, pure]
  · cases h
theorem run_eif {P : Program} {b : Bool} (w : World) : (pure b : Sem Bool).run P w = .ok b w := rfl
theorem foff_ok {P : Program} {t : TypeId} {f : Nat} {off : Nat} (h : foff P t f = some off) (ad : Addr) (w : World) :
    (Instr.fieldAt t (.pointer (some ad)) f).run P w = .ok (.pointer (some (ad.add off))) w := by
  unfold foff at h
  cases hu : P.underlying t with
  | none => simp [hu] at h
  | some d =>
    cases d <;> simp [hu] at h
    rename_i fs
    cases hf : fs[f]? with
    | none => simp [hf] at h
    | some fl =>
      simp [hf] at h
      cases hz : tsz P fl.type with
      | none => simp [hz] at h
      | some m =>
        cases m with
        | zero => simp [hz] at h
        | succ m =>
          simp [hz] at h
          subst h
          simp [Instr.fieldAt, Sem.run_bind, run_ul hu, Result.andThen, hf, Instr.sureAddr, fieldPlace, run_sz hz, Sem.run, pure]
theorem indexAt_ok {P : Program} {t el : TypeId} {s : Nat} (he : elm P t = some el) (hs : tsz P el = some s) (ad : Addr) (len cap : Nat) (k : IntKind) (i : Int) (h : 0 ≤ i ∧ i < len) (w : World) :
    (Instr.indexAt t (.slice (some ad) len cap) (.int k i)).run P w = .ok (.pointer (some (ad.add (i.toNat * s)))) w := by
  unfold elm at he
  cases hu : P.underlying t with
  | none => simp [hu] at he
  | some d =>
    cases d <;> simp [hu] at he
    subst he
    simp [Instr.indexAt, Sem.run_bind, run_ul hu, Result.andThen, asIntOf, Sem.run, pure, h.1, h.2, run_sz hs]
theorem part_ok {P : Program} {t : TypeId} {f : Nat} {cs : Array Value} {v : Value} (h : partV P t f cs.toList = some v) (w : World) :
    (Instr.field t (.agg cs) f).run P w = .ok v w := by
  unfold partV at h
  cases hu : P.underlying t with
  | none => simp [hu] at h
  | some d =>
    cases d <;> simp [hu] at h
    rename_i fs
    cases hf : fs[f]? with
    | none => simp [hf] at h
    | some fl =>
      simp [hf] at h
      cases hg : tagg P fl.type with
      | none => simp [hg] at h
      | some b =>
        cases b
        · simp [hg] at h
          simp [Instr.field, Sem.run_bind, run_ul hu, Result.andThen, hf, asAgg, part, run_agg hg, h, Sem.run, pure]
        · cases hz : tsz P fl.type with
          | none => simp [hg, hz] at h
          | some m =>
            simp [hg, hz] at h
            subst h
            have e : (cs.extract fl.offset (fl.offset + m)) = ((cs.toList.drop fl.offset).take m).toArray := by
              apply Array.toList_inj.1
              simp [Array.toList_extract, List.extract_eq_take_drop]
            simp [Instr.field, Sem.run_bind, run_ul hu, Result.andThen, hf, asAgg, part, run_agg hg, run_sz hz, Sem.run, pure, e]
theorem setCells_length (off : Nat) : ∀ (vs : List Value) (z : List Value) (off : Nat), (setCells z off vs).length = z.length
  | [], _, _ => rfl
  | v :: r, z, off => by rw [setCells, setCells_length 0 r, List.length_set]
theorem foldl_setCells (z : Array Value) (off : Nat) : ∀ (vs : List Value) (k : Nat) (z : Array Value),
    ((vs.zipIdx k).foldl (fun (cs : Array Value) (p : Value × Nat) => cs.setIfInBounds (off + p.2) p.1) z).toList = setCells z.toList (off + k) vs
  | [], _, _ => rfl
  | v :: r, k, z => by
    simp only [List.zipIdx_cons, List.foldl_cons]
    rw [foldl_setCells z off r (k + 1)]
    simp [setCells, Array.toList_setIfInBounds, Nat.add_assoc]
theorem fill_ok (pl : Nat → Option (Nat × Nat)) : ∀ (parts : List (Nat × Value)) (z : Array Value) (l : List Value), buildV pl z.toList parts = some l →
    Instr.fill pl z parts = some l.toArray
  | [], z, l, h => by simp [buildV] at h; subst h; simp [Instr.fill]
  | (i, v) :: r, z, l, h => by
    simp only [buildV] at h
    cases ho : pl i with
    | none => simp [ho] at h
    | some p =>
      obtain ⟨off, n⟩ := p
      rw [ho] at h
      simp only at h
      split at h
      · rename_i hc
        have h1 : v.cells.size = n := by simpa using hc.1
        have h2 : ¬ (off + v.cells.size > z.size) := by have := hc.2; simp at this; omega
        simp only [Instr.fill, ho]
        rw [if_neg (by simp only [Bool.or_eq_true, decide_eq_true_eq, not_or]; exact ⟨by omega, h2⟩)]
        refine fill_ok pl r _ l ?_
        have e := foldl_setCells z off v.cells.toList 0 z
        simp only [Nat.add_zero] at e
        rw [← h, ← e, ← Array.foldl_toList]
        simp [Array.toList_zipIdx]
      · cases h
theorem build_ok {P : Program} {t : TypeId} {offs : List (Nat × Nat)} {z l : List Value} {parts : Array (Nat × Value)} (hf : flds P t = some offs) (hz : zc P t = some z)
    (h : buildV (fun i : Nat => offs[i]?) z parts.toList = some l) (w : World) : (Instr.build t parts).run P w = .ok (.agg l.toArray) w := by
  refine run_build w t parts l.toArray ?_
  unfold flds at hf
  unfold zc at hz
  unfold Program.built
  cases hi : P.info? t with
  | none => simp [hi] at hz
  | some it =>
    cases hu : P.underlying t with
    | none => simp [hu] at hf
    | some d =>
      cases hzz : it.zero with
      | none => simp [hi, hzz] at hz
      | some zz =>
        cases d <;> simp [hu] at hf
        rename_i fs
        simp [hi, hzz] at hz
        subst hz
        have e : fs.toList.mapM (fun f => (P.info? f.type).map fun i => (f.offset, i.size)) = some offs := by
          rw [← hf]
          congr 1
          funext f
          simp [tsz, Function.comp_def]
        simp only [hzz, e]
        have e2 : (fun i : Nat => offs.toArray[i]?) = (fun i : Nat => offs[i]?) := by funext i; simp
        rw [e2]
        exact fill_ok _ _ _ _ h
theorem index_ok {P : Program} {t : TypeId} (hs : isStr P t = some true) (s : ByteArray) (k : IntKind) (i : Int) (h : 0 ≤ i ∧ i < s.size) (w : World) :
    (Instr.index t (.string s) (.int k i)).run P w = .ok (.int .u8 ((s[i.toNat]?.map (·.toNat)).getD 0 : Nat)) w := by
  unfold isStr at hs
  cases hu : P.underlying t with
  | none => simp [hu] at hs
  | some d =>
    cases d <;> simp [hu] at hs
    have hlt : i.toNat < s.size := by omega
    have e : s[i.toNat]? = some s[i.toNat] := by simp [getElem?_pos, hlt]
    simp [Instr.index, Sem.run_bind, run_ul hu, Result.andThen, asIntOf, h.1, e, Sem.run, pure]
theorem run_v {P : Program} {s : Sem Value} {v : Value} {w : World} (h : s.run P w = .ok v w) : (do pure (.value (← s)) : Sem Next).run P w = .ok (.value v) w := by
  rw [Sem.run_bind, h]; rfl
theorem mapSnd {P : Program} (parts : List (Nat × Operand)) (f : Operand → Value) : parts.map (fun p => (p.1, f p.2)) = (parts.map (·.1)).zip ((parts.map (·.2)).map f) := by
  induction parts with
  | nil => rfl
  | cons p r ih => simp [ih]
theorem bnd_ok {n : Nat} {e : Env} {a : Act} (hf : FRel n e a) {d : Int} {x : Option Operand} {i : Int} (h : bnd e d x = some i) : (x = none ∧ i = d) ∨ ∃ y k, x = some y ∧ a.eval y = .int k i := by
  cases x with
  | none => simp [bnd] at h; exact .inl ⟨rfl, h.symm⟩
  | some y =>
    simp only [bnd] at h
    split at h
    · rename_i k j hy
      cases h
      exact .inr ⟨y, k, rfl, hf.eval hy⟩
    · cases h
theorem run_bounds {P : Program} {w : World} {a : Act} (b : Bool) (len cap : Nat) (lo hi : Option Operand) (l h : Int) (h1 : (lo = none ∧ l = 0) ∨ ∃ y k, lo = some y ∧ a.eval y = .int k l) (h2 : (hi = none ∧ h = len) ∨ ∃ y k, hi = some y ∧ a.eval y = .int k h) (q1 : 0 ≤ l) (q2 : l ≤ h) (q3 : h ≤ cap) :
    (Instr.sliceBounds b len cap (lo.map a.eval) (hi.map a.eval) none).run P w = .ok (l.toNat, h.toNat, cap) w := by
  have e1 : (l ≤ ((h.toNat : Nat) : Int)) := by omega
  rcases h1 with ⟨rfl, rfl⟩ | ⟨y, k, rfl, hy⟩ <;> rcases h2 with ⟨rfl, rfl⟩ | ⟨y', k', rfl, hy'⟩
  · simp [Instr.sliceBounds, Sem.run_bind, Sem.run_pure, Result.andThen]
  · simp [Instr.sliceBounds, Instr.sliceBound, asIntOf, Sem.run_bind, Sem.run_pure, Result.andThen, hy', show 0 ≤ h by omega, q3]
  · have q2' : l.toNat ≤ len := by omega
    simp [Instr.sliceBounds, Instr.sliceBound, asIntOf, Sem.run_bind, Sem.run_pure, Result.andThen, hy, q1, q2]
  · simp [Instr.sliceBounds, Instr.sliceBound, asIntOf, Sem.run_bind, Sem.run_pure, Result.andThen, hy, hy', show 0 ≤ h by omega, q3, q1, show l ≤ max h 0 by omega]
theorem pv_ok {P : Program} {n : Nat} {e : Env} {a : Act} {o : Oper} {v : Value} (hf : FRel n e a) (h : pv P e o.op = some v) (w : World) :
    (execOp a.eval o).run P w = .ok (.value v) w := by
  unfold pv at h
  split at h
  · rename_i x hop; unfold execOp; simp only [hop, hf.eval h]; rfl
  · rename_i x hop; unfold execOp; simp only [hop, hf.eval h]; rfl
  · rename_i c x y hop
    unfold execOp; simp only [hop]
    split at h
    · rename_i t u v' hc hu hv
      cases h
      simp only [Sem.run_bind, hf.eval hc, asBool, Sem.run_pure, Result.andThen_ok, hf.eval hu, hf.eval hv]
      cases t <;> rfl
    · cases h
  · rename_i op t x y yt hop
    unfold execOp; simp only [hop]
    split at h
    · rename_i u u' hx hy
      rw [hf.eval hx, hf.eval hy]
      exact run_v (binV_ok h w x y)
    · cases h
  · rename_i op t x hop
    unfold execOp; simp only [hop]
    split at h
    · rename_i u hx; rw [hf.eval hx]; exact run_v (unV_ok h w)
    · cases h
  · rename_i t x f hop
    unfold execOp; simp only [hop]
    split at h
    · rename_i ad off hx ho
      cases h
      rw [hf.eval hx]; exact run_v (foff_ok ho ad w)
    · cases h
  · rename_i t x f hop
    unfold execOp; simp only [hop]
    split at h
    · rename_i cs hx; rw [hf.eval hx]; exact run_v (part_ok h w)
    · cases h
  · rename_i t x i hop
    unfold execOp; simp only [hop]
    split at h
    · rename_i ad len cap k m s hx hi hs
      unfold inRg at h
      split at h
      · rename_i hc
        cases h
        obtain ⟨el, he, hs⟩ := Option.bind_eq_some_iff.1 hs
        rw [hf.eval hx, hf.eval hi]; exact run_v (indexAt_ok he hs ad len cap k m hc w)
      · cases h
    · cases h
  · rename_i t x i hop
    unfold execOp; simp only [hop]
    split at h
    · rename_i s k m hx hi hs
      unfold inRg at h
      split at h
      · rename_i hc
        cases h
        rw [hf.eval hx, hf.eval hi]; exact run_v (index_ok hs s k m hc w)
      · cases h
    · cases h
  · rename_i x i hop
    unfold execOp; simp only [hop]
    split at h
    · rename_i vs hx
      rw [nthL_eq, Array.getElem?_toList] at h
      rw [hf.eval hx]; exact run_v (by simp [Instr.extract, h, Sem.run, pure])
    · cases h
  · rename_i x hop
    unfold execOp; simp only [hop]
    split at h
    · rename_i ad hx; cases h; rw [hf.eval hx]; rfl
    · cases h
  · rename_i s d x hop
    unfold execOp; simp only [hop]
    split at h
    · rename_i ks m k hx hs hd
      cases h
      rw [hf.eval hx]
      refine run_v ?_
      obtain ⟨u, hu⟩ := Option.isSome_iff_exists.1 hs
      unfold intk at hd
      cases hu' : P.underlying d with
      | none => simp [hu'] at hd
      | some dd =>
        cases dd <;> simp [hu'] at hd
        subst hd
        simp [convert, Sem.run_bind, run_ul hu, run_ul hu', Result.andThen, Conv.intToInt, Sem.run, pure]
    · cases h
  · rename_i fn first cap hop
    unfold execOp; simp only [hop]
    split at h
    · rename_i f c h1 h2
      cases h
      have e1 : first.map a.eval = f.toArray := by apply Array.toList_inj.1; simp [evalL_ok hf h1]
      have e2 : cap.map a.eval = c.toArray := by apply Array.toList_inj.1; simp [evalL_ok hf h2]
      rw [e1, e2]; rfl
    · cases h
  · rename_i t x hop
    unfold execOp; simp only [hop]
    split at h
    · rename_i u hi hx
      cases h
      rw [hf.eval hx]
      refine run_v ?_
      unfold isIface at hi
      cases hu : P.underlying t with
      | none => simp [hu] at hi
      | some d => cases d <;> simp [hu] at hi <;> simp [Instr.makeInterface, Sem.run_bind, run_ul hu, Result.andThen, Sem.run, pure]
    · cases h
  · rename_i t parts hop
    unfold execOp; simp only [hop]
    split at h
    · rename_i offs z vs h1 h2 h3
      obtain ⟨l, hl, rfl⟩ := Option.map_eq_some_iff.1 h
      refine run_v (build_ok h1 h2 ?_ w)
      rw [← hl]
      rw [show nthL offs = fun i : Nat => offs[i]? from funext (nthL_eq offs)]
      congr 1
      simp only [Array.toList_map]
      rw [mapSnd (P := P), evalL_ok hf h3]
    · cases h
  · rename_i t x lo hi mx hop
    unfold execOp; simp only [hop]
    split at h
    · rename_i s hx
      split at h
      · rename_i l hh hs hl hhi
        unfold slcS at h
        split at h
        · rename_i hc
          cases h
          rw [hf.eval hx]
          refine run_v ?_
          unfold isStr at hs
          cases hu : P.underlying t with
          | none => simp [hu] at hs
          | some d =>
            cases d <;> simp [hu] at hs
            have h1 := bnd_ok hf hl
            have h2 := bnd_ok hf hhi
            obtain ⟨q1, q2, q3⟩ := hc
            have q4 : (l ≤ (hh.toNat : Int)) := by omega
            simp only [Instr.sliceAt, Sem.run_bind, run_ul hu, Result.andThen_ok, Instr.slice, Option.map_none, Option.isSome_none, Bool.false_eq_true, if_false, Sem.run_pure]
            rw [run_bounds false s.size s.size _ _ l hh h1 h2 (by omega) (by omega) (by omega)]
            rfl
        · cases h
      · cases h
    · rename_i a len cap hx
      split at h
      · rename_i sz l hh hs hl hhi
        unfold slcV at h
        split at h
        · rename_i hc
          cases h
          rw [hf.eval hx]
          refine run_v ?_
          obtain ⟨el, he, hs⟩ := Option.bind_eq_some_iff.1 hs
          unfold elm at he
          cases hu : P.underlying t with
          | none => simp [hu] at he
          | some d =>
            cases d <;> simp [hu] at he
            subst he
            have h1 := bnd_ok hf hl
            have h2 := bnd_ok hf hhi
            obtain ⟨q1, q2, q3⟩ := hc
            simp only [Instr.sliceAt, Sem.run_bind, run_ul hu, Result.andThen_ok, Instr.slice, Option.map_none]
            rw [run_bounds true len cap _ _ l hh h1 h2 (by omega) (by omega) (by omega)]
            simp only [Result.andThen_ok, run_sz hs, Sem.run_pure]
            have e1 : hh.toNat - l.toNat = (hh - l).toNat := by omega
            have e2 : cap - l.toNat = (cap - l).toNat := by omega
            rw [e1, e2]; rfl
        · cases h
      · cases h
    · cases h
  · rename_i c hop
    unfold execOp; simp only [hop]
    split at h
    · rename_i x y hc hargs
      have ha : c.args = #[x, y] := by apply Array.toList_inj.1; simpa using hargs
      split at h
      · rename_i k a k' b hx hy
        cases h
        simp only [resolve, hc, ha, Sem.run_bind, Sem.run_pure, Result.andThen_ok, invoke, builtin, Builtin.max_, List.map_toArray, List.map_cons, List.map_nil, hf.eval hx, hf.eval hy, List.foldlM_cons, List.foldlM_nil, Builtin.max2]
        have e1 : (if b > a then b else a) = max a b := by split <;> omega
        rw [e1]
      · cases h
    · rename_i x y hc hargs
      have ha : c.args = #[x, y] := by apply Array.toList_inj.1; simpa using hargs
      split at h
      · rename_i k a k' b hx hy
        cases h
        simp only [resolve, hc, ha, Sem.run_bind, Sem.run_pure, Result.andThen_ok, invoke, builtin, Builtin.min_, List.map_toArray, List.map_cons, List.map_nil, hf.eval hx, hf.eval hy, List.foldlM_cons, List.foldlM_nil, Builtin.min2]
        have e1 : (if b < a then b else a) = min a b := by split <;> omega
        rw [e1]
      · cases h
    · rename_i x hc hargs
      have ha : c.args = #[x] := by apply Array.toList_inj.1; simpa using hargs
      split at h
      · rename_i ad m cap hx ht
        cases h
        cases hl : c.argTypes.toList with
        | nil => rw [hl] at ht; cases ht
        | cons t r =>
          have ht0 : c.argTypes[0]? = some t := by rw [← Array.getElem?_toList, hl]; rfl
          rw [hl] at ht
          simp only [argT, lenT] at ht
          split at ht
          · cases ht
          · rename_i hu
            simp [resolve, hc, ha, Sem.run_bind, Sem.run_pure, Result.andThen, invoke, builtin, Builtin.cap_, ht0, hf.eval hx, run_ul hu, goInt]
          · cases ht
      · cases h
    · rename_i x hc hargs
      have ha : c.args = #[x] := by apply Array.toList_inj.1; simpa using hargs
      split at h
      · rename_i s hx ht
        cases h
        cases hl : c.argTypes.toList with
        | nil => rw [hl] at ht; cases ht
        | cons t r =>
          have ht0 : c.argTypes[0]? = some t := by rw [← Array.getElem?_toList, hl]; rfl
          rw [hl] at ht
          simp only [argT, lenT] at ht
          split at ht
          · rename_i hu
            simp [resolve, hc, ha, Sem.run_bind, Sem.run_pure, Result.andThen, invoke, builtin, Builtin.len_, ht0, hf.eval hx, run_ul hu, goInt]
          · cases ht
          · cases ht
      · rename_i ad m cap hx ht
        cases h
        cases hl : c.argTypes.toList with
        | nil => rw [hl] at ht; cases ht
        | cons t r =>
          have ht0 : c.argTypes[0]? = some t := by rw [← Array.getElem?_toList, hl]; rfl
          rw [hl] at ht
          simp only [argT, lenT] at ht
          split at ht
          · cases ht
          · rename_i hu
            simp [resolve, hc, ha, Sem.run_bind, Sem.run_pure, Result.andThen, invoke, builtin, Builtin.len_, ht0, hf.eval hx, run_ul hu, goInt]
          · cases ht
      · cases h
    · cases h
  · cases h
end Go.Proofs.YteklhgmoniaieaaAh
