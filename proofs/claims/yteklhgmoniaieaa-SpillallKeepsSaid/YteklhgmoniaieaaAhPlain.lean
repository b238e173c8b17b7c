/- What the functions compute, in plain Lean. -/
import Derived.Test.YteklhgmoniaieaaAhOwn
set_option linter.unusedVariables false
set_option linter.unusedSimpArgs false
namespace Go.Proofs.YteklhgmoniaieaaAh
def shapeV (op : Int) : List Value := [.bool (decide (1 ≤ op ∧ op ≤ 16)), .bool (decide (2 ≤ op ∧ op ≤ 17)), .bool (decide (5 ≤ op ∧ op ≤ 16)), .bool (decide (op = 1))]
def usesA (x : Int) : Bool := decide (2 ≤ x) && decide (x ≤ 17)
def usesB (x : Int) : Bool := decide (5 ≤ x) && decide (x ≤ 16)
def usesD (x : Int) : Bool := decide (1 ≤ x) && decide (x ≤ 16)
def inR (x n : Int) : Bool := decide (0 ≤ x) && decide (x < n)
def ref07Instr (o d a b m n : Int) : Int :=
  if o < 1 ∨ 17 < o then 8 else
  if (usesD o && !inR d n) || (usesA o && !inR a n) || (usesB o && !inR b n) then 9 else
  if (!usesD o && d != 0) || (!usesA o && a != 0) || (!usesB o && b != 0) || (o != 1 && m != 0) then 12 else 0
def ref07Term (k a t e n m : Int) : Int :=
  if k = 1 then (if !inR t m then 11 else if a != 0 || e != 0 then 12 else 0)
  else if k = 2 then (if !inR a n then 9 else if !inR t m || !inR e m then 11 else 0)
  else if k = 3 then (if !inR a n then 9 else if t != 0 || e != 0 then 12 else 0)
  else 16

def codeN : List LBlock → Int
  | [] => 0
  | b :: r => (b.code.length : Int) + codeN r
theorem codeN_append : ∀ (l r : List LBlock), codeN (l ++ r) = codeN l + codeN r
  | [], r => by simp [codeN]
  | b :: l, r => by simp [codeN, codeN_append l r, Int.add_assoc]
theorem codeN_nn : ∀ (l : List LBlock), 0 ≤ codeN l
  | [] => by simp [codeN]
  | b :: l => by have := codeN_nn l; simp only [codeN]; omega
theorem codeN_take {l : List LBlock} {i : Nat} {x : LBlock} (h : l[i]? = some x) : codeN (l.take (i + 1)) = codeN (l.take i) + x.code.length := by
  rw [List.take_add_one, codeN_append]; simp [h, codeN]
theorem codeN_le (l : List LBlock) (i : Nat) : codeN (l.take i) ≤ codeN l := by
  have h := codeN_append (l.take i) (l.drop i)
  rw [List.take_append_drop] at h
  have := codeN_nn (l.drop i); omega
theorem codeN_room {l : List LBlock} {i : Nat} {x : LBlock} (h : l[i]? = some x) : 0 ≤ codeN (l.take i) ∧ codeN (l.take i) + x.code.length ≤ codeN l := by
  have h1 := codeN_le l (i + 1); rw [codeN_take h] at h1; exact ⟨codeN_nn _, h1⟩
theorem all_take_succ {α : Type} {p : α → Bool} {l : List α} {i : Nat} {x : α} (h : l[i]? = some x) : (l.take (i + 1)).all p = ((l.take i).all p && p x) := by
  rw [List.take_add_one, List.all_append]; simp [h]
theorem all_false {α : Type} {p : α → Bool} {l : List α} {i : Nat} {x : α} (h : l[i]? = some x) (hp : p x = false) : l.all p = false := by
  rw [Bool.eq_false_iff]; intro ha
  have := List.all_eq_true.1 ha x (List.mem_of_getElem? h)
  rw [hp] at this; cases this
theorem all_end {α : Type} {p : α → Bool} {l : List α} {i : Nat} (h : (l.take i).all p = true) (hi : l.length ≤ i) : l.all p = true := by
  rwa [List.take_of_length_le hi] at h
theorem list_ne {α : Type} {xs ys : List α} {i : Nat} {x y : α} (h : xs[i]? = some x) (k : ys[i]? = some y) (n : x ≠ y) : xs ≠ ys := by
  intro e; subst e; rw [h] at k; cases k; exact n rfl
theorem take_succ_eq {α : Type} {xs ys : List α} {i : Nat} {x y : α} (h : xs[i]? = some x) (k : ys[i]? = some y) (t : xs.take i = ys.take i) (n : x = y) : xs.take (i + 1) = ys.take (i + 1) := by
  rw [List.take_add_one, List.take_add_one, h, k, t, n]
theorem take_end {α : Type} {xs ys : List α} {i : Nat} (t : xs.take i = ys.take i) (h : xs.length ≤ i) (k : ys.length ≤ i) : xs = ys := by
  rwa [List.take_of_length_le h, List.take_of_length_le k] at t
def codeM : List LMBlock → Int
  | [] => 0
  | b :: r => (b.code.length : Int) + codeM r
theorem codeM_append : ∀ (l r : List LMBlock), codeM (l ++ r) = codeM l + codeM r
  | [], r => by simp [codeM]
  | b :: l, r => by simp [codeM, codeM_append l r, Int.add_assoc]
theorem codeM_nn : ∀ (l : List LMBlock), 0 ≤ codeM l
  | [] => by simp [codeM]
  | b :: l => by have := codeM_nn l; simp only [codeM]; omega
theorem codeM_take {l : List LMBlock} {i : Nat} {x : LMBlock} (h : l[i]? = some x) : codeM (l.take (i + 1)) = codeM (l.take i) + x.code.length := by
  rw [List.take_add_one, codeM_append]; simp [h, codeM]
theorem codeM_le (l : List LMBlock) (i : Nat) : codeM (l.take i) ≤ codeM l := by
  have h := codeM_append (l.take i) (l.drop i)
  rw [List.take_append_drop] at h
  have := codeM_nn (l.drop i); omega
theorem codeM_room {l : List LMBlock} {i : Nat} {x : LMBlock} (h : l[i]? = some x) : 0 ≤ codeM (l.take i) ∧ codeM (l.take i) + x.code.length ≤ codeM l := by
  have h1 := codeM_le l (i + 1); rw [codeM_take h] at h1; exact ⟨codeM_nn _, h1⟩
@[simp] theorem codeM_nil : codeM [] = 0 := rfl
def firstE : List Int → Int
  | [] => 0
  | e :: r => if e = 0 then firstE r else e
@[simp] theorem firstE_nil : firstE [] = 0 := rfl
theorem firstE_append : ∀ (l r : List Int), firstE (l ++ r) = if firstE l = 0 then firstE r else firstE l
  | [], r => by simp [firstE]
  | e :: l, r => by
    simp only [List.cons_append, firstE, firstE_append l r]
    split <;> simp_all
theorem firstE_succ {l : List Int} {i : Nat} {e : Int} (h : l[i]? = some e) (k : firstE (l.take i) = 0) : firstE (l.take (i + 1)) = e := by
  rw [List.take_add_one, firstE_append, if_pos k, h]; simp [firstE]; omega
theorem firstE_hit {l : List Int} {i : Nat} {e : Int} (h : l[i]? = some e) (k : firstE (l.take i) = 0) (hn : e ≠ 0) : firstE l = e := by
  have := firstE_append (l.take (i + 1)) (l.drop (i + 1))
  rw [List.take_append_drop, firstE_succ h k, if_neg hn] at this
  exact this
theorem firstE_end {l : List Int} {i : Nat} (k : firstE (l.take i) = 0) (h : l.length ≤ i) : firstE l = 0 := by
  rwa [List.take_of_length_le h] at k
def insE (n : Int) (x : LInstr) : Int := ref07Instr x.op x.d x.a x.b x.imm n
def termE (n m : Int) (t : LTerm) : Int := ref07Term t.kind t.a t.to t.els n m
def blockE (n m : Int) (b : LBlock) : Int := if firstE (b.code.map (insE n)) = 0 then termE n m b.term else firstE (b.code.map (insE n))
def preE (f : LFunc) : Int := if f.args < 0 ∨ f.regs < f.args then 9 else if 1048576 < f.regs then 6 else if f.blocks = [] then 14 else if 1048576 < (f.blocks.length : Int) ∨ 1048576 < codeN f.blocks then 6 else 0
def checkF (f : LFunc) : Int := if preE f = 0 then firstE (f.blocks.map (blockE f.regs f.blocks.length)) else preE f
theorem map_get {α β : Type} {g : α → β} {l : List α} {i : Nat} {x : α} (h : l[i]? = some x) : (l.map g)[i]? = some (g x) := by simp [h]
theorem check_instr {f : LFunc} {i j : Nat} {x : LBlock} {p : LInstr} (hf : preE f = 0) (hx : f.blocks[i]? = some x) (h : firstE ((f.blocks.map (blockE f.regs f.blocks.length)).take i) = 0) (hp : x.code[j]? = some p) (k : firstE ((x.code.map (insE f.regs)).take j) = 0) (hn : insE f.regs p ≠ 0) : checkF f = insE f.regs p := by
  have h1 := firstE_hit (map_get hp) k hn
  have h2 : blockE f.regs f.blocks.length x = insE f.regs p := by unfold blockE; rw [h1, if_neg hn]
  unfold checkF; rw [if_pos hf, ← h2]
  exact firstE_hit (map_get hx) h (by rw [h2]; exact hn)
theorem check_term {f : LFunc} {i j : Nat} {x : LBlock} (hf : preE f = 0) (hx : f.blocks[i]? = some x) (h : firstE ((f.blocks.map (blockE f.regs f.blocks.length)).take i) = 0) (k : firstE ((x.code.map (insE f.regs)).take j) = 0) (hj : x.code.length ≤ j) (hn : termE f.regs f.blocks.length x.term ≠ 0) : checkF f = termE f.regs f.blocks.length x.term := by
  have h1 := firstE_end k (by simpa using hj)
  have h2 : blockE f.regs f.blocks.length x = termE f.regs f.blocks.length x.term := by unfold blockE; rw [h1, if_pos rfl]
  unfold checkF; rw [if_pos hf, ← h2]
  exact firstE_hit (map_get hx) h (by rw [h2]; exact hn)
theorem check_next {f : LFunc} {i j : Nat} {x : LBlock} (hx : f.blocks[i]? = some x) (h : firstE ((f.blocks.map (blockE f.regs f.blocks.length)).take i) = 0) (k : firstE ((x.code.map (insE f.regs)).take j) = 0) (hj : x.code.length ≤ j) (hn : termE f.regs f.blocks.length x.term = 0) : firstE ((f.blocks.map (blockE f.regs f.blocks.length)).take (i + 1)) = 0 := by
  have h1 := firstE_end k (by simpa using hj)
  rw [firstE_succ (map_get hx) h]; unfold blockE; rw [h1, if_pos rfl, hn]
theorem check_end {f : LFunc} {i : Nat} (hf : preE f = 0) (h : firstE ((f.blocks.map (blockE f.regs f.blocks.length)).take i) = 0) (hi : f.blocks.length ≤ i) : checkF f = 0 := by
  unfold checkF; rw [if_pos hf]; exact firstE_end h (by simpa using hi)
theorem block_instr {n m : Int} {b : LBlock} {i : Nat} {x : LInstr} (hx : b.code[i]? = some x) (h : firstE ((b.code.map (insE n)).take i) = 0) (hn : insE n x ≠ 0) : blockE n m b = insE n x := by
  unfold blockE; rw [firstE_hit (map_get hx) h hn, if_neg hn]
theorem block_end {n m : Int} {b : LBlock} {i : Nat} (h : firstE ((b.code.map (insE n)).take i) = 0) (hi : b.code.length ≤ i) : blockE n m b = termE n m b.term := by
  unfold blockE; rw [firstE_end h (by simpa using hi), if_pos rfl]
theorem check_block {f : LFunc} {i : Nat} {x : LBlock} (hf : preE f = 0) (hx : f.blocks[i]? = some x) (h : firstE ((f.blocks.map (blockE f.regs f.blocks.length)).take i) = 0) (hn : blockE f.regs f.blocks.length x ≠ 0) : checkF f = blockE f.regs f.blocks.length x := by
  unfold checkF; rw [if_pos hf]; exact firstE_hit (map_get hx) h hn
structure LField where
  value : Int
  used : Bool
  bound : Int
  deriving DecidableEq
def encFd (x : LField) : List Value := [iv x.value, .bool x.used, iv x.bound]
theorem encFd_ok : RpOk (flat encFd) 3 := flat_ok fun _ => rfl
def fdIn (x : LField) : Bool := !x.used || (decide (0 ≤ x.value) && decide (x.value < x.bound))
def fdBlank (x : LField) : Bool := x.used || decide (x.value = 0)
def short (b : LBlock) : Bool := decide (b.code.length ≤ 100)
def fewB (f : LFunc) : Bool := decide (f.blocks.length ≤ 40) && decide (f.regs ≤ 60) && f.blocks.all short && decide (codeN f.blocks ≤ 300)
theorem codeN_short : ∀ (l : List LBlock), l.all short = true → codeN l ≤ l.length * 100
  | [], _ => by simp [codeN]
  | b :: r, h => by
    simp only [List.all_cons, Bool.and_eq_true, short, decide_eq_true_eq] at h
    have := codeN_short r h.2
    simp only [codeN, List.length_cons]; omega
@[simp] theorem codeN_nil : codeN [] = 0 := rfl
/-! ### spill everything -/
def mvM (d s : Int) : LMach := ⟨18, 0, 0, 0, 0, d, s⟩
def opM (o m : Int) : LMach := ⟨o, 0, 0, if usesB o then 1 else 0, m, 0, 0⟩
def insM (o d a b m : Int) : List LMach :=
  ((if usesA o then [mvM 0 (2 * a + 1)] else []) ++ (if o = 2 then [] else (if usesB o then [mvM 2 (2 * b + 1)] else []) ++ [opM o m])) ++ (if usesD o then [mvM (2 * d + 1) 0] else [])
def insMI (x : LInstr) : List LMach := insM x.op x.d x.a x.b x.imm
def codeB (l : List LInstr) : List LMach := (l.map insMI).flatten
def endM (t : LTerm) : List LMach := if t.kind = 1 then [] else [mvM 0 (2 * t.a + 1)]
def blkM (b : LBlock) : LMBlock := ⟨codeB b.code ++ endM b.term, ⟨b.term.kind, 0, b.term.to, b.term.els⟩⟩
theorem insM_len (o d a b m : Int) : (insM o d a b m).length ≤ 4 := by unfold insM; split <;> split <;> split <;> (try split) <;> simp
theorem codeB_nil : codeB [] = [] := rfl
theorem codeB_append (l r : List LInstr) : codeB (l ++ r) = codeB l ++ codeB r := by simp [codeB]
theorem codeB_len : ∀ l : List LInstr, (codeB l).length ≤ 4 * l.length
  | [] => by simp [codeB]
  | x :: r => by
    have h1 := codeB_len r
    have h2 := insM_len x.op x.d x.a x.b x.imm
    simp only [codeB, List.map_cons, List.flatten_cons, List.length_append, List.length_cons] at h1 ⊢
    unfold insMI at *; omega
theorem codeB_take {l : List LInstr} {i : Nat} {x : LInstr} (h : l[i]? = some x) : codeB (l.take (i + 1)) = codeB (l.take i) ++ insMI x := by
  rw [List.take_add_one, codeB_append, h]; simp [codeB]
/-- What an accepted instruction's fields are. -/
theorem ins_rng {n : Int} {x : LInstr} (h : insE n x = 0) (hn : n ≤ 1048576) : (usesA x.op = true → 0 ≤ x.a ∧ x.a < 1048576) ∧ (usesB x.op = true → 0 ≤ x.b ∧ x.b < 1048576) ∧ (usesD x.op = true → 0 ≤ x.d ∧ x.d < 1048576) := by
  unfold insE ref07Instr at h
  simp only [inR] at h
  refine ⟨fun k => ?_, fun k => ?_, fun k => ?_⟩ <;> simp only [k] at h <;> (split at h; · omega) <;> (split at h; · omega) <;> simp_all <;> omega
theorem term_rng {n m : Int} {t : LTerm} (h : termE n m t = 0) (hn : n ≤ 1048576) (hk : t.kind ≠ 1) : 0 ≤ t.a ∧ t.a < 1048576 := by
  unfold termE ref07Term at h
  rw [if_neg hk] at h
  simp only [inR] at h
  grind
theorem firstE_zero : ∀ {l : List Int}, firstE l = 0 → ∀ e ∈ l, e = 0
  | [], _, e, h => by cases h
  | a :: r, h, e, he => by
    simp only [firstE] at h
    split at h
    · rcases List.mem_cons.1 he with rfl | h2
      · assumption
      · exact firstE_zero h e h2
    · omega
theorem block_ok {n m : Int} {b : LBlock} (h : blockE n m b = 0) : (∀ (i : Nat) x, b.code[i]? = some x → insE n x = 0) ∧ termE n m b.term = 0 := by
  unfold blockE at h
  split at h
  · rename_i h0
    exact ⟨fun i x hx => firstE_zero h0 _ (List.mem_map.2 ⟨x, List.mem_of_getElem? hx, rfl⟩), h⟩
  · omega
theorem check_ok {f : LFunc} (h : checkF f = 0) : preE f = 0 ∧ (∀ (i : Nat) b, f.blocks[i]? = some b → blockE f.regs f.blocks.length b = 0) := by
  unfold checkF at h
  split at h
  · rename_i h0
    exact ⟨h0, fun i b hb => firstE_zero h _ (List.mem_map.2 ⟨b, List.mem_of_getElem? hb, rfl⟩)⟩
  · omega
theorem codeB_all {l : List LInstr} {i : Nat} (h : l.length ≤ i) : codeB (l.take i) = codeB l := by rw [List.take_of_length_le h]
theorem codeB_tlen (l : List LInstr) (i : Nat) : (codeB (l.take i)).length ≤ 4 * l.length := by
  have := codeB_len (l.take i); simp only [List.length_take] at this; omega
/-! ### runs of moves -/
instance : Inhabited LMach := ⟨⟨0, 0, 0, 0, 0, 0, 0⟩⟩
instance : Inhabited LInstr := ⟨⟨0, 0, 0, 0, 0⟩⟩
instance : Inhabited LPair := ⟨⟨0, 0⟩⟩
instance : Inhabited LTerm := ⟨⟨0, 0, 0, 0⟩⟩
instance : Inhabited LBlock := ⟨⟨[], default⟩⟩
instance : Inhabited LMBlock := ⟨⟨[], default⟩⟩
def runL : List LMach → Nat
  | [] => 0
  | x :: r => if x.op = 18 then runL r + 1 else 0
def movesM : List LMach → Nat
  | [] => 0
  | x :: r => max (runL (x :: r)) (movesM r)
def mostTo (l : List LMach) : Nat → Nat
  | 0 => 0
  | i + 1 => max (mostTo l i) (runL (l.drop i))
theorem runL_le : ∀ l : List LMach, runL l ≤ l.length
  | [] => by simp [runL]
  | x :: r => by have := runL_le r; simp only [runL, List.length_cons]; split <;> omega
theorem run_succ : ∀ {l : List LMach} {n : Nat} {x : LMach}, n ≤ runL l → l[n]? = some x → x.op = 18 → n + 1 ≤ runL l
  | [], n, x, _, h, _ => by simp at h
  | y :: r, 0, x, _, h, hx => by simp at h; subst h; simp [runL, hx]
  | y :: r, n + 1, x, hn, h, hx => by
    simp only [runL] at hn ⊢
    split at hn
    · rename_i hy
      have := run_succ (l := r) (n := n) (by omega) (by simpa using h) hx
      rw [if_pos hy]; omega
    · omega
theorem run_stop : ∀ {l : List LMach} {n : Nat}, n ≤ runL l → (∀ x, l[n]? = some x → x.op ≠ 18) → n = runL l
  | [], n, h, _ => by simp [runL] at h; simp [runL, h]
  | y :: r, 0, _, h => by have := h y rfl; simp [runL, this]
  | y :: r, n + 1, hn, h => by
    simp only [runL] at hn ⊢
    split at hn
    · rename_i hy
      have := run_stop (l := r) (n := n) (by omega) (fun x hx => h x (by simpa using hx))
      rw [if_pos hy]; omega
    · omega
theorem mostTo_le (l : List LMach) : ∀ i, mostTo l i ≤ l.length
  | 0 => by simp [mostTo]
  | i + 1 => by
    have h1 := mostTo_le l i; have h2 := runL_le (l.drop i)
    simp only [List.length_drop] at h2
    simp only [mostTo]; omega
theorem mostTo_cons (x : LMach) (l : List LMach) : ∀ i, mostTo (x :: l) (i + 1) = max (runL (x :: l)) (mostTo l i)
  | 0 => by simp [mostTo]
  | i + 1 => by
    rw [mostTo, mostTo_cons x l i, mostTo]
    simp only [List.drop_succ_cons]
    omega
theorem mostTo_all : ∀ l : List LMach, mostTo l l.length = movesM l
  | [] => rfl
  | x :: r => by rw [List.length_cons, mostTo_cons, mostTo_all r]; rfl
def scanM (p : Nat × Nat) (x : LMach) : Nat × Nat := let n := if x.op = 18 then p.2 + 1 else 0; (max p.1 n, n)
theorem scan_eq : ∀ (l : List LMach) (m n : Nat), n ≤ m → (l.foldl scanM (m, n)).1 = max m (max (n + runL l) (movesM l))
  | [], m, n, h => by simp [runL, movesM]; omega
  | x :: r, m, n, h => by
    rw [List.foldl_cons]
    by_cases hx : x.op = 18
    · have e : scanM (m, n) x = (max m (n + 1), n + 1) := by simp [scanM, hx]
      rw [e, scan_eq r _ _ (by omega)]
      simp only [movesM, runL, hx, if_true]; omega
    · have e : scanM (m, n) x = (max m 0, 0) := by simp [scanM, hx]
      rw [e, scan_eq r _ _ (by omega)]
      have h1 : runL r ≤ movesM r := by cases r with
        | nil => simp [runL]
        | cons y r => simp only [movesM]; omega
      simp only [movesM, runL, hx, if_false]; omega
theorem scan_all (l : List LMach) : (l.foldl scanM (0, 0)).1 = movesM l := by
  rw [scan_eq l 0 0 (Nat.le_refl _)]
  have h1 : runL l ≤ movesM l := by cases l with
    | nil => simp [runL]
    | cons y r => simp only [movesM]; omega
  omega
theorem scan_le : ∀ (l : List LMach) (p : Nat × Nat), p.2 ≤ p.1 → (l.foldl scanM p).2 ≤ (l.foldl scanM p).1 ∧ (l.foldl scanM p).1 ≤ p.1 + l.length
  | [], p, h => by simp; exact h
  | x :: r, p, h => by
    rw [List.foldl_cons]
    have h1 : (scanM p x).2 ≤ (scanM p x).1 := by simp only [scanM]; omega
    have h2 : (scanM p x).1 ≤ p.1 + 1 := by simp only [scanM]; split <;> omega
    obtain ⟨h3, h4⟩ := scan_le r _ h1
    simp only [List.length_cons]
    exact ⟨h3, by omega⟩
theorem foldl_take {α β : Type} (f : β → α → β) (b : β) {l : List α} {i : Nat} {x : α} (h : l[i]? = some x) : (l.take (i + 1)).foldl f b = f ((l.take i).foldl f b) x := by
  rw [List.take_add_one, List.foldl_append, h]; rfl
theorem ins_rng2 {n : Int} {x : LInstr} (h : insE n x = 0) (hn : n ≤ 1048576) : 0 ≤ x.a ∧ x.a < 1048576 ∧ 0 ≤ x.b ∧ x.b < 1048576 ∧ 0 ≤ x.d ∧ x.d < 1048576 := by
  obtain ⟨h1, h2, h3⟩ := ins_rng h hn
  unfold insE ref07Instr at h
  split at h
  · omega
  · split at h
    · omega
    · split at h
      · omega
      · rename_i k
        simp at k
        grind
theorem term_rng2 {n m : Int} {t : LTerm} (h : termE n m t = 0) (hn : n ≤ 1048576) : 0 ≤ t.a ∧ t.a < 1048576 := by
  by_cases hk : t.kind = 1
  · unfold termE ref07Term at h
    simp only [hk, if_true] at h
    grind
  · exact term_rng h hn hk
/-! ### the invariant -/
def invS (n i : Nat) : List LPair := (List.range n).map fun v : Nat => if v < i then ⟨(v : Int), 2 * (v : Int) + 1⟩ else ⟨0, 0⟩
def invM (n : Nat) : List LPair := (List.range n).map fun v : Nat => ⟨(v : Int), 2 * (v : Int) + 1⟩
theorem invS_len (n i : Nat) : (invS n i).length = n := by simp [invS]
theorem invS_zero (n : Nat) : invS n 0 = List.replicate n ⟨0, 0⟩ := by
  apply List.ext_getElem <;> simp [invS]
theorem invS_all (n i : Nat) (h : n ≤ i) : invS n i = invM n := by
  unfold invS invM
  apply List.map_congr_left
  intro v hv
  have := List.mem_range.1 hv
  rw [if_pos (by omega)]
theorem invS_succ (n i : Nat) (h : i < n) : (invS n i).set i ⟨i, 2 * i + 1⟩ = invS n (i + 1) := by
  apply List.ext_getElem
  · simp [invS]
  · intro j h1 h2
    rw [List.getElem_set]
    simp only [invS, List.getElem_map, List.getElem_range]
    split
    · rename_i e; subst e; rw [if_pos (by omega)]
    · split
      · rw [if_pos (by omega)]
      · rw [if_neg (by omega)]
theorem invM_take (n : Nat) : invM (n + 1) = invM n ++ [⟨n, 2 * n + 1⟩] := by simp [invM, List.range_succ]
theorem invM_len (n : Nat) : (invM n).length = n := by simp [invM]
/-! ### the certificate that spills everything -/
def runB : List LBlock → Nat
  | [] => 0
  | b :: r => max (movesM (blkM b).code) (runB r)
theorem runB_append : ∀ l r : List LBlock, runB (l ++ r) = max (runB l) (runB r)
  | [], r => by simp [runB]
  | b :: l, r => by simp only [List.cons_append, runB, runB_append l r]; omega
theorem runB_take {l : List LBlock} {i : Nat} {x : LBlock} (h : l[i]? = some x) : runB (l.take (i + 1)) = max (runB (l.take i)) (movesM (blkM x).code) := by
  rw [List.take_add_one, runB_append, h]; simp [runB]
def zeroC : LCert := ⟨⟨0, 0, []⟩, ⟨0, 0, 0, []⟩, []⟩
def spillC (f : LFunc) : LCert := ⟨f, ⟨f.args, 2, f.regs, f.blocks.map blkM⟩, f.blocks.map fun _ => invM f.regs.toNat⟩
def certR (f : LFunc) : LCert × Int :=
  if checkF f ≠ 0 then (zeroC, checkF f)
  else if 1048576 < (f.blocks.length : Int) * f.regs then (zeroC, 6)
  else if 1048576 < codeM (f.blocks.map blkM) then (zeroC, 6)
  else if 64 < runB f.blocks then (zeroC, 15)
  else (spillC f, 0)
theorem codeMB_take {l : List LBlock} {i : Nat} {x : LBlock} (h : l[i]? = some x) : codeM ((l.take (i + 1)).map blkM) = codeM ((l.take i).map blkM) + (blkM x).code.length := by
  rw [List.take_add_one, List.map_append, codeM_append, h]; simp [codeM]
theorem blkM_len (b : LBlock) : (blkM b).code.length ≤ 4 * b.code.length + 1 := by
  have := codeB_len b.code; simp only [blkM, endM, List.length_append]; split <;> simp <;> omega
theorem codeMB_le : ∀ l : List LBlock, codeM (l.map blkM) ≤ 4 * codeN l + l.length
  | [] => by simp [codeM, codeN]
  | b :: r => by
    have h1 := codeMB_le r; have h2 := blkM_len b
    simp only [List.map_cons, codeM, codeN, List.length_cons]; omega
theorem few_ok {f : LFunc} (h : fewB f = true) : f.blocks.length ≤ 40 ∧ f.regs ≤ 60 ∧ codeN f.blocks ≤ 300 ∧ ∀ b ∈ f.blocks, b.code.length ≤ 100 := by
  simp only [fewB, Bool.and_eq_true, decide_eq_true_eq, List.all_eq_true] at h
  obtain ⟨⟨⟨h1, h2⟩, h3⟩, h4⟩ := h
  exact ⟨h1, h2, h4, fun b hb => by have := h3 b hb; simpa [short] using this⟩
theorem codeMB_tle (l : List LBlock) (i : Nat) : codeM ((l.take i).map blkM) ≤ 4 * codeN l + l.length := by
  have h1 := codeMB_le (l.take i); have h2 := codeN_le l i
  have h3 : (l.take i).length ≤ l.length := by simp; omega
  omega
theorem runL_movesM_le : ∀ l : List LMach, movesM l ≤ l.length
  | [] => by simp [movesM]
  | x :: r => by have h1 := runL_movesM_le r; have h2 := runL_le (x :: r); simp only [movesM, List.length_cons] at *; omega
theorem runB_tle {l : List LBlock} (h : ∀ b ∈ l, b.code.length ≤ 100) (i : Nat) : runB (l.take i) ≤ 401 := by
  have key : ∀ l : List LBlock, (∀ b ∈ l, b.code.length ≤ 100) → runB l ≤ 401 := fun l => by
    induction l with
    | nil => intro _; simp [runB]
    | cons b r ih =>
      intro hh
      have h1 := ih fun x hx => hh x (List.mem_cons_of_mem _ hx)
      have h2 := hh b (List.mem_cons_self ..)
      have h3 := runL_movesM_le (blkM b).code; have h4 := blkM_len b
      simp only [runB]; omega
  exact key _ fun b hb => h b (List.mem_of_mem_take hb)
theorem take_snoc {α : Type} {l : List α} {i : Nat} {x : α} (h : l[i]? = some x) : l.take (i + 1) = l.take i ++ [x] := by rw [List.take_add_one, h]; rfl
theorem pre_ok {f : LFunc} (h : preE f = 0) : 0 ≤ f.args ∧ f.args ≤ f.regs ∧ f.regs ≤ 1048576 ∧ f.blocks ≠ [] := by
  unfold preE at h; grind
def codeMB (l : List LBlock) : Int := codeM (l.map blkM)
theorem codeMB_nil : codeMB [] = 0 := rfl
theorem codeMB_take' {l : List LBlock} {i : Nat} {x : LBlock} (h : l[i]? = some x) : codeMB (l.take (i + 1)) = codeMB (l.take i) + (blkM x).code.length := codeMB_take h
def xb22 : LBlock := ⟨[⟨5, 0, 1, 2, 0⟩], ⟨1, 0, 0, 0⟩⟩
theorem xb22_t : xb22.term = ⟨1, 0, 0, 0⟩ := rfl
theorem xb22_ok : blockE 3 1 xb22 = 0 := by decide
theorem xb22_code : (blkM xb22).code = [⟨18, 0, 0, 0, 0, 0, 3⟩, ⟨18, 0, 0, 0, 0, 2, 5⟩, ⟨5, 0, 0, 1, 0, 0, 0⟩, ⟨18, 0, 0, 0, 0, 1, 0⟩] := by decide
theorem xb22_moves : movesM (blkM xb22).code = 2 := by rw [xb22_code]; decide
theorem cert0 : certR ⟨0, 0, []⟩ = (zeroC, 14) := by decide
theorem nth_le {l : List Nat} {m : Nat} (h : ∀ n ∈ l, n ≤ m) (i : Nat) : nth l i ≤ m := by
  rcases Nat.lt_or_ge i l.length with hi | hi
  · exact h _ (List.mem_of_getElem? (nth_get hi))
  · have : nth l i = 0 := by simp [nth, List.getD_eq_getElem?_getD, hi]
    omega
theorem certR_or (f : LFunc) : (certR f).1 = zeroC ∨ (certR f).1 = spillC f := by
  unfold certR
  split
  · exact .inl rfl
  · split
    · exact .inl rfl
    · split
      · exact .inl rfl
      · split
        · exact .inl rfl
        · exact .inr rfl
theorem certS_len {f : LFunc} (hs : fewB f = true) (i : Nat) : nth ((certR f).1.s.blocks.map fun b => b.code.length) i ≤ 100 := by
  obtain ⟨_, _, _, h4⟩ := few_ok hs
  refine nth_le (fun n hn => ?_) i
  obtain ⟨b, hb, rfl⟩ := List.mem_map.1 hn
  rcases certR_or f with h | h <;> rw [h] at hb
  · simp [zeroC] at hb
  · exact h4 b hb
theorem certW_len {f : LFunc} (hs : fewB f = true) (i : Nat) : nth ((certR f).1.w.map List.length) i ≤ 60 := by
  obtain ⟨_, h2, _, _⟩ := few_ok hs
  refine nth_le (fun n hn => ?_) i
  obtain ⟨b, hb, rfl⟩ := List.mem_map.1 hn
  rcases certR_or f with h | h <;> rw [h] at hb
  · simp [zeroC] at hb
  · simp only [spillC, List.mem_map] at hb
    obtain ⟨_, _, rfl⟩ := hb
    rw [invM_len]; omega
end Go.Proofs.YteklhgmoniaieaaAh
