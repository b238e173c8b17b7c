/- What an operation that makes or writes memory, or calls, leaves: est; and that the model agrees. -/
import Derived.Test.YteklhgmoniaieaaAhOps
import Derived.Laws.CopyRow
import Derived.Maps.AppendAt
import Derived.Great.BuildSlice
import Derived.WalkKit
set_option linter.unusedVariables false
set_option linter.unusedSimpArgs false
namespace Go.Proofs.YteklhgmoniaieaaAh

def tby (P : Program) (t : TypeId) : Option Nat := (P.info? t).map (·.bytes)
def flatL (l : List Value) : Prop := ∀ v ∈ l, v.oneCell' = true
theorem flatL_nil : flatL [] := fun _ h => by cases h
theorem flatL_cons {v : Value} {l : List Value} (h : v.oneCell' = true) (k : flatL l) : flatL (v :: l) := fun x hx => by
  rcases List.mem_cons.1 hx with rfl | hx
  · exact h
  · exact k x hx
@[simp] theorem flatL_nil' : flatL [] = True := eq_true flatL_nil
@[simp] theorem flatL_cons' (v : Value) (l : List Value) : flatL (v :: l) = (v.oneCell' = true ∧ flatL l) := by simp [flatL]

def ptr (b : Nat) : Value := .pointer (some ⟨b, 0, none⟩)
def zrep (z : List Value) (n : Nat) : List Value := (List.replicate n z).flatten

/-! ### worlds -/
theorem step_new {H : AHeap} {w : World} (r : Rel H w) (o : AObj) (o' : Obj) (h : Real o o') : Step H w (H.new w.heap.size o) { w with heap := w.heap.push o' } := by
  refine ⟨⟨?_, ?_, ?_⟩, rfl, rfl, rfl, ?_, ?_, ?_⟩
  · simp
  · intro b x hb
    simp only [AHeap.at_new] at hb
    split at hb
    · simp; omega
    · have := r.lt b x hb; have := r.le; simp; omega
  · intro b x hb
    simp only [AHeap.at_new] at hb
    split at hb
    · rename_i e; subst e; cases hb; exact ⟨o', by simp, h⟩
    · obtain ⟨y, hy, hr⟩ := r.real b x hb
      have hlt : b < w.heap.size := (Array.getElem?_eq_some_iff.1 hy).1
      exact ⟨y, by rw [Array.getElem?_push]; rw [if_neg (by omega)]; exact hy, hr⟩
  · simp
  · intro b hb
    unfold AHeap.wr at hb ⊢
    simp only [AHeap.at_new] at hb
    split at hb
    · right; omega
    · exact .inl hb
  · intro b hb _
    simp only [Array.getElem?_push]
    rw [if_neg (by omega)]

theorem step_set {H : AHeap} {w w' : World} (r : Rel H w) (b : Nat) (o : AObj) (o' : Obj) (hr : Real o o') (hw : H.wr b)
    (h1 : w'.heap[b]? = some o') (h2 : ∀ k, k ≠ b → w'.heap[k]? = w.heap[k]?) (h3 : w'.heap.size = w.heap.size) (h4 : w'.os = w.os) (h5 : w'.tape = w.tape) (h6 : w'.output = w.output) : Step H w (H.set b o) w' := by
  have hd : ∃ x, H.at_ b = some x := by
    unfold AHeap.wr at hw
    cases hx : H.at_ b with
    | none => simp [hx] at hw
    | some x => exact ⟨x, rfl⟩
  obtain ⟨x0, hx0⟩ := hd
  refine ⟨⟨?_, ?_, ?_⟩, h4, h5, h6, ?_, ?_, ?_⟩
  · rw [h3]; exact r.le
  · intro k x hk
    simp only [AHeap.at_set] at hk
    split at hk
    · rename_i e; subst e; exact r.lt _ _ hx0
    · exact r.lt k x hk
  · intro k x hk
    simp only [AHeap.at_set] at hk
    split at hk
    · rename_i e; subst e; cases hk; exact ⟨o', h1, hr⟩
    · rename_i e
      obtain ⟨y, hy, hr⟩ := r.real k x hk
      exact ⟨y, by rw [h2 k e]; exact hy, hr⟩
  · rw [h3]; exact Nat.le_refl _
  · intro k hk
    unfold AHeap.wr at hk ⊢
    simp only [AHeap.at_set] at hk
    split at hk
    · rename_i e; subst e; exact .inl hw
    · exact .inl hk
  · intro k _ hn
    refine h2 k fun e => ?_
    subst e
    exact hn hw

/-! ### the effects -/
def storeE (H : AHeap) (ad : Addr) (n : Nat) (vs : List Value) (K : AHeap → Prop) : Prop :=
  match ad.spot, H.at_ ad.block with
  | none, some (.cells c e m) => vs.length = n ∧ flatL vs ∧ ad.off + n ≤ c.length ∧ K (H.set ad.block (.cells (setCells c ad.off vs) e m))
  | _, _ => False

/-- A slice value that the call owns: nil, or a row of its own. -/
def OwnV (H : AHeap) (v : Value) (el : TypeId) (sz n : Nat) (c : List Value) : Prop :=
  c.length = n * sz ∧ ((v = .slice none 0 0 ∧ n = 0) ∨ ∃ b cap, v = .slice (some ⟨b, 0, none⟩) n cap ∧ n ≤ cap ∧ cap ≤ maxLen ∧ H.at_ b = some (.cells c el (cap * sz)))
structure Chg (H : AHeap) (v : Value) (H' : AHeap) (v' : Value) : Prop where
  next : H.next ≤ H'.next
  at_ : ∀ x o, H.at_ x = some o → v.ownBlock ≠ some x → H'.at_ x = some o
  own : ∀ b, v'.ownBlock = some b → v.ownBlock = some b ∨ H.next ≤ b
def appE (P : Program) (t : TypeId) (v x : Value) (H : AHeap) (K : Value → AHeap → Prop) : Prop :=
  ∃ el sz by_ n c m xs ad k, elm P t = some el ∧ tsz P el = some sz ∧ tby P el = some by_ ∧ (∃ z, zc P el = some z ∧ z.length = sz) ∧ 0 < sz ∧ OwnV H v el sz n c ∧
    x = .slice ad m k ∧ ((m = 0 ∧ xs = []) ∨ ∃ a, ad = some a ∧ H.loadN a (m * sz) = some xs) ∧ flatL xs ∧
    n + m ≤ maxLen ∧ (n + m) * by_ ≤ 140737488355328 ∧
    ∀ v' H', HLt H' → OwnV H' v' el sz (n + m) (c ++ xs) → Chg H v H' v' → (v' = .slice none 0 0 ↔ v = .slice none 0 0 ∧ m = 0) → K v' H'

/-- A new block, whichever its number. -/
def FreshB (H : AHeap) (K : Nat → Prop) : Prop := ∀ b, H.next ≤ b → K b
@[congr] theorem FreshB.congr_heap {H H' : AHeap} {K : Nat → Prop} (h : ∀ _ : Unit, H = H') : FreshB H K = FreshB H' K := by rw [h ()]
@[congr] theorem ACallsE.congr_args {P : Program} {f : FuncId} {args args' : Array Value} {H H' : AHeap} {R : Ending → AHeap → Prop} (h : ∀ _ : Unit, args = args') (h2 : ∀ _ : Unit, H = H') : ACallsE P f args H R = ACallsE P f args' H' R := by rw [h (), h2 ()]
@[congr] theorem appE.congr_args {P : Program} {t : TypeId} {v v' x x' : Value} {H H' : AHeap} {K : Value → AHeap → Prop} (h1 : ∀ _ : Unit, v = v') (h2 : ∀ _ : Unit, x = x') (h3 : ∀ _ : Unit, H = H') : appE P t v x H K = appE P t v' x' H' K := by rw [h1 (), h2 (), h3 ()]

def est (P : Program) (e : Env) (H : AHeap) (o : Oper) (K : Value → AHeap → Prop) (Kp : List PanicEntry → AHeap → Prop) : Prop :=
  match o.op with
  | .alloc t => match zc P t with
    | some z => FreshB H fun b => K (ptr b) (H.new b (.cells z t z.length))
    | none => False
  | .box t x => match e.eval x with
    | some v => FreshB H fun b => K (ptr b) (H.new b (.cells v.cells.toList t v.cells.toList.length))
    | none => False
  | .store t x y => match e.eval x, e.eval y, tsz P t with
    | some (.pointer (some ad)), some v, some n => storeE H ad n v.cells.toList (K undef)
    | _, _, _ => False
  | .buildSlice t len parts => match elm P t, evalL e (parts.toList.map (·.2)) with
    | some el, some vs => (len = 0 ∧ parts = #[] ∧ (tsz P el).isSome = true ∧ FreshB H fun b => K (.slice (some ⟨b, 0, none⟩) 0 0) (H.new b (.cells [] el 0))) ∨ match zc P el, tsz P el with
      | some z, some sz => z.length = sz ∧ 0 < len * sz ∧ len * sz ≤ 16777216 ∧ match buildV (fun i : Nat => some (i * sz, sz)) (zrep z len) ((parts.toList.map (·.1)).zip vs) with
        | some l => FreshB H fun b => K (.slice (some ⟨b, 0, none⟩) len len) (H.new b (.cells l el (len * sz)))
        | none => False
      | _, _ => False
    | _, _ => False
  | .makeSlice t l c => match e.eval l, e.eval c, elm P t with
    | some (.int _ n), some (.int _ m), some el => match zc P el, tsz P el, tby P el with
      | some z, some sz, some by_ => z.length = sz ∧ 0 < sz ∧ 0 ≤ n ∧ n ≤ m ∧ m ≤ 9223372036854775807 ∧ (by_ : Int) * m ≤ 140737488355328 ∧
        FreshB H fun b => K (.slice (some ⟨b, 0, none⟩) n.toNat m.toNat) (H.new b (.cells (zrep z n.toNat) el (m.toNat * sz)))
      | _, _, _ => False
    | _, _, _ => False
  | .call c => match c.callee with
    | .value f => match e.eval f, evalL e c.args.toList with
      | some (.func (.func F) first cap), some vs => ACallsE P F (first ++ vs.toArray ++ cap) H fun en H' => match en with
        | .returned v => K v H'
        | .panicked ch => Kp ch H'
        | .outgrown => False
      | _, _ => False
    | .builtin .append => match c.args.toList, c.argTypes.toList with
      | [s, x], [t, t'] => match e.eval s, e.eval x with
        | some v, some u => t = t' ∧ appE P t v u H K
        | _, _ => False
      | _, _ => False
    | _ => False
  | .panic x => match e.eval x with
    | some (.iface t v) => Kp [{ v := .iface t v, recovered := false }] H
    | _ => False
  | _ => False

@[congr] theorem est_congr {P : Program} {e e' : Env} {H H' : AHeap} {o : Oper} {K : Value → AHeap → Prop} {Kp : List PanicEntry → AHeap → Prop} (h : ∀ _ : Unit, e = e') (k : ∀ _ : Unit, H = H') : est P e H o K Kp = est P e' H' o K Kp := by rw [h (), k ()]
@[congr] theorem storeE_congr {H H' : AHeap} {ad ad' : Addr} {n n' : Nat} {vs vs' : List Value} {K : AHeap → Prop} (h : ∀ _ : Unit, H = H') (h1 : ∀ _ : Unit, ad = ad') (h2 : ∀ _ : Unit, n = n') (h3 : ∀ _ : Unit, vs = vs') : storeE H ad n vs K = storeE H' ad' n' vs' K := by rw [h (), h1 (), h2 (), h3 ()]

section
variable {P : Program} {n : Nat} {e : Env} {a : Act} {H : AHeap} {w : World} {o : Oper} {K : Value → AHeap → Prop} {Kp : List PanicEntry → AHeap → Prop}

def KPost (a : Act) (o : Oper) (H : AHeap) (w : World) (K : Value → AHeap → Prop) (a' : Act) (w' : World) : Prop := ∃ v H', a' = a.put o.dst v ∧ Step H w H' w' ∧ K v H'
def KPanic (a : Act) (H : AHeap) (w : World) (Kp : List PanicEntry → AHeap → Prop) (ex : Exit) (a' : Act) (w' : World) : Prop := ∃ ch H', ex = .panic ch ∧ a' = a ∧ Step H w H' w' ∧ Kp ch H'

theorem wp_val {v : Value} {w' : World} {H' : AHeap} (hrun : (execOp a.eval o).run P w = .ok (.value v) w') (s : Step H w H' w') (k : K v H') : o.wp P a w (KPost a o H w K) (KPanic a H w Kp) := by
  unfold Oper.wp
  rw [hrun]
  exact ⟨v, H', rfl, s, k⟩
theorem wp_skip' {w' : World} {H' : AHeap} (hrun : (execOp a.eval o).run P w = .ok .skip w') (s : Step H w H' w') (k : K undef H') : o.wp P a w (KPost a o H w K) (KPanic a H w Kp) := by
  unfold Oper.wp
  rw [hrun]
  exact ⟨undef, H', rfl, s, k⟩
theorem run_u {s : Sem Unit} {w w' : World} (h : s.run P w = .ok () w') : (do s; pure .skip : Sem Next).run P w = .ok .skip w' := by
  rw [Sem.run_bind, h]; rfl
theorem run_v' {s : Sem Value} {v : Value} {w w' : World} (h : s.run P w = .ok v w') : (do pure (.value (← s)) : Sem Next).run P w = .ok (.value v) w' := by
  rw [Sem.run_bind, h]; rfl

theorem tsz_cells {t : TypeId} {m : Nat} (h : tsz P t = some m) : (P.info? t).map (·.size) = some m := h
theorem zc_zv {t : TypeId} {z : List Value} (h : zc P t = some z) : ∃ u, zv P t = some u ∧ u.cells.toList = z := by
  unfold zc at h
  unfold zv
  cases hz : (P.info? t).bind (·.zero) with
  | none => simp [hz] at h
  | some u => simp [hz] at h; exact ⟨u, rfl, h⟩

theorem alloc_ok {t : TypeId} {z : List Value} (hop : o.op = .alloc t) (hz : zc P t = some z) (hr : Rel H w) (h : ∀ b, H.next ≤ b → K (ptr b) (H.new b (.cells z t z.length))) :
    o.wp P a w (KPost a o H w K) (KPanic a H w Kp) := by
  obtain ⟨u, hu, huz⟩ := zc_zv hz
  refine wp_val (v := ptr w.heap.size) (w' := { w with heap := w.heap.push (.cells u.cells t) }) (H' := H.new w.heap.size (.cells z t z.length)) ?_ (step_new hr _ _ ⟨rfl, rfl, by rw [← huz]; simp, [], by simp [huz]⟩) (h _ hr.le)
  unfold execOp
  simp only [hop]
  refine run_v' ?_
  simp [Instr.alloc, Sem.run_bind, run_zv hu, Result.andThen, newVar, newRow, newObj, Sem.run, pure, ptr]

theorem box_ok {t : TypeId} {x : Operand} {v : Value} (hop : o.op = .box t x) (hf : FRel n e a) (hx : e.eval x = some v) (hr : Rel H w)
    (h : ∀ b, H.next ≤ b → K (ptr b) (H.new b (.cells v.cells.toList t v.cells.toList.length))) :
    o.wp P a w (KPost a o H w K) (KPanic a H w Kp) := by
  refine wp_val (v := ptr w.heap.size) (w' := { w with heap := w.heap.push (.cells v.cells t) }) (H' := H.new w.heap.size (.cells v.cells.toList t v.cells.toList.length)) ?_
    (step_new hr _ _ ⟨rfl, rfl, by simp, [], by simp⟩) (h _ hr.le)
  unfold execOp
  simp only [hop, hf.eval hx]
  refine run_v' ?_
  simp [Instr.box, Sem.run_bind, Result.andThen, newVar, newRow, newObj, Sem.run, pure, ptr]

theorem setCells_eq : ∀ (vs c : List Value) (off : Nat), off + vs.length ≤ c.length → setCells c off vs = c.take off ++ vs ++ c.drop (off + vs.length)
  | [], c, off, h => by simp [setCells]
  | v :: r, c, off, h => by
    simp only [List.length_cons] at h
    rw [setCells, setCells_eq r (c.set off v) (off + 1) (by simp; omega)]
    have h1 : (c.set off v).take (off + 1) = c.take off ++ [v] := by
      rw [List.take_succ_eq_append_getElem (by simp; omega)]
      simp [List.take_set_of_le]
    have h2 : (c.set off v).drop (off + 1 + r.length) = c.drop (off + (r.length + 1)) := by
      rw [List.drop_set_of_lt (by omega)]
      congr 1; omega
    rw [h1, h2]
    simp

theorem wr_of_cells {b : Nat} {c : List Value} {t : TypeId} {m : Nat} (h : H.at_ b = some (.cells c t m)) : H.wr b := by
  unfold AHeap.wr; rw [h]; rfl

theorem setRow_other (w : World) (g : Nat) (l : Array Value) (k : Nat) (h : k ≠ g) : (w.setRow g l).heap[k]? = w.heap[k]? := by
  unfold World.setRow
  simp [Array.getElem?_modify, Ne.symm h]

theorem buildV_length (pl : Nat → Option (Nat × Nat)) : ∀ (parts : List (Nat × Value)) (z l : List Value), buildV pl z parts = some l → l.length = z.length
  | [], z, l, h => by simp [buildV] at h; rw [h]
  | (i, v) :: r, z, l, h => by
    simp only [buildV] at h
    split at h
    · split at h
      · rw [buildV_length pl r _ l h, setCells_length 0]
      · cases h
    · cases h
/-- Cells written into a row that the call owns. -/
theorem storeCells_ok {ad : Addr} {m0 : Nat} {vs : List Value} {K : AHeap → Prop} (hr : Rel H w) (h : storeE H ad m0 vs K) :
    ∃ w' H', (storeCells ad vs 0).run P w = .ok () w' ∧ Step H w H' w' ∧ K H' := by
  unfold storeE at h
  split at h
  · rename_i c t m hsp hb
    obtain ⟨hl, h1, hfit, hK⟩ := h
    obtain ⟨o', ho', hre⟩ := hr.real _ _ hb
    cases o' <;> simp only [Real] at hre
    rename_i arr t' fz
    obtain ⟨rfl, rfl, hm, rest, harr⟩ := hre
    have hlen : arr.size = c.length + rest.length := by rw [← Array.length_toList, harr, List.length_append]
    have had : ad = ⟨ad.block, ad.off, none⟩ := by cases ad; simp_all
    have hrun := run_storeCells_at P ad.block ad.off t' vs 0 arr w ho' (by omega) h1
    rw [had]
    refine ⟨_, H.set ad.block (.cells (setCells c ad.off vs) t' m), hrun, ?_, hK⟩
    have hheap := setRow_heap w ad.block arr ((arr.toList.take (ad.off + 0) ++ vs ++ arr.toList.drop (ad.off + 0 + vs.length)).toArray) t' (0, 0) ho'
    refine step_set hr ad.block _ _ ?_ (wr_of_cells hb) hheap (fun k hk => setRow_other w _ _ k hk) ?_ ?_ ?_ ?_
    · refine ⟨rfl, rfl, ?_, rest, ?_⟩
      · simp; omega
      · rw [setCells_eq _ _ _ (by omega)]
        simp only [Nat.add_zero, harr]
        rw [List.take_append_of_le_length (by omega), List.drop_append_of_le_length (by omega)]
        simp
    all_goals simp [World.setRow]
  · exact h.elim

theorem store_ok {t : TypeId} {x y : Operand} {ad : Addr} {v : Value} {m : Nat} (hop : o.op = .store t x y) (hf : FRel n e a) (hx : e.eval x = some (.pointer (some ad))) (hy : e.eval y = some v)
    (hm : tsz P t = some m) (hr : Rel H w) (h : storeE H ad m v.cells.toList (K undef)) : o.wp P a w (KPost a o H w K) (KPanic a H w Kp) := by
  have hsz : v.cells.size = m := by
    unfold storeE at h
    split at h
    · simpa using h.1
    · exact h.elim
  obtain ⟨w', H', hrun, s, k⟩ := storeCells_ok (P := P) hr h
  refine wp_skip' ?_ s k
  unfold execOp
  simp only [hop, hf.eval hx, hf.eval hy]
  refine run_u ?_
  simp [Instr.storeAt, Sem.run_bind, Instr.sureAddr, Result.andThen, Sem.run, pure, storeVar, run_sz hm, hsz, hrun]

theorem zrep_array (z : Array Value) (k : Nat) : ((Array.range (k * z.size)).map (z[· % z.size]!)).toList = zrep z.toList k := by
  simp only [Array.toList_map, Array.toList_range, zrep]
  induction k with
  | zero => simp
  | succ k ih =>
    rw [Nat.succ_mul, List.range_add, List.map_append, ih, List.replicate_succ', List.flatten_append]
    congr 1
    simp only [List.map_map, List.flatten_cons, List.flatten_nil, List.append_nil]
    apply List.ext_getElem
    · simp
    · intro j h1 h2
      have hj : j < z.size := by simpa using h1
      simp [Nat.add_mod, Nat.mod_eq_of_lt hj, getElem!_pos, hj]

theorem buildSlice_ok {t el : TypeId} {len sz : Nat} {parts : Array (Nat × Operand)} {vs z l : List Value} (hop : o.op = .buildSlice t len parts) (hf : FRel n e a) (hel : elm P t = some el)
    (hv : evalL e (parts.toList.map (·.2)) = some vs) (hz : zc P el = some z) (hs : tsz P el = some sz) (hzl : z.length = sz) (h0 : 0 < len * sz) (hsm : len * sz ≤ 16777216)
    (hb : buildV (fun i : Nat => some (i * sz, sz)) (zrep z len) ((parts.toList.map (·.1)).zip vs) = some l) (hr : Rel H w)
    (h : ∀ b, H.next ≤ b → K (.slice (some ⟨b, 0, none⟩) len len) (H.new b (.cells l el (len * sz)))) : o.wp P a w (KPost a o H w K) (KPanic a H w Kp) := by
  obtain ⟨u, hu, huz⟩ := zc_zv hz
  unfold zv at hu
  unfold tsz at hs
  cases hi : P.info? el with
  | none => simp [hi] at hs
  | some ie =>
    simp [hi] at hs hu
    subst hs
    have hus : u.cells.size = ie.size := by rw [← hzl, ← huz]; simp
    have hul : P.underlying t = some (.slice el) := by
      unfold elm at hel
      cases hq : P.underlying t with
      | none => simp [hq] at hel
      | some d => cases d <;> simp [hq] at hel; subst hel; rfl
    have hfill : Instr.fill (fun i => some (i * ie.size, ie.size)) ((Array.range (len * ie.size)).map (u.cells[· % u.cells.size]!)) (parts.map fun (i, x) => (i, a.eval x)).toList = some l.toArray := by
      have e1 := zrep_array u.cells len
      rw [hus] at e1
      have := fill_ok (fun i : Nat => some (i * ie.size, ie.size)) ((parts.toList.map (·.1)).zip vs) ((Array.range (len * ie.size)).map (u.cells[· % u.cells.size]!)) l (by rw [hus, e1, huz]; exact hb)
      rw [← this]
      congr 1
      rw [Array.toList_map, mapSnd (P := P), evalL_ok hf hv]
    have hlen : l.length = len * ie.size := by
      have := run_buildSlice (P := P) w t el len (parts.map fun (i, x) => (i, a.eval x)) l.toArray ie u hul hi hu (by omega) (by omega) hfill
      have e1 := zrep_array u.cells len
      have h2 : (zrep z len).length = len * ie.size := by simp [zrep, hzl, Nat.mul_comm]
      rw [← h2]
      exact buildV_length _ _ _ _ hb
    refine wp_val (v := .slice (some ⟨w.heap.size, 0, none⟩) len len) (w' := w.alloc (.cells l.toArray el)) (H' := H.new w.heap.size (.cells l el (len * ie.size))) ?_
      (step_new hr _ _ ⟨rfl, rfl, by simp [hlen], [], by simp⟩) (h _ hr.le)
    unfold execOp
    simp only [hop]
    exact run_v' (run_buildSlice w t el len _ l.toArray ie u hul hi hu (by omega) (by omega) hfill)

theorem buildSlice0_ok {t el : TypeId} {sz : Nat} (hop : o.op = .buildSlice t 0 #[]) (hel : elm P t = some el) (hs : tsz P el = some sz) (hr : Rel H w)
    (h : ∀ b, H.next ≤ b → K (.slice (some ⟨b, 0, none⟩) 0 0) (H.new b (.cells [] el 0))) : o.wp P a w (KPost a o H w K) (KPanic a H w Kp) := by
  have hul : P.underlying t = some (.slice el) := by
    unfold elm at hel
    cases hq : P.underlying t with
    | none => simp [hq] at hel
    | some d => cases d <;> simp [hq] at hel; subst hel; rfl
  refine wp_val (v := .slice (some ⟨w.heap.size, 0, none⟩) 0 0) (w' := w.alloc (.cells #[] el)) (H' := H.new w.heap.size (.cells [] el 0)) ?_
    (step_new hr _ _ ⟨rfl, rfl, by simp, [], by simp⟩) (h _ hr.le)
  unfold execOp
  simp only [hop]
  refine run_v' ?_
  have hr0 : Array.range 0 = #[] := by simp [Array.range]
  simp [Instr.buildSlice, Sem.run_bind, run_ul hul, run_sz hs, Result.andThen, Instr.fill, newRow, newObj, Sem.run, pure, hr0]

theorem makeSlice_ok {t el : TypeId} {l c : Operand} {k1 k2 : IntKind} {x y : Int} {sz by_ : Nat} {z : List Value} (hop : o.op = .makeSlice t l c) (hf : FRel n e a) (hl : e.eval l = some (.int k1 x)) (hc : e.eval c = some (.int k2 y))
    (hel : elm P t = some el) (hz : zc P el = some z) (hs : tsz P el = some sz) (hby : tby P el = some by_) (hzl : z.length = sz) (h0 : 0 < sz) (hx0 : 0 ≤ x) (hxy : x ≤ y) (hy : y ≤ 9223372036854775807) (hb : (by_ : Int) * y ≤ 140737488355328) (hr : Rel H w)
    (h : ∀ b, H.next ≤ b → K (.slice (some ⟨b, 0, none⟩) x.toNat y.toNat) (H.new b (.cells (zrep z x.toNat) el (y.toNat * sz)))) : o.wp P a w (KPost a o H w K) (KPanic a H w Kp) := by
  obtain ⟨u, hu, huz⟩ := zc_zv hz
  have hzu := run_zv hu
  unfold tby at hby
  have hsz := run_sz hs
  cases hi : P.info? el with
  | none => simp [hi] at hby
  | some ie =>
    simp [hi] at hby
    have hus : u.cells.size = sz := by rw [← hzl, ← huz]; simp
    have hul : P.underlying t = some (.slice el) := by
      unfold elm at hel
      cases hq : P.underlying t with
      | none => simp [hq] at hel
      | some d => cases d <;> simp [hq] at hel; subst hel; rfl
    have hw1 : IntKind.i64.wrap x = x := by rw [IntKind.wrap_i64]; omega
    have hw2 : IntKind.i64.wrap y = y := by rw [IntKind.wrap_i64]; omega
    have e1 := zrep_array u.cells y.toNat
    rw [hus, huz] at e1
    have hsplit : zrep z y.toNat = zrep z x.toNat ++ zrep z (y.toNat - x.toNat) := by
      unfold zrep
      rw [← List.flatten_append, List.replicate_append_replicate]
      congr 2; omega
    refine wp_val (v := .slice (some ⟨w.heap.size, 0, none⟩) x.toNat y.toNat) (w' := { w with heap := w.heap.push (.cells ((Array.range (y.toNat * sz)).map (u.cells[· % u.cells.size]!)) el) }) (H' := H.new w.heap.size (.cells (zrep z x.toNat) el (y.toNat * sz))) ?_
      (step_new hr _ _ ⟨rfl, rfl, by simp, zrep z (y.toNat - x.toNat), by rw [← hsplit, ← e1, hus]⟩) (h _ hr.le)
    unfold execOp
    simp only [hop, hf.eval hl, hf.eval hc]
    refine run_v' ?_
    have hbig : ¬ (281474976710656 : Int) < by_ * y := by omega
    have hroom : ¬ y.toNat * by_ > roomBytes := by
      unfold roomBytes
      have : ((y.toNat * by_ : Nat) : Int) = by_ * y := by rw [Int.natCast_mul, Int.toNat_of_nonneg (by omega), Int.mul_comm]
      omega
    simp only [Instr.makeSlice, Sem.run_bind, run_ul hul, Result.andThen_ok, asInt, asIntOf, Sem.run_pure, run_ti hi, hw1, hw2, hby]
    by_cases hy0 : y.toNat * sz = 0
    · simp [hx0, hbig, askRoom, hroom, hsz, Sem.run_bind, Result.andThen, hy0, newRow, newObj, Sem.run, pure, show ¬ y < 0 by omega, show ¬ x < 0 by omega, show ¬ y < x by omega]
      simp [show Array.range 0 = #[] by simp [Array.range]]
    · simp [hx0, hbig, askRoom, hroom, hsz, Sem.run_bind, Result.andThen, hy0, hzu, newRow, newObj, Sem.run, pure, show ¬ y < 0 by omega, show ¬ x < 0 by omega, show ¬ y < x by omega]

theorem elm_ul {t el : TypeId} (h : elm P t = some el) : P.underlying t = some (.slice el) := by
  unfold elm at h
  cases hq : P.underlying t with
  | none => simp [hq] at h
  | some d => cases d <;> simp [hq] at h; subst h; rfl

theorem own_row {v : Value} {el : TypeId} {sz m : Nat} {c : List Value} (hr : Rel H w) (h : OwnV H v el sz m c) : w.ownsRow 0 el sz v m c := by
  refine ⟨h.1, ?_⟩
  rcases h.2 with ⟨rfl, h0⟩ | ⟨b, cap, rfl, h1, h2, h3⟩
  · exact .inl ⟨rfl, h0⟩
  · obtain ⟨o', ho', hre⟩ := hr.real _ _ h3
    cases o' <;> simp only [Real] at hre
    rename_i arr t' fz
    obtain ⟨rfl, rfl, hm, rest, harr⟩ := hre
    exact .inr ⟨b, cap, arr, rfl, Nat.zero_le _, ho', h1, h2, hm, by rw [harr, ← h.1]; simp⟩

/-- Behind a write to one row of the call's own, or to a new one: what is known is known still, but for that row. -/
theorem rows_step {v v' : Value} {w' : World} {el : TypeId} {sz m : Nat} {c : List Value} (hr : Rel H w) (hg : w.grownBy w' v.ownBlock) (hv : ∀ b, v.ownBlock = some b → H.wr b)
    (hown : w'.ownsRow 0 el sz v' m c) (hat : v'.ownBlock = v.ownBlock ∨ v'.ownBlock = some w.heap.size) :
    ∃ H', Step H w H' w' ∧ OwnV H' v' el sz m c ∧ Chg H v H' v' := by
  have hvlt : ∀ b, v.ownBlock = some b → b < H.next := fun b hb => by
    have := hv b hb
    unfold AHeap.wr at this
    cases hx : H.at_ b with
    | none => simp [hx] at this
    | some x => exact hr.lt b x hx
  -- what stays: all but v's row
  let H1 : AHeap := ⟨H.next, fun x => if v.ownBlock = some x then none else H.at_ x⟩
  have s1 : Step H w H1 w' := by
    refine ⟨⟨Nat.le_trans hr.le hg.size, ?_, ?_⟩, hg.os, hg.tape, hg.output, hg.size, ?_, ?_⟩
    · intro b o hb
      simp only [H1] at hb
      split at hb
      · cases hb
      · exact hr.lt b o hb
    · intro b o hb
      simp only [H1] at hb
      split at hb
      · cases hb
      · rename_i hne
        obtain ⟨o', ho', hre⟩ := hr.real b o hb
        exact ⟨o', by rw [hg.block b (Array.getElem?_eq_some_iff.1 ho').1 (fun e => hne e.symm)]; exact ho', hre⟩
    · intro b hb
      unfold AHeap.wr at hb ⊢
      simp only [H1] at hb
      split at hb
      · simp at hb
      · exact .inl hb
    · intro b hb hn
      exact hg.block b hb fun e => hn (hv b e.symm)
  rcases hown with ⟨hlen, ⟨rfl, h0⟩ | ⟨g, cap, cur, rfl, _, hcur, hnc, hcm, hsz, htake⟩⟩
  · refine ⟨H1, s1, ⟨hlen, .inl ⟨rfl, h0⟩⟩, ⟨Nat.le_refl _, fun x o hx hne => ?_, fun b hb => by simp [Value.ownBlock] at hb⟩⟩
    simp only [H1]; rw [if_neg hne]; exact hx
  · have hreal : Real (.cells c el (cap * sz)) (.cells cur el (0, 0)) := by
      refine ⟨rfl, rfl, hsz, cur.toList.drop (m * sz), ?_⟩
      rw [← htake, List.take_append_drop]
    have hgv : v.ownBlock = some g ∨ g = w.heap.size := by
      rcases hat with h | h
      · exact .inl (by rw [← h]; rfl)
      · right; simpa [Value.ownBlock] using h
    let H2 : AHeap := ⟨max H.next (g + 1), fun x => if x = g then some (.cells c el (cap * sz)) else H1.at_ x⟩
    have hglt : g < w'.heap.size := (Array.getElem?_eq_some_iff.1 hcur).1
    refine ⟨H2, ⟨⟨?_, ?_, ?_⟩, hg.os, hg.tape, hg.output, hg.size, ?_, s1.same⟩, ⟨hlen, .inr ⟨g, cap, rfl, hnc, hcm, by simp [H2]⟩⟩, ⟨Nat.le_max_left _ _, ?_, ?_⟩⟩
    · have := s1.rel.le; have h2 := hr.le; have h3 := hg.size
      simp only [H2]; omega
    · intro b o hb
      simp only [H2] at hb
      split at hb
      · rename_i e; subst e; simp only [H2]; omega
      · have := s1.rel.lt b o hb; simp only [H1] at this; simp only [H2]; omega
    · intro b o hb
      simp only [H2] at hb
      split at hb
      · rename_i e; subst e; cases hb; exact ⟨_, hcur, hreal⟩
      · exact s1.rel.real b o hb
    · intro b hb
      unfold AHeap.wr at hb
      simp only [H2] at hb
      split at hb
      · rename_i e
        subst e
        rcases hgv with h | h
        · exact .inl (hv b h)
        · exact .inr (by omega)
      · exact s1.wr b hb
    · intro x o hx hne
      have hxg : x ≠ g := fun e => by
        subst e
        rcases hgv with h | h
        · exact hne h
        · have := hr.lt x o hx; have := hr.le; omega
      simp only [H2, H1]
      rw [if_neg hxg, if_neg hne]; exact hx
    · intro b hb
      have : g = b := by simpa [Value.ownBlock] using hb
      subst this
      rcases hgv with h | h
      · exact .inl h
      · exact .inr (by rw [h]; exact hr.le)

theorem row_cells' {a : Addr} {k : Nat} {l : List Value} (hr : Rel H w) (h : H.loadN a k = some l) : ∀ (j : Nat) (u : Value), l[j]? = some u → w.cell? (a.add j) = some u := by
  intro j u hu
  unfold AHeap.loadN at h
  cases hq : H.row a with
  | none => rw [hq] at h; cases h
  | some r =>
    rw [hq] at h
    simp only [takeN] at h
    split at h
    · cases h
      have hj : r[j]? = some u := by
        rw [List.getElem?_take] at hu
        split at hu
        · exact hu
        · cases hu
      exact hr.cell (row_cell hq j hj)
    · cases h
theorem loadN_length {a : Addr} {k : Nat} {l : List Value} (h : H.loadN a k = some l) : l.length = k := cellsFrom_length (loadN_cells h)

theorem own_wr {v : Value} {el : TypeId} {sz m : Nat} {c : List Value} (h : OwnV H v el sz m c) : ∀ b, v.ownBlock = some b → H.wr b := by
  intro b hb
  rcases h.2 with ⟨rfl, _⟩ | ⟨g, cap, rfl, _, _, h3⟩
  · simp [Value.ownBlock] at hb
  · have : g = b := by simpa [Value.ownBlock] using hb
    subst this
    exact wr_of_cells h3

theorem append_ok {t ty : TypeId} {v x : Value} (hr : Rel H w) (h : appE P t v x H K) : ∃ u w' H', (Builtin.append_ #[t, t] ty #[v, x]).run P w = .ok u w' ∧ Step H w H' w' ∧ K u H' := by
  obtain ⟨el, sz, by_, m0, c, m, xs, ad, k, hel, hs, hby, ⟨z, hz, hzl⟩, h0, hown, rfl, hx, hfl, hmax, hb, hK⟩ := h
  have hul := elm_ul hel
  have hr0 := own_row hr hown
  obtain ⟨u, hu, huz⟩ := zc_zv hz
  cases hi : P.info? el with
  | none => simp [tsz, hi] at hs
  | some ie =>
    have hsz : ie.size = sz := by simpa [tsz, hi] using hs
    have hbs : ie.bytes = by_ := by simpa [tby, hi] using hby
    have hzz : ie.zero = some u := by simpa [zv, hi] using hu
    have hus : u.cells.size = sz := by rw [← hzl, ← huz]; simp
    rcases hx with ⟨rfl, rfl⟩ | ⟨ad', rfl, hload⟩
    · -- nothing is appended
      have hrun : (Builtin.append_ #[t, t] ty #[v, .slice ad 0 k]).run P w = .ok v w := by
        cases ad <;> rcases hown.2 with ⟨rfl, hn⟩ | ⟨b, cap, rfl, h1, _, _⟩
        all_goals simp [Builtin.append_, run_underlying hul, sizeOf, typeInfo, hi, Builtin.lenOf, Builtin.firstCells, storeCells, loadCellsFrom, loadCells, *]
      refine ⟨v, w, H, hrun, Step.refl hr, hK v H hr.lt (by simpa using hown) ⟨Nat.le_refl _, fun _ _ h _ => h, fun b h => .inl h⟩ (by simp)⟩
    · obtain ⟨v', w', hrun, hown', hg, hnil, hat⟩ := run_append_own_at (P := P) w 0 t ty el ie u sz by_ hul hi hzz hsz hbs hus h0 v m0 c hr0 ad' m k xs (loadN_length hload) (row_cells' hr hload) hfl hmax hb (Nat.zero_le _)
      obtain ⟨H', s, ho, hc⟩ := rows_step hr hg (own_wr hown) hown' hat
      exact ⟨v', w', H', hrun, s, hK v' H' s.rel.lt ho hc hnil⟩

theorem call_ok {f : Operand} {c : Call} {F : FuncId} {first cap : Array Value} {vs : List Value} (hop : o.op = .call c) (hc : c.callee = .value f) (hf : FRel n e a) (hfn : e.eval f = some (.func (.func F) first cap))
    (hv : evalL e c.args.toList = some vs) (hr : Rel H w) (h : ACallsE P F (first ++ vs.toArray ++ cap) H fun en H' => match en with
        | .returned v => K v H'
        | .panicked ch => Kp ch H'
        | .outgrown => False) : o.wp P a w (KPost a o H w K) (KPanic a H w Kp) := by
  obtain ⟨⟨fn, hfn', hbody, hname⟩, hcalls⟩ := h
  have hargs : c.args.map a.eval = vs.toArray := by apply Array.toList_inj.1; simp [evalL_ok hf hv]
  have hb : ¬ fn.body = none := by cases hq : fn.body <;> simp [hq] at hbody ⊢
  have hname' : ¬ fn.name = "runtime.NumGoroutine" := by simpa using hname
  have hrun : (execOp a.eval o).run P w = .ok (.enter F (first ++ vs.toArray ++ cap)) w := by
    unfold execOp
    simp only [hop, resolve, hc, hf.eval hfn, hargs]
    simp [Deferred.ofValue, invoke, callFunc, Sem.run_bind, Sem.run_pure, Result.andThen, program, Sem.run, hfn', hname', hb, pure]
  unfold Oper.wp
  rw [hrun]
  simp only [Oper.upon]
  refine (hcalls w hr).mono fun en w' hR => ?_
  obtain ⟨H', s, hk⟩ := hR
  cases en with
  | returned v => exact ⟨v, H', rfl, s, hk⟩
  | panicked ch => exact ⟨ch, H', rfl, rfl, s, hk⟩
  | outgrown => exact hk.elim

theorem est_ok (hf : FRel n e a) (hr : Rel H w) (h : est P e H o K Kp) : o.wp P a w (KPost a o H w K) (KPanic a H w Kp) := by
  unfold est at h
  split at h
  · rename_i t hop
    split at h
    · rename_i z hz; exact alloc_ok hop hz hr h
    · exact h.elim
  · rename_i t x hop
    split at h
    · rename_i v hx; exact box_ok hop hf hx hr h
    · exact h.elim
  · rename_i t x y hop
    split at h
    · rename_i ad v m hx hy hm; exact store_ok hop hf hx hy hm hr h
    · exact h.elim
  · rename_i t len parts hop
    split at h
    · rename_i el vs hel hv
      rcases h with ⟨rfl, rfl, hz, h⟩ | h
      · obtain ⟨sz, hs⟩ := Option.isSome_iff_exists.1 hz
        exact buildSlice0_ok hop hel hs hr h
      split at h
      · rename_i z sz hz hs
        obtain ⟨h1, h2, h3, h4⟩ := h
        split at h4
        · rename_i l hl; exact buildSlice_ok hop hf hel hv hz hs h1 h2 h3 hl hr h4
        · exact h4.elim
      · exact h.elim
    · exact h.elim
  · rename_i t l c hop
    split at h
    · rename_i k1 x k2 y el hl hc hel
      split at h
      · rename_i z sz by_ hz hs hby
        obtain ⟨h1, h2, h3, h4, h5, h6, h7⟩ := h
        exact makeSlice_ok hop hf hl hc hel hz hs hby h1 h2 h3 h4 h5 h6 hr h7
      · exact h.elim
    · exact h.elim
  · rename_i c hop
    split at h
    · rename_i f hc
      split at h
      · rename_i F first cap vs hfn hv; exact call_ok hop hc hf hfn hv hr h
      · exact h.elim
    · rename_i hc
      split at h
      · rename_i s x t t' hargs htys
        split at h
        · rename_i v u hs hx
          obtain ⟨rfl, h⟩ := h
          have ha : c.args = #[s, x] := by apply Array.toList_inj.1; simpa using hargs
          have ht : c.argTypes = #[t, t] := by apply Array.toList_inj.1; simpa using htys
          obtain ⟨r, w', H', hrun, st, k⟩ := append_ok (ty := o.type) hr h
          refine wp_val ?_ st k
          unfold execOp
          simp only [hop, resolve, hc, ha, ht]
          simp [Sem.run_bind, Sem.run_pure, Result.andThen, invoke, builtin, hf.eval hs, hf.eval hx, hrun]
        · exact h.elim
      · exact h.elim
    · exact h.elim
  · rename_i x hop
    split at h
    · rename_i t v hx
      unfold Oper.wp execOp
      simp only [hop, hf.eval hx]
      simp only [Instr.panic, goPanic, bind, Sem.bind, Sem.run, Oper.upon]
      exact ⟨_, H, rfl, rfl, Step.refl hr, h⟩
    · exact h.elim
  · exact h.elim
end

theorem storeE_mono {H : AHeap} {ad : Addr} {n : Nat} {vs : List Value} {K K' : AHeap → Prop} (k : ∀ H', K H' → K' H') (h : storeE H ad n vs K) : storeE H ad n vs K' := by
  unfold storeE at h ⊢
  split at h
  · rename_i hs hb; rw [hs, hb] at *; exact ⟨h.1, h.2.1, h.2.2.1, k _ h.2.2.2⟩
  · exact h.elim
theorem appE_mono {P : Program} {t : TypeId} {v x : Value} {H : AHeap} {K K' : Value → AHeap → Prop} (k : ∀ v H', K v H' → K' v H') (h : appE P t v x H K) : appE P t v x H K' := by
  obtain ⟨el, sz, by_, n, c, m, xs, ad, q, h1, h2, h3, h4, h5, h6, h7, h8, h9, h10, h11, h12⟩ := h
  exact ⟨el, sz, by_, n, c, m, xs, ad, q, h1, h2, h3, h4, h5, h6, h7, h8, h9, h10, h11, fun v' H' z a b c => k _ _ (h12 v' H' z a b c)⟩
theorem est_mono {P : Program} {e : Env} {H : AHeap} {o : Oper} {K K' : Value → AHeap → Prop} {Kp Kp' : List PanicEntry → AHeap → Prop} (k : ∀ v H', K v H' → K' v H') (kp : ∀ c H', Kp c H' → Kp' c H')
    (h : est P e H o K Kp) : est P e H o K' Kp' := by
  unfold est at h ⊢
  split at h
  · split at h
    · exact fun b hb => k _ _ (h b hb)
    · exact h.elim
  · split at h
    · exact fun b hb => k _ _ (h b hb)
    · exact h.elim
  · split at h
    · exact storeE_mono (k _) h
    · exact h.elim
  · split at h
    · rcases h with ⟨h1, h2, h3, h4⟩ | h
      · exact .inl ⟨h1, h2, h3, fun b hb => k _ _ (h4 b hb)⟩
      refine .inr ?_
      split at h
      · obtain ⟨h1, h2, h3, h4⟩ := h
        refine ⟨h1, h2, h3, ?_⟩
        split at h4
        · exact fun b hb => k _ _ (h4 b hb)
        · exact h4.elim
      · exact h.elim
    · exact h.elim
  · split at h
    · split at h
      · obtain ⟨h1, h2, h3, h4, h5, h6, h7⟩ := h
        exact ⟨h1, h2, h3, h4, h5, h6, fun b hb => k _ _ (h7 b hb)⟩
      · exact h.elim
    · exact h.elim
  · split at h
    · split at h
      · refine ACallsE.mono h fun en H' hh => ?_
        cases en with
        | returned v => exact k _ _ hh
        | panicked c => exact kp _ _ hh
        | outgrown => exact hh.elim
      · exact h.elim
    · split at h
      · split at h
        · exact ⟨h.1, appE_mono k h.2⟩
        · exact h.elim
      · exact h.elim
    · exact h.elim
  · split at h
    · exact kp _ _ h
    · exact h.elim
  · exact h.elim
end Go.Proofs.YteklhgmoniaieaaAh
