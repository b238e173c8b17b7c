import Derived.Test.YteklhgmoniaieaaAhTypes
import Derived.Test.YteklhgmoniaieaaAhPlain
set_option linter.unusedVariables false
set_option maxRecDepth 20000
set_option maxHeartbeats 10000000
set_option linter.unusedSimpArgs false
namespace Go.Proofs.Yteklhgmoniaieaa.Fn
open Go.Proofs.YteklhgmoniaieaaAh Go.Proofs.Yteklhgmoniaieaa.Ty
-- "regcert/opcode.known"  params ['int'] results ['bool']
theorem opcode_known (x : Int) (H : AHeap) : ACalls Try.prog 59 #[.int .i64 x] H fun v H' => v = .bool (decide (1 ≤ x) && decide (x ≤ 18)) ∧ H' = H := by
  refine acallsN (rs := [.tmp 2]) 9 Try.func59 rfl (by decide) rfl rfl (by simp) fun hlt => ?_
  simp
  refine awp_seq_k fun K1 hK1 => ?_
  refine awp_region (by decide) ?_   -- region 0
  refine aops_op rfl rfl rfl (by simp (disch := omega) []; rfl) ?_
  refine aops_nil ?_
  refine hK1 _ _ ?_
  refine awp_seq_k fun K2 hK2 => ?_
  refine awp_region (by decide) ?_   -- region 1
  refine aops_op rfl rfl rfl (by simp (disch := omega) []; rfl) ?_
  refine aops_op rfl rfl rfl (by simp (disch := omega) []; rfl) ?_
  refine aops_op rfl rfl rfl (by simp (disch := omega) []; rfl) ?_
  refine aops_gen fun g5 hg5 => ?_
  refine aops_gd (b := _) (v := _) rfl rfl rfl (fun hb => by have hb' := hb; (try simp [hg5] at hb'); (try simp at hb); simp (disch := omega) [hb, hb']; rfl) ?_
  refine aops_gd (b := _) (v := _) rfl rfl rfl (fun hb => by have hb' := hb; (try simp [hg5] at hb'); (try simp at hb); simp (disch := omega) [hb, hb']; rfl) ?_
  refine aops_op rfl rfl rfl (by simp (disch := omega) []; rfl) ?_
  refine aops_op rfl rfl rfl (by simp (disch := omega) []; rfl) ?_
  refine aops_nil ?_
  refine hK2 _ _ ?_
  refine awp_lt fun hltE => ?_
  refine awp_ret ?_
  try simp only [thenA, blockA]
  refine fpost_ret (H0 := H) rfl (by simp (disch := omega) [] <;> rfl) sub_auto ?_
  refine ⟨?_, rfl⟩
  clear hK1 hK2
  subst_vars
  (try (simp [resV, shapeV])) <;> grind [ref07Instr, ref07Term, usesA, usesB, usesD, inR]

-- "regcert/location.Slot"  params ['int'] results ['api.Loc']
theorem loc_Slot (x : Int) (H : AHeap) (h0 : 0 ≤ x) (h1 : x < 1000000000) : ACalls Try.prog 37 #[iv x] H fun v H' => v = iv (2 * x + 1) ∧ H' = H := by
  refine acallsN (rs := [.tmp 2]) 6 Try.func37 rfl (by decide) rfl rfl (by simp) fun hlt => ?_
  simp
  refine awp_seq_k fun K1 hK1 => ?_
  refine awp_region (by decide) ?_   -- region 0
  refine aops_op rfl rfl rfl (by simp (disch := omega) []; rfl) ?_
  refine aops_nil ?_
  refine hK1 _ _ ?_
  refine awp_seq_k fun K2 hK2 => ?_
  refine awp_region (by decide) ?_   -- region 1
  refine aops_op rfl rfl rfl (by simp (disch := omega) []; rfl) ?_
  refine aops_op rfl rfl rfl (by simp (disch := omega) []; rfl) ?_
  refine aops_op rfl rfl rfl (by simp (disch := omega) []; rfl) ?_
  refine aops_op rfl rfl rfl (by simp (disch := omega) []; rfl) ?_
  refine aops_nil ?_
  refine hK2 _ _ ?_
  refine awp_lt fun hltE => ?_
  refine awp_ret ?_
  try simp only [thenA, blockA]
  refine fpost_ret (H0 := H) rfl (by simp (disch := omega) [] <;> rfl) sub_auto ?_
  refine ⟨?_, rfl⟩
  clear hK1 hK2
  subst_vars
  (try (simp [resV, shapeV])) <;> grind [ref07Instr, ref07Term, usesA, usesB, usesD, inR]

-- "regcert/location.Reg"  params ['int'] results ['api.Loc']
theorem loc_Reg (x : Int) (H : AHeap) (h0 : 0 ≤ x) (h1 : x < 1000000000) : ACalls Try.prog 51 #[iv x] H fun v H' => v = iv (2 * x) ∧ H' = H := by
  refine acallsN (rs := [.tmp 2]) 5 Try.func51 rfl (by decide) rfl rfl (by simp) fun hlt => ?_
  simp
  refine awp_seq_k fun K1 hK1 => ?_
  refine awp_region (by decide) ?_   -- region 0
  refine aops_op rfl rfl rfl (by simp (disch := omega) []; rfl) ?_
  refine aops_nil ?_
  refine hK1 _ _ ?_
  refine awp_seq_k fun K2 hK2 => ?_
  refine awp_region (by decide) ?_   -- region 1
  refine aops_op rfl rfl rfl (by simp (disch := omega) []; rfl) ?_
  refine aops_op rfl rfl rfl (by simp (disch := omega) []; rfl) ?_
  refine aops_op rfl rfl rfl (by simp (disch := omega) []; rfl) ?_
  refine aops_nil ?_
  refine hK2 _ _ ?_
  refine awp_lt fun hltE => ?_
  refine awp_ret ?_
  try simp only [thenA, blockA]
  refine fpost_ret (H0 := H) rfl (by simp (disch := omega) [] <;> rfl) sub_auto ?_
  refine ⟨?_, rfl⟩
  clear hK1 hK2
  subst_vars
  (try (simp [resV, shapeV])) <;> grind [ref07Instr, ref07Term, usesA, usesB, usesD, inR]

-- "regcert/spillall.load"  params ['int', 'int'] results ['api.Mach']
theorem sp_load (r x : Int) (H : AHeap) (h0 : 0 ≤ x) (h1 : x < 1000000000) (h2 : 0 ≤ r) (h3 : r < 1000000000) : ACalls Try.prog 34 #[iv r, iv x] H fun v H' => v = .agg #[iv 18, iv 0, iv 0, iv 0, iv 0, iv (2 * r), iv (2 * x + 1)] ∧ H' = H := by
  refine acallsN (rs := [.cell 4 66]) 10 Try.func34 rfl (by decide) rfl rfl (by simp) fun hlt => ?_
  simp
  refine awp_seq_k fun K1 hK1 => ?_
  refine awp_region (by decide) ?_   -- region 0
  refine aops_alloc rfl rfl rfl (by simp (disch := omega) []; rfl) (by simp (disch := omega) []; rfl) ?_
  intro b4 hb4; try simp only [AHeap.next_new, AHeap.next_set, next_ov, next_delV, AHeap.next_del, next_low] at hb4
  refine aops_nil ?_
  refine hK1 _ _ ?_
  refine awp_seq_k fun K2 hK2 => ?_
  refine awp_region (by decide) ?_   -- region 1
  refine aops_op rfl rfl rfl (by simp (disch := omega) []; rfl) ?_
  refine aops_callP (u := ?pu3) rfl rfl rfl rfl (by simp (disch := omega) []; rfl) ?pk3 ?ph3
  case pk3 =>
    exact loc_Reg r _ h2 h3
  refine aops_op rfl rfl rfl (by simp (disch := omega) []; rfl) ?_
  refine aops_callP (u := ?pu4) rfl rfl rfl rfl (by simp (disch := omega) []; rfl) ?pk4 ?ph4
  case pk4 =>
    exact loc_Slot x _ h0 h1
  refine aops_op rfl rfl rfl (by simp (disch := omega) []; rfl) ?_
  refine aops_store rfl rfl rfl (by simp (disch := omega) []; rfl) (by rfl) (by simp (disch := omega) []; rfl) (by simp (disch := omega) []; rfl) (by simp (disch := omega) []; rfl) (by simp (disch := omega) []; rfl) (by rfl) (by simp <;> omega) (by simp [setCells] <;> rfl) set_auto ?_
  refine aops_nil ?_
  refine hK2 _ _ ?_
  refine awp_lt fun hltE => ?_
  refine awp_ret ?_
  try simp only [thenA, blockA]
  refine fpost_ret (H0 := H) rfl (by simp (disch := omega) [] <;> rfl) sub_auto ?_
  refine ⟨?_, rfl⟩
  clear hK1 hK2
  subst_vars
  (try (simp [resV, shapeV])) <;> grind [ref07Instr, ref07Term, usesA, usesB, usesD, inR]

-- "regcert/spillall.store"  params ['int'] results ['api.Mach']
theorem sp_store (x : Int) (H : AHeap) (h0 : 0 ≤ x) (h1 : x < 1000000000) : ACalls Try.prog 50 #[iv x] H fun v H' => v = .agg #[iv 18, iv 0, iv 0, iv 0, iv 0, iv (2 * x + 1), iv 0] ∧ H' = H := by
  refine acallsN (rs := [.cell 2 66]) 7 Try.func50 rfl (by decide) rfl rfl (by simp) fun hlt => ?_
  simp
  refine awp_seq_k fun K1 hK1 => ?_
  refine awp_region (by decide) ?_   -- region 0
  refine aops_alloc rfl rfl rfl (by simp (disch := omega) []; rfl) (by simp (disch := omega) []; rfl) ?_
  intro b2 hb2; try simp only [AHeap.next_new, AHeap.next_set, next_ov, next_delV, AHeap.next_del, next_low] at hb2
  refine aops_nil ?_
  refine hK1 _ _ ?_
  refine awp_seq_k fun K2 hK2 => ?_
  refine awp_region (by decide) ?_   -- region 1
  refine aops_op rfl rfl rfl (by simp (disch := omega) []; rfl) ?_
  refine aops_callP (u := ?pu3) rfl rfl rfl rfl (by simp (disch := omega) []; rfl) ?pk3 ?ph3
  case pk3 =>
    exact loc_Slot x _ h0 h1
  refine aops_callP (u := ?pu4) rfl rfl rfl rfl (by simp (disch := omega) []; rfl) ?pk4 ?ph4
  case pk4 =>
    exact loc_Reg 0 _ (by omega) (by omega)
  refine aops_op rfl rfl rfl (by simp (disch := omega) []; rfl) ?_
  refine aops_store rfl rfl rfl (by simp (disch := omega) []; rfl) (by rfl) (by simp (disch := omega) []; rfl) (by simp (disch := omega) []; rfl) (by simp (disch := omega) []; rfl) (by simp (disch := omega) []; rfl) (by rfl) (by simp <;> omega) (by simp [setCells] <;> rfl) set_auto ?_
  refine aops_nil ?_
  refine hK2 _ _ ?_
  refine awp_lt fun hltE => ?_
  refine awp_ret ?_
  try simp only [thenA, blockA]
  refine fpost_ret (H0 := H) rfl (by simp (disch := omega) [] <;> rfl) sub_auto ?_
  refine ⟨?_, rfl⟩
  clear hK1 hK2
  subst_vars
  (try (simp [resV, shapeV])) <;> grind [ref07Instr, ref07Term, usesA, usesB, usesD, inR]

-- "regcert/regcertref22.move"  params ['int', 'int'] results ['api.Mach']
theorem ref22_move (d s : Int) (H : AHeap) : ACalls Try.prog 40 #[iv d, iv s] H fun v H' => v = .agg #[iv 18, iv 0, iv 0, iv 0, iv 0, iv d, iv s] ∧ H' = H := by
  refine acallsN (rs := [.cell 4 66]) 8 Try.func40 rfl (by decide) rfl rfl (by simp) fun hlt => ?_
  simp
  refine awp_seq_k fun K1 hK1 => ?_
  refine awp_region (by decide) ?_   -- region 0
  refine aops_alloc rfl rfl rfl (by simp (disch := omega) []; rfl) (by simp (disch := omega) []; rfl) ?_
  intro b4 hb4; try simp only [AHeap.next_new, AHeap.next_set, next_ov, next_delV, AHeap.next_del, next_low] at hb4
  refine aops_nil ?_
  refine hK1 _ _ ?_
  refine awp_seq_k fun K2 hK2 => ?_
  refine awp_region (by decide) ?_   -- region 1
  refine aops_op rfl rfl rfl (by simp (disch := omega) []; rfl) ?_
  refine aops_op rfl rfl rfl (by simp (disch := omega) []; rfl) ?_
  refine aops_op rfl rfl rfl (by simp (disch := omega) []; rfl) ?_
  refine aops_store rfl rfl rfl (by simp (disch := omega) []; rfl) (by rfl) (by simp (disch := omega) []; rfl) (by simp (disch := omega) []; rfl) (by simp (disch := omega) []; rfl) (by simp (disch := omega) []; rfl) (by rfl) (by simp <;> omega) (by simp [setCells] <;> rfl) set_auto ?_
  refine aops_nil ?_
  refine hK2 _ _ ?_
  refine awp_lt fun hltE => ?_
  refine awp_ret ?_
  try simp only [thenA, blockA]
  refine fpost_ret (H0 := H) rfl (by simp (disch := omega) [] <;> rfl) sub_auto ?_
  refine ⟨?_, rfl⟩
  clear hK1 hK2
  subst_vars
  (try (simp [resV, shapeV])) <;> grind [ref07Instr, ref07Term, usesA, usesB, usesD, inR]

-- "regcert/opcode.Source"  params ['int'] results ['bool']
theorem opcode_Source (x : Int) (H : AHeap) : ACalls Try.prog 60 #[iv x] H fun v H' => v = .bool (decide (1 ≤ x) && decide (x ≤ 17)) ∧ H' = H := by
  refine acallsN (rs := [.tmp 2]) 9 Try.func60 rfl (by decide) rfl rfl (by simp) fun hlt => ?_
  simp
  refine awp_seq_k fun K1 hK1 => ?_
  refine awp_region (by decide) ?_   -- region 0
  refine aops_op rfl rfl rfl (by simp (disch := omega) []; rfl) ?_
  refine aops_nil ?_
  refine hK1 _ _ ?_
  refine awp_seq_k fun K2 hK2 => ?_
  refine awp_region (by decide) ?_   -- region 1
  refine aops_op rfl rfl rfl (by simp (disch := omega) []; rfl) ?_
  refine aops_callP (u := ?pu3) rfl rfl rfl rfl (by simp (disch := omega) []; rfl) ?pk3 ?ph3
  case pk3 =>
    exact opcode_known _ _
  refine aops_op rfl rfl rfl (by simp (disch := omega) []; rfl) ?_
  refine aops_gen fun g5 hg5 => ?_
  refine aops_gd (b := _) (v := _) rfl rfl rfl (fun hb => by have hb' := hb; (try simp [hg5] at hb'); (try simp at hb); simp (disch := omega) [hb, hb']; rfl) ?_
  refine aops_gd (b := _) (v := _) rfl rfl rfl (fun hb => by have hb' := hb; (try simp [hg5] at hb'); (try simp at hb); simp (disch := omega) [hb, hb']; rfl) ?_
  refine aops_op rfl rfl rfl (by simp (disch := omega) []; rfl) ?_
  refine aops_op rfl rfl rfl (by simp (disch := omega) []; rfl) ?_
  refine aops_nil ?_
  refine hK2 _ _ ?_
  refine awp_lt fun hltE => ?_
  refine awp_ret ?_
  try simp only [thenA, blockA]
  refine fpost_ret (H0 := H) rfl (by simp (disch := omega) [] <;> rfl) sub_auto ?_
  refine ⟨?_, rfl⟩
  clear hK1 hK2
  subst_vars
  (try (simp [resV, shapeV])) <;> grind [ref07Instr, ref07Term, usesA, usesB, usesD, inR]

-- "regcert/regcertref05.UsesA"  params ['int'] results ['bool']
theorem ref05_UsesA (x : Int) (H : AHeap) : ACalls Try.prog 41 #[.int .i64 x] H fun v H' => v = .bool (decide (2 ≤ x) && decide (x ≤ 17)) ∧ H' = H := by
  refine acallsN (rs := [.tmp 2]) 9 Try.func41 rfl (by decide) rfl rfl (by simp) fun hlt => ?_
  simp
  refine awp_seq_k fun K1 hK1 => ?_
  refine awp_region (by decide) ?_   -- region 0
  refine aops_op rfl rfl rfl (by simp (disch := omega) []; rfl) ?_
  refine aops_nil ?_
  refine hK1 _ _ ?_
  refine awp_seq_k fun K2 hK2 => ?_
  refine awp_region (by decide) ?_   -- region 1
  refine aops_op rfl rfl rfl (by simp (disch := omega) []; rfl) ?_
  refine aops_op rfl rfl rfl (by simp (disch := omega) []; rfl) ?_
  refine aops_op rfl rfl rfl (by simp (disch := omega) []; rfl) ?_
  refine aops_gen fun g5 hg5 => ?_
  refine aops_gd (b := _) (v := _) rfl rfl rfl (fun hb => by have hb' := hb; (try simp [hg5] at hb'); (try simp at hb); simp (disch := omega) [hb, hb']; rfl) ?_
  refine aops_gd (b := _) (v := _) rfl rfl rfl (fun hb => by have hb' := hb; (try simp [hg5] at hb'); (try simp at hb); simp (disch := omega) [hb, hb']; rfl) ?_
  refine aops_op rfl rfl rfl (by simp (disch := omega) []; rfl) ?_
  refine aops_op rfl rfl rfl (by simp (disch := omega) []; rfl) ?_
  refine aops_nil ?_
  refine hK2 _ _ ?_
  refine awp_lt fun hltE => ?_
  refine awp_ret ?_
  try simp only [thenA, blockA]
  refine fpost_ret (H0 := H) rfl (by simp (disch := omega) [] <;> rfl) sub_auto ?_
  refine ⟨?_, rfl⟩
  clear hK1 hK2
  subst_vars
  (try (simp [resV, shapeV])) <;> grind [ref07Instr, ref07Term, usesA, usesB, usesD, inR]

-- "regcert/regcertref05.UsesB"  params ['int'] results ['bool']
theorem ref05_UsesB (x : Int) (H : AHeap) : ACalls Try.prog 42 #[.int .i64 x] H fun v H' => v = .bool (decide (5 ≤ x) && decide (x ≤ 16)) ∧ H' = H := by
  refine acallsN (rs := [.tmp 2]) 9 Try.func42 rfl (by decide) rfl rfl (by simp) fun hlt => ?_
  simp
  refine awp_seq_k fun K1 hK1 => ?_
  refine awp_region (by decide) ?_   -- region 0
  refine aops_op rfl rfl rfl (by simp (disch := omega) []; rfl) ?_
  refine aops_nil ?_
  refine hK1 _ _ ?_
  refine awp_seq_k fun K2 hK2 => ?_
  refine awp_region (by decide) ?_   -- region 1
  refine aops_op rfl rfl rfl (by simp (disch := omega) []; rfl) ?_
  refine aops_op rfl rfl rfl (by simp (disch := omega) []; rfl) ?_
  refine aops_op rfl rfl rfl (by simp (disch := omega) []; rfl) ?_
  refine aops_gen fun g5 hg5 => ?_
  refine aops_gd (b := _) (v := _) rfl rfl rfl (fun hb => by have hb' := hb; (try simp [hg5] at hb'); (try simp at hb); simp (disch := omega) [hb, hb']; rfl) ?_
  refine aops_gd (b := _) (v := _) rfl rfl rfl (fun hb => by have hb' := hb; (try simp [hg5] at hb'); (try simp at hb); simp (disch := omega) [hb, hb']; rfl) ?_
  refine aops_op rfl rfl rfl (by simp (disch := omega) []; rfl) ?_
  refine aops_op rfl rfl rfl (by simp (disch := omega) []; rfl) ?_
  refine aops_nil ?_
  refine hK2 _ _ ?_
  refine awp_lt fun hltE => ?_
  refine awp_ret ?_
  try simp only [thenA, blockA]
  refine fpost_ret (H0 := H) rfl (by simp (disch := omega) [] <;> rfl) sub_auto ?_
  refine ⟨?_, rfl⟩
  clear hK1 hK2
  subst_vars
  (try (simp [resV, shapeV])) <;> grind [ref07Instr, ref07Term, usesA, usesB, usesD, inR]

-- "regcert/regcertref05.UsesD"  params ['int'] results ['bool']
theorem ref05_UsesD (x : Int) (H : AHeap) : ACalls Try.prog 43 #[.int .i64 x] H fun v H' => v = .bool (decide (1 ≤ x) && decide (x ≤ 16)) ∧ H' = H := by
  refine acallsN (rs := [.tmp 2]) 9 Try.func43 rfl (by decide) rfl rfl (by simp) fun hlt => ?_
  simp
  refine awp_seq_k fun K1 hK1 => ?_
  refine awp_region (by decide) ?_   -- region 0
  refine aops_op rfl rfl rfl (by simp (disch := omega) []; rfl) ?_
  refine aops_nil ?_
  refine hK1 _ _ ?_
  refine awp_seq_k fun K2 hK2 => ?_
  refine awp_region (by decide) ?_   -- region 1
  refine aops_op rfl rfl rfl (by simp (disch := omega) []; rfl) ?_
  refine aops_op rfl rfl rfl (by simp (disch := omega) []; rfl) ?_
  refine aops_op rfl rfl rfl (by simp (disch := omega) []; rfl) ?_
  refine aops_gen fun g5 hg5 => ?_
  refine aops_gd (b := _) (v := _) rfl rfl rfl (fun hb => by have hb' := hb; (try simp [hg5] at hb'); (try simp at hb); simp (disch := omega) [hb, hb']; rfl) ?_
  refine aops_gd (b := _) (v := _) rfl rfl rfl (fun hb => by have hb' := hb; (try simp [hg5] at hb'); (try simp at hb); simp (disch := omega) [hb, hb']; rfl) ?_
  refine aops_op rfl rfl rfl (by simp (disch := omega) []; rfl) ?_
  refine aops_op rfl rfl rfl (by simp (disch := omega) []; rfl) ?_
  refine aops_nil ?_
  refine hK2 _ _ ?_
  refine awp_lt fun hltE => ?_
  refine awp_ret ?_
  try simp only [thenA, blockA]
  refine fpost_ret (H0 := H) rfl (by simp (disch := omega) [] <;> rfl) sub_auto ?_
  refine ⟨?_, rfl⟩
  clear hK1 hK2
  subst_vars
  (try (simp [resV, shapeV])) <;> grind [ref07Instr, ref07Term, usesA, usesB, usesD, inR]

-- "regcert/regcertref07.in"  params ['int', 'int'] results ['bool']
theorem ref07_in (x n : Int) (H : AHeap) : ACalls Try.prog 54 #[.int .i64 x, .int .i64 n] H fun v H' => v = .bool (decide (0 ≤ x) && decide (x < n)) ∧ H' = H := by
  refine acallsN (rs := [.tmp 4]) 12 Try.func54 rfl (by decide) rfl rfl (by simp) fun hlt => ?_
  simp
  refine awp_seq_k fun K1 hK1 => ?_
  refine awp_region (by decide) ?_   -- region 0
  refine aops_op rfl rfl rfl (by simp (disch := omega) []; rfl) ?_
  refine aops_nil ?_
  refine hK1 _ _ ?_
  refine awp_seq_k fun K2 hK2 => ?_
  refine awp_region (by decide) ?_   -- region 1
  refine aops_op rfl rfl rfl (by simp (disch := omega) []; rfl) ?_
  refine aops_op rfl rfl rfl (by simp (disch := omega) []; rfl) ?_
  refine aops_op rfl rfl rfl (by simp (disch := omega) []; rfl) ?_
  refine aops_gen fun g7 hg7 => ?_
  refine aops_gd (b := _) (v := _) rfl rfl rfl (fun hb => by have hb' := hb; (try simp [hg7] at hb'); (try simp at hb); simp (disch := omega) [hb, hb']; rfl) ?_
  refine aops_gd (b := _) (v := _) rfl rfl rfl (fun hb => by have hb' := hb; (try simp [hg7] at hb'); (try simp at hb); simp (disch := omega) [hb, hb']; rfl) ?_
  refine aops_gd (b := _) (v := _) rfl rfl rfl (fun hb => by have hb' := hb; (try simp [hg7] at hb'); (try simp at hb); simp (disch := omega) [hb, hb']; rfl) ?_
  refine aops_op rfl rfl rfl (by simp (disch := omega) []; rfl) ?_
  refine aops_op rfl rfl rfl (by simp (disch := omega) []; rfl) ?_
  refine aops_nil ?_
  refine hK2 _ _ ?_
  refine awp_lt fun hltE => ?_
  refine awp_ret ?_
  try simp only [thenA, blockA]
  refine fpost_ret (H0 := H) rfl (by simp (disch := omega) [] <;> rfl) sub_auto ?_
  refine ⟨?_, rfl⟩
  clear hK1 hK2
  subst_vars
  (try (simp [resV, shapeV])) <;> grind [ref07Instr, ref07Term, usesA, usesB, usesD, inR]

-- "regcert/regcertref07.Instr"  params ['api.Instr', 'int'] results ['int']
theorem ref07_Instr (o d a b m n : Int) (H : AHeap) : ACalls Try.prog 38 #[.agg #[.int .i64 o, .int .i64 d, .int .i64 a, .int .i64 b, .int .i64 m], .int .i64 n] H fun v H' => v = .int .i64 (ref07Instr o d a b m n) ∧ H' = H := by
  refine acallsN (rs := [.tmp 4]) 88 Try.func38 rfl (by decide) rfl rfl (by simp) fun hlt => ?_
  simp
  refine awp_seq_k fun K1 hK1 => ?_
  refine awp_region (by decide) ?_   -- region 0
  refine aops_box rfl rfl rfl (by simp (disch := omega) []; rfl) (by simp (disch := omega) []; rfl) (by simp (disch := omega) []; rfl) ?_
  intro b2 hb2; try simp only [AHeap.next_new, AHeap.next_set, next_ov, next_delV, AHeap.next_del, next_low] at hb2
  refine aops_op rfl rfl rfl (by simp (disch := omega) []; rfl) ?_
  refine aops_nil ?_
  refine hK1 _ _ ?_
  refine awp_seq_k fun K2 hK2 => ?_
  refine awp_seq_k fun K3 hK3 => ?_
  refine awp_region (by decide) ?_   -- region 1
  refine aops_op rfl rfl rfl (by simp (disch := omega) []; rfl) ?_
  refine aops_op rfl rfl rfl (by simp (disch := omega) []; rfl) ?_
  refine aops_op rfl rfl rfl (by simp (disch := omega) []; rfl) ?_
  refine aops_op rfl rfl rfl (by simp (disch := omega) []; rfl) ?_
  refine aops_gen fun g8 hg8 => ?_
  refine aops_gd (b := _) (v := _) rfl rfl rfl (fun hb => by have hb' := hb; (try simp [hg8] at hb'); (try simp at hb); simp (disch := omega) [hb, hb']; rfl) ?_
  refine aops_gd (b := _) (v := _) rfl rfl rfl (fun hb => by have hb' := hb; (try simp [hg8] at hb'); (try simp at hb); simp (disch := omega) [hb, hb']; rfl) ?_
  refine aops_gd (b := _) (v := _) rfl rfl rfl (fun hb => by have hb' := hb; (try simp [hg8] at hb'); (try simp at hb); simp (disch := omega) [hb, hb']; rfl) ?_
  refine aops_op rfl rfl rfl (by simp (disch := omega) []; rfl) ?_
  refine aops_nil ?_
  refine hK3 _ _ ?_
  refine awp_cond rfl (fun hc4 => ?_) fun hc4 => ?_
  · simp at hc4
    refine awp_seq_k fun K5 hK5 => ?_
    refine awp_region (by decide) ?_   -- region 2
    refine aops_op rfl rfl rfl (by simp (disch := omega) [hc4]; rfl) ?_
    refine aops_nil ?_
    refine hK5 _ _ ?_
    refine awp_lt fun hltE => ?_
    refine awp_ret ?_
    try simp only [thenA, blockA]
    refine fpost_ret (H0 := H) rfl (by simp (disch := omega) [hc4] <;> rfl) sub_auto ?_
    refine ⟨?_, rfl⟩
    clear hK1 hK2 hK3 hK5
    subst_vars
    (try (simp [resV, shapeV])) <;> grind [ref07Instr, ref07Term, usesA, usesB, usesD, inR]
  · simp at hc4
    refine awp_skip ?_
    simp
    refine hK2 _ _ ?_
    refine awp_seq_k fun K6 hK6 => ?_
    refine awp_seq_k fun K7 hK7 => ?_
    refine awp_region (by decide) ?_   -- region 3
    refine aops_op rfl rfl rfl (by simp (disch := omega) [hc4]; rfl) ?_
    refine aops_op rfl rfl rfl (by simp (disch := omega) [hc4]; rfl) ?_
    refine aops_callP (u := ?pu8) rfl rfl rfl rfl (by simp (disch := omega) [hc4]; rfl) ?pk8 ?ph8
    case pk8 =>
      exact ref05_UsesD _ _
    refine aops_op rfl rfl rfl (by simp (disch := omega) [hc4]; rfl) ?_
    refine aops_gen fun g16 hg16 => ?_
    refine aops_gd (b := _) (v := _) rfl rfl rfl (fun hb => by have hb' := hb; (try simp [hg16] at hb'); (try simp at hb); simp (disch := omega) [hb, hb', hc4]; rfl) ?_
    refine aops_gd (b := _) (v := _) rfl rfl rfl (fun hb => by have hb' := hb; (try simp [hg16] at hb'); (try simp at hb); simp (disch := omega) [hb, hb', hc4]; rfl) ?_
    refine aops_gd (b := _) (v := _) rfl rfl rfl (fun hb => by have hb' := hb; (try simp [hg16] at hb'); (try simp at hb); simp (disch := omega) [hb, hb', hc4]; rfl) ?_
    refine aops_gdcall (b := _) (u := ?pu9) rfl rfl rfl rfl ?pk9 ?ph9
    case pk9 =>
      intro hb; have hb' := hb; (try simp [hg16] at hb'); try simp at hb
      refine ⟨_, by simp (disch := omega) [hb, hc4]; rfl, ?_⟩
      exact ref07_in _ _ _
    refine aops_gd (b := _) (v := _) rfl rfl rfl (fun hb => by have hb' := hb; (try simp [hg16] at hb'); (try simp at hb); simp (disch := omega) [hb, hb', hc4]; rfl) ?_
    refine aops_op rfl rfl rfl (by simp (disch := omega) [hc4]; rfl) ?_
    refine aops_op rfl rfl rfl (by simp (disch := omega) [hc4]; rfl) ?_
    refine aops_gen fun g23 hg23 => ?_
    refine aops_gd (b := _) (v := _) rfl rfl rfl (fun hb => by have hb' := hb; (try simp [hg16, hg23] at hb'); (try simp at hb); simp (disch := omega) [hb, hb', hc4]; rfl) ?_
    refine aops_gd (b := _) (v := _) rfl rfl rfl (fun hb => by have hb' := hb; (try simp [hg16, hg23] at hb'); (try simp at hb); simp (disch := omega) [hb, hb', hc4]; rfl) ?_
    refine aops_gdcall (b := _) (u := ?pu10) rfl rfl rfl rfl ?pk10 ?ph10
    case pk10 =>
      intro hb; have hb' := hb; (try simp [hg16, hg23] at hb'); try simp at hb
      refine ⟨_, by simp (disch := omega) [hb, hc4]; rfl, ?_⟩
      exact ref05_UsesA _ _
    refine aops_gd (b := _) (v := _) rfl rfl rfl (fun hb => by have hb' := hb; (try simp [hg16, hg23] at hb'); (try simp at hb); simp (disch := omega) [hb, hb', hc4]; rfl) ?_
    refine aops_gen2 fun g27 hg27 => ?_
    refine aops_gd (b := _) (v := _) rfl rfl rfl (fun hb => by have hb' := hb; (try simp [hg16, hg23, hg27] at hb'); (try simp at hb); simp (disch := omega) [hb, hb', hc4]; rfl) ?_
    refine aops_gd (b := _) (v := _) rfl rfl rfl (fun hb => by have hb' := hb; (try simp [hg16, hg23, hg27] at hb'); (try simp at hb); simp (disch := omega) [hb, hb', hc4]; rfl) ?_
    refine aops_gd (b := _) (v := _) rfl rfl rfl (fun hb => by have hb' := hb; (try simp [hg16, hg23, hg27] at hb'); (try simp at hb); simp (disch := omega) [hb, hb', hc4]; rfl) ?_
    refine aops_gdcall (b := _) (u := ?pu11) rfl rfl rfl rfl ?pk11 ?ph11
    case pk11 =>
      intro hb; have hb' := hb; (try simp [hg16, hg23, hg27] at hb'); try simp at hb
      refine ⟨_, by simp (disch := omega) [hb, hc4]; rfl, ?_⟩
      exact ref07_in _ _ _
    refine aops_gd (b := _) (v := _) rfl rfl rfl (fun hb => by have hb' := hb; (try simp [hg16, hg23, hg27] at hb'); (try simp at hb); simp (disch := omega) [hb, hb', hc4]; rfl) ?_
    refine aops_gd (b := _) (v := _) rfl rfl rfl (fun hb => by have hb' := hb; (try simp [hg16, hg23, hg27] at hb'); (try simp at hb); simp (disch := omega) [hb, hb', hc4]; rfl) ?_
    refine aops_op rfl rfl rfl (by simp (disch := omega) [hc4]; rfl) ?_
    refine aops_op rfl rfl rfl (by simp (disch := omega) [hc4]; rfl) ?_
    refine aops_gen fun g35 hg35 => ?_
    refine aops_gd (b := _) (v := _) rfl rfl rfl (fun hb => by have hb' := hb; (try simp [hg16, hg23, hg27, hg35] at hb'); (try simp at hb); simp (disch := omega) [hb, hb', hc4]; rfl) ?_
    refine aops_gd (b := _) (v := _) rfl rfl rfl (fun hb => by have hb' := hb; (try simp [hg16, hg23, hg27, hg35] at hb'); (try simp at hb); simp (disch := omega) [hb, hb', hc4]; rfl) ?_
    refine aops_gdcall (b := _) (u := ?pu12) rfl rfl rfl rfl ?pk12 ?ph12
    case pk12 =>
      intro hb; have hb' := hb; (try simp [hg16, hg23, hg27, hg35] at hb'); try simp at hb
      refine ⟨_, by simp (disch := omega) [hb, hc4]; rfl, ?_⟩
      exact ref05_UsesB _ _
    refine aops_gd (b := _) (v := _) rfl rfl rfl (fun hb => by have hb' := hb; (try simp [hg16, hg23, hg27, hg35] at hb'); (try simp at hb); simp (disch := omega) [hb, hb', hc4]; rfl) ?_
    refine aops_gen2 fun g39 hg39 => ?_
    refine aops_gd (b := _) (v := _) rfl rfl rfl (fun hb => by have hb' := hb; (try simp [hg16, hg23, hg27, hg35, hg39] at hb'); (try simp at hb); simp (disch := omega) [hb, hb', hc4]; rfl) ?_
    refine aops_gd (b := _) (v := _) rfl rfl rfl (fun hb => by have hb' := hb; (try simp [hg16, hg23, hg27, hg35, hg39] at hb'); (try simp at hb); simp (disch := omega) [hb, hb', hc4]; rfl) ?_
    refine aops_gd (b := _) (v := _) rfl rfl rfl (fun hb => by have hb' := hb; (try simp [hg16, hg23, hg27, hg35, hg39] at hb'); (try simp at hb); simp (disch := omega) [hb, hb', hc4]; rfl) ?_
    refine aops_gdcall (b := _) (u := ?pu13) rfl rfl rfl rfl ?pk13 ?ph13
    case pk13 =>
      intro hb; have hb' := hb; (try simp [hg16, hg23, hg27, hg35, hg39] at hb'); try simp at hb
      refine ⟨_, by simp (disch := omega) [hb, hc4]; rfl, ?_⟩
      exact ref07_in _ _ _
    refine aops_gd (b := _) (v := _) rfl rfl rfl (fun hb => by have hb' := hb; (try simp [hg16, hg23, hg27, hg35, hg39] at hb'); (try simp at hb); simp (disch := omega) [hb, hb', hc4]; rfl) ?_
    refine aops_gd (b := _) (v := _) rfl rfl rfl (fun hb => by have hb' := hb; (try simp [hg16, hg23, hg27, hg35, hg39] at hb'); (try simp at hb); simp (disch := omega) [hb, hb', hc4]; rfl) ?_
    refine aops_op rfl rfl rfl (by simp (disch := omega) [hc4]; rfl) ?_
    refine aops_nil ?_
    refine hK7 _ _ ?_
    refine awp_cond rfl (fun hc14 => ?_) fun hc14 => ?_
    · simp at hc14
      refine awp_seq_k fun K15 hK15 => ?_
      refine awp_region (by decide) ?_   -- region 4
      refine aops_op rfl rfl rfl (by simp (disch := omega) [hc4, hc14]; rfl) ?_
      refine aops_nil ?_
      refine hK15 _ _ ?_
      refine awp_lt fun hltE => ?_
      refine awp_ret ?_
      try simp only [thenA, blockA]
      refine fpost_ret (H0 := H) rfl (by simp (disch := omega) [hc4, hc14] <;> rfl) sub_auto ?_
      refine ⟨?_, rfl⟩
      clear hK1 hK2 hK3 hK6 hK7 hK15
      subst_vars
      (try (simp [resV, shapeV])) <;> grind [ref07Instr, ref07Term, usesA, usesB, usesD, inR]
    · simp at hc14
      refine awp_skip ?_
      simp
      refine hK6 _ _ ?_
      refine awp_seq_k fun K16 hK16 => ?_
      refine awp_seq_k fun K17 hK17 => ?_
      refine awp_region (by decide) ?_   -- region 5
      refine aops_op rfl rfl rfl (by simp (disch := omega) [hc4, hc14]; rfl) ?_
      refine aops_op rfl rfl rfl (by simp (disch := omega) [hc4, hc14]; rfl) ?_
      refine aops_callP (u := ?pu18) rfl rfl rfl rfl (by simp (disch := omega) [hc4, hc14]; rfl) ?pk18 ?ph18
      case pk18 =>
        exact ref05_UsesD _ _
      refine aops_op rfl rfl rfl (by simp (disch := omega) [hc4, hc14]; rfl) ?_
      refine aops_op rfl rfl rfl (by simp (disch := omega) [hc4, hc14]; rfl) ?_
      refine aops_gen fun g51 hg51 => ?_
      refine aops_gd (b := _) (v := _) rfl rfl rfl (fun hb => by have hb' := hb; (try simp [hg51] at hb'); (try simp at hb); simp (disch := omega) [hb, hb', hc4, hc14]; rfl) ?_
      refine aops_gd (b := _) (v := _) rfl rfl rfl (fun hb => by have hb' := hb; (try simp [hg51] at hb'); (try simp at hb); simp (disch := omega) [hb, hb', hc4, hc14]; rfl) ?_
      refine aops_gd (b := _) (v := _) rfl rfl rfl (fun hb => by have hb' := hb; (try simp [hg51] at hb'); (try simp at hb); simp (disch := omega) [hb, hb', hc4, hc14]; rfl) ?_
      refine aops_op rfl rfl rfl (by simp (disch := omega) [hc4, hc14]; rfl) ?_
      refine aops_op rfl rfl rfl (by simp (disch := omega) [hc4, hc14]; rfl) ?_
      refine aops_gen fun g56 hg56 => ?_
      refine aops_gd (b := _) (v := _) rfl rfl rfl (fun hb => by have hb' := hb; (try simp [hg51, hg56] at hb'); (try simp at hb); simp (disch := omega) [hb, hb', hc4, hc14]; rfl) ?_
      refine aops_gd (b := _) (v := _) rfl rfl rfl (fun hb => by have hb' := hb; (try simp [hg51, hg56] at hb'); (try simp at hb); simp (disch := omega) [hb, hb', hc4, hc14]; rfl) ?_
      refine aops_gdcall (b := _) (u := ?pu19) rfl rfl rfl rfl ?pk19 ?ph19
      case pk19 =>
        intro hb; have hb' := hb; (try simp [hg51, hg56] at hb'); try simp at hb
        refine ⟨_, by simp (disch := omega) [hb, hc4, hc14]; rfl, ?_⟩
        exact ref05_UsesA _ _
      refine aops_gd (b := _) (v := _) rfl rfl rfl (fun hb => by have hb' := hb; (try simp [hg51, hg56] at hb'); (try simp at hb); simp (disch := omega) [hb, hb', hc4, hc14]; rfl) ?_
      refine aops_gd (b := _) (v := _) rfl rfl rfl (fun hb => by have hb' := hb; (try simp [hg51, hg56] at hb'); (try simp at hb); simp (disch := omega) [hb, hb', hc4, hc14]; rfl) ?_
      refine aops_gen2 fun g61 hg61 => ?_
      refine aops_gd (b := _) (v := _) rfl rfl rfl (fun hb => by have hb' := hb; (try simp [hg51, hg56, hg61] at hb'); (try simp at hb); simp (disch := omega) [hb, hb', hc4, hc14]; rfl) ?_
      refine aops_gd (b := _) (v := _) rfl rfl rfl (fun hb => by have hb' := hb; (try simp [hg51, hg56, hg61] at hb'); (try simp at hb); simp (disch := omega) [hb, hb', hc4, hc14]; rfl) ?_
      refine aops_gd (b := _) (v := _) rfl rfl rfl (fun hb => by have hb' := hb; (try simp [hg51, hg56, hg61] at hb'); (try simp at hb); simp (disch := omega) [hb, hb', hc4, hc14]; rfl) ?_
      refine aops_gd (b := _) (v := _) rfl rfl rfl (fun hb => by have hb' := hb; (try simp [hg51, hg56, hg61] at hb'); (try simp at hb); simp (disch := omega) [hb, hb', hc4, hc14]; rfl) ?_
      refine aops_op rfl rfl rfl (by simp (disch := omega) [hc4, hc14]; rfl) ?_
      refine aops_op rfl rfl rfl (by simp (disch := omega) [hc4, hc14]; rfl) ?_
      refine aops_gen fun g67 hg67 => ?_
      refine aops_gd (b := _) (v := _) rfl rfl rfl (fun hb => by have hb' := hb; (try simp [hg51, hg56, hg61, hg67] at hb'); (try simp at hb); simp (disch := omega) [hb, hb', hc4, hc14]; rfl) ?_
      refine aops_gd (b := _) (v := _) rfl rfl rfl (fun hb => by have hb' := hb; (try simp [hg51, hg56, hg61, hg67] at hb'); (try simp at hb); simp (disch := omega) [hb, hb', hc4, hc14]; rfl) ?_
      refine aops_gdcall (b := _) (u := ?pu20) rfl rfl rfl rfl ?pk20 ?ph20
      case pk20 =>
        intro hb; have hb' := hb; (try simp [hg51, hg56, hg61, hg67] at hb'); try simp at hb
        refine ⟨_, by simp (disch := omega) [hb, hc4, hc14]; rfl, ?_⟩
        exact ref05_UsesB _ _
      refine aops_gd (b := _) (v := _) rfl rfl rfl (fun hb => by have hb' := hb; (try simp [hg51, hg56, hg61, hg67] at hb'); (try simp at hb); simp (disch := omega) [hb, hb', hc4, hc14]; rfl) ?_
      refine aops_gd (b := _) (v := _) rfl rfl rfl (fun hb => by have hb' := hb; (try simp [hg51, hg56, hg61, hg67] at hb'); (try simp at hb); simp (disch := omega) [hb, hb', hc4, hc14]; rfl) ?_
      refine aops_gen2 fun g72 hg72 => ?_
      refine aops_gd (b := _) (v := _) rfl rfl rfl (fun hb => by have hb' := hb; (try simp [hg51, hg56, hg61, hg67, hg72] at hb'); (try simp at hb); simp (disch := omega) [hb, hb', hc4, hc14]; rfl) ?_
      refine aops_gd (b := _) (v := _) rfl rfl rfl (fun hb => by have hb' := hb; (try simp [hg51, hg56, hg61, hg67, hg72] at hb'); (try simp at hb); simp (disch := omega) [hb, hb', hc4, hc14]; rfl) ?_
      refine aops_gd (b := _) (v := _) rfl rfl rfl (fun hb => by have hb' := hb; (try simp [hg51, hg56, hg61, hg67, hg72] at hb'); (try simp at hb); simp (disch := omega) [hb, hb', hc4, hc14]; rfl) ?_
      refine aops_gd (b := _) (v := _) rfl rfl rfl (fun hb => by have hb' := hb; (try simp [hg51, hg56, hg61, hg67, hg72] at hb'); (try simp at hb); simp (disch := omega) [hb, hb', hc4, hc14]; rfl) ?_
      refine aops_op rfl rfl rfl (by simp (disch := omega) [hc4, hc14]; rfl) ?_
      refine aops_op rfl rfl rfl (by simp (disch := omega) [hc4, hc14]; rfl) ?_
      refine aops_gen fun g78 hg78 => ?_
      refine aops_gd (b := _) (v := _) rfl rfl rfl (fun hb => by have hb' := hb; (try simp [hg51, hg56, hg61, hg67, hg72, hg78] at hb'); (try simp at hb); simp (disch := omega) [hb, hb', hc4, hc14]; rfl) ?_
      refine aops_gd (b := _) (v := _) rfl rfl rfl (fun hb => by have hb' := hb; (try simp [hg51, hg56, hg61, hg67, hg72, hg78] at hb'); (try simp at hb); simp (disch := omega) [hb, hb', hc4, hc14]; rfl) ?_
      refine aops_gd (b := _) (v := _) rfl rfl rfl (fun hb => by have hb' := hb; (try simp [hg51, hg56, hg61, hg67, hg72, hg78] at hb'); (try simp at hb); simp (disch := omega) [hb, hb', hc4, hc14]; rfl) ?_
      refine aops_gd (b := _) (v := _) rfl rfl rfl (fun hb => by have hb' := hb; (try simp [hg51, hg56, hg61, hg67, hg72, hg78] at hb'); (try simp at hb); simp (disch := omega) [hb, hb', hc4, hc14]; rfl) ?_
      refine aops_gen2 fun g82 hg82 => ?_
      refine aops_gd (b := _) (v := _) rfl rfl rfl (fun hb => by have hb' := hb; (try simp [hg51, hg56, hg61, hg67, hg72, hg78, hg82] at hb'); (try simp at hb); simp (disch := omega) [hb, hb', hc4, hc14]; rfl) ?_
      refine aops_gd (b := _) (v := _) rfl rfl rfl (fun hb => by have hb' := hb; (try simp [hg51, hg56, hg61, hg67, hg72, hg78, hg82] at hb'); (try simp at hb); simp (disch := omega) [hb, hb', hc4, hc14]; rfl) ?_
      refine aops_gd (b := _) (v := _) rfl rfl rfl (fun hb => by have hb' := hb; (try simp [hg51, hg56, hg61, hg67, hg72, hg78, hg82] at hb'); (try simp at hb); simp (disch := omega) [hb, hb', hc4, hc14]; rfl) ?_
      refine aops_gd (b := _) (v := _) rfl rfl rfl (fun hb => by have hb' := hb; (try simp [hg51, hg56, hg61, hg67, hg72, hg78, hg82] at hb'); (try simp at hb); simp (disch := omega) [hb, hb', hc4, hc14]; rfl) ?_
      refine aops_op rfl rfl rfl (by simp (disch := omega) [hc4, hc14]; rfl) ?_
      refine aops_nil ?_
      refine hK17 _ _ ?_
      refine awp_cond rfl (fun hc21 => ?_) fun hc21 => ?_
      · simp at hc21
        refine awp_seq_k fun K22 hK22 => ?_
        refine awp_region (by decide) ?_   -- region 6
        refine aops_op rfl rfl rfl (by simp (disch := omega) [hc4, hc14, hc21]; rfl) ?_
        refine aops_nil ?_
        refine hK22 _ _ ?_
        refine awp_lt fun hltE => ?_
        refine awp_ret ?_
        try simp only [thenA, blockA]
        refine fpost_ret (H0 := H) rfl (by simp (disch := omega) [hc4, hc14, hc21] <;> rfl) sub_auto ?_
        refine ⟨?_, rfl⟩
        clear hK1 hK2 hK3 hK6 hK7 hK16 hK17 hK22
        subst_vars
        (try (simp [resV, shapeV])) <;> grind [ref07Instr, ref07Term, usesA, usesB, usesD, inR]
      · simp at hc21
        refine awp_skip ?_
        simp
        refine hK16 _ _ ?_
        refine awp_seq_k fun K23 hK23 => ?_
        refine awp_region (by decide) ?_   -- region 7
        refine aops_op rfl rfl rfl (by simp (disch := omega) [hc4, hc14, hc21]; rfl) ?_
        refine aops_nil ?_
        refine hK23 _ _ ?_
        refine awp_lt fun hltE => ?_
        refine awp_ret ?_
        try simp only [thenA, blockA]
        refine fpost_ret (H0 := H) rfl (by simp (disch := omega) [hc4, hc14, hc21] <;> rfl) sub_auto ?_
        refine ⟨?_, rfl⟩
        clear hK1 hK2 hK3 hK6 hK7 hK16 hK17 hK23
        subst_vars
        (try (simp [resV, shapeV])) <;> grind [ref07Instr, ref07Term, usesA, usesB, usesD, inR]

-- "regcert/regcertref07.Term"  params ['api.Term', 'int', 'int'] results ['int']
theorem ref07_Term (k a t e n m : Int) (H : AHeap) : ACalls Try.prog 39 #[.agg #[.int .i64 k, .int .i64 a, .int .i64 t, .int .i64 e], .int .i64 n, .int .i64 m] H fun v H' => v = .int .i64 (ref07Term k a t e n m) ∧ H' = H := by
  refine acallsN (rs := [.tmp 6]) 58 Try.func39 rfl (by decide) rfl rfl (by simp) fun hlt => ?_
  simp
  refine awp_seq_k fun K1 hK1 => ?_
  refine awp_region (by decide) ?_   -- region 0
  refine aops_box rfl rfl rfl (by simp (disch := omega) []; rfl) (by simp (disch := omega) []; rfl) (by simp (disch := omega) []; rfl) ?_
  intro b3 hb3; try simp only [AHeap.next_new, AHeap.next_set, next_ov, next_delV, AHeap.next_del, next_low] at hb3
  refine aops_op rfl rfl rfl (by simp (disch := omega) []; rfl) ?_
  refine aops_nil ?_
  refine hK1 _ _ ?_
  refine awp_seq_k fun K2 hK2 => ?_
  refine awp_seq_k fun K3 hK3 => ?_
  refine awp_region (by decide) ?_   -- region 1
  refine aops_op rfl rfl rfl (by simp (disch := omega) []; rfl) ?_
  refine aops_op rfl rfl rfl (by simp (disch := omega) []; rfl) ?_
  refine aops_nil ?_
  refine hK3 _ _ ?_
  refine awp_block ?_   -- block 0
  refine awp_seq_k fun K4 hK4 => ?_
  refine awp_region (by decide) ?_   -- region 2
  refine aops_op rfl rfl rfl (by simp (disch := omega) []; rfl) ?_
  refine aops_op rfl rfl rfl (by simp (disch := omega) []; rfl) ?_
  refine aops_nil ?_
  refine hK4 _ _ ?_
  refine awp_cond rfl (fun hc5 => ?_) fun hc5 => ?_
  · simp at hc5
    refine awp_seq_k fun K6 hK6 => ?_
    refine awp_seq_k fun K7 hK7 => ?_
    refine awp_region (by decide) ?_   -- region 3
    refine aops_op rfl rfl rfl (by simp (disch := omega) [hc5]; rfl) ?_
    refine aops_op rfl rfl rfl (by simp (disch := omega) [hc5]; rfl) ?_
    refine aops_op rfl rfl rfl (by simp (disch := omega) [hc5]; rfl) ?_
    refine aops_callP (u := ?pu8) rfl rfl rfl rfl (by simp (disch := omega) [hc5]; rfl) ?pk8 ?ph8
    case pk8 =>
      exact ref07_in _ _ _
    refine aops_op rfl rfl rfl (by simp (disch := omega) [hc5]; rfl) ?_
    refine aops_nil ?_
    refine hK7 _ _ ?_
    refine awp_cond rfl (fun hc9 => ?_) fun hc9 => ?_
    · simp at hc9
      refine awp_seq_k fun K10 hK10 => ?_
      refine awp_region (by decide) ?_   -- region 4
      refine aops_op rfl rfl rfl (by simp (disch := omega) [hc5, hc9]; rfl) ?_
      refine aops_nil ?_
      refine hK10 _ _ ?_
      refine awp_lt fun hltE => ?_
      refine awp_ret ?_
      try simp only [thenA, blockA]
      refine fpost_ret (H0 := H) rfl (by simp (disch := omega) [hc5, hc9] <;> rfl) sub_auto ?_
      refine ⟨?_, rfl⟩
      clear hK1 hK2 hK3 hK4 hK6 hK7 hK10
      subst_vars
      (try (simp [resV, shapeV])) <;> grind [ref07Instr, ref07Term, usesA, usesB, usesD, inR]
    · simp at hc9
      refine awp_skip ?_
      simp
      refine hK6 _ _ ?_
      refine awp_seq_k fun K11 hK11 => ?_
      refine awp_seq_k fun K12 hK12 => ?_
      refine awp_region (by decide) ?_   -- region 5
      refine aops_op rfl rfl rfl (by simp (disch := omega) [hc5, hc9]; rfl) ?_
      refine aops_op rfl rfl rfl (by simp (disch := omega) [hc5, hc9]; rfl) ?_
      refine aops_op rfl rfl rfl (by simp (disch := omega) [hc5, hc9]; rfl) ?_
      refine aops_op rfl rfl rfl (by simp (disch := omega) [hc5, hc9]; rfl) ?_
      refine aops_gen fun g19 hg19 => ?_
      refine aops_gd (b := _) (v := _) rfl rfl rfl (fun hb => by have hb' := hb; (try simp [hg19] at hb'); (try simp at hb); simp (disch := omega) [hb, hb', hc5, hc9]; rfl) ?_
      refine aops_gd (b := _) (v := _) rfl rfl rfl (fun hb => by have hb' := hb; (try simp [hg19] at hb'); (try simp at hb); simp (disch := omega) [hb, hb', hc5, hc9]; rfl) ?_
      refine aops_gd (b := _) (v := _) rfl rfl rfl (fun hb => by have hb' := hb; (try simp [hg19] at hb'); (try simp at hb); simp (disch := omega) [hb, hb', hc5, hc9]; rfl) ?_
      refine aops_op rfl rfl rfl (by simp (disch := omega) [hc5, hc9]; rfl) ?_
      refine aops_nil ?_
      refine hK12 _ _ ?_
      refine awp_cond rfl (fun hc13 => ?_) fun hc13 => ?_
      · simp at hc13
        refine awp_seq_k fun K14 hK14 => ?_
        refine awp_region (by decide) ?_   -- region 6
        refine aops_op rfl rfl rfl (by simp (disch := omega) [hc5, hc9, hc13]; rfl) ?_
        refine aops_nil ?_
        refine hK14 _ _ ?_
        refine awp_lt fun hltE => ?_
        refine awp_ret ?_
        try simp only [thenA, blockA]
        refine fpost_ret (H0 := H) rfl (by simp (disch := omega) [hc5, hc9, hc13] <;> rfl) sub_auto ?_
        refine ⟨?_, rfl⟩
        clear hK1 hK2 hK3 hK4 hK6 hK7 hK11 hK12 hK14
        subst_vars
        (try (simp [resV, shapeV])) <;> grind [ref07Instr, ref07Term, usesA, usesB, usesD, inR]
      · simp at hc13
        refine awp_skip ?_
        simp
        refine hK11 _ _ ?_
        refine awp_seq_k fun K15 hK15 => ?_
        refine awp_region (by decide) ?_   -- region 7
        refine aops_op rfl rfl rfl (by simp (disch := omega) [hc5, hc9, hc13]; rfl) ?_
        refine aops_nil ?_
        refine hK15 _ _ ?_
        refine awp_lt fun hltE => ?_
        refine awp_ret ?_
        try simp only [thenA, blockA]
        refine fpost_ret (H0 := H) rfl (by simp (disch := omega) [hc5, hc9, hc13] <;> rfl) sub_auto ?_
        refine ⟨?_, rfl⟩
        clear hK1 hK2 hK3 hK4 hK6 hK7 hK11 hK12 hK15
        subst_vars
        (try (simp [resV, shapeV])) <;> grind [ref07Instr, ref07Term, usesA, usesB, usesD, inR]
  · simp at hc5
    refine awp_seq_k fun K16 hK16 => ?_
    refine awp_region (by decide) ?_   -- region 8
    refine aops_op rfl rfl rfl (by simp (disch := omega) [hc5]; rfl) ?_
    refine aops_op rfl rfl rfl (by simp (disch := omega) [hc5]; rfl) ?_
    refine aops_nil ?_
    refine hK16 _ _ ?_
    refine awp_cond rfl (fun hc17 => ?_) fun hc17 => ?_
    · simp at hc17
      refine awp_seq_k fun K18 hK18 => ?_
      refine awp_seq_k fun K19 hK19 => ?_
      refine awp_region (by decide) ?_   -- region 9
      refine aops_op rfl rfl rfl (by simp (disch := omega) [hc5, hc17]; rfl) ?_
      refine aops_op rfl rfl rfl (by simp (disch := omega) [hc5, hc17]; rfl) ?_
      refine aops_op rfl rfl rfl (by simp (disch := omega) [hc5, hc17]; rfl) ?_
      refine aops_callP (u := ?pu20) rfl rfl rfl rfl (by simp (disch := omega) [hc5, hc17]; rfl) ?pk20 ?ph20
      case pk20 =>
        exact ref07_in _ _ _
      refine aops_op rfl rfl rfl (by simp (disch := omega) [hc5, hc17]; rfl) ?_
      refine aops_nil ?_
      refine hK19 _ _ ?_
      refine awp_cond rfl (fun hc21 => ?_) fun hc21 => ?_
      · simp at hc21
        refine awp_seq_k fun K22 hK22 => ?_
        refine awp_region (by decide) ?_   -- region 10
        refine aops_op rfl rfl rfl (by simp (disch := omega) [hc5, hc17, hc21]; rfl) ?_
        refine aops_nil ?_
        refine hK22 _ _ ?_
        refine awp_lt fun hltE => ?_
        refine awp_ret ?_
        try simp only [thenA, blockA]
        refine fpost_ret (H0 := H) rfl (by simp (disch := omega) [hc5, hc17, hc21] <;> rfl) sub_auto ?_
        refine ⟨?_, rfl⟩
        clear hK1 hK2 hK3 hK4 hK16 hK18 hK19 hK22
        subst_vars
        (try (simp [resV, shapeV])) <;> grind [ref07Instr, ref07Term, usesA, usesB, usesD, inR]
      · simp at hc21
        refine awp_skip ?_
        simp
        refine hK18 _ _ ?_
        refine awp_seq_k fun K23 hK23 => ?_
        refine awp_seq_k fun K24 hK24 => ?_
        refine awp_region (by decide) ?_   -- region 11
        refine aops_op rfl rfl rfl (by simp (disch := omega) [hc5, hc17, hc21]; rfl) ?_
        refine aops_op rfl rfl rfl (by simp (disch := omega) [hc5, hc17, hc21]; rfl) ?_
        refine aops_op rfl rfl rfl (by simp (disch := omega) [hc5, hc17, hc21]; rfl) ?_
        refine aops_callP (u := ?pu25) rfl rfl rfl rfl (by simp (disch := omega) [hc5, hc17, hc21]; rfl) ?pk25 ?ph25
        case pk25 =>
          exact ref07_in _ _ _
        refine aops_op rfl rfl rfl (by simp (disch := omega) [hc5, hc17, hc21]; rfl) ?_
        refine aops_op rfl rfl rfl (by simp (disch := omega) [hc5, hc17, hc21]; rfl) ?_
        refine aops_gen fun g36 hg36 => ?_
        refine aops_gd (b := _) (v := _) rfl rfl rfl (fun hb => by have hb' := hb; (try simp [hg36] at hb'); (try simp at hb); simp (disch := omega) [hb, hb', hc5, hc17, hc21]; rfl) ?_
        refine aops_gd (b := _) (v := _) rfl rfl rfl (fun hb => by have hb' := hb; (try simp [hg36] at hb'); (try simp at hb); simp (disch := omega) [hb, hb', hc5, hc17, hc21]; rfl) ?_
        refine aops_gd (b := _) (v := _) rfl rfl rfl (fun hb => by have hb' := hb; (try simp [hg36] at hb'); (try simp at hb); simp (disch := omega) [hb, hb', hc5, hc17, hc21]; rfl) ?_
        refine aops_gdcall (b := _) (u := ?pu26) rfl rfl rfl rfl ?pk26 ?ph26
        case pk26 =>
          intro hb; have hb' := hb; (try simp [hg36] at hb'); try simp at hb
          refine ⟨_, by simp (disch := omega) [hb, hc5, hc17, hc21]; rfl, ?_⟩
          exact ref07_in _ _ _
        refine aops_gd (b := _) (v := _) rfl rfl rfl (fun hb => by have hb' := hb; (try simp [hg36] at hb'); (try simp at hb); simp (disch := omega) [hb, hb', hc5, hc17, hc21]; rfl) ?_
        refine aops_op rfl rfl rfl (by simp (disch := omega) [hc5, hc17, hc21]; rfl) ?_
        refine aops_nil ?_
        refine hK24 _ _ ?_
        refine awp_cond rfl (fun hc27 => ?_) fun hc27 => ?_
        · simp at hc27
          refine awp_seq_k fun K28 hK28 => ?_
          refine awp_region (by decide) ?_   -- region 12
          refine aops_op rfl rfl rfl (by simp (disch := omega) [hc5, hc17, hc21, hc27]; rfl) ?_
          refine aops_nil ?_
          refine hK28 _ _ ?_
          refine awp_lt fun hltE => ?_
          refine awp_ret ?_
          try simp only [thenA, blockA]
          refine fpost_ret (H0 := H) rfl (by simp (disch := omega) [hc5, hc17, hc21, hc27] <;> rfl) sub_auto ?_
          refine ⟨?_, rfl⟩
          clear hK1 hK2 hK3 hK4 hK16 hK18 hK19 hK23 hK24 hK28
          subst_vars
          (try (simp [resV, shapeV])) <;> grind [ref07Instr, ref07Term, usesA, usesB, usesD, inR]
        · simp at hc27
          refine awp_skip ?_
          simp
          refine hK23 _ _ ?_
          refine awp_seq_k fun K29 hK29 => ?_
          refine awp_region (by decide) ?_   -- region 13
          refine aops_op rfl rfl rfl (by simp (disch := omega) [hc5, hc17, hc21, hc27]; rfl) ?_
          refine aops_nil ?_
          refine hK29 _ _ ?_
          refine awp_lt fun hltE => ?_
          refine awp_ret ?_
          try simp only [thenA, blockA]
          refine fpost_ret (H0 := H) rfl (by simp (disch := omega) [hc5, hc17, hc21, hc27] <;> rfl) sub_auto ?_
          refine ⟨?_, rfl⟩
          clear hK1 hK2 hK3 hK4 hK16 hK18 hK19 hK23 hK24 hK29
          subst_vars
          (try (simp [resV, shapeV])) <;> grind [ref07Instr, ref07Term, usesA, usesB, usesD, inR]
    · simp at hc17
      refine awp_seq_k fun K30 hK30 => ?_
      refine awp_region (by decide) ?_   -- region 14
      refine aops_op rfl rfl rfl (by simp (disch := omega) [hc5, hc17]; rfl) ?_
      refine aops_op rfl rfl rfl (by simp (disch := omega) [hc5, hc17]; rfl) ?_
      refine aops_nil ?_
      refine hK30 _ _ ?_
      refine awp_cond rfl (fun hc31 => ?_) fun hc31 => ?_
      · simp at hc31
        refine awp_seq_k fun K32 hK32 => ?_
        refine awp_seq_k fun K33 hK33 => ?_
        refine awp_region (by decide) ?_   -- region 15
        refine aops_op rfl rfl rfl (by simp (disch := omega) [hc5, hc17, hc31]; rfl) ?_
        refine aops_op rfl rfl rfl (by simp (disch := omega) [hc5, hc17, hc31]; rfl) ?_
        refine aops_op rfl rfl rfl (by simp (disch := omega) [hc5, hc17, hc31]; rfl) ?_
        refine aops_callP (u := ?pu34) rfl rfl rfl rfl (by simp (disch := omega) [hc5, hc17, hc31]; rfl) ?pk34 ?ph34
        case pk34 =>
          exact ref07_in _ _ _
        refine aops_op rfl rfl rfl (by simp (disch := omega) [hc5, hc17, hc31]; rfl) ?_
        refine aops_nil ?_
        refine hK33 _ _ ?_
        refine awp_cond rfl (fun hc35 => ?_) fun hc35 => ?_
        · simp at hc35
          refine awp_seq_k fun K36 hK36 => ?_
          refine awp_region (by decide) ?_   -- region 16
          refine aops_op rfl rfl rfl (by simp (disch := omega) [hc5, hc17, hc31, hc35]; rfl) ?_
          refine aops_nil ?_
          refine hK36 _ _ ?_
          refine awp_lt fun hltE => ?_
          refine awp_ret ?_
          try simp only [thenA, blockA]
          refine fpost_ret (H0 := H) rfl (by simp (disch := omega) [hc5, hc17, hc31, hc35] <;> rfl) sub_auto ?_
          refine ⟨?_, rfl⟩
          clear hK1 hK2 hK3 hK4 hK16 hK30 hK32 hK33 hK36
          subst_vars
          (try (simp [resV, shapeV])) <;> grind [ref07Instr, ref07Term, usesA, usesB, usesD, inR]
        · simp at hc35
          refine awp_skip ?_
          simp
          refine hK32 _ _ ?_
          refine awp_seq_k fun K37 hK37 => ?_
          refine awp_seq_k fun K38 hK38 => ?_
          refine awp_region (by decide) ?_   -- region 17
          refine aops_op rfl rfl rfl (by simp (disch := omega) [hc5, hc17, hc31, hc35]; rfl) ?_
          refine aops_op rfl rfl rfl (by simp (disch := omega) [hc5, hc17, hc31, hc35]; rfl) ?_
          refine aops_op rfl rfl rfl (by simp (disch := omega) [hc5, hc17, hc31, hc35]; rfl) ?_
          refine aops_op rfl rfl rfl (by simp (disch := omega) [hc5, hc17, hc31, hc35]; rfl) ?_
          refine aops_gen fun g53 hg53 => ?_
          refine aops_gd (b := _) (v := _) rfl rfl rfl (fun hb => by have hb' := hb; (try simp [hg53] at hb'); (try simp at hb); simp (disch := omega) [hb, hb', hc5, hc17, hc31, hc35]; rfl) ?_
          refine aops_gd (b := _) (v := _) rfl rfl rfl (fun hb => by have hb' := hb; (try simp [hg53] at hb'); (try simp at hb); simp (disch := omega) [hb, hb', hc5, hc17, hc31, hc35]; rfl) ?_
          refine aops_gd (b := _) (v := _) rfl rfl rfl (fun hb => by have hb' := hb; (try simp [hg53] at hb'); (try simp at hb); simp (disch := omega) [hb, hb', hc5, hc17, hc31, hc35]; rfl) ?_
          refine aops_op rfl rfl rfl (by simp (disch := omega) [hc5, hc17, hc31, hc35]; rfl) ?_
          refine aops_nil ?_
          refine hK38 _ _ ?_
          refine awp_cond rfl (fun hc39 => ?_) fun hc39 => ?_
          · simp at hc39
            refine awp_seq_k fun K40 hK40 => ?_
            refine awp_region (by decide) ?_   -- region 18
            refine aops_op rfl rfl rfl (by simp (disch := omega) [hc5, hc17, hc31, hc35, hc39]; rfl) ?_
            refine aops_nil ?_
            refine hK40 _ _ ?_
            refine awp_lt fun hltE => ?_
            refine awp_ret ?_
            try simp only [thenA, blockA]
            refine fpost_ret (H0 := H) rfl (by simp (disch := omega) [hc5, hc17, hc31, hc35, hc39] <;> rfl) sub_auto ?_
            refine ⟨?_, rfl⟩
            clear hK1 hK2 hK3 hK4 hK16 hK30 hK32 hK33 hK37 hK38 hK40
            subst_vars
            (try (simp [resV, shapeV])) <;> grind [ref07Instr, ref07Term, usesA, usesB, usesD, inR]
          · simp at hc39
            refine awp_skip ?_
            simp
            refine hK37 _ _ ?_
            refine awp_seq_k fun K41 hK41 => ?_
            refine awp_region (by decide) ?_   -- region 19
            refine aops_op rfl rfl rfl (by simp (disch := omega) [hc5, hc17, hc31, hc35, hc39]; rfl) ?_
            refine aops_nil ?_
            refine hK41 _ _ ?_
            refine awp_lt fun hltE => ?_
            refine awp_ret ?_
            try simp only [thenA, blockA]
            refine fpost_ret (H0 := H) rfl (by simp (disch := omega) [hc5, hc17, hc31, hc35, hc39] <;> rfl) sub_auto ?_
            refine ⟨?_, rfl⟩
            clear hK1 hK2 hK3 hK4 hK16 hK30 hK32 hK33 hK37 hK38 hK41
            subst_vars
            (try (simp [resV, shapeV])) <;> grind [ref07Instr, ref07Term, usesA, usesB, usesD, inR]
      · simp at hc31
        refine awp_skip ?_
        simp
        refine hK2 _ _ ?_
        refine awp_seq_k fun K42 hK42 => ?_
        refine awp_region (by decide) ?_   -- region 20
        refine aops_op rfl rfl rfl (by simp (disch := omega) [hc5, hc17, hc31]; rfl) ?_
        refine aops_nil ?_
        refine hK42 _ _ ?_
        refine awp_lt fun hltE => ?_
        refine awp_ret ?_
        try simp only [thenA, blockA]
        refine fpost_ret (H0 := H) rfl (by simp (disch := omega) [hc5, hc17, hc31] <;> rfl) sub_auto ?_
        refine ⟨?_, rfl⟩
        clear hK1 hK2 hK3 hK4 hK16 hK30 hK42
        subst_vars
        (try (simp [resV, shapeV])) <;> grind [ref07Instr, ref07Term, usesA, usesB, usesD, inR]

-- "regcert/opcode.Of"  params ['int'] results ['opcode.Shape', 'bool']
theorem opcode_Of (x : Int) (H : AHeap) : ACalls Try.prog 49 #[.int .i64 x] H fun v H' => v = .tuple #[.agg (shapeV x).toArray, .bool (decide (1 ≤ x) && decide (x ≤ 18))] ∧ H' = H := by
  refine acallsN (rs := [.cell 2 99, .tmp 3]) 24 Try.func49 rfl (by decide) rfl rfl (by simp) fun hlt => ?_
  simp
  refine awp_seq_k fun K1 hK1 => ?_
  refine awp_region (by decide) ?_   -- region 0
  refine aops_alloc rfl rfl rfl (by simp (disch := omega) []; rfl) (by simp (disch := omega) []; rfl) ?_
  intro b2 hb2; try simp only [AHeap.next_new, AHeap.next_set, next_ov, next_delV, AHeap.next_del, next_low] at hb2
  refine aops_op rfl rfl rfl (by simp (disch := omega) []; rfl) ?_
  refine aops_nil ?_
  refine hK1 _ _ ?_
  refine awp_seq_k fun K2 hK2 => ?_
  refine awp_block ?_   -- block 0
  refine awp_seq_k fun K3 hK3 => ?_
  refine awp_region (by decide) ?_   -- region 1
  refine aops_op rfl rfl rfl (by simp (disch := omega) []; rfl) ?_
  refine aops_callP (u := ?pu4) rfl rfl rfl rfl (by simp (disch := omega) []; rfl) ?pk4 ?ph4
  case pk4 =>
    exact opcode_known _ _
  refine aops_op rfl rfl rfl (by simp (disch := omega) []; rfl) ?_
  refine aops_op rfl rfl rfl (by simp (disch := omega) []; rfl) ?_
  refine aops_nil ?_
  refine hK3 _ _ ?_
  refine awp_cond rfl (fun hc5 => ?_) fun hc5 => ?_
  · simp at hc5
    refine awp_seq_k fun K6 hK6 => ?_
    refine awp_region (by decide) ?_   -- region 2
    refine aops_op rfl rfl rfl (by simp (disch := omega) [hc5]; rfl) ?_
    refine aops_store rfl rfl rfl (by simp (disch := omega) [hc5]; rfl) (by rfl) (by simp (disch := omega) [hc5]; rfl) (by simp (disch := omega) [hc5]; rfl) (by simp (disch := omega) [hc5]; rfl) (by simp (disch := omega) [hc5]; rfl) (by rfl) (by simp [] <;> omega) (by simp [setCells] <;> rfl) set_auto ?_
    refine aops_op rfl rfl rfl (by simp (disch := omega) [hc5]; rfl) ?_
    refine aops_nil ?_
    refine hK6 _ _ ?_
    refine awp_lt fun hltE => ?_
    refine awp_ret ?_
    try simp only [thenA, blockA]
    refine fpost_ret (H0 := H) rfl (by simp (disch := omega) [hc5] <;> rfl) sub_auto ?_
    refine ⟨?_, rfl⟩
    clear hK1 hK2 hK3 hK6
    subst_vars
    (try (simp [resV, shapeV])) <;> grind [ref07Instr, ref07Term, usesA, usesB, usesD, inR]
  · simp at hc5
    refine awp_seq_k fun K7 hK7 => ?_
    refine awp_region (by decide) ?_   -- region 3
    refine aops_op rfl rfl rfl (by simp (disch := omega) [hc5]; rfl) ?_
    refine aops_op rfl rfl rfl (by simp (disch := omega) [hc5]; rfl) ?_
    refine aops_op rfl rfl rfl (by simp (disch := omega) [hc5]; rfl) ?_
    refine aops_nil ?_
    refine hK7 _ _ ?_
    refine awp_cond rfl (fun hc8 => ?_) fun hc8 => ?_
    · simp at hc8
      refine awp_seq_k fun K9 hK9 => ?_
      refine awp_region (by decide) ?_   -- region 4
      refine aops_op rfl rfl rfl (by simp (disch := omega) [hc5, hc8]; rfl) ?_
      refine aops_store rfl rfl rfl (by simp (disch := omega) [hc5, hc8]; rfl) (by rfl) (by simp (disch := omega) [hc5, hc8]; rfl) (by simp (disch := omega) [hc5, hc8]; rfl) (by simp (disch := omega) [hc5, hc8]; rfl) (by simp (disch := omega) [hc5, hc8]; rfl) (by rfl) (by simp [] <;> omega) (by simp [setCells] <;> rfl) set_auto ?_
      refine aops_op rfl rfl rfl (by simp (disch := omega) [hc5, hc8]; rfl) ?_
      refine aops_nil ?_
      refine hK9 _ _ ?_
      refine awp_lt fun hltE => ?_
      refine awp_ret ?_
      try simp only [thenA, blockA]
      refine fpost_ret (H0 := H) rfl (by simp (disch := omega) [hc5, hc8] <;> rfl) sub_auto ?_
      refine ⟨?_, rfl⟩
      clear hK1 hK2 hK3 hK7 hK9
      subst_vars
      (try (simp [resV, shapeV])) <;> grind [ref07Instr, ref07Term, usesA, usesB, usesD, inR]
    · simp at hc8
      refine awp_seq_k fun K10 hK10 => ?_
      refine awp_region (by decide) ?_   -- region 5
      refine aops_op rfl rfl rfl (by simp (disch := omega) [hc5, hc8]; rfl) ?_
      refine aops_op rfl rfl rfl (by simp (disch := omega) [hc5, hc8]; rfl) ?_
      refine aops_op rfl rfl rfl (by simp (disch := omega) [hc5, hc8]; rfl) ?_
      refine aops_nil ?_
      refine hK10 _ _ ?_
      refine awp_cond rfl (fun hc11 => ?_) fun hc11 => ?_
      · simp at hc11
        refine awp_seq_k fun K12 hK12 => ?_
        refine awp_region (by decide) ?_   -- region 6
        refine aops_op rfl rfl rfl (by simp (disch := omega) [hc5, hc8, hc11]; rfl) ?_
        refine aops_store rfl rfl rfl (by simp (disch := omega) [hc5, hc8, hc11]; rfl) (by rfl) (by simp (disch := omega) [hc5, hc8, hc11]; rfl) (by simp (disch := omega) [hc5, hc8, hc11]; rfl) (by simp (disch := omega) [hc5, hc8, hc11]; rfl) (by simp (disch := omega) [hc5, hc8, hc11]; rfl) (by rfl) (by simp [] <;> omega) (by simp [setCells] <;> rfl) set_auto ?_
        refine aops_op rfl rfl rfl (by simp (disch := omega) [hc5, hc8, hc11]; rfl) ?_
        refine aops_nil ?_
        refine hK12 _ _ ?_
        refine awp_lt fun hltE => ?_
        refine awp_ret ?_
        try simp only [thenA, blockA]
        refine fpost_ret (H0 := H) rfl (by simp (disch := omega) [hc5, hc8, hc11] <;> rfl) sub_auto ?_
        refine ⟨?_, rfl⟩
        clear hK1 hK2 hK3 hK7 hK10 hK12
        subst_vars
        (try (simp [resV, shapeV])) <;> grind [ref07Instr, ref07Term, usesA, usesB, usesD, inR]
      · simp at hc11
        refine awp_seq_k fun K13 hK13 => ?_
        refine awp_region (by decide) ?_   -- region 7
        refine aops_op rfl rfl rfl (by simp (disch := omega) [hc5, hc8, hc11]; rfl) ?_
        refine aops_op rfl rfl rfl (by simp (disch := omega) [hc5, hc8, hc11]; rfl) ?_
        refine aops_op rfl rfl rfl (by simp (disch := omega) [hc5, hc8, hc11]; rfl) ?_
        refine aops_nil ?_
        refine hK13 _ _ ?_
        refine awp_cond rfl (fun hc14 => ?_) fun hc14 => ?_
        · simp at hc14
          refine awp_seq_k fun K15 hK15 => ?_
          refine awp_region (by decide) ?_   -- region 8
          refine aops_op rfl rfl rfl (by simp (disch := omega) [hc5, hc8, hc11, hc14]; rfl) ?_
          refine aops_store rfl rfl rfl (by simp (disch := omega) [hc5, hc8, hc11, hc14]; rfl) (by rfl) (by simp (disch := omega) [hc5, hc8, hc11, hc14]; rfl) (by simp (disch := omega) [hc5, hc8, hc11, hc14]; rfl) (by simp (disch := omega) [hc5, hc8, hc11, hc14]; rfl) (by simp (disch := omega) [hc5, hc8, hc11, hc14]; rfl) (by rfl) (by simp [] <;> omega) (by simp [setCells] <;> rfl) set_auto ?_
          refine aops_op rfl rfl rfl (by simp (disch := omega) [hc5, hc8, hc11, hc14]; rfl) ?_
          refine aops_nil ?_
          refine hK15 _ _ ?_
          refine awp_lt fun hltE => ?_
          refine awp_ret ?_
          try simp only [thenA, blockA]
          refine fpost_ret (H0 := H) rfl (by simp (disch := omega) [hc5, hc8, hc11, hc14] <;> rfl) sub_auto ?_
          refine ⟨?_, rfl⟩
          clear hK1 hK2 hK3 hK7 hK10 hK13 hK15
          subst_vars
          (try (simp [resV, shapeV])) <;> grind [ref07Instr, ref07Term, usesA, usesB, usesD, inR]
        · simp at hc14
          refine awp_skip ?_
          simp
          refine hK2 _ _ ?_
          refine awp_seq_k fun K16 hK16 => ?_
          refine awp_region (by decide) ?_   -- region 9
          refine aops_op rfl rfl rfl (by simp (disch := omega) [hc5, hc8, hc11, hc14]; rfl) ?_
          refine aops_op rfl rfl rfl (by simp (disch := omega) [hc5, hc8, hc11, hc14]; rfl) ?_
          refine aops_op rfl rfl rfl (by simp (disch := omega) [hc5, hc8, hc11, hc14]; rfl) ?_
          refine aops_store rfl rfl rfl (by simp (disch := omega) [hc5, hc8, hc11, hc14]; rfl) (by rfl) (by simp (disch := omega) [hc5, hc8, hc11, hc14]; rfl) (by simp (disch := omega) [hc5, hc8, hc11, hc14]; rfl) (by simp (disch := omega) [hc5, hc8, hc11, hc14]; rfl) (by simp (disch := omega) [hc5, hc8, hc11, hc14]; rfl) (by rfl) (by simp [] <;> omega) (by simp [setCells] <;> rfl) set_auto ?_
          refine aops_op rfl rfl rfl (by simp (disch := omega) [hc5, hc8, hc11, hc14]; rfl) ?_
          refine aops_nil ?_
          refine hK16 _ _ ?_
          refine awp_lt fun hltE => ?_
          refine awp_ret ?_
          try simp only [thenA, blockA]
          refine fpost_ret (H0 := H) rfl (by simp (disch := omega) [hc5, hc8, hc11, hc14] <;> rfl) sub_auto ?_
          refine ⟨?_, rfl⟩
          clear hK1 hK2 hK3 hK7 hK10 hK13 hK16
          subst_vars
          (try (simp [resV, shapeV])) <;> grind [ref07Instr, ref07Term, usesA, usesB, usesD, inR]

-- "regcert/regcertref07.Code"  params ['api.Func'] results ['int']
theorem ref07_Code (f : LFunc) (v : Value) (H : AHeap) (hf : SliceR H rB 5 v f.blocks) (hn : codeN f.blocks ≤ 1000000000) : ACalls Try.prog 18 #[.agg #[iv f.args, iv f.regs, v]] H fun v H' => v = iv (codeN f.blocks) ∧ H' = H := by
  obtain ⟨a, c, rfl, hc1, hc2, hrow⟩ := hf.open
  refine acallsN (rs := [.tmp 2]) 22 Try.func18 rfl (by decide) rfl rfl (by simp) fun hlt => ?_
  simp
  refine awp_seq_k fun K1 hK1 => ?_
  refine awp_region (by decide) ?_   -- region 0
  refine aops_box rfl rfl rfl (by simp (disch := omega) []; rfl) (by simp (disch := omega) []; rfl) (by simp (disch := omega) []; rfl) ?_
  intro b1 hb1; try simp only [AHeap.next_new, AHeap.next_set, next_ov, next_delV, AHeap.next_del, next_low] at hb1
  refine aops_op rfl rfl rfl (by simp (disch := omega) []; rfl) ?_
  refine aops_nil ?_
  refine hK1 _ _ ?_
  refine awp_seq_k fun K2 hK2 => ?_
  refine awp_region (by decide) ?_   -- region 1
  refine aops_op rfl rfl rfl (by simp (disch := omega) []; rfl) ?_
  refine aops_nil ?_
  refine hK2 _ _ ?_
  refine awp_seq_k fun K3 hK3 => ?_
  refine awp_seq_k fun K4 hK4 => ?_
  refine awp_region (by decide) ?_   -- region 2
  refine aops_op rfl rfl rfl (by simp (disch := omega) []; rfl) ?_
  refine aops_nil ?_
  refine hK4 _ _ ?_
  refine awp_block ?_   -- block 0
  refine awp_lt fun hlt5 => ?_
  refine awp_loop3 [3, 4, 5, 6, 7, 8, 9, 10, 11, 12, 13, 14, 15, 16, 17, 18, 19, 20] (fun i : Nat => [(3, iv (codeN (f.blocks.take i))), (4, iv i)]) (fun i H' => _ = H' ∧ (i ≤ f.blocks.length)) (fun i => f.blocks.length - i) 0 (by simp) (Sub.refl hlt5) (by exact ⟨rfl, by simp⟩) ?_   -- LOOP
  rintro i _ ⟨rfl, hinv5⟩ K5 hK5
  simp
  refine awp_seq_k fun K6 hK6 => ?_
  refine awp_seq_k fun K7 hK7 => ?_
  refine awp_region (by decide) ?_   -- region 3
  refine aops_op rfl rfl rfl (by simp (disch := omega) []; rfl) ?_
  refine aops_op rfl rfl rfl (by simp (disch := omega) []; rfl) ?_
  refine aops_op rfl rfl rfl (by simp (disch := omega) []; rfl) ?_
  refine aops_op rfl rfl rfl (by simp (disch := omega) []; rfl) ?_
  refine aops_op rfl rfl rfl (by simp (disch := omega) []; rfl) ?_
  refine aops_nil ?_
  refine hK7 _ _ ?_
  refine awp_cond rfl (fun hc8 => ?_) fun hc8 => ?_
  · simp at hc8
    refine awp_skip ?_
    simp
    refine hK6 _ _ ?_
    refine awp_seq_k fun K9 hK9 => ?_
    refine awp_block ?_   -- block 1
    obtain ⟨x, ad, v, hx, rfl, had, hN, h1, hx1⟩ := hrow.getB (i := i) (by omega)
    obtain ⟨a1, c1, rfl, hd1, hd2, hrow1⟩ := hx1.open
    obtain ⟨hr1, hr2⟩ := codeN_room hx
    refine awp_region (by decide) ?_   -- region 5
    refine aops_op rfl rfl rfl (by simp (disch := omega) [hc8, h1, hx]; rfl) ?_
    refine aops_op rfl rfl rfl (by simp (disch := omega) [hc8, h1, hx]; rfl) ?_
    refine aops_op rfl rfl rfl (by simp (disch := omega) [hc8, h1, hx]; rfl) ?_
    refine aops_op rfl rfl rfl (by simp (disch := omega) [hc8, h1, hx]; rfl) ?_
    refine aops_op rfl rfl rfl (by simp (disch := omega) [hc8, h1, hx]; rfl) ?_
    refine aops_op rfl rfl rfl (by simp (disch := omega) [hc8, h1, hx]; rfl) ?_
    refine aops_op rfl rfl rfl (by simp (disch := omega) [hc8, h1, hx]; rfl) ?_
    refine aops_op rfl rfl rfl (by simp (disch := omega) [hc8, h1, hx]; rfl) ?_
    refine aops_op rfl rfl rfl (by simp (disch := omega) [hc8, h1, hx]; rfl) ?_
    refine aops_op rfl rfl rfl (by simp (disch := omega) [hc8, h1, hx]; rfl) ?_
    refine aops_nil ?_
    refine hK9 _ _ ?_
    refine awp_region (by decide) ?_   -- region 4
    refine aops_op rfl rfl rfl (by simp (disch := omega) [hc8, h1, hx]; rfl) ?_
    refine aops_op rfl rfl rfl (by simp (disch := omega) [hc8, h1, hx]; rfl) ?_
    refine aops_op rfl rfl rfl (by simp (disch := omega) [hc8, h1, hx]; rfl) ?_
    refine aops_nil ?_
    refine hK5 _ _ ?_   -- END OF ROUND
    refine loopTo (i + 1) rfl (by simp (disch := omega) [hc8, h1, hx, codeN_take]) (by simp [hc8, h1, hx, codeN_take]) (by exact ⟨rfl, by omega⟩) sub_auto (by omega)
  · simp at hc8
    refine awp_exit ?_   -- exit 0
    simp
    refine hK3 _ _ ?_
    refine awp_seq_k fun K10 hK10 => ?_
    refine awp_region (by decide) ?_   -- region 6
    refine aops_op rfl rfl rfl (by simp (disch := omega) [hc8]; rfl) ?_
    refine aops_op rfl rfl rfl (by simp (disch := omega) [hc8]; rfl) ?_
    refine aops_nil ?_
    refine hK10 _ _ ?_
    refine awp_lt fun hltE => ?_
    refine awp_ret ?_
    try simp only [thenA, blockA]
    refine fpost_ret (H0 := H) rfl (by simp (disch := omega) [hc8] <;> rfl) sub_auto ?_
    refine ⟨?_, rfl⟩
    clear hK1 hK2 hK3 hK4 hK5 hK6 hK7 hK10
    subst_vars
    (try (simp [resV, shapeV])) <;> grind [ref07Instr, ref07Term, usesA, usesB, usesD, inR]

-- "regcert/regcertref07.Few"  params ['api.Func'] results ['bool']
theorem ref07_Few (f : LFunc) (v : Value) (H : AHeap) (hf : SliceR H rB 5 v f.blocks) : ACalls Try.prog 6 #[.agg #[iv f.args, iv f.regs, v]] H fun v H' => v = .bool (fewB f) ∧ H' = H := by
  obtain ⟨a, c, rfl, hc1, hc2, hrow⟩ := hf.open
  refine acallsN (rs := [.tmp 2]) 31 Try.func6 rfl (by decide) rfl rfl (by simp) fun hlt => ?_
  simp
  refine awp_seq_k fun K1 hK1 => ?_
  refine awp_region (by decide) ?_   -- region 0
  refine aops_box rfl rfl rfl (by simp (disch := omega) []; rfl) (by simp (disch := omega) []; rfl) (by simp (disch := omega) []; rfl) ?_
  intro b1 hb1; try simp only [AHeap.next_new, AHeap.next_set, next_ov, next_delV, AHeap.next_del, next_low] at hb1
  refine aops_op rfl rfl rfl (by simp (disch := omega) []; rfl) ?_
  refine aops_nil ?_
  refine hK1 _ _ ?_
  refine awp_seq_k fun K2 hK2 => ?_
  refine awp_seq_k fun K3 hK3 => ?_
  refine awp_region (by decide) ?_   -- region 1
  refine aops_op rfl rfl rfl (by simp (disch := omega) []; rfl) ?_
  refine aops_op rfl rfl rfl (by simp (disch := omega) []; rfl) ?_
  refine aops_op rfl rfl rfl (by simp (disch := omega) []; rfl) ?_
  refine aops_op rfl rfl rfl (by simp (disch := omega) []; rfl) ?_
  refine aops_op rfl rfl rfl (by simp (disch := omega) []; rfl) ?_
  refine aops_gen fun g8 hg8 => ?_
  refine aops_gd (b := _) (v := _) rfl rfl rfl (fun hb => by have hb' := hb; (try simp [hg8] at hb'); (try simp at hb); simp (disch := omega) [hb, hb']; rfl) ?_
  refine aops_gd (b := _) (v := _) rfl rfl rfl (fun hb => by have hb' := hb; (try simp [hg8] at hb'); (try simp at hb); simp (disch := omega) [hb, hb']; rfl) ?_
  refine aops_gd (b := _) (v := _) rfl rfl rfl (fun hb => by have hb' := hb; (try simp [hg8] at hb'); (try simp at hb); simp (disch := omega) [hb, hb']; rfl) ?_
  refine aops_op rfl rfl rfl (by simp (disch := omega) []; rfl) ?_
  refine aops_nil ?_
  refine hK3 _ _ ?_
  refine awp_cond rfl (fun hc4 => ?_) fun hc4 => ?_
  · simp at hc4
    refine awp_seq_k fun K5 hK5 => ?_
    refine awp_region (by decide) ?_   -- region 2
    refine aops_op rfl rfl rfl (by simp (disch := omega) [hc4]; rfl) ?_
    refine aops_nil ?_
    refine hK5 _ _ ?_
    refine awp_lt fun hltE => ?_
    refine awp_ret ?_
    try simp only [thenA, blockA]
    refine fpost_ret (H0 := H) rfl (by simp (disch := omega) [hc4] <;> rfl) sub_auto ?_
    refine ⟨?_, rfl⟩
    clear hK1 hK2 hK3 hK5
    subst_vars
    simp [resV]
    grind [fewB, all_false, all_end, short]
  · simp at hc4
    refine awp_skip ?_
    simp
    refine hK2 _ _ ?_
    refine awp_seq_k fun K6 hK6 => ?_
    refine awp_seq_k fun K7 hK7 => ?_
    refine awp_region (by decide) ?_   -- region 3
    refine aops_op rfl rfl rfl (by simp (disch := omega) [hc4]; rfl) ?_
    refine aops_nil ?_
    refine hK7 _ _ ?_
    refine awp_block ?_   -- block 0
    refine awp_lt fun hlt8 => ?_
    refine awp_loop3 [2, 3, 13, 14, 15, 16, 17, 18, 19, 20, 21, 22, 23, 24, 25, 26, 27] (fun i : Nat => [(3, iv i)]) (fun i H' => _ = H' ∧ (i ≤ f.blocks.length ∧ (f.blocks.take i).all short = true)) (fun i => f.blocks.length - i) 0 (by simp) (Sub.refl hlt8) (by exact ⟨rfl, by simp⟩) ?_   -- LOOP
    rintro i _ ⟨rfl, hinv8⟩ K8 hK8
    simp
    refine awp_seq_k fun K9 hK9 => ?_
    refine awp_seq_k fun K10 hK10 => ?_
    refine awp_region (by decide) ?_   -- region 4
    refine aops_op rfl rfl rfl (by simp (disch := omega) [hc4]; rfl) ?_
    refine aops_op rfl rfl rfl (by simp (disch := omega) [hc4]; rfl) ?_
    refine aops_op rfl rfl rfl (by simp (disch := omega) [hc4]; rfl) ?_
    refine aops_op rfl rfl rfl (by simp (disch := omega) [hc4]; rfl) ?_
    refine aops_op rfl rfl rfl (by simp (disch := omega) [hc4]; rfl) ?_
    refine aops_nil ?_
    refine hK10 _ _ ?_
    refine awp_cond rfl (fun hc11 => ?_) fun hc11 => ?_
    · simp at hc11
      refine awp_skip ?_
      simp
      refine hK9 _ _ ?_
      refine awp_seq_k fun K12 hK12 => ?_
      refine awp_block ?_   -- block 1
      refine awp_seq_k fun K13 hK13 => ?_
      obtain ⟨x, ad, v, hx, rfl, had, hN, h1, hx1⟩ := hrow.getB (i := i) (by omega)
      obtain ⟨a1, c1, rfl, hd1, hd2, hrow1⟩ := hx1.open
      refine awp_region (by decide) ?_   -- region 6
      refine aops_op rfl rfl rfl (by simp (disch := omega) [hc4, hc11, h1, hx]; rfl) ?_
      refine aops_op rfl rfl rfl (by simp (disch := omega) [hc4, hc11, h1, hx]; rfl) ?_
      refine aops_op rfl rfl rfl (by simp (disch := omega) [hc4, hc11, h1, hx]; rfl) ?_
      refine aops_op rfl rfl rfl (by simp (disch := omega) [hc4, hc11, h1, hx]; rfl) ?_
      refine aops_op rfl rfl rfl (by simp (disch := omega) [hc4, hc11, h1, hx]; rfl) ?_
      refine aops_op rfl rfl rfl (by simp (disch := omega) [hc4, hc11, h1, hx]; rfl) ?_
      refine aops_op rfl rfl rfl (by simp (disch := omega) [hc4, hc11, h1, hx]; rfl) ?_
      refine aops_op rfl rfl rfl (by simp (disch := omega) [hc4, hc11, h1, hx]; rfl) ?_
      refine aops_nil ?_
      refine hK13 _ _ ?_
      refine awp_cond rfl (fun hc14 => ?_) fun hc14 => ?_
      · simp at hc14
        refine awp_seq_k fun K15 hK15 => ?_
        refine awp_region (by decide) ?_   -- region 7
        refine aops_op rfl rfl rfl (by simp (disch := omega) [hc4, hc11, h1, hx, hc14]; rfl) ?_
        refine aops_nil ?_
        refine hK15 _ _ ?_
        refine awp_lt fun hltE => ?_
        refine awp_ret ?_
        try simp only [thenA, blockA]
        refine fpost_ret (H0 := H) rfl (by simp (disch := omega) [hc4, hc11, h1, hx, hc14] <;> rfl) sub_auto ?_
        refine ⟨?_, rfl⟩
        clear hK1 hK2 hK3 hK6 hK7 hK8 hK9 hK10 hK12 hK13 hK15
        subst_vars
        simp [resV]
        grind [fewB, all_false, all_end, short]
      · simp at hc14
        refine awp_skip ?_
        simp
        refine hK12 _ _ ?_
        refine awp_region (by decide) ?_   -- region 5
        refine aops_op rfl rfl rfl (by simp (disch := omega) [hc4, hc11, h1, hx, hc14]; rfl) ?_
        refine aops_op rfl rfl rfl (by simp (disch := omega) [hc4, hc11, h1, hx, hc14]; rfl) ?_
        refine aops_op rfl rfl rfl (by simp (disch := omega) [hc4, hc11, h1, hx, hc14]; rfl) ?_
        refine aops_nil ?_
        refine hK8 _ _ ?_   -- END OF ROUND
        refine loopTo (i + 1) rfl (by simp (disch := omega) [hc4, hc11, h1, hx, hc14]) (by simp [hc4, hc11, h1, hx, hc14]) (by exact ⟨rfl, by omega, by rw [all_take_succ hx]; simp [hinv8.2, short]; omega⟩) sub_auto (by omega)
    · simp at hc11
      refine awp_exit ?_   -- exit 0
      simp
      refine hK6 _ _ ?_
      refine awp_seq_k fun K16 hK16 => ?_
      refine awp_region (by decide) ?_   -- region 8
      refine aops_op rfl rfl rfl (by simp (disch := omega) [hc4, hc11]; rfl) ?_
      refine aops_callP (u := ?pu17) rfl rfl rfl rfl (by simp (disch := omega) [hc4, hc11]; rfl) ?pk17 ?ph17
      case pk17 =>
        refine ref07_Code f _ _ ?_ (by have := codeN_short _ (all_end hinv8.2 (by omega)); grind)
        · exact hf.sub rB_ok sub_auto
      refine aops_op rfl rfl rfl (by simp (disch := omega) [hc4, hc11]; rfl) ?_
      refine aops_op rfl rfl rfl (by simp (disch := omega) [hc4, hc11]; rfl) ?_
      refine aops_nil ?_
      refine hK16 _ _ ?_
      refine awp_lt fun hltE => ?_
      refine awp_ret ?_
      try simp only [thenA, blockA]
      refine fpost_ret (H0 := H) rfl (by simp (disch := omega) [hc4, hc11] <;> rfl) sub_auto ?_
      refine ⟨?_, rfl⟩
      clear hK1 hK2 hK3 hK6 hK7 hK8 hK9 hK10 hK16
      subst_vars
      simp [resV]
      grind [fewB, all_false, all_end, short]

-- "regcert/source.Code"  params ['api.Func'] results ['int']
theorem src_Code (f : LFunc) (v : Value) (H : AHeap) (hf : SliceR H rB 5 v f.blocks) (hn : codeN f.blocks ≤ 1000000000) : ACalls Try.prog 35 #[.agg #[iv f.args, iv f.regs, v]] H fun v H' => v = iv (codeN f.blocks) ∧ H' = H := by
  obtain ⟨a, c, rfl, hc1, hc2, hrow⟩ := hf.open
  refine acallsN (rs := [.tmp 2]) 20 Try.func35 rfl (by decide) rfl rfl (by simp) fun hlt => ?_
  simp
  refine awp_seq_k fun K1 hK1 => ?_
  refine awp_region (by decide) ?_   -- region 0
  refine aops_box rfl rfl rfl (by simp (disch := omega) []; rfl) (by simp (disch := omega) []; rfl) (by simp (disch := omega) []; rfl) ?_
  intro b1 hb1; try simp only [AHeap.next_new, AHeap.next_set, next_ov, next_delV, AHeap.next_del, next_low] at hb1
  refine aops_op rfl rfl rfl (by simp (disch := omega) []; rfl) ?_
  refine aops_nil ?_
  refine hK1 _ _ ?_
  refine awp_seq_k fun K2 hK2 => ?_
  refine awp_region (by decide) ?_   -- region 1
  refine aops_op rfl rfl rfl (by simp (disch := omega) []; rfl) ?_
  refine aops_nil ?_
  refine hK2 _ _ ?_
  refine awp_seq_k fun K3 hK3 => ?_
  refine awp_seq_k fun K4 hK4 => ?_
  refine awp_region (by decide) ?_   -- region 2
  refine aops_op rfl rfl rfl (by simp (disch := omega) []; rfl) ?_
  refine aops_op rfl rfl rfl (by simp (disch := omega) []; rfl) ?_
  refine aops_op rfl rfl rfl (by simp (disch := omega) []; rfl) ?_
  refine aops_op rfl rfl rfl (by simp (disch := omega) []; rfl) ?_
  refine aops_nil ?_
  refine hK4 _ _ ?_
  refine awp_block ?_   -- block 0
  refine awp_lt fun hlt5 => ?_
  refine awp_loop3 [3, 5, 9, 10, 11, 12, 13, 14, 15, 16, 17, 18] (fun i : Nat => [(3, iv (codeN (f.blocks.take i))), (9, iv i)]) (fun i H' => _ = H' ∧ (i ≤ f.blocks.length)) (fun i => f.blocks.length - i) 0 (by simp) (Sub.refl hlt5) (by exact ⟨rfl, by simp⟩) ?_   -- LOOP
  rintro i _ ⟨rfl, hinv5⟩ K5 hK5
  simp
  refine awp_seq_k fun K6 hK6 => ?_
  refine awp_region (by decide) ?_   -- region 3
  refine aops_op rfl rfl rfl (by simp (disch := omega) []; rfl) ?_
  refine aops_nil ?_
  refine hK6 _ _ ?_
  refine awp_seq_k fun K7 hK7 => ?_
  refine awp_cond rfl (fun hc8 => ?_) fun hc8 => ?_
  · simp at hc8
    refine awp_skip ?_
    simp
    refine hK7 _ _ ?_
    refine awp_seq_k fun K9 hK9 => ?_
    refine awp_block ?_   -- block 1
    refine awp_seq_k fun K10 hK10 => ?_
    obtain ⟨x, ad, v, hx, rfl, had, hN, h1, hx1⟩ := hrow.getB (i := i) (by omega)
    obtain ⟨a1, c1, rfl, hd1, hd2, hrow1⟩ := hx1.open
    simp only [encT] at hN
    obtain ⟨hr1, hr2⟩ := codeN_room hx
    refine awp_region (by decide) ?_   -- region 4
    refine aops_op rfl rfl rfl (by simp (disch := omega) [hc8, hN, h1, hx]; rfl) ?_
    refine aops_op rfl rfl rfl (by simp (disch := omega) [hc8, hN, h1, hx]; rfl) ?_
    refine aops_alloc rfl rfl rfl (by simp (disch := omega) [hc8, hN, h1, hx]; rfl) (by simp (disch := omega) [hc8, hN, h1, hx]; rfl) ?_
    intro b5 hb5; try simp only [AHeap.next_new, AHeap.next_set, next_ov, next_delV, AHeap.next_del, next_low] at hb5
    refine aops_store rfl rfl rfl (by simp (disch := omega) [hc8, hN, h1, hx]; rfl) (by rfl) (by simp (disch := omega) [hc8, hN, h1, hx]; rfl) (by simp (disch := omega) [hc8, hN, h1, hx]; rfl) (by simp (disch := omega) [hc8, hN, h1, hx]; rfl) (by simp (disch := omega) [hc8, hN, h1, hx]; rfl) (by rfl) (by simp [] <;> omega) (by simp [setCells] <;> rfl) set_auto ?_
    refine aops_nil ?_
    refine hK10 _ _ ?_
    refine awp_region (by decide) ?_   -- region 5
    refine aops_op rfl rfl rfl (by simp (disch := omega) [hc8, hN, h1, hx]; rfl) ?_
    refine aops_op rfl rfl rfl (by simp (disch := omega) [hc8, hN, h1, hx]; rfl) ?_
    refine aops_op rfl rfl rfl (by simp (disch := omega) [hc8, hN, h1, hx]; rfl) ?_
    refine aops_op rfl rfl rfl (by simp (disch := omega) [hc8, hN, h1, hx]; rfl) ?_
    refine aops_op rfl rfl rfl (by simp (disch := omega) [hc8, hN, h1, hx]; rfl) ?_
    refine aops_op rfl rfl rfl (by simp (disch := omega) [hc8, hN, h1, hx]; rfl) ?_
    refine aops_nil ?_
    refine hK9 _ _ ?_
    refine awp_region (by decide) ?_   -- region 6
    refine aops_op rfl rfl rfl (by simp (disch := omega) [hc8, hN, h1, hx]; rfl) ?_
    refine aops_op rfl rfl rfl (by simp (disch := omega) [hc8, hN, h1, hx]; rfl) ?_
    refine aops_nil ?_
    refine hK5 _ _ ?_   -- END OF ROUND
    refine loopTo (i + 1) rfl (by simp (disch := omega) [hc8, hN, h1, hx, codeN_take]) (by simp [hc8, hN, h1, hx, codeN_take]) (by exact ⟨rfl, by omega⟩) sub_auto (by omega)
  · simp at hc8
    refine awp_exit ?_   -- exit 0
    simp
    refine hK3 _ _ ?_
    refine awp_seq_k fun K11 hK11 => ?_
    refine awp_region (by decide) ?_   -- region 7
    refine aops_op rfl rfl rfl (by simp (disch := omega) [hc8]; rfl) ?_
    refine aops_op rfl rfl rfl (by simp (disch := omega) [hc8]; rfl) ?_
    refine aops_nil ?_
    refine hK11 _ _ ?_
    refine awp_lt fun hltE => ?_
    refine awp_ret ?_
    try simp only [thenA, blockA]
    refine fpost_ret (H0 := H) rfl (by simp (disch := omega) [hc8] <;> rfl) sub_auto ?_
    refine ⟨?_, rfl⟩
    clear hK1 hK2 hK3 hK4 hK5 hK6 hK7 hK11
    subst_vars
    (try (simp [resV, shapeV])) <;> grind [ref07Instr, ref07Term, usesA, usesB, usesD, inR]

-- "regcert/regcertref08.Code"  params ['api.MFunc'] results ['int']
theorem ref08_Code (f : LMFunc) (v : Value) (H : AHeap) (hf : SliceR H rMB 5 v f.blocks) (hn : codeM f.blocks ≤ 1000000000) : ACalls Try.prog 25 #[.agg #[iv f.args, iv f.regs, iv f.slots, v]] H fun v H' => v = iv (codeM f.blocks) ∧ H' = H := by
  obtain ⟨a, c, rfl, hc1, hc2, hrow⟩ := hf.open
  refine acallsN (rs := [.tmp 2]) 22 Try.func25 rfl (by decide) rfl rfl (by simp) fun hlt => ?_
  simp
  refine awp_seq_k fun K1 hK1 => ?_
  refine awp_region (by decide) ?_   -- region 0
  refine aops_box rfl rfl rfl (by simp (disch := omega) []; rfl) (by simp (disch := omega) []; rfl) (by simp (disch := omega) []; rfl) ?_
  intro b1 hb1; try simp only [AHeap.next_new, AHeap.next_set, next_ov, next_delV, AHeap.next_del, next_low] at hb1
  refine aops_op rfl rfl rfl (by simp (disch := omega) []; rfl) ?_
  refine aops_nil ?_
  refine hK1 _ _ ?_
  refine awp_seq_k fun K2 hK2 => ?_
  refine awp_region (by decide) ?_   -- region 1
  refine aops_op rfl rfl rfl (by simp (disch := omega) []; rfl) ?_
  refine aops_nil ?_
  refine hK2 _ _ ?_
  refine awp_seq_k fun K3 hK3 => ?_
  refine awp_seq_k fun K4 hK4 => ?_
  refine awp_region (by decide) ?_   -- region 2
  refine aops_op rfl rfl rfl (by simp (disch := omega) []; rfl) ?_
  refine aops_nil ?_
  refine hK4 _ _ ?_
  refine awp_block ?_   -- block 0
  refine awp_lt fun hlt5 => ?_
  refine awp_loop3 [3, 4, 5, 6, 7, 8, 9, 10, 11, 12, 13, 14, 15, 16, 17, 18, 19, 20] (fun i : Nat => [(3, iv (codeM (f.blocks.take i))), (4, iv i)]) (fun i H' => _ = H' ∧ (i ≤ f.blocks.length)) (fun i => f.blocks.length - i) 0 (by simp) (Sub.refl hlt5) (by exact ⟨rfl, by simp⟩) ?_   -- LOOP
  rintro i _ ⟨rfl, hinv5⟩ K5 hK5
  simp
  refine awp_seq_k fun K6 hK6 => ?_
  refine awp_seq_k fun K7 hK7 => ?_
  refine awp_region (by decide) ?_   -- region 3
  refine aops_op rfl rfl rfl (by simp (disch := omega) []; rfl) ?_
  refine aops_op rfl rfl rfl (by simp (disch := omega) []; rfl) ?_
  refine aops_op rfl rfl rfl (by simp (disch := omega) []; rfl) ?_
  refine aops_op rfl rfl rfl (by simp (disch := omega) []; rfl) ?_
  refine aops_op rfl rfl rfl (by simp (disch := omega) []; rfl) ?_
  refine aops_nil ?_
  refine hK7 _ _ ?_
  refine awp_cond rfl (fun hc8 => ?_) fun hc8 => ?_
  · simp at hc8
    refine awp_skip ?_
    simp
    refine hK6 _ _ ?_
    refine awp_seq_k fun K9 hK9 => ?_
    refine awp_block ?_   -- block 1
    obtain ⟨x, ad, v, hx, rfl, had, hN, h1, hx1⟩ := hrow.getMB (i := i) (by omega)
    obtain ⟨a1, c1, rfl, hd1, hd2, hrow1⟩ := hx1.open
    obtain ⟨hr1, hr2⟩ := codeM_room hx
    refine awp_region (by decide) ?_   -- region 5
    refine aops_op rfl rfl rfl (by simp (disch := omega) [hc8, h1, hx]; rfl) ?_
    refine aops_op rfl rfl rfl (by simp (disch := omega) [hc8, h1, hx]; rfl) ?_
    refine aops_op rfl rfl rfl (by simp (disch := omega) [hc8, h1, hx]; rfl) ?_
    refine aops_op rfl rfl rfl (by simp (disch := omega) [hc8, h1, hx]; rfl) ?_
    refine aops_op rfl rfl rfl (by simp (disch := omega) [hc8, h1, hx]; rfl) ?_
    refine aops_op rfl rfl rfl (by simp (disch := omega) [hc8, h1, hx]; rfl) ?_
    refine aops_op rfl rfl rfl (by simp (disch := omega) [hc8, h1, hx]; rfl) ?_
    refine aops_op rfl rfl rfl (by simp (disch := omega) [hc8, h1, hx]; rfl) ?_
    refine aops_op rfl rfl rfl (by simp (disch := omega) [hc8, h1, hx]; rfl) ?_
    refine aops_op rfl rfl rfl (by simp (disch := omega) [hc8, h1, hx]; rfl) ?_
    refine aops_nil ?_
    refine hK9 _ _ ?_
    refine awp_region (by decide) ?_   -- region 4
    refine aops_op rfl rfl rfl (by simp (disch := omega) [hc8, h1, hx]; rfl) ?_
    refine aops_op rfl rfl rfl (by simp (disch := omega) [hc8, h1, hx]; rfl) ?_
    refine aops_op rfl rfl rfl (by simp (disch := omega) [hc8, h1, hx]; rfl) ?_
    refine aops_nil ?_
    refine hK5 _ _ ?_   -- END OF ROUND
    refine loopTo (i + 1) rfl (by simp (disch := omega) [hc8, h1, hx, codeM_take]) (by simp [hc8, h1, hx, codeM_take]) (by exact ⟨rfl, by omega⟩) sub_auto (by omega)
  · simp at hc8
    refine awp_exit ?_   -- exit 0
    simp
    refine hK3 _ _ ?_
    refine awp_seq_k fun K10 hK10 => ?_
    refine awp_region (by decide) ?_   -- region 6
    refine aops_op rfl rfl rfl (by simp (disch := omega) [hc8]; rfl) ?_
    refine aops_op rfl rfl rfl (by simp (disch := omega) [hc8]; rfl) ?_
    refine aops_nil ?_
    refine hK10 _ _ ?_
    refine awp_lt fun hltE => ?_
    refine awp_ret ?_
    try simp only [thenA, blockA]
    refine fpost_ret (H0 := H) rfl (by simp (disch := omega) [hc8] <;> rfl) sub_auto ?_
    refine ⟨?_, rfl⟩
    clear hK1 hK2 hK3 hK4 hK5 hK6 hK7 hK10
    subst_vars
    (try (simp [resV, shapeV])) <;> grind [ref07Instr, ref07Term, usesA, usesB, usesD, inR]

-- "regcert/regcertref11.Same"  params ['[]api.Pair', '[]api.Pair'] results ['bool']
theorem ref11_Same (xs ys : List LPair) (v w : Value) (H : AHeap) (hf : SliceR H (flat encP) 2 v xs) (hg : SliceR H (flat encP) 2 w ys) : ACalls Try.prog 44 #[v, w] H fun v H' => v = .bool (decide (xs = ys)) ∧ H' = H := by
  obtain ⟨a, c, rfl, hc1, hc2, hrow⟩ := hf.open
  obtain ⟨a', c', rfl, hd1, hd2, hrow'⟩ := hg.open
  refine acallsN (rs := [.tmp 4]) 26 Try.func44 rfl (by decide) rfl rfl (by simp) fun hlt => ?_
  simp
  refine awp_seq_k fun K1 hK1 => ?_
  refine awp_region (by decide) ?_   -- region 0
  refine aops_op rfl rfl rfl (by simp (disch := omega) []; rfl) ?_
  refine aops_nil ?_
  refine hK1 _ _ ?_
  refine awp_seq_k fun K2 hK2 => ?_
  refine awp_seq_k fun K3 hK3 => ?_
  refine awp_region (by decide) ?_   -- region 1
  refine aops_op rfl rfl rfl (by simp (disch := omega) []; rfl) ?_
  refine aops_op rfl rfl rfl (by simp (disch := omega) []; rfl) ?_
  refine aops_op rfl rfl rfl (by simp (disch := omega) []; rfl) ?_
  refine aops_op rfl rfl rfl (by simp (disch := omega) []; rfl) ?_
  refine aops_op rfl rfl rfl (by simp (disch := omega) []; rfl) ?_
  refine aops_nil ?_
  refine hK3 _ _ ?_
  refine awp_cond rfl (fun hc4 => ?_) fun hc4 => ?_
  · simp at hc4
    refine awp_seq_k fun K5 hK5 => ?_
    refine awp_region (by decide) ?_   -- region 2
    refine aops_op rfl rfl rfl (by simp (disch := omega) [hc4]; rfl) ?_
    refine aops_nil ?_
    refine hK5 _ _ ?_
    refine awp_lt fun hltE => ?_
    refine awp_ret ?_
    try simp only [thenA, blockA]
    refine fpost_ret (H0 := H) rfl (by simp (disch := omega) [hc4] <;> rfl) sub_auto ?_
    refine ⟨?_, rfl⟩
    clear hK1 hK2 hK3 hK5
    subst_vars
    simp [resV]
    grind [list_ne, take_end]
  · simp at hc4
    refine awp_skip ?_
    simp
    refine hK2 _ _ ?_
    refine awp_seq_k fun K6 hK6 => ?_
    refine awp_seq_k fun K7 hK7 => ?_
    refine awp_region (by decide) ?_   -- region 3
    refine aops_op rfl rfl rfl (by simp (disch := omega) [hc4]; rfl) ?_
    refine aops_nil ?_
    refine hK7 _ _ ?_
    refine awp_block ?_   -- block 0
    refine awp_lt fun hlt8 => ?_
    refine awp_loop3 [4, 5, 11, 12, 13, 14, 15, 16, 17, 18, 19, 20, 21, 22, 23, 24, 25] (fun i : Nat => [(5, iv i)]) (fun i H' => _ = H' ∧ (i ≤ xs.length ∧ xs.take i = ys.take i)) (fun i => xs.length - i) 0 (by simp) (Sub.refl hlt8) (by exact ⟨rfl, by simp⟩) ?_   -- LOOP
    rintro i _ ⟨rfl, hinv8⟩ K8 hK8
    simp
    refine awp_seq_k fun K9 hK9 => ?_
    refine awp_seq_k fun K10 hK10 => ?_
    refine awp_region (by decide) ?_   -- region 4
    refine aops_op rfl rfl rfl (by simp (disch := omega) [hc4]; rfl) ?_
    refine aops_op rfl rfl rfl (by simp (disch := omega) [hc4]; rfl) ?_
    refine aops_op rfl rfl rfl (by simp (disch := omega) [hc4]; rfl) ?_
    refine aops_op rfl rfl rfl (by simp (disch := omega) [hc4]; rfl) ?_
    refine aops_nil ?_
    refine hK10 _ _ ?_
    refine awp_cond rfl (fun hc11 => ?_) fun hc11 => ?_
    · simp at hc11
      refine awp_skip ?_
      simp
      refine hK9 _ _ ?_
      refine awp_seq_k fun K12 hK12 => ?_
      refine awp_block ?_   -- block 1
      refine awp_seq_k fun K13 hK13 => ?_
      obtain ⟨x, ad, hx, rfl, had, hN⟩ := hrow.getF (i := i) (by omega)
      obtain ⟨y, ad', hy, rfl, had', hN'⟩ := hrow'.getF (i := i) (by omega)
      simp only [encP] at hN hN'
      refine awp_draw_pure mixed (by kernel_rfl) (by decide) ?_   -- region 6
      refine aops_op rfl rfl rfl (by simp (disch := omega) [hc4, hc11, hN, hN']; rfl) ?_
      refine aops_op rfl rfl rfl (by simp (disch := omega) [hc4, hc11, hN, hN']; rfl) ?_
      refine aops_op rfl rfl rfl (by simp (disch := omega) [hc4, hc11, hN, hN']; rfl) ?_
      refine aops_op rfl rfl rfl (by simp (disch := omega) [hc4, hc11, hN, hN']; rfl) ?_
      refine aops_op rfl rfl rfl (by simp (disch := omega) [hc4, hc11, hN, hN']; rfl) ?_
      refine aops_op rfl rfl rfl (by simp (disch := omega) [hc4, hc11, hN, hN']; rfl) ?_
      refine aops_op rfl rfl rfl (by simp (disch := omega) [hc4, hc11, hN, hN']; rfl) ?_
      refine aops_op rfl rfl rfl (by simp (disch := omega) [hc4, hc11, hN, hN']; rfl) ?_
      refine aops_op rfl rfl rfl (by simp (disch := omega) [hc4, hc11, hN, hN']; rfl) ?_
      refine aops_nil ?_
      refine hK13 _ _ ?_
      refine awp_cond rfl (fun hc14 => ?_) fun hc14 => ?_
      · simp at hc14
        refine awp_seq_k fun K15 hK15 => ?_
        refine awp_region (by decide) ?_   -- region 7
        refine aops_op rfl rfl rfl (by simp (disch := omega) [hc4, hc11, hN, hN', hc14]; rfl) ?_
        refine aops_nil ?_
        refine hK15 _ _ ?_
        refine awp_lt fun hltE => ?_
        refine awp_ret ?_
        try simp only [thenA, blockA]
        refine fpost_ret (H0 := H) rfl (by simp (disch := omega) [hc4, hc11, hN, hN', hc14] <;> rfl) sub_auto ?_
        refine ⟨?_, rfl⟩
        clear hK1 hK2 hK3 hK6 hK7 hK8 hK9 hK10 hK12 hK13 hK15
        subst_vars
        simp [resV]
        grind [list_ne, take_end]
      · simp at hc14
        refine awp_skip ?_
        simp
        refine hK12 _ _ ?_
        refine awp_region (by decide) ?_   -- region 5
        refine aops_op rfl rfl rfl (by simp (disch := omega) [hc4, hc11, hN, hN', hc14]; rfl) ?_
        refine aops_op rfl rfl rfl (by simp (disch := omega) [hc4, hc11, hN, hN', hc14]; rfl) ?_
        refine aops_op rfl rfl rfl (by simp (disch := omega) [hc4, hc11, hN, hN', hc14]; rfl) ?_
        refine aops_nil ?_
        refine hK8 _ _ ?_   -- END OF ROUND
        refine loopTo (i + 1) rfl (by simp (disch := omega) [hc4, hc11, hN, hN', hc14]) (by simp [hc4, hc11, hN, hN', hc14]) (by exact ⟨rfl, by omega, take_succ_eq hx hy hinv8.2 (LPair.ext2 (by assumption))⟩) sub_auto (by omega)
    · simp at hc11
      refine awp_exit ?_   -- exit 0
      simp
      refine hK6 _ _ ?_
      refine awp_seq_k fun K16 hK16 => ?_
      refine awp_region (by decide) ?_   -- region 8
      refine aops_op rfl rfl rfl (by simp (disch := omega) [hc4, hc11]; rfl) ?_
      refine aops_nil ?_
      refine hK16 _ _ ?_
      refine awp_lt fun hltE => ?_
      refine awp_ret ?_
      try simp only [thenA, blockA]
      refine fpost_ret (H0 := H) rfl (by simp (disch := omega) [hc4, hc11] <;> rfl) sub_auto ?_
      refine ⟨?_, rfl⟩
      clear hK1 hK2 hK3 hK6 hK7 hK8 hK9 hK10 hK16
      subst_vars
      simp [resV]
      grind [list_ne, take_end]

-- "regcert/regcertref15.Same"  params ['[][]api.Pair', '[][]api.Pair'] results ['bool']
theorem ref15_Same (xs ys : List (List LPair)) (v w : Value) (H : AHeap) (hf : SliceR H (rS (flat encP) 2) 1 v xs) (hg : SliceR H (rS (flat encP) 2) 1 w ys) : ACalls Try.prog 27 #[v, w] H fun v H' => v = .bool (decide (xs = ys)) ∧ H' = H := by
  obtain ⟨a, c, rfl, hc1, hc2, hrow⟩ := hf.open
  obtain ⟨a', c', rfl, hd1, hd2, hrow'⟩ := hg.open
  refine acallsN (rs := [.tmp 4]) 27 Try.func27 rfl (by decide) rfl rfl (by simp) fun hlt => ?_
  simp
  refine awp_seq_k fun K1 hK1 => ?_
  refine awp_region (by decide) ?_   -- region 0
  refine aops_op rfl rfl rfl (by simp (disch := omega) []; rfl) ?_
  refine aops_nil ?_
  refine hK1 _ _ ?_
  refine awp_seq_k fun K2 hK2 => ?_
  refine awp_seq_k fun K3 hK3 => ?_
  refine awp_region (by decide) ?_   -- region 1
  refine aops_op rfl rfl rfl (by simp (disch := omega) []; rfl) ?_
  refine aops_op rfl rfl rfl (by simp (disch := omega) []; rfl) ?_
  refine aops_op rfl rfl rfl (by simp (disch := omega) []; rfl) ?_
  refine aops_op rfl rfl rfl (by simp (disch := omega) []; rfl) ?_
  refine aops_op rfl rfl rfl (by simp (disch := omega) []; rfl) ?_
  refine aops_nil ?_
  refine hK3 _ _ ?_
  refine awp_cond rfl (fun hc4 => ?_) fun hc4 => ?_
  · simp at hc4
    refine awp_seq_k fun K5 hK5 => ?_
    refine awp_region (by decide) ?_   -- region 2
    refine aops_op rfl rfl rfl (by simp (disch := omega) [hc4]; rfl) ?_
    refine aops_nil ?_
    refine hK5 _ _ ?_
    refine awp_lt fun hltE => ?_
    refine awp_ret ?_
    try simp only [thenA, blockA]
    refine fpost_ret (H0 := H) rfl (by simp (disch := omega) [hc4] <;> rfl) sub_auto ?_
    refine ⟨?_, rfl⟩
    clear hK1 hK2 hK3 hK5
    subst_vars
    simp [resV]
    grind [list_ne, take_end]
  · simp at hc4
    refine awp_skip ?_
    simp
    refine hK2 _ _ ?_
    refine awp_seq_k fun K6 hK6 => ?_
    refine awp_seq_k fun K7 hK7 => ?_
    refine awp_region (by decide) ?_   -- region 3
    refine aops_op rfl rfl rfl (by simp (disch := omega) [hc4]; rfl) ?_
    refine aops_nil ?_
    refine hK7 _ _ ?_
    refine awp_block ?_   -- block 0
    refine awp_lt fun hlt8 => ?_
    refine awp_loop3 [4, 5, 11, 12, 13, 14, 15, 16, 17, 18, 19, 20, 21, 22, 23, 24, 25, 26] (fun i : Nat => [(5, iv i)]) (fun i H' => _ = H' ∧ (i ≤ xs.length ∧ xs.take i = ys.take i)) (fun i => xs.length - i) 0 (by simp) (Sub.refl hlt8) (by exact ⟨rfl, by simp⟩) ?_   -- LOOP
    rintro i _ ⟨rfl, hinv8⟩ K8 hK8
    simp
    refine awp_seq_k fun K9 hK9 => ?_
    refine awp_seq_k fun K10 hK10 => ?_
    refine awp_region (by decide) ?_   -- region 4
    refine aops_op rfl rfl rfl (by simp (disch := omega) [hc4]; rfl) ?_
    refine aops_op rfl rfl rfl (by simp (disch := omega) [hc4]; rfl) ?_
    refine aops_op rfl rfl rfl (by simp (disch := omega) [hc4]; rfl) ?_
    refine aops_op rfl rfl rfl (by simp (disch := omega) [hc4]; rfl) ?_
    refine aops_nil ?_
    refine hK10 _ _ ?_
    refine awp_cond rfl (fun hc11 => ?_) fun hc11 => ?_
    · simp at hc11
      refine awp_skip ?_
      simp
      refine hK9 _ _ ?_
      refine awp_seq_k fun K12 hK12 => ?_
      refine awp_block ?_   -- block 1
      refine awp_seq_k fun K13 hK13 => ?_
      obtain ⟨x, ad, u, hx, rfl, had, hN, hx1⟩ := hrow.getS (i := i) (by omega)
      obtain ⟨y, ad', u', hy, rfl, had', hN', hy1⟩ := hrow'.getS (i := i) (by omega)
      refine awp_draw mixed [0, 1, 2, 3, 4, 5, 6, 7, 8, 9] (by kernel_rfl) ?_   -- region 6
      refine awd_op rfl rfl rfl rfl rfl (by simp (disch := omega) [hc4, hc11, hN, hN']; rfl) ?_
      refine awd_op rfl rfl rfl rfl rfl (by simp (disch := omega) [hc4, hc11, hN, hN']; rfl) ?_
      refine awd_op rfl rfl rfl rfl rfl (by simp (disch := omega) [hc4, hc11, hN, hN']; rfl) ?_
      refine awd_ld rfl rfl rfl rfl rfl (by simp (disch := omega) [hc4, hc11, hN, hN']; rfl) ?_
      refine awd_op rfl rfl rfl rfl rfl (by simp (disch := omega) [hc4, hc11, hN, hN']; rfl) ?_
      refine awd_op rfl rfl rfl rfl rfl (by simp (disch := omega) [hc4, hc11, hN, hN']; rfl) ?_
      refine awd_op rfl rfl rfl rfl rfl (by simp (disch := omega) [hc4, hc11, hN, hN']; rfl) ?_
      refine awd_ld rfl rfl rfl rfl rfl (by simp (disch := omega) [hc4, hc11, hN, hN']; rfl) ?_
      refine awd_callP (u := ?pu14) rfl rfl rfl rfl rfl rfl (by simp (disch := omega) [Wt, hc4, hc11, hN, hN']) (by simp (disch := omega) [hc4, hc11, hN, hN']; rfl) ?pk14 ?ph14
      case pk14 =>
        exact ref11_Same x y u u' _ hx1 hy1
      refine awd_op rfl rfl rfl rfl rfl (by simp (disch := omega) [hc4, hc11, hN, hN']; rfl) ?_
      refine awd_nil ?_
      refine hK13 _ _ ?_
      refine awp_cond rfl (fun hc15 => ?_) fun hc15 => ?_
      · simp at hc15
        refine awp_seq_k fun K16 hK16 => ?_
        refine awp_region (by decide) ?_   -- region 7
        refine aops_op rfl rfl rfl (by simp (disch := omega) [hc4, hc11, hN, hN', hc15]; rfl) ?_
        refine aops_nil ?_
        refine hK16 _ _ ?_
        refine awp_lt fun hltE => ?_
        refine awp_ret ?_
        try simp only [thenA, blockA]
        refine fpost_ret (H0 := H) rfl (by simp (disch := omega) [hc4, hc11, hN, hN', hc15] <;> rfl) sub_auto ?_
        refine ⟨?_, rfl⟩
        clear hK1 hK2 hK3 hK6 hK7 hK8 hK9 hK10 hK12 hK13 hK16
        subst_vars
        simp [resV]
        grind [list_ne, take_end]
      · simp at hc15
        refine awp_skip ?_
        simp
        refine hK12 _ _ ?_
        refine awp_region (by decide) ?_   -- region 5
        refine aops_op rfl rfl rfl (by simp (disch := omega) [hc4, hc11, hN, hN', hc15]; rfl) ?_
        refine aops_op rfl rfl rfl (by simp (disch := omega) [hc4, hc11, hN, hN', hc15]; rfl) ?_
        refine aops_op rfl rfl rfl (by simp (disch := omega) [hc4, hc11, hN, hN', hc15]; rfl) ?_
        refine aops_nil ?_
        refine hK8 _ _ ?_   -- END OF ROUND
        refine loopTo (i + 1) rfl (by simp (disch := omega) [hc4, hc11, hN, hN', hc15]) (by simp [hc4, hc11, hN, hN', hc15]) (by exact ⟨rfl, by omega, take_succ_eq hx hy hinv8.2 (by simpa using ‹_›)⟩) sub_auto (by omega)
    · simp at hc11
      refine awp_exit ?_   -- exit 0
      simp
      refine hK6 _ _ ?_
      refine awp_seq_k fun K17 hK17 => ?_
      refine awp_region (by decide) ?_   -- region 8
      refine aops_op rfl rfl rfl (by simp (disch := omega) [hc4, hc11]; rfl) ?_
      refine aops_nil ?_
      refine hK17 _ _ ?_
      refine awp_lt fun hltE => ?_
      refine awp_ret ?_
      try simp only [thenA, blockA]
      refine fpost_ret (H0 := H) rfl (by simp (disch := omega) [hc4, hc11] <;> rfl) sub_auto ?_
      refine ⟨?_, rfl⟩
      clear hK1 hK2 hK3 hK6 hK7 hK8 hK9 hK10 hK17
      subst_vars
      simp [resV]
      grind [list_ne, take_end]

-- "regcert/regcertref07.Same"  params ['api.Func', 'api.Func'] results ['bool']
theorem ref07_Same (f g : LFunc) (v w : Value) (H : AHeap) (hf : SliceR H rB 5 v f.blocks) (hg : SliceR H rB 5 w g.blocks) : ACalls Try.prog 10 #[.agg #[iv f.args, iv f.regs, v], .agg #[iv g.args, iv g.regs, w]] H fun v H' => v = .bool (decide (f = g)) ∧ H' = H := by
  obtain ⟨a, c, rfl, hc1, hc2, hrow⟩ := hf.open
  obtain ⟨a', c', rfl, hd1, hd2, hrow'⟩ := hg.open
  refine acallsN (rs := [.tmp 4]) 95 Try.func10 rfl (by decide) rfl rfl (by simp) fun hlt => ?_
  simp
  refine awp_seq_k fun K1 hK1 => ?_
  refine awp_region (by decide) ?_   -- region 0
  refine aops_box rfl rfl rfl (by simp (disch := omega) []; rfl) (by simp (disch := omega) []; rfl) (by simp (disch := omega) []; rfl) ?_
  intro b2 hb2; try simp only [AHeap.next_new, AHeap.next_set, next_ov, next_delV, AHeap.next_del, next_low] at hb2
  refine aops_box rfl rfl rfl (by simp (disch := omega) []; rfl) (by simp (disch := omega) []; rfl) (by simp (disch := omega) []; rfl) ?_
  intro b3 hb3; try simp only [AHeap.next_new, AHeap.next_set, next_ov, next_delV, AHeap.next_del, next_low] at hb3
  refine aops_op rfl rfl rfl (by simp (disch := omega) []; rfl) ?_
  refine aops_nil ?_
  refine hK1 _ _ ?_
  refine awp_seq_k fun K2 hK2 => ?_
  refine awp_seq_k fun K3 hK3 => ?_
  refine awp_region (by decide) ?_   -- region 1
  refine aops_op rfl rfl rfl (by simp (disch := omega) []; rfl) ?_
  refine aops_op rfl rfl rfl (by simp (disch := omega) []; rfl) ?_
  refine aops_op rfl rfl rfl (by simp (disch := omega) []; rfl) ?_
  refine aops_op rfl rfl rfl (by simp (disch := omega) []; rfl) ?_
  refine aops_op rfl rfl rfl (by simp (disch := omega) []; rfl) ?_
  refine aops_op rfl rfl rfl (by simp (disch := omega) []; rfl) ?_
  refine aops_gen fun g12 hg12 => ?_
  refine aops_gd (b := _) (v := _) rfl rfl rfl (fun hb => by have hb' := hb; (try simp [hg12] at hb'); (try simp at hb); simp (disch := omega) [hb, hb']; rfl) ?_
  refine aops_gd (b := _) (v := _) rfl rfl rfl (fun hb => by have hb' := hb; (try simp [hg12] at hb'); (try simp at hb); simp (disch := omega) [hb, hb']; rfl) ?_
  refine aops_gd (b := _) (v := _) rfl rfl rfl (fun hb => by have hb' := hb; (try simp [hg12] at hb'); (try simp at hb); simp (disch := omega) [hb, hb']; rfl) ?_
  refine aops_gd (b := _) (v := _) rfl rfl rfl (fun hb => by have hb' := hb; (try simp [hg12] at hb'); (try simp at hb); simp (disch := omega) [hb, hb']; rfl) ?_
  refine aops_gd (b := _) (v := _) rfl rfl rfl (fun hb => by have hb' := hb; (try simp [hg12] at hb'); (try simp at hb); simp (disch := omega) [hb, hb']; rfl) ?_
  refine aops_op rfl rfl rfl (by simp (disch := omega) []; rfl) ?_
  refine aops_op rfl rfl rfl (by simp (disch := omega) []; rfl) ?_
  refine aops_gen fun g19 hg19 => ?_
  refine aops_gd (b := _) (v := _) rfl rfl rfl (fun hb => by have hb' := hb; (try simp [hg12, hg19] at hb'); (try simp at hb); simp (disch := omega) [hb, hb']; rfl) ?_
  refine aops_gd (b := _) (v := _) rfl rfl rfl (fun hb => by have hb' := hb; (try simp [hg12, hg19] at hb'); (try simp at hb); simp (disch := omega) [hb, hb']; rfl) ?_
  refine aops_gd (b := _) (v := _) rfl rfl rfl (fun hb => by have hb' := hb; (try simp [hg12, hg19] at hb'); (try simp at hb); simp (disch := omega) [hb, hb']; rfl) ?_
  refine aops_gd (b := _) (v := _) rfl rfl rfl (fun hb => by have hb' := hb; (try simp [hg12, hg19] at hb'); (try simp at hb); simp (disch := omega) [hb, hb']; rfl) ?_
  refine aops_gd (b := _) (v := _) rfl rfl rfl (fun hb => by have hb' := hb; (try simp [hg12, hg19] at hb'); (try simp at hb); simp (disch := omega) [hb, hb']; rfl) ?_
  refine aops_gd (b := _) (v := _) rfl rfl rfl (fun hb => by have hb' := hb; (try simp [hg12, hg19] at hb'); (try simp at hb); simp (disch := omega) [hb, hb']; rfl) ?_
  refine aops_gd (b := _) (v := _) rfl rfl rfl (fun hb => by have hb' := hb; (try simp [hg12, hg19] at hb'); (try simp at hb); simp (disch := omega) [hb, hb']; rfl) ?_
  refine aops_op rfl rfl rfl (by simp (disch := omega) []; rfl) ?_
  refine aops_nil ?_
  refine hK3 _ _ ?_
  refine awp_cond rfl (fun hc4 => ?_) fun hc4 => ?_
  · simp at hc4
    refine awp_seq_k fun K5 hK5 => ?_
    refine awp_region (by decide) ?_   -- region 2
    refine aops_op rfl rfl rfl (by simp (disch := omega) [hc4]; rfl) ?_
    refine aops_nil ?_
    refine hK5 _ _ ?_
    refine awp_lt fun hltE => ?_
    refine awp_ret ?_
    try simp only [thenA, blockA]
    refine fpost_ret (H0 := H) rfl (by simp (disch := omega) [hc4] <;> rfl) sub_auto ?_
    refine ⟨?_, rfl⟩
    clear hK1 hK2 hK3 hK5
    subst_vars
    simp [resV]
    grind [take_end, LFunc.ext2]
  · simp at hc4
    refine awp_skip ?_
    simp
    refine hK2 _ _ ?_
    refine awp_seq_k fun K6 hK6 => ?_
    refine awp_seq_k fun K7 hK7 => ?_
    refine awp_region (by decide) ?_   -- region 3
    refine aops_op rfl rfl rfl (by simp (disch := omega) [hc4]; rfl) ?_
    refine aops_nil ?_
    refine hK7 _ _ ?_
    refine awp_block ?_   -- block 0
    refine awp_lt fun hlt8 => ?_
    refine awp_loop3 [4, 5, 6, 28, 29, 30, 31, 32, 33, 34, 35, 36, 37, 38, 39, 40, 41, 42, 43, 44, 45, 46, 47, 48, 49, 50, 51, 52, 53, 54, 55, 56, 57, 58, 59, 60, 61, 62, 63, 64, 65, 66, 67, 68, 69, 70, 71, 72, 73, 74, 75, 76, 77, 78, 79, 80, 81, 82, 83, 84, 85, 86, 87, 88, 89, 90, 91, 92, 93, 94] (fun i : Nat => [(5, iv i)]) (fun i H' => _ = H' ∧ (i ≤ f.blocks.length ∧ f.blocks.take i = g.blocks.take i)) (fun i => f.blocks.length - i) 0 (by simp) (Sub.refl hlt8) (by exact ⟨rfl, by simp⟩) ?_   -- LOOP
    rintro i _ ⟨rfl, hinv8⟩ K8 hK8
    simp
    refine awp_seq_k fun K9 hK9 => ?_
    refine awp_seq_k fun K10 hK10 => ?_
    refine awp_region (by decide) ?_   -- region 4
    refine aops_op rfl rfl rfl (by simp (disch := omega) [hc4]; rfl) ?_
    refine aops_op rfl rfl rfl (by simp (disch := omega) [hc4]; rfl) ?_
    refine aops_op rfl rfl rfl (by simp (disch := omega) [hc4]; rfl) ?_
    refine aops_op rfl rfl rfl (by simp (disch := omega) [hc4]; rfl) ?_
    refine aops_op rfl rfl rfl (by simp (disch := omega) [hc4]; rfl) ?_
    refine aops_nil ?_
    refine hK10 _ _ ?_
    refine awp_cond rfl (fun hc11 => ?_) fun hc11 => ?_
    · simp at hc11
      refine awp_skip ?_
      simp
      refine hK9 _ _ ?_
      refine awp_seq_k fun K12 hK12 => ?_
      refine awp_block ?_   -- block 1
      refine awp_seq_k fun K13 hK13 => ?_
      refine awp_seq_k fun K14 hK14 => ?_
      obtain ⟨x, ad, v1, hx, rfl, had, hN, h1, hx1⟩ := hrow.getB (i := i) (by omega)
      obtain ⟨y, ad', v2, hy, rfl, had', hN', h1', hy1⟩ := hrow'.getB (i := i) (by omega)
      have hT := loadN_add hN 1 4 (by omega)
      have hT' := loadN_add hN' 1 4 (by omega)
      simp [encT] at hT hT'
      obtain ⟨a1, c1, rfl, hd3, hd4, hrow1⟩ := hx1.open
      obtain ⟨a2, c2, rfl, hd5, hd6, hrow2⟩ := hy1.open
      refine awp_draw_pure mixed (by kernel_rfl) (by decide) ?_   -- region 6
      refine aops_op rfl rfl rfl (by simp (disch := omega) [hc4, hc11, hT, hT', h1, h1']; rfl) ?_
      refine aops_op rfl rfl rfl (by simp (disch := omega) [hc4, hc11, hT, hT', h1, h1']; rfl) ?_
      refine aops_op rfl rfl rfl (by simp (disch := omega) [hc4, hc11, hT, hT', h1, h1']; rfl) ?_
      refine aops_op rfl rfl rfl (by simp (disch := omega) [hc4, hc11, hT, hT', h1, h1']; rfl) ?_
      refine aops_op rfl rfl rfl (by simp (disch := omega) [hc4, hc11, hT, hT', h1, h1']; rfl) ?_
      refine aops_op rfl rfl rfl (by simp (disch := omega) [hc4, hc11, hT, hT', h1, h1']; rfl) ?_
      refine aops_op rfl rfl rfl (by simp (disch := omega) [hc4, hc11, hT, hT', h1, h1']; rfl) ?_
      refine aops_op rfl rfl rfl (by simp (disch := omega) [hc4, hc11, hT, hT', h1, h1']; rfl) ?_
      refine aops_op rfl rfl rfl (by simp (disch := omega) [hc4, hc11, hT, hT', h1, h1']; rfl) ?_
      refine aops_op rfl rfl rfl (by simp (disch := omega) [hc4, hc11, hT, hT', h1, h1']; rfl) ?_
      refine aops_op rfl rfl rfl (by simp (disch := omega) [hc4, hc11, hT, hT', h1, h1']; rfl) ?_
      refine aops_op rfl rfl rfl (by simp (disch := omega) [hc4, hc11, hT, hT', h1, h1']; rfl) ?_
      refine aops_op rfl rfl rfl (by simp (disch := omega) [hc4, hc11, hT, hT', h1, h1']; rfl) ?_
      refine aops_op rfl rfl rfl (by simp (disch := omega) [hc4, hc11, hT, hT', h1, h1']; rfl) ?_
      refine aops_gen fun g48 hg48 => ?_
      refine aops_gd (b := _) (v := _) rfl rfl rfl (fun hb => by have hb' := hb; (try simp [hg48] at hb'); (try simp at hb); simp (disch := omega) [hb, hb', hc4, hc11, hT, hT', h1, h1']; rfl) ?_
      refine aops_gd (b := _) (v := _) rfl rfl rfl (fun hb => by have hb' := hb; (try simp [hg48] at hb'); (try simp at hb); simp (disch := omega) [hb, hb', hc4, hc11, hT, hT', h1, h1']; rfl) ?_
      refine aops_gd (b := _) (v := _) rfl rfl rfl (fun hb => by have hb' := hb; (try simp [hg48] at hb'); (try simp at hb); simp (disch := omega) [hb, hb', hc4, hc11, hT, hT', h1, h1']; rfl) ?_
      refine aops_gd (b := _) (v := _) rfl rfl rfl (fun hb => by have hb' := hb; (try simp [hg48] at hb'); (try simp at hb); simp (disch := omega) [hb, hb', hc4, hc11, hT, hT', h1, h1']; rfl) ?_
      refine aops_gd (b := _) (v := _) rfl rfl rfl (fun hb => by have hb' := hb; (try simp [hg48] at hb'); (try simp at hb); simp (disch := omega) [hb, hb', hc4, hc11, hT, hT', h1, h1']; rfl) ?_
      refine aops_gd (b := _) (v := _) rfl rfl rfl (fun hb => by have hb' := hb; (try simp [hg48] at hb'); (try simp at hb); simp (disch := omega) [hb, hb', hc4, hc11, hT, hT', h1, h1']; rfl) ?_
      refine aops_gd (b := _) (v := _) rfl rfl rfl (fun hb => by have hb' := hb; (try simp [hg48] at hb'); (try simp at hb); simp (disch := omega) [hb, hb', hc4, hc11, hT, hT', h1, h1']; rfl) ?_
      refine aops_gd (b := _) (v := _) rfl rfl rfl (fun hb => by have hb' := hb; (try simp [hg48] at hb'); (try simp at hb); simp (disch := omega) [hb, hb', hc4, hc11, hT, hT', h1, h1']; rfl) ?_
      refine aops_gd (b := _) (v := _) rfl rfl rfl (fun hb => by have hb' := hb; (try simp [hg48] at hb'); (try simp at hb); simp (disch := omega) [hb, hb', hc4, hc11, hT, hT', h1, h1']; rfl) ?_
      refine aops_gd (b := _) (v := _) rfl rfl rfl (fun hb => by have hb' := hb; (try simp [hg48] at hb'); (try simp at hb); simp (disch := omega) [hb, hb', hc4, hc11, hT, hT', h1, h1']; rfl) ?_
      refine aops_gd (b := _) (v := _) rfl rfl rfl (fun hb => by have hb' := hb; (try simp [hg48] at hb'); (try simp at hb); simp (disch := omega) [hb, hb', hc4, hc11, hT, hT', h1, h1']; rfl) ?_
      refine aops_gd (b := _) (v := _) rfl rfl rfl (fun hb => by have hb' := hb; (try simp [hg48] at hb'); (try simp at hb); simp (disch := omega) [hb, hb', hc4, hc11, hT, hT', h1, h1']; rfl) ?_
      refine aops_gd (b := _) (v := _) rfl rfl rfl (fun hb => by have hb' := hb; (try simp [hg48] at hb'); (try simp at hb); simp (disch := omega) [hb, hb', hc4, hc11, hT, hT', h1, h1']; rfl) ?_
      refine aops_gd (b := _) (v := _) rfl rfl rfl (fun hb => by have hb' := hb; (try simp [hg48] at hb'); (try simp at hb); simp (disch := omega) [hb, hb', hc4, hc11, hT, hT', h1, h1']; rfl) ?_
      refine aops_gd (b := _) (v := _) rfl rfl rfl (fun hb => by have hb' := hb; (try simp [hg48] at hb'); (try simp at hb); simp (disch := omega) [hb, hb', hc4, hc11, hT, hT', h1, h1']; rfl) ?_
      refine aops_op rfl rfl rfl (by simp (disch := omega) [hc4, hc11, hT, hT', h1, h1']; rfl) ?_
      refine aops_nil ?_
      refine hK14 _ _ ?_
      refine awp_cond rfl (fun hc15 => ?_) fun hc15 => ?_
      · simp at hc15
        refine awp_seq_k fun K16 hK16 => ?_
        refine awp_region (by decide) ?_   -- region 7
        refine aops_op rfl rfl rfl (by simp (disch := omega) [hc4, hc11, hT, hT', h1, h1', hc15]; rfl) ?_
        refine aops_nil ?_
        refine hK16 _ _ ?_
        refine awp_lt fun hltE => ?_
        refine awp_ret ?_
        try simp only [thenA, blockA]
        refine fpost_ret (H0 := H) rfl (by simp (disch := omega) [hc4, hc11, hT, hT', h1, h1', hc15] <;> rfl) sub_auto ?_
        refine ⟨?_, rfl⟩
        clear hK1 hK2 hK3 hK6 hK7 hK8 hK9 hK10 hK12 hK13 hK14 hK16
        subst_vars
        simp [resV]
        grind [take_end, LFunc.ext2]
      · simp at hc15
        refine awp_skip ?_
        simp
        refine hK13 _ _ ?_
        refine awp_seq_k fun K17 hK17 => ?_
        refine awp_region (by decide) ?_   -- region 8
        refine aops_op rfl rfl rfl (by simp (disch := omega) [hc4, hc11, hT, hT', h1, h1', hc15]; rfl) ?_
        refine aops_nil ?_
        refine hK17 _ _ ?_
        refine awp_block ?_   -- block 2
        refine awp_lt fun hlt18 => ?_
        refine awp_loop3 [4, 6, 65, 66, 67, 68, 69, 70, 71, 72, 73, 74, 75, 76, 77, 78, 79, 80, 81, 82, 83, 84, 85, 86, 87, 88, 89, 90, 91, 92, 93, 94] (fun j : Nat => [(6, iv j)]) (fun j H' => _ = H' ∧ (j ≤ x.code.length ∧ x.code.take j = y.code.take j)) (fun j => x.code.length - j) 0 (by simp) (Sub.refl hlt18) (by exact ⟨rfl, by simp⟩) ?_   -- LOOP
        rintro j _ ⟨rfl, hinv18⟩ K18 hK18
        simp
        refine awp_seq_k fun K19 hK19 => ?_
        refine awp_seq_k fun K20 hK20 => ?_
        refine awp_region (by decide) ?_   -- region 9
        refine aops_op rfl rfl rfl (by simp (disch := omega) [hc4, hc11, hT, hT', h1, h1', hc15]; rfl) ?_
        refine aops_op rfl rfl rfl (by simp (disch := omega) [hc4, hc11, hT, hT', h1, h1', hc15]; rfl) ?_
        refine aops_op rfl rfl rfl (by simp (disch := omega) [hc4, hc11, hT, hT', h1, h1', hc15]; rfl) ?_
        refine aops_op rfl rfl rfl (by simp (disch := omega) [hc4, hc11, hT, hT', h1, h1', hc15]; rfl) ?_
        refine aops_op rfl rfl rfl (by simp (disch := omega) [hc4, hc11, hT, hT', h1, h1', hc15]; rfl) ?_
        refine aops_op rfl rfl rfl (by simp (disch := omega) [hc4, hc11, hT, hT', h1, h1', hc15]; rfl) ?_
        refine aops_op rfl rfl rfl (by simp (disch := omega) [hc4, hc11, hT, hT', h1, h1', hc15]; rfl) ?_
        refine aops_op rfl rfl rfl (by simp (disch := omega) [hc4, hc11, hT, hT', h1, h1', hc15]; rfl) ?_
        refine aops_op rfl rfl rfl (by simp (disch := omega) [hc4, hc11, hT, hT', h1, h1', hc15]; rfl) ?_
        refine aops_nil ?_
        refine hK20 _ _ ?_
        refine awp_cond rfl (fun hc21 => ?_) fun hc21 => ?_
        · simp at hc21
          refine awp_skip ?_
          simp
          refine hK19 _ _ ?_
          refine awp_seq_k fun K22 hK22 => ?_
          refine awp_block ?_   -- block 3
          refine awp_seq_k fun K23 hK23 => ?_
          obtain ⟨p, bd, hp, rfl, hbd, hM⟩ := hrow1.getF (i := j) (by omega)
          obtain ⟨q, bd', hq, rfl, hbd', hM'⟩ := hrow2.getF (i := j) (by omega)
          simp only [encIn] at hM hM'
          refine awp_draw_pure mixed (by kernel_rfl) (by decide) ?_   -- region 11
          refine aops_op rfl rfl rfl (by simp (disch := omega) [hc4, hc11, hT, hT', h1, h1', hc15, hc21, hM, hM']; rfl) ?_
          refine aops_op rfl rfl rfl (by simp (disch := omega) [hc4, hc11, hT, hT', h1, h1', hc15, hc21, hM, hM']; rfl) ?_
          refine aops_op rfl rfl rfl (by simp (disch := omega) [hc4, hc11, hT, hT', h1, h1', hc15, hc21, hM, hM']; rfl) ?_
          refine aops_op rfl rfl rfl (by simp (disch := omega) [hc4, hc11, hT, hT', h1, h1', hc15, hc21, hM, hM']; rfl) ?_
          refine aops_op rfl rfl rfl (by simp (disch := omega) [hc4, hc11, hT, hT', h1, h1', hc15, hc21, hM, hM']; rfl) ?_
          refine aops_op rfl rfl rfl (by simp (disch := omega) [hc4, hc11, hT, hT', h1, h1', hc15, hc21, hM, hM']; rfl) ?_
          refine aops_op rfl rfl rfl (by simp (disch := omega) [hc4, hc11, hT, hT', h1, h1', hc15, hc21, hM, hM']; rfl) ?_
          refine aops_op rfl rfl rfl (by simp (disch := omega) [hc4, hc11, hT, hT', h1, h1', hc15, hc21, hM, hM']; rfl) ?_
          refine aops_op rfl rfl rfl (by simp (disch := omega) [hc4, hc11, hT, hT', h1, h1', hc15, hc21, hM, hM']; rfl) ?_
          refine aops_op rfl rfl rfl (by simp (disch := omega) [hc4, hc11, hT, hT', h1, h1', hc15, hc21, hM, hM']; rfl) ?_
          refine aops_op rfl rfl rfl (by simp (disch := omega) [hc4, hc11, hT, hT', h1, h1', hc15, hc21, hM, hM']; rfl) ?_
          refine aops_op rfl rfl rfl (by simp (disch := omega) [hc4, hc11, hT, hT', h1, h1', hc15, hc21, hM, hM']; rfl) ?_
          refine aops_op rfl rfl rfl (by simp (disch := omega) [hc4, hc11, hT, hT', h1, h1', hc15, hc21, hM, hM']; rfl) ?_
          refine aops_op rfl rfl rfl (by simp (disch := omega) [hc4, hc11, hT, hT', h1, h1', hc15, hc21, hM, hM']; rfl) ?_
          refine aops_op rfl rfl rfl (by simp (disch := omega) [hc4, hc11, hT, hT', h1, h1', hc15, hc21, hM, hM']; rfl) ?_
          refine aops_op rfl rfl rfl (by simp (disch := omega) [hc4, hc11, hT, hT', h1, h1', hc15, hc21, hM, hM']; rfl) ?_
          refine aops_op rfl rfl rfl (by simp (disch := omega) [hc4, hc11, hT, hT', h1, h1', hc15, hc21, hM, hM']; rfl) ?_
          refine aops_op rfl rfl rfl (by simp (disch := omega) [hc4, hc11, hT, hT', h1, h1', hc15, hc21, hM, hM']; rfl) ?_
          refine aops_op rfl rfl rfl (by simp (disch := omega) [hc4, hc11, hT, hT', h1, h1', hc15, hc21, hM, hM']; rfl) ?_
          refine aops_nil ?_
          refine hK23 _ _ ?_
          refine awp_cond rfl (fun hc24 => ?_) fun hc24 => ?_
          · simp at hc24
            refine awp_seq_k fun K25 hK25 => ?_
            refine awp_region (by decide) ?_   -- region 12
            refine aops_op rfl rfl rfl (by simp (disch := omega) [hc4, hc11, hT, hT', h1, h1', hc15, hc21, hM, hM', hc24]; rfl) ?_
            refine aops_nil ?_
            refine hK25 _ _ ?_
            refine awp_lt fun hltE => ?_
            refine awp_ret ?_
            try simp only [thenA, blockA]
            refine fpost_ret (H0 := H) rfl (by simp (disch := omega) [hc4, hc11, hT, hT', h1, h1', hc15, hc21, hM, hM', hc24] <;> rfl) sub_auto ?_
            refine ⟨?_, rfl⟩
            clear hK1 hK2 hK3 hK6 hK7 hK8 hK9 hK10 hK12 hK13 hK14 hK17 hK18 hK19 hK20 hK22 hK23 hK25
            subst_vars
            simp [resV]
            grind [take_end, LFunc.ext2]
          · simp at hc24
            refine awp_skip ?_
            simp
            refine hK22 _ _ ?_
            refine awp_region (by decide) ?_   -- region 10
            refine aops_op rfl rfl rfl (by simp (disch := omega) [hc4, hc11, hT, hT', h1, h1', hc15, hc21, hM, hM', hc24]; rfl) ?_
            refine aops_op rfl rfl rfl (by simp (disch := omega) [hc4, hc11, hT, hT', h1, h1', hc15, hc21, hM, hM', hc24]; rfl) ?_
            refine aops_op rfl rfl rfl (by simp (disch := omega) [hc4, hc11, hT, hT', h1, h1', hc15, hc21, hM, hM', hc24]; rfl) ?_
            refine aops_nil ?_
            refine hK18 _ _ ?_   -- END OF ROUND
            refine loopTo (j + 1) rfl (by simp (disch := omega) [hc4, hc11, hT, hT', h1, h1', hc15, hc21, hM, hM', hc24]) (by simp [hc4, hc11, hT, hT', h1, h1', hc15, hc21, hM, hM', hc24]) (by exact ⟨rfl, by omega, take_succ_eq hp hq hinv18.2 (LInstr.ext2 (by assumption))⟩) sub_auto (by omega)
        · simp at hc21
          refine awp_exit ?_   -- exit 2
          simp
          refine hK12 _ _ ?_
          refine awp_region (by decide) ?_   -- region 5
          refine aops_op rfl rfl rfl (by simp (disch := omega) [hc4, hc11, hT, hT', h1, h1', hc15, hc21]; rfl) ?_
          refine aops_op rfl rfl rfl (by simp (disch := omega) [hc4, hc11, hT, hT', h1, h1', hc15, hc21]; rfl) ?_
          refine aops_op rfl rfl rfl (by simp (disch := omega) [hc4, hc11, hT, hT', h1, h1', hc15, hc21]; rfl) ?_
          refine aops_nil ?_
          refine hK8 _ _ ?_   -- END OF ROUND
          have hcode : x.code = y.code := by grind [take_end]
          have hterm : x.term = y.term := by grind [LTerm.ext2]
          refine loopTo (i + 1) rfl (by simp (disch := omega) [hc4, hc11, hT, hT', h1, h1', hc15, hc21]) (by simp [hc4, hc11, hT, hT', h1, h1', hc15, hc21]) (by exact ⟨rfl, by omega, take_succ_eq hx hy hinv8.2 (LBlock.ext2 hcode hterm)⟩) sub_auto (by omega)
    · simp at hc11
      refine awp_exit ?_   -- exit 0
      simp
      refine hK6 _ _ ?_
      refine awp_seq_k fun K26 hK26 => ?_
      refine awp_region (by decide) ?_   -- region 13
      refine aops_op rfl rfl rfl (by simp (disch := omega) [hc4, hc11]; rfl) ?_
      refine aops_nil ?_
      refine hK26 _ _ ?_
      refine awp_lt fun hltE => ?_
      refine awp_ret ?_
      try simp only [thenA, blockA]
      refine fpost_ret (H0 := H) rfl (by simp (disch := omega) [hc4, hc11] <;> rfl) sub_auto ?_
      refine ⟨?_, rfl⟩
      clear hK1 hK2 hK3 hK6 hK7 hK8 hK9 hK10 hK26
      subst_vars
      simp [resV]
      grind [take_end, LFunc.ext2]

-- "regcert/regcertref08.Same"  params ['api.MFunc', 'api.MFunc'] results ['bool']
theorem ref08_Same (f g : LMFunc) (v w : Value) (H : AHeap) (hf : SliceR H rMB 5 v f.blocks) (hg : SliceR H rMB 5 w g.blocks) : ACalls Try.prog 26 #[.agg #[iv f.args, iv f.regs, iv f.slots, v], .agg #[iv g.args, iv g.regs, iv g.slots, w]] H fun v H' => v = .bool (decide (f = g)) ∧ H' = H := by
  obtain ⟨a, c, rfl, hc1, hc2, hrow⟩ := hf.open
  obtain ⟨a', c', rfl, hd1, hd2, hrow'⟩ := hg.open
  refine acallsN (rs := [.tmp 4]) 102 Try.func26 rfl (by decide) rfl rfl (by simp) fun hlt => ?_
  simp
  refine awp_seq_k fun K1 hK1 => ?_
  refine awp_region (by decide) ?_   -- region 0
  refine aops_box rfl rfl rfl (by simp (disch := omega) []; rfl) (by simp (disch := omega) []; rfl) (by simp (disch := omega) []; rfl) ?_
  intro b2 hb2; try simp only [AHeap.next_new, AHeap.next_set, next_ov, next_delV, AHeap.next_del, next_low] at hb2
  refine aops_box rfl rfl rfl (by simp (disch := omega) []; rfl) (by simp (disch := omega) []; rfl) (by simp (disch := omega) []; rfl) ?_
  intro b3 hb3; try simp only [AHeap.next_new, AHeap.next_set, next_ov, next_delV, AHeap.next_del, next_low] at hb3
  refine aops_op rfl rfl rfl (by simp (disch := omega) []; rfl) ?_
  refine aops_nil ?_
  refine hK1 _ _ ?_
  refine awp_seq_k fun K2 hK2 => ?_
  refine awp_seq_k fun K3 hK3 => ?_
  refine awp_region (by decide) ?_   -- region 1
  refine aops_op rfl rfl rfl (by simp (disch := omega) []; rfl) ?_
  refine aops_op rfl rfl rfl (by simp (disch := omega) []; rfl) ?_
  refine aops_op rfl rfl rfl (by simp (disch := omega) []; rfl) ?_
  refine aops_op rfl rfl rfl (by simp (disch := omega) []; rfl) ?_
  refine aops_op rfl rfl rfl (by simp (disch := omega) []; rfl) ?_
  refine aops_op rfl rfl rfl (by simp (disch := omega) []; rfl) ?_
  refine aops_gen fun g12 hg12 => ?_
  refine aops_gd (b := _) (v := _) rfl rfl rfl (fun hb => by have hb' := hb; (try simp [hg12] at hb'); (try simp at hb); simp (disch := omega) [hb, hb']; rfl) ?_
  refine aops_gd (b := _) (v := _) rfl rfl rfl (fun hb => by have hb' := hb; (try simp [hg12] at hb'); (try simp at hb); simp (disch := omega) [hb, hb']; rfl) ?_
  refine aops_gd (b := _) (v := _) rfl rfl rfl (fun hb => by have hb' := hb; (try simp [hg12] at hb'); (try simp at hb); simp (disch := omega) [hb, hb']; rfl) ?_
  refine aops_gd (b := _) (v := _) rfl rfl rfl (fun hb => by have hb' := hb; (try simp [hg12] at hb'); (try simp at hb); simp (disch := omega) [hb, hb']; rfl) ?_
  refine aops_gd (b := _) (v := _) rfl rfl rfl (fun hb => by have hb' := hb; (try simp [hg12] at hb'); (try simp at hb); simp (disch := omega) [hb, hb']; rfl) ?_
  refine aops_op rfl rfl rfl (by simp (disch := omega) []; rfl) ?_
  refine aops_op rfl rfl rfl (by simp (disch := omega) []; rfl) ?_
  refine aops_gen fun g19 hg19 => ?_
  refine aops_gd (b := _) (v := _) rfl rfl rfl (fun hb => by have hb' := hb; (try simp [hg12, hg19] at hb'); (try simp at hb); simp (disch := omega) [hb, hb']; rfl) ?_
  refine aops_gd (b := _) (v := _) rfl rfl rfl (fun hb => by have hb' := hb; (try simp [hg12, hg19] at hb'); (try simp at hb); simp (disch := omega) [hb, hb']; rfl) ?_
  refine aops_gd (b := _) (v := _) rfl rfl rfl (fun hb => by have hb' := hb; (try simp [hg12, hg19] at hb'); (try simp at hb); simp (disch := omega) [hb, hb']; rfl) ?_
  refine aops_gd (b := _) (v := _) rfl rfl rfl (fun hb => by have hb' := hb; (try simp [hg12, hg19] at hb'); (try simp at hb); simp (disch := omega) [hb, hb']; rfl) ?_
  refine aops_gd (b := _) (v := _) rfl rfl rfl (fun hb => by have hb' := hb; (try simp [hg12, hg19] at hb'); (try simp at hb); simp (disch := omega) [hb, hb']; rfl) ?_
  refine aops_op rfl rfl rfl (by simp (disch := omega) []; rfl) ?_
  refine aops_op rfl rfl rfl (by simp (disch := omega) []; rfl) ?_
  refine aops_gen fun g26 hg26 => ?_
  refine aops_gd (b := _) (v := _) rfl rfl rfl (fun hb => by have hb' := hb; (try simp [hg12, hg19, hg26] at hb'); (try simp at hb); simp (disch := omega) [hb, hb']; rfl) ?_
  refine aops_gd (b := _) (v := _) rfl rfl rfl (fun hb => by have hb' := hb; (try simp [hg12, hg19, hg26] at hb'); (try simp at hb); simp (disch := omega) [hb, hb']; rfl) ?_
  refine aops_gd (b := _) (v := _) rfl rfl rfl (fun hb => by have hb' := hb; (try simp [hg12, hg19, hg26] at hb'); (try simp at hb); simp (disch := omega) [hb, hb']; rfl) ?_
  refine aops_gd (b := _) (v := _) rfl rfl rfl (fun hb => by have hb' := hb; (try simp [hg12, hg19, hg26] at hb'); (try simp at hb); simp (disch := omega) [hb, hb']; rfl) ?_
  refine aops_gd (b := _) (v := _) rfl rfl rfl (fun hb => by have hb' := hb; (try simp [hg12, hg19, hg26] at hb'); (try simp at hb); simp (disch := omega) [hb, hb']; rfl) ?_
  refine aops_gd (b := _) (v := _) rfl rfl rfl (fun hb => by have hb' := hb; (try simp [hg12, hg19, hg26] at hb'); (try simp at hb); simp (disch := omega) [hb, hb']; rfl) ?_
  refine aops_gd (b := _) (v := _) rfl rfl rfl (fun hb => by have hb' := hb; (try simp [hg12, hg19, hg26] at hb'); (try simp at hb); simp (disch := omega) [hb, hb']; rfl) ?_
  refine aops_op rfl rfl rfl (by simp (disch := omega) []; rfl) ?_
  refine aops_nil ?_
  refine hK3 _ _ ?_
  refine awp_cond rfl (fun hc4 => ?_) fun hc4 => ?_
  · simp at hc4
    refine awp_seq_k fun K5 hK5 => ?_
    refine awp_region (by decide) ?_   -- region 2
    refine aops_op rfl rfl rfl (by simp (disch := omega) [hc4]; rfl) ?_
    refine aops_nil ?_
    refine hK5 _ _ ?_
    refine awp_lt fun hltE => ?_
    refine awp_ret ?_
    try simp only [thenA, blockA]
    refine fpost_ret (H0 := H) rfl (by simp (disch := omega) [hc4] <;> rfl) sub_auto ?_
    refine ⟨?_, rfl⟩
    clear hK1 hK2 hK3 hK5
    subst_vars
    simp [resV]
    grind [take_end, LMFunc.ext2]
  · simp at hc4
    refine awp_skip ?_
    simp
    refine hK2 _ _ ?_
    refine awp_seq_k fun K6 hK6 => ?_
    refine awp_seq_k fun K7 hK7 => ?_
    refine awp_region (by decide) ?_   -- region 3
    refine aops_op rfl rfl rfl (by simp (disch := omega) [hc4]; rfl) ?_
    refine aops_nil ?_
    refine hK7 _ _ ?_
    refine awp_block ?_   -- block 0
    refine awp_lt fun hlt8 => ?_
    refine awp_loop3 [4, 5, 6, 35, 36, 37, 38, 39, 40, 41, 42, 43, 44, 45, 46, 47, 48, 49, 50, 51, 52, 53, 54, 55, 56, 57, 58, 59, 60, 61, 62, 63, 64, 65, 66, 67, 68, 69, 70, 71, 72, 73, 74, 75, 76, 77, 78, 79, 80, 81, 82, 83, 84, 85, 86, 87, 88, 89, 90, 91, 92, 93, 94, 95, 96, 97, 98, 99, 100, 101] (fun i : Nat => [(5, iv i)]) (fun i H' => _ = H' ∧ (i ≤ f.blocks.length ∧ f.blocks.take i = g.blocks.take i)) (fun i => f.blocks.length - i) 0 (by simp) (Sub.refl hlt8) (by exact ⟨rfl, by simp⟩) ?_   -- LOOP
    rintro i _ ⟨rfl, hinv8⟩ K8 hK8
    simp
    refine awp_seq_k fun K9 hK9 => ?_
    refine awp_seq_k fun K10 hK10 => ?_
    refine awp_region (by decide) ?_   -- region 4
    refine aops_op rfl rfl rfl (by simp (disch := omega) [hc4]; rfl) ?_
    refine aops_op rfl rfl rfl (by simp (disch := omega) [hc4]; rfl) ?_
    refine aops_op rfl rfl rfl (by simp (disch := omega) [hc4]; rfl) ?_
    refine aops_op rfl rfl rfl (by simp (disch := omega) [hc4]; rfl) ?_
    refine aops_op rfl rfl rfl (by simp (disch := omega) [hc4]; rfl) ?_
    refine aops_nil ?_
    refine hK10 _ _ ?_
    refine awp_cond rfl (fun hc11 => ?_) fun hc11 => ?_
    · simp at hc11
      refine awp_skip ?_
      simp
      refine hK9 _ _ ?_
      refine awp_seq_k fun K12 hK12 => ?_
      refine awp_block ?_   -- block 1
      refine awp_seq_k fun K13 hK13 => ?_
      refine awp_seq_k fun K14 hK14 => ?_
      obtain ⟨x, ad, v1, hx, rfl, had, hN, h1, hx1⟩ := hrow.getMB (i := i) (by omega)
      obtain ⟨y, ad', v2, hy, rfl, had', hN', h1', hy1⟩ := hrow'.getMB (i := i) (by omega)
      have hT := loadN_add hN 1 4 (by omega)
      have hT' := loadN_add hN' 1 4 (by omega)
      simp [encT] at hT hT'
      obtain ⟨a1, c1, rfl, hd3, hd4, hrow1⟩ := hx1.open
      obtain ⟨a2, c2, rfl, hd5, hd6, hrow2⟩ := hy1.open
      refine awp_draw_pure mixed (by kernel_rfl) (by decide) ?_   -- region 6
      refine aops_op rfl rfl rfl (by simp (disch := omega) [hc4, hc11, hT, hT', h1, h1']; rfl) ?_
      refine aops_op rfl rfl rfl (by simp (disch := omega) [hc4, hc11, hT, hT', h1, h1']; rfl) ?_
      refine aops_op rfl rfl rfl (by simp (disch := omega) [hc4, hc11, hT, hT', h1, h1']; rfl) ?_
      refine aops_op rfl rfl rfl (by simp (disch := omega) [hc4, hc11, hT, hT', h1, h1']; rfl) ?_
      refine aops_op rfl rfl rfl (by simp (disch := omega) [hc4, hc11, hT, hT', h1, h1']; rfl) ?_
      refine aops_op rfl rfl rfl (by simp (disch := omega) [hc4, hc11, hT, hT', h1, h1']; rfl) ?_
      refine aops_op rfl rfl rfl (by simp (disch := omega) [hc4, hc11, hT, hT', h1, h1']; rfl) ?_
      refine aops_op rfl rfl rfl (by simp (disch := omega) [hc4, hc11, hT, hT', h1, h1']; rfl) ?_
      refine aops_op rfl rfl rfl (by simp (disch := omega) [hc4, hc11, hT, hT', h1, h1']; rfl) ?_
      refine aops_op rfl rfl rfl (by simp (disch := omega) [hc4, hc11, hT, hT', h1, h1']; rfl) ?_
      refine aops_op rfl rfl rfl (by simp (disch := omega) [hc4, hc11, hT, hT', h1, h1']; rfl) ?_
      refine aops_op rfl rfl rfl (by simp (disch := omega) [hc4, hc11, hT, hT', h1, h1']; rfl) ?_
      refine aops_op rfl rfl rfl (by simp (disch := omega) [hc4, hc11, hT, hT', h1, h1']; rfl) ?_
      refine aops_op rfl rfl rfl (by simp (disch := omega) [hc4, hc11, hT, hT', h1, h1']; rfl) ?_
      refine aops_gen fun g55 hg55 => ?_
      refine aops_gd (b := _) (v := _) rfl rfl rfl (fun hb => by have hb' := hb; (try simp [hg55] at hb'); (try simp at hb); simp (disch := omega) [hb, hb', hc4, hc11, hT, hT', h1, h1']; rfl) ?_
      refine aops_gd (b := _) (v := _) rfl rfl rfl (fun hb => by have hb' := hb; (try simp [hg55] at hb'); (try simp at hb); simp (disch := omega) [hb, hb', hc4, hc11, hT, hT', h1, h1']; rfl) ?_
      refine aops_gd (b := _) (v := _) rfl rfl rfl (fun hb => by have hb' := hb; (try simp [hg55] at hb'); (try simp at hb); simp (disch := omega) [hb, hb', hc4, hc11, hT, hT', h1, h1']; rfl) ?_
      refine aops_gd (b := _) (v := _) rfl rfl rfl (fun hb => by have hb' := hb; (try simp [hg55] at hb'); (try simp at hb); simp (disch := omega) [hb, hb', hc4, hc11, hT, hT', h1, h1']; rfl) ?_
      refine aops_gd (b := _) (v := _) rfl rfl rfl (fun hb => by have hb' := hb; (try simp [hg55] at hb'); (try simp at hb); simp (disch := omega) [hb, hb', hc4, hc11, hT, hT', h1, h1']; rfl) ?_
      refine aops_gd (b := _) (v := _) rfl rfl rfl (fun hb => by have hb' := hb; (try simp [hg55] at hb'); (try simp at hb); simp (disch := omega) [hb, hb', hc4, hc11, hT, hT', h1, h1']; rfl) ?_
      refine aops_gd (b := _) (v := _) rfl rfl rfl (fun hb => by have hb' := hb; (try simp [hg55] at hb'); (try simp at hb); simp (disch := omega) [hb, hb', hc4, hc11, hT, hT', h1, h1']; rfl) ?_
      refine aops_gd (b := _) (v := _) rfl rfl rfl (fun hb => by have hb' := hb; (try simp [hg55] at hb'); (try simp at hb); simp (disch := omega) [hb, hb', hc4, hc11, hT, hT', h1, h1']; rfl) ?_
      refine aops_gd (b := _) (v := _) rfl rfl rfl (fun hb => by have hb' := hb; (try simp [hg55] at hb'); (try simp at hb); simp (disch := omega) [hb, hb', hc4, hc11, hT, hT', h1, h1']; rfl) ?_
      refine aops_gd (b := _) (v := _) rfl rfl rfl (fun hb => by have hb' := hb; (try simp [hg55] at hb'); (try simp at hb); simp (disch := omega) [hb, hb', hc4, hc11, hT, hT', h1, h1']; rfl) ?_
      refine aops_gd (b := _) (v := _) rfl rfl rfl (fun hb => by have hb' := hb; (try simp [hg55] at hb'); (try simp at hb); simp (disch := omega) [hb, hb', hc4, hc11, hT, hT', h1, h1']; rfl) ?_
      refine aops_gd (b := _) (v := _) rfl rfl rfl (fun hb => by have hb' := hb; (try simp [hg55] at hb'); (try simp at hb); simp (disch := omega) [hb, hb', hc4, hc11, hT, hT', h1, h1']; rfl) ?_
      refine aops_gd (b := _) (v := _) rfl rfl rfl (fun hb => by have hb' := hb; (try simp [hg55] at hb'); (try simp at hb); simp (disch := omega) [hb, hb', hc4, hc11, hT, hT', h1, h1']; rfl) ?_
      refine aops_gd (b := _) (v := _) rfl rfl rfl (fun hb => by have hb' := hb; (try simp [hg55] at hb'); (try simp at hb); simp (disch := omega) [hb, hb', hc4, hc11, hT, hT', h1, h1']; rfl) ?_
      refine aops_gd (b := _) (v := _) rfl rfl rfl (fun hb => by have hb' := hb; (try simp [hg55] at hb'); (try simp at hb); simp (disch := omega) [hb, hb', hc4, hc11, hT, hT', h1, h1']; rfl) ?_
      refine aops_op rfl rfl rfl (by simp (disch := omega) [hc4, hc11, hT, hT', h1, h1']; rfl) ?_
      refine aops_nil ?_
      refine hK14 _ _ ?_
      refine awp_cond rfl (fun hc15 => ?_) fun hc15 => ?_
      · simp at hc15
        refine awp_seq_k fun K16 hK16 => ?_
        refine awp_region (by decide) ?_   -- region 7
        refine aops_op rfl rfl rfl (by simp (disch := omega) [hc4, hc11, hT, hT', h1, h1', hc15]; rfl) ?_
        refine aops_nil ?_
        refine hK16 _ _ ?_
        refine awp_lt fun hltE => ?_
        refine awp_ret ?_
        try simp only [thenA, blockA]
        refine fpost_ret (H0 := H) rfl (by simp (disch := omega) [hc4, hc11, hT, hT', h1, h1', hc15] <;> rfl) sub_auto ?_
        refine ⟨?_, rfl⟩
        clear hK1 hK2 hK3 hK6 hK7 hK8 hK9 hK10 hK12 hK13 hK14 hK16
        subst_vars
        simp [resV]
        grind [take_end, LMFunc.ext2]
      · simp at hc15
        refine awp_skip ?_
        simp
        refine hK13 _ _ ?_
        refine awp_seq_k fun K17 hK17 => ?_
        refine awp_region (by decide) ?_   -- region 8
        refine aops_op rfl rfl rfl (by simp (disch := omega) [hc4, hc11, hT, hT', h1, h1', hc15]; rfl) ?_
        refine aops_nil ?_
        refine hK17 _ _ ?_
        refine awp_block ?_   -- block 2
        refine awp_lt fun hlt18 => ?_
        refine awp_loop3 [4, 6, 72, 73, 74, 75, 76, 77, 78, 79, 80, 81, 82, 83, 84, 85, 86, 87, 88, 89, 90, 91, 92, 93, 94, 95, 96, 97, 98, 99, 100, 101] (fun j : Nat => [(6, iv j)]) (fun j H' => _ = H' ∧ (j ≤ x.code.length ∧ x.code.take j = y.code.take j)) (fun j => x.code.length - j) 0 (by simp) (Sub.refl hlt18) (by exact ⟨rfl, by simp⟩) ?_   -- LOOP
        rintro j _ ⟨rfl, hinv18⟩ K18 hK18
        simp
        refine awp_seq_k fun K19 hK19 => ?_
        refine awp_seq_k fun K20 hK20 => ?_
        refine awp_region (by decide) ?_   -- region 9
        refine aops_op rfl rfl rfl (by simp (disch := omega) [hc4, hc11, hT, hT', h1, h1', hc15]; rfl) ?_
        refine aops_op rfl rfl rfl (by simp (disch := omega) [hc4, hc11, hT, hT', h1, h1', hc15]; rfl) ?_
        refine aops_op rfl rfl rfl (by simp (disch := omega) [hc4, hc11, hT, hT', h1, h1', hc15]; rfl) ?_
        refine aops_op rfl rfl rfl (by simp (disch := omega) [hc4, hc11, hT, hT', h1, h1', hc15]; rfl) ?_
        refine aops_op rfl rfl rfl (by simp (disch := omega) [hc4, hc11, hT, hT', h1, h1', hc15]; rfl) ?_
        refine aops_op rfl rfl rfl (by simp (disch := omega) [hc4, hc11, hT, hT', h1, h1', hc15]; rfl) ?_
        refine aops_op rfl rfl rfl (by simp (disch := omega) [hc4, hc11, hT, hT', h1, h1', hc15]; rfl) ?_
        refine aops_op rfl rfl rfl (by simp (disch := omega) [hc4, hc11, hT, hT', h1, h1', hc15]; rfl) ?_
        refine aops_op rfl rfl rfl (by simp (disch := omega) [hc4, hc11, hT, hT', h1, h1', hc15]; rfl) ?_
        refine aops_nil ?_
        refine hK20 _ _ ?_
        refine awp_cond rfl (fun hc21 => ?_) fun hc21 => ?_
        · simp at hc21
          refine awp_skip ?_
          simp
          refine hK19 _ _ ?_
          refine awp_seq_k fun K22 hK22 => ?_
          refine awp_block ?_   -- block 3
          refine awp_seq_k fun K23 hK23 => ?_
          obtain ⟨p, bd, hp, rfl, hbd, hM⟩ := hrow1.getF (i := j) (by omega)
          obtain ⟨q, bd', hq, rfl, hbd', hM'⟩ := hrow2.getF (i := j) (by omega)
          simp only [encM] at hM hM'
          refine awp_draw_pure mixed (by kernel_rfl) (by decide) ?_   -- region 11
          refine aops_op rfl rfl rfl (by simp (disch := omega) [hc4, hc11, hT, hT', h1, h1', hc15, hc21, hM, hM']; rfl) ?_
          refine aops_op rfl rfl rfl (by simp (disch := omega) [hc4, hc11, hT, hT', h1, h1', hc15, hc21, hM, hM']; rfl) ?_
          refine aops_op rfl rfl rfl (by simp (disch := omega) [hc4, hc11, hT, hT', h1, h1', hc15, hc21, hM, hM']; rfl) ?_
          refine aops_op rfl rfl rfl (by simp (disch := omega) [hc4, hc11, hT, hT', h1, h1', hc15, hc21, hM, hM']; rfl) ?_
          refine aops_op rfl rfl rfl (by simp (disch := omega) [hc4, hc11, hT, hT', h1, h1', hc15, hc21, hM, hM']; rfl) ?_
          refine aops_op rfl rfl rfl (by simp (disch := omega) [hc4, hc11, hT, hT', h1, h1', hc15, hc21, hM, hM']; rfl) ?_
          refine aops_op rfl rfl rfl (by simp (disch := omega) [hc4, hc11, hT, hT', h1, h1', hc15, hc21, hM, hM']; rfl) ?_
          refine aops_op rfl rfl rfl (by simp (disch := omega) [hc4, hc11, hT, hT', h1, h1', hc15, hc21, hM, hM']; rfl) ?_
          refine aops_op rfl rfl rfl (by simp (disch := omega) [hc4, hc11, hT, hT', h1, h1', hc15, hc21, hM, hM']; rfl) ?_
          refine aops_op rfl rfl rfl (by simp (disch := omega) [hc4, hc11, hT, hT', h1, h1', hc15, hc21, hM, hM']; rfl) ?_
          refine aops_op rfl rfl rfl (by simp (disch := omega) [hc4, hc11, hT, hT', h1, h1', hc15, hc21, hM, hM']; rfl) ?_
          refine aops_op rfl rfl rfl (by simp (disch := omega) [hc4, hc11, hT, hT', h1, h1', hc15, hc21, hM, hM']; rfl) ?_
          refine aops_op rfl rfl rfl (by simp (disch := omega) [hc4, hc11, hT, hT', h1, h1', hc15, hc21, hM, hM']; rfl) ?_
          refine aops_op rfl rfl rfl (by simp (disch := omega) [hc4, hc11, hT, hT', h1, h1', hc15, hc21, hM, hM']; rfl) ?_
          refine aops_op rfl rfl rfl (by simp (disch := omega) [hc4, hc11, hT, hT', h1, h1', hc15, hc21, hM, hM']; rfl) ?_
          refine aops_op rfl rfl rfl (by simp (disch := omega) [hc4, hc11, hT, hT', h1, h1', hc15, hc21, hM, hM']; rfl) ?_
          refine aops_op rfl rfl rfl (by simp (disch := omega) [hc4, hc11, hT, hT', h1, h1', hc15, hc21, hM, hM']; rfl) ?_
          refine aops_op rfl rfl rfl (by simp (disch := omega) [hc4, hc11, hT, hT', h1, h1', hc15, hc21, hM, hM']; rfl) ?_
          refine aops_op rfl rfl rfl (by simp (disch := omega) [hc4, hc11, hT, hT', h1, h1', hc15, hc21, hM, hM']; rfl) ?_
          refine aops_nil ?_
          refine hK23 _ _ ?_
          refine awp_cond rfl (fun hc24 => ?_) fun hc24 => ?_
          · simp at hc24
            refine awp_seq_k fun K25 hK25 => ?_
            refine awp_region (by decide) ?_   -- region 12
            refine aops_op rfl rfl rfl (by simp (disch := omega) [hc4, hc11, hT, hT', h1, h1', hc15, hc21, hM, hM', hc24]; rfl) ?_
            refine aops_nil ?_
            refine hK25 _ _ ?_
            refine awp_lt fun hltE => ?_
            refine awp_ret ?_
            try simp only [thenA, blockA]
            refine fpost_ret (H0 := H) rfl (by simp (disch := omega) [hc4, hc11, hT, hT', h1, h1', hc15, hc21, hM, hM', hc24] <;> rfl) sub_auto ?_
            refine ⟨?_, rfl⟩
            clear hK1 hK2 hK3 hK6 hK7 hK8 hK9 hK10 hK12 hK13 hK14 hK17 hK18 hK19 hK20 hK22 hK23 hK25
            subst_vars
            simp [resV]
            grind [take_end, LMFunc.ext2]
          · simp at hc24
            refine awp_skip ?_
            simp
            refine hK22 _ _ ?_
            refine awp_region (by decide) ?_   -- region 10
            refine aops_op rfl rfl rfl (by simp (disch := omega) [hc4, hc11, hT, hT', h1, h1', hc15, hc21, hM, hM', hc24]; rfl) ?_
            refine aops_op rfl rfl rfl (by simp (disch := omega) [hc4, hc11, hT, hT', h1, h1', hc15, hc21, hM, hM', hc24]; rfl) ?_
            refine aops_op rfl rfl rfl (by simp (disch := omega) [hc4, hc11, hT, hT', h1, h1', hc15, hc21, hM, hM', hc24]; rfl) ?_
            refine aops_nil ?_
            refine hK18 _ _ ?_   -- END OF ROUND
            refine loopTo (j + 1) rfl (by simp (disch := omega) [hc4, hc11, hT, hT', h1, h1', hc15, hc21, hM, hM', hc24]) (by simp [hc4, hc11, hT, hT', h1, h1', hc15, hc21, hM, hM', hc24]) (by exact ⟨rfl, by omega, take_succ_eq hp hq hinv18.2 (LMach.ext2 (by assumption))⟩) sub_auto (by omega)
        · simp at hc21
          refine awp_exit ?_   -- exit 2
          simp
          refine hK12 _ _ ?_
          refine awp_region (by decide) ?_   -- region 5
          refine aops_op rfl rfl rfl (by simp (disch := omega) [hc4, hc11, hT, hT', h1, h1', hc15, hc21]; rfl) ?_
          refine aops_op rfl rfl rfl (by simp (disch := omega) [hc4, hc11, hT, hT', h1, h1', hc15, hc21]; rfl) ?_
          refine aops_op rfl rfl rfl (by simp (disch := omega) [hc4, hc11, hT, hT', h1, h1', hc15, hc21]; rfl) ?_
          refine aops_nil ?_
          refine hK8 _ _ ?_   -- END OF ROUND
          have hcode : x.code = y.code := by grind [take_end]
          have hterm : x.term = y.term := by grind [LTerm.ext2]
          refine loopTo (i + 1) rfl (by simp (disch := omega) [hc4, hc11, hT, hT', h1, h1', hc15, hc21]) (by simp [hc4, hc11, hT, hT', h1, h1', hc15, hc21]) (by exact ⟨rfl, by omega, take_succ_eq hx hy hinv8.2 (LMBlock.ext2 hcode hterm)⟩) sub_auto (by omega)
    · simp at hc11
      refine awp_exit ?_   -- exit 0
      simp
      refine hK6 _ _ ?_
      refine awp_seq_k fun K26 hK26 => ?_
      refine awp_region (by decide) ?_   -- region 13
      refine aops_op rfl rfl rfl (by simp (disch := omega) [hc4, hc11]; rfl) ?_
      refine aops_nil ?_
      refine hK26 _ _ ?_
      refine awp_lt fun hltE => ?_
      refine awp_ret ?_
      try simp only [thenA, blockA]
      refine fpost_ret (H0 := H) rfl (by simp (disch := omega) [hc4, hc11] <;> rfl) sub_auto ?_
      refine ⟨?_, rfl⟩
      clear hK1 hK2 hK3 hK6 hK7 hK8 hK9 hK10 hK26
      subst_vars
      simp [resV]
      grind [take_end, LMFunc.ext2]

end Go.Proofs.Yteklhgmoniaieaa.Fn
