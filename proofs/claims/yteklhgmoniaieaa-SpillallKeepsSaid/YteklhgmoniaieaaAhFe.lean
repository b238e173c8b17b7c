import Derived.Test.YteklhgmoniaieaaAhTypes
import Derived.Test.YteklhgmoniaieaaAhFd
set_option linter.unusedVariables false
set_option maxRecDepth 20000
set_option maxHeartbeats 10000000
set_option linter.unusedSimpArgs false
namespace Go.Proofs.Yteklhgmoniaieaa.Fn
open Go.Proofs.YteklhgmoniaieaaAh Go.Proofs.Yteklhgmoniaieaa.Ty
-- "regcert/spillall.invariant"  params ['int'] results ['[]api.Pair']
theorem sp_invariant (n : Nat) (H : AHeap) (hn : n ≤ 1048576) : ACalls Try.prog 21 #[iv n] H fun v H' => Sub (H) H' ∧ (OwnS H' v 47 2 encP (invM n) ∧ (H.next : Int) ≤ ownId v) := by
  refine acallsK (rs := [.tmp 2]) 20 Try.func21 rfl (by decide) rfl rfl (by simp) fun R' hR' hlt => ?_
  simp
  refine awp_seq_k fun K1 hK1 => ?_
  refine awp_region (by decide) ?_   -- region 0
  refine aops_op rfl rfl rfl (by simp (disch := omega) []; rfl) ?_
  refine aops_nil ?_
  refine hK1 _ _ ?_
  refine awp_seq_k fun K2 hK2 => ?_
  refine awp_region (by decide) ?_   -- region 1
  refine aops_op rfl rfl rfl (by simp (disch := omega) []; rfl) ?_
  refine aops_makeSlice rfl rfl rfl (by simp (disch := omega) []; rfl) (by rfl) (by simp (disch := omega) []; rfl) (by rfl) (by simp (disch := omega) []; rfl) (by simp (disch := omega) []; rfl) (by simp (disch := omega) []; rfl) (by simp (disch := omega) []; rfl) (by first | omega | (simp <;> omega)) ?_
  intro b6 hb6; try simp only [AHeap.next_new, AHeap.next_set, next_ov, next_delV, AHeap.next_del, next_low] at hb6
  try simp only [Int.toNat_natCast]
  refine aops_op rfl rfl rfl (by simp (disch := omega) []; rfl) ?_
  refine aops_nil ?_
  refine hK2 _ _ ?_
  refine awp_seq_k fun K3 hK3 => ?_
  refine awp_seq_k fun K4 hK4 => ?_
  refine awp_region (by decide) ?_   -- region 2
  refine aops_op rfl rfl rfl (by simp (disch := omega) []; rfl) ?_
  refine aops_op rfl rfl rfl (by simp (disch := omega) []; rfl) ?_
  refine aops_nil ?_
  refine hK4 _ _ ?_
  refine awp_block ?_   -- block 0
  refine awp_lt fun hlt5 => ?_
  refine awp_loop4 [4, 8, 9, 10, 11, 12, 13, 14, 15, 16, 17, 18] (fun i : Nat => [(8, iv i)]) (fun H => H.del b6) (fun i H' => i ≤ n ∧ H'.at_ b6 = some (.cells ((invS n i).map encP).flatten 47 (n * 2))) (fun i => n - i) 0 (by simp) sub_auto (by refine ⟨by simp, ?_⟩; rw [invS_zero, ← zrep_flat]; simp [encP]) ?_   -- LOOP
  rintro i H_i s_i hl_i ⟨hi1, hbi⟩ K5 hK5
  have hx_i := s_i.next; simp at hx_i
  have hz_i := s_i.nexts; try (conv at hz_i => rhs; simp only [AHeap.next_new, AHeap.next_set, next_ov, next_delV, AHeap.next_del, next_low])
  simp
  have hclC : (((invS n i).map encP).flatten).length = n * 2 := by rw [flat_len encP_len, invS_len]
  obtain ⟨C, hC⟩ : ∃ C, C = ((invS n i).map encP).flatten := ⟨_, rfl⟩
  rw [← hC] at hbi hclC
  refine awp_seq_k fun K6 hK6 => ?_
  refine awp_region (by decide) ?_   -- region 3
  refine aops_op rfl rfl rfl (by simp (disch := omega) [hbi, hclC]; rfl) ?_
  refine aops_nil ?_
  refine hK6 _ _ ?_
  refine awp_seq_k fun K7 hK7 => ?_
  refine awp_cond rfl (fun hc8 => ?_) fun hc8 => ?_
  · simp at hc8
    refine awp_skip ?_
    simp
    refine hK7 _ _ ?_
    refine awp_seq_k fun K9 hK9 => ?_
    refine awp_block ?_   -- block 1
    refine awp_seq_k fun K10 hK10 => ?_
    refine awp_region (by decide) ?_   -- region 4
    refine aops_op rfl rfl rfl (by simp (disch := omega) [hbi, hclC, hc8]; rfl) ?_
    refine aops_op rfl rfl rfl (by simp (disch := omega) [hbi, hclC, hc8]; rfl) ?_
    refine aops_nil ?_
    refine hK10 _ _ ?_
    refine awp_region (by decide) ?_   -- region 5
    refine aops_op rfl rfl rfl (by simp (disch := omega) [hbi, hclC, hc8]; rfl) ?_
    refine aops_op rfl rfl rfl (by simp (disch := omega) [hbi, hclC, hc8]; rfl) ?_
    refine aops_op rfl rfl rfl (by simp (disch := omega) [hbi, hclC, hc8]; rfl) ?_
    refine aops_op rfl rfl rfl (by simp (disch := omega) [hbi, hclC, hc8]; rfl) ?_
    refine aops_callP (u := ?pu11) rfl rfl rfl rfl (by simp (disch := omega) [hbi, hclC, hc8]; rfl) ?pk11 ?ph11
    case pk11 =>
      exact loc_Slot i _ (by omega) (by omega)
    refine aops_op rfl rfl rfl (by simp (disch := omega) [hbi, hclC, hc8]; rfl) ?_
    refine aops_op rfl rfl rfl (by simp (disch := omega) [hbi, hclC, hc8]; rfl) ?_
    refine aops_store rfl rfl rfl (by simp (disch := omega) [hbi, hclC, hc8]; rfl) (by rfl) (by simp (disch := omega) [hbi, hclC, hc8]; rfl) (by simp (disch := omega) [hbi, hclC, hc8]; rfl) (by simp (disch := omega) [hbi, hclC, hc8]; rfl) (by simp (disch := omega) [hbi, hclC, hc8]; rfl) (by rfl) (by simp [hclC] <;> omega) (by simp [setCells] <;> rfl) set_auto ?_
    refine aops_nil ?_
    refine hK9 _ _ ?_
    refine awp_region (by decide) ?_   -- region 6
    refine aops_op rfl rfl rfl (by simp (disch := omega) [hbi, hclC, hc8]; rfl) ?_
    refine aops_op rfl rfl rfl (by simp (disch := omega) [hbi, hclC, hc8]; rfl) ?_
    refine aops_nil ?_
    refine hK5 _ _ ?_   -- END OF ROUND
    refine loopTo4 (i + 1) rfl (by simp (disch := omega) [hbi, hclC, hc8]) (by simp [hbi, hclC, hc8]) sub_auto ?_ (by omega)
    refine ⟨by omega, ?_⟩
    have e := setCells_flat encP_len (⟨(i : Int), 2 * (i : Int) + 1⟩ : LPair) (invS n i) i (by rw [invS_len]; omega)
    rw [← invS_succ n i (by omega), ← e, ← hC]
    simp [setCells, encP]
  · simp at hc8
    refine awp_exit ?_   -- exit 0
    simp
    refine hK3 _ _ ?_
    refine awp_seq_k fun K12 hK12 => ?_
    refine awp_region (by decide) ?_   -- region 7
    refine aops_op rfl rfl rfl (by simp (disch := omega) [hbi, hclC, hc8]; rfl) ?_
    refine aops_op rfl rfl rfl (by simp (disch := omega) [hbi, hclC, hc8]; rfl) ?_
    refine aops_nil ?_
    refine hK12 _ _ ?_
    refine awp_lt fun hltE => ?_
    refine awp_ret ?_
    try simp only [thenA, blockA]
    refine fpost_retR hR' hlt_auto rfl (by simp (disch := omega) [hbi, hclC, hc8] <;> rfl) sub_auto ?_
    -- WAY 1
    refine ⟨?_, by simp [resV]; omega⟩
    simp only [resV]
    rw [hC, invS_all n i (by omega)] at hbi
    exact OwnS.mk (m := n * 2) (c := ((invM n).map encP).flatten) (invM n) (by simp [hbi]) encP_len rfl (by simp [invM_len]) (by simp) (by simp [maxLen]; omega) rfl
theorem sp_invariant' (r : Int) (H : AHeap) (h0 : 0 ≤ r) (h1 : r ≤ 1048576) : ACalls Try.prog 21 #[iv r] H fun v H' => Sub H H' ∧ (OwnS H' v 47 2 encP (invM r.toNat) ∧ (H.next : Int) ≤ ownId v) := by
  obtain ⟨n, rfl⟩ := Int.eq_ofNat_of_zero_le h0
  exact sp_invariant n H (by omega)

-- "slices.Clone[[]regcert/api.Instr,regcert/api.Instr]"  params ['[]api.Instr'] results ['[]api.Instr']
theorem cl_Instr (xs : List LInstr) (v : Value) (H : AHeap) (hf : SliceR H (flat encIn) 5 v xs) (hm : xs.length ≤ 1048576) : ACalls Try.prog 20 #[v] H fun v H' => Sub (H) H' ∧ (OwnS H' v 43 5 encIn xs ∧ (ownId v = -1 ∨ (H.next : Int) ≤ ownId v)) := by
  obtain ⟨a, c, rfl, hc1, hc2, hrow⟩ := hf.open
  refine acallsK (rs := [.tmp 2]) 8 Try.func20 rfl (by decide) rfl rfl (by simp) fun R' hR' hlt => ?_
  simp
  refine awp_seq_k fun K1 hK1 => ?_
  refine awp_region (by decide) ?_   -- region 0
  refine aops_op rfl rfl rfl (by simp (disch := omega) []; rfl) ?_
  refine aops_nil ?_
  refine hK1 _ _ ?_
  refine awp_seq_k fun K2 hK2 => ?_
  refine awp_seq_k fun K3 hK3 => ?_
  refine awp_region (by decide) ?_   -- region 1
  refine aops_op rfl rfl rfl (by simp (disch := omega) []; rfl) ?_
  refine aops_op rfl rfl rfl (by simp (disch := omega) []; rfl) ?_
  refine aops_nil ?_
  refine hK3 _ _ ?_
  refine awp_cond rfl (fun hc4 => ?_) fun hc4 => ?_
  · simp at hc4
    refine awp_seq_k fun K5 hK5 => ?_
    refine awp_region (by decide) ?_   -- region 2
    refine aops_op rfl rfl rfl (by simp (disch := omega) [hc4]; rfl) ?_
    refine aops_nil ?_
    refine hK5 _ _ ?_
    refine awp_lt fun hltE => ?_
    refine awp_ret ?_
    try simp only [thenA, blockA]
    refine fpost_retR hR' hlt_auto rfl (by simp (disch := omega) [hc4] <;> rfl) sub_auto ?_
    -- WAY 0
    have hnil : xs = [] := by rcases hrow with h | ⟨ad, cs, h, _⟩ <;> simp_all
    subst hnil
    simp only [resV]
    exact ⟨OwnS.nil, .inl rfl⟩
  · simp at hc4
    refine awp_skip ?_
    simp
    refine hK2 _ _ ?_
    refine awp_seq_k fun K6 hK6 => ?_
    refine awp_region (by decide) ?_   -- region 3
    refine aops_buildSlice0 rfl rfl rfl (by simp (disch := omega) [hc4]; rfl) (by simp) ?_
    intro b5 hb5; try simp only [AHeap.next_new, AHeap.next_set, next_ov, next_delV, AHeap.next_del, next_low] at hb5
    refine aops_op rfl rfl rfl (by simp (disch := omega) [hc4]; rfl) ?_
    refine aops_appS (enc := encIn) (ys := xs) rfl rfl rfl rfl rfl rfl (by simp (disch := omega) [hc4] <;> rfl) (by simp (disch := omega) [hc4] <;> rfl) (by first | exact ownId_mk _ _ _ _ | rfl) (OwnS.mk (el := 43) [] (AHeap.at_new_self _ _ _) encIn_len rfl rfl (by simp) (by simp [maxLen]) rfl) ?hy7n7 hlt_auto (fun _ => rfl) (by simp (disch := omega) [hc4] <;> rfl) (by simp (disch := omega) [hc4] <;> rfl) (by simp (disch := omega) [hc4] <;> rfl) (by simp (disch := omega) [hc4] <;> rfl) (by simp) (fun _ _ => by simp [encIn]) (by simp [maxLen]; omega) ?hh7n7
    case hy7n7 => exact (hf.sub encIn_ok sub_auto)
    intro v7 H7 s7 hl7 ho7 hi7 hj7 hn7
    have hcv7 := ho7.cells; have hcw7 := ho7.one; have hx7 := s7.next; simp at hx7; try simp only [AHeap.next_new, AHeap.next_set, next_ov, next_delV, AHeap.next_del, next_low] at hi7
    have hz7 := s7.nexts; try (conv at hz7 => rhs; simp only [AHeap.next_new, AHeap.next_set, next_ov, next_delV, AHeap.next_del, next_low])
    refine aops_op rfl rfl rfl (by simp (disch := omega) [hc4, hcv7, hcw7]; rfl) ?_
    refine aops_nil ?_
    refine hK6 _ _ ?_
    refine awp_lt fun hltE => ?_
    refine awp_ret ?_
    try simp only [thenA, blockA]
    refine fpost_retR hR' hlt_auto rfl (by simp (disch := omega) [hc4, hcv7, hcw7] <;> rfl) sub_auto ?_
    -- WAY 1
    simp only [resV]
    refine ⟨OwnS.keep (H := H7) (by simpa using ho7) keep_auto, ?_⟩
    simp at hi7
    omega

-- "regcert/regcertref07.Copy"  params ['api.Func'] results ['api.Func']
theorem ref07_Copy (f : LFunc) (v : Value) (H : AHeap) (hf : SliceR H rB 5 v f.blocks) (hs : f.blocks.length ≤ 1048576 ∧ ∀ b ∈ f.blocks, b.code.length ≤ 1048576) : ACalls Try.prog 7 #[.agg #[iv f.args, iv f.regs, v]] H fun v H' => Sub (H) H' ∧ ∃ w, v = .agg #[iv f.args, iv f.regs, w] ∧ OwnB 43 41 H' H.next w f.blocks := by
  obtain ⟨a, c, rfl, hc1, hc2, hrow⟩ := hf.open
  obtain ⟨hs1, hs2⟩ := hs
  refine acallsK (rs := [.cell 2 24]) 38 Try.func7 rfl (by decide) rfl rfl (by simp) fun R' hR' hlt => ?_
  simp
  refine awp_seq_k fun K1 hK1 => ?_
  refine awp_region (by decide) ?_   -- region 0
  refine aops_box rfl rfl rfl (by simp (disch := omega) []; rfl) (by simp (disch := omega) []; rfl) (by simp (disch := omega) []; rfl) ?_
  intro b1 hb1; try simp only [AHeap.next_new, AHeap.next_set, next_ov, next_delV, AHeap.next_del, next_low] at hb1
  refine aops_alloc rfl rfl rfl (by simp (disch := omega) []; rfl) (by simp (disch := omega) []; rfl) ?_
  intro b2 hb2; try simp only [AHeap.next_new, AHeap.next_set, next_ov, next_delV, AHeap.next_del, next_low] at hb2
  refine aops_nil ?_
  refine hK1 _ _ ?_
  refine awp_seq_k fun K2 hK2 => ?_
  refine awp_region (by decide) ?_   -- region 1
  refine aops_op rfl rfl rfl (by simp (disch := omega) []; rfl) ?_
  refine aops_op rfl rfl rfl (by simp (disch := omega) []; rfl) ?_
  refine aops_op rfl rfl rfl (by simp (disch := omega) []; rfl) ?_
  refine aops_op rfl rfl rfl (by simp (disch := omega) []; rfl) ?_
  refine aops_op rfl rfl rfl (by simp (disch := omega) []; rfl) ?_
  refine aops_alloc rfl rfl rfl (by simp (disch := omega) []; rfl) (by simp (disch := omega) []; rfl) ?_
  intro b3 hb3; try simp only [AHeap.next_new, AHeap.next_set, next_ov, next_delV, AHeap.next_del, next_low] at hb3
  refine aops_store rfl rfl rfl (by simp (disch := omega) []; rfl) (by rfl) (by simp (disch := omega) []; rfl) (by simp (disch := omega) []; rfl) (by simp (disch := omega) []; rfl) (by simp (disch := omega) []; rfl) (by rfl) (by simp <;> omega) (by simp [setCells] <;> rfl) set_auto ?_
  refine aops_nil ?_
  refine hK2 _ _ ?_
  refine awp_seq_k fun K3 hK3 => ?_
  refine awp_seq_k fun K4 hK4 => ?_
  refine awp_region (by decide) ?_   -- region 2
  refine aops_op rfl rfl rfl (by simp (disch := omega) []; rfl) ?_
  refine aops_nil ?_
  refine hK4 _ _ ?_
  refine awp_block ?_   -- block 0
  refine awp_lt fun hlt5 => ?_
  refine awp_loop4 [4, 10, 11, 12, 13, 14, 15, 16, 17, 18, 19, 20, 21, 22, 23, 24, 25, 26, 27, 28, 29, 30, 31, 32, 33, 34, 35, 36] (fun i : Nat × Value => [(4, iv i.1)]) (fun H => H.del b3) (fun i H' => i.1 ≤ f.blocks.length ∧ H'.at_ b3 = some (.cells [iv f.args, iv f.regs, i.2] 24 3) ∧ OwnB 43 41 H' (b3 + 1) i.2 (f.blocks.take i.1)) (fun i => f.blocks.length - i.1) ((0 : Nat), Value.slice none 0 0) (by simp) sub_auto (by exact ⟨by simp, by simp, by simpa [OwnB] using OwnN.nil⟩) ?_   -- LOOP
  rintro ⟨i, w⟩ H_i s_i hl_i ⟨hi1, hbi, hoi⟩ K5 hK5
  have hx_i := s_i.next; simp at hx_i
  have hz_i := s_i.nexts; try (conv at hz_i => rhs; simp only [AHeap.next_new, AHeap.next_set, next_ov, next_delV, AHeap.next_del, next_low])
  simp
  dsimp only at hi1 hbi hoi
  have hcvi := OwnN.cells hoi; have hcwi := OwnN.one hoi
  obtain ⟨ys, hy1, hy2, hy3, hy4⟩ := hoi
  have hyl := hy2.id_lt hl_i
  have hy5 : ys.length = i := by rw [hy1, List.length_take]; omega
  refine awp_seq_k fun K6 hK6 => ?_
  refine awp_seq_k fun K7 hK7 => ?_
  refine awp_region (by decide) ?_   -- region 3
  refine aops_op rfl rfl rfl (by simp (disch := omega) [hbi, hcvi, hcwi]; rfl) ?_
  refine aops_op rfl rfl rfl (by simp (disch := omega) [hbi, hcvi, hcwi]; rfl) ?_
  refine aops_op rfl rfl rfl (by simp (disch := omega) [hbi, hcvi, hcwi]; rfl) ?_
  refine aops_op rfl rfl rfl (by simp (disch := omega) [hbi, hcvi, hcwi]; rfl) ?_
  refine aops_op rfl rfl rfl (by simp (disch := omega) [hbi, hcvi, hcwi]; rfl) ?_
  refine aops_nil ?_
  refine hK7 _ _ ?_
  refine awp_cond rfl (fun hc8 => ?_) fun hc8 => ?_
  · simp at hc8
    refine awp_skip ?_
    simp
    refine hK6 _ _ ?_
    refine awp_seq_k fun K9 hK9 => ?_
    refine awp_block ?_   -- block 1
    obtain ⟨x, ad, v', hx, rfl, had, hN, h1, hx1⟩ := hrow.getB (i := i) (by omega)
    have hT := loadN_add hN 1 4 (by omega)
    simp [encT] at hT
    have hxs := hs2 x (List.mem_of_getElem? hx)
    refine awp_draw mixed [0, 1, 3, 4, 5, 6, 7, 8, 10, 11, 12, 13, 14, 15, 2, 9, 16, 17, 18, 19, 20] (by kernel_rfl) ?_   -- region 5
    refine awd_op rfl rfl rfl rfl rfl (by simp (disch := omega) [hbi, hcvi, hcwi, hc8, hT, h1]; rfl) ?_
    refine awd_ld rfl rfl rfl rfl rfl (by simp (disch := omega) [hbi, hcvi, hcwi, hc8, hT, h1]; rfl) ?_
    refine awd_op rfl rfl rfl rfl rfl (by simp (disch := omega) [hbi, hcvi, hcwi, hc8, hT, h1]; rfl) ?_
    refine awd_ld rfl rfl rfl rfl rfl (by simp (disch := omega) [hbi, hcvi, hcwi, hc8, hT, h1]; rfl) ?_
    refine awd_op rfl rfl rfl rfl rfl (by simp (disch := omega) [hbi, hcvi, hcwi, hc8, hT, h1]; rfl) ?_
    refine awd_op rfl rfl rfl rfl rfl (by simp (disch := omega) [hbi, hcvi, hcwi, hc8, hT, h1]; rfl) ?_
    refine awd_op rfl rfl rfl rfl rfl (by simp (disch := omega) [hbi, hcvi, hcwi, hc8, hT, h1]; rfl) ?_
    refine awd_ld rfl rfl rfl rfl rfl (by simp (disch := omega) [hbi, hcvi, hcwi, hc8, hT, h1]; rfl) ?_
    refine awd_op rfl rfl rfl rfl rfl (by simp (disch := omega) [hbi, hcvi, hcwi, hc8, hT, h1]; rfl) ?_
    refine awd_ld rfl rfl rfl rfl rfl (by simp (disch := omega) [hbi, hcvi, hcwi, hc8, hT, h1]; rfl) ?_
    refine awd_op rfl rfl rfl rfl rfl (by simp (disch := omega) [hbi, hcvi, hcwi, hc8, hT, h1]; rfl) ?_
    refine awd_op rfl rfl rfl rfl rfl (by simp (disch := omega) [hbi, hcvi, hcwi, hc8, hT, h1]; rfl) ?_
    refine awd_op rfl rfl rfl rfl rfl (by simp (disch := omega) [hbi, hcvi, hcwi, hc8, hT, h1]; rfl) ?_
    refine awd_ld rfl rfl rfl rfl rfl (by simp (disch := omega) [hbi, hcvi, hcwi, hc8, hT, h1]; rfl) ?_
    refine awd_buildSlice0 rfl rfl rfl rfl rfl (by simp (disch := omega) [hbi, hcvi, hcwi, hc8, hT, h1]; rfl) (by simp) ?_
    intro b19 hb19; try simp only [AHeap.next_new, AHeap.next_set, next_ov, next_delV, AHeap.next_del, next_low] at hb19
    refine ⟨(by simp (disch := omega) [Wt, hbi, hcvi, hcwi, hc8, hT, h1]), ?_⟩
    refine awd_appS (enc := encIn) (ys := x.code) rfl rfl rfl rfl rfl rfl rfl (by simp [fltW, waitsOn] <;> rfl) (by simp (disch := omega) [hbi, hcvi, hcwi, hc8, hT, h1] <;> rfl) (by simp (disch := omega) [hbi, hcvi, hcwi, hc8, hT, h1] <;> rfl) (by first | exact ownId_mk _ _ _ _ | rfl) (OwnS.mk (el := 43) [] (AHeap.at_new_self _ _ _) encIn_len rfl rfl (by simp) (by simp [maxLen]) rfl) ?hy26n10 hlt_auto (fun _ => rfl) (by simp (disch := omega) [hbi, hcvi, hcwi, hc8, hT, h1] <;> rfl) (by simp (disch := omega) [hbi, hcvi, hcwi, hc8, hT, h1] <;> rfl) (by simp (disch := omega) [hbi, hcvi, hcwi, hc8, hT, h1] <;> rfl) (by simp (disch := omega) [hbi, hcvi, hcwi, hc8, hT, h1] <;> rfl) (by simp) (fun _ _ => by simp [encIn]) (by simp [maxLen]; omega) ?hh26n10
    case hy26n10 => exact (hx1.sub encIn_ok sub_auto)
    intro v26 H26 s26 hl26 ho26 hi26 hj26 hn26
    have hcv26 := ho26.cells; have hcw26 := ho26.one; have hx26 := s26.next; simp at hx26; try simp only [AHeap.next_new, AHeap.next_set, next_ov, next_delV, AHeap.next_del, next_low] at hi26
    have hz26 := s26.nexts; try (conv at hz26 => rhs; simp only [AHeap.next_new, AHeap.next_set, next_ov, next_delV, AHeap.next_del, next_low])
    refine ⟨(by simp (disch := omega) [Wt, hbi, hcvi, hcwi, hc8, hT, h1]), ?_⟩
    refine awd_op rfl rfl rfl rfl rfl (by simp (disch := omega) [hbi, hcvi, hcwi, hc8, hT, h1, hcv26, hcw26]; rfl) ?_
    refine awd_buildSlice rfl rfl rfl rfl rfl (by simp (disch := omega) [hbi, hcvi, hcwi, hc8, hT, h1, hcv26, hcw26]; rfl) (by simp (disch := omega) [hbi, hcvi, hcwi, hc8, hT, h1, hcv26, hcw26]; rfl) (by simp (disch := omega) [hbi, hcvi, hcwi, hc8, hT, h1, hcv26, hcw26]; rfl) (by simp (disch := omega) [hbi, hcvi, hcwi, hc8, hT, h1, hcv26, hcw26]; rfl) (by simp) (by simp (disch := omega) [hbi, hcvi, hcwi, hc8, hT, h1, hcv26, hcw26, zrep, List.replicate]; rfl) (by simp <;> rfl) ?_
    intro b34 hb34; try simp only [AHeap.next_new, AHeap.next_set, next_ov, next_delV, AHeap.next_del, next_low] at hb34
    refine ⟨(by simp (disch := omega) [Wt, hbi, hcvi, hcwi, hc8, hT, h1, hcv26, hcw26]), ?_⟩
    refine awd_appS (enc := encYB) (ys := [(v26, x.term)]) rfl rfl rfl rfl rfl rfl rfl (by simp [fltW, waitsOn] <;> rfl) (by simp (disch := omega) [hbi, hcvi, hcwi, hc8, hT, h1, hcv26, hcw26] <;> rfl) (by simp (disch := omega) [hbi, hcvi, hcwi, hc8, hT, h1, hcv26, hcw26] <;> rfl) (by first | exact ownId_mk _ _ _ _ | rfl) (hy2.keep keep_auto) ?hy35n11 hlt_auto (fun _ => rfl) (by simp (disch := omega) [hbi, hcvi, hcwi, hc8, hT, h1, hcv26, hcw26] <;> rfl) (by simp (disch := omega) [hbi, hcvi, hcwi, hc8, hT, h1, hcv26, hcw26] <;> rfl) (by simp (disch := omega) [hbi, hcvi, hcwi, hc8, hT, h1, hcv26, hcw26] <;> rfl) (by simp (disch := omega) [hbi, hcvi, hcwi, hc8, hT, h1, hcv26, hcw26] <;> rfl) (by simp) (by simp [encYB, encT, hcw26]) (by simp [maxLen]; omega) ?hh35n11
    case hy35n11 => exact (SliceR.own (enc := encYB) encYB_len [(v26, x.term)] (AHeap.at_new_self _ _ _) (by first | omega | (simp <;> omega)) (by simp [encYB, encT]) rfl (by simp) (by simp [maxLen]))
    intro v35 H35 s35 hl35 ho35 hi35 hj35 hn35
    have hcv35 := ho35.cells; have hcw35 := ho35.one; have hx35 := s35.next; simp at hx35; try simp only [AHeap.next_new, AHeap.next_set, next_ov, next_delV, AHeap.next_del, next_low] at hi35
    have hz35 := s35.nexts; try (conv at hz35 => rhs; simp only [AHeap.next_new, AHeap.next_set, next_ov, next_delV, AHeap.next_del, next_low])
    refine ⟨(by simp (disch := omega) [Wt, hbi, hcvi, hcwi, hc8, hT, h1, hcv26, hcw26]), ?_⟩
    refine awd_op rfl rfl rfl rfl rfl (by simp (disch := omega) [hbi, hcvi, hcwi, hc8, hT, h1, hcv26, hcw26, hcv35, hcw35]; rfl) ?_
    refine awd_store rfl rfl rfl rfl rfl (by simp (disch := omega) [hbi, hcvi, hcwi, hc8, hT, h1, hcv26, hcw26, hcv35, hcw35]; rfl) (by rfl) (by simp (disch := omega) [hbi, hcvi, hcwi, hc8, hT, h1, hcv26, hcw26, hcv35, hcw35]; rfl) (by simp (disch := omega) [hbi, hcvi, hcwi, hc8, hT, h1, hcv26, hcw26, hcv35, hcw35]; rfl) (by simp (disch := omega) [hbi, hcvi, hcwi, hc8, hT, h1, hcv26, hcw26, hcv35, hcw35]; rfl) (by simp (disch := omega) [hbi, hcvi, hcwi, hc8, hT, h1, hcv26, hcw26, hcv35, hcw35]; rfl) (by rfl) (by simp [hcwi, hcw26, hcw35] <;> omega) (by simp [setCells] <;> rfl) set_auto ⟨(by simp (disch := omega) [Wt, hbi, hcvi, hcwi, hc8, hT, h1, hcv26, hcw26, hcv35, hcw35]), ?_⟩
    refine awd_nil ?_
    refine hK9 _ _ ?_
    refine awp_region (by decide) ?_   -- region 4
    refine aops_op rfl rfl rfl (by simp (disch := omega) [hbi, hcvi, hcwi, hc8, hT, h1, hcv26, hcw26, hcv35, hcw35]; rfl) ?_
    refine aops_op rfl rfl rfl (by simp (disch := omega) [hbi, hcvi, hcwi, hc8, hT, h1, hcv26, hcw26, hcv35, hcw35]; rfl) ?_
    refine aops_op rfl rfl rfl (by simp (disch := omega) [hbi, hcvi, hcwi, hc8, hT, h1, hcv26, hcw26, hcv35, hcw35]; rfl) ?_
    refine aops_nil ?_
    refine hK5 _ _ ?_   -- END OF ROUND
    refine loopTo4 ((i + 1, v35)) rfl (by simp (disch := omega) [hbi, hcvi, hcwi, hc8, hT, h1, hcv26, hcw26, hcv35, hcw35]) (by simp [hbi, hcvi, hcwi, hc8, hT, h1, hcv26, hcw26, hcv35, hcw35]) sub_auto ?_ (by simp; omega)
    refine ⟨by simp; omega, by simp [hcw35], ?_⟩
    have hres : OwnB 43 41 H35 (b3 + 1) v35 (f.blocks.take i ++ [x]) := by
      refine OwnN.snoc (ts := [43]) (y := (v26, x.term)) (by rw [hy1]) ho35 (by omega) (fun j y z h1 h2 => ?_) ⟨rfl, ?_⟩
      · exact (rinB_ok _).keep (KeepA.app s35 (hy2.keep keep_auto) keepA_auto) (by simp) (hy4 j y z h1 h2)
      · have k26 : KeepO H26 (AHeap.ov _ H35 s35) v26 := keep_auto
        exact OwnS.own (OwnS.keep (H := H26) (X := H35) (by simpa using ho26) k26) (by simp at hi26 ⊢; omega)
    rw [show f.blocks.take (i + 1) = f.blocks.take i ++ [x] from by rw [List.take_add_one, hx]; rfl]
    exact OwnN.keepA (rinB_ok _) keepA_auto hres
  · simp at hc8
    refine awp_exit ?_   -- exit 0
    simp
    refine hK3 _ _ ?_
    refine awp_seq_k fun K12 hK12 => ?_
    refine awp_region (by decide) ?_   -- region 6
    refine aops_op rfl rfl rfl (by simp (disch := omega) [hbi, hcvi, hcwi, hc8]; rfl) ?_
    refine aops_store rfl rfl rfl (by simp (disch := omega) [hbi, hcvi, hcwi, hc8]; rfl) (by rfl) (by simp (disch := omega) [hbi, hcvi, hcwi, hc8]; rfl) (by simp (disch := omega) [hbi, hcvi, hcwi, hc8]; rfl) (by simp (disch := omega) [hbi, hcvi, hcwi, hc8]; rfl) (by simp (disch := omega) [hbi, hcvi, hcwi, hc8]; rfl) (by rfl) (by simp [hcwi] <;> omega) (by simp [setCells] <;> rfl) set_auto ?_
    refine aops_nil ?_
    refine hK12 _ _ ?_
    refine awp_lt fun hltE => ?_
    refine awp_ret ?_
    try simp only [thenA, blockA]
    refine fpost_retR hR' hlt_auto rfl (by simp (disch := omega) [hbi, hcvi, hcwi, hc8] <;> rfl) sub_auto ?_
    -- WAY 1
    refine ⟨w, by simp [resV], ?_⟩
    exact OwnN.le (rinB_ok _) (by omega) (OwnN.keepA (rinB_ok _) (show KeepA H_i _ (b3 + 1) from keepA_auto) (show OwnB _ _ H_i (b3 + 1) w f.blocks from ⟨ys, by rw [hy1, List.take_of_length_le (by omega)], hy2, hy3, fun j y z h1 h2 => hy4 j y z h1 (by rw [List.take_of_length_le (by omega)]; exact h2)⟩))

end Go.Proofs.Yteklhgmoniaieaa.Fn
