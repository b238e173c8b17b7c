import Derived.Test.YteklhgmoniaieaaAhTypes
import Derived.Test.YteklhgmoniaieaaAhFe
set_option linter.unusedVariables false
set_option maxRecDepth 20000
set_option maxHeartbeats 10000000
set_option linter.unusedSimpArgs false
namespace Go.Proofs.Yteklhgmoniaieaa.Fn
open Go.Proofs.YteklhgmoniaieaaAh Go.Proofs.Yteklhgmoniaieaa.Ty
-- "regcert/spillall.Cert"  params ['api.Func'] results ['api.Cert', 'api.Errno']
theorem sp_Cert (f : LFunc) (v : Value) (H : AHeap) (hf : SliceR H rB 5 v f.blocks) (hs : fewB f = true) : ACalls Try.prog 8 #[.agg #[iv f.args, iv f.regs, v]] H fun v H' => Sub (H) H' ∧ ∃ s t w, v = .tuple #[.agg #[iv (certR f).1.s.args, iv (certR f).1.s.regs, s, iv (certR f).1.t.args, iv (certR f).1.t.regs, iv (certR f).1.t.slots, t, w], iv (certR f).2] ∧ OwnB 43 41 H' H.next s (certR f).1.s.blocks ∧ OwnMB 66 63 H' H.next t (certR f).1.t.blocks ∧ OwnW 47 44 H' H.next w (certR f).1.w := by
  obtain ⟨a, c, rfl, hc1, hc2, hrow⟩ := hf.open
  obtain ⟨hw1, hw2, hw3, hw4⟩ := few_ok hs
  refine acallsK (rs := [.cell 2 33, .tmp 3]) 93 Try.func8 rfl (by decide) rfl rfl (by simp) fun R' hR' hlt => ?_
  simp
  refine awp_seq_k fun K1 hK1 => ?_
  refine awp_region (by decide) ?_   -- region 0
  refine aops_box rfl rfl rfl (by simp (disch := omega) []; rfl) (by simp (disch := omega) []; rfl) (by simp (disch := omega) []; rfl) ?_
  intro b1 hb1; try simp only [AHeap.next_new, AHeap.next_set, next_ov, next_delV, AHeap.next_del, next_low] at hb1
  refine aops_alloc rfl rfl rfl (by simp (disch := omega) []; rfl) (by simp (disch := omega) []; rfl) ?_
  intro b2 hb2; try simp only [AHeap.next_new, AHeap.next_set, next_ov, next_delV, AHeap.next_del, next_low] at hb2
  refine aops_op rfl rfl rfl (by simp (disch := omega) []; rfl) ?_
  refine aops_nil ?_
  refine hK1 _ _ ?_
  refine awp_seq_k fun K2 hK2 => ?_
  refine awp_seq_k fun K3 hK3 => ?_
  refine awp_region (by decide) ?_   -- region 1
  refine aops_op rfl rfl rfl (by simp (disch := omega) []; rfl) ?_
  refine aops_callP (u := ?pu4) rfl rfl rfl rfl (by simp (disch := omega) []; rfl) ?pk4 ?ph4
  case pk4 =>
    refine src_Check f _ _ ?_ ?_
    · exact hf.sub rB_ok sub_auto
    · omega
  refine aops_op rfl rfl rfl (by simp (disch := omega) []; rfl) ?_
  refine aops_nil ?_
  refine hK3 _ _ ?_
  refine awp_seq_k fun K5 hK5 => ?_
  refine awp_region (by decide) ?_   -- region 2
  refine aops_op rfl rfl rfl (by simp (disch := omega) []; rfl) ?_
  refine aops_op rfl rfl rfl (by simp (disch := omega) []; rfl) ?_
  refine aops_nil ?_
  refine hK5 _ _ ?_
  refine awp_cond rfl (fun hc6 => ?_) fun hc6 => ?_
  · simp at hc6
    refine awp_seq_k fun K7 hK7 => ?_
    refine awp_region (by decide) ?_   -- region 3
    refine aops_op rfl rfl rfl (by simp (disch := omega) [hc6]; rfl) ?_
    refine aops_op rfl rfl rfl (by simp (disch := omega) [hc6]; rfl) ?_
    refine aops_store rfl rfl rfl (by simp (disch := omega) [hc6]; rfl) (by rfl) (by simp (disch := omega) [hc6]; rfl) (by simp (disch := omega) [hc6]; rfl) (by simp (disch := omega) [hc6]; rfl) (by simp (disch := omega) [hc6]; rfl) (by rfl) (by simp [] <;> omega) (by simp [setCells] <;> rfl) set_auto ?_
    refine aops_op rfl rfl rfl (by simp (disch := omega) [hc6]; rfl) ?_
    refine aops_nil ?_
    refine hK7 _ _ ?_
    refine awp_lt fun hltE => ?_
    refine awp_ret ?_
    try simp only [thenA, blockA]
    refine fpost_retR hR' hlt_auto rfl (by simp (disch := omega) [hc6] <;> rfl) sub_auto ?_
    -- WAY 0
    have hR : certR f = (zeroC, checkF f) := by unfold certR; grind
    rw [hR]
    exact ⟨_, _, _, by simp [resV, zeroC] <;> rfl, OwnN.nil, OwnN.nil, OwnN.nil⟩
  · simp at hc6
    refine awp_skip ?_
    simp
    refine hK2 _ _ ?_
    refine awp_seq_k fun K8 hK8 => ?_
    refine awp_region (by decide) ?_   -- region 4
    refine aops_op rfl rfl rfl (by simp (disch := omega) [hc6]; rfl) ?_
    refine aops_op rfl rfl rfl (by simp (disch := omega) [hc6]; rfl) ?_
    refine aops_op rfl rfl rfl (by simp (disch := omega) [hc6]; rfl) ?_
    refine aops_op rfl rfl rfl (by simp (disch := omega) [hc6]; rfl) ?_
    refine aops_op rfl rfl rfl (by simp (disch := omega) [hc6]; rfl) ?_
    refine aops_op rfl rfl rfl (by simp (disch := omega) [hc6]; rfl) ?_
    refine aops_op rfl rfl rfl (by simp (disch := omega) [hc6]; rfl) ?_
    refine aops_op rfl rfl rfl (by simp (disch := omega) [hc6]; rfl) ?_
    refine aops_op rfl rfl rfl (by simp (disch := omega) [hc6]; rfl) ?_
    refine aops_op rfl rfl rfl (by simp (disch := omega) [hc6]; rfl) ?_
    refine aops_op rfl rfl rfl (by simp (disch := omega) [hc6]; rfl) ?_
    refine aops_alloc rfl rfl rfl (by simp (disch := omega) [hc6]; rfl) (by simp (disch := omega) [hc6]; rfl) ?_
    intro b5 hb5; try simp only [AHeap.next_new, AHeap.next_set, next_ov, next_delV, AHeap.next_del, next_low] at hb5
    refine aops_store rfl rfl rfl (by simp (disch := omega) [hc6]; rfl) (by rfl) (by simp (disch := omega) [hc6]; rfl) (by simp (disch := omega) [hc6]; rfl) (by simp (disch := omega) [hc6]; rfl) (by simp (disch := omega) [hc6]; rfl) (by rfl) (by simp [] <;> omega) (by simp [setCells] <;> rfl) set_auto ?_
    refine aops_nil ?_
    refine hK8 _ _ ?_
    refine awp_seq_k fun K9 hK9 => ?_
    refine awp_seq_k fun K10 hK10 => ?_
    have hpre := pre_ok (check_ok (by assumption)).1
    have hpr1 : 0 ≤ (f.blocks.length : Int) * f.regs := Int.mul_nonneg (by omega) (by omega)
    have hpr2 : (f.blocks.length : Int) * f.regs ≤ 40 * 60 := Int.mul_le_mul (by omega) (by omega) (by omega) (by omega)
    refine awp_region (by decide) ?_   -- region 5
    refine aops_op rfl rfl rfl (by simp (disch := omega) [hc6]; rfl) ?_
    refine aops_op rfl rfl rfl (by simp (disch := omega) [hc6]; rfl) ?_
    refine aops_op rfl rfl rfl (by simp (disch := omega) [hc6]; rfl) ?_
    refine aops_op rfl rfl rfl (by simp (disch := omega) [hc6]; rfl) ?_
    refine aops_op rfl rfl rfl (by simp (disch := omega) [hc6]; rfl) ?_
    refine aops_op rfl rfl rfl (by simp (disch := omega) [hc6]; rfl) ?_
    refine aops_op rfl rfl rfl (by simp (disch := omega) [hc6]; rfl) ?_
    refine aops_nil ?_
    refine hK10 _ _ ?_
    refine awp_cond rfl (fun hc11 => ?_) fun hc11 => ?_
    · simp at hc11
      refine awp_seq_k fun K12 hK12 => ?_
      refine awp_region (by decide) ?_   -- region 6
      refine aops_op rfl rfl rfl (by simp (disch := omega) [hc6, hc11]; rfl) ?_
      refine aops_store rfl rfl rfl (by simp (disch := omega) [hc6, hc11]; rfl) (by rfl) (by simp (disch := omega) [hc6, hc11]; rfl) (by simp (disch := omega) [hc6, hc11]; rfl) (by simp (disch := omega) [hc6, hc11]; rfl) (by simp (disch := omega) [hc6, hc11]; rfl) (by rfl) (by simp [] <;> omega) (by simp [setCells] <;> rfl) set_auto ?_
      refine aops_op rfl rfl rfl (by simp (disch := omega) [hc6, hc11]; rfl) ?_
      refine aops_nil ?_
      refine hK12 _ _ ?_
      refine awp_lt fun hltE => ?_
      refine awp_ret ?_
      try simp only [thenA, blockA]
      refine fpost_retR hR' hlt_auto rfl (by simp (disch := omega) [hc6, hc11] <;> rfl) sub_auto ?_
      -- WAY 10
      have hR : certR f = (zeroC, 6) := by unfold certR; grind
      rw [hR]
      exact ⟨_, _, _, by simp [resV, zeroC] <;> rfl, OwnN.nil, OwnN.nil, OwnN.nil⟩
    · simp at hc11
      refine awp_skip ?_
      simp
      refine hK9 _ _ ?_
      refine awp_seq_k fun K13 hK13 => ?_
      refine awp_region (by decide) ?_   -- region 7
      refine aops_op rfl rfl rfl (by simp (disch := omega) [hc6, hc11]; rfl) ?_
      refine aops_op rfl rfl rfl (by simp (disch := omega) [hc6, hc11]; rfl) ?_
      refine aops_nil ?_
      refine hK13 _ _ ?_
      refine awp_seq_k fun K14 hK14 => ?_
      refine awp_seq_k fun K15 hK15 => ?_
      refine awp_region (by decide) ?_   -- region 8
      refine aops_op rfl rfl rfl (by simp (disch := omega) [hc6, hc11]; rfl) ?_
      refine aops_op rfl rfl rfl (by simp (disch := omega) [hc6, hc11]; rfl) ?_
      refine aops_op rfl rfl rfl (by simp (disch := omega) [hc6, hc11]; rfl) ?_
      refine aops_op rfl rfl rfl (by simp (disch := omega) [hc6, hc11]; rfl) ?_
      refine aops_nil ?_
      refine hK15 _ _ ?_
      refine awp_block ?_   -- block 0
      refine awp_lt fun hlt16 => ?_
      refine awp_loop4 [6, 7, 9, 10, 39, 40, 41, 42, 43, 44, 45, 46, 47, 48, 49, 50, 51, 52, 53, 54, 55, 56, 57, 58, 59, 60, 61, 62, 63, 64, 65, 66, 67, 68, 69, 70, 71, 72, 73, 74, 75, 76, 77, 78, 79, 80, 81, 82, 83] (fun i : Nat × Value × Value × Value => [(39, iv i.1), (6, iv (codeMB (f.blocks.take i.1))), (7, iv (runB (f.blocks.take i.1)))]) (fun H => H.del b5) (fun i H' => i.1 ≤ f.blocks.length ∧ H'.at_ b5 = some (.cells [iv f.args, iv f.regs, i.2.1, iv f.args, iv 2, iv f.regs, i.2.2.1, i.2.2.2] 33 8) ∧ OwnB 43 41 H' (b5 + 1) i.2.1 (f.blocks.take i.1) ∧ OwnMB 66 63 H' (b5 + 1) i.2.2.1 ((f.blocks.take i.1).map blkM) ∧ OwnW 47 44 H' (b5 + 1) i.2.2.2 ((f.blocks.take i.1).map fun _ => invM f.regs.toNat)) (fun i => f.blocks.length - i.1) ((0 : Nat), Value.slice none 0 0, Value.slice none 0 0, Value.slice none 0 0) (by simp [codeMB_nil, runB]) sub_auto (by exact ⟨by simp, by simp, by simpa [OwnB] using OwnN.nil, by simpa [OwnMB] using OwnN.nil, by simpa [OwnW] using OwnN.nil⟩) ?_   -- LOOP
      rintro ⟨i, vs, vt, vw⟩ H_i s_i hl_i ⟨hi1, hbi, hos, hot, how⟩ K16 hK16
      have hx_i := s_i.next; simp at hx_i
      have hz_i := s_i.nexts; try (conv at hz_i => rhs; simp only [AHeap.next_new, AHeap.next_set, next_ov, next_delV, AHeap.next_del, next_low])
      simp
      dsimp only at hi1 hbi hos hot how
      have hcvs := OwnN.cells hos; have hcws := OwnN.one hos; have hcvt := OwnN.cells hot; have hcwt := OwnN.one hot; have hcvw := OwnN.cells how; have hcww := OwnN.one how
      have hcl1 : codeMB (f.blocks.take i) ≤ _ := codeMB_tle f.blocks i; have hcl2 : 0 ≤ codeMB (f.blocks.take i) := codeM_nn ((f.blocks.take i).map blkM); have hrl := runB_tle hw4 i
      have htl := OwnN.id_lt hl_i hot; have hwl := OwnN.id_lt hl_i how
      refine awp_seq_k fun K17 hK17 => ?_
      refine awp_region (by decide) ?_   -- region 9
      refine aops_op rfl rfl rfl (by simp (disch := omega) [hc6, hc11, hbi, hcvs, hcvt, hcvw, hcws, hcwt, hcww]; rfl) ?_
      refine aops_nil ?_
      refine hK17 _ _ ?_
      refine awp_seq_k fun K18 hK18 => ?_
      refine awp_cond rfl (fun hc19 => ?_) fun hc19 => ?_
      · simp at hc19
        refine awp_skip ?_
        simp
        refine hK18 _ _ ?_
        refine awp_seq_k fun K20 hK20 => ?_
        refine awp_block ?_   -- block 1
        refine awp_seq_k fun K21 hK21 => ?_
        obtain ⟨x, ad, v', hx, rfl, had, hN, h1, hx1⟩ := hrow.getB (i := i) (by omega)
        simp only [encT] at hN
        have hxs := hw4 x (List.mem_of_getElem? hx)
        have hbo := (check_ok (by assumption)).2 i x hx
        have hbl := blkM_len x
        have hcvx := hx1.cells; have hcwx := hx1.one
        refine awp_region (by decide) ?_   -- region 10
        refine aops_op rfl rfl rfl (by simp (disch := omega) [hc6, hc11, hbi, hcvs, hcvt, hcvw, hcws, hcwt, hcww, hc19, hN, hcvx, hcwx]; rfl) ?_
        refine aops_op rfl rfl rfl (by simp (disch := omega) [hc6, hc11, hbi, hcvs, hcvt, hcvw, hcws, hcwt, hcww, hc19, hN, hcvx, hcwx]; rfl) ?_
        refine aops_alloc rfl rfl rfl (by simp (disch := omega) [hc6, hc11, hbi, hcvs, hcvt, hcvw, hcws, hcwt, hcww, hc19, hN, hcvx, hcwx]; rfl) (by simp (disch := omega) [hc6, hc11, hbi, hcvs, hcvt, hcvw, hcws, hcwt, hcww, hc19, hN, hcvx, hcwx]; rfl) ?_
        intro b9 hb9; try simp only [AHeap.next_new, AHeap.next_set, next_ov, next_delV, AHeap.next_del, next_low] at hb9
        refine aops_store rfl rfl rfl (by simp (disch := omega) [hc6, hc11, hbi, hcvs, hcvt, hcvw, hcws, hcwt, hcww, hc19, hN, hcvx, hcwx]; rfl) (by rfl) (by simp (disch := omega) [hc6, hc11, hbi, hcvs, hcvt, hcvw, hcws, hcwt, hcww, hc19, hN, hcvx, hcwx]; rfl) (by simp (disch := omega) [hc6, hc11, hbi, hcvs, hcvt, hcvw, hcws, hcwt, hcww, hc19, hN, hcvx, hcwx]; rfl) (by simp (disch := omega) [hc6, hc11, hbi, hcvs, hcvt, hcvw, hcws, hcwt, hcww, hc19, hN, hcvx, hcwx]; rfl) (by simp (disch := omega) [hc6, hc11, hbi, hcvs, hcvt, hcvw, hcws, hcwt, hcww, hc19, hN, hcvx, hcwx]; rfl) (by rfl) (by simp [hcws, hcwt, hcww, hcwx] <;> omega) (by simp [setCells] <;> rfl) set_auto ?_
        refine aops_nil ?_
        refine hK21 _ _ ?_
        refine awp_seq_k fun K22 hK22 => ?_
        refine awp_region (by decide) ?_   -- region 11
        refine aops_op rfl rfl rfl (by simp (disch := omega) [hc6, hc11, hbi, hcvs, hcvt, hcvw, hcws, hcwt, hcww, hc19, hN, hcvx, hcwx]; rfl) ?_
        refine aops_callR (H1 := ?Q44n23) (R := ?R44n23) rfl rfl rfl rfl (by simp (disch := omega) [hc6, hc11, hbi, hcvs, hcvt, hcvw, hcws, hcwt, hcww, hc19, hN, hcvx, hcwx]; rfl) ?hk44n23 ?hh44n23
        case hk44n23 =>
          refine sp_Block x v' f.regs f.blocks.length _ ?_ ?_ ?_ ?_
          · exact hx1.sub encIn_ok sub_auto
          · exact hbo
          · omega
          · omega
        intro v44 H44 s44 hl44 hR44
        have hx44 := s44.next; simp at hx44
        have hz44 := s44.nexts; try (conv at hz44 => rhs; simp only [AHeap.next_new, AHeap.next_set, next_ov, next_delV, AHeap.next_del, next_low])
        obtain ⟨u44, rfl, ho44, hi44⟩ := hR44
        have hj44 := ho44.id_lt hl44
        try simp only [AHeap.next_new, AHeap.next_set, next_ov, next_delV, AHeap.next_del, next_low] at hi44
        have hcv44 := ho44.cells; have hcw44 := ho44.one
        obtain ⟨a44, c44, rfl, hc144, hc244, hrow44⟩ := (ho44.slice hl44 encM_len).open
        refine aops_alloc rfl rfl rfl (by simp (disch := omega) [hc6, hc11, hbi, hcvs, hcvt, hcvw, hcws, hcwt, hcww, hc19, hN, hcvx, hcwx]; rfl) (by simp (disch := omega) [hc6, hc11, hbi, hcvs, hcvt, hcvw, hcws, hcwt, hcww, hc19, hN, hcvx, hcwx]; rfl) ?_
        intro b10 hb10; try simp only [AHeap.next_new, AHeap.next_set, next_ov, next_delV, AHeap.next_del, next_low] at hb10
        refine aops_store rfl rfl rfl (by simp (disch := omega) [hc6, hc11, hbi, hcvs, hcvt, hcvw, hcws, hcwt, hcww, hc19, hN, hcvx, hcwx]; rfl) (by rfl) (by simp (disch := omega) [hc6, hc11, hbi, hcvs, hcvt, hcvw, hcws, hcwt, hcww, hc19, hN, hcvx, hcwx]; rfl) (by simp (disch := omega) [hc6, hc11, hbi, hcvs, hcvt, hcvw, hcws, hcwt, hcww, hc19, hN, hcvx, hcwx]; rfl) (by simp (disch := omega) [hc6, hc11, hbi, hcvs, hcvt, hcvw, hcws, hcwt, hcww, hc19, hN, hcvx, hcwx]; rfl) (by simp (disch := omega) [hc6, hc11, hbi, hcvs, hcvt, hcvw, hcws, hcwt, hcww, hc19, hN, hcvx, hcwx]; rfl) (by rfl) (by simp [hcws, hcwt, hcww, hcwx] <;> omega) (by simp [setCells] <;> rfl) set_auto ?_
        refine aops_nil ?_
        refine hK22 _ _ ?_
        refine awp_seq_k fun K24 hK24 => ?_
        refine awp_draw mixed [0, 1, 2, 3, 4, 5, 6, 7, 8, 9, 10] (by kernel_rfl) ?_   -- region 12
        refine awd_op rfl rfl rfl rfl rfl (by simp (disch := omega) [hc6, hc11, hbi, hcvs, hcvt, hcvw, hcws, hcwt, hcww, hc19, hN, hcvx, hcwx]; rfl) ?_
        refine awd_op rfl rfl rfl rfl rfl (by simp (disch := omega) [hc6, hc11, hbi, hcvs, hcvt, hcvw, hcws, hcwt, hcww, hc19, hN, hcvx, hcwx]; rfl) ?_
        refine awd_ld rfl rfl rfl rfl rfl (by simp (disch := omega) [hc6, hc11, hbi, hcvs, hcvt, hcvw, hcws, hcwt, hcww, hc19, hN, hcvx, hcwx]; rfl) ?_
        refine awd_op rfl rfl rfl rfl rfl (by simp (disch := omega) [hc6, hc11, hbi, hcvs, hcvt, hcvw, hcws, hcwt, hcww, hc19, hN, hcvx, hcwx]; rfl) ?_
        refine awd_op rfl rfl rfl rfl rfl (by simp (disch := omega) [hc6, hc11, hbi, hcvs, hcvt, hcvw, hcws, hcwt, hcww, hc19, hN, hcvx, hcwx]; rfl) ?_
        refine awd_op rfl rfl rfl rfl rfl (by simp (disch := omega) [hc6, hc11, hbi, hcvs, hcvt, hcvw, hcws, hcwt, hcww, hc19, hN, hcvx, hcwx]; rfl) ?_
        refine awd_ld rfl rfl rfl rfl rfl (by simp (disch := omega) [hc6, hc11, hbi, hcvs, hcvt, hcvw, hcws, hcwt, hcww, hc19, hN, hcvx, hcwx]; rfl) ?_
        refine awd_callR (H1 := ?Q52n25) (R := ?R52n25) rfl rfl rfl rfl rfl rfl (by simp (disch := omega) [hc6, hc11, hbi, hcvs, hcvt, hcvw, hcws, hcwt, hcww, hc19, hN, hcvx, hcwx]; rfl) ?hk52n25 ?hh52n25
        case hk52n25 =>
          refine sp_Moves x v' f.regs f.blocks.length _ ?_ ?_ ?_ ?_
          · exact hx1.sub encIn_ok sub_auto
          · exact hbo
          · omega
          · omega
        intro v52 H52 s52 hl52 hR52
        have hx52 := s52.next; simp at hx52
        have hz52 := s52.nexts; try (conv at hz52 => rhs; simp only [AHeap.next_new, AHeap.next_set, next_ov, next_delV, AHeap.next_del, next_low])
        obtain rfl := hR52
        have hrl2 := runL_movesM_le (blkM x).code
        refine ⟨(by simp (disch := omega) [Wt, hc6, hc11, hbi, hcvs, hcvt, hcvw, hcws, hcwt, hcww, hc19, hN, hcvx, hcwx]), ?_⟩
        refine awd_op rfl rfl rfl rfl rfl (by simp (disch := omega) [hc6, hc11, hbi, hcvs, hcvt, hcvw, hcws, hcwt, hcww, hc19, hN, hcvx, hcwx]; rfl) ?_
        refine awd_op rfl rfl rfl rfl rfl (by simp (disch := omega) [hc6, hc11, hbi, hcvs, hcvt, hcvw, hcws, hcwt, hcww, hc19, hN, hcvx, hcwx]; rfl) ?_
        refine awd_op rfl rfl rfl rfl rfl (by simp (disch := omega) [hc6, hc11, hbi, hcvs, hcvt, hcvw, hcws, hcwt, hcww, hc19, hN, hcvx, hcwx]; rfl) ?_
        refine awd_nil ?_
        refine hK24 _ _ ?_
        refine awp_seq_k fun K26 hK26 => ?_
        refine awp_draw mixed [0, 1, 2, 3, 4, 6, 7, 5, 8, 9, 10, 11, 12, 13] (by kernel_rfl) ?_   -- region 13
        refine awd_op rfl rfl rfl rfl rfl (by simp (disch := omega) [hc6, hc11, hbi, hcvs, hcvt, hcvw, hcws, hcwt, hcww, hc19, hN, hcvx, hcwx]; rfl) ?_
        refine awd_op rfl rfl rfl rfl rfl (by simp (disch := omega) [hc6, hc11, hbi, hcvs, hcvt, hcvw, hcws, hcwt, hcww, hc19, hN, hcvx, hcwx]; rfl) ?_
        refine awd_ld rfl rfl rfl rfl rfl (by simp (disch := omega) [hc6, hc11, hbi, hcvs, hcvt, hcvw, hcws, hcwt, hcww, hc19, hN, hcvx, hcwx]; rfl) ?_
        refine awd_op rfl rfl rfl rfl rfl (by simp (disch := omega) [hc6, hc11, hbi, hcvs, hcvt, hcvw, hcws, hcwt, hcww, hc19, hN, hcvx, hcwx]; rfl) ?_
        refine awd_ld rfl rfl rfl rfl rfl (by simp (disch := omega) [hc6, hc11, hbi, hcvs, hcvt, hcvw, hcws, hcwt, hcww, hc19, hN, hcvx, hcwx]; rfl) ?_
        refine awd_op rfl rfl rfl rfl rfl (by simp (disch := omega) [hc6, hc11, hbi, hcvs, hcvt, hcvw, hcws, hcwt, hcww, hc19, hN, hcvx, hcwx]; rfl) ?_
        refine awd_ld rfl rfl rfl rfl rfl (by simp (disch := omega) [hc6, hc11, hbi, hcvs, hcvt, hcvw, hcws, hcwt, hcww, hc19, hN, hcvx, hcwx]; rfl) ?_
        refine awd_callR (H1 := ?Q59n27) (R := ?R59n27) rfl rfl rfl rfl rfl rfl (by simp (disch := omega) [hc6, hc11, hbi, hcvs, hcvt, hcvw, hcws, hcwt, hcww, hc19, hN, hcvx, hcwx]; rfl) ?hk59n27 ?hh59n27
        case hk59n27 =>
          refine cl_Instr x.code v' _ ?_ ?_
          · exact hx1.sub encIn_ok sub_auto
          · omega
        intro v59 H59 s59 hl59 hR59
        have hx59 := s59.next; simp at hx59
        have hz59 := s59.nexts; try (conv at hz59 => rhs; simp only [AHeap.next_new, AHeap.next_set, next_ov, next_delV, AHeap.next_del, next_low])
        obtain ⟨ho59, hi59⟩ := hR59
        have hj59 := ho59.id_lt hl59
        have hI59 := hi59
        try simp only [AHeap.next_new, AHeap.next_set, next_ov, next_delV, AHeap.next_del, next_low] at hi59
        have hcv59 := ho59.cells; have hcw59 := ho59.one
        refine ⟨(by simp (disch := omega) [Wt, hc6, hc11, hbi, hcvs, hcvt, hcvw, hcws, hcwt, hcww, hc19, hN, hcvx, hcwx, hcv59, hcw59]), ?_⟩
        refine awd_op rfl rfl rfl rfl rfl (by simp (disch := omega) [hc6, hc11, hbi, hcvs, hcvt, hcvw, hcws, hcwt, hcww, hc19, hN, hcvx, hcwx, hcv59, hcw59]; rfl) ?_
        refine awd_buildSlice rfl rfl rfl rfl rfl (by simp (disch := omega) [hc6, hc11, hbi, hcvs, hcvt, hcvw, hcws, hcwt, hcww, hc19, hN, hcvx, hcwx, hcv59, hcw59]; rfl) (by simp (disch := omega) [hc6, hc11, hbi, hcvs, hcvt, hcvw, hcws, hcwt, hcww, hc19, hN, hcvx, hcwx, hcv59, hcw59]; rfl) (by simp (disch := omega) [hc6, hc11, hbi, hcvs, hcvt, hcvw, hcws, hcwt, hcww, hc19, hN, hcvx, hcwx, hcv59, hcw59]; rfl) (by simp (disch := omega) [hc6, hc11, hbi, hcvs, hcvt, hcvw, hcws, hcwt, hcww, hc19, hN, hcvx, hcwx, hcv59, hcw59]; rfl) (by simp) (by simp (disch := omega) [hc6, hc11, hbi, hcvs, hcvt, hcvw, hcws, hcwt, hcww, hc19, hN, hcvx, hcwx, hcv59, hcw59, zrep, List.replicate]; rfl) (by simp <;> rfl) ?_
        intro b63 hb63; try simp only [AHeap.next_new, AHeap.next_set, next_ov, next_delV, AHeap.next_del, next_low] at hb63
        refine ⟨(by simp (disch := omega) [Wt, hc6, hc11, hbi, hcvs, hcvt, hcvw, hcws, hcwt, hcww, hc19, hN, hcvx, hcwx, hcv59, hcw59]), ?_⟩
        obtain ⟨ys, hy1, hy2, hy3, hy4⟩ := hos
        have hyl := hy2.id_lt hl_i
        have hy5 : ys.length = i := by rw [hy1, List.length_take]; omega
        refine awd_appS (enc := encYB) (ys := [(v59, x.term)]) rfl rfl rfl rfl rfl rfl rfl (by simp [fltW, waitsOn] <;> rfl) (by simp (disch := omega) [hc6, hc11, hbi, hcvs, hcvt, hcvw, hcws, hcwt, hcww, hc19, hN, hcvx, hcwx, hcv59, hcw59] <;> rfl) (by simp (disch := omega) [hc6, hc11, hbi, hcvs, hcvt, hcvw, hcws, hcwt, hcww, hc19, hN, hcvx, hcwx, hcv59, hcw59] <;> rfl) (by first | exact ownId_mk _ _ _ _ | rfl) (hy2.keep keep_auto) ?hy64n28 hlt_auto (fun _ => rfl) (by simp (disch := omega) [hc6, hc11, hbi, hcvs, hcvt, hcvw, hcws, hcwt, hcww, hc19, hN, hcvx, hcwx, hcv59, hcw59] <;> rfl) (by simp (disch := omega) [hc6, hc11, hbi, hcvs, hcvt, hcvw, hcws, hcwt, hcww, hc19, hN, hcvx, hcwx, hcv59, hcw59] <;> rfl) (by simp (disch := omega) [hc6, hc11, hbi, hcvs, hcvt, hcvw, hcws, hcwt, hcww, hc19, hN, hcvx, hcwx, hcv59, hcw59] <;> rfl) (by simp (disch := omega) [hc6, hc11, hbi, hcvs, hcvt, hcvw, hcws, hcwt, hcww, hc19, hN, hcvx, hcwx, hcv59, hcw59] <;> rfl) (by simp) (by simp [encYB, encT, hcw59]) (by simp [maxLen]; omega) ?hh64n28
        case hy64n28 => exact (SliceR.own (enc := encYB) encYB_len [(v59, x.term)] (AHeap.at_new_self _ _ _) (by first | omega | (simp <;> omega)) (by simp [encYB, encT]) rfl (by simp) (by simp [maxLen]))
        intro v64 H64 s64 hl64 ho64 hi64 hj64 hn64
        have hcv64 := ho64.cells; have hcw64 := ho64.one; have hx64 := s64.next; simp at hx64; try simp only [AHeap.next_new, AHeap.next_set, next_ov, next_delV, AHeap.next_del, next_low] at hi64
        have hz64 := s64.nexts; try (conv at hz64 => rhs; simp only [AHeap.next_new, AHeap.next_set, next_ov, next_delV, AHeap.next_del, next_low])
        have kA : KeepT H_i H64 (b5 + 1) 41 := KeepA.app s64 (hy2.keep keep_auto) keepA_auto
        have k59 : KeepO H59 (AHeap.ov _ H64 s64) v59 := keep_auto
        have hs64 : OwnB 43 41 H64 (b5 + 1) v64 (f.blocks.take i ++ [x]) := OwnN.snoc (ts := [43]) (y := (v59, x.term)) hy1 ho64 (by omega) (fun j y z h1 h2 => (rinB_ok _).keep kA (by simp) (hy4 j y z h1 h2)) ⟨rfl, OwnS.own (OwnS.keep (H := H59) (X := H64) ho59 k59) (by dsimp only; omega)⟩
        have ht64 : OwnMB 66 63 H64 (b5 + 1) vt ((f.blocks.take i).map blkM) := OwnN.keep (rinMB_ok _) kA (by simp) hot
        have hw64 : OwnW 47 44 H64 (b5 + 1) vw ((f.blocks.take i).map fun _ => invM f.regs.toNat) := OwnN.keep (rinW_ok _) kA (by simp) how
        refine ⟨(by simp (disch := omega) [Wt, hc6, hc11, hbi, hcvs, hcvt, hcvw, hcws, hcwt, hcww, hc19, hN, hcvx, hcwx, hcv59, hcw59]), ?_⟩
        refine awd_op rfl rfl rfl rfl rfl (by simp (disch := omega) [hc6, hc11, hbi, hcvs, hcvt, hcvw, hcws, hcwt, hcww, hc19, hN, hcvx, hcwx, hcv59, hcw59, hcv64, hcw64]; rfl) ?_
        refine awd_op rfl rfl rfl rfl rfl (by simp (disch := omega) [hc6, hc11, hbi, hcvs, hcvt, hcvw, hcws, hcwt, hcww, hc19, hN, hcvx, hcwx, hcv59, hcw59, hcv64, hcw64]; rfl) ?_
        refine awd_store rfl rfl rfl rfl rfl (by simp (disch := omega) [hc6, hc11, hbi, hcvs, hcvt, hcvw, hcws, hcwt, hcww, hc19, hN, hcvx, hcwx, hcv59, hcw59, hcv64, hcw64]; rfl) (by rfl) (by simp (disch := omega) [hc6, hc11, hbi, hcvs, hcvt, hcvw, hcws, hcwt, hcww, hc19, hN, hcvx, hcwx, hcv59, hcw59, hcv64, hcw64]; rfl) (by simp (disch := omega) [hc6, hc11, hbi, hcvs, hcvt, hcvw, hcws, hcwt, hcww, hc19, hN, hcvx, hcwx, hcv59, hcw59, hcv64, hcw64]; rfl) (by simp (disch := omega) [hc6, hc11, hbi, hcvs, hcvt, hcvw, hcws, hcwt, hcww, hc19, hN, hcvx, hcwx, hcv59, hcw59, hcv64, hcw64]; rfl) (by simp (disch := omega) [hc6, hc11, hbi, hcvs, hcvt, hcvw, hcws, hcwt, hcww, hc19, hN, hcvx, hcwx, hcv59, hcw59, hcv64, hcw64]; rfl) (by rfl) (by simp [hcws, hcwt, hcww, hcwx, hcw59, hcw64] <;> omega) (by simp [setCells] <;> rfl) set_auto ⟨(by simp (disch := omega) [Wt, hc6, hc11, hbi, hcvs, hcvt, hcvw, hcws, hcwt, hcww, hc19, hN, hcvx, hcwx, hcv59, hcw59, hcv64, hcw64]), ?_⟩
        refine awd_nil ?_
        refine hK26 _ _ ?_
        refine awp_seq_k fun K29 hK29 => ?_
        refine awp_region (by decide) ?_   -- region 14
        refine aops_op rfl rfl rfl (by simp (disch := omega) [hc6, hc11, hbi, hcvs, hcvt, hcvw, hcws, hcwt, hcww, hc19, hN, hcvx, hcwx, hcv59, hcw59, hcv64, hcw64]; rfl) ?_
        refine aops_op rfl rfl rfl (by simp (disch := omega) [hc6, hc11, hbi, hcvs, hcvt, hcvw, hcws, hcwt, hcww, hc19, hN, hcvx, hcwx, hcv59, hcw59, hcv64, hcw64]; rfl) ?_
        refine aops_op rfl rfl rfl (by simp (disch := omega) [hc6, hc11, hbi, hcvs, hcvt, hcvw, hcws, hcwt, hcww, hc19, hN, hcvx, hcwx, hcv59, hcw59, hcv64, hcw64]; rfl) ?_
        refine aops_op rfl rfl rfl (by simp (disch := omega) [hc6, hc11, hbi, hcvs, hcvt, hcvw, hcws, hcwt, hcww, hc19, hN, hcvx, hcwx, hcv59, hcw59, hcv64, hcw64]; rfl) ?_
        refine aops_buildSlice rfl rfl rfl (by simp (disch := omega) [hc6, hc11, hbi, hcvs, hcvt, hcvw, hcws, hcwt, hcww, hc19, hN, hcvx, hcwx, hcv59, hcw59, hcv64, hcw64]; rfl) (by simp (disch := omega) [hc6, hc11, hbi, hcvs, hcvt, hcvw, hcws, hcwt, hcww, hc19, hN, hcvx, hcwx, hcv59, hcw59, hcv64, hcw64]; rfl) (by simp (disch := omega) [hc6, hc11, hbi, hcvs, hcvt, hcvw, hcws, hcwt, hcww, hc19, hN, hcvx, hcwx, hcv59, hcw59, hcv64, hcw64]; rfl) (by simp (disch := omega) [hc6, hc11, hbi, hcvs, hcvt, hcvw, hcws, hcwt, hcww, hc19, hN, hcvx, hcwx, hcv59, hcw59, hcv64, hcw64]; rfl) (by simp) (by simp (disch := omega) [hc6, hc11, hbi, hcvs, hcvt, hcvw, hcws, hcwt, hcww, hc19, hN, hcvx, hcwx, hcv59, hcw59, hcv64, hcw64, zrep, List.replicate]; rfl) (by simp <;> rfl) ?_
        intro b71 hb71; try simp only [AHeap.next_new, AHeap.next_set, next_ov, next_delV, AHeap.next_del, next_low] at hb71
        obtain ⟨zs, hz1, hz2, hz3, hz4⟩ := ht64
        have hz5 : zs.length = i := by rw [hz1, List.length_map, List.length_take]; omega
        refine aops_appS (enc := encYB) (ys := [(Value.slice a44 (blkM x).code.length c44, (blkM x).term)]) rfl rfl rfl rfl rfl rfl (by simp (disch := omega) [hc6, hc11, hbi, hcvs, hcvt, hcvw, hcws, hcwt, hcww, hc19, hN, hcvx, hcwx, hcv59, hcw59, hcv64, hcw64] <;> rfl) (by simp (disch := omega) [hc6, hc11, hbi, hcvs, hcvt, hcvw, hcws, hcwt, hcww, hc19, hN, hcvx, hcwx, hcv59, hcw59, hcv64, hcw64] <;> rfl) (by first | exact ownId_mk _ _ _ _ | rfl) (hz2.keep keep_auto) ?hy72n30 hlt_auto (fun _ => rfl) (by simp (disch := omega) [hc6, hc11, hbi, hcvs, hcvt, hcvw, hcws, hcwt, hcww, hc19, hN, hcvx, hcwx, hcv59, hcw59, hcv64, hcw64] <;> rfl) (by simp (disch := omega) [hc6, hc11, hbi, hcvs, hcvt, hcvw, hcws, hcwt, hcww, hc19, hN, hcvx, hcwx, hcv59, hcw59, hcv64, hcw64] <;> rfl) (by simp (disch := omega) [hc6, hc11, hbi, hcvs, hcvt, hcvw, hcws, hcwt, hcww, hc19, hN, hcvx, hcwx, hcv59, hcw59, hcv64, hcw64] <;> rfl) (by simp (disch := omega) [hc6, hc11, hbi, hcvs, hcvt, hcvw, hcws, hcwt, hcww, hc19, hN, hcvx, hcwx, hcv59, hcw59, hcv64, hcw64] <;> rfl) (by simp) (by simp [encYB, encT]) (by simp [maxLen]; omega) ?hh72n30
        case hy72n30 => exact (SliceR.own (enc := encYB) encYB_len [(Value.slice a44 (blkM x).code.length c44, (blkM x).term)] (AHeap.at_new_self _ _ _) (by first | omega | (simp <;> omega)) (by simp [encYB, encT, blkM]) rfl (by simp) (by simp [maxLen]))
        intro v72 H72 s72 hl72 ho72 hi72 hj72 hn72
        have hcv72 := ho72.cells; have hcw72 := ho72.one; have hx72 := s72.next; simp at hx72; try simp only [AHeap.next_new, AHeap.next_set, next_ov, next_delV, AHeap.next_del, next_low] at hi72
        have hz72 := s72.nexts; try (conv at hz72 => rhs; simp only [AHeap.next_new, AHeap.next_set, next_ov, next_delV, AHeap.next_del, next_low])
        have kB : KeepT H64 H72 (b5 + 1) 63 := KeepA.app s72 (hz2.keep keep_auto) keepA_auto
        have k44 : KeepO H44 (AHeap.ov _ H72 s72) (Value.slice a44 (blkM x).code.length c44) := keep_auto
        have hs72 : OwnB 43 41 H72 (b5 + 1) v64 (f.blocks.take i ++ [x]) := OwnN.keep (rinB_ok _) kB (by simp) hs64
        have ht72 : OwnMB 66 63 H72 (b5 + 1) v72 ((f.blocks.take i).map blkM ++ [blkM x]) := OwnN.snoc (ts := [66]) (y := (Value.slice a44 (blkM x).code.length c44, (blkM x).term)) hz1 ho72 (by omega) (fun j y z h1 h2 => (rinMB_ok _).keep kB (by simp) (hz4 j y z h1 h2)) ⟨rfl, OwnS.own (OwnS.keep (H := H44) (X := H72) ho44 k44) (by dsimp only; omega)⟩
        have hw72 : OwnW 47 44 H72 (b5 + 1) vw ((f.blocks.take i).map fun _ => invM f.regs.toNat) := OwnN.keep (rinW_ok _) kB (by simp) hw64
        refine aops_op rfl rfl rfl (by simp (disch := omega) [hc6, hc11, hbi, hcvs, hcvt, hcvw, hcws, hcwt, hcww, hc19, hN, hcvx, hcwx, hcv59, hcw59, hcv64, hcw64, hcv72, hcw72]; rfl) ?_
        refine aops_op rfl rfl rfl (by simp (disch := omega) [hc6, hc11, hbi, hcvs, hcvt, hcvw, hcws, hcwt, hcww, hc19, hN, hcvx, hcwx, hcv59, hcw59, hcv64, hcw64, hcv72, hcw72]; rfl) ?_
        refine aops_store rfl rfl rfl (by simp (disch := omega) [hc6, hc11, hbi, hcvs, hcvt, hcvw, hcws, hcwt, hcww, hc19, hN, hcvx, hcwx, hcv59, hcw59, hcv64, hcw64, hcv72, hcw72]; rfl) (by rfl) (by simp (disch := omega) [hc6, hc11, hbi, hcvs, hcvt, hcvw, hcws, hcwt, hcww, hc19, hN, hcvx, hcwx, hcv59, hcw59, hcv64, hcw64, hcv72, hcw72]; rfl) (by simp (disch := omega) [hc6, hc11, hbi, hcvs, hcvt, hcvw, hcws, hcwt, hcww, hc19, hN, hcvx, hcwx, hcv59, hcw59, hcv64, hcw64, hcv72, hcw72]; rfl) (by simp (disch := omega) [hc6, hc11, hbi, hcvs, hcvt, hcvw, hcws, hcwt, hcww, hc19, hN, hcvx, hcwx, hcv59, hcw59, hcv64, hcw64, hcv72, hcw72]; rfl) (by simp (disch := omega) [hc6, hc11, hbi, hcvs, hcvt, hcvw, hcws, hcwt, hcww, hc19, hN, hcvx, hcwx, hcv59, hcw59, hcv64, hcw64, hcv72, hcw72]; rfl) (by rfl) (by simp [hcws, hcwt, hcww, hcwx, hcw59, hcw64, hcw72] <;> omega) (by simp [setCells] <;> rfl) set_auto ?_
        refine aops_nil ?_
        refine hK29 _ _ ?_
        refine awp_draw mixed [0, 1, 2, 3, 4, 5, 6, 7, 8] (by kernel_rfl) ?_   -- region 15
        refine awd_op rfl rfl rfl rfl rfl (by simp (disch := omega) [hc6, hc11, hbi, hcvs, hcvt, hcvw, hcws, hcwt, hcww, hc19, hN, hcvx, hcwx, hcv59, hcw59, hcv64, hcw64, hcv72, hcw72]; rfl) ?_
        refine awd_ld rfl rfl rfl rfl rfl (by simp (disch := omega) [hc6, hc11, hbi, hcvs, hcvt, hcvw, hcws, hcwt, hcww, hc19, hN, hcvx, hcwx, hcv59, hcw59, hcv64, hcw64, hcv72, hcw72]; rfl) ?_
        refine awd_op rfl rfl rfl rfl rfl (by simp (disch := omega) [hc6, hc11, hbi, hcvs, hcvt, hcvw, hcws, hcwt, hcww, hc19, hN, hcvx, hcwx, hcv59, hcw59, hcv64, hcw64, hcv72, hcw72]; rfl) ?_
        refine awd_ld rfl rfl rfl rfl rfl (by simp (disch := omega) [hc6, hc11, hbi, hcvs, hcvt, hcvw, hcws, hcwt, hcww, hc19, hN, hcvx, hcwx, hcv59, hcw59, hcv64, hcw64, hcv72, hcw72]; rfl) ?_
        refine awd_callR (H1 := ?Q79n31) (R := ?R79n31) rfl rfl rfl rfl rfl rfl (by simp (disch := omega) [hc6, hc11, hbi, hcvs, hcvt, hcvw, hcws, hcwt, hcww, hc19, hN, hcvx, hcwx, hcv59, hcw59, hcv64, hcw64, hcv72, hcw72]; rfl) ?hk79n31 ?hh79n31
        case hk79n31 =>
          refine sp_invariant' f.regs _ ?_ ?_
          · omega
          · omega
        intro v79 H79 s79 hl79 hR79
        have hx79 := s79.next; simp at hx79
        have hz79 := s79.nexts; try (conv at hz79 => rhs; simp only [AHeap.next_new, AHeap.next_set, next_ov, next_delV, AHeap.next_del, next_low])
        obtain ⟨ho79, hi79⟩ := hR79
        have hj79 := ho79.id_lt hl79
        have hcv79 := ho79.cells; have hcw79 := ho79.one
        refine ⟨(by simp (disch := omega) [Wt, hc6, hc11, hbi, hcvs, hcvt, hcvw, hcws, hcwt, hcww, hc19, hN, hcvx, hcwx, hcv59, hcw59, hcv64, hcw64, hcv72, hcw72, hcv79, hcw79]), ?_⟩
        refine awd_buildSlice rfl rfl rfl rfl rfl (by simp (disch := omega) [hc6, hc11, hbi, hcvs, hcvt, hcvw, hcws, hcwt, hcww, hc19, hN, hcvx, hcwx, hcv59, hcw59, hcv64, hcw64, hcv72, hcw72, hcv79, hcw79]; rfl) (by simp (disch := omega) [hc6, hc11, hbi, hcvs, hcvt, hcvw, hcws, hcwt, hcww, hc19, hN, hcvx, hcwx, hcv59, hcw59, hcv64, hcw64, hcv72, hcw72, hcv79, hcw79]; rfl) (by simp (disch := omega) [hc6, hc11, hbi, hcvs, hcvt, hcvw, hcws, hcwt, hcww, hc19, hN, hcvx, hcwx, hcv59, hcw59, hcv64, hcw64, hcv72, hcw72, hcv79, hcw79]; rfl) (by simp (disch := omega) [hc6, hc11, hbi, hcvs, hcvt, hcvw, hcws, hcwt, hcww, hc19, hN, hcvx, hcwx, hcv59, hcw59, hcv64, hcw64, hcv72, hcw72, hcv79, hcw79]; rfl) (by simp) (by simp (disch := omega) [hc6, hc11, hbi, hcvs, hcvt, hcvw, hcws, hcwt, hcww, hc19, hN, hcvx, hcwx, hcv59, hcw59, hcv64, hcw64, hcv72, hcw72, hcv79, hcw79, zrep, List.replicate]; rfl) (by simp <;> rfl) ?_
        intro b80 hb80; try simp only [AHeap.next_new, AHeap.next_set, next_ov, next_delV, AHeap.next_del, next_low] at hb80
        refine ⟨(by simp (disch := omega) [Wt, hc6, hc11, hbi, hcvs, hcvt, hcvw, hcws, hcwt, hcww, hc19, hN, hcvx, hcwx, hcv59, hcw59, hcv64, hcw64, hcv72, hcw72, hcv79, hcw79]), ?_⟩
        obtain ⟨us, hu1, hu2, hu3, hu4⟩ := hw72
        have hu5 : us.length = i := by rw [hu1, List.length_map, List.length_take]; omega
        refine awd_appS (enc := encV) (ys := [v79]) rfl rfl rfl rfl rfl rfl rfl (by simp [fltW, waitsOn] <;> rfl) (by simp (disch := omega) [hc6, hc11, hbi, hcvs, hcvt, hcvw, hcws, hcwt, hcww, hc19, hN, hcvx, hcwx, hcv59, hcw59, hcv64, hcw64, hcv72, hcw72, hcv79, hcw79] <;> rfl) (by simp (disch := omega) [hc6, hc11, hbi, hcvs, hcvt, hcvw, hcws, hcwt, hcww, hc19, hN, hcvx, hcwx, hcv59, hcw59, hcv64, hcw64, hcv72, hcw72, hcv79, hcw79] <;> rfl) (by first | exact ownId_mk _ _ _ _ | rfl) (hu2.keep keep_auto) ?hy81n32 hlt_auto (fun _ => rfl) (by simp (disch := omega) [hc6, hc11, hbi, hcvs, hcvt, hcvw, hcws, hcwt, hcww, hc19, hN, hcvx, hcwx, hcv59, hcw59, hcv64, hcw64, hcv72, hcw72, hcv79, hcw79] <;> rfl) (by simp (disch := omega) [hc6, hc11, hbi, hcvs, hcvt, hcvw, hcws, hcwt, hcww, hc19, hN, hcvx, hcwx, hcv59, hcw59, hcv64, hcw64, hcv72, hcw72, hcv79, hcw79] <;> rfl) (by simp (disch := omega) [hc6, hc11, hbi, hcvs, hcvt, hcvw, hcws, hcwt, hcww, hc19, hN, hcvx, hcwx, hcv59, hcw59, hcv64, hcw64, hcv72, hcw72, hcv79, hcw79] <;> rfl) (by simp (disch := omega) [hc6, hc11, hbi, hcvs, hcvt, hcvw, hcws, hcwt, hcww, hc19, hN, hcvx, hcwx, hcv59, hcw59, hcv64, hcw64, hcv72, hcw72, hcv79, hcw79] <;> rfl) (by simp) (by simp [encV, hcw79]) (by simp [maxLen]; omega) ?hh81n32
        case hy81n32 => exact (SliceR.own (enc := encV) encV_len [v79] (AHeap.at_new_self _ _ _) (by first | omega | (simp <;> omega)) (by simp [encV]) rfl (by simp) (by simp [maxLen]))
        intro v81 H81 s81 hl81 ho81 hi81 hj81 hn81
        have hcv81 := ho81.cells; have hcw81 := ho81.one; have hx81 := s81.next; simp at hx81; try simp only [AHeap.next_new, AHeap.next_set, next_ov, next_delV, AHeap.next_del, next_low] at hi81
        have hz81 := s81.nexts; try (conv at hz81 => rhs; simp only [AHeap.next_new, AHeap.next_set, next_ov, next_delV, AHeap.next_del, next_low])
        have kC : KeepT H72 H81 (b5 + 1) 44 := KeepA.app s81 (hu2.keep keep_auto) keepA_auto
        have k79 : KeepO H79 (AHeap.ov _ H81 s81) v79 := keep_auto
        have hs81 : OwnB 43 41 H81 (b5 + 1) v64 (f.blocks.take i ++ [x]) := OwnN.keep (rinB_ok _) kC (by simp) hs72
        have ht81 : OwnMB 66 63 H81 (b5 + 1) v72 ((f.blocks.take i).map blkM ++ [blkM x]) := OwnN.keep (rinMB_ok _) kC (by simp) ht72
        have hw81 : OwnW 47 44 H81 (b5 + 1) v81 (((f.blocks.take i).map fun _ => invM f.regs.toNat) ++ [invM f.regs.toNat]) := OwnN.snoc (ts := [47]) (y := v79) hu1 ho81 (by omega) (fun j y z h1 h2 => (rinW_ok _).keep kC (by simp) (hu4 j y z h1 h2)) (OwnS.own (OwnS.keep (H := H79) (X := H81) ho79 k79) (by omega))
        refine ⟨(by simp (disch := omega) [Wt, hc6, hc11, hbi, hcvs, hcvt, hcvw, hcws, hcwt, hcww, hc19, hN, hcvx, hcwx, hcv59, hcw59, hcv64, hcw64, hcv72, hcw72, hcv79, hcw79]), ?_⟩
        refine awd_op rfl rfl rfl rfl rfl (by simp (disch := omega) [hc6, hc11, hbi, hcvs, hcvt, hcvw, hcws, hcwt, hcww, hc19, hN, hcvx, hcwx, hcv59, hcw59, hcv64, hcw64, hcv72, hcw72, hcv79, hcw79, hcv81, hcw81]; rfl) ?_
        refine awd_store rfl rfl rfl rfl rfl (by simp (disch := omega) [hc6, hc11, hbi, hcvs, hcvt, hcvw, hcws, hcwt, hcww, hc19, hN, hcvx, hcwx, hcv59, hcw59, hcv64, hcw64, hcv72, hcw72, hcv79, hcw79, hcv81, hcw81]; rfl) (by rfl) (by simp (disch := omega) [hc6, hc11, hbi, hcvs, hcvt, hcvw, hcws, hcwt, hcww, hc19, hN, hcvx, hcwx, hcv59, hcw59, hcv64, hcw64, hcv72, hcw72, hcv79, hcw79, hcv81, hcw81]; rfl) (by simp (disch := omega) [hc6, hc11, hbi, hcvs, hcvt, hcvw, hcws, hcwt, hcww, hc19, hN, hcvx, hcwx, hcv59, hcw59, hcv64, hcw64, hcv72, hcw72, hcv79, hcw79, hcv81, hcw81]; rfl) (by simp (disch := omega) [hc6, hc11, hbi, hcvs, hcvt, hcvw, hcws, hcwt, hcww, hc19, hN, hcvx, hcwx, hcv59, hcw59, hcv64, hcw64, hcv72, hcw72, hcv79, hcw79, hcv81, hcw81]; rfl) (by simp (disch := omega) [hc6, hc11, hbi, hcvs, hcvt, hcvw, hcws, hcwt, hcww, hc19, hN, hcvx, hcwx, hcv59, hcw59, hcv64, hcw64, hcv72, hcw72, hcv79, hcw79, hcv81, hcw81]; rfl) (by rfl) (by simp [hcws, hcwt, hcww, hcwx, hcw59, hcw64, hcw72, hcw79, hcw81] <;> omega) (by simp [setCells] <;> rfl) set_auto ⟨(by simp (disch := omega) [Wt, hc6, hc11, hbi, hcvs, hcvt, hcvw, hcws, hcwt, hcww, hc19, hN, hcvx, hcwx, hcv59, hcw59, hcv64, hcw64, hcv72, hcw72, hcv79, hcw79, hcv81, hcw81]), ?_⟩
        refine awd_nil ?_
        refine hK20 _ _ ?_
        refine awp_region (by decide) ?_   -- region 16
        refine aops_op rfl rfl rfl (by simp (disch := omega) [hc6, hc11, hbi, hcvs, hcvt, hcvw, hcws, hcwt, hcww, hc19, hN, hcvx, hcwx, hcv59, hcw59, hcv64, hcw64, hcv72, hcw72, hcv79, hcw79, hcv81, hcw81]; rfl) ?_
        refine aops_op rfl rfl rfl (by simp (disch := omega) [hc6, hc11, hbi, hcvs, hcvt, hcvw, hcws, hcwt, hcww, hc19, hN, hcvx, hcwx, hcv59, hcw59, hcv64, hcw64, hcv72, hcw72, hcv79, hcw79, hcv81, hcw81]; rfl) ?_
        refine aops_nil ?_
        refine hK16 _ _ ?_   -- END OF ROUND
        have hcm := codeMB_take' hx; have hrm := runB_take hx
        have hmx : max (runB (f.blocks.take i) : Int) (movesM (blkM x).code : Int) = ((max (runB (f.blocks.take i)) (movesM (blkM x).code) : Nat) : Int) := by omega
        refine loopTo4 ((i + 1, v64, v72, v81)) rfl (by simp (disch := omega) [hc6, hc11, hbi, hcvs, hcvt, hcvw, hcws, hcwt, hcww, hc19, hN, hcvx, hcwx, hcv59, hcw59, hcv64, hcw64, hcv72, hcw72, hcv79, hcw79, hcv81, hcw81, hcm, hrm, hmx]) (by simp [hc6, hc11, hbi, hcvs, hcvt, hcvw, hcws, hcwt, hcww, hc19, hN, hcvx, hcwx, hcv59, hcw59, hcv64, hcw64, hcv72, hcw72, hcv79, hcw79, hcv81, hcw81, hcm, hrm, hmx]) sub_auto ?_ (by simp; omega)
        refine ⟨by simp; omega, by simp [hcw64, hcw72, hcw81], ?_, ?_, ?_⟩
        · rw [take_snoc hx]; exact OwnN.keepA (rinB_ok _) keepA_auto hs81
        · rw [take_snoc hx, List.map_append]; exact OwnN.keepA (rinMB_ok _) keepA_auto ht81
        · rw [take_snoc hx, List.map_append]; exact OwnN.keepA (rinW_ok _) keepA_auto hw81
      · simp at hc19
        refine awp_exit ?_   -- exit 0
        simp
        have hfull : f.blocks.take i = f.blocks := List.take_of_length_le (by omega)
        have hcF : codeMB (f.blocks.take i) = codeM (f.blocks.map blkM) := by rw [hfull]; rfl
        have hrF : runB (f.blocks.take i) = runB f.blocks := by rw [hfull]
        refine hK14 _ _ ?_
        refine awp_seq_k fun K33 hK33 => ?_
        refine awp_block ?_   -- block 2
        refine awp_seq_k fun K34 hK34 => ?_
        refine awp_region (by decide) ?_   -- region 17
        refine aops_op rfl rfl rfl (by simp (disch := omega) [hc6, hc11, hbi, hcvs, hcvt, hcvw, hcws, hcwt, hcww, hc19]; rfl) ?_
        refine aops_op rfl rfl rfl (by simp (disch := omega) [hc6, hc11, hbi, hcvs, hcvt, hcvw, hcws, hcwt, hcww, hc19]; rfl) ?_
        refine aops_op rfl rfl rfl (by simp (disch := omega) [hc6, hc11, hbi, hcvs, hcvt, hcvw, hcws, hcwt, hcww, hc19]; rfl) ?_
        refine aops_nil ?_
        refine hK34 _ _ ?_
        refine awp_cond rfl (fun hc35 => ?_) fun hc35 => ?_
        · simp at hc35
          refine awp_seq_k fun K36 hK36 => ?_
          refine awp_region (by decide) ?_   -- region 18
          refine aops_op rfl rfl rfl (by simp (disch := omega) [hc6, hc11, hbi, hcvs, hcvt, hcvw, hcws, hcwt, hcww, hc19, hc35]; rfl) ?_
          refine aops_store rfl rfl rfl (by simp (disch := omega) [hc6, hc11, hbi, hcvs, hcvt, hcvw, hcws, hcwt, hcww, hc19, hc35]; rfl) (by rfl) (by simp (disch := omega) [hc6, hc11, hbi, hcvs, hcvt, hcvw, hcws, hcwt, hcww, hc19, hc35]; rfl) (by simp (disch := omega) [hc6, hc11, hbi, hcvs, hcvt, hcvw, hcws, hcwt, hcww, hc19, hc35]; rfl) (by simp (disch := omega) [hc6, hc11, hbi, hcvs, hcvt, hcvw, hcws, hcwt, hcww, hc19, hc35]; rfl) (by simp (disch := omega) [hc6, hc11, hbi, hcvs, hcvt, hcvw, hcws, hcwt, hcww, hc19, hc35]; rfl) (by rfl) (by simp [hcws, hcwt, hcww] <;> omega) (by simp [setCells] <;> rfl) set_auto ?_
          refine aops_op rfl rfl rfl (by simp (disch := omega) [hc6, hc11, hbi, hcvs, hcvt, hcvw, hcws, hcwt, hcww, hc19, hc35]; rfl) ?_
          refine aops_nil ?_
          refine hK36 _ _ ?_
          refine awp_lt fun hltE => ?_
          refine awp_ret ?_
          try simp only [thenA, blockA]
          refine fpost_retR hR' hlt_auto rfl (by simp (disch := omega) [hc6, hc11, hbi, hcvs, hcvt, hcvw, hcws, hcwt, hcww, hc19, hc35] <;> rfl) sub_auto ?_
          -- WAY 1110
          have hR : certR f = (zeroC, 6) := by unfold certR; grind
          rw [hR]
          exact ⟨_, _, _, by simp [resV, zeroC] <;> rfl, OwnN.nil, OwnN.nil, OwnN.nil⟩
        · simp at hc35
          refine awp_seq_k fun K37 hK37 => ?_
          refine awp_region (by decide) ?_   -- region 19
          refine aops_op rfl rfl rfl (by simp (disch := omega) [hc6, hc11, hbi, hcvs, hcvt, hcvw, hcws, hcwt, hcww, hc19, hc35]; rfl) ?_
          refine aops_op rfl rfl rfl (by simp (disch := omega) [hc6, hc11, hbi, hcvs, hcvt, hcvw, hcws, hcwt, hcww, hc19, hc35]; rfl) ?_
          refine aops_op rfl rfl rfl (by simp (disch := omega) [hc6, hc11, hbi, hcvs, hcvt, hcvw, hcws, hcwt, hcww, hc19, hc35]; rfl) ?_
          refine aops_nil ?_
          refine hK37 _ _ ?_
          refine awp_cond rfl (fun hc38 => ?_) fun hc38 => ?_
          · simp at hc38
            refine awp_seq_k fun K39 hK39 => ?_
            refine awp_region (by decide) ?_   -- region 20
            refine aops_op rfl rfl rfl (by simp (disch := omega) [hc6, hc11, hbi, hcvs, hcvt, hcvw, hcws, hcwt, hcww, hc19, hc35, hc38]; rfl) ?_
            refine aops_store rfl rfl rfl (by simp (disch := omega) [hc6, hc11, hbi, hcvs, hcvt, hcvw, hcws, hcwt, hcww, hc19, hc35, hc38]; rfl) (by rfl) (by simp (disch := omega) [hc6, hc11, hbi, hcvs, hcvt, hcvw, hcws, hcwt, hcww, hc19, hc35, hc38]; rfl) (by simp (disch := omega) [hc6, hc11, hbi, hcvs, hcvt, hcvw, hcws, hcwt, hcww, hc19, hc35, hc38]; rfl) (by simp (disch := omega) [hc6, hc11, hbi, hcvs, hcvt, hcvw, hcws, hcwt, hcww, hc19, hc35, hc38]; rfl) (by simp (disch := omega) [hc6, hc11, hbi, hcvs, hcvt, hcvw, hcws, hcwt, hcww, hc19, hc35, hc38]; rfl) (by rfl) (by simp [hcws, hcwt, hcww] <;> omega) (by simp [setCells] <;> rfl) set_auto ?_
            refine aops_op rfl rfl rfl (by simp (disch := omega) [hc6, hc11, hbi, hcvs, hcvt, hcvw, hcws, hcwt, hcww, hc19, hc35, hc38]; rfl) ?_
            refine aops_nil ?_
            refine hK39 _ _ ?_
            refine awp_lt fun hltE => ?_
            refine awp_ret ?_
            try simp only [thenA, blockA]
            refine fpost_retR hR' hlt_auto rfl (by simp (disch := omega) [hc6, hc11, hbi, hcvs, hcvt, hcvw, hcws, hcwt, hcww, hc19, hc35, hc38] <;> rfl) sub_auto ?_
            -- WAY 11110
            have hR : certR f = (zeroC, 15) := by unfold certR; grind
            rw [hR]
            exact ⟨_, _, _, by simp [resV, zeroC] <;> rfl, OwnN.nil, OwnN.nil, OwnN.nil⟩
          · simp at hc38
            refine awp_skip ?_
            simp
            refine hK33 _ _ ?_
            refine awp_seq_k fun K40 hK40 => ?_
            refine awp_region (by decide) ?_   -- region 21
            refine aops_op rfl rfl rfl (by simp (disch := omega) [hc6, hc11, hbi, hcvs, hcvt, hcvw, hcws, hcwt, hcww, hc19, hc35, hc38]; rfl) ?_
            refine aops_store rfl rfl rfl (by simp (disch := omega) [hc6, hc11, hbi, hcvs, hcvt, hcvw, hcws, hcwt, hcww, hc19, hc35, hc38]; rfl) (by rfl) (by simp (disch := omega) [hc6, hc11, hbi, hcvs, hcvt, hcvw, hcws, hcwt, hcww, hc19, hc35, hc38]; rfl) (by simp (disch := omega) [hc6, hc11, hbi, hcvs, hcvt, hcvw, hcws, hcwt, hcww, hc19, hc35, hc38]; rfl) (by simp (disch := omega) [hc6, hc11, hbi, hcvs, hcvt, hcvw, hcws, hcwt, hcww, hc19, hc35, hc38]; rfl) (by simp (disch := omega) [hc6, hc11, hbi, hcvs, hcvt, hcvw, hcws, hcwt, hcww, hc19, hc35, hc38]; rfl) (by rfl) (by simp [hcws, hcwt, hcww] <;> omega) (by simp [setCells] <;> rfl) set_auto ?_
            refine aops_op rfl rfl rfl (by simp (disch := omega) [hc6, hc11, hbi, hcvs, hcvt, hcvw, hcws, hcwt, hcww, hc19, hc35, hc38]; rfl) ?_
            refine aops_nil ?_
            refine hK40 _ _ ?_
            refine awp_lt fun hltE => ?_
            refine awp_ret ?_
            try simp only [thenA, blockA]
            refine fpost_retR hR' hlt_auto rfl (by simp (disch := omega) [hc6, hc11, hbi, hcvs, hcvt, hcvw, hcws, hcwt, hcww, hc19, hc35, hc38] <;> rfl) sub_auto ?_
            -- WAY 11111
            have hR : certR f = (spillC f, 0) := by unfold certR; grind
            rw [hR]
            exact ⟨vs, vt, vw, by simp [resV, spillC], OwnN.le (rinB_ok _) (by omega) (OwnN.keepA (rinB_ok _) (show KeepA H_i _ (b5 + 1) from keepA_auto) (by rw [hfull] at hos; exact hos)), OwnN.le (rinMB_ok _) (by omega) (OwnN.keepA (rinMB_ok _) (show KeepA H_i _ (b5 + 1) from keepA_auto) (by rw [hfull] at hot; exact hot)), OwnN.le (rinW_ok _) (by omega) (OwnN.keepA (rinW_ok _) (show KeepA H_i _ (b5 + 1) from keepA_auto) (by rw [hfull] at how; exact how))⟩

end Go.Proofs.Yteklhgmoniaieaa.Fn
