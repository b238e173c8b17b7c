import Derived.Test.YteklhgmoniaieaaAhTypes
import Derived.Test.YteklhgmoniaieaaAhFe
set_option linter.unusedVariables false
set_option maxRecDepth 20000
set_option maxHeartbeats 10000000
set_option linter.unusedSimpArgs false
namespace Go.Proofs.Yteklhgmoniaieaa.Fn
open Go.Proofs.YteklhgmoniaieaaAh Go.Proofs.Yteklhgmoniaieaa.Ty
-- "regcert/regcertref22.Cert"  params ['api.Func'] results ['api.Cert', 'int']
theorem ref22_Cert (f : LFunc) (v : Value) (H : AHeap) (hf : SliceR H rB 5 v f.blocks) (hs : fewB f = true) : ACalls Try.prog 9 #[.agg #[iv f.args, iv f.regs, v]] H fun v H' => Sub (H) H' ∧ ∃ s t w, v = .tuple #[.agg #[iv (certR f).1.s.args, iv (certR f).1.s.regs, s, iv (certR f).1.t.args, iv (certR f).1.t.regs, iv (certR f).1.t.slots, t, w], iv (certR f).2] ∧ OwnB 43 41 H' H.next s (certR f).1.s.blocks ∧ OwnMB 66 63 H' H.next t (certR f).1.t.blocks ∧ OwnW 47 44 H' H.next w (certR f).1.w := by
  obtain ⟨a, c, rfl, hc1, hc2, hrow⟩ := hf.open
  obtain ⟨hw1, hw2, hw3, hw4⟩ := few_ok hs
  refine acallsK (rs := [.cell 2 33, .tmp 3]) 88 Try.func9 rfl (by decide) rfl rfl (by simp) fun R' hR' hlt => ?_
  simp
  refine awp_seq_k fun K1 hK1 => ?_
  refine awp_region (by decide) ?_   -- region 0
  refine aops_box rfl rfl rfl (by simp (disch := omega) []; rfl) (by simp (disch := omega) []; rfl) (by simp (disch := omega) []; rfl) ?_
  intro b1 hb1; try simp only [AHeap.next_new, AHeap.next_set, next_ov, next_delV, AHeap.next_del, next_low] at hb1
  refine aops_alloc rfl rfl rfl (by simp (disch := omega) []; rfl) (by simp (disch := omega) []; rfl) ?_
  intro b2 hb2; try simp only [AHeap.next_new, AHeap.next_set, next_ov, next_delV, AHeap.next_del, next_low] at hb2
  refine aops_op rfl rfl rfl (by simp (disch := omega) []; rfl) ?_
  refine aops_nil ?_
  refine hK1 _ _ ?_
  refine awp_seq_k fun K2 hK2 => ?_
  refine awp_region (by decide) ?_   -- region 1
  refine aops_op rfl rfl rfl (by simp (disch := omega) []; rfl) ?_
  refine aops_callP (u := ?pu3) rfl rfl rfl rfl (by simp (disch := omega) []; rfl) ?pk3 ?ph3
  case pk3 =>
    refine ref07_Check f _ _ ?_ ?_
    · exact hf.sub rB_ok sub_auto
    · omega
  refine aops_op rfl rfl rfl (by simp (disch := omega) []; rfl) ?_
  refine aops_nil ?_
  refine hK2 _ _ ?_
  refine awp_seq_k fun K4 hK4 => ?_
  refine awp_seq_k fun K5 hK5 => ?_
  refine awp_region (by decide) ?_   -- region 2
  refine aops_op rfl rfl rfl (by simp (disch := omega) []; rfl) ?_
  refine aops_op rfl rfl rfl (by simp (disch := omega) []; rfl) ?_
  refine aops_nil ?_
  refine hK5 _ _ ?_
  refine awp_cond rfl (fun hc6 => ?_) fun hc6 => ?_
  · simp at hc6
    refine awp_seq_k fun K7 hK7 => ?_
    refine awp_region (by decide) ?_   -- region 3
    refine aops_op rfl rfl rfl (by simp (disch := omega) [hc6]; rfl) ?_
    refine aops_op rfl rfl rfl (by simp (disch := omega) [hc6]; rfl) ?_
    refine aops_store rfl rfl rfl (by simp (disch := omega) [hc6]; rfl) (by rfl) (by simp (disch := omega) [hc6]; rfl) (by simp (disch := omega) [hc6]; rfl) (by simp (disch := omega) [hc6]; rfl) (by simp (disch := omega) [hc6]; rfl) (by rfl) (by simp [] <;> omega) (by simp [setCells] <;> rfl) set_auto ?_
    refine aops_op rfl rfl rfl (by simp (disch := omega) [hc6]; rfl) ?_
    refine aops_nil ?_
    refine hK7 _ _ ?_
    refine awp_lt fun hltE => ?_
    refine awp_ret ?_
    try simp only [thenA, blockA]
    refine fpost_retR hR' hlt_auto rfl (by simp (disch := omega) [hc6] <;> rfl) sub_auto ?_
    -- WAY 0
    have hR : certR f = (zeroC, checkF f) := by unfold certR; grind
    rw [hR]
    exact ⟨_, _, _, by simp [resV, zeroC] <;> rfl, OwnN.nil, OwnN.nil, OwnN.nil⟩
  · simp at hc6
    refine awp_skip ?_
    simp
    refine hK4 _ _ ?_
    refine awp_seq_k fun K8 hK8 => ?_
    refine awp_seq_k fun K9 hK9 => ?_
    have hpre := pre_ok (check_ok (by assumption)).1
    have hpr1 : 0 ≤ (f.blocks.length : Int) * f.regs := Int.mul_nonneg (by omega) (by omega)
    have hpr2 : (f.blocks.length : Int) * f.regs ≤ 40 * 60 := Int.mul_le_mul (by omega) (by omega) (by omega) (by omega)
    refine awp_region (by decide) ?_   -- region 4
    refine aops_op rfl rfl rfl (by simp (disch := omega) [hc6]; rfl) ?_
    refine aops_op rfl rfl rfl (by simp (disch := omega) [hc6]; rfl) ?_
    refine aops_op rfl rfl rfl (by simp (disch := omega) [hc6]; rfl) ?_
    refine aops_op rfl rfl rfl (by simp (disch := omega) [hc6]; rfl) ?_
    refine aops_op rfl rfl rfl (by simp (disch := omega) [hc6]; rfl) ?_
    refine aops_op rfl rfl rfl (by simp (disch := omega) [hc6]; rfl) ?_
    refine aops_op rfl rfl rfl (by simp (disch := omega) [hc6]; rfl) ?_
    refine aops_nil ?_
    refine hK9 _ _ ?_
    refine awp_cond rfl (fun hc10 => ?_) fun hc10 => ?_
    · simp at hc10
      refine awp_seq_k fun K11 hK11 => ?_
      refine awp_region (by decide) ?_   -- region 5
      refine aops_op rfl rfl rfl (by simp (disch := omega) [hc6, hc10]; rfl) ?_
      refine aops_store rfl rfl rfl (by simp (disch := omega) [hc6, hc10]; rfl) (by rfl) (by simp (disch := omega) [hc6, hc10]; rfl) (by simp (disch := omega) [hc6, hc10]; rfl) (by simp (disch := omega) [hc6, hc10]; rfl) (by simp (disch := omega) [hc6, hc10]; rfl) (by rfl) (by simp [] <;> omega) (by simp [setCells] <;> rfl) set_auto ?_
      refine aops_op rfl rfl rfl (by simp (disch := omega) [hc6, hc10]; rfl) ?_
      refine aops_nil ?_
      refine hK11 _ _ ?_
      refine awp_lt fun hltE => ?_
      refine awp_ret ?_
      try simp only [thenA, blockA]
      refine fpost_retR hR' hlt_auto rfl (by simp (disch := omega) [hc6, hc10] <;> rfl) sub_auto ?_
      -- WAY 10
      have hR : certR f = (zeroC, 6) := by unfold certR; grind
      rw [hR]
      exact ⟨_, _, _, by simp [resV, zeroC] <;> rfl, OwnN.nil, OwnN.nil, OwnN.nil⟩
    · simp at hc10
      refine awp_skip ?_
      simp
      refine hK8 _ _ ?_
      refine awp_seq_k fun K12 hK12 => ?_
      refine awp_cut5 hK12 [5, 25, 26, 27, 28, 29, 30, 31, 32] (fun j : Nat × Value => [(5, .pointer (some ⟨j.1, 0, none⟩))]) (fun H => H) (fun j H' => b2 < j.1 ∧ H'.at_ j.1 = some (.cells [iv f.args, iv f.regs, j.2, iv f.args, iv 2, iv f.regs, .slice none 0 0, .slice none 0 0] 33 8) ∧ OwnB 43 41 H' (b2 + 1) j.2 f.blocks) (fun K13 hK13 => ?_) ?_   -- CUT
      ·
        refine awp_drawT mixed (.op 0 (.op 2 (.op 3 (.op 4 (.op 5 (.op 6 (.alt 1 (.op 7 (.op 8 (.op 9 .nil))) 8 (.op 1 (.op 7 (.op 9 .nil)))))))))) (by kernel_rfl) ?_   -- region 6
        refine awt_op ?_
        refine awd_ld rfl rfl rfl rfl rfl (by simp (disch := omega) [hc6, hc10]; rfl) ?_
        refine awd_nil ?_
        refine awt_op ?_
        refine awd_op rfl rfl rfl rfl rfl (by simp (disch := omega) [hc6, hc10]; rfl) ?_
        refine awd_nil ?_
        refine awt_op ?_
        refine awd_ld rfl rfl rfl rfl rfl (by simp (disch := omega) [hc6, hc10]; rfl) ?_
        refine awd_nil ?_
        refine awt_op ?_
        refine awd_op rfl rfl rfl rfl rfl (by simp (disch := omega) [hc6, hc10]; rfl) ?_
        refine awd_nil ?_
        refine awt_op ?_
        refine awd_ld rfl rfl rfl rfl rfl (by simp (disch := omega) [hc6, hc10]; rfl) ?_
        refine awd_nil ?_
        refine awt_op ?_
        refine awd_op rfl rfl rfl rfl rfl (by simp (disch := omega) [hc6, hc10]; rfl) ?_
        refine awd_nil ?_
        refine awt_alt ?_ ?_
        · skip
          refine awd_callR (H1 := ?Q26n14) (R := ?R26n14) rfl rfl rfl rfl rfl rfl (by simp (disch := omega) [hc6, hc10]; rfl) ?hk26n14 ?hh26n14
          case hk26n14 =>
            refine ref07_Copy f _ _ ?_ ?_
            · exact hf.sub rB_ok sub_auto
            · exact ⟨by omega, fun b hb => by have := hw4 b hb; omega⟩
          intro v26 H26 s26 hl26 hR26
          have hx26 := s26.next; simp at hx26
          have hz26 := s26.nexts; try (conv at hz26 => rhs; simp only [AHeap.next_new, AHeap.next_set, next_ov, next_delV, AHeap.next_del, next_low])
          obtain ⟨w26, rfl, hos26⟩ := hR26
          have hcv26 := OwnN.cells hos26; have hcw26 := OwnN.one hos26
          have hlo26 := OwnN.id_lt hl26 hos26
          refine ⟨(by simp (disch := omega) [Wt, hc6, hc10, hcv26, hcw26]), ?_⟩
          refine awd_nil ?_
          refine awt_op ?_
          refine awd_op rfl rfl rfl rfl rfl (by simp (disch := omega) [hc6, hc10, hcv26, hcw26]; rfl) ?_
          refine awd_nil ?_
          refine awt_op ?_
          refine awd_alloc rfl rfl rfl rfl rfl (by simp (disch := omega) [hc6, hc10, hcv26, hcw26]; rfl) (by simp (disch := omega) [hc6, hc10, hcv26, hcw26]; rfl) ?_
          intro b5 hb5; try simp only [AHeap.next_new, AHeap.next_set, next_ov, next_delV, AHeap.next_del, next_low] at hb5
          refine ⟨(by simp (disch := omega) [Wt, hc6, hc10, hcv26, hcw26]), ?_⟩
          refine awd_nil ?_
          refine awt_op ?_
          refine awd_store rfl rfl rfl rfl rfl (by simp (disch := omega) [hc6, hc10, hcv26, hcw26]; rfl) (by rfl) (by simp (disch := omega) [hc6, hc10, hcv26, hcw26]; rfl) (by simp (disch := omega) [hc6, hc10, hcv26, hcw26]; rfl) (by simp (disch := omega) [hc6, hc10, hcv26, hcw26]; rfl) (by simp (disch := omega) [hc6, hc10, hcv26, hcw26]; rfl) (by rfl) (by simp [hcw26] <;> omega) (by simp [setCells] <;> rfl) set_auto ⟨(by simp (disch := omega) [Wt, hc6, hc10, hcv26, hcw26]), ?_⟩
          refine awd_nil ?_
          refine awt_nil ?_
          refine hK13 _ _ ?_   -- END OF CUT
          refine cutTo ((b5, w26)) rfl (by simp (disch := omega) [hc6, hc10, hcv26, hcw26] <;> rfl) (by simp [hc6, hc10, hcv26, hcw26]) sub_auto ?_
          refine ⟨by simp; omega, by simp (disch := omega) [hcv26, hcw26], ?_⟩
          exact OwnN.le (rinB_ok _) (by simp <;> omega) (OwnN.keepA (rinB_ok _) keepA_auto hos26)
        · skip
          refine awd_alloc rfl rfl rfl rfl rfl (by simp (disch := omega) [hc6, hc10]; rfl) (by simp (disch := omega) [hc6, hc10]; rfl) ?_
          intro b5 hb5; try simp only [AHeap.next_new, AHeap.next_set, next_ov, next_delV, AHeap.next_del, next_low] at hb5
          refine ⟨(by simp (disch := omega) [Wt, hc6, hc10]), ?_⟩
          refine awd_nil ?_
          refine awt_op ?_
          refine awd_callR (H1 := ?Q26n15) (R := ?R26n15) rfl rfl rfl rfl rfl rfl (by simp (disch := omega) [hc6, hc10]; rfl) ?hk26n15 ?hh26n15
          case hk26n15 =>
            refine ref07_Copy f _ _ ?_ ?_
            · exact hf.sub rB_ok sub_auto
            · exact ⟨by omega, fun b hb => by have := hw4 b hb; omega⟩
          intro v26 H26 s26 hl26 hR26
          have hx26 := s26.next; simp at hx26
          have hz26 := s26.nexts; try (conv at hz26 => rhs; simp only [AHeap.next_new, AHeap.next_set, next_ov, next_delV, AHeap.next_del, next_low])
          obtain ⟨w26, rfl, hos26⟩ := hR26
          have hcv26 := OwnN.cells hos26; have hcw26 := OwnN.one hos26
          have hlo26 := OwnN.id_lt hl26 hos26
          refine ⟨(by simp (disch := omega) [Wt, hc6, hc10, hcv26, hcw26]), ?_⟩
          refine awd_nil ?_
          refine awt_op ?_
          refine awd_op rfl rfl rfl rfl rfl (by simp (disch := omega) [hc6, hc10, hcv26, hcw26]; rfl) ?_
          refine awd_nil ?_
          refine awt_op ?_
          refine awd_store rfl rfl rfl rfl rfl (by simp (disch := omega) [hc6, hc10, hcv26, hcw26]; rfl) (by rfl) (by simp (disch := omega) [hc6, hc10, hcv26, hcw26]; rfl) (by simp (disch := omega) [hc6, hc10, hcv26, hcw26]; rfl) (by simp (disch := omega) [hc6, hc10, hcv26, hcw26]; rfl) (by simp (disch := omega) [hc6, hc10, hcv26, hcw26]; rfl) (by rfl) (by simp [hcw26] <;> omega) (by simp [setCells] <;> rfl) set_auto ⟨(by simp (disch := omega) [Wt, hc6, hc10, hcv26, hcw26]), ?_⟩
          refine awd_nil ?_
          refine awt_nil ?_
          refine hK13 _ _ ?_   -- END OF CUT
          refine cutTo ((b5, w26)) rfl (by simp (disch := omega) [hc6, hc10, hcv26, hcw26] <;> rfl) (by simp [hc6, hc10, hcv26, hcw26]) sub_auto ?_
          refine ⟨by simp; omega, by simp (disch := omega) [hcv26, hcw26], ?_⟩
          exact OwnN.le (rinB_ok _) (by simp <;> omega) (OwnN.keepA (rinB_ok _) keepA_auto hos26)
      rintro ⟨b5, vs⟩ H_j s_j hl_j ⟨hb5, hbj, hosj⟩
      have hx_j := s_j.next; simp at hx_j
      have hz_j := s_j.nexts; try (conv at hz_j => rhs; simp only [AHeap.next_new, AHeap.next_set, next_ov, next_delV, AHeap.next_del, next_low])
      simp
      dsimp only at hb5 hbj hosj
      refine awp_seq_k fun K16 hK16 => ?_
      refine awp_region (by decide) ?_   -- region 7
      refine aops_op rfl rfl rfl (by simp (disch := omega) [hc6, hc10, hbj]; rfl) ?_
      refine aops_nil ?_
      refine hK16 _ _ ?_
      refine awp_seq_k fun K17 hK17 => ?_
      refine awp_seq_k fun K18 hK18 => ?_
      refine awp_region (by decide) ?_   -- region 8
      refine aops_op rfl rfl rfl (by simp (disch := omega) [hc6, hc10, hbj]; rfl) ?_
      refine aops_nil ?_
      refine hK18 _ _ ?_
      refine awp_block ?_   -- block 0
      refine awp_lt fun hlt19 => ?_
      refine awp_loop4 [6, 7, 8, 9, 10, 33, 34, 35, 36, 37, 38, 39, 40, 41, 42, 43, 44, 45, 46, 47, 48, 49, 50, 51, 52, 53, 54, 55, 56, 57, 58, 59, 60, 61, 62, 63, 64, 65, 66, 67, 68, 69, 70, 71, 72, 73, 74, 75, 76, 77, 78] (fun i : Nat × Value × Value => [(7, iv i.1), (6, iv (runB (f.blocks.take i.1)))]) (fun H => H.del b5) (fun i H' => i.1 ≤ f.blocks.length ∧ H'.at_ b5 = some (.cells [iv f.args, iv f.regs, vs, iv f.args, iv 2, iv f.regs, i.2.1, i.2.2] 33 8) ∧ OwnB 43 41 H' (b2 + 1) vs f.blocks ∧ OwnMB 66 63 H' H_j.next i.2.1 ((f.blocks.take i.1).map blkM) ∧ OwnW 47 44 H' H_j.next i.2.2 ((f.blocks.take i.1).map fun _ => invM f.regs.toNat)) (fun i => f.blocks.length - i.1) ((0 : Nat), Value.slice none 0 0, Value.slice none 0 0) (by simp [runB]) sub_auto (by exact ⟨by simp, hbj, hosj, by simpa [OwnMB] using OwnN.nil, by simpa [OwnW] using OwnN.nil⟩) ?_   -- LOOP
      rintro ⟨i, vt, vw⟩ H_i s_i hl_i ⟨hi1, hbi, hos, hot, how⟩ K19 hK19
      have hx_i := s_i.next; simp at hx_i
      have hz_i := s_i.nexts; try (conv at hz_i => rhs; simp only [AHeap.next_new, AHeap.next_set, next_ov, next_delV, AHeap.next_del, next_low])
      simp
      dsimp only at hi1 hbi hos hot how
      have hcvs := OwnN.cells hos; have hcws := OwnN.one hos; have hcvt := OwnN.cells hot; have hcwt := OwnN.one hot; have hcvw := OwnN.cells how; have hcww := OwnN.one how
      have hrl := runB_tle hw4 i
      have htl := OwnN.id_lt hl_i hot; have hwl := OwnN.id_lt hl_i how; have htb := OwnN.ne_box hot hbi (by simp); have hwb := OwnN.ne_box how hbi (by simp); have hb5l := hl_i _ _ hbi
      refine awp_seq_k fun K20 hK20 => ?_
      refine awp_seq_k fun K21 hK21 => ?_
      refine awp_region (by decide) ?_   -- region 9
      refine aops_op rfl rfl rfl (by simp (disch := omega) [hc6, hc10, hbj, hbi, hcvs, hcvt, hcvw, hcws, hcwt, hcww]; rfl) ?_
      refine aops_op rfl rfl rfl (by simp (disch := omega) [hc6, hc10, hbj, hbi, hcvs, hcvt, hcvw, hcws, hcwt, hcww]; rfl) ?_
      refine aops_op rfl rfl rfl (by simp (disch := omega) [hc6, hc10, hbj, hbi, hcvs, hcvt, hcvw, hcws, hcwt, hcww]; rfl) ?_
      refine aops_op rfl rfl rfl (by simp (disch := omega) [hc6, hc10, hbj, hbi, hcvs, hcvt, hcvw, hcws, hcwt, hcww]; rfl) ?_
      refine aops_op rfl rfl rfl (by simp (disch := omega) [hc6, hc10, hbj, hbi, hcvs, hcvt, hcvw, hcws, hcwt, hcww]; rfl) ?_
      refine aops_nil ?_
      refine hK21 _ _ ?_
      refine awp_cond rfl (fun hc22 => ?_) fun hc22 => ?_
      · simp at hc22
        refine awp_skip ?_
        simp
        refine hK20 _ _ ?_
        refine awp_seq_k fun K23 hK23 => ?_
        refine awp_block ?_   -- block 1
        refine awp_seq_k fun K24 hK24 => ?_
        obtain ⟨x, ad, v', hx, rfl, had, hN, h1, hx1⟩ := hrow.getB (i := i) (by omega)
        simp only [encT] at hN
        have hxs := hw4 x (List.mem_of_getElem? hx)
        have hbo := (check_ok (by assumption)).2 i x hx
        have hbl := blkM_len x
        have hcvx := hx1.cells; have hcwx := hx1.one
        refine awp_region (by decide) ?_   -- region 11
        refine aops_op rfl rfl rfl (by simp (disch := omega) [hc6, hc10, hbj, hbi, hcvs, hcvt, hcvw, hcws, hcwt, hcww, hc22, hN, hcvx, hcwx]; rfl) ?_
        refine aops_op rfl rfl rfl (by simp (disch := omega) [hc6, hc10, hbj, hbi, hcvs, hcvt, hcvw, hcws, hcwt, hcww, hc22, hN, hcvx, hcwx]; rfl) ?_
        refine aops_op rfl rfl rfl (by simp (disch := omega) [hc6, hc10, hbj, hbi, hcvs, hcvt, hcvw, hcws, hcwt, hcww, hc22, hN, hcvx, hcwx]; rfl) ?_
        refine aops_op rfl rfl rfl (by simp (disch := omega) [hc6, hc10, hbj, hbi, hcvs, hcvt, hcvw, hcws, hcwt, hcww, hc22, hN, hcvx, hcwx]; rfl) ?_
        refine aops_op rfl rfl rfl (by simp (disch := omega) [hc6, hc10, hbj, hbi, hcvs, hcvt, hcvw, hcws, hcwt, hcww, hc22, hN, hcvx, hcwx]; rfl) ?_
        refine aops_callR (H1 := ?Q45n25) (R := ?R45n25) rfl rfl rfl rfl (by simp (disch := omega) [hc6, hc10, hbj, hbi, hcvs, hcvt, hcvw, hcws, hcwt, hcww, hc22, hN, hcvx, hcwx]; rfl) ?hk45n25 ?hh45n25
        case hk45n25 =>
          refine ref22_Block x v' f.regs f.blocks.length _ ?_ ?_ ?_ ?_
          · exact hx1.sub encIn_ok sub_auto
          · exact hbo
          · omega
          · omega
        intro v45 H45 s45 hl45 hR45
        have hx45 := s45.next; simp at hx45
        have hz45 := s45.nexts; try (conv at hz45 => rhs; simp only [AHeap.next_new, AHeap.next_set, next_ov, next_delV, AHeap.next_del, next_low])
        obtain ⟨u45, rfl, ho45, hi45⟩ := hR45
        have hj45 := ho45.id_lt hl45
        try simp only [AHeap.next_new, AHeap.next_set, next_ov, next_delV, AHeap.next_del, next_low] at hi45
        have hcv45 := ho45.cells; have hcw45 := ho45.one
        have hrl2 := runL_movesM_le (blkM x).code
        refine aops_alloc rfl rfl rfl (by simp (disch := omega) [hc6, hc10, hbj, hbi, hcvs, hcvt, hcvw, hcws, hcwt, hcww, hc22, hN, hcvx, hcwx]; rfl) (by simp (disch := omega) [hc6, hc10, hbj, hbi, hcvs, hcvt, hcvw, hcws, hcwt, hcww, hc22, hN, hcvx, hcwx]; rfl) ?_
        intro b8 hb8; try simp only [AHeap.next_new, AHeap.next_set, next_ov, next_delV, AHeap.next_del, next_low] at hb8
        refine aops_store rfl rfl rfl (by simp (disch := omega) [hc6, hc10, hbj, hbi, hcvs, hcvt, hcvw, hcws, hcwt, hcww, hc22, hN, hcvx, hcwx]; rfl) (by rfl) (by simp (disch := omega) [hc6, hc10, hbj, hbi, hcvs, hcvt, hcvw, hcws, hcwt, hcww, hc22, hN, hcvx, hcwx]; rfl) (by simp (disch := omega) [hc6, hc10, hbj, hbi, hcvs, hcvt, hcvw, hcws, hcwt, hcww, hc22, hN, hcvx, hcwx]; rfl) (by simp (disch := omega) [hc6, hc10, hbj, hbi, hcvs, hcvt, hcvw, hcws, hcwt, hcww, hc22, hN, hcvx, hcwx]; rfl) (by simp (disch := omega) [hc6, hc10, hbj, hbi, hcvs, hcvt, hcvw, hcws, hcwt, hcww, hc22, hN, hcvx, hcwx]; rfl) (by rfl) (by simp [hcws, hcwt, hcww, hcwx] <;> omega) (by simp [setCells] <;> rfl) set_auto ?_
        refine aops_nil ?_
        refine hK24 _ _ ?_
        refine awp_seq_k fun K26 hK26 => ?_
        refine awp_region (by decide) ?_   -- region 12
        refine aops_op rfl rfl rfl (by simp (disch := omega) [hc6, hc10, hbj, hbi, hcvs, hcvt, hcvw, hcws, hcwt, hcww, hc22, hN, hcvx, hcwx]; rfl) ?_
        refine aops_op rfl rfl rfl (by simp (disch := omega) [hc6, hc10, hbj, hbi, hcvs, hcvt, hcvw, hcws, hcwt, hcww, hc22, hN, hcvx, hcwx]; rfl) ?_
        refine aops_op rfl rfl rfl (by simp (disch := omega) [hc6, hc10, hbj, hbi, hcvs, hcvt, hcvw, hcws, hcwt, hcww, hc22, hN, hcvx, hcwx]; rfl) ?_
        refine aops_op rfl rfl rfl (by simp (disch := omega) [hc6, hc10, hbj, hbi, hcvs, hcvt, hcvw, hcws, hcwt, hcww, hc22, hN, hcvx, hcwx]; rfl) ?_
        refine aops_buildSlice rfl rfl rfl (by simp (disch := omega) [hc6, hc10, hbj, hbi, hcvs, hcvt, hcvw, hcws, hcwt, hcww, hc22, hN, hcvx, hcwx]; rfl) (by simp (disch := omega) [hc6, hc10, hbj, hbi, hcvs, hcvt, hcvw, hcws, hcwt, hcww, hc22, hN, hcvx, hcwx]; rfl) (by simp (disch := omega) [hc6, hc10, hbj, hbi, hcvs, hcvt, hcvw, hcws, hcwt, hcww, hc22, hN, hcvx, hcwx]; rfl) (by simp (disch := omega) [hc6, hc10, hbj, hbi, hcvs, hcvt, hcvw, hcws, hcwt, hcww, hc22, hN, hcvx, hcwx]; rfl) (by simp) (by simp (disch := omega) [hc6, hc10, hbj, hbi, hcvs, hcvt, hcvw, hcws, hcwt, hcww, hc22, hN, hcvx, hcwx, zrep, List.replicate]; rfl) (by simp <;> rfl) ?_
        intro b50 hb50; try simp only [AHeap.next_new, AHeap.next_set, next_ov, next_delV, AHeap.next_del, next_low] at hb50
        obtain ⟨zs, hz1, hz2, hz3, hz4⟩ := hot
        have hz5 : zs.length = i := by rw [hz1, List.length_map, List.length_take]; omega
        refine aops_appS (enc := encYB) (ys := [(u45, (blkM x).term)]) rfl rfl rfl rfl rfl rfl (by simp (disch := omega) [hc6, hc10, hbj, hbi, hcvs, hcvt, hcvw, hcws, hcwt, hcww, hc22, hN, hcvx, hcwx] <;> rfl) (by simp (disch := omega) [hc6, hc10, hbj, hbi, hcvs, hcvt, hcvw, hcws, hcwt, hcww, hc22, hN, hcvx, hcwx] <;> rfl) (by first | exact ownId_mk _ _ _ _ | rfl) (hz2.keep keep_auto) ?hy51n27 hlt_auto (fun _ => rfl) (by simp (disch := omega) [hc6, hc10, hbj, hbi, hcvs, hcvt, hcvw, hcws, hcwt, hcww, hc22, hN, hcvx, hcwx] <;> rfl) (by simp (disch := omega) [hc6, hc10, hbj, hbi, hcvs, hcvt, hcvw, hcws, hcwt, hcww, hc22, hN, hcvx, hcwx] <;> rfl) (by simp (disch := omega) [hc6, hc10, hbj, hbi, hcvs, hcvt, hcvw, hcws, hcwt, hcww, hc22, hN, hcvx, hcwx] <;> rfl) (by simp (disch := omega) [hc6, hc10, hbj, hbi, hcvs, hcvt, hcvw, hcws, hcwt, hcww, hc22, hN, hcvx, hcwx] <;> rfl) (by simp) (by simp [encYB, encT, hcw45]) (by simp [maxLen]; omega) ?hh51n27
        case hy51n27 => exact (SliceR.own (enc := encYB) encYB_len [(u45, (blkM x).term)] (AHeap.at_new_self _ _ _) (by first | omega | (simp <;> omega)) (by simp [encYB, encT, blkM]) rfl (by simp) (by simp [maxLen]))
        intro v51 H51 s51 hl51 ho51 hi51 hj51 hn51
        have hcv51 := ho51.cells; have hcw51 := ho51.one; have hx51 := s51.next; simp at hx51; try simp only [AHeap.next_new, AHeap.next_set, next_ov, next_delV, AHeap.next_del, next_low] at hi51
        have hz51 := s51.nexts; try (conv at hz51 => rhs; simp only [AHeap.next_new, AHeap.next_set, next_ov, next_delV, AHeap.next_del, next_low])
        have kB : KeepT H_i H51 (b2 + 1) 63 := KeepA.app s51 (hz2.keep keep_auto) keepA_auto
        have k45 : KeepO H45 (AHeap.ov _ H51 s51) u45 := keep_auto
        have hb51 := kB b5 _ (by omega) hbi (by simp)
        have hs51 : OwnB 43 41 H51 (b2 + 1) vs f.blocks := OwnN.keep (rinB_ok _) kB (by simp) hos
        have ht51 : OwnMB 66 63 H51 H_j.next v51 ((f.blocks.take i).map blkM ++ [blkM x]) := OwnN.snoc (ts := [66]) (y := (u45, (blkM x).term)) hz1 ho51 (by omega) (fun j y z h1 h2 => (rinMB_ok _).keep (kB.le (by omega)) (by simp) (hz4 j y z h1 h2)) ⟨rfl, OwnS.own (OwnS.keep (H := H45) (X := H51) ho45 k45) (by dsimp only; omega)⟩
        have hw51 : OwnW 47 44 H51 H_j.next vw ((f.blocks.take i).map fun _ => invM f.regs.toNat) := OwnN.keep (rinW_ok _) (kB.le (by omega)) (by simp) how
        refine aops_op rfl rfl rfl (by simp (disch := omega) [hc6, hc10, hbj, hbi, hcvs, hcvt, hcvw, hcws, hcwt, hcww, hc22, hN, hcvx, hcwx, hcv51, hcw51]; rfl) ?_
        refine aops_op rfl rfl rfl (by simp (disch := omega) [hc6, hc10, hbj, hbi, hcvs, hcvt, hcvw, hcws, hcwt, hcww, hc22, hN, hcvx, hcwx, hcv51, hcw51]; rfl) ?_
        refine aops_store rfl rfl rfl (by simp (disch := omega) [hc6, hc10, hbj, hbi, hcvs, hcvt, hcvw, hcws, hcwt, hcww, hc22, hN, hcvx, hcwx, hcv51, hcw51]; rfl) (by rfl) (by simp (disch := omega) [hc6, hc10, hbj, hbi, hcvs, hcvt, hcvw, hcws, hcwt, hcww, hc22, hN, hcvx, hcwx, hcv51, hcw51]; rfl) (by simp (disch := omega) [hc6, hc10, hbj, hbi, hcvs, hcvt, hcvw, hcws, hcwt, hcww, hc22, hN, hcvx, hcwx, hcv51, hcw51]; rfl) (by simp (disch := omega) [hc6, hc10, hbj, hbi, hcvs, hcvt, hcvw, hcws, hcwt, hcww, hc22, hN, hcvx, hcwx, hcv51, hcw51]; rfl) (by simp (disch := omega) [hc6, hc10, hbj, hbi, hcvs, hcvt, hcvw, hcws, hcwt, hcww, hc22, hN, hcvx, hcwx, hcv51, hcw51]; rfl) (by rfl) (by simp [hcws, hcwt, hcww, hcwx, hcw51] <;> omega) (by simp [setCells] <;> rfl) set_auto ?_
        refine aops_nil ?_
        refine hK26 _ _ ?_
        refine awp_seq_k fun K28 hK28 => ?_
        refine awp_region (by decide) ?_   -- region 13
        refine aops_op rfl rfl rfl (by simp (disch := omega) [hc6, hc10, hbj, hbi, hcvs, hcvt, hcvw, hcws, hcwt, hcww, hc22, hN, hcvx, hcwx, hcv51, hcw51]; rfl) ?_
        refine aops_op rfl rfl rfl (by simp (disch := omega) [hc6, hc10, hbj, hbi, hcvs, hcvt, hcvw, hcws, hcwt, hcww, hc22, hN, hcvx, hcwx, hcv51, hcw51]; rfl) ?_
        refine aops_op rfl rfl rfl (by simp (disch := omega) [hc6, hc10, hbj, hbi, hcvs, hcvt, hcvw, hcws, hcwt, hcww, hc22, hN, hcvx, hcwx, hcv51, hcw51]; rfl) ?_
        refine aops_callP (u := ?pu29) rfl rfl rfl rfl (by simp (disch := omega) [hc6, hc10, hbj, hbi, hcvs, hcvt, hcvw, hcws, hcwt, hcww, hc22, hN, hcvx, hcwx, hcv51, hcw51]; rfl) ?pk29 ?ph29
        case pk29 =>
          refine ref08_Moves (blkM x).code _ _ ?_ ?_
          · exact (OwnS.keep (H := H45) ho45 keep_auto).slice hlt_auto encM_len
          · omega
        refine aops_op rfl rfl rfl (by simp (disch := omega) [hc6, hc10, hbj, hbi, hcvs, hcvt, hcvw, hcws, hcwt, hcww, hc22, hN, hcvx, hcwx, hcv51, hcw51]; rfl) ?_
        refine aops_op rfl rfl rfl (by simp (disch := omega) [hc6, hc10, hbj, hbi, hcvs, hcvt, hcvw, hcws, hcwt, hcww, hc22, hN, hcvx, hcwx, hcv51, hcw51]; rfl) ?_
        refine aops_nil ?_
        refine hK28 _ _ ?_
        refine awp_seq_k fun K30 hK30 => ?_
        refine awp_region (by decide) ?_   -- region 14
        refine aops_op rfl rfl rfl (by simp (disch := omega) [hc6, hc10, hbj, hbi, hcvs, hcvt, hcvw, hcws, hcwt, hcww, hc22, hN, hcvx, hcwx, hcv51, hcw51]; rfl) ?_
        refine aops_nil ?_
        refine hK30 _ _ ?_
        refine awp_seq_k fun K31 hK31 => ?_
        refine awp_seq_k fun K32 hK32 => ?_
        refine awp_region (by decide) ?_   -- region 15
        refine aops_op rfl rfl rfl (by simp (disch := omega) [hc6, hc10, hbj, hbi, hcvs, hcvt, hcvw, hcws, hcwt, hcww, hc22, hN, hcvx, hcwx, hcv51, hcw51]; rfl) ?_
        refine aops_nil ?_
        refine hK32 _ _ ?_
        refine awp_block ?_   -- block 2
        refine awp_lt fun hlt33 => ?_
        refine awp_loop4 [9, 10, 59, 60, 61, 62, 63, 64, 65, 66, 67, 68, 69, 70, 71, 72] (fun k : Nat × Value => [(10, iv k.1), (9, k.2)]) (fun H => H) (fun k H' => (k.1 : Int) ≤ f.regs ∧ OwnS H' k.2 47 2 encP (invM k.1) ∧ (ownId k.2 = -1 ∨ (H51.next : Int) ≤ ownId k.2)) (fun k => f.regs.toNat - k.1) ((0 : Nat), Value.slice none 0 0) (by simp) sub_auto (by exact ⟨by simp; omega, by simpa [invM] using OwnS.nil, by simp⟩) ?_   -- LOOP
        rintro ⟨k, u⟩ H_k s_k hl_k ⟨hk1, hok, hik⟩ K33 hK33
        have hx_k := s_k.next; simp at hx_k
        have hz_k := s_k.nexts; try (conv at hz_k => rhs; simp only [AHeap.next_new, AHeap.next_set, next_ov, next_delV, AHeap.next_del, next_low])
        simp
        dsimp only at hk1 hok hik
        have hcvu := hok.cells; have hcwu := hok.one; have hul := hok.id_lt hl_k
        have hlk := invM_len k
        refine awp_seq_k fun K34 hK34 => ?_
        refine awp_seq_k fun K35 hK35 => ?_
        refine awp_region (by decide) ?_   -- region 16
        refine aops_op rfl rfl rfl (by simp (disch := omega) [hc6, hc10, hbj, hbi, hcvs, hcvt, hcvw, hcws, hcwt, hcww, hc22, hN, hcvx, hcwx, hcv51, hcw51, hcvu, hcwu]; rfl) ?_
        refine aops_op rfl rfl rfl (by simp (disch := omega) [hc6, hc10, hbj, hbi, hcvs, hcvt, hcvw, hcws, hcwt, hcww, hc22, hN, hcvx, hcwx, hcv51, hcw51, hcvu, hcwu]; rfl) ?_
        refine aops_op rfl rfl rfl (by simp (disch := omega) [hc6, hc10, hbj, hbi, hcvs, hcvt, hcvw, hcws, hcwt, hcww, hc22, hN, hcvx, hcwx, hcv51, hcw51, hcvu, hcwu]; rfl) ?_
        refine aops_op rfl rfl rfl (by simp (disch := omega) [hc6, hc10, hbj, hbi, hcvs, hcvt, hcvw, hcws, hcwt, hcww, hc22, hN, hcvx, hcwx, hcv51, hcw51, hcvu, hcwu]; rfl) ?_
        refine aops_nil ?_
        refine hK35 _ _ ?_
        refine awp_cond rfl (fun hc36 => ?_) fun hc36 => ?_
        · simp at hc36
          refine awp_skip ?_
          simp
          refine hK34 _ _ ?_
          refine awp_seq_k fun K37 hK37 => ?_
          refine awp_block ?_   -- block 3
          refine awp_region (by decide) ?_   -- region 18
          refine aops_op rfl rfl rfl (by simp (disch := omega) [hc6, hc10, hbj, hbi, hcvs, hcvt, hcvw, hcws, hcwt, hcww, hc22, hN, hcvx, hcwx, hcv51, hcw51, hcvu, hcwu, hc36]; rfl) ?_
          refine aops_op rfl rfl rfl (by simp (disch := omega) [hc6, hc10, hbj, hbi, hcvs, hcvt, hcvw, hcws, hcwt, hcww, hc22, hN, hcvx, hcwx, hcv51, hcw51, hcvu, hcwu, hc36]; rfl) ?_
          refine aops_op rfl rfl rfl (by simp (disch := omega) [hc6, hc10, hbj, hbi, hcvs, hcvt, hcvw, hcws, hcwt, hcww, hc22, hN, hcvx, hcwx, hcv51, hcw51, hcvu, hcwu, hc36]; rfl) ?_
          refine aops_op rfl rfl rfl (by simp (disch := omega) [hc6, hc10, hbj, hbi, hcvs, hcvt, hcvw, hcws, hcwt, hcww, hc22, hN, hcvx, hcwx, hcv51, hcw51, hcvu, hcwu, hc36]; rfl) ?_
          refine aops_op rfl rfl rfl (by simp (disch := omega) [hc6, hc10, hbj, hbi, hcvs, hcvt, hcvw, hcws, hcwt, hcww, hc22, hN, hcvx, hcwx, hcv51, hcw51, hcvu, hcwu, hc36]; rfl) ?_
          refine aops_op rfl rfl rfl (by simp (disch := omega) [hc6, hc10, hbj, hbi, hcvs, hcvt, hcvw, hcws, hcwt, hcww, hc22, hN, hcvx, hcwx, hcv51, hcw51, hcvu, hcwu, hc36]; rfl) ?_
          refine aops_buildSlice rfl rfl rfl (by simp (disch := omega) [hc6, hc10, hbj, hbi, hcvs, hcvt, hcvw, hcws, hcwt, hcww, hc22, hN, hcvx, hcwx, hcv51, hcw51, hcvu, hcwu, hc36]; rfl) (by simp (disch := omega) [hc6, hc10, hbj, hbi, hcvs, hcvt, hcvw, hcws, hcwt, hcww, hc22, hN, hcvx, hcwx, hcv51, hcw51, hcvu, hcwu, hc36]; rfl) (by simp (disch := omega) [hc6, hc10, hbj, hbi, hcvs, hcvt, hcvw, hcws, hcwt, hcww, hc22, hN, hcvx, hcwx, hcv51, hcw51, hcvu, hcwu, hc36]; rfl) (by simp (disch := omega) [hc6, hc10, hbj, hbi, hcvs, hcvt, hcvw, hcws, hcwt, hcww, hc22, hN, hcvx, hcwx, hcv51, hcw51, hcvu, hcwu, hc36]; rfl) (by simp) (by simp (disch := omega) [hc6, hc10, hbj, hbi, hcvs, hcvt, hcvw, hcws, hcwt, hcww, hc22, hN, hcvx, hcwx, hcv51, hcw51, hcvu, hcwu, hc36, zrep, List.replicate]; rfl) (by simp <;> rfl) ?_
          intro b71 hb71; try simp only [AHeap.next_new, AHeap.next_set, next_ov, next_delV, AHeap.next_del, next_low] at hb71
          refine aops_appS (enc := encP) (ys := [⟨(k : Int), 2 * (k : Int) + 1⟩]) rfl rfl rfl rfl rfl rfl (by simp (disch := omega) [hc6, hc10, hbj, hbi, hcvs, hcvt, hcvw, hcws, hcwt, hcww, hc22, hN, hcvx, hcwx, hcv51, hcw51, hcvu, hcwu, hc36] <;> rfl) (by simp (disch := omega) [hc6, hc10, hbj, hbi, hcvs, hcvt, hcvw, hcws, hcwt, hcww, hc22, hN, hcvx, hcwx, hcv51, hcw51, hcvu, hcwu, hc36] <;> rfl) (by first | exact ownId_mk _ _ _ _ | rfl) (hok.keep keep_auto) ?hy72n38 hlt_auto (fun _ => rfl) (by simp (disch := omega) [hc6, hc10, hbj, hbi, hcvs, hcvt, hcvw, hcws, hcwt, hcww, hc22, hN, hcvx, hcwx, hcv51, hcw51, hcvu, hcwu, hc36] <;> rfl) (by simp (disch := omega) [hc6, hc10, hbj, hbi, hcvs, hcvt, hcvw, hcws, hcwt, hcww, hc22, hN, hcvx, hcwx, hcv51, hcw51, hcvu, hcwu, hc36] <;> rfl) (by simp (disch := omega) [hc6, hc10, hbj, hbi, hcvs, hcvt, hcvw, hcws, hcwt, hcww, hc22, hN, hcvx, hcwx, hcv51, hcw51, hcvu, hcwu, hc36] <;> rfl) (by simp (disch := omega) [hc6, hc10, hbj, hbi, hcvs, hcvt, hcvw, hcws, hcwt, hcww, hc22, hN, hcvx, hcwx, hcv51, hcw51, hcvu, hcwu, hc36] <;> rfl) (by simp) (fun _ _ => by simp [encP]) (by simp [maxLen]; omega) ?hh72n38
          case hy72n38 => exact (SliceR.own (enc := encP) encP_len [⟨(k : Int), 2 * (k : Int) + 1⟩] (AHeap.at_new_self _ _ _) (by first | omega | (simp <;> omega)) (by simp [encP]) rfl (by simp) (by simp [maxLen]))
          intro v72 H72 s72 hl72 ho72 hi72 hj72 hn72
          have hcv72 := ho72.cells; have hcw72 := ho72.one; have hx72 := s72.next; simp at hx72; try simp only [AHeap.next_new, AHeap.next_set, next_ov, next_delV, AHeap.next_del, next_low] at hi72
          have hz72 := s72.nexts; try (conv at hz72 => rhs; simp only [AHeap.next_new, AHeap.next_set, next_ov, next_delV, AHeap.next_del, next_low])
          refine aops_op rfl rfl rfl (by simp (disch := omega) [hc6, hc10, hbj, hbi, hcvs, hcvt, hcvw, hcws, hcwt, hcww, hc22, hN, hcvx, hcwx, hcv51, hcw51, hcvu, hcwu, hc36, hcv72, hcw72]; rfl) ?_
          refine aops_nil ?_
          refine hK37 _ _ ?_
          refine awp_region (by decide) ?_   -- region 17
          refine aops_op rfl rfl rfl (by simp (disch := omega) [hc6, hc10, hbj, hbi, hcvs, hcvt, hcvw, hcws, hcwt, hcww, hc22, hN, hcvx, hcwx, hcv51, hcw51, hcvu, hcwu, hc36, hcv72, hcw72]; rfl) ?_
          refine aops_op rfl rfl rfl (by simp (disch := omega) [hc6, hc10, hbj, hbi, hcvs, hcvt, hcvw, hcws, hcwt, hcww, hc22, hN, hcvx, hcwx, hcv51, hcw51, hcvu, hcwu, hc36, hcv72, hcw72]; rfl) ?_
          refine aops_op rfl rfl rfl (by simp (disch := omega) [hc6, hc10, hbj, hbi, hcvs, hcvt, hcvw, hcws, hcwt, hcww, hc22, hN, hcvx, hcwx, hcv51, hcw51, hcvu, hcwu, hc36, hcv72, hcw72]; rfl) ?_
          refine aops_nil ?_
          refine hK33 _ _ ?_   -- END OF ROUND
          refine loopTo4 ((k + 1, v72)) rfl (by simp (disch := omega) [hc6, hc10, hbj, hbi, hcvs, hcvt, hcvw, hcws, hcwt, hcww, hc22, hN, hcvx, hcwx, hcv51, hcw51, hcvu, hcwu, hc36, hcv72, hcw72]) (by simp [hc6, hc10, hbj, hbi, hcvs, hcvt, hcvw, hcws, hcwt, hcww, hc22, hN, hcvx, hcwx, hcv51, hcw51, hcvu, hcwu, hc36, hcv72, hcw72]) sub_auto ?_ (by simp; omega)
          refine ⟨by simp; omega, ?_, by dsimp only; omega⟩
          rw [invM_take]
          exact OwnS.keep (H := H72) ho72 keep_auto
        · simp at hc36
          refine awp_exit ?_   -- exit 2
          simp
          refine hK31 _ _ ?_
          refine awp_region (by decide) ?_   -- region 19
          refine aops_op rfl rfl rfl (by simp (disch := omega) [hc6, hc10, hbj, hbi, hcvs, hcvt, hcvw, hcws, hcwt, hcww, hc22, hN, hcvx, hcwx, hcv51, hcw51, hcvu, hcwu, hc36]; rfl) ?_
          refine aops_op rfl rfl rfl (by simp (disch := omega) [hc6, hc10, hbj, hbi, hcvs, hcvt, hcvw, hcws, hcwt, hcww, hc22, hN, hcvx, hcwx, hcv51, hcw51, hcvu, hcwu, hc36]; rfl) ?_
          refine aops_op rfl rfl rfl (by simp (disch := omega) [hc6, hc10, hbj, hbi, hcvs, hcvt, hcvw, hcws, hcwt, hcww, hc22, hN, hcvx, hcwx, hcv51, hcw51, hcvu, hcwu, hc36]; rfl) ?_
          refine aops_buildSlice rfl rfl rfl (by simp (disch := omega) [hc6, hc10, hbj, hbi, hcvs, hcvt, hcvw, hcws, hcwt, hcww, hc22, hN, hcvx, hcwx, hcv51, hcw51, hcvu, hcwu, hc36]; rfl) (by simp (disch := omega) [hc6, hc10, hbj, hbi, hcvs, hcvt, hcvw, hcws, hcwt, hcww, hc22, hN, hcvx, hcwx, hcv51, hcw51, hcvu, hcwu, hc36]; rfl) (by simp (disch := omega) [hc6, hc10, hbj, hbi, hcvs, hcvt, hcvw, hcws, hcwt, hcww, hc22, hN, hcvx, hcwx, hcv51, hcw51, hcvu, hcwu, hc36]; rfl) (by simp (disch := omega) [hc6, hc10, hbj, hbi, hcvs, hcvt, hcvw, hcws, hcwt, hcww, hc22, hN, hcvx, hcwx, hcv51, hcw51, hcvu, hcwu, hc36]; rfl) (by simp) (by simp (disch := omega) [hc6, hc10, hbj, hbi, hcvs, hcvt, hcvw, hcws, hcwt, hcww, hc22, hN, hcvx, hcwx, hcv51, hcw51, hcvu, hcwu, hc36, zrep, List.replicate]; rfl) (by simp <;> rfl) ?_
          intro b76 hb76; try simp only [AHeap.next_new, AHeap.next_set, next_ov, next_delV, AHeap.next_del, next_low] at hb76
          have hw_k : OwnW 47 44 H_k H_j.next vw ((f.blocks.take i).map fun _ => invM f.regs.toNat) := OwnN.keep (rinW_ok _) (show KeepT H51 (AHeap.ov _ H_k s_k) H_j.next 33 from keepT_auto) (by simp) hw51
          have hs_k : OwnB 43 41 H_k (b2 + 1) vs f.blocks := OwnN.keep (rinB_ok _) (show KeepT H51 (AHeap.ov _ H_k s_k) (b2 + 1) 33 from keepT_auto) (by simp) hs51
          have ht_k : OwnMB 66 63 H_k H_j.next v51 ((f.blocks.take i).map blkM ++ [blkM x]) := OwnN.keep (rinMB_ok _) (show KeepT H51 (AHeap.ov _ H_k s_k) H_j.next 33 from keepT_auto) (by simp) ht51
          obtain ⟨us, hu1, hu2, hu3, hu4⟩ := hw_k
          have hu5 : us.length = i := by rw [hu1, List.length_map, List.length_take]; omega
          refine aops_appS (enc := encV) (ys := [u]) rfl rfl rfl rfl rfl rfl (by simp (disch := omega) [hc6, hc10, hbj, hbi, hcvs, hcvt, hcvw, hcws, hcwt, hcww, hc22, hN, hcvx, hcwx, hcv51, hcw51, hcvu, hcwu, hc36] <;> rfl) (by simp (disch := omega) [hc6, hc10, hbj, hbi, hcvs, hcvt, hcvw, hcws, hcwt, hcww, hc22, hN, hcvx, hcwx, hcv51, hcw51, hcvu, hcwu, hc36] <;> rfl) (by first | exact ownId_mk _ _ _ _ | rfl) (hu2.keep keep_auto) ?hy77n39 hlt_auto (fun _ => rfl) (by simp (disch := omega) [hc6, hc10, hbj, hbi, hcvs, hcvt, hcvw, hcws, hcwt, hcww, hc22, hN, hcvx, hcwx, hcv51, hcw51, hcvu, hcwu, hc36] <;> rfl) (by simp (disch := omega) [hc6, hc10, hbj, hbi, hcvs, hcvt, hcvw, hcws, hcwt, hcww, hc22, hN, hcvx, hcwx, hcv51, hcw51, hcvu, hcwu, hc36] <;> rfl) (by simp (disch := omega) [hc6, hc10, hbj, hbi, hcvs, hcvt, hcvw, hcws, hcwt, hcww, hc22, hN, hcvx, hcwx, hcv51, hcw51, hcvu, hcwu, hc36] <;> rfl) (by simp (disch := omega) [hc6, hc10, hbj, hbi, hcvs, hcvt, hcvw, hcws, hcwt, hcww, hc22, hN, hcvx, hcwx, hcv51, hcw51, hcvu, hcwu, hc36] <;> rfl) (by simp) (by simp [encV, hcwu]) (by simp [maxLen]; omega) ?hh77n39
          case hy77n39 => exact (SliceR.own (enc := encV) encV_len [u] (AHeap.at_new_self _ _ _) (by first | omega | (simp <;> omega)) (by simp [encV]) rfl (by simp) (by simp [maxLen]))
          intro v77 H77 s77 hl77 ho77 hi77 hj77 hn77
          have hcv77 := ho77.cells; have hcw77 := ho77.one; have hx77 := s77.next; simp at hx77; try simp only [AHeap.next_new, AHeap.next_set, next_ov, next_delV, AHeap.next_del, next_low] at hi77
          have hz77 := s77.nexts; try (conv at hz77 => rhs; simp only [AHeap.next_new, AHeap.next_set, next_ov, next_delV, AHeap.next_del, next_low])
          have kC : KeepT H_k H77 (b2 + 1) 44 := KeepA.app s77 (hu2.keep keep_auto) keepA_auto
          have kU : KeepO H_k (AHeap.ov _ H77 s77) u := keep_auto
          have hb_k := s_k.at_ b5 _ (by simp; rfl)
          have hb77 := kC b5 _ (by omega) hb_k (by simp)
          have hs77 : OwnB 43 41 H77 (b2 + 1) vs f.blocks := OwnN.keep (rinB_ok _) kC (by simp) hs_k
          have ht77 : OwnMB 66 63 H77 H_j.next v51 ((f.blocks.take i).map blkM ++ [blkM x]) := OwnN.keep (rinMB_ok _) (kC.le (by omega)) (by simp) ht_k
          have hw77 : OwnW 47 44 H77 H_j.next v77 (((f.blocks.take i).map fun _ => invM f.regs.toNat) ++ [invM f.regs.toNat]) := OwnN.snoc (ts := [47]) (y := u) hu1 ho77 (by omega) (fun j y z h1 h2 => (rinW_ok _).keep (kC.le (by omega)) (by simp) (hu4 j y z h1 h2)) (OwnS.own (OwnS.keep (H := H_k) (X := H77) (by rw [show f.regs.toNat = k by omega]; exact hok) kU) (by omega))
          refine aops_op rfl rfl rfl (by simp (disch := omega) [hc6, hc10, hbj, hbi, hcvs, hcvt, hcvw, hcws, hcwt, hcww, hc22, hN, hcvx, hcwx, hcv51, hcw51, hcvu, hcwu, hc36, hcv77, hcw77]; rfl) ?_
          refine aops_store rfl rfl rfl (by simp (disch := omega) [hc6, hc10, hbj, hbi, hcvs, hcvt, hcvw, hcws, hcwt, hcww, hc22, hN, hcvx, hcwx, hcv51, hcw51, hcvu, hcwu, hc36, hcv77, hcw77]; rfl) (by rfl) (by simp (disch := omega) [hc6, hc10, hbj, hbi, hcvs, hcvt, hcvw, hcws, hcwt, hcww, hc22, hN, hcvx, hcwx, hcv51, hcw51, hcvu, hcwu, hc36, hcv77, hcw77]; rfl) (by simp (disch := omega) [hc6, hc10, hbj, hbi, hcvs, hcvt, hcvw, hcws, hcwt, hcww, hc22, hN, hcvx, hcwx, hcv51, hcw51, hcvu, hcwu, hc36, hcv77, hcw77]; rfl) (by simp (disch := omega) [hc6, hc10, hbj, hbi, hcvs, hcvt, hcvw, hcws, hcwt, hcww, hc22, hN, hcvx, hcwx, hcv51, hcw51, hcvu, hcwu, hc36, hcv77, hcw77]; rfl) (by simp (disch := omega) [hc6, hc10, hbj, hbi, hcvs, hcvt, hcvw, hcws, hcwt, hcww, hc22, hN, hcvx, hcwx, hcv51, hcw51, hcvu, hcwu, hc36, hcv77, hcw77]; rfl) (by rfl) (by simp [hcws, hcwt, hcww, hcwx, hcw51, hcwu, hcw77] <;> omega) (by simp [setCells] <;> rfl) set_auto ?_
          refine aops_nil ?_
          refine hK23 _ _ ?_
          refine awp_region (by decide) ?_   -- region 10
          refine aops_op rfl rfl rfl (by simp (disch := omega) [hc6, hc10, hbj, hbi, hcvs, hcvt, hcvw, hcws, hcwt, hcww, hc22, hN, hcvx, hcwx, hcv51, hcw51, hcvu, hcwu, hc36, hcv77, hcw77]; rfl) ?_
          refine aops_op rfl rfl rfl (by simp (disch := omega) [hc6, hc10, hbj, hbi, hcvs, hcvt, hcvw, hcws, hcwt, hcww, hc22, hN, hcvx, hcwx, hcv51, hcw51, hcvu, hcwu, hc36, hcv77, hcw77]; rfl) ?_
          refine aops_op rfl rfl rfl (by simp (disch := omega) [hc6, hc10, hbj, hbi, hcvs, hcvt, hcvw, hcws, hcwt, hcww, hc22, hN, hcvx, hcwx, hcv51, hcw51, hcvu, hcwu, hc36, hcv77, hcw77]; rfl) ?_
          refine aops_nil ?_
          refine hK19 _ _ ?_   -- END OF ROUND
          have hrm := runB_take hx
          have hmx : max (runB (f.blocks.take i) : Int) (movesM (blkM x).code : Int) = ((max (runB (f.blocks.take i)) (movesM (blkM x).code) : Nat) : Int) := by omega
          refine loopTo4 ((i + 1, v51, v77)) rfl (by simp (disch := omega) [hc6, hc10, hbj, hbi, hcvs, hcvt, hcvw, hcws, hcwt, hcww, hc22, hN, hcvx, hcwx, hcv51, hcw51, hcvu, hcwu, hc36, hcv77, hcw77, hrm, hmx]) (by simp [hc6, hc10, hbj, hbi, hcvs, hcvt, hcvw, hcws, hcwt, hcww, hc22, hN, hcvx, hcwx, hcv51, hcw51, hcvu, hcwu, hc36, hcv77, hcw77, hrm, hmx]) sub_auto ?_ (by simp; omega)
          have kE : ∀ (o : AObj) (lo : Nat), KeepT H77 ((AHeap.ov _ H77 s77).set b5 o) lo 33 := fun o lo => KeepT.setT hb77 KeepT.home
          refine ⟨by simp; omega, by simp [hcw51, hcw77], ?_, ?_, ?_⟩
          · exact OwnN.keep (H := H77) (el0 := 33) (rinB_ok _) (kE _ _) (by simp) hs77
          · rw [take_snoc hx, List.map_append]; exact OwnN.keep (H := H77) (el0 := 33) (rinMB_ok _) (kE _ _) (by simp) ht77
          · rw [take_snoc hx, List.map_append]; exact OwnN.keep (H := H77) (el0 := 33) (rinW_ok _) (kE _ _) (by simp) hw77
      · simp at hc22
        refine awp_exit ?_   -- exit 0
        simp
        have hfull : f.blocks.take i = f.blocks := List.take_of_length_le (by omega)
        have hrF : runB (f.blocks.take i) = runB f.blocks := by rw [hfull]
        rw [hfull] at hot how
        have hcF := codeMB_tle f.blocks f.blocks.length; rw [List.take_length] at hcF
        refine hK17 _ _ ?_
        refine awp_seq_k fun K40 hK40 => ?_
        refine awp_seq_k fun K41 hK41 => ?_
        refine awp_region (by decide) ?_   -- region 20
        refine aops_op rfl rfl rfl (by simp (disch := omega) [hc6, hc10, hbj, hbi, hcvs, hcvt, hcvw, hcws, hcwt, hcww, hc22]; rfl) ?_
        refine aops_op rfl rfl rfl (by simp (disch := omega) [hc6, hc10, hbj, hbi, hcvs, hcvt, hcvw, hcws, hcwt, hcww, hc22]; rfl) ?_
        refine aops_callP (u := ?pu42) rfl rfl rfl rfl (by simp (disch := omega) [hc6, hc10, hbj, hbi, hcvs, hcvt, hcvw, hcws, hcwt, hcww, hc22]; rfl) ?pk42 ?ph42
        case pk42 =>
          refine ref08_Code (spillC f).t vt _ ?_ ?_
          · exact OwnMB.slice hl_i hot
          · simp only [spillC]; omega
        refine aops_op rfl rfl rfl (by simp (disch := omega) [hc6, hc10, hbj, hbi, hcvs, hcvt, hcvw, hcws, hcwt, hcww, hc22]; rfl) ?_
        refine aops_nil ?_
        refine hK41 _ _ ?_
        refine awp_cond rfl (fun hc43 => ?_) fun hc43 => ?_
        · simp at hc43
          refine awp_seq_k fun K44 hK44 => ?_
          refine awp_region (by decide) ?_   -- region 21
          refine aops_op rfl rfl rfl (by simp (disch := omega) [hc6, hc10, hbj, hbi, hcvs, hcvt, hcvw, hcws, hcwt, hcww, hc22, hc43]; rfl) ?_
          refine aops_store rfl rfl rfl (by simp (disch := omega) [hc6, hc10, hbj, hbi, hcvs, hcvt, hcvw, hcws, hcwt, hcww, hc22, hc43]; rfl) (by rfl) (by simp (disch := omega) [hc6, hc10, hbj, hbi, hcvs, hcvt, hcvw, hcws, hcwt, hcww, hc22, hc43]; rfl) (by simp (disch := omega) [hc6, hc10, hbj, hbi, hcvs, hcvt, hcvw, hcws, hcwt, hcww, hc22, hc43]; rfl) (by simp (disch := omega) [hc6, hc10, hbj, hbi, hcvs, hcvt, hcvw, hcws, hcwt, hcww, hc22, hc43]; rfl) (by simp (disch := omega) [hc6, hc10, hbj, hbi, hcvs, hcvt, hcvw, hcws, hcwt, hcww, hc22, hc43]; rfl) (by rfl) (by simp [hcws, hcwt, hcww] <;> omega) (by simp [setCells] <;> rfl) set_auto ?_
          refine aops_op rfl rfl rfl (by simp (disch := omega) [hc6, hc10, hbj, hbi, hcvs, hcvt, hcvw, hcws, hcwt, hcww, hc22, hc43]; rfl) ?_
          refine aops_nil ?_
          refine hK44 _ _ ?_
          refine awp_lt fun hltE => ?_
          refine awp_ret ?_
          try simp only [thenA, blockA]
          refine fpost_retR hR' hlt_auto rfl (by simp (disch := omega) [hc6, hc10, hbj, hbi, hcvs, hcvt, hcvw, hcws, hcwt, hcww, hc22, hc43] <;> rfl) sub_auto ?_
          -- WAY 1110
          simp only [spillC] at *
          have hR : certR f = (zeroC, 6) := by unfold certR; grind
          rw [hR]
          exact ⟨_, _, _, by simp [resV, zeroC] <;> rfl, OwnN.nil, OwnN.nil, OwnN.nil⟩
        · simp at hc43
          refine awp_skip ?_
          simp
          refine hK40 _ _ ?_
          refine awp_seq_k fun K45 hK45 => ?_
          refine awp_seq_k fun K46 hK46 => ?_
          refine awp_region (by decide) ?_   -- region 22
          refine aops_op rfl rfl rfl (by simp (disch := omega) [hc6, hc10, hbj, hbi, hcvs, hcvt, hcvw, hcws, hcwt, hcww, hc22, hc43]; rfl) ?_
          refine aops_op rfl rfl rfl (by simp (disch := omega) [hc6, hc10, hbj, hbi, hcvs, hcvt, hcvw, hcws, hcwt, hcww, hc22, hc43]; rfl) ?_
          refine aops_nil ?_
          refine hK46 _ _ ?_
          refine awp_cond rfl (fun hc47 => ?_) fun hc47 => ?_
          · simp at hc47
            refine awp_seq_k fun K48 hK48 => ?_
            refine awp_region (by decide) ?_   -- region 23
            refine aops_op rfl rfl rfl (by simp (disch := omega) [hc6, hc10, hbj, hbi, hcvs, hcvt, hcvw, hcws, hcwt, hcww, hc22, hc43, hc47]; rfl) ?_
            refine aops_store rfl rfl rfl (by simp (disch := omega) [hc6, hc10, hbj, hbi, hcvs, hcvt, hcvw, hcws, hcwt, hcww, hc22, hc43, hc47]; rfl) (by rfl) (by simp (disch := omega) [hc6, hc10, hbj, hbi, hcvs, hcvt, hcvw, hcws, hcwt, hcww, hc22, hc43, hc47]; rfl) (by simp (disch := omega) [hc6, hc10, hbj, hbi, hcvs, hcvt, hcvw, hcws, hcwt, hcww, hc22, hc43, hc47]; rfl) (by simp (disch := omega) [hc6, hc10, hbj, hbi, hcvs, hcvt, hcvw, hcws, hcwt, hcww, hc22, hc43, hc47]; rfl) (by simp (disch := omega) [hc6, hc10, hbj, hbi, hcvs, hcvt, hcvw, hcws, hcwt, hcww, hc22, hc43, hc47]; rfl) (by rfl) (by simp [hcws, hcwt, hcww] <;> omega) (by simp [setCells] <;> rfl) set_auto ?_
            refine aops_op rfl rfl rfl (by simp (disch := omega) [hc6, hc10, hbj, hbi, hcvs, hcvt, hcvw, hcws, hcwt, hcww, hc22, hc43, hc47]; rfl) ?_
            refine aops_nil ?_
            refine hK48 _ _ ?_
            refine awp_lt fun hltE => ?_
            refine awp_ret ?_
            try simp only [thenA, blockA]
            refine fpost_retR hR' hlt_auto rfl (by simp (disch := omega) [hc6, hc10, hbj, hbi, hcvs, hcvt, hcvw, hcws, hcwt, hcww, hc22, hc43, hc47] <;> rfl) sub_auto ?_
            -- WAY 11110
            simp only [spillC] at *
            have hR : certR f = (zeroC, 15) := by unfold certR; grind
            rw [hR]
            exact ⟨_, _, _, by simp [resV, zeroC] <;> rfl, OwnN.nil, OwnN.nil, OwnN.nil⟩
          · simp at hc47
            refine awp_skip ?_
            simp
            refine hK45 _ _ ?_
            refine awp_seq_k fun K49 hK49 => ?_
            refine awp_region (by decide) ?_   -- region 24
            refine aops_op rfl rfl rfl (by simp (disch := omega) [hc6, hc10, hbj, hbi, hcvs, hcvt, hcvw, hcws, hcwt, hcww, hc22, hc43, hc47]; rfl) ?_
            refine aops_store rfl rfl rfl (by simp (disch := omega) [hc6, hc10, hbj, hbi, hcvs, hcvt, hcvw, hcws, hcwt, hcww, hc22, hc43, hc47]; rfl) (by rfl) (by simp (disch := omega) [hc6, hc10, hbj, hbi, hcvs, hcvt, hcvw, hcws, hcwt, hcww, hc22, hc43, hc47]; rfl) (by simp (disch := omega) [hc6, hc10, hbj, hbi, hcvs, hcvt, hcvw, hcws, hcwt, hcww, hc22, hc43, hc47]; rfl) (by simp (disch := omega) [hc6, hc10, hbj, hbi, hcvs, hcvt, hcvw, hcws, hcwt, hcww, hc22, hc43, hc47]; rfl) (by simp (disch := omega) [hc6, hc10, hbj, hbi, hcvs, hcvt, hcvw, hcws, hcwt, hcww, hc22, hc43, hc47]; rfl) (by rfl) (by simp [hcws, hcwt, hcww] <;> omega) (by simp [setCells] <;> rfl) set_auto ?_
            refine aops_op rfl rfl rfl (by simp (disch := omega) [hc6, hc10, hbj, hbi, hcvs, hcvt, hcvw, hcws, hcwt, hcww, hc22, hc43, hc47]; rfl) ?_
            refine aops_nil ?_
            refine hK49 _ _ ?_
            refine awp_lt fun hltE => ?_
            refine awp_ret ?_
            try simp only [thenA, blockA]
            refine fpost_retR hR' hlt_auto rfl (by simp (disch := omega) [hc6, hc10, hbj, hbi, hcvs, hcvt, hcvw, hcws, hcwt, hcww, hc22, hc43, hc47] <;> rfl) sub_auto ?_
            -- WAY 11111
            have hR : certR f = (spillC f, 0) := by
              have e1 : (spillC f).t.blocks = f.blocks.map blkM := rfl
              rw [e1] at *
              unfold certR
              rw [if_neg (by omega), if_neg (by omega), if_neg (by omega), if_neg (by omega)]
            rw [hR]
            exact ⟨vs, vt, vw, by simp [resV, spillC], OwnN.le (rinB_ok _) (by omega) (OwnN.keepA (rinB_ok _) (show KeepA H_i _ (b2 + 1) from keepA_auto) hos), OwnN.le (rinMB_ok _) (by omega) (OwnN.keepA (rinMB_ok _) (show KeepA H_i _ H_j.next from keepA_auto) hot), OwnN.le (rinW_ok _) (by omega) (OwnN.keepA (rinW_ok _) (show KeepA H_i _ H_j.next from keepA_auto) how)⟩

end Go.Proofs.Yteklhgmoniaieaa.Fn
