import Derived.Test.YteklhgmoniaieaaAhTypes
import Derived.Test.YteklhgmoniaieaaAhFg
import Derived.Test.YteklhgmoniaieaaAhFh
set_option linter.unusedVariables false
set_option maxRecDepth 20000
set_option maxHeartbeats 10000000
set_option linter.unusedSimpArgs false
namespace Go.Proofs.Yteklhgmoniaieaa.Fn
open Go.Proofs.YteklhgmoniaieaaAh Go.Proofs.Yteklhgmoniaieaa.Ty
-- "regcert/regcertlaw22.SpillallKeeps"  params ['api.Func'] results ['bool']
theorem law_Keeps (f : LFunc) (v : Value) (H : AHeap) (hf : SliceR H rB 5 v f.blocks) : ACalls Try.prog 3 #[.agg #[iv f.args, iv f.regs, v]] H fun v H' => Sub (H) H' ∧ v = .bool true := by
  refine acallsK (rs := [.tmp 2]) 102 Try.func3 rfl (by decide) rfl rfl (by simp) fun R' hR' hlt => ?_
  simp
  refine awp_seq_k fun K1 hK1 => ?_
  refine awp_region (by decide) ?_   -- region 0
  refine aops_box rfl rfl rfl (by simp (disch := omega) []; rfl) (by simp (disch := omega) []; rfl) (by simp (disch := omega) []; rfl) ?_
  intro b1 hb1; try simp only [AHeap.next_new, AHeap.next_set, next_ov, next_delV, AHeap.next_del, next_low] at hb1
  refine aops_op rfl rfl rfl (by simp (disch := omega) []; rfl) ?_
  refine aops_nil ?_
  refine hK1 _ _ ?_
  refine awp_seq_k fun K2 hK2 => ?_
  refine awp_seq_k fun K3 hK3 => ?_
  refine awp_region (by decide) ?_   -- region 1
  refine aops_callR (H1 := ?Q14n4) (R := ?R14n4) rfl rfl rfl rfl (by simp (disch := omega) []; rfl) ?hk14n4 ?hh14n4
  case hk14n4 =>
    refine law_awake _
  intro v14 H14 s14 hl14 hR14
  have hx14 := s14.next; simp at hx14
  have hz14 := s14.nexts; try (conv at hz14 => rhs; simp only [AHeap.next_new, AHeap.next_set, next_ov, next_delV, AHeap.next_del, next_low])
  obtain rfl := hR14
  refine aops_op rfl rfl rfl (by simp (disch := omega) []; rfl) ?_
  refine aops_op rfl rfl rfl (by simp (disch := omega) []; rfl) ?_
  refine aops_gd (b := _) (v := _) rfl rfl rfl (fun hb => by (try simp at hb); simp (disch := omega) [hb]; rfl) ?_
  refine aops_gdcall (b := _) (u := ?pu5) rfl rfl rfl rfl ?pk5 ?ph5
  case pk5 =>
    intro hb; try simp at hb
    refine ⟨_, by simp (disch := omega) [hb]; rfl, ?_⟩
    refine ref07_Few f v _ ?_
    · exact hf.sub rB_ok sub_auto
  refine aops_gd (b := _) (v := _) rfl rfl rfl (fun hb => by (try simp at hb); simp (disch := omega) [hb]; rfl) ?_
  refine aops_op rfl rfl rfl (by simp (disch := omega) []; rfl) ?_
  refine aops_nil ?_
  refine hK3 _ _ ?_
  refine awp_cond rfl (fun hc6 => ?_) fun hc6 => ?_
  · simp at hc6
    refine awp_seq_k fun K7 hK7 => ?_
    refine awp_region (by decide) ?_   -- region 2
    refine aops_callR (H1 := ?Q21n8) (R := ?R21n8) rfl rfl rfl rfl (by simp (disch := omega) [hc6]; rfl) ?hk21n8 ?hh21n8
    case hk21n8 =>
      refine law_awake _
    intro v21 H21 s21 hl21 hR21
    have hx21 := s21.next; simp at hx21
    have hz21 := s21.nexts; try (conv at hz21 => rhs; simp only [AHeap.next_new, AHeap.next_set, next_ov, next_delV, AHeap.next_del, next_low])
    obtain rfl := hR21
    refine aops_op rfl rfl rfl (by simp (disch := omega) [hc6]; rfl) ?_
    refine aops_nil ?_
    refine hK7 _ _ ?_
    refine awp_lt fun hltE => ?_
    refine awp_ret ?_
    try simp only [thenA, blockA]
    refine fpost_retR hR' hlt_auto rfl (by simp (disch := omega) [hc6] <;> rfl) sub_auto ?_
    -- WAY 0
    simp [resV]
  · simp at hc6
    refine awp_skip ?_
    simp
    refine hK2 _ _ ?_
    refine awp_seq_k fun K9 hK9 => ?_
    refine awp_region (by decide) ?_   -- region 3
    refine aops_op rfl rfl rfl (by simp (disch := omega) [hc6]; rfl) ?_
    refine aops_callR (H1 := ?Q23n10) (R := ?R23n10) rfl rfl rfl rfl (by simp (disch := omega) [hc6]; rfl) ?hk23n10 ?hh23n10
    case hk23n10 =>
      refine ref07_Copy f v _ ?_ ?_
      · exact hf.sub rB_ok sub_auto
      · obtain ⟨q1, q2, q3, q4⟩ := few_ok (by assumption); exact ⟨by omega, fun b hb => by have := q4 b hb; omega⟩
    intro v23 H23 s23 hl23 hR23
    have hx23 := s23.next; simp at hx23
    have hz23 := s23.nexts; try (conv at hz23 => rhs; simp only [AHeap.next_new, AHeap.next_set, next_ov, next_delV, AHeap.next_del, next_low])
    obtain ⟨w23, rfl, ho23⟩ := hR23
    have hcv23 := OwnN.cells ho23; have hcw23 := OwnN.one ho23
    refine aops_alloc rfl rfl rfl (by simp (disch := omega) [hc6, hcv23, hcw23]; rfl) (by simp (disch := omega) [hc6, hcv23, hcw23]; rfl) ?_
    intro b3 hb3; try simp only [AHeap.next_new, AHeap.next_set, next_ov, next_delV, AHeap.next_del, next_low] at hb3
    refine aops_store rfl rfl rfl (by simp (disch := omega) [hc6, hcv23, hcw23]; rfl) (by rfl) (by simp (disch := omega) [hc6, hcv23, hcw23]; rfl) (by simp (disch := omega) [hc6, hcv23, hcw23]; rfl) (by simp (disch := omega) [hc6, hcv23, hcw23]; rfl) (by simp (disch := omega) [hc6, hcv23, hcw23]; rfl) (by rfl) (by simp [hcw23] <;> omega) (by simp [setCells] <;> rfl) set_auto ?_
    refine aops_nil ?_
    refine hK9 _ _ ?_
    refine awp_seq_k fun K11 hK11 => ?_
    refine awp_region (by decide) ?_   -- region 4
    refine aops_op rfl rfl rfl (by simp (disch := omega) [hc6, hcv23, hcw23]; rfl) ?_
    refine aops_callR (H1 := ?Q26n12) (R := ?R26n12) rfl rfl rfl rfl (by simp (disch := omega) [hc6, hcv23, hcw23]; rfl) ?hk26n12 ?hh26n12
    case hk26n12 =>
      refine sp_Cert f w23 _ ?_ ?_
      · exact SliceR.sub rB_ok (show Sub H23 _ from sub_auto) (OwnB.slice hl23 ho23)
      · assumption
    intro v26 H26 s26 hl26 hR26
    have hx26 := s26.next; simp at hx26
    have hz26 := s26.nexts; try (conv at hz26 => rhs; simp only [AHeap.next_new, AHeap.next_set, next_ov, next_delV, AHeap.next_del, next_low])
    obtain ⟨s26, t26, w26, rfl, hs26, ht26, hw26⟩ := hR26
    obtain ⟨aS, cS, rfl, hcS1, hcS2, hrowS⟩ := (OwnB.slice hl26 hs26).open
    obtain ⟨aT, cT, rfl, hcT1, hcT2, hrowT⟩ := (OwnMB.slice hl26 ht26).open
    obtain ⟨aW, cW, rfl, hcW1, hcW2, hrowW⟩ := (OwnW.slice hl26 hw26).open
    have hsL : OwnN H26 (b3 + 1) (.slice aS (certR f).1.s.blocks.length cS) 41 5 encYB (rinL 43 5 Prod.fst) ((certR f).1.s.blocks.map fun b => b.code.length) := OwnN.le (rinL_ok ..) (by omega) hs26.lens
    have hwL : OwnW 47 44 H26 (b3 + 1) (.slice aW (certR f).1.w.length cW) (certR f).1.w := OwnN.le (rinW_ok _) (by omega) hw26
    refine aops_op rfl rfl rfl (by simp (disch := omega) [hc6, hcv23, hcw23]; rfl) ?_
    refine aops_op rfl rfl rfl (by simp (disch := omega) [hc6, hcv23, hcw23]; rfl) ?_
    refine aops_op rfl rfl rfl (by simp (disch := omega) [hc6, hcv23, hcw23]; rfl) ?_
    refine aops_alloc rfl rfl rfl (by simp (disch := omega) [hc6, hcv23, hcw23]; rfl) (by simp (disch := omega) [hc6, hcv23, hcw23]; rfl) ?_
    intro b4 hb4; try simp only [AHeap.next_new, AHeap.next_set, next_ov, next_delV, AHeap.next_del, next_low] at hb4
    refine aops_store rfl rfl rfl (by simp (disch := omega) [hc6, hcv23, hcw23]; rfl) (by rfl) (by simp (disch := omega) [hc6, hcv23, hcw23]; rfl) (by simp (disch := omega) [hc6, hcv23, hcw23]; rfl) (by simp (disch := omega) [hc6, hcv23, hcw23]; rfl) (by simp (disch := omega) [hc6, hcv23, hcw23]; rfl) (by rfl) (by simp [hcw23] <;> omega) (by simp [setCells] <;> rfl) set_auto ?_
    refine aops_op rfl rfl rfl (by simp (disch := omega) [hc6, hcv23, hcw23]; rfl) ?_
    refine aops_nil ?_
    refine hK11 _ _ ?_
    refine awp_seq_k fun K13 hK13 => ?_
    refine awp_seq_k fun K14 hK14 => ?_
    refine awp_region (by decide) ?_   -- region 5
    refine aops_op rfl rfl rfl (by simp (disch := omega) [hc6, hcv23, hcw23]; rfl) ?_
    refine aops_nil ?_
    refine hK14 _ _ ?_
    refine awp_block ?_   -- block 0
    refine awp_lt fun hlt15 => ?_
    refine awp_loop4 [6, 7, 29, 30, 31, 32, 33, 34, 35, 36, 37, 38, 39, 40, 41, 42, 43, 44, 45, 46, 47, 48, 49, 50, 51, 52, 53, 54, 55, 56, 57, 58] (fun i : Nat => [(6, iv i)]) (fun H => H.low (b3 + 1)) (fun i H' => i ≤ (certR f).1.s.blocks.length ∧ H'.at_ b4 = some (.cells [iv (certR f).1.s.args, iv (certR f).1.s.regs, .slice aS (certR f).1.s.blocks.length cS, iv (certR f).1.t.args, iv (certR f).1.t.regs, iv (certR f).1.t.slots, .slice aT (certR f).1.t.blocks.length cT, .slice aW (certR f).1.w.length cW] 33 8) ∧ OwnN H' (b3 + 1) (.slice aS (certR f).1.s.blocks.length cS) 41 5 encYB (rinL 43 5 Prod.fst) ((certR f).1.s.blocks.map fun b => b.code.length) ∧ OwnW 47 44 H' (b3 + 1) (.slice aW (certR f).1.w.length cW) (certR f).1.w) (fun i => (certR f).1.s.blocks.length - i) 0 (by simp) sub_auto (by exact ⟨by omega, by simp, OwnN.keepA (rinL_ok ..) keepA_auto hsL, OwnN.keepA (rinW_ok _) keepA_auto hwL⟩) ?_   -- LOOP
    rintro i H_i s_i hl_i ⟨hi1, hbi, hsi, hwi⟩ K15 hK15
    have hx_i := s_i.next; simp at hx_i
    have hz_i := s_i.nexts; try (conv at hz_i => rhs; simp only [AHeap.next_new, AHeap.next_set, next_ov, next_delV, AHeap.next_del, next_low])
    simp
    refine awp_seq_k fun K16 hK16 => ?_
    refine awp_seq_k fun K17 hK17 => ?_
    refine awp_region (by decide) ?_   -- region 6
    refine aops_op rfl rfl rfl (by simp (disch := omega) [hc6, hcv23, hcw23, hbi]; rfl) ?_
    refine aops_op rfl rfl rfl (by simp (disch := omega) [hc6, hcv23, hcw23, hbi]; rfl) ?_
    refine aops_op rfl rfl rfl (by simp (disch := omega) [hc6, hcv23, hcw23, hbi]; rfl) ?_
    refine aops_op rfl rfl rfl (by simp (disch := omega) [hc6, hcv23, hcw23, hbi]; rfl) ?_
    refine aops_op rfl rfl rfl (by simp (disch := omega) [hc6, hcv23, hcw23, hbi]; rfl) ?_
    refine aops_op rfl rfl rfl (by simp (disch := omega) [hc6, hcv23, hcw23, hbi]; rfl) ?_
    refine aops_nil ?_
    refine hK17 _ _ ?_
    refine awp_cond rfl (fun hc18 => ?_) fun hc18 => ?_
    · simp at hc18
      refine awp_skip ?_
      simp
      refine hK16 _ _ ?_
      refine awp_seq_k fun K19 hK19 => ?_
      refine awp_block ?_   -- block 1
      refine awp_seq_k fun K20 hK20 => ?_
      refine awp_region (by decide) ?_   -- region 8
      refine aops_op rfl rfl rfl (by simp (disch := omega) [hc6, hcv23, hcw23, hbi, hc18]; rfl) ?_
      refine aops_nil ?_
      refine hK20 _ _ ?_
      refine awp_block ?_   -- block 2
      refine awp_lt fun hlt21 => ?_
      refine awp_loop4 [7, 37, 38, 39, 40, 41, 42, 43, 44, 45, 46, 47, 48, 49, 50, 51, 52, 53, 54, 55, 56, 57, 58] (fun j : Nat => [(7, iv j)]) (fun H => H.low (b3 + 1)) (fun j H' => j ≤ nth ((certR f).1.s.blocks.map fun b => b.code.length) i ∧ H'.at_ b4 = some (.cells [iv (certR f).1.s.args, iv (certR f).1.s.regs, .slice aS (certR f).1.s.blocks.length cS, iv (certR f).1.t.args, iv (certR f).1.t.regs, iv (certR f).1.t.slots, .slice aT (certR f).1.t.blocks.length cT, .slice aW (certR f).1.w.length cW] 33 8) ∧ OwnN H' (b3 + 1) (.slice aS (certR f).1.s.blocks.length cS) 41 5 encYB (rinL 43 5 Prod.fst) ((certR f).1.s.blocks.map fun b => b.code.length) ∧ OwnW 47 44 H' (b3 + 1) (.slice aW (certR f).1.w.length cW) (certR f).1.w) (fun j => nth ((certR f).1.s.blocks.map fun b => b.code.length) i - j) 0 (by simp) sub_auto (by exact ⟨by omega, hbi, hsi, hwi⟩) ?_   -- LOOP
      rintro j H_j s_j hl_j ⟨hj1, hbj, hsj, hwj⟩ K21 hK21
      have hx_j := s_j.next; simp at hx_j
      have hz_j := s_j.nexts; try (conv at hz_j => rhs; simp only [AHeap.next_new, AHeap.next_set, next_ov, next_delV, AHeap.next_del, next_low])
      simp
      have hnl := certS_len (show fewB f = true by assumption) i
      obtain ⟨ys, hy1, hy2, hy3, hy4⟩ := id hsj
      obtain ⟨_, _, _, adS, hadS, hblkS, hNS⟩ := (hy2.slice hl_j encYB_len).openS
      have hyl : ys.length = ((certR f).1.s.blocks.map fun b => b.code.length).length := hy1
      simp only [List.length_map] at hyl
      have hri := hy4 i (nth ys i) (nth ((certR f).1.s.blocks.map fun b => b.code.length) i) (nth_get (by omega)) (nth_get (by rw [List.length_map]; omega))
      obtain rfl := hadS (by omega)
      have hblk0 := hblkS (by omega)
      simp only [ownId_some] at hy3
      obtain ⟨ag, cg, hyv⟩ : ∃ a c, (nth ys i).1 = .slice a (nth ((certR f).1.s.blocks.map fun b => b.code.length) i) c := by
        rcases hri with ⟨h, h0⟩ | ⟨g, cap, c, m, h, _⟩
        · exact ⟨none, 0, by rw [h, h0]⟩
        · exact ⟨_, _, h⟩
      have hL := loadN_load1 (n := 4) (hNS i (by omega))
      rw [show (nth ys i).1 = _ from hyv] at hL
      refine awp_seq_k fun K22 hK22 => ?_
      refine awp_seq_k fun K23 hK23 => ?_
      refine awp_region (by decide) ?_   -- region 9
      refine aops_op rfl rfl rfl (by simp (disch := omega) [hc6, hcv23, hcw23, hbi, hc18, hbj, hL]; rfl) ?_
      refine aops_op rfl rfl rfl (by simp (disch := omega) [hc6, hcv23, hcw23, hbi, hc18, hbj, hL]; rfl) ?_
      refine aops_op rfl rfl rfl (by simp (disch := omega) [hc6, hcv23, hcw23, hbi, hc18, hbj, hL]; rfl) ?_
      refine aops_op rfl rfl rfl (by simp (disch := omega) [hc6, hcv23, hcw23, hbi, hc18, hbj, hL]; rfl) ?_
      refine aops_op rfl rfl rfl (by simp (disch := omega) [hc6, hcv23, hcw23, hbi, hc18, hbj, hL]; rfl) ?_
      refine aops_op rfl rfl rfl (by simp (disch := omega) [hc6, hcv23, hcw23, hbi, hc18, hbj, hL]; rfl) ?_
      refine aops_op rfl rfl rfl (by simp (disch := omega) [hc6, hcv23, hcw23, hbi, hc18, hbj, hL]; rfl) ?_
      refine aops_op rfl rfl rfl (by simp (disch := omega) [hc6, hcv23, hcw23, hbi, hc18, hbj, hL]; rfl) ?_
      refine aops_op rfl rfl rfl (by simp (disch := omega) [hc6, hcv23, hcw23, hbi, hc18, hbj, hL]; rfl) ?_
      refine aops_op rfl rfl rfl (by simp (disch := omega) [hc6, hcv23, hcw23, hbi, hc18, hbj, hL]; rfl) ?_
      refine aops_nil ?_
      refine hK23 _ _ ?_
      refine awp_cond rfl (fun hc24 => ?_) fun hc24 => ?_
      · simp at hc24
        refine awp_skip ?_
        simp
        refine hK22 _ _ ?_
        refine awp_seq_k fun K25 hK25 => ?_
        refine awp_block ?_   -- block 3
        obtain ⟨g, mm, cc, rfl, hg2, hg3, hg4⟩ := rinL_get hri hyv (by omega)
        have hg5 : j * 5 + 5 ≤ cc.length := by omega
        refine awp_region (by decide) ?_   -- region 11
        refine aops_op rfl rfl rfl (by simp (disch := omega) [hc6, hcv23, hcw23, hbi, hc18, hbj, hL, hc24, hg3]; rfl) ?_
        refine aops_op rfl rfl rfl (by simp (disch := omega) [hc6, hcv23, hcw23, hbi, hc18, hbj, hL, hc24, hg3]; rfl) ?_
        refine aops_op rfl rfl rfl (by simp (disch := omega) [hc6, hcv23, hcw23, hbi, hc18, hbj, hL, hc24, hg3]; rfl) ?_
        refine aops_op rfl rfl rfl (by simp (disch := omega) [hc6, hcv23, hcw23, hbi, hc18, hbj, hL, hc24, hg3]; rfl) ?_
        refine aops_op rfl rfl rfl (by simp (disch := omega) [hc6, hcv23, hcw23, hbi, hc18, hbj, hL, hc24, hg3]; rfl) ?_
        refine aops_op rfl rfl rfl (by simp (disch := omega) [hc6, hcv23, hcw23, hbi, hc18, hbj, hL, hc24, hg3]; rfl) ?_
        refine aops_op rfl rfl rfl (by simp (disch := omega) [hc6, hcv23, hcw23, hbi, hc18, hbj, hL, hc24, hg3]; rfl) ?_
        refine aops_op rfl rfl rfl (by simp (disch := omega) [hc6, hcv23, hcw23, hbi, hc18, hbj, hL, hc24, hg3]; rfl) ?_
        refine aops_op rfl rfl rfl (by simp (disch := omega) [hc6, hcv23, hcw23, hbi, hc18, hbj, hL, hc24, hg3]; rfl) ?_
        refine aops_op rfl rfl rfl (by simp (disch := omega) [hc6, hcv23, hcw23, hbi, hc18, hbj, hL, hc24, hg3]; rfl) ?_
        refine aops_store rfl rfl rfl (by simp (disch := omega) [hc6, hcv23, hcw23, hbi, hc18, hbj, hL, hc24, hg3]; rfl) (by rfl) (by simp (disch := omega) [hc6, hcv23, hcw23, hbi, hc18, hbj, hL, hc24, hg3]; rfl) (by simp (disch := omega) [hc6, hcv23, hcw23, hbi, hc18, hbj, hL, hc24, hg3]; rfl) (by simp (disch := omega) [hc6, hcv23, hcw23, hbi, hc18, hbj, hL, hc24, hg3]; rfl) (by simp (disch := omega) [hc6, hcv23, hcw23, hbi, hc18, hbj, hL, hc24, hg3]; rfl) (by rfl) (by simp [hcw23] <;> omega) (by simp [setCells] <;> rfl) set_auto ?_
        refine aops_nil ?_
        refine hK25 _ _ ?_
        refine awp_region (by decide) ?_   -- region 10
        refine aops_op rfl rfl rfl (by simp (disch := omega) [hc6, hcv23, hcw23, hbi, hc18, hbj, hL, hc24, hg3]; rfl) ?_
        refine aops_op rfl rfl rfl (by simp (disch := omega) [hc6, hcv23, hcw23, hbi, hc18, hbj, hL, hc24, hg3]; rfl) ?_
        refine aops_op rfl rfl rfl (by simp (disch := omega) [hc6, hcv23, hcw23, hbi, hc18, hbj, hL, hc24, hg3]; rfl) ?_
        refine aops_nil ?_
        refine hK21 _ _ ?_   -- END OF ROUND
        refine loopTo4 (j + 1) rfl (by simp (disch := omega) [hc6, hcv23, hcw23, hbi, hc18, hbj, hL, hc24, hg3]) (by simp [hc6, hcv23, hcw23, hbi, hc18, hbj, hL, hc24, hg3]) sub_auto ?_ (by omega)
        have hne := at_ne hbj hg3 (by simp)
        exact ⟨by omega, by simp (disch := omega) [hbj], OwnN.storeL hsj (by simp) hg3 (by simp), OwnN.keep (el0 := 43) (rinW_ok _) (KeepT.setT hg3 KeepT.home) (by simp) hwj⟩
      · simp at hc24
        refine awp_exit ?_   -- exit 2
        simp
        refine hK19 _ _ ?_
        refine awp_region (by decide) ?_   -- region 7
        refine aops_op rfl rfl rfl (by simp (disch := omega) [hc6, hcv23, hcw23, hbi, hc18, hbj, hL, hc24]; rfl) ?_
        refine aops_op rfl rfl rfl (by simp (disch := omega) [hc6, hcv23, hcw23, hbi, hc18, hbj, hL, hc24]; rfl) ?_
        refine aops_op rfl rfl rfl (by simp (disch := omega) [hc6, hcv23, hcw23, hbi, hc18, hbj, hL, hc24]; rfl) ?_
        refine aops_nil ?_
        refine hK15 _ _ ?_   -- END OF ROUND
        refine loopTo4 (i + 1) rfl (by simp (disch := omega) [hc6, hcv23, hcw23, hbi, hc18, hbj, hL, hc24]) (by simp [hc6, hcv23, hcw23, hbi, hc18, hbj, hL, hc24]) sub_auto ?_ (by omega)
        exact ⟨by omega, hbj, hsj, hwj⟩
    · simp at hc18
      refine awp_exit ?_   -- exit 0
      simp
      refine hK13 _ _ ?_
      refine awp_seq_k fun K26 hK26 => ?_
      refine awp_seq_k fun K27 hK27 => ?_
      refine awp_region (by decide) ?_   -- region 12
      refine aops_op rfl rfl rfl (by simp (disch := omega) [hc6, hcv23, hcw23, hbi, hc18]; rfl) ?_
      refine aops_nil ?_
      refine hK27 _ _ ?_
      refine awp_block ?_   -- block 4
      refine awp_lt fun hlt28 => ?_
      refine awp_loop4 [8, 9, 59, 60, 61, 62, 63, 64, 65, 66, 67, 68, 69, 70, 71, 72, 73, 74, 75, 76, 77, 78, 79, 80, 81, 82, 83] (fun p : Nat => [(8, iv p)]) (fun H => H.low (b3 + 1)) (fun p H' => p ≤ (certR f).1.w.length ∧ H'.at_ b4 = some (.cells [iv (certR f).1.s.args, iv (certR f).1.s.regs, .slice aS (certR f).1.s.blocks.length cS, iv (certR f).1.t.args, iv (certR f).1.t.regs, iv (certR f).1.t.slots, .slice aT (certR f).1.t.blocks.length cT, .slice aW (certR f).1.w.length cW] 33 8) ∧ OwnN H' (b3 + 1) (.slice aW (certR f).1.w.length cW) 44 1 encV (rinL 47 2 id) ((certR f).1.w.map List.length)) (fun p => (certR f).1.w.length - p) 0 (by simp) sub_auto (by exact ⟨by omega, hbi, OwnW.lens hwi⟩) ?_   -- LOOP
      rintro p H_p s_p hl_p ⟨hp1, hbp, hwp⟩ K28 hK28
      have hx_p := s_p.next; simp at hx_p
      have hz_p := s_p.nexts; try (conv at hz_p => rhs; simp only [AHeap.next_new, AHeap.next_set, next_ov, next_delV, AHeap.next_del, next_low])
      simp
      refine awp_seq_k fun K29 hK29 => ?_
      refine awp_seq_k fun K30 hK30 => ?_
      refine awp_region (by decide) ?_   -- region 13
      refine aops_op rfl rfl rfl (by simp (disch := omega) [hc6, hcv23, hcw23, hbi, hc18, hbp]; rfl) ?_
      refine aops_op rfl rfl rfl (by simp (disch := omega) [hc6, hcv23, hcw23, hbi, hc18, hbp]; rfl) ?_
      refine aops_op rfl rfl rfl (by simp (disch := omega) [hc6, hcv23, hcw23, hbi, hc18, hbp]; rfl) ?_
      refine aops_op rfl rfl rfl (by simp (disch := omega) [hc6, hcv23, hcw23, hbi, hc18, hbp]; rfl) ?_
      refine aops_op rfl rfl rfl (by simp (disch := omega) [hc6, hcv23, hcw23, hbi, hc18, hbp]; rfl) ?_
      refine aops_nil ?_
      refine hK30 _ _ ?_
      refine awp_cond rfl (fun hc31 => ?_) fun hc31 => ?_
      · simp at hc31
        refine awp_skip ?_
        simp
        refine hK29 _ _ ?_
        refine awp_seq_k fun K32 hK32 => ?_
        refine awp_block ?_   -- block 5
        refine awp_seq_k fun K33 hK33 => ?_
        refine awp_region (by decide) ?_   -- region 15
        refine aops_op rfl rfl rfl (by simp (disch := omega) [hc6, hcv23, hcw23, hbi, hc18, hbp, hc31]; rfl) ?_
        refine aops_nil ?_
        refine hK33 _ _ ?_
        refine awp_block ?_   -- block 6
        refine awp_lt fun hlt34 => ?_
        refine awp_loop4 [9, 66, 67, 68, 69, 70, 71, 72, 73, 74, 75, 76, 77, 78, 79, 80, 81, 82, 83] (fun q : Nat => [(9, iv q)]) (fun H => H.low (b3 + 1)) (fun q H' => q ≤ nth ((certR f).1.w.map List.length) p ∧ H'.at_ b4 = some (.cells [iv (certR f).1.s.args, iv (certR f).1.s.regs, .slice aS (certR f).1.s.blocks.length cS, iv (certR f).1.t.args, iv (certR f).1.t.regs, iv (certR f).1.t.slots, .slice aT (certR f).1.t.blocks.length cT, .slice aW (certR f).1.w.length cW] 33 8) ∧ OwnN H' (b3 + 1) (.slice aW (certR f).1.w.length cW) 44 1 encV (rinL 47 2 id) ((certR f).1.w.map List.length)) (fun q => nth ((certR f).1.w.map List.length) p - q) 0 (by simp) sub_auto (by exact ⟨by omega, hbp, hwp⟩) ?_   -- LOOP
        rintro q H_q s_q hl_q ⟨hq1, hbq, hwq⟩ K34 hK34
        have hx_q := s_q.next; simp at hx_q
        have hz_q := s_q.nexts; try (conv at hz_q => rhs; simp only [AHeap.next_new, AHeap.next_set, next_ov, next_delV, AHeap.next_del, next_low])
        simp
        have hnl := certW_len (show fewB f = true by assumption) p
        obtain ⟨ys, hy1, hy2, hy3, hy4⟩ := id hwq
        obtain ⟨_, _, _, adS, hadS, hblkS, hNS⟩ := (hy2.slice hl_q encV_len).openS
        have hyl : ys.length = ((certR f).1.w.map List.length).length := hy1
        simp only [List.length_map] at hyl
        have hri := hy4 p (nth ys p) (nth ((certR f).1.w.map List.length) p) (nth_get (by omega)) (nth_get (by rw [List.length_map]; omega))
        obtain rfl := hadS (by omega)
        have hblk0 := hblkS (by omega)
        simp only [ownId_some] at hy3
        obtain ⟨ag, cg, hyv⟩ : ∃ a c, id (nth ys p) = .slice a (nth ((certR f).1.w.map List.length) p) c := by
          rcases hri with ⟨h, h0⟩ | ⟨g, cap, c, m, h, _⟩
          · exact ⟨none, 0, by rw [h, h0]⟩
          · exact ⟨_, _, h⟩
        have hL := loadN_load1 (n := 0) (hNS p (by omega))
        rw [show (nth ys p) = _ from hyv] at hL
        simp only [Nat.mul_one] at hL
        refine awp_seq_k fun K35 hK35 => ?_
        refine awp_seq_k fun K36 hK36 => ?_
        refine awp_region (by decide) ?_   -- region 16
        refine aops_op rfl rfl rfl (by simp (disch := omega) [hc6, hcv23, hcw23, hbi, hc18, hbp, hc31, hbq, hL]; rfl) ?_
        refine aops_op rfl rfl rfl (by simp (disch := omega) [hc6, hcv23, hcw23, hbi, hc18, hbp, hc31, hbq, hL]; rfl) ?_
        refine aops_op rfl rfl rfl (by simp (disch := omega) [hc6, hcv23, hcw23, hbi, hc18, hbp, hc31, hbq, hL]; rfl) ?_
        refine aops_op rfl rfl rfl (by simp (disch := omega) [hc6, hcv23, hcw23, hbi, hc18, hbp, hc31, hbq, hL]; rfl) ?_
        refine aops_op rfl rfl rfl (by simp (disch := omega) [hc6, hcv23, hcw23, hbi, hc18, hbp, hc31, hbq, hL]; rfl) ?_
        refine aops_op rfl rfl rfl (by simp (disch := omega) [hc6, hcv23, hcw23, hbi, hc18, hbp, hc31, hbq, hL]; rfl) ?_
        refine aops_op rfl rfl rfl (by simp (disch := omega) [hc6, hcv23, hcw23, hbi, hc18, hbp, hc31, hbq, hL]; rfl) ?_
        refine aops_op rfl rfl rfl (by simp (disch := omega) [hc6, hcv23, hcw23, hbi, hc18, hbp, hc31, hbq, hL]; rfl) ?_
        refine aops_nil ?_
        refine hK36 _ _ ?_
        refine awp_cond rfl (fun hc37 => ?_) fun hc37 => ?_
        · simp at hc37
          refine awp_skip ?_
          simp
          refine hK35 _ _ ?_
          refine awp_seq_k fun K38 hK38 => ?_
          refine awp_block ?_   -- block 7
          obtain ⟨g, mm, cc, rfl, hg2, hg3, hg4⟩ := rinL_get hri hyv (by omega)
          have hg5 : q * 2 + 2 ≤ cc.length := by omega
          refine awp_region (by decide) ?_   -- region 18
          refine aops_op rfl rfl rfl (by simp (disch := omega) [hc6, hcv23, hcw23, hbi, hc18, hbp, hc31, hbq, hL, hc37, hg3]; rfl) ?_
          refine aops_op rfl rfl rfl (by simp (disch := omega) [hc6, hcv23, hcw23, hbi, hc18, hbp, hc31, hbq, hL, hc37, hg3]; rfl) ?_
          refine aops_op rfl rfl rfl (by simp (disch := omega) [hc6, hcv23, hcw23, hbi, hc18, hbp, hc31, hbq, hL, hc37, hg3]; rfl) ?_
          refine aops_op rfl rfl rfl (by simp (disch := omega) [hc6, hcv23, hcw23, hbi, hc18, hbp, hc31, hbq, hL, hc37, hg3]; rfl) ?_
          refine aops_op rfl rfl rfl (by simp (disch := omega) [hc6, hcv23, hcw23, hbi, hc18, hbp, hc31, hbq, hL, hc37, hg3]; rfl) ?_
          refine aops_op rfl rfl rfl (by simp (disch := omega) [hc6, hcv23, hcw23, hbi, hc18, hbp, hc31, hbq, hL, hc37, hg3]; rfl) ?_
          refine aops_op rfl rfl rfl (by simp (disch := omega) [hc6, hcv23, hcw23, hbi, hc18, hbp, hc31, hbq, hL, hc37, hg3]; rfl) ?_
          refine aops_op rfl rfl rfl (by simp (disch := omega) [hc6, hcv23, hcw23, hbi, hc18, hbp, hc31, hbq, hL, hc37, hg3]; rfl) ?_
          refine aops_store rfl rfl rfl (by simp (disch := omega) [hc6, hcv23, hcw23, hbi, hc18, hbp, hc31, hbq, hL, hc37, hg3]; rfl) (by rfl) (by simp (disch := omega) [hc6, hcv23, hcw23, hbi, hc18, hbp, hc31, hbq, hL, hc37, hg3]; rfl) (by simp (disch := omega) [hc6, hcv23, hcw23, hbi, hc18, hbp, hc31, hbq, hL, hc37, hg3]; rfl) (by simp (disch := omega) [hc6, hcv23, hcw23, hbi, hc18, hbp, hc31, hbq, hL, hc37, hg3]; rfl) (by simp (disch := omega) [hc6, hcv23, hcw23, hbi, hc18, hbp, hc31, hbq, hL, hc37, hg3]; rfl) (by rfl) (by simp [hcw23] <;> omega) (by simp [setCells] <;> rfl) set_auto ?_
          refine aops_nil ?_
          refine hK38 _ _ ?_
          refine awp_region (by decide) ?_   -- region 17
          refine aops_op rfl rfl rfl (by simp (disch := omega) [hc6, hcv23, hcw23, hbi, hc18, hbp, hc31, hbq, hL, hc37, hg3]; rfl) ?_
          refine aops_op rfl rfl rfl (by simp (disch := omega) [hc6, hcv23, hcw23, hbi, hc18, hbp, hc31, hbq, hL, hc37, hg3]; rfl) ?_
          refine aops_op rfl rfl rfl (by simp (disch := omega) [hc6, hcv23, hcw23, hbi, hc18, hbp, hc31, hbq, hL, hc37, hg3]; rfl) ?_
          refine aops_nil ?_
          refine hK34 _ _ ?_   -- END OF ROUND
          refine loopTo4 (q + 1) rfl (by simp (disch := omega) [hc6, hcv23, hcw23, hbi, hc18, hbp, hc31, hbq, hL, hc37, hg3]) (by simp [hc6, hcv23, hcw23, hbi, hc18, hbp, hc31, hbq, hL, hc37, hg3]) sub_auto ?_ (by omega)
          have hne := at_ne hbq hg3 (by simp)
          exact ⟨by omega, by simp (disch := omega) [hbq], OwnN.storeL hwq (by simp) hg3 (by simp)⟩
        · simp at hc37
          refine awp_exit ?_   -- exit 6
          simp
          refine hK32 _ _ ?_
          refine awp_region (by decide) ?_   -- region 14
          refine aops_op rfl rfl rfl (by simp (disch := omega) [hc6, hcv23, hcw23, hbi, hc18, hbp, hc31, hbq, hL, hc37]; rfl) ?_
          refine aops_op rfl rfl rfl (by simp (disch := omega) [hc6, hcv23, hcw23, hbi, hc18, hbp, hc31, hbq, hL, hc37]; rfl) ?_
          refine aops_op rfl rfl rfl (by simp (disch := omega) [hc6, hcv23, hcw23, hbi, hc18, hbp, hc31, hbq, hL, hc37]; rfl) ?_
          refine aops_nil ?_
          refine hK28 _ _ ?_   -- END OF ROUND
          refine loopTo4 (p + 1) rfl (by simp (disch := omega) [hc6, hcv23, hcw23, hbi, hc18, hbp, hc31, hbq, hL, hc37]) (by simp [hc6, hcv23, hcw23, hbi, hc18, hbp, hc31, hbq, hL, hc37]) sub_auto ?_ (by omega)
          exact ⟨by omega, hbq, hwq⟩
      · simp at hc31
        refine awp_exit ?_   -- exit 4
        simp
        refine hK26 _ _ ?_
        refine awp_seq_k fun K39 hK39 => ?_
        refine awp_region (by decide) ?_   -- region 19
        refine aops_op rfl rfl rfl (by simp (disch := omega) [hc6, hcv23, hcw23, hbi, hc18, hbp, hc31]; rfl) ?_
        refine aops_callR (H1 := ?Q86n40) (R := ?R86n40) rfl rfl rfl rfl (by simp (disch := omega) [hc6, hcv23, hcw23, hbi, hc18, hbp, hc31]; rfl) ?hk86n40 ?hh86n40
        case hk86n40 =>
          refine sp_Cert f w23 _ ?_ ?_
          · exact SliceR.sub rB_ok (show Sub H23 _ from sub_auto) (OwnB.slice hl23 ho23)
          · assumption
        intro v86 H86 s86 hl86 hR86
        have hx86 := s86.next; simp at hx86
        have hz86 := s86.nexts; try (conv at hz86 => rhs; simp only [AHeap.next_new, AHeap.next_set, next_ov, next_delV, AHeap.next_del, next_low])
        obtain ⟨s86, t86, w86, rfl, hs86, ht86, hw86⟩ := hR86
        have hcs86 := OwnN.cells hs86; have hct86 := OwnN.cells ht86; have hcw86 := OwnN.cells hw86; have hcws86 := OwnN.one hs86; have hcwt86 := OwnN.one ht86; have hcww86 := OwnN.one hw86
        refine aops_op rfl rfl rfl (by simp (disch := omega) [hc6, hcv23, hcw23, hbi, hc18, hbp, hc31, hcs86, hct86, hcw86, hcws86, hcwt86, hcww86]; rfl) ?_
        refine aops_op rfl rfl rfl (by simp (disch := omega) [hc6, hcv23, hcw23, hbi, hc18, hbp, hc31, hcs86, hct86, hcw86, hcws86, hcwt86, hcww86]; rfl) ?_
        refine aops_op rfl rfl rfl (by simp (disch := omega) [hc6, hcv23, hcw23, hbi, hc18, hbp, hc31, hcs86, hct86, hcw86, hcws86, hcwt86, hcww86]; rfl) ?_
        refine aops_alloc rfl rfl rfl (by simp (disch := omega) [hc6, hcv23, hcw23, hbi, hc18, hbp, hc31, hcs86, hct86, hcw86, hcws86, hcwt86, hcww86]; rfl) (by simp (disch := omega) [hc6, hcv23, hcw23, hbi, hc18, hbp, hc31, hcs86, hct86, hcw86, hcws86, hcwt86, hcww86]; rfl) ?_
        intro b10 hb10; try simp only [AHeap.next_new, AHeap.next_set, next_ov, next_delV, AHeap.next_del, next_low] at hb10
        refine aops_store rfl rfl rfl (by simp (disch := omega) [hc6, hcv23, hcw23, hbi, hc18, hbp, hc31, hcs86, hct86, hcw86, hcws86, hcwt86, hcww86]; rfl) (by rfl) (by simp (disch := omega) [hc6, hcv23, hcw23, hbi, hc18, hbp, hc31, hcs86, hct86, hcw86, hcws86, hcwt86, hcww86]; rfl) (by simp (disch := omega) [hc6, hcv23, hcw23, hbi, hc18, hbp, hc31, hcs86, hct86, hcw86, hcws86, hcwt86, hcww86]; rfl) (by simp (disch := omega) [hc6, hcv23, hcw23, hbi, hc18, hbp, hc31, hcs86, hct86, hcw86, hcws86, hcwt86, hcww86]; rfl) (by simp (disch := omega) [hc6, hcv23, hcw23, hbi, hc18, hbp, hc31, hcs86, hct86, hcw86, hcws86, hcwt86, hcww86]; rfl) (by rfl) (by simp [hcw23, hcw86, hcws86, hcwt86, hcww86] <;> omega) (by simp [setCells] <;> rfl) set_auto ?_
        refine aops_op rfl rfl rfl (by simp (disch := omega) [hc6, hcv23, hcw23, hbi, hc18, hbp, hc31, hcs86, hct86, hcw86, hcws86, hcwt86, hcww86]; rfl) ?_
        refine aops_nil ?_
        refine hK39 _ _ ?_
        refine awp_seq_k fun K41 hK41 => ?_
        refine awp_region (by decide) ?_   -- region 20
        refine aops_op rfl rfl rfl (by simp (disch := omega) [hc6, hcv23, hcw23, hbi, hc18, hbp, hc31, hcs86, hct86, hcw86, hcws86, hcwt86, hcww86]; rfl) ?_
        refine aops_callR (H1 := ?Q91n42) (R := ?R91n42) rfl rfl rfl rfl (by simp (disch := omega) [hc6, hcv23, hcw23, hbi, hc18, hbp, hc31, hcs86, hct86, hcw86, hcws86, hcwt86, hcww86]; rfl) ?hk91n42 ?hh91n42
        case hk91n42 =>
          refine ref22_Cert f v _ ?_ ?_
          · exact hf.sub rB_ok sub_auto
          · assumption
        intro v91 H91 s91 hl91 hR91
        have hx91 := s91.next; simp at hx91
        have hz91 := s91.nexts; try (conv at hz91 => rhs; simp only [AHeap.next_new, AHeap.next_set, next_ov, next_delV, AHeap.next_del, next_low])
        obtain ⟨s91, t91, w91, rfl, hs91, ht91, hw91⟩ := hR91
        have hcs91 := OwnN.cells hs91; have hct91 := OwnN.cells ht91; have hcw91 := OwnN.cells hw91; have hcws91 := OwnN.one hs91; have hcwt91 := OwnN.one ht91; have hcww91 := OwnN.one hw91
        refine aops_op rfl rfl rfl (by simp (disch := omega) [hc6, hcv23, hcw23, hbi, hc18, hbp, hc31, hcs86, hct86, hcw86, hcws86, hcwt86, hcww86, hcs91, hct91, hcw91, hcws91, hcwt91, hcww91]; rfl) ?_
        refine aops_op rfl rfl rfl (by simp (disch := omega) [hc6, hcv23, hcw23, hbi, hc18, hbp, hc31, hcs86, hct86, hcw86, hcws86, hcwt86, hcww86, hcs91, hct91, hcw91, hcws91, hcwt91, hcww91]; rfl) ?_
        refine aops_op rfl rfl rfl (by simp (disch := omega) [hc6, hcv23, hcw23, hbi, hc18, hbp, hc31, hcs86, hct86, hcw86, hcws86, hcwt86, hcww86, hcs91, hct91, hcw91, hcws91, hcwt91, hcww91]; rfl) ?_
        refine aops_alloc rfl rfl rfl (by simp (disch := omega) [hc6, hcv23, hcw23, hbi, hc18, hbp, hc31, hcs86, hct86, hcw86, hcws86, hcwt86, hcww86, hcs91, hct91, hcw91, hcws91, hcwt91, hcww91]; rfl) (by simp (disch := omega) [hc6, hcv23, hcw23, hbi, hc18, hbp, hc31, hcs86, hct86, hcw86, hcws86, hcwt86, hcww86, hcs91, hct91, hcw91, hcws91, hcwt91, hcww91]; rfl) ?_
        intro b12 hb12; try simp only [AHeap.next_new, AHeap.next_set, next_ov, next_delV, AHeap.next_del, next_low] at hb12
        refine aops_store rfl rfl rfl (by simp (disch := omega) [hc6, hcv23, hcw23, hbi, hc18, hbp, hc31, hcs86, hct86, hcw86, hcws86, hcwt86, hcww86, hcs91, hct91, hcw91, hcws91, hcwt91, hcww91]; rfl) (by rfl) (by simp (disch := omega) [hc6, hcv23, hcw23, hbi, hc18, hbp, hc31, hcs86, hct86, hcw86, hcws86, hcwt86, hcww86, hcs91, hct91, hcw91, hcws91, hcwt91, hcww91]; rfl) (by simp (disch := omega) [hc6, hcv23, hcw23, hbi, hc18, hbp, hc31, hcs86, hct86, hcw86, hcws86, hcwt86, hcww86, hcs91, hct91, hcw91, hcws91, hcwt91, hcww91]; rfl) (by simp (disch := omega) [hc6, hcv23, hcw23, hbi, hc18, hbp, hc31, hcs86, hct86, hcw86, hcws86, hcwt86, hcww86, hcs91, hct91, hcw91, hcws91, hcwt91, hcww91]; rfl) (by simp (disch := omega) [hc6, hcv23, hcw23, hbi, hc18, hbp, hc31, hcs86, hct86, hcw86, hcws86, hcwt86, hcww86, hcs91, hct91, hcw91, hcws91, hcwt91, hcww91]; rfl) (by rfl) (by simp [hcw23, hcw86, hcws86, hcwt86, hcww86, hcw91, hcws91, hcwt91, hcww91] <;> omega) (by simp [setCells] <;> rfl) set_auto ?_
        refine aops_op rfl rfl rfl (by simp (disch := omega) [hc6, hcv23, hcw23, hbi, hc18, hbp, hc31, hcs86, hct86, hcw86, hcws86, hcwt86, hcww86, hcs91, hct91, hcw91, hcws91, hcwt91, hcww91]; rfl) ?_
        refine aops_nil ?_
        refine hK41 _ _ ?_
        refine awp_seq_k fun K43 hK43 => ?_
        refine awp_region (by decide) ?_   -- region 21
        refine aops_op rfl rfl rfl (by simp (disch := omega) [hc6, hcv23, hcw23, hbi, hc18, hbp, hc31, hcs86, hct86, hcw86, hcws86, hcwt86, hcww86, hcs91, hct91, hcw91, hcws91, hcwt91, hcww91]; rfl) ?_
        refine aops_op rfl rfl rfl (by simp (disch := omega) [hc6, hcv23, hcw23, hbi, hc18, hbp, hc31, hcs86, hct86, hcw86, hcws86, hcwt86, hcww86, hcs91, hct91, hcw91, hcws91, hcwt91, hcww91]; rfl) ?_
        refine aops_callP (u := ?pu44) rfl rfl rfl rfl (by simp (disch := omega) [hc6, hcv23, hcw23, hbi, hc18, hbp, hc31, hcs86, hct86, hcw86, hcws86, hcwt86, hcww86, hcs91, hct91, hcw91, hcws91, hcwt91, hcww91]; rfl) ?pk44 ?ph44
        case pk44 =>
          refine ref07_Same f f w23 v _ ?_ ?_
          · exact SliceR.sub rB_ok (show Sub H23 _ from sub_auto) (OwnB.slice hl23 ho23)
          · exact hf.sub rB_ok sub_auto
        refine aops_op rfl rfl rfl (by simp (disch := omega) [hc6, hcv23, hcw23, hbi, hc18, hbp, hc31, hcs86, hct86, hcw86, hcws86, hcwt86, hcww86, hcs91, hct91, hcw91, hcws91, hcwt91, hcww91]; rfl) ?_
        refine aops_gd (b := _) (v := _) rfl rfl rfl (fun hb => by (try simp at hb); simp (disch := omega) [hb, hc6, hcv23, hcw23, hbi, hc18, hbp, hc31, hcs86, hct86, hcw86, hcws86, hcwt86, hcww86, hcs91, hct91, hcw91, hcws91, hcwt91, hcww91]; rfl) ?_
        refine aops_gd (b := _) (v := _) rfl rfl rfl (fun hb => by (try simp at hb); simp (disch := omega) [hb, hc6, hcv23, hcw23, hbi, hc18, hbp, hc31, hcs86, hct86, hcw86, hcws86, hcwt86, hcww86, hcs91, hct91, hcw91, hcws91, hcwt91, hcww91]; rfl) ?_
        refine aops_gdcall (b := _) (u := ?pu45) rfl rfl rfl rfl ?pk45 ?ph45
        case pk45 =>
          intro hb; try simp at hb
          refine ⟨_, by simp (disch := omega) [hb, hc6, hcv23, hcw23, hbi, hc18, hbp, hc31, hcs86, hct86, hcw86, hcws86, hcwt86, hcww86, hcs91, hct91, hcw91, hcws91, hcwt91, hcww91]; rfl, ?_⟩
          refine ref16_Same (certR f).1 (certR f).1 s86 t86 w86 s91 t91 w91 _ ?_ ?_ ?_ ?_ ?_ ?_
          · exact SliceR.sub rB_ok (show Sub H86 _ from sub_auto) (OwnB.slice hl86 hs86)
          · exact SliceR.sub rMB_ok (show Sub H86 _ from sub_auto) (OwnMB.slice hl86 ht86)
          · exact SliceR.sub (rS_ok encP_ok) (show Sub H86 _ from sub_auto) (OwnW.slice hl86 hw86)
          · exact SliceR.sub rB_ok (show Sub H91 _ from sub_auto) (OwnB.slice hl91 hs91)
          · exact SliceR.sub rMB_ok (show Sub H91 _ from sub_auto) (OwnMB.slice hl91 ht91)
          · exact SliceR.sub (rS_ok encP_ok) (show Sub H91 _ from sub_auto) (OwnW.slice hl91 hw91)
        refine aops_op rfl rfl rfl (by simp (disch := omega) [hc6, hcv23, hcw23, hbi, hc18, hbp, hc31, hcs86, hct86, hcw86, hcws86, hcwt86, hcww86, hcs91, hct91, hcw91, hcws91, hcwt91, hcww91]; rfl) ?_
        refine aops_op rfl rfl rfl (by simp (disch := omega) [hc6, hcv23, hcw23, hbi, hc18, hbp, hc31, hcs86, hct86, hcw86, hcws86, hcwt86, hcww86, hcs91, hct91, hcw91, hcws91, hcwt91, hcww91]; rfl) ?_
        refine aops_nil ?_
        refine hK43 _ _ ?_
        refine awp_lt fun hltE => ?_
        refine awp_ret ?_
        try simp only [thenA, blockA]
        refine fpost_retR hR' hlt_auto rfl (by simp (disch := omega) [hc6, hcv23, hcw23, hbi, hc18, hbp, hc31, hcs86, hct86, hcw86, hcws86, hcwt86, hcww86, hcs91, hct91, hcw91, hcws91, hcwt91, hcww91] <;> rfl) sub_auto ?_
        -- WAY 111
        simp [resV]

end Go.Proofs.Yteklhgmoniaieaa.Fn
