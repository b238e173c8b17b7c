import Derived.Test.YteklhgmoniaieaaAhTypes
import Derived.Test.YteklhgmoniaieaaAhFb
set_option linter.unusedVariables false
set_option maxRecDepth 20000
set_option maxHeartbeats 10000000
set_option linter.unusedSimpArgs false
namespace Go.Proofs.Yteklhgmoniaieaa.Fn
open Go.Proofs.YteklhgmoniaieaaAh Go.Proofs.Yteklhgmoniaieaa.Ty
-- "(*regcert/spillall.builder).add"  params ['*spillall.builder', '[]api.Mach'] results []
theorem bd_add (b : Nat) (u x : Value) (xs ys : List LMach) (H : AHeap) (hb : H.at_ b = some (.cells [u] 85 1)) (ho : OwnS H u 66 7 encM xs) (hn : ownId u ≠ b) (hy : SliceR H (flat encM) 7 x ys) (hm : xs.length + ys.length ≤ 1000000000) : ACalls Try.prog 33 #[.pointer (some ⟨b, 0, none⟩), x] H fun v H' => Sub ((H.delV (ownId u)).del b) H' ∧ ∃ u', v = .tuple #[] ∧ H'.at_ b = some (.cells [u'] 85 1) ∧ OwnS H' u' 66 7 encM (xs ++ ys) ∧ (ownId u' = -1 ∨ ownId u' = ownId u ∨ (H.next : Int) ≤ ownId u') := by
  refine acallsK (rs := []) 13 Try.func33 rfl (by decide) rfl rfl (by simp) fun R' hR' hlt => ?_
  simp
  have hbl := hlt b _ hb
  refine awp_end_k fun K0 hK0 => ?_
  refine awp_region (by decide) ?_   -- region 0
  refine aops_op rfl rfl rfl (by simp (disch := omega) [hb]; rfl) ?_
  refine aops_op rfl rfl rfl (by simp (disch := omega) [hb]; rfl) ?_
  refine aops_op rfl rfl rfl (by simp (disch := omega) [hb]; rfl) ?_
  refine aops_op rfl rfl rfl (by simp (disch := omega) [hb]; rfl) ?_
  refine aops_op rfl rfl rfl (by simp (disch := omega) [hb]; rfl) ?_
  refine aops_op rfl rfl rfl (by simp (disch := omega) [hb]; rfl) ?_
  refine aops_appS (enc := encM) (ys := ys) rfl rfl rfl rfl rfl rfl (by simp (disch := omega) [hb] <;> rfl) (by simp (disch := omega) [hb] <;> rfl) (by first | exact ownId_mk _ _ _ _ | rfl) (ho) ?hy10n1 hlt_auto (fun _ => rfl) (by simp (disch := omega) [hb] <;> rfl) (by simp (disch := omega) [hb] <;> rfl) (by simp (disch := omega) [hb] <;> rfl) (by simp (disch := omega) [hb] <;> rfl) (by simp) (fun _ _ => by simp [encM]) (by simp [maxLen]; omega) ?hh10n1
  case hy10n1 => exact hy
  intro v10 H10 s10 hl10 ho10 hi10 hj10 hn10
  have hcv10 := ho10.cells; have hcw10 := ho10.one; have hx10 := s10.next; simp at hx10; try simp only [AHeap.next_new, AHeap.next_set, next_ov, next_delV, AHeap.next_del, next_low] at hi10
  have hz10 := s10.nexts; try (conv at hz10 => rhs; simp only [AHeap.next_new, AHeap.next_set, next_ov, next_delV, AHeap.next_del, next_low])
  refine aops_op rfl rfl rfl (by simp (disch := omega) [hb, hcv10, hcw10]; rfl) ?_
  refine aops_op rfl rfl rfl (by simp (disch := omega) [hb, hcv10, hcw10]; rfl) ?_
  refine aops_store rfl rfl rfl (by simp (disch := omega) [hb, hcv10, hcw10]; rfl) (by rfl) (by simp (disch := omega) [hb, hcv10, hcw10]; rfl) (by simp (disch := omega) [hb, hcv10, hcw10]; rfl) (by simp (disch := omega) [hb, hcv10, hcw10]; rfl) (by simp (disch := omega) [hb, hcv10, hcw10]; rfl) (by rfl) (by simp [hcw10] <;> omega) (by simp [setCells] <;> rfl) set_auto ?_
  refine aops_nil ?_
  -- END OF BODY
  refine hK0 _ _ ?_
  refine fpost_endR hR' hlt_auto rfl (by simp (disch := omega) [hb, hcv10, hcw10] <;> rfl) sub_auto ?_
  -- WAY 
  refine ⟨v10, rfl, by simp, ho10.keep keep_auto, by omega⟩

-- "(*regcert/spillall.builder).instr"  params ['*spillall.builder', 'api.Instr'] results []
theorem bd_instr (b : Nat) (u : Value) (xs : List LMach) (o d a b' m n : Int) (H : AHeap) (hb : H.at_ b = some (.cells [u] 85 1)) (ho : OwnS H u 66 7 encM xs) (hn : ownId u ≠ b) (hi : insE n ⟨o, d, a, b', m⟩ = 0) (h0 : n ≤ 1048576) (hm : xs.length ≤ 900000000) : ACalls Try.prog 32 #[.pointer (some ⟨b, 0, none⟩), .agg #[iv o, iv d, iv a, iv b', iv m]] H fun v H' => Sub ((H.delV (ownId u)).del b) H' ∧ ∃ u', v = .tuple #[] ∧ H'.at_ b = some (.cells [u'] 85 1) ∧ OwnS H' u' 66 7 encM (xs ++ insM o d a b' m) ∧ (ownId u' = -1 ∨ ownId u' = ownId u ∨ (H.next : Int) ≤ ownId u') := by
  refine acallsK (rs := []) 50 Try.func32 rfl (by decide) rfl rfl (by simp) fun R' hR' hlt => ?_
  simp
  have hbl := hlt b _ hb
  have hu := ho.id_lt hlt
  obtain ⟨hA, hB, hD⟩ := ins_rng hi h0
  refine awp_end_k fun K0 hK0 => ?_
  refine awp_seq_k fun K1 hK1 => ?_
  refine awp_region (by decide) ?_   -- region 0
  refine aops_box rfl rfl rfl (by simp (disch := omega) [hb, shapeV]; rfl) (by simp (disch := omega) [hb, shapeV]; rfl) (by simp (disch := omega) [hb, shapeV]; rfl) ?_
  intro b3 hb3; try simp only [AHeap.next_new, AHeap.next_set, next_ov, next_delV, AHeap.next_del, next_low] at hb3
  refine aops_nil ?_
  refine hK1 _ _ ?_
  refine awp_seq_k fun K2 hK2 => ?_
  refine awp_region (by decide) ?_   -- region 1
  refine aops_op rfl rfl rfl (by simp (disch := omega) [hb, shapeV]; rfl) ?_
  refine aops_op rfl rfl rfl (by simp (disch := omega) [hb, shapeV]; rfl) ?_
  refine aops_callP (u := ?pu3) rfl rfl rfl rfl (by simp (disch := omega) [hb, shapeV]; rfl) ?pk3 ?ph3
  case pk3 =>
    exact opcode_Of o _
  refine aops_op rfl rfl rfl (by simp (disch := omega) [hb, shapeV]; rfl) ?_
  refine aops_op rfl rfl rfl (by simp (disch := omega) [hb, shapeV]; rfl) ?_
  refine aops_op rfl rfl rfl (by simp (disch := omega) [hb, shapeV]; rfl) ?_
  refine aops_alloc rfl rfl rfl (by simp (disch := omega) [hb, shapeV]; rfl) (by simp (disch := omega) [hb, shapeV]; rfl) ?_
  intro b4 hb4; try simp only [AHeap.next_new, AHeap.next_set, next_ov, next_delV, AHeap.next_del, next_low] at hb4
  refine aops_store rfl rfl rfl (by simp (disch := omega) [hb, shapeV]; rfl) (by rfl) (by simp (disch := omega) [hb, shapeV]; rfl) (by simp (disch := omega) [hb, shapeV]; rfl) (by simp (disch := omega) [hb, shapeV]; rfl) (by simp (disch := omega) [hb, shapeV]; rfl) (by rfl) (by simp [] <;> omega) (by simp [setCells] <;> rfl) set_auto ?_
  refine aops_op rfl rfl rfl (by simp (disch := omega) [hb, shapeV]; rfl) ?_
  refine aops_nil ?_
  refine hK2 _ _ ?_
  refine awp_seq_k fun K4 hK4 => ?_
  refine awp_seq_k fun K5 hK5 => ?_
  refine awp_region (by decide) ?_   -- region 2
  refine aops_op rfl rfl rfl (by simp (disch := omega) [hb, shapeV]; rfl) ?_
  refine aops_op rfl rfl rfl (by simp (disch := omega) [hb, shapeV]; rfl) ?_
  refine aops_nil ?_
  refine hK5 _ _ ?_
  refine awp_cut5 hK4 [15, 16, 17, 18, 19, 20] (fun j : Value => []) (fun H => (H.delV (ownId u)).del b) (fun j H' => H'.at_ b = some (.cells [j] 85 1) ∧ OwnS H' j 66 7 encM (xs ++ if usesA o then [mvM 0 (2 * a + 1)] else []) ∧ (ownId j = -1 ∨ ownId j = ownId u ∨ (b4 : Int) < ownId j)) (fun K6 hK6 => ?_) ?_   -- CUT
  ·
    refine awp_cond rfl (fun hc7 => ?_) fun hc7 => ?_
    · simp at hc7
      refine awp_region (by decide) ?_   -- region 3
      refine aops_op rfl rfl rfl (by simp (disch := omega) [hb, shapeV, hc7]; rfl) ?_
      refine aops_op rfl rfl rfl (by simp (disch := omega) [hb, shapeV, hc7]; rfl) ?_
      refine aops_op rfl rfl rfl (by simp (disch := omega) [hb, shapeV, hc7]; rfl) ?_
      refine aops_callP (u := ?pu8) rfl rfl rfl rfl (by simp (disch := omega) [hb, shapeV, hc7]; rfl) ?pk8 ?ph8
      case pk8 =>
        exact sp_load 0 a _ (by grind [usesA]) (by grind [usesA]) (by omega) (by omega)
      refine aops_buildSlice rfl rfl rfl (by simp (disch := omega) [hb, shapeV, hc7]; rfl) (by simp (disch := omega) [hb, shapeV, hc7]; rfl) (by simp (disch := omega) [hb, shapeV, hc7]; rfl) (by simp (disch := omega) [hb, shapeV, hc7]; rfl) (by simp) (by simp (disch := omega) [hb, shapeV, hc7, zrep, List.replicate]; rfl) (by simp <;> rfl) ?_
      intro b19 hb19; try simp only [AHeap.next_new, AHeap.next_set, next_ov, next_delV, AHeap.next_del, next_low] at hb19
      refine aops_callR (H1 := ?Q20n9) (R := ?R20n9) rfl rfl rfl rfl (by simp (disch := omega) [hb, shapeV, hc7]; rfl) ?hk20n9 ?hh20n9
      case hk20n9 =>
        refine bd_add b (u) _ (xs) ([mvM 0 (2 * a + 1)]) _ ?_ ?_ ?_ ?_ ?_
        · simp (disch := omega) [hb, shapeV, hc7]
        · exact ho.keep keep_auto
        · omega
        · exact (SliceR.own (enc := encM) (fun _ => rfl) [mvM 0 (2 * a + 1)] (by first | exact AHeap.at_new_self _ _ _ | (simp (disch := omega) <;> rfl)) (by first | omega | (simp <;> omega)) (by simp [encM, mvM, opM]) rfl (by simp) (by simp [maxLen]))
        · have := hm; grind
      intro v20 H20 s20 hl20 hR20
      have hx20 := s20.next; simp at hx20
      have hz20 := s20.nexts; try (conv at hz20 => rhs; simp only [AHeap.next_new, AHeap.next_set, next_ov, next_delV, AHeap.next_del, next_low])
      obtain ⟨u20, rfl, hb20, ho20, hi20⟩ := hR20
      have hj20 := ho20.id_lt hl20
      try simp only [AHeap.next_new, AHeap.next_set, next_ov, next_delV, AHeap.next_del, next_low] at hi20
      refine aops_nil ?_
      refine hK6 _ _ ?_   -- END OF CUT
      refine cutTo (u20) rfl (by simp (disch := omega) [hb, shapeV, hc7] <;> rfl) (by simp [hb, shapeV, hc7]) sub_auto ?_
      refine ⟨by simp [hb20], ?_, by omega⟩
      refine OwnS.keep (H := H20) ?_ keep_auto
      have hq : usesA o = true := by grind [usesA]
      simpa [hq] using ho20
    · simp at hc7
      refine awp_skip ?_
      simp
      refine hK6 _ _ ?_   -- END OF CUT
      refine cutTo (u) rfl (by simp (disch := omega) [hb, shapeV, hc7] <;> rfl) (by simp [hb, shapeV, hc7]) sub_auto ?_
      refine ⟨by simp (disch := omega) [hb], ?_, by omega⟩
      refine OwnS.keep (H := H) ?_ keep_auto
      have hq : usesA o = false := by grind [usesA]
      simpa [hq] using ho
  rintro j H_j s_j hl_j ⟨hbj, hoj, hij⟩
  have hx_j := s_j.next; simp at hx_j
  have hz_j := s_j.nexts; try (conv at hz_j => rhs; simp only [AHeap.next_new, AHeap.next_set, next_ov, next_delV, AHeap.next_del, next_low])
  simp
  have hjl := hoj.id_lt hl_j
  refine awp_seq_k fun K10 hK10 => ?_
  refine awp_seq_k fun K11 hK11 => ?_
  refine awp_region (by decide) ?_   -- region 4
  refine aops_op rfl rfl rfl (by simp (disch := omega) [hb, shapeV, hbj]; rfl) ?_
  refine aops_op rfl rfl rfl (by simp (disch := omega) [hb, shapeV, hbj]; rfl) ?_
  refine aops_op rfl rfl rfl (by simp (disch := omega) [hb, shapeV, hbj]; rfl) ?_
  refine aops_nil ?_
  refine hK11 _ _ ?_
  refine awp_cut5 hK10 [6, 24, 25, 26, 27, 28, 29, 30, 31, 32, 33, 34, 35, 36, 37, 38, 39, 40, 41] (fun l : Value => []) (fun H => (H.delV (ownId j)).del b) (fun l H' => H'.at_ b = some (.cells [l] 85 1) ∧ OwnS H' l 66 7 encM ((xs ++ if usesA o then [mvM 0 (2 * a + 1)] else []) ++ (if o = 2 then [] else (if usesB o then [mvM 2 (2 * b' + 1)] else []) ++ [opM o m])) ∧ (ownId l = -1 ∨ ownId l = ownId u ∨ (b4 : Int) < ownId l)) (fun K12 hK12 => ?_) ?_   -- CUT
  ·
    refine awp_cond rfl (fun hc13 => ?_) fun hc13 => ?_
    · simp at hc13
      refine awp_seq_k fun K14 hK14 => ?_
      refine awp_region (by decide) ?_   -- region 5
      refine aops_op rfl rfl rfl (by simp (disch := omega) [hb, shapeV, hbj, hc13]; rfl) ?_
      refine aops_op rfl rfl rfl (by simp (disch := omega) [hb, shapeV, hbj, hc13]; rfl) ?_
      refine aops_op rfl rfl rfl (by simp (disch := omega) [hb, shapeV, hbj, hc13]; rfl) ?_
      refine aops_op rfl rfl rfl (by simp (disch := omega) [hb, shapeV, hbj, hc13]; rfl) ?_
      refine aops_op rfl rfl rfl (by simp (disch := omega) [hb, shapeV, hbj, hc13]; rfl) ?_
      refine aops_alloc rfl rfl rfl (by simp (disch := omega) [hb, shapeV, hbj, hc13]; rfl) (by simp (disch := omega) [hb, shapeV, hbj, hc13]; rfl) ?_
      intro b6 hb6; try simp only [AHeap.next_new, AHeap.next_set, next_ov, next_delV, AHeap.next_del, next_low] at hb6
      refine aops_store rfl rfl rfl (by simp (disch := omega) [hb, shapeV, hbj, hc13]; rfl) (by rfl) (by simp (disch := omega) [hb, shapeV, hbj, hc13]; rfl) (by simp (disch := omega) [hb, shapeV, hbj, hc13]; rfl) (by simp (disch := omega) [hb, shapeV, hbj, hc13]; rfl) (by simp (disch := omega) [hb, shapeV, hbj, hc13]; rfl) (by rfl) (by simp [] <;> omega) (by simp [setCells] <;> rfl) set_auto ?_
      refine aops_nil ?_
      refine hK14 _ _ ?_
      refine awp_seq_k fun K15 hK15 => ?_
      refine awp_seq_k fun K16 hK16 => ?_
      refine awp_region (by decide) ?_   -- region 6
      refine aops_op rfl rfl rfl (by simp (disch := omega) [hb, shapeV, hbj, hc13]; rfl) ?_
      refine aops_op rfl rfl rfl (by simp (disch := omega) [hb, shapeV, hbj, hc13]; rfl) ?_
      refine aops_nil ?_
      refine hK16 _ _ ?_
      refine awp_cut5 hK15 [31, 32, 33, 34, 35, 36, 37] (fun k : Value => []) (fun H => ((H.delV (ownId j)).del b).del b6) (fun k H' => H'.at_ b = some (.cells [k] 85 1) ∧ OwnS H' k 66 7 encM ((xs ++ if usesA o then [mvM 0 (2 * a + 1)] else []) ++ if usesB o then [mvM 2 (2 * b' + 1)] else []) ∧ (ownId k = -1 ∨ ownId k = ownId j ∨ (b6 : Int) < ownId k) ∧ H'.at_ b6 = some (.cells (encM (opM o m)) 66 7)) (fun K17 hK17 => ?_) ?_   -- CUT
      ·
        refine awp_cond rfl (fun hc18 => ?_) fun hc18 => ?_
        · simp at hc18
          refine awp_seq_k fun K19 hK19 => ?_
          refine awp_region (by decide) ?_   -- region 7
          refine aops_op rfl rfl rfl (by simp (disch := omega) [hb, shapeV, hbj, hc13, hc18]; rfl) ?_
          refine aops_op rfl rfl rfl (by simp (disch := omega) [hb, shapeV, hbj, hc13, hc18]; rfl) ?_
          refine aops_op rfl rfl rfl (by simp (disch := omega) [hb, shapeV, hbj, hc13, hc18]; rfl) ?_
          refine aops_callP (u := ?pu20) rfl rfl rfl rfl (by simp (disch := omega) [hb, shapeV, hbj, hc13, hc18]; rfl) ?pk20 ?ph20
          case pk20 =>
            exact sp_load 1 b' _ (by grind [usesB]) (by grind [usesB]) (by omega) (by omega)
          refine aops_buildSlice rfl rfl rfl (by simp (disch := omega) [hb, shapeV, hbj, hc13, hc18]; rfl) (by simp (disch := omega) [hb, shapeV, hbj, hc13, hc18]; rfl) (by simp (disch := omega) [hb, shapeV, hbj, hc13, hc18]; rfl) (by simp (disch := omega) [hb, shapeV, hbj, hc13, hc18]; rfl) (by simp) (by simp (disch := omega) [hb, shapeV, hbj, hc13, hc18, zrep, List.replicate]; rfl) (by simp <;> rfl) ?_
          intro b35 hb35; try simp only [AHeap.next_new, AHeap.next_set, next_ov, next_delV, AHeap.next_del, next_low] at hb35
          refine aops_callR (H1 := ?Q36n21) (R := ?R36n21) rfl rfl rfl rfl (by simp (disch := omega) [hb, shapeV, hbj, hc13, hc18]; rfl) ?hk36n21 ?hh36n21
          case hk36n21 =>
            refine bd_add b (j) _ (xs ++ if usesA o then [mvM 0 (2 * a + 1)] else []) ([mvM 2 (2 * b' + 1)]) _ ?_ ?_ ?_ ?_ ?_
            · simp (disch := omega) [hb, shapeV, hbj, hc13, hc18]
            · exact hoj.keep keep_auto
            · omega
            · exact (SliceR.own (enc := encM) (fun _ => rfl) [mvM 2 (2 * b' + 1)] (by first | exact AHeap.at_new_self _ _ _ | (simp (disch := omega) <;> rfl)) (by first | omega | (simp <;> omega)) (by simp [encM, mvM, opM]) rfl (by simp) (by simp [maxLen]))
            · have := hm; grind
          intro v36 H36 s36 hl36 hR36
          have hx36 := s36.next; simp at hx36
          have hz36 := s36.nexts; try (conv at hz36 => rhs; simp only [AHeap.next_new, AHeap.next_set, next_ov, next_delV, AHeap.next_del, next_low])
          obtain ⟨u36, rfl, hb36, ho36, hi36⟩ := hR36
          have hj36 := ho36.id_lt hl36
          try simp only [AHeap.next_new, AHeap.next_set, next_ov, next_delV, AHeap.next_del, next_low] at hi36
          refine aops_nil ?_
          refine hK19 _ _ ?_
          refine awp_region (by decide) ?_   -- region 8
          refine aops_op rfl rfl rfl (by simp (disch := omega) [hb, shapeV, hbj, hc13, hc18]; rfl) ?_
          refine aops_store rfl rfl rfl (by simp (disch := omega) [hb, shapeV, hbj, hc13, hc18]; rfl) (by rfl) (by simp (disch := omega) [hb, shapeV, hbj, hc13, hc18]; rfl) (by simp (disch := omega) [hb, shapeV, hbj, hc13, hc18]; rfl) (by simp (disch := omega) [hb, shapeV, hbj, hc13, hc18]; rfl) (by simp (disch := omega) [hb, shapeV, hbj, hc13, hc18]; rfl) (by rfl) (by simp [] <;> omega) (by simp [setCells] <;> rfl) set_auto ?_
          refine aops_nil ?_
          refine hK17 _ _ ?_   -- END OF CUT
          refine cutTo (u36) rfl (by simp (disch := omega) [hb, shapeV, hbj, hc13, hc18] <;> rfl) (by simp [hb, shapeV, hbj, hc13, hc18]) sub_auto ?_
          refine ⟨by simp (disch := omega) [hb36], ?_, by omega, ?_⟩
          refine OwnS.keep (H := H36) ?_ keep_auto
          have hq : usesB o = true := by grind [usesB]
          simpa [hq] using ho36
          have hq : usesB o = true := by grind [usesB]
          simp [encM, opM, hq]
        · simp at hc18
          refine awp_skip ?_
          simp
          refine hK17 _ _ ?_   -- END OF CUT
          refine cutTo (j) rfl (by simp (disch := omega) [hb, shapeV, hbj, hc13, hc18] <;> rfl) (by simp [hb, shapeV, hbj, hc13, hc18]) sub_auto ?_
          refine ⟨by simp (disch := omega) [hbj], ?_, by omega, ?_⟩
          refine OwnS.keep (H := H_j) ?_ keep_auto
          have hq : usesB o = false := by grind [usesB]
          simpa [hq] using hoj
          have hq : usesB o = false := by grind [usesB]
          simp (disch := omega) [encM, opM, hq]
      rintro k H_k s_k hl_k ⟨hbk, hok, hik, hmk⟩
      have hx_k := s_k.next; simp at hx_k
      have hz_k := s_k.nexts; try (conv at hz_k => rhs; simp only [AHeap.next_new, AHeap.next_set, next_ov, next_delV, AHeap.next_del, next_low])
      simp
      have hkl := hok.id_lt hl_k
      refine awp_region (by decide) ?_   -- region 9
      refine aops_op rfl rfl rfl (by simp (disch := omega) [hb, shapeV, hbj, hc13, hbk, hmk, encM, opM]; rfl) ?_
      refine aops_op rfl rfl rfl (by simp (disch := omega) [hb, shapeV, hbj, hc13, hbk, hmk, encM, opM]; rfl) ?_
      refine aops_buildSlice rfl rfl rfl (by simp (disch := omega) [hb, shapeV, hbj, hc13, hbk, hmk, encM, opM]; rfl) (by simp (disch := omega) [hb, shapeV, hbj, hc13, hbk, hmk, encM, opM]; rfl) (by simp (disch := omega) [hb, shapeV, hbj, hc13, hbk, hmk, encM, opM]; rfl) (by simp (disch := omega) [hb, shapeV, hbj, hc13, hbk, hmk, encM, opM]; rfl) (by simp) (by simp (disch := omega) [hb, shapeV, hbj, hc13, hbk, hmk, encM, opM, zrep, List.replicate]; rfl) (by simp <;> rfl) ?_
      intro b40 hb40; try simp only [AHeap.next_new, AHeap.next_set, next_ov, next_delV, AHeap.next_del, next_low] at hb40
      refine aops_callR (H1 := ?Q41n22) (R := ?R41n22) rfl rfl rfl rfl (by simp (disch := omega) [hb, shapeV, hbj, hc13, hbk, hmk, encM, opM]; rfl) ?hk41n22 ?hh41n22
      case hk41n22 =>
        refine bd_add b (k) _ ((xs ++ if usesA o then [mvM 0 (2 * a + 1)] else []) ++ if usesB o then [mvM 2 (2 * b' + 1)] else []) ([opM o m]) _ ?_ ?_ ?_ ?_ ?_
        · simp (disch := omega) [hb, shapeV, hbj, hc13, hbk, hmk, encM, opM]
        · exact hok.keep keep_auto
        · omega
        · exact (SliceR.own (enc := encM) (fun _ => rfl) [opM o m] (by first | exact AHeap.at_new_self _ _ _ | (simp (disch := omega) <;> rfl)) (by first | omega | (simp <;> omega)) (by simp [encM, mvM, opM]) rfl (by simp) (by simp [maxLen]))
        · have := hm; grind
      intro v41 H41 s41 hl41 hR41
      have hx41 := s41.next; simp at hx41
      have hz41 := s41.nexts; try (conv at hz41 => rhs; simp only [AHeap.next_new, AHeap.next_set, next_ov, next_delV, AHeap.next_del, next_low])
      obtain ⟨u41, rfl, hb41, ho41, hi41⟩ := hR41
      have hj41 := ho41.id_lt hl41
      try simp only [AHeap.next_new, AHeap.next_set, next_ov, next_delV, AHeap.next_del, next_low] at hi41
      refine aops_nil ?_
      refine hK12 _ _ ?_   -- END OF CUT
      refine cutTo (u41) rfl (by simp (disch := omega) [hb, shapeV, hbj, hc13, hbk, hmk, encM, opM] <;> rfl) (by simp [hb, shapeV, hbj, hc13, hbk, hmk, encM, opM]) sub_auto ?_
      refine ⟨by simp [hb41], ?_, by omega⟩
      refine OwnS.keep (H := H41) ?_ keep_auto
      simpa [hc13] using ho41
    · simp at hc13
      refine awp_skip ?_
      simp
      refine hK12 _ _ ?_   -- END OF CUT
      refine cutTo (j) rfl (by simp (disch := omega) [hb, shapeV, hbj, hc13] <;> rfl) (by simp [hb, shapeV, hbj, hc13]) sub_auto ?_
      refine ⟨by simp (disch := omega) [hbj], ?_, by omega⟩
      refine OwnS.keep (H := H_j) ?_ keep_auto
      simpa [hc13] using hoj
  rintro l H_l s_l hl_l ⟨hbl', hol, hil⟩
  have hx_l := s_l.next; simp at hx_l
  have hz_l := s_l.nexts; try (conv at hz_l => rhs; simp only [AHeap.next_new, AHeap.next_set, next_ov, next_delV, AHeap.next_del, next_low])
  simp
  have hll := hol.id_lt hl_l
  refine awp_seq_k fun K23 hK23 => ?_
  refine awp_region (by decide) ?_   -- region 10
  refine aops_op rfl rfl rfl (by simp (disch := omega) [hb, shapeV, hbj, hbl']; rfl) ?_
  refine aops_op rfl rfl rfl (by simp (disch := omega) [hb, shapeV, hbj, hbl']; rfl) ?_
  refine aops_nil ?_
  refine hK23 _ _ ?_
  refine awp_cond rfl (fun hc24 => ?_) fun hc24 => ?_
  · simp at hc24
    refine awp_region (by decide) ?_   -- region 11
    refine aops_op rfl rfl rfl (by simp (disch := omega) [hb, shapeV, hbj, hbl', hc24]; rfl) ?_
    refine aops_op rfl rfl rfl (by simp (disch := omega) [hb, shapeV, hbj, hbl', hc24]; rfl) ?_
    refine aops_op rfl rfl rfl (by simp (disch := omega) [hb, shapeV, hbj, hbl', hc24]; rfl) ?_
    refine aops_callP (u := ?pu25) rfl rfl rfl rfl (by simp (disch := omega) [hb, shapeV, hbj, hbl', hc24]; rfl) ?pk25 ?ph25
    case pk25 =>
      exact sp_store d _ (by grind [usesD]) (by grind [usesD])
    refine aops_buildSlice rfl rfl rfl (by simp (disch := omega) [hb, shapeV, hbj, hbl', hc24]; rfl) (by simp (disch := omega) [hb, shapeV, hbj, hbl', hc24]; rfl) (by simp (disch := omega) [hb, shapeV, hbj, hbl', hc24]; rfl) (by simp (disch := omega) [hb, shapeV, hbj, hbl', hc24]; rfl) (by simp) (by simp (disch := omega) [hb, shapeV, hbj, hbl', hc24, zrep, List.replicate]; rfl) (by simp <;> rfl) ?_
    intro b48 hb48; try simp only [AHeap.next_new, AHeap.next_set, next_ov, next_delV, AHeap.next_del, next_low] at hb48
    refine aops_callR (H1 := ?Q49n26) (R := ?R49n26) rfl rfl rfl rfl (by simp (disch := omega) [hb, shapeV, hbj, hbl', hc24]; rfl) ?hk49n26 ?hh49n26
    case hk49n26 =>
      refine bd_add b (l) _ ((xs ++ if usesA o then [mvM 0 (2 * a + 1)] else []) ++ (if o = 2 then [] else (if usesB o then [mvM 2 (2 * b' + 1)] else []) ++ [opM o m])) ([mvM (2 * d + 1) 0]) _ ?_ ?_ ?_ ?_ ?_
      · simp (disch := omega) [hb, shapeV, hbj, hbl', hc24]
      · exact hol.keep keep_auto
      · omega
      · exact (SliceR.own (enc := encM) (fun _ => rfl) [mvM (2 * d + 1) 0] (by first | exact AHeap.at_new_self _ _ _ | (simp (disch := omega) <;> rfl)) (by first | omega | (simp <;> omega)) (by simp [encM, mvM, opM]) rfl (by simp) (by simp [maxLen]))
      · have := hm; grind
    intro v49 H49 s49 hl49 hR49
    have hx49 := s49.next; simp at hx49
    have hz49 := s49.nexts; try (conv at hz49 => rhs; simp only [AHeap.next_new, AHeap.next_set, next_ov, next_delV, AHeap.next_del, next_low])
    obtain ⟨u49, rfl, hb49, ho49, hi49⟩ := hR49
    have hj49 := ho49.id_lt hl49
    try simp only [AHeap.next_new, AHeap.next_set, next_ov, next_delV, AHeap.next_del, next_low] at hi49
    refine aops_nil ?_
    -- END OF BODY
    refine hK0 _ _ ?_
    refine fpost_endR hR' hlt_auto rfl (by simp (disch := omega) [hb, shapeV, hbj, hbl', hc24] <;> rfl) sub_auto ?_
    -- WAY 0
    refine ⟨u49, rfl, by simp [hb49], ?_, by omega⟩
    refine OwnS.keep (H := H49) ?_ keep_auto
    have hq : usesD o = true := by grind [usesD]
    simpa [insM, hq] using ho49
  · simp at hc24
    refine awp_skip ?_
    simp
    -- END OF BODY
    refine hK0 _ _ ?_
    refine fpost_endR hR' hlt_auto rfl (by simp (disch := omega) [hb, shapeV, hbj, hbl', hc24] <;> rfl) sub_auto ?_
    -- WAY 1
    refine ⟨l, rfl, by simp (disch := omega) [hbl'], ?_, by omega⟩
    refine OwnS.keep (H := H_l) ?_ keep_auto
    have hq : usesD o = false := by grind [usesD]
    simpa [insM, hq] using hol

-- "regcert/spillall.Block"  params ['api.Block'] results ['api.MBlock']
theorem sp_Block (x : LBlock) (v : Value) (n m : Int) (H : AHeap) (hf : SliceR H (flat encIn) 5 v x.code) (hv : blockE n m x = 0) (hn : n ≤ 1048576) (hc : x.code.length ≤ 1048576) : ACalls Try.prog 16 #[.agg #[v, iv x.term.kind, iv x.term.a, iv x.term.to, iv x.term.els]] H fun v H' => Sub (H) H' ∧ ∃ u, v = .agg #[u, iv x.term.kind, iv 0, iv x.term.to, iv x.term.els] ∧ OwnS H' u 66 7 encM (blkM x).code ∧ (ownId u = -1 ∨ (H.next : Int) ≤ ownId u) := by
  obtain ⟨a, c, rfl, hc1, hc2, hrow⟩ := hf.open
  obtain ⟨hvi, hvt⟩ := block_ok hv
  have hvr := term_rng hvt hn
  refine acallsK (rs := [.cell 2 63]) 32 Try.func16 rfl (by decide) rfl rfl (by simp) fun R' hR' hlt => ?_
  simp
  refine awp_seq_k fun K1 hK1 => ?_
  refine awp_region (by decide) ?_   -- region 0
  refine aops_box rfl rfl rfl (by simp (disch := omega) []; rfl) (by simp (disch := omega) []; rfl) (by simp (disch := omega) []; rfl) ?_
  intro b1 hb1; try simp only [AHeap.next_new, AHeap.next_set, next_ov, next_delV, AHeap.next_del, next_low] at hb1
  refine aops_alloc rfl rfl rfl (by simp (disch := omega) []; rfl) (by simp (disch := omega) []; rfl) ?_
  intro b2 hb2; try simp only [AHeap.next_new, AHeap.next_set, next_ov, next_delV, AHeap.next_del, next_low] at hb2
  refine aops_nil ?_
  refine hK1 _ _ ?_
  refine awp_seq_k fun K2 hK2 => ?_
  refine awp_region (by decide) ?_   -- region 1
  refine aops_alloc rfl rfl rfl (by simp (disch := omega) []; rfl) (by simp (disch := omega) []; rfl) ?_
  intro b3 hb3; try simp only [AHeap.next_new, AHeap.next_set, next_ov, next_delV, AHeap.next_del, next_low] at hb3
  refine aops_nil ?_
  refine hK2 _ _ ?_
  refine awp_seq_k fun K3 hK3 => ?_
  refine awp_seq_k fun K4 hK4 => ?_
  refine awp_region (by decide) ?_   -- region 2
  refine aops_op rfl rfl rfl (by simp (disch := omega) []; rfl) ?_
  refine aops_op rfl rfl rfl (by simp (disch := omega) []; rfl) ?_
  refine aops_op rfl rfl rfl (by simp (disch := omega) []; rfl) ?_
  refine aops_op rfl rfl rfl (by simp (disch := omega) []; rfl) ?_
  refine aops_nil ?_
  refine hK4 _ _ ?_
  refine awp_block ?_   -- block 0
  refine awp_lt fun hlt5 => ?_
  refine awp_loop4 [5, 10, 11, 12, 13, 14, 15, 16] (fun i : Nat × Value => [(10, iv i.1)]) (fun H => H.del b3) (fun i H' => i.1 ≤ x.code.length ∧ H'.at_ b3 = some (.cells [i.2] 85 1) ∧ OwnS H' i.2 66 7 encM (codeB (x.code.take i.1)) ∧ (ownId i.2 = -1 ∨ (b3 : Int) < ownId i.2)) (fun i => x.code.length - i.1) ((0 : Nat), Value.slice none 0 0) (by simp) sub_auto (by exact ⟨by simp, by simp, by simpa [codeB] using OwnS.nil, by simp⟩) ?_   -- LOOP
  rintro ⟨i, w⟩ H_i s_i hl_i ⟨hi1, hbi, hoi, hii⟩ K5 hK5
  have hx_i := s_i.next; simp at hx_i
  have hz_i := s_i.nexts; try (conv at hz_i => rhs; simp only [AHeap.next_new, AHeap.next_set, next_ov, next_delV, AHeap.next_del, next_low])
  simp
  have hil := hoi.id_lt hl_i
  dsimp only at hi1 hbi hoi hii hil
  have hlen := codeB_tlen x.code i
  refine awp_seq_k fun K6 hK6 => ?_
  refine awp_region (by decide) ?_   -- region 3
  refine aops_op rfl rfl rfl (by simp (disch := omega) [hbi]; rfl) ?_
  refine aops_nil ?_
  refine hK6 _ _ ?_
  refine awp_seq_k fun K7 hK7 => ?_
  refine awp_cond rfl (fun hc8 => ?_) fun hc8 => ?_
  · simp at hc8
    refine awp_skip ?_
    simp
    refine hK7 _ _ ?_
    refine awp_seq_k fun K9 hK9 => ?_
    refine awp_block ?_   -- block 1
    refine awp_seq_k fun K10 hK10 => ?_
    obtain ⟨p, ad, hx, rfl, had, hN⟩ := hrow.getF (i := i) (by omega)
    simp only [encIn] at hN
    refine awp_region (by decide) ?_   -- region 4
    refine aops_op rfl rfl rfl (by simp (disch := omega) [hbi, hc8, hN]; rfl) ?_
    refine aops_op rfl rfl rfl (by simp (disch := omega) [hbi, hc8, hN]; rfl) ?_
    refine aops_alloc rfl rfl rfl (by simp (disch := omega) [hbi, hc8, hN]; rfl) (by simp (disch := omega) [hbi, hc8, hN]; rfl) ?_
    intro b5 hb5; try simp only [AHeap.next_new, AHeap.next_set, next_ov, next_delV, AHeap.next_del, next_low] at hb5
    refine aops_store rfl rfl rfl (by simp (disch := omega) [hbi, hc8, hN]; rfl) (by rfl) (by simp (disch := omega) [hbi, hc8, hN]; rfl) (by simp (disch := omega) [hbi, hc8, hN]; rfl) (by simp (disch := omega) [hbi, hc8, hN]; rfl) (by simp (disch := omega) [hbi, hc8, hN]; rfl) (by rfl) (by simp [] <;> omega) (by simp [setCells] <;> rfl) set_auto ?_
    refine aops_nil ?_
    refine hK10 _ _ ?_
    refine awp_region (by decide) ?_   -- region 5
    refine aops_op rfl rfl rfl (by simp (disch := omega) [hbi, hc8, hN]; rfl) ?_
    refine aops_callR (H1 := ?Q15n11) (R := ?R15n11) rfl rfl rfl rfl (by simp (disch := omega) [hbi, hc8, hN]; rfl) ?hk15n11 ?hh15n11
    case hk15n11 =>
      refine bd_instr b3 w (codeB (x.code.take i)) p.op p.d p.a p.b p.imm n _ ?_ ?_ ?_ ?_ ?_ ?_
      · simp (disch := omega) [hbi, hc8, hN]
      · exact hoi.keep keep_auto
      · omega
      · exact hvi i p hx
      · exact hn
      · omega
    intro v15 H15 s15 hl15 hR15
    have hx15 := s15.next; simp at hx15
    have hz15 := s15.nexts; try (conv at hz15 => rhs; simp only [AHeap.next_new, AHeap.next_set, next_ov, next_delV, AHeap.next_del, next_low])
    obtain ⟨u15, rfl, hb15, ho15, hi15⟩ := hR15
    have hj15 := ho15.id_lt hl15
    try simp only [AHeap.next_new, AHeap.next_set, next_ov, next_delV, AHeap.next_del, next_low] at hi15
    refine aops_nil ?_
    refine hK9 _ _ ?_
    refine awp_region (by decide) ?_   -- region 6
    refine aops_op rfl rfl rfl (by simp (disch := omega) [hbi, hc8, hN]; rfl) ?_
    refine aops_op rfl rfl rfl (by simp (disch := omega) [hbi, hc8, hN]; rfl) ?_
    refine aops_nil ?_
    refine hK5 _ _ ?_   -- END OF ROUND
    refine loopTo4 ((i + 1, u15)) rfl (by simp (disch := omega) [hbi, hc8, hN]) (by simp [hbi, hc8, hN]) sub_auto ?_ (by simp; omega)
    exact ⟨by simp; omega, by simp (disch := omega) [hb15], by rw [codeB_take hx]; exact ho15.keep keep_auto, by dsimp only; omega⟩
  · simp at hc8
    refine awp_exit ?_   -- exit 0
    simp
    refine hK3 _ _ ?_
    refine awp_seq_k fun K12 hK12 => ?_
    refine awp_region (by decide) ?_   -- region 7
    refine aops_op rfl rfl rfl (by simp (disch := omega) [hbi, hc8]; rfl) ?_
    refine aops_op rfl rfl rfl (by simp (disch := omega) [hbi, hc8]; rfl) ?_
    refine aops_alloc rfl rfl rfl (by simp (disch := omega) [hbi, hc8]; rfl) (by simp (disch := omega) [hbi, hc8]; rfl) ?_
    intro b6 hb6; try simp only [AHeap.next_new, AHeap.next_set, next_ov, next_delV, AHeap.next_del, next_low] at hb6
    refine aops_store rfl rfl rfl (by simp (disch := omega) [hbi, hc8]; rfl) (by rfl) (by simp (disch := omega) [hbi, hc8]; rfl) (by simp (disch := omega) [hbi, hc8]; rfl) (by simp (disch := omega) [hbi, hc8]; rfl) (by simp (disch := omega) [hbi, hc8]; rfl) (by rfl) (by simp [] <;> omega) (by simp [setCells] <;> rfl) set_auto ?_
    refine aops_nil ?_
    refine hK12 _ _ ?_
    refine awp_seq_k fun K13 hK13 => ?_
    refine awp_seq_k fun K14 hK14 => ?_
    refine awp_region (by decide) ?_   -- region 8
    refine aops_op rfl rfl rfl (by simp (disch := omega) [hbi, hc8]; rfl) ?_
    refine aops_op rfl rfl rfl (by simp (disch := omega) [hbi, hc8]; rfl) ?_
    refine aops_op rfl rfl rfl (by simp (disch := omega) [hbi, hc8]; rfl) ?_
    refine aops_nil ?_
    refine hK14 _ _ ?_
    refine awp_cut5 hK13 [22, 23, 24, 25, 26] (fun j : Value => []) (fun H => (H.delV (ownId w)).del b3) (fun j H' => H'.at_ b3 = some (.cells [j] 85 1) ∧ OwnS H' j 66 7 encM ((blkM x).code) ∧ (ownId j = -1 ∨ ownId j = ownId w ∨ (b6 : Int) < ownId j)) (fun K15 hK15 => ?_) ?_   -- CUT
    ·
      refine awp_cond rfl (fun hc16 => ?_) fun hc16 => ?_
      · simp at hc16
        refine awp_region (by decide) ?_   -- region 9
        refine aops_op rfl rfl rfl (by simp (disch := omega) [hbi, hc8, hc16]; rfl) ?_
        refine aops_op rfl rfl rfl (by simp (disch := omega) [hbi, hc8, hc16]; rfl) ?_
        refine aops_callP (u := ?pu17) rfl rfl rfl rfl (by simp (disch := omega) [hbi, hc8, hc16]; rfl) ?pk17 ?ph17
        case pk17 =>
          exact sp_load 0 x.term.a _ (by grind) (by grind) (by omega) (by omega)
        refine aops_buildSlice rfl rfl rfl (by simp (disch := omega) [hbi, hc8, hc16]; rfl) (by simp (disch := omega) [hbi, hc8, hc16]; rfl) (by simp (disch := omega) [hbi, hc8, hc16]; rfl) (by simp (disch := omega) [hbi, hc8, hc16]; rfl) (by simp) (by simp (disch := omega) [hbi, hc8, hc16, zrep, List.replicate]; rfl) (by simp <;> rfl) ?_
        intro b25 hb25; try simp only [AHeap.next_new, AHeap.next_set, next_ov, next_delV, AHeap.next_del, next_low] at hb25
        refine aops_callR (H1 := ?Q26n18) (R := ?R26n18) rfl rfl rfl rfl (by simp (disch := omega) [hbi, hc8, hc16]; rfl) ?hk26n18 ?hh26n18
        case hk26n18 =>
          refine bd_add b3 w _ (codeB x.code) [mvM 0 (2 * x.term.a + 1)] _ ?_ ?_ ?_ ?_ ?_
          · simp (disch := omega) [hbi, hc8, hc16]
          · rw [← codeB_all (i := i) (by omega)]; exact hoi.keep keep_auto
          · omega
          · exact (SliceR.own (enc := encM) (fun _ => rfl) [mvM 0 (2 * x.term.a + 1)] (by first | exact AHeap.at_new_self _ _ _ | (simp (disch := omega) <;> rfl)) (by first | omega | (simp <;> omega)) (by simp [encM, mvM, opM]) rfl (by simp) (by simp [maxLen]))
          · have := codeB_len x.code; simp; omega
        intro v26 H26 s26 hl26 hR26
        have hx26 := s26.next; simp at hx26
        have hz26 := s26.nexts; try (conv at hz26 => rhs; simp only [AHeap.next_new, AHeap.next_set, next_ov, next_delV, AHeap.next_del, next_low])
        obtain ⟨u26, rfl, hb26, ho26, hi26⟩ := hR26
        have hj26 := ho26.id_lt hl26
        try simp only [AHeap.next_new, AHeap.next_set, next_ov, next_delV, AHeap.next_del, next_low] at hi26
        refine aops_nil ?_
        refine hK15 _ _ ?_   -- END OF CUT
        refine cutTo (u26) rfl (by simp (disch := omega) [hbi, hc8, hc16] <;> rfl) (by simp [hbi, hc8, hc16]) sub_auto ?_
        refine ⟨by simp [hb26], ?_, by omega⟩
        refine OwnS.keep (H := H26) ?_ keep_auto
        simpa [blkM, endM, hc16] using ho26
      · simp at hc16
        refine awp_skip ?_
        simp
        refine hK15 _ _ ?_   -- END OF CUT
        refine cutTo (w) rfl (by simp (disch := omega) [hbi, hc8, hc16] <;> rfl) (by simp [hbi, hc8, hc16]) sub_auto ?_
        refine ⟨by simp (disch := omega) [hbi], ?_, by omega⟩
        refine OwnS.keep (H := H_i) ?_ keep_auto
        simpa [blkM, endM, hc16, codeB_all (show x.code.length ≤ i by omega)] using hoi
    rintro j H_j s_j hl_j ⟨hbj, hoj, hij⟩
    have hx_j := s_j.next; simp at hx_j
    have hz_j := s_j.nexts; try (conv at hz_j => rhs; simp only [AHeap.next_new, AHeap.next_set, next_ov, next_delV, AHeap.next_del, next_low])
    simp
    have hjl := hoj.id_lt hl_j
    have hcvj := hoj.cells; have hcwj := hoj.one
    refine awp_seq_k fun K19 hK19 => ?_
    refine awp_region (by decide) ?_   -- region 10
    refine aops_op rfl rfl rfl (by simp (disch := omega) [hbi, hc8, hbj, hcvj, hcwj]; rfl) ?_
    refine aops_store rfl rfl rfl (by simp (disch := omega) [hbi, hc8, hbj, hcvj, hcwj]; rfl) (by rfl) (by simp (disch := omega) [hbi, hc8, hbj, hcvj, hcwj]; rfl) (by simp (disch := omega) [hbi, hc8, hbj, hcvj, hcwj]; rfl) (by simp (disch := omega) [hbi, hc8, hbj, hcvj, hcwj]; rfl) (by simp (disch := omega) [hbi, hc8, hbj, hcvj, hcwj]; rfl) (by rfl) (by simp [hcwj] <;> omega) (by simp [setCells] <;> rfl) set_auto ?_
    refine aops_nil ?_
    refine hK19 _ _ ?_
    refine awp_seq_k fun K20 hK20 => ?_
    refine awp_region (by decide) ?_   -- region 11
    refine aops_op rfl rfl rfl (by simp (disch := omega) [hbi, hc8, hbj, hcvj, hcwj]; rfl) ?_
    refine aops_op rfl rfl rfl (by simp (disch := omega) [hbi, hc8, hbj, hcvj, hcwj]; rfl) ?_
    refine aops_op rfl rfl rfl (by simp (disch := omega) [hbi, hc8, hbj, hcvj, hcwj]; rfl) ?_
    refine aops_op rfl rfl rfl (by simp (disch := omega) [hbi, hc8, hbj, hcvj, hcwj]; rfl) ?_
    refine aops_store rfl rfl rfl (by simp (disch := omega) [hbi, hc8, hbj, hcvj, hcwj]; rfl) (by rfl) (by simp (disch := omega) [hbi, hc8, hbj, hcvj, hcwj]; rfl) (by simp (disch := omega) [hbi, hc8, hbj, hcvj, hcwj]; rfl) (by simp (disch := omega) [hbi, hc8, hbj, hcvj, hcwj]; rfl) (by simp (disch := omega) [hbi, hc8, hbj, hcvj, hcwj]; rfl) (by rfl) (by simp [hcwj] <;> omega) (by simp [setCells] <;> rfl) set_auto ?_
    refine aops_nil ?_
    refine hK20 _ _ ?_
    refine awp_lt fun hltE => ?_
    refine awp_ret ?_
    try simp only [thenA, blockA]
    refine fpost_retR hR' hlt_auto rfl (by simp (disch := omega) [hbi, hc8, hbj, hcvj, hcwj] <;> rfl) sub_auto ?_
    -- WAY 1
    refine ⟨j, by simp [resV], hoj.keep keep_auto, ?_⟩
    omega

end Go.Proofs.Yteklhgmoniaieaa.Fn
