import Derived.Test.YteklhgmoniaieaaAhTypes
import Derived.Test.YteklhgmoniaieaaAhFf
set_option linter.unusedVariables false
set_option maxRecDepth 20000
set_option maxHeartbeats 10000000
set_option linter.unusedSimpArgs false
namespace Go.Proofs.Yteklhgmoniaieaa.Fn
open Go.Proofs.YteklhgmoniaieaaAh Go.Proofs.Yteklhgmoniaieaa.Ty
-- "regcert/regcertlaw22.awake"  params [] results ['bool']
theorem law_awake  (H : AHeap) : ACalls Try.prog 5 #[] H fun v H' => Sub (H) H' ∧ v = .bool true := by
  refine acallsK (rs := [.tmp 0]) 65 Try.func5 rfl (by decide) rfl rfl (by simp) fun R' hR' hlt => ?_
  simp
  refine awp_seq_k fun K1 hK1 => ?_
  refine awp_region (by decide) ?_   -- region 0
  refine aops_op rfl rfl rfl (by simp (disch := omega) [xb22_t, xb22_moves]; rfl) ?_
  refine aops_nil ?_
  refine hK1 _ _ ?_
  refine awp_seq_k fun K2 hK2 => ?_
  refine awp_region (by decide) ?_   -- region 1
  refine aops_op rfl rfl rfl (by simp (disch := omega) [xb22_t, xb22_moves]; rfl) ?_
  refine aops_buildSlice rfl rfl rfl (by simp (disch := omega) [xb22_t, xb22_moves]; rfl) (by simp (disch := omega) [xb22_t, xb22_moves]; rfl) (by simp (disch := omega) [xb22_t, xb22_moves]; rfl) (by simp (disch := omega) [xb22_t, xb22_moves]; rfl) (by simp) (by simp (disch := omega) [xb22_t, xb22_moves, zrep, List.replicate]; rfl) (by simp <;> rfl) ?_
  intro b6 hb6; try simp only [AHeap.next_new, AHeap.next_set, next_ov, next_delV, AHeap.next_del, next_low] at hb6
  refine aops_op rfl rfl rfl (by simp (disch := omega) [xb22_t, xb22_moves]; rfl) ?_
  refine aops_op rfl rfl rfl (by simp (disch := omega) [xb22_t, xb22_moves]; rfl) ?_
  refine aops_alloc rfl rfl rfl (by simp (disch := omega) [xb22_t, xb22_moves]; rfl) (by simp (disch := omega) [xb22_t, xb22_moves]; rfl) ?_
  intro b1 hb1; try simp only [AHeap.next_new, AHeap.next_set, next_ov, next_delV, AHeap.next_del, next_low] at hb1
  refine aops_store rfl rfl rfl (by simp (disch := omega) [xb22_t, xb22_moves]; rfl) (by rfl) (by simp (disch := omega) [xb22_t, xb22_moves]; rfl) (by simp (disch := omega) [xb22_t, xb22_moves]; rfl) (by simp (disch := omega) [xb22_t, xb22_moves]; rfl) (by simp (disch := omega) [xb22_t, xb22_moves]; rfl) (by rfl) (by simp [] <;> omega) (by simp [setCells] <;> rfl) set_auto ?_
  refine aops_nil ?_
  refine hK2 _ _ ?_
  refine awp_seq_k fun K3 hK3 => ?_
  refine awp_region (by decide) ?_   -- region 2
  refine aops_op rfl rfl rfl (by simp (disch := omega) [xb22_t, xb22_moves]; rfl) ?_
  refine aops_callR (H1 := ?Q10n4) (R := ?R10n4) rfl rfl rfl rfl (by simp (disch := omega) [xb22_t, xb22_moves]; rfl) ?hk10n4 ?hh10n4
  case hk10n4 =>
    refine sp_Block xb22 _ 3 1 _ ?_ ?_ ?_ ?_
    · exact SliceR.own (enc := encIn) (c := [iv 5, iv 0, iv 1, iv 2, iv 0]) (el := 43) (m := 5) encIn_len [⟨5, 0, 1, 2, 0⟩] (by simp (disch := omega)) (by simp <;> omega) (by simp [encIn]) rfl (by simp) (by simp [maxLen])
    · exact xb22_ok
    · omega
    · simp [xb22]
  intro v10 H10 s10 hl10 hR10
  have hx10 := s10.next; simp at hx10
  have hz10 := s10.nexts; try (conv at hz10 => rhs; simp only [AHeap.next_new, AHeap.next_set, next_ov, next_delV, AHeap.next_del, next_low])
  obtain ⟨u10, rfl, ho10, hi10⟩ := hR10
  have hj10 := ho10.id_lt hl10
  try simp only [AHeap.next_new, AHeap.next_set, next_ov, next_delV, AHeap.next_del, next_low] at hi10
  have hcv10 := ho10.cells; have hcw10 := ho10.one
  rw [xb22_code] at ho10
  obtain ⟨a10, c10, ad10, rfl, hc110, hc210, had10, hblk10, hN10⟩ := (ho10.slice hl10 encM_len).openR
  obtain rfl := had10 (by simp)
  simp only [ownId_some, List.length_cons, List.length_nil] at *
  have hM0 := hN10 0 (by omega); have hM1 := hN10 1 (by omega); have hM2 := hN10 2 (by omega); have hM3 := hN10 3 (by omega)
  simp [nth, encM] at hM0 hM1 hM2 hM3
  have hblk10' := hblk10 (by omega)
  refine aops_alloc rfl rfl rfl (by simp (disch := omega) [xb22_t, xb22_moves, hM0, hM1, hM2, hM3]; rfl) (by simp (disch := omega) [xb22_t, xb22_moves, hM0, hM1, hM2, hM3]; rfl) ?_
  intro b2 hb2; try simp only [AHeap.next_new, AHeap.next_set, next_ov, next_delV, AHeap.next_del, next_low] at hb2
  refine aops_store rfl rfl rfl (by simp (disch := omega) [xb22_t, xb22_moves, hM0, hM1, hM2, hM3]; rfl) (by rfl) (by simp (disch := omega) [xb22_t, xb22_moves, hM0, hM1, hM2, hM3]; rfl) (by simp (disch := omega) [xb22_t, xb22_moves, hM0, hM1, hM2, hM3]; rfl) (by simp (disch := omega) [xb22_t, xb22_moves, hM0, hM1, hM2, hM3]; rfl) (by simp (disch := omega) [xb22_t, xb22_moves, hM0, hM1, hM2, hM3]; rfl) (by rfl) (by simp [] <;> omega) (by simp [setCells] <;> rfl) set_auto ?_
  refine aops_nil ?_
  refine hK3 _ _ ?_
  refine awp_seq_k fun K5 hK5 => ?_
  refine awp_region (by decide) ?_   -- region 3
  refine aops_op rfl rfl rfl (by simp (disch := omega) [xb22_t, xb22_moves, hM0, hM1, hM2, hM3]; rfl) ?_
  refine aops_callR (H1 := ?Q13n6) (R := ?R13n6) rfl rfl rfl rfl (by simp (disch := omega) [xb22_t, xb22_moves, hM0, hM1, hM2, hM3]; rfl) ?hk13n6 ?hh13n6
  case hk13n6 =>
    refine sp_Cert ⟨0, 0, []⟩ _ _ ?_ ?_
    · exact ⟨none, 0, rfl, by simp, by simp [maxLen], .inl rfl⟩
    · decide
  intro v13 H13 s13 hl13 hR13
  have hx13 := s13.next; simp at hx13
  have hz13 := s13.nexts; try (conv at hz13 => rhs; simp only [AHeap.next_new, AHeap.next_set, next_ov, next_delV, AHeap.next_del, next_low])
  rw [cert0] at hR13
  obtain ⟨s13, t13, w13, rfl, hs13, ht13, hw13⟩ := hR13
  have hcs13 := OwnN.cells hs13; have hct13 := OwnN.cells ht13; have hcv13 := OwnN.cells hw13; have hcws13 := OwnN.one hs13; have hcwt13 := OwnN.one ht13; have hcww13 := OwnN.one hw13
  refine aops_op rfl rfl rfl (by simp (disch := omega) [xb22_t, xb22_moves, hM0, hM1, hM2, hM3, hcs13, hct13, hcv13, hcws13, hcwt13, hcww13]; rfl) ?_
  refine aops_op rfl rfl rfl (by simp (disch := omega) [xb22_t, xb22_moves, hM0, hM1, hM2, hM3, hcs13, hct13, hcv13, hcws13, hcwt13, hcww13]; rfl) ?_
  refine aops_op rfl rfl rfl (by simp (disch := omega) [xb22_t, xb22_moves, hM0, hM1, hM2, hM3, hcs13, hct13, hcv13, hcws13, hcwt13, hcww13]; rfl) ?_
  refine aops_alloc rfl rfl rfl (by simp (disch := omega) [xb22_t, xb22_moves, hM0, hM1, hM2, hM3, hcs13, hct13, hcv13, hcws13, hcwt13, hcww13]; rfl) (by simp (disch := omega) [xb22_t, xb22_moves, hM0, hM1, hM2, hM3, hcs13, hct13, hcv13, hcws13, hcwt13, hcww13]; rfl) ?_
  intro b3 hb3; try simp only [AHeap.next_new, AHeap.next_set, next_ov, next_delV, AHeap.next_del, next_low] at hb3
  refine aops_store rfl rfl rfl (by simp (disch := omega) [xb22_t, xb22_moves, hM0, hM1, hM2, hM3, hcs13, hct13, hcv13, hcws13, hcwt13, hcww13]; rfl) (by rfl) (by simp (disch := omega) [xb22_t, xb22_moves, hM0, hM1, hM2, hM3, hcs13, hct13, hcv13, hcws13, hcwt13, hcww13]; rfl) (by simp (disch := omega) [xb22_t, xb22_moves, hM0, hM1, hM2, hM3, hcs13, hct13, hcv13, hcws13, hcwt13, hcww13]; rfl) (by simp (disch := omega) [xb22_t, xb22_moves, hM0, hM1, hM2, hM3, hcs13, hct13, hcv13, hcws13, hcwt13, hcww13]; rfl) (by simp (disch := omega) [xb22_t, xb22_moves, hM0, hM1, hM2, hM3, hcs13, hct13, hcv13, hcws13, hcwt13, hcww13]; rfl) (by rfl) (by simp [hcws13, hcwt13, hcww13] <;> omega) (by simp [setCells] <;> rfl) set_auto ?_
  refine aops_op rfl rfl rfl (by simp (disch := omega) [xb22_t, xb22_moves, hM0, hM1, hM2, hM3, hcs13, hct13, hcv13, hcws13, hcwt13, hcww13]; rfl) ?_
  refine aops_nil ?_
  refine hK5 _ _ ?_
  refine awp_seq_k fun K7 hK7 => ?_
  refine awp_seq_k fun K8 hK8 => ?_
  refine awp_region (by decide) ?_   -- region 4
  refine aops_op rfl rfl rfl (by simp (disch := omega) [xb22_t, xb22_moves, hM0, hM1, hM2, hM3, hcs13, hct13, hcv13, hcws13, hcwt13, hcww13]; rfl) ?_
  refine aops_op rfl rfl rfl (by simp (disch := omega) [xb22_t, xb22_moves, hM0, hM1, hM2, hM3, hcs13, hct13, hcv13, hcws13, hcwt13, hcww13]; rfl) ?_
  refine aops_op rfl rfl rfl (by simp (disch := omega) [xb22_t, xb22_moves, hM0, hM1, hM2, hM3, hcs13, hct13, hcv13, hcws13, hcwt13, hcww13]; rfl) ?_
  refine aops_op rfl rfl rfl (by simp (disch := omega) [xb22_t, xb22_moves, hM0, hM1, hM2, hM3, hcs13, hct13, hcv13, hcws13, hcwt13, hcww13]; rfl) ?_
  refine aops_nil ?_
  refine hK8 _ _ ?_
  refine awp_cond_f (by simp (disch := omega) [xb22_t, xb22_moves, hM0, hM1, hM2, hM3, hcs13, hct13, hcv13, hcws13, hcwt13, hcww13]) ?_
  refine awp_skip ?_
  simp
  refine hK7 _ _ ?_
  refine awp_seq_k fun K9 hK9 => ?_
  refine awp_region (by decide) ?_   -- region 6
  refine aops_op rfl rfl rfl (by simp (disch := omega) [xb22_t, xb22_moves, hM0, hM1, hM2, hM3, hcs13, hct13, hcv13, hcws13, hcwt13, hcww13]; rfl) ?_
  refine aops_op rfl rfl rfl (by simp (disch := omega) [xb22_t, xb22_moves, hM0, hM1, hM2, hM3, hcs13, hct13, hcv13, hcws13, hcwt13, hcww13]; rfl) ?_
  refine aops_op rfl rfl rfl (by simp (disch := omega) [xb22_t, xb22_moves, hM0, hM1, hM2, hM3, hcs13, hct13, hcv13, hcws13, hcwt13, hcww13]; rfl) ?_
  refine aops_op rfl rfl rfl (by simp (disch := omega) [xb22_t, xb22_moves, hM0, hM1, hM2, hM3, hcs13, hct13, hcv13, hcws13, hcwt13, hcww13]; rfl) ?_
  refine aops_op rfl rfl rfl (by simp (disch := omega) [xb22_t, xb22_moves, hM0, hM1, hM2, hM3, hcs13, hct13, hcv13, hcws13, hcwt13, hcww13]; rfl) ?_
  refine aops_op rfl rfl rfl (by simp (disch := omega) [xb22_t, xb22_moves, hM0, hM1, hM2, hM3, hcs13, hct13, hcv13, hcws13, hcwt13, hcww13]; rfl) ?_
  refine aops_op rfl rfl rfl (by simp (disch := omega) [xb22_t, xb22_moves, hM0, hM1, hM2, hM3, hcs13, hct13, hcv13, hcws13, hcwt13, hcww13]; rfl) ?_
  refine aops_gd (b := _) (v := _) rfl rfl rfl (fun hb => by (try simp at hb); simp (disch := omega) [hb, xb22_t, xb22_moves, hM0, hM1, hM2, hM3, hcs13, hct13, hcv13, hcws13, hcwt13, hcww13]; rfl) ?_
  refine aops_gd (b := _) (v := _) rfl rfl rfl (fun hb => by (try simp at hb); simp (disch := omega) [hb, xb22_t, xb22_moves, hM0, hM1, hM2, hM3, hcs13, hct13, hcv13, hcws13, hcwt13, hcww13]; rfl) ?_
  refine aops_gd (b := _) (v := _) rfl rfl rfl (fun hb => by (try simp at hb); simp (disch := omega) [hb, xb22_t, xb22_moves, hM0, hM1, hM2, hM3, hcs13, hct13, hcv13, hcws13, hcwt13, hcww13]; rfl) ?_
  refine aops_gd (b := _) (v := _) rfl rfl rfl (fun hb => by (try simp at hb); simp (disch := omega) [hb, xb22_t, xb22_moves, hM0, hM1, hM2, hM3, hcs13, hct13, hcv13, hcws13, hcwt13, hcww13]; rfl) ?_
  refine aops_gd (b := _) (v := _) rfl rfl rfl (fun hb => by (try simp at hb); simp (disch := omega) [hb, xb22_t, xb22_moves, hM0, hM1, hM2, hM3, hcs13, hct13, hcv13, hcws13, hcwt13, hcww13]; rfl) ?_
  refine aops_gd (b := _) (v := _) rfl rfl rfl (fun hb => by (try simp at hb); simp (disch := omega) [hb, xb22_t, xb22_moves, hM0, hM1, hM2, hM3, hcs13, hct13, hcv13, hcws13, hcwt13, hcww13]; rfl) ?_
  refine aops_op rfl rfl rfl (by simp (disch := omega) [xb22_t, xb22_moves, hM0, hM1, hM2, hM3, hcs13, hct13, hcv13, hcws13, hcwt13, hcww13]; rfl) ?_
  refine aops_op rfl rfl rfl (by simp (disch := omega) [xb22_t, xb22_moves, hM0, hM1, hM2, hM3, hcs13, hct13, hcv13, hcws13, hcwt13, hcww13]; rfl) ?_
  refine aops_gd (b := _) (v := _) rfl rfl rfl (fun hb => by (try simp at hb); simp (disch := omega) [hb, xb22_t, xb22_moves, hM0, hM1, hM2, hM3, hcs13, hct13, hcv13, hcws13, hcwt13, hcww13]; rfl) ?_
  refine aops_gd (b := _) (v := _) rfl rfl rfl (fun hb => by (try simp at hb); simp (disch := omega) [hb, xb22_t, xb22_moves, hM0, hM1, hM2, hM3, hcs13, hct13, hcv13, hcws13, hcwt13, hcww13]; rfl) ?_
  refine aops_gd (b := _) (v := _) rfl rfl rfl (fun hb => by (try simp at hb); simp (disch := omega) [hb, xb22_t, xb22_moves, hM0, hM1, hM2, hM3, hcs13, hct13, hcv13, hcws13, hcwt13, hcww13]; rfl) ?_
  refine aops_gd (b := _) (v := _) rfl rfl rfl (fun hb => by (try simp at hb); simp (disch := omega) [hb, xb22_t, xb22_moves, hM0, hM1, hM2, hM3, hcs13, hct13, hcv13, hcws13, hcwt13, hcww13]; rfl) ?_
  refine aops_gd (b := _) (v := _) rfl rfl rfl (fun hb => by (try simp at hb); simp (disch := omega) [hb, xb22_t, xb22_moves, hM0, hM1, hM2, hM3, hcs13, hct13, hcv13, hcws13, hcwt13, hcww13]; rfl) ?_
  refine aops_gd (b := _) (v := _) rfl rfl rfl (fun hb => by (try simp at hb); simp (disch := omega) [hb, xb22_t, xb22_moves, hM0, hM1, hM2, hM3, hcs13, hct13, hcv13, hcws13, hcwt13, hcww13]; rfl) ?_
  refine aops_op rfl rfl rfl (by simp (disch := omega) [xb22_t, xb22_moves, hM0, hM1, hM2, hM3, hcs13, hct13, hcv13, hcws13, hcwt13, hcww13]; rfl) ?_
  refine aops_op rfl rfl rfl (by simp (disch := omega) [xb22_t, xb22_moves, hM0, hM1, hM2, hM3, hcs13, hct13, hcv13, hcws13, hcwt13, hcww13]; rfl) ?_
  refine aops_gd (b := _) (v := _) rfl rfl rfl (fun hb => by (try simp at hb); simp (disch := omega) [hb, xb22_t, xb22_moves, hM0, hM1, hM2, hM3, hcs13, hct13, hcv13, hcws13, hcwt13, hcww13]; rfl) ?_
  refine aops_gd (b := _) (v := _) rfl rfl rfl (fun hb => by (try simp at hb); simp (disch := omega) [hb, xb22_t, xb22_moves, hM0, hM1, hM2, hM3, hcs13, hct13, hcv13, hcws13, hcwt13, hcww13]; rfl) ?_
  refine aops_gd (b := _) (v := _) rfl rfl rfl (fun hb => by (try simp at hb); simp (disch := omega) [hb, xb22_t, xb22_moves, hM0, hM1, hM2, hM3, hcs13, hct13, hcv13, hcws13, hcwt13, hcww13]; rfl) ?_
  refine aops_gd (b := _) (v := _) rfl rfl rfl (fun hb => by (try simp at hb); simp (disch := omega) [hb, xb22_t, xb22_moves, hM0, hM1, hM2, hM3, hcs13, hct13, hcv13, hcws13, hcwt13, hcww13]; rfl) ?_
  refine aops_gd (b := _) (v := _) rfl rfl rfl (fun hb => by (try simp at hb); simp (disch := omega) [hb, xb22_t, xb22_moves, hM0, hM1, hM2, hM3, hcs13, hct13, hcv13, hcws13, hcwt13, hcww13]; rfl) ?_
  refine aops_gd (b := _) (v := _) rfl rfl rfl (fun hb => by (try simp at hb); simp (disch := omega) [hb, xb22_t, xb22_moves, hM0, hM1, hM2, hM3, hcs13, hct13, hcv13, hcws13, hcwt13, hcww13]; rfl) ?_
  refine aops_op rfl rfl rfl (by simp (disch := omega) [xb22_t, xb22_moves, hM0, hM1, hM2, hM3, hcs13, hct13, hcv13, hcws13, hcwt13, hcww13]; rfl) ?_
  refine aops_op rfl rfl rfl (by simp (disch := omega) [xb22_t, xb22_moves, hM0, hM1, hM2, hM3, hcs13, hct13, hcv13, hcws13, hcwt13, hcww13]; rfl) ?_
  refine aops_gd (b := _) (v := _) rfl rfl rfl (fun hb => by (try simp at hb); simp (disch := omega) [hb, xb22_t, xb22_moves, hM0, hM1, hM2, hM3, hcs13, hct13, hcv13, hcws13, hcwt13, hcww13]; rfl) ?_
  refine aops_gd (b := _) (v := _) rfl rfl rfl (fun hb => by (try simp at hb); simp (disch := omega) [hb, xb22_t, xb22_moves, hM0, hM1, hM2, hM3, hcs13, hct13, hcv13, hcws13, hcwt13, hcww13]; rfl) ?_
  refine aops_gd (b := _) (v := _) rfl rfl rfl (fun hb => by (try simp at hb); simp (disch := omega) [hb, xb22_t, xb22_moves, hM0, hM1, hM2, hM3, hcs13, hct13, hcv13, hcws13, hcwt13, hcww13]; rfl) ?_
  refine aops_gd (b := _) (v := _) rfl rfl rfl (fun hb => by (try simp at hb); simp (disch := omega) [hb, xb22_t, xb22_moves, hM0, hM1, hM2, hM3, hcs13, hct13, hcv13, hcws13, hcwt13, hcww13]; rfl) ?_
  refine aops_op rfl rfl rfl (by simp (disch := omega) [xb22_t, xb22_moves, hM0, hM1, hM2, hM3, hcs13, hct13, hcv13, hcws13, hcwt13, hcww13]; rfl) ?_
  refine aops_op rfl rfl rfl (by simp (disch := omega) [xb22_t, xb22_moves, hM0, hM1, hM2, hM3, hcs13, hct13, hcv13, hcws13, hcwt13, hcww13]; rfl) ?_
  refine aops_gd (b := _) (v := _) rfl rfl rfl (fun hb => by (try simp at hb); simp (disch := omega) [hb, xb22_t, xb22_moves, hM0, hM1, hM2, hM3, hcs13, hct13, hcv13, hcws13, hcwt13, hcww13]; rfl) ?_
  refine aops_gd (b := _) (v := _) rfl rfl rfl (fun hb => by (try simp at hb); simp (disch := omega) [hb, xb22_t, xb22_moves, hM0, hM1, hM2, hM3, hcs13, hct13, hcv13, hcws13, hcwt13, hcww13]; rfl) ?_
  refine aops_op rfl rfl rfl (by simp (disch := omega) [xb22_t, xb22_moves, hM0, hM1, hM2, hM3, hcs13, hct13, hcv13, hcws13, hcwt13, hcww13]; rfl) ?_
  refine aops_op rfl rfl rfl (by simp (disch := omega) [xb22_t, xb22_moves, hM0, hM1, hM2, hM3, hcs13, hct13, hcv13, hcws13, hcwt13, hcww13]; rfl) ?_
  refine aops_gd (b := _) (v := _) rfl rfl rfl (fun hb => by (try simp at hb); simp (disch := omega) [hb, xb22_t, xb22_moves, hM0, hM1, hM2, hM3, hcs13, hct13, hcv13, hcws13, hcwt13, hcww13]; rfl) ?_
  refine aops_callRw (H1 := ?Q62n10) (R := ?R62n10) (by simp (disch := omega) [xb22_t, xb22_moves, hM0, hM1, hM2, hM3, hcs13, hct13, hcv13, hcws13, hcwt13, hcww13]) rfl rfl rfl (by simp (disch := omega) [xb22_t, xb22_moves, hM0, hM1, hM2, hM3, hcs13, hct13, hcv13, hcws13, hcwt13, hcww13]; rfl) ?hk62n10 ?hh62n10
  case hk62n10 =>
    refine sp_Moves xb22 _ 3 1 _ ?_ ?_ ?_ ?_
    · exact SliceR.sub encIn_ok (show Sub (H.new b6 (.cells [iv 5, iv 0, iv 1, iv 2, iv 0] 43 5)) _ from sub_auto) (SliceR.own (enc := encIn) (c := [iv 5, iv 0, iv 1, iv 2, iv 0]) (el := 43) (m := 5) encIn_len [⟨5, 0, 1, 2, 0⟩] (AHeap.at_new_self _ _ _) (by simp <;> omega) (by simp [encIn]) rfl (by simp) (by simp [maxLen]))
    · exact xb22_ok
    · omega
    · simp [xb22]
  intro v62 H62 s62 hl62 hR62
  have hx62 := s62.next; simp at hx62
  have hz62 := s62.nexts; try (conv at hz62 => rhs; simp only [AHeap.next_new, AHeap.next_set, next_ov, next_delV, AHeap.next_del, next_low])
  obtain rfl := hR62
  refine aops_gd (b := _) (v := _) rfl rfl rfl (fun hb => by (try simp at hb); simp (disch := omega) [hb, xb22_t, xb22_moves, hM0, hM1, hM2, hM3, hcs13, hct13, hcv13, hcws13, hcwt13, hcww13]; rfl) ?_
  refine aops_op rfl rfl rfl (by simp (disch := omega) [xb22_t, xb22_moves, hM0, hM1, hM2, hM3, hcs13, hct13, hcv13, hcws13, hcwt13, hcww13]; rfl) ?_
  refine aops_op rfl rfl rfl (by simp (disch := omega) [xb22_t, xb22_moves, hM0, hM1, hM2, hM3, hcs13, hct13, hcv13, hcws13, hcwt13, hcww13]; rfl) ?_
  refine aops_nil ?_
  refine hK9 _ _ ?_
  refine awp_lt fun hltE => ?_
  refine awp_ret ?_
  try simp only [thenA, blockA]
  refine fpost_retR hR' hlt_auto rfl (by simp (disch := omega) [xb22_t, xb22_moves, hM0, hM1, hM2, hM3, hcs13, hct13, hcv13, hcws13, hcwt13, hcww13] <;> rfl) sub_auto ?_
  -- WAY 
  simp [resV, xb22_moves]

end Go.Proofs.Yteklhgmoniaieaa.Fn
