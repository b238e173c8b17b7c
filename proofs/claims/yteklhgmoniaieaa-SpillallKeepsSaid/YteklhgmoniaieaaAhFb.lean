import Derived.Test.YteklhgmoniaieaaAhTypes
import Derived.Test.YteklhgmoniaieaaAhFa
set_option linter.unusedVariables false
set_option maxRecDepth 20000
set_option maxHeartbeats 10000000
set_option linter.unusedSimpArgs false
namespace Go.Proofs.Yteklhgmoniaieaa.Fn
open Go.Proofs.YteklhgmoniaieaaAh Go.Proofs.Yteklhgmoniaieaa.Ty
-- "regcert/regcertref16.Same"  params ['api.Cert', 'api.Cert'] results ['bool']
theorem ref16_Same (c d : LCert) (u v w u' v' w' : Value) (H : AHeap) (h1 : SliceR H rB 5 u c.s.blocks) (h2 : SliceR H rMB 5 v c.t.blocks) (h3 : SliceR H (rS (flat encP) 2) 1 w c.w) (k1 : SliceR H rB 5 u' d.s.blocks) (k2 : SliceR H rMB 5 v' d.t.blocks) (k3 : SliceR H (rS (flat encP) 2) 1 w' d.w) : ACalls Try.prog 11 #[.agg #[iv c.s.args, iv c.s.regs, u, iv c.t.args, iv c.t.regs, iv c.t.slots, v, w], .agg #[iv d.s.args, iv d.s.regs, u', iv d.t.args, iv d.t.regs, iv d.t.slots, v', w']] H fun v H' => v = .bool (decide (c = d)) ∧ H' = H := by
  have o1 := rS_ok encP_ok
  refine acallsN (rs := [.tmp 4]) 24 Try.func11 rfl (by decide) rfl rfl (by simp) fun hlt => ?_
  simp
  refine awp_seq_k fun K1 hK1 => ?_
  refine awp_region (by decide) ?_   -- region 0
  refine aops_box rfl rfl rfl (by simp (disch := omega) []; rfl) (by simp (disch := omega) []; rfl) (by simp (disch := omega) []; rfl) ?_
  intro b2 hb2; try simp only [AHeap.next_new, AHeap.next_set, next_ov, next_delV, AHeap.next_del, next_low] at hb2
  refine aops_box rfl rfl rfl (by simp (disch := omega) []; rfl) (by simp (disch := omega) []; rfl) (by simp (disch := omega) []; rfl) ?_
  intro b3 hb3; try simp only [AHeap.next_new, AHeap.next_set, next_ov, next_delV, AHeap.next_del, next_low] at hb3
  refine aops_op rfl rfl rfl (by simp (disch := omega) []; rfl) ?_
  refine aops_nil ?_
  refine hK1 _ _ ?_
  refine awp_seq_k fun K2 hK2 => ?_
  refine awp_region (by decide) ?_   -- region 1
  refine aops_op rfl rfl rfl (by simp (disch := omega) []; rfl) ?_
  refine aops_op rfl rfl rfl (by simp (disch := omega) []; rfl) ?_
  refine aops_op rfl rfl rfl (by simp (disch := omega) []; rfl) ?_
  refine aops_op rfl rfl rfl (by simp (disch := omega) []; rfl) ?_
  refine aops_callP (u := ?pu3) rfl rfl rfl rfl (by simp (disch := omega) []; rfl) ?pk3 ?ph3
  case pk3 =>
    refine ref07_Same c.s d.s u u' _ ?_ ?_
    · exact h1.sub rB_ok sub_auto
    · exact k1.sub rB_ok sub_auto
  refine aops_op rfl rfl rfl (by simp (disch := omega) []; rfl) ?_
  refine aops_gen fun g10 hg10 => ?_
  refine aops_gd (b := _) (v := _) rfl rfl rfl (fun hb => by have hb' := hb; (try simp [hg10] at hb'); (try simp at hb); simp (disch := omega) [hb, hb']; rfl) ?_
  refine aops_gd (b := _) (v := _) rfl rfl rfl (fun hb => by have hb' := hb; (try simp [hg10] at hb'); (try simp at hb); simp (disch := omega) [hb, hb']; rfl) ?_
  refine aops_gd (b := _) (v := _) rfl rfl rfl (fun hb => by have hb' := hb; (try simp [hg10] at hb'); (try simp at hb); simp (disch := omega) [hb, hb']; rfl) ?_
  refine aops_gd (b := _) (v := _) rfl rfl rfl (fun hb => by have hb' := hb; (try simp [hg10] at hb'); (try simp at hb); simp (disch := omega) [hb, hb']; rfl) ?_
  refine aops_gdcall (b := _) (u := ?pu4) rfl rfl rfl rfl ?pk4 ?ph4
  case pk4 =>
    intro hb; have hb' := hb; (try simp [hg10] at hb'); try simp at hb
    refine ⟨_, by simp (disch := omega) [hb]; rfl, ?_⟩
    refine ref08_Same c.t d.t v v' _ ?_ ?_
    · exact h2.sub rMB_ok sub_auto
    · exact k2.sub rMB_ok sub_auto
  refine aops_op rfl rfl rfl (by simp (disch := omega) []; rfl) ?_
  refine aops_op rfl rfl rfl (by simp (disch := omega) []; rfl) ?_
  refine aops_gen fun g17 hg17 => ?_
  refine aops_gd (b := _) (v := _) rfl rfl rfl (fun hb => by have hb' := hb; (try simp [hg10, hg17] at hb'); (try simp at hb); simp (disch := omega) [hb, hb']; rfl) ?_
  refine aops_gd (b := _) (v := _) rfl rfl rfl (fun hb => by have hb' := hb; (try simp [hg10, hg17] at hb'); (try simp at hb); simp (disch := omega) [hb, hb']; rfl) ?_
  refine aops_gd (b := _) (v := _) rfl rfl rfl (fun hb => by have hb' := hb; (try simp [hg10, hg17] at hb'); (try simp at hb); simp (disch := omega) [hb, hb']; rfl) ?_
  refine aops_gd (b := _) (v := _) rfl rfl rfl (fun hb => by have hb' := hb; (try simp [hg10, hg17] at hb'); (try simp at hb); simp (disch := omega) [hb, hb']; rfl) ?_
  refine aops_gdcall (b := _) (u := ?pu5) rfl rfl rfl rfl ?pk5 ?ph5
  case pk5 =>
    intro hb; have hb' := hb; (try simp [hg10, hg17] at hb'); try simp at hb
    refine ⟨_, by simp (disch := omega) [hb]; rfl, ?_⟩
    refine ref15_Same c.w d.w w w' _ ?_ ?_
    · exact h3.sub o1 sub_auto
    · exact k3.sub o1 sub_auto
  refine aops_op rfl rfl rfl (by simp (disch := omega) []; rfl) ?_
  refine aops_op rfl rfl rfl (by simp (disch := omega) []; rfl) ?_
  refine aops_nil ?_
  refine hK2 _ _ ?_
  refine awp_lt fun hltE => ?_
  refine awp_ret ?_
  try simp only [thenA, blockA]
  refine fpost_ret (H0 := H) rfl (by simp (disch := omega) [] <;> rfl) sub_auto ?_
  refine ⟨?_, rfl⟩
  clear hK1 hK2
  subst_vars
  simp [resV, LCert.eq_iff]
  try grind

-- "regcert/regcertref07.Check"  params ['api.Func'] results ['int']
theorem ref07_Check (f : LFunc) (v : Value) (H : AHeap) (hf : SliceR H rB 5 v f.blocks) (hn : codeN f.blocks ≤ 1000000000) : ACalls Try.prog 22 #[.agg #[iv f.args, iv f.regs, v]] H fun v H' => v = iv (checkF f) ∧ H' = H := by
  obtain ⟨a, c, rfl, hc1, hc2, hrow⟩ := hf.open
  refine acallsN (rs := [.tmp 2]) 75 Try.func22 rfl (by decide) rfl rfl (by simp) fun hlt => ?_
  simp
  refine awp_seq_k fun K1 hK1 => ?_
  refine awp_region (by decide) ?_   -- region 0
  refine aops_box rfl rfl rfl (by simp (disch := omega) []; rfl) (by simp (disch := omega) []; rfl) (by simp (disch := omega) []; rfl) ?_
  intro b1 hb1; try simp only [AHeap.next_new, AHeap.next_set, next_ov, next_delV, AHeap.next_del, next_low] at hb1
  refine aops_op rfl rfl rfl (by simp (disch := omega) []; rfl) ?_
  refine aops_nil ?_
  refine hK1 _ _ ?_
  refine awp_seq_k fun K2 hK2 => ?_
  refine awp_seq_k fun K3 hK3 => ?_
  refine awp_region (by decide) ?_   -- region 1
  refine aops_op rfl rfl rfl (by simp (disch := omega) []; rfl) ?_
  refine aops_op rfl rfl rfl (by simp (disch := omega) []; rfl) ?_
  refine aops_op rfl rfl rfl (by simp (disch := omega) []; rfl) ?_
  refine aops_op rfl rfl rfl (by simp (disch := omega) []; rfl) ?_
  refine aops_gen fun g11 hg11 => ?_
  refine aops_gd (b := _) (v := _) rfl rfl rfl (fun hb => by have hb' := hb; (try simp [hg11] at hb'); (try simp at hb); simp (disch := omega) [hb, hb']; rfl) ?_
  refine aops_gd (b := _) (v := _) rfl rfl rfl (fun hb => by have hb' := hb; (try simp [hg11] at hb'); (try simp at hb); simp (disch := omega) [hb, hb']; rfl) ?_
  refine aops_gd (b := _) (v := _) rfl rfl rfl (fun hb => by have hb' := hb; (try simp [hg11] at hb'); (try simp at hb); simp (disch := omega) [hb, hb']; rfl) ?_
  refine aops_gd (b := _) (v := _) rfl rfl rfl (fun hb => by have hb' := hb; (try simp [hg11] at hb'); (try simp at hb); simp (disch := omega) [hb, hb']; rfl) ?_
  refine aops_gd (b := _) (v := _) rfl rfl rfl (fun hb => by have hb' := hb; (try simp [hg11] at hb'); (try simp at hb); simp (disch := omega) [hb, hb']; rfl) ?_
  refine aops_op rfl rfl rfl (by simp (disch := omega) []; rfl) ?_
  refine aops_nil ?_
  refine hK3 _ _ ?_
  refine awp_cond rfl (fun hc4 => ?_) fun hc4 => ?_
  · simp at hc4
    refine awp_seq_k fun K5 hK5 => ?_
    refine awp_region (by decide) ?_   -- region 2
    refine aops_op rfl rfl rfl (by simp (disch := omega) [hc4]; rfl) ?_
    refine aops_nil ?_
    refine hK5 _ _ ?_
    refine awp_lt fun hltE => ?_
    refine awp_ret ?_
    try simp only [thenA, blockA]
    refine fpost_ret (H0 := H) rfl (by simp (disch := omega) [hc4] <;> rfl) sub_auto ?_
    refine ⟨?_, rfl⟩
    clear hK1 hK2 hK3 hK5
    subst_vars
    simp [resV]
    first | exact (check_instr (by grind [preE]) hx hinvI.2 hp hinvJ.2 (by unfold insE; assumption)).symm | grind [checkF, preE, check_term, check_end, termE]
  · simp at hc4
    refine awp_skip ?_
    simp
    refine hK2 _ _ ?_
    refine awp_seq_k fun K6 hK6 => ?_
    refine awp_seq_k fun K7 hK7 => ?_
    refine awp_region (by decide) ?_   -- region 3
    refine aops_op rfl rfl rfl (by simp (disch := omega) [hc4]; rfl) ?_
    refine aops_op rfl rfl rfl (by simp (disch := omega) [hc4]; rfl) ?_
    refine aops_op rfl rfl rfl (by simp (disch := omega) [hc4]; rfl) ?_
    refine aops_nil ?_
    refine hK7 _ _ ?_
    refine awp_cond rfl (fun hc8 => ?_) fun hc8 => ?_
    · simp at hc8
      refine awp_seq_k fun K9 hK9 => ?_
      refine awp_region (by decide) ?_   -- region 4
      refine aops_op rfl rfl rfl (by simp (disch := omega) [hc4, hc8]; rfl) ?_
      refine aops_nil ?_
      refine hK9 _ _ ?_
      refine awp_lt fun hltE => ?_
      refine awp_ret ?_
      try simp only [thenA, blockA]
      refine fpost_ret (H0 := H) rfl (by simp (disch := omega) [hc4, hc8] <;> rfl) sub_auto ?_
      refine ⟨?_, rfl⟩
      clear hK1 hK2 hK3 hK6 hK7 hK9
      subst_vars
      simp [resV]
      first | exact (check_instr (by grind [preE]) hx hinvI.2 hp hinvJ.2 (by unfold insE; assumption)).symm | grind [checkF, preE, check_term, check_end, termE]
    · simp at hc8
      refine awp_skip ?_
      simp
      refine hK6 _ _ ?_
      refine awp_seq_k fun K10 hK10 => ?_
      refine awp_seq_k fun K11 hK11 => ?_
      refine awp_region (by decide) ?_   -- region 5
      refine aops_op rfl rfl rfl (by simp (disch := omega) [hc4, hc8]; rfl) ?_
      refine aops_op rfl rfl rfl (by simp (disch := omega) [hc4, hc8]; rfl) ?_
      refine aops_op rfl rfl rfl (by simp (disch := omega) [hc4, hc8]; rfl) ?_
      refine aops_op rfl rfl rfl (by simp (disch := omega) [hc4, hc8]; rfl) ?_
      refine aops_nil ?_
      refine hK11 _ _ ?_
      refine awp_cond rfl (fun hc12 => ?_) fun hc12 => ?_
      · simp at hc12
        refine awp_seq_k fun K13 hK13 => ?_
        refine awp_region (by decide) ?_   -- region 6
        refine aops_op rfl rfl rfl (by simp (disch := omega) [hc4, hc8, hc12]; rfl) ?_
        refine aops_nil ?_
        refine hK13 _ _ ?_
        refine awp_lt fun hltE => ?_
        refine awp_ret ?_
        try simp only [thenA, blockA]
        refine fpost_ret (H0 := H) rfl (by simp (disch := omega) [hc4, hc8, hc12] <;> rfl) sub_auto ?_
        refine ⟨?_, rfl⟩
        clear hK1 hK2 hK3 hK6 hK7 hK10 hK11 hK13
        subst_vars
        simp [resV]
        first | exact (check_instr (by grind [preE]) hx hinvI.2 hp hinvJ.2 (by unfold insE; assumption)).symm | grind [checkF, preE, check_term, check_end, termE]
      · simp at hc12
        refine awp_skip ?_
        simp
        refine hK10 _ _ ?_
        refine awp_seq_k fun K14 hK14 => ?_
        refine awp_seq_k fun K15 hK15 => ?_
        refine awp_region (by decide) ?_   -- region 7
        refine aops_op rfl rfl rfl (by simp (disch := omega) [hc4, hc8, hc12]; rfl) ?_
        refine aops_op rfl rfl rfl (by simp (disch := omega) [hc4, hc8, hc12]; rfl) ?_
        refine aops_op rfl rfl rfl (by simp (disch := omega) [hc4, hc8, hc12]; rfl) ?_
        refine aops_op rfl rfl rfl (by simp (disch := omega) [hc4, hc8, hc12]; rfl) ?_
        refine aops_op rfl rfl rfl (by simp (disch := omega) [hc4, hc8, hc12]; rfl) ?_
        refine aops_gen fun g29 hg29 => ?_
        refine aops_gd (b := _) (v := _) rfl rfl rfl (fun hb => by have hb' := hb; (try simp [hg29] at hb'); (try simp at hb); simp (disch := omega) [hb, hb', hc4, hc8, hc12]; rfl) ?_
        refine aops_gdcall (b := _) (u := ?pu16) rfl rfl rfl rfl ?pk16 ?ph16
        case pk16 =>
          intro hb; have hb' := hb; (try simp [hg29] at hb'); try simp at hb
          refine ⟨_, by simp (disch := omega) [hb, hc4, hc8, hc12]; rfl, ?_⟩
          refine ref07_Code f _ _ ?_ hn
          · exact hf.sub rB_ok sub_auto
        refine aops_gd (b := _) (v := _) rfl rfl rfl (fun hb => by have hb' := hb; (try simp [hg29] at hb'); (try simp at hb); simp (disch := omega) [hb, hb', hc4, hc8, hc12]; rfl) ?_
        refine aops_op rfl rfl rfl (by simp (disch := omega) [hc4, hc8, hc12]; rfl) ?_
        refine aops_nil ?_
        refine hK15 _ _ ?_
        refine awp_cond rfl (fun hc17 => ?_) fun hc17 => ?_
        · simp at hc17
          refine awp_seq_k fun K18 hK18 => ?_
          refine awp_region (by decide) ?_   -- region 8
          refine aops_op rfl rfl rfl (by simp (disch := omega) [hc4, hc8, hc12, hc17]; rfl) ?_
          refine aops_nil ?_
          refine hK18 _ _ ?_
          refine awp_lt fun hltE => ?_
          refine awp_ret ?_
          try simp only [thenA, blockA]
          refine fpost_ret (H0 := H) rfl (by simp (disch := omega) [hc4, hc8, hc12, hc17] <;> rfl) sub_auto ?_
          refine ⟨?_, rfl⟩
          clear hK1 hK2 hK3 hK6 hK7 hK10 hK11 hK14 hK15 hK18
          subst_vars
          simp [resV]
          first | exact (check_instr (by grind [preE]) hx hinvI.2 hp hinvJ.2 (by unfold insE; assumption)).symm | grind [checkF, preE, check_term, check_end, termE]
        · simp at hc17
          refine awp_skip ?_
          simp
          refine hK14 _ _ ?_
          refine awp_seq_k fun K19 hK19 => ?_
          refine awp_seq_k fun K20 hK20 => ?_
          refine awp_region (by decide) ?_   -- region 9
          refine aops_op rfl rfl rfl (by simp (disch := omega) [hc4, hc8, hc12, hc17]; rfl) ?_
          refine aops_nil ?_
          refine hK20 _ _ ?_
          refine awp_block ?_   -- block 0
          refine awp_lt fun hlt21 => ?_
          refine awp_loop3 [2, 3, 4, 5, 6, 7, 34, 35, 36, 37, 38, 39, 40, 41, 42, 43, 44, 45, 46, 47, 48, 49, 50, 51, 52, 53, 54, 55, 56, 57, 58, 59, 60, 61, 62, 63, 64, 65, 66, 67, 68, 69, 70, 71, 72, 73, 74] (fun i : Nat => [(3, iv i)]) (fun i H' => _ = H' ∧ (i ≤ f.blocks.length ∧ firstE ((f.blocks.map (blockE f.regs f.blocks.length)).take i) = 0)) (fun i => f.blocks.length - i) 0 (by simp) (Sub.refl hlt21) (by exact ⟨rfl, by simp⟩) ?_   -- LOOP
          rintro i _ ⟨rfl, hinv21⟩ K21 hK21
          simp
          have hinvI := hinv21
          refine awp_seq_k fun K22 hK22 => ?_
          refine awp_seq_k fun K23 hK23 => ?_
          refine awp_region (by decide) ?_   -- region 10
          refine aops_op rfl rfl rfl (by simp (disch := omega) [hc4, hc8, hc12, hc17]; rfl) ?_
          refine aops_op rfl rfl rfl (by simp (disch := omega) [hc4, hc8, hc12, hc17]; rfl) ?_
          refine aops_op rfl rfl rfl (by simp (disch := omega) [hc4, hc8, hc12, hc17]; rfl) ?_
          refine aops_op rfl rfl rfl (by simp (disch := omega) [hc4, hc8, hc12, hc17]; rfl) ?_
          refine aops_op rfl rfl rfl (by simp (disch := omega) [hc4, hc8, hc12, hc17]; rfl) ?_
          refine aops_nil ?_
          refine hK23 _ _ ?_
          refine awp_cond rfl (fun hc24 => ?_) fun hc24 => ?_
          · simp at hc24
            refine awp_skip ?_
            simp
            refine hK22 _ _ ?_
            refine awp_seq_k fun K25 hK25 => ?_
            refine awp_block ?_   -- block 1
            refine awp_seq_k fun K26 hK26 => ?_
            obtain ⟨x, ad, v, hx, rfl, had, hN, h1, hx1⟩ := hrow.getB (i := i) (by omega)
            obtain ⟨a1, c1, rfl, hd1, hd2, hrow1⟩ := hx1.open
            simp only [encT] at hN
            refine awp_region (by decide) ?_   -- region 12
            refine aops_op rfl rfl rfl (by simp (disch := omega) [hc4, hc8, hc12, hc17, hc24, hN, h1]; rfl) ?_
            refine aops_op rfl rfl rfl (by simp (disch := omega) [hc4, hc8, hc12, hc17, hc24, hN, h1]; rfl) ?_
            refine aops_op rfl rfl rfl (by simp (disch := omega) [hc4, hc8, hc12, hc17, hc24, hN, h1]; rfl) ?_
            refine aops_op rfl rfl rfl (by simp (disch := omega) [hc4, hc8, hc12, hc17, hc24, hN, h1]; rfl) ?_
            refine aops_op rfl rfl rfl (by simp (disch := omega) [hc4, hc8, hc12, hc17, hc24, hN, h1]; rfl) ?_
            refine aops_alloc rfl rfl rfl (by simp (disch := omega) [hc4, hc8, hc12, hc17, hc24, hN, h1]; rfl) (by simp (disch := omega) [hc4, hc8, hc12, hc17, hc24, hN, h1]; rfl) ?_
            intro b4 hb4; try simp only [AHeap.next_new, AHeap.next_set, next_ov, next_delV, AHeap.next_del, next_low] at hb4
            refine aops_store rfl rfl rfl (by simp (disch := omega) [hc4, hc8, hc12, hc17, hc24, hN, h1]; rfl) (by rfl) (by simp (disch := omega) [hc4, hc8, hc12, hc17, hc24, hN, h1]; rfl) (by simp (disch := omega) [hc4, hc8, hc12, hc17, hc24, hN, h1]; rfl) (by simp (disch := omega) [hc4, hc8, hc12, hc17, hc24, hN, h1]; rfl) (by simp (disch := omega) [hc4, hc8, hc12, hc17, hc24, hN, h1]; rfl) (by rfl) (by simp [] <;> omega) (by simp [setCells] <;> rfl) set_auto ?_
            refine aops_nil ?_
            refine hK26 _ _ ?_
            refine awp_seq_k fun K27 hK27 => ?_
            refine awp_seq_k fun K28 hK28 => ?_
            refine awp_region (by decide) ?_   -- region 13
            refine aops_op rfl rfl rfl (by simp (disch := omega) [hc4, hc8, hc12, hc17, hc24, hN, h1]; rfl) ?_
            refine aops_nil ?_
            refine hK28 _ _ ?_
            refine awp_block ?_   -- block 2
            refine awp_lt fun hlt29 => ?_
            refine awp_loop3 [2, 5, 6, 46, 47, 48, 49, 50, 51, 52, 53, 54, 55, 56, 57, 58, 59, 60, 61, 62, 63] (fun j : Nat => [(5, iv j)]) (fun j H' => _ = H' ∧ (j ≤ x.code.length ∧ firstE ((x.code.map (insE f.regs)).take j) = 0)) (fun j => x.code.length - j) 0 (by simp) (Sub.refl hlt29) (by exact ⟨rfl, by simp⟩) ?_   -- LOOP
            rintro j _ ⟨rfl, hinv29⟩ K29 hK29
            simp
            have hinvJ := hinv29
            refine awp_seq_k fun K30 hK30 => ?_
            refine awp_seq_k fun K31 hK31 => ?_
            refine awp_region (by decide) ?_   -- region 14
            refine aops_op rfl rfl rfl (by simp (disch := omega) [hc4, hc8, hc12, hc17, hc24, hN, h1]; rfl) ?_
            refine aops_op rfl rfl rfl (by simp (disch := omega) [hc4, hc8, hc12, hc17, hc24, hN, h1]; rfl) ?_
            refine aops_op rfl rfl rfl (by simp (disch := omega) [hc4, hc8, hc12, hc17, hc24, hN, h1]; rfl) ?_
            refine aops_op rfl rfl rfl (by simp (disch := omega) [hc4, hc8, hc12, hc17, hc24, hN, h1]; rfl) ?_
            refine aops_op rfl rfl rfl (by simp (disch := omega) [hc4, hc8, hc12, hc17, hc24, hN, h1]; rfl) ?_
            refine aops_nil ?_
            refine hK31 _ _ ?_
            refine awp_cond rfl (fun hc32 => ?_) fun hc32 => ?_
            · simp at hc32
              refine awp_skip ?_
              simp
              refine hK30 _ _ ?_
              refine awp_seq_k fun K33 hK33 => ?_
              refine awp_block ?_   -- block 3
              refine awp_seq_k fun K34 hK34 => ?_
              obtain ⟨p, bd, hp, rfl, hbd, hM⟩ := hrow1.getF (i := j) (by omega)
              simp only [encIn] at hM
              refine awp_draw mixed [0, 1, 2, 3, 4, 5, 6, 7, 8] (by kernel_rfl) ?_   -- region 16
              refine awd_op rfl rfl rfl rfl rfl (by simp (disch := omega) [hc4, hc8, hc12, hc17, hc24, hN, h1, hc32, hM]; rfl) ?_
              refine awd_ld rfl rfl rfl rfl rfl (by simp (disch := omega) [hc4, hc8, hc12, hc17, hc24, hN, h1, hc32, hM]; rfl) ?_
              refine awd_op rfl rfl rfl rfl rfl (by simp (disch := omega) [hc4, hc8, hc12, hc17, hc24, hN, h1, hc32, hM]; rfl) ?_
              refine awd_op rfl rfl rfl rfl rfl (by simp (disch := omega) [hc4, hc8, hc12, hc17, hc24, hN, h1, hc32, hM]; rfl) ?_
              refine awd_ld rfl rfl rfl rfl rfl (by simp (disch := omega) [hc4, hc8, hc12, hc17, hc24, hN, h1, hc32, hM]; rfl) ?_
              refine awd_op rfl rfl rfl rfl rfl (by simp (disch := omega) [hc4, hc8, hc12, hc17, hc24, hN, h1, hc32, hM]; rfl) ?_
              refine awd_ld rfl rfl rfl rfl rfl (by simp (disch := omega) [hc4, hc8, hc12, hc17, hc24, hN, h1, hc32, hM]; rfl) ?_
              refine awd_callP (u := ?pu35) rfl rfl rfl rfl rfl rfl (by simp (disch := omega) [Wt, hc4, hc8, hc12, hc17, hc24, hN, h1, hc32, hM]) (by simp (disch := omega) [hc4, hc8, hc12, hc17, hc24, hN, h1, hc32, hM]; rfl) ?pk35 ?ph35
              case pk35 =>
                exact ref07_Instr p.op p.d p.a p.b p.imm f.regs _
              refine awd_op rfl rfl rfl rfl rfl (by simp (disch := omega) [hc4, hc8, hc12, hc17, hc24, hN, h1, hc32, hM]; rfl) ?_
              refine awd_nil ?_
              refine hK34 _ _ ?_
              refine awp_seq_k fun K36 hK36 => ?_
              refine awp_region (by decide) ?_   -- region 17
              refine aops_op rfl rfl rfl (by simp (disch := omega) [hc4, hc8, hc12, hc17, hc24, hN, h1, hc32, hM]; rfl) ?_
              refine aops_op rfl rfl rfl (by simp (disch := omega) [hc4, hc8, hc12, hc17, hc24, hN, h1, hc32, hM]; rfl) ?_
              refine aops_nil ?_
              refine hK36 _ _ ?_
              refine awp_cond rfl (fun hc37 => ?_) fun hc37 => ?_
              · simp at hc37
                refine awp_seq_k fun K38 hK38 => ?_
                refine awp_region (by decide) ?_   -- region 18
                refine aops_op rfl rfl rfl (by simp (disch := omega) [hc4, hc8, hc12, hc17, hc24, hN, h1, hc32, hM, hc37]; rfl) ?_
                refine aops_op rfl rfl rfl (by simp (disch := omega) [hc4, hc8, hc12, hc17, hc24, hN, h1, hc32, hM, hc37]; rfl) ?_
                refine aops_nil ?_
                refine hK38 _ _ ?_
                refine awp_lt fun hltE => ?_
                refine awp_ret ?_
                try simp only [thenA, blockA]
                refine fpost_ret (H0 := H) rfl (by simp (disch := omega) [hc4, hc8, hc12, hc17, hc24, hN, h1, hc32, hM, hc37] <;> rfl) sub_auto ?_
                refine ⟨?_, rfl⟩
                clear hK1 hK2 hK3 hK6 hK7 hK10 hK11 hK14 hK15 hK19 hK20 hK21 hK22 hK23 hK25 hK26 hK27 hK28 hK29 hK30 hK31 hK33 hK34 hK36 hK38
                subst_vars
                simp [resV]
                first | exact (check_instr (by grind [preE]) hx hinvI.2 hp hinvJ.2 (by unfold insE; assumption)).symm | grind [checkF, preE, check_term, check_end, termE]
              · simp at hc37
                refine awp_skip ?_
                simp
                refine hK33 _ _ ?_
                refine awp_region (by decide) ?_   -- region 15
                refine aops_op rfl rfl rfl (by simp (disch := omega) [hc4, hc8, hc12, hc17, hc24, hN, h1, hc32, hM, hc37]; rfl) ?_
                refine aops_op rfl rfl rfl (by simp (disch := omega) [hc4, hc8, hc12, hc17, hc24, hN, h1, hc32, hM, hc37]; rfl) ?_
                refine aops_op rfl rfl rfl (by simp (disch := omega) [hc4, hc8, hc12, hc17, hc24, hN, h1, hc32, hM, hc37]; rfl) ?_
                refine aops_nil ?_
                refine hK29 _ _ ?_   -- END OF ROUND
                refine loopTo (j + 1) rfl (by simp (disch := omega) [hc4, hc8, hc12, hc17, hc24, hN, h1, hc32, hM, hc37]) (by simp [hc4, hc8, hc12, hc17, hc24, hN, h1, hc32, hM, hc37]) (by exact ⟨rfl, by omega, by rw [firstE_succ (map_get hp) hinv29.2]; unfold insE; assumption⟩) sub_auto (by omega)
            · simp at hc32
              refine awp_exit ?_   -- exit 2
              simp
              refine hK27 _ _ ?_
              refine awp_seq_k fun K39 hK39 => ?_
              refine awp_region (by decide) ?_   -- region 19
              refine aops_op rfl rfl rfl (by simp (disch := omega) [hc4, hc8, hc12, hc17, hc24, hN, h1, hc32]; rfl) ?_
              refine aops_op rfl rfl rfl (by simp (disch := omega) [hc4, hc8, hc12, hc17, hc24, hN, h1, hc32]; rfl) ?_
              refine aops_op rfl rfl rfl (by simp (disch := omega) [hc4, hc8, hc12, hc17, hc24, hN, h1, hc32]; rfl) ?_
              refine aops_op rfl rfl rfl (by simp (disch := omega) [hc4, hc8, hc12, hc17, hc24, hN, h1, hc32]; rfl) ?_
              refine aops_op rfl rfl rfl (by simp (disch := omega) [hc4, hc8, hc12, hc17, hc24, hN, h1, hc32]; rfl) ?_
              refine aops_op rfl rfl rfl (by simp (disch := omega) [hc4, hc8, hc12, hc17, hc24, hN, h1, hc32]; rfl) ?_
              refine aops_op rfl rfl rfl (by simp (disch := omega) [hc4, hc8, hc12, hc17, hc24, hN, h1, hc32]; rfl) ?_
              refine aops_callP (u := ?pu40) rfl rfl rfl rfl (by simp (disch := omega) [hc4, hc8, hc12, hc17, hc24, hN, h1, hc32]; rfl) ?pk40 ?ph40
              case pk40 =>
                exact ref07_Term x.term.kind x.term.a x.term.to x.term.els f.regs f.blocks.length _
              refine aops_op rfl rfl rfl (by simp (disch := omega) [hc4, hc8, hc12, hc17, hc24, hN, h1, hc32]; rfl) ?_
              refine aops_nil ?_
              refine hK39 _ _ ?_
              refine awp_seq_k fun K41 hK41 => ?_
              refine awp_region (by decide) ?_   -- region 20
              refine aops_op rfl rfl rfl (by simp (disch := omega) [hc4, hc8, hc12, hc17, hc24, hN, h1, hc32]; rfl) ?_
              refine aops_op rfl rfl rfl (by simp (disch := omega) [hc4, hc8, hc12, hc17, hc24, hN, h1, hc32]; rfl) ?_
              refine aops_nil ?_
              refine hK41 _ _ ?_
              refine awp_cond rfl (fun hc42 => ?_) fun hc42 => ?_
              · simp at hc42
                refine awp_seq_k fun K43 hK43 => ?_
                refine awp_region (by decide) ?_   -- region 21
                refine aops_op rfl rfl rfl (by simp (disch := omega) [hc4, hc8, hc12, hc17, hc24, hN, h1, hc32, hc42]; rfl) ?_
                refine aops_op rfl rfl rfl (by simp (disch := omega) [hc4, hc8, hc12, hc17, hc24, hN, h1, hc32, hc42]; rfl) ?_
                refine aops_nil ?_
                refine hK43 _ _ ?_
                refine awp_lt fun hltE => ?_
                refine awp_ret ?_
                try simp only [thenA, blockA]
                refine fpost_ret (H0 := H) rfl (by simp (disch := omega) [hc4, hc8, hc12, hc17, hc24, hN, h1, hc32, hc42] <;> rfl) sub_auto ?_
                refine ⟨?_, rfl⟩
                clear hK1 hK2 hK3 hK6 hK7 hK10 hK11 hK14 hK15 hK19 hK20 hK21 hK22 hK23 hK25 hK26 hK27 hK28 hK29 hK30 hK31 hK39 hK41 hK43
                subst_vars
                simp [resV]
                first | exact (check_instr (by grind [preE]) hx hinvI.2 hp hinvJ.2 (by unfold insE; assumption)).symm | grind [checkF, preE, check_term, check_end, termE]
              · simp at hc42
                refine awp_skip ?_
                simp
                refine hK25 _ _ ?_
                refine awp_region (by decide) ?_   -- region 11
                refine aops_op rfl rfl rfl (by simp (disch := omega) [hc4, hc8, hc12, hc17, hc24, hN, h1, hc32, hc42]; rfl) ?_
                refine aops_op rfl rfl rfl (by simp (disch := omega) [hc4, hc8, hc12, hc17, hc24, hN, h1, hc32, hc42]; rfl) ?_
                refine aops_op rfl rfl rfl (by simp (disch := omega) [hc4, hc8, hc12, hc17, hc24, hN, h1, hc32, hc42]; rfl) ?_
                refine aops_nil ?_
                refine hK21 _ _ ?_   -- END OF ROUND
                refine loopTo (i + 1) rfl (by simp (disch := omega) [hc4, hc8, hc12, hc17, hc24, hN, h1, hc32, hc42]) (by simp [hc4, hc8, hc12, hc17, hc24, hN, h1, hc32, hc42]) (by exact ⟨rfl, by omega, check_next hx hinv21.2 hinvJ.2 (by omega) (by unfold termE; assumption)⟩) sub_auto (by omega)
          · simp at hc24
            refine awp_exit ?_   -- exit 0
            simp
            refine hK19 _ _ ?_
            refine awp_seq_k fun K44 hK44 => ?_
            refine awp_region (by decide) ?_   -- region 22
            refine aops_op rfl rfl rfl (by simp (disch := omega) [hc4, hc8, hc12, hc17, hc24]; rfl) ?_
            refine aops_nil ?_
            refine hK44 _ _ ?_
            refine awp_lt fun hltE => ?_
            refine awp_ret ?_
            try simp only [thenA, blockA]
            refine fpost_ret (H0 := H) rfl (by simp (disch := omega) [hc4, hc8, hc12, hc17, hc24] <;> rfl) sub_auto ?_
            refine ⟨?_, rfl⟩
            clear hK1 hK2 hK3 hK6 hK7 hK10 hK11 hK14 hK15 hK19 hK20 hK21 hK22 hK23 hK44
            subst_vars
            simp [resV]
            first | exact (check_instr (by grind [preE]) hx hinvI.2 hp hinvJ.2 (by unfold insE; assumption)).symm | grind [checkF, preE, check_term, check_end, termE]

-- "regcert/source.within"  params ['[]source.field'] results ['bool']
theorem src_within (xs : List LField) (v : Value) (H : AHeap) (hf : SliceR H (flat encFd) 3 v xs) : ACalls Try.prog 61 #[v] H fun v H' => v = .bool (xs.all fdIn) ∧ H' = H := by
  obtain ⟨a, c, rfl, hc1, hc2, hrow⟩ := hf.open
  refine acallsN (rs := [.tmp 2]) 26 Try.func61 rfl (by decide) rfl rfl (by simp) fun hlt => ?_
  simp
  refine awp_seq_k fun K1 hK1 => ?_
  refine awp_region (by decide) ?_   -- region 0
  refine aops_op rfl rfl rfl (by simp (disch := omega) []; rfl) ?_
  refine aops_nil ?_
  refine hK1 _ _ ?_
  refine awp_seq_k fun K2 hK2 => ?_
  refine awp_seq_k fun K3 hK3 => ?_
  refine awp_region (by decide) ?_   -- region 1
  refine aops_op rfl rfl rfl (by simp (disch := omega) []; rfl) ?_
  refine aops_op rfl rfl rfl (by simp (disch := omega) []; rfl) ?_
  refine aops_op rfl rfl rfl (by simp (disch := omega) []; rfl) ?_
  refine aops_nil ?_
  refine hK3 _ _ ?_
  refine awp_block ?_   -- block 0
  refine awp_lt fun hlt4 => ?_
  refine awp_loop3 [2, 4, 7, 8, 9, 10, 11, 12, 13, 14, 15, 16, 17, 18, 19, 20, 21, 22, 23, 24, 25] (fun i : Nat => [(7, iv i)]) (fun i H' => _ = H' ∧ (i ≤ xs.length ∧ (xs.take i).all fdIn = true)) (fun i => xs.length - i) 0 (by simp) (Sub.refl hlt4) (by exact ⟨rfl, by simp⟩) ?_   -- LOOP
  rintro i _ ⟨rfl, hinv4⟩ K4 hK4
  simp
  have hinvI := hinv4
  refine awp_seq_k fun K5 hK5 => ?_
  refine awp_region (by decide) ?_   -- region 2
  refine aops_op rfl rfl rfl (by simp (disch := omega) []; rfl) ?_
  refine aops_nil ?_
  refine hK5 _ _ ?_
  refine awp_seq_k fun K6 hK6 => ?_
  refine awp_cond rfl (fun hc7 => ?_) fun hc7 => ?_
  · simp at hc7
    refine awp_skip ?_
    simp
    refine hK6 _ _ ?_
    refine awp_seq_k fun K8 hK8 => ?_
    refine awp_block ?_   -- block 1
    refine awp_seq_k fun K9 hK9 => ?_
    obtain ⟨x, ad, hx, rfl, had, hN⟩ := hrow.getF (i := i) (by omega)
    simp only [encFd] at hN
    refine awp_region (by decide) ?_   -- region 3
    refine aops_op rfl rfl rfl (by simp (disch := omega) [hc7, hN]; rfl) ?_
    refine aops_op rfl rfl rfl (by simp (disch := omega) [hc7, hN]; rfl) ?_
    refine aops_alloc rfl rfl rfl (by simp (disch := omega) [hc7, hN]; rfl) (by simp (disch := omega) [hc7, hN]; rfl) ?_
    intro b4 hb4; try simp only [AHeap.next_new, AHeap.next_set, next_ov, next_delV, AHeap.next_del, next_low] at hb4
    refine aops_store rfl rfl rfl (by simp (disch := omega) [hc7, hN]; rfl) (by rfl) (by simp (disch := omega) [hc7, hN]; rfl) (by simp (disch := omega) [hc7, hN]; rfl) (by simp (disch := omega) [hc7, hN]; rfl) (by simp (disch := omega) [hc7, hN]; rfl) (by rfl) (by simp [] <;> omega) (by simp [setCells] <;> rfl) set_auto ?_
    refine aops_nil ?_
    refine hK9 _ _ ?_
    refine awp_seq_k fun K10 hK10 => ?_
    refine awp_region (by decide) ?_   -- region 4
    refine aops_op rfl rfl rfl (by simp (disch := omega) [hc7, hN]; rfl) ?_
    refine aops_op rfl rfl rfl (by simp (disch := omega) [hc7, hN]; rfl) ?_
    refine aops_op rfl rfl rfl (by simp (disch := omega) [hc7, hN]; rfl) ?_
    refine aops_gen fun g13 hg13 => ?_
    refine aops_gd (b := _) (v := _) rfl rfl rfl (fun hb => by have hb' := hb; (try simp [hg13] at hb'); (try simp at hb); simp (disch := omega) [hb, hb', hc7, hN]; rfl) ?_
    refine aops_gd (b := _) (v := _) rfl rfl rfl (fun hb => by have hb' := hb; (try simp [hg13] at hb'); (try simp at hb); simp (disch := omega) [hb, hb', hc7, hN]; rfl) ?_
    refine aops_gd (b := _) (v := _) rfl rfl rfl (fun hb => by have hb' := hb; (try simp [hg13] at hb'); (try simp at hb); simp (disch := omega) [hb, hb', hc7, hN]; rfl) ?_
    refine aops_gd (b := _) (v := _) rfl rfl rfl (fun hb => by have hb' := hb; (try simp [hg13] at hb'); (try simp at hb); simp (disch := omega) [hb, hb', hc7, hN]; rfl) ?_
    refine aops_gen2 fun g17 hg17 => ?_
    refine aops_gd (b := _) (v := _) rfl rfl rfl (fun hb => by have hb' := hb; (try simp [hg13, hg17] at hb'); (try simp at hb); simp (disch := omega) [hb, hb', hc7, hN]; rfl) ?_
    refine aops_gd (b := _) (v := _) rfl rfl rfl (fun hb => by have hb' := hb; (try simp [hg13, hg17] at hb'); (try simp at hb); simp (disch := omega) [hb, hb', hc7, hN]; rfl) ?_
    refine aops_gd (b := _) (v := _) rfl rfl rfl (fun hb => by have hb' := hb; (try simp [hg13, hg17] at hb'); (try simp at hb); simp (disch := omega) [hb, hb', hc7, hN]; rfl) ?_
    refine aops_gd (b := _) (v := _) rfl rfl rfl (fun hb => by have hb' := hb; (try simp [hg13, hg17] at hb'); (try simp at hb); simp (disch := omega) [hb, hb', hc7, hN]; rfl) ?_
    refine aops_gd (b := _) (v := _) rfl rfl rfl (fun hb => by have hb' := hb; (try simp [hg13, hg17] at hb'); (try simp at hb); simp (disch := omega) [hb, hb', hc7, hN]; rfl) ?_
    refine aops_gd (b := _) (v := _) rfl rfl rfl (fun hb => by have hb' := hb; (try simp [hg13, hg17] at hb'); (try simp at hb); simp (disch := omega) [hb, hb', hc7, hN]; rfl) ?_
    refine aops_op rfl rfl rfl (by simp (disch := omega) [hc7, hN]; rfl) ?_
    refine aops_nil ?_
    refine hK10 _ _ ?_
    refine awp_cond rfl (fun hc11 => ?_) fun hc11 => ?_
    · simp at hc11
      refine awp_seq_k fun K12 hK12 => ?_
      refine awp_region (by decide) ?_   -- region 5
      refine aops_op rfl rfl rfl (by simp (disch := omega) [hc7, hN, hc11]; rfl) ?_
      refine aops_nil ?_
      refine hK12 _ _ ?_
      refine awp_lt fun hltE => ?_
      refine awp_ret ?_
      try simp only [thenA, blockA]
      refine fpost_ret (H0 := H) rfl (by simp (disch := omega) [hc7, hN, hc11] <;> rfl) sub_auto ?_
      refine ⟨?_, rfl⟩
      clear hK1 hK2 hK3 hK4 hK5 hK6 hK8 hK9 hK10 hK12
      subst_vars
      refine congrArg Value.bool ?_
      first | exact (all_false hx (by grind [fdIn])).symm | exact (all_end hinvI.2 (by omega)).symm
    · simp at hc11
      refine awp_skip ?_
      simp
      refine hK8 _ _ ?_
      refine awp_region (by decide) ?_   -- region 6
      refine aops_op rfl rfl rfl (by simp (disch := omega) [hc7, hN, hc11]; rfl) ?_
      refine aops_op rfl rfl rfl (by simp (disch := omega) [hc7, hN, hc11]; rfl) ?_
      refine aops_nil ?_
      refine hK4 _ _ ?_   -- END OF ROUND
      have hpx : fdIn x = true := by clear hK1; grind [fdIn]
      refine loopTo (i + 1) rfl (by simp (disch := omega) [hc7, hN, hc11]) (by simp [hc7, hN, hc11]) (by exact ⟨rfl, by omega, by rw [all_take_succ hx, hinv4.2, Bool.true_and]; exact hpx⟩) sub_auto (by omega)
  · simp at hc7
    refine awp_exit ?_   -- exit 0
    simp
    refine hK2 _ _ ?_
    refine awp_seq_k fun K13 hK13 => ?_
    refine awp_region (by decide) ?_   -- region 7
    refine aops_op rfl rfl rfl (by simp (disch := omega) [hc7]; rfl) ?_
    refine aops_nil ?_
    refine hK13 _ _ ?_
    refine awp_lt fun hltE => ?_
    refine awp_ret ?_
    try simp only [thenA, blockA]
    refine fpost_ret (H0 := H) rfl (by simp (disch := omega) [hc7] <;> rfl) sub_auto ?_
    refine ⟨?_, rfl⟩
    clear hK1 hK2 hK3 hK4 hK5 hK6 hK13
    subst_vars
    refine congrArg Value.bool ?_
    first | exact (all_false hx (by grind [fdIn])).symm | exact (all_end hinvI.2 (by omega)).symm

-- "regcert/source.blank"  params ['[]source.field'] results ['bool']
theorem src_blank (xs : List LField) (v : Value) (H : AHeap) (hf : SliceR H (flat encFd) 3 v xs) : ACalls Try.prog 62 #[v] H fun v H' => v = .bool (xs.all fdBlank) ∧ H' = H := by
  obtain ⟨a, c, rfl, hc1, hc2, hrow⟩ := hf.open
  refine acallsN (rs := [.tmp 2]) 20 Try.func62 rfl (by decide) rfl rfl (by simp) fun hlt => ?_
  simp
  refine awp_seq_k fun K1 hK1 => ?_
  refine awp_region (by decide) ?_   -- region 0
  refine aops_op rfl rfl rfl (by simp (disch := omega) []; rfl) ?_
  refine aops_nil ?_
  refine hK1 _ _ ?_
  refine awp_seq_k fun K2 hK2 => ?_
  refine awp_seq_k fun K3 hK3 => ?_
  refine awp_region (by decide) ?_   -- region 1
  refine aops_op rfl rfl rfl (by simp (disch := omega) []; rfl) ?_
  refine aops_op rfl rfl rfl (by simp (disch := omega) []; rfl) ?_
  refine aops_op rfl rfl rfl (by simp (disch := omega) []; rfl) ?_
  refine aops_nil ?_
  refine hK3 _ _ ?_
  refine awp_block ?_   -- block 0
  refine awp_lt fun hlt4 => ?_
  refine awp_loop3 [2, 4, 7, 8, 9, 10, 11, 12, 13, 14, 15, 16, 17, 18, 19] (fun i : Nat => [(7, iv i)]) (fun i H' => _ = H' ∧ (i ≤ xs.length ∧ (xs.take i).all fdBlank = true)) (fun i => xs.length - i) 0 (by simp) (Sub.refl hlt4) (by exact ⟨rfl, by simp⟩) ?_   -- LOOP
  rintro i _ ⟨rfl, hinv4⟩ K4 hK4
  simp
  have hinvI := hinv4
  refine awp_seq_k fun K5 hK5 => ?_
  refine awp_region (by decide) ?_   -- region 2
  refine aops_op rfl rfl rfl (by simp (disch := omega) []; rfl) ?_
  refine aops_nil ?_
  refine hK5 _ _ ?_
  refine awp_seq_k fun K6 hK6 => ?_
  refine awp_cond rfl (fun hc7 => ?_) fun hc7 => ?_
  · simp at hc7
    refine awp_skip ?_
    simp
    refine hK6 _ _ ?_
    refine awp_seq_k fun K8 hK8 => ?_
    refine awp_block ?_   -- block 1
    refine awp_seq_k fun K9 hK9 => ?_
    obtain ⟨x, ad, hx, rfl, had, hN⟩ := hrow.getF (i := i) (by omega)
    simp only [encFd] at hN
    refine awp_region (by decide) ?_   -- region 3
    refine aops_op rfl rfl rfl (by simp (disch := omega) [hc7, hN]; rfl) ?_
    refine aops_op rfl rfl rfl (by simp (disch := omega) [hc7, hN]; rfl) ?_
    refine aops_alloc rfl rfl rfl (by simp (disch := omega) [hc7, hN]; rfl) (by simp (disch := omega) [hc7, hN]; rfl) ?_
    intro b4 hb4; try simp only [AHeap.next_new, AHeap.next_set, next_ov, next_delV, AHeap.next_del, next_low] at hb4
    refine aops_store rfl rfl rfl (by simp (disch := omega) [hc7, hN]; rfl) (by rfl) (by simp (disch := omega) [hc7, hN]; rfl) (by simp (disch := omega) [hc7, hN]; rfl) (by simp (disch := omega) [hc7, hN]; rfl) (by simp (disch := omega) [hc7, hN]; rfl) (by rfl) (by simp [] <;> omega) (by simp [setCells] <;> rfl) set_auto ?_
    refine aops_nil ?_
    refine hK9 _ _ ?_
    refine awp_seq_k fun K10 hK10 => ?_
    refine awp_region (by decide) ?_   -- region 4
    refine aops_op rfl rfl rfl (by simp (disch := omega) [hc7, hN]; rfl) ?_
    refine aops_op rfl rfl rfl (by simp (disch := omega) [hc7, hN]; rfl) ?_
    refine aops_op rfl rfl rfl (by simp (disch := omega) [hc7, hN]; rfl) ?_
    refine aops_op rfl rfl rfl (by simp (disch := omega) [hc7, hN]; rfl) ?_
    refine aops_gen fun g14 hg14 => ?_
    refine aops_gd (b := _) (v := _) rfl rfl rfl (fun hb => by have hb' := hb; (try simp [hg14] at hb'); (try simp at hb); simp (disch := omega) [hb, hb', hc7, hN]; rfl) ?_
    refine aops_gd (b := _) (v := _) rfl rfl rfl (fun hb => by have hb' := hb; (try simp [hg14] at hb'); (try simp at hb); simp (disch := omega) [hb, hb', hc7, hN]; rfl) ?_
    refine aops_gd (b := _) (v := _) rfl rfl rfl (fun hb => by have hb' := hb; (try simp [hg14] at hb'); (try simp at hb); simp (disch := omega) [hb, hb', hc7, hN]; rfl) ?_
    refine aops_op rfl rfl rfl (by simp (disch := omega) [hc7, hN]; rfl) ?_
    refine aops_nil ?_
    refine hK10 _ _ ?_
    refine awp_cond rfl (fun hc11 => ?_) fun hc11 => ?_
    · simp at hc11
      refine awp_seq_k fun K12 hK12 => ?_
      refine awp_region (by decide) ?_   -- region 5
      refine aops_op rfl rfl rfl (by simp (disch := omega) [hc7, hN, hc11]; rfl) ?_
      refine aops_nil ?_
      refine hK12 _ _ ?_
      refine awp_lt fun hltE => ?_
      refine awp_ret ?_
      try simp only [thenA, blockA]
      refine fpost_ret (H0 := H) rfl (by simp (disch := omega) [hc7, hN, hc11] <;> rfl) sub_auto ?_
      refine ⟨?_, rfl⟩
      clear hK1 hK2 hK3 hK4 hK5 hK6 hK8 hK9 hK10 hK12
      subst_vars
      refine congrArg Value.bool ?_
      first | exact (all_false hx (by grind [fdBlank])).symm | exact (all_end hinvI.2 (by omega)).symm
    · simp at hc11
      refine awp_skip ?_
      simp
      refine hK8 _ _ ?_
      refine awp_region (by decide) ?_   -- region 6
      refine aops_op rfl rfl rfl (by simp (disch := omega) [hc7, hN, hc11]; rfl) ?_
      refine aops_op rfl rfl rfl (by simp (disch := omega) [hc7, hN, hc11]; rfl) ?_
      refine aops_nil ?_
      refine hK4 _ _ ?_   -- END OF ROUND
      have hpx : fdBlank x = true := by clear hK1; grind [fdBlank]
      refine loopTo (i + 1) rfl (by simp (disch := omega) [hc7, hN, hc11]) (by simp [hc7, hN, hc11]) (by exact ⟨rfl, by omega, by rw [all_take_succ hx, hinv4.2, Bool.true_and]; exact hpx⟩) sub_auto (by omega)
  · simp at hc7
    refine awp_exit ?_   -- exit 0
    simp
    refine hK2 _ _ ?_
    refine awp_seq_k fun K13 hK13 => ?_
    refine awp_region (by decide) ?_   -- region 7
    refine aops_op rfl rfl rfl (by simp (disch := omega) [hc7]; rfl) ?_
    refine aops_nil ?_
    refine hK13 _ _ ?_
    refine awp_lt fun hltE => ?_
    refine awp_ret ?_
    try simp only [thenA, blockA]
    refine fpost_ret (H0 := H) rfl (by simp (disch := omega) [hc7] <;> rfl) sub_auto ?_
    refine ⟨?_, rfl⟩
    clear hK1 hK2 hK3 hK4 hK5 hK6 hK13
    subst_vars
    refine congrArg Value.bool ?_
    first | exact (all_false hx (by grind [fdBlank])).symm | exact (all_end hinvI.2 (by omega)).symm

-- "regcert/source.Instr"  params ['api.Instr', 'int'] results ['api.Errno']
theorem src_Instr (o d a b m n : Int) (H : AHeap) : ACalls Try.prog 52 #[.agg #[iv o, iv d, iv a, iv b, iv m], iv n] H fun v H' => v = iv (ref07Instr o d a b m n) ∧ H' = H := by
  refine acallsN (rs := [.tmp 4]) 56 Try.func52 rfl (by decide) rfl rfl (by simp) fun hlt => ?_
  simp
  refine awp_seq_k fun K1 hK1 => ?_
  refine awp_region (by decide) ?_   -- region 0
  refine aops_box rfl rfl rfl (by simp (disch := omega) [shapeV]; rfl) (by simp (disch := omega) [shapeV]; rfl) (by simp (disch := omega) [shapeV]; rfl) ?_
  intro b2 hb2; try simp only [AHeap.next_new, AHeap.next_set, next_ov, next_delV, AHeap.next_del, next_low] at hb2
  refine aops_op rfl rfl rfl (by simp (disch := omega) [shapeV]; rfl) ?_
  refine aops_nil ?_
  refine hK1 _ _ ?_
  refine awp_seq_k fun K2 hK2 => ?_
  refine awp_region (by decide) ?_   -- region 1
  refine aops_op rfl rfl rfl (by simp (disch := omega) [shapeV]; rfl) ?_
  refine aops_op rfl rfl rfl (by simp (disch := omega) [shapeV]; rfl) ?_
  refine aops_callP (u := ?pu3) rfl rfl rfl rfl (by simp (disch := omega) [shapeV]; rfl) ?pk3 ?ph3
  case pk3 =>
    exact opcode_Of o _
  refine aops_op rfl rfl rfl (by simp (disch := omega) [shapeV]; rfl) ?_
  refine aops_op rfl rfl rfl (by simp (disch := omega) [shapeV]; rfl) ?_
  refine aops_op rfl rfl rfl (by simp (disch := omega) [shapeV]; rfl) ?_
  refine aops_alloc rfl rfl rfl (by simp (disch := omega) [shapeV]; rfl) (by simp (disch := omega) [shapeV]; rfl) ?_
  intro b5 hb5; try simp only [AHeap.next_new, AHeap.next_set, next_ov, next_delV, AHeap.next_del, next_low] at hb5
  refine aops_store rfl rfl rfl (by simp (disch := omega) [shapeV]; rfl) (by rfl) (by simp (disch := omega) [shapeV]; rfl) (by simp (disch := omega) [shapeV]; rfl) (by simp (disch := omega) [shapeV]; rfl) (by simp (disch := omega) [shapeV]; rfl) (by rfl) (by simp [] <;> omega) (by simp [setCells] <;> rfl) set_auto ?_
  refine aops_op rfl rfl rfl (by simp (disch := omega) [shapeV]; rfl) ?_
  refine aops_nil ?_
  refine hK2 _ _ ?_
  refine awp_seq_k fun K4 hK4 => ?_
  refine awp_region (by decide) ?_   -- region 2
  refine aops_op rfl rfl rfl (by simp (disch := omega) [shapeV]; rfl) ?_
  refine aops_op rfl rfl rfl (by simp (disch := omega) [shapeV]; rfl) ?_
  refine aops_op rfl rfl rfl (by simp (disch := omega) [shapeV]; rfl) ?_
  refine aops_op rfl rfl rfl (by simp (disch := omega) [shapeV]; rfl) ?_
  refine aops_op rfl rfl rfl (by simp (disch := omega) [shapeV]; rfl) ?_
  refine aops_op rfl rfl rfl (by simp (disch := omega) [shapeV]; rfl) ?_
  refine aops_op rfl rfl rfl (by simp (disch := omega) [shapeV]; rfl) ?_
  refine aops_op rfl rfl rfl (by simp (disch := omega) [shapeV]; rfl) ?_
  refine aops_op rfl rfl rfl (by simp (disch := omega) [shapeV]; rfl) ?_
  refine aops_op rfl rfl rfl (by simp (disch := omega) [shapeV]; rfl) ?_
  refine aops_op rfl rfl rfl (by simp (disch := omega) [shapeV]; rfl) ?_
  refine aops_op rfl rfl rfl (by simp (disch := omega) [shapeV]; rfl) ?_
  refine aops_op rfl rfl rfl (by simp (disch := omega) [shapeV]; rfl) ?_
  refine aops_op rfl rfl rfl (by simp (disch := omega) [shapeV]; rfl) ?_
  refine aops_op rfl rfl rfl (by simp (disch := omega) [shapeV]; rfl) ?_
  refine aops_op rfl rfl rfl (by simp (disch := omega) [shapeV]; rfl) ?_
  refine aops_op rfl rfl rfl (by simp (disch := omega) [shapeV]; rfl) ?_
  refine aops_op rfl rfl rfl (by simp (disch := omega) [shapeV]; rfl) ?_
  refine aops_buildSlice rfl rfl rfl (by simp (disch := omega) [shapeV]; rfl) (by simp (disch := omega) [shapeV]; rfl) (by simp (disch := omega) [shapeV]; rfl) (by simp (disch := omega) [shapeV]; rfl) (by simp) (by simp (disch := omega) [shapeV, zrep, List.replicate]; rfl) (by simp <;> rfl) ?_
  intro b32 hb32; try simp only [AHeap.next_new, AHeap.next_set, next_ov, next_delV, AHeap.next_del, next_low] at hb32
  refine aops_op rfl rfl rfl (by simp (disch := omega) [shapeV]; rfl) ?_
  refine aops_nil ?_
  refine hK4 _ _ ?_
  refine awp_seq_k fun K5 hK5 => ?_
  refine awp_block ?_   -- block 0
  refine awp_seq_k fun K6 hK6 => ?_
  refine awp_region (by decide) ?_   -- region 3
  refine aops_op rfl rfl rfl (by simp (disch := omega) [shapeV]; rfl) ?_
  refine aops_op rfl rfl rfl (by simp (disch := omega) [shapeV]; rfl) ?_
  refine aops_callP (u := ?pu7) rfl rfl rfl rfl (by simp (disch := omega) [shapeV]; rfl) ?pk7 ?ph7
  case pk7 =>
    exact opcode_Source o _
  refine aops_op rfl rfl rfl (by simp (disch := omega) [shapeV]; rfl) ?_
  refine aops_op rfl rfl rfl (by simp (disch := omega) [shapeV]; rfl) ?_
  refine aops_nil ?_
  refine hK6 _ _ ?_
  refine awp_cond rfl (fun hc8 => ?_) fun hc8 => ?_
  · simp at hc8
    refine awp_seq_k fun K9 hK9 => ?_
    refine awp_region (by decide) ?_   -- region 4
    refine aops_op rfl rfl rfl (by simp (disch := omega) [shapeV, hc8]; rfl) ?_
    refine aops_nil ?_
    refine hK9 _ _ ?_
    refine awp_lt fun hltE => ?_
    refine awp_ret ?_
    try simp only [thenA, blockA]
    refine fpost_ret (H0 := H) rfl (by simp (disch := omega) [shapeV, hc8] <;> rfl) sub_auto ?_
    refine ⟨?_, rfl⟩
    clear hK1 hK2 hK4 hK5 hK6 hK9
    subst_vars
    simp [resV]
    grind [ref07Instr, usesA, usesB, usesD, inR, fdIn, fdBlank]
  · simp at hc8
    refine awp_seq_k fun K10 hK10 => ?_
    refine awp_region (by decide) ?_   -- region 5
    refine aops_op rfl rfl rfl (by simp (disch := omega) [shapeV, hc8]; rfl) ?_
    refine aops_callP (u := ?pu11) rfl rfl rfl rfl (by simp (disch := omega) [shapeV, hc8]; rfl) ?pk11 ?ph11
    case pk11 =>
      exact src_within [⟨d, decide (1 ≤ o) && decide (o ≤ 16), n⟩, ⟨a, decide (2 ≤ o) && decide (o ≤ 17), n⟩, ⟨b, decide (5 ≤ o) && decide (o ≤ 16), n⟩] _ _ (SliceR.own (enc := encFd) (fun _ => rfl) _ (AHeap.at_new_self _ _ _) (by simp) rfl rfl (Nat.le_refl _) (by simp [maxLen]))
    refine aops_op rfl rfl rfl (by simp (disch := omega) [shapeV, hc8]; rfl) ?_
    refine aops_op rfl rfl rfl (by simp (disch := omega) [shapeV, hc8]; rfl) ?_
    refine aops_nil ?_
    refine hK10 _ _ ?_
    refine awp_cond rfl (fun hc12 => ?_) fun hc12 => ?_
    · simp at hc12
      refine awp_seq_k fun K13 hK13 => ?_
      refine awp_region (by decide) ?_   -- region 6
      refine aops_op rfl rfl rfl (by simp (disch := omega) [shapeV, hc8, hc12]; rfl) ?_
      refine aops_nil ?_
      refine hK13 _ _ ?_
      refine awp_lt fun hltE => ?_
      refine awp_ret ?_
      try simp only [thenA, blockA]
      refine fpost_ret (H0 := H) rfl (by simp (disch := omega) [shapeV, hc8, hc12] <;> rfl) sub_auto ?_
      refine ⟨?_, rfl⟩
      clear hK1 hK2 hK4 hK5 hK6 hK10 hK13
      subst_vars
      simp [resV]
      grind [ref07Instr, usesA, usesB, usesD, inR, fdIn, fdBlank]
    · simp at hc12
      refine awp_seq_k fun K14 hK14 => ?_
      refine awp_region (by decide) ?_   -- region 7
      refine aops_op rfl rfl rfl (by simp (disch := omega) [shapeV, hc8, hc12]; rfl) ?_
      refine aops_callP (u := ?pu15) rfl rfl rfl rfl (by simp (disch := omega) [shapeV, hc8, hc12]; rfl) ?pk15 ?ph15
      case pk15 =>
        exact src_blank [⟨d, decide (1 ≤ o) && decide (o ≤ 16), n⟩, ⟨a, decide (2 ≤ o) && decide (o ≤ 17), n⟩, ⟨b, decide (5 ≤ o) && decide (o ≤ 16), n⟩] _ _ (SliceR.own (enc := encFd) (fun _ => rfl) _ (AHeap.at_new_self _ _ _) (by simp) rfl rfl (Nat.le_refl _) (by simp [maxLen]))
      refine aops_op rfl rfl rfl (by simp (disch := omega) [shapeV, hc8, hc12]; rfl) ?_
      refine aops_op rfl rfl rfl (by simp (disch := omega) [shapeV, hc8, hc12]; rfl) ?_
      refine aops_gen fun g46 hg46 => ?_
      refine aops_gd (b := _) (v := _) rfl rfl rfl (fun hb => by have hb' := hb; (try simp [hg46] at hb'); (try simp at hb); simp (disch := omega) [hb, hb', shapeV, hc8, hc12]; rfl) ?_
      refine aops_gd (b := _) (v := _) rfl rfl rfl (fun hb => by have hb' := hb; (try simp [hg46] at hb'); (try simp at hb); simp (disch := omega) [hb, hb', shapeV, hc8, hc12]; rfl) ?_
      refine aops_gd (b := _) (v := _) rfl rfl rfl (fun hb => by have hb' := hb; (try simp [hg46] at hb'); (try simp at hb); simp (disch := omega) [hb, hb', shapeV, hc8, hc12]; rfl) ?_
      refine aops_gd (b := _) (v := _) rfl rfl rfl (fun hb => by have hb' := hb; (try simp [hg46] at hb'); (try simp at hb); simp (disch := omega) [hb, hb', shapeV, hc8, hc12]; rfl) ?_
      refine aops_gen2 fun g50 hg50 => ?_
      refine aops_gd (b := _) (v := _) rfl rfl rfl (fun hb => by have hb' := hb; (try simp [hg46, hg50] at hb'); (try simp at hb); simp (disch := omega) [hb, hb', shapeV, hc8, hc12]; rfl) ?_
      refine aops_gd (b := _) (v := _) rfl rfl rfl (fun hb => by have hb' := hb; (try simp [hg46, hg50] at hb'); (try simp at hb); simp (disch := omega) [hb, hb', shapeV, hc8, hc12]; rfl) ?_
      refine aops_gd (b := _) (v := _) rfl rfl rfl (fun hb => by have hb' := hb; (try simp [hg46, hg50] at hb'); (try simp at hb); simp (disch := omega) [hb, hb', shapeV, hc8, hc12]; rfl) ?_
      refine aops_gd (b := _) (v := _) rfl rfl rfl (fun hb => by have hb' := hb; (try simp [hg46, hg50] at hb'); (try simp at hb); simp (disch := omega) [hb, hb', shapeV, hc8, hc12]; rfl) ?_
      refine aops_op rfl rfl rfl (by simp (disch := omega) [shapeV, hc8, hc12]; rfl) ?_
      refine aops_op rfl rfl rfl (by simp (disch := omega) [shapeV, hc8, hc12]; rfl) ?_
      refine aops_nil ?_
      refine hK14 _ _ ?_
      refine awp_cond rfl (fun hc16 => ?_) fun hc16 => ?_
      · simp at hc16
        refine awp_seq_k fun K17 hK17 => ?_
        refine awp_region (by decide) ?_   -- region 8
        refine aops_op rfl rfl rfl (by simp (disch := omega) [shapeV, hc8, hc12, hc16]; rfl) ?_
        refine aops_nil ?_
        refine hK17 _ _ ?_
        refine awp_lt fun hltE => ?_
        refine awp_ret ?_
        try simp only [thenA, blockA]
        refine fpost_ret (H0 := H) rfl (by simp (disch := omega) [shapeV, hc8, hc12, hc16] <;> rfl) sub_auto ?_
        refine ⟨?_, rfl⟩
        clear hK1 hK2 hK4 hK5 hK6 hK10 hK14 hK17
        subst_vars
        simp [resV]
        grind [ref07Instr, usesA, usesB, usesD, inR, fdIn, fdBlank]
      · simp at hc16
        refine awp_skip ?_
        simp
        refine hK5 _ _ ?_
        refine awp_seq_k fun K18 hK18 => ?_
        refine awp_region (by decide) ?_   -- region 9
        refine aops_op rfl rfl rfl (by simp (disch := omega) [shapeV, hc8, hc12, hc16]; rfl) ?_
        refine aops_nil ?_
        refine hK18 _ _ ?_
        refine awp_lt fun hltE => ?_
        refine awp_ret ?_
        try simp only [thenA, blockA]
        refine fpost_ret (H0 := H) rfl (by simp (disch := omega) [shapeV, hc8, hc12, hc16] <;> rfl) sub_auto ?_
        refine ⟨?_, rfl⟩
        clear hK1 hK2 hK4 hK5 hK6 hK10 hK14 hK18
        subst_vars
        simp [resV]
        grind [ref07Instr, usesA, usesB, usesD, inR, fdIn, fdBlank]

-- "regcert/source.Term"  params ['api.Term', 'int', 'int'] results ['api.Errno']
theorem src_Term (k a t e n m : Int) (H : AHeap) : ACalls Try.prog 53 #[.agg #[iv k, iv a, iv t, iv e], iv n, iv m] H fun v H' => v = iv (ref07Term k a t e n m) ∧ H' = H := by
  refine acallsN (rs := [.tmp 6]) 58 Try.func53 rfl (by decide) rfl rfl (by simp) fun hlt => ?_
  simp
  refine awp_seq_k fun K1 hK1 => ?_
  refine awp_region (by decide) ?_   -- region 0
  refine aops_box rfl rfl rfl (by simp (disch := omega) []; rfl) (by simp (disch := omega) []; rfl) (by simp (disch := omega) []; rfl) ?_
  intro b3 hb3; try simp only [AHeap.next_new, AHeap.next_set, next_ov, next_delV, AHeap.next_del, next_low] at hb3
  refine aops_op rfl rfl rfl (by simp (disch := omega) []; rfl) ?_
  refine aops_nil ?_
  refine hK1 _ _ ?_
  refine awp_seq_k fun K2 hK2 => ?_
  refine awp_region (by decide) ?_   -- region 1
  refine aops_op rfl rfl rfl (by simp (disch := omega) []; rfl) ?_
  refine aops_op rfl rfl rfl (by simp (disch := omega) []; rfl) ?_
  refine aops_op rfl rfl rfl (by simp (disch := omega) []; rfl) ?_
  refine aops_op rfl rfl rfl (by simp (disch := omega) []; rfl) ?_
  refine aops_op rfl rfl rfl (by simp (disch := omega) []; rfl) ?_
  refine aops_op rfl rfl rfl (by simp (disch := omega) []; rfl) ?_
  refine aops_op rfl rfl rfl (by simp (disch := omega) []; rfl) ?_
  refine aops_alloc rfl rfl rfl (by simp (disch := omega) []; rfl) (by simp (disch := omega) []; rfl) ?_
  intro b7 hb7; try simp only [AHeap.next_new, AHeap.next_set, next_ov, next_delV, AHeap.next_del, next_low] at hb7
  refine aops_store rfl rfl rfl (by simp (disch := omega) []; rfl) (by rfl) (by simp (disch := omega) []; rfl) (by simp (disch := omega) []; rfl) (by simp (disch := omega) []; rfl) (by simp (disch := omega) []; rfl) (by rfl) (by simp <;> omega) (by simp [setCells] <;> rfl) set_auto ?_
  refine aops_nil ?_
  refine hK2 _ _ ?_
  refine awp_seq_k fun K3 hK3 => ?_
  refine awp_region (by decide) ?_   -- region 2
  refine aops_op rfl rfl rfl (by simp (disch := omega) []; rfl) ?_
  refine aops_op rfl rfl rfl (by simp (disch := omega) []; rfl) ?_
  refine aops_op rfl rfl rfl (by simp (disch := omega) []; rfl) ?_
  refine aops_op rfl rfl rfl (by simp (disch := omega) []; rfl) ?_
  refine aops_op rfl rfl rfl (by simp (disch := omega) []; rfl) ?_
  refine aops_op rfl rfl rfl (by simp (disch := omega) []; rfl) ?_
  refine aops_op rfl rfl rfl (by simp (disch := omega) []; rfl) ?_
  refine aops_alloc rfl rfl rfl (by simp (disch := omega) []; rfl) (by simp (disch := omega) []; rfl) ?_
  intro b8 hb8; try simp only [AHeap.next_new, AHeap.next_set, next_ov, next_delV, AHeap.next_del, next_low] at hb8
  refine aops_store rfl rfl rfl (by simp (disch := omega) []; rfl) (by rfl) (by simp (disch := omega) []; rfl) (by simp (disch := omega) []; rfl) (by simp (disch := omega) []; rfl) (by simp (disch := omega) []; rfl) (by rfl) (by simp <;> omega) (by simp [setCells] <;> rfl) set_auto ?_
  refine aops_nil ?_
  refine hK3 _ _ ?_
  refine awp_seq_k fun K4 hK4 => ?_
  refine awp_region (by decide) ?_   -- region 3
  refine aops_op rfl rfl rfl (by simp (disch := omega) []; rfl) ?_
  refine aops_op rfl rfl rfl (by simp (disch := omega) []; rfl) ?_
  refine aops_op rfl rfl rfl (by simp (disch := omega) []; rfl) ?_
  refine aops_op rfl rfl rfl (by simp (disch := omega) []; rfl) ?_
  refine aops_op rfl rfl rfl (by simp (disch := omega) []; rfl) ?_
  refine aops_op rfl rfl rfl (by simp (disch := omega) []; rfl) ?_
  refine aops_op rfl rfl rfl (by simp (disch := omega) []; rfl) ?_
  refine aops_alloc rfl rfl rfl (by simp (disch := omega) []; rfl) (by simp (disch := omega) []; rfl) ?_
  intro b9 hb9; try simp only [AHeap.next_new, AHeap.next_set, next_ov, next_delV, AHeap.next_del, next_low] at hb9
  refine aops_store rfl rfl rfl (by simp (disch := omega) []; rfl) (by rfl) (by simp (disch := omega) []; rfl) (by simp (disch := omega) []; rfl) (by simp (disch := omega) []; rfl) (by simp (disch := omega) []; rfl) (by rfl) (by simp <;> omega) (by simp [setCells] <;> rfl) set_auto ?_
  refine aops_nil ?_
  refine hK4 _ _ ?_
  refine awp_seq_k fun K5 hK5 => ?_
  refine awp_block ?_   -- block 0
  refine awp_seq_k fun K6 hK6 => ?_
  refine awp_region (by decide) ?_   -- region 4
  refine aops_op rfl rfl rfl (by simp (disch := omega) []; rfl) ?_
  refine aops_op rfl rfl rfl (by simp (disch := omega) []; rfl) ?_
  refine aops_op rfl rfl rfl (by simp (disch := omega) []; rfl) ?_
  refine aops_op rfl rfl rfl (by simp (disch := omega) []; rfl) ?_
  refine aops_gen fun g35 hg35 => ?_
  refine aops_gd (b := _) (v := _) rfl rfl rfl (fun hb => by have hb' := hb; (try simp [hg35] at hb'); (try simp at hb); simp (disch := omega) [hb, hb']; rfl) ?_
  refine aops_gd (b := _) (v := _) rfl rfl rfl (fun hb => by have hb' := hb; (try simp [hg35] at hb'); (try simp at hb); simp (disch := omega) [hb, hb']; rfl) ?_
  refine aops_gd (b := _) (v := _) rfl rfl rfl (fun hb => by have hb' := hb; (try simp [hg35] at hb'); (try simp at hb); simp (disch := omega) [hb, hb']; rfl) ?_
  refine aops_op rfl rfl rfl (by simp (disch := omega) []; rfl) ?_
  refine aops_op rfl rfl rfl (by simp (disch := omega) []; rfl) ?_
  refine aops_nil ?_
  refine hK6 _ _ ?_
  refine awp_cond rfl (fun hc7 => ?_) fun hc7 => ?_
  · simp at hc7
    refine awp_seq_k fun K8 hK8 => ?_
    refine awp_region (by decide) ?_   -- region 5
    refine aops_op rfl rfl rfl (by simp (disch := omega) [hc7]; rfl) ?_
    refine aops_nil ?_
    refine hK8 _ _ ?_
    refine awp_lt fun hltE => ?_
    refine awp_ret ?_
    try simp only [thenA, blockA]
    refine fpost_ret (H0 := H) rfl (by simp (disch := omega) [hc7] <;> rfl) sub_auto ?_
    refine ⟨?_, rfl⟩
    clear hK1 hK2 hK3 hK4 hK5 hK6 hK8
    subst_vars
    simp [resV]
    grind [ref07Term, inR, fdIn, fdBlank]
  · simp at hc7
    refine awp_seq_k fun K9 hK9 => ?_
    refine awp_region (by decide) ?_   -- region 6
    refine aops_op rfl rfl rfl (by simp (disch := omega) [hc7]; rfl) ?_
    refine aops_buildSlice rfl rfl rfl (by simp (disch := omega) [hc7]; rfl) (by simp (disch := omega) [hc7]; rfl) (by simp (disch := omega) [hc7]; rfl) (by simp (disch := omega) [hc7]; rfl) (by simp) (by simp (disch := omega) [hc7, zrep, List.replicate]; rfl) (by simp <;> rfl) ?_
    intro b42 hb42; try simp only [AHeap.next_new, AHeap.next_set, next_ov, next_delV, AHeap.next_del, next_low] at hb42
    refine aops_callP (u := ?pu10) rfl rfl rfl rfl (by simp (disch := omega) [hc7]; rfl) ?pk10 ?ph10
    case pk10 =>
      exact src_within [⟨a, k != 1, n⟩] _ _ (SliceR.own (enc := encFd) (fun _ => rfl) _ (AHeap.at_new_self _ _ _) (by simp) rfl rfl (Nat.le_refl _) (by simp [maxLen]))
    refine aops_op rfl rfl rfl (by simp (disch := omega) [hc7]; rfl) ?_
    refine aops_op rfl rfl rfl (by simp (disch := omega) [hc7]; rfl) ?_
    refine aops_nil ?_
    refine hK9 _ _ ?_
    refine awp_cond rfl (fun hc11 => ?_) fun hc11 => ?_
    · simp at hc11
      refine awp_seq_k fun K12 hK12 => ?_
      refine awp_region (by decide) ?_   -- region 7
      refine aops_op rfl rfl rfl (by simp (disch := omega) [hc7, hc11]; rfl) ?_
      refine aops_nil ?_
      refine hK12 _ _ ?_
      refine awp_lt fun hltE => ?_
      refine awp_ret ?_
      try simp only [thenA, blockA]
      refine fpost_ret (H0 := H) rfl (by simp (disch := omega) [hc7, hc11] <;> rfl) sub_auto ?_
      refine ⟨?_, rfl⟩
      clear hK1 hK2 hK3 hK4 hK5 hK6 hK9 hK12
      subst_vars
      simp [resV]
      grind [ref07Term, inR, fdIn, fdBlank]
    · simp at hc11
      refine awp_seq_k fun K13 hK13 => ?_
      refine awp_region (by decide) ?_   -- region 8
      refine aops_op rfl rfl rfl (by simp (disch := omega) [hc7, hc11]; rfl) ?_
      refine aops_op rfl rfl rfl (by simp (disch := omega) [hc7, hc11]; rfl) ?_
      refine aops_buildSlice rfl rfl rfl (by simp (disch := omega) [hc7, hc11]; rfl) (by simp (disch := omega) [hc7, hc11]; rfl) (by simp (disch := omega) [hc7, hc11]; rfl) (by simp (disch := omega) [hc7, hc11]; rfl) (by simp) (by simp (disch := omega) [hc7, hc11, zrep, List.replicate]; rfl) (by simp <;> rfl) ?_
      intro b48 hb48; try simp only [AHeap.next_new, AHeap.next_set, next_ov, next_delV, AHeap.next_del, next_low] at hb48
      refine aops_callP (u := ?pu14) rfl rfl rfl rfl (by simp (disch := omega) [hc7, hc11]; rfl) ?pk14 ?ph14
      case pk14 =>
        exact src_within [⟨t, k != 3, m⟩, ⟨e, k == 2, m⟩] _ _ (SliceR.own (enc := encFd) (fun _ => rfl) _ (AHeap.at_new_self _ _ _) (by simp) rfl rfl (Nat.le_refl _) (by simp [maxLen]))
      refine aops_op rfl rfl rfl (by simp (disch := omega) [hc7, hc11]; rfl) ?_
      refine aops_op rfl rfl rfl (by simp (disch := omega) [hc7, hc11]; rfl) ?_
      refine aops_nil ?_
      refine hK13 _ _ ?_
      refine awp_cond rfl (fun hc15 => ?_) fun hc15 => ?_
      · simp at hc15
        refine awp_seq_k fun K16 hK16 => ?_
        refine awp_region (by decide) ?_   -- region 9
        refine aops_op rfl rfl rfl (by simp (disch := omega) [hc7, hc11, hc15]; rfl) ?_
        refine aops_nil ?_
        refine hK16 _ _ ?_
        refine awp_lt fun hltE => ?_
        refine awp_ret ?_
        try simp only [thenA, blockA]
        refine fpost_ret (H0 := H) rfl (by simp (disch := omega) [hc7, hc11, hc15] <;> rfl) sub_auto ?_
        refine ⟨?_, rfl⟩
        clear hK1 hK2 hK3 hK4 hK5 hK6 hK9 hK13 hK16
        subst_vars
        simp [resV]
        grind [ref07Term, inR, fdIn, fdBlank]
      · simp at hc15
        refine awp_seq_k fun K17 hK17 => ?_
        refine awp_region (by decide) ?_   -- region 10
        refine aops_op rfl rfl rfl (by simp (disch := omega) [hc7, hc11, hc15]; rfl) ?_
        refine aops_op rfl rfl rfl (by simp (disch := omega) [hc7, hc11, hc15]; rfl) ?_
        refine aops_op rfl rfl rfl (by simp (disch := omega) [hc7, hc11, hc15]; rfl) ?_
        refine aops_buildSlice rfl rfl rfl (by simp (disch := omega) [hc7, hc11, hc15]; rfl) (by simp (disch := omega) [hc7, hc11, hc15]; rfl) (by simp (disch := omega) [hc7, hc11, hc15]; rfl) (by simp (disch := omega) [hc7, hc11, hc15]; rfl) (by simp) (by simp (disch := omega) [hc7, hc11, hc15, zrep, List.replicate]; rfl) (by simp <;> rfl) ?_
        intro b55 hb55; try simp only [AHeap.next_new, AHeap.next_set, next_ov, next_delV, AHeap.next_del, next_low] at hb55
        refine aops_callP (u := ?pu18) rfl rfl rfl rfl (by simp (disch := omega) [hc7, hc11, hc15]; rfl) ?pk18 ?ph18
        case pk18 =>
          exact src_blank [⟨a, k != 1, n⟩, ⟨t, k != 3, m⟩, ⟨e, k == 2, m⟩] _ _ (SliceR.own (enc := encFd) (fun _ => rfl) _ (AHeap.at_new_self _ _ _) (by simp) rfl rfl (Nat.le_refl _) (by simp [maxLen]))
        refine aops_op rfl rfl rfl (by simp (disch := omega) [hc7, hc11, hc15]; rfl) ?_
        refine aops_op rfl rfl rfl (by simp (disch := omega) [hc7, hc11, hc15]; rfl) ?_
        refine aops_nil ?_
        refine hK17 _ _ ?_
        refine awp_cond rfl (fun hc19 => ?_) fun hc19 => ?_
        · simp at hc19
          refine awp_seq_k fun K20 hK20 => ?_
          refine awp_region (by decide) ?_   -- region 11
          refine aops_op rfl rfl rfl (by simp (disch := omega) [hc7, hc11, hc15, hc19]; rfl) ?_
          refine aops_nil ?_
          refine hK20 _ _ ?_
          refine awp_lt fun hltE => ?_
          refine awp_ret ?_
          try simp only [thenA, blockA]
          refine fpost_ret (H0 := H) rfl (by simp (disch := omega) [hc7, hc11, hc15, hc19] <;> rfl) sub_auto ?_
          refine ⟨?_, rfl⟩
          clear hK1 hK2 hK3 hK4 hK5 hK6 hK9 hK13 hK17 hK20
          subst_vars
          simp [resV]
          grind [ref07Term, inR, fdIn, fdBlank]
        · simp at hc19
          refine awp_skip ?_
          simp
          refine hK5 _ _ ?_
          refine awp_seq_k fun K21 hK21 => ?_
          refine awp_region (by decide) ?_   -- region 12
          refine aops_op rfl rfl rfl (by simp (disch := omega) [hc7, hc11, hc15, hc19]; rfl) ?_
          refine aops_nil ?_
          refine hK21 _ _ ?_
          refine awp_lt fun hltE => ?_
          refine awp_ret ?_
          try simp only [thenA, blockA]
          refine fpost_ret (H0 := H) rfl (by simp (disch := omega) [hc7, hc11, hc15, hc19] <;> rfl) sub_auto ?_
          refine ⟨?_, rfl⟩
          clear hK1 hK2 hK3 hK4 hK5 hK6 hK9 hK13 hK17 hK21
          subst_vars
          simp [resV]
          grind [ref07Term, inR, fdIn, fdBlank]

-- "regcert/source.block"  params ['api.Block', 'int', 'int'] results ['api.Errno']
theorem src_block (b : LBlock) (n m : Int) (v : Value) (H : AHeap) (hf : SliceR H (flat encIn) 5 v b.code) : ACalls Try.prog 36 #[.agg #[v, iv b.term.kind, iv b.term.a, iv b.term.to, iv b.term.els], iv n, iv m] H fun v H' => v = iv (blockE n m b) ∧ H' = H := by
  obtain ⟨a, c, rfl, hc1, hc2, hrow⟩ := hf.open
  refine acallsN (rs := [.tmp 6]) 29 Try.func36 rfl (by decide) rfl rfl (by simp) fun hlt => ?_
  simp
  refine awp_seq_k fun K1 hK1 => ?_
  refine awp_region (by decide) ?_   -- region 0
  refine aops_box rfl rfl rfl (by simp (disch := omega) []; rfl) (by simp (disch := omega) []; rfl) (by simp (disch := omega) []; rfl) ?_
  intro b3 hb3; try simp only [AHeap.next_new, AHeap.next_set, next_ov, next_delV, AHeap.next_del, next_low] at hb3
  refine aops_op rfl rfl rfl (by simp (disch := omega) []; rfl) ?_
  refine aops_nil ?_
  refine hK1 _ _ ?_
  refine awp_seq_k fun K2 hK2 => ?_
  refine awp_seq_k fun K3 hK3 => ?_
  refine awp_region (by decide) ?_   -- region 1
  refine aops_op rfl rfl rfl (by simp (disch := omega) []; rfl) ?_
  refine aops_op rfl rfl rfl (by simp (disch := omega) []; rfl) ?_
  refine aops_op rfl rfl rfl (by simp (disch := omega) []; rfl) ?_
  refine aops_op rfl rfl rfl (by simp (disch := omega) []; rfl) ?_
  refine aops_nil ?_
  refine hK3 _ _ ?_
  refine awp_block ?_   -- block 0
  refine awp_lt fun hlt4 => ?_
  refine awp_loop3 [6, 8, 9, 13, 14, 15, 16, 17, 18, 19, 20, 21, 22, 23] (fun i : Nat => [(13, iv i)]) (fun i H' => _ = H' ∧ (i ≤ b.code.length ∧ firstE ((b.code.map (insE n)).take i) = 0)) (fun i => b.code.length - i) 0 (by simp) (Sub.refl hlt4) (by exact ⟨rfl, by simp⟩) ?_   -- LOOP
  rintro i _ ⟨rfl, hinv4⟩ K4 hK4
  simp
  have hinvI := hinv4
  refine awp_seq_k fun K5 hK5 => ?_
  refine awp_region (by decide) ?_   -- region 2
  refine aops_op rfl rfl rfl (by simp (disch := omega) []; rfl) ?_
  refine aops_nil ?_
  refine hK5 _ _ ?_
  refine awp_seq_k fun K6 hK6 => ?_
  refine awp_cond rfl (fun hc7 => ?_) fun hc7 => ?_
  · simp at hc7
    refine awp_skip ?_
    simp
    refine hK6 _ _ ?_
    refine awp_seq_k fun K8 hK8 => ?_
    refine awp_block ?_   -- block 1
    refine awp_seq_k fun K9 hK9 => ?_
    obtain ⟨x, ad, hx, rfl, had, hN⟩ := hrow.getF (i := i) (by omega)
    simp only [encIn] at hN
    refine awp_region (by decide) ?_   -- region 3
    refine aops_op rfl rfl rfl (by simp (disch := omega) [hc7, hN]; rfl) ?_
    refine aops_op rfl rfl rfl (by simp (disch := omega) [hc7, hN]; rfl) ?_
    refine aops_alloc rfl rfl rfl (by simp (disch := omega) [hc7, hN]; rfl) (by simp (disch := omega) [hc7, hN]; rfl) ?_
    intro b8 hb8; try simp only [AHeap.next_new, AHeap.next_set, next_ov, next_delV, AHeap.next_del, next_low] at hb8
    refine aops_store rfl rfl rfl (by simp (disch := omega) [hc7, hN]; rfl) (by rfl) (by simp (disch := omega) [hc7, hN]; rfl) (by simp (disch := omega) [hc7, hN]; rfl) (by simp (disch := omega) [hc7, hN]; rfl) (by simp (disch := omega) [hc7, hN]; rfl) (by rfl) (by simp [] <;> omega) (by simp [setCells] <;> rfl) set_auto ?_
    refine aops_nil ?_
    refine hK9 _ _ ?_
    refine awp_seq_k fun K10 hK10 => ?_
    refine awp_region (by decide) ?_   -- region 4
    refine aops_op rfl rfl rfl (by simp (disch := omega) [hc7, hN]; rfl) ?_
    refine aops_op rfl rfl rfl (by simp (disch := omega) [hc7, hN]; rfl) ?_
    refine aops_callP (u := ?pu11) rfl rfl rfl rfl (by simp (disch := omega) [hc7, hN]; rfl) ?pk11 ?ph11
    case pk11 =>
      exact src_Instr x.op x.d x.a x.b x.imm n _
    refine aops_op rfl rfl rfl (by simp (disch := omega) [hc7, hN]; rfl) ?_
    refine aops_nil ?_
    refine hK10 _ _ ?_
    refine awp_seq_k fun K12 hK12 => ?_
    refine awp_region (by decide) ?_   -- region 5
    refine aops_op rfl rfl rfl (by simp (disch := omega) [hc7, hN]; rfl) ?_
    refine aops_op rfl rfl rfl (by simp (disch := omega) [hc7, hN]; rfl) ?_
    refine aops_nil ?_
    refine hK12 _ _ ?_
    refine awp_cond rfl (fun hc13 => ?_) fun hc13 => ?_
    · simp at hc13
      refine awp_seq_k fun K14 hK14 => ?_
      refine awp_region (by decide) ?_   -- region 6
      refine aops_op rfl rfl rfl (by simp (disch := omega) [hc7, hN, hc13]; rfl) ?_
      refine aops_op rfl rfl rfl (by simp (disch := omega) [hc7, hN, hc13]; rfl) ?_
      refine aops_nil ?_
      refine hK14 _ _ ?_
      refine awp_lt fun hltE => ?_
      refine awp_ret ?_
      try simp only [thenA, blockA]
      refine fpost_ret (H0 := H) rfl (by simp (disch := omega) [hc7, hN, hc13] <;> rfl) sub_auto ?_
      refine ⟨?_, rfl⟩
      clear hK1 hK2 hK3 hK4 hK5 hK6 hK8 hK9 hK10 hK12 hK14
      subst_vars
      refine congrArg iv ?_
      first | exact (block_instr hx hinvI.2 (by unfold insE; assumption)).symm | exact (block_end hinvI.2 (by omega)).symm
    · simp at hc13
      refine awp_skip ?_
      simp
      refine hK8 _ _ ?_
      refine awp_region (by decide) ?_   -- region 7
      refine aops_op rfl rfl rfl (by simp (disch := omega) [hc7, hN, hc13]; rfl) ?_
      refine aops_op rfl rfl rfl (by simp (disch := omega) [hc7, hN, hc13]; rfl) ?_
      refine aops_nil ?_
      refine hK4 _ _ ?_   -- END OF ROUND
      refine loopTo (i + 1) rfl (by simp (disch := omega) [hc7, hN, hc13]) (by simp [hc7, hN, hc13]) (by exact ⟨rfl, by omega, by rw [firstE_succ (map_get hx) hinv4.2]; unfold insE; assumption⟩) sub_auto (by omega)
  · simp at hc7
    refine awp_exit ?_   -- exit 0
    simp
    refine hK2 _ _ ?_
    refine awp_seq_k fun K15 hK15 => ?_
    refine awp_region (by decide) ?_   -- region 8
    refine aops_op rfl rfl rfl (by simp (disch := omega) [hc7]; rfl) ?_
    refine aops_op rfl rfl rfl (by simp (disch := omega) [hc7]; rfl) ?_
    refine aops_op rfl rfl rfl (by simp (disch := omega) [hc7]; rfl) ?_
    refine aops_op rfl rfl rfl (by simp (disch := omega) [hc7]; rfl) ?_
    refine aops_callP (u := ?pu16) rfl rfl rfl rfl (by simp (disch := omega) [hc7]; rfl) ?pk16 ?ph16
    case pk16 =>
      exact src_Term b.term.kind b.term.a b.term.to b.term.els n m _
    refine aops_op rfl rfl rfl (by simp (disch := omega) [hc7]; rfl) ?_
    refine aops_nil ?_
    refine hK15 _ _ ?_
    refine awp_lt fun hltE => ?_
    refine awp_ret ?_
    try simp only [thenA, blockA]
    refine fpost_ret (H0 := H) rfl (by simp (disch := omega) [hc7] <;> rfl) sub_auto ?_
    refine ⟨?_, rfl⟩
    clear hK1 hK2 hK3 hK4 hK5 hK6 hK15
    subst_vars
    refine congrArg iv ?_
    first | exact (block_instr hx hinvI.2 (by unfold insE; assumption)).symm | exact (block_end hinvI.2 (by omega)).symm

-- "regcert/source.Check"  params ['api.Func'] results ['api.Errno']
theorem src_Check (f : LFunc) (v : Value) (H : AHeap) (hf : SliceR H rB 5 v f.blocks) (hn : codeN f.blocks ≤ 1000000000) : ACalls Try.prog 19 #[.agg #[iv f.args, iv f.regs, v]] H fun v H' => v = iv (checkF f) ∧ H' = H := by
  obtain ⟨a, c, rfl, hc1, hc2, hrow⟩ := hf.open
  refine acallsN (rs := [.tmp 2]) 54 Try.func19 rfl (by decide) rfl rfl (by simp) fun hlt => ?_
  simp
  refine awp_seq_k fun K1 hK1 => ?_
  refine awp_region (by decide) ?_   -- region 0
  refine aops_box rfl rfl rfl (by simp (disch := omega) []; rfl) (by simp (disch := omega) []; rfl) (by simp (disch := omega) []; rfl) ?_
  intro b1 hb1; try simp only [AHeap.next_new, AHeap.next_set, next_ov, next_delV, AHeap.next_del, next_low] at hb1
  refine aops_op rfl rfl rfl (by simp (disch := omega) []; rfl) ?_
  refine aops_nil ?_
  refine hK1 _ _ ?_
  refine awp_seq_k fun K2 hK2 => ?_
  refine awp_block ?_   -- block 0
  refine awp_seq_k fun K3 hK3 => ?_
  refine awp_region (by decide) ?_   -- region 1
  refine aops_op rfl rfl rfl (by simp (disch := omega) []; rfl) ?_
  refine aops_op rfl rfl rfl (by simp (disch := omega) []; rfl) ?_
  refine aops_op rfl rfl rfl (by simp (disch := omega) []; rfl) ?_
  refine aops_op rfl rfl rfl (by simp (disch := omega) []; rfl) ?_
  refine aops_gen fun g10 hg10 => ?_
  refine aops_gd (b := _) (v := _) rfl rfl rfl (fun hb => by have hb' := hb; (try simp [hg10] at hb'); (try simp at hb); simp (disch := omega) [hb, hb']; rfl) ?_
  refine aops_gd (b := _) (v := _) rfl rfl rfl (fun hb => by have hb' := hb; (try simp [hg10] at hb'); (try simp at hb); simp (disch := omega) [hb, hb']; rfl) ?_
  refine aops_gd (b := _) (v := _) rfl rfl rfl (fun hb => by have hb' := hb; (try simp [hg10] at hb'); (try simp at hb); simp (disch := omega) [hb, hb']; rfl) ?_
  refine aops_gd (b := _) (v := _) rfl rfl rfl (fun hb => by have hb' := hb; (try simp [hg10] at hb'); (try simp at hb); simp (disch := omega) [hb, hb']; rfl) ?_
  refine aops_gd (b := _) (v := _) rfl rfl rfl (fun hb => by have hb' := hb; (try simp [hg10] at hb'); (try simp at hb); simp (disch := omega) [hb, hb']; rfl) ?_
  refine aops_op rfl rfl rfl (by simp (disch := omega) []; rfl) ?_
  refine aops_op rfl rfl rfl (by simp (disch := omega) []; rfl) ?_
  refine aops_nil ?_
  refine hK3 _ _ ?_
  refine awp_cond rfl (fun hc4 => ?_) fun hc4 => ?_
  · simp at hc4
    refine awp_seq_k fun K5 hK5 => ?_
    refine awp_region (by decide) ?_   -- region 2
    refine aops_op rfl rfl rfl (by simp (disch := omega) [hc4]; rfl) ?_
    refine aops_nil ?_
    refine hK5 _ _ ?_
    refine awp_lt fun hltE => ?_
    refine awp_ret ?_
    try simp only [thenA, blockA]
    refine fpost_ret (H0 := H) rfl (by simp (disch := omega) [hc4] <;> rfl) sub_auto ?_
    refine ⟨?_, rfl⟩
    clear hK1 hK2 hK3 hK5
    subst_vars
    refine congrArg iv ?_
    first | exact (check_block (by grind [preE]) hx hinvI.2 (by assumption)).symm | grind [checkF, preE, check_end]
  · simp at hc4
    refine awp_seq_k fun K6 hK6 => ?_
    refine awp_region (by decide) ?_   -- region 3
    refine aops_op rfl rfl rfl (by simp (disch := omega) [hc4]; rfl) ?_
    refine aops_op rfl rfl rfl (by simp (disch := omega) [hc4]; rfl) ?_
    refine aops_op rfl rfl rfl (by simp (disch := omega) [hc4]; rfl) ?_
    refine aops_op rfl rfl rfl (by simp (disch := omega) [hc4]; rfl) ?_
    refine aops_nil ?_
    refine hK6 _ _ ?_
    refine awp_cond rfl (fun hc7 => ?_) fun hc7 => ?_
    · simp at hc7
      refine awp_seq_k fun K8 hK8 => ?_
      refine awp_region (by decide) ?_   -- region 4
      refine aops_op rfl rfl rfl (by simp (disch := omega) [hc4, hc7]; rfl) ?_
      refine aops_nil ?_
      refine hK8 _ _ ?_
      refine awp_lt fun hltE => ?_
      refine awp_ret ?_
      try simp only [thenA, blockA]
      refine fpost_ret (H0 := H) rfl (by simp (disch := omega) [hc4, hc7] <;> rfl) sub_auto ?_
      refine ⟨?_, rfl⟩
      clear hK1 hK2 hK3 hK6 hK8
      subst_vars
      refine congrArg iv ?_
      first | exact (check_block (by grind [preE]) hx hinvI.2 (by assumption)).symm | grind [checkF, preE, check_end]
    · simp at hc7
      refine awp_seq_k fun K9 hK9 => ?_
      refine awp_region (by decide) ?_   -- region 5
      refine aops_op rfl rfl rfl (by simp (disch := omega) [hc4, hc7]; rfl) ?_
      refine aops_op rfl rfl rfl (by simp (disch := omega) [hc4, hc7]; rfl) ?_
      refine aops_op rfl rfl rfl (by simp (disch := omega) [hc4, hc7]; rfl) ?_
      refine aops_op rfl rfl rfl (by simp (disch := omega) [hc4, hc7]; rfl) ?_
      refine aops_op rfl rfl rfl (by simp (disch := omega) [hc4, hc7]; rfl) ?_
      refine aops_nil ?_
      refine hK9 _ _ ?_
      refine awp_cond rfl (fun hc10 => ?_) fun hc10 => ?_
      · simp at hc10
        refine awp_seq_k fun K11 hK11 => ?_
        refine awp_region (by decide) ?_   -- region 6
        refine aops_op rfl rfl rfl (by simp (disch := omega) [hc4, hc7, hc10]; rfl) ?_
        refine aops_nil ?_
        refine hK11 _ _ ?_
        refine awp_lt fun hltE => ?_
        refine awp_ret ?_
        try simp only [thenA, blockA]
        refine fpost_ret (H0 := H) rfl (by simp (disch := omega) [hc4, hc7, hc10] <;> rfl) sub_auto ?_
        refine ⟨?_, rfl⟩
        clear hK1 hK2 hK3 hK6 hK9 hK11
        subst_vars
        refine congrArg iv ?_
        first | exact (check_block (by grind [preE]) hx hinvI.2 (by assumption)).symm | grind [checkF, preE, check_end]
      · simp at hc10
        refine awp_seq_k fun K12 hK12 => ?_
        refine awp_region (by decide) ?_   -- region 7
        refine aops_op rfl rfl rfl (by simp (disch := omega) [hc4, hc7, hc10]; rfl) ?_
        refine aops_op rfl rfl rfl (by simp (disch := omega) [hc4, hc7, hc10]; rfl) ?_
        refine aops_op rfl rfl rfl (by simp (disch := omega) [hc4, hc7, hc10]; rfl) ?_
        refine aops_op rfl rfl rfl (by simp (disch := omega) [hc4, hc7, hc10]; rfl) ?_
        refine aops_op rfl rfl rfl (by simp (disch := omega) [hc4, hc7, hc10]; rfl) ?_
        refine aops_gen fun g31 hg31 => ?_
        refine aops_gd (b := _) (v := _) rfl rfl rfl (fun hb => by have hb' := hb; (try simp [hg31] at hb'); (try simp at hb); simp (disch := omega) [hb, hb', hc4, hc7, hc10]; rfl) ?_
        refine aops_gdcall (b := _) (u := ?pu13) rfl rfl rfl rfl ?pk13 ?ph13
        case pk13 =>
          intro hb; have hb' := hb; (try simp [hg31] at hb'); try simp at hb
          refine ⟨_, by simp (disch := omega) [hb, hc4, hc7, hc10]; rfl, ?_⟩
          refine src_Code f _ _ ?_ hn
          · exact hf.sub rB_ok sub_auto
        refine aops_gd (b := _) (v := _) rfl rfl rfl (fun hb => by have hb' := hb; (try simp [hg31] at hb'); (try simp at hb); simp (disch := omega) [hb, hb', hc4, hc7, hc10]; rfl) ?_
        refine aops_op rfl rfl rfl (by simp (disch := omega) [hc4, hc7, hc10]; rfl) ?_
        refine aops_op rfl rfl rfl (by simp (disch := omega) [hc4, hc7, hc10]; rfl) ?_
        refine aops_nil ?_
        refine hK12 _ _ ?_
        refine awp_cond rfl (fun hc14 => ?_) fun hc14 => ?_
        · simp at hc14
          refine awp_seq_k fun K15 hK15 => ?_
          refine awp_region (by decide) ?_   -- region 8
          refine aops_op rfl rfl rfl (by simp (disch := omega) [hc4, hc7, hc10, hc14]; rfl) ?_
          refine aops_nil ?_
          refine hK15 _ _ ?_
          refine awp_lt fun hltE => ?_
          refine awp_ret ?_
          try simp only [thenA, blockA]
          refine fpost_ret (H0 := H) rfl (by simp (disch := omega) [hc4, hc7, hc10, hc14] <;> rfl) sub_auto ?_
          refine ⟨?_, rfl⟩
          clear hK1 hK2 hK3 hK6 hK9 hK12 hK15
          subst_vars
          refine congrArg iv ?_
          first | exact (check_block (by grind [preE]) hx hinvI.2 (by assumption)).symm | grind [checkF, preE, check_end]
        · simp at hc14
          refine awp_skip ?_
          simp
          refine hK2 _ _ ?_
          refine awp_seq_k fun K16 hK16 => ?_
          refine awp_seq_k fun K17 hK17 => ?_
          refine awp_region (by decide) ?_   -- region 9
          refine aops_op rfl rfl rfl (by simp (disch := omega) [hc4, hc7, hc10, hc14]; rfl) ?_
          refine aops_op rfl rfl rfl (by simp (disch := omega) [hc4, hc7, hc10, hc14]; rfl) ?_
          refine aops_op rfl rfl rfl (by simp (disch := omega) [hc4, hc7, hc10, hc14]; rfl) ?_
          refine aops_op rfl rfl rfl (by simp (disch := omega) [hc4, hc7, hc10, hc14]; rfl) ?_
          refine aops_nil ?_
          refine hK17 _ _ ?_
          refine awp_block ?_   -- block 1
          refine awp_lt fun hlt18 => ?_
          refine awp_loop3 [2, 4, 5, 39, 40, 41, 42, 43, 44, 45, 46, 47, 48, 49, 50, 51, 52, 53] (fun i : Nat => [(39, iv i)]) (fun i H' => _ = H' ∧ (i ≤ f.blocks.length ∧ firstE ((f.blocks.map (blockE f.regs f.blocks.length)).take i) = 0)) (fun i => f.blocks.length - i) 0 (by simp) (Sub.refl hlt18) (by exact ⟨rfl, by simp⟩) ?_   -- LOOP
          rintro i _ ⟨rfl, hinv18⟩ K18 hK18
          simp
          have hinvI := hinv18
          refine awp_seq_k fun K19 hK19 => ?_
          refine awp_region (by decide) ?_   -- region 10
          refine aops_op rfl rfl rfl (by simp (disch := omega) [hc4, hc7, hc10, hc14]; rfl) ?_
          refine aops_nil ?_
          refine hK19 _ _ ?_
          refine awp_seq_k fun K20 hK20 => ?_
          refine awp_cond rfl (fun hc21 => ?_) fun hc21 => ?_
          · simp at hc21
            refine awp_skip ?_
            simp
            refine hK20 _ _ ?_
            refine awp_seq_k fun K22 hK22 => ?_
            refine awp_block ?_   -- block 2
            refine awp_seq_k fun K23 hK23 => ?_
            obtain ⟨x, ad, v, hx, rfl, had, hN, h1, hx1⟩ := hrow.getB (i := i) (by omega)
            obtain ⟨a1, c1, rfl, hd1, hd2, hrow1⟩ := hx1.open
            simp only [encT] at hN
            refine awp_region (by decide) ?_   -- region 11
            refine aops_op rfl rfl rfl (by simp (disch := omega) [hc4, hc7, hc10, hc14, hc21, hN, h1]; rfl) ?_
            refine aops_op rfl rfl rfl (by simp (disch := omega) [hc4, hc7, hc10, hc14, hc21, hN, h1]; rfl) ?_
            refine aops_alloc rfl rfl rfl (by simp (disch := omega) [hc4, hc7, hc10, hc14, hc21, hN, h1]; rfl) (by simp (disch := omega) [hc4, hc7, hc10, hc14, hc21, hN, h1]; rfl) ?_
            intro b4 hb4; try simp only [AHeap.next_new, AHeap.next_set, next_ov, next_delV, AHeap.next_del, next_low] at hb4
            refine aops_store rfl rfl rfl (by simp (disch := omega) [hc4, hc7, hc10, hc14, hc21, hN, h1]; rfl) (by rfl) (by simp (disch := omega) [hc4, hc7, hc10, hc14, hc21, hN, h1]; rfl) (by simp (disch := omega) [hc4, hc7, hc10, hc14, hc21, hN, h1]; rfl) (by simp (disch := omega) [hc4, hc7, hc10, hc14, hc21, hN, h1]; rfl) (by simp (disch := omega) [hc4, hc7, hc10, hc14, hc21, hN, h1]; rfl) (by rfl) (by simp [] <;> omega) (by simp [setCells] <;> rfl) set_auto ?_
            refine aops_nil ?_
            refine hK23 _ _ ?_
            refine awp_seq_k fun K24 hK24 => ?_
            refine awp_region (by decide) ?_   -- region 12
            refine aops_op rfl rfl rfl (by simp (disch := omega) [hc4, hc7, hc10, hc14, hc21, hN, h1]; rfl) ?_
            refine aops_op rfl rfl rfl (by simp (disch := omega) [hc4, hc7, hc10, hc14, hc21, hN, h1]; rfl) ?_
            refine aops_op rfl rfl rfl (by simp (disch := omega) [hc4, hc7, hc10, hc14, hc21, hN, h1]; rfl) ?_
            refine aops_op rfl rfl rfl (by simp (disch := omega) [hc4, hc7, hc10, hc14, hc21, hN, h1]; rfl) ?_
            refine aops_op rfl rfl rfl (by simp (disch := omega) [hc4, hc7, hc10, hc14, hc21, hN, h1]; rfl) ?_
            refine aops_op rfl rfl rfl (by simp (disch := omega) [hc4, hc7, hc10, hc14, hc21, hN, h1]; rfl) ?_
            refine aops_callP (u := ?pu25) rfl rfl rfl rfl (by simp (disch := omega) [hc4, hc7, hc10, hc14, hc21, hN, h1]; rfl) ?pk25 ?ph25
            case pk25 =>
              refine src_block x f.regs f.blocks.length _ _ ?_
              · exact hx1.sub encIn_ok sub_auto
            refine aops_op rfl rfl rfl (by simp (disch := omega) [hc4, hc7, hc10, hc14, hc21, hN, h1]; rfl) ?_
            refine aops_nil ?_
            refine hK24 _ _ ?_
            refine awp_seq_k fun K26 hK26 => ?_
            refine awp_region (by decide) ?_   -- region 13
            refine aops_op rfl rfl rfl (by simp (disch := omega) [hc4, hc7, hc10, hc14, hc21, hN, h1]; rfl) ?_
            refine aops_op rfl rfl rfl (by simp (disch := omega) [hc4, hc7, hc10, hc14, hc21, hN, h1]; rfl) ?_
            refine aops_nil ?_
            refine hK26 _ _ ?_
            refine awp_cond rfl (fun hc27 => ?_) fun hc27 => ?_
            · simp at hc27
              refine awp_seq_k fun K28 hK28 => ?_
              refine awp_region (by decide) ?_   -- region 14
              refine aops_op rfl rfl rfl (by simp (disch := omega) [hc4, hc7, hc10, hc14, hc21, hN, h1, hc27]; rfl) ?_
              refine aops_op rfl rfl rfl (by simp (disch := omega) [hc4, hc7, hc10, hc14, hc21, hN, h1, hc27]; rfl) ?_
              refine aops_nil ?_
              refine hK28 _ _ ?_
              refine awp_lt fun hltE => ?_
              refine awp_ret ?_
              try simp only [thenA, blockA]
              refine fpost_ret (H0 := H) rfl (by simp (disch := omega) [hc4, hc7, hc10, hc14, hc21, hN, h1, hc27] <;> rfl) sub_auto ?_
              refine ⟨?_, rfl⟩
              clear hK1 hK2 hK3 hK6 hK9 hK12 hK16 hK17 hK18 hK19 hK20 hK22 hK23 hK24 hK26 hK28
              subst_vars
              refine congrArg iv ?_
              first | exact (check_block (by grind [preE]) hx hinvI.2 (by assumption)).symm | grind [checkF, preE, check_end]
            · simp at hc27
              refine awp_skip ?_
              simp
              refine hK22 _ _ ?_
              refine awp_region (by decide) ?_   -- region 15
              refine aops_op rfl rfl rfl (by simp (disch := omega) [hc4, hc7, hc10, hc14, hc21, hN, h1, hc27]; rfl) ?_
              refine aops_op rfl rfl rfl (by simp (disch := omega) [hc4, hc7, hc10, hc14, hc21, hN, h1, hc27]; rfl) ?_
              refine aops_nil ?_
              refine hK18 _ _ ?_   -- END OF ROUND
              refine loopTo (i + 1) rfl (by simp (disch := omega) [hc4, hc7, hc10, hc14, hc21, hN, h1, hc27]) (by simp [hc4, hc7, hc10, hc14, hc21, hN, h1, hc27]) (by exact ⟨rfl, by omega, by rw [firstE_succ (map_get hx) hinv18.2]; assumption⟩) sub_auto (by omega)
          · simp at hc21
            refine awp_exit ?_   -- exit 1
            simp
            refine hK16 _ _ ?_
            refine awp_seq_k fun K29 hK29 => ?_
            refine awp_region (by decide) ?_   -- region 16
            refine aops_op rfl rfl rfl (by simp (disch := omega) [hc4, hc7, hc10, hc14, hc21]; rfl) ?_
            refine aops_nil ?_
            refine hK29 _ _ ?_
            refine awp_lt fun hltE => ?_
            refine awp_ret ?_
            try simp only [thenA, blockA]
            refine fpost_ret (H0 := H) rfl (by simp (disch := omega) [hc4, hc7, hc10, hc14, hc21] <;> rfl) sub_auto ?_
            refine ⟨?_, rfl⟩
            clear hK1 hK2 hK3 hK6 hK9 hK12 hK16 hK17 hK18 hK19 hK20 hK29
            subst_vars
            refine congrArg iv ?_
            first | exact (check_block (by grind [preE]) hx hinvI.2 (by assumption)).symm | grind [checkF, preE, check_end]

end Go.Proofs.Yteklhgmoniaieaa.Fn
