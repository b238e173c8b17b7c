import Derived.Test.YteklhgmoniaieaaAhTypes
import Derived.Test.YteklhgmoniaieaaAhFc
set_option linter.unusedVariables false
set_option maxRecDepth 20000
set_option maxHeartbeats 10000000
set_option linter.unusedSimpArgs false
namespace Go.Proofs.Yteklhgmoniaieaa.Fn
open Go.Proofs.YteklhgmoniaieaaAh Go.Proofs.Yteklhgmoniaieaa.Ty
-- "regcert/regcertref08.Moves"  params ['[]api.Mach'] results ['int']
theorem ref08_Moves (xs : List LMach) (v : Value) (H : AHeap) (hf : SliceR H (flat encM) 7 v xs) (hn : xs.length ≤ 100000000) : ACalls Try.prog 24 #[v] H fun v H' => v = iv (movesM xs) ∧ H' = H := by
  obtain ⟨a, c, ad, rfl, hc1, hc2, had, hblk, hN⟩ := hf.openR
  have hop : ∀ k, k < xs.length → H.load1 (ad.add (k * 7)) = some (iv (nth xs k).op) := fun k hk => loadN_at (j := 0) (hN k hk) rfl
  simp only [encM] at hN
  refine acallsN (rs := [.tmp 2]) 35 Try.func24 rfl (by decide) rfl rfl (by simp) fun hlt => ?_
  simp
  refine awp_seq_k fun K1 hK1 => ?_
  refine awp_region (by decide) ?_   -- region 0
  refine aops_op rfl rfl rfl (by simp (disch := omega) [had, hop]; rfl) ?_
  refine aops_nil ?_
  refine hK1 _ _ ?_
  refine awp_seq_k fun K2 hK2 => ?_
  refine awp_region (by decide) ?_   -- region 1
  refine aops_op rfl rfl rfl (by simp (disch := omega) [had, hop]; rfl) ?_
  refine aops_nil ?_
  refine hK2 _ _ ?_
  refine awp_seq_k fun K3 hK3 => ?_
  refine awp_seq_k fun K4 hK4 => ?_
  refine awp_region (by decide) ?_   -- region 2
  refine aops_op rfl rfl rfl (by simp (disch := omega) [had, hop]; rfl) ?_
  refine aops_nil ?_
  refine hK4 _ _ ?_
  refine awp_block ?_   -- block 0
  refine awp_lt fun hlt5 => ?_
  refine awp_loop3 [3, 4, 5, 6, 7, 8, 9, 10, 11, 12, 13, 14, 15, 16, 17, 18, 19, 20, 21, 22, 23, 24, 25, 26, 27, 28, 29, 30, 31, 32, 33] (fun i : Nat => [(4, iv i), (3, iv (mostTo xs i))]) (fun i H' => _ = H' ∧ (i ≤ xs.length)) (fun i => xs.length - i) 0 (by simp [mostTo]) (Sub.refl hlt5) (by exact ⟨rfl, by simp⟩) ?_   -- LOOP
  rintro i _ ⟨rfl, hinv5⟩ K5 hK5
  simp
  have hinvI := hinv5
  have hml := mostTo_le xs i
  refine awp_seq_k fun K6 hK6 => ?_
  refine awp_seq_k fun K7 hK7 => ?_
  refine awp_region (by decide) ?_   -- region 3
  refine aops_op rfl rfl rfl (by simp (disch := omega) [had, hop]; rfl) ?_
  refine aops_op rfl rfl rfl (by simp (disch := omega) [had, hop]; rfl) ?_
  refine aops_op rfl rfl rfl (by simp (disch := omega) [had, hop]; rfl) ?_
  refine aops_op rfl rfl rfl (by simp (disch := omega) [had, hop]; rfl) ?_
  refine aops_nil ?_
  refine hK7 _ _ ?_
  refine awp_cond rfl (fun hc8 => ?_) fun hc8 => ?_
  · simp at hc8
    refine awp_skip ?_
    simp
    refine hK6 _ _ ?_
    refine awp_seq_k fun K9 hK9 => ?_
    refine awp_block ?_   -- block 1
    refine awp_seq_k fun K10 hK10 => ?_
    refine awp_region (by decide) ?_   -- region 5
    refine aops_op rfl rfl rfl (by simp (disch := omega) [had, hop, hc8]; rfl) ?_
    refine aops_nil ?_
    refine hK10 _ _ ?_
    refine awp_seq_k fun K11 hK11 => ?_
    refine awp_block ?_   -- block 2
    refine awp_lt fun hlt12 => ?_
    refine awp_loop3 [5, 12, 13, 14, 15, 16, 17, 18, 19, 20, 21, 22, 23, 24, 25, 26, 27, 28, 29] (fun n : Nat => [(5, iv n)]) (fun n H' => _ = H' ∧ (n ≤ runL (xs.drop i))) (fun n => xs.length - (i + n)) 0 (by simp) (Sub.refl hlt12) (by exact ⟨rfl, by simp⟩) ?_   -- LOOP
    rintro n _ ⟨rfl, hinv12⟩ K12 hK12
    simp
    have hinvN := hinv12
    have hnl : i + n ≤ xs.length := by have := runL_le (xs.drop i); simp at this; omega
    have htn : ((i : Int) + (n : Int)).toNat = i + n := by omega
    refine awp_seq_k fun K13 hK13 => ?_
    refine awp_seq_k fun K14 hK14 => ?_
    refine awp_region (by decide) ?_   -- region 6
    refine aops_op rfl rfl rfl (by simp (disch := omega) [had, hop, hc8, htn]; rfl) ?_
    refine aops_op rfl rfl rfl (by simp (disch := omega) [had, hop, hc8, htn]; rfl) ?_
    refine aops_op rfl rfl rfl (by simp (disch := omega) [had, hop, hc8, htn]; rfl) ?_
    refine aops_op rfl rfl rfl (by simp (disch := omega) [had, hop, hc8, htn]; rfl) ?_
    refine aops_op rfl rfl rfl (by simp (disch := omega) [had, hop, hc8, htn]; rfl) ?_
    refine aops_op rfl rfl rfl (by simp (disch := omega) [had, hop, hc8, htn]; rfl) ?_
    refine aops_op rfl rfl rfl (by simp (disch := omega) [had, hop, hc8, htn]; rfl) ?_
    refine aops_gen fun g18 hg18 => ?_
    refine aops_gd (b := _) (v := _) rfl rfl rfl (fun hb => by have hb' := hb; (try simp [hg18] at hb'); (try simp at hb); simp (disch := omega) [hb, hb', had, hop, hc8, htn]; rfl) ?_
    refine aops_gd (b := _) (v := _) rfl rfl rfl (fun hb => by have hb' := hb; (try simp [hg18] at hb'); (try simp at hb); simp (disch := omega) [hb, hb', had, hop, hc8, htn]; rfl) ?_
    refine aops_gd (b := _) (v := _) rfl rfl rfl (fun hb => by have hb' := hb; (try simp [hg18] at hb'); (try simp at hb); simp (disch := omega) [hb, hb', had, hop, hc8, htn]; rfl) ?_
    refine aops_gd (b := _) (v := _) rfl rfl rfl (fun hb => by have hb' := hb; (try simp [hg18] at hb'); (try simp at hb); simp (disch := omega) [hb, hb', had, hop, hc8, htn]; rfl) ?_
    refine aops_gd (b := _) (v := _) rfl rfl rfl (fun hb => by have hb' := hb; (try simp [hg18] at hb'); (try simp at hb); simp (disch := omega) [hb, hb', had, hop, hc8, htn]; rfl) ?_
    refine aops_gd (b := _) (v := _) rfl rfl rfl (fun hb => by have hb' := hb; (try simp [hg18] at hb'); (try simp at hb); simp (disch := omega) [hb, hb', had, hop, hc8, htn]; rfl) ?_
    refine aops_gd (b := _) (v := _) rfl rfl rfl (fun hb => by have hb' := hb; (try simp [hg18] at hb'); (try simp at hb); simp (disch := omega) [hb, hb', had, hop, hc8, htn]; rfl) ?_
    refine aops_gd (b := _) (v := _) rfl rfl rfl (fun hb => by have hb' := hb; (try simp [hg18] at hb'); (try simp at hb); simp (disch := omega) [hb, hb', had, hop, hc8, htn]; rfl) ?_
    refine aops_op rfl rfl rfl (by simp (disch := omega) [had, hop, hc8, htn]; rfl) ?_
    refine aops_nil ?_
    refine hK14 _ _ ?_
    refine awp_cond rfl (fun hc15 => ?_) fun hc15 => ?_
    · simp at hc15
      refine awp_skip ?_
      simp
      refine hK13 _ _ ?_
      refine awp_block ?_   -- block 3
      refine awp_region (by decide) ?_   -- region 7
      refine aops_op rfl rfl rfl (by simp (disch := omega) [had, hop, hc8, htn, hc15]; rfl) ?_
      refine aops_op rfl rfl rfl (by simp (disch := omega) [had, hop, hc8, htn, hc15]; rfl) ?_
      refine aops_op rfl rfl rfl (by simp (disch := omega) [had, hop, hc8, htn, hc15]; rfl) ?_
      refine aops_nil ?_
      refine hK12 _ _ ?_   -- END OF ROUND
      have hin : i + n < xs.length := by grind
      refine loopTo (n + 1) rfl (by simp (disch := omega) [had, hop, hc8, htn, hc15]) (by simp [had, hop, hc8, htn, hc15]) (by exact ⟨rfl, run_succ (x := nth xs (i + n)) hinv12 (by rw [List.getElem?_drop]; exact nth_get (by grind)) (by grind)⟩) sub_auto (by omega)
    · simp at hc15
      refine awp_exit ?_   -- exit 2
      simp
      refine hK11 _ _ ?_
      refine awp_seq_k fun K16 hK16 => ?_
      refine awp_region (by decide) ?_   -- region 8
      refine aops_op rfl rfl rfl (by simp (disch := omega) [had, hop, hc8, htn, hc15]; rfl) ?_
      refine aops_op rfl rfl rfl (by simp (disch := omega) [had, hop, hc8, htn, hc15]; rfl) ?_
      refine aops_op rfl rfl rfl (by simp (disch := omega) [had, hop, hc8, htn, hc15]; rfl) ?_
      refine aops_nil ?_
      refine hK16 _ _ ?_
      refine awp_cond rfl (fun hc17 => ?_) fun hc17 => ?_
      · simp at hc17
        refine awp_region (by decide) ?_   -- region 9
        refine aops_op rfl rfl rfl (by simp (disch := omega) [had, hop, hc8, htn, hc15, hc17]; rfl) ?_
        refine aops_op rfl rfl rfl (by simp (disch := omega) [had, hop, hc8, htn, hc15, hc17]; rfl) ?_
        refine aops_nil ?_
        refine hK9 _ _ ?_
        refine awp_region (by decide) ?_   -- region 4
        refine aops_op rfl rfl rfl (by simp (disch := omega) [had, hop, hc8, htn, hc15, hc17]; rfl) ?_
        refine aops_op rfl rfl rfl (by simp (disch := omega) [had, hop, hc8, htn, hc15, hc17]; rfl) ?_
        refine aops_op rfl rfl rfl (by simp (disch := omega) [had, hop, hc8, htn, hc15, hc17]; rfl) ?_
        refine aops_nil ?_
        refine hK5 _ _ ?_   -- END OF ROUND
        have hrun : runL (xs.drop i) = n := (run_stop hinvN (fun x hx => by rw [List.getElem?_drop] at hx; have hlt2 := (List.getElem?_eq_some_iff.1 hx).1; have hne := nth_eq hx; grind)).symm
        refine loopTo (i + 1) rfl (by simp (disch := omega) [had, hop, hc8, htn, hc15, hc17, mostTo, hrun]) (by simp [had, hop, hc8, htn, hc15, hc17, mostTo, hrun]) (by exact ⟨rfl, by omega⟩) sub_auto (by omega)
      · simp at hc17
        refine awp_skip ?_
        simp
        refine hK9 _ _ ?_
        refine awp_region (by decide) ?_   -- region 4
        refine aops_op rfl rfl rfl (by simp (disch := omega) [had, hop, hc8, htn, hc15, hc17]; rfl) ?_
        refine aops_op rfl rfl rfl (by simp (disch := omega) [had, hop, hc8, htn, hc15, hc17]; rfl) ?_
        refine aops_op rfl rfl rfl (by simp (disch := omega) [had, hop, hc8, htn, hc15, hc17]; rfl) ?_
        refine aops_nil ?_
        refine hK5 _ _ ?_   -- END OF ROUND
        have hrun : runL (xs.drop i) = n := (run_stop hinvN (fun x hx => by rw [List.getElem?_drop] at hx; have hlt2 := (List.getElem?_eq_some_iff.1 hx).1; have hne := nth_eq hx; grind)).symm
        refine loopTo (i + 1) rfl (by simp (disch := omega) [had, hop, hc8, htn, hc15, hc17, mostTo, hrun]) (by simp [had, hop, hc8, htn, hc15, hc17, mostTo, hrun]) (by exact ⟨rfl, by omega⟩) sub_auto (by omega)
  · simp at hc8
    refine awp_exit ?_   -- exit 0
    simp
    refine hK3 _ _ ?_
    refine awp_seq_k fun K18 hK18 => ?_
    refine awp_region (by decide) ?_   -- region 10
    refine aops_op rfl rfl rfl (by simp (disch := omega) [had, hop, hc8]; rfl) ?_
    refine aops_op rfl rfl rfl (by simp (disch := omega) [had, hop, hc8]; rfl) ?_
    refine aops_nil ?_
    refine hK18 _ _ ?_
    refine awp_lt fun hltE => ?_
    refine awp_ret ?_
    try simp only [thenA, blockA]
    refine fpost_ret (H0 := H) rfl (by simp (disch := omega) [had, hop, hc8] <;> rfl) sub_auto ?_
    refine ⟨?_, rfl⟩
    clear hK1 hK2 hK3 hK4 hK5 hK6 hK7 hK18
    subst_vars
    simp [resV]
    rw [← mostTo_all, show xs.length = i by omega]

-- "regcert/spillall.Moves"  params ['api.Block'] results ['int']
theorem sp_Moves (x : LBlock) (v : Value) (n m : Int) (H : AHeap) (hf : SliceR H (flat encIn) 5 v x.code) (hv : blockE n m x = 0) (hn : n ≤ 1048576) (hc : x.code.length ≤ 1048576) : ACalls Try.prog 17 #[.agg #[v, iv x.term.kind, iv x.term.a, iv x.term.to, iv x.term.els]] H fun v H' => Sub (H) H' ∧ v = iv (movesM (blkM x).code) := by
  refine acallsK (rs := [.tmp 2]) 25 Try.func17 rfl (by decide) rfl rfl (by simp) fun R' hR' hlt => ?_
  simp
  refine awp_seq_k fun K1 hK1 => ?_
  refine awp_region (by decide) ?_   -- region 0
  refine aops_box rfl rfl rfl (by simp (disch := omega) []; rfl) (by simp (disch := omega) []; rfl) (by simp (disch := omega) []; rfl) ?_
  intro b1 hb1; try simp only [AHeap.next_new, AHeap.next_set, next_ov, next_delV, AHeap.next_del, next_low] at hb1
  refine aops_op rfl rfl rfl (by simp (disch := omega) []; rfl) ?_
  refine aops_nil ?_
  refine hK1 _ _ ?_
  refine awp_seq_k fun K2 hK2 => ?_
  refine awp_region (by decide) ?_   -- region 1
  refine aops_op rfl rfl rfl (by simp (disch := omega) []; rfl) ?_
  refine aops_op rfl rfl rfl (by simp (disch := omega) []; rfl) ?_
  refine aops_nil ?_
  refine hK2 _ _ ?_
  refine awp_seq_k fun K3 hK3 => ?_
  refine awp_seq_k fun K4 hK4 => ?_
  refine awp_region (by decide) ?_   -- region 2
  refine aops_op rfl rfl rfl (by simp (disch := omega) []; rfl) ?_
  refine aops_callR (H1 := ?Q8n5) (R := ?R8n5) rfl rfl rfl rfl (by simp (disch := omega) []; rfl) ?hk8n5 ?hh8n5
  case hk8n5 =>
    refine sp_Block x v n m _ ?_ ?_ ?_ ?_
    · exact hf.sub encIn_ok sub_auto
    · exact hv
    · exact hn
    · exact hc
  intro v8 H8 s8 hl8 hR8
  have hx8 := s8.next; simp at hx8
  have hz8 := s8.nexts; try (conv at hz8 => rhs; simp only [AHeap.next_new, AHeap.next_set, next_ov, next_delV, AHeap.next_del, next_low])
  obtain ⟨u8, rfl, ho8, hi8⟩ := hR8
  have hj8 := ho8.id_lt hl8
  try simp only [AHeap.next_new, AHeap.next_set, next_ov, next_delV, AHeap.next_del, next_low] at hi8
  have hcv8 := ho8.cells; have hcw8 := ho8.one
  have hlen : (blkM x).code.length ≤ 4 * x.code.length + 1 := by have := codeB_len x.code; simp only [blkM, endM, List.length_append]; split <;> simp <;> omega
  obtain ⟨a8, c8, rfl, hc18, hc28, hrow8⟩ := (ho8.slice hl8 encM_len).open
  refine aops_op rfl rfl rfl (by simp (disch := omega) []; rfl) ?_
  refine aops_op rfl rfl rfl (by simp (disch := omega) []; rfl) ?_
  refine aops_op rfl rfl rfl (by simp (disch := omega) []; rfl) ?_
  refine aops_nil ?_
  refine hK4 _ _ ?_
  refine awp_block ?_   -- block 0
  refine awp_lt fun hlt6 => ?_
  refine awp_loop3 [3, 4, 6, 11, 12, 13, 14, 15, 16, 17, 18, 19, 20, 21, 22, 23] (fun i : Nat => [(11, iv i), (3, iv (((blkM x).code.take i).foldl scanM (0, 0)).1), (4, iv (((blkM x).code.take i).foldl scanM (0, 0)).2)]) (fun i H' => _ = H' ∧ (i ≤ (blkM x).code.length)) (fun i => (blkM x).code.length - i) 0 (by simp) (Sub.refl hlt6) (by exact ⟨rfl, by simp⟩) ?_   -- LOOP
  rintro i _ ⟨rfl, hinv6⟩ K6 hK6
  simp
  obtain ⟨hs1, hs2⟩ := scan_le ((blkM x).code.take i) (0, 0) (by simp)
  simp at hs2
  generalize hq : ((blkM x).code.take i).foldl scanM (0, 0) = q at *
  refine awp_seq_k fun K7 hK7 => ?_
  refine awp_region (by decide) ?_   -- region 3
  refine aops_op rfl rfl rfl (by simp (disch := omega) []; rfl) ?_
  refine aops_nil ?_
  refine hK7 _ _ ?_
  refine awp_seq_k fun K8 hK8 => ?_
  refine awp_cond rfl (fun hc9 => ?_) fun hc9 => ?_
  · simp at hc9
    refine awp_skip ?_
    simp
    refine hK8 _ _ ?_
    refine awp_seq_k fun K10 hK10 => ?_
    refine awp_block ?_   -- block 1
    refine awp_seq_k fun K11 hK11 => ?_
    obtain ⟨p, ad, hx, rfl, had, hN⟩ := hrow8.getF (i := i) (by omega)
    simp only [encM] at hN
    simp only [ownId_some] at hi8
    refine awp_region (by decide) ?_   -- region 4
    refine aops_op rfl rfl rfl (by simp (disch := omega) [hc9, hN]; rfl) ?_
    refine aops_op rfl rfl rfl (by simp (disch := omega) [hc9, hN]; rfl) ?_
    refine aops_alloc rfl rfl rfl (by simp (disch := omega) [hc9, hN]; rfl) (by simp (disch := omega) [hc9, hN]; rfl) ?_
    intro b6 hb6; try simp only [AHeap.next_new, AHeap.next_set, next_ov, next_delV, AHeap.next_del, next_low] at hb6
    refine aops_store rfl rfl rfl (by simp (disch := omega) [hc9, hN]; rfl) (by rfl) (by simp (disch := omega) [hc9, hN]; rfl) (by simp (disch := omega) [hc9, hN]; rfl) (by simp (disch := omega) [hc9, hN]; rfl) (by simp (disch := omega) [hc9, hN]; rfl) (by rfl) (by simp [] <;> omega) (by simp [setCells] <;> rfl) set_auto ?_
    refine aops_nil ?_
    refine hK11 _ _ ?_
    refine awp_seq_k fun K12 hK12 => ?_
    refine awp_region (by decide) ?_   -- region 5
    refine aops_op rfl rfl rfl (by simp (disch := omega) [hc9, hN]; rfl) ?_
    refine aops_op rfl rfl rfl (by simp (disch := omega) [hc9, hN]; rfl) ?_
    refine aops_op rfl rfl rfl (by simp (disch := omega) [hc9, hN]; rfl) ?_
    refine aops_nil ?_
    refine hK12 _ _ ?_
    refine awp_seq_k fun K13 hK13 => ?_
    refine awp_seq_k fun K14 hK14 => ?_
    refine awp_region (by decide) ?_   -- region 6
    refine aops_op rfl rfl rfl (by simp (disch := omega) [hc9, hN]; rfl) ?_
    refine aops_op rfl rfl rfl (by simp (disch := omega) [hc9, hN]; rfl) ?_
    refine aops_op rfl rfl rfl (by simp (disch := omega) [hc9, hN]; rfl) ?_
    refine aops_nil ?_
    refine hK14 _ _ ?_
    refine awp_cond rfl (fun hc15 => ?_) fun hc15 => ?_
    · simp at hc15
      refine awp_region (by decide) ?_   -- region 7
      refine aops_op rfl rfl rfl (by simp (disch := omega) [hc9, hN, hc15]; rfl) ?_
      refine aops_nil ?_
      refine hK13 _ _ ?_
      refine awp_region (by decide) ?_   -- region 8
      refine aops_op rfl rfl rfl (by simp (disch := omega) [hc9, hN, hc15]; rfl) ?_
      refine aops_op rfl rfl rfl (by simp (disch := omega) [hc9, hN, hc15]; rfl) ?_
      refine aops_op rfl rfl rfl (by simp (disch := omega) [hc9, hN, hc15]; rfl) ?_
      refine aops_op rfl rfl rfl (by simp (disch := omega) [hc9, hN, hc15]; rfl) ?_
      refine aops_nil ?_
      refine hK10 _ _ ?_
      refine awp_region (by decide) ?_   -- region 9
      refine aops_op rfl rfl rfl (by simp (disch := omega) [hc9, hN, hc15]; rfl) ?_
      refine aops_op rfl rfl rfl (by simp (disch := omega) [hc9, hN, hc15]; rfl) ?_
      refine aops_nil ?_
      refine hK6 _ _ ?_   -- END OF ROUND
      have hft := foldl_take scanM (0, 0) hx
      rw [hq] at hft
      have e18 : scanM q p = (max q.1 (if p.op = 18 then q.2 + 1 else 0), if p.op = 18 then q.2 + 1 else 0) := rfl
      rw [e18] at hft
      have hmx : max (q.1 : Int) ((q.2 : Int) + 1) = ((max q.1 (q.2 + 1) : Nat) : Int) := by omega
      refine loopTo (i + 1) rfl (by simp (disch := omega) [hc9, hN, hc15, hft, hmx]) (by simp [hc9, hN, hc15, hft, hmx]) (by exact ⟨rfl, by omega⟩) sub_auto (by omega)
    · simp at hc15
      refine awp_skip ?_
      simp
      refine hK13 _ _ ?_
      refine awp_region (by decide) ?_   -- region 8
      refine aops_op rfl rfl rfl (by simp (disch := omega) [hc9, hN, hc15]; rfl) ?_
      refine aops_op rfl rfl rfl (by simp (disch := omega) [hc9, hN, hc15]; rfl) ?_
      refine aops_op rfl rfl rfl (by simp (disch := omega) [hc9, hN, hc15]; rfl) ?_
      refine aops_op rfl rfl rfl (by simp (disch := omega) [hc9, hN, hc15]; rfl) ?_
      refine aops_nil ?_
      refine hK10 _ _ ?_
      refine awp_region (by decide) ?_   -- region 9
      refine aops_op rfl rfl rfl (by simp (disch := omega) [hc9, hN, hc15]; rfl) ?_
      refine aops_op rfl rfl rfl (by simp (disch := omega) [hc9, hN, hc15]; rfl) ?_
      refine aops_nil ?_
      refine hK6 _ _ ?_   -- END OF ROUND
      have hft := foldl_take scanM (0, 0) hx
      rw [hq] at hft
      have e18 : scanM q p = (max q.1 (if p.op = 18 then q.2 + 1 else 0), if p.op = 18 then q.2 + 1 else 0) := rfl
      rw [e18] at hft
      have hmx : max (q.1 : Int) ((q.2 : Int) + 1) = ((max q.1 (q.2 + 1) : Nat) : Int) := by omega
      refine loopTo (i + 1) rfl (by simp (disch := omega) [hc9, hN, hc15, hft, hmx]) (by simp [hc9, hN, hc15, hft, hmx]) (by exact ⟨rfl, by omega⟩) sub_auto (by omega)
  · simp at hc9
    refine awp_exit ?_   -- exit 0
    simp
    refine hK3 _ _ ?_
    refine awp_seq_k fun K16 hK16 => ?_
    refine awp_region (by decide) ?_   -- region 10
    refine aops_op rfl rfl rfl (by simp (disch := omega) [hc9]; rfl) ?_
    refine aops_op rfl rfl rfl (by simp (disch := omega) [hc9]; rfl) ?_
    refine aops_nil ?_
    refine hK16 _ _ ?_
    refine awp_lt fun hltE => ?_
    refine awp_ret ?_
    try simp only [thenA, blockA]
    refine fpost_retR hR' hlt_auto rfl (by simp (disch := omega) [hc9] <;> rfl) sub_auto ?_
    -- WAY 1
    have := scan_all (blkM x).code
    simp [resV]
    grind

-- "regcert/regcertref22.Block"  params ['api.Block'] results ['api.MBlock']
theorem ref22_Block (x : LBlock) (v : Value) (n m : Int) (H : AHeap) (hf : SliceR H (flat encIn) 5 v x.code) (hv : blockE n m x = 0) (hn : n ≤ 1048576) (hc : x.code.length ≤ 1048576) : ACalls Try.prog 23 #[.agg #[v, iv x.term.kind, iv x.term.a, iv x.term.to, iv x.term.els]] H fun v H' => Sub (H) H' ∧ ∃ u, v = .agg #[u, iv x.term.kind, iv 0, iv x.term.to, iv x.term.els] ∧ OwnS H' u 66 7 encM (blkM x).code ∧ (ownId u = -1 ∨ (H.next : Int) ≤ ownId u) := by
  obtain ⟨a, c, rfl, hc1, hc2, hrow⟩ := hf.open
  obtain ⟨hvi, hvt⟩ := block_ok hv
  obtain ⟨hvr1, hvr2⟩ := term_rng2 hvt hn
  refine acallsK (rs := [.cell 2 63]) 96 Try.func23 rfl (by decide) rfl rfl (by simp) fun R' hR' hlt => ?_
  simp
  refine awp_seq_k fun K1 hK1 => ?_
  refine awp_region (by decide) ?_   -- region 0
  refine aops_box rfl rfl rfl (by simp (disch := omega) []; rfl) (by simp (disch := omega) []; rfl) (by simp (disch := omega) []; rfl) ?_
  intro b1 hb1; try simp only [AHeap.next_new, AHeap.next_set, next_ov, next_delV, AHeap.next_del, next_low] at hb1
  refine aops_alloc rfl rfl rfl (by simp (disch := omega) []; rfl) (by simp (disch := omega) []; rfl) ?_
  intro b2 hb2; try simp only [AHeap.next_new, AHeap.next_set, next_ov, next_delV, AHeap.next_del, next_low] at hb2
  refine aops_nil ?_
  refine hK1 _ _ ?_
  refine awp_seq_k fun K2 hK2 => ?_
  refine awp_region (by decide) ?_   -- region 1
  refine aops_op rfl rfl rfl (by simp (disch := omega) []; rfl) ?_
  refine aops_nil ?_
  refine hK2 _ _ ?_
  refine awp_seq_k fun K3 hK3 => ?_
  refine awp_seq_k fun K4 hK4 => ?_
  refine awp_region (by decide) ?_   -- region 2
  refine aops_op rfl rfl rfl (by simp (disch := omega) []; rfl) ?_
  refine aops_nil ?_
  refine hK4 _ _ ?_
  refine awp_block ?_   -- block 0
  refine awp_lt fun hlt5 => ?_
  refine awp_loop4 [3, 4, 5, 6, 8, 9, 10, 11, 12, 13, 14, 15, 16, 17, 18, 19, 20, 21, 22, 23, 24, 25, 26, 27, 28, 29, 30, 31, 32, 33, 34, 35, 36, 37, 38, 39, 40, 41, 42, 43, 44, 45, 46, 47, 48, 49, 50, 51, 52, 53, 54, 55, 56, 57, 58, 59, 60, 61, 62, 63, 64, 65, 66, 67, 68, 69, 70, 71, 72, 73, 74, 75, 76, 77, 78] (fun i : Nat × Value => [(4, iv i.1), (3, i.2)]) (fun H => H) (fun i H' => i.1 ≤ x.code.length ∧ OwnS H' i.2 66 7 encM (codeB (x.code.take i.1)) ∧ (ownId i.2 = -1 ∨ (b2 : Int) < ownId i.2)) (fun i => x.code.length - i.1) ((0 : Nat), Value.slice none 0 0) (by simp) sub_auto (by exact ⟨by simp, by simpa [codeB] using OwnS.nil, by simp⟩) ?_   -- LOOP
  rintro ⟨i, w⟩ H_i s_i hl_i ⟨hi1, hoi, hii⟩ K5 hK5
  have hx_i := s_i.next; simp at hx_i
  have hz_i := s_i.nexts; try (conv at hz_i => rhs; simp only [AHeap.next_new, AHeap.next_set, next_ov, next_delV, AHeap.next_del, next_low])
  simp
  dsimp only at hi1 hoi hii
  have hil := hoi.id_lt hl_i
  have hlen := codeB_tlen x.code i
  have hcvi := hoi.cells; have hcwi := hoi.one
  refine awp_seq_k fun K6 hK6 => ?_
  refine awp_seq_k fun K7 hK7 => ?_
  refine awp_region (by decide) ?_   -- region 3
  refine aops_op rfl rfl rfl (by simp (disch := omega) [hcvi, hcwi]; rfl) ?_
  refine aops_op rfl rfl rfl (by simp (disch := omega) [hcvi, hcwi]; rfl) ?_
  refine aops_op rfl rfl rfl (by simp (disch := omega) [hcvi, hcwi]; rfl) ?_
  refine aops_op rfl rfl rfl (by simp (disch := omega) [hcvi, hcwi]; rfl) ?_
  refine aops_op rfl rfl rfl (by simp (disch := omega) [hcvi, hcwi]; rfl) ?_
  refine aops_nil ?_
  refine hK7 _ _ ?_
  refine awp_cond rfl (fun hc8 => ?_) fun hc8 => ?_
  · simp at hc8
    refine awp_skip ?_
    simp
    refine hK6 _ _ ?_
    refine awp_seq_k fun K9 hK9 => ?_
    refine awp_block ?_   -- block 1
    refine awp_seq_k fun K10 hK10 => ?_
    obtain ⟨p, ad, hx, rfl, had, hN⟩ := hrow.getF (i := i) (by omega)
    simp only [encIn] at hN
    have hpv := hvi i p hx
    obtain ⟨hA1, hA2, hB1, hB2, hD1, hD2⟩ := ins_rng2 hpv hn
    refine awp_region (by decide) ?_   -- region 5
    refine aops_op rfl rfl rfl (by simp (disch := omega) [hcvi, hcwi, hc8, hN]; rfl) ?_
    refine aops_op rfl rfl rfl (by simp (disch := omega) [hcvi, hcwi, hc8, hN]; rfl) ?_
    refine aops_op rfl rfl rfl (by simp (disch := omega) [hcvi, hcwi, hc8, hN]; rfl) ?_
    refine aops_op rfl rfl rfl (by simp (disch := omega) [hcvi, hcwi, hc8, hN]; rfl) ?_
    refine aops_op rfl rfl rfl (by simp (disch := omega) [hcvi, hcwi, hc8, hN]; rfl) ?_
    refine aops_alloc rfl rfl rfl (by simp (disch := omega) [hcvi, hcwi, hc8, hN]; rfl) (by simp (disch := omega) [hcvi, hcwi, hc8, hN]; rfl) ?_
    intro b5 hb5; try simp only [AHeap.next_new, AHeap.next_set, next_ov, next_delV, AHeap.next_del, next_low] at hb5
    refine aops_store rfl rfl rfl (by simp (disch := omega) [hcvi, hcwi, hc8, hN]; rfl) (by rfl) (by simp (disch := omega) [hcvi, hcwi, hc8, hN]; rfl) (by simp (disch := omega) [hcvi, hcwi, hc8, hN]; rfl) (by simp (disch := omega) [hcvi, hcwi, hc8, hN]; rfl) (by simp (disch := omega) [hcvi, hcwi, hc8, hN]; rfl) (by rfl) (by simp [hcwi] <;> omega) (by simp [setCells] <;> rfl) set_auto ?_
    refine aops_nil ?_
    refine hK10 _ _ ?_
    refine awp_seq_k fun K11 hK11 => ?_
    refine awp_seq_k fun K12 hK12 => ?_
    refine awp_region (by decide) ?_   -- region 6
    refine aops_op rfl rfl rfl (by simp (disch := omega) [hcvi, hcwi, hc8, hN]; rfl) ?_
    refine aops_op rfl rfl rfl (by simp (disch := omega) [hcvi, hcwi, hc8, hN]; rfl) ?_
    refine aops_op rfl rfl rfl (by simp (disch := omega) [hcvi, hcwi, hc8, hN]; rfl) ?_
    refine aops_nil ?_
    refine hK12 _ _ ?_
    refine awp_cond rfl (fun hc13 => ?_) fun hc13 => ?_
    · simp at hc13
      refine awp_seq_k fun K14 hK14 => ?_
      refine awp_draw mixed [0, 1, 2, 3, 4, 6, 7, 8, 9, 5, 10, 11, 12, 13] (by kernel_rfl) ?_   -- region 7
      refine awd_op rfl rfl rfl rfl rfl (by simp (disch := omega) [hcvi, hcwi, hc8, hN, hc13]; rfl) ?_
      refine awd_op rfl rfl rfl rfl rfl (by simp (disch := omega) [hcvi, hcwi, hc8, hN, hc13]; rfl) ?_
      refine awd_ld rfl rfl rfl rfl rfl (by simp (disch := omega) [hcvi, hcwi, hc8, hN, hc13]; rfl) ?_
      refine awd_op rfl rfl rfl rfl rfl (by simp (disch := omega) [hcvi, hcwi, hc8, hN, hc13]; rfl) ?_
      refine awd_op rfl rfl rfl rfl rfl (by simp (disch := omega) [hcvi, hcwi, hc8, hN, hc13]; rfl) ?_
      refine awd_op rfl rfl rfl rfl rfl (by simp (disch := omega) [hcvi, hcwi, hc8, hN, hc13]; rfl) ?_
      refine awd_ld rfl rfl rfl rfl rfl (by simp (disch := omega) [hcvi, hcwi, hc8, hN, hc13]; rfl) ?_
      refine awd_op rfl rfl rfl rfl rfl (by simp (disch := omega) [hcvi, hcwi, hc8, hN, hc13]; rfl) ?_
      refine awd_op rfl rfl rfl rfl rfl (by simp (disch := omega) [hcvi, hcwi, hc8, hN, hc13]; rfl) ?_
      refine awd_callP (u := ?pu15) rfl rfl rfl rfl rfl rfl (by simp (disch := omega) [Wt, hcvi, hcwi, hc8, hN, hc13]) (by simp (disch := omega) [hcvi, hcwi, hc8, hN, hc13]; rfl) ?pk15 ?ph15
      case pk15 =>
        exact ref22_move _ _ _
      refine awd_callP (u := ?pu16) rfl rfl rfl rfl rfl rfl (by simp (disch := omega) [Wt, hcvi, hcwi, hc8, hN, hc13]) (by simp (disch := omega) [hcvi, hcwi, hc8, hN, hc13]; rfl) ?pk16 ?ph16
      case pk16 =>
        exact ref22_move _ _ _
      refine awd_buildSlice rfl rfl rfl rfl rfl (by simp (disch := omega) [hcvi, hcwi, hc8, hN, hc13]; rfl) (by simp (disch := omega) [hcvi, hcwi, hc8, hN, hc13]; rfl) (by simp (disch := omega) [hcvi, hcwi, hc8, hN, hc13]; rfl) (by simp (disch := omega) [hcvi, hcwi, hc8, hN, hc13]; rfl) (by simp) (by simp (disch := omega) [hcvi, hcwi, hc8, hN, hc13, zrep, List.replicate]; rfl) (by simp <;> rfl) ?_
      intro b34 hb34; try simp only [AHeap.next_new, AHeap.next_set, next_ov, next_delV, AHeap.next_del, next_low] at hb34
      refine ⟨(by simp (disch := omega) [Wt, hcvi, hcwi, hc8, hN, hc13]), ?_⟩
      refine awd_appS (enc := encM) (ys := [mvM 0 (2 * p.a + 1), mvM (2 * p.d + 1) 0]) rfl rfl rfl rfl rfl rfl rfl (by simp [fltW, waitsOn] <;> rfl) (by simp (disch := omega) [hcvi, hcwi, hc8, hN, hc13] <;> rfl) (by simp (disch := omega) [hcvi, hcwi, hc8, hN, hc13] <;> rfl) (by first | exact ownId_mk _ _ _ _ | rfl) (hoi.keep keep_auto) ?hy35n17 hlt_auto (fun _ => rfl) (by simp (disch := omega) [hcvi, hcwi, hc8, hN, hc13] <;> rfl) (by simp (disch := omega) [hcvi, hcwi, hc8, hN, hc13] <;> rfl) (by simp (disch := omega) [hcvi, hcwi, hc8, hN, hc13] <;> rfl) (by simp (disch := omega) [hcvi, hcwi, hc8, hN, hc13] <;> rfl) (by simp) (fun _ _ => by simp [encM]) (by simp [maxLen]; grind) ?hh35n17
      case hy35n17 => exact (SliceR.own (enc := encM) (fun _ => rfl) [mvM 0 (2 * p.a + 1), mvM (2 * p.d + 1) 0] (by first | exact AHeap.at_new_self _ _ _ | (simp (disch := omega) <;> rfl)) (by first | omega | (simp <;> omega)) (by simp [encM, mvM, opM]) rfl (by simp) (by simp [maxLen]))
      intro v35 H35 s35 hl35 ho35 hi35 hj35 hn35
      have hcv35 := ho35.cells; have hcw35 := ho35.one; have hx35 := s35.next; simp at hx35; try simp only [AHeap.next_new, AHeap.next_set, next_ov, next_delV, AHeap.next_del, next_low] at hi35
      have hz35 := s35.nexts; try (conv at hz35 => rhs; simp only [AHeap.next_new, AHeap.next_set, next_ov, next_delV, AHeap.next_del, next_low])
      refine ⟨(by simp (disch := omega) [Wt, hcvi, hcwi, hc8, hN, hc13]), ?_⟩
      refine awd_op rfl rfl rfl rfl rfl (by simp (disch := omega) [hcvi, hcwi, hc8, hN, hc13, hcv35, hcw35]; rfl) ?_
      refine awd_nil ?_
      refine hK14 _ _ ?_
      refine awp_exit ?_   -- exit 1
      simp
      refine hK9 _ _ ?_
      refine awp_region (by decide) ?_   -- region 4
      refine aops_op rfl rfl rfl (by simp (disch := omega) [hcvi, hcwi, hc8, hN, hc13, hcv35, hcw35]; rfl) ?_
      refine aops_op rfl rfl rfl (by simp (disch := omega) [hcvi, hcwi, hc8, hN, hc13, hcv35, hcw35]; rfl) ?_
      refine aops_op rfl rfl rfl (by simp (disch := omega) [hcvi, hcwi, hc8, hN, hc13, hcv35, hcw35]; rfl) ?_
      refine aops_nil ?_
      refine hK5 _ _ ?_   -- END OF ROUND
      refine loopTo4 ((i + 1, v35)) rfl (by simp (disch := omega) [hcvi, hcwi, hc8, hN, hc13, hcv35, hcw35]) (by simp [hcvi, hcwi, hc8, hN, hc13, hcv35, hcw35]) sub_auto ?_ (by simp; omega)
      refine ⟨by simp; omega, ?_, by dsimp only; omega⟩
      rw [codeB_take hx]
      refine OwnS.keep (H := H35) ?_ keep_auto
      simpa [insMI, insM, hc13, usesA, usesB, usesD] using ho35
    · simp at hc13
      refine awp_skip ?_
      simp
      refine hK11 _ _ ?_
      refine awp_seq_k fun K18 hK18 => ?_
      refine awp_region (by decide) ?_   -- region 8
      refine aops_op rfl rfl rfl (by simp (disch := omega) [hcvi, hcwi, hc8, hN, hc13]; rfl) ?_
      refine aops_op rfl rfl rfl (by simp (disch := omega) [hcvi, hcwi, hc8, hN, hc13]; rfl) ?_
      refine aops_op rfl rfl rfl (by simp (disch := omega) [hcvi, hcwi, hc8, hN, hc13]; rfl) ?_
      refine aops_op rfl rfl rfl (by simp (disch := omega) [hcvi, hcwi, hc8, hN, hc13]; rfl) ?_
      refine aops_op rfl rfl rfl (by simp (disch := omega) [hcvi, hcwi, hc8, hN, hc13]; rfl) ?_
      refine aops_alloc rfl rfl rfl (by simp (disch := omega) [hcvi, hcwi, hc8, hN, hc13]; rfl) (by simp (disch := omega) [hcvi, hcwi, hc8, hN, hc13]; rfl) ?_
      intro b6 hb6; try simp only [AHeap.next_new, AHeap.next_set, next_ov, next_delV, AHeap.next_del, next_low] at hb6
      refine aops_store rfl rfl rfl (by simp (disch := omega) [hcvi, hcwi, hc8, hN, hc13]; rfl) (by rfl) (by simp (disch := omega) [hcvi, hcwi, hc8, hN, hc13]; rfl) (by simp (disch := omega) [hcvi, hcwi, hc8, hN, hc13]; rfl) (by simp (disch := omega) [hcvi, hcwi, hc8, hN, hc13]; rfl) (by simp (disch := omega) [hcvi, hcwi, hc8, hN, hc13]; rfl) (by rfl) (by simp [hcwi] <;> omega) (by simp [setCells] <;> rfl) set_auto ?_
      refine aops_nil ?_
      refine hK18 _ _ ?_
      refine awp_seq_k fun K19 hK19 => ?_
      refine awp_seq_k fun K20 hK20 => ?_
      refine awp_region (by decide) ?_   -- region 9
      refine aops_op rfl rfl rfl (by simp (disch := omega) [hcvi, hcwi, hc8, hN, hc13]; rfl) ?_
      refine aops_op rfl rfl rfl (by simp (disch := omega) [hcvi, hcwi, hc8, hN, hc13]; rfl) ?_
      refine aops_callP (u := ?pu21) rfl rfl rfl rfl (by simp (disch := omega) [hcvi, hcwi, hc8, hN, hc13]; rfl) ?pk21 ?ph21
      case pk21 =>
        exact ref05_UsesA _ _
      refine aops_nil ?_
      refine hK20 _ _ ?_
      refine awp_cut5 hK19 [3, 44, 45, 46, 47, 48, 49, 50, 51] (fun j : Value => [(3, j)]) (fun H => H.delV (ownId w)) (fun j H' => OwnS H' j 66 7 encM (codeB (x.code.take i) ++ if usesA p.op then [mvM 0 (2 * p.a + 1)] else []) ∧ (ownId j = -1 ∨ ownId j = ownId w ∨ (b6 : Int) < ownId j)) (fun K22 hK22 => ?_) ?_   -- CUT
      ·
        refine awp_cond rfl (fun hc23 => ?_) fun hc23 => ?_
        · simp at hc23
          refine awp_region (by decide) ?_   -- region 10
          refine aops_op rfl rfl rfl (by simp (disch := omega) [hcvi, hcwi, hc8, hN, hc13, hc23]; rfl) ?_
          refine aops_op rfl rfl rfl (by simp (disch := omega) [hcvi, hcwi, hc8, hN, hc13, hc23]; rfl) ?_
          refine aops_op rfl rfl rfl (by simp (disch := omega) [hcvi, hcwi, hc8, hN, hc13, hc23]; rfl) ?_
          refine aops_op rfl rfl rfl (by simp (disch := omega) [hcvi, hcwi, hc8, hN, hc13, hc23]; rfl) ?_
          refine aops_op rfl rfl rfl (by simp (disch := omega) [hcvi, hcwi, hc8, hN, hc13, hc23]; rfl) ?_
          refine aops_callP (u := ?pu24) rfl rfl rfl rfl (by simp (disch := omega) [hcvi, hcwi, hc8, hN, hc13, hc23]; rfl) ?pk24 ?ph24
          case pk24 =>
            exact ref22_move _ _ _
          refine aops_buildSlice rfl rfl rfl (by simp (disch := omega) [hcvi, hcwi, hc8, hN, hc13, hc23]; rfl) (by simp (disch := omega) [hcvi, hcwi, hc8, hN, hc13, hc23]; rfl) (by simp (disch := omega) [hcvi, hcwi, hc8, hN, hc13, hc23]; rfl) (by simp (disch := omega) [hcvi, hcwi, hc8, hN, hc13, hc23]; rfl) (by simp) (by simp (disch := omega) [hcvi, hcwi, hc8, hN, hc13, hc23, zrep, List.replicate]; rfl) (by simp <;> rfl) ?_
          intro b50 hb50; try simp only [AHeap.next_new, AHeap.next_set, next_ov, next_delV, AHeap.next_del, next_low] at hb50
          refine aops_appS (enc := encM) (ys := [mvM 0 (2 * p.a + 1)]) rfl rfl rfl rfl rfl rfl (by simp (disch := omega) [hcvi, hcwi, hc8, hN, hc13, hc23] <;> rfl) (by simp (disch := omega) [hcvi, hcwi, hc8, hN, hc13, hc23] <;> rfl) (by first | exact ownId_mk _ _ _ _ | rfl) (hoi.keep keep_auto) ?hy51n25 hlt_auto (fun _ => rfl) (by simp (disch := omega) [hcvi, hcwi, hc8, hN, hc13, hc23] <;> rfl) (by simp (disch := omega) [hcvi, hcwi, hc8, hN, hc13, hc23] <;> rfl) (by simp (disch := omega) [hcvi, hcwi, hc8, hN, hc13, hc23] <;> rfl) (by simp (disch := omega) [hcvi, hcwi, hc8, hN, hc13, hc23] <;> rfl) (by simp) (fun _ _ => by simp [encM]) (by simp [maxLen]; grind) ?hh51n25
          case hy51n25 => exact (SliceR.own (enc := encM) (fun _ => rfl) [mvM 0 (2 * p.a + 1)] (by first | exact AHeap.at_new_self _ _ _ | (simp (disch := omega) <;> rfl)) (by first | omega | (simp <;> omega)) (by simp [encM, mvM, opM]) rfl (by simp) (by simp [maxLen]))
          intro v51 H51 s51 hl51 ho51 hi51 hj51 hn51
          have hcv51 := ho51.cells; have hcw51 := ho51.one; have hx51 := s51.next; simp at hx51; try simp only [AHeap.next_new, AHeap.next_set, next_ov, next_delV, AHeap.next_del, next_low] at hi51
          have hz51 := s51.nexts; try (conv at hz51 => rhs; simp only [AHeap.next_new, AHeap.next_set, next_ov, next_delV, AHeap.next_del, next_low])
          refine aops_op rfl rfl rfl (by simp (disch := omega) [hcvi, hcwi, hc8, hN, hc13, hc23, hcv51, hcw51]; rfl) ?_
          refine aops_nil ?_
          refine hK22 _ _ ?_   -- END OF CUT
          refine cutTo (v51) rfl (by simp (disch := omega) [hcvi, hcwi, hc8, hN, hc13, hc23, hcv51, hcw51] <;> rfl) (by simp [hcvi, hcwi, hc8, hN, hc13, hc23, hcv51, hcw51]) sub_auto ?_
          refine ⟨?_, by omega⟩
          refine OwnS.keep (H := H51) ?_ keep_auto
          have hq : usesA p.op = true := by grind [usesA]
          simpa [hq] using ho51
        · simp at hc23
          refine awp_skip ?_
          simp
          refine hK22 _ _ ?_   -- END OF CUT
          refine cutTo (w) rfl (by simp (disch := omega) [hcvi, hcwi, hc8, hN, hc13, hc23] <;> rfl) (by simp [hcvi, hcwi, hc8, hN, hc13, hc23]) sub_auto ?_
          refine ⟨?_, by omega⟩
          refine OwnS.keep (H := H_i) ?_ keep_auto
          have hq : usesA p.op = false := by grind [usesA]
          simpa [hq] using hoi
      rintro j H_j s_j hl_j ⟨hoj, hij⟩
      have hx_j := s_j.next; simp at hx_j
      have hz_j := s_j.nexts; try (conv at hz_j => rhs; simp only [AHeap.next_new, AHeap.next_set, next_ov, next_delV, AHeap.next_del, next_low])
      simp
      have hjlj := hoj.id_lt hl_j
      have hcvj := hoj.cells; have hcwj := hoj.one
      refine awp_seq_k fun K26 hK26 => ?_
      refine awp_seq_k fun K27 hK27 => ?_
      refine awp_region (by decide) ?_   -- region 11
      refine aops_op rfl rfl rfl (by simp (disch := omega) [hcvi, hcwi, hc8, hN, hc13, hcvj, hcwj]; rfl) ?_
      refine aops_op rfl rfl rfl (by simp (disch := omega) [hcvi, hcwi, hc8, hN, hc13, hcvj, hcwj]; rfl) ?_
      refine aops_callP (u := ?pu28) rfl rfl rfl rfl (by simp (disch := omega) [hcvi, hcwi, hc8, hN, hc13, hcvj, hcwj]; rfl) ?pk28 ?ph28
      case pk28 =>
        exact ref05_UsesB _ _
      refine aops_nil ?_
      refine hK27 _ _ ?_
      refine awp_cut5 hK26 [3, 55, 56, 57, 58, 59, 60, 61, 62, 63] (fun k : Value => [(3, k)]) (fun H => (H.delV (ownId j)).del b6) (fun k H' => OwnS H' k 66 7 encM ((codeB (x.code.take i) ++ if usesA p.op then [mvM 0 (2 * p.a + 1)] else []) ++ if usesB p.op then [mvM 2 (2 * p.b + 1)] else []) ∧ (ownId k = -1 ∨ ownId k = ownId j ∨ (b6 : Int) < ownId k) ∧ H'.at_ b6 = some (.cells (encM (opM p.op p.imm)) 66 7)) (fun K29 hK29 => ?_) ?_   -- CUT
      ·
        refine awp_cond rfl (fun hc30 => ?_) fun hc30 => ?_
        · simp at hc30
          refine awp_seq_k fun K31 hK31 => ?_
          refine awp_region (by decide) ?_   -- region 12
          refine aops_op rfl rfl rfl (by simp (disch := omega) [hcvi, hcwi, hc8, hN, hc13, hcvj, hcwj, hc30]; rfl) ?_
          refine aops_op rfl rfl rfl (by simp (disch := omega) [hcvi, hcwi, hc8, hN, hc13, hcvj, hcwj, hc30]; rfl) ?_
          refine aops_op rfl rfl rfl (by simp (disch := omega) [hcvi, hcwi, hc8, hN, hc13, hcvj, hcwj, hc30]; rfl) ?_
          refine aops_op rfl rfl rfl (by simp (disch := omega) [hcvi, hcwi, hc8, hN, hc13, hcvj, hcwj, hc30]; rfl) ?_
          refine aops_op rfl rfl rfl (by simp (disch := omega) [hcvi, hcwi, hc8, hN, hc13, hcvj, hcwj, hc30]; rfl) ?_
          refine aops_callP (u := ?pu32) rfl rfl rfl rfl (by simp (disch := omega) [hcvi, hcwi, hc8, hN, hc13, hcvj, hcwj, hc30]; rfl) ?pk32 ?ph32
          case pk32 =>
            exact ref22_move _ _ _
          refine aops_buildSlice rfl rfl rfl (by simp (disch := omega) [hcvi, hcwi, hc8, hN, hc13, hcvj, hcwj, hc30]; rfl) (by simp (disch := omega) [hcvi, hcwi, hc8, hN, hc13, hcvj, hcwj, hc30]; rfl) (by simp (disch := omega) [hcvi, hcwi, hc8, hN, hc13, hcvj, hcwj, hc30]; rfl) (by simp (disch := omega) [hcvi, hcwi, hc8, hN, hc13, hcvj, hcwj, hc30]; rfl) (by simp) (by simp (disch := omega) [hcvi, hcwi, hc8, hN, hc13, hcvj, hcwj, hc30, zrep, List.replicate]; rfl) (by simp <;> rfl) ?_
          intro b61 hb61; try simp only [AHeap.next_new, AHeap.next_set, next_ov, next_delV, AHeap.next_del, next_low] at hb61
          refine aops_appS (enc := encM) (ys := [mvM 2 (2 * p.b + 1)]) rfl rfl rfl rfl rfl rfl (by simp (disch := omega) [hcvi, hcwi, hc8, hN, hc13, hcvj, hcwj, hc30] <;> rfl) (by simp (disch := omega) [hcvi, hcwi, hc8, hN, hc13, hcvj, hcwj, hc30] <;> rfl) (by first | exact ownId_mk _ _ _ _ | rfl) (hoj.keep keep_auto) ?hy62n33 hlt_auto (fun _ => rfl) (by simp (disch := omega) [hcvi, hcwi, hc8, hN, hc13, hcvj, hcwj, hc30] <;> rfl) (by simp (disch := omega) [hcvi, hcwi, hc8, hN, hc13, hcvj, hcwj, hc30] <;> rfl) (by simp (disch := omega) [hcvi, hcwi, hc8, hN, hc13, hcvj, hcwj, hc30] <;> rfl) (by simp (disch := omega) [hcvi, hcwi, hc8, hN, hc13, hcvj, hcwj, hc30] <;> rfl) (by simp) (fun _ _ => by simp [encM]) (by simp [maxLen]; grind) ?hh62n33
          case hy62n33 => exact (SliceR.own (enc := encM) (fun _ => rfl) [mvM 2 (2 * p.b + 1)] (by first | exact AHeap.at_new_self _ _ _ | (simp (disch := omega) <;> rfl)) (by first | omega | (simp <;> omega)) (by simp [encM, mvM, opM]) rfl (by simp) (by simp [maxLen]))
          intro v62 H62 s62 hl62 ho62 hi62 hj62 hn62
          have hcv62 := ho62.cells; have hcw62 := ho62.one; have hx62 := s62.next; simp at hx62; try simp only [AHeap.next_new, AHeap.next_set, next_ov, next_delV, AHeap.next_del, next_low] at hi62
          have hz62 := s62.nexts; try (conv at hz62 => rhs; simp only [AHeap.next_new, AHeap.next_set, next_ov, next_delV, AHeap.next_del, next_low])
          refine aops_op rfl rfl rfl (by simp (disch := omega) [hcvi, hcwi, hc8, hN, hc13, hcvj, hcwj, hc30, hcv62, hcw62]; rfl) ?_
          refine aops_nil ?_
          refine hK31 _ _ ?_
          refine awp_region (by decide) ?_   -- region 13
          refine aops_op rfl rfl rfl (by simp (disch := omega) [hcvi, hcwi, hc8, hN, hc13, hcvj, hcwj, hc30, hcv62, hcw62]; rfl) ?_
          refine aops_store rfl rfl rfl (by simp (disch := omega) [hcvi, hcwi, hc8, hN, hc13, hcvj, hcwj, hc30, hcv62, hcw62]; rfl) (by rfl) (by simp (disch := omega) [hcvi, hcwi, hc8, hN, hc13, hcvj, hcwj, hc30, hcv62, hcw62]; rfl) (by simp (disch := omega) [hcvi, hcwi, hc8, hN, hc13, hcvj, hcwj, hc30, hcv62, hcw62]; rfl) (by simp (disch := omega) [hcvi, hcwi, hc8, hN, hc13, hcvj, hcwj, hc30, hcv62, hcw62]; rfl) (by simp (disch := omega) [hcvi, hcwi, hc8, hN, hc13, hcvj, hcwj, hc30, hcv62, hcw62]; rfl) (by rfl) (by simp [hcwi, hcwj, hcw62] <;> omega) (by simp [setCells] <;> rfl) set_auto ?_
          refine aops_nil ?_
          refine hK29 _ _ ?_   -- END OF CUT
          refine cutTo (v62) rfl (by simp (disch := omega) [hcvi, hcwi, hc8, hN, hc13, hcvj, hcwj, hc30, hcv62, hcw62] <;> rfl) (by simp [hcvi, hcwi, hc8, hN, hc13, hcvj, hcwj, hc30, hcv62, hcw62]) sub_auto ?_
          refine ⟨?_, by omega, ?_⟩
          refine OwnS.keep (H := H62) ?_ keep_auto
          have hq : usesB p.op = true := by grind [usesB]
          simpa [hq] using ho62
          have hq : usesB p.op = true := by grind [usesB]
          simp [encM, opM, hq]
        · simp at hc30
          refine awp_skip ?_
          simp
          refine hK29 _ _ ?_   -- END OF CUT
          refine cutTo (j) rfl (by simp (disch := omega) [hcvi, hcwi, hc8, hN, hc13, hcvj, hcwj, hc30] <;> rfl) (by simp [hcvi, hcwi, hc8, hN, hc13, hcvj, hcwj, hc30]) sub_auto ?_
          refine ⟨?_, by omega, ?_⟩
          refine OwnS.keep (H := H_j) ?_ keep_auto
          have hq : usesB p.op = false := by grind [usesB]
          simpa [hq] using hoj
          have hq : usesB p.op = false := by grind [usesB]
          simp (disch := omega) [encM, opM, hq]
      rintro k H_k s_k hl_k ⟨hok, hik, hmk⟩
      have hx_k := s_k.next; simp at hx_k
      have hz_k := s_k.nexts; try (conv at hz_k => rhs; simp only [AHeap.next_new, AHeap.next_set, next_ov, next_delV, AHeap.next_del, next_low])
      simp
      have hjlk := hok.id_lt hl_k
      have hcvk := hok.cells; have hcwk := hok.one
      refine awp_seq_k fun K34 hK34 => ?_
      refine awp_region (by decide) ?_   -- region 14
      refine aops_op rfl rfl rfl (by simp (disch := omega) [hcvi, hcwi, hc8, hN, hc13, hcvj, hcwj, hcvk, hcwk, hmk, encM, opM]; rfl) ?_
      refine aops_op rfl rfl rfl (by simp (disch := omega) [hcvi, hcwi, hc8, hN, hc13, hcvj, hcwj, hcvk, hcwk, hmk, encM, opM]; rfl) ?_
      refine aops_buildSlice rfl rfl rfl (by simp (disch := omega) [hcvi, hcwi, hc8, hN, hc13, hcvj, hcwj, hcvk, hcwk, hmk, encM, opM]; rfl) (by simp (disch := omega) [hcvi, hcwi, hc8, hN, hc13, hcvj, hcwj, hcvk, hcwk, hmk, encM, opM]; rfl) (by simp (disch := omega) [hcvi, hcwi, hc8, hN, hc13, hcvj, hcwj, hcvk, hcwk, hmk, encM, opM]; rfl) (by simp (disch := omega) [hcvi, hcwi, hc8, hN, hc13, hcvj, hcwj, hcvk, hcwk, hmk, encM, opM]; rfl) (by simp) (by simp (disch := omega) [hcvi, hcwi, hc8, hN, hc13, hcvj, hcwj, hcvk, hcwk, hmk, encM, opM, zrep, List.replicate]; rfl) (by simp <;> rfl) ?_
      intro b66 hb66; try simp only [AHeap.next_new, AHeap.next_set, next_ov, next_delV, AHeap.next_del, next_low] at hb66
      refine aops_appS (enc := encM) (ys := [opM p.op p.imm]) rfl rfl rfl rfl rfl rfl (by simp (disch := omega) [hcvi, hcwi, hc8, hN, hc13, hcvj, hcwj, hcvk, hcwk, hmk, encM, opM] <;> rfl) (by simp (disch := omega) [hcvi, hcwi, hc8, hN, hc13, hcvj, hcwj, hcvk, hcwk, hmk, encM, opM] <;> rfl) (by first | exact ownId_mk _ _ _ _ | rfl) (hok.keep keep_auto) ?hy67n35 hlt_auto (fun _ => rfl) (by simp (disch := omega) [hcvi, hcwi, hc8, hN, hc13, hcvj, hcwj, hcvk, hcwk, hmk, encM, opM] <;> rfl) (by simp (disch := omega) [hcvi, hcwi, hc8, hN, hc13, hcvj, hcwj, hcvk, hcwk, hmk, encM, opM] <;> rfl) (by simp (disch := omega) [hcvi, hcwi, hc8, hN, hc13, hcvj, hcwj, hcvk, hcwk, hmk, encM, opM] <;> rfl) (by simp (disch := omega) [hcvi, hcwi, hc8, hN, hc13, hcvj, hcwj, hcvk, hcwk, hmk, encM, opM] <;> rfl) (by simp) (fun _ _ => by simp [encM]) (by simp [maxLen]; grind) ?hh67n35
      case hy67n35 => exact (SliceR.own (enc := encM) (fun _ => rfl) [opM p.op p.imm] (by first | exact AHeap.at_new_self _ _ _ | (simp (disch := omega) <;> rfl)) (by first | omega | (simp <;> omega)) (by simp [encM, mvM, opM]) rfl (by simp) (by simp [maxLen]))
      intro v67 H67 s67 hl67 ho67 hi67 hj67 hn67
      have hcv67 := ho67.cells; have hcw67 := ho67.one; have hx67 := s67.next; simp at hx67; try simp only [AHeap.next_new, AHeap.next_set, next_ov, next_delV, AHeap.next_del, next_low] at hi67
      have hz67 := s67.nexts; try (conv at hz67 => rhs; simp only [AHeap.next_new, AHeap.next_set, next_ov, next_delV, AHeap.next_del, next_low])
      refine aops_op rfl rfl rfl (by simp (disch := omega) [hcvi, hcwi, hc8, hN, hc13, hcvj, hcwj, hcvk, hcwk, hmk, encM, opM, hcv67, hcw67]; rfl) ?_
      refine aops_nil ?_
      refine hK34 _ _ ?_
      refine awp_seq_k fun K36 hK36 => ?_
      refine awp_region (by decide) ?_   -- region 15
      refine aops_op rfl rfl rfl (by simp (disch := omega) [hcvi, hcwi, hc8, hN, hc13, hcvj, hcwj, hcvk, hcwk, hmk, encM, opM, hcv67, hcw67]; rfl) ?_
      refine aops_op rfl rfl rfl (by simp (disch := omega) [hcvi, hcwi, hc8, hN, hc13, hcvj, hcwj, hcvk, hcwk, hmk, encM, opM, hcv67, hcw67]; rfl) ?_
      refine aops_callP (u := ?pu37) rfl rfl rfl rfl (by simp (disch := omega) [hcvi, hcwi, hc8, hN, hc13, hcvj, hcwj, hcvk, hcwk, hmk, encM, opM, hcv67, hcw67]; rfl) ?pk37 ?ph37
      case pk37 =>
        exact ref05_UsesD _ _
      refine aops_nil ?_
      refine hK36 _ _ ?_
      refine awp_cond rfl (fun hc38 => ?_) fun hc38 => ?_
      · simp at hc38
        refine awp_region (by decide) ?_   -- region 16
        refine aops_op rfl rfl rfl (by simp (disch := omega) [hcvi, hcwi, hc8, hN, hc13, hcvj, hcwj, hcvk, hcwk, hmk, encM, opM, hcv67, hcw67, hc38]; rfl) ?_
        refine aops_op rfl rfl rfl (by simp (disch := omega) [hcvi, hcwi, hc8, hN, hc13, hcvj, hcwj, hcvk, hcwk, hmk, encM, opM, hcv67, hcw67, hc38]; rfl) ?_
        refine aops_op rfl rfl rfl (by simp (disch := omega) [hcvi, hcwi, hc8, hN, hc13, hcvj, hcwj, hcvk, hcwk, hmk, encM, opM, hcv67, hcw67, hc38]; rfl) ?_
        refine aops_op rfl rfl rfl (by simp (disch := omega) [hcvi, hcwi, hc8, hN, hc13, hcvj, hcwj, hcvk, hcwk, hmk, encM, opM, hcv67, hcw67, hc38]; rfl) ?_
        refine aops_op rfl rfl rfl (by simp (disch := omega) [hcvi, hcwi, hc8, hN, hc13, hcvj, hcwj, hcvk, hcwk, hmk, encM, opM, hcv67, hcw67, hc38]; rfl) ?_
        refine aops_callP (u := ?pu39) rfl rfl rfl rfl (by simp (disch := omega) [hcvi, hcwi, hc8, hN, hc13, hcvj, hcwj, hcvk, hcwk, hmk, encM, opM, hcv67, hcw67, hc38]; rfl) ?pk39 ?ph39
        case pk39 =>
          exact ref22_move _ _ _
        refine aops_buildSlice rfl rfl rfl (by simp (disch := omega) [hcvi, hcwi, hc8, hN, hc13, hcvj, hcwj, hcvk, hcwk, hmk, encM, opM, hcv67, hcw67, hc38]; rfl) (by simp (disch := omega) [hcvi, hcwi, hc8, hN, hc13, hcvj, hcwj, hcvk, hcwk, hmk, encM, opM, hcv67, hcw67, hc38]; rfl) (by simp (disch := omega) [hcvi, hcwi, hc8, hN, hc13, hcvj, hcwj, hcvk, hcwk, hmk, encM, opM, hcv67, hcw67, hc38]; rfl) (by simp (disch := omega) [hcvi, hcwi, hc8, hN, hc13, hcvj, hcwj, hcvk, hcwk, hmk, encM, opM, hcv67, hcw67, hc38]; rfl) (by simp) (by simp (disch := omega) [hcvi, hcwi, hc8, hN, hc13, hcvj, hcwj, hcvk, hcwk, hmk, encM, opM, hcv67, hcw67, hc38, zrep, List.replicate]; rfl) (by simp <;> rfl) ?_
        intro b77 hb77; try simp only [AHeap.next_new, AHeap.next_set, next_ov, next_delV, AHeap.next_del, next_low] at hb77
        refine aops_appS (enc := encM) (ys := [mvM (2 * p.d + 1) 0]) rfl rfl rfl rfl rfl rfl (by simp (disch := omega) [hcvi, hcwi, hc8, hN, hc13, hcvj, hcwj, hcvk, hcwk, hmk, encM, opM, hcv67, hcw67, hc38] <;> rfl) (by simp (disch := omega) [hcvi, hcwi, hc8, hN, hc13, hcvj, hcwj, hcvk, hcwk, hmk, encM, opM, hcv67, hcw67, hc38] <;> rfl) (by first | exact ownId_mk _ _ _ _ | rfl) (ho67.keep keep_auto) ?hy78n40 hlt_auto (fun _ => rfl) (by simp (disch := omega) [hcvi, hcwi, hc8, hN, hc13, hcvj, hcwj, hcvk, hcwk, hmk, encM, opM, hcv67, hcw67, hc38] <;> rfl) (by simp (disch := omega) [hcvi, hcwi, hc8, hN, hc13, hcvj, hcwj, hcvk, hcwk, hmk, encM, opM, hcv67, hcw67, hc38] <;> rfl) (by simp (disch := omega) [hcvi, hcwi, hc8, hN, hc13, hcvj, hcwj, hcvk, hcwk, hmk, encM, opM, hcv67, hcw67, hc38] <;> rfl) (by simp (disch := omega) [hcvi, hcwi, hc8, hN, hc13, hcvj, hcwj, hcvk, hcwk, hmk, encM, opM, hcv67, hcw67, hc38] <;> rfl) (by simp) (fun _ _ => by simp [encM]) (by simp [maxLen]; grind) ?hh78n40
        case hy78n40 => exact (SliceR.own (enc := encM) (fun _ => rfl) [mvM (2 * p.d + 1) 0] (by first | exact AHeap.at_new_self _ _ _ | (simp (disch := omega) <;> rfl)) (by first | omega | (simp <;> omega)) (by simp [encM, mvM, opM]) rfl (by simp) (by simp [maxLen]))
        intro v78 H78 s78 hl78 ho78 hi78 hj78 hn78
        have hcv78 := ho78.cells; have hcw78 := ho78.one; have hx78 := s78.next; simp at hx78; try simp only [AHeap.next_new, AHeap.next_set, next_ov, next_delV, AHeap.next_del, next_low] at hi78
        have hz78 := s78.nexts; try (conv at hz78 => rhs; simp only [AHeap.next_new, AHeap.next_set, next_ov, next_delV, AHeap.next_del, next_low])
        refine aops_op rfl rfl rfl (by simp (disch := omega) [hcvi, hcwi, hc8, hN, hc13, hcvj, hcwj, hcvk, hcwk, hmk, encM, opM, hcv67, hcw67, hc38, hcv78, hcw78]; rfl) ?_
        refine aops_nil ?_
        refine hK9 _ _ ?_
        refine awp_region (by decide) ?_   -- region 4
        refine aops_op rfl rfl rfl (by simp (disch := omega) [hcvi, hcwi, hc8, hN, hc13, hcvj, hcwj, hcvk, hcwk, hmk, encM, opM, hcv67, hcw67, hc38, hcv78, hcw78]; rfl) ?_
        refine aops_op rfl rfl rfl (by simp (disch := omega) [hcvi, hcwi, hc8, hN, hc13, hcvj, hcwj, hcvk, hcwk, hmk, encM, opM, hcv67, hcw67, hc38, hcv78, hcw78]; rfl) ?_
        refine aops_op rfl rfl rfl (by simp (disch := omega) [hcvi, hcwi, hc8, hN, hc13, hcvj, hcwj, hcvk, hcwk, hmk, encM, opM, hcv67, hcw67, hc38, hcv78, hcw78]; rfl) ?_
        refine aops_nil ?_
        refine hK5 _ _ ?_   -- END OF ROUND
        refine loopTo4 ((i + 1, v78)) rfl (by simp (disch := omega) [hcvi, hcwi, hc8, hN, hc13, hcvj, hcwj, hcvk, hcwk, hmk, encM, opM, hcv67, hcw67, hc38, hcv78, hcw78]) (by simp [hcvi, hcwi, hc8, hN, hc13, hcvj, hcwj, hcvk, hcwk, hmk, encM, opM, hcv67, hcw67, hc38, hcv78, hcw78]) sub_auto ?_ (by simp; omega)
        refine ⟨by simp; omega, ?_, by dsimp only; omega⟩
        rw [codeB_take hx]
        refine OwnS.keep (H := H78) ?_ keep_auto
        have hq : usesD p.op = true := by grind [usesD]
        simpa [insMI, insM, hc13, hq] using ho78
      · simp at hc38
        refine awp_skip ?_
        simp
        refine hK9 _ _ ?_
        refine awp_region (by decide) ?_   -- region 4
        refine aops_op rfl rfl rfl (by simp (disch := omega) [hcvi, hcwi, hc8, hN, hc13, hcvj, hcwj, hcvk, hcwk, hmk, encM, opM, hcv67, hcw67, hc38]; rfl) ?_
        refine aops_op rfl rfl rfl (by simp (disch := omega) [hcvi, hcwi, hc8, hN, hc13, hcvj, hcwj, hcvk, hcwk, hmk, encM, opM, hcv67, hcw67, hc38]; rfl) ?_
        refine aops_op rfl rfl rfl (by simp (disch := omega) [hcvi, hcwi, hc8, hN, hc13, hcvj, hcwj, hcvk, hcwk, hmk, encM, opM, hcv67, hcw67, hc38]; rfl) ?_
        refine aops_nil ?_
        refine hK5 _ _ ?_   -- END OF ROUND
        refine loopTo4 ((i + 1, v67)) rfl (by simp (disch := omega) [hcvi, hcwi, hc8, hN, hc13, hcvj, hcwj, hcvk, hcwk, hmk, encM, opM, hcv67, hcw67, hc38]) (by simp [hcvi, hcwi, hc8, hN, hc13, hcvj, hcwj, hcvk, hcwk, hmk, encM, opM, hcv67, hcw67, hc38]) sub_auto ?_ (by simp; omega)
        refine ⟨by simp; omega, ?_, by dsimp only; omega⟩
        rw [codeB_take hx]
        refine OwnS.keep (H := H67) ?_ keep_auto
        have hq : usesD p.op = false := by grind [usesD]
        simpa [insMI, insM, hc13, hq] using ho67
  · simp at hc8
    refine awp_exit ?_   -- exit 0
    simp
    refine hK3 _ _ ?_
    refine awp_seq_k fun K41 hK41 => ?_
    refine awp_region (by decide) ?_   -- region 17
    refine aops_op rfl rfl rfl (by simp (disch := omega) [hcvi, hcwi, hc8]; rfl) ?_
    refine aops_op rfl rfl rfl (by simp (disch := omega) [hcvi, hcwi, hc8]; rfl) ?_
    refine aops_alloc rfl rfl rfl (by simp (disch := omega) [hcvi, hcwi, hc8]; rfl) (by simp (disch := omega) [hcvi, hcwi, hc8]; rfl) ?_
    intro b7 hb7; try simp only [AHeap.next_new, AHeap.next_set, next_ov, next_delV, AHeap.next_del, next_low] at hb7
    refine aops_store rfl rfl rfl (by simp (disch := omega) [hcvi, hcwi, hc8]; rfl) (by rfl) (by simp (disch := omega) [hcvi, hcwi, hc8]; rfl) (by simp (disch := omega) [hcvi, hcwi, hc8]; rfl) (by simp (disch := omega) [hcvi, hcwi, hc8]; rfl) (by simp (disch := omega) [hcvi, hcwi, hc8]; rfl) (by rfl) (by simp [hcwi] <;> omega) (by simp [setCells] <;> rfl) set_auto ?_
    refine aops_nil ?_
    refine hK41 _ _ ?_
    refine awp_seq_k fun K42 hK42 => ?_
    refine awp_seq_k fun K43 hK43 => ?_
    refine awp_region (by decide) ?_   -- region 18
    refine aops_op rfl rfl rfl (by simp (disch := omega) [hcvi, hcwi, hc8]; rfl) ?_
    refine aops_op rfl rfl rfl (by simp (disch := omega) [hcvi, hcwi, hc8]; rfl) ?_
    refine aops_op rfl rfl rfl (by simp (disch := omega) [hcvi, hcwi, hc8]; rfl) ?_
    refine aops_nil ?_
    refine hK43 _ _ ?_
    refine awp_cut5 hK42 [3, 84, 85, 86, 87, 88, 89, 90, 91] (fun q : Value => [(3, q)]) (fun H => H.delV (ownId w)) (fun q H' => OwnS H' q 66 7 encM ((blkM x).code) ∧ (ownId q = -1 ∨ ownId q = ownId w ∨ (b7 : Int) < ownId q)) (fun K44 hK44 => ?_) ?_   -- CUT
    ·
      refine awp_cond rfl (fun hc45 => ?_) fun hc45 => ?_
      · simp at hc45
        refine awp_region (by decide) ?_   -- region 19
        refine aops_op rfl rfl rfl (by simp (disch := omega) [hcvi, hcwi, hc8, hc45]; rfl) ?_
        refine aops_op rfl rfl rfl (by simp (disch := omega) [hcvi, hcwi, hc8, hc45]; rfl) ?_
        refine aops_op rfl rfl rfl (by simp (disch := omega) [hcvi, hcwi, hc8, hc45]; rfl) ?_
        refine aops_op rfl rfl rfl (by simp (disch := omega) [hcvi, hcwi, hc8, hc45]; rfl) ?_
        refine aops_op rfl rfl rfl (by simp (disch := omega) [hcvi, hcwi, hc8, hc45]; rfl) ?_
        refine aops_callP (u := ?pu46) rfl rfl rfl rfl (by simp (disch := omega) [hcvi, hcwi, hc8, hc45]; rfl) ?pk46 ?ph46
        case pk46 =>
          exact ref22_move _ _ _
        refine aops_buildSlice rfl rfl rfl (by simp (disch := omega) [hcvi, hcwi, hc8, hc45]; rfl) (by simp (disch := omega) [hcvi, hcwi, hc8, hc45]; rfl) (by simp (disch := omega) [hcvi, hcwi, hc8, hc45]; rfl) (by simp (disch := omega) [hcvi, hcwi, hc8, hc45]; rfl) (by simp) (by simp (disch := omega) [hcvi, hcwi, hc8, hc45, zrep, List.replicate]; rfl) (by simp <;> rfl) ?_
        intro b90 hb90; try simp only [AHeap.next_new, AHeap.next_set, next_ov, next_delV, AHeap.next_del, next_low] at hb90
        refine aops_appS (enc := encM) (ys := [mvM 0 (2 * x.term.a + 1)]) rfl rfl rfl rfl rfl rfl (by simp (disch := omega) [hcvi, hcwi, hc8, hc45] <;> rfl) (by simp (disch := omega) [hcvi, hcwi, hc8, hc45] <;> rfl) (by first | exact ownId_mk _ _ _ _ | rfl) (hoi.keep keep_auto) ?hy91n47 hlt_auto (fun _ => rfl) (by simp (disch := omega) [hcvi, hcwi, hc8, hc45] <;> rfl) (by simp (disch := omega) [hcvi, hcwi, hc8, hc45] <;> rfl) (by simp (disch := omega) [hcvi, hcwi, hc8, hc45] <;> rfl) (by simp (disch := omega) [hcvi, hcwi, hc8, hc45] <;> rfl) (by simp) (fun _ _ => by simp [encM]) (by simp [maxLen]; grind) ?hh91n47
        case hy91n47 => exact (SliceR.own (enc := encM) (fun _ => rfl) [mvM 0 (2 * x.term.a + 1)] (by first | exact AHeap.at_new_self _ _ _ | (simp (disch := omega) <;> rfl)) (by first | omega | (simp <;> omega)) (by simp [encM, mvM, opM]) rfl (by simp) (by simp [maxLen]))
        intro v91 H91 s91 hl91 ho91 hi91 hj91 hn91
        have hcv91 := ho91.cells; have hcw91 := ho91.one; have hx91 := s91.next; simp at hx91; try simp only [AHeap.next_new, AHeap.next_set, next_ov, next_delV, AHeap.next_del, next_low] at hi91
        have hz91 := s91.nexts; try (conv at hz91 => rhs; simp only [AHeap.next_new, AHeap.next_set, next_ov, next_delV, AHeap.next_del, next_low])
        refine aops_op rfl rfl rfl (by simp (disch := omega) [hcvi, hcwi, hc8, hc45, hcv91, hcw91]; rfl) ?_
        refine aops_nil ?_
        refine hK44 _ _ ?_   -- END OF CUT
        refine cutTo (v91) rfl (by simp (disch := omega) [hcvi, hcwi, hc8, hc45, hcv91, hcw91] <;> rfl) (by simp [hcvi, hcwi, hc8, hc45, hcv91, hcw91]) sub_auto ?_
        refine ⟨?_, by omega⟩
        refine OwnS.keep (H := H91) ?_ keep_auto
        simpa [blkM, endM, hc45, codeB_all (show x.code.length ≤ i by omega)] using ho91
      · simp at hc45
        refine awp_skip ?_
        simp
        refine hK44 _ _ ?_   -- END OF CUT
        refine cutTo (w) rfl (by simp (disch := omega) [hcvi, hcwi, hc8, hc45] <;> rfl) (by simp [hcvi, hcwi, hc8, hc45]) sub_auto ?_
        refine ⟨?_, by omega⟩
        refine OwnS.keep (H := H_i) ?_ keep_auto
        simpa [blkM, endM, hc45, codeB_all (show x.code.length ≤ i by omega)] using hoi
    rintro q H_q s_q hl_q ⟨hoq, hiq⟩
    have hx_q := s_q.next; simp at hx_q
    have hz_q := s_q.nexts; try (conv at hz_q => rhs; simp only [AHeap.next_new, AHeap.next_set, next_ov, next_delV, AHeap.next_del, next_low])
    simp
    have hjlq := hoq.id_lt hl_q
    have hcvq := hoq.cells; have hcwq := hoq.one
    refine awp_seq_k fun K48 hK48 => ?_
    refine awp_region (by decide) ?_   -- region 20
    refine aops_op rfl rfl rfl (by simp (disch := omega) [hcvi, hcwi, hc8, hcvq, hcwq]; rfl) ?_
    refine aops_store rfl rfl rfl (by simp (disch := omega) [hcvi, hcwi, hc8, hcvq, hcwq]; rfl) (by rfl) (by simp (disch := omega) [hcvi, hcwi, hc8, hcvq, hcwq]; rfl) (by simp (disch := omega) [hcvi, hcwi, hc8, hcvq, hcwq]; rfl) (by simp (disch := omega) [hcvi, hcwi, hc8, hcvq, hcwq]; rfl) (by simp (disch := omega) [hcvi, hcwi, hc8, hcvq, hcwq]; rfl) (by rfl) (by simp [hcwi, hcwq] <;> omega) (by simp [setCells] <;> rfl) set_auto ?_
    refine aops_nil ?_
    refine hK48 _ _ ?_
    refine awp_seq_k fun K49 hK49 => ?_
    refine awp_region (by decide) ?_   -- region 21
    refine aops_op rfl rfl rfl (by simp (disch := omega) [hcvi, hcwi, hc8, hcvq, hcwq]; rfl) ?_
    refine aops_op rfl rfl rfl (by simp (disch := omega) [hcvi, hcwi, hc8, hcvq, hcwq]; rfl) ?_
    refine aops_op rfl rfl rfl (by simp (disch := omega) [hcvi, hcwi, hc8, hcvq, hcwq]; rfl) ?_
    refine aops_store rfl rfl rfl (by simp (disch := omega) [hcvi, hcwi, hc8, hcvq, hcwq]; rfl) (by rfl) (by simp (disch := omega) [hcvi, hcwi, hc8, hcvq, hcwq]; rfl) (by simp (disch := omega) [hcvi, hcwi, hc8, hcvq, hcwq]; rfl) (by simp (disch := omega) [hcvi, hcwi, hc8, hcvq, hcwq]; rfl) (by simp (disch := omega) [hcvi, hcwi, hc8, hcvq, hcwq]; rfl) (by rfl) (by simp [hcwi, hcwq] <;> omega) (by simp [setCells] <;> rfl) set_auto ?_
    refine aops_nil ?_
    refine hK49 _ _ ?_
    refine awp_lt fun hltE => ?_
    refine awp_ret ?_
    try simp only [thenA, blockA]
    refine fpost_retR hR' hlt_auto rfl (by simp (disch := omega) [hcvi, hcwi, hc8, hcvq, hcwq] <;> rfl) sub_auto ?_
    -- WAY 1
    refine ⟨q, by simp [resV], hoq.keep keep_auto, ?_⟩
    omega

end Go.Proofs.Yteklhgmoniaieaa.Fn
