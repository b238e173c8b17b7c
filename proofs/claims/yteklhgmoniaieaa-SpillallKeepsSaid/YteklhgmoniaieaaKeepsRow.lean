/- SpillallKeeps: for every function the law returns true: the function is not modified, and the certificate shares no memory with it. Every input: no condition. -/
import Derived.Test.YteklhgmoniaieaaRows
import Derived.Test.YteklhgmoniaieaaAhFi
import Derived.Test.YteklhgmoniaieaaAhRow
import Derived.ProofKit
import Derived.OpenShut
import Derived.ShutString
import Derived.ChangeOld
import Derived.Below
import Derived.SizedLaws
set_option linter.unusedVariables false
namespace Go.Proofs.Yteklhgmoniaieaa.keeps
open Go.ChangeShapes Go.WideShapes Go.ChangeAt Go.RowKit Go.Proofs.YteklhgmoniaieaaAh
theorem own : ownKnob Try.prog.godebug = none := by kernel_rfl
theorem laidOut : laidOutB Try.prog = true := by kernel_rfl
theorem trB : Tr Try.prog 41 rB := tr_B (ts := 37) (tt := 39) (ti := 43) (by kernel_rfl) (by kernel_rfl) (by kernel_rfl) (by kernel_rfl) Try.underlying37 (by kernel_rfl) (by kernel_rfl) (by kernel_rfl)
theorem trF : Tr Try.prog 24 rF := tr_F (a := 3) (b := 3) (ts := 22) (by kernel_rfl) (by kernel_rfl) (by kernel_rfl) (by kernel_rfl) (by kernel_rfl) (by kernel_rfl) (by kernel_rfl) Try.underlying22 (by kernel_rfl) trB
set_option maxRecDepth 100000 in
theorem lifted (os : Os) (started : os.Started) (H : Type) (enc : TypeId × Value → H) :
    ReturnsInHanded {} Try.checked os 3 .any (Rows.spillallKeepsSpec.pre6 enc Try.prog Try.f3 Rows.spillallKeepsRow.domain false) (Rows.spillallKeepsSpec.post enc Try.prog Try.f3 false true false false) := by
  refine returnsInHanded_of_change_sized (C := Try.checked) own started (by kernel_rfl) Try.func3
    (ChangeSpec.witness6 (enc := enc) (C := Try.checked) false ⟨#[], #[.agg #[.int .i64 0, .int .i64 0, .slice none 0 0]], []⟩ 8 (by kernel_rfl) (by kernel_rfl) (by kernel_rfl) (by kernel_rfl)) ?_
  intro W base args ds gs before hval0 hW hcnd hsz0 _
  have hval : ∀ (j : Nat) t v, Try.f3.params[j]? = some t → args[j]? = some v → Value.okWide Try.prog W .any base t v := hval0
  have hW' := hW
  obtain ⟨p, q, hA0, hV, rfl, hfz, hnd⟩ := hW
  have hA : DataW.TrodAll enc Try.prog W 0 (fun _ => true) true Try.f3.params.toList args.toList ds p := hA0
  rw [Try.params3] at hA hval
  obtain ⟨v0, vs0, d0, ds0, p0, q0, hargs, rfl, rfl, h0, r0⟩ := trodAll_cons hA
  obtain ⟨rfl, rfl, rfl⟩ := trodAll_nil r0
  obtain rfl : args = #[v0] := by cases args; simp_all
  obtain ⟨rfl, rfl⟩ := trodVars_none hV
  have k0 := h0
  have lt0 : ∀ x ∈ p0, x.block < W.heap.size := by obtain ⟨m, hm⟩ := k0; exact DataW.trod_lt m _ _ _ hm
  obtain ⟨cs, rfl, hcs⟩ : ∃ cs, v0 = .agg cs ∧ cs.size = Try.prog.cellsOf 24 := okWide_struct Try.underlying24 (hval 0 24 v0 rfl rfl)
  obtain ⟨fuel, hf⟩ := h0
  obtain ⟨f, v, hcells, hs⟩ := trF hf
  have hc2 : cs = #[iv f.args, iv f.regs, v] := by
    apply Array.toList_inj.1
    simpa [Value.cells] using hcells
  subst hc2
  clear hA0 hval0 hsz0
  refine ((Fn.law_Keeps f v (heap0 W) hs).2 W (heap0_rel W)).mono fun e W' hR => ?_
  obtain ⟨H', st, u, he, hsub, hu⟩ := hR
  subst he
  subst hu
  have bel := st.below
  exact ⟨_, rfl, _, _, _, [], _, [], hW', trodAll_mk1 (shut_bool Try.underlying4 _), (trodAll_cons_mk (Below.trod laidOut (by kernel_rfl) (of_decide_eq_true (by kernel_rfl)) k0 bel lt0) trodAll_mk0), rfl, bel.frame _, fun h => by cases h⟩
theorem over : Rows.spillallKeepsRow.holds Try.pinned (OpenSpec.ofChange Rows.spillallKeepsSpec) :=
  OpenClaim.holds_of_wide 3 Try.f3 rfl rfl rfl rfl rfl rfl rfl ⟨rfl, rfl, rfl, rfl, rfl⟩ rfl rfl rfl rfl rfl (by kernel_rfl) Try.func3 (by kernel_rfl)
    (of_decide_eq_true (by kernel_rfl)) (by unfold Func.isWrapper; first | (rw [if_pos (by decide +kernel)]; kernel_rfl) | (rw [if_neg (by decide +kernel)]; exact ⟨rfl, rfl⟩))
    (fun os started H enc _ => lifted os started H enc)
end Go.Proofs.Yteklhgmoniaieaa.keeps
namespace Go.Proofs.Yteklhgmoniaieaa
theorem spillallKeeps_holds : Rows.SpillallKeepsSaid := keeps.over
#print axioms spillallKeeps_holds
end Go.Proofs.Yteklhgmoniaieaa
