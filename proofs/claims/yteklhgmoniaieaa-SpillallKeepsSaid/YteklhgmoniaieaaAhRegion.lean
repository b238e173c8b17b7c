/- Regions. In the text's order, or in whatever order the tape says: then by ONE order (checked by computation) in which what only reckons and the loads come as early as they can; a load that was taken early is watched: what may come between must leave it as it is. -/
import Derived.Test.YteklhgmoniaieaaAhOps
import Derived.Tactics
set_option linter.unusedVariables false
set_option linter.unusedSimpArgs false
namespace Go.Proofs.YteklhgmoniaieaaAh

section
variable {P : Program} {ops : Array Oper} {Q : Exit → Act → World → Prop}

def waitsOn (ops : Array Oper) (j i : Nat) : Bool :=
  match ops[j]? with
  | some o => o.after.toList.any fun e => Region.binds .any e && e.on == i
  | none => false
def fltW {α : Type} (ops : Array Oper) (j : Nat) (W : List (Nat × α)) : List (Nat × α) := W.filter fun p => !waitsOn ops j p.1 && p.1 != j

def wpAnyG (P : Program) (ops : Array Oper) (Q : Exit → Act → World → Prop) : List (Nat × (World → Prop)) → Nat → Array Bool → Act → World → Prop
  | _, 0, listed, a, w => Region.ready .any ops listed = [] ∧ Q .normal a w
  | W, fuel + 1, listed, a, w =>
    (Region.ready .any ops listed = [] → Q .normal a w) ∧
    ∀ j ∈ Region.ready .any ops listed, wpOp P ops Q j (fun a' w' => (∀ p ∈ fltW ops j W, p.2 w') ∧ wpAnyG P ops Q (fltW ops j W) fuel (listed.setIfInBounds j true) a' w') a w

theorem wpAnyG_less : ∀ (fuel : Nat) (W W' : List (Nat × (World → Prop))) (listed : Array Bool) (a : Act) (w : World), (∀ p ∈ W', p ∈ W) →
    wpAnyG P ops Q W fuel listed a w → wpAnyG P ops Q W' fuel listed a w
  | 0, _, _, _, _, _, _, h => h
  | fuel + 1, W, W', listed, a, w, hs, h => ⟨h.1, fun j hj => wpOp_mono (fun a' w' h' => by
      have hsub : ∀ p ∈ fltW ops j W', p ∈ fltW ops j W := fun p hp => by
        obtain ⟨h1, h2⟩ := List.mem_filter.1 hp
        exact List.mem_filter.2 ⟨hs p h1, h2⟩
      exact ⟨fun p hp => h'.1 p (hsub p hp), wpAnyG_less fuel _ _ _ _ _ hsub h'.2⟩) (h.2 j hj)⟩
theorem wpAny_of_G : ∀ (fuel : Nat) (W : List (Nat × (World → Prop))) (listed : Array Bool) (a : Act) (w : World), wpAnyG P ops Q W fuel listed a w → wpAny P .any ops Q fuel listed a w
  | 0, _, _, _, _, h => h
  | fuel + 1, W, listed, a, w, h => ⟨h.1, fun j hj => wpOp_mono (fun a' w' h' => wpAny_of_G fuel _ _ _ _ h'.2) (h.2 j hj)⟩

theorem not_waits {j i : Nat} {oj : Oper} (hj : ops[j]? = some oj) (h : ∀ e ∈ oj.after, Region.binds .any e = true → e.on ≠ i) : waitsOn ops j i = false := by
  unfold waitsOn
  rw [hj]
  simp only [List.any_eq_false]
  intro e he'
  have he := Array.mem_toList_iff.1 he'
  cases hb : Region.binds .any e with
  | false => simp
  | true => simpa using h e he hb

theorem wpAnyG_first {i : Nat} {oi : Oper} {v : Value} {V : World → Prop} (hi : ops[i]? = some oi) (hsel : ∀ (j : Nat) (o : Oper) cs b, ops[j]? = some o → o.op ≠ .select cs b)
    (hQ : ∀ c a w, Q (.panic c) (a.put oi.dst v) w → Q (.panic c) a w) :
    ∀ (fuel : Nat) (W : List (Nat × (World → Prop))) (listed : Array Bool) (a : Act) (w : World),
      (∀ j oj, ops[j]? = some oj → j ≠ i → listed.getD j true = false → (∀ e ∈ oj.after, Region.binds .any e = true → e.on ≠ i) → oi.apart ops oj = true) →
      i ∈ Region.ready .any ops listed → YieldsIf P ops V oi v a → V w → (∀ p ∈ W, p.2 w) →
      wpAnyG P ops Q ((i, V) :: W) fuel (listed.setIfInBounds i true) (a.put oi.dst v) w → wpAnyG P ops Q W (fuel + 1) listed a w := by
  intro fuel
  induction fuel with
  | zero =>
    intro W listed a w _ hr hy hV hW H
    refine ⟨fun h => (by rw [h] at hr; cases hr), fun j hj => ?_⟩
    by_cases hji : j = i
    · subst hji
      exact hy.wpOp hi hV ⟨fun p hp => hW p (List.mem_filter.1 hp).1, H⟩
    · have := ready_mono hj hji
      rw [H.1] at this
      cases this
  | succ fuel ih =>
    intro W listed a w hfree hr hy hV hW H
    refine ⟨fun h => (by rw [h] at hr; cases hr), fun j hj => ?_⟩
    by_cases hji : j = i
    · subst hji
      exact hy.wpOp hi hV ⟨fun p hp => hW p (List.mem_filter.1 hp).1, wpAnyG_less _ _ _ _ _ _ (fun p hp => List.mem_cons_of_mem _ (List.mem_filter.1 hp).1) H⟩
    · have h1 := H.2 j (ready_mono hj hji)
      obtain ⟨hjun, oj, hoj, hall⟩ := mem_ready.1 hj
      have hnot : ∀ e ∈ oj.after, Region.binds .any e = true → e.on ≠ i := fun e he hb heq => by
        have h1 := hall e he hb
        have h0 := (mem_ready.1 hr).1
        rw [heq] at h1
        rcases Nat.lt_or_ge i listed.size with h' | h'
        · simp [h'] at h0 h1; rw [h0] at h1; cases h1
        · simp [Array.getElem?_eq_none h'] at h1
      have hflt : fltW ops j ((i, V) :: W) = (i, V) :: fltW ops j W := by
        unfold fltW
        rw [List.filter_cons_of_pos]
        simp [not_waits hoj hnot, Ne.symm hji]
      rw [hflt] at h1
      have h2 := wpOp_putIf hoj (hfree j oj hoj hji hjun hnot) (fun cs b => hsel i oi cs b hi) (fun cs b => hsel j oj cs b hoj) hQ hy h1
      have hfree' : ∀ k ok, ops[k]? = some ok → k ≠ i → (listed.setIfInBounds j true).getD k true = false →
          (∀ e ∈ ok.after, Region.binds .any e = true → e.on ≠ i) → oi.apart ops ok = true := fun k ok hk hki hun hno => by
        refine hfree k ok hk hki ?_ hno
        by_cases hjk : j = k
        · subst hjk; exact hjun
        · rw [getD_set_ne true hjk] at hun; exact hun
      refine wpOp_mono (fun a' w' h3 => ?_) h2
      obtain ⟨hy', hall', hG⟩ := h3
      have hall2 : ∀ p ∈ fltW ops j W, p.2 w' := fun p hp => hall' p (List.mem_cons_of_mem _ hp)
      refine ⟨hall2, ih (fltW ops j W) (listed.setIfInBounds j true) a' w' hfree' (ready_mono hr (Ne.symm hji)) hy' (hall' (i, V) (List.mem_cons_self ..)) hall2 ?_⟩
      rw [Array.setIfInBounds_comm _ _ hji]
      exact hG
end

end Go.Proofs.YteklhgmoniaieaaAh
