/- The statement SpanMeetsSaid: whatever spans and second are handed in, the law returns true and leaves its arguments as they were. No condition beyond the row itself. -/
import Derived.Test.YtmmjghdobdendaaC22
import Derived.Test.YtmmjghdobdendaaLiftC
set_option linter.unusedSimpArgs false
set_option linter.unusedVariables false
namespace Go.Proofs.Ytmmjghdobdendaa
open Go.ChangeShapes Go.WideShapes Go.ChangeAt Go.RowKit Go.Joins Go.LawLift
theorem own : ownKnob Try.prog.godebug = none := by kernel_rfl
theorem laidOut : laidOutB Try.prog = true := by kernel_rfl
set_option maxRecDepth 100000 in
theorem spanMeets_lifted (os : Os) (started : os.Started) (H : Type) (enc : TypeId × Value → H) :
    ReturnsInHanded {} Try.checked os 7 .any (Rows.spanMeetsSpec.pre6 enc Try.prog Try.f7 Rows.spanMeetsRow.domain false) (Rows.spanMeetsSpec.post enc Try.prog Try.f7 false true false false) := by
  refine returnsInHanded_of_change (C := Try.checked) own started (by kernel_rfl) Try.func7
    (ChangeSpec.witness6 (enc := enc) (C := Try.checked) false ⟨#[], #[.slice none 0 0, .int .i64 0], []⟩ 8 (by kernel_rfl) (by kernel_rfl) (by kernel_rfl) (by kernel_rfl)) ?_
  intro W base args ds gs before hval0 hW hcnd _
  have hval : ∀ (j : Nat) t v, Try.f7.params[j]? = some t → args[j]? = some v → Value.okWide Try.prog W .any base t v := hval0
  have hW' := hW
  obtain ⟨p, q, hA0, hV, rfl, _, _⟩ := hW
  have hA : DataW.TrodAll enc Try.prog W 0 (fun _ => true) true Try.f7.params.toList args.toList ds p := hA0
  rw [Try.params7] at hA hval
  obtain ⟨al⟩ := args
  have hT0 : DataW.TrodAll enc Try.prog W 0 (fun _ => true) true [22, 3] al ds p := hA
  clear hA hA0
  obtain ⟨v0, r0, d0, e0, p0, q0, rfl, rfl, rfl, h0, hT1⟩ := trodAll_cons hT0
  obtain ⟨v1, r1, d1, e1, p1, q1, rfl, rfl, rfl, h1, hT2⟩ := trodAll_cons hT1
  obtain ⟨rfl, rfl, rfl⟩ := trodAll_nil hT2
  obtain ⟨x0, b0, c0⟩ := arg_pairs Try.underlying22 Try.underlying24 (by kernel_rfl) (by kernel_rfl) rfl rfl rfl Try.underlying3 Try.underlying3 (hval 0 22 v0 rfl rfl) h0
  obtain ⟨x1, rfl, b1⟩ := arg_int Try.underlying3 (hval 1 3 v1 rfl rfl) h1
  have hc : Calls Try.prog 7 #[v0, .int .i64 x1] W fun e w' => e = .returned (.bool true) ∧ Below W.heap.size W w' := by
    exact spanMeets_any _ _ _ (i64_of b1) (prs_cap b0) W b0
  refine hc.mono fun e W' ⟨he, hb⟩ => ?_
  subst he
  have hro : (Try.f7.params.toList.all fun t => Try.prog.readableRec t && decide (t < Try.prog.types.size)) = true := by kernel_rfl
  have hvs : Rows.spanMeetsSpec.vars = [] := rfl
  have hrt : Try.f7.resultTypes = #[4] := rfl
  refine ⟨_, rfl, ?_⟩
  refine LawLift.law_post (P := Try.prog) (fn := Try.f7) laidOut hro hvs hrt Try.underlying4 ?_ hW' hb
  exact ⟨rfl, rfl, rfl⟩
theorem spanMeets_holds : Rows.SpanMeetsSaid :=
  OpenClaim.holds_of_wide 7 Try.f7 rfl rfl rfl rfl rfl rfl rfl ⟨rfl, rfl, rfl, rfl, rfl⟩ rfl rfl rfl rfl rfl (by kernel_rfl) Try.func7 (by kernel_rfl)
    (of_decide_eq_true (by kernel_rfl)) (by unfold Func.isWrapper; rw [if_neg (by decide +kernel)]; exact ⟨rfl, rfl⟩)
    (fun os started H enc _ => spanMeets_lifted os started H enc)
#print axioms spanMeets_holds
end Go.Proofs.Ytmmjghdobdendaa

