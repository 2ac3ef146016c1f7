/- The statement SpanSumsSaid: whatever numbers are handed in, the law returns true and leaves its arguments as they were. No condition beyond the row itself. -/
import Derived.Test.YtmmjghdobdendaaC12
import Derived.Test.YtmmjghdobdendaaLiftC
set_option linter.unusedSimpArgs false
set_option linter.unusedVariables false
namespace Go.Proofs.Ytmmjghdobdendaa
open Go.ChangeShapes Go.WideShapes Go.ChangeAt Go.RowKit Go.Joins Go.LawLift
theorem own : ownKnob Try.prog.godebug = none := by kernel_rfl
theorem laidOut : laidOutB Try.prog = true := by kernel_rfl
set_option maxRecDepth 100000 in
theorem spanSums_lifted (os : Os) (started : os.Started) (H : Type) (enc : TypeId × Value → H) :
    ReturnsInHanded {} Try.checked os 4 .any (Rows.spanSumsSpec.pre6 enc Try.prog Try.f4 Rows.spanSumsRow.domain false) (Rows.spanSumsSpec.post enc Try.prog Try.f4 false true false false) := by
  refine returnsInHanded_of_change (C := Try.checked) own started (by kernel_rfl) Try.func4
    (ChangeSpec.witness6 (enc := enc) (C := Try.checked) false ⟨#[], #[.int .i64 0, .int .i64 0, .slice none 0 0], []⟩ 8 (by kernel_rfl) (by kernel_rfl) (by kernel_rfl) (by kernel_rfl)) ?_
  intro W base args ds gs before hval0 hW hcnd _
  have hval : ∀ (j : Nat) t v, Try.f4.params[j]? = some t → args[j]? = some v → Value.okWide Try.prog W .any base t v := hval0
  have hW' := hW
  obtain ⟨p, q, hA0, hV, rfl, _, _⟩ := hW
  have hA : DataW.TrodAll enc Try.prog W 0 (fun _ => true) true Try.f4.params.toList args.toList ds p := hA0
  rw [Try.params4] at hA hval
  obtain ⟨al⟩ := args
  have hT0 : DataW.TrodAll enc Try.prog W 0 (fun _ => true) true [3, 3, 33] al ds p := hA
  clear hA hA0
  obtain ⟨v0, r0, d0, e0, p0, q0, rfl, rfl, rfl, h0, hT1⟩ := trodAll_cons hT0
  obtain ⟨v1, r1, d1, e1, p1, q1, rfl, rfl, rfl, h1, hT2⟩ := trodAll_cons hT1
  obtain ⟨v2, r2, d2, e2, p2, q2, rfl, rfl, rfl, h2, hT3⟩ := trodAll_cons hT2
  obtain ⟨rfl, rfl, rfl⟩ := trodAll_nil hT3
  obtain ⟨x0, rfl, b0⟩ := arg_int Try.underlying3 (hval 0 3 v0 rfl rfl) h0
  obtain ⟨x1, rfl, b1⟩ := arg_int Try.underlying3 (hval 1 3 v1 rfl rfl) h1
  obtain ⟨x2, b2, c2⟩ := arg_ints Try.underlying33 Try.underlying3 (by kernel_rfl) (hval 2 33 v2 rfl rfl) h2
  have hc : Calls Try.prog 4 #[.int .i64 x0, .int .i64 x1, v2] W fun e w' => e = .returned (.bool true) ∧ Below W.heap.size W w' := by
    exact spanSums_any _ _ _ _ (i64_of b0) (i64_of b1) (fun z hz => i64_of (c2 z hz)) W b2
  refine hc.mono fun e W' ⟨he, hb⟩ => ?_
  subst he
  have hro : (Try.f4.params.toList.all fun t => Try.prog.readableRec t && decide (t < Try.prog.types.size)) = true := by kernel_rfl
  have hvs : Rows.spanSumsSpec.vars = [] := rfl
  have hrt : Try.f4.resultTypes = #[4] := rfl
  refine ⟨_, rfl, ?_⟩
  refine LawLift.law_post (P := Try.prog) (fn := Try.f4) laidOut hro hvs hrt Try.underlying4 ?_ hW' hb
  exact ⟨rfl, rfl, rfl⟩
theorem spanSums_holds : Rows.SpanSumsSaid :=
  OpenClaim.holds_of_wide 4 Try.f4 rfl rfl rfl rfl rfl rfl rfl ⟨rfl, rfl, rfl, rfl, rfl⟩ rfl rfl rfl rfl rfl (by kernel_rfl) Try.func4 (by kernel_rfl)
    (of_decide_eq_true (by kernel_rfl)) (by unfold Func.isWrapper; rw [if_neg (by decide +kernel)]; exact ⟨rfl, rfl⟩)
    (fun os started H enc _ => spanSums_lifted os started H enc)
#print axioms spanSums_holds
end Go.Proofs.Ytmmjghdobdendaa

