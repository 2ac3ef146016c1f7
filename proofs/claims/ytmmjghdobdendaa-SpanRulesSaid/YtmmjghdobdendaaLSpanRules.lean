/- The statement SpanRulesSaid: whatever numbers and span are handed in, the law returns true. No condition beyond the row itself. -/
import Derived.Test.YtmmjghdobdendaaC14
import Derived.Test.YtmmjghdobdendaaLiftC
set_option linter.unusedSimpArgs false
set_option linter.unusedVariables false
namespace Go.Proofs.Ytmmjghdobdendaa
open Go.ChangeShapes Go.WideShapes Go.ChangeAt Go.RowKit Go.Joins Go.LawLift
theorem own : ownKnob Try.prog.godebug = none := by kernel_rfl
theorem laidOut : laidOutB Try.prog = true := by kernel_rfl
set_option maxRecDepth 100000 in
theorem spanRules_lifted (os : Os) (started : os.Started) (H : Type) (enc : TypeId × Value → H) :
    ReturnsInHanded {} Try.checked os 6 .any (Rows.spanRulesSpec.pre6 enc Try.prog Try.f6 Rows.spanRulesRow.domain false) (Rows.spanRulesSpec.post enc Try.prog Try.f6 false true false false) := by
  refine returnsInHanded_of_change (C := Try.checked) own started (by kernel_rfl) Try.func6
    (ChangeSpec.witness6 (enc := enc) (C := Try.checked) false ⟨#[], #[.int .i64 0, .int .i64 0, .int .i64 0, .agg #[.int .i64 0, .int .i64 0]], []⟩ 8 (by kernel_rfl) (by kernel_rfl) (by kernel_rfl) (by kernel_rfl)) ?_
  intro W base args ds gs before hval0 hW hcnd _
  have hval : ∀ (j : Nat) t v, Try.f6.params[j]? = some t → args[j]? = some v → Value.okWide Try.prog W .any base t v := hval0
  have hW' := hW
  obtain ⟨p, q, hA0, hV, rfl, _, _⟩ := hW
  have hA : DataW.TrodAll enc Try.prog W 0 (fun _ => true) true Try.f6.params.toList args.toList ds p := hA0
  rw [Try.params6] at hA hval
  obtain ⟨al⟩ := args
  have hT0 : DataW.TrodAll enc Try.prog W 0 (fun _ => true) true [3, 3, 3, 24] al ds p := hA
  clear hA hA0
  obtain ⟨v0, r0, d0, e0, p0, q0, rfl, rfl, rfl, h0, hT1⟩ := trodAll_cons hT0
  obtain ⟨v1, r1, d1, e1, p1, q1, rfl, rfl, rfl, h1, hT2⟩ := trodAll_cons hT1
  obtain ⟨v2, r2, d2, e2, p2, q2, rfl, rfl, rfl, h2, hT3⟩ := trodAll_cons hT2
  obtain ⟨v3, r3, d3, e3, p3, q3, rfl, rfl, rfl, h3, hT4⟩ := trodAll_cons hT3
  obtain ⟨rfl, rfl, rfl⟩ := trodAll_nil hT4
  obtain ⟨x0, rfl, b0⟩ := arg_int Try.underlying3 (hval 0 3 v0 rfl rfl) h0
  obtain ⟨x1, rfl, b1⟩ := arg_int Try.underlying3 (hval 1 3 v1 rfl rfl) h1
  obtain ⟨x2, rfl, b2⟩ := arg_int Try.underlying3 (hval 2 3 v2 rfl rfl) h2
  obtain ⟨c3, rfl, l3, g3⟩ := arg_struct Try.underlying24 (by kernel_rfl) (by kernel_rfl) (hval 3 24 v3 rfl rfl) h3
  have l3' : c3.length = 2 := l3
  obtain ⟨y3_0, y3_1, rfl⟩ := list_2 c3 l3'
  obtain ⟨u3_0, n3_0, s3_0, o3_0, k3_0⟩ := g3 0 _ rfl
  obtain rfl : y3_0 = u3_0 := Option.some.inj o3_0
  obtain ⟨x3_0, rfl, b3_0⟩ := rd_int Try.underlying3 k3_0
  obtain ⟨u3_1, n3_1, s3_1, o3_1, k3_1⟩ := g3 1 _ rfl
  obtain rfl : y3_1 = u3_1 := Option.some.inj o3_1
  obtain ⟨x3_1, rfl, b3_1⟩ := rd_int Try.underlying3 k3_1
  have hc : Calls Try.prog 6 #[.int .i64 x0, .int .i64 x1, .int .i64 x2, .agg #[.int .i64 x3_0, .int .i64 x3_1]] W fun e w' => e = .returned (.bool true) ∧ Below W.heap.size W w' := by
    exact spanRules_any _ _ _ _ _ (i64_of b0) (i64_of b1) (i64_of b2) (i64_of b3_0) (i64_of b3_1) W
  refine hc.mono fun e W' ⟨he, hb⟩ => ?_
  subst he
  have hro : (Try.f6.params.toList.all fun t => Try.prog.readableRec t && decide (t < Try.prog.types.size)) = true := by kernel_rfl
  have hvs : Rows.spanRulesSpec.vars = [] := rfl
  have hrt : Try.f6.resultTypes = #[4] := rfl
  refine ⟨_, rfl, ?_⟩
  refine LawLift.law_post (P := Try.prog) (fn := Try.f6) laidOut hro hvs hrt Try.underlying4 ?_ hW' hb
  exact ⟨rfl, rfl, rfl⟩
theorem spanRules_holds : Rows.SpanRulesSaid :=
  OpenClaim.holds_of_wide 6 Try.f6 rfl rfl rfl rfl rfl rfl rfl ⟨rfl, rfl, rfl, rfl, rfl⟩ rfl rfl rfl rfl rfl (by kernel_rfl) Try.func6 (by kernel_rfl)
    (of_decide_eq_true (by kernel_rfl)) (by unfold Func.isWrapper; rw [if_neg (by decide +kernel)]; exact ⟨rfl, rfl⟩)
    (fun os started H enc _ => spanRules_lifted os started H enc)
#print axioms spanRules_holds
end Go.Proofs.Ytmmjghdobdendaa

