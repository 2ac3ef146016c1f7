/- The statement PolicyRulesSaid: whatever policy, moments and numbers are handed in, the law quittancelaw28.PolicyRules returns true and leaves its arguments as they were. No condition beyond the row itself. -/
import Derived.Test.YtmfadhnfmkbbfaaF6
import Derived.Test.YtmfadhnfmkbbfaaLift
namespace Go.Proofs.Ytmfadhnfmkbbfaa
open Go.ChangeShapes Go.WideShapes Go.ChangeAt Go.RowKit Go.Joins Go.LawLift
theorem own : ownKnob Try.prog.godebug = none := by kernel_rfl
theorem laidOut : laidOutB Try.prog = true := by kernel_rfl
set_option maxRecDepth 100000 in
theorem policyRules_lifted (os : Os) (started : os.Started) (H : Type) (enc : TypeId × Value → H) :
    ReturnsInHanded {} Try.checked os 3 .any (Rows.policyRulesSpec.pre6 enc Try.prog Try.f3 Rows.policyRulesRow.domain false) (Rows.policyRulesSpec.post enc Try.prog Try.f3 false true false false) := by
  refine returnsInHanded_of_change (C := Try.checked) own started (by kernel_rfl) Try.func3
    (ChangeSpec.witness6 (enc := enc) (C := Try.checked) false ⟨#[], #[.agg #[.int .i64 0, .int .i64 0, .int .i64 0, .bool false, .bool false, .bool false], .int .i64 0, .bool false, .int .i64 0, .int .i64 0, .int .i64 0], []⟩ 8 (by kernel_rfl) (by kernel_rfl) (by kernel_rfl) (by kernel_rfl)) ?_
  intro W base args ds gs before hval0 hW hcnd _
  have hval : ∀ (j : Nat) t v, Try.f3.params[j]? = some t → args[j]? = some v → Value.okWide Try.prog W .any base t v := hval0
  have hW' := hW
  obtain ⟨p, q, hA0, hV, rfl, _, _⟩ := hW
  have hA : DataW.TrodAll enc Try.prog W 0 (fun _ => true) true Try.f3.params.toList args.toList ds p := hA0
  rw [Try.params3] at hA hval
  obtain ⟨al⟩ := args
  have hT0 : DataW.TrodAll enc Try.prog W 0 (fun _ => true) true [23, 3, 4, 3, 3, 3] al ds p := hA
  clear hA hA0
  obtain ⟨v0, r0, d0, e0, p0, q0, rfl, rfl, rfl, h0, hT1⟩ := trodAll_cons hT0
  obtain ⟨v1, r1, d1, e1, p1, q1, rfl, rfl, rfl, h1, hT2⟩ := trodAll_cons hT1
  obtain ⟨v2, r2, d2, e2, p2, q2, rfl, rfl, rfl, h2, hT3⟩ := trodAll_cons hT2
  obtain ⟨v3, r3, d3, e3, p3, q3, rfl, rfl, rfl, h3, hT4⟩ := trodAll_cons hT3
  obtain ⟨v4, r4, d4, e4, p4, q4, rfl, rfl, rfl, h4, hT5⟩ := trodAll_cons hT4
  obtain ⟨v5, r5, d5, e5, p5, q5, rfl, rfl, rfl, h5, hT6⟩ := trodAll_cons hT5
  obtain ⟨rfl, rfl, rfl⟩ := trodAll_nil hT6
  obtain ⟨c0, rfl, l0, g0⟩ := arg_struct Try.underlying23 (by kernel_rfl) (by kernel_rfl) (hval 0 23 v0 rfl rfl) h0
  have l0' : c0.length = 6 := l0
  obtain ⟨y0_0, y0_1, y0_2, y0_3, y0_4, y0_5, rfl⟩ := list_6 c0 l0'
  obtain ⟨u0_0, n0_0, s0_0, o0_0, k0_0⟩ := g0 0 _ rfl
  obtain rfl : y0_0 = u0_0 := Option.some.inj o0_0
  obtain ⟨x0_0, rfl, b0_0⟩ := rd_int Try.underlying3 k0_0
  obtain ⟨u0_1, n0_1, s0_1, o0_1, k0_1⟩ := g0 1 _ rfl
  obtain rfl : y0_1 = u0_1 := Option.some.inj o0_1
  obtain ⟨x0_1, rfl, b0_1⟩ := rd_int Try.underlying3 k0_1
  obtain ⟨u0_2, n0_2, s0_2, o0_2, k0_2⟩ := g0 2 _ rfl
  obtain rfl : y0_2 = u0_2 := Option.some.inj o0_2
  obtain ⟨x0_2, rfl, b0_2⟩ := rd_int Try.underlying3 k0_2
  obtain ⟨u0_3, n0_3, s0_3, o0_3, k0_3⟩ := g0 3 _ rfl
  obtain rfl : y0_3 = u0_3 := Option.some.inj o0_3
  obtain ⟨x0_3, rfl⟩ := rd_bool Try.underlying4 k0_3
  obtain ⟨u0_4, n0_4, s0_4, o0_4, k0_4⟩ := g0 4 _ rfl
  obtain rfl : y0_4 = u0_4 := Option.some.inj o0_4
  obtain ⟨x0_4, rfl⟩ := rd_bool Try.underlying4 k0_4
  obtain ⟨u0_5, n0_5, s0_5, o0_5, k0_5⟩ := g0 5 _ rfl
  obtain rfl : y0_5 = u0_5 := Option.some.inj o0_5
  obtain ⟨x0_5, rfl⟩ := rd_bool Try.underlying4 k0_5
  obtain ⟨x1, rfl, b1⟩ := arg_int Try.underlying3 (hval 1 3 v1 rfl rfl) h1
  obtain ⟨x2, rfl⟩ := arg_bool Try.underlying4 (hval 2 4 v2 rfl rfl)
  obtain ⟨x3, rfl, b3⟩ := arg_int Try.underlying3 (hval 3 3 v3 rfl rfl) h3
  obtain ⟨x4, rfl, b4⟩ := arg_int Try.underlying3 (hval 4 3 v4 rfl rfl) h4
  obtain ⟨x5, rfl, b5⟩ := arg_int Try.underlying3 (hval 5 3 v5 rfl rfl) h5
  have hc : Calls Try.prog 3 #[.agg #[.int .i64 x0_0, .int .i64 x0_1, .int .i64 x0_2, .bool x0_3, .bool x0_4, .bool x0_5], .int .i64 x1, .bool x2, .int .i64 x3, .int .i64 x4, .int .i64 x5] W fun e w' => e = .returned (.bool true) ∧ Below W.heap.size W w' := by
    cases x2
    · exact law_no x0_0 x0_1 x0_2 x0_3 x0_4 x0_5 x1 x3 x4 x5 (i64_of b0_0) (i64_of b1) (i64_of b3) (i64_of b4) W
    · exact law_yes x0_0 x0_1 x0_2 x0_3 x0_4 x0_5 x1 x3 x4 x5 (i64_of b0_0) (i64_of b1) (i64_of b3) (i64_of b4) W
  refine hc.mono fun e W' ⟨he, hb⟩ => ?_
  subst he
  have hro : (Try.f3.params.toList.all fun t => Try.prog.readableRec t && decide (t < Try.prog.types.size)) = true := by kernel_rfl
  have hvs : Rows.policyRulesSpec.vars = [] := rfl
  have hrt : Try.f3.resultTypes = #[4] := rfl
  refine ⟨_, rfl, ?_⟩
  refine LawLift.law_post (P := Try.prog) (fn := Try.f3) laidOut hro hvs hrt Try.underlying4 ?_ hW' hb
  exact ⟨rfl, rfl, rfl⟩
theorem policyRules_holds : Rows.PolicyRulesSaid :=
  OpenClaim.holds_of_wide 3 Try.f3 rfl rfl rfl rfl rfl rfl rfl ⟨rfl, rfl, rfl, rfl, rfl⟩ rfl rfl rfl rfl rfl (by kernel_rfl) Try.func3 (by kernel_rfl)
    (of_decide_eq_true (by kernel_rfl)) (by unfold Func.isWrapper; rw [if_neg (by decide +kernel)]; exact ⟨rfl, rfl⟩)
    (fun os started H enc _ => policyRules_lifted os started H enc)
#print axioms policyRules_holds
end Go.Proofs.Ytmfadhnfmkbbfaa
