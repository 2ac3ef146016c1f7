/- The statement SpanWithoutSaid: whatever spans and second are handed in, the law returns true and leaves its arguments as they were. No condition beyond the row itself. -/
import Derived.Test.YtmmjghdobdendaaC23
import Derived.Test.YtmmjghdobdendaaLiftC
set_option linter.unusedSimpArgs false
set_option linter.unusedVariables false
namespace Go.Proofs.Ytmmjghdobdendaa
open Go.ChangeShapes Go.WideShapes Go.ChangeAt Go.RowKit Go.Joins Go.LawLift
theorem own : ownKnob Try.prog.godebug = none := by kernel_rfl
theorem laidOut : laidOutB Try.prog = true := by kernel_rfl
set_option maxRecDepth 100000 in
theorem spanWithout_lifted (os : Os) (started : os.Started) (H : Type) (enc : TypeId × Value → H) :
    ReturnsInHanded {} Try.checked os 3 .any (Rows.spanWithoutSpec.pre6 enc Try.prog Try.f3 Rows.spanWithoutRow.domain false) (Rows.spanWithoutSpec.post enc Try.prog Try.f3 false true false false) := by
  refine returnsInHanded_of_change (C := Try.checked) own started (by kernel_rfl) Try.func3
    (ChangeSpec.witness6 (enc := enc) (C := Try.checked) false ⟨#[], #[.slice none 0 0, .agg #[.int .i64 0, .int .i64 0], .int .i64 0], []⟩ 8 (by kernel_rfl) (by kernel_rfl) (by kernel_rfl) (by kernel_rfl)) ?_
  intro W base args ds gs before hval0 hW hcnd _
  have hval : ∀ (j : Nat) t v, Try.f3.params[j]? = some t → args[j]? = some v → Value.okWide Try.prog W .any base t v := hval0
  have hW' := hW
  obtain ⟨p, q, hA0, hV, rfl, _, _⟩ := hW
  have hA : DataW.TrodAll enc Try.prog W 0 (fun _ => true) true Try.f3.params.toList args.toList ds p := hA0
  rw [Try.params3] at hA hval
  obtain ⟨al⟩ := args
  have hT0 : DataW.TrodAll enc Try.prog W 0 (fun _ => true) true [22, 24, 3] al ds p := hA
  clear hA hA0
  obtain ⟨v0, r0, d0, e0, p0, q0, rfl, rfl, rfl, h0, hT1⟩ := trodAll_cons hT0
  obtain ⟨v1, r1, d1, e1, p1, q1, rfl, rfl, rfl, h1, hT2⟩ := trodAll_cons hT1
  obtain ⟨v2, r2, d2, e2, p2, q2, rfl, rfl, rfl, h2, hT3⟩ := trodAll_cons hT2
  obtain ⟨rfl, rfl, rfl⟩ := trodAll_nil hT3
  obtain ⟨x0, b0, c0⟩ := arg_pairs Try.underlying22 Try.underlying24 (by kernel_rfl) (by kernel_rfl) rfl rfl rfl Try.underlying3 Try.underlying3 (hval 0 22 v0 rfl rfl) h0
  obtain ⟨c1, rfl, l1, g1⟩ := arg_struct Try.underlying24 (by kernel_rfl) (by kernel_rfl) (hval 1 24 v1 rfl rfl) h1
  have l1' : c1.length = 2 := l1
  obtain ⟨y1_0, y1_1, rfl⟩ := list_2 c1 l1'
  obtain ⟨u1_0, n1_0, s1_0, o1_0, k1_0⟩ := g1 0 _ rfl
  obtain rfl : y1_0 = u1_0 := Option.some.inj o1_0
  obtain ⟨x1_0, rfl, b1_0⟩ := rd_int Try.underlying3 k1_0
  obtain ⟨u1_1, n1_1, s1_1, o1_1, k1_1⟩ := g1 1 _ rfl
  obtain rfl : y1_1 = u1_1 := Option.some.inj o1_1
  obtain ⟨x1_1, rfl, b1_1⟩ := rd_int Try.underlying3 k1_1
  obtain ⟨x2, rfl, b2⟩ := arg_int Try.underlying3 (hval 2 3 v2 rfl rfl) h2
  have hc : Calls Try.prog 3 #[v0, .agg #[.int .i64 x1_0, .int .i64 x1_1], .int .i64 x2] W fun e w' => e = .returned (.bool true) ∧ Below W.heap.size W w' := by
    exact spanWithout_any _ _ _ _ _ (fun x hx => ⟨i64_of (c0 x hx).1, i64_of (c0 x hx).2⟩) (i64_of b1_0) (i64_of b1_1) (i64_of b2) (prs_cap b0) W b0
  refine hc.mono fun e W' ⟨he, hb⟩ => ?_
  subst he
  have hro : (Try.f3.params.toList.all fun t => Try.prog.readableRec t && decide (t < Try.prog.types.size)) = true := by kernel_rfl
  have hvs : Rows.spanWithoutSpec.vars = [] := rfl
  have hrt : Try.f3.resultTypes = #[4] := rfl
  refine ⟨_, rfl, ?_⟩
  refine LawLift.law_post (P := Try.prog) (fn := Try.f3) laidOut hro hvs hrt Try.underlying4 ?_ hW' hb
  exact ⟨rfl, rfl, rfl⟩
theorem spanWithout_holds : Rows.SpanWithoutSaid :=
  OpenClaim.holds_of_wide 3 Try.f3 rfl rfl rfl rfl rfl rfl rfl ⟨rfl, rfl, rfl, rfl, rfl⟩ rfl rfl rfl rfl rfl (by kernel_rfl) Try.func3 (by kernel_rfl)
    (of_decide_eq_true (by kernel_rfl)) (by unfold Func.isWrapper; rw [if_neg (by decide +kernel)]; exact ⟨rfl, rfl⟩)
    (fun os started H enc _ => spanWithout_lifted os started H enc)
#print axioms spanWithout_holds
end Go.Proofs.Ytmmjghdobdendaa

