/- The statement ItemEachSaid: whatever tree and number are handed in, the law returns true and leaves its argument as it was. No condition beyond the row itself. -/
import Derived.Test.YtogliinfdfkobaaI34
import Derived.Test.YtogliinfdfkobaaI1
import Derived.Test.YtogliinfdfkobaaIt
import Derived.SizedLaws
set_option linter.unusedSimpArgs false
set_option linter.unusedVariables false
namespace Go.Proofs.Ytogliinfdfkobaa
open Go.ChangeShapes Go.WideShapes Go.ChangeAt Go.RowKit Go.Joins Go.LawLift
theorem own : ownKnob Try.prog.godebug = none := by kernel_rfl
theorem laidOut : laidOutB Try.prog = true := by kernel_rfl
set_option maxRecDepth 100000 in
theorem itemEach_lifted (os : Os) (started : os.Started) (H : Type) (enc : TypeId × Value → H) :
    ReturnsInHanded {} Try.checked os 3 .any (Rows.itemEachSpec.pre6 enc Try.prog Try.f3 Rows.itemEachRow.domain false) (Rows.itemEachSpec.post enc Try.prog Try.f3 false true false false) := by
  refine returnsInHanded_of_change_sized (C := Try.checked) own started (by kernel_rfl) Try.func3
    (ChangeSpec.witness6 (enc := enc) (C := Try.checked) false ⟨#[], #[.agg #[.int .i64 0, .int .i64 0, .bool false, .slice none 0 0, .slice none 0 0], .int .i64 0], []⟩ 8 (by kernel_rfl) (by kernel_rfl) (by kernel_rfl) (by kernel_rfl)) ?_
  intro W base args ds gs before hval0 hW hcnd hz _
  have hval : ∀ (j : Nat) t v, Try.f3.params[j]? = some t → args[j]? = some v → Value.okWide Try.prog W .any base t v := hval0
  have hW' := hW
  obtain ⟨p, q, hA0, hV, rfl, _, _⟩ := hW
  have hA : DataW.TrodAll enc Try.prog W 0 (fun _ => true) true Try.f3.params.toList args.toList ds p := hA0
  rw [Try.params3] at hA hval
  obtain ⟨al⟩ := args
  have hT0 : DataW.TrodAll enc Try.prog W 0 (fun _ => true) true [27, 3] al ds p := hA
  clear hA hA0
  obtain ⟨v0, r0, d0, e0, p0, q0, rfl, rfl, rfl, h0, hT1⟩ := trodAll_cons hT0
  obtain ⟨v1, r1, d1, e1, p1, q1, rfl, rfl, rfl, h1, hT2⟩ := trodAll_cons hT1
  obtain ⟨rfl, rfl, rfl⟩ := trodAll_nil hT2
  rw [Try.params3] at hz
  simp only [List.cons_append, List.nil_append, List.append_nil, DataW.weightsEach] at hz
  have hw0 := (all_append hz).1
  replace hz := (all_append hz).2
  have hw1 := (all_append hz).1
  replace hz := (all_append hz).2
  obtain ⟨n0, t0, x0, rfl, b0, f0⟩ := arg_tree (hval 0 27 v0 rfl rfl) h0 hw0
  obtain ⟨x1, rfl, b1⟩ := arg_int Try.underlying3 (hval 1 3 v1 rfl rfl) h1
  have hc : Calls Try.prog 3 #[.agg x0.toArray, .int .i64 x1] W fun e w' => e = .returned (.bool true) ∧ Below W.heap.size W w' := by
    exact itemEach_any _ _ _ _ W b0 f0
  refine hc.mono fun e W' ⟨he, hb⟩ => ?_
  subst he
  have hro : (Try.f3.params.toList.all fun t => Try.prog.readableRec t && decide (t < Try.prog.types.size)) = true := by kernel_rfl
  have hvs : Rows.itemEachSpec.vars = [] := rfl
  have hrt : Try.f3.resultTypes = #[4] := rfl
  refine ⟨_, rfl, ?_⟩
  refine LawLift.law_post (P := Try.prog) (fn := Try.f3) laidOut hro hvs hrt Try.underlying4 ?_ hW' hb
  exact ⟨rfl, rfl, rfl⟩
theorem itemEach_holds : Rows.ItemEachSaid :=
  OpenClaim.holds_of_wide 3 Try.f3 rfl rfl rfl rfl rfl rfl rfl ⟨rfl, rfl, rfl, rfl, rfl⟩ rfl rfl rfl rfl rfl (by kernel_rfl) Try.func3 (by kernel_rfl)
    (of_decide_eq_true (by kernel_rfl)) (by unfold Func.isWrapper; rw [if_neg (by decide +kernel)]; exact ⟨rfl, rfl⟩)
    (fun os started H enc _ => itemEach_lifted os started H enc)
#print axioms itemEach_holds
end Go.Proofs.Ytogliinfdfkobaa

