/- The statement ItemParsesSaid: whatever bytes are handed in, the law returns true and leaves its argument as it was. No condition beyond the row itself. -/
import Derived.Test.YtogliinfdfkobaaI32
import Derived.Test.YtogliinfdfkobaaI2
set_option linter.unusedSimpArgs false
set_option linter.unusedVariables false
namespace Go.Proofs.Ytogliinfdfkobaa
open Go.ChangeShapes Go.WideShapes Go.ChangeAt Go.RowKit Go.Joins Go.LawLift
theorem own : ownKnob Try.prog.godebug = none := by kernel_rfl
theorem laidOut : laidOutB Try.prog = true := by kernel_rfl
set_option maxRecDepth 100000 in
theorem itemParses_lifted (os : Os) (started : os.Started) (H : Type) (enc : TypeId × Value → H) :
    ReturnsInHanded {} Try.checked os 4 .any (Rows.itemParsesSpec.pre6 enc Try.prog Try.f4 Rows.itemParsesRow.domain false) (Rows.itemParsesSpec.post enc Try.prog Try.f4 false true false false) := by
  refine returnsInHanded_of_change (C := Try.checked) own started (by kernel_rfl) Try.func4
    (ChangeSpec.witness6 (enc := enc) (C := Try.checked) false ⟨#[], #[.slice none 0 0], []⟩ 8 (by kernel_rfl) (by kernel_rfl) (by kernel_rfl) (by kernel_rfl)) ?_
  intro W base args ds gs before hval0 hW hcnd _
  have hval : ∀ (j : Nat) t v, Try.f4.params[j]? = some t → args[j]? = some v → Value.okWide Try.prog W .any base t v := hval0
  have hW' := hW
  obtain ⟨p, q, hA0, hV, rfl, _, _⟩ := hW
  have hA : DataW.TrodAll enc Try.prog W 0 (fun _ => true) true Try.f4.params.toList args.toList ds p := hA0
  rw [Try.params4] at hA hval
  obtain ⟨al⟩ := args
  have hT0 : DataW.TrodAll enc Try.prog W 0 (fun _ => true) true [24] al ds p := hA
  clear hA hA0
  obtain ⟨v0, r0, d0, e0, p0, q0, rfl, rfl, rfl, h0, hT1⟩ := trodAll_cons hT0
  obtain ⟨rfl, rfl, rfl⟩ := trodAll_nil hT1
  obtain ⟨x0, b0⟩ := arg_bytes Try.underlying24 Try.underlying5 (by kernel_rfl) (hval 0 24 v0 rfl rfl) h0
  have hc : Calls Try.prog 4 #[v0] W fun e w' => e = .returned (.bool true) ∧ Below W.heap.size W w' := by
    exact itemParses_any _ _ W b0
  refine hc.mono fun e W' ⟨he, hb⟩ => ?_
  subst he
  have hro : (Try.f4.params.toList.all fun t => Try.prog.readableRec t && decide (t < Try.prog.types.size)) = true := by kernel_rfl
  have hvs : Rows.itemParsesSpec.vars = [] := rfl
  have hrt : Try.f4.resultTypes = #[4] := rfl
  refine ⟨_, rfl, ?_⟩
  refine LawLift.law_post (P := Try.prog) (fn := Try.f4) laidOut hro hvs hrt Try.underlying4 ?_ hW' hb
  exact ⟨rfl, rfl, rfl⟩
theorem itemParses_holds : Rows.ItemParsesSaid :=
  OpenClaim.holds_of_wide 4 Try.f4 rfl rfl rfl rfl rfl rfl rfl ⟨rfl, rfl, rfl, rfl, rfl⟩ rfl rfl rfl rfl rfl (by kernel_rfl) Try.func4 (by kernel_rfl)
    (of_decide_eq_true (by kernel_rfl)) (by unfold Func.isWrapper; rw [if_neg (by decide +kernel)]; exact ⟨rfl, rfl⟩)
    (fun os started H enc _ => itemParses_lifted os started H enc)
#print axioms itemParses_holds
end Go.Proofs.Ytogliinfdfkobaa

