/- The statement DateOrdersSaid: whatever two dates are handed in, the law quittancelaw09.DateOrders returns true and leaves them as they were. No condition beyond the row itself. -/
import Derived.Test.YtaojfkfdfpiejaaW24x
import Derived.Test.YtaojfkfdfpiejaaDLift
namespace Go.Proofs.Ytaojfkfdfpiejaa
open Go.ChangeShapes Go.WideShapes Go.ChangeAt Go.RowKit Go.Joins
theorem own : ownKnob Try.prog.godebug = none := by kernel_rfl
theorem laidOut : laidOutB Try.prog = true := by kernel_rfl
theorem cells23 : Try.prog.cellsOf 23 = 3 := by kernel_rfl
set_option maxRecDepth 100000 in
theorem dateOrders_lifted (os : Os) (started : os.Started) (H : Type) (enc : TypeId × Value → H) :
    ReturnsInHanded {} Try.checked os 7 .any (Rows.dateOrdersSpec.pre6 enc Try.prog Try.f7 Rows.dateOrdersRow.domain false) (Rows.dateOrdersSpec.post enc Try.prog Try.f7 false true false false) := by
  refine returnsInHanded_of_change (C := Try.checked) own started (by kernel_rfl) Try.func7
    (ChangeSpec.witness6 (enc := enc) (C := Try.checked) false ⟨#[], #[.agg #[.int .i64 0, .int .i64 0, .int .i64 0], .agg #[.int .i64 0, .int .i64 0, .int .i64 0]], []⟩ 8 (by kernel_rfl) (by kernel_rfl) (by kernel_rfl) (by kernel_rfl)) ?_
  intro W base args ds gs before hval0 hW hcnd _
  have hval : ∀ (j : Nat) t v, Try.f7.params[j]? = some t → args[j]? = some v → Value.okWide Try.prog W .any base t v := hval0
  have hW' := hW
  obtain ⟨p, q, hA0, hV, rfl, _, _⟩ := hW
  have hA : DataW.TrodAll enc Try.prog W 0 (fun _ => true) true Try.f7.params.toList args.toList ds p := hA0
  rw [Try.params7] at hA hval
  obtain ⟨v0, v1, d0, d1, p0, p1, rfl, rfl, rfl, h0, h1⟩ := trodAll_two hA
  obtain ⟨c00, c01, c02, y00, y01, y02, m0, rfl, rfl, rfl, hy00, hy01, hy02⟩ := open_agg3 Try.underlying23 (by kernel_rfl) cells23 (hval 0 23 v0 rfl rfl) h0
  obtain ⟨a00, e00, rfl, wa00⟩ := DataW.trod_int Try.underlying3 hy00
  obtain ⟨a01, e01, rfl, wa01⟩ := DataW.trod_int Try.underlying3 hy01
  obtain ⟨a02, e02, rfl, wa02⟩ := DataW.trod_int Try.underlying3 hy02
  simp at e00 e01 e02
  subst e00 e01 e02
  obtain ⟨c10, c11, c12, y10, y11, y12, m1, rfl, rfl, rfl, hy10, hy11, hy12⟩ := open_agg3 Try.underlying23 (by kernel_rfl) cells23 (hval 1 23 v1 rfl rfl) h1
  obtain ⟨a10, e10, rfl, wa10⟩ := DataW.trod_int Try.underlying3 hy10
  obtain ⟨a11, e11, rfl, wa11⟩ := DataW.trod_int Try.underlying3 hy11
  obtain ⟨a12, e12, rfl, wa12⟩ := DataW.trod_int Try.underlying3 hy12
  simp at e10 e11 e12
  subst e10 e11 e12
  refine (dateOrders_any a00 a01 a02 a10 a11 a12 W).mono fun e W' ⟨he, hb⟩ => ?_
  subst he
  exact ⟨_, rfl, LawLift.law_post (P := Try.prog) (fn := Try.f7) laidOut (by kernel_rfl) rfl rfl Try.underlying4 ⟨rfl, rfl, rfl⟩ hW' hb⟩
theorem dateOrders_holds : Rows.DateOrdersSaid :=
  OpenClaim.holds_of_wide 7 Try.f7 rfl rfl rfl rfl rfl rfl rfl ⟨rfl, rfl, rfl, rfl, rfl⟩ rfl rfl rfl rfl rfl (by kernel_rfl) Try.func7 (by kernel_rfl)
    (of_decide_eq_true (by kernel_rfl)) (by unfold Func.isWrapper; rw [if_neg (by decide +kernel)]; exact ⟨rfl, rfl⟩)
    (fun os started H enc _ => dateOrders_lifted os started H enc)
#print axioms dateOrders_holds
end Go.Proofs.Ytaojfkfdfpiejaa
