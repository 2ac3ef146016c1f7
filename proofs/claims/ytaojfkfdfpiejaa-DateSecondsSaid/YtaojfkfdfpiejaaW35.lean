/- The statement DateSecondsSaid: whatever clock reading and whatever count of seconds are handed in, the law quittancelaw09.DateSeconds returns true. No condition beyond the row itself. -/
import Derived.Test.YtaojfkfdfpiejaaW34
import Derived.Test.YtaojfkfdfpiejaaDLift
import Derived.Deep.Strs
namespace Go.Proofs.Ytaojfkfdfpiejaa
open Go.ChangeShapes Go.WideShapes Go.ChangeAt Go.RowKit Go.Joins
theorem own : ownKnob Try.prog.godebug = none := by kernel_rfl
theorem laidOut : laidOutB Try.prog = true := by kernel_rfl
theorem cells23 : Try.prog.cellsOf 23 = 3 := by kernel_rfl
theorem one3 : Try.prog.cellsOf 3 = 1 := by kernel_rfl
theorem cells41 : Try.prog.cellsOf 41 = 6 := by kernel_rfl
theorem six_of {H : Type} {enc : TypeId × Value → H} {W : World} {r : Reach} {b0 : Nat} {v : Value} {d : DataW H} {p : List MemPlace}
    (hv : Value.okWide Try.prog W r b0 41 v) (h : DataW.Trod enc Try.prog W 0 (fun _ => true) true 41 v d p) :
    ∃ a b c e f g : Int, v = .agg #[.int .i64 a, .int .i64 b, .int .i64 c, .int .i64 e, .int .i64 f, .int .i64 g] := by
  obtain ⟨cs, rfl, hsz⟩ := okWide_struct Try.underlying41 hv
  rw [cells41] at hsz
  obtain ⟨l⟩ := cs
  obtain ⟨x0, x1, x2, x3, x4, x5, rfl⟩ : ∃ x0 x1 x2 x3 x4 x5, l = [x0, x1, x2, x3, x4, x5] := by
    match l, hsz with
    | [x0, x1, x2, x3, x4, x5], _ => exact ⟨_, _, _, _, _, _, rfl⟩
  obtain ⟨fuel, hf⟩ := h
  obtain ⟨y0, y1, y2, y3, n, _, _, h0, h1, h2, h3⟩ := trod_struct4 Try.underlying41 hf
  simp only [Value.cells, cells23, one3, List.drop_succ_cons, List.drop_zero, List.take_succ_cons, List.take_zero] at h0 h1 h2 h3
  obtain ⟨z0, z1, z2, m, _, _, k0, k1, k2⟩ := Go.Deep.trod_struct3 Try.underlying23 h0
  simp only [one3, List.drop_succ_cons, List.drop_zero, List.take_succ_cons, List.take_zero] at k0 k1 k2
  obtain ⟨a, e0, _, _⟩ := DataW.trod_int Try.underlying3 k0
  obtain ⟨b, e1, _, _⟩ := DataW.trod_int Try.underlying3 k1
  obtain ⟨c, e2, _, _⟩ := DataW.trod_int Try.underlying3 k2
  obtain ⟨e, e3, _, _⟩ := DataW.trod_int Try.underlying3 h1
  obtain ⟨f, e4, _, _⟩ := DataW.trod_int Try.underlying3 h2
  obtain ⟨g, e5, _, _⟩ := DataW.trod_int Try.underlying3 h3
  simp at e0 e1 e2 e3 e4 e5
  subst e0 e1 e2 e3 e4 e5
  exact ⟨a, b, c, e, f, g, rfl⟩
set_option maxRecDepth 100000 in
theorem dateSeconds_lifted (os : Os) (started : os.Started) (H : Type) (enc : TypeId × Value → H) :
    ReturnsInHanded {} Try.checked os 5 .any (Rows.dateSecondsSpec.pre6 enc Try.prog Try.f5 Rows.dateSecondsRow.domain false) (Rows.dateSecondsSpec.post enc Try.prog Try.f5 false true false false) := by
  refine returnsInHanded_of_change (C := Try.checked) own started (by kernel_rfl) Try.func5
    (ChangeSpec.witness6 (enc := enc) (C := Try.checked) false ⟨#[], #[.agg #[.int .i64 0, .int .i64 0, .int .i64 0, .int .i64 0, .int .i64 0, .int .i64 0], .int .i64 0], []⟩ 8 (by kernel_rfl) (by kernel_rfl) (by kernel_rfl) (by kernel_rfl)) ?_
  intro W base args ds gs before hval0 hW hcnd _
  have hval : ∀ (j : Nat) t v, Try.f5.params[j]? = some t → args[j]? = some v → Value.okWide Try.prog W .any base t v := hval0
  have hW' := hW
  obtain ⟨p, q, hA0, hV, rfl, _, _⟩ := hW
  have hA : DataW.TrodAll enc Try.prog W 0 (fun _ => true) true Try.f5.params.toList args.toList ds p := hA0
  rw [Try.params5] at hA hval
  obtain ⟨v0, v1, d0, d1, p0, p1, rfl, rfl, rfl, h0, h1⟩ := trodAll_two hA
  obtain ⟨a, b, c, e, f, g, rfl⟩ := six_of (hval 0 41 v0 rfl rfl) h0
  obtain ⟨x1, rfl, rfl, rfl, wx1⟩ := open_int Try.underlying3 (hval 1 3 v1 rfl rfl) h1
  refine (dateSeconds_any a b c e f g x1 W).mono fun e W' ⟨he, hb⟩ => ?_
  subst he
  exact ⟨_, rfl, LawLift.law_post (P := Try.prog) (fn := Try.f5) laidOut (by kernel_rfl) rfl rfl Try.underlying4 ⟨rfl, rfl, rfl⟩ hW' hb⟩
theorem dateSeconds_holds : Rows.DateSecondsSaid :=
  OpenClaim.holds_of_wide 5 Try.f5 rfl rfl rfl rfl rfl rfl rfl ⟨rfl, rfl, rfl, rfl, rfl⟩ rfl rfl rfl rfl rfl (by kernel_rfl) Try.func5 (by kernel_rfl)
    (of_decide_eq_true (by kernel_rfl)) (by unfold Func.isWrapper; rw [if_neg (by decide +kernel)]; exact ⟨rfl, rfl⟩)
    (fun os started H enc _ => dateSeconds_lifted os started H enc)
#print axioms dateSeconds_holds
end Go.Proofs.Ytaojfkfdfpiejaa
