/- The statement BitsWritesSaid: whatever string, truth and bytes are handed in, the law returns true and leaves its arguments as they were. No condition beyond the row itself. -/
import Derived.Test.YtldblmgmcmnepaaB20
import Derived.Test.YtldblmgmcmnepaaLiftC
set_option linter.unusedSimpArgs false
set_option linter.unusedVariables false
namespace Go.Proofs.Ytldblmgmcmnepaa
open Go.ChangeShapes Go.WideShapes Go.ChangeAt Go.RowKit Go.Joins Go.LawLift
theorem own : ownKnob Try.prog.godebug = none := by kernel_rfl
theorem laidOut : laidOutB Try.prog = true := by kernel_rfl
set_option maxRecDepth 100000 in
theorem bitsWrites_lifted (os : Os) (started : os.Started) (H : Type) (enc : TypeId × Value → H) :
    ReturnsInHanded {} Try.checked os 13 .any (Rows.bitsWritesSpec.pre6 enc Try.prog Try.f13 Rows.bitsWritesRow.domain false) (Rows.bitsWritesSpec.post enc Try.prog Try.f13 false true false false) := by
  refine returnsInHanded_of_change (C := Try.checked) own started (by kernel_rfl) Try.func13
    (ChangeSpec.witness6 (enc := enc) (C := Try.checked) false ⟨#[], #[.agg #[.int .i64 0, .slice none 0 0], .bool false, .slice none 0 0], []⟩ 8 (by kernel_rfl) (by kernel_rfl) (by kernel_rfl) (by kernel_rfl)) ?_
  intro W base args ds gs before hval0 hW hcnd _
  have hval : ∀ (j : Nat) t v, Try.f13.params[j]? = some t → args[j]? = some v → Value.okWide Try.prog W .any base t v := hval0
  have hW' := hW
  obtain ⟨p, q, hA0, hV, rfl, _, _⟩ := hW
  have hA : DataW.TrodAll enc Try.prog W 0 (fun _ => true) true Try.f13.params.toList args.toList ds p := hA0
  rw [Try.params13] at hA hval
  obtain ⟨al⟩ := args
  have hT0 : DataW.TrodAll enc Try.prog W 0 (fun _ => true) true [25, 4, 23] al ds p := hA
  clear hA hA0
  obtain ⟨v0, r0, d0, e0, p0, q0, rfl, rfl, rfl, h0, hT1⟩ := trodAll_cons hT0
  obtain ⟨v1, r1, d1, e1, p1, q1, rfl, rfl, rfl, h1, hT2⟩ := trodAll_cons hT1
  obtain ⟨v2, r2, d2, e2, p2, q2, rfl, rfl, rfl, h2, hT3⟩ := trodAll_cons hT2
  obtain ⟨rfl, rfl, rfl⟩ := trodAll_nil hT3
  obtain ⟨c0, rfl, l0, g0⟩ := arg_struct Try.underlying25 (by kernel_rfl) (by kernel_rfl) (hval 0 25 v0 rfl rfl) h0
  have l0' : c0.length = 2 := l0
  obtain ⟨y0_0, y0_1, rfl⟩ := list_2 c0 l0'
  obtain ⟨u0_0, n0_0, s0_0, o0_0, k0_0⟩ := g0 0 _ rfl
  obtain rfl : y0_0 = u0_0 := Option.some.inj o0_0
  obtain ⟨x0_0, rfl, b0_0⟩ := rd_int Try.underlying3 k0_0
  obtain ⟨u0_1, n0_1, s0_1, o0_1, k0_1⟩ := g0 1 _ rfl
  obtain rfl : y0_1 = u0_1 := Option.some.inj o0_1
  obtain ⟨x0_1, b0_1⟩ := rd_bytes Try.underlying23 Try.underlying5 (by kernel_rfl) k0_1
  obtain ⟨x1, rfl⟩ := arg_bool Try.underlying4 (hval 1 4 v1 rfl rfl)
  obtain ⟨x2, b2⟩ := arg_bytes Try.underlying23 Try.underlying5 (by kernel_rfl) (hval 2 23 v2 rfl rfl) h2
  have hc : Calls Try.prog 13 #[.agg #[.int .i64 x0_0, y0_1], .bool x1, v2] W fun e w' => e = .returned (.bool true) ∧ Below W.heap.size W w' := by
    exact bitsWrites_any _ _ _ _ _ _ W b0_1 b2
  refine hc.mono fun e W' ⟨he, hb⟩ => ?_
  subst he
  have hro : (Try.f13.params.toList.all fun t => Try.prog.readableRec t && decide (t < Try.prog.types.size)) = true := by kernel_rfl
  have hvs : Rows.bitsWritesSpec.vars = [] := rfl
  have hrt : Try.f13.resultTypes = #[4] := rfl
  refine ⟨_, rfl, ?_⟩
  refine LawLift.law_post (P := Try.prog) (fn := Try.f13) laidOut hro hvs hrt Try.underlying4 ?_ hW' hb
  exact ⟨rfl, rfl, rfl⟩
theorem bitsWrites_holds : Rows.BitsWritesSaid :=
  OpenClaim.holds_of_wide 13 Try.f13 rfl rfl rfl rfl rfl rfl rfl ⟨rfl, rfl, rfl, rfl, rfl⟩ rfl rfl rfl rfl rfl (by kernel_rfl) Try.func13 (by kernel_rfl)
    (of_decide_eq_true (by kernel_rfl)) (by unfold Func.isWrapper; rw [if_neg (by decide +kernel)]; exact ⟨rfl, rfl⟩)
    (fun os started H enc _ => bitsWrites_lifted os started H enc)
#print axioms bitsWrites_holds
end Go.Proofs.Ytldblmgmcmnepaa

