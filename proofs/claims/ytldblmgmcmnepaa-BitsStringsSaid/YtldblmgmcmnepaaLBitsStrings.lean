/- The statement BitsStringsSaid: whatever string and number are handed in, the law returns true and leaves its arguments as they were. No condition beyond the row itself. -/
import Derived.Test.YtldblmgmcmnepaaB13
import Derived.Test.YtldblmgmcmnepaaLiftC
set_option linter.unusedSimpArgs false
set_option linter.unusedVariables false
namespace Go.Proofs.Ytldblmgmcmnepaa
open Go.ChangeShapes Go.WideShapes Go.ChangeAt Go.RowKit Go.Joins Go.LawLift
theorem own : ownKnob Try.prog.godebug = none := by kernel_rfl
theorem laidOut : laidOutB Try.prog = true := by kernel_rfl
set_option maxRecDepth 100000 in
theorem bitsStrings_lifted (os : Os) (started : os.Started) (H : Type) (enc : TypeId × Value → H) :
    ReturnsInHanded {} Try.checked os 4 .any (Rows.bitsStringsSpec.pre6 enc Try.prog Try.f4 Rows.bitsStringsRow.domain false) (Rows.bitsStringsSpec.post enc Try.prog Try.f4 false true false false) := by
  refine returnsInHanded_of_change (C := Try.checked) own started (by kernel_rfl) Try.func4
    (ChangeSpec.witness6 (enc := enc) (C := Try.checked) false ⟨#[], #[.agg #[.int .i64 0, .slice none 0 0], .int .i64 0], []⟩ 8 (by kernel_rfl) (by kernel_rfl) (by kernel_rfl) (by kernel_rfl)) ?_
  intro W base args ds gs before hval0 hW hcnd _
  have hval : ∀ (j : Nat) t v, Try.f4.params[j]? = some t → args[j]? = some v → Value.okWide Try.prog W .any base t v := hval0
  have hW' := hW
  obtain ⟨p, q, hA0, hV, rfl, _, _⟩ := hW
  have hA : DataW.TrodAll enc Try.prog W 0 (fun _ => true) true Try.f4.params.toList args.toList ds p := hA0
  rw [Try.params4] at hA hval
  obtain ⟨al⟩ := args
  have hT0 : DataW.TrodAll enc Try.prog W 0 (fun _ => true) true [25, 3] al ds p := hA
  clear hA hA0
  obtain ⟨v0, r0, d0, e0, p0, q0, rfl, rfl, rfl, h0, hT1⟩ := trodAll_cons hT0
  obtain ⟨v1, r1, d1, e1, p1, q1, rfl, rfl, rfl, h1, hT2⟩ := trodAll_cons hT1
  obtain ⟨rfl, rfl, rfl⟩ := trodAll_nil hT2
  obtain ⟨c0, rfl, l0, g0⟩ := arg_struct Try.underlying25 (by kernel_rfl) (by kernel_rfl) (hval 0 25 v0 rfl rfl) h0
  have l0' : c0.length = 2 := l0
  obtain ⟨y0_0, y0_1, rfl⟩ := list_2 c0 l0'
  obtain ⟨u0_0, n0_0, s0_0, o0_0, k0_0⟩ := g0 0 _ rfl
  obtain rfl : y0_0 = u0_0 := Option.some.inj o0_0
  obtain ⟨x0_0, rfl, b0_0⟩ := rd_int Try.underlying3 k0_0
  obtain ⟨u0_1, n0_1, s0_1, o0_1, k0_1⟩ := g0 1 _ rfl
  obtain rfl : y0_1 = u0_1 := Option.some.inj o0_1
  obtain ⟨x0_1, b0_1⟩ := rd_bytes Try.underlying23 Try.underlying5 (by kernel_rfl) k0_1
  obtain ⟨x1, rfl, b1⟩ := arg_int Try.underlying3 (hval 1 3 v1 rfl rfl) h1
  have hc : Calls Try.prog 4 #[.agg #[.int .i64 x0_0, y0_1], .int .i64 x1] W fun e w' => e = .returned (.bool true) ∧ Below W.heap.size W w' := by
    exact bitsStrings_any _ _ _ _ W b0_1
  refine hc.mono fun e W' ⟨he, hb⟩ => ?_
  subst he
  have hro : (Try.f4.params.toList.all fun t => Try.prog.readableRec t && decide (t < Try.prog.types.size)) = true := by kernel_rfl
  have hvs : Rows.bitsStringsSpec.vars = [] := rfl
  have hrt : Try.f4.resultTypes = #[4] := rfl
  refine ⟨_, rfl, ?_⟩
  refine LawLift.law_post (P := Try.prog) (fn := Try.f4) laidOut hro hvs hrt Try.underlying4 ?_ hW' hb
  exact ⟨rfl, rfl, rfl⟩
theorem bitsStrings_holds : Rows.BitsStringsSaid :=
  OpenClaim.holds_of_wide 4 Try.f4 rfl rfl rfl rfl rfl rfl rfl ⟨rfl, rfl, rfl, rfl, rfl⟩ rfl rfl rfl rfl rfl (by kernel_rfl) Try.func4 (by kernel_rfl)
    (of_decide_eq_true (by kernel_rfl)) (by unfold Func.isWrapper; rw [if_neg (by decide +kernel)]; exact ⟨rfl, rfl⟩)
    (fun os started H enc _ => bitsStrings_lifted os started H enc)
#print axioms bitsStrings_holds
end Go.Proofs.Ytldblmgmcmnepaa

