/- The statement HeadOpensSaid: whatever bytes and tag are handed in, the law returns true and leaves its arguments as they were. No condition beyond the row itself. -/
import Derived.Test.YtldblmgmcmnepaaH26
import Derived.Test.YtldblmgmcmnepaaLiftC
namespace Go.Proofs.Ytldblmgmcmnepaa
open Go.ChangeShapes Go.WideShapes Go.ChangeAt Go.RowKit Go.Joins Go.LawLift
theorem own : ownKnob Try.prog.godebug = none := by kernel_rfl
theorem laidOut : laidOutB Try.prog = true := by kernel_rfl
set_option maxRecDepth 100000 in
theorem headOpens_lifted (os : Os) (started : os.Started) (H : Type) (enc : TypeId × Value → H) :
    ReturnsInHanded {} Try.checked os 10 .any (Rows.headOpensSpec.pre6 enc Try.prog Try.f10 Rows.headOpensRow.domain false) (Rows.headOpensSpec.post enc Try.prog Try.f10 false true false false) := by
  refine returnsInHanded_of_change (C := Try.checked) own started (by kernel_rfl) Try.func10
    (ChangeSpec.witness6 (enc := enc) (C := Try.checked) false ⟨#[], #[.slice none 0 0, .agg #[.int .i64 0, .int .i64 0, .bool false], .bool false], []⟩ 8 (by kernel_rfl) (by kernel_rfl) (by kernel_rfl) (by kernel_rfl)) ?_
  intro W base args ds gs before hval0 hW hcnd _
  have hval : ∀ (j : Nat) t v, Try.f10.params[j]? = some t → args[j]? = some v → Value.okWide Try.prog W .any base t v := hval0
  have hW' := hW
  obtain ⟨p, q, hA0, hV, rfl, _, _⟩ := hW
  have hA : DataW.TrodAll enc Try.prog W 0 (fun _ => true) true Try.f10.params.toList args.toList ds p := hA0
  rw [Try.params10] at hA hval
  obtain ⟨al⟩ := args
  have hT0 : DataW.TrodAll enc Try.prog W 0 (fun _ => true) true [23, 60, 4] al ds p := hA
  clear hA hA0
  obtain ⟨v0, r0, d0, e0, p0, q0, rfl, rfl, rfl, h0, hT1⟩ := trodAll_cons hT0
  obtain ⟨v1, r1, d1, e1, p1, q1, rfl, rfl, rfl, h1, hT2⟩ := trodAll_cons hT1
  obtain ⟨v2, r2, d2, e2, p2, q2, rfl, rfl, rfl, h2, hT3⟩ := trodAll_cons hT2
  obtain ⟨rfl, rfl, rfl⟩ := trodAll_nil hT3
  obtain ⟨x0, b0⟩ := arg_bytes Try.underlying23 Try.underlying5 (by kernel_rfl) (hval 0 23 v0 rfl rfl) h0
  obtain ⟨c1, rfl, l1, g1⟩ := arg_struct Try.underlying60 (by kernel_rfl) (by kernel_rfl) (hval 1 60 v1 rfl rfl) h1
  have l1' : c1.length = 3 := l1
  obtain ⟨y1_0, y1_1, y1_2, rfl⟩ := list_3 c1 l1'
  obtain ⟨u1_0, n1_0, s1_0, o1_0, k1_0⟩ := g1 0 _ rfl
  obtain rfl : y1_0 = u1_0 := Option.some.inj o1_0
  obtain ⟨x1_0, rfl, b1_0⟩ := rd_int Try.underlying3 k1_0
  obtain ⟨u1_1, n1_1, s1_1, o1_1, k1_1⟩ := g1 1 _ rfl
  obtain rfl : y1_1 = u1_1 := Option.some.inj o1_1
  obtain ⟨x1_1, rfl, b1_1⟩ := rd_int Try.underlying3 k1_1
  obtain ⟨u1_2, n1_2, s1_2, o1_2, k1_2⟩ := g1 2 _ rfl
  obtain rfl : y1_2 = u1_2 := Option.some.inj o1_2
  obtain ⟨x1_2, rfl⟩ := rd_bool Try.underlying4 k1_2
  obtain ⟨x2, rfl⟩ := arg_bool Try.underlying4 (hval 2 4 v2 rfl rfl)
  have hc : Calls Try.prog 10 #[v0, .agg #[.int .i64 x1_0, .int .i64 x1_1, .bool x1_2], .bool x2] W fun e w' => e = .returned (.bool true) ∧ Below W.heap.size W w' := by
    exact headOpens_any _ _ _ _ _ _ W b0
  refine hc.mono fun e W' ⟨he, hb⟩ => ?_
  subst he
  have hro : (Try.f10.params.toList.all fun t => Try.prog.readableRec t && decide (t < Try.prog.types.size)) = true := by kernel_rfl
  have hvs : Rows.headOpensSpec.vars = [] := rfl
  have hrt : Try.f10.resultTypes = #[4] := rfl
  refine ⟨_, rfl, ?_⟩
  refine LawLift.law_post (P := Try.prog) (fn := Try.f10) laidOut hro hvs hrt Try.underlying4 ?_ hW' hb
  exact ⟨rfl, rfl, rfl⟩
theorem headOpens_holds : Rows.HeadOpensSaid :=
  OpenClaim.holds_of_wide 10 Try.f10 rfl rfl rfl rfl rfl rfl rfl ⟨rfl, rfl, rfl, rfl, rfl⟩ rfl rfl rfl rfl rfl (by kernel_rfl) Try.func10 (by kernel_rfl)
    (of_decide_eq_true (by kernel_rfl)) (by unfold Func.isWrapper; rw [if_neg (by decide +kernel)]; exact ⟨rfl, rfl⟩)
    (fun os started H enc _ => headOpens_lifted os started H enc)
#print axioms headOpens_holds
end Go.Proofs.Ytldblmgmcmnepaa
