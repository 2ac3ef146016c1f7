/- The statement FoldSameSaid: whatever texts and kind are handed in, the law returns true and leaves its arguments as they were. No condition beyond the row itself. -/
import Derived.Test.YtmmjghdobdendaaDoorK21b
import Derived.Test.YtmmjghdobdendaaDoorPairs
import Derived.Test.YtmmjghdobdendaaDoorTabsOf
import Derived.LaidMore
import Derived.Lay
import Derived.SevenTiedAt
import Derived.Stop.Joined
import Derived.Test.YtmmjghdobdendaaDoorTie
import Derived.Test.YtmmjghdobdendaaDoorCards
set_option linter.unusedSimpArgs false
set_option linter.unusedVariables false
namespace Go.Proofs.YtmmjghdobdendaaDoor
open Go.ChangeShapes Go.WideShapes Go.ChangeAt Go.RowKit Go.Joins Go.LawLift
theorem own : ownKnob Tryd.prog.godebug = none := by kernel_rfl
theorem laidOut : laidOutB Tryd.prog = true := by kernel_rfl
theorem first_is : Rows.laid_unicode_utf8_first = Go.Lib.firstData := by kernel_rfl
theorem accept_is : (Rows.laid_unicode_utf8_acceptRanges : DataW Unit) = Go.Lib.acceptData := by kernel_rfl
theorem tabs_of_laid {W : World} (h : laidMetH Tryd.prog Rows.foldSameRow.laid W) : Tabs W := by
  rw [MakeChecks.laidMetH_plain _ _ _ (by kernel_rfl)] at h
  have h3 := Go.Lib.laidMet.reads h (n := "unicode/utf8.first") (d := Rows.laid_unicode_utf8_first) (by simp [Rows.foldSameRow])
  have h4 := Go.Lib.laidMet.reads h (n := "unicode/utf8.acceptRanges") (d := Rows.laid_unicode_utf8_acceptRanges) (by simp [Rows.foldSameRow])
  rw [first_is] at h3
  rw [accept_is] at h4
  exact tabs_of_reads (by kernel_rfl) (by kernel_rfl) (by kernel_rfl) (by kernel_rfl) Tryd.underlying94 Tryd.underlying5 Tryd.underlying97 Tryd.underlying96 (fun j f hj => by
    match j, hj with
    | 0, hj => simp at hj; subst hj; exact ⟨rfl, rfl⟩
    | 1, hj => simp at hj; subst hj; exact ⟨rfl, rfl⟩
    | j + 2, hj => simp at hj) rfl (by kernel_rfl) (by kernel_rfl) (by kernel_rfl) h3 h4
set_option maxRecDepth 100000 in
theorem foldSame_lifted (os : Os) (started : os.Started) (H : Type) (enc : TypeId × Value → H) :
    ReturnsInHanded {} Tryd.checked os 7 .any (fun w args => (Rows.foldSameSpec.pre enc Tryd.prog Tryd.f7 Rows.foldSameRow.domain false w args ∧ laidMetH Tryd.prog Rows.foldSameRow.laid w) ∧ sizedMet enc Tryd.prog Tryd.f7 (OpenSpec.ofChange Rows.foldSameSpec) false w args) (Rows.foldSameSpec.post enc Tryd.prog Tryd.f7 false true false false) := by
  refine returnsInHanded_of_change_and (C := Tryd.checked) (X := fun w _ => laidMetH Tryd.prog Rows.foldSameRow.laid w) (fun _ _ _ hh h => h.of_heap hh) own started (by kernel_rfl) Tryd.func7
    (ChangeSpec.witness_shaped (enc := enc) (C := Tryd.checked) (os := os) (X := fun w _ => laidMetH Tryd.prog Rows.foldSameRow.laid w) false (World.laidAll Tryd.prog os Rows.foldSameRow.laid) #[.agg #[.int .i64 0, .slice none 0 0], .agg #[.int .i64 0, .slice none 0 0], .int .i64 0] 8 (World.laidAll_os _ _ _)
      (World.shaped_of_ZipB (by kernel_rfl) (by kernel_rfl)) (by kernel_rfl) (by kernel_rfl) (by kernel_rfl)
      (by rw [MakeChecks.laidMetH_plain _ _ _ (by kernel_rfl)]; exact laidMet_laidAll _ (by kernel_rfl) (by kernel_rfl))) ?_
  intro W base args ds gs before hval0 hW hcnd _ hLaid _
  have hTabs := tabs_of_laid hLaid
  have hval : ∀ (j : Nat) t v, Tryd.f7.params[j]? = some t → args[j]? = some v → Value.okWide Tryd.prog W .any base t v := hval0
  have hW' := hW
  obtain ⟨p, q, hA0, hV, rfl, _, _⟩ := hW
  have hA : DataW.TrodAll enc Tryd.prog W 0 (fun _ => true) true Tryd.f7.params.toList args.toList ds p := hA0
  rw [Tryd.params7] at hA hval
  obtain ⟨al⟩ := args
  have hT0 : DataW.TrodAll enc Tryd.prog W 0 (fun _ => true) true [25, 25, 3] al ds p := hA
  clear hA hA0
  obtain ⟨v0, r0, d0, e0, p0, q0, rfl, rfl, rfl, h0, hT1⟩ := trodAll_cons hT0
  obtain ⟨v1, r1, d1, e1, p1, q1, rfl, rfl, rfl, h1, hT2⟩ := trodAll_cons hT1
  obtain ⟨v2, r2, d2, e2, p2, q2, rfl, rfl, rfl, h2, hT3⟩ := trodAll_cons hT2
  obtain ⟨rfl, rfl, rfl⟩ := trodAll_nil hT3
  obtain ⟨c0, rfl, l0, g0⟩ := arg_struct Tryd.underlying25 (by kernel_rfl) (by kernel_rfl) (hval 0 25 v0 rfl rfl) h0
  have l0' : c0.length = 2 := l0
  obtain ⟨y0_0, y0_1, rfl⟩ := list_2 c0 l0'
  obtain ⟨u0_0, n0_0, s0_0, o0_0, k0_0⟩ := g0 0 _ rfl
  obtain rfl : y0_0 = u0_0 := Option.some.inj o0_0
  obtain ⟨x0_0, rfl, b0_0⟩ := rd_int Tryd.underlying3 k0_0
  obtain ⟨u0_1, n0_1, s0_1, o0_1, k0_1⟩ := g0 1 _ rfl
  obtain rfl : y0_1 = u0_1 := Option.some.inj o0_1
  obtain ⟨x0_1, b0_1⟩ := rd_bytes Tryd.underlying23 Tryd.underlying5 (by kernel_rfl) k0_1
  obtain ⟨c1, rfl, l1, g1⟩ := arg_struct Tryd.underlying25 (by kernel_rfl) (by kernel_rfl) (hval 1 25 v1 rfl rfl) h1
  have l1' : c1.length = 2 := l1
  obtain ⟨y1_0, y1_1, rfl⟩ := list_2 c1 l1'
  obtain ⟨u1_0, n1_0, s1_0, o1_0, k1_0⟩ := g1 0 _ rfl
  obtain rfl : y1_0 = u1_0 := Option.some.inj o1_0
  obtain ⟨x1_0, rfl, b1_0⟩ := rd_int Tryd.underlying3 k1_0
  obtain ⟨u1_1, n1_1, s1_1, o1_1, k1_1⟩ := g1 1 _ rfl
  obtain rfl : y1_1 = u1_1 := Option.some.inj o1_1
  obtain ⟨x1_1, b1_1⟩ := rd_bytes Tryd.underlying23 Tryd.underlying5 (by kernel_rfl) k1_1
  obtain ⟨x2, rfl, b2⟩ := arg_int Tryd.underlying3 (hval 2 3 v2 rfl rfl) h2
  have hc : Calls Tryd.prog 7 #[.agg #[.int .i64 x0_0, y0_1], .agg #[.int .i64 x1_0, y1_1], .int .i64 x2] W fun e w' => e = .returned (.bool true) ∧ Below W.heap.size W w' := by
    exact foldSame_any _ _ _ _ _ _ _ W hTabs b0_1 b1_1
  refine hc.mono fun e W' ⟨he, hb⟩ => ?_
  subst he
  have hro : (Tryd.f7.params.toList.all fun t => Tryd.prog.readableRec t && decide (t < Tryd.prog.types.size)) = true := by kernel_rfl
  have hvs : Rows.foldSameSpec.vars = [] := rfl
  have hrt : Tryd.f7.resultTypes = #[4] := rfl
  refine ⟨_, rfl, ?_⟩
  refine LawLift.law_post (P := Tryd.prog) (fn := Tryd.f7) laidOut hro hvs hrt Tryd.underlying4 ?_ hW' hb
  exact ⟨rfl, rfl, rfl⟩
theorem foldSame_holds : Rows.FoldSameSaid :=
  OpenClaim.holds_of_wide 7 Tryd.f7 rfl rfl rfl rfl rfl rfl rfl ⟨rfl, rfl, rfl, rfl, rfl⟩ rfl rfl rfl rfl rfl (by kernel_rfl) Tryd.func7 (by kernel_rfl)
    (of_decide_eq_true (by kernel_rfl)) (by unfold Func.isWrapper; rw [if_neg (by decide +kernel)]; exact ⟨rfl, rfl⟩)
    (fun os started H enc _ => foldSame_lifted os started H enc)
theorem foldSame_card : Rows.FoldSameCardSaid :=
  Claim7.holds_tied_plain_at .later [] [.data, .pinned] true Rows.foldSameCard.stood.harness false foldSame_holds (fun _ h => by cases h) (by kernel_rfl) (fun _ h => by cases h) foldSame_row_tie rfl ⟨rfl, rfl⟩ (by kernel_rfl) rfl
    (fun f fn hf hfn => by
      obtain rfl : f = 7 := Option.some.inj ((show Tryd.prog.funcNamed Rows.foldSameRow.func = some 7 by kernel_rfl).symm.trans hf) |>.symm
      obtain rfl : fn = Tryd.f7 := (Option.some.inj (Tryd.func7.symm.trans hfn)).symm
      exact ⟨by kernel_rfl, fun j t ht => by
        rw [Tryd.params7] at ht
        have hm : t ∈ [25, 25, 3] := by simpa using Array.mem_of_getElem? ht
        have hall : ([25, 25, 3].all fun u => !Tryd.prog.wantsStandIn u) = true := by kernel_rfl
        exact (show Tryd.prog.wantsStandIn t = false by simpa using List.all_eq_true.1 hall t hm)⟩)
    (by kernel_rfl)
#print axioms foldSame_card
#print axioms foldSame_holds
end Go.Proofs.YtmmjghdobdendaaDoor

