/- The statement FoldLongestSaid: whatever strings are handed in, the law returns true and leaves its argument as it was. No condition beyond the row itself. -/
import Derived.Test.YtmmjghdobdendaaDoorK23
import Derived.Test.YtmmjghdobdendaaDoorLiftS
import Derived.Test.YtmmjghdobdendaaDoorPairs
import Derived.Test.YtmmjghdobdendaaDoorTabsOf
import Derived.LaidMore
import Derived.Lay
import Derived.SevenTiedAt
import Derived.Stop.Joined
import Derived.Test.YtmmjghdobdendaaDoorTie
import Derived.Test.YtmmjghdobdendaaDoorCards
set_option linter.unusedSimpArgs false
set_option linter.unusedVariables false
namespace Go.Proofs.YtmmjghdobdendaaDoor
open Go.ChangeShapes Go.WideShapes Go.ChangeAt Go.RowKit Go.Joins Go.LawLift
theorem own : ownKnob Tryd.prog.godebug = none := by kernel_rfl
theorem laidOut : laidOutB Tryd.prog = true := by kernel_rfl
theorem first_is : Rows.laid_unicode_utf8_first = Go.Lib.firstData := by kernel_rfl
theorem accept_is : (Rows.laid_unicode_utf8_acceptRanges : DataW Unit) = Go.Lib.acceptData := by kernel_rfl
theorem tabs_of_laid {W : World} (h : laidMetH Tryd.prog Rows.foldLongestRow.laid W) : Tabs W := by
  rw [MakeChecks.laidMetH_plain _ _ _ (by kernel_rfl)] at h
  have h3 := Go.Lib.laidMet.reads h (n := "unicode/utf8.first") (d := Rows.laid_unicode_utf8_first) (by simp [Rows.foldLongestRow])
  have h4 := Go.Lib.laidMet.reads h (n := "unicode/utf8.acceptRanges") (d := Rows.laid_unicode_utf8_acceptRanges) (by simp [Rows.foldLongestRow])
  rw [first_is] at h3
  rw [accept_is] at h4
  exact tabs_of_reads (by kernel_rfl) (by kernel_rfl) (by kernel_rfl) (by kernel_rfl) Tryd.underlying94 Tryd.underlying5 Tryd.underlying97 Tryd.underlying96 (fun j f hj => by
    match j, hj with
    | 0, hj => simp at hj; subst hj; exact ⟨rfl, rfl⟩
    | 1, hj => simp at hj; subst hj; exact ⟨rfl, rfl⟩
    | j + 2, hj => simp at hj) rfl (by kernel_rfl) (by kernel_rfl) (by kernel_rfl) h3 h4
set_option maxRecDepth 100000 in
theorem foldLongest_lifted (os : Os) (started : os.Started) (H : Type) (enc : TypeId × Value → H) :
    ReturnsInHanded {} Tryd.checked os 8 .any (fun w args => (Rows.foldLongestSpec.pre enc Tryd.prog Tryd.f8 Rows.foldLongestRow.domain false w args ∧ laidMetH Tryd.prog Rows.foldLongestRow.laid w) ∧ sizedMet enc Tryd.prog Tryd.f8 (OpenSpec.ofChange Rows.foldLongestSpec) false w args) (Rows.foldLongestSpec.post enc Tryd.prog Tryd.f8 false true false false) := by
  refine returnsInHanded_of_change_and (C := Tryd.checked) (X := fun w _ => laidMetH Tryd.prog Rows.foldLongestRow.laid w) (fun _ _ _ hh h => h.of_heap hh) own started (by kernel_rfl) Tryd.func8
    (ChangeSpec.witness_shaped (enc := enc) (C := Tryd.checked) (os := os) (X := fun w _ => laidMetH Tryd.prog Rows.foldLongestRow.laid w) false (World.laidAll Tryd.prog os Rows.foldLongestRow.laid) #[.slice none 0 0] 8 (World.laidAll_os _ _ _)
      (World.shaped_of_ZipB (by kernel_rfl) (by kernel_rfl)) (by kernel_rfl) (by kernel_rfl) (by kernel_rfl)
      (by rw [MakeChecks.laidMetH_plain _ _ _ (by kernel_rfl)]; exact laidMet_laidAll _ (by kernel_rfl) (by kernel_rfl))) ?_
  intro W base args ds gs before hval0 hW hcnd _ hLaid _
  have hTabs := tabs_of_laid hLaid
  have hval : ∀ (j : Nat) t v, Tryd.f8.params[j]? = some t → args[j]? = some v → Value.okWide Tryd.prog W .any base t v := hval0
  have hW' := hW
  obtain ⟨p, q, hA0, hV, rfl, _, _⟩ := hW
  have hA : DataW.TrodAll enc Tryd.prog W 0 (fun _ => true) true Tryd.f8.params.toList args.toList ds p := hA0
  rw [Tryd.params8] at hA hval
  obtain ⟨al⟩ := args
  have hT0 : DataW.TrodAll enc Tryd.prog W 0 (fun _ => true) true [31] al ds p := hA
  clear hA hA0
  obtain ⟨v0, r0, d0, e0, p0, q0, rfl, rfl, rfl, h0, hT1⟩ := trodAll_cons hT0
  obtain ⟨rfl, rfl, rfl⟩ := trodAll_nil hT1
  obtain ⟨x0, b0, c0⟩ := arg_strs Tryd.underlying31 Tryd.underlying9 (by kernel_rfl) (hval 0 31 v0 rfl rfl) h0
  have hc : Calls Tryd.prog 8 #[v0] W fun e w' => e = .returned (.bool true) ∧ Below W.heap.size W w' := by
    exact foldLongest_any _ _ W hTabs b0 c0
  refine hc.mono fun e W' ⟨he, hb⟩ => ?_
  subst he
  have hro : (Tryd.f8.params.toList.all fun t => Tryd.prog.readableRec t && decide (t < Tryd.prog.types.size)) = true := by kernel_rfl
  have hvs : Rows.foldLongestSpec.vars = [] := rfl
  have hrt : Tryd.f8.resultTypes = #[4] := rfl
  refine ⟨_, rfl, ?_⟩
  refine LawLift.law_post (P := Tryd.prog) (fn := Tryd.f8) laidOut hro hvs hrt Tryd.underlying4 ?_ hW' hb
  exact ⟨rfl, rfl, rfl⟩
theorem foldLongest_holds : Rows.FoldLongestSaid :=
  OpenClaim.holds_of_wide 8 Tryd.f8 rfl rfl rfl rfl rfl rfl rfl ⟨rfl, rfl, rfl, rfl, rfl⟩ rfl rfl rfl rfl rfl (by kernel_rfl) Tryd.func8 (by kernel_rfl)
    (of_decide_eq_true (by kernel_rfl)) (by unfold Func.isWrapper; rw [if_neg (by decide +kernel)]; exact ⟨rfl, rfl⟩)
    (fun os started H enc _ => foldLongest_lifted os started H enc)
theorem foldLongest_card : Rows.FoldLongestCardSaid :=
  Claim7.holds_tied_plain_at .later [] [.data, .pinned] true Rows.foldLongestCard.stood.harness false foldLongest_holds (fun _ h => by cases h) (by kernel_rfl) (fun _ h => by cases h) foldLongest_row_tie rfl ⟨rfl, rfl⟩ (by kernel_rfl) rfl
    (fun f fn hf hfn => by
      obtain rfl : f = 8 := Option.some.inj ((show Tryd.prog.funcNamed Rows.foldLongestRow.func = some 8 by kernel_rfl).symm.trans hf) |>.symm
      obtain rfl : fn = Tryd.f8 := (Option.some.inj (Tryd.func8.symm.trans hfn)).symm
      exact ⟨by kernel_rfl, fun j t ht => by
        rw [Tryd.params8] at ht
        have hm : t ∈ [31] := by simpa using Array.mem_of_getElem? ht
        have hall : ([31].all fun u => !Tryd.prog.wantsStandIn u) = true := by kernel_rfl
        exact (show Tryd.prog.wantsStandIn t = false by simpa using List.all_eq_true.1 hall t hm)⟩)
    (by kernel_rfl)
#print axioms foldLongest_card
#print axioms foldLongest_holds
end Go.Proofs.YtmmjghdobdendaaDoor

