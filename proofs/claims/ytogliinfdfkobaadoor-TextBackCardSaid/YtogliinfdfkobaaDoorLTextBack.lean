/- The statement TextBackSaid: whatever text is handed in, the law returns true and leaves its argument as it was. No condition beyond the row itself. -/
import Derived.Test.YtogliinfdfkobaaDoorT29
import Derived.Test.YtogliinfdfkobaaDoorPairs
import Derived.Test.YtogliinfdfkobaaDoorTabsOf
import Derived.LaidMore
import Derived.Lay
import Derived.SevenTiedAt
import Derived.Stop.Joined
import Derived.Test.YtogliinfdfkobaaDoorTie
import Derived.Test.YtogliinfdfkobaaDoorCards
set_option linter.unusedSimpArgs false
set_option linter.unusedVariables false
namespace Go.Proofs.YtogliinfdfkobaaDoor
open Go.ChangeShapes Go.WideShapes Go.ChangeAt Go.RowKit Go.Joins Go.LawLift
theorem own : ownKnob Tryd.prog.godebug = none := by kernel_rfl
theorem laidOut : laidOutB Tryd.prog = true := by kernel_rfl
theorem first_is : Rows.laid_unicode_utf8_first = Go.Lib.firstData := by kernel_rfl
theorem accept_is : (Rows.laid_unicode_utf8_acceptRanges : DataW Unit) = Go.Lib.acceptData := by kernel_rfl
theorem tabs_of_laid {W : World} (h : laidMetH Tryd.prog Rows.textBackRow.laid W) : Tabs W := by
  rw [MakeChecks.laidMetH_plain _ _ _ (by kernel_rfl)] at h
  have h3 := Go.Lib.laidMet.reads h (n := "unicode/utf8.first") (d := Rows.laid_unicode_utf8_first) (by simp [Rows.textBackRow])
  have h4 := Go.Lib.laidMet.reads h (n := "unicode/utf8.acceptRanges") (d := Rows.laid_unicode_utf8_acceptRanges) (by simp [Rows.textBackRow])
  rw [first_is] at h3
  rw [accept_is] at h4
  exact tabs_of_reads (by kernel_rfl) (by kernel_rfl) (by kernel_rfl) (by kernel_rfl) Tryd.underlying130 Tryd.underlying5 Tryd.underlying133 Tryd.underlying132 (fun j f hj => by
    match j, hj with
    | 0, hj => simp at hj; subst hj; exact ⟨rfl, rfl⟩
    | 1, hj => simp at hj; subst hj; exact ⟨rfl, rfl⟩
    | j + 2, hj => simp at hj) rfl (by kernel_rfl) (by kernel_rfl) (by kernel_rfl) h3 h4
set_option maxRecDepth 100000 in
theorem textBack_lifted (os : Os) (started : os.Started) (H : Type) (enc : TypeId × Value → H) :
    ReturnsInHanded {} Tryd.checked os 8 .any (fun w args => (Rows.textBackSpec.pre enc Tryd.prog Tryd.f8 Rows.textBackRow.domain false w args ∧ laidMetH Tryd.prog Rows.textBackRow.laid w) ∧ sizedMet enc Tryd.prog Tryd.f8 (OpenSpec.ofChange Rows.textBackSpec) false w args) (Rows.textBackSpec.post enc Tryd.prog Tryd.f8 false true false false) := by
  refine returnsInHanded_of_change_and (C := Tryd.checked) (X := fun w _ => laidMetH Tryd.prog Rows.textBackRow.laid w) (fun _ _ _ hh h => h.of_heap hh) own started (by kernel_rfl) Tryd.func8
    (ChangeSpec.witness_shaped (enc := enc) (C := Tryd.checked) (os := os) (X := fun w _ => laidMetH Tryd.prog Rows.textBackRow.laid w) false (World.laidAll Tryd.prog os Rows.textBackRow.laid) #[.agg #[.int .i64 0, .slice none 0 0]] 8 (World.laidAll_os _ _ _)
      (World.shaped_of_ZipB (by kernel_rfl) (by kernel_rfl)) (by kernel_rfl) (by kernel_rfl) (by kernel_rfl)
      (by rw [MakeChecks.laidMetH_plain _ _ _ (by kernel_rfl)]; exact laidMet_laidAll _ (by kernel_rfl) (by kernel_rfl))) ?_
  intro W base args ds gs before hval0 hW hcnd _ hLaid _
  have hTabs := tabs_of_laid hLaid
  have hval : ∀ (j : Nat) t v, Tryd.f8.params[j]? = some t → args[j]? = some v → Value.okWide Tryd.prog W .any base t v := hval0
  have hW' := hW
  obtain ⟨p, q, hA0, hV, rfl, _, _⟩ := hW
  have hA : DataW.TrodAll enc Tryd.prog W 0 (fun _ => true) true Tryd.f8.params.toList args.toList ds p := hA0
  rw [Tryd.params8] at hA hval
  obtain ⟨al⟩ := args
  have hT0 : DataW.TrodAll enc Tryd.prog W 0 (fun _ => true) true [24] al ds p := hA
  clear hA hA0
  obtain ⟨v0, r0, d0, e0, p0, q0, rfl, rfl, rfl, h0, hT1⟩ := trodAll_cons hT0
  obtain ⟨rfl, rfl, rfl⟩ := trodAll_nil hT1
  obtain ⟨c0, rfl, l0, g0⟩ := arg_struct Tryd.underlying24 (by kernel_rfl) (by kernel_rfl) (hval 0 24 v0 rfl rfl) h0
  have l0' : c0.length = 2 := l0
  obtain ⟨y0_0, y0_1, rfl⟩ := list_2 c0 l0'
  obtain ⟨u0_0, n0_0, s0_0, o0_0, k0_0⟩ := g0 0 _ rfl
  obtain rfl : y0_0 = u0_0 := Option.some.inj o0_0
  obtain ⟨x0_0, rfl, b0_0⟩ := rd_int Tryd.underlying3 k0_0
  obtain ⟨u0_1, n0_1, s0_1, o0_1, k0_1⟩ := g0 1 _ rfl
  obtain rfl : y0_1 = u0_1 := Option.some.inj o0_1
  obtain ⟨x0_1, b0_1⟩ := rd_bytes Tryd.underlying22 Tryd.underlying5 (by kernel_rfl) k0_1
  have hc : Calls Tryd.prog 8 #[.agg #[.int .i64 x0_0, y0_1]] W fun e w' => e = .returned (.bool true) ∧ Below W.heap.size W w' := by
    exact textBack_any _ _ _ W hTabs b0_1
  refine hc.mono fun e W' ⟨he, hb⟩ => ?_
  subst he
  have hro : (Tryd.f8.params.toList.all fun t => Tryd.prog.readableRec t && decide (t < Tryd.prog.types.size)) = true := by kernel_rfl
  have hvs : Rows.textBackSpec.vars = [] := rfl
  have hrt : Tryd.f8.resultTypes = #[4] := rfl
  refine ⟨_, rfl, ?_⟩
  refine LawLift.law_post (P := Tryd.prog) (fn := Tryd.f8) laidOut hro hvs hrt Tryd.underlying4 ?_ hW' hb
  exact ⟨rfl, rfl, rfl⟩
theorem textBack_holds : Rows.TextBackSaid :=
  OpenClaim.holds_of_wide 8 Tryd.f8 rfl rfl rfl rfl rfl rfl rfl ⟨rfl, rfl, rfl, rfl, rfl⟩ rfl rfl rfl rfl rfl (by kernel_rfl) Tryd.func8 (by kernel_rfl)
    (of_decide_eq_true (by kernel_rfl)) (by unfold Func.isWrapper; rw [if_neg (by decide +kernel)]; exact ⟨rfl, rfl⟩)
    (fun os started H enc _ => textBack_lifted os started H enc)
theorem textBack_card : Rows.TextBackCardSaid :=
  Claim7.holds_tied_plain_at .later [] [.data, .pinned] true Rows.textBackCard.stood.harness false textBack_holds (fun _ h => by cases h) (by kernel_rfl) (fun _ h => by cases h) textBack_row_tie rfl ⟨rfl, rfl⟩ (by kernel_rfl) rfl
    (fun f fn hf hfn => by
      obtain rfl : f = 8 := Option.some.inj ((show Tryd.prog.funcNamed Rows.textBackRow.func = some 8 by kernel_rfl).symm.trans hf) |>.symm
      obtain rfl : fn = Tryd.f8 := (Option.some.inj (Tryd.func8.symm.trans hfn)).symm
      exact ⟨by kernel_rfl, fun j t ht => by
        rw [Tryd.params8] at ht
        have hm : t ∈ [24] := by simpa using Array.mem_of_getElem? ht
        have hall : ([24].all fun u => !Tryd.prog.wantsStandIn u) = true := by kernel_rfl
        exact (show Tryd.prog.wantsStandIn t = false by simpa using List.all_eq_true.1 hall t hm)⟩)
    (by kernel_rfl)
#print axioms textBack_card
#print axioms textBack_holds
end Go.Proofs.YtogliinfdfkobaaDoor

