/- Lemmas and walks on the way to the seat's laws; each theorem says its own conditions. -/
import Derived.Test.YtaojfkfdfpiejaaW15
namespace Go.Proofs.Ytaojfkfdfpiejaa
open Go.RowKit
set_option maxHeartbeats 1000000 in
theorem known_any (w : World) :
    Calls Try.prog 11 #[] w fun e w' => e = .returned (.bool true) ∧ Below w.heap.size w w' := by
  have hn : Cal.num 2000 3 1 = 11017 := by decide
  have hy : Cal.pY 2932896 = 9999 := by decide
  have hm : Cal.pM 2932896 = 12 := by decide
  have hd : Cal.pD 2932896 = 31 := by decide
  have ht : (Cal.textOf 951868800).toArray = #[50, 48, 48, 48, 45, 48, 51, 45, 48, 49, 84, 48, 48, 58, 48, 48, 58, 48, 48, 90] := by decide
  go_enter Try.func11, Try.ntmps11
  go_wp2_with (go_at_call 8; refine (number_yes 2000 3 1 (by decide) _).mono ?_; rintro e w1 ⟨rfl, hb1⟩)
  go_wp2_with (go_at_call 20; refine (of_yes 2932896 (by decide) (by decide) _).mono ?_; rintro e w2 ⟨rfl, hb2⟩)
  go_wp2_with (go_at_call 27; refine (text_yes 951868800 (by decide) (by decide) _).mono ?_; rintro e w3 ⟨rfl, hb3⟩; obtain ⟨hnb, hz, hb'⟩ := newblk hb3; obtain ⟨c0, c1, c2, _⟩ := cells3 hnb; clear hnb hb3)
  go_ret
  exact ⟨rfl, hb1.trans (hb2.mono hb1.size |>.trans (hb'.mono (Nat.le_trans hb1.size hb2.size)))⟩
end Go.Proofs.Ytaojfkfdfpiejaa
