/- Lemmas and walks on the way to the seat's laws; each theorem says its own conditions. -/
import Derived.Test.YtmmjghdobdendaaDoorT6
import Derived.Test.YtmmjghdobdendaaDoorTplain
import Derived.Lib.TrimU
set_option linter.unusedSimpArgs false
set_option linter.unusedVariables false
set_option linter.unusedSimpArgs false
set_option linter.unusedVariables false
set_option maxRecDepth 100000
namespace Go.Proofs.YtmmjghdobdendaaDoor
open Go.RowKit Go.Mem Go.Reg Oct Bit Go.Txt Go.Shelf Go.LawLift
attribute [local go_sem] Oper.semAt_some
/-- The tables of Go's decoder, at this program's variables. -/
def Tabs (w : World) : Prop := Lib.Utf8Tabs (Tryd.decS_ren.g 2) (Tryd.decS_ren.g 3) w
theorem Tabs.below {w w' : World} (h : Tabs w) (hb : Below w.heap.size w w') : Tabs w' := Utf8Tabs_below h hb
theorem decode_any (b o n c : Nat) (l : List UInt8) (hl : l ≠ []) (w : World) (hT : Tabs w) (hb : Bs w (.slice (some ⟨b, o, none⟩) n c) l) :
    Calls Tryd.prog 68 #[.slice (some ⟨b, o, none⟩) n c] w fun e w' => e = .returned (.tuple #[.int .i32 ((Lib.decodeL l).1 : Int), .int .i64 ((Lib.decodeL l).2 : Int)]) ∧ Below w.heap.size w w' := by
  obtain ⟨A, c', e, hlc, hcm, hA, hcell⟩ := hb.open
  injection e with e1 e2 e3
  subst e1 e2 e3
  have hpos : 0 < l.length := List.length_pos_iff.2 hl
  have h := Any7.utf8_DecodeRune Tryd.decS ⟨l.toArray⟩ b o c w hT (by
    intro j hj
    have hj' : j < l.length := by simpa [ByteArray.size] using hj
    obtain ⟨b', o', e', -, hc⟩ := hcell j hj'
    injection e' with e'
    injection e' with e1 e2
    subst e1 e2
    rw [hc j hj']
    simp [ByteArray.get!, hj'])
  have hs : (ByteArray.mk l.toArray).size = l.length := by simp [ByteArray.size]
  have hd : Lib.decodeGo ⟨l.toArray⟩ = Lib.decodeL l := by
    unfold Lib.decodeGo
    rw [if_neg (by omega)]
    rfl
  rw [hd, hs] at h
  generalize Lib.decodeL l = z at *
  exact h
set_option maxRecDepth 100000 in
set_option maxHeartbeats 2000000 in
theorem wide_in (n : Nat) (h1 : 1 ≤ n) (w0 : World) (hT : Tabs w0) (bx : Nat) (hbx : w0.heap.size ≤ bx) (l : List UInt8) (v : Value) (hb : Bs w0 v l) (hl : l.length ≤ 1000000) :
    SeqX n Tryd.prog 67 #[.pointer (some ⟨bx, 0, none⟩)] encI bx (KpX w0.heap.size bx) (BoxW w0 bx v) (fun ys => ys = sg12 l) (fun pre => ∃ j, pre = (sg12 l).take j) (l.length + 1) := by
  intro l0 J Jx W hW hJ hJx hY h0
  refine callsIn_of_wp Tryd.func67 rfl trivial ?_ rfl
  simp only [Tryd.ntmps67, List.size_toArray, List.length_cons, List.length_nil, Nat.reduceAdd, Nat.reduceSub, Array.replicate_succ, Array.replicate_zero, List.push_toArray, List.append_toArray, List.nil_append, List.cons_append]
  gi_wp2
  gi_loopw [3, 4, 5] (fun _ _ _ wr => ∃ (r : List UInt8) (pre : List Int) (v' : Value), sg12 l = pre ++ sg12 r ∧ r.length + pre.length ≤ l.length ∧ BoxW w0 bx v' wr ∧ Bs w0 v' r ∧ J pre wr) (fun _ _ _ wr => lenOf wr bx)
  case atStart => exact ⟨l, [], v, rfl, by simp, hW, hb, h0⟩
  case round =>
    obtain ⟨r, pre, v', hs, hp2, hO, hb', hJi⟩ := hrel
    clear hb
    obtain ⟨A, c, rfl, hlc, hcm, hA, hcell⟩ := hb'.open
    have C := hO.cell
    by_cases hne : r = []
    · subst hne
      simp only [List.length_nil] at *
      gi_wp2
      go_end0
      exact ⟨⟨_, rfl⟩, .inl ⟨_, by rw [hs]; simp [sg12_nil], hJi⟩⟩
    · have hpos : 0 < r.length := List.length_pos_iff.2 hne
      obtain ⟨b, o, rfl, hgl, hc0⟩ := hcell 0 hpos
      clear hcell hc0
      have hbr := hb'.step hO.2
      have hD := decode_any b o r.length c r hne wr (hT.below hO.2) hbr
      have hd1 := Lib.decodeL_le r hne
      have hd2 := Lib.decodeL_width r
      have hd3 := Lib.decodeL_rune r
      have gS := Kp.mk (sg12_step hne)
      have hc : ((Lib.decodeL r).1 = 65533 ∧ (Lib.decodeL r).2 ≤ 1 ∧ one12 r = -1) ∨ ((Lib.decodeL r).1 = 65533 ∧ 1 < (Lib.decodeL r).2 ∧ one12 r = 65533) ∨ ((Lib.decodeL r).1 ≠ 65533 ∧ one12 r = ((Lib.decodeL r).1 : Int)) := by
        unfold one12
        by_cases hz : (Lib.decodeL r).1 = 65533
        · by_cases hk : (Lib.decodeL r).2 ≤ 1
          · exact .inl ⟨hz, hk, if_pos ⟨hz, hk⟩⟩
          · exact .inr (.inl ⟨hz, by omega, by rw [if_neg (fun h => hk h.2), hz]; rfl⟩)
        · exact .inr (.inr ⟨hz, if_neg (fun h => hz h.1)⟩)
      generalize one12 r = sn at *
      generalize Lib.decodeL r = d at *
      obtain ⟨z, k⟩ := d
      dsimp only at hd1 hd2 hd3 hD hc gS
      have ew := wr64 (z := (z : Int)) (by omega) (by omega)
      rcases hc with ⟨rfl, hk, rfl⟩ | ⟨rfl, hk, rfl⟩ | ⟨hz, rfl⟩
      · gi_wp2_with (refine ⟨trivial, ?_⟩; gi_at_call 68; refine (callsIn_wide.2 hD).mono ?_; rintro e X2 ⟨rfl, hX2⟩; have hO2 := hO.step hX2; have hJ2 := hJ _ _ _ hJi (Only.of_below _ hX2); clear C; have C := hO2.cell; obtain ⟨fn, tmps, assign, body, hyy, hR⟩ := hY pre (-1) X2 hJ2 (by omega); dsimp only [encI] at hyy)
        refine hR.mono ?_
        rintro e X3 (⟨rfl, hJ3, hk3⟩ | ⟨rfl, hJx3⟩)
        · have hO3 := hO2.kp hk3
          clear C
          have C3 := hO3.cell
          have F3 : X3.frozen? ⟨bx, 0, none⟩ = false := frozen_of_row X3 bx 0 _ _ hO3.1
          have hl3 := lenOf_eq hO
          gi_wp2
          have hP := hO3.put hbx (.slice (if c = k then some { block := b, off := o } else some { block := b, off := o + k }) (r.length - k) (c - k))
          have hTl := hb'.tl k (by omega)
          refine ⟨⟨r.drop k, pre ++ [(-1)], _, by rw [hs, gS.out]; simp, by rw [List.length_append, List.length_singleton, List.length_drop]; omega, hP, hTl, hJ _ _ _ hJ3 (Only.setCell _ _ _ _)⟩, ?_⟩
          rw [lenOf_eq hP, hl3]
          omega
        · gi_wp2
          refine bodyPost_ret (results_none rfl _ _ _) rfl ?_
          exact ⟨⟨_, rfl⟩, .inr ⟨_, ⟨pre.length + 1, by rw [hs, gS.out, List.take_length_add_append]; rfl⟩, hJx3⟩⟩
      · gi_wp2_with (refine ⟨trivial, ?_⟩; gi_at_call 68; refine (callsIn_wide.2 hD).mono ?_; rintro e X2 ⟨rfl, hX2⟩; have hO2 := hO.step hX2; have hJ2 := hJ _ _ _ hJi (Only.of_below _ hX2); clear C; have C := hO2.cell; obtain ⟨fn, tmps, assign, body, hyy, hR⟩ := hY pre 65533 X2 hJ2 (by omega); dsimp only [encI] at hyy)
        refine hR.mono ?_
        rintro e X3 (⟨rfl, hJ3, hk3⟩ | ⟨rfl, hJx3⟩)
        · have hO3 := hO2.kp hk3
          clear C
          have C3 := hO3.cell
          have F3 : X3.frozen? ⟨bx, 0, none⟩ = false := frozen_of_row X3 bx 0 _ _ hO3.1
          have hl3 := lenOf_eq hO
          gi_wp2
          have hP := hO3.put hbx (.slice (if c = k then some { block := b, off := o } else some { block := b, off := o + k }) (r.length - k) (c - k))
          have hTl := hb'.tl k (by omega)
          refine ⟨⟨r.drop k, pre ++ [65533], _, by rw [hs, gS.out]; simp, by rw [List.length_append, List.length_singleton, List.length_drop]; omega, hP, hTl, hJ _ _ _ hJ3 (Only.setCell _ _ _ _)⟩, ?_⟩
          rw [lenOf_eq hP, hl3]
          omega
        · gi_wp2
          refine bodyPost_ret (results_none rfl _ _ _) rfl ?_
          exact ⟨⟨_, rfl⟩, .inr ⟨_, ⟨pre.length + 1, by rw [hs, gS.out, List.take_length_add_append]; rfl⟩, hJx3⟩⟩
      · gi_wp2_with (refine ⟨trivial, ?_⟩; gi_at_call 68; refine (callsIn_wide.2 hD).mono ?_; rintro e X2 ⟨rfl, hX2⟩; have hO2 := hO.step hX2; have hJ2 := hJ _ _ _ hJi (Only.of_below _ hX2); clear C; have C := hO2.cell; obtain ⟨fn, tmps, assign, body, hyy, hR⟩ := hY pre (z : Int) X2 hJ2 (by omega); dsimp only [encI] at hyy)
        refine hR.mono ?_
        rintro e X3 (⟨rfl, hJ3, hk3⟩ | ⟨rfl, hJx3⟩)
        · have hO3 := hO2.kp hk3
          clear C
          have C3 := hO3.cell
          have F3 : X3.frozen? ⟨bx, 0, none⟩ = false := frozen_of_row X3 bx 0 _ _ hO3.1
          have hl3 := lenOf_eq hO
          gi_wp2
          have hP := hO3.put hbx (.slice (if c = k then some { block := b, off := o } else some { block := b, off := o + k }) (r.length - k) (c - k))
          have hTl := hb'.tl k (by omega)
          refine ⟨⟨r.drop k, pre ++ [(z : Int)], _, by rw [hs, gS.out]; simp, by rw [List.length_append, List.length_singleton, List.length_drop]; omega, hP, hTl, hJ _ _ _ hJ3 (Only.setCell _ _ _ _)⟩, ?_⟩
          rw [lenOf_eq hP, hl3]
          omega
        · gi_wp2
          refine bodyPost_ret (results_none rfl _ _ _) rfl ?_
          exact ⟨⟨_, rfl⟩, .inr ⟨_, ⟨pre.length + 1, by rw [hs, gS.out, List.take_length_add_append]; rfl⟩, hJx3⟩⟩
end Go.Proofs.YtmmjghdobdendaaDoor

