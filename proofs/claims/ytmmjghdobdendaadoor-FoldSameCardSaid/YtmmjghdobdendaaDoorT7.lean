/-
  DERIVED: THE SHELF's CONTRACTS AT THIS DUMP, IN PLAIN WORDS (tools/lay-plain.mjs out of 'YtmmjghdobdendaaDoorTShelf.lean', which tools/lay-shelf.mjs wrote): THE SAME DECLARATIONS UNDER THE SAME NAMES: 'import', 'namespace', 'open', 'def', 'theorem' AND NOTHING ELSE: no command of the shelf's: FOR A HAND-IN. Each laying: the table of numbers ('.._ren') and one theorem, a field a fact of the dump's own or the kernel's comparison; each contract: ONE APPLICATION.
-/
import Derived.Shelf.Spec.DecodeRune
import Derived.Shelf.Spec.NilArms
import Derived.Shelf.Utf8.AppendRunePlain
import Derived.Shelf.Strings.Prefix
import Derived.Shelf.Strings.Split
import Derived.Ground.Names7Prog
import Derived.Ground.NamesProg
import Derived.Test.YtmmjghdobdendaaDoorProg
import Derived.Test.YtmmjghdobdendaaDoorT6
import Derived.Lib.TrimU
set_option linter.unusedSimpArgs false
set_option linter.unusedVariables false
set_option linter.unusedSimpArgs false
set_option linter.unusedVariables false
set_option maxRecDepth 100000
namespace Go.Proofs
open Go.Shelf
def Tryd.decS_ren : Go.Shelf.Ren := ⟨fun | 32 => 68 | 49 => 78 | n => n, fun | 30 => 23 | 21 => 21 | 3 => 3 | 0 => 0 | 5 => 5 | 4 => 4 | 33 => 87 | 66 => 94 | 25 => 82 | 69 => 97 | 68 => 96 | n => n, fun | 2 => 1 | 3 => 2 | n => n⟩
theorem Tryd.decS : Go.Proofs.Lays7.n32 Tryd.prog Tryd.decS_ren := {
  mixed := by kernel_rfl
  f32 := Tryd.func68.trans (congrArg some (by kernel_rfl))
  f49 := Tryd.func78.trans (congrArg some (by kernel_rfl))
  t0 := Tryd.underlying0
  a0 := Tryd.isAgg0
  z0 := Tryd.sizeOf0
  v0 := Tryd.zeroValue0
  i0 := by kernel_rfl
  t3 := Tryd.underlying3
  a3 := Tryd.isAgg3
  z3 := Tryd.sizeOf3
  v3 := Tryd.zeroValue3
  i3 := by kernel_rfl
  t4 := Tryd.underlying4
  a4 := Tryd.isAgg4
  z4 := Tryd.sizeOf4
  v4 := Tryd.zeroValue4
  i4 := by kernel_rfl
  t5 := Tryd.underlying5
  a5 := Tryd.isAgg5
  z5 := Tryd.sizeOf5
  v5 := Tryd.zeroValue5
  i5 := by kernel_rfl
  t21 := Tryd.underlying21
  a21 := Tryd.isAgg21
  z21 := Tryd.sizeOf21
  v21 := Tryd.zeroValue21
  i21 := by kernel_rfl
  t25 := Tryd.underlying82
  a25 := Tryd.isAgg82
  z25 := Tryd.sizeOf82
  v25 := Tryd.zeroValue82
  i25 := by kernel_rfl
  t30 := Tryd.underlying23
  a30 := Tryd.isAgg23
  z30 := Tryd.sizeOf23
  v30 := Tryd.zeroValue23
  i30 := by kernel_rfl
  t33 := Tryd.underlying87
  a33 := Tryd.isAgg87
  z33 := Tryd.sizeOf87
  v33 := Tryd.zeroValue87
  i33 := by kernel_rfl
  t66 := Tryd.underlying94
  a66 := Tryd.isAgg94
  z66 := Tryd.sizeOf94
  t68 := Tryd.underlying96
  a68 := Tryd.isAgg96
  z68 := Tryd.sizeOf96
  v68 := Tryd.zeroValue96
  i68 := by kernel_rfl
  t69 := Tryd.underlying97
  a69 := Tryd.isAgg97
  z69 := Tryd.sizeOf97
  v69 := Tryd.zeroValue97
  i69 := by kernel_rfl
  g2 := by kernel_rfl
  g3 := by kernel_rfl }
def Tryd.appS_ren : Go.Shelf.Ren := ⟨fun | 242 => 61 | 278 => 73 | n => n, fun | 37 => 23 | 21 => 21 | 51 => 91 | 4 => 4 | 5 => 5 | 46 => 82 | n => n, fun | n => n⟩
def Tryd.splitS_ren : Go.Shelf.Ren := ⟨fun | 146 => 30 | 221 => 48 | 268 => 63 | 138 => 64 | 143 => 65 | 195 => 74 | 197 => 75 | 218 => 76 | 219 => 77 | 260 => 80 | 217 => 79 | 225 => 81 | 224 => 82 | 267 => 83 | 266 => 84 | 314 => 85 | n => n, fun | 9 => 9 | 31 => 31 | 3 => 3 | 4 => 4 | 0 => 0 | 105 => 87 | 21 => 21 | 5 => 5 | 46 => 82 | 119 => 94 | 139 => 97 | 138 => 96 | 146 => 98 | 51 => 91 | n => n, fun | 1 => 0 | 3 => 1 | 4 => 2 | n => n⟩
def Tryd.gsplitS_ren : Go.Shelf.Ren := ⟨fun | 221 => 48 | 268 => 63 | 138 => 64 | 143 => 65 | 195 => 74 | 197 => 75 | 218 => 76 | 219 => 77 | 260 => 80 | 217 => 79 | 225 => 81 | 224 => 82 | 267 => 83 | 266 => 84 | 314 => 85 | n => n, fun | 9 => 9 | 3 => 3 | 31 => 31 | 4 => 4 | 0 => 0 | 105 => 87 | 21 => 21 | 5 => 5 | 46 => 82 | 119 => 94 | 139 => 97 | 138 => 96 | 146 => 98 | 51 => 91 | n => n, fun | 1 => 0 | 3 => 1 | 4 => 2 | n => n⟩
theorem Tryd.gsplitS : Go.Proofs.Lays.n221 Tryd.prog Tryd.gsplitS_ren := {
  mixed := by kernel_rfl
  f138 := Tryd.func64.trans (congrArg some (by kernel_rfl))
  f143 := Tryd.func65.trans (congrArg some (by kernel_rfl))
  f195 := Tryd.func74.trans (congrArg some (by kernel_rfl))
  f197 := Tryd.func75.trans (congrArg some (by kernel_rfl))
  f217 := Tryd.func79.trans (congrArg some (by kernel_rfl))
  f218 := Tryd.func76.trans (congrArg some (by kernel_rfl))
  f219 := Tryd.func77.trans (congrArg some (by kernel_rfl))
  f221 := Tryd.func48.trans (congrArg some (by kernel_rfl))
  f224 := Tryd.func82.trans (congrArg some (by kernel_rfl))
  f225 := Tryd.func81.trans (congrArg some (by kernel_rfl))
  f260 := Tryd.func80.trans (congrArg some (by kernel_rfl))
  f266 := Tryd.func84.trans (congrArg some (by kernel_rfl))
  f267 := Tryd.func83.trans (congrArg some (by kernel_rfl))
  f268 := Tryd.func63.trans (congrArg some (by kernel_rfl))
  f314 := Tryd.func85.trans (congrArg some (by kernel_rfl))
  t0 := Tryd.underlying0
  a0 := Tryd.isAgg0
  z0 := Tryd.sizeOf0
  v0 := Tryd.zeroValue0
  t3 := Tryd.underlying3
  a3 := Tryd.isAgg3
  z3 := Tryd.sizeOf3
  v3 := Tryd.zeroValue3
  t4 := Tryd.underlying4
  a4 := Tryd.isAgg4
  z4 := Tryd.sizeOf4
  v4 := Tryd.zeroValue4
  t5 := Tryd.underlying5
  a5 := Tryd.isAgg5
  z5 := Tryd.sizeOf5
  v5 := Tryd.zeroValue5
  t9 := Tryd.underlying9
  a9 := Tryd.isAgg9
  z9 := Tryd.sizeOf9
  v9 := Tryd.zeroValue9
  t21 := Tryd.underlying21
  a21 := Tryd.isAgg21
  z21 := Tryd.sizeOf21
  v21 := Tryd.zeroValue21
  t31 := Tryd.underlying31
  a31 := Tryd.isAgg31
  z31 := Tryd.sizeOf31
  v31 := Tryd.zeroValue31
  t46 := Tryd.underlying82
  a46 := Tryd.isAgg82
  z46 := Tryd.sizeOf82
  v46 := Tryd.zeroValue82
  t51 := Tryd.underlying91
  a51 := Tryd.isAgg91
  z51 := Tryd.sizeOf91
  v51 := Tryd.zeroValue91
  t105 := Tryd.underlying87
  a105 := Tryd.isAgg87
  z105 := Tryd.sizeOf87
  v105 := Tryd.zeroValue87
  t119 := Tryd.underlying94
  a119 := Tryd.isAgg94
  z119 := Tryd.sizeOf94
  t138 := Tryd.underlying96
  a138 := Tryd.isAgg96
  z138 := Tryd.sizeOf96
  v138 := Tryd.zeroValue96
  t139 := Tryd.underlying97
  a139 := Tryd.isAgg97
  z139 := Tryd.sizeOf97
  v139 := Tryd.zeroValue97
  t146 := Tryd.underlying98
  a146 := Tryd.isAgg98
  z146 := Tryd.sizeOf98
  v146 := Tryd.zeroValue98
  g1 := by kernel_rfl
  g3 := by kernel_rfl
  g4 := by kernel_rfl }
def Tryd.countS_ren : Go.Shelf.Ren := ⟨fun | 138 => 64 | 195 => 74 | 218 => 76 | 143 => 65 | 219 => 77 | 217 => 79 | 225 => 81 | 224 => 82 | 267 => 83 | 266 => 84 | 314 => 85 | n => n, fun | 9 => 9 | 3 => 3 | 4 => 4 | 5 => 5 | 0 => 0 | 46 => 82 | 146 => 98 | 51 => 91 | n => n, fun | 1 => 0 | n => n⟩
theorem Tryd.countS : Go.Proofs.Lays.n138 Tryd.prog Tryd.countS_ren := {
  mixed := by kernel_rfl
  f138 := Tryd.func64.trans (congrArg some (by kernel_rfl))
  f143 := Tryd.func65.trans (congrArg some (by kernel_rfl))
  f195 := Tryd.func74.trans (congrArg some (by kernel_rfl))
  f217 := Tryd.func79.trans (congrArg some (by kernel_rfl))
  f218 := Tryd.func76.trans (congrArg some (by kernel_rfl))
  f219 := Tryd.func77.trans (congrArg some (by kernel_rfl))
  f224 := Tryd.func82.trans (congrArg some (by kernel_rfl))
  f225 := Tryd.func81.trans (congrArg some (by kernel_rfl))
  f266 := Tryd.func84.trans (congrArg some (by kernel_rfl))
  f267 := Tryd.func83.trans (congrArg some (by kernel_rfl))
  f314 := Tryd.func85.trans (congrArg some (by kernel_rfl))
  t0 := Tryd.underlying0
  a0 := Tryd.isAgg0
  z0 := Tryd.sizeOf0
  v0 := Tryd.zeroValue0
  t3 := Tryd.underlying3
  a3 := Tryd.isAgg3
  z3 := Tryd.sizeOf3
  v3 := Tryd.zeroValue3
  t4 := Tryd.underlying4
  a4 := Tryd.isAgg4
  z4 := Tryd.sizeOf4
  v4 := Tryd.zeroValue4
  t5 := Tryd.underlying5
  a5 := Tryd.isAgg5
  z5 := Tryd.sizeOf5
  v5 := Tryd.zeroValue5
  t9 := Tryd.underlying9
  a9 := Tryd.isAgg9
  z9 := Tryd.sizeOf9
  v9 := Tryd.zeroValue9
  t46 := Tryd.underlying82
  a46 := Tryd.isAgg82
  z46 := Tryd.sizeOf82
  v46 := Tryd.zeroValue82
  t51 := Tryd.underlying91
  a51 := Tryd.isAgg91
  z51 := Tryd.sizeOf91
  v51 := Tryd.zeroValue91
  t146 := Tryd.underlying98
  a146 := Tryd.isAgg98
  z146 := Tryd.sizeOf98
  v146 := Tryd.zeroValue98
  g1 := by kernel_rfl }
def Tryd.indexS_ren : Go.Shelf.Ren := ⟨fun | 143 => 65 | 219 => 77 | 217 => 79 | 225 => 81 | 224 => 82 | 267 => 83 | 266 => 84 | 314 => 85 | n => n, fun | 9 => 9 | 3 => 3 | 4 => 4 | 5 => 5 | 46 => 82 | 146 => 98 | 51 => 91 | n => n, fun | 1 => 0 | n => n⟩
def Tryd.sufS_ren : Go.Shelf.Ren := ⟨fun | 100 => 41 | 207 => 53 | n => n, fun | 9 => 9 | 4 => 4 | 3 => 3 | n => n, fun | n => n⟩
theorem Tryd.sufS : Go.Proofs.Lays.n100 Tryd.prog Tryd.sufS_ren := {
  mixed := by kernel_rfl
  f100 := Tryd.func41.trans (congrArg some (by kernel_rfl))
  f207 := Tryd.func53.trans (congrArg some (by kernel_rfl))
  t3 := Tryd.underlying3
  a3 := Tryd.isAgg3
  z3 := Tryd.sizeOf3
  v3 := Tryd.zeroValue3
  t4 := Tryd.underlying4
  a4 := Tryd.isAgg4
  z4 := Tryd.sizeOf4
  v4 := Tryd.zeroValue4
  t9 := Tryd.underlying9
  a9 := Tryd.isAgg9
  z9 := Tryd.sizeOf9
  v9 := Tryd.zeroValue9 }
def Tryd.trimS_ren : Go.Shelf.Ren := ⟨fun | 102 => 38 | 209 => 52 | 207 => 53 | n => n, fun | 9 => 9 | 4 => 4 | 3 => 3 | n => n, fun | n => n⟩
theorem Tryd.trimS : Go.Proofs.Lays.n102 Tryd.prog Tryd.trimS_ren := {
  mixed := by kernel_rfl
  f102 := Tryd.func38.trans (congrArg some (by kernel_rfl))
  f207 := Tryd.func53.trans (congrArg some (by kernel_rfl))
  f209 := Tryd.func52.trans (congrArg some (by kernel_rfl))
  t3 := Tryd.underlying3
  a3 := Tryd.isAgg3
  z3 := Tryd.sizeOf3
  v3 := Tryd.zeroValue3
  t4 := Tryd.underlying4
  a4 := Tryd.isAgg4
  z4 := Tryd.sizeOf4
  v4 := Tryd.zeroValue4
  t9 := Tryd.underlying9
  a9 := Tryd.isAgg9
  z9 := Tryd.sizeOf9
  v9 := Tryd.zeroValue9 }
end Go.Proofs

set_option linter.unusedSimpArgs false
set_option linter.unusedVariables false
set_option maxRecDepth 100000
namespace Go.Proofs.YtmmjghdobdendaaDoor
open Go.RowKit Go.Mem Go.Reg Oct Bit Go.Txt Go.Shelf Go.LawLift
attribute [local go_sem] Oper.semAt_some
/-- The tables of Go's decoder, at this program's variables. -/
def Tabs (w : World) : Prop := Lib.Utf8Tabs (Tryd.decS_ren.g 2) (Tryd.decS_ren.g 3) w
theorem Tabs.below {w w' : World} (h : Tabs w) (hb : Below w.heap.size w w') : Tabs w' := Utf8Tabs_below h hb
theorem decode_any (b o n c : Nat) (l : List UInt8) (hl : l ≠ []) (w : World) (hT : Tabs w) (hb : Bs w (.slice (some ⟨b, o, none⟩) n c) l) :
    Calls Tryd.prog 68 #[.slice (some ⟨b, o, none⟩) n c] w fun e w' => e = .returned (.tuple #[.int .i32 ((Lib.decodeL l).1 : Int), .int .i64 ((Lib.decodeL l).2 : Int)]) ∧ Below w.heap.size w w' := by
  obtain ⟨A, c', e, hlc, hcm, hA, hcell⟩ := hb.open
  injection e with e1 e2 e3
  subst e1 e2 e3
  have hpos : 0 < l.length := List.length_pos_iff.2 hl
  have h := Any7.utf8_DecodeRune Tryd.decS ⟨l.toArray⟩ b o c w hT (by
    intro j hj
    have hj' : j < l.length := by simpa [ByteArray.size] using hj
    obtain ⟨b', o', e', -, hc⟩ := hcell j hj'
    injection e' with e'
    injection e' with e1 e2
    subst e1 e2
    rw [hc j hj']
    simp [ByteArray.get!, hj'])
  have hs : (ByteArray.mk l.toArray).size = l.length := by simp [ByteArray.size]
  have hd : Lib.decodeGo ⟨l.toArray⟩ = Lib.decodeL l := by
    unfold Lib.decodeGo
    rw [if_neg (by omega)]
    rfl
  rw [hd, hs] at h
  generalize Lib.decodeL l = z at *
  exact h
set_option maxRecDepth 100000 in
set_option maxHeartbeats 2000000 in
theorem wide_in (n : Nat) (h1 : 1 ≤ n) (w0 : World) (hT : Tabs w0) (bx : Nat) (hbx : w0.heap.size ≤ bx) (l : List UInt8) (v : Value) (hb : Bs w0 v l) (hl : l.length ≤ 1000000) :
    SeqX n Tryd.prog 67 #[.pointer (some ⟨bx, 0, none⟩)] encI bx (KpX w0.heap.size bx) (BoxW w0 bx v) (fun ys => ys = sg12 l) (fun pre => ∃ j, pre = (sg12 l).take j) (l.length + 1) := by
  intro l0 J Jx W hW hJ hJx hY h0
  refine callsIn_of_wp Tryd.func67 rfl trivial ?_ rfl
  simp only [Tryd.ntmps67, List.size_toArray, List.length_cons, List.length_nil, Nat.reduceAdd, Nat.reduceSub, Array.replicate_succ, Array.replicate_zero, List.push_toArray, List.append_toArray, List.nil_append, List.cons_append]
  gi_wp2
  gi_loopw [3, 4, 5] (fun _ _ _ wr => ∃ (r : List UInt8) (pre : List Int) (v' : Value), sg12 l = pre ++ sg12 r ∧ r.length + pre.length ≤ l.length ∧ BoxW w0 bx v' wr ∧ Bs w0 v' r ∧ J pre wr) (fun _ _ _ wr => lenOf wr bx)
  case atStart => exact ⟨l, [], v, rfl, by simp, hW, hb, h0⟩
  case round =>
    obtain ⟨r, pre, v', hs, hp2, hO, hb', hJi⟩ := hrel
    clear hb
    obtain ⟨A, c, rfl, hlc, hcm, hA, hcell⟩ := hb'.open
    have C := hO.cell
    by_cases hne : r = []
    · subst hne
      simp only [List.length_nil] at *
      gi_wp2
      go_end0
      exact ⟨⟨_, rfl⟩, .inl ⟨_, by rw [hs]; simp [sg12_nil], hJi⟩⟩
    · have hpos : 0 < r.length := List.length_pos_iff.2 hne
      obtain ⟨b, o, rfl, hgl, hc0⟩ := hcell 0 hpos
      clear hcell hc0
      have hbr := hb'.step hO.2
      have hD := decode_any b o r.length c r hne wr (hT.below hO.2) hbr
      have hd1 := Lib.decodeL_le r hne
      have hd2 := Lib.decodeL_width r
      have hd3 := Lib.decodeL_rune r
      have gS := Kp.mk (sg12_step hne)
      have hc : ((Lib.decodeL r).1 = 65533 ∧ (Lib.decodeL r).2 ≤ 1 ∧ one12 r = -1) ∨ ((Lib.decodeL r).1 = 65533 ∧ 1 < (Lib.decodeL r).2 ∧ one12 r = 65533) ∨ ((Lib.decodeL r).1 ≠ 65533 ∧ one12 r = ((Lib.decodeL r).1 : Int)) := by
        unfold one12
        by_cases hz : (Lib.decodeL r).1 = 65533
        · by_cases hk : (Lib.decodeL r).2 ≤ 1
          · exact .inl ⟨hz, hk, if_pos ⟨hz, hk⟩⟩
          · exact .inr (.inl ⟨hz, by omega, by rw [if_neg (fun h => hk h.2), hz]; rfl⟩)
        · exact .inr (.inr ⟨hz, if_neg (fun h => hz h.1)⟩)
      generalize one12 r = sn at *
      generalize Lib.decodeL r = d at *
      obtain ⟨z, k⟩ := d
      dsimp only at hd1 hd2 hd3 hD hc gS
      have ew := wr64 (z := (z : Int)) (by omega) (by omega)
      rcases hc with ⟨rfl, hk, rfl⟩ | ⟨rfl, hk, rfl⟩ | ⟨hz, rfl⟩
      · gi_wp2_with (refine ⟨trivial, ?_⟩; gi_at_call 68; refine (callsIn_wide.2 hD).mono ?_; rintro e X2 ⟨rfl, hX2⟩; have hO2 := hO.step hX2; have hJ2 := hJ _ _ _ hJi (Only.of_below _ hX2); clear C; have C := hO2.cell; obtain ⟨fn, tmps, assign, body, hyy, hR⟩ := hY pre (-1) X2 hJ2 (by omega); dsimp only [encI] at hyy)
        refine hR.mono ?_
        rintro e X3 (⟨rfl, hJ3, hk3⟩ | ⟨rfl, hJx3⟩)
        · have hO3 := hO2.kp hk3
          clear C
          have C3 := hO3.cell
          have F3 : X3.frozen? ⟨bx, 0, none⟩ = false := frozen_of_row X3 bx 0 _ _ hO3.1
          have hl3 := lenOf_eq hO
          gi_wp2
          have hP := hO3.put hbx (.slice (if c = k then some { block := b, off := o } else some { block := b, off := o + k }) (r.length - k) (c - k))
          have hTl := hb'.tl k (by omega)
          refine ⟨⟨r.drop k, pre ++ [(-1)], _, by rw [hs, gS.out]; simp, by rw [List.length_append, List.length_singleton, List.length_drop]; omega, hP, hTl, hJ _ _ _ hJ3 (Only.setCell _ _ _ _)⟩, ?_⟩
          rw [lenOf_eq hP, hl3]
          omega
        · gi_wp2
          refine bodyPost_ret (results_none rfl _ _ _) rfl ?_
          exact ⟨⟨_, rfl⟩, .inr ⟨_, ⟨pre.length + 1, by rw [hs, gS.out, List.take_length_add_append]; rfl⟩, hJx3⟩⟩
      · gi_wp2_with (refine ⟨trivial, ?_⟩; gi_at_call 68; refine (callsIn_wide.2 hD).mono ?_; rintro e X2 ⟨rfl, hX2⟩; have hO2 := hO.step hX2; have hJ2 := hJ _ _ _ hJi (Only.of_below _ hX2); clear C; have C := hO2.cell; obtain ⟨fn, tmps, assign, body, hyy, hR⟩ := hY pre 65533 X2 hJ2 (by omega); dsimp only [encI] at hyy)
        refine hR.mono ?_
        rintro e X3 (⟨rfl, hJ3, hk3⟩ | ⟨rfl, hJx3⟩)
        · have hO3 := hO2.kp hk3
          clear C
          have C3 := hO3.cell
          have F3 : X3.frozen? ⟨bx, 0, none⟩ = false := frozen_of_row X3 bx 0 _ _ hO3.1
          have hl3 := lenOf_eq hO
          gi_wp2
          have hP := hO3.put hbx (.slice (if c = k then some { block := b, off := o } else some { block := b, off := o + k }) (r.length - k) (c - k))
          have hTl := hb'.tl k (by omega)
          refine ⟨⟨r.drop k, pre ++ [65533], _, by rw [hs, gS.out]; simp, by rw [List.length_append, List.length_singleton, List.length_drop]; omega, hP, hTl, hJ _ _ _ hJ3 (Only.setCell _ _ _ _)⟩, ?_⟩
          rw [lenOf_eq hP, hl3]
          omega
        · gi_wp2
          refine bodyPost_ret (results_none rfl _ _ _) rfl ?_
          exact ⟨⟨_, rfl⟩, .inr ⟨_, ⟨pre.length + 1, by rw [hs, gS.out, List.take_length_add_append]; rfl⟩, hJx3⟩⟩
      · gi_wp2_with (refine ⟨trivial, ?_⟩; gi_at_call 68; refine (callsIn_wide.2 hD).mono ?_; rintro e X2 ⟨rfl, hX2⟩; have hO2 := hO.step hX2; have hJ2 := hJ _ _ _ hJi (Only.of_below _ hX2); clear C; have C := hO2.cell; obtain ⟨fn, tmps, assign, body, hyy, hR⟩ := hY pre (z : Int) X2 hJ2 (by omega); dsimp only [encI] at hyy)
        refine hR.mono ?_
        rintro e X3 (⟨rfl, hJ3, hk3⟩ | ⟨rfl, hJx3⟩)
        · have hO3 := hO2.kp hk3
          clear C
          have C3 := hO3.cell
          have F3 : X3.frozen? ⟨bx, 0, none⟩ = false := frozen_of_row X3 bx 0 _ _ hO3.1
          have hl3 := lenOf_eq hO
          gi_wp2
          have hP := hO3.put hbx (.slice (if c = k then some { block := b, off := o } else some { block := b, off := o + k }) (r.length - k) (c - k))
          have hTl := hb'.tl k (by omega)
          refine ⟨⟨r.drop k, pre ++ [(z : Int)], _, by rw [hs, gS.out]; simp, by rw [List.length_append, List.length_singleton, List.length_drop]; omega, hP, hTl, hJ _ _ _ hJ3 (Only.setCell _ _ _ _)⟩, ?_⟩
          rw [lenOf_eq hP, hl3]
          omega
        · gi_wp2
          refine bodyPost_ret (results_none rfl _ _ _) rfl ?_
          exact ⟨⟨_, rfl⟩, .inr ⟨_, ⟨pre.length + 1, by rw [hs, gS.out, List.take_length_add_append]; rfl⟩, hJx3⟩⟩
end Go.Proofs.YtmmjghdobdendaaDoor

