/- Lemmas and walks on the way to the seat's laws; each theorem says its own conditions. -/
import Derived.Test.YtmmjghdobdendaaDoorK7
import Derived.Test.YtmmjghdobdendaaDoorTplain
set_option linter.unusedSimpArgs false
set_option linter.unusedVariables false
set_option linter.unusedSimpArgs false
set_option linter.unusedVariables false
set_option maxRecDepth 100000
namespace Go.Proofs.YtmmjghdobdendaaDoor
open Go.RowKit Go.Mem Go.Reg Oct Bit Go.Txt Go.Shelf Go.LawLift Go.Fold
theorem List.eq_of_beq_flip {a b : List UInt8} (h : (a == b) = true) : b = a := (eq_of_beq h).symm
theorem index_byte (c : UInt8) : ∀ l : List UInt8, Lib.index l [c] = Lib.indexByte l c := by
  intro l
  induction l with
  | nil => rfl
  | cons x r ih =>
    have e : [c].isPrefixOf (x :: r) = (x == c) := by
      show (c == x && [].isPrefixOf r) = _
      rw [List.isPrefixOf_nil_left, Bool.and_true]
      exact Bool.beq_comm
    unfold Lib.index Lib.indexByte
    rw [ih, e]
theorem sliq_any (s : ByteArray) (c : UInt8) (w : World) : Calls Tryd.prog 79 #[.string s, .int .u8 (c.toNat : Int)] w fun e w' => e = .returned (.int .i64 (Lib.indexByte s.data.toList c)) ∧ w' = w := by
  go_enter Tryd.func79, Tryd.ntmps79
  go_wp2_with (fail)
  rw [run_callFunc_extern Tryd.func84 (by kernel_rfl) (by kernel_rfl) (by kernel_rfl) (e := Extern.BytealgIndexByte.indexByte) (by kernel_rfl), Lib.run_indexByteString]
  simp only [Result.andThen]
  rw [Oper.upon_value]
  go_wp2_with (fail)
  go_ret
  exact ⟨rfl, rfl⟩
set_option maxHeartbeats 1000000 in
theorem slidx_any (s : ByteArray) (c : UInt8) (w : World) : Calls Tryd.prog 77 #[.string s, .string ⟨#[c]⟩] w fun e w' => e = .returned (.int .i64 (Lib.indexB s ⟨#[c]⟩)) ∧ w' = w := by
  have hS := sliq_any s c
  have hE : Lib.indexB s ⟨#[c]⟩ = Lib.indexByte s.data.toList c := index_byte c _
  rw [hE]
  have hz : s.toList = [c] → Lib.indexByte s.data.toList c = 0 := fun h => by
    rw [Lib.toList_data] at h
    rw [h]
    unfold Lib.indexByte
    rw [if_pos (by simp)]
  clear hE
  generalize Lib.indexByte s.data.toList c = R at *
  have hz := Kp.mk hz
  go_enter Tryd.func77, Tryd.ntmps77
  go_wp2_with (fail)
  · go_ret
    rename_i h
    rw [hz.out (List.eq_of_beq_flip h)]
    exact ⟨rfl, rfl⟩
  · refine (hS _).mono ?_
    rintro e' w' ⟨rfl, rfl⟩
    go_wp2_with (fail)
    go_ret
    exact ⟨rfl, rfl⟩
theorem sindex_any (s : ByteArray) (c : UInt8) (w : World) : Calls Tryd.prog 65 #[.string s, .string ⟨#[c]⟩] w fun e w' => e = .returned (.int .i64 (Lib.indexB s ⟨#[c]⟩)) ∧ w' = w := by
  have hS := slidx_any s c
  generalize Lib.indexB s ⟨#[c]⟩ = R at *
  go_enter Tryd.func65, Tryd.ntmps65
  go_wp2_with (fail)
  refine (hS _).mono ?_
  rintro e' w' ⟨rfl, rfl⟩
  go_wp2_with (fail)
  go_ret
  exact ⟨rfl, rfl⟩
/-- A slice of texts. -/
def tvs (ls : List (List UInt8)) : List Value := ls.map fun l => .string ⟨l.toArray⟩
theorem split_list (c : UInt8) (s : ByteArray) : (Lib.splitB ⟨#[c]⟩ 0 (Lib.countB s ⟨#[c]⟩) s).map (fun x => x.data.toList) = splitC c s.data.toList := by
  rw [Lib.splitB_data]
  exact splitK_one c _ _ (Nat.le_refl _)
theorem split_vals (c : UInt8) (s : ByteArray) : (Lib.splitB ⟨#[c]⟩ 0 (Lib.countB s ⟨#[c]⟩) s).map Value.string = tvs (splitC c s.data.toList) := by
  rw [← split_list]
  unfold tvs
  rw [List.map_map]
  apply List.map_congr_left
  intro x _
  rfl
theorem gsplit_any (s : ByteArray) (c : UInt8) (w : World) (hs : s.size ≤ 1000000) :
    Calls Tryd.prog 48 #[.string s, .string ⟨#[c]⟩, .int .i64 0, .int .i64 (-1)] w fun e w' =>
      e = .returned (.slice (some ⟨w.heap.size, 0, none⟩) (splitC c s.data.toList).length (splitC c s.data.toList).length) ∧ w' = w.alloc (.cells (tvs (splitC c s.data.toList)).toArray 9) := by
  have hcl := Lib.countB_le ⟨#[c]⟩ (Nat.le_refl 1) s.size s (Nat.le_refl _)
  have hlen := Lib.splitB_all ⟨#[c]⟩ (Nat.le_refl 1) 0 _ s rfl
  have e1 : (splitC c s.data.toList).length = Lib.countB s ⟨#[c]⟩ + 1 := by rw [← split_list, List.length_map, hlen]
  have cc := Any.strings_genSplit_core Tryd.gsplitS (by kernel_rfl) s ⟨#[c]⟩ 0 (-1) (Lib.countB s ⟨#[c]⟩ + 1) w (by omega) (Nat.le_refl 1) (Nat.zero_le _)
    (fun x cs _ => sindex_any x c _)
    (by
      refine (Any.strings_Count_one Tryd.countS s c w).mono fun e w' ⟨he, hw⟩ => ⟨?_, hw⟩
      rw [he]
      show _ = Ending.returned (Value.int .i64 ((Lib.count s.data.toList [c] : Nat) : Int))
      rw [Lib.count_one]
      rfl)
    (by decide) (by decide) (by rw [if_pos (by decide)]; omega)
  rw [Nat.add_sub_cancel, hlen] at cc
  have e2 : Lib.cellsOf (Lib.splitB ⟨#[c]⟩ 0 (Lib.countB s ⟨#[c]⟩) s) (Lib.countB s ⟨#[c]⟩ + 1) = (tvs (splitC c s.data.toList)).toArray := by
    rw [← split_vals, ← hlen]
    exact Lib.cellsOf_full _
  rw [e2, ← e1] at cc
  exact cc
set_option maxHeartbeats 1000000 in
/-- strings.Split at one byte: a new block of the pieces. -/
theorem split_any (s : ByteArray) (c : UInt8) (w : World) (hs : s.size ≤ 1000000) :
    Calls Tryd.prog 30 #[.string s, .string ⟨#[c]⟩] w fun e w' =>
      e = .returned (.slice (some ⟨w.heap.size, 0, none⟩) (splitC c s.data.toList).length (splitC c s.data.toList).length) ∧ w' = w.alloc (.cells (tvs (splitC c s.data.toList)).toArray 9) := by
  have hG := gsplit_any s c w hs
  generalize tvs (splitC c s.data.toList) = vs at *
  generalize (splitC c s.data.toList).length = n at *
  go_enter Tryd.func30, Tryd.ntmps30
  go_wp2_with (fail)
  refine hG.mono ?_
  rintro e' w' ⟨rfl, rfl⟩
  go_wp2_with (fail)
  go_ret
  exact ⟨rfl, rfl⟩
theorem trims_any (s p : ByteArray) (hs : s.size ≤ 1000000) (w : World) :
    Calls Tryd.prog 38 #[.string s, .string p] w fun e w' => e = .returned (.string ⟨(Lib.trimSuffix s.data.toList p.data.toList).toArray⟩) ∧ w' = w :=
  Any.strings_TrimSuffix Tryd.trimS s p w (by omega)
theorem hassuf_any (s p : ByteArray) (hs : s.size ≤ 1000000) (w : World) :
    Calls Tryd.prog 41 #[.string s, .string p] w fun e w' => e = .returned (.bool (Lib.hasSuffix s.data.toList p.data.toList)) ∧ w' = w :=
  Any.strings_HasSuffix Tryd.sufS s p w (by omega)
end Go.Proofs.YtmmjghdobdendaaDoor

set_option linter.unusedSimpArgs false
set_option linter.unusedVariables false
set_option maxRecDepth 100000
namespace Go.Proofs.YtmmjghdobdendaaDoor
open Go.RowKit Go.Mem Go.Reg Oct Bit Go.Txt Go.Shelf Go.LawLift Go.Fold
theorem info_str : (Tryd.prog.info? 9).map (fun i => (i.zero, i.size, i.bytes)) = some (some (.string ByteArray.empty), 1, 16) := by kernel_rfl
theorem tvs_snoc (ls : List (List UInt8)) (o : List UInt8) : tvs ls ++ [.string ⟨o.toArray⟩] = tvs (ls ++ [o]) := by simp [tvs]
/-- What the document's words of a key are. -/
def wordsR (K : List UInt8) (ls : List (List UInt8)) (o : List UInt8) : List (List UInt8) := if o = [] then ls else ls ++ [o]
end Go.Proofs.YtmmjghdobdendaaDoor

