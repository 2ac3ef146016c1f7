/- Lemmas and walks on the way to the seat's laws; each theorem says its own conditions. -/
import Derived.Test.YtaojfkfdfpiejaaW12
import Derived.Deep.CutBlock
namespace Cal
/-- The last digit, as a byte. -/
def digb (n : Int) : UInt8 := UInt8.ofNat (48 + (n % 10)).toNat
theorem digb_nat (n : Int) : (((digb n).toNat : Nat) : Int) = 48 + n % 10 := by
  unfold digb
  simp
  omega
/-- A number in so many digits (two, or four). -/
def digs (n : Int) (d : Nat) : List UInt8 := if d = 4 then [digb (n / 10 / 10 / 10), digb (n / 10 / 10), digb (n / 10), digb n] else [digb (n / 10), digb n]
def pieceText (p : Int × Nat × ByteArray) : List UInt8 := digs p.1 p.2.1 ++ p.2.2.data.toList
def allText : List (Int × Nat × ByteArray) → List UInt8
  | [] => []
  | p :: r => pieceText p ++ allText r
theorem allText_append (a b : List (Int × Nat × ByteArray)) : allText (a ++ b) = allText a ++ allText b := by
  induction a with
  | nil => rfl
  | cons x r ih => simp [allText, ih]
theorem allText_take (ps : List (Int × Nat × ByteArray)) (i : Nat) (h : i < ps.length) : allText (ps.take (i + 1)) = allText (ps.take i) ++ pieceText ps[i] := by
  rw [List.take_succ_eq_append_getElem h, allText_append]; simp [allText]
theorem digs_len (n : Int) (d : Nat) : (digs n d).length ≤ 4 := by unfold digs; split <;> simp
theorem allText_len (ps : List (Int × Nat × ByteArray)) (h : ∀ p ∈ ps, p.2.2.size ≤ 100) : (allText ps).length ≤ 104 * ps.length := by
  induction ps with
  | nil => simp [allText]
  | cons x r ih =>
    have h1 := digs_len x.1 x.2.1
    have h2 := h x (by simp)
    have h3 := ih (fun p hp => h p (by simp [hp]))
    have h4 : x.2.2.data.toList.length = x.2.2.size := rfl
    simp only [allText, pieceText, List.length_append, List.length_cons]
    omega
end Cal
namespace Go.Proofs.Ytaojfkfdfpiejaa
open Go.RowKit
theorem builder_below {T e : TypeId} {B b : Nat} {p : Value} {bs : List Value} {w w1 : World} (h : Lib.BuilderAt T e B b p bs w) (hb : Below w.heap.size w w1) : Lib.BuilderAt T e B b p bs w1 := by
  have hlt := h.lt
  obtain ⟨hB, v, hbk, hown, hne⟩ := h
  exact ⟨hB, v, by rw [hb.block _ hlt]; exact hbk, hown.kept (row := none) ⟨hb.os, hb.tape, hb.output, hb.size, fun k hk _ => hb.block k hk⟩ (by cases hv : v.ownBlock <;> simp), hne⟩
theorem isBuilder_below {T e : TypeId} {B b : Nat} {bs : List Value} {w w1 : World} (h : Lib.IsBuilder T e B b bs w) (hb : Below w.heap.size w w1) : Lib.IsBuilder T e B b bs w1 := by
  rcases h with h | h
  · exact .inl (builder_below h hb)
  · exact .inr (builder_below h hb)
theorem isBuilder_lt {T e : TypeId} {B b : Nat} {bs : List Value} {w : World} (h : Lib.IsBuilder T e B b bs w) : b < w.heap.size := by
  rcases h with h | h
  · exact h.lt
  · exact h.lt
theorem byteCells_append (a b : List UInt8) : Lib.byteCells (a ++ b) = Lib.byteCells a ++ Lib.byteCells b := by simp [Lib.byteCells]
theorem strCells_eq (s : ByteArray) : Lib.strCells s = Lib.byteCells s.data.toList := by simp [Lib.strCells, Lib.byteCells]
set_option maxHeartbeats 2000000 in
theorem written_any (pb : Nat) (ps : List (Int × Nat × ByteArray)) (w : World) (hlen : ps.length ≤ 100) (hpb : pb < w.heap.size)
    (hp : ∀ p ∈ ps, (p.2.1 = 2 ∨ p.2.1 = 4) ∧ 0 ≤ p.1 ∧ p.1 ≤ 9999 ∧ p.2.2.size ≤ 100)
    (hc0 : ∀ j (h : j < ps.length), w.cell? ⟨pb, j * 3, none⟩ = some (.int .i64 ps[j].1))
    (hc1 : ∀ j (h : j < ps.length), w.cell? ⟨pb, j * 3 + 1, none⟩ = some (.int .i64 ps[j].2.1))
    (hc2 : ∀ j (h : j < ps.length), w.cell? ⟨pb, j * 3 + 2, none⟩ = some (.string ps[j].2.2)) :
    Calls Try.prog 35 #[.slice (some ⟨pb, 0, none⟩) ps.length ps.length] w fun e w' => e = .returned (.string ⟨(Cal.allText ps).toArray⟩) ∧ Below w.heap.size w w' := by
  have H0 := Lib.hid hc0; have H1 := Lib.hid hc1; have H2 := Lib.hid hc2; have HP := Lib.hid hp
  clear hc0 hc1 hc2 hp
  go_enter Try.func35, Try.ntmps35
  go_wp2
  go_loopw [10] (fun k wr => ∃ i : Nat, i ≤ ps.length ∧ k = .int .i64 i ∧ Lib.IsBuilder 74 5 w.heap.size w.heap.size (Lib.byteCells (Cal.allText (ps.take i))) wr ∧ Below w.heap.size w wr) (fun k _ => (ps.length - intOf k).toNat)
  case atStart =>
    refine ⟨0, Nat.zero_le _, rfl, .inl ⟨Nat.le_refl _, .slice none 0 0, ?_, ?_, ?_⟩, (Below.refl _ _).alloc (Nat.le_refl _) _⟩
    · exact heap_alloc_new w _
    · exact World.ownsRow_nil _ _ _ _
    · simp [Value.ownBlock]
  case round =>
    obtain ⟨i, hi, rfl, hB, hbl⟩ := hrel
    by_cases hlt : i < ps.length
    · have q0 : wr.cell? ⟨pb, i * 3, none⟩ = some (.int .i64 ps[i].1) := (hbl.cell (p := ⟨pb, i * 3, none⟩) hpb).trans (H0.out i hlt)
      have q1 : wr.cell? ⟨pb, i * 3 + 1, none⟩ = some (.int .i64 ps[i].2.1) := (hbl.cell (p := ⟨pb, i * 3 + 1, none⟩) hpb).trans (H1.out i hlt)
      have q2 : wr.cell? ⟨pb, i * 3 + 2, none⟩ = some (.string ps[i].2.2) := (hbl.cell (p := ⟨pb, i * 3 + 2, none⟩) hpb).trans (H2.out i hlt)
      obtain ⟨dd, n0, n9, s9⟩ := HP.out ps[i] (List.getElem_mem hlt)
      have HT := Lib.hid (Cal.allText_take ps i hlt)
      have HPT : Hid (Cal.pieceText ps[i] = Cal.digs ps[i].1 ps[i].2.1 ++ ps[i].2.2.data.toList) := rfl
      generalize Cal.pieceText ps[i] = pt at *
      generalize ps[i].1 = n at *
      generalize ps[i].2.1 = dg at *
      generalize ps[i].2.2 = st at *
      rcases dd with rfl | rfl
      · have hmk : ∀ w, (Instr.makeSlice 72 (.int .i64 2) (.int .i64 2)).run Try.prog w = .ok (.slice (some ⟨w.heap.size, 0, none⟩) 2 2) (w.alloc (.cells #[.int .u8 0, .int .u8 0] 5)) := fun _ => by kernel_rfl
        have hnews : ([.int .u8 (48 + n / 10 % 10), .int .u8 (48 + n % 10)] : List Value) = Lib.byteCells (Cal.digs n 2) := by simp [Cal.digs, Lib.byteCells, Cal.digb_nat]
        have HNn := Lib.hid hnews; clear hnews
        go_wp2_with (fail)
        refine wp_loop_rounds 3 ?_
        rw [rounds_succ]
        go_wp2_with (fail)
        rw [rounds_succ]
        go_wp2_with (fail)
        rw [rounds_succ]
        go_wp2_with (fail)
        have hBB := isBuilder_below hB (((Below.refl wr.heap.size wr).alloc (Nat.le_refl _) (Obj.cells #[.int .i64 (n / 10 / 10), .int .i64 2, .string st] 67)).alloc (by simp) (Obj.cells #[.int .u8 (48 + n / 10 % 10), .int .u8 (48 + n % 10)] 5))
        have hlB := isBuilder_lt hB
        have hle := Cal.allText_len (ps.take i) (fun p hp => (HP.out p (List.mem_of_mem_take hp)).2.2.2)
        have hnw : ∀ j u, ([.int .u8 (48 + n / 10 % 10), .int .u8 (48 + n % 10)] : List Value)[j]? = some u → (((wr.alloc (Obj.cells #[.int .i64 (n / 10 / 10), .int .i64 2, .string st] 67)).alloc (Obj.cells #[.int .u8 (48 + n / 10 % 10), .int .u8 (48 + n % 10)] 5)).cell? ((⟨wr.heap.size + 1, 0, none⟩ : Addr).add j)) = some u := by
          intro j u hu
          match j, hu with
          | 0, hu => simp at hu; subst hu; simp [Addr.add]; first | done | go_simp
          | 1, hu => simp at hu; subst hu; simp [Addr.add]; first | done | go_simp
          | k + 2, hu => simp at hu
        have HN := Lib.hid hnw; clear hnw
        refine (write_any w.heap.size w.heap.size (Lib.byteCells (Cal.allText (ps.take i))) ⟨wr.heap.size + 1, 0, none⟩ 2 2 [.int .u8 (48 + n / 10 % 10), .int .u8 (48 + n % 10)] rfl _ hBB ?_ ?_ ?_ HN.out ?_).mono ?_
        · rw [Lib.byteCells_length]; simp at hle; omega
        · simp; omega
        · simp; omega
        · intro u hu; simp at hu; rcases hu with rfl | rfl <;> rfl
        rintro e w2 ⟨rfl, hB2, hb2, hk2⟩
        rw [HNn.out] at hB2
        have r2 : w2.cell? ⟨wr.heap.size, 2, none⟩ = some (.string st) := by
          have hh := hk2 wr.heap.size (Obj.cells #[.int .i64 (n / 10 / 10), .int .i64 2, .string st] 67) (by exact (heap_alloc_old _ _ (by simp)).trans (heap_alloc_new wr _)) (by simp; omega) (by intro c fz h; cases h)
          rw [Lib.cell_of_heap hh]; rfl
        have hz2 := hb2.size
        have hzz : wr.heap.size + 2 ≤ w2.heap.size := by have := hz2; simp at this; omega
        clear hz2
        go_wp2_with (fail)
        refine (writeString_any w.heap.size w.heap.size (Lib.byteCells (Cal.allText (ps.take i)) ++ Lib.byteCells (Cal.digs n 2)) st _ (.inr hB2) ?_ ?_).mono ?_
        · have := Cal.digs_len n 2
          simp only [List.length_append, Lib.byteCells_length]; simp at hle; omega
        · have := hbl.size; omega
        rintro e w3 ⟨rfl, hB3, hb3, _⟩
        rw [strCells_eq, ← byteCells_append, ← byteCells_append, List.append_assoc, ← HPT.out, ← HT.out] at hB3
        go_wp2_with (fail)
        go_roundw
        case rel => exact ⟨i + 1, by omega, by go_num, .inr hB3, ((hbl.alloc hbl.size _).alloc (by have := hbl.size; simp; omega) _).trans (hb2.trans hb3)⟩
        case measure => simp [intOf]; omega
      · have hmk : ∀ w, (Instr.makeSlice 72 (.int .i64 4) (.int .i64 4)).run Try.prog w = .ok (.slice (some ⟨w.heap.size, 0, none⟩) 4 4) (w.alloc (.cells #[.int .u8 0, .int .u8 0, .int .u8 0, .int .u8 0] 5)) := fun _ => by kernel_rfl
        have hnews : ([.int .u8 (48 + n / 10 / 10 / 10 % 10), .int .u8 (48 + n / 10 / 10 % 10), .int .u8 (48 + n / 10 % 10), .int .u8 (48 + n % 10)] : List Value) = Lib.byteCells (Cal.digs n 4) := by simp [Cal.digs, Lib.byteCells, Cal.digb_nat]
        have HNn := Lib.hid hnews; clear hnews
        go_wp2_with (fail)
        refine wp_loop_rounds 5 ?_
        rw [rounds_succ]
        go_wp2_with (fail)
        rw [rounds_succ]
        go_wp2_with (fail)
        rw [rounds_succ]
        go_wp2_with (fail)
        rw [rounds_succ]
        go_wp2_with (fail)
        rw [rounds_succ]
        go_wp2_with (fail)
        have hBB := isBuilder_below hB (((Below.refl wr.heap.size wr).alloc (Nat.le_refl _) (Obj.cells #[.int .i64 (n / 10 / 10 / 10 / 10), .int .i64 4, .string st] 67)).alloc (by simp) (Obj.cells #[.int .u8 (48 + n / 10 / 10 / 10 % 10), .int .u8 (48 + n / 10 / 10 % 10), .int .u8 (48 + n / 10 % 10), .int .u8 (48 + n % 10)] 5))
        have hlB := isBuilder_lt hB
        have hle := Cal.allText_len (ps.take i) (fun p hp => (HP.out p (List.mem_of_mem_take hp)).2.2.2)
        have hnw : ∀ j u, ([.int .u8 (48 + n / 10 / 10 / 10 % 10), .int .u8 (48 + n / 10 / 10 % 10), .int .u8 (48 + n / 10 % 10), .int .u8 (48 + n % 10)] : List Value)[j]? = some u → (((wr.alloc (Obj.cells #[.int .i64 (n / 10 / 10 / 10 / 10), .int .i64 4, .string st] 67)).alloc (Obj.cells #[.int .u8 (48 + n / 10 / 10 / 10 % 10), .int .u8 (48 + n / 10 / 10 % 10), .int .u8 (48 + n / 10 % 10), .int .u8 (48 + n % 10)] 5)).cell? ((⟨wr.heap.size + 1, 0, none⟩ : Addr).add j)) = some u := by
          intro j u hu
          match j, hu with
          | 0, hu => simp at hu; subst hu; simp [Addr.add]; first | done | go_simp
          | 1, hu => simp at hu; subst hu; simp [Addr.add]; first | done | go_simp
          | 2, hu => simp at hu; subst hu; simp [Addr.add]; first | done | go_simp
          | 3, hu => simp at hu; subst hu; simp [Addr.add]; first | done | go_simp
          | k + 4, hu => simp at hu
        have HN := Lib.hid hnw; clear hnw
        refine (write_any w.heap.size w.heap.size (Lib.byteCells (Cal.allText (ps.take i))) ⟨wr.heap.size + 1, 0, none⟩ 4 4 [.int .u8 (48 + n / 10 / 10 / 10 % 10), .int .u8 (48 + n / 10 / 10 % 10), .int .u8 (48 + n / 10 % 10), .int .u8 (48 + n % 10)] rfl _ hBB ?_ ?_ ?_ HN.out ?_).mono ?_
        · rw [Lib.byteCells_length]; simp at hle; omega
        · simp; omega
        · simp; omega
        · intro u hu; simp at hu; rcases hu with rfl | rfl | rfl | rfl <;> rfl
        rintro e w2 ⟨rfl, hB2, hb2, hk2⟩
        rw [HNn.out] at hB2
        have r2 : w2.cell? ⟨wr.heap.size, 2, none⟩ = some (.string st) := by
          have hh := hk2 wr.heap.size (Obj.cells #[.int .i64 (n / 10 / 10 / 10 / 10), .int .i64 4, .string st] 67) (by exact (heap_alloc_old _ _ (by simp)).trans (heap_alloc_new wr _)) (by simp; omega) (by intro c fz h; cases h)
          rw [Lib.cell_of_heap hh]; rfl
        have hz2 := hb2.size
        have hzz : wr.heap.size + 2 ≤ w2.heap.size := by have := hz2; simp at this; omega
        clear hz2
        go_wp2_with (fail)
        refine (writeString_any w.heap.size w.heap.size (Lib.byteCells (Cal.allText (ps.take i)) ++ Lib.byteCells (Cal.digs n 4)) st _ (.inr hB2) ?_ ?_).mono ?_
        · have := Cal.digs_len n 4
          simp only [List.length_append, Lib.byteCells_length]; simp at hle; omega
        · have := hbl.size; omega
        rintro e w3 ⟨rfl, hB3, hb3, _⟩
        rw [strCells_eq, ← byteCells_append, ← byteCells_append, List.append_assoc, ← HPT.out, ← HT.out] at hB3
        go_wp2_with (fail)
        go_roundw
        case rel => exact ⟨i + 1, by omega, by go_num, .inr hB3, ((hbl.alloc hbl.size _).alloc (by have := hbl.size; simp; omega) _).trans (hb2.trans hb3)⟩
        case measure => simp [intOf]; omega
    · obtain rfl : i = ps.length := by omega
      rw [List.take_length] at hB
      go_wp2_with (go_at_call 43; refine (Try.Builder_String_any w.heap.size w.heap.size (Cal.allText ps) _ hB hbl.size).mono ?_; rintro e w1 ⟨rfl, hb1⟩)
      go_ret
      exact ⟨rfl, hbl.trans hb1⟩
end Go.Proofs.Ytaojfkfdfpiejaa
