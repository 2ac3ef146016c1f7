/- Lemmas and walks on the way to the seat's laws; each theorem says its own conditions. -/
import Derived.Test.YtaojfkfdfpiejaaW14
namespace Cal
def bs1 (b : UInt8) : ByteArray := ⟨#[b]⟩
/-- The pieces of a moment's text. -/
def textPieces (y m d h mi s : Int) : List (Int × Nat × ByteArray) := [(y, 4, ⟨#[45]⟩), (m, 2, ⟨#[45]⟩), (d, 2, ⟨#[84]⟩), (h, 2, ⟨#[58]⟩), (mi, 2, ⟨#[58]⟩), (s, 2, ⟨#[90]⟩)]
def textOf (s : Int) : List UInt8 := allText (textPieces (pY (s / 86400)) (pM (s / 86400)) (pD (s / 86400)) (s % 86400 / 3600) (s % 86400 / 60 % 60) (s % 60))
theorem pdate_bd (n : Int) (h1 : -719528 ≤ n) (h2 : n ≤ 2932896) : 0 ≤ pY n ∧ pY n ≤ 9999 ∧ 1 ≤ pM n ∧ pM n ≤ 12 ∧ 1 ≤ pD n ∧ pD n ≤ 31 := by
  obtain ⟨hr, _⟩ := pdate_ok n h1 h2
  have := month_of_right hr
  rw [right_iff] at hr
  have := dim_cases (pY n) (pM n)
  omega
end Cal
namespace Go.Proofs.Ytaojfkfdfpiejaa
open Go.RowKit
theorem ret_str2 {a b : List UInt8} (h : a = b) (x : Value) : Ending.returned (.tuple #[.string ⟨a.toArray⟩, x]) = .returned (.tuple #[.string ⟨b.toArray⟩, x]) := by rw [h]
theorem pieces_cells {W : World} {b : Nat} {y m d h mi s : Int} {T : TypeId} (hb : W.heap[b]? = some (.cells #[.int .i64 y, .int .i64 4, .string ⟨#[45]⟩, .int .i64 m, .int .i64 2, .string ⟨#[45]⟩, .int .i64 d, .int .i64 2, .string ⟨#[84]⟩, .int .i64 h, .int .i64 2, .string ⟨#[58]⟩, .int .i64 mi, .int .i64 2, .string ⟨#[58]⟩, .int .i64 s, .int .i64 2, .string ⟨#[90]⟩] T (0, 0))) :
    ∀ j (hj : j < (Cal.textPieces y m d h mi s).length), W.cell? ⟨b, j * 3, none⟩ = some (.int .i64 (Cal.textPieces y m d h mi s)[j].1) ∧ W.cell? ⟨b, j * 3 + 1, none⟩ = some (.int .i64 (Cal.textPieces y m d h mi s)[j].2.1) ∧ W.cell? ⟨b, j * 3 + 2, none⟩ = some (.string (Cal.textPieces y m d h mi s)[j].2.2) := by
  intro j hj
  rw [Lib.cell_of_heap hb, Lib.cell_of_heap hb, Lib.cell_of_heap hb]
  have hj' : j < 6 := hj
  match j, hj' with
  | 0, _ => exact ⟨rfl, rfl, rfl⟩
  | 1, _ => exact ⟨rfl, rfl, rfl⟩
  | 2, _ => exact ⟨rfl, rfl, rfl⟩
  | 3, _ => exact ⟨rfl, rfl, rfl⟩
  | 4, _ => exact ⟨rfl, rfl, rfl⟩
  | 5, _ => exact ⟨rfl, rfl, rfl⟩
theorem pieces_ok (y m d h mi s : Int) (hy : 0 ≤ y ∧ y ≤ 9999) (hm : 0 ≤ m ∧ m ≤ 9999) (hd : 0 ≤ d ∧ d ≤ 9999) (hh : 0 ≤ h ∧ h ≤ 9999) (hmi : 0 ≤ mi ∧ mi ≤ 9999) (hs : 0 ≤ s ∧ s ≤ 9999) :
    ∀ p ∈ Cal.textPieces y m d h mi s, (p.2.1 = 2 ∨ p.2.1 = 4) ∧ 0 ≤ p.1 ∧ p.1 ≤ 9999 ∧ p.2.2.size ≤ 100 := by
  intro p hp
  simp only [Cal.textPieces, List.mem_cons, List.not_mem_nil, or_false] at hp
  rcases hp with rfl | rfl | rfl | rfl | rfl | rfl <;> (refine ⟨by simp, ?_, ?_, (show (1 : Nat) ≤ 100 by decide)⟩ <;> simp only [] <;> omega)
set_option maxHeartbeats 1000000 in
theorem text_yes (s : Int) (h1 : -62167219200 ≤ s) (h2 : s ≤ 253402300799) (w : World) :
    Calls Try.prog 27 #[.int .i64 s] w fun e w' => e = .returned (.tuple #[.string ⟨(Cal.textOf s).toArray⟩, .int .i64 0]) ∧ Below w.heap.size w w' := by
  have HB := Lib.hid (Cal.pdate_bd (s / 86400) (by omega) (by omega))
  have HC : Hid ((0 ≤ s % 86400 / 3600 ∧ s % 86400 / 3600 ≤ 9999) ∧ (0 ≤ s % 86400 / 60 % 60 ∧ s % 86400 / 60 % 60 ≤ 9999) ∧ (0 ≤ s % 60 ∧ s % 60 ≤ 9999)) := by refine ⟨?_, ?_, ?_⟩ <;> omega
  have HT : Hid (Cal.textOf s = Cal.allText (Cal.textPieces (Cal.pY (s / 86400)) (Cal.pM (s / 86400)) (Cal.pD (s / 86400)) (s % 86400 / 3600) (s % 86400 / 60 % 60) (s % 60))) := rfl
  have HA : Hid (atV s = .agg #[.int .i64 (Cal.pY (s / 86400)), .int .i64 (Cal.pM (s / 86400)), .int .i64 (Cal.pD (s / 86400)), .int .i64 (s % 86400 / 3600), .int .i64 (s % 86400 / 60 % 60), .int .i64 (s % 60)]) := rfl
  generalize Cal.pY (s / 86400) = y at *
  generalize Cal.pM (s / 86400) = m at *
  generalize Cal.pD (s / 86400) = d at *
  generalize s % 86400 / 3600 = h at *
  generalize s % 86400 / 60 % 60 = mi at *
  generalize s % 60 = sec at *
  go_enter Try.func27, Try.ntmps27
  go_wp2_with (go_at_call 26; refine (at_yes _ h1 h2 _).mono ?_; rintro e w1 ⟨rfl, hb⟩; rw [HA.out])
  have hz : w.heap.size ≤ w1.heap.size := hb.size
  have hb' : Below w.heap.size w w1 := hb
  have hB : ∀ (A B : Obj), ((w1.alloc A).alloc B).heap[w1.heap.size + 1]? = some B := fun A B => by have := heap_alloc_new (w1.alloc A) B; simpa using this
  have HB' := Lib.hid hB; clear hB
  refine (written_any (w1.heap.size + 1) (Cal.textPieces y m d h mi sec) _ ?_ ?_ ?_ ?_ ?_ ?_).mono ?_
  · show (6 : Nat) ≤ 100; decide
  · simp
  · have b1 := HB.out; have b2 := HC.out
    exact pieces_ok _ _ _ _ _ _ (by omega) (by omega) (by omega) (by omega) (by omega) (by omega)
  · exact fun j hj => (pieces_cells (HB'.out _ _) j hj).1
  · exact fun j hj => (pieces_cells (HB'.out _ _) j hj).2.1
  · exact fun j hj => (pieces_cells (HB'.out _ _) j hj).2.2
  rintro e w2 ⟨rfl, hb2⟩
  go_wp2
  go_ret2
  refine ⟨ret_str2 HT.out.symm _, ?_⟩
  refine Below.trans ?_ (hb2.mono (by simp; omega))
  exact (hb'.alloc hz _).alloc (by simp; omega) _
set_option maxHeartbeats 400000 in
theorem text_no (s : Int) (h : s < -62167219200 ∨ 253402300799 < s) (w : World) :
    Calls Try.prog 27 #[.int .i64 s] w fun e w' => e = .returned (.tuple #[.string ⟨#[]⟩, .int .i64 1]) ∧ Below w.heap.size w w' := by
  go_enter Try.func27, Try.ntmps27
  go_wp2_with (go_at_call 26; refine (at_no _ h _).mono ?_; rintro e w1 ⟨rfl, hb⟩; rw [clockV_def])
  go_ret2
  exact ⟨rfl, hb.alloc hb.size _⟩
end Go.Proofs.Ytaojfkfdfpiejaa
