/- Lemmas and walks on the way to the seat's laws; each theorem says its own conditions. -/
import Derived.Test.YtaojfkfdfpiejaaW8
namespace Cal
def cmp (a b : Int) : Int := if a < b then -1 else if b < a then 1 else 0
def or3 (a b c : Int) : Int := if a = 0 then (if b = 0 then c else b) else a
theorem cmp_bd (a b : Int) : -1 ≤ cmp a b ∧ cmp a b ≤ 1 := by unfold cmp; (repeat' split) <;> omega
end Cal
namespace Go.Proofs.Ytaojfkfdfpiejaa
open Go.RowKit
set_option maxHeartbeats 400000 in
theorem cmp_any (a b : Int) (w : World) :
    Calls Try.prog 40 #[.int .i64 a, .int .i64 b] w fun e w' => e = .returned (.int .i64 (Cal.cmp a b)) ∧ w = w' := by
  by_cases h1 : a < b
  · go_enter Try.func40, Try.ntmps40
    go_wp2
    go_ret
    exact ⟨ret_int (by unfold Cal.cmp; (repeat' split) <;> omega), rfl⟩
  · by_cases h2 : b < a
    · go_enter Try.func40, Try.ntmps40
      go_wp2
      go_ret
      exact ⟨ret_int (by unfold Cal.cmp; (repeat' split) <;> omega), rfl⟩
    · go_enter Try.func40, Try.ntmps40
      go_wp2
      go_ret
      exact ⟨ret_int (by unfold Cal.cmp; (repeat' split) <;> omega), rfl⟩
set_option maxHeartbeats 400000 in
theorem or3_any (b : Nat) (x0 x1 x2 : Int) (w : World) (h0 : w.cell? ⟨b, 0, none⟩ = some (.int .i64 x0)) (h1 : w.cell? ⟨b, 1, none⟩ = some (.int .i64 x1)) (h2 : w.cell? ⟨b, 2, none⟩ = some (.int .i64 x2)) :
    Calls Try.prog 39 #[.slice (some ⟨b, 0, none⟩) 3 3] w fun e w' => e = .returned (.int .i64 (Cal.or3 x0 x1 x2)) ∧ w = w' := by
  go_enter Try.func39, Try.ntmps39
  go_wp2
  go_loop [8] (fun k => ∃ i : Nat, i ≤ 3 ∧ k = .int .i64 i ∧ (1 ≤ i → x0 = 0) ∧ (2 ≤ i → x1 = 0) ∧ (3 ≤ i → x2 = 0)) (fun k => (3 - intOf k).toNat)
  case atStart => exact ⟨0, by omega, rfl, by omega, by omega, by omega⟩
  case round =>
    obtain ⟨i, hi, rfl, q0, q1, q2⟩ := hrel
    have Q0 := Lib.hid q0; have Q1 := Lib.hid q1; have Q2 := Lib.hid q2
    clear q0 q1 q2
    have hc : i = 0 ∨ i = 1 ∨ i = 2 ∨ i = 3 := by omega
    rcases hc with rfl | rfl | rfl | rfl
    · by_cases hx : x0 = 0
      · subst hx
        go_wp2
        go_round
        case rel => exact ⟨1, by omega, rfl, (by intros; trivial), by omega, by omega⟩
        case measure => simp [intOf]
      · have hx' : (x0 != 0) = true := by simp [hx]
        go_wp2
        go_ret
        exact ⟨ret_int (by unfold Cal.or3; rw [if_neg hx]), rfl⟩
    · by_cases hx : x1 = 0
      · subst hx
        go_wp2
        go_round
        case rel => exact ⟨2, by omega, rfl, fun _ => Q0.out (by omega), (by intros; trivial), by omega⟩
        case measure => simp [intOf]
      · have hx' : (x1 != 0) = true := by simp [hx]
        go_wp2
        go_ret
        exact ⟨ret_int (by unfold Cal.or3; rw [if_pos (Q0.out (by omega)), if_neg hx]), rfl⟩
    · by_cases hx : x2 = 0
      · subst hx
        go_wp2
        go_round
        case rel => exact ⟨3, by omega, rfl, fun _ => Q0.out (by omega), fun _ => Q1.out (by omega), (by intros; trivial)⟩
        case measure => simp [intOf]
      · have hx' : (x2 != 0) = true := by simp [hx]
        go_wp2
        go_ret
        exact ⟨ret_int (by unfold Cal.or3; rw [if_pos (Q0.out (by omega)), if_pos (Q1.out (by omega))]), rfl⟩
    · go_wp2
      go_ret
      exact ⟨ret_int (by unfold Cal.or3; rw [if_pos (Q0.out (by omega)), if_pos (Q1.out (by omega)), Q2.out (by omega)]), rfl⟩
set_option maxHeartbeats 800000 in
theorem compare_any (y m d y' m' d' : Int) (w : World) :
    Calls Try.prog 33 #[.agg #[.int .i64 y, .int .i64 m, .int .i64 d], .agg #[.int .i64 y', .int .i64 m', .int .i64 d']] w fun e w' => e = .returned (.int .i64 (Cal.or3 (Cal.cmp y y') (Cal.cmp m m') (Cal.cmp d d'))) ∧ Below w.heap.size w w' := by
  go_enter Try.func33, Try.ntmps33
  go_wp2
  go_wp2
  go_region_held3 (fun w' => w'.cell? ⟨w.heap.size, 0, none⟩ = some (.int .i64 y) ∧ w'.cell? ⟨w.heap.size, 1, none⟩ = some (.int .i64 m) ∧ w'.cell? ⟨w.heap.size, 2, none⟩ = some (.int .i64 d) ∧ w'.cell? ⟨w.heap.size + 1, 0, none⟩ = some (.int .i64 y') ∧ w'.cell? ⟨w.heap.size + 1, 1, none⟩ = some (.int .i64 m') ∧ w'.cell? ⟨w.heap.size + 1, 2, none⟩ = some (.int .i64 d')) (go_keep) (first | (go_at_call 39; refine (or3_any _ (Cal.cmp y y') (Cal.cmp m m') (Cal.cmp d d') _ ?_ ?_ ?_).mono ?_; (go_simp); (go_simp); (go_simp); rintro e w' ⟨rfl, rfl⟩) | (go_at_call 40; refine (cmp_any _ _ _).mono ?_; rintro e w' ⟨rfl, rfl⟩))
  go_wp2
  go_ret
  refine ⟨rfl, ?_⟩
  repeat (first | exact Below.refl _ _ | refine Below.alloc ?_ (by simp <;> omega) _ | refine Below.setCell ?_ (by simp) _ | refine below_drewN ?_ _ | refine Below.drew ?_)
end Go.Proofs.Ytaojfkfdfpiejaa
