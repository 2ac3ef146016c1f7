/- Rows of the call's own: a cell read, a cell stored; several adopted. No condition. -/
import Derived.Test.YtmmjghdobdendaaDoorBytes
import Derived.Test.YtmmjghdobdendaaDoorRegN
set_option linter.unusedSimpArgs false
set_option linter.unusedVariables false
namespace Go.Mem
open Go.RowKit
theorem Hp.rowCell {w0 w : World} {L : List Ent} (H : Hp w0 L w) (i : Nat) {e : TypeId} {n c g : Nat} {xs : List Value} (hi : L[i]? = some (.row e 1 (.slice (some ⟨g, 0, none⟩) n c) n xs)) :
    g < w.heap.size ∧ xs.length = n ∧ (∀ j, w.frozen? ⟨g, j, none⟩ = false) ∧ ∀ (j : Nat) (u : Value), xs[j]? = some u → w.cell? ⟨g, j, none⟩ = some u := by
  obtain ⟨hx, hr⟩ := (H.ok _ (List.mem_of_getElem? hi) : w.ownsRow w0.heap.size e 1 (.slice (some ⟨g, 0, none⟩) n c) n xs)
  rcases hr with ⟨h, _⟩ | ⟨g', cap, cur, hv, hb, hg, hnc, hcm, hcs, ht⟩
  · cases h
  · injection hv with e1 e2 e3
    injection e1 with e1
    injection e1 with e1
    subst e1 e3
    refine ⟨(Array.getElem?_eq_some_iff.1 hg).1, by simpa using hx, fun j => frozen_of_row w g j cur e hg, fun j u hu => ?_⟩
    rw [cell_of_row w g j cur e (0, 0) hg]
    rw [← ht, List.getElem?_take] at hu
    split at hu
    · simpa using hu
    · cases hu
end Go.Mem
namespace Go.Mem
open Go.RowKit
end Go.Mem
namespace Go.Mem
theorem Bs.at {w : World} {g o n c : Nat} {l : List UInt8} (h : Bs w (.slice (some ⟨g, o, none⟩) n c) l) (j : Nat) (hj : j < l.length) : w.cell? ⟨g, o + j, none⟩ = some (.int .u8 (l[j].toNat : Int)) := by
  obtain ⟨A', c', e, h1, h2, h3, h4⟩ := Bs.open h
  injection e with e1 e2 e3
  subst e1 e2 e3
  obtain ⟨b', o', e, hl, hc⟩ := h4 j hj
  injection e with e
  injection e with e1 e2
  subst e1 e2
  exact hc j hj
end Go.Mem
namespace Go.Mem
/-- A slice expression's value, whatever room there is. -/
theorem Bs.cut {w : World} {A : Option Addr} {m c : Nat} {l : List UInt8} (h : Bs w (.slice A m c) l) (k n : Nat) (hk : k + n ≤ l.length) : Bs w (.slice (if c = k then A else Option.map (fun x => x.add k) A) n (c - k)) ((l.drop k).take n) := by
  obtain ⟨A', c', e, h1, h2, h3, h4⟩ := Bs.open h
  injection e with e1 e2 e3
  subst e1 e2 e3
  refine Bs.mk (by simp; omega) (by omega) (by unfold maxLen; omega) (fun hn => ?_) fun hp => ?_
  · have : A = none := by
      split at hn
      · exact hn
      · simpa using hn
    have := h3 this
    omega
  · obtain ⟨b, o, rfl, hl, hc⟩ := h4 0 (by omega)
    rw [if_neg (by omega)]
    refine ⟨b, o + k, by simp [Addr.add], hl, fun j hj => ?_⟩
    have hj' : j < n := by simp at hj; omega
    rw [Nat.add_assoc, hc (k + j) (by omega), List.getElem_take, List.getElem_drop]
    rfl
end Go.Mem
namespace Go.Mem
open Go.RowKit
end Go.Mem
namespace Go.Mem
end Go.Mem

/- A region that draws, with what the walk knows of memory: the words of the printed proofs. No condition. -/
namespace Go.Reg
open Go.RowKit Go.Mem
def Eq1 (x : Value) : Value → World → Prop := fun v _ => v = x
theorem Eq1.mk {x : Value} {w : World} : Eq1 x x w := rfl
theorem Eq1.of {x v : Value} {w : World} (h : v = x) : Eq1 x v w := h
theorem Eq1.out {x v : Value} {w : World} (h : Eq1 x v w) : v = x := h
def RowJ (B : Nat) (T : TypeId) (n : Nat) (xs : List Value) : Value → World → Prop := fun v w => w.ownsRow B T 1 v n xs
theorem RowJ.mk {B : Nat} {T : TypeId} {n : Nat} {xs : List Value} {v : Value} {w w' : World} (hB : B ≤ w.heap.size) (ho : w'.ownsRow w.heap.size T 1 v n xs) : RowJ B T n xs v w' :=
  ⟨ho.1, ho.2.imp id fun ⟨g, cap, cur, e1, e2, r⟩ => ⟨g, cap, cur, e1, Nat.le_trans hB e2, r⟩⟩
theorem RowJ.stay {B : Nat} {T : TypeId} {n : Nat} {xs : List Value} {v : Value} {w w' : World} (hs : AboveR B w w') (h : RowJ B T n xs v w) : RowJ B T n xs v w' := by
  refine ⟨h.1, ?_⟩
  rcases h.2 with hn | ⟨g, cap, cur, rfl, hb, hgg, rest⟩
  · exact .inl hn
  · exact .inr ⟨g, cap, cur, rfl, hb, (hs.2 g hb (Array.getElem?_eq_some_iff.1 hgg).1).trans hgg, rest⟩
theorem Fresh.row {b : Bool} {w w' : World} {T : TypeId} {s n : Nat} {v : Value} {xs : List Value} (h : w'.ownsRow w.heap.size T s v n xs) : Fresh b w v w' := by
  intro _ k hk
  rcases h.2 with ⟨rfl, _⟩ | ⟨g, cap, cur, rfl, hb, hg, _⟩
  · simp [vb, vb0] at hk
  · simp only [vb, vb0, List.mem_singleton] at hk
    subst hk
    exact ⟨hb, (Array.getElem?_eq_some_iff.1 hg).1⟩
theorem Fresh.sl {b : Bool} {w : World} {o : Obj} {j n c : Nat} : Fresh b w (.slice (some ⟨w.heap.size, j, none⟩) n c) (w.alloc o) := by
  intro _ k hk
  simp only [vb, vb0, List.mem_singleton] at hk
  subst hk
  exact ⟨Nat.le_refl _, by simp⟩
theorem Hp.adopts {w0 w : World} {L : List Ent} {B : Nat} (H : Hp w0 L w) (hB : w0.heap.size ≤ B) (hlow : ∀ k ∈ fps L, k < B) (M : List Ent) (hM : ∀ x ∈ M, x.ok B w) (hn : (fps M).Nodup) : Hp w0 (M ++ L) w := by
  refine ⟨fun x hx => ?_, ?_, H.low⟩
  · rcases List.mem_append.1 hx with hx | hx
    · have h := hM x hx
      cases x with
      | blk b c T => exact ⟨h.1, Nat.le_trans hB h.2⟩
      | row e size v n xs => exact ⟨h.1, h.2.imp id fun ⟨g, cap, cur, e1, e2, r⟩ => ⟨g, cap, cur, e1, Nat.le_trans hB e2, r⟩⟩
      | obj b o => exact ⟨h.1, Nat.le_trans hB h.2⟩
    · exact H.ok x hx
  · have : fps (M ++ L) = fps M ++ fps L := by simp [fps]
    rw [this, List.nodup_append]
    refine ⟨hn, H.nd, fun a ha b hb e => ?_⟩
    subst e
    obtain ⟨x, hx, hf⟩ := List.mem_filterMap.1 ha
    have := ((hM x hx).lt a hf).1
    have := hlow a hb
    omega
theorem Hp.lows {w0 w : World} {L : List Ent} (H : Hp w0 L w) : ∀ k ∈ fps L, k < w.heap.size := fun k hk => (fps_lt H k hk).2
theorem nodup1 (x : Ent) : (fps [x]).Nodup := by
  cases hf : x.fp <;> simp [fps, hf]
theorem NewPt.stayR {B : Nat} {c : Array Value} {T : TypeId} {v : Value} {w w' : World} (hs : AboveR B w w') (h : NewPt B c T v w) : NewPt B c T v w' := h.stay hs.2
theorem NewSl.stayR {B n : Nat} {c : Array Value} {T : TypeId} {v : Value} {w w' : World} (hs : AboveR B w w') (h : NewSl B n c T v w) : NewSl B n c T v w' := h.stay hs.2
theorem wpList_nil' {P : Program} {ops : Array Oper} {Q : Exit → Act → World → Prop} {a : Act} {w : World} (h : Q .normal a w) : wpList P ops Q [] a w := h
end Go.Reg

