/- What slices.SortFunc leaves of a row of pairs, as a row. No condition. -/
import Derived.Test.YtmmjghdobdendaaPairs
import Derived.Shelf.SlSortCmp.WholeK
set_option linter.unusedSimpArgs false
set_option linter.unusedVariables false
namespace Go.Mem
open Go.RowKit Go.LawLift Go.Sort
open Go.Proofs (sortWorldK ltOf)
def encP (x : Int × Int) : List Value := [.int .i64 x.1, .int .i64 x.2]
theorem flat_pv (d : Array (Int × Int)) : (flatK encP 2 d).toList = pv d.toList := by
  apply List.ext_getElem?
  intro t
  rcases Nat.lt_or_ge t (d.size * 2) with ht | ht
  · have h1 : (flatK encP 2 d)[t]? = some ((encP d[t / 2]!)[t % 2]!) := by
      rw [← get_flatK encP 2 d t ht, getElem!_pos _ t (by simpa using ht), Array.getElem?_eq_getElem]
    have hj : t / 2 < d.toList.length := by simp; omega
    have hg := pv_get d.toList (t / 2) hj
    have hd : d[t / 2]! = d.toList[t / 2] := by rw [getElem!_pos d _ (by simpa using hj)]; simp
    rw [Array.getElem?_toList, h1, hd]
    rcases Nat.mod_two_eq_zero_or_one t with hm | hm
    · rw [show 2 * (t / 2) = t by omega] at hg
      rw [hm, hg.1]
      rfl
    · rw [show 2 * (t / 2) + 1 = t by omega] at hg
      rw [hm, hg.2]
      rfl
  · rw [List.getElem?_eq_none (by simpa using ht), List.getElem?_eq_none (by rw [pv_len]; simpa using ht)]
theorem Hp.holds {w0 w : World} {L : List Ent} (H : Hp w0 L w) (i : Nat) {e : TypeId} {n c g : Nat} {zs : List (Int × Int)} (hi : L[i]? = some (.row e 2 (.slice (some ⟨g, 0, none⟩) n c) n (pv zs))) :
    HoldsK encP 2 w g 0 zs.toArray ∧ g < w.heap.size := by
  obtain ⟨hg, hl, hf, hc⟩ := H.rowCellN i hi
  refine ⟨fun j hj => ?_, hg⟩
  rw [Nat.zero_add]
  refine ⟨hc j _ ?_, hf j⟩
  have h2 := flat_pv zs.toArray
  simp only at h2
  rw [← h2, Array.getElem?_toList, Array.getElem?_eq_getElem hj, getElem!_pos _ j hj]
  rfl
theorem Hp.sorted {w0 w : World} {L : List Ent} (H : Hp w0 L w) (i : Nat) {e : TypeId} {n c g : Nat} {zs : List (Int × Int)} (hi : L[i]? = some (.row e 2 (.slice (some ⟨g, 0, none⟩) n c) n (pv zs)))
    (d' : Array (Int × Int)) (hs : d'.size = n) (q : Nat) (os : Array Obj) :
    Hp w0 (L.set i (.row e 2 (.slice (some ⟨g, 0, none⟩) n c) n (pv d'.toList))) (sortWorldK encP 2 w g 0 q d' os) := by
  obtain ⟨hx, hr⟩ := (H.ok _ (List.mem_of_getElem? hi) : w.ownsRow w0.heap.size e 2 (.slice (some ⟨g, 0, none⟩) n c) n (pv zs))
  rcases hr with ⟨h, _⟩ | ⟨g', cap, cur, hv, hb, hg, hnc, hcm, hcs, ht⟩
  · cases h
  · injection hv with e1 e2 e3
    injection e1 with e1
    injection e1 with e1
    subst e1 e3
    have hlt : g < w.heap.size := (Array.getElem?_eq_some_iff.1 hg).1
    have hnew : (sortWorldK encP 2 w g 0 q d' os).heap[g]? = some (.cells (putCells id 0 (flatK encP 2 d') cur) e (0, 0)) := by
      unfold sortWorldK
      rw [heap_grow_old _ _ (by simp [putRowK, Sort.ahead]; exact hlt)]
      unfold putRowK putRow mapBlock
      rw [Array.getElem?_modify]
      simp only [if_true]
      rw [show (Sort.ahead w q).heap = w.heap from rfl, hg]
      rfl
    refine H.turn i hi ⟨rfl, rfl, rfl, ?_, fun k hk hne => ?_⟩ ⟨?_, .inr ⟨g, c, _, rfl, hb, hnew, hnc, hcm, ?_, ?_⟩⟩ fun _ hk => .inl hk
    · unfold sortWorldK
      rw [size_grow]
      simp [putRowK, Sort.ahead]
    · unfold sortWorldK
      rw [heap_grow_old _ _ (by simp [putRowK, Sort.ahead]; exact hk)]
      unfold putRowK putRow mapBlock
      rw [Array.getElem?_modify]
      have : g ≠ k := fun h => hne (by simp [Ent.fp, Value.ownBlock, h])
      simp [this, Sort.ahead]
    · rw [pv_len]; simp [hs]
    · simpa [putCells] using hcs
    · apply List.ext_getElem?
      intro t
      rw [List.getElem?_take]
      split
      · rename_i hlt2
        have hF : t < (flatK encP 2 d').size := by simp [hs]; exact hlt2
        have hc2 : t < cur.size := by
          rw [hcs]
          exact Nat.lt_of_lt_of_le hlt2 (Nat.mul_le_mul_right 2 hnc)
        rw [← flat_pv, Array.getElem?_toList, Array.getElem?_toList, Array.getElem?_eq_getElem hF]
        simp only [putCells, Array.getElem?_mapIdx, Array.getElem?_eq_getElem hc2, Option.map_some]
        rw [if_pos ⟨Nat.zero_le _, by omega⟩, Nat.sub_zero, getElem!_pos _ t hF]
        rfl
      · rw [List.getElem?_eq_none]
        rw [pv_len]
        simp [hs]
        omega
theorem perm_of_in {d d' : Array (Int × Int)} (h : PermIn 0 d.size d d') : d'.size = d.size ∧ d'.toList.Perm d.toList := by
  obtain ⟨h1, _, h3⟩ := h
  refine ⟨h1, ?_⟩
  have a : d'.extract 0 d.size = d' := by rw [← h1]; simp
  have b : d.extract 0 d.size = d := by simp
  rwa [a, b] at h3
theorem ltFrom (x y : Int × Int) : ltOf (fun x y : Int × Int => Lib.compareInt x.1 y.1) x y = decide (x.1 < y.1) := by
  unfold ltOf Lib.compareInt
  by_cases h1 : x.1 < y.1
  · simp [h1]
  · by_cases h2 : y.1 < x.1 <;> simp [h1, h2]
theorem swoFrom : SWO (ltOf fun x y : Int × Int => Lib.compareInt x.1 y.1) where
  irrefl x := by rw [ltFrom]; simp
  trans x y z h1 h2 := by rw [ltFrom] at *; simp at *; omega
  ntrans x y z h1 h2 := by rw [ltFrom] at *; simp at *; omega
theorem pairwise_of_in {d' : Array (Int × Int)} (h : SortedIn (ltOf fun x y : Int × Int => Lib.compareInt x.1 y.1) 0 d'.size d') : d'.toList.Pairwise fun a b => a.1 ≤ b.1 := by
  rw [List.pairwise_iff_getElem]
  intro i j hi hj hij
  have := h i j (Nat.zero_le _) hij (by simpa using hj)
  rw [ltFrom, getElem!_pos d' j (by simpa using hj), getElem!_pos d' i (by simpa using hi)] at this
  simp only [Array.getElem_toList]
  simpa using this
end Go.Mem

