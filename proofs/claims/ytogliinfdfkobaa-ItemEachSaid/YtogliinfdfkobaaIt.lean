/- Lemmas and walks on the way to the seat's laws; each theorem says its own conditions. -/
import Derived.Test.YtogliinfdfkobaaI1
import Derived.Deep.Strs
set_option linter.unusedSimpArgs false
set_option linter.unusedVariables false
set_option linter.unusedSimpArgs false
set_option linter.unusedVariables false
set_option maxRecDepth 100000
namespace Go.Proofs.Ytogliinfdfkobaa
open Go.RowKit Go.ChangeShapes Go.WideShapes Go.Deep Go.Mem Go.LawLift Hd
theorem _root_.Go.Mem.ItP.mono1 {P : Nat → Prop} {n : Nat} : ∀ {w : World} {t : Tree} {cs : List Value}, ItP P w n t cs → ItP P w (n + 1) t cs := by
  induction n with
  | zero => intro w t cs h; exact h.elim
  | succ n ih =>
    intro w t cs h
    obtain ⟨t, bs, ks⟩ := t
    obtain ⟨vb, A, c, e, h1, h2, h3, h4, h5⟩ := h
    refine ⟨vb, A, c, e, h1, h2, h3, h4, fun j hj => ?_⟩
    obtain ⟨b, o, e1, e0, e2, ds, e3, e4, e5⟩ := h5 j hj
    exact ⟨b, o, e1, e0, e2, ds, e3, e4, ih e5⟩
theorem _root_.Go.Mem.ItP.mono {P : Nat → Prop} {n m : Nat} {w : World} {t : Tree} {cs : List Value} (h : ItP P w n t cs) (hm : n ≤ m) : ItP P w m t cs := by
  induction m with
  | zero => obtain rfl : n = 0 := by omega
            exact h
  | succ m ih =>
    by_cases e : n = m + 1
    · subst e; exact h
    · exact (ih (by omega)).mono1
theorem cells_item : Try.prog.cellsOf 27 = 5 := by kernel_rfl
theorem cells_tag2 : Try.prog.cellsOf 23 = 3 := by kernel_rfl
theorem cells_bs : Try.prog.cellsOf 24 = 1 := by kernel_rfl
theorem cells_kids : Try.prog.cellsOf 25 = 1 := by kernel_rfl
theorem cells_int2 : Try.prog.cellsOf 3 = 1 := by kernel_rfl
theorem cells_bool2 : Try.prog.cellsOf 4 = 1 := by kernel_rfl
theorem bytes_u8 : Try.prog.bytesOf 5 = 1 := by kernel_rfl
theorem bytes_item : Try.prog.bytesOf 27 = 72 := by kernel_rfl
theorem addr_plain {w : World} {b o i : Nat} {sp : Option Nat} {v : Value} (h : w.cell? ((⟨b, o, sp⟩ : Addr).add i) = some v) (hi : i = 0) : sp = none := by
  subst hi
  unfold Addr.add at h
  rw [if_pos (by simp)] at h
  unfold World.cell? at h
  split at h
  · cases sp with
    | none => rfl
    | some z => simp at h
  · cases h
theorem fits_of : ∀ {ks : List Tree}, (∀ i, (h : i < ks.length) → ks[i].Fit) → Tree.Fits ks
  | [], _ => by simp [Tree.Fits]
  | k :: r, h => by
    simp only [Tree.Fits]
    exact ⟨h 0 (by simp), fits_of fun i hi => by have := h (i + 1) (by simpa using hi); simpa using this⟩
theorem all_append {l m : List Nat} (h : (l ++ m).all (· ≤ reachBytes) = true) : l.all (· ≤ reachBytes) = true ∧ m.all (· ≤ reachBytes) = true := by
  rw [List.all_append, Bool.and_eq_true] at h
  exact h
theorem weightsAll_at {H : Type} {P : Program} {e : TypeId} : ∀ (l : List (DataW H)) (i : Nat) (h : i < l.length), (DataW.weightsAll P e l).all (· ≤ reachBytes) = true → (l[i].weights P e).all (· ≤ reachBytes) = true
  | d :: r, 0, _, h => by
    rw [DataW.weightsAll] at h
    exact (all_append h).1
  | d :: r, i + 1, hi, h => by
    rw [DataW.weightsAll] at h
    have := weightsAll_at r i (by simpa using hi) (all_append h).2
    simpa using this
instance : Inhabited Tree := ⟨.mk ⟨0, 0, false⟩ [] []⟩
theorem bs_agree {w w' : World} {v : Value} {l : List UInt8} (h : Bs w v l) (ha : Agree (fun _ => True) w w') : Bs w' v l := by
  obtain ⟨A, c, rfl, h1, h2, h3, hc⟩ := h.open
  refine Bs.mk rfl h1 h2 h3 fun hp => ?_
  obtain ⟨g, o, e, hg, hcc⟩ := hc 0 hp
  exact ⟨g, o, e, ha.lt trivial hg, fun j hj => (cell_agree ha trivial hg).trans (hcc j hj)⟩
theorem rd_tree {H : Type} {enc : TypeId × Value → H} {w : World} {base : Nat} {spare : Nat → Bool} {held : Bool} : ∀ (fuel : Nat) (cs : List Value) (x : DataW H × List MemPlace),
    DataW.trod enc Try.prog w base spare held fuel 27 cs = some x → (x.1.weights Try.prog 27).all (· ≤ reachBytes) = true → ∃ t : Tree, ItN w fuel t cs ∧ t.Fit := by
  intro fuel
  induction fuel using Nat.strongRecOn with
  | _ fuel ih =>
  intro cs x h hw
  obtain ⟨xs, n, rfl, rfl, hlen, hxl, hf⟩ := DataW.trod_struct Try.underlying27 h
  rw [cells_item] at hlen
  obtain ⟨x0, x1, x2, x3, x4, rfl⟩ : ∃ x0 x1 x2 x3 x4, cs = [x0, x1, x2, x3, x4] := by
    match cs, hlen with
    | [x0, x1, x2, x3, x4], _ => exact ⟨_, _, _, _, _, rfl⟩
  obtain ⟨y0, y1, y2, rfl⟩ : ∃ y0 y1 y2, xs = [y0, y1, y2] := by
    match xs, hxl with
    | [y0, y1, y2], _ => exact ⟨_, _, _, rfl⟩
  have h0 : DataW.trod enc Try.prog w base spare held n 23 (([x0, x1, x2, x3, x4].drop 0).take (Try.prog.cellsOf 23)) = some y0 := hf 0 _ rfl
  have h1 : DataW.trod enc Try.prog w base spare held n 24 (([x0, x1, x2, x3, x4].drop 3).take (Try.prog.cellsOf 24)) = some y1 := hf 1 _ rfl
  have h2 : DataW.trod enc Try.prog w base spare held n 25 (([x0, x1, x2, x3, x4].drop 4).take (Try.prog.cellsOf 25)) = some y2 := hf 2 _ rfl
  simp only [cells_tag2, cells_bs, cells_kids, List.drop_zero, List.drop_succ_cons, List.take_succ_cons, List.take_zero] at h0 h1 h2
  simp only [DataW.weights, Try.underlying27, List.map_cons, List.map_nil, DataW.weightsEach, List.append_nil] at hw
  have hw1 := (all_append (all_append hw).2).1
  have hw2 := (all_append (all_append hw).2).2
  clear hw hf
  -- the tag
  obtain ⟨zs, m0, rfl, rfl, -, hzl, hg⟩ := DataW.trod_struct Try.underlying23 h0
  obtain ⟨z0, z1, z2, rfl⟩ : ∃ z0 z1 z2, zs = [z0, z1, z2] := by
    match zs, hzl with
    | [z0, z1, z2], _ => exact ⟨_, _, _, rfl⟩
  have g0 : DataW.trod enc Try.prog w base spare held m0 3 (([x0, x1, x2].drop 0).take (Try.prog.cellsOf 3)) = some z0 := hg 0 _ rfl
  have g1 : DataW.trod enc Try.prog w base spare held m0 3 (([x0, x1, x2].drop 1).take (Try.prog.cellsOf 3)) = some z1 := hg 1 _ rfl
  have g2 : DataW.trod enc Try.prog w base spare held m0 4 (([x0, x1, x2].drop 2).take (Try.prog.cellsOf 4)) = some z2 := hg 2 _ rfl
  simp only [cells_int2, cells_bool2, List.drop_zero, List.drop_succ_cons, List.take_succ_cons, List.take_zero] at g0 g1 g2
  obtain ⟨tc, e0, -, -⟩ := DataW.trod_int Try.underlying3 g0
  obtain ⟨tn, e1, -, -⟩ := DataW.trod_int Try.underlying3 g1
  obtain ⟨tm, e2, -⟩ := DataW.trod_bool Try.underlying4 g2
  simp only [List.cons.injEq, and_true] at e0 e1 e2
  subst e0 e1 e2
  clear hg g0 g1 g2 h0
  -- the bytes
  obtain ⟨l, hl⟩ := rd_bytes Try.underlying24 Try.underlying5 (by kernel_rfl) h1
  have hlb : l.length ≤ 140737488351232 := by
    obtain ⟨A, c, e, -⟩ := hl.open
    rcases DataW.trod_slice Try.underlying24 h1 with ⟨h3, -⟩ | ⟨a, len, cap, elems, rest, n2, -, h3, rfl, -, -, -, hel, -⟩
    · simp only [List.cons.injEq, and_true] at h3
      rw [h3] at e
      injection e with _ e _
      omega
    · simp only [List.cons.injEq, and_true] at h3
      rw [h3] at e
      injection e with _ e _
      simp only [DataW.weights, Try.underlying24, List.length_map, bytes_u8, List.all_cons, Bool.and_eq_true, decide_eq_true_eq, reachBytes] at hw1
      have hw3 := of_decide_eq_true hw1.1
      omega
  clear h1 hw1
  -- the kids
  rcases DataW.trod_slice Try.underlying25 h2 with ⟨h3, -⟩ | ⟨a, len, cap, elems, rest, n2, h4, h3, rfl, -, hlc, hcm, hel, hx, -⟩
  · simp only [List.cons.injEq, and_true] at h3
    subst h3
    refine ⟨.mk ⟨tc, tn, tm⟩ l [], ⟨x3, none, 0, rfl, fun w' ha => ?_, Nat.le_refl _, by simp [maxLen], fun _ => rfl, fun j hj => by simp at hj⟩, ?_⟩
    · exact bs_agree hl ha
    · simp only [Tree.Fit, Tree.Fits, List.length_nil]
      exact ⟨hlb, Nat.zero_le _, trivial⟩
  · simp only [List.cons.injEq, and_true] at h3
    subst h3
    simp only [DataW.weights, Try.underlying25, List.length_map, bytes_item, List.all_cons, Bool.and_eq_true, decide_eq_true_eq, reachBytes] at hw2
    have hwa := (all_append hw2.2).1
    have key : ∀ i, i < len → ∃ t : Tree, t.Fit ∧ ∃ ds : List Value, w.cells? base (a.add (i * 5)) 5 = some ds ∧ ItN w (m0 + 1) t ds := by
      intro i hi
      have h5 := hx i hi
      rw [cells_item, List.getElem?_eq_getElem (by omega)] at h5
      obtain ⟨ds, h6, h7⟩ := Option.bind_eq_some_iff.1 h5
      have h8 := weightsAll_at _ i (by rw [List.length_map]; omega) hwa
      rw [List.getElem_map] at h8
      obtain ⟨t, h9, h10⟩ := ih n2 (by omega) ds _ h7 h8
      exact ⟨t, h10, ds, h6, h9.mono (by omega)⟩
    obtain ⟨T, hT⟩ := choose_lt key
    refine ⟨.mk ⟨tc, tn, tm⟩ l ((List.range len).map T), ⟨x3, some a, cap, by simp, fun w' ha => bs_agree hl ha, by simpa using hlc, hcm, (fun e => by cases e), fun j hj => ?_⟩, ?_⟩
    · have hj2 : j < len := by simpa using hj
      obtain ⟨hfit, ds, hc, hit⟩ := hT j hj2
      obtain ⟨-, hdl, hcc⟩ := World.cells?_some hc
      obtain ⟨ab, ao, asp⟩ := a
      have hc0 := (hT 0 (by omega)).2
      obtain ⟨ds0, hc0, -⟩ := hc0
      obtain ⟨-, hdl0, hcc0⟩ := World.cells?_some hc0
      have h00 := hcc0 0 (by omega)
      have ha0 : ((⟨ab, ao, asp⟩ : Addr).add (0 * 5)).add 0 = (⟨ab, ao, asp⟩ : Addr).add 0 := by unfold Addr.add; simp
      rw [ha0, List.getElem?_eq_getElem (by omega)] at h00
      obtain rfl := addr_plain h00 rfl
      have hlt : ab < w.heap.size := World.block_lt_of_cell? w _ h00
      refine ⟨ab, ao, rfl, trivial, hlt, ds, hdl, fun i u hu => ?_, by simpa using hit⟩
      have hi5 : i < 5 := by
        have := (List.getElem?_eq_some_iff.1 hu).1
        omega
      have h5 := hcc i hi5
      rw [addr_add, addr_add, Nat.add_assoc] at h5
      rw [Nat.add_assoc, h5, hu]
    · simp only [Tree.Fit, List.length_map, List.length_range]
      have hw3 := of_decide_eq_true hw2.1
      refine ⟨hlb, by omega, fits_of fun i hi => ?_⟩
      simp only [List.getElem_map, List.getElem_range]
      exact (hT i (by simpa using hi)).1
theorem arg_tree {H : Type} {enc : TypeId × Value → H} {w : World} {r : Reach} {b0 base : Nat} {spare : Nat → Bool} {held : Bool} {v : Value} {d : DataW H} {p : List MemPlace} (hv : Value.okWide Try.prog w r b0 27 v)
    (h : DataW.Trod enc Try.prog w base spare held 27 v d p) (hw : (d.weights Try.prog 27).all (· ≤ reachBytes) = true) : ∃ (n : Nat) (t : Tree) (cs : List Value), v = .agg cs.toArray ∧ ItN w n t cs ∧ t.Fit := by
  obtain ⟨cs, rfl, -⟩ := okWide_struct Try.underlying27 hv
  obtain ⟨fuel, hf⟩ := h
  obtain ⟨t, h1, h2⟩ := rd_tree fuel _ _ hf hw
  obtain ⟨l⟩ := cs
  exact ⟨fuel, t, l, rfl, h1, h2⟩
end Go.Proofs.Ytogliinfdfkobaa

