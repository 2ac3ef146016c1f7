/- Trees that a callee hands back within a drawn region: what the region knows of them, whatever else is made. No condition on a program. -/
import Derived.Test.YtogliinfdfkobaaTree
import Derived.Test.YtogliinfdfkobaaRegN
import Derived.Test.YtogliinfdfkobaaFrame
import Derived.Test.YtogliinfdfkobaaI1
import Derived.Test.YtogliinfdfkobaaHPlain
import Derived.Test.YtogliinfdfkobaaInts
set_option linter.unusedSimpArgs false
set_option linter.unusedVariables false
set_option linter.unusedVariables false
namespace Go.Mem
open Go.RowKit Go.Reg
/-- Blocks from a on are as they were. -/
def Stay (a : Nat) (w w' : World) : Prop := ∀ k, a ≤ k → k < w.heap.size → w'.heap[k]? = w.heap[k]?
/-- A tree that lies below B or in what was made from a on: wherever these are as they are now. -/
def TreeK (a B : Nat) (w0 : World) (n : Nat) (t : Tree) (cs : List Value) (w : World) : Prop := ∀ w', w.heap.size ≤ w'.heap.size → Stay a w w' → Agree (· < B) w0 w' → ItP (fun b => b < B ∨ a ≤ b) w' n t cs
theorem TreeK.stay {a B n : Nat} {w0 w w' : World} {t : Tree} {cs : List Value} (h : TreeK a B w0 n t cs w) (hs : AboveR a w w') : TreeK a B w0 n t cs w' :=
  fun v h1 h2 h3 => h v (Nat.le_trans hs.1 h1) (fun k hk hl => (h2 k hk (Nat.lt_of_lt_of_le hl hs.1)).trans (hs.2 k hk hl)) h3
theorem TreeK.out {a B n : Nat} {w0 w : World} {L : List Ent} {t : Tree} {cs : List Value} (h : TreeK a B w0 n t cs w) (H : Hp w0 L w) (hB : B ≤ w0.heap.size) : ItP (fun b => b < B ∨ a ≤ b) w n t cs :=
  h w (Nat.le_refl _) (fun _ _ _ => rfl) (H.agree hB)
theorem TreeK.mk {a B n : Nat} {w0 w w1 : World} {L : List Ent} {t : Tree} {cs : List Value} (H : Hp w0 L w) (hB : B ≤ w0.heap.size) (ha : a ≤ w.heap.size) (hb : Below w.heap.size w w1) (h : ItP (fun b => b < B ∨ w.heap.size ≤ b) w1 n t cs) : TreeK a B w0 n t cs w1 := by
  intro v h1 h2 h3
  refine (h.weak (Q := fun b => b < B ∨ a ≤ b) fun b hb' _ => hb'.imp id fun h => Nat.le_trans ha h).move fun b hb' hl => ?_
  rcases hb' with hb' | hb'
  · have e1 := h3 b hb' (by omega)
    have e2 := (H.low.trans (hb.mono H.low.size)).block b (by omega)
    exact e1.trans e2.symm
  · exact h2 b hb' hl
/-- A value that is a tree's five cells. -/
def TreeV (a B : Nat) (w0 : World) (n : Nat) (t : Tree) (v : Value) (w : World) : Prop := ∃ d0 d1 d2 d3 d4 : Value, v = .agg #[d0, d1, d2, d3, d4] ∧ TreeK a B w0 n t [d0, d1, d2, d3, d4] w
theorem TreeV.stay {a B n : Nat} {w0 w w' : World} {t : Tree} {v : Value} (hs : AboveR a w w') (h : TreeV a B w0 n t v w) : TreeV a B w0 n t v w' := by
  obtain ⟨d0, d1, d2, d3, d4, e, h⟩ := h
  exact ⟨d0, d1, d2, d3, d4, e, h.stay hs⟩
theorem TreeV.mk {a B n : Nat} {w0 w w1 : World} {L : List Ent} {t : Tree} {cs : List Value} (H : Hp w0 L w) (hB : B ≤ w0.heap.size) (ha : a ≤ w.heap.size) (hb : Below w.heap.size w w1) (h : ItP (fun b => b < B ∨ w.heap.size ≤ b) w1 n t cs) : TreeV a B w0 n t (.agg cs.toArray) w1 := by
  match cs, h.len with
  | [d0, d1, d2, d3, d4], _ => exact ⟨d0, d1, d2, d3, d4, rfl, .mk H hB ha hb h⟩
/-- A slice of one tree. -/
def TreeS (a B : Nat) (w0 : World) (n : Nat) (t : Tree) (T : TypeId) (v : Value) (w : World) : Prop := ∃ k d0 d1 d2 d3 d4, v = .slice (some ⟨k, 0, none⟩) 1 1 ∧ a ≤ k ∧ w.heap[k]? = some (.cells #[d0, d1, d2, d3, d4] T (0, 0)) ∧ TreeK a B w0 n t [d0, d1, d2, d3, d4] w
theorem TreeS.stay {a B n : Nat} {w0 w w' : World} {t : Tree} {T : TypeId} {v : Value} (hs : AboveR a w w') (h : TreeS a B w0 n t T v w) : TreeS a B w0 n t T v w' := by
  obtain ⟨k, d0, d1, d2, d3, d4, e, hk, hh, h⟩ := h
  exact ⟨k, d0, d1, d2, d3, d4, e, hk, (hs.2 k hk (Array.getElem?_eq_some_iff.1 hh).1).trans hh, h.stay hs⟩
theorem TreeS.mk {a B n : Nat} {w0 w : World} {t : Tree} {T : TypeId} {d0 d1 d2 d3 d4 : Value} (ha : a ≤ w.heap.size) (h : TreeK a B w0 n t [d0, d1, d2, d3, d4] w) : TreeS a B w0 n t T (.slice (some ⟨w.heap.size, 0, none⟩) 1 1) (w.alloc (.cells #[d0, d1, d2, d3, d4] T)) :=
  ⟨_, d0, d1, d2, d3, d4, rfl, ha, heap_alloc_new w _, h.stay ⟨((Below.refl w.heap.size w).alloc (Nat.le_refl _) _).size, fun k _ hl => ((Below.refl w.heap.size w).alloc (Nat.le_refl _) _).block k hl⟩⟩
/-- All that was made from a on, kept behind what is known. -/
theorem Hp.keepAll {w0 w : World} {L : List Ent} {a : Nat} (H : Hp w0 L w) (hl : ∀ k ∈ fps L, k < a) (ha : w0.heap.size ≤ a) : Hp w0 (L ++ made a w) w := by
  have h := Hp.adopts H ha hl (made a w) (fun x hx => by
    obtain ⟨i, o, hi, ho, rfl⟩ := mem_made.1 hx
    exact ⟨ho, hi⟩) (by rw [fps_made]; exact List.nodup_range.sublist List.filter_sublist)
  exact h.perm List.perm_append_comm
/-- What is known of the kids that have come so far, in each later state of the call. -/
def KidsP (w0 : World) (B n : Nat) (ks : List Tree) (i : Nat) (vals : List Value) (Os : List Ent) : Prop :=
  vals.length = i * 5 ∧ ∀ w L, Hp w0 L w → (∀ x ∈ Os, x ∈ L) → ∀ j, (hj : j < ks.length) → j < i → ItP (Kept B Os) w n ks[j] ((vals.drop (j * 5)).take 5)
theorem KidsP.zero {w0 : World} {B n : Nat} {ks : List Tree} : KidsP w0 B n ks 0 [] [] := ⟨rfl, fun _ _ _ _ j _ h => absurd h (Nat.not_lt_zero _)⟩
theorem KidsP.next {w0 w : World} {B n i a : Nat} {ks : List Tree} {vals : List Value} {Os L : List Ent} {d0 d1 d2 d3 d4 : Value} (h : KidsP w0 B n ks i vals Os) (hB : B ≤ w0.heap.size) (hi : i < ks.length)
    (H : Hp w0 L w) (hs : ∀ x ∈ Os ++ made a w, x ∈ L) (ht : ItP (fun b => b < B ∨ a ≤ b) w n ks[i] [d0, d1, d2, d3, d4]) : KidsP w0 B n ks (i + 1) (vals ++ [d0, d1, d2, d3, d4]) (Os ++ made a w) := by
  obtain ⟨hl, hk⟩ := h
  refine ⟨by rw [List.length_append, hl, Nat.add_mul]; rfl, fun w2 L2 H2 hs2 j hj hji => ?_⟩
  by_cases hlt : j < i
  · have h := (hk w2 L2 H2 (fun x hx => hs2 _ (List.mem_append_left _ hx)) j hj hlt).keptMore (Os' := Os ++ made a w) (fun x hx => List.mem_append_left _ hx)
    rwa [List.drop_append_of_le_length (by rw [hl]; omega), List.take_append_of_le_length (by rw [List.length_drop, hl]; omega)]
  · obtain rfl : j = i := by omega
    have e : ((vals ++ [d0, d1, d2, d3, d4]).drop (j * 5)).take 5 = [d0, d1, d2, d3, d4] := by
      rw [← hl, List.drop_left]
      rfl
    rw [e]
    refine (ht.weak (Q := Kept B (Os ++ made a w)) fun b hb hlb => hb.imp id fun hb => ⟨w.heap[b], List.mem_append_right _ (mem_made.2 ⟨b, _, hb, by simp [hlb], rfl⟩)⟩).move ?_
    exact Kept.agree hB H H2 hs hs2
theorem KidsP.more {w0 w : World} {B n i a : Nat} {ks : List Tree} {vals : List Value} {Os M : List Ent} {d0 d1 d2 d3 d4 : Value} (h : KidsP w0 B n ks i vals Os) (hB : B ≤ w0.heap.size) (hi : i < ks.length)
    (H : Hp w0 (M ++ Os) w) (hl : ∀ k ∈ fps (M ++ Os), k < a) (ha : w0.heap.size ≤ a) (ht : ItP (fun b => b < B ∨ a ≤ b) w n ks[i] [d0, d1, d2, d3, d4]) : ∃ Os2, Hp w0 (M ++ Os2) w ∧ KidsP w0 B n ks (i + 1) (vals ++ [d0, d1, d2, d3, d4]) Os2 := by
  have H2 := H.keepAll hl ha
  rw [List.append_assoc] at H2
  exact ⟨_, H2, h.next hB hi H2 (fun x hx => List.mem_append_right _ hx) ht⟩
/-- A tree of one's own making: its kids' row, and the kids. -/
theorem KidsP.tree {w0 w : World} {B n : Nat} {tg : Hd.Tg} {bs : List UInt8} {ks : List Tree} {vals : List Value} {Os L : List Ent} {vb rv : Value} {T : TypeId} (h : KidsP w0 B n ks ks.length vals Os) (hB : B ≤ w0.heap.size)
    (H : Hp w0 L w) (hs : ∀ x ∈ Os, x ∈ L) (i : Nat) (hi : L[i]? = some (.row T 5 rv ks.length vals)) (hb : Rob (fun b => b < B ∨ w0.heap.size ≤ b) (fun w => Bs w vb bs) w) :
    ItP (fun b => b < B ∨ w0.heap.size ≤ b) w (n + 1) (.mk tg bs ks) [.int .i64 tg.c, .int .i64 tg.n, .bool tg.m, vb, rv] := by
  have hown : w.ownsRow w0.heap.size T 5 rv ks.length vals := H.ok _ (List.mem_of_getElem? hi)
  rcases hown.2 with ⟨rfl, hz⟩ | ⟨g, cap, cur, rfl, hg1, hg2, hnc, hcm, -⟩
  · have hk0 : ks.length = 0 := by omega
    exact ⟨vb, none, 0, by rw [hk0], hb, by omega, by simp [maxLen], fun _ => rfl, fun j hj => by omega⟩
  · have hc := (H.rowCellN i hi).2.2.2
    refine ⟨vb, _, cap, rfl, hb, by omega, by simpa [maxLen] using hcm, (fun e => by cases e), fun j hj => ?_⟩
    refine ⟨g, 0, rfl, .inr ?_, ?_, (vals.drop (j * 5)).take 5, ?_, fun k u hu => ?_, ?_⟩
    · first | exact hg1 | exact hg2
    · exact (H.rowCellN i hi).1
    · rw [List.length_take, List.length_drop, h.1]; omega
    · refine hc _ _ ?_
      rw [List.getElem?_take, List.getElem?_drop] at hu
      split at hu
      · rw [← hu]; congr 1; omega
      · cases hu
    · exact ((h.2 w L H hs j hj hj).keptOut H hs)
theorem ItP.ones {P : Nat → Prop} {w : World} {n : Nat} {t : Tree} {cs : List Value} (h : ItP P w n t cs) : ∀ u ∈ cs, u.oneCell' = true := by
  cases n with
  | zero => exact h.elim
  | succ n =>
    obtain ⟨t, bs, ks⟩ := t
    obtain ⟨vb, A, c, rfl, hb, -⟩ := h
    obtain ⟨B, c2, e, -⟩ := hb.out
    intro u hu
    simp only [List.mem_cons, List.not_mem_nil, or_false] at hu
    rcases hu with rfl | rfl | rfl | rfl | rfl
    · rfl
    · rfl
    · rfl
    · rw [e]; rfl
    · rfl
theorem cells_of {w : World} {k : Nat} {cs : List Value} {T : TypeId} {fz : Nat × Nat} (h : w.heap[k]? = some (.cells cs.toArray T fz)) : ∀ (j : Nat) (u : Value), cs[j]? = some u → w.cell? ((⟨k, 0, none⟩ : Addr).add j) = some u := by
  intro j u hu
  by_cases hj : j = 0
  · subst hj
    simp [World.cell?, Addr.add, h, hu]
  · simp [World.cell?, Addr.add, h, hu, hj]
/-- Bytes of one's own making, wherever new memory and old memory are as they are. -/
theorem Hp.rowRob {w0 w : World} {L : List Ent} {B : Nat} {T : TypeId} {v : Value} {n : Nat} {bs : List UInt8} (H : Hp w0 L w) (i : Nat) (hi : L[i]? = some (.row T 1 v n (bs.map u8c))) : Rob (fun b => b < B ∨ w0.heap.size ≤ b) (fun w => Bs w v bs) w := by
  intro w2 ha
  have hown : w.ownsRow w0.heap.size T 1 v n (bs.map u8c) := H.ok _ (List.mem_of_getElem? hi)
  obtain ⟨hn, hr⟩ := hown
  rw [List.length_map, Nat.mul_one] at hn
  rcases hr with ⟨rfl, hz⟩ | ⟨g, cap, cur, rfl, hg1, hg2, hnc, hcm, -⟩
  · obtain rfl := List.eq_nil_of_length_eq_zero (show bs.length = 0 by omega)
    exact Bs.nil w2
  · have hc := (H.rowCellN i hi).2.2.2
    have hg := (H.rowCellN i hi).1
    have hP : g < B ∨ w0.heap.size ≤ g := .inr (by first | exact hg1 | exact hg2)
    refine Bs.mk hn (by omega) (by simpa [maxLen] using hcm) (fun e => by cases e) fun _ => ⟨g, 0, rfl, ha.lt hP hg, fun j hj => ?_⟩
    rw [cell_agree ha hP hg]
    exact hc _ _ (by simp [hj])
theorem Hp.drop1 {w0 w : World} {L : List Ent} {x : Ent} (H : Hp w0 (x :: L) w) : Hp w0 L w :=
  H.pick (fun _ hx => List.mem_cons_of_mem _ hx) (H.nd.sublist ((List.sublist_cons_self x L).filterMap _))
theorem Tree.totals_at : ∀ (ks : List Tree) (i : Nat) (h : i < ks.length), ks[i].total ≤ Tree.totals ks
  | k :: r, 0, _ => by simp only [Tree.totals, List.getElem_cons_zero]; omega
  | k :: r, i + 1, h => by
    have := Tree.totals_at r i (by simpa using h)
    simp only [Tree.totals, List.getElem_cons_succ]
    omega
theorem ItP.forms {P : Nat → Prop} {w : World} {n : Nat} {t : Tree} {d0 d1 d2 d3 d4 : Value} (h : ItP P w n t [d0, d1, d2, d3, d4]) : ∃ (x y : Int) (b : Bool) (A A2 : Option Addr) (k c k2 c2 : Nat), d0 = .int .i64 x ∧ d1 = .int .i64 y ∧ d2 = .bool b ∧ d3 = .slice A k c ∧ d4 = .slice A2 k2 c2 := by
  obtain ⟨m, rfl⟩ := h.pos
  obtain ⟨vb, A, c, e, hb, -⟩ := h.open
  obtain ⟨B, c2, e2, -⟩ := hb
  simp only [List.cons.injEq, and_true] at e
  obtain ⟨r0, r1, r2, r3, r4⟩ := e
  exact ⟨_, _, _, _, _, _, _, _, _, r0, r1, r2, r3.trans e2, r4⟩
/-- A caller keeps a tree that a callee has made. -/
theorem Hp.keepTree {w0 w1 w2 : World} {L : List Ent} {B n : Nat} {t : Tree} {cs : List Value} (H : Hp w0 L w1) (hB : B ≤ w0.heap.size) (hb : Below w1.heap.size w1 w2) (ht : ItP (fun b => b < B ∨ w1.heap.size ≤ b) w2 n t cs) :
    ∃ Os, Hp w0 (L ++ Os) w2 ∧ ∀ w3 L3, Hp w0 L3 w3 → (∀ x ∈ Os, x ∈ L3) → ItP (fun b => b < B ∨ w0.heap.size ≤ b) w3 n t cs := by
  have H2 := (H.step hb).keepAll (Hp.lows H) H.low.size
  refine ⟨_, H2, fun w3 L3 H3 hs => ?_⟩
  have h1 : ItP (Kept B (made w1.heap.size w2)) w2 n t cs := by simpa using ht.kept (Os := [])
  exact (h1.move (Kept.agree hB H2 H3 (fun x hx => List.mem_append_right _ hx) hs)).keptOut H3 hs
/-- The tree at a path. -/
def findT (t : Tree) : List Int → Option Tree
  | [] => some t
  | i :: r => if h : 0 ≤ i ∧ i.toNat < t.kids.length then findT (t.kids[i.toNat]'h.2) r else none
theorem findT_yes {t : Tree} {i : Int} {r : List Int} (h1 : 0 ≤ i) (h2 : i.toNat < t.kids.length) : findT t (i :: r) = findT t.kids[i.toNat] r := by
  rw [findT, dif_pos ⟨h1, h2⟩]
theorem findT_no {t : Tree} {i : Int} {r : List Int} (h : ¬ (0 ≤ i ∧ i.toNat < t.kids.length)) : findT t (i :: r) = none := by
  rw [findT, dif_neg h]
theorem findT_drop {t : Tree} {ps : List Int} {j : Nat} (h : j < ps.length) : findT t (ps.drop j) = findT t (ps[j] :: ps.drop (j + 1)) := by
  rw [List.drop_eq_getElem_cons h]
mutual
/-- Right tags, and parts such as they must be. -/
def Tree.sound : Tree → Bool
  | .mk t bs ks => Hd.okTag t && (if t.m then decide (bs.length = 0) else decide (ks.length = 0)) && Tree.sounds ks
def Tree.sounds : List Tree → Bool
  | [] => true
  | k :: r => k.sound && Tree.sounds r
end
end Go.Mem

set_option linter.unusedSimpArgs false
set_option linter.unusedVariables false
set_option maxRecDepth 100000
namespace Go.Proofs.Ytogliinfdfkobaa
open Go.RowKit Go.Mem Go.Reg Hd
set_option maxHeartbeats 400000 in
theorem lto_any (c n : Int) (m : Bool) (w : World) :
    Calls Try.prog 36 #[.agg #[.int .i64 c, .int .i64 n, .bool m]] w fun e w' => e = .returned (.agg #[.int .i64 c, .int .i64 n, .bool m]) ∧ Below w.heap.size w w' := by
  have H := Hp.start w
  have C : True := trivial
  go_enter Try.func36, Try.ntmps36
  (repeat' ((fail_if_success (with_reducible show bodyPost _ _ _ _ _ _)); first | ((with_reducible refine Hp.abs_alloc H ?_); intro b' w' H' hb'; (try simp only [hb']); clear hb'; ((try simp only [List.set_cons_zero, List.set_cons_succ, List.setIfInBounds_toArray] at H'); clear C H; have H := H'; clear H'; have C := Hp.facts H; simp only [Facts, factsL, and_true, true_and, List.set_cons_zero, List.set_cons_succ, List.setIfInBounds_toArray] at C)) | ((with_reducible show wpList _ _ _ _ _ (World.setCell _ _ _)); (with_reducible apply Hp.abs_gen H); (first | ((repeat (with_reducible apply Hp.set' 0)); (with_reducible exact H); (repeat rfl); intro w' H') | ((repeat (with_reducible apply Hp.set' 1)); (with_reducible exact H); (repeat rfl); intro w' H') | ((repeat (with_reducible apply Hp.set' 2)); (with_reducible exact H); (repeat rfl); intro w' H') | ((repeat (with_reducible apply Hp.set' 3)); (with_reducible exact H); (repeat rfl); intro w' H') | ((repeat (with_reducible apply Hp.set' 4)); (with_reducible exact H); (repeat rfl); intro w' H') | ((repeat (with_reducible apply Hp.set' 5)); (with_reducible exact H); (repeat rfl); intro w' H') | ((repeat (with_reducible apply Hp.set' 6)); (with_reducible exact H); (repeat rfl); intro w' H') | ((repeat (with_reducible apply Hp.set' 7)); (with_reducible exact H); (repeat rfl); intro w' H')); ((try simp only [List.set_cons_zero, List.set_cons_succ, List.setIfInBounds_toArray] at H'); clear C H; have H := H'; clear H'; have C := Hp.facts H; simp only [Facts, factsL, and_true, true_and, List.set_cons_zero, List.set_cons_succ, List.setIfInBounds_toArray] at C)) | go_values | go_skip | go_guarded | go_step | go_upon | go_back | (simp only [Int.not_lt, Int.not_le] at *; go_simp) | (go_values <;> (try go_simp)) | (go_ite <;> go_prune <;> (try go_simp)) | (split <;> (first | (rename_i hx; exact (hx _ rfl).elim) | go_prune))))
  refine bodyPost_ret (v := .agg #[.int .i64 c, .int .i64 n, .bool m]) (by simp [results, go_sem, C]) rfl ⟨rfl, H.low⟩
set_option maxHeartbeats 400000 in
theorem lof_any (c n : Int) (m : Bool) (w : World) :
    Calls Try.prog 37 #[.agg #[.int .i64 c, .int .i64 n, .bool m]] w fun e w' => e = .returned (.agg #[.int .i64 c, .int .i64 n, .bool m]) ∧ Below w.heap.size w w' := by
  have H := Hp.start w
  have C : True := trivial
  go_enter Try.func37, Try.ntmps37
  (repeat' ((fail_if_success (with_reducible show bodyPost _ _ _ _ _ _)); first | ((with_reducible refine Hp.abs_alloc H ?_); intro b' w' H' hb'; (try simp only [hb']); clear hb'; ((try simp only [List.set_cons_zero, List.set_cons_succ, List.setIfInBounds_toArray] at H'); clear C H; have H := H'; clear H'; have C := Hp.facts H; simp only [Facts, factsL, and_true, true_and, List.set_cons_zero, List.set_cons_succ, List.setIfInBounds_toArray] at C)) | ((with_reducible show wpList _ _ _ _ _ (World.setCell _ _ _)); (with_reducible apply Hp.abs_gen H); (first | ((repeat (with_reducible apply Hp.set' 0)); (with_reducible exact H); (repeat rfl); intro w' H') | ((repeat (with_reducible apply Hp.set' 1)); (with_reducible exact H); (repeat rfl); intro w' H') | ((repeat (with_reducible apply Hp.set' 2)); (with_reducible exact H); (repeat rfl); intro w' H') | ((repeat (with_reducible apply Hp.set' 3)); (with_reducible exact H); (repeat rfl); intro w' H') | ((repeat (with_reducible apply Hp.set' 4)); (with_reducible exact H); (repeat rfl); intro w' H') | ((repeat (with_reducible apply Hp.set' 5)); (with_reducible exact H); (repeat rfl); intro w' H') | ((repeat (with_reducible apply Hp.set' 6)); (with_reducible exact H); (repeat rfl); intro w' H') | ((repeat (with_reducible apply Hp.set' 7)); (with_reducible exact H); (repeat rfl); intro w' H')); ((try simp only [List.set_cons_zero, List.set_cons_succ, List.setIfInBounds_toArray] at H'); clear C H; have H := H'; clear H'; have C := Hp.facts H; simp only [Facts, factsL, and_true, true_and, List.set_cons_zero, List.set_cons_succ, List.setIfInBounds_toArray] at C)) | go_values | go_skip | go_guarded | go_step | go_upon | go_back | (simp only [Int.not_lt, Int.not_le] at *; go_simp) | (go_values <;> (try go_simp)) | (go_ite <;> go_prune <;> (try go_simp)) | (split <;> (first | (rename_i hx; exact (hx _ rfl).elim) | go_prune))))
  refine bodyPost_ret (v := .agg #[.int .i64 c, .int .i64 n, .bool m]) (by simp [results, go_sem, C]) rfl ⟨rfl, H.low⟩
end Go.Proofs.Ytogliinfdfkobaa

