/- Trees that are made within a framed call: rows of one's own making that are kept as they are from now on, and kids that come one by one. No condition on a program. -/
import Derived.Test.YtogliinfdfkobaaIPlain
set_option linter.unusedSimpArgs false
set_option linter.unusedVariables false
set_option linter.unusedVariables false
namespace Go.Mem
open Go.RowKit Go.Reg Hd
/-- What stands wherever some entries stand. -/
def Firm (w0 : World) (Os : List Ent) (X : World → Prop) : Prop := ∀ w L, Hp w0 L w → (∀ x ∈ Os, x ∈ L) → X w
theorem Firm.more {w0 : World} {Os Os' : List Ent} {X : World → Prop} (h : Firm w0 Os X) (hs : ∀ x ∈ Os, x ∈ Os') : Firm w0 Os' X := fun w L H hh => h w L H fun x hx => hh _ (hs x hx)
/-- A row that is appended to no more. -/
theorem Hp.freeze {w0 w : World} {L : List Ent} {T : TypeId} {s n : Nat} {v : Value} {xs : List Value} (H : Hp w0 (.row T s v n xs :: L) w) :
    ∃ Os, Hp w0 (L ++ Os) w ∧ xs.length = n * s ∧ ((v = .slice none 0 0 ∧ n = 0 ∧ Os = []) ∨ ∃ g cap o, v = .slice (some ⟨g, 0, none⟩) n cap ∧ n ≤ cap ∧ cap ≤ maxLen ∧ Os = [.obj g o] ∧
      ∀ w3 : World, w3.heap[g]? = some o → ∀ (j : Nat) (u : Value), xs[j]? = some u → w3.cell? ⟨g, j, none⟩ = some u) := by
  have hown : w.ownsRow w0.heap.size T s v n xs := H.ok _ (List.mem_cons_self ..)
  obtain ⟨hl, hr⟩ := hown
  rcases hr with ⟨rfl, hz⟩ | ⟨g, cap, cur, rfl, hg1, hg2, hnc, hcm, hcs, ht⟩
  · exact ⟨[], by simpa using H.drop1, hl, .inl ⟨rfl, hz, rfl⟩⟩
  · have hc := (H.rowCellN 0 rfl).2.2.2
    have hlt := (H.rowCellN 0 rfl).1
    have H2 : Hp w0 (.obj g w.heap[g] :: L) w := by
      have h1 := H.turn 0 rfl (Only.of_below (some g) (Below.refl w.heap.size w)) (y := .obj g w.heap[g]) ⟨by simp [hlt], hg1⟩ (fun k hk => .inl hk)
      exact h1
    refine ⟨[.obj g w.heap[g]], H2.perm (List.perm_append_comm (l₁ := [Ent.obj g w.heap[g]])), hl, .inr ⟨g, cap, _, rfl, hnc, hcm, rfl, fun w3 h3 j u hu => ?_⟩⟩
    have h4 := hc j u hu
    have e : w3.heap[g]? = w.heap[g]? := by rw [h3]; simp [hlt]
    unfold World.cell? at h4 ⊢
    simp only at h4 ⊢
    rw [e]
    exact h4
/-- Bytes that are kept. -/
theorem Hp.freezeBs {w0 w : World} {L : List Ent} {T : TypeId} {n : Nat} {v : Value} {bs : List UInt8} (H : Hp w0 (.row T 1 v n (bs.map u8c) :: L) w) (B : Nat) :
    ∃ Os, Hp w0 (L ++ Os) w ∧ Firm w0 Os (Rob (Kept B Os) fun w => Bs w v bs) := by
  obtain ⟨Os, H2, hl, h⟩ := H.freeze
  refine ⟨Os, H2, fun w3 L3 H3 hs w4 ha => ?_⟩
  rw [List.length_map, Nat.mul_one] at hl
  rcases h with ⟨rfl, rfl, rfl⟩ | ⟨g, cap, o, rfl, hnc, hcm, rfl, hc⟩
  · obtain rfl := List.eq_nil_of_length_eq_zero hl
    exact Bs.nil w4
  · have hP : Kept B [.obj g o] g := .inr ⟨o, List.mem_cons_self ..⟩
    have h3 := (H3.ok _ (hs _ (List.mem_cons_self ..))).1
    have hlt := (Array.getElem?_eq_some_iff.1 h3).1
    refine Bs.mk (by rw [hl]) (by omega) (by simpa [maxLen] using hcm) (fun e => by cases e) fun _ => ⟨g, 0, rfl, ha.lt hP hlt, fun j hj => ?_⟩
    exact hc w4 ((ha g hP hlt).trans h3) _ _ (by simp [hj])
/-- Kids that have come so far. -/
def KidsL (w0 : World) (B n : Nat) (ts : List Tree) (vals : List Value) (Os : List Ent) : Prop :=
  vals.length = ts.length * 5 ∧ ∀ j, (hj : j < ts.length) → Firm w0 Os fun w => ItP (Kept B Os) w n ts[j] ((vals.drop (j * 5)).take 5)
theorem KidsL.zero {w0 : World} {B n : Nat} : KidsL w0 B n [] [] [] := ⟨rfl, fun j h => absurd h (Nat.not_lt_zero _)⟩
theorem KidsL.next {w0 : World} {B n : Nat} {ts : List Tree} {t : Tree} {vals : List Value} {Os Os2 : List Ent} {d0 d1 d2 d3 d4 : Value} (h : KidsL w0 B n ts vals Os) (ht : Firm w0 Os2 fun w => ItP (Kept B Os2) w n t [d0, d1, d2, d3, d4]) :
    KidsL w0 B n (ts ++ [t]) (vals ++ [d0, d1, d2, d3, d4]) (Os ++ Os2) := by
  obtain ⟨hl, hk⟩ := h
  refine ⟨by rw [List.length_append, hl, List.length_append, Nat.add_mul]; rfl, fun j hj w L H hs => ?_⟩
  by_cases hlt : j < ts.length
  · have h := (hk j hlt w L H (fun x hx => hs _ (List.mem_append_left _ hx))).keptMore (Os' := Os ++ Os2) (fun x hx => List.mem_append_left _ hx)
    rw [List.getElem_append_left hlt]
    rwa [List.drop_append_of_le_length (by rw [hl]; omega), List.take_append_of_le_length (by rw [List.length_drop, hl]; omega)]
  · obtain rfl : j = ts.length := by rw [List.length_append] at hj; simp at hj; omega
    have e : ((vals ++ [d0, d1, d2, d3, d4]).drop (ts.length * 5)).take 5 = [d0, d1, d2, d3, d4] := by
      rw [← hl, List.drop_left]
      rfl
    rw [e]
    simp only [List.getElem_append_right (Nat.le_refl _), Nat.sub_self, List.getElem_cons_zero]
    exact (ht w L H (fun x hx => hs _ (List.mem_append_right _ hx))).keptMore fun x hx => List.mem_append_right _ hx
/-- A tree of one's own making: its bytes, its kids' row, and the kids. -/
theorem KidsL.tree {w0 w : World} {B n : Nat} {tg : Tg} {bs : List UInt8} {ts : List Tree} {vals : List Value} {Os Ob L : List Ent} {vb rv : Value} {T : TypeId} (h : KidsL w0 B n ts vals Os)
    (H : Hp w0 (.row T 5 rv ts.length vals :: L) w) (hb : Firm w0 Ob (Rob (Kept B Ob) fun w => Bs w vb bs)) :
    ∃ Os1, Hp w0 (L ++ Os1) w ∧ Firm w0 (Os ++ (Ob ++ Os1)) fun w => ItP (Kept B (Os ++ (Ob ++ Os1))) w (n + 1) (.mk tg bs ts) [.int .i64 tg.c, .int .i64 tg.n, .bool tg.m, vb, rv] := by
  obtain ⟨Os1, H2, hl, hr⟩ := H.freeze
  refine ⟨Os1, H2, fun w3 L3 H3 hs => ?_⟩
  have hb3 : Rob (Kept B (Os ++ (Ob ++ Os1))) (fun w => Bs w vb bs) w3 := (hb w3 L3 H3 (fun x hx => hs _ (List.mem_append_right _ (List.mem_append_left _ hx)))).weak fun b hb _ => hb.imp id fun ⟨o, ho⟩ => ⟨o, List.mem_append_right _ (List.mem_append_left _ ho)⟩
  rcases hr with ⟨rfl, h0, rfl⟩ | ⟨g, cap, o, rfl, hnc, hcm, rfl, hc⟩
  · exact ⟨vb, none, 0, by rw [h0], hb3, by omega, by simp [maxLen], fun _ => rfl, fun j hj => by omega⟩
  · have hm : Ent.obj g o ∈ Os ++ (Ob ++ [Ent.obj g o]) := by simp
    have h3 := (H3.ok _ (hs _ hm)).1
    refine ⟨vb, _, cap, rfl, hb3, hnc, by simpa [maxLen] using hcm, (fun e => by cases e), fun j hj => ?_⟩
    refine ⟨g, 0, rfl, .inr ⟨o, hm⟩, (Array.getElem?_eq_some_iff.1 h3).1, (vals.drop (j * 5)).take 5, ?_, fun k u hu => ?_, ?_⟩
    · rw [List.length_take, List.length_drop, h.1]; omega
    · refine hc w3 h3 _ _ ?_
      rw [List.getElem?_take, List.getElem?_drop] at hu
      split at hu
      · rw [← hu]; congr 1; omega
      · cases hu
    · exact (h.2 j hj w3 L3 H3 (fun x hx => hs _ (List.mem_append_left _ hx))).keptMore fun x hx => List.mem_append_left _ hx
theorem Firm.nilBs {w0 : World} {B : Nat} : Firm w0 [] (Rob (Kept B []) fun w => Bs w (.slice none 0 0) []) := fun _ _ _ _ w4 _ => Bs.nil w4
def pz (sp : Sps) : List (Int × Int) := sp.map fun p => ((p.1 : Int), (p.2 : Int))
theorem pz_app (a b : Sps) : pz (a ++ b) = pz a ++ pz b := List.map_append
/-- An entry in front takes another one's place. -/
theorem Hp.moveTo {w0 w : World} {x y : Ent} {M : List Ent} (A : List Ent) (H : Hp w0 (x :: (A ++ y :: M)) w) : Hp w0 (A ++ x :: M) w := by
  have h1 : Hp w0 (A ++ x :: y :: M) w := H.perm List.perm_middle.symm
  exact h1.pick (fun z hz => by
    rcases List.mem_append.1 hz with hz | hz
    · exact List.mem_append_left _ hz
    · exact List.mem_append_right _ (by rcases List.mem_cons.1 hz with rfl | hz; exact List.mem_cons_self ..; exact List.mem_cons_of_mem _ (List.mem_cons_of_mem _ hz)))
    (h1.nd.sublist (((List.Sublist.refl A).append ((List.sublist_cons_self y M).cons_cons x)).filterMap _))
/-- The first entries but for some are let go. -/
theorem Hp.drops {w0 w : World} {M : List Ent} (A B : List Ent) (H : Hp w0 (A ++ M) w) (hs : B.Sublist A) : Hp w0 (B ++ M) w :=
  H.pick (fun z hz => (hs.append (List.Sublist.refl M)).subset hz) (H.nd.sublist ((hs.append (List.Sublist.refl M)).filterMap _))
/-- Some of the first entries, in another order. -/
theorem Hp.selA {w0 w : World} {M : List Ent} (A : List Ent) (H : Hp w0 (A ++ M) w) (is : List Nat) (hn : is.Nodup) : Hp w0 ((is.filterMap fun i => A[i]?) ++ M) w := by
  have hA : Hp w0 A w := H.pick (fun x hx => List.mem_append_left _ hx) (H.nd.sublist ((List.sublist_append_left A M).filterMap _))
  have hS := hA.sel is hn
  have hm : ∀ x ∈ is.filterMap (fun i => A[i]?), x ∈ A := fun x hx => by
    obtain ⟨i, -, hi⟩ := List.mem_filterMap.1 hx
    exact List.mem_of_getElem? hi
  refine H.pick (fun x hx => (List.mem_append.1 hx).elim (fun h => List.mem_append_left _ (hm x h)) (fun h => List.mem_append_right _ h)) ?_
  have h0 := H.nd
  unfold fps at h0 ⊢
  rw [List.filterMap_append, List.nodup_append] at h0 ⊢
  refine ⟨hS.nd, h0.2.1, fun a ha b hb => ?_⟩
  obtain ⟨x, hx, hf⟩ := List.mem_filterMap.1 ha
  exact h0.2.2 a (List.mem_filterMap.2 ⟨x, hm x hx, hf⟩) b hb
theorem Hp.keepL {w0 w : World} {L M : List Ent} (H : Hp w0 (L ++ M) w) : Hp w0 L w :=
  H.pick (fun x hx => List.mem_append_left _ hx) (H.nd.sublist ((List.sublist_append_left L M).filterMap _))
theorem ItP.bytesAt {P : Nat → Prop} {w : World} {n : Nat} {t : Tree} {d0 d1 d2 d3 d4 : Value} (h : ItP P w n t [d0, d1, d2, d3, d4]) : Rob P (fun w => Bs w d3 t.bytes) w := by
  obtain ⟨m, rfl⟩ := h.pos
  obtain ⟨vb, A, c, e, hb, -⟩ := h.opened
  simp only [List.cons.injEq, and_true] at e
  rw [e.2.2.2.1]
  exact hb
/-- A row of one's own stands wherever what was kept stands. -/
theorem own_firm {w0 w1 w2 : World} {L : List Ent} (H : Hp w0 L w1) {T : TypeId} {s n : Nat} {v : Value} {xs : List Value} (ho : w2.ownsRow w1.heap.size T s v n xs) : Firm w0 (made w1.heap.size w2) fun w3 => w3.ownsRow w0.heap.size T s v n xs := by
  intro w3 L3 H3 hs
  refine ⟨ho.1, ho.2.imp id fun ⟨g, cap, cur, e1, e2, e3, r⟩ => ⟨g, cap, cur, e1, Nat.le_trans H.low.size e2, ?_, r⟩⟩
  exact (H3.ok _ (hs _ (mem_made.2 ⟨g, _, e2, e3, rfl⟩))).1
/-- A caller keeps a tree that a callee has made, and rows that the callee has made. -/
theorem Hp.keepTree2 {w0 w1 w2 : World} {L : List Ent} {B n : Nat} {t : Tree} {cs : List Value} (H : Hp w0 L w1) (hB : B ≤ w0.heap.size) (hb : Below w1.heap.size w1 w2) (ht : ItP (fun b => b < B ∨ w1.heap.size ≤ b) w2 n t cs) :
    ∃ Os, Hp w0 (L ++ Os) w2 ∧ (∀ w3 L3, Hp w0 L3 w3 → (∀ x ∈ Os, x ∈ L3) → ItP (fun b => b < B ∨ w0.heap.size ≤ b) w3 n t cs) ∧
      ∀ (T : TypeId) (s : Nat) (v : Value) (k : Nat) (xs : List Value), w2.ownsRow w1.heap.size T s v k xs → Firm w0 Os (fun w3 => w3.ownsRow w0.heap.size T s v k xs) ∧ ∀ g, v.ownBlock = some g → ∃ o, Ent.obj g o ∈ Os := by
  have H2 := (H.step hb).keepAll (Hp.lows H) H.low.size
  refine ⟨_, H2, fun w3 L3 H3 hs => ?_, fun T s v k xs ho => ⟨own_firm H ho, fun g hg => ?_⟩⟩
  · have h1 : ItP (Kept B (made w1.heap.size w2)) w2 n t cs := by simpa using ht.kept (Os := [])
    exact (h1.move (Kept.agree hB H2 H3 (fun x hx => List.mem_append_right _ hx) hs)).keptOut H3 hs
  · obtain ⟨h1, h2⟩ := ho.lt g hg
    exact ⟨w2.heap[g], mem_made.2 ⟨g, _, h1, by simp [h2], rfl⟩⟩
/-- The place in a cursor. -/
def posN (w : World) (b : Nat) : Nat := match w.cell? ⟨b, 1, none⟩ with
  | some (.int _ m) => m.toNat
  | _ => 0
theorem posN_of {w : World} {b : Nat} {k : IntKind} {m : Nat} (h : w.cell? ⟨b, 1, none⟩ = some (.int k (m : Int))) : posN w b = m := by
  unfold posN
  rw [h]
  simp
end Go.Mem

