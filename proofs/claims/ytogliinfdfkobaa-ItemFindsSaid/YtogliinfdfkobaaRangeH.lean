/- A loop over a function that may turn one box of its own between the rounds: what the caller knows of memory is a list of own blocks; the loop's two blocks of book-keeping stand in that list while a round goes on. No condition on a program. -/
import Derived.Test.YtogliinfdfkobaaFrame
import Derived.Test.YtogliinfdfkobaaI1
import Derived.RangeFuncNested
import Derived.RangeFuncBound
import Derived.RangeFuncCalls
import Derived.RangeFuncLeaves
import Derived.RangeFuncBox
import Derived.OwnWalkIn
set_option linter.unusedSimpArgs false
set_option linter.unusedVariables false
namespace Go.Mem
open Go.RowKit
theorem Only.putObj (w : World) (b : Nat) (o : Obj) : Only (some b) w (w.putObj b o) :=
  ⟨rfl, rfl, rfl, by simp, fun _ _ hne => World.putObj_heap_other (fun e => hne (by rw [e]))⟩
theorem Hp.putObj {w0 w : World} {L : List Ent} (H : Hp w0 L w) (i : Nat) {b : Nat} {o : Obj} (hi : L[i]? = some (.obj b o)) (o' : Obj) : Hp w0 (L.set i (.obj b o')) (w.putObj b o') :=
  have hx := H.ok _ (List.mem_of_getElem? hi)
  H.turn i hi (Only.putObj w b o') ⟨World.putObj_heap_same (Array.getElem?_eq_some_iff.1 hx.1).1, hx.2⟩ fun _ hk => .inl hk
theorem Hp.allocObj {w0 w : World} {L : List Ent} (H : Hp w0 L w) (o : Obj) : Hp w0 (.obj w.heap.size o :: L) (w.alloc o) :=
  H.adopt ((Below.refl _ _).alloc (Nat.le_refl _) _) (.obj w.heap.size o) ⟨World.alloc_heap_new w o, Nat.le_refl _⟩
theorem Hp.objAt {w0 w : World} {L : List Ent} (H : Hp w0 L w) (i : Nat) {b : Nat} {o : Obj} (hi : L[i]? = some (.obj b o)) : w.heap[b]? = some o := (H.ok _ (List.mem_of_getElem? hi)).1
/-- One marked block turns: whatever it holds then. -/
theorem Hp.onlyAt {w0 w w' : World} {L : List Ent} (H : Hp w0 L w) (i : Nat) {b : Nat} {o : Obj} (hi : L[i]? = some (.obj b o)) (ho : Only (some b) w w') : ∃ o', Hp w0 (L.set i (.obj b o')) w' := by
  have hx := H.ok _ (List.mem_of_getElem? hi)
  have hlt : b < w'.heap.size := Nat.lt_of_lt_of_le (Array.getElem?_eq_some_iff.1 hx.1).1 ho.size
  exact ⟨w'.heap[b], H.turn i hi ho ⟨by simp [hlt], hx.2⟩ fun _ hk => .inl hk⟩
theorem Hp.below2 {w0 w w' : World} {L M : List Ent} (H : Hp w0 L w) (H' : Hp w0 M w') (hs : w.heap.size ≤ w'.heap.size) : Below w0.heap.size w w' :=
  ⟨H'.low.os.trans H.low.os.symm, H'.low.tape.trans H.low.tape.symm, H'.low.output.trans H.low.output.symm, hs, fun k hk => (H'.low.block k hk).trans (H.low.block k hk).symm⟩
/-- An iterator that turns block bx alone of what was there. -/
def SeqX {α : Type} (n : Nat) (P : Program) (g : Nat) (lb : Array Value) (encs : α → Array Value) (bx : Nat) (Kp : World → World → Prop) (Ok : World → Prop) (S Sp : List α → Prop) (N : Nat) : Prop :=
  ∀ (l : Nat) (J Jx : List α → World → Prop) (W : World), Ok W → (∀ s X Y, J s X → Only (some bx) X Y → J s Y) → (∀ s X Y, Jx s X → Only (some bx) X Y → Jx s Y) →
    (∀ pre x W1, J pre W1 → pre.length < N → YieldAt Fence.wide (n - 1) P l (encs x) W1 fun e W' =>
      (e = .returned (.bool true) ∧ J (pre ++ [x]) W' ∧ Kp W1 W') ∨ (e = .returned (.bool false) ∧ Jx (pre ++ [x]) W')) →
    J [] W →
    CallsIn Fence.wide n P g (#[.func (.yield l) #[] #[]] ++ lb) W fun e W' => (∃ v, e = .returned v) ∧ ((∃ xs, S xs ∧ J xs W') ∨ (∃ pre, Sp pre ∧ Jx pre W'))
/-- What a round keeps of the iterator's. -/
def KpX (B bx : Nat) (X Y : World) : Prop := Y.heap[bx]? = X.heap[bx]? ∧ Below B X Y ∧ X.heap.size ≤ Y.heap.size
/-- What a round's body leaves. -/
def postH {α : Type} (w0 : World) (E : List Ent) (z : Nat) (Lp : List α → List Ent → Prop) (Lx : Code → List α → List Ent → Prop) (xs : List α) : Exit → Act → World → Prop
  | .normal, _, W' => z ≤ W'.heap.size ∧ ∃ L, Lp xs L ∧ Hp w0 (E ++ L) W'
  | .ret, _, W' => z ≤ W'.heap.size ∧ ∃ L, Lx .ret xs L ∧ Hp w0 (E ++ L) W'
  | .exit id, _, W' => z ≤ W'.heap.size ∧ ∃ L, Lx (.exit id) xs L ∧ Hp w0 (E ++ L) W'
  | .goto t, _, W' => z ≤ W'.heap.size ∧ ∃ L, Lx (.goto t) xs L ∧ Hp w0 (E ++ L) W'
  | .panic _, _, _ => False
  | .outgrown, _, _ => False
section
variable {P : Program} {α : Type}
theorem range_hp {g : Operand} {ps : Array Tmp} {assign body : Code} {Q : Exit → Act → World → Prop} {a : Act} {w0 w : World} {n : Nat} (h1 : 1 ≤ n)
    {gf : Nat} {lb : Array Value} (hg : a.eval g = .func (.func gf) #[] lb) (eg : ∀ args w, (callFunc gf args).run P w = .ok (.enter gf args) w)
    {bx : Nat} {ob : Obj} {L0 : List Ent} (H : Hp w0 (.obj bx ob :: L0) w)
    {encs : α → Array Value} {S Sp : List α → Prop} {N : Nat} {Ok : World → Prop} (hseq : SeqX (n - 1) P gf lb encs bx (KpX w0.heap.size bx) Ok S Sp N)
    (hOk : ∀ W, W.heap[bx]? = some ob → Below w0.heap.size w0 W → Ok W) (hps : ∀ x, (encs x).size = ps.size)
    (Lp : List α → List Ent → Prop) (Lx : Code → List α → List Ent → Prop) (h0 : Lp [] L0) (a₁ : α → Act)
    (hassign : ∀ (l : Nat) (x : α) (W : World) (K : Act → World → Prop), K (a₁ x) W →
      assign.wpIn (Fence.wide.inRound l) (n - 1 - 1) P (Exit.then K (fun _ _ _ => False)) { tmps := (ps.zip (encs x)).foldl (fun t (p, v) => t.setIfInBounds p v) a.tmps, defers := [] } W)
    (hbody : ∀ (l D : Nat) (ob oL : Obj) (pre : List α) (x : α) (L : List Ent) (W : World), Lp pre L → Hp w0 (.obj bx ob :: .obj l oL :: .obj D (.deferred (some [])) :: L) W → pre.length < N →
      body.wpIn (Fence.wide.inRound l) (n - 1 - 1) P (postH w0 [.obj bx ob, .obj l oL, .obj D (.deferred (some []))] W.heap.size Lp Lx (pre ++ [x])) (a₁ x) W)
    (hdone : ∀ (D : Nat) (ob : Obj) (xs : List α) (L : List Ent) (W : World), S xs → Lp xs L → Hp w0 (.obj bx ob :: .obj D (.deferred (some [])) :: L) W → Q .normal { a with defers := { target := .collected D, args := #[] } :: a.defers } W)
    (hstop : ∀ (D : Nat) (ob : Obj) (c : Code) (pre : List α) (L : List Ent) (W : World), Sp pre → Lx c pre L → Hp w0 (.obj bx ob :: .obj D (.deferred (some [])) :: L) W → c.wpIn Fence.wide n P Q { a with defers := { target := .collected D, args := #[] } :: a.defers } W) :
    (Code.rangeFunc g ps assign body).wpIn Fence.wide n P Q a w := by
  refine wpIn_rangeFunc fun fn hfn => ?_
  -- the loop's two blocks
  have hrec : ∃ rec : LoopState → Option Code → Loop, ∀ st pe, rec st pe = { state := st, pending := pe, fn, tmps := a.tmps, params := ps, assign, body, defers := w.heap.size } := ⟨_, fun _ _ => rfl⟩
  obtain ⟨rec, hrec⟩ := hrec
  have hen := run_enterLoop_outer (P := P) (w := w) fn a.tmps ps assign body
  rw [← hrec .ready none] at hen
  have HD := H.allocObj (.deferred (some []))
  have HL := HD.allocObj (.loop (rec .ready none))
  have hsz : (w.alloc (.deferred (some []))).heap.size = w.heap.size + 1 := World.size_alloc _ _
  rw [hsz] at HL
  generalize (w.alloc (.deferred (some []))).alloc (.loop (rec .ready none)) = W1 at *
  have HJ : Hp w0 (.obj bx ob :: .obj (w.heap.size + 1) (.loop (rec .ready none)) :: .obj w.heap.size (.deferred (some [])) :: L0) W1 := HL.perm ((List.Perm.cons _ (List.Perm.swap _ _ _)).trans (List.Perm.swap _ _ _))
  clear HL HD H hsz
  generalize w.heap.size + 1 = l at *
  generalize w.heap.size = D at *
  refine ⟨l, [{ target := .collected D, args := #[] }], W1, { target := .fn (.func gf) lb, args := #[.func (.yield l) #[] #[]] }, W1, gf, #[.func (.yield l) #[] #[]] ++ lb, W1, hen, ?_, fun _ _ => trivial, ?_, fun _ => h1, ?_⟩
  · simp only [resolve, hg]
    simp [go_sem]
  · simp [invoke, go_sem, eg]
  refine (hseq l (fun pre W => ∃ ob L, Lp pre L ∧ Hp w0 (.obj bx ob :: .obj l (.loop (rec .ready none)) :: .obj D (.deferred (some [])) :: L) W)
    (fun pre W => ∃ ob c L, Lx c pre L ∧ Hp w0 (.obj bx ob :: .obj l (.loop (rec .done (some c))) :: .obj D (.deferred (some [])) :: L) W) W1 (hOk _ (HJ.objAt 0 rfl) HJ.low) ?_ ?_ ?_ ⟨ob, L0, h0, HJ⟩).mono ?_
  · rintro pre X Y ⟨ob, L, hl, h⟩ ho
    obtain ⟨ob', h'⟩ := h.onlyAt 0 rfl ho
    exact ⟨ob', L, hl, h'⟩
  · rintro pre X Y ⟨ob, c, L, hl, h⟩ ho
    obtain ⟨ob', h'⟩ := h.onlyAt 0 rfl ho
    exact ⟨ob', c, L, hl, h'⟩
  · rintro pre x W ⟨ob, L, hl, h⟩ hlen
    have hy := run_yield (P := P) (args := encs x) (h.objAt 1 rfl) (by rw [hrec]; exact hps x)
    rw [hrec] at hy
    refine ⟨fn, _, assign, body, hy, roundIn_of_wpIn hfn (hassign _ x W _ ?_)⟩
    have hb := run_beginRound (P := P) (h.objAt 1 rfl) (by rw [hrec])
    have hB := h.putObj 1 rfl (.loop { rec .ready none with state := .busy })
    simp only [List.set_cons_succ, List.set_cons_zero] at hB
    have hWs : (W.putObj l (.loop { rec .ready none with state := .busy })).heap.size = W.heap.size := World.putObj_size
    refine ⟨_, hb, wpIn_mono (hbody l D ob _ pre x L _ hl hB hlen) ?_⟩
    rw [hWs]
    have fin : ∀ (jump : Option Code) (W3 : World) (L' : List Ent), W.heap.size ≤ W3.heap.size → Hp w0 (.obj bx ob :: .obj l (.loop { rec .ready none with state := .busy }) :: .obj D (.deferred (some [])) :: L') W3 →
        ∃ W4, (Instr.endRound l jump).run P W3 = .ok (.bool jump.isNone) W4 ∧ Hp w0 (.obj bx ob :: .obj l (.loop (rec (if jump.isNone then .ready else .done) jump)) :: .obj D (.deferred (some [])) :: L') W4 ∧ KpX w0.heap.size bx W W4 := by
      intro jump W3 L' hs3 h3
      have he := run_endRound (P := P) jump (h3.objAt 1 rfl)
      have h4 := h3.putObj 1 rfl (.loop { { rec .ready none with state := .busy } with state := if jump.isNone then .ready else .done, pending := jump })
      simp only [List.set_cons_succ, List.set_cons_zero] at h4
      have hs4 : W.heap.size ≤ (W3.putObj l (.loop { { rec .ready none with state := .busy } with state := if jump.isNone then .ready else .done, pending := jump })).heap.size := by rw [World.putObj_size]; exact hs3
      refine ⟨_, he, ?_, (h4.objAt 0 rfl).trans (h.objAt 0 rfl).symm, h.below2 h4 hs4, hs4⟩
      have e : rec (if jump.isNone then .ready else .done) jump = { { rec .ready none with state := .busy } with state := if jump.isNone then .ready else .done, pending := jump } := by rw [hrec, hrec]
      rw [e]
      exact h4
    rintro e a3 W3 hp
    cases e with
    | normal =>
      obtain ⟨hz, L', hl', h'⟩ := hp
      obtain ⟨W4, e1, e2, e3⟩ := fin none W3 L' hz h'
      exact ⟨_, _, e1, .inl ⟨rfl, ⟨ob, L', hl', e2⟩, e3⟩⟩
    | ret =>
      obtain ⟨hz, L', hl', h'⟩ := hp
      obtain ⟨W4, e1, e2, e3⟩ := fin (some .ret) W3 L' hz h'
      exact ⟨_, _, e1, .inr ⟨rfl, ob, .ret, L', hl', e2⟩⟩
    | exit id =>
      obtain ⟨hz, L', hl', h'⟩ := hp
      obtain ⟨W4, e1, e2, e3⟩ := fin (some (.exit id)) W3 L' hz h'
      exact ⟨_, _, e1, .inr ⟨rfl, ob, _, L', hl', e2⟩⟩
    | goto t =>
      obtain ⟨hz, L', hl', h'⟩ := hp
      obtain ⟨W4, e1, e2, e3⟩ := fin (some (.goto t)) W3 L' hz h'
      exact ⟨_, _, e1, .inr ⟨rfl, ob, _, L', hl', e2⟩⟩
    | panic ch => exact hp.elim
    | outgrown => exact hp.elim
  · rintro e W2 ⟨⟨v, rfl⟩, (⟨xs, hS, ob, L, hl, h⟩ | ⟨pre, hSp, ob, c, L, hl, h⟩)⟩
    · have he := run_endLoop (P := P) (h.objAt 1 rfl) (by rw [hrec]; simp)
      rw [hrec] at he
      have h' := h.putObj 1 rfl (.loop { rec .ready none with state := .exhausted })
      simp only [List.set_cons_succ, List.set_cons_zero] at h'
      rw [hrec] at h'
      exact ⟨none, _, he, hdone D ob xs L _ hS hl h'.second⟩
    · have he := run_endLoop (P := P) (h.objAt 1 rfl) (by rw [hrec]; simp)
      rw [hrec] at he
      have h' := h.putObj 1 rfl (.loop { rec .done (some c) with state := .exhausted })
      simp only [List.set_cons_succ, List.set_cons_zero] at h'
      rw [hrec] at h'
      exact ⟨some c, _, he, hstop D ob c pre L _ hSp hl h'.second⟩
#print axioms range_hp
end
end Go.Mem

