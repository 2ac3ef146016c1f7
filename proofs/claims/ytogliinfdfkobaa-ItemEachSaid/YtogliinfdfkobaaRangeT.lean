/- A loop over a function, framed: the iterator's own blocks stand ahead of the caller's in one list of entries, and neither party touches the other's. No condition on a program. -/
import Derived.Test.YtogliinfdfkobaaRangeH
import Derived.Test.YtogliinfdfkobaaH1
set_option linter.unusedSimpArgs false
set_option linter.unusedVariables false
set_option linter.unusedVariables false
namespace Go.Mem
open Go.RowKit
/-- What a round hands the iterator. -/
def RoundF {α : Type} (w0 : World) (Lp Lx : List α → List Ent → Prop) (M : List Ent) (xs : List α) (e : Ending) (W' : World) : Prop :=
  ∃ L', Hp w0 (M ++ L') W' ∧ ((e = .returned (.bool true) ∧ Lp xs L') ∨ (e = .returned (.bool false) ∧ Lx xs L'))
/-- The caller's word: each round, whatever the iterator holds. -/
def YieldF {α : Type} (P : Program) (l : Nat) (w0 : World) (encs : α → Array Value) (Ok : World → α → Prop) (Good : List α → Prop) (Lp Lx : List α → List Ent → Prop) : Prop :=
  ∀ (m : Nat) pre x L M W, Lp pre L → Hp w0 (M ++ L) W → Ok W x → Good (pre ++ [x]) → YieldAt Fence.wide m P l (encs x) W (RoundF w0 Lp Lx M (pre ++ [x]))
/-- An iterator that touches blocks of its own alone. -/
def SeqF {α : Type} (P : Program) (g : Nat) (lb : Array Value) (encs : α → Array Value) (w0 : World) (T : World → Prop) (Os : List Ent) (Ok : World → α → Prop) (Good S : List α → Prop) : Prop :=
  ∀ (l : Nat) (Lp Lx : List α → List Ent → Prop) (M L : List Ent) (W : World), Hp w0 (M ++ L) W → Lp [] L → T W → (∀ pre L, Lp pre L → ∀ x ∈ Os, x ∈ L) → YieldF P l w0 encs Ok Good Lp Lx →
    Calls P g (#[.func (.yield l) #[] #[]] ++ lb) W fun e W' => (∃ v, e = .returned v) ∧ ∃ xs L', Hp w0 (M ++ L') W' ∧ ((S xs ∧ Lp xs L') ∨ (Good xs ∧ Lx xs L'))
theorem roundIn_wide {P : Program} {n m l : Nat} {f : FuncId} {tmps : Array Value} {assign body : Code} {w : World} {R : Ending → World → Prop} (h : RoundIn Fence.wide n P l f tmps assign body w R) : RoundIn Fence.wide m P l f tmps assign body w R :=
  ⟨h.1, fun c cs _ => h.2 c cs (room_wide _)⟩
/-- What a round's body leaves. -/
def postF {α : Type} (w0 : World) (M : List Ent) (Lp : List α → List Ent → Prop) (Lx : Code → List α → List Ent → Prop) (xs : List α) : Exit → Act → World → Prop
  | .normal, _, W' => ∃ L, Lp xs L ∧ Hp w0 (L ++ M) W'
  | .ret, _, W' => ∃ L, Lx .ret xs L ∧ Hp w0 (L ++ M) W'
  | .exit id, _, W' => ∃ L, Lx (.exit id) xs L ∧ Hp w0 (L ++ M) W'
  | .goto t, _, W' => ∃ L, Lx (.goto t) xs L ∧ Hp w0 (L ++ M) W'
  | .panic _, _, _ => False
  | .outgrown, _, _ => False
section
variable {P : Program} {α : Type}
theorem Hp.swap {w0 w : World} {L M : List Ent} (H : Hp w0 (L ++ M) w) : Hp w0 (M ++ L) w := H.perm List.perm_append_comm
theorem range_fr {g : Operand} {ps : Array Tmp} {assign body : Code} {Q : Exit → Act → World → Prop} {a : Act} {w0 w : World}
    {gf : Nat} {lb : Array Value} (hg : a.eval g = .func (.func gf) #[] lb) (eg : ∀ args w, (callFunc gf args).run P w = .ok (.enter gf args) w)
    {L0 : List Ent} (H : Hp w0 L0 w) {encs : α → Array Value} {T : World → Prop} {Os : List Ent} {Ok : World → α → Prop} {Good S : List α → Prop}
    (hseq : SeqF P gf lb encs w0 T Os Ok Good S) (hps : ∀ x, (encs x).size = ps.size)
    (Lp : List α → List Ent → Prop) (Lx : Code → List α → List Ent → Prop) (h0 : Lp [] L0) (hE : ∀ W, Below w.heap.size w W → T W) (hK : ∀ pre L, Lp pre L → ∀ x ∈ Os, x ∈ L)
    (hOk : ∀ (X Y : World) (L L' : List Ent) (x : α), Hp w0 L X → Hp w0 L' Y → (∀ e ∈ Os, e ∈ L) → (∀ e ∈ Os, e ∈ L') → Ok X x → Ok Y x) (a₁ : α → Act)
    (hassign : ∀ (l : Nat) (x : α) (W : World) (K : Act → World → Prop), K (a₁ x) W →
      assign.wpIn (Fence.wide.inRound l) 6 P (Exit.then K (fun _ _ _ => False)) { tmps := (ps.zip (encs x)).foldl (fun t (p, v) => t.setIfInBounds p v) a.tmps, defers := [] } W)
    (hbody : ∀ (l : Nat) (pre : List α) (x : α) (L M : List Ent) (W : World), Lp pre L → Hp w0 (L ++ M) W → Ok W x → Good (pre ++ [x]) →
      body.wpIn (Fence.wide.inRound l) 6 P (postF w0 M Lp Lx (pre ++ [x])) (a₁ x) W)
    (hdone : ∀ (D : Nat) (xs : List α) (L : List Ent) (W : World), S xs → Lp xs L → Hp w0 (.obj D (.deferred (some [])) :: L) W → Q .normal { a with defers := { target := .collected D, args := #[] } :: a.defers } W)
    (hstop : ∀ (D : Nat) (c : Code) (pre : List α) (L : List Ent) (W : World), Good pre → Lx c pre L → Hp w0 (.obj D (.deferred (some [])) :: L) W → c.wpIn Fence.wide 8 P Q { a with defers := { target := .collected D, args := #[] } :: a.defers } W) :
    (Code.rangeFunc g ps assign body).wpIn Fence.wide 8 P Q a w := by
  refine wpIn_rangeFunc fun fn hfn => ?_
  have hrec : ∃ rec : LoopState → Option Code → Loop, ∀ st pe, rec st pe = { state := st, pending := pe, fn, tmps := a.tmps, params := ps, assign, body, defers := w.heap.size } := ⟨_, fun _ _ => rfl⟩
  obtain ⟨rec, hrec⟩ := hrec
  have hen := run_enterLoop_outer (P := P) (w := w) fn a.tmps ps assign body
  rw [← hrec .ready none] at hen
  have HD := H.allocObj (.deferred (some []))
  have HL := HD.allocObj (.loop (rec .ready none))
  have hsz : (w.alloc (.deferred (some []))).heap.size = w.heap.size + 1 := World.size_alloc _ _
  have hbw : Below w.heap.size w ((w.alloc (.deferred (some []))).alloc (.loop (rec .ready none))) := ((Below.refl _ _).alloc (Nat.le_refl _) _).alloc (by omega) _
  have hE0 := hE _ hbw
  clear hE hbw
  rw [hsz] at HL
  generalize (w.alloc (.deferred (some []))).alloc (.loop (rec .ready none)) = W1 at *
  clear HD H hsz
  generalize w.heap.size + 1 = l at *
  generalize w.heap.size = D at *
  refine ⟨l, [{ target := .collected D, args := #[] }], W1, { target := .fn (.func gf) lb, args := #[.func (.yield l) #[] #[]] }, W1, gf, #[.func (.yield l) #[] #[]] ++ lb, W1, hen, ?_, fun _ _ => trivial, ?_, fun _ => (by omega), ?_⟩
  · simp only [resolve, hg]
    simp [go_sem]
  · simp [invoke, go_sem, eg]
  -- the caller's list: the loop's two blocks, and what the caller holds
  refine callsIn_wide.2 ((hseq l (fun pre X => ∃ L, X = .obj l (.loop (rec .ready none)) :: .obj D (.deferred (some [])) :: L ∧ Lp pre L)
    (fun pre X => ∃ c L, X = .obj l (.loop (rec .done (some c))) :: .obj D (.deferred (some [])) :: L ∧ Lx c pre L) [] _ W1 HL ⟨_, rfl, h0⟩ ?_ ?_ ?_).mono ?_)
  · exact hE0
  · rintro pre X ⟨L, rfl, h⟩ x hx
    exact List.mem_cons_of_mem _ (List.mem_cons_of_mem _ (hK pre L h x hx))
  · rintro m pre x X M W ⟨L, rfl, hl⟩ h hok hgood
    have h1 : Hp w0 (.obj l (.loop (rec .ready none)) :: .obj D (.deferred (some [])) :: (L ++ M)) W := h.swap
    have hy := run_yield (P := P) (args := encs x) (h1.objAt 0 rfl) (by rw [hrec]; exact hps x)
    rw [hrec] at hy
    refine ⟨fn, _, assign, body, hy, roundIn_wide (n := 6) (roundIn_of_wpIn hfn (hassign _ x W _ ?_))⟩
    have hb := run_beginRound (P := P) (h1.objAt 0 rfl) (by rw [hrec])
    have hB := h1.putObj 0 rfl (.loop { rec .ready none with state := .busy })
    simp only [List.set_cons_succ, List.set_cons_zero] at hB
    have hB2 : Hp w0 (L ++ (.obj l (.loop { rec .ready none with state := .busy }) :: .obj D (.deferred (some [])) :: M)) (W.putObj l (.loop { rec .ready none with state := .busy })) := by
      have h2 := hB.perm ((List.Perm.cons _ (List.perm_middle (l₁ := L) (l₂ := M)).symm).trans (List.perm_middle).symm)
      exact h2
    refine ⟨_, hb, wpIn_mono (hbody l _ x L _ _ hl hB2 ?_ hgood) ?_⟩
    · exact hOk _ _ _ _ _ h hB2 (fun e he => List.mem_append_right _ (List.mem_cons_of_mem _ (List.mem_cons_of_mem _ (hK _ _ hl e he)))) (fun e he => List.mem_append_left _ (hK _ _ hl e he)) hok
    have fin : ∀ (jump : Option Code) (W3 : World) (L' : List Ent), Hp w0 (L' ++ (.obj l (.loop { rec .ready none with state := .busy }) :: .obj D (.deferred (some [])) :: M)) W3 →
        ∃ W4, (Instr.endRound l jump).run P W3 = .ok (.bool jump.isNone) W4 ∧ Hp w0 (M ++ (.obj l (.loop (rec (if jump.isNone then .ready else .done) jump)) :: .obj D (.deferred (some [])) :: L')) W4 := by
      intro jump W3 L' h3
      have h3 := h3.swap
      simp only [List.cons_append] at h3
      have he := run_endRound (P := P) jump (h3.objAt 0 rfl)
      have h4 := h3.putObj 0 rfl (.loop { { rec .ready none with state := .busy } with state := if jump.isNone then .ready else .done, pending := jump })
      simp only [List.set_cons_succ, List.set_cons_zero] at h4
      refine ⟨_, he, ?_⟩
      have e : rec (if jump.isNone then .ready else .done) jump = { { rec .ready none with state := .busy } with state := if jump.isNone then .ready else .done, pending := jump } := by rw [hrec, hrec]
      rw [e]
      exact h4.perm ((List.Perm.cons _ (List.perm_middle (l₁ := M) (l₂ := L')).symm).trans (List.perm_middle).symm)
    rintro e a3 W3 hp
    cases e with
    | normal =>
      obtain ⟨L', hl', h'⟩ := hp
      obtain ⟨W4, e1, e2⟩ := fin none W3 L' h'
      exact ⟨_, _, e1, _, e2, .inl ⟨rfl, L', rfl, hl'⟩⟩
    | ret =>
      obtain ⟨L', hl', h'⟩ := hp
      obtain ⟨W4, e1, e2⟩ := fin (some .ret) W3 L' h'
      exact ⟨_, _, e1, _, e2, .inr ⟨rfl, .ret, L', rfl, hl'⟩⟩
    | exit id =>
      obtain ⟨L', hl', h'⟩ := hp
      obtain ⟨W4, e1, e2⟩ := fin (some (.exit id)) W3 L' h'
      exact ⟨_, _, e1, _, e2, .inr ⟨rfl, _, L', rfl, hl'⟩⟩
    | goto t =>
      obtain ⟨L', hl', h'⟩ := hp
      obtain ⟨W4, e1, e2⟩ := fin (some (.goto t)) W3 L' h'
      exact ⟨_, _, e1, _, e2, .inr ⟨rfl, _, L', rfl, hl'⟩⟩
    | panic ch => exact hp.elim
    | outgrown => exact hp.elim
  · rintro e W2 ⟨⟨v, rfl⟩, xs, X, h, (⟨hS, L, rfl, hl⟩ | ⟨hG, c, L, rfl, hl⟩)⟩
    · simp only [List.nil_append] at h
      have he := run_endLoop (P := P) (h.objAt 0 rfl) (by rw [hrec]; simp)
      rw [hrec] at he
      have h' := h.putObj 0 rfl (.loop { rec .ready none with state := .exhausted })
      simp only [List.set_cons_succ, List.set_cons_zero] at h'
      rw [hrec] at h'
      exact ⟨none, _, he, hdone D xs L _ hS hl h'.tail⟩
    · simp only [List.nil_append] at h
      have he := run_endLoop (P := P) (h.objAt 0 rfl) (by rw [hrec]; simp)
      rw [hrec] at he
      have h' := h.putObj 0 rfl (.loop { rec .done (some c) with state := .exhausted })
      simp only [List.set_cons_succ, List.set_cons_zero] at h'
      rw [hrec] at h'
      exact ⟨some c, _, he, hstop D c xs L _ hG hl h'.tail⟩
theorem range_fr2 {g : Operand} {ps : Array Tmp} {assign body : Code} {Q : Exit → Act → World → Prop} {a : Act} {w0 w : World}
    {gf : Nat} {lb : Array Value} (hg : a.eval g = .func (.func gf) #[] lb) (eg : ∀ args w, (callFunc gf args).run P w = .ok (.enter gf args) w)
    {L0 : List Ent} (H : Hp w0 L0 w) {encs : α → Array Value} {T : World → Prop} {Os : List Ent} {Ok : World → α → Prop} {Good S : List α → Prop}
    (hseq : SeqF P gf lb encs w0 T Os Ok Good S) (hps : ∀ x, (encs x).size = ps.size)
    (Lp : List α → List Ent → Prop) (Lx : Code → List α → List Ent → Prop) (h0 : Lp [] L0) (hE : ∀ W, Below w.heap.size w W → T W) (hK : ∀ pre L, Lp pre L → ∀ x ∈ Os, x ∈ L)
    (hOk : ∀ (X Y : World) (L L' : List Ent) (x : α), Hp w0 L X → Hp w0 L' Y → (∀ e ∈ Os, e ∈ L) → (∀ e ∈ Os, e ∈ L') → Ok X x → Ok Y x) (Ex : α → Nat → Ent) (a₁ : α → Nat → Act)
    (hassign : ∀ (l : Nat) (x : α) (L : List Ent) (W : World) (K : Act → World → Prop), Hp w0 L W → Ok W x → (∀ b W', Hp w0 (Ex x b :: L) W' → K (a₁ x b) W') →
      assign.wpIn (Fence.wide.inRound l) 6 P (Exit.then K (fun _ _ _ => False)) { tmps := (ps.zip (encs x)).foldl (fun t (p, v) => t.setIfInBounds p v) a.tmps, defers := [] } W)
    (hbody : ∀ (l : Nat) (pre : List α) (x : α) (b : Nat) (L M : List Ent) (W : World), Lp pre L → Hp w0 (Ex x b :: (L ++ M)) W → Ok W x → Good (pre ++ [x]) →
      body.wpIn (Fence.wide.inRound l) 6 P (postF w0 M Lp Lx (pre ++ [x])) (a₁ x b) W)
    (hdone : ∀ (D : Nat) (xs : List α) (L : List Ent) (W : World), S xs → Lp xs L → Hp w0 (.obj D (.deferred (some [])) :: L) W → Q .normal { a with defers := { target := .collected D, args := #[] } :: a.defers } W)
    (hstop : ∀ (D : Nat) (c : Code) (pre : List α) (L : List Ent) (W : World), Good pre → Lx c pre L → Hp w0 (.obj D (.deferred (some [])) :: L) W → c.wpIn Fence.wide 8 P Q { a with defers := { target := .collected D, args := #[] } :: a.defers } W) :
    (Code.rangeFunc g ps assign body).wpIn Fence.wide 8 P Q a w := by
  refine wpIn_rangeFunc fun fn hfn => ?_
  have hrec : ∃ rec : LoopState → Option Code → Loop, ∀ st pe, rec st pe = { state := st, pending := pe, fn, tmps := a.tmps, params := ps, assign, body, defers := w.heap.size } := ⟨_, fun _ _ => rfl⟩
  obtain ⟨rec, hrec⟩ := hrec
  have hen := run_enterLoop_outer (P := P) (w := w) fn a.tmps ps assign body
  rw [← hrec .ready none] at hen
  have HD := H.allocObj (.deferred (some []))
  have HL := HD.allocObj (.loop (rec .ready none))
  have hsz : (w.alloc (.deferred (some []))).heap.size = w.heap.size + 1 := World.size_alloc _ _
  have hbw : Below w.heap.size w ((w.alloc (.deferred (some []))).alloc (.loop (rec .ready none))) := ((Below.refl _ _).alloc (Nat.le_refl _) _).alloc (by omega) _
  have hE0 := hE _ hbw
  clear hE hbw
  rw [hsz] at HL
  generalize (w.alloc (.deferred (some []))).alloc (.loop (rec .ready none)) = W1 at *
  clear HD H hsz
  generalize w.heap.size + 1 = l at *
  generalize w.heap.size = D at *
  refine ⟨l, [{ target := .collected D, args := #[] }], W1, { target := .fn (.func gf) lb, args := #[.func (.yield l) #[] #[]] }, W1, gf, #[.func (.yield l) #[] #[]] ++ lb, W1, hen, ?_, fun _ _ => trivial, ?_, fun _ => (by omega), ?_⟩
  · simp only [resolve, hg]
    simp [go_sem]
  · simp [invoke, go_sem, eg]
  -- the caller's list: the loop's two blocks, and what the caller holds
  refine callsIn_wide.2 ((hseq l (fun pre X => ∃ L, X = .obj l (.loop (rec .ready none)) :: .obj D (.deferred (some [])) :: L ∧ Lp pre L)
    (fun pre X => ∃ c L, X = .obj l (.loop (rec .done (some c))) :: .obj D (.deferred (some [])) :: L ∧ Lx c pre L) [] _ W1 HL ⟨_, rfl, h0⟩ ?_ ?_ ?_).mono ?_)
  · exact hE0
  · rintro pre X ⟨L, rfl, h⟩ x hx
    exact List.mem_cons_of_mem _ (List.mem_cons_of_mem _ (hK pre L h x hx))
  · rintro m pre x X M W ⟨L, rfl, hl⟩ h hok hgood
    have h1 : Hp w0 (.obj l (.loop (rec .ready none)) :: .obj D (.deferred (some [])) :: (L ++ M)) W := h.swap
    have hy := run_yield (P := P) (args := encs x) (h1.objAt 0 rfl) (by rw [hrec]; exact hps x)
    rw [hrec] at hy
    refine ⟨fn, _, assign, body, hy, roundIn_wide (n := 6) (roundIn_of_wpIn hfn (hassign _ x _ W _ h1 hok fun b W' hE => ?_))⟩
    have hE1 : Hp w0 (.obj l (.loop (rec .ready none)) :: Ex x b :: .obj D (.deferred (some [])) :: (L ++ M)) W' := hE.perm (List.Perm.swap _ _ _)
    have hb := run_beginRound (P := P) (hE1.objAt 0 rfl) (by rw [hrec])
    have hB := hE1.putObj 0 rfl (.loop { rec .ready none with state := .busy })
    simp only [List.set_cons_succ, List.set_cons_zero] at hB
    have hB2 : Hp w0 (Ex x b :: (L ++ (.obj l (.loop { rec .ready none with state := .busy }) :: .obj D (.deferred (some [])) :: M))) (W'.putObj l (.loop { rec .ready none with state := .busy })) := by
      have h3 := hB.perm (List.Perm.swap _ _ _)
      have h2 := h3.perm (List.Perm.cons _ ((List.Perm.cons _ (List.perm_middle (l₁ := L) (l₂ := M)).symm).trans (List.perm_middle).symm))
      exact h2
    refine ⟨_, hb, wpIn_mono (hbody l _ x b L _ _ hl hB2 ?_ hgood) ?_⟩
    · exact hOk _ _ _ _ _ h hB2 (fun e he => List.mem_append_right _ (List.mem_cons_of_mem _ (List.mem_cons_of_mem _ (hK _ _ hl e he)))) (fun e he => List.mem_cons_of_mem _ (List.mem_append_left _ (hK _ _ hl e he))) hok
    have fin : ∀ (jump : Option Code) (W3 : World) (L' : List Ent), Hp w0 (L' ++ (.obj l (.loop { rec .ready none with state := .busy }) :: .obj D (.deferred (some [])) :: M)) W3 →
        ∃ W4, (Instr.endRound l jump).run P W3 = .ok (.bool jump.isNone) W4 ∧ Hp w0 (M ++ (.obj l (.loop (rec (if jump.isNone then .ready else .done) jump)) :: .obj D (.deferred (some [])) :: L')) W4 := by
      intro jump W3 L' h3
      have h3 := h3.swap
      simp only [List.cons_append] at h3
      have he := run_endRound (P := P) jump (h3.objAt 0 rfl)
      have h4 := h3.putObj 0 rfl (.loop { { rec .ready none with state := .busy } with state := if jump.isNone then .ready else .done, pending := jump })
      simp only [List.set_cons_succ, List.set_cons_zero] at h4
      refine ⟨_, he, ?_⟩
      have e : rec (if jump.isNone then .ready else .done) jump = { { rec .ready none with state := .busy } with state := if jump.isNone then .ready else .done, pending := jump } := by rw [hrec, hrec]
      rw [e]
      exact h4.perm ((List.Perm.cons _ (List.perm_middle (l₁ := M) (l₂ := L')).symm).trans (List.perm_middle).symm)
    rintro e a3 W3 hp
    cases e with
    | normal =>
      obtain ⟨L', hl', h'⟩ := hp
      obtain ⟨W4, e1, e2⟩ := fin none W3 L' h'
      exact ⟨_, _, e1, _, e2, .inl ⟨rfl, L', rfl, hl'⟩⟩
    | ret =>
      obtain ⟨L', hl', h'⟩ := hp
      obtain ⟨W4, e1, e2⟩ := fin (some .ret) W3 L' h'
      exact ⟨_, _, e1, _, e2, .inr ⟨rfl, .ret, L', rfl, hl'⟩⟩
    | exit id =>
      obtain ⟨L', hl', h'⟩ := hp
      obtain ⟨W4, e1, e2⟩ := fin (some (.exit id)) W3 L' h'
      exact ⟨_, _, e1, _, e2, .inr ⟨rfl, _, L', rfl, hl'⟩⟩
    | goto t =>
      obtain ⟨L', hl', h'⟩ := hp
      obtain ⟨W4, e1, e2⟩ := fin (some (.goto t)) W3 L' h'
      exact ⟨_, _, e1, _, e2, .inr ⟨rfl, _, L', rfl, hl'⟩⟩
    | panic ch => exact hp.elim
    | outgrown => exact hp.elim
  · rintro e W2 ⟨⟨v, rfl⟩, xs, X, h, (⟨hS, L, rfl, hl⟩ | ⟨hG, c, L, rfl, hl⟩)⟩
    · simp only [List.nil_append] at h
      have he := run_endLoop (P := P) (h.objAt 0 rfl) (by rw [hrec]; simp)
      rw [hrec] at he
      have h' := h.putObj 0 rfl (.loop { rec .ready none with state := .exhausted })
      simp only [List.set_cons_succ, List.set_cons_zero] at h'
      rw [hrec] at h'
      exact ⟨none, _, he, hdone D xs L _ hS hl h'.tail⟩
    · simp only [List.nil_append] at h
      have he := run_endLoop (P := P) (h.objAt 0 rfl) (by rw [hrec]; simp)
      rw [hrec] at he
      have h' := h.putObj 0 rfl (.loop { rec .done (some c) with state := .exhausted })
      simp only [List.set_cons_succ, List.set_cons_zero] at h'
      rw [hrec] at h'
      exact ⟨some c, _, he, hstop D c xs L _ hG hl h'.tail⟩
end
section
variable {F : Fence} {n : Nat} {P : Program} {ops : Array Oper} {Q : Exit → Act → World → Prop} {l : List Oper} {a : Act} {w0 w : World} {L : List Ent}
theorem Hp.abs_allocIn (H : Hp w0 L w) {c : Array Value} {T : TypeId} (h : ∀ b w', Hp w0 (.blk b c T :: L) w' → w.heap.size = b → wpListIn F n P ops Q l a w') : wpListIn F n P ops Q l a (w.alloc (.cells c T)) :=
  h w.heap.size _ (H.alloc c T) rfl
theorem Hp.abs_genIn {w' : World} {M : List Ent} (_ : Hp w0 L w) (h1 : Hp w0 M w') (h : ∀ w'', Hp w0 M w'' → wpListIn F n P ops Q l a w'') : wpListIn F n P ops Q l a w' := h _ h1
end
/-- A told tree: its depth, the tree, its five cells. -/
abbrev TI := Nat × Tree × List Value
def TI.is (x : TI) : Nat × Tree := (x.1, x.2.1)
def encT (x : TI) : Array Value := #[.int .i64 (x.1 : Int), .agg x.2.2.toArray]
def TOk (B : Nat) (Os : List Ent) (W : World) (x : TI) : Prop := ∃ m, ItP (Kept B Os) W m x.2.1 x.2.2
theorem TOk.move {w0 : World} {B : Nat} (hB : B ≤ w0.heap.size) {Os : List Ent} (X Y : World) (L L' : List Ent) (x : TI) (h1 : Hp w0 L X) (h2 : Hp w0 L' Y) (h3 : ∀ e ∈ Os, e ∈ L) (h4 : ∀ e ∈ Os, e ∈ L') (h : TOk B Os X x) : TOk B Os Y x := by
  obtain ⟨m, h⟩ := h
  exact ⟨m, h.move (Kept.agree hB h1 h2 h3 h4)⟩
mutual
/-- All trees, each ahead of its kids, with its depth. -/
def Tree.told : Tree → Nat → List (Nat × Tree)
  | .mk t b ks, d => (d, .mk t b ks) :: Tree.tolds ks (d + 1)
def Tree.tolds : List Tree → Nat → List (Nat × Tree)
  | [], _ => []
  | k :: r, d => k.told d ++ Tree.tolds r d
end
theorem Tree.told_is (t : Tree) (d : Nat) : t.told d = (d, t) :: Tree.tolds t.kids (d + 1) := by
  obtain ⟨t, b, ks⟩ := t
  rw [Tree.told]
  rfl
theorem Tree.tolds_app : ∀ (a b : List Tree) (d : Nat), Tree.tolds (a ++ b) d = Tree.tolds a d ++ Tree.tolds b d
  | [], b, d => by simp [Tree.tolds]
  | k :: a, b, d => by rw [List.cons_append, Tree.tolds, Tree.tolds_app a b, Tree.tolds, List.append_assoc]
theorem Tree.tolds_take (ks : List Tree) (d i : Nat) (h : i < ks.length) : Tree.tolds (ks.take (i + 1)) d = Tree.tolds (ks.take i) d ++ ks[i].told d := by
  rw [List.take_succ_eq_append_getElem h, Tree.tolds_app]
  simp [Tree.tolds]
theorem Tree.tolds_pre (ks : List Tree) (d i : Nat) (h : i < ks.length) {l : List (Nat × Tree)} (hl : l <+: ks[i].told d) : Tree.tolds (ks.take i) d ++ l <+: Tree.tolds ks d := by
  obtain ⟨r, hr⟩ := hl
  refine ⟨r ++ Tree.tolds (ks.drop (i + 1)) d, ?_⟩
  have e : ks = ks.take (i + 1) ++ ks.drop (i + 1) := (List.take_append_drop _ _).symm
  conv => rhs; rw [e]
  rw [Tree.tolds_app, Tree.tolds_take ks d i h, ← hr]
  simp
mutual
theorem Tree.told_len : ∀ (t : Tree) (d : Nat), (t.told d).length = t.count
  | .mk t b ks, d => by rw [Tree.told, List.length_cons, Tree.tolds_len ks, Tree.count]
theorem Tree.tolds_len : ∀ (ks : List Tree) (d : Nat), (Tree.tolds ks d).length = Tree.counts ks
  | [], d => by simp [Tree.tolds, Tree.counts]
  | k :: r, d => by rw [Tree.tolds, List.length_append, Tree.told_len k, Tree.tolds_len r, Tree.counts]
end
def maxD (m : Nat) (l : List (Nat × Tree)) : Nat := l.foldl (fun m x => max m x.1) m
theorem maxD_app (m : Nat) (a b : List (Nat × Tree)) : maxD m (a ++ b) = maxD (maxD m a) b := by unfold maxD; rw [List.foldl_append]
theorem maxD_one (m : Nat) (a : List (Nat × Tree)) (x : Nat × Tree) : maxD m (a ++ [x]) = max (maxD m a) x.1 := by rw [maxD_app]; rfl
mutual
theorem Tree.told_max : ∀ (t : Tree) (d m : Nat), maxD m (t.told d) = max m (d + t.deep - 1)
  | .mk t b ks, d, m => by
    have h := Tree.tolds_max ks (d + 1) (max m d)
    rw [Tree.told, Tree.deep]
    show maxD (max m d) (Tree.tolds ks (d + 1)) = _
    rw [h]
    split <;> omega
theorem Tree.tolds_max : ∀ (ks : List Tree) (d m : Nat), maxD m (Tree.tolds ks d) = if Tree.deeps ks = 0 then m else max m (d + Tree.deeps ks - 1)
  | [], d, m => by simp [Tree.tolds, Tree.deeps, maxD]
  | k :: r, d, m => by
    have h1 := Tree.told_max k d m
    have h2 := Tree.tolds_max r d (max m (d + k.deep - 1))
    have h3 := Tree.deep_is k
    rw [Tree.tolds, maxD_app, h1, h2, Tree.deeps]
    split <;> split <;> omega
end
end Go.Mem

