/- A region that draws its order of evaluation and in which some operations turn memory, one behind the other: each operation shown once, whatever the order. No condition on a program but that it follows mixed orders. -/
import Derived.Test.YtogliinfdfkobaaReg
import Derived.Test.YtogliinfdfkobaaMem
set_option linter.unusedSimpArgs false
set_option linter.unusedVariables false
namespace Go.Reg
open Go.RowKit
/-- An operation's part: the k-th of those that turn memory; or a light one that comes up behind the first lo of them and ahead of number hi. -/
inductive Part where
  | turns (k : Nat)
  | light (lo hi : Nat)
/-- The frame of a region with turns. -/
structure Frm where
  R : World → World → Prop
  R' : World → World → Prop
  S : Nat → World → Prop
structure Frm.Ok (F : Frm) : Prop where
  rf : ∀ x, F.R' x x
  tr : ∀ x y z, F.R' x y → F.R' y z → F.R' x z
  sub : ∀ x y, F.R x y → F.R' x y
  st : ∀ p x y, F.R x y → F.S p x → F.S p y
def StepObC (P : Program) (ops : Array Oper) (Js : List (Value → World → Prop)) (F : Frm) (A : (Nat → Value) → Act) (w0 : World) (o : Oper) (d : List Nat) (J : Value → World → Prop) : Part → Prop
  | .turns k => ∀ (vs : Nat → Value) (w : World) (K : Act → World → Prop), DepJ Js vs w d → F.S k w → F.R' w0 w →
    Shut (∀ v w', F.R' w w' → F.S (k + 1) w' → J v w' → K ((A vs).put o.dst v) w') →
    if Region.wanted o (yielded ops (A vs).tmps) = true then o.wp P (A vs) w K NoExit else K ((A vs).put o.dst undef) w
  | .light lo hi => ∀ (p : Nat) (vs : Nat → Value) (w : World) (K : Act → World → Prop), DepJ Js vs w d → lo ≤ p → p ≤ hi → F.S p w → F.R' w0 w →
    Shut (∀ v w', F.R w w' → J v w' → K ((A vs).put o.dst v) w') →
    if Region.wanted o (yielded ops (A vs).tmps) = true then o.wp P (A vs) w K NoExit else K ((A vs).put o.dst undef) w
def StepsObC (P : Program) (ops : Array Oper) (Js : List (Value → World → Prop)) (F : Frm) (A : (Nat → Value) → Act) (w0 : World) : List Oper → List (List Nat) → List (Value → World → Prop) → List Part → Prop
  | [], _, _, _ => True
  | o :: os, d :: dd, J :: Jr, x :: xs => StepObC P ops Js F A w0 o d J x ∧ StepsObC P ops Js F A w0 os dd Jr xs
  | _ :: _, _, _, _ => False
theorem stepsObC_get {P : Program} {ops : Array Oper} {Js : List (Value → World → Prop)} {F : Frm} {A : (Nat → Value) → Act} {w0 : World} :
    ∀ (os : List Oper) (dd : List (List Nat)) (Jr : List (Value → World → Prop)) (xs : List Part), StepsObC P ops Js F A w0 os dd Jr xs → ∀ (i : Nat) (o : Oper), os[i]? = some o →
      ∃ d J x, dd[i]? = some d ∧ Jr[i]? = some J ∧ xs[i]? = some x ∧ StepObC P ops Js F A w0 o d J x
  | [], _, _, _, _, i, o, h => by simp at h
  | o :: os, d :: dd, J :: Jr, x :: xs, h, 0, o', ho => by
    simp at ho
    subst ho
    exact ⟨d, J, x, rfl, rfl, rfl, h.1⟩
  | o :: os, d :: dd, J :: Jr, x :: xs, h, i + 1, o', ho => by
    obtain ⟨d', J', x', h1, h2, h3, h4⟩ := stepsObC_get os dd Jr xs h.2 i o' (by simpa using ho)
    exact ⟨d', J', x', by simpa using h1, by simpa using h2, by simpa using h3, h4⟩
  | _ :: _, [], _, _, h, _, _, _ => (h : False).elim
  | _ :: _, _ :: _, [], _, h, _, _, _ => (h : False).elim
  | _ :: _, _ :: _, _ :: _, [], h, _, _, _ => (h : False).elim
/-- The edge lies there. -/
def edge (ops : Array Oper) (i j : Nat) : Bool := match ops[i]? with
  | some o => o.after.any fun e => Region.binds .any e && e.on == j
  | none => false
/-- The table of the turns E against the parts. -/
def partOk (ops : Array Oper) (E : List Nat) (i : Nat) : Part → Bool
  | .turns k => E[k]? == some i
  | .light lo hi => !E.contains i && (lo == 0 || (match E[lo - 1]? with | some e => edge ops i e | none => false)) && (match E[hi]? with | some e => edge ops e i | none => decide (E.length ≤ hi))
def partsOk (ops : Array Oper) (E : List Nat) : Nat → List Part → Bool
  | _, [] => true
  | i, x :: xs => partOk ops E i x && partsOk ops E (i + 1) xs
def chainOk (ops : Array Oper) : List Nat → Bool
  | [] => true
  | [e] => decide (e < ops.size)
  | e :: f :: r => edge ops f e && decide (e < ops.size) && chainOk ops (f :: r)
theorem partsOk_get {ops : Array Oper} {E : List Nat} : ∀ (xs : List Part) (k : Nat), partsOk ops E k xs = true → ∀ (i : Nat) (x : Part), xs[i]? = some x → partOk ops E (k + i) x = true
  | [], _, _, i, x, hx => by simp at hx
  | x :: xs, k, h, 0, y, hy => by
    simp at hy
    subst hy
    simp only [partsOk, Bool.and_eq_true] at h
    exact h.1
  | x :: xs, k, h, i + 1, y, hy => by
    simp only [partsOk, Bool.and_eq_true] at h
    have := partsOk_get xs (k + 1) h.2 i y (by simpa using hy)
    rwa [show k + 1 + i = k + (i + 1) from by omega] at this
theorem chain_get {ops : Array Oper} : ∀ (E : List Nat), chainOk ops E = true → (∀ (k e f : Nat), E[k]? = some e → E[k + 1]? = some f → edge ops f e = true) ∧ ∀ e ∈ E, e < ops.size
  | [], _ => ⟨fun _ _ _ h => by simp at h, fun _ h => (List.not_mem_nil h).elim⟩
  | [e], h => by
    simp [chainOk] at h
    exact ⟨fun k a b _ h2 => by simp at h2, fun x hx => by rw [List.mem_singleton.1 hx]; exact h⟩
  | e :: f :: r, h => by
    simp only [chainOk, Bool.and_eq_true, decide_eq_true_eq] at h
    obtain ⟨h1, h2⟩ := chain_get (f :: r) h.2
    refine ⟨fun k a b ha hb => ?_, fun x hx => ?_⟩
    · cases k with
      | zero =>
        simp at ha hb
        subst ha hb
        exact h.1.1
      | succ k => exact h1 k a b (by simpa using ha) (by simpa using hb)
    · rcases List.mem_cons.1 hx with rfl | hx
      · exact h.1.2
      · exact h2 x hx
theorem edge_spec {ops : Array Oper} {i j : Nat} (h : edge ops i j = true) : ∃ o, ops[i]? = some o ∧ ∃ e ∈ o.after, Region.binds .any e = true ∧ e.on = j := by
  unfold edge at h
  split at h
  · rename_i o ho
    obtain ⟨e, he, hb⟩ := Array.any_eq_true'.1 h
    simp only [Bool.and_eq_true, beq_iff_eq] at hb
    exact ⟨o, ho, e, he, hb.1, hb.2⟩
  · cases h
/-- How many turns have come up. -/
structure Phase (ops : Array Oper) (E : List Nat) (listed : Array Bool) (p : Nat) : Prop where
  le : p ≤ E.length
  done : ∀ k e, k < p → E[k]? = some e → listed.getD e false = true
  left : ∀ k e, p ≤ k → E[k]? = some e → listed.getD e false = false
section
variable {P : Program} {ops : Array Oper} {Q : Exit → Act → World → Prop}
end
def StepObB (P : Program) (ops : Array Oper) (Js : List (Value → World → Prop)) (A : (Nat → Value) → Act) (w0 : World) (o : Oper) (d : List Nat) (J : Value → World → Prop) : Prop :=
  ∀ (vs : Nat → Value) (w : World) (K : Act → World → Prop), DepJ Js vs w d → BelowR w0 w →
    Shut (∀ v w', BelowR w w' → J v w' → K ((A vs).put o.dst v) w') →
    if Region.wanted o (yielded ops (A vs).tmps) = true then o.wp P (A vs) w K NoExit else K ((A vs).put o.dst undef) w
def StepsObB (P : Program) (ops : Array Oper) (Js : List (Value → World → Prop)) (A : (Nat → Value) → Act) (w0 : World) : List Oper → List (List Nat) → List (Value → World → Prop) → Prop
  | [], _, _ => True
  | o :: os, d :: dd, J :: Jr => StepObB P ops Js A w0 o d J ∧ StepsObB P ops Js A w0 os dd Jr
  | _ :: _, _, _ => False
/-- The usual frame: a light operation turns nothing that was there; a turn nothing from block B on. -/
def AboveR (B : Nat) (w w' : World) : Prop := w.heap.size ≤ w'.heap.size ∧ ∀ k, B ≤ k → k < w.heap.size → w'.heap[k]? = w.heap[k]?
def frm (B : Nat) (S : Nat → World → Prop) : Frm := ⟨BelowR, AboveR B, S⟩
theorem frm_ok {B : Nat} {S : Nat → World → Prop} (hS : ∀ p x y, BelowR x y → S p x → S p y) : (frm B S).Ok :=
  ⟨fun _ => ⟨Nat.le_refl _, fun _ _ _ => rfl⟩, fun _ _ _ h k => ⟨Nat.le_trans h.1 k.1, fun i hi hl => (k.2 i hi (Nat.lt_of_lt_of_le hl h.1)).trans (h.2 i hi hl)⟩, fun _ _ h => ⟨h.size, fun k _ hl => h.block k hl⟩, hS⟩
theorem AboveR.refl (B : Nat) (w : World) : AboveR B w w := ⟨Nat.le_refl _, fun _ _ _ => rfl⟩
theorem AboveR.only {B q : Nat} {w w' : World} (h : Mem.Only (some q) w w') (hq : q < B) : AboveR B w w' := ⟨h.size, fun k hk hl => h.block k hl fun e => by injection e with e; omega⟩
theorem AboveR.set {B b : Nat} (w : World) (j : Nat) (v : Value) (hq : b < B) : AboveR B w (w.setCell ⟨b, j, none⟩ v) := AboveR.only (Mem.Only.setCell w b j v) hq
end Go.Reg

/- A region that draws and whose last operation waits for all the others. No condition on a program but that it follows mixed orders. -/
namespace Go.Reg
open Go.RowKit
section
variable {P : Program} {ops : Array Oper} {Q : Exit → Act → World → Prop}
end
def lastOk (ops : Array Oper) (N : Nat) (E : List Nat) : Bool := (ops.size == N + 1) && (List.range N).all (fun i => edge ops N i) && E.all fun e => decide (e < N)
theorem stepsB_toC {P : Program} {ops : Array Oper} {Js : List (Value → World → Prop)} {A : (Nat → Value) → Act} {w0 : World} : ∀ (os : List Oper) (dd : List (List Nat)) (Jr : List (Value → World → Prop)),
    StepsObB P ops Js A w0 os dd Jr → StepsObC P ops Js ⟨BelowR, BelowR, fun _ _ => True⟩ A w0 os dd Jr (List.replicate os.length (.light 0 0))
  | [], _, _, _ => trivial
  | _ :: os, _ :: dd, _ :: Jr, h => ⟨fun _ vs w K hJ _ _ _ hR hK => h.1 vs w K hJ hR hK, stepsB_toC os dd Jr h.2⟩
  | _ :: _, [], _, h => h
  | _ :: _, _ :: _, [], h => h
theorem partsOk_light (ops : Array Oper) : ∀ (n i : Nat), partsOk ops [] i (List.replicate n (.light 0 0)) = true
  | 0, _ => rfl
  | n + 1, i => by
    rw [List.replicate_succ, partsOk, partsOk_light ops n (i + 1)]
    rfl
end Go.Reg

