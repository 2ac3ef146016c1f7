/- A loop over a function that may turn one box of its own between the rounds: what the caller knows of memory is a list of own blocks; the loop's two blocks of book-keeping stand in that list while a round goes on. No condition on a program. -/
import Derived.Test.YtogliinfdfkobaaFrame
import Derived.Test.YtogliinfdfkobaaI1
import Derived.RangeFuncNested
import Derived.RangeFuncBound
import Derived.RangeFuncCalls
import Derived.RangeFuncLeaves
import Derived.RangeFuncBox
import Derived.OwnWalkIn
set_option linter.unusedSimpArgs false
set_option linter.unusedVariables false
namespace Go.Mem
open Go.RowKit
theorem Only.putObj (w : World) (b : Nat) (o : Obj) : Only (some b) w (w.putObj b o) :=
  ⟨rfl, rfl, rfl, by simp, fun _ _ hne => World.putObj_heap_other (fun e => hne (by rw [e]))⟩
theorem Hp.putObj {w0 w : World} {L : List Ent} (H : Hp w0 L w) (i : Nat) {b : Nat} {o : Obj} (hi : L[i]? = some (.obj b o)) (o' : Obj) : Hp w0 (L.set i (.obj b o')) (w.putObj b o') :=
  have hx := H.ok _ (List.mem_of_getElem? hi)
  H.turn i hi (Only.putObj w b o') ⟨World.putObj_heap_same (Array.getElem?_eq_some_iff.1 hx.1).1, hx.2⟩ fun _ hk => .inl hk
theorem Hp.allocObj {w0 w : World} {L : List Ent} (H : Hp w0 L w) (o : Obj) : Hp w0 (.obj w.heap.size o :: L) (w.alloc o) :=
  H.adopt ((Below.refl _ _).alloc (Nat.le_refl _) _) (.obj w.heap.size o) ⟨World.alloc_heap_new w o, Nat.le_refl _⟩
theorem Hp.objAt {w0 w : World} {L : List Ent} (H : Hp w0 L w) (i : Nat) {b : Nat} {o : Obj} (hi : L[i]? = some (.obj b o)) : w.heap[b]? = some o := (H.ok _ (List.mem_of_getElem? hi)).1
/-- An iterator that turns block bx alone of what was there. -/
def SeqX {α : Type} (n : Nat) (P : Program) (g : Nat) (lb : Array Value) (encs : α → Array Value) (bx : Nat) (Kp : World → World → Prop) (Ok : World → Prop) (S Sp : List α → Prop) (N : Nat) : Prop :=
  ∀ (l : Nat) (J Jx : List α → World → Prop) (W : World), Ok W → (∀ s X Y, J s X → Only (some bx) X Y → J s Y) → (∀ s X Y, Jx s X → Only (some bx) X Y → Jx s Y) →
    (∀ pre x W1, J pre W1 → pre.length < N → YieldAt Fence.wide (n - 1) P l (encs x) W1 fun e W' =>
      (e = .returned (.bool true) ∧ J (pre ++ [x]) W' ∧ Kp W1 W') ∨ (e = .returned (.bool false) ∧ Jx (pre ++ [x]) W')) →
    J [] W →
    CallsIn Fence.wide n P g (#[.func (.yield l) #[] #[]] ++ lb) W fun e W' => (∃ v, e = .returned v) ∧ ((∃ xs, S xs ∧ J xs W') ∨ (∃ pre, Sp pre ∧ Jx pre W'))
/-- What a round keeps of the iterator's. -/
def KpX (B bx : Nat) (X Y : World) : Prop := Y.heap[bx]? = X.heap[bx]? ∧ Below B X Y ∧ X.heap.size ≤ Y.heap.size
/-- What a round's body leaves. -/
def postH {α : Type} (w0 : World) (E : List Ent) (z : Nat) (Lp : List α → List Ent → Prop) (Lx : Code → List α → List Ent → Prop) (xs : List α) : Exit → Act → World → Prop
  | .normal, _, W' => z ≤ W'.heap.size ∧ ∃ L, Lp xs L ∧ Hp w0 (E ++ L) W'
  | .ret, _, W' => z ≤ W'.heap.size ∧ ∃ L, Lx .ret xs L ∧ Hp w0 (E ++ L) W'
  | .exit id, _, W' => z ≤ W'.heap.size ∧ ∃ L, Lx (.exit id) xs L ∧ Hp w0 (E ++ L) W'
  | .goto t, _, W' => z ≤ W'.heap.size ∧ ∃ L, Lx (.goto t) xs L ∧ Hp w0 (E ++ L) W'
  | .panic _, _, _ => False
  | .outgrown, _, _ => False
section
variable {P : Program} {α : Type}
end
end Go.Mem

