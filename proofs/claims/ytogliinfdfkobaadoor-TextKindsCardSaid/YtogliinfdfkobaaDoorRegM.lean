/- A region that draws, with what the walk knows of memory: the words of the printed proofs. No condition. -/
import Derived.Test.YtogliinfdfkobaaDoorRegN
import Derived.Test.YtogliinfdfkobaaDoorRows2
set_option linter.unusedSimpArgs false
set_option linter.unusedVariables false
namespace Go.Reg
open Go.RowKit Go.Mem
def Eq1 (x : Value) : Value → World → Prop := fun v _ => v = x
theorem Eq1.mk {x : Value} {w : World} : Eq1 x x w := rfl
theorem Eq1.of {x v : Value} {w : World} (h : v = x) : Eq1 x v w := h
theorem Eq1.out {x v : Value} {w : World} (h : Eq1 x v w) : v = x := h
def RowJ (B : Nat) (T : TypeId) (n : Nat) (xs : List Value) : Value → World → Prop := fun v w => w.ownsRow B T 1 v n xs
theorem RowJ.mk {B : Nat} {T : TypeId} {n : Nat} {xs : List Value} {v : Value} {w w' : World} (hB : B ≤ w.heap.size) (ho : w'.ownsRow w.heap.size T 1 v n xs) : RowJ B T n xs v w' :=
  ⟨ho.1, ho.2.imp id fun ⟨g, cap, cur, e1, e2, r⟩ => ⟨g, cap, cur, e1, Nat.le_trans hB e2, r⟩⟩
theorem RowJ.stay {B : Nat} {T : TypeId} {n : Nat} {xs : List Value} {v : Value} {w w' : World} (hs : AboveR B w w') (h : RowJ B T n xs v w) : RowJ B T n xs v w' := by
  refine ⟨h.1, ?_⟩
  rcases h.2 with hn | ⟨g, cap, cur, rfl, hb, hgg, rest⟩
  · exact .inl hn
  · exact .inr ⟨g, cap, cur, rfl, hb, (hs.2 g hb (Array.getElem?_eq_some_iff.1 hgg).1).trans hgg, rest⟩
theorem Fresh.row {b : Bool} {w w' : World} {T : TypeId} {s n : Nat} {v : Value} {xs : List Value} (h : w'.ownsRow w.heap.size T s v n xs) : Fresh b w v w' := by
  intro _ k hk
  rcases h.2 with ⟨rfl, _⟩ | ⟨g, cap, cur, rfl, hb, hg, _⟩
  · simp [vb, vb0] at hk
  · simp only [vb, vb0, List.mem_singleton] at hk
    subst hk
    exact ⟨hb, (Array.getElem?_eq_some_iff.1 hg).1⟩
theorem wpList_nil' {P : Program} {ops : Array Oper} {Q : Exit → Act → World → Prop} {a : Act} {w : World} (h : Q .normal a w) : wpList P ops Q [] a w := h
end Go.Reg

