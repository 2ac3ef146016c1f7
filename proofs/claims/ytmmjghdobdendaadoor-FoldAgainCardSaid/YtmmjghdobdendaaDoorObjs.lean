/- Lemmas and walks on the way to the seat's laws; each theorem says its own conditions. -/
import Derived.Test.YtmmjghdobdendaaDoorK2
import Derived.Test.YtmmjghdobdendaaDoorT19
set_option linter.unusedSimpArgs false
set_option linter.unusedVariables false
set_option linter.unusedSimpArgs false
set_option linter.unusedVariables false
set_option maxRecDepth 100000
namespace Go.Proofs.YtmmjghdobdendaaDoor
open Go.RowKit Go.Mem Go.Reg Oct Bit Go.Txt Go.Shelf Go.LawLift Go.Fold
end Go.Proofs.YtmmjghdobdendaaDoor

/- A block of marked bytes ([]byte(s)) that is written into. No condition on a program. -/
namespace Go.Mem
open Go.RowKit
theorem frozen_of_obj {w : World} {b j : Nat} {cs : Array Value} {e : TypeId} {fz : Nat × Nat} (h : w.heap[b]? = some (.cells cs e fz)) (hj : ¬(fz.1 ≤ j ∧ j < fz.2)) : w.frozen? ⟨b, j, none⟩ = false := by
  simp only [World.frozen?, h]
  simp
  omega
theorem Hp.setObj {w0 w : World} {L : List Ent} (h : Hp w0 L w) (i : Nat) {b : Nat} {c : Array Value} {T : TypeId} {fz : Nat × Nat} (hi : L[i]? = some (.obj b (.cells c T fz))) (j : Nat) (v : Value) : Hp w0 (L.set i (.obj b (.cells (c.setIfInBounds j v) T fz))) (w.setCell ⟨b, j, none⟩ v) :=
  have hx := h.ok _ (List.mem_of_getElem? hi)
  h.turn i hi (Only.setCell w b j v) ⟨heap_same hx.1 v, hx.2⟩ fun _ hk => .inl hk
section
variable {P : Program} {ops : Array Oper} {Q : Exit → Act → World → Prop} {rest : List Oper} {o : Oper} {a : Act} {w0 w : World} {L : List Ent}
/-- []byte(s), whose bytes may be written. -/
theorem wpList_bytes2_hp (H : Hp w0 L w) (hgd : o.guard = none) (x : Operand) (src dst : TypeId) (ho : o.op = .convert src dst x) {e : TypeId} {u : TypeDesc} (hs : P.underlying src = some u) (hd : P.underlying dst = some (.slice e)) (he : P.underlying e = some (.int .u8))
    (l : List UInt8) (hx : a.eval x = .string ⟨l.toArray⟩) (hl : l.length ≤ maxLen)
    (h : ∀ b c cs fz w', Hp w0 (.obj b (.cells cs e fz) :: L) w' → l.length ≤ c → c ≤ maxLen → (∀ j, (hj : j < l.length) → cs[j]? = some (u8c l[j])) → (∀ j, j < l.length → ¬(fz.1 ≤ j ∧ j < fz.2)) → wpList P ops Q rest (a.put o.dst (.slice (some ⟨b, 0, none⟩) l.length c)) w') : wpList P ops Q (o :: rest) a w := by
  have hr := Lib.run_convert_string_bytes (P := P) w src dst e ⟨l.toArray⟩ hs hd he
  have hsz : (ByteArray.mk l.toArray).size = l.length := by simp [ByteArray.size]
  refine wpList_plain hgd fun K hK => ?_
  unfold Oper.wp
  simp [execOp, ho, hx, hr, Result.andThen]
  rw [hsz]
  have hn := Lib.bytesWorld_at_new w e ⟨l.toArray⟩
  refine hK _ _ (h _ _ _ _ _ (H.adopt (bytesWorld_below w e _) (.obj _ _) ⟨hn, Nat.le_refl _⟩) (grownCap_ge _ _ _ _) (grownCap_le_maxLen _ _ _ _ hl) (fun j hj => ?_) (fun j hj => ?_))
  · simp [Lib.bytesCells, Array.getElem?_append, hj, u8c]
  · simp [Lib.bytesCells]
    omega
end
end Go.Mem

