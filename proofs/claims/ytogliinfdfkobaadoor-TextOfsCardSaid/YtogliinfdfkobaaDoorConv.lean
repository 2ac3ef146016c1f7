/- Texts and bytes turned into one another within a walk. No condition on a program. -/
import Derived.Test.YtogliinfdfkobaaDoorFrame
import Derived.Test.YtogliinfdfkobaaDoorBytes
import Derived.Lib.ConvBytes
set_option linter.unusedSimpArgs false
set_option linter.unusedVariables false
namespace Go.Mem
open Go.RowKit
theorem bytesWorld_below (w : World) (e : TypeId) (s : ByteArray) : Below w.heap.size w (Lib.bytesWorld w e s) := by
  refine ⟨rfl, ?_, rfl, by rw [Lib.bytesWorld_size]; omega, fun k hk => Lib.bytesWorld_at_old w e s k hk⟩
  simp [Lib.bytesWorld, World.freeze, World.alloc, World.drew, -World.alloc_eq, -World.drew_eq]
theorem Bs.ofObj {w0 w : World} {L : List Ent} (H : Hp w0 L w) (i : Nat) {b c : Nat} {cs : Array Value} {e : TypeId} {fz : Nat × Nat} {l : List UInt8} (hi : L[i]? = some (.obj b (.cells cs e fz))) (h1 : l.length ≤ c) (h2 : c ≤ maxLen) (h : ∀ j, (hj : j < l.length) → cs[j]? = some (u8c l[j])) :
    Bs w (.slice (some ⟨b, 0, none⟩) l.length c) l := by
  have hx := H.obj i hi
  refine Bs.mk rfl h1 h2 (fun h => by cases h) fun _ => ⟨b, 0, rfl, (Array.getElem?_eq_some_iff.1 hx).1, fun j hj => ?_⟩
  rw [cell_of_marked hx, Nat.zero_add]
  exact h j hj
section
variable {P : Program} {ops : Array Oper} {Q : Exit → Act → World → Prop} {rest : List Oper} {o : Oper} {a : Act} {w0 w : World} {L : List Ent}
/-- []byte(s). -/
theorem wpList_bytes_hp (H : Hp w0 L w) (hgd : o.guard = none) (x : Operand) (src dst : TypeId) (ho : o.op = .convert src dst x) {e : TypeId} {u : TypeDesc} (hs : P.underlying src = some u) (hd : P.underlying dst = some (.slice e)) (he : P.underlying e = some (.int .u8))
    (l : List UInt8) (hx : a.eval x = .string ⟨l.toArray⟩) (hl : l.length ≤ maxLen)
    (h : ∀ b c cs fz w', Hp w0 (.obj b (.cells cs e fz) :: L) w' → l.length ≤ c → c ≤ maxLen → (∀ j, (hj : j < l.length) → cs[j]? = some (u8c l[j])) → wpList P ops Q rest (a.put o.dst (.slice (some ⟨b, 0, none⟩) l.length c)) w') : wpList P ops Q (o :: rest) a w := by
  have hr := Lib.run_convert_string_bytes (P := P) w src dst e ⟨l.toArray⟩ hs hd he
  have hsz : (ByteArray.mk l.toArray).size = l.length := by simp [ByteArray.size]
  refine wpList_plain hgd fun K hK => ?_
  unfold Oper.wp
  simp [execOp, ho, hx, hr, Result.andThen]
  rw [hsz]
  have hn := Lib.bytesWorld_at_new w e ⟨l.toArray⟩
  refine hK _ _ (h _ _ _ _ _ (H.adopt (bytesWorld_below w e _) (.obj _ _) ⟨hn, Nat.le_refl _⟩) (grownCap_ge _ _ _ _) (grownCap_le_maxLen _ _ _ _ hl) fun j hj => ?_)
  simp [Lib.bytesCells, Array.getElem?_append, hj, u8c]
/-- string(b). -/
theorem wpList_string_hp (hgd : o.guard = none) (x : Operand) (src dst : TypeId) (ho : o.op = .convert src dst x) {e : TypeId} (hs : P.underlying src = some (.slice e)) (he : P.underlying e = some (.int .u8)) (hd : P.underlying dst = some .string)
    {v : Value} {l : List UInt8} (hx : a.eval x = v) (hb : Bs w v l)
    (h : wpList P ops Q rest (a.put o.dst (.string ⟨l.toArray⟩)) w) : wpList P ops Q (o :: rest) a w := by
  have hr := run_str (P := P) hb src dst e hs he hd
  refine wpList_plain hgd fun K hK => ?_
  unfold Oper.wp
  simp [execOp, ho, hx, hr, Result.andThen]
  exact hK _ _ h
theorem wp_string {K : Act → World → Prop} {Q : Exit → Act → World → Prop} (x : Operand) (src dst : TypeId) (ho : o.op = .convert src dst x) {e : TypeId} (hs : P.underlying src = some (.slice e)) (he : P.underlying e = some (.int .u8)) (hd : P.underlying dst = some .string)
    {v : Value} {l : List UInt8} (hx : a.eval x = v) (hb : Bs w v l) (h : K (a.put o.dst (.string ⟨l.toArray⟩)) w) : o.wp P a w K Q := by
  have hr := run_str (P := P) hb src dst e hs he hd
  unfold Oper.wp
  simp [execOp, ho, hx, hr, Result.andThen]
  exact h
end
end Go.Mem

