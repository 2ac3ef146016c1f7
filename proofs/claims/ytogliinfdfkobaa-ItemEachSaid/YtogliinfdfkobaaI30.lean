/- An append, as one operation of a drawn region, to a row among the entries. No condition on a program. -/
import Derived.Test.YtogliinfdfkobaaH8
import Derived.Test.YtogliinfdfkobaaH16
import Derived.Test.YtogliinfdfkobaaHPlain
import Derived.Test.YtogliinfdfkobaaLift
import Derived.Test.YtogliinfdfkobaaTreeW
import Derived.Test.YtogliinfdfkobaaI16
import Derived.Test.YtogliinfdfkobaaFrame
set_option linter.unusedSimpArgs false
set_option linter.unusedVariables false
set_option linter.unusedVariables false
namespace Go.Mem
open Go.RowKit Go.Reg
section
variable {P : Program} {w0 w : World} {L : List Ent} {o : Oper} {a : Act} {K : Act → World → Prop} {N : Exit → Act → World → Prop}
/-- append to a row among the entries: the source lies anywhere, nil or not. -/
theorem wp_append_hp (H : Hp w0 L w) (i : Nat) (s x : Operand) (t : TypeId) (ho : o.op = .call { callee := .builtin .append, args := #[s, x], argTypes := #[t, t] })
    {e : TypeId} {ti : TypeInfo} {z : Value} {size bytes : Nat} (ht : P.underlying t = some (.slice e)) (hti : P.info? e = some ti) (hz : ti.zero = some z)
    (hsize : ti.size = size) (hby : ti.bytes = bytes) (hzs : z.cells.size = size) (hsz : 0 < size)
    {v : Value} {n : Nat} {xs : List Value} (hs : a.eval s = v) (hi : L[i]? = some (.row e size v n xs))
    {A : Option Addr} {m c : Nat} {news : List Value} (hx : a.eval x = .slice A m c) (hl : news.length = m * size) (hA : A = none → c = 0 ∧ m = 0)
    (hnews : 0 < m → ∃ ad, A = some ad ∧ ∀ j u, news[j]? = some u → w.cell? (ad.add j) = some u) (h1 : ∀ u ∈ news, u.oneCell' = true)
    (h63 : n + m ≤ maxLen) (hbytes : (n + m) * bytes ≤ 140737488355328)
    (h : ∀ v' w', Hp w0 (L.set i (.row e size v' (n + m) (xs ++ news))) w' → K (a.put o.dst v') w') : o.wp P a w K N := by
  have hown : w.ownsRow w0.heap.size e size v n xs := H.ok _ (List.mem_of_getElem? hi)
  have key : ∃ v' w', (Builtin.append_ #[t, t] o.type #[v, .slice A m c]).run P w = .ok v' w' ∧ w'.ownsRow w0.heap.size e size v' (n + m) (xs ++ news) ∧ w.grownBy w' v.ownBlock ∧
      ∀ k, v'.ownBlock = some k → v.ownBlock = some k ∨ w.heap.size ≤ k := by
    cases A with
    | none =>
      obtain ⟨rfl, rfl⟩ := hA rfl
      have : news = [] := List.eq_nil_of_length_eq_zero (by simpa using hl)
      subst this
      exact ⟨v, w, run_append_owned_none (P := P) w w0.heap.size t o.type e ti size ht hti v n xs hown, by simpa using hown, ⟨rfl, rfl, rfl, Nat.le_refl _, fun _ _ _ => rfl⟩, fun k hk => .inl hk⟩
    | some ad =>
      refine run_append_row w w0.heap.size t o.type e ti z size bytes ht hti hz hsize hby hzs hsz v n xs hown ad m c news hl ?_ h1 h63 hbytes H.low.size
      intro j u hu
      have hm : 0 < m := by
        rcases Nat.eq_zero_or_pos m with h0 | h0
        · subst h0
          have : news = [] := List.eq_nil_of_length_eq_zero (by simpa using hl)
          subst this
          simp at hu
        · exact h0
      obtain ⟨ad', e1, hc⟩ := hnews hm
      injection e1 with e1
      subst e1
      exact hc j u hu
  obtain ⟨v', w', hr, h2, h3, h4⟩ := key
  unfold Oper.wp
  simp [execOp, ho, resolve, invoke, builtin, hs, hx, hr, Result.andThen]
  exact h v' w' (H.turn i hi (Only.of_grown h3) h2 h4)
end
end Go.Mem

set_option linter.unusedSimpArgs false
set_option linter.unusedVariables false
set_option maxRecDepth 100000
namespace Go.Proofs.Ytogliinfdfkobaa
open Go.RowKit Go.Mem Go.Reg Hd Go.LawLift Oct
def RTagOut (w : World) (R : Tg × Nat × Nat) (e : Ending) (w' : World) : Prop :=
  e = .returned (.tuple #[.agg #[.int .i64 R.1.c, .int .i64 R.1.n, .bool R.1.m], .int .i64 (R.2.2 : Int), .int .i64 (R.2.1 : Int)]) ∧ Below w.heap.size w w'
def RLenOut (w : World) (R : Nat × Nat × Nat) (e : Ending) (w' : World) : Prop :=
  e = .returned (.tuple #[.int .i64 (R.1 : Int), .int .i64 (R.2.2 : Int), .int .i64 (R.2.1 : Int)]) ∧ Below w.heap.size w w'
end Go.Proofs.Ytogliinfdfkobaa

set_option linter.unusedSimpArgs false
set_option linter.unusedVariables false
set_option maxRecDepth 100000
namespace Go.Proofs.Ytogliinfdfkobaa
open Go.RowKit Go.Mem Go.Reg Hd Go.LawLift Oct
end Go.Proofs.Ytogliinfdfkobaa

set_option linter.unusedSimpArgs false
set_option linter.unusedVariables false
set_option maxRecDepth 100000
namespace Go.Proofs.Ytogliinfdfkobaa
open Go.RowKit Go.Mem Go.Reg Hd Go.LawLift Oct
def RHeadOut (w : World) (R : Tg × Nat × Nat × Nat) (e : Ending) (w' : World) : Prop :=
  e = .returned (.tuple #[.agg #[.int .i64 R.1.c, .int .i64 R.1.n, .bool R.1.m], .int .i64 (R.2.1 : Int), .int .i64 (R.2.2.2 : Int), .int .i64 (R.2.2.1 : Int)]) ∧ Below w.heap.size w w'
end Go.Proofs.Ytogliinfdfkobaa

/- What a reader of tags and lengths took in is what a writer puts out. No program in sight. -/
namespace Hd
open Go Go.Mem
end Hd

/- What a writer of tags and lengths put out is what a reader takes in; a part of it is too short. No program in sight. -/
namespace Hd
open Go Go.Mem
/-- The digits that a tag's first byte is followed by. -/
def tailL (n : Int) : List UInt8 := (if 16384 ≤ n then [byteI (128 + n / 16384)] else []) ++ (if 128 ≤ n then [byteI (128 + n / 128 % 128)] else []) ++ [byteI (n % 128)]
/-- A whole over content. -/
def wholeL (t : Tg) (l : List UInt8) : List UInt8 := tagL t ++ lenL (l.length : Nat) ++ l
end Hd

/- Reading a head at a place is reading it behind that place; what is read is what is written. No program in sight. -/
set_option linter.unusedVariables false
namespace Go.Mem
open Go.RowKit Hd
end Go.Mem

set_option linter.unusedSimpArgs false
set_option linter.unusedVariables false
set_option maxRecDepth 100000
namespace Go.Proofs.Ytogliinfdfkobaa
open Go.RowKit Go.Mem Go.Reg Oct Hd Go.LawLift
/-- What the walk holds: the count, the spans. -/
abbrev WkL (bw cnt : Nat) (sv : Value) (sp : Sps) (M : List Ent) : List Ent := .blk bw #[.int .i64 (cnt : Int), sv] 82 :: .row 56 2 sv cnt (pv (pz sp)) :: M
def ROneP (w0 : World) (M : List Ent) (bw cnt q at0 p : Nat) (sp0 : Sps) (R : PR (Tree × Nat × Sps)) (e : Ending) (w' : World) : Prop :=
  (∀ er, R = .bad er → e = .returned (.tuple #[.agg #[.int .i64 0, .int .i64 0, .bool false, .slice none 0 0, .slice none 0 0], .int .i64 (p : Int), .int .i64 (er : Int)]) ∧ Hp w0 M w') ∧
  (∀ t k2 sp, R = .ok (t, k2, sp) → ∃ (cs' : List Value) (sv' : Value) (Os : List Ent), e = .returned (.tuple #[.agg cs'.toArray, .int .i64 ((at0 + k2 : Nat) : Int), .int .i64 0]) ∧ Hp w0 (WkL bw (cnt + sp.length) sv' (sp0 ++ sp) (M ++ Os)) w' ∧
    Firm w0 Os fun w => ItP (Kept 0 Os) w q t cs')
theorem ROneP.bad {w0 : World} {M : List Ent} {bw cnt q at0 p : Nat} {sp0 : Sps} {R : PR (Tree × Nat × Sps)} {e : Ending} {w' : World} {er : Nat} (hR : R = .bad er)
    (he : e = .returned (.tuple #[.agg #[.int .i64 0, .int .i64 0, .bool false, .slice none 0 0, .slice none 0 0], .int .i64 (p : Int), .int .i64 (er : Int)])) (hb : Hp w0 M w') : ROneP w0 M bw cnt q at0 p sp0 R e w' := by
  subst hR
  exact ⟨fun er2 h => by injection h with h; subst h; exact ⟨he, hb⟩, fun t k2 sp h => by cases h⟩
theorem ROneP.okk {w0 : World} {M : List Ent} {bw cnt q at0 p : Nat} {sp0 : Sps} {R : PR (Tree × Nat × Sps)} {e : Ending} {w' : World} {t : Tree} {k2 : Nat} {sp : Sps} (hR : R = .ok (t, k2, sp))
    (h : ∃ (cs' : List Value) (sv' : Value) (Os : List Ent), e = .returned (.tuple #[.agg cs'.toArray, .int .i64 ((at0 + k2 : Nat) : Int), .int .i64 0]) ∧ Hp w0 (WkL bw (cnt + sp.length) sv' (sp0 ++ sp) (M ++ Os)) w' ∧
    Firm w0 Os fun w => ItP (Kept 0 Os) w q t cs') : ROneP w0 M bw cnt q at0 p sp0 R e w' := by
  subst hR
  exact ⟨fun er2 h => (by cases h), fun t k2 sp h2 => by injection h2 with h2; simp only [Prod.mk.injEq] at h2; obtain ⟨rfl, rfl, rfl⟩ := h2; exact h⟩
def ROneC (q : Nat) : Prop := ∀ (d : Nat) (w0 : World) (M : List Ent) (bw : Nat) (l : List UInt8) (v : Value) (at0 : Nat) (c : List UInt8) (p en k cnt : Nat) (sv : Value) (sp0 : Sps) (w : World), d + q = 33 → Bs w0 v l → l.length ≤ 1000000 → en ≤ l.length → en = at0 + c.length → p = at0 + k → (l.take en).drop at0 = c →
  k ≤ c.length → cnt ≤ 10000 → sp0.length = cnt → Hp w0 (WkL bw cnt sv sp0 M) w →
    Calls Try.prog 39 #[.pointer (some ⟨bw, 0, none⟩), v, .int .i64 (p : Int), .int .i64 (en : Int), .int .i64 (d : Int)] w (ROneP w0 M bw cnt q at0 p sp0 (oneR q c at0 k cnt))
def RKd (w0 : World) (M : List Ent) (q1 b17 b10 bw : Nat) (c : List UInt8) (sp0 : Sps) (s1 : Nat × Nat) (tc tn : Int) (nx cnt1 : Nat) (px : Value) (wr : World) : Prop :=
  ∃ (kk c2 g : Nat) (ts : List Tree) (sp2 : Sps) (vals : List Value) (rv sv2 : Value) (Os : List Ent), px = .int .i64 ((nx : Int) + (kk : Int)) ∧ kk ≤ c.length ∧ c2 ≤ 10000 ∧ (sp0 ++ s1 :: sp2).length = c2 ∧ c.length - kk < g ∧ ts.length ≤ sp2.length ∧
    kidsR (oneR q1 c nx) c.length (c.length + 1) 0 cnt1 = (kidsR (oneR q1 c nx) c.length g kk c2).glue ts sp2 ∧ KidsL w0 0 q1 ts vals Os ∧
    Hp w0 (WkL bw c2 sv2 (sp0 ++ s1 :: sp2) (.row 27 5 rv ts.length vals :: .blk b17 #[.int .i64 tc, .int .i64 tn, .bool true, .slice none 0 0, rv] 27 :: .blk b10 #[.int .i64 0, .int .i64 0, .bool false, .slice none 0 0, .slice none 0 0] 27 :: (M ++ Os))) wr
theorem RKd.mk {w0 : World} {M : List Ent} {q1 b17 b10 bw : Nat} {c : List UInt8} {sp0 : Sps} {s1 : Nat × Nat} {tc tn : Int} {nx cnt1 : Nat} {px : Value} {wr : World}
  (kk c2 g : Nat) (ts : List Tree) (sp2 : Sps) (vals : List Value) (rv sv2 : Value) (Os : List Ent) (h0 : px = .int .i64 ((nx : Int) + (kk : Int))) (h1 : kk ≤ c.length) (h2 : c2 ≤ 10000) (h3 : (sp0 ++ s1 :: sp2).length = c2) (h4 : c.length - kk < g) (h5 : ts.length ≤ sp2.length)
    (h6 : kidsR (oneR q1 c nx) c.length (c.length + 1) 0 cnt1 = (kidsR (oneR q1 c nx) c.length g kk c2).glue ts sp2) (h7 : KidsL w0 0 q1 ts vals Os)
    (h8 : Hp w0 (WkL bw c2 sv2 (sp0 ++ s1 :: sp2) (.row 27 5 rv ts.length vals :: .blk b17 #[.int .i64 tc, .int .i64 tn, .bool true, .slice none 0 0, rv] 27 :: .blk b10 #[.int .i64 0, .int .i64 0, .bool false, .slice none 0 0, .slice none 0 0] 27 :: (M ++ Os))) wr) : RKd w0 M q1 b17 b10 bw c sp0 s1 tc tn nx cnt1 px wr :=
  ⟨kk, c2, g, ts, sp2, vals, rv, sv2, Os, h0, h1, h2, h3, h4, h5, h6, h7, h8⟩
end Go.Proofs.Ytogliinfdfkobaa

