/- Opening a tag and length over bytes, in plain terms. No program in sight. -/
import Derived.Test.YtogliinfdfkobaaHPlain
import Derived.Test.YtogliinfdfkobaaMem
import Derived.Test.YtogliinfdfkobaaBytes
import Derived.Test.YtogliinfdfkobaaOPlain
import Derived.ProofKit
import Derived.SizedLaws
import Derived.Carry
import Derived.Lib.SmallJoins
import Derived.Deep.Fields
import Derived.DataShut
set_option linter.unusedSimpArgs false
set_option linter.unusedVariables false
namespace Hd
open Go Go.Mem
deriving instance DecidableEq for Tg
/-- A whole opened at a place: its bytes, the place behind, an error. -/
def opR (l : List UInt8) (k : Nat) (t : Tg) : List UInt8 × Nat × Nat :=
  if (rdHead l k).2.2.1 ≠ 0 then ([], k, (rdHead l k).2.2.1)
  else if (rdHead l k).1 ≠ t then ([], k, 4)
  else if l.length - (rdHead l k).2.2.2 < (rdHead l k).2.1 then ([], k, 3)
  else ((l.drop (rdHead l k).2.2.2).take (rdHead l k).2.1, (rdHead l k).2.2.2 + (rdHead l k).2.1, 0)
/-- A whole that fills the bytes. -/
def alR (l : List UInt8) (t : Tg) : List UInt8 × Nat :=
  if (opR l 0 t).2.2 ≠ 0 then ([], (opR l 0 t).2.2)
  else if (opR l 0 t).2.1 < l.length then ([], 7)
  else ((opR l 0 t).1, 0)
end Hd
namespace Hd
open Go Go.Mem
end Hd

/- Bits of bytes, in plain terms. No program in sight. -/
namespace Bit
open Go Go.Mem Oct
/-- The last byte's value; none: 0. -/
def lastN (l : List UInt8) : Nat := (l[l.length - 1]?.getD 0).toNat
/-- Is it a bit string, with so many bits unused? -/
def rightB (u : Int) (l : List UInt8) : Bool := if l.length = 0 then u == 0 else decide (0 ≤ u ∧ u ≤ 7) && (lastN l % 2 ^ u.toNat == 0)
/-- One bit of bytes, 0 or 1. -/
def bitI (l : List UInt8) (i : Nat) : Nat := (l[i / 8]?.getD 0).toNat / 2 ^ (7 - i % 8) % 2
def bitN (l : List UInt8) (i : Nat) : Bool := bitI l i == 1
def bitsL (l : List UInt8) (k : Nat) : List Nat := (List.range k).map (bitI l)
/-- Whole numbers as values. -/
def ivs (xs : List Nat) : List Value := xs.map fun (n : Nat) => .int .i64 (n : Int)
def zvs (xs : List Int) : List Value := xs.map (.int .i64)
theorem ivs_zvs (xs : List Nat) : ivs xs = zvs (xs.map fun (n : Nat) => (n : Int)) := by simp [ivs, zvs]
/-- How many bits a string has; a wrong one: none. -/
def lenI (u : Int) (l : List UInt8) : Int := if rightB u l then 8 * (l.length : Int) - u else 0
/-- The places of the bits that are 1. -/
def onesL (l : List UInt8) (n : Nat) : List Nat := (List.range n).filter (bitN l)
/-- The flags of a string, or an error. -/
def flagsR (u : Int) (l : List UInt8) : List Nat × Int :=
  if rightB u l then (if 32 < lenI u l ∨ (0 < lenI u l ∧ bitN l ((lenI u l).toNat - 1) = false) then ([], 6) else (onesL l (lenI u l).toNat, 0)) else ([], 1)
/-- What a string's contents hold. -/
def contL (u : Int) (l : List UInt8) : List UInt8 := UInt8.ofNat u.toNat :: l
/-- The string of contents, or an error: 6. -/
def parseB (b : List UInt8) : Bool := match b with
  | [] => false
  | x :: r => rightB (x.toNat : Int) r
/-- Are they flags: ever greater, from 0 to 31? -/
def okFrom (last : Int) : List Int → Bool
  | [] => true
  | x :: r => decide (last < x ∧ x < 32) && okFrom x r
def okF (l : List Int) : Bool := okFrom (-1) l
def lastF (l : List Int) : Int := l.getLast?.getD (-1)
theorem snoc_cases {α : Type} (l : List α) : l = [] ∨ ∃ r x, l = r ++ [x] := by
  cases h : l.reverse with
  | nil => exact .inl (by simpa using h)
  | cons x r => exact .inr ⟨r.reverse, x, by rw [← List.reverse_reverse l, h, List.reverse_cons]⟩
/-- A bit is set. -/
def orAt (B : List UInt8) (i : Nat) : List UInt8 := B.set (i / 8) (UInt8.ofNat ((B[i / 8]?.getD 0).toNat ||| (128 / 2 ^ (i % 8))))
/-- The bytes whose bits are set at the places l, n places in all. -/
def packL (l : List Int) : List UInt8 := (l.foldl (fun B x => orAt B x.toNat) (List.replicate (((lastF l + 1).toNat + 7) / 8) 0))
end Bit

/- The frame of a law's proof: a call that returns true and leaves all old memory as it was meets the law's specification. No condition. -/
namespace Go.LawLift
open Go.RowKit Go.ChangeShapes Go.WideShapes Go.ChangeAt
theorem trodAll_below {H : Type} {enc : TypeId × Value → H} {P : Program} (hl : laidOutB P = true) {W W' : World} (hb : Below W.heap.size W W') :
    ∀ (ts : List TypeId) (vs : List Value) (ds : List (DataW H)) (ps : List MemPlace), (∀ t ∈ ts, P.readableRec t = true ∧ t < P.types.size) →
      DataW.TrodAll enc P W 0 (fun _ => true) true ts vs ds ps → (∀ x ∈ ps, x.block < W.heap.size) →
      DataW.TrodAll enc P W' 0 (fun b => decide (b < W.heap.size)) true ts vs ds ps
  | [], vs, ds, ps, _, h, _ => by
    obtain ⟨rfl, rfl, rfl⟩ := trodAll_nil h
    exact rfl
  | t :: ts, vs, ds, ps, hr, h, hlt => by
    obtain ⟨v, vs', d, ds', p, q, rfl, rfl, rfl, hd, hrest⟩ := trodAll_cons h
    exact ⟨p, q, Below.trod hl (hr t (by simp)).1 (hr t (by simp)).2 hd hb (fun x hx => hlt x (by simp [hx])), trodAll_below hl hb ts vs' ds' q (fun t' ht' => hr t' (by simp [ht'])) hrest (fun x hx => hlt x (by simp [hx])), rfl⟩
theorem law_post {H : Type} {enc : TypeId × Value → H} {P : Program} {fn : Func} {s : ChangeSpec} {W W' : World} {args : Array Value} {ds gs : List (DataW H)} {before : List MemPlace} {tb : TypeId}
    (hl : laidOutB P = true) (hro0 : (fn.params.toList.all fun t => P.readableRec t && decide (t < P.types.size)) = true) (hv : s.vars = []) (hres : fn.resultTypes = #[tb]) (htb : P.underlying tb = some .bool)
    (hs : (s.fn H (ds ++ [])).results = [.lit (.bool true)] ∧ (s.fn H (ds ++ [])).args = ds ∧ (s.fn H (ds ++ [])).vars = [])
    (hW : DataW.Whole enc P fn.params.toList s.vars false W args.toList ds gs before) (hb : Below W.heap.size W W') :
    s.post enc P fn false true false false W args (.bool true) W' := by
  have hro : ∀ t ∈ fn.params.toList, P.readableRec t = true ∧ t < P.types.size := fun t ht => by simpa using (List.all_eq_true.1 hro0) t ht
  have hW' := hW
  obtain ⟨p, q, hA, hV, rfl, _, _⟩ := hW
  rw [hv] at hV
  obtain ⟨rfl, rfl⟩ := trodVars_none hV
  obtain ⟨s1, s2, s3⟩ := hs
  have hlt : ∀ x ∈ p, x.block < W.heap.size := fun x hx => hW'.lt x (by simp [hx])
  refine ⟨ds, [], p ++ [], [], p, [], hW', ?_, ?_, ?_, hb.frame _, fun h => by cases h⟩
  · rw [s1, hres]
    exact trodAll_mk1 (shut_bool htb true)
  · rw [s2]
    exact trodAll_below hl hb _ _ _ _ hro hA hlt
  · rw [s3, hv]
    exact rfl
end Go.LawLift

/- A law's arguments opened: what a reading of the arguments says of their values. No condition. -/
namespace Go.LawLift
open Go.RowKit Go.ChangeShapes Go.WideShapes Go.Deep
section
variable {H : Type} {enc : TypeId × Value → H} {P : Program} {w : World} {base : Nat} {spare : Nat → Bool} {held : Bool} {t : TypeId}
theorem rd_int {k : IntKind} {fuel : Nat} {v : Value} {x : DataW H × List MemPlace} (ht : P.underlying t = some (.int k)) (h : DataW.trod enc P w base spare held fuel t [v] = some x) : ∃ n, v = .int k n ∧ k.min ≤ n ∧ n ≤ k.max := by
  obtain ⟨n, hc, _, hw⟩ := DataW.trod_int ht h
  injection hc with hc
  exact ⟨n, hc, (Lit.wf_int_iff k n).1 hw⟩
variable {r : Reach} {b0 : Nat} {v : Value} {d : DataW H} {p : List MemPlace}
theorem arg_int {k : IntKind} (ht : P.underlying t = some (.int k)) (hv : Value.okWide P w r b0 t v) (h : DataW.Trod enc P w base spare held t v d p) : ∃ n, v = .int k n ∧ k.min ≤ n ∧ n ≤ k.max := by
  obtain ⟨n, rfl⟩ := okWide_int ht hv
  obtain ⟨fuel, hf⟩ := h
  obtain ⟨m, e, hm⟩ := rd_int (v := .int k n) ht hf
  injection e with _ e
  subst e
  exact ⟨n, rfl, hm⟩
end
end Go.LawLift

