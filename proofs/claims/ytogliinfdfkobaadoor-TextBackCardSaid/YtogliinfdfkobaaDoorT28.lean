/- Lemmas and walks on the way to the seat's laws; each theorem says its own conditions. -/
import Derived.Test.YtogliinfdfkobaaDoorT24
import Derived.Test.YtogliinfdfkobaaDoorT26
set_option linter.unusedSimpArgs false
set_option linter.unusedVariables false
set_option linter.unusedSimpArgs false
set_option linter.unusedVariables false
set_option maxRecDepth 100000
namespace Go.Proofs.YtogliinfdfkobaaDoor
open Go.RowKit Go.Mem Go.Reg Hd Go.LawLift Oct
def RTagOut (w : World) (R : Tg × Nat × Nat) (e : Ending) (w' : World) : Prop :=
  e = .returned (.tuple #[.agg #[.int .i64 R.1.c, .int .i64 R.1.n, .bool R.1.m], .int .i64 (R.2.2 : Int), .int .i64 (R.2.1 : Int)]) ∧ Below w.heap.size w w'
def RLenOut (w : World) (R : Nat × Nat × Nat) (e : Ending) (w' : World) : Prop :=
  e = .returned (.tuple #[.int .i64 (R.1 : Int), .int .i64 (R.2.2 : Int), .int .i64 (R.2.1 : Int)]) ∧ Below w.heap.size w w'
end Go.Proofs.YtogliinfdfkobaaDoor

set_option linter.unusedSimpArgs false
set_option linter.unusedVariables false
set_option maxRecDepth 100000
namespace Go.Proofs.YtogliinfdfkobaaDoor
open Go.RowKit Go.Mem Go.Reg Hd Go.LawLift Oct
end Go.Proofs.YtogliinfdfkobaaDoor

set_option linter.unusedSimpArgs false
set_option linter.unusedVariables false
set_option maxRecDepth 100000
namespace Go.Proofs.YtogliinfdfkobaaDoor
open Go.RowKit Go.Mem Go.Reg Hd Go.LawLift Oct
def RHeadOut (w : World) (R : Tg × Nat × Nat × Nat) (e : Ending) (w' : World) : Prop :=
  e = .returned (.tuple #[.agg #[.int .i64 R.1.c, .int .i64 R.1.n, .bool R.1.m], .int .i64 (R.2.1 : Int), .int .i64 (R.2.2.2 : Int), .int .i64 (R.2.2.1 : Int)]) ∧ Below w.heap.size w w'
end Go.Proofs.YtogliinfdfkobaaDoor

set_option linter.unusedSimpArgs false
set_option linter.unusedVariables false
set_option maxRecDepth 100000
namespace Go.Proofs.YtogliinfdfkobaaDoor
open Go.RowKit Go.Mem Go.Reg Oct Bit Hd Go.Txt Go.Shelf Go.LawLift
def okAt (ks : List Int) (n : Int) (i : Nat) : Bool := if ks = [] then knownK n else (ks.take i).contains n
def okV (ok : Bool) (x n : Int) : Bool := ok || (x == n)
/-- The document's reader of a text: the text stands in memory. -/
def RRd (w0 w : World) (R : Int × List UInt8 × Int × Nat) (e : Ending) (w' : World) : Prop :=
  (∃ x, e = .returned (.tuple #[.agg #[.int .i64 R.1, x], .int .i64 (R.2.2.2 : Int), .int .i64 R.2.2.1]) ∧ Bs w0 x R.2.1) ∧ Below w.heap.size w w'
end Go.Proofs.YtogliinfdfkobaaDoor

set_option linter.unusedSimpArgs false
set_option linter.unusedVariables false
set_option maxRecDepth 100000
namespace Go.Proofs.YtogliinfdfkobaaDoor
open Go.RowKit Go.Mem Go.Reg Oct Bit Hd Go.Txt Go.Shelf Go.LawLift
def kdAt (r12 r19 : Bool) (i : Nat) : Int := if i = 0 then 20 else if i = 1 then (if r12 then 12 else 20) else (if r19 then 19 else if r12 then 12 else 20)
end Go.Proofs.YtogliinfdfkobaaDoor

set_option linter.unusedSimpArgs false
set_option linter.unusedVariables false
set_option maxRecDepth 100000
namespace Go.Proofs.YtogliinfdfkobaaDoor
open Go.RowKit Go.Mem Go.Reg Oct Bit Hd Go.Txt Go.Shelf Go.LawLift
theorem tread_any (w0 : World) (M : List Ent) (b : Nat) (l : List UInt8) (k : Nat) (v : Value) (ks : List Int) (kv : Value) (hk : k ≤ l.length) (hl : l.length ≤ 100000) (hks : ks.length ≤ 1000000) (hT : Tabs w0) (hB : CurB w0 M b v l) (hZ : Zs w0 kv ks) (w : World) (H : Hp w0 (.blk b #[v, .int .i64 (k : Int)] 84 :: M) w) :
    Calls Tryd.prog 30 #[.pointer (some ⟨b, 0, none⟩), kv] w fun e w' => ∃ x, e = .returned (.tuple #[.agg #[.int .i64 (rdT l k ks).1, x], .int .i64 (rdT l k ks).2.2.1]) ∧ Hp w0 (.row 5 1 x (rdT l k ks).2.1.length ((rdT l k ks).2.1.map u8c) :: .blk b #[v, .int .i64 ((rdT l k ks).2.2.2 : Int)] 84 :: M) w' := by
  by_cases h : ks = []
  · exact tread_none w0 M b l k v ks kv hk hl hks hT hB hZ h w H
  · exact tread_some w0 M b l k v ks kv hk hl hks hT hB hZ h w H
end Go.Proofs.YtogliinfdfkobaaDoor

