/- The frame of a law's proof: a call that returns true and leaves all old memory as it was meets the law's specification. No condition. -/
import Derived.ProofKit
import Derived.SizedLaws
import Derived.Carry
import Derived.Lib.SmallJoins
import Derived.Deep.Fields
import Derived.DataShut
set_option linter.unusedSimpArgs false
set_option linter.unusedVariables false
namespace Go.LawLift
open Go.RowKit Go.ChangeShapes Go.WideShapes Go.ChangeAt
theorem trodAll_below {H : Type} {enc : TypeId × Value → H} {P : Program} (hl : laidOutB P = true) {W W' : World} (hb : Below W.heap.size W W') :
    ∀ (ts : List TypeId) (vs : List Value) (ds : List (DataW H)) (ps : List MemPlace), (∀ t ∈ ts, P.readableRec t = true ∧ t < P.types.size) →
      DataW.TrodAll enc P W 0 (fun _ => true) true ts vs ds ps → (∀ x ∈ ps, x.block < W.heap.size) →
      DataW.TrodAll enc P W' 0 (fun b => decide (b < W.heap.size)) true ts vs ds ps
  | [], vs, ds, ps, _, h, _ => by
    obtain ⟨rfl, rfl, rfl⟩ := trodAll_nil h
    exact rfl
  | t :: ts, vs, ds, ps, hr, h, hlt => by
    obtain ⟨v, vs', d, ds', p, q, rfl, rfl, rfl, hd, hrest⟩ := trodAll_cons h
    exact ⟨p, q, Below.trod hl (hr t (by simp)).1 (hr t (by simp)).2 hd hb (fun x hx => hlt x (by simp [hx])), trodAll_below hl hb ts vs' ds' q (fun t' ht' => hr t' (by simp [ht'])) hrest (fun x hx => hlt x (by simp [hx])), rfl⟩
theorem law_post {H : Type} {enc : TypeId × Value → H} {P : Program} {fn : Func} {s : ChangeSpec} {W W' : World} {args : Array Value} {ds gs : List (DataW H)} {before : List MemPlace} {tb : TypeId}
    (hl : laidOutB P = true) (hro0 : (fn.params.toList.all fun t => P.readableRec t && decide (t < P.types.size)) = true) (hv : s.vars = []) (hres : fn.resultTypes = #[tb]) (htb : P.underlying tb = some .bool)
    (hs : (s.fn H (ds ++ [])).results = [.lit (.bool true)] ∧ (s.fn H (ds ++ [])).args = ds ∧ (s.fn H (ds ++ [])).vars = [])
    (hW : DataW.Whole enc P fn.params.toList s.vars false W args.toList ds gs before) (hb : Below W.heap.size W W') :
    s.post enc P fn false true false false W args (.bool true) W' := by
  have hro : ∀ t ∈ fn.params.toList, P.readableRec t = true ∧ t < P.types.size := fun t ht => by simpa using (List.all_eq_true.1 hro0) t ht
  have hW' := hW
  obtain ⟨p, q, hA, hV, rfl, _, _⟩ := hW
  rw [hv] at hV
  obtain ⟨rfl, rfl⟩ := trodVars_none hV
  obtain ⟨s1, s2, s3⟩ := hs
  have hlt : ∀ x ∈ p, x.block < W.heap.size := fun x hx => hW'.lt x (by simp [hx])
  refine ⟨ds, [], p ++ [], [], p, [], hW', ?_, ?_, ?_, hb.frame _, fun h => by cases h⟩
  · rw [s1, hres]
    exact trodAll_mk1 (shut_bool htb true)
  · rw [s2]
    exact trodAll_below hl hb _ _ _ _ hro hA hlt
  · rw [s3, hv]
    exact rfl
#print axioms law_post
end Go.LawLift

/- A law's arguments opened: what a reading of the arguments says of their values. No condition. -/
namespace Go.LawLift
open Go.RowKit Go.ChangeShapes Go.WideShapes Go.Deep
section
variable {H : Type} {enc : TypeId × Value → H} {P : Program} {w : World} {base : Nat} {spare : Nat → Bool} {held : Bool} {t : TypeId}
theorem rd_int {k : IntKind} {fuel : Nat} {v : Value} {x : DataW H × List MemPlace} (ht : P.underlying t = some (.int k)) (h : DataW.trod enc P w base spare held fuel t [v] = some x) : ∃ n, v = .int k n ∧ k.min ≤ n ∧ n ≤ k.max := by
  obtain ⟨n, hc, _, hw⟩ := DataW.trod_int ht h
  injection hc with hc
  exact ⟨n, hc, (Lit.wf_int_iff k n).1 hw⟩
theorem rd_string {fuel : Nat} {v : Value} {x : DataW H × List MemPlace} (ht : P.underlying t = some .string) (h : DataW.trod enc P w base spare held fuel t [v] = some x) : ∃ s : ByteArray, v = .string s ∧ s.size ≤ maxLen := by
  obtain ⟨s, hc, _, hw⟩ := DataW.trod_string ht h
  injection hc with hc
  exact ⟨s, hc, hw⟩
variable {r : Reach} {b0 : Nat} {v : Value} {d : DataW H} {p : List MemPlace}
theorem arg_int {k : IntKind} (ht : P.underlying t = some (.int k)) (hv : Value.okWide P w r b0 t v) (h : DataW.Trod enc P w base spare held t v d p) : ∃ n, v = .int k n ∧ k.min ≤ n ∧ n ≤ k.max := by
  obtain ⟨n, rfl⟩ := okWide_int ht hv
  obtain ⟨fuel, hf⟩ := h
  obtain ⟨m, e, hm⟩ := rd_int (v := .int k n) ht hf
  injection e with _ e
  subst e
  exact ⟨n, rfl, hm⟩
theorem arg_string (ht : P.underlying t = some .string) (hv : Value.okWide P w r b0 t v) (h : DataW.Trod enc P w base spare held t v d p) : ∃ s : ByteArray, v = .string s ∧ s.size ≤ maxLen := by
  obtain ⟨s, rfl⟩ := okWide_string ht hv
  obtain ⟨fuel, hf⟩ := h
  obtain ⟨m, e, hm⟩ := rd_string (v := .string s) ht hf
  injection e with e
  subst e
  exact ⟨s, rfl, hm⟩
end
end Go.LawLift

