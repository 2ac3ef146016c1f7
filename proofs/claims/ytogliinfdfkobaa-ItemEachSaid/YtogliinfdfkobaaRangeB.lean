/- A region that draws, in the body of a loop over a function: what is shown outside a fence holds in a round. No condition on a program but that it follows mixed orders. -/
import Derived.Test.YtogliinfdfkobaaRegN
import Derived.OrdersIn
import Derived.TacticsIn
import Derived.RangeFuncCalls
import Derived.Test.YtogliinfdfkobaaRangeT
set_option linter.unusedSimpArgs false
set_option linter.unusedVariables false
namespace Go.Reg
open Go.RowKit
/-- Only the plain end. -/
def NQ (Q : Exit → Act → World → Prop) : Exit → Act → World → Prop := fun e a w => e = .normal ∧ Q .normal a w
theorem wp_inRound {P : Program} {o : Oper} {a : Act} {w : World} {K : Act → World → Prop} {Q : Exit → Act → World → Prop} {l n : Nat} (hd : ∀ c, o.op ≠ .defer c) (hL : ¬ LetsOut (NQ Q)) (h : o.wp P a w K (NQ Q)) : o.wpIn (Fence.wide.inRound l) n P a w K Q := by
  refine ⟨fun _ _ => trivial, ?_⟩
  rw [Fence.inRound_round, Oper.semAt_some l a.eval o hd]
  unfold Oper.wp at h
  generalize (execOp a.eval o).run P w = r at h
  unfold Oper.upon at h
  unfold Oper.uponIn
  split at h
  · exact h
  · exact h
  · exact h
  · refine ⟨fun h0 => (by cases h0), CallsIn.inRound l (callsIn_wide.2 (h.mono ?_))⟩
    rintro e w2 h2
    cases e with
    | returned v => exact h2
    | panicked c => exact absurd h2.1 (by simp)
    | outgrown => exact absurd h2 hL
  · refine ⟨fun h0 => (by cases h0), ?_⟩
    exact fun c cs _ => let ⟨v, w', r, s⟩ := h c cs; ⟨v, w', r, stepsIn_wide.2 s⟩
  · exact absurd h.1 (by simp)
  · exact h.elim
theorem noOut {Q : Exit → Act → World → Prop} : ¬ LetsOut (NQ Q) := fun ⟨_, _, h, _⟩ => by cases h
theorem wpAnyIn_of_any {P : Program} {ops : Array Oper} {Q : Exit → Act → World → Prop} {l n : Nat} (hd : ∀ (i : Nat) (o : Oper), ops[i]? = some o → ∀ c, o.op ≠ .defer c) :
    ∀ (fuel : Nat) (listed : Array Bool) (a : Act) (w : World), wpAny P .any ops (NQ Q) fuel listed a w → wpAnyIn (Fence.wide.inRound l) n P .any ops Q fuel listed a w
  | 0, listed, a, w, h => ⟨h.1, h.2.2⟩
  | fuel + 1, listed, a, w, h => ⟨fun hr => (h.1 hr).2, fun i hi => by
    have h1 := h.2 i hi
    unfold wpOp at h1
    unfold wpOpIn
    cases ho : ops[i]? with
    | none =>
      rw [ho] at h1
      exact wpAnyIn_of_any hd fuel _ a w h1
    | some o =>
      rw [ho] at h1
      simp only at h1 ⊢
      split
      · rename_i hw
        rw [if_pos hw] at h1
        have h2 := h1.resolve_right fun h => noOut h.2
        exact wp_inRound (hd i o ho) noOut (Oper.wp_mono (fun a' w' h' => wpAnyIn_of_any hd fuel _ a' w' h') h2)
      · rename_i hw
        rw [if_neg hw] at h1
        exact ⟨fun _ _ => trivial, wpAnyIn_of_any hd fuel _ _ w h1⟩⟩
def noDefer (os : List Oper) : Bool := os.all fun o => match o.op with | .defer _ => false | _ => true
theorem noDefer_get {os : List Oper} (h : noDefer os = true) : ∀ (i : Nat) (o : Oper), os.toArray[i]? = some o → ∀ c, o.op ≠ .defer c := by
  intro i o ho c hc
  have hm : o ∈ os := List.mem_of_getElem? (by simpa using ho)
  have := List.all_eq_true.1 h o hm
  rw [hc] at this
  cases this
/-- The whole. -/
theorem region_r {P : Program} {Q : Exit → Act → World → Prop} {id : Nat} {os : List Oper} {a0 : Act} {w : World} {l n' : Nat} (hnd : noDefer os = true) (F : Frm) (hF : F.Ok) (hsz : ∀ x y, F.R' x y → x.heap.size ≤ y.heap.size) (E : List Nat) (xs : List Part) (Fr : List Bool)
    (N n : Nat) (wit : List Nat) (ds : List (Option Tmp)) (dd : List (List Nat)) (Js : List (Value → World → Prop)) (hm : P.follows .mixedOrders = true) (hok : linT os.toArray N ds dd = true)
    (hE : (decide E.Nodup && chainOk os.toArray E && partsOk os.toArray E 0 xs && tailOkN os.toArray N E wit && Fr.length == N) = true) (hn : a0.tmps.size = n) (hin : inB ds n = true)
    (hJl : Js.length = N) (A : (Nat → Value) → Act) (hA : ∀ vs, fillD ds 0 vs a0 = A vs) (hst : AllStable F.R' Js) (h0 : F.S 0 w.drew)
    (hsteps : StepsObN P os.toArray Js F A w.drew (os.take N) dd Js Fr xs)
    (hend : ∀ vs w', AllJ vs w' 0 Js → DisAll Fr vs → F.S E.length w' → F.R' w.drew w' → wpList P os.toArray (NQ Q) (os.drop N) (A vs) w') : (Code.region id os.toArray true).wpIn (Fence.wide.inRound l) n' P Q a0 w := by
  obtain rfl : (fun vs => fillD ds 0 vs a0) = A := funext hA
  subst hn
  simp only [Bool.and_eq_true, decide_eq_true_eq, tailOkN, List.all_eq_true, List.mem_range, Bool.or_eq_true, beq_iff_eq] at hE
  obtain ⟨⟨⟨⟨e1, e2⟩, e3⟩, ⟨⟨e4, e5⟩, e6⟩, e7⟩, e8⟩ := hE
  refine wpIn_region_any hm (wpAnyIn_of_any (noDefer_get hnd) _ _ _ _ ?_)
  change wpAny P .any os.toArray (NQ Q) os.toArray.size (Array.replicate os.toArray.size false) a0 w.drew
  refine Way.anyN hF hsz hst hok (inB_get hin) e4 (fun hlt i hi => witOk_get wit 0 (e5.resolve_left (by omega)) i (Nat.zero_le _) hi) (fun j hj hjs => (e6 j hjs).resolve_left (by omega)) e7 (by simpa using hsteps) e1 e2 e3 hJl e8 (by simpa using hend) _ _ (fun _ => undef) _ _ ⟨hF.rf _, rfl, rfl, by simp, fun _ _ => rfl, fun i t h => ?_, fun i J h => ?_⟩ ⟨fun i h => ?_, fun i j h => ?_⟩ ⟨0, ⟨Nat.zero_le _, fun k e h => by omega, fun k e _ _ => ?_⟩, h0⟩ (fun e i h => ?_) (fun j _ => ?_) ?_
  · simp [Array.getElem?_replicate] at h
    split at h <;> simp at h
  · simp [Array.getElem?_replicate] at h
    split at h <;> simp at h
  · simp [Array.getElem?_replicate] at h
    split at h <;> simp at h
  · simp [Array.getElem?_replicate] at h
    split at h <;> simp at h
  · simp [Array.getElem?_replicate]
    split <;> simp
  · simp [Array.getElem?_replicate] at h
    split at h <;> simp at h
  · simp [Array.getElem?_replicate]
    split <;> simp
  · simp
end Go.Reg

/- A loop over a function whose second loop variable is boxed each round: the round's frame written out. No condition on a program. -/
set_option linter.unusedVariables false
namespace Go.Mem
open Go.RowKit Go.Reg
def boxAct {α : Type} (s1 s2 : Nat) (e1 : α → Value) (encs : α → Array Value) (ps : Array Tmp) (a : Act) (x : α) (b : Nat) : Act :=
  { tmps := (((ps.zip (encs x)).foldl (fun t (p, v) => t.setIfInBounds p v) a.tmps).setIfInBounds s1 (e1 x)).setIfInBounds s2 (.pointer (some ⟨b, 0, none⟩)), defers := [] }
section
variable {α : Type} {P : Program}
theorem range_fr3 {g : Operand} {ps : Array Tmp} {assign body : Code} {Q : Exit → Act → World → Prop} {a : Act} {w0 w : World}
    {gf : Nat} {lb : Array Value} (hg : a.eval g = .func (.func gf) #[] lb) (eg : ∀ args w, (callFunc gf args).run P w = .ok (.enter gf args) w)
    {L0 : List Ent} (H : Hp w0 L0 w) {encs : α → Array Value} {T : World → Prop} {Os : List Ent} {Ok : World → α → Prop} {Good S : List α → Prop}
    (hseq : SeqF P gf lb encs w0 T Os Ok Good S) (hps : ∀ x, (encs x).size = ps.size)
    (Lp : List α → List Ent → Prop) (Lx : Code → List α → List Ent → Prop) (h0 : Lp [] L0) (hE : ∀ W, Below w.heap.size w W → T W) (hK : ∀ pre L, Lp pre L → ∀ x ∈ Os, x ∈ L)
    (hOk : ∀ (X Y : World) (L L' : List Ent) (x : α), Hp w0 L X → Hp w0 L' Y → (∀ e ∈ Os, e ∈ L) → (∀ e ∈ Os, e ∈ L') → Ok X x → Ok Y x) (Ex : α → Nat → Ent) (s1 s2 : Nat) (e1 : α → Value)
    (hassign : ∀ (l : Nat) (x : α) (L : List Ent) (W : World) (K : Act → World → Prop), Hp w0 L W → Ok W x → (∀ b W', Hp w0 (Ex x b :: L) W' → K (boxAct s1 s2 e1 encs ps a x b) W') →
      assign.wpIn (Fence.wide.inRound l) 6 P (Exit.then K (fun _ _ _ => False)) { tmps := (ps.zip (encs x)).foldl (fun t (p, v) => t.setIfInBounds p v) a.tmps, defers := [] } W)
    (hbody : ∀ (l : Nat) (pre : List α) (x : α) (b : Nat) (L M : List Ent) (W : World), Lp pre L → Hp w0 (Ex x b :: (L ++ M)) W → Ok W x → Good (pre ++ [x]) →
      body.wpIn (Fence.wide.inRound l) 6 P (postF w0 M Lp Lx (pre ++ [x])) (boxAct s1 s2 e1 encs ps a x b) W)
    (hdone : ∀ (D : Nat) (xs : List α) (L : List Ent) (W : World), S xs → Lp xs L → Hp w0 (.obj D (.deferred (some [])) :: L) W → Q .normal { a with defers := { target := .collected D, args := #[] } :: a.defers } W)
    (hstop : ∀ (D : Nat) (c : Code) (pre : List α) (L : List Ent) (W : World), Good pre → Lx c pre L → Hp w0 (.obj D (.deferred (some [])) :: L) W → c.wpIn Fence.wide 8 P Q { a with defers := { target := .collected D, args := #[] } :: a.defers } W) :
    (Code.rangeFunc g ps assign body).wpIn Fence.wide 8 P Q a w :=
  range_fr2 hg eg H hseq hps Lp Lx h0 hE hK hOk Ex _ hassign hbody hdone hstop
end
end Go.Mem

