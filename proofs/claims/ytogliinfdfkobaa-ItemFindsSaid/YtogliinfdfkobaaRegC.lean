/- A region that draws its order of evaluation and in which some operations turn memory, one behind the other: each operation shown once, whatever the order. No condition on a program but that it follows mixed orders. -/
import Derived.Test.YtogliinfdfkobaaReg
import Derived.Test.YtogliinfdfkobaaMem
set_option linter.unusedSimpArgs false
set_option linter.unusedVariables false
namespace Go.Reg
open Go.RowKit
/-- An operation's part: the k-th of those that turn memory; or a light one that comes up behind the first lo of them and ahead of number hi. -/
inductive Part where
  | turns (k : Nat)
  | light (lo hi : Nat)
/-- The frame of a region with turns. -/
structure Frm where
  R : World → World → Prop
  R' : World → World → Prop
  S : Nat → World → Prop
structure Frm.Ok (F : Frm) : Prop where
  rf : ∀ x, F.R' x x
  tr : ∀ x y z, F.R' x y → F.R' y z → F.R' x z
  sub : ∀ x y, F.R x y → F.R' x y
  st : ∀ p x y, F.R x y → F.S p x → F.S p y
def StepObC (P : Program) (ops : Array Oper) (Js : List (Value → World → Prop)) (F : Frm) (A : (Nat → Value) → Act) (w0 : World) (o : Oper) (d : List Nat) (J : Value → World → Prop) : Part → Prop
  | .turns k => ∀ (vs : Nat → Value) (w : World) (K : Act → World → Prop), DepJ Js vs w d → F.S k w → F.R' w0 w →
    Shut (∀ v w', F.R' w w' → F.S (k + 1) w' → J v w' → K ((A vs).put o.dst v) w') →
    if Region.wanted o (yielded ops (A vs).tmps) = true then o.wp P (A vs) w K NoExit else K ((A vs).put o.dst undef) w
  | .light lo hi => ∀ (p : Nat) (vs : Nat → Value) (w : World) (K : Act → World → Prop), DepJ Js vs w d → lo ≤ p → p ≤ hi → F.S p w → F.R' w0 w →
    Shut (∀ v w', F.R w w' → J v w' → K ((A vs).put o.dst v) w') →
    if Region.wanted o (yielded ops (A vs).tmps) = true then o.wp P (A vs) w K NoExit else K ((A vs).put o.dst undef) w
def StepsObC (P : Program) (ops : Array Oper) (Js : List (Value → World → Prop)) (F : Frm) (A : (Nat → Value) → Act) (w0 : World) : List Oper → List (List Nat) → List (Value → World → Prop) → List Part → Prop
  | [], _, _, _ => True
  | o :: os, d :: dd, J :: Jr, x :: xs => StepObC P ops Js F A w0 o d J x ∧ StepsObC P ops Js F A w0 os dd Jr xs
  | _ :: _, _, _, _ => False
theorem stepsObC_get {P : Program} {ops : Array Oper} {Js : List (Value → World → Prop)} {F : Frm} {A : (Nat → Value) → Act} {w0 : World} :
    ∀ (os : List Oper) (dd : List (List Nat)) (Jr : List (Value → World → Prop)) (xs : List Part), StepsObC P ops Js F A w0 os dd Jr xs → ∀ (i : Nat) (o : Oper), os[i]? = some o →
      ∃ d J x, dd[i]? = some d ∧ Jr[i]? = some J ∧ xs[i]? = some x ∧ StepObC P ops Js F A w0 o d J x
  | [], _, _, _, _, i, o, h => by simp at h
  | o :: os, d :: dd, J :: Jr, x :: xs, h, 0, o', ho => by
    simp at ho
    subst ho
    exact ⟨d, J, x, rfl, rfl, rfl, h.1⟩
  | o :: os, d :: dd, J :: Jr, x :: xs, h, i + 1, o', ho => by
    obtain ⟨d', J', x', h1, h2, h3, h4⟩ := stepsObC_get os dd Jr xs h.2 i o' (by simpa using ho)
    exact ⟨d', J', x', by simpa using h1, by simpa using h2, by simpa using h3, h4⟩
  | _ :: _, [], _, _, h, _, _, _ => (h : False).elim
  | _ :: _, _ :: _, [], _, h, _, _, _ => (h : False).elim
  | _ :: _, _ :: _, _ :: _, [], h, _, _, _ => (h : False).elim
/-- The edge lies there. -/
def edge (ops : Array Oper) (i j : Nat) : Bool := match ops[i]? with
  | some o => o.after.any fun e => Region.binds .any e && e.on == j
  | none => false
/-- The table of the turns E against the parts. -/
def partOk (ops : Array Oper) (E : List Nat) (i : Nat) : Part → Bool
  | .turns k => E[k]? == some i
  | .light lo hi => !E.contains i && (lo == 0 || (match E[lo - 1]? with | some e => edge ops i e | none => false)) && (match E[hi]? with | some e => edge ops e i | none => decide (E.length ≤ hi))
def partsOk (ops : Array Oper) (E : List Nat) : Nat → List Part → Bool
  | _, [] => true
  | i, x :: xs => partOk ops E i x && partsOk ops E (i + 1) xs
def chainOk (ops : Array Oper) : List Nat → Bool
  | [] => true
  | [e] => decide (e < ops.size)
  | e :: f :: r => edge ops f e && decide (e < ops.size) && chainOk ops (f :: r)
theorem partsOk_get {ops : Array Oper} {E : List Nat} : ∀ (xs : List Part) (k : Nat), partsOk ops E k xs = true → ∀ (i : Nat) (x : Part), xs[i]? = some x → partOk ops E (k + i) x = true
  | [], _, _, i, x, hx => by simp at hx
  | x :: xs, k, h, 0, y, hy => by
    simp at hy
    subst hy
    simp only [partsOk, Bool.and_eq_true] at h
    exact h.1
  | x :: xs, k, h, i + 1, y, hy => by
    simp only [partsOk, Bool.and_eq_true] at h
    have := partsOk_get xs (k + 1) h.2 i y (by simpa using hy)
    rwa [show k + 1 + i = k + (i + 1) from by omega] at this
theorem chain_get {ops : Array Oper} : ∀ (E : List Nat), chainOk ops E = true → (∀ (k e f : Nat), E[k]? = some e → E[k + 1]? = some f → edge ops f e = true) ∧ ∀ e ∈ E, e < ops.size
  | [], _ => ⟨fun _ _ _ h => by simp at h, fun _ h => (List.not_mem_nil h).elim⟩
  | [e], h => by
    simp [chainOk] at h
    exact ⟨fun k a b _ h2 => by simp at h2, fun x hx => by rw [List.mem_singleton.1 hx]; exact h⟩
  | e :: f :: r, h => by
    simp only [chainOk, Bool.and_eq_true, decide_eq_true_eq] at h
    obtain ⟨h1, h2⟩ := chain_get (f :: r) h.2
    refine ⟨fun k a b ha hb => ?_, fun x hx => ?_⟩
    · cases k with
      | zero =>
        simp at ha hb
        subst ha hb
        exact h.1.1
      | succ k => exact h1 k a b (by simpa using ha) (by simpa using hb)
    · rcases List.mem_cons.1 hx with rfl | hx
      · exact h.1.2
      · exact h2 x hx
theorem edge_spec {ops : Array Oper} {i j : Nat} (h : edge ops i j = true) : ∃ o, ops[i]? = some o ∧ ∃ e ∈ o.after, Region.binds .any e = true ∧ e.on = j := by
  unfold edge at h
  split at h
  · rename_i o ho
    obtain ⟨e, he, hb⟩ := Array.any_eq_true'.1 h
    simp only [Bool.and_eq_true, beq_iff_eq] at hb
    exact ⟨o, ho, e, he, hb.1, hb.2⟩
  · cases h
/-- How many turns have come up. -/
structure Phase (ops : Array Oper) (E : List Nat) (listed : Array Bool) (p : Nat) : Prop where
  le : p ≤ E.length
  done : ∀ k e, k < p → E[k]? = some e → listed.getD e false = true
  left : ∀ k e, p ≤ k → E[k]? = some e → listed.getD e false = false
section
variable {P : Program} {ops : Array Oper} {Q : Exit → Act → World → Prop}
theorem Way.anyC {ds : List (Option Tmp)} {dd : List (List Nat)} {Js : List (Value → World → Prop)} {F : Frm} {a0 : Act} {w0 : World} {E : List Nat} {xs : List Part}
    (hF : F.Ok) (hst : AllStable F.R' Js) (hok : linOk ops ds dd = true) (hin : ∀ (i : Nat) (t : Tmp), ds[i]? = some (some t) → t < a0.tmps.size)
    (hsteps : StepsObC P ops Js F (fun vs => fillD ds 0 vs a0) w0 ops.toList dd Js xs) (hEn : E.Nodup) (hch : chainOk ops E = true) (hpt : partsOk ops E 0 xs = true) (hJl : Js.length = ops.size)
    (hend : ∀ vs w', AllJ vs w' 0 Js → F.S E.length w' → F.R' w0 w' → Q .normal (fillD ds 0 vs a0) w') :
    ∀ (fuel : Nat) (listed : Array Bool) (vs : Nat → Value) (a : Act) (w : World), Way ops ds Js F.R' a0 w0 listed vs a w → (∃ p, Phase ops E listed p ∧ F.S p w) → (∀ e i, listed.getD e false = true → edge ops e i = true → listed.getD i false = true) → listed.toList.count false ≤ fuel → wpAny P .any ops Q fuel listed a w := by
  simp only [linOk, Bool.and_eq_true, beq_iff_eq] at hok
  obtain ⟨⟨⟨hds, hdi⟩, hsel⟩, hdep⟩ := hok
  have hlen : ds.length = ops.size := by rw [← hds]; simp
  have hback : ∀ (i : Nat) (o : Oper), ops[i]? = some o → ∀ e ∈ o.after, Region.binds .any e = true → e.on < i := by
    intro i o ho e he hb
    obtain ⟨d, _, _, _, h4⟩ := depsOk_get ops.toList dd 0 hdep i o (by simpa using ho)
    simpa using h4 e he hb
  have hfin : ∀ (listed : Array Bool) (vs : Nat → Value) (a : Act) (w : World), Way ops ds Js F.R' a0 w0 listed vs a w → (∃ p, Phase ops E listed p ∧ F.S p w) → Region.ready .any ops listed = [] → Q .normal a w := by
    intro listed vs a w h ⟨p, hp, hS⟩ hr
    have hall := all_listed hback h.lsize hr
    have hpe : p = E.length := by
      rcases Nat.lt_or_ge p E.length with hlt | hge
      · have h1 := hp.left p E[p] (Nat.le_refl _) (by simp [hlt])
        rw [hall _ ((chain_get E hch).2 _ (List.getElem_mem hlt))] at h1
        cases h1
      · exact Nat.le_antisymm hp.le hge
    subst hpe
    rw [h.full hdi hin hlen hall]
    refine hend vs w (allJ_of Js 0 fun k J hk => ?_) hS h.r
    have hlt : k < Js.length := (List.getElem?_eq_some_iff.1 hk).1
    rw [Nat.zero_add]
    exact h.js k J (hall k (by omega)) hk
  obtain ⟨hch1, hch2⟩ := chain_get E hch
  intro fuel
  induction fuel with
  | zero =>
    intro listed vs a w h hph hpred hc
    have hr : Region.ready .any ops listed = [] := by
      cases hr : Region.ready .any ops listed with
      | nil => rfl
      | cons i r =>
        obtain ⟨h0, o, ho, _⟩ := mem_ready.1 (show i ∈ Region.ready .any ops listed by rw [hr]; simp)
        have hlt : i < listed.size := by rw [h.lsize]; exact (Array.getElem?_eq_some_iff.1 ho).1
        have : false ∈ listed.toList := by
          rw [List.mem_iff_getElem?]
          refine ⟨i, ?_⟩
          simp [hlt] at h0 ⊢
          exact h0
        have := List.count_pos_iff.2 this
        omega
    exact ⟨hr, hfin listed vs a w h hph hr⟩
  | succ fuel ih =>
    intro listed vs a w h hph hpred hc
    refine ⟨fun hr => hfin listed vs a w h hph hr, fun i hi => ?_⟩
    obtain ⟨p, hp, hS⟩ := hph
    obtain ⟨h0, o, ho, hpre⟩ := mem_ready.1 hi
    have hio : i < ops.size := (Array.getElem?_eq_some_iff.1 ho).1
    have hlt : i < listed.size := by rw [h.lsize]; exact hio
    obtain ⟨d, J, x, hdi', hJi, hxi, hob⟩ := stepsObC_get ops.toList dd Js xs hsteps i o (by simpa using ho)
    obtain ⟨d', hd', hl1, hl2, _⟩ := depsOk_get ops.toList dd 0 hdep i o (by simpa using ho)
    rw [hdi'] at hd'
    obtain rfl := Option.some.inj hd'
    have hdl : ∀ j ∈ d, listed.getD j false = true := fun j hj => by
      obtain ⟨e, he, hb, rfl⟩ := hl2 j hj
      exact hpre e he hb
    have hag := h.agree hdi hin hl1 hdl
    have hdsi : ds[i]? = some o.dst := by rw [← hds]; simp [ho]
    have hdep' : DepJ Js vs w d := depJ_of d fun j hj => by
      cases hj' : Js[j]? with
      | none => simp [List.getD, hj']
      | some J' =>
        have := h.js j J' (hdl j hj) hj'
        simpa [List.getD, hj'] using this
    have hcount : (listed.setIfInBounds i true).toList.count false + 1 = listed.toList.count false := by
      rw [Array.toList_setIfInBounds]
      refine count_set _ _ ?_
      simp [hlt] at h0 ⊢
      exact h0
    have hi0 : listed.getD i false = false := by
      simp [hlt] at h0 ⊢
      exact h0
    have hpx := partsOk_get xs 0 hpt i x hxi
    rw [Nat.zero_add] at hpx
    -- what an edge says of what has come up
    have hedge : ∀ e, edge ops i e = true → listed.getD e false = true := fun e he => by
      obtain ⟨o', ho', e', he', hb, rfl⟩ := edge_spec he
      rw [ho] at ho'
      rw [← Option.some.inj ho'] at he'
      exact hpre e' he' hb
    have hpred' : ∀ e j, (listed.setIfInBounds i true).getD e false = true → edge ops e j = true → (listed.setIfInBounds i true).getD j false = true := by
      intro e j he hej
      rw [getD_set hlt] at he ⊢
      split
      · rfl
      · by_cases hie : i = e
        · subst hie
          exact hedge j hej
        · rw [if_neg hie] at he
          exact hpred e j he hej
    have next : ∀ G : Value → World → Prop, (∀ v w', G v w' → F.R' w w' ∧ J v w' ∧ ∃ p', Phase ops E (listed.setIfInBounds i true) p' ∧ F.S p' w') → ∀ v w', G v w' → wpAny P .any ops Q fuel (listed.setIfInBounds i true) (a.put o.dst v) w' := fun G hG v w' hv =>
      have ⟨hR, hJ, hph'⟩ := hG v w' hv
      ih _ _ _ _ (h.step hF.tr hst hdi hin hio hdsi h0 hR (fun J' hJ' => by rw [hJi] at hJ'; rw [← Option.some.inj hJ']; exact hJ)) hph' hpred' (by omega)
    have fin : ∀ G : Value → World → Prop, (∀ v w', G v w' → F.R' w w' ∧ J v w' ∧ ∃ p', Phase ops E (listed.setIfInBounds i true) p' ∧ F.S p' w') →
        (if Region.wanted o (yielded ops (fillD ds 0 vs a0).tmps) = true then o.wp P (fillD ds 0 vs a0) w (AtK (fillD ds 0 vs a0) o.dst G) NoExit else AtK (fillD ds 0 vs a0) o.dst G ((fillD ds 0 vs a0).put o.dst undef) w) →
        wpOp P ops Q i (wpAny P .any ops Q fuel (listed.setIfInBounds i true)) a w := by
      intro G hG hob'
      unfold wpOp
      simp only [ho]
      have hin' : ∀ t, o.dst = some t → t < (fillD ds 0 vs a0).tmps.size := fun t ht => by
        rw [fillD_size]
        exact hin i t (by rw [hdsi, ht])
      rw [← hag.wanted] at hob'
      split
      · rename_i hw
        rw [if_pos hw] at hob'
        left
        unfold Oper.wp at hob' ⊢
        rw [← hag.exec (Region.noSelect_spec hsel i o · · ho)] at hob'
        have := upon_move (Q := Q) (a := a) hin' _ hob'
        refine Oper.wp_mono (P := P) (o := o) (a := a) (w := w) (Q := Q) ?_ this
        rintro a'' w'' ⟨v, rfl, hv⟩
        exact next G hG v w'' hv
      · rename_i hw
        rw [if_neg hw] at hob'
        obtain ⟨v, hv, hg⟩ := hob'
        rcases put_inj hin' hv with hn | rfl
        · have hx := next G hG v w hg
          rw [hn] at hx ⊢
          exact hx
        · exact next G hG _ w hg
    cases x with
    | turns k =>
      simp only [partOk, beq_iff_eq] at hpx
      have hkp : k = p := by
        rcases Nat.lt_trichotomy k p with hlt' | heq | hgt
        · have := hp.done k i hlt' hpx
          rw [hi0] at this
          cases this
        · exact heq
        · have hk1 : k - 1 < E.length := by have := (List.getElem?_eq_some_iff.1 hpx).1; omega
          have he := hch1 (k - 1) E[k - 1] i (by simp [hk1]) (by rw [show k - 1 + 1 = k from by omega]; exact hpx)
          have h1 := hedge _ he
          rw [hp.left (k - 1) E[k - 1] (by omega) (by simp [hk1])] at h1
          cases h1
      subst hkp
      refine fin (fun v w' => F.R' w w' ∧ F.S (k + 1) w' ∧ J v w') (fun v w' ⟨h1, h2, h3⟩ => ⟨h1, h3, k + 1, ⟨?_, ?_, ?_⟩, h2⟩) (hob vs w _ hdep' hS h.r (fun v w' h1 h2 h3 => ⟨v, rfl, h1, h2, h3⟩))
      · exact (List.getElem?_eq_some_iff.1 hpx).1
      · intro k' e hk' he
        rw [getD_set hlt]
        split
        · rfl
        · rename_i hne
          refine hp.done k' e ?_ he
          rcases Nat.lt_or_ge k' k with h' | h'
          · exact h'
          · have : k' = k := by omega
            subst this
            rw [hpx] at he
            exact absurd (Option.some.inj he) hne
      · intro k' e hk' he
        rw [getD_set hlt]
        split
        · rename_i heq
          subst heq
          have h1 : k < E.length := (List.getElem?_eq_some_iff.1 hpx).1
          have h2 : k' < E.length := (List.getElem?_eq_some_iff.1 he).1
          have := (List.getElem?_inj h1 hEn).1 (hpx.trans he.symm)
          omega
        · exact hp.left k' e (by omega) he
    | light lo hi' =>
      simp only [partOk, Bool.and_eq_true, Bool.or_eq_true, beq_iff_eq, Bool.not_eq_true', List.contains_eq_mem, decide_eq_false_iff_not] at hpx
      obtain ⟨⟨hni, hlo⟩, hhi⟩ := hpx
      have hlp : lo ≤ p := by
        rcases hlo with h1 | h1
        · omega
        · cases he : E[lo - 1]? with
          | none => rw [he] at h1; cases h1
          | some e =>
            rw [he] at h1
            have h2 := hedge e h1
            rcases Nat.lt_or_ge (lo - 1) p with h' | h'
            · omega
            · rw [hp.left (lo - 1) e h' he] at h2
              cases h2
      have hph' : p ≤ hi' := by
        cases he : E[hi']? with
        | none =>
          rw [he] at hhi
          have h1 := of_decide_eq_true hhi
          have := hp.le
          omega
        | some e =>
          rw [he] at hhi
          rcases Nat.lt_or_ge hi' p with h' | h'
          · -- the turn has come up, so what it waits for has
            have h2 := hp.done hi' e h' he
            have h3 := hpred e i h2 hhi
            rw [hi0] at h3
            cases h3
          · exact h'
      refine fin (fun v w' => F.R w w' ∧ J v w') (fun v w' ⟨h1, h3⟩ => ⟨hF.sub _ _ h1, h3, p, ⟨hp.le, ?_, ?_⟩, hF.st _ _ _ h1 hS⟩) (hob p vs w _ hdep' hlp hph' hS h.r (fun v w' h1 h3 => ⟨v, rfl, h1, h3⟩))
      · intro k' e hk' he
        rw [getD_set hlt]
        split
        · rfl
        · exact hp.done k' e hk' he
      · intro k' e hk' he
        rw [getD_set hlt]
        split
        · rename_i heq
          subst heq
          exact absurd (List.mem_of_getElem? he) hni
        · exact hp.left k' e hk' he
end
/-- A region that draws, with turns. -/
theorem region_chain {P : Program} {Q : Exit → Act → World → Prop} {id : Nat} {os : List Oper} {a0 : Act} {w : World} (F : Frm) (hF : F.Ok) (E : List Nat) (xs : List Part)
    (n : Nat) (ds : List (Option Tmp)) (dd : List (List Nat)) (Js : List (Value → World → Prop)) (hm : P.follows .mixedOrders = true) (hok : linOk os.toArray ds dd = true)
    (hE : (decide E.Nodup && chainOk os.toArray E && partsOk os.toArray E 0 xs) = true) (hn : a0.tmps.size = n) (hin : inB ds n = true)
    (hJl : Js.length = os.length) (A : (Nat → Value) → Act) (hA : ∀ vs, fillD ds 0 vs a0 = A vs) (hst : AllStable F.R' Js) (h0 : F.S 0 w.drew) (hsteps : StepsObC P os.toArray Js F A w.drew os dd Js xs)
    (hend : ∀ vs w', AllJ vs w' 0 Js → F.S E.length w' → F.R' w.drew w' → Q .normal (A vs) w') : (Code.region id os.toArray true).wp P Q a0 w := by
  obtain rfl : (fun vs => fillD ds 0 vs a0) = A := funext hA
  subst hn
  simp only [Bool.and_eq_true, decide_eq_true_eq] at hE
  refine wp_region_any hm ?_
  refine Way.anyC hF hst hok (inB_get hin) (by simpa using hsteps) hE.1.1 hE.1.2 hE.2 (by simpa using hJl) hend _ _ (fun _ => undef) _ _ ⟨hF.rf _, rfl, rfl, by simp, fun _ _ => rfl, fun i t h => ?_, fun i J h => ?_⟩ ⟨0, ⟨Nat.zero_le _, fun k e h => by omega, fun k e _ _ => ?_⟩, h0⟩ (fun e i h => ?_) ?_
  · simp [Array.getElem?_replicate] at h
    split at h <;> simp at h
  · simp [Array.getElem?_replicate] at h
    split at h <;> simp at h
  · simp [Array.getElem?_replicate]
    split <;> simp
  · simp [Array.getElem?_replicate] at h
    split at h <;> simp at h
  · simp
def StepObB (P : Program) (ops : Array Oper) (Js : List (Value → World → Prop)) (A : (Nat → Value) → Act) (w0 : World) (o : Oper) (d : List Nat) (J : Value → World → Prop) : Prop :=
  ∀ (vs : Nat → Value) (w : World) (K : Act → World → Prop), DepJ Js vs w d → BelowR w0 w →
    Shut (∀ v w', BelowR w w' → J v w' → K ((A vs).put o.dst v) w') →
    if Region.wanted o (yielded ops (A vs).tmps) = true then o.wp P (A vs) w K NoExit else K ((A vs).put o.dst undef) w
def StepsObB (P : Program) (ops : Array Oper) (Js : List (Value → World → Prop)) (A : (Nat → Value) → Act) (w0 : World) : List Oper → List (List Nat) → List (Value → World → Prop) → Prop
  | [], _, _ => True
  | o :: os, d :: dd, J :: Jr => StepObB P ops Js A w0 o d J ∧ StepsObB P ops Js A w0 os dd Jr
  | _ :: _, _, _ => False
/-- The usual frame: a light operation turns nothing that was there; a turn nothing from block B on. -/
def AboveR (B : Nat) (w w' : World) : Prop := w.heap.size ≤ w'.heap.size ∧ ∀ k, B ≤ k → k < w.heap.size → w'.heap[k]? = w.heap[k]?
def frm (B : Nat) (S : Nat → World → Prop) : Frm := ⟨BelowR, AboveR B, S⟩
theorem frm_ok {B : Nat} {S : Nat → World → Prop} (hS : ∀ p x y, BelowR x y → S p x → S p y) : (frm B S).Ok :=
  ⟨fun _ => ⟨Nat.le_refl _, fun _ _ _ => rfl⟩, fun _ _ _ h k => ⟨Nat.le_trans h.1 k.1, fun i hi hl => (k.2 i hi (Nat.lt_of_lt_of_le hl h.1)).trans (h.2 i hi hl)⟩, fun _ _ h => ⟨h.size, fun k _ hl => h.block k hl⟩, hS⟩
theorem AboveR.refl (B : Nat) (w : World) : AboveR B w w := ⟨Nat.le_refl _, fun _ _ _ => rfl⟩
theorem AboveR.only {B q : Nat} {w w' : World} (h : Mem.Only (some q) w w') (hq : q < B) : AboveR B w w' := ⟨h.size, fun k hk hl => h.block k hl fun e => by injection e with e; omega⟩
theorem AboveR.set {B b : Nat} (w : World) (j : Nat) (v : Value) (hq : b < B) : AboveR B w (w.setCell ⟨b, j, none⟩ v) := AboveR.only (Mem.Only.setCell w b j v) hq
#print axioms region_chain
end Go.Reg

