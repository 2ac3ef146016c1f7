/- A region that draws: each operation shown once, whatever the order; what is made is apart from what else is made; some operations turn memory, one behind the other; a tail waits for all. No condition on a program but that it follows mixed orders. -/
import Derived.Test.YtogliinfdfkobaaRegT
set_option linter.unusedSimpArgs false
set_option linter.unusedVariables false
namespace Go.Reg
open Go.RowKit
/-- The blocks that a value names. -/
def vb0 : Value → List Nat
  | .pointer (some a) => [a.block]
  | .slice (some a) _ _ => [a.block]
  | _ => []
def vb1 : Value → List Nat
  | .agg xs => xs.toList.flatMap vb0
  | .tuple xs => xs.toList.flatMap vb0
  | v => vb0 v
def vb : Value → List Nat
  | .agg xs => xs.toList.flatMap vb1
  | .tuple xs => xs.toList.flatMap vb1
  | v => vb0 v
/-- What an operation made is new. -/
def Fresh (b : Bool) (w : World) (v : Value) (w' : World) : Prop := b = true → ∀ k ∈ vb v, w.heap.size ≤ k ∧ k < w'.heap.size
theorem Fresh.no {w w' : World} {v : Value} : Fresh false w v w' := fun h => by cases h
def StepObN (P : Program) (ops : Array Oper) (Js : List (Value → World → Prop)) (F : Frm) (A : (Nat → Value) → Act) (w0 : World) (o : Oper) (d : List Nat) (J : Value → World → Prop) (b : Bool) : Part → Prop
  | .turns k => ∀ (vs : Nat → Value) (w : World) (K : Act → World → Prop), DepJ Js vs w d → F.S k w → F.R' w0 w →
    Shut (∀ v w', F.R' w w' → F.S (k + 1) w' → J v w' → Fresh b w v w' → K ((A vs).put o.dst v) w') →
    if Region.wanted o (yielded ops (A vs).tmps) = true then o.wp P (A vs) w K NoExit else K ((A vs).put o.dst undef) w
  | .light lo hi => ∀ (p : Nat) (vs : Nat → Value) (w : World) (K : Act → World → Prop), DepJ Js vs w d → lo ≤ p → p ≤ hi → F.S p w → F.R' w0 w →
    Shut (∀ v w', F.R w w' → J v w' → Fresh b w v w' → K ((A vs).put o.dst v) w') →
    if Region.wanted o (yielded ops (A vs).tmps) = true then o.wp P (A vs) w K NoExit else K ((A vs).put o.dst undef) w
def StepsObN (P : Program) (ops : Array Oper) (Js : List (Value → World → Prop)) (F : Frm) (A : (Nat → Value) → Act) (w0 : World) : List Oper → List (List Nat) → List (Value → World → Prop) → List Bool → List Part → Prop
  | [], _, _, _, _ => True
  | o :: os, d :: dd, J :: Jr, b :: bs, x :: xs => StepObN P ops Js F A w0 o d J b x ∧ StepsObN P ops Js F A w0 os dd Jr bs xs
  | _ :: _, _, _, _, _ => False
theorem stepsObN_get {P : Program} {ops : Array Oper} {Js : List (Value → World → Prop)} {F : Frm} {A : (Nat → Value) → Act} {w0 : World} :
    ∀ (os : List Oper) (dd : List (List Nat)) (Jr : List (Value → World → Prop)) (bs : List Bool) (xs : List Part), StepsObN P ops Js F A w0 os dd Jr bs xs → ∀ (i : Nat) (o : Oper), os[i]? = some o →
      ∃ d J b x, dd[i]? = some d ∧ Jr[i]? = some J ∧ bs[i]? = some b ∧ xs[i]? = some x ∧ StepObN P ops Js F A w0 o d J b x
  | [], _, _, _, _, _, i, o, h => by simp at h
  | o :: os, d :: dd, J :: Jr, b :: bs, x :: xs, h, 0, o', ho => by
    simp at ho
    subst ho
    exact ⟨d, J, b, x, rfl, rfl, rfl, rfl, h.1⟩
  | o :: os, d :: dd, J :: Jr, b :: bs, x :: xs, h, i + 1, o', ho => by
    obtain ⟨d', J', b', x', h1, h2, h3, h4, h5⟩ := stepsObN_get os dd Jr bs xs h.2 i o' (by simpa using ho)
    exact ⟨d', J', b', x', by simpa using h1, by simpa using h2, by simpa using h3, by simpa using h4, h5⟩
  | _ :: _, [], _, _, _, h, _, _, _ => (h : False).elim
  | _ :: _, _ :: _, [], _, _, h, _, _, _ => (h : False).elim
  | _ :: _, _ :: _, _ :: _, [], _, h, _, _, _ => (h : False).elim
  | _ :: _, _ :: _, _ :: _, _ :: _, [], h, _, _, _ => (h : False).elim
/-- What has been made so far lies below the heap's end, and apart. -/
structure Dis (Fr : List Bool) (listed : Array Bool) (vs : Nat → Value) (w : World) : Prop where
  low : ∀ i, listed.getD i false = true → Fr[i]? = some true → ∀ k ∈ vb (vs i), k < w.heap.size
  dis : ∀ i j, listed.getD i false = true → listed.getD j false = true → Fr[i]? = some true → Fr[j]? = some true → i ≠ j → ∀ k, k ∈ vb (vs i) → k ∈ vb (vs j) → False
theorem Dis.step {Fr : List Bool} {listed : Array Bool} {vs : Nat → Value} {w w' : World} (h : Dis Fr listed vs w) {i : Nat} {b : Bool} {v : Value} (hi : i < listed.size) (hb : Fr[i]? = some b) (hs : w.heap.size ≤ w'.heap.size) (hf : Fresh b w v w') :
    Dis Fr (listed.setIfInBounds i true) (fun j => if j = i then v else vs j) w' := by
  refine ⟨fun j hj hF k hk => ?_, fun j j' hj hj' hF hF' hne k hk hk' => ?_⟩
  · by_cases e : j = i
    · subst e
      rw [hb] at hF
      simp only [if_pos] at hk
      exact (hf (Option.some.inj hF) k hk).2
    · rw [getD_set hi, if_neg (Ne.symm e)] at hj
      simp only [if_neg e] at hk
      exact Nat.lt_of_lt_of_le (h.low j hj hF k hk) hs
  · rw [getD_set hi] at hj hj'
    by_cases e : j = i
    · have e' : j' ≠ i := fun e' => hne (e.trans e'.symm)
      rw [if_neg (Ne.symm e')] at hj'
      simp only [if_pos e] at hk
      simp only [if_neg e'] at hk'
      subst e
      rw [hb] at hF
      have := (hf (Option.some.inj hF) k hk).1
      have := h.low j' hj' hF' k hk'
      omega
    · rw [if_neg (Ne.symm e)] at hj
      simp only [if_neg e] at hk
      by_cases e' : j' = i
      · simp only [if_pos e'] at hk'
        subst e'
        rw [hb] at hF'
        have := (hf (Option.some.inj hF') k hk').1
        have := h.low j hj hF k hk
        omega
      · rw [if_neg (Ne.symm e')] at hj'
        simp only [if_neg e'] at hk'
        exact h.dis j j' hj hj' hF hF' hne k hk hk'
def DisAll (Fr : List Bool) (vs : Nat → Value) : Prop := ∀ i j, Fr[i]? = some true → Fr[j]? = some true → i ≠ j → ∀ k, k ∈ vb (vs i) → k ∈ vb (vs j) → False
section
variable {P : Program} {ops : Array Oper} {Q : Exit → Act → World → Prop}
theorem Way.anyN {ds : List (Option Tmp)} {dd : List (List Nat)} {Js : List (Value → World → Prop)} {F : Frm} {a0 : Act} {w0 : World} {E : List Nat} {xs : List Part} {N : Nat} {Fr : List Bool}
    (hF : F.Ok) (hsz : ∀ x y, F.R' x y → x.heap.size ≤ y.heap.size) (hst : AllStable F.R' Js) (hok : linT ops N ds dd = true) (hin : ∀ (i : Nat) (t : Tmp), ds[i]? = some (some t) → t < a0.tmps.size)
    (hN : N ≤ ops.size) (hwit : N < ops.size → ∀ i, i < N → ∃ s, i < s ∧ s ≤ N ∧ edge ops s i = true) (htail : ∀ j, N < j → j < ops.size → edge ops j (j - 1) = true) (hEN : ∀ e ∈ E, e < N)
    (hsteps : StepsObN P ops Js F (fun vs => fillD ds 0 vs a0) w0 (ops.toList.take N) dd Js Fr xs) (hEn : E.Nodup) (hch : chainOk ops E = true) (hpt : partsOk ops E 0 xs = true) (hJl : Js.length = N)
    (hFr : Fr.length = N) (hend : ∀ vs w', AllJ vs w' 0 Js → DisAll Fr vs → F.S E.length w' → F.R' w0 w' → wpList P ops Q (ops.toList.drop N) (fillD ds 0 vs a0) w') :
    ∀ (fuel : Nat) (listed : Array Bool) (vs : Nat → Value) (a : Act) (w : World), Way ops ds Js F.R' a0 w0 listed vs a w → Dis Fr listed vs w → (∃ p, Phase ops E listed p ∧ F.S p w) → (∀ e i, listed.getD e false = true → edge ops e i = true → listed.getD i false = true) → (∀ j, N ≤ j → listed.getD j false = false) → listed.toList.count false ≤ fuel → wpAny P .any ops Q fuel listed a w := by
  simp only [linT, Bool.and_eq_true, beq_iff_eq] at hok
  obtain ⟨⟨⟨⟨hds, hdi⟩, hsel⟩, hdep⟩, hbk⟩ := hok
  have hlen : ds.length = N := by rw [← hds]; simp; omega
  have hback : ∀ (i : Nat) (o : Oper), ops[i]? = some o → ∀ e ∈ o.after, Region.binds .any e = true → e.on < i := by
    intro i o ho e he hb
    simpa using backOk_get ops.toList 0 hbk i o (by simpa using ho) e he hb
  have hfin : ∀ (listed : Array Bool) (vs : Nat → Value) (a : Act) (w : World), Way ops ds Js F.R' a0 w0 listed vs a w → Dis Fr listed vs w → (∃ p, Phase ops E listed p ∧ F.S p w) → (∀ j, N ≤ j → listed.getD j false = false) → Region.ready .any ops listed = [] → Q .normal a w := by
    intro listed vs a w h hD ⟨p, hp, hS⟩ hnl hr
    have hall := all_listed hback h.lsize hr
    have hNs : N = ops.size := by
      rcases Nat.lt_or_ge N ops.size with hlt | hge
      · have h1 := hnl N (Nat.le_refl _)
        rw [hall N hlt] at h1
        cases h1
      · omega
    have hpe : p = E.length := by
      rcases Nat.lt_or_ge p E.length with hlt | hge
      · have h1 := hp.left p E[p] (Nat.le_refl _) (by simp [hlt])
        rw [hall _ (by have := hEN _ (List.getElem_mem hlt); omega)] at h1
        cases h1
      · exact Nat.le_antisymm hp.le hge
    subst hpe
    have hd : ops.toList.drop N = [] := List.drop_eq_nil_of_le (by simp; omega)
    have hL := hend vs w (allJ_of Js 0 fun k J hk => by
      have hlt : k < Js.length := (List.getElem?_eq_some_iff.1 hk).1
      rw [Nat.zero_add]
      exact h.js k J (hall k (by omega)) hk) (fun i j hi hj => hD.dis i j (hall i (by have := (List.getElem?_eq_some_iff.1 hi).1; omega)) (hall j (by have := (List.getElem?_eq_some_iff.1 hj).1; omega)) hi hj) hS h.r
    rw [hd] at hL
    rw [h.full hdi hin (by omega) hall]
    exact hL
  obtain ⟨hch1, hch2⟩ := chain_get E hch
  intro fuel
  induction fuel with
  | zero =>
    intro listed vs a w h hD hph hpred hnl hc
    have hr : Region.ready .any ops listed = [] := by
      cases hr : Region.ready .any ops listed with
      | nil => rfl
      | cons i r =>
        obtain ⟨h0, o, ho, _⟩ := mem_ready.1 (show i ∈ Region.ready .any ops listed by rw [hr]; simp)
        have hlt : i < listed.size := by rw [h.lsize]; exact (Array.getElem?_eq_some_iff.1 ho).1
        have : false ∈ listed.toList := by
          rw [List.mem_iff_getElem?]
          refine ⟨i, ?_⟩
          simp [hlt] at h0 ⊢
          exact h0
        have := List.count_pos_iff.2 this
        omega
    exact ⟨hr, hfin listed vs a w h hD hph hnl hr⟩
  | succ fuel ih =>
    intro listed vs a w h hD hph hpred hnl hc
    refine ⟨fun hr => hfin listed vs a w h hD hph hnl hr, fun i hi => ?_⟩
    obtain ⟨p, hp, hS⟩ := hph
    obtain ⟨h0, o, ho, hpre⟩ := mem_ready.1 hi
    have hio : i < ops.size := (Array.getElem?_eq_some_iff.1 ho).1
    have hlt : i < listed.size := by rw [h.lsize]; exact hio
    -- what an edge says of what has come up
    have hedge : ∀ e, edge ops i e = true → listed.getD e false = true := fun e he => by
      obtain ⟨o', ho', e', he', hb, rfl⟩ := edge_spec he
      rw [ho] at ho'
      rw [← Option.some.inj ho'] at he'
      exact hpre e' he' hb
    by_cases hiN : i = N
    · subst hiN
      have hall : ∀ d j, j + d = i → j < i → listed.getD j false = true := by
        intro d
        induction d using Nat.strongRecOn with
        | _ d ihd =>
          intro j hjd hj
          obtain ⟨s, h1, h2, h3⟩ := hwit hio j hj
          rcases Nat.lt_or_ge s i with h | h
          · exact hpred s j (ihd (i - s) (by omega) s (by omega) h) h3
          · have : s = i := by omega
            subst this
            exact hedge j h3
      have hall' : ∀ j, j < i → listed.getD j false = true := fun j hj => hall (i - j) j (by omega) hj
      have hpe : p = E.length := by
        rcases Nat.lt_or_ge p E.length with hlt' | hge
        · have h1 := hp.left p E[p] (Nat.le_refl _) (by simp [hlt'])
          rw [hall' _ (hEN _ (List.getElem_mem hlt'))] at h1
          cases h1
        · exact Nat.le_antisymm hp.le hge
      subst hpe
      have hfull : a = fillD ds 0 vs a0 := by
        have h1 : a.tmps = (fillD ds 0 vs a0).tmps := by
          apply Array.ext_getElem?
          intro t
          by_cases hm : some t ∈ ds
          · obtain ⟨j, hj⟩ := List.mem_iff_getElem?.1 hm
            have hjl : j < ds.length := (List.getElem?_eq_some_iff.1 hj).1
            rw [h.inn j t (hall' j (by omega)) hj, fillD_in ds 0 vs a0 t j hdi hj (hin j t hj)]
            simp
          · rw [fillD_out ds 0 vs a0 t hm]
            exact h.out t fun j _ hj => hm (List.mem_of_getElem? hj)
        have h2 : a.defers = (fillD ds 0 vs a0).defers := by rw [fillD_defers]; exact h.defers
        cases a
        cases hf : fillD ds 0 vs a0
        rw [hf] at h1 h2
        simp only at h1 h2
        rw [h1, h2]
      have hjs : AllJ vs w 0 Js := allJ_of Js 0 fun k J hk => by
        have hlt2 : k < Js.length := (List.getElem?_eq_some_iff.1 hk).1
        rw [Nat.zero_add]
        exact h.js k J (hall' k (by omega)) hk
      have hL := hend vs w hjs (fun i' j hi' hj => hD.dis i' j (hall' i' (by have := (List.getElem?_eq_some_iff.1 hi').1; omega)) (hall' j (by have := (List.getElem?_eq_some_iff.1 hj).1; omega)) hi' hj) hS h.r
      rw [← hfull] at hL
      have hd : ops.toList.drop i = o :: ops.toList.drop (i + 1) := by
        rw [List.drop_eq_getElem_cons (by simpa using hio)]
        have : ops[i]? = some ops[i] := by simp [hio]
        rw [ho] at this
        rw [Option.some.inj this]
        simp
      rw [hd] at hL
      have hls : listed.size = ops.size := h.lsize
      have hnext : ∀ a' w', wpList P ops Q (ops.toList.drop (i + 1)) a' w' → wpAny P .any ops Q fuel (listed.setIfInBounds i true) a' w' := fun a' w' h' => by
        refine tailAny (N := i) hback htail fuel (i + 1) _ a' w' (by omega) (by simpa using hls) (fun j hj hjs => ?_) (fun j hj => ?_) ?_ h'
        · rw [getD_set hlt]
          split
          · rfl
          · exact hall' j (by omega)
        · rw [getD_set hlt, if_neg (by omega)]
          exact hnl j (by omega)
        · have hcs : ∀ (l : List Bool) (m : Nat), m ≤ l.length → (∀ j, m ≤ j → j < l.length → l[j]? = some false) → l.length - m ≤ l.count false := by
            intro l
            induction l with
            | nil => intro m _ _; simp
            | cons b r ihr =>
              intro m hm hf
              cases m with
              | zero =>
                have hb : b = false := by simpa using hf 0 (Nat.le_refl _) (by simp)
                subst hb
                have := ihr 0 (Nat.zero_le _) (fun j _ hj => by simpa using hf (j + 1) (Nat.zero_le _) (by simpa using hj))
                simp
                omega
              | succ m =>
                have := ihr m (by simpa using hm) (fun j hj hjl => by simpa using hf (j + 1) (by omega) (by simpa using hjl))
                have hc := List.count_cons (a := false) (b := b) (l := r)
                simp only [List.length_cons]
                omega
          have := hcs listed.toList i (by simp; omega) (fun j hj hjl => by
            have h1 := hnl j hj
            have hjs : j < listed.size := by simpa using hjl
            simp [hjs] at h1 ⊢
            exact h1)
          simp only [Array.length_toList] at this
          omega
      unfold wpOp
      simp only [ho]
      unfold wpList at hL
      split
      · rename_i hwd
        rw [if_pos hwd] at hL
        exact hL.imp (Oper.wp_mono hnext) id
      · rename_i hwd
        rw [if_neg hwd] at hL
        exact hnext _ _ hL
    have hiN' : i < N := by
      rcases Nat.lt_or_ge i N with h' | h'
      · exact h'
      · have h3 := hedge _ (htail i (by omega) hio)
        rw [hnl (i - 1) (by omega)] at h3
        cases h3
    obtain ⟨d, J, bb, x, hdi', hJi, hbi, hxi, hob⟩ := stepsObN_get (ops.toList.take N) dd Js Fr xs hsteps i o (by rw [List.getElem?_take, if_pos hiN']; simpa using ho)
    obtain ⟨d', hd', hl1, hl2, _⟩ := depsOk_get (ops.toList.take N) dd 0 hdep i o (by rw [List.getElem?_take, if_pos hiN']; simpa using ho)
    rw [hdi'] at hd'
    obtain rfl := Option.some.inj hd'
    have hdl : ∀ j ∈ d, listed.getD j false = true := fun j hj => by
      obtain ⟨e, he, hb, rfl⟩ := hl2 j hj
      exact hpre e he hb
    have hag := h.agree hdi hin hl1 hdl
    have hdsi : ds[i]? = some o.dst := by rw [← hds]; simp [ho, hiN']
    have hdep' : DepJ Js vs w d := depJ_of d fun j hj => by
      cases hj' : Js[j]? with
      | none => simp [List.getD, hj']
      | some J' =>
        have := h.js j J' (hdl j hj) hj'
        simpa [List.getD, hj'] using this
    have hcount : (listed.setIfInBounds i true).toList.count false + 1 = listed.toList.count false := by
      rw [Array.toList_setIfInBounds]
      refine count_set _ _ ?_
      simp [hlt] at h0 ⊢
      exact h0
    have hi0 : listed.getD i false = false := by
      simp [hlt] at h0 ⊢
      exact h0
    have hpx := partsOk_get xs 0 hpt i x hxi
    rw [Nat.zero_add] at hpx
    have hpred' : ∀ e j, (listed.setIfInBounds i true).getD e false = true → edge ops e j = true → (listed.setIfInBounds i true).getD j false = true := by
      intro e j he hej
      rw [getD_set hlt] at he ⊢
      split
      · rfl
      · by_cases hie : i = e
        · subst hie
          exact hedge j hej
        · rw [if_neg hie] at he
          exact hpred e j he hej
    have next : ∀ G : Value → World → Prop, (∀ v w', G v w' → F.R' w w' ∧ J v w' ∧ Fresh bb w v w' ∧ ∃ p', Phase ops E (listed.setIfInBounds i true) p' ∧ F.S p' w') → ∀ v w', G v w' → wpAny P .any ops Q fuel (listed.setIfInBounds i true) (a.put o.dst v) w' := fun G hG v w' hv =>
      have ⟨hR, hJ, hfr, hph'⟩ := hG v w' hv
      ih _ _ _ _ (h.step hF.tr hst hdi hin hio hdsi h0 hR (fun J' hJ' => by rw [hJi] at hJ'; rw [← Option.some.inj hJ']; exact hJ)) (hD.step hlt hbi (hsz _ _ hR) hfr) hph' hpred' (fun j hj => by rw [getD_set hlt, if_neg (by omega)]; exact hnl j hj) (by omega)
    have fin : ∀ G : Value → World → Prop, (∀ v w', G v w' → F.R' w w' ∧ J v w' ∧ Fresh bb w v w' ∧ ∃ p', Phase ops E (listed.setIfInBounds i true) p' ∧ F.S p' w') →
        (if Region.wanted o (yielded ops (fillD ds 0 vs a0).tmps) = true then o.wp P (fillD ds 0 vs a0) w (AtK (fillD ds 0 vs a0) o.dst G) NoExit else AtK (fillD ds 0 vs a0) o.dst G ((fillD ds 0 vs a0).put o.dst undef) w) →
        wpOp P ops Q i (wpAny P .any ops Q fuel (listed.setIfInBounds i true)) a w := by
      intro G hG hob'
      unfold wpOp
      simp only [ho]
      have hin' : ∀ t, o.dst = some t → t < (fillD ds 0 vs a0).tmps.size := fun t ht => by
        rw [fillD_size]
        exact hin i t (by rw [hdsi, ht])
      rw [← hag.wanted] at hob'
      split
      · rename_i hw
        rw [if_pos hw] at hob'
        left
        unfold Oper.wp at hob' ⊢
        rw [← hag.exec (Region.noSelect_spec hsel i o · · ho)] at hob'
        have := upon_move (Q := Q) (a := a) hin' _ hob'
        refine Oper.wp_mono (P := P) (o := o) (a := a) (w := w) (Q := Q) ?_ this
        rintro a'' w'' ⟨v, rfl, hv⟩
        exact next G hG v w'' hv
      · rename_i hw
        rw [if_neg hw] at hob'
        obtain ⟨v, hv, hg⟩ := hob'
        rcases put_inj hin' hv with hn | rfl
        · have hx := next G hG v w hg
          rw [hn] at hx ⊢
          exact hx
        · exact next G hG _ w hg
    cases x with
    | turns k =>
      simp only [partOk, beq_iff_eq] at hpx
      have hkp : k = p := by
        rcases Nat.lt_trichotomy k p with hlt' | heq | hgt
        · have := hp.done k i hlt' hpx
          rw [hi0] at this
          cases this
        · exact heq
        · have hk1 : k - 1 < E.length := by have := (List.getElem?_eq_some_iff.1 hpx).1; omega
          have he := hch1 (k - 1) E[k - 1] i (by simp [hk1]) (by rw [show k - 1 + 1 = k from by omega]; exact hpx)
          have h1 := hedge _ he
          rw [hp.left (k - 1) E[k - 1] (by omega) (by simp [hk1])] at h1
          cases h1
      subst hkp
      refine fin (fun v w' => F.R' w w' ∧ F.S (k + 1) w' ∧ J v w' ∧ Fresh bb w v w') (fun v w' ⟨h1, h2, h3, h4⟩ => ⟨h1, h3, h4, k + 1, ⟨?_, ?_, ?_⟩, h2⟩) (hob vs w _ hdep' hS h.r (fun v w' h1 h2 h3 h4 => ⟨v, rfl, h1, h2, h3, h4⟩))
      · exact (List.getElem?_eq_some_iff.1 hpx).1
      · intro k' e hk' he
        rw [getD_set hlt]
        split
        · rfl
        · rename_i hne
          refine hp.done k' e ?_ he
          rcases Nat.lt_or_ge k' k with h' | h'
          · exact h'
          · have : k' = k := by omega
            subst this
            rw [hpx] at he
            exact absurd (Option.some.inj he) hne
      · intro k' e hk' he
        rw [getD_set hlt]
        split
        · rename_i heq
          subst heq
          have h1 : k < E.length := (List.getElem?_eq_some_iff.1 hpx).1
          have h2 : k' < E.length := (List.getElem?_eq_some_iff.1 he).1
          have := (List.getElem?_inj h1 hEn).1 (hpx.trans he.symm)
          omega
        · exact hp.left k' e (by omega) he
    | light lo hi' =>
      simp only [partOk, Bool.and_eq_true, Bool.or_eq_true, beq_iff_eq, Bool.not_eq_true', List.contains_eq_mem, decide_eq_false_iff_not] at hpx
      obtain ⟨⟨hni, hlo⟩, hhi⟩ := hpx
      have hlp : lo ≤ p := by
        rcases hlo with h1 | h1
        · omega
        · cases he : E[lo - 1]? with
          | none => rw [he] at h1; cases h1
          | some e =>
            rw [he] at h1
            have h2 := hedge e h1
            rcases Nat.lt_or_ge (lo - 1) p with h' | h'
            · omega
            · rw [hp.left (lo - 1) e h' he] at h2
              cases h2
      have hph' : p ≤ hi' := by
        cases he : E[hi']? with
        | none =>
          rw [he] at hhi
          have h1 := of_decide_eq_true hhi
          have := hp.le
          omega
        | some e =>
          rw [he] at hhi
          rcases Nat.lt_or_ge hi' p with h' | h'
          · -- the turn has come up, so what it waits for has
            have h2 := hp.done hi' e h' he
            have h3 := hpred e i h2 hhi
            rw [hi0] at h3
            cases h3
          · exact h'
      refine fin (fun v w' => F.R w w' ∧ J v w' ∧ Fresh bb w v w') (fun v w' ⟨h1, h3, h4⟩ => ⟨hF.sub _ _ h1, h3, h4, p, ⟨hp.le, ?_, ?_⟩, hF.st _ _ _ h1 hS⟩) (hob p vs w _ hdep' hlp hph' hS h.r (fun v w' h1 h3 h4 => ⟨v, rfl, h1, h3, h4⟩))
      · intro k' e hk' he
        rw [getD_set hlt]
        split
        · rfl
        · exact hp.done k' e hk' he
      · intro k' e hk' he
        rw [getD_set hlt]
        split
        · rename_i heq
          subst heq
          exact absurd (List.mem_of_getElem? he) hni
        · exact hp.left k' e hk' he
end
def tailOkN (ops : Array Oper) (N : Nat) (E : List Nat) (wit : List Nat) : Bool := decide (N ≤ ops.size) && (N == ops.size || witOk ops N 0 wit) && (List.range ops.size).all (fun j => decide (j ≤ N) || edge ops j (j - 1)) && E.all fun e => decide (e < N)
/-- The whole. -/
theorem region_n {P : Program} {Q : Exit → Act → World → Prop} {id : Nat} {os : List Oper} {a0 : Act} {w : World} (F : Frm) (hF : F.Ok) (hsz : ∀ x y, F.R' x y → x.heap.size ≤ y.heap.size) (E : List Nat) (xs : List Part) (Fr : List Bool)
    (N n : Nat) (wit : List Nat) (ds : List (Option Tmp)) (dd : List (List Nat)) (Js : List (Value → World → Prop)) (hm : P.follows .mixedOrders = true) (hok : linT os.toArray N ds dd = true)
    (hE : (decide E.Nodup && chainOk os.toArray E && partsOk os.toArray E 0 xs && tailOkN os.toArray N E wit && Fr.length == N) = true) (hn : a0.tmps.size = n) (hin : inB ds n = true)
    (hJl : Js.length = N) (A : (Nat → Value) → Act) (hA : ∀ vs, fillD ds 0 vs a0 = A vs) (hst : AllStable F.R' Js) (h0 : F.S 0 w.drew)
    (hsteps : StepsObN P os.toArray Js F A w.drew (os.take N) dd Js Fr xs)
    (hend : ∀ vs w', AllJ vs w' 0 Js → DisAll Fr vs → F.S E.length w' → F.R' w.drew w' → wpList P os.toArray Q (os.drop N) (A vs) w') : (Code.region id os.toArray true).wp P Q a0 w := by
  obtain rfl : (fun vs => fillD ds 0 vs a0) = A := funext hA
  subst hn
  simp only [Bool.and_eq_true, decide_eq_true_eq, tailOkN, List.all_eq_true, List.mem_range, Bool.or_eq_true, beq_iff_eq] at hE
  obtain ⟨⟨⟨⟨e1, e2⟩, e3⟩, ⟨⟨e4, e5⟩, e6⟩, e7⟩, e8⟩ := hE
  refine wp_region_any hm ?_
  refine Way.anyN hF hsz hst hok (inB_get hin) e4 (fun hlt i hi => witOk_get wit 0 (e5.resolve_left (by omega)) i (Nat.zero_le _) hi) (fun j hj hjs => (e6 j hjs).resolve_left (by omega)) e7 (by simpa using hsteps) e1 e2 e3 hJl e8 (by simpa using hend) _ _ (fun _ => undef) _ _ ⟨hF.rf _, rfl, rfl, by simp, fun _ _ => rfl, fun i t h => ?_, fun i J h => ?_⟩ ⟨fun i h => ?_, fun i j h => ?_⟩ ⟨0, ⟨Nat.zero_le _, fun k e h => by omega, fun k e _ _ => ?_⟩, h0⟩ (fun e i h => ?_) (fun j _ => ?_) ?_
  · simp [Array.getElem?_replicate] at h
    split at h <;> simp at h
  · simp [Array.getElem?_replicate] at h
    split at h <;> simp at h
  · simp [Array.getElem?_replicate] at h
    split at h <;> simp at h
  · simp [Array.getElem?_replicate] at h
    split at h <;> simp at h
  · simp [Array.getElem?_replicate]
    split <;> simp
  · simp [Array.getElem?_replicate] at h
    split at h <;> simp at h
  · simp [Array.getElem?_replicate]
    split <;> simp
  · simp
theorem frm_sz {B : Nat} {S : Nat → World → Prop} : ∀ x y, (frm B S).R' x y → x.heap.size ≤ y.heap.size := fun _ _ h => h.1
end Go.Reg

