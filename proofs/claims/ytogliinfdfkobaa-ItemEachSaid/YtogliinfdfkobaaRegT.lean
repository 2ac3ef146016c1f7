/- A region that draws and whose last operations wait for all the others, and each for the one ahead of it. No condition on a program but that it follows mixed orders. -/
import Derived.Test.YtogliinfdfkobaaRegL
import Derived.Tactics
set_option linter.unusedSimpArgs false
set_option linter.unusedVariables false
namespace Go.Reg
open Go.RowKit
theorem getD_ft {l : Array Bool} {j : Nat} (hj : j < l.size) : l.getD j true = l.getD j false := by simp [hj]
def backOk : Nat → List Oper → Bool
  | _, [] => true
  | i, o :: r => o.after.all (fun e => !Region.binds .any e || decide (e.on < i)) && backOk (i + 1) r
theorem backOk_get : ∀ (os : List Oper) (k : Nat), backOk k os = true → ∀ (i : Nat) (o : Oper), os[i]? = some o → ∀ e ∈ o.after, Region.binds .any e = true → e.on < k + i
  | [], _, _, i, o, ho => by simp at ho
  | o :: r, k, h, 0, o', ho => by
    simp at ho
    subst ho
    simp only [backOk, Bool.and_eq_true] at h
    intro e he hb
    have := (Array.all_eq_true_iff_forall_mem.1 h.1) e he
    simpa [hb] using this
  | o :: r, k, h, i + 1, o', ho => by
    simp only [backOk, Bool.and_eq_true] at h
    intro e he hb
    have := backOk_get r (k + 1) h.2 i o' (by simpa using ho) e he hb
    omega
def linT (ops : Array Oper) (N : Nat) (ds : List (Option Tmp)) (dd : List (List Nat)) : Bool :=
  ((ops.toList.take N).map (·.dst) == ds) && distinctD ds && Region.noSelect ops && depsOk ops ds 0 (ops.toList.take N) dd && backOk 0 ops.toList
/-- A tail whose operations wait each for the one ahead of it comes up in its order. -/
theorem tailAny {P : Program} {ops : Array Oper} {Q : Exit → Act → World → Prop} {N : Nat} (hback : ∀ (i : Nat) (o : Oper), ops[i]? = some o → ∀ e ∈ o.after, Region.binds .any e = true → e.on < i)
    (htail : ∀ j, N < j → j < ops.size → edge ops j (j - 1) = true) :
    ∀ (fuel k : Nat) (listed : Array Bool) (a : Act) (w : World), N < k → listed.size = ops.size → (∀ j, j < k → j < ops.size → listed.getD j false = true) → (∀ j, k ≤ j → listed.getD j false = false) → ops.size - k ≤ fuel →
      wpList P ops Q (ops.toList.drop k) a w → wpAny P .any ops Q fuel listed a w := by
  intro fuel
  induction fuel with
  | zero =>
    intro k listed a w hk hs h1 h2 hf hw
    have hr : Region.ready .any ops listed = [] := by
      cases hr : Region.ready .any ops listed with
      | nil => rfl
      | cons i r =>
        obtain ⟨h0, o, ho, _⟩ := mem_ready.1 (show i ∈ Region.ready .any ops listed by rw [hr]; simp)
        have hi : i < ops.size := (Array.getElem?_eq_some_iff.1 ho).1
        rw [getD_ft (by omega), h1 i (by omega) hi] at h0
        cases h0
    refine ⟨hr, ?_⟩
    have : ops.toList.drop k = [] := List.drop_eq_nil_of_le (by simp; omega)
    rw [this] at hw
    exact hw
  | succ fuel ih =>
    intro k listed a w hk hs h1 h2 hf hw
    by_cases hkn : k < ops.size
    · have hd : ops.toList.drop k = ops[k] :: ops.toList.drop (k + 1) := by
        rw [List.drop_eq_getElem_cons (by simpa using hkn)]
        simp
      rw [hd] at hw
      have hkr : ops[k]? = some ops[k] := by simp [hkn]
      refine ⟨fun hr => ?_, fun i hi => ?_⟩
      · have : k ∈ Region.ready .any ops listed := mem_ready.2 ⟨by rw [getD_ft (by omega)]; exact h2 k (Nat.le_refl _), ops[k], hkr, fun e he hb => h1 _ (hback k _ hkr e he hb) (by have := hback k _ hkr e he hb; omega)⟩
        rw [hr] at this
        simp at this
      · obtain ⟨h0, o, ho, hpre⟩ := mem_ready.1 hi
        have hio : i < ops.size := (Array.getElem?_eq_some_iff.1 ho).1
        rw [getD_ft (by omega)] at h0
        have hik : i = k := by
          rcases Nat.lt_trichotomy i k with h | h | h
          · rw [h1 i h hio] at h0
            cases h0
          · exact h
          · obtain ⟨o', ho', e, he, hb, hon⟩ := edge_spec (htail i (by omega) hio)
            rw [ho] at ho'
            rw [← Option.some.inj ho'] at he
            have := hpre e he hb
            rw [hon, h2 (i - 1) (by omega)] at this
            cases this
        subst hik
        have hlt : i < listed.size := by omega
        have next : ∀ a' w', wpList P ops Q (ops.toList.drop (i + 1)) a' w' → wpAny P .any ops Q fuel (listed.setIfInBounds i true) a' w' := fun a' w' h' =>
          ih (i + 1) _ a' w' (by omega) (by simpa using hs) (fun j hj hjs => by rw [getD_set hlt]; split; rfl; exact h1 j (by omega) hjs) (fun j hj => by rw [getD_set hlt, if_neg (by omega)]; exact h2 j (by omega)) (by omega) h'
        unfold wpOp
        simp only [hkr]
        unfold wpList at hw
        split
        · rename_i hwd
          rw [if_pos hwd] at hw
          exact hw.imp (Oper.wp_mono next) id
        · rename_i hwd
          rw [if_neg hwd] at hw
          exact next _ _ hw
    · refine wpAny_done ?_ ?_ _
      · cases hr : Region.ready .any ops listed with
        | nil => rfl
        | cons i r =>
          obtain ⟨h0, o, ho, _⟩ := mem_ready.1 (show i ∈ Region.ready .any ops listed by rw [hr]; simp)
          have hi : i < ops.size := (Array.getElem?_eq_some_iff.1 ho).1
          rw [getD_ft (by omega), h1 i (by omega) hi] at h0
          cases h0
      · have : ops.toList.drop k = [] := List.drop_eq_nil_of_le (by simp; omega)
        rw [this] at hw
        exact hw
section
variable {P : Program} {ops : Array Oper} {Q : Exit → Act → World → Prop}
theorem Way.anyT {ds : List (Option Tmp)} {dd : List (List Nat)} {Js : List (Value → World → Prop)} {F : Frm} {a0 : Act} {w0 : World} {E : List Nat} {xs : List Part} {N : Nat} {wit : List Nat}
    (hF : F.Ok) (hst : AllStable F.R' Js) (hok : linT ops N ds dd = true) (hin : ∀ (i : Nat) (t : Tmp), ds[i]? = some (some t) → t < a0.tmps.size)
    (hN : N < ops.size) (hwit : ∀ i, i < N → ∃ s, i < s ∧ s ≤ N ∧ edge ops s i = true) (htail : ∀ j, N < j → j < ops.size → edge ops j (j - 1) = true) (hEN : ∀ e ∈ E, e < N)
    (hsteps : StepsObC P ops Js F (fun vs => fillD ds 0 vs a0) w0 (ops.toList.take N) dd Js xs) (hEn : E.Nodup) (hch : chainOk ops E = true) (hpt : partsOk ops E 0 xs = true) (hJl : Js.length = N)
    (hend : ∀ vs w', AllJ vs w' 0 Js → F.S E.length w' → F.R' w0 w' → wpList P ops Q (ops.toList.drop N) (fillD ds 0 vs a0) w') :
    ∀ (fuel : Nat) (listed : Array Bool) (vs : Nat → Value) (a : Act) (w : World), Way ops ds Js F.R' a0 w0 listed vs a w → (∃ p, Phase ops E listed p ∧ F.S p w) → (∀ e i, listed.getD e false = true → edge ops e i = true → listed.getD i false = true) → (∀ j, N ≤ j → listed.getD j false = false) → listed.toList.count false ≤ fuel → wpAny P .any ops Q fuel listed a w := by
  simp only [linT, Bool.and_eq_true, beq_iff_eq] at hok
  obtain ⟨⟨⟨⟨hds, hdi⟩, hsel⟩, hdep⟩, hbk⟩ := hok
  have hlen : ds.length = N := by rw [← hds]; simp; omega
  have hback : ∀ (i : Nat) (o : Oper), ops[i]? = some o → ∀ e ∈ o.after, Region.binds .any e = true → e.on < i := by
    intro i o ho e he hb
    simpa using backOk_get ops.toList 0 hbk i o (by simpa using ho) e he hb
  have hfin : ∀ (listed : Array Bool) (vs : Nat → Value) (a : Act) (w : World), Way ops ds Js F.R' a0 w0 listed vs a w → (∀ j, N ≤ j → listed.getD j false = false) → Region.ready .any ops listed ≠ [] := by
    intro listed vs a w h hnl hr
    have h1 := hnl N (Nat.le_refl _)
    rw [all_listed hback h.lsize hr N (by omega)] at h1
    cases h1
  obtain ⟨hch1, hch2⟩ := chain_get E hch
  intro fuel
  induction fuel with
  | zero =>
    intro listed vs a w h hph hpred hnl hc
    have hr : Region.ready .any ops listed = [] := by
      cases hr : Region.ready .any ops listed with
      | nil => rfl
      | cons i r =>
        obtain ⟨h0, o, ho, _⟩ := mem_ready.1 (show i ∈ Region.ready .any ops listed by rw [hr]; simp)
        have hlt : i < listed.size := by rw [h.lsize]; exact (Array.getElem?_eq_some_iff.1 ho).1
        have : false ∈ listed.toList := by
          rw [List.mem_iff_getElem?]
          refine ⟨i, ?_⟩
          simp [hlt] at h0 ⊢
          exact h0
        have := List.count_pos_iff.2 this
        omega
    exact absurd hr (hfin listed vs a w h hnl)
  | succ fuel ih =>
    intro listed vs a w h hph hpred hnl hc
    refine ⟨fun hr => absurd hr (hfin listed vs a w h hnl), fun i hi => ?_⟩
    obtain ⟨p, hp, hS⟩ := hph
    obtain ⟨h0, o, ho, hpre⟩ := mem_ready.1 hi
    have hio : i < ops.size := (Array.getElem?_eq_some_iff.1 ho).1
    have hlt : i < listed.size := by rw [h.lsize]; exact hio
    -- what an edge says of what has come up
    have hedge : ∀ e, edge ops i e = true → listed.getD e false = true := fun e he => by
      obtain ⟨o', ho', e', he', hb, rfl⟩ := edge_spec he
      rw [ho] at ho'
      rw [← Option.some.inj ho'] at he'
      exact hpre e' he' hb
    by_cases hiN : i = N
    · subst hiN
      have hall : ∀ d j, j + d = i → j < i → listed.getD j false = true := by
        intro d
        induction d using Nat.strongRecOn with
        | _ d ihd =>
          intro j hjd hj
          obtain ⟨s, h1, h2, h3⟩ := hwit j hj
          rcases Nat.lt_or_ge s i with h | h
          · exact hpred s j (ihd (i - s) (by omega) s (by omega) h) h3
          · have : s = i := by omega
            subst this
            exact hedge j h3
      have hall' : ∀ j, j < i → listed.getD j false = true := fun j hj => hall (i - j) j (by omega) hj
      have hpe : p = E.length := by
        rcases Nat.lt_or_ge p E.length with hlt' | hge
        · have h1 := hp.left p E[p] (Nat.le_refl _) (by simp [hlt'])
          rw [hall' _ (hEN _ (List.getElem_mem hlt'))] at h1
          cases h1
        · exact Nat.le_antisymm hp.le hge
      subst hpe
      have hfull : a = fillD ds 0 vs a0 := by
        have h1 : a.tmps = (fillD ds 0 vs a0).tmps := by
          apply Array.ext_getElem?
          intro t
          by_cases hm : some t ∈ ds
          · obtain ⟨j, hj⟩ := List.mem_iff_getElem?.1 hm
            have hjl : j < ds.length := (List.getElem?_eq_some_iff.1 hj).1
            rw [h.inn j t (hall' j (by omega)) hj, fillD_in ds 0 vs a0 t j hdi hj (hin j t hj)]
            simp
          · rw [fillD_out ds 0 vs a0 t hm]
            exact h.out t fun j _ hj => hm (List.mem_of_getElem? hj)
        have h2 : a.defers = (fillD ds 0 vs a0).defers := by rw [fillD_defers]; exact h.defers
        cases a
        cases hf : fillD ds 0 vs a0
        rw [hf] at h1 h2
        simp only at h1 h2
        rw [h1, h2]
      have hjs : AllJ vs w 0 Js := allJ_of Js 0 fun k J hk => by
        have hlt2 : k < Js.length := (List.getElem?_eq_some_iff.1 hk).1
        rw [Nat.zero_add]
        exact h.js k J (hall' k (by omega)) hk
      have hL := hend vs w hjs hS h.r
      rw [← hfull] at hL
      have hd : ops.toList.drop i = o :: ops.toList.drop (i + 1) := by
        rw [List.drop_eq_getElem_cons (by simpa using hio)]
        have : ops[i]? = some ops[i] := by simp [hio]
        rw [ho] at this
        rw [Option.some.inj this]
        simp
      rw [hd] at hL
      have hls : listed.size = ops.size := h.lsize
      have hnext : ∀ a' w', wpList P ops Q (ops.toList.drop (i + 1)) a' w' → wpAny P .any ops Q fuel (listed.setIfInBounds i true) a' w' := fun a' w' h' => by
        refine tailAny (N := i) hback htail fuel (i + 1) _ a' w' (by omega) (by simpa using hls) (fun j hj hjs => ?_) (fun j hj => ?_) ?_ h'
        · rw [getD_set hlt]
          split
          · rfl
          · exact hall' j (by omega)
        · rw [getD_set hlt, if_neg (by omega)]
          exact hnl j (by omega)
        · have hcs : ∀ (l : List Bool) (m : Nat), m ≤ l.length → (∀ j, m ≤ j → j < l.length → l[j]? = some false) → l.length - m ≤ l.count false := by
            intro l
            induction l with
            | nil => intro m _ _; simp
            | cons b r ihr =>
              intro m hm hf
              cases m with
              | zero =>
                have hb : b = false := by simpa using hf 0 (Nat.le_refl _) (by simp)
                subst hb
                have := ihr 0 (Nat.zero_le _) (fun j _ hj => by simpa using hf (j + 1) (Nat.zero_le _) (by simpa using hj))
                simp
                omega
              | succ m =>
                have := ihr m (by simpa using hm) (fun j hj hjl => by simpa using hf (j + 1) (by omega) (by simpa using hjl))
                have hc := List.count_cons (a := false) (b := b) (l := r)
                simp only [List.length_cons]
                omega
          have := hcs listed.toList i (by simp; omega) (fun j hj hjl => by
            have h1 := hnl j hj
            have hjs : j < listed.size := by simpa using hjl
            simp [hjs] at h1 ⊢
            exact h1)
          simp only [Array.length_toList] at this
          omega
      unfold wpOp
      simp only [ho]
      unfold wpList at hL
      split
      · rename_i hwd
        rw [if_pos hwd] at hL
        exact hL.imp (Oper.wp_mono hnext) id
      · rename_i hwd
        rw [if_neg hwd] at hL
        exact hnext _ _ hL
    have hiN' : i < N := by
      rcases Nat.lt_or_ge i N with h' | h'
      · exact h'
      · have h3 := hedge _ (htail i (by omega) hio)
        rw [hnl (i - 1) (by omega)] at h3
        cases h3
    obtain ⟨d, J, x, hdi', hJi, hxi, hob⟩ := stepsObC_get (ops.toList.take N) dd Js xs hsteps i o (by rw [List.getElem?_take, if_pos hiN']; simpa using ho)
    obtain ⟨d', hd', hl1, hl2, _⟩ := depsOk_get (ops.toList.take N) dd 0 hdep i o (by rw [List.getElem?_take, if_pos hiN']; simpa using ho)
    rw [hdi'] at hd'
    obtain rfl := Option.some.inj hd'
    have hdl : ∀ j ∈ d, listed.getD j false = true := fun j hj => by
      obtain ⟨e, he, hb, rfl⟩ := hl2 j hj
      exact hpre e he hb
    have hag := h.agree hdi hin hl1 hdl
    have hdsi : ds[i]? = some o.dst := by rw [← hds]; simp [ho, hiN']
    have hdep' : DepJ Js vs w d := depJ_of d fun j hj => by
      cases hj' : Js[j]? with
      | none => simp [List.getD, hj']
      | some J' =>
        have := h.js j J' (hdl j hj) hj'
        simpa [List.getD, hj'] using this
    have hcount : (listed.setIfInBounds i true).toList.count false + 1 = listed.toList.count false := by
      rw [Array.toList_setIfInBounds]
      refine count_set _ _ ?_
      simp [hlt] at h0 ⊢
      exact h0
    have hi0 : listed.getD i false = false := by
      simp [hlt] at h0 ⊢
      exact h0
    have hpx := partsOk_get xs 0 hpt i x hxi
    rw [Nat.zero_add] at hpx
    have hpred' : ∀ e j, (listed.setIfInBounds i true).getD e false = true → edge ops e j = true → (listed.setIfInBounds i true).getD j false = true := by
      intro e j he hej
      rw [getD_set hlt] at he ⊢
      split
      · rfl
      · by_cases hie : i = e
        · subst hie
          exact hedge j hej
        · rw [if_neg hie] at he
          exact hpred e j he hej
    have next : ∀ G : Value → World → Prop, (∀ v w', G v w' → F.R' w w' ∧ J v w' ∧ ∃ p', Phase ops E (listed.setIfInBounds i true) p' ∧ F.S p' w') → ∀ v w', G v w' → wpAny P .any ops Q fuel (listed.setIfInBounds i true) (a.put o.dst v) w' := fun G hG v w' hv =>
      have ⟨hR, hJ, hph'⟩ := hG v w' hv
      ih _ _ _ _ (h.step hF.tr hst hdi hin hio hdsi h0 hR (fun J' hJ' => by rw [hJi] at hJ'; rw [← Option.some.inj hJ']; exact hJ)) hph' hpred' (fun j hj => by rw [getD_set hlt, if_neg (by omega)]; exact hnl j hj) (by omega)
    have fin : ∀ G : Value → World → Prop, (∀ v w', G v w' → F.R' w w' ∧ J v w' ∧ ∃ p', Phase ops E (listed.setIfInBounds i true) p' ∧ F.S p' w') →
        (if Region.wanted o (yielded ops (fillD ds 0 vs a0).tmps) = true then o.wp P (fillD ds 0 vs a0) w (AtK (fillD ds 0 vs a0) o.dst G) NoExit else AtK (fillD ds 0 vs a0) o.dst G ((fillD ds 0 vs a0).put o.dst undef) w) →
        wpOp P ops Q i (wpAny P .any ops Q fuel (listed.setIfInBounds i true)) a w := by
      intro G hG hob'
      unfold wpOp
      simp only [ho]
      have hin' : ∀ t, o.dst = some t → t < (fillD ds 0 vs a0).tmps.size := fun t ht => by
        rw [fillD_size]
        exact hin i t (by rw [hdsi, ht])
      rw [← hag.wanted] at hob'
      split
      · rename_i hw
        rw [if_pos hw] at hob'
        left
        unfold Oper.wp at hob' ⊢
        rw [← hag.exec (Region.noSelect_spec hsel i o · · ho)] at hob'
        have := upon_move (Q := Q) (a := a) hin' _ hob'
        refine Oper.wp_mono (P := P) (o := o) (a := a) (w := w) (Q := Q) ?_ this
        rintro a'' w'' ⟨v, rfl, hv⟩
        exact next G hG v w'' hv
      · rename_i hw
        rw [if_neg hw] at hob'
        obtain ⟨v, hv, hg⟩ := hob'
        rcases put_inj hin' hv with hn | rfl
        · have hx := next G hG v w hg
          rw [hn] at hx ⊢
          exact hx
        · exact next G hG _ w hg
    cases x with
    | turns k =>
      simp only [partOk, beq_iff_eq] at hpx
      have hkp : k = p := by
        rcases Nat.lt_trichotomy k p with hlt' | heq | hgt
        · have := hp.done k i hlt' hpx
          rw [hi0] at this
          cases this
        · exact heq
        · have hk1 : k - 1 < E.length := by have := (List.getElem?_eq_some_iff.1 hpx).1; omega
          have he := hch1 (k - 1) E[k - 1] i (by simp [hk1]) (by rw [show k - 1 + 1 = k from by omega]; exact hpx)
          have h1 := hedge _ he
          rw [hp.left (k - 1) E[k - 1] (by omega) (by simp [hk1])] at h1
          cases h1
      subst hkp
      refine fin (fun v w' => F.R' w w' ∧ F.S (k + 1) w' ∧ J v w') (fun v w' ⟨h1, h2, h3⟩ => ⟨h1, h3, k + 1, ⟨?_, ?_, ?_⟩, h2⟩) (hob vs w _ hdep' hS h.r (fun v w' h1 h2 h3 => ⟨v, rfl, h1, h2, h3⟩))
      · exact (List.getElem?_eq_some_iff.1 hpx).1
      · intro k' e hk' he
        rw [getD_set hlt]
        split
        · rfl
        · rename_i hne
          refine hp.done k' e ?_ he
          rcases Nat.lt_or_ge k' k with h' | h'
          · exact h'
          · have : k' = k := by omega
            subst this
            rw [hpx] at he
            exact absurd (Option.some.inj he) hne
      · intro k' e hk' he
        rw [getD_set hlt]
        split
        · rename_i heq
          subst heq
          have h1 : k < E.length := (List.getElem?_eq_some_iff.1 hpx).1
          have h2 : k' < E.length := (List.getElem?_eq_some_iff.1 he).1
          have := (List.getElem?_inj h1 hEn).1 (hpx.trans he.symm)
          omega
        · exact hp.left k' e (by omega) he
    | light lo hi' =>
      simp only [partOk, Bool.and_eq_true, Bool.or_eq_true, beq_iff_eq, Bool.not_eq_true', List.contains_eq_mem, decide_eq_false_iff_not] at hpx
      obtain ⟨⟨hni, hlo⟩, hhi⟩ := hpx
      have hlp : lo ≤ p := by
        rcases hlo with h1 | h1
        · omega
        · cases he : E[lo - 1]? with
          | none => rw [he] at h1; cases h1
          | some e =>
            rw [he] at h1
            have h2 := hedge e h1
            rcases Nat.lt_or_ge (lo - 1) p with h' | h'
            · omega
            · rw [hp.left (lo - 1) e h' he] at h2
              cases h2
      have hph' : p ≤ hi' := by
        cases he : E[hi']? with
        | none =>
          rw [he] at hhi
          have h1 := of_decide_eq_true hhi
          have := hp.le
          omega
        | some e =>
          rw [he] at hhi
          rcases Nat.lt_or_ge hi' p with h' | h'
          · -- the turn has come up, so what it waits for has
            have h2 := hp.done hi' e h' he
            have h3 := hpred e i h2 hhi
            rw [hi0] at h3
            cases h3
          · exact h'
      refine fin (fun v w' => F.R w w' ∧ J v w') (fun v w' ⟨h1, h3⟩ => ⟨hF.sub _ _ h1, h3, p, ⟨hp.le, ?_, ?_⟩, hF.st _ _ _ h1 hS⟩) (hob p vs w _ hdep' hlp hph' hS h.r (fun v w' h1 h3 => ⟨v, rfl, h1, h3⟩))
      · intro k' e hk' he
        rw [getD_set hlt]
        split
        · rfl
        · exact hp.done k' e hk' he
      · intro k' e hk' he
        rw [getD_set hlt]
        split
        · rename_i heq
          subst heq
          exact absurd (List.mem_of_getElem? he) hni
        · exact hp.left k' e hk' he
end
def witOk (ops : Array Oper) (N : Nat) : Nat → List Nat → Bool
  | i, [] => i == N
  | i, s :: r => decide (i < s) && decide (s ≤ N) && edge ops s i && witOk ops N (i + 1) r
theorem witOk_get {ops : Array Oper} {N : Nat} : ∀ (l : List Nat) (k : Nat), witOk ops N k l = true → ∀ i, k ≤ i → i < N → ∃ s, i < s ∧ s ≤ N ∧ edge ops s i = true
  | [], k, h, i, h1, h2 => by
    simp [witOk] at h
    omega
  | s :: r, k, h, i, h1, h2 => by
    simp only [witOk, Bool.and_eq_true, decide_eq_true_eq] at h
    rcases Nat.lt_or_ge k i with hlt | hge
    · exact witOk_get r (k + 1) h.2 i hlt h2
    · have : k = i := by omega
      subst this
      exact ⟨s, h.1.1.1, h.1.1.2, h.1.2⟩
def tailOk (ops : Array Oper) (N : Nat) (E : List Nat) (wit : List Nat) : Bool := decide (N < ops.size) && witOk ops N 0 wit && (List.range ops.size).all (fun j => decide (j ≤ N) || edge ops j (j - 1)) && E.all fun e => decide (e < N)
/-- With turns, and a tail that waits for all. -/
theorem region_ct {P : Program} {Q : Exit → Act → World → Prop} {id : Nat} {os : List Oper} {a0 : Act} {w : World} (F : Frm) (hF : F.Ok) (E : List Nat) (xs : List Part)
    (N n : Nat) (wit : List Nat) (ds : List (Option Tmp)) (dd : List (List Nat)) (Js : List (Value → World → Prop)) (hm : P.follows .mixedOrders = true) (hok : linT os.toArray N ds dd = true)
    (hE : (decide E.Nodup && chainOk os.toArray E && partsOk os.toArray E 0 xs && tailOk os.toArray N E wit) = true) (hn : a0.tmps.size = n) (hin : inB ds n = true)
    (hJl : Js.length = N) (A : (Nat → Value) → Act) (hA : ∀ vs, fillD ds 0 vs a0 = A vs) (hst : AllStable F.R' Js) (h0 : F.S 0 w.drew)
    (hsteps : StepsObC P os.toArray Js F A w.drew (os.take N) dd Js xs)
    (hend : ∀ vs w', AllJ vs w' 0 Js → F.S E.length w' → F.R' w.drew w' → wpList P os.toArray Q (os.drop N) (A vs) w') : (Code.region id os.toArray true).wp P Q a0 w := by
  obtain rfl : (fun vs => fillD ds 0 vs a0) = A := funext hA
  subst hn
  simp only [Bool.and_eq_true, decide_eq_true_eq, tailOk, List.all_eq_true, List.mem_range, Bool.or_eq_true] at hE
  obtain ⟨⟨⟨e1, e2⟩, e3⟩, ⟨⟨e4, e5⟩, e6⟩, e7⟩ := hE
  refine wp_region_any hm ?_
  refine Way.anyT (wit := wit) hF hst hok (inB_get hin) e4 (fun i hi => witOk_get wit 0 e5 i (Nat.zero_le _) hi) (fun j hj hjs => (e6 j hjs).resolve_left (by omega)) e7 (by simpa using hsteps) e1 e2 e3 hJl (by simpa using hend) _ _ (fun _ => undef) _ _ ⟨hF.rf _, rfl, rfl, by simp, fun _ _ => rfl, fun i t h => ?_, fun i J h => ?_⟩ ⟨0, ⟨Nat.zero_le _, fun k e h => by omega, fun k e _ _ => ?_⟩, h0⟩ (fun e i h => ?_) (fun j _ => ?_) ?_
  · simp [Array.getElem?_replicate] at h
    split at h <;> simp at h
  · simp [Array.getElem?_replicate] at h
    split at h <;> simp at h
  · simp [Array.getElem?_replicate]
    split <;> simp
  · simp [Array.getElem?_replicate] at h
    split at h <;> simp at h
  · simp [Array.getElem?_replicate]
    split <;> simp
  · simp
/-- No operation of the front turns what was there. -/
theorem region_bt {P : Program} {Q : Exit → Act → World → Prop} {id : Nat} {os : List Oper} {a0 : Act} {w : World}
    (N n : Nat) (wit : List Nat) (ds : List (Option Tmp)) (dd : List (List Nat)) (Js : List (Value → World → Prop)) (hm : P.follows .mixedOrders = true) (hok : linT os.toArray N ds dd = true) (hE : tailOk os.toArray N [] wit = true) (hn : a0.tmps.size = n) (hin : inB ds n = true)
    (hJl : Js.length = N) (A : (Nat → Value) → Act) (hA : ∀ vs, fillD ds 0 vs a0 = A vs) (hst : AllStable BelowR Js)
    (hsteps : StepsObB P os.toArray Js A w.drew (os.take N) dd Js)
    (hend : ∀ vs w', AllJ vs w' 0 Js → BelowR w.drew w' → wpList P os.toArray Q (os.drop N) (A vs) w') : (Code.region id os.toArray true).wp P Q a0 w :=
  region_ct ⟨BelowR, BelowR, fun _ _ => True⟩ ⟨BelowR.refl, BelowR.trans, fun _ _ h => h, fun _ _ _ _ h => h⟩ [] (List.replicate (os.take N).length (.light 0 0)) N n wit ds dd Js hm hok
    (by rw [partsOk_light, hE]; rfl) hn hin hJl A hA hst trivial (stepsB_toC _ _ _ hsteps) (fun vs w' h1 _ h2 => hend vs w' h1 h2)
end Go.Reg

