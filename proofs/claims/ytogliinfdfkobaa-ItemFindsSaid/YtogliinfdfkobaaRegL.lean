/- A region that draws and whose last operation waits for all the others. No condition on a program but that it follows mixed orders. -/
import Derived.Test.YtogliinfdfkobaaRegC
set_option linter.unusedSimpArgs false
set_option linter.unusedVariables false
namespace Go.Reg
open Go.RowKit
theorem distinct_take : ∀ (l : List (Option Tmp)) (n : Nat), distinctD l = true → distinctD (l.take n) = true
  | [], n, _ => by simp [distinctD]
  | x :: r, 0, _ => rfl
  | none :: r, n + 1, h => distinct_take r n h
  | some t :: r, n + 1, h => by
    simp only [distinctD, Bool.and_eq_true, Bool.not_eq_true', List.contains_eq_mem, decide_eq_false_iff_not, List.take_succ_cons] at h ⊢
    exact ⟨fun hm => h.1 (List.mem_of_mem_take hm), distinct_take r n h.2⟩
section
variable {P : Program} {ops : Array Oper} {Q : Exit → Act → World → Prop}
theorem Way.anyL {ds : List (Option Tmp)} {dd : List (List Nat)} {Js : List (Value → World → Prop)} {F : Frm} {a0 : Act} {w0 : World} {E : List Nat} {xs : List Part} {ds' : List (Option Tmp)} {N : Nat} {oL : Oper}
    (hF : F.Ok) (hst : AllStable F.R' Js) (hok : linOk ops ds dd = true) (hin : ∀ (i : Nat) (t : Tmp), ds[i]? = some (some t) → t < a0.tmps.size)
    (hN : ops.size = N + 1) (hds' : ds.take N = ds') (hoL : ops[N]? = some oL) (hall : ∀ i, i < N → edge ops N i = true) (hEN : ∀ e ∈ E, e < N)
    (hsteps : StepsObC P ops Js F (fun vs => fillD ds 0 vs a0) w0 (ops.toList.take N) dd Js xs) (hEn : E.Nodup) (hch : chainOk ops E = true) (hpt : partsOk ops E 0 xs = true) (hJl : Js.length = N)
    (hend : ∀ vs w', AllJ vs w' 0 Js → F.S E.length w' → F.R' w0 w' → if Region.wanted oL (yielded ops (fillD ds' 0 vs a0).tmps) = true then oL.wp P (fillD ds' 0 vs a0) w' (Q .normal) Q else Q .normal ((fillD ds' 0 vs a0).put oL.dst undef) w') :
    ∀ (fuel : Nat) (listed : Array Bool) (vs : Nat → Value) (a : Act) (w : World), Way ops ds Js F.R' a0 w0 listed vs a w → (∃ p, Phase ops E listed p ∧ F.S p w) → (∀ e i, listed.getD e false = true → edge ops e i = true → listed.getD i false = true) → listed.getD N false = false → listed.toList.count false ≤ fuel → wpAny P .any ops Q fuel listed a w := by
  simp only [linOk, Bool.and_eq_true, beq_iff_eq] at hok
  obtain ⟨⟨⟨hds, hdi⟩, hsel⟩, hdep⟩ := hok
  have hlen : ds.length = ops.size := by rw [← hds]; simp
  have hback : ∀ (i : Nat) (o : Oper), ops[i]? = some o → ∀ e ∈ o.after, Region.binds .any e = true → e.on < i := by
    intro i o ho e he hb
    obtain ⟨d, _, _, _, h4⟩ := depsOk_get ops.toList dd 0 hdep i o (by simpa using ho)
    simpa using h4 e he hb
  have hfin : ∀ (listed : Array Bool) (vs : Nat → Value) (a : Act) (w : World), Way ops ds Js F.R' a0 w0 listed vs a w → listed.getD N false = false → Region.ready .any ops listed ≠ [] := by
    intro listed vs a w h hnl hr
    rw [all_listed hback h.lsize hr N (by omega)] at hnl
    cases hnl
  obtain ⟨hch1, hch2⟩ := chain_get E hch
  intro fuel
  induction fuel with
  | zero =>
    intro listed vs a w h hph hpred hnl hc
    have hr : Region.ready .any ops listed = [] := by
      cases hr : Region.ready .any ops listed with
      | nil => rfl
      | cons i r =>
        obtain ⟨h0, o, ho, _⟩ := mem_ready.1 (show i ∈ Region.ready .any ops listed by rw [hr]; simp)
        have hlt : i < listed.size := by rw [h.lsize]; exact (Array.getElem?_eq_some_iff.1 ho).1
        have : false ∈ listed.toList := by
          rw [List.mem_iff_getElem?]
          refine ⟨i, ?_⟩
          simp [hlt] at h0 ⊢
          exact h0
        have := List.count_pos_iff.2 this
        omega
    exact absurd hr (hfin listed vs a w h hnl)
  | succ fuel ih =>
    intro listed vs a w h hph hpred hnl hc
    refine ⟨fun hr => absurd hr (hfin listed vs a w h hnl), fun i hi => ?_⟩
    obtain ⟨p, hp, hS⟩ := hph
    obtain ⟨h0, o, ho, hpre⟩ := mem_ready.1 hi
    have hio : i < ops.size := (Array.getElem?_eq_some_iff.1 ho).1
    have hlt : i < listed.size := by rw [h.lsize]; exact hio
    -- what an edge says of what has come up
    have hedge : ∀ e, edge ops i e = true → listed.getD e false = true := fun e he => by
      obtain ⟨o', ho', e', he', hb, rfl⟩ := edge_spec he
      rw [ho] at ho'
      rw [← Option.some.inj ho'] at he'
      exact hpre e' he' hb
    by_cases hiN : i = N
    · subst hiN
      rw [hoL] at ho
      obtain rfl := Option.some.inj ho
      have hpe : p = E.length := by
        rcases Nat.lt_or_ge p E.length with hlt' | hge
        · have h1 := hp.left p E[p] (Nat.le_refl _) (by simp [hlt'])
          rw [hedge _ (hall _ (hEN _ (List.getElem_mem hlt')))] at h1
          cases h1
        · exact Nat.le_antisymm hp.le hge
      subst hpe
      have hd2 : distinctD ds' = true := by rw [← hds']; exact distinct_take ds i hdi
      have hget : ∀ j, j < i → ds'[j]? = ds[j]? := fun j hj => by rw [← hds', List.getElem?_take, if_pos hj]
      have hln : ds'.length = i := by rw [← hds', List.length_take]; omega
      have hfull : a = fillD ds' 0 vs a0 := by
        have h1 : a.tmps = (fillD ds' 0 vs a0).tmps := by
          apply Array.ext_getElem?
          intro t
          by_cases hm : some t ∈ ds'
          · obtain ⟨j, hj⟩ := List.mem_iff_getElem?.1 hm
            have hjl : j < ds'.length := (List.getElem?_eq_some_iff.1 hj).1
            have hj' : ds[j]? = some (some t) := by rw [← hget j (by omega)]; exact hj
            rw [h.inn j t (hedge j (hall j (by omega))) hj', fillD_in ds' 0 vs a0 t j hd2 hj (hin j t hj')]
            simp
          · rw [fillD_out ds' 0 vs a0 t hm]
            refine h.out t fun j hjl hj => ?_
            have hjn : j < ds.length := (List.getElem?_eq_some_iff.1 hj).1
            rcases Nat.lt_or_ge j i with hlt2 | hge2
            · exact hm (List.mem_of_getElem? ((hget j hlt2).trans hj))
            · have : j = i := by omega
              subst this
              rw [hnl] at hjl
              cases hjl
        have h2 : a.defers = (fillD ds' 0 vs a0).defers := by rw [fillD_defers]; exact h.defers
        cases a
        cases hf : fillD ds' 0 vs a0
        rw [hf] at h1 h2
        simp only at h1 h2
        rw [h1, h2]
      have hjs : AllJ vs w 0 Js := allJ_of Js 0 fun k J hk => by
        have hlt2 : k < Js.length := (List.getElem?_eq_some_iff.1 hk).1
        rw [Nat.zero_add]
        exact h.js k J (hedge k (hall k (by omega))) hk
      have hL := hend vs w hjs hS h.r
      rw [← hfull] at hL
      have hdone : ∀ a' w', Q .normal a' w' → wpAny P .any ops Q fuel (listed.setIfInBounds i true) a' w' := fun a' w' hq => by
        refine wpAny_done ?_ hq fuel
        cases hr : Region.ready .any ops (listed.setIfInBounds i true) with
        | nil => rfl
        | cons j r =>
          obtain ⟨h0', o', ho', _⟩ := mem_ready.1 (show j ∈ Region.ready .any ops (listed.setIfInBounds i true) by rw [hr]; simp)
          have hjo : j < ops.size := (Array.getElem?_eq_some_iff.1 ho').1
          have hjt : (listed.setIfInBounds i true).getD j false = true := by
            rw [getD_set hlt]
            split
            · rfl
            · exact hedge j (hall j (by omega))
          have hjs2 : j < (listed.setIfInBounds i true).size := by simp [h.lsize]; exact hjo
          simp only [Array.getD_eq_getD_getElem?, Array.getElem?_eq_getElem hjs2, Option.getD_some] at h0' hjt
          rw [hjt] at h0'
          cases h0'
      unfold wpOp
      simp only [hoL]
      split
      · rename_i hw
        rw [if_pos hw] at hL
        left
        exact Oper.wp_mono hdone hL
      · rename_i hw
        rw [if_neg hw] at hL
        exact hdone _ _ hL
    have hiN' : i < N := by omega
    obtain ⟨d, J, x, hdi', hJi, hxi, hob⟩ := stepsObC_get (ops.toList.take N) dd Js xs hsteps i o (by rw [List.getElem?_take, if_pos hiN']; simpa using ho)
    obtain ⟨d', hd', hl1, hl2, _⟩ := depsOk_get ops.toList dd 0 hdep i o (by simpa using ho)
    rw [hdi'] at hd'
    obtain rfl := Option.some.inj hd'
    have hdl : ∀ j ∈ d, listed.getD j false = true := fun j hj => by
      obtain ⟨e, he, hb, rfl⟩ := hl2 j hj
      exact hpre e he hb
    have hag := h.agree hdi hin hl1 hdl
    have hdsi : ds[i]? = some o.dst := by rw [← hds]; simp [ho]
    have hdep' : DepJ Js vs w d := depJ_of d fun j hj => by
      cases hj' : Js[j]? with
      | none => simp [List.getD, hj']
      | some J' =>
        have := h.js j J' (hdl j hj) hj'
        simpa [List.getD, hj'] using this
    have hcount : (listed.setIfInBounds i true).toList.count false + 1 = listed.toList.count false := by
      rw [Array.toList_setIfInBounds]
      refine count_set _ _ ?_
      simp [hlt] at h0 ⊢
      exact h0
    have hi0 : listed.getD i false = false := by
      simp [hlt] at h0 ⊢
      exact h0
    have hpx := partsOk_get xs 0 hpt i x hxi
    rw [Nat.zero_add] at hpx
    have hpred' : ∀ e j, (listed.setIfInBounds i true).getD e false = true → edge ops e j = true → (listed.setIfInBounds i true).getD j false = true := by
      intro e j he hej
      rw [getD_set hlt] at he ⊢
      split
      · rfl
      · by_cases hie : i = e
        · subst hie
          exact hedge j hej
        · rw [if_neg hie] at he
          exact hpred e j he hej
    have next : ∀ G : Value → World → Prop, (∀ v w', G v w' → F.R' w w' ∧ J v w' ∧ ∃ p', Phase ops E (listed.setIfInBounds i true) p' ∧ F.S p' w') → ∀ v w', G v w' → wpAny P .any ops Q fuel (listed.setIfInBounds i true) (a.put o.dst v) w' := fun G hG v w' hv =>
      have ⟨hR, hJ, hph'⟩ := hG v w' hv
      ih _ _ _ _ (h.step hF.tr hst hdi hin hio hdsi h0 hR (fun J' hJ' => by rw [hJi] at hJ'; rw [← Option.some.inj hJ']; exact hJ)) hph' hpred' (by rw [getD_set hlt, if_neg hiN]; exact hnl) (by omega)
    have fin : ∀ G : Value → World → Prop, (∀ v w', G v w' → F.R' w w' ∧ J v w' ∧ ∃ p', Phase ops E (listed.setIfInBounds i true) p' ∧ F.S p' w') →
        (if Region.wanted o (yielded ops (fillD ds 0 vs a0).tmps) = true then o.wp P (fillD ds 0 vs a0) w (AtK (fillD ds 0 vs a0) o.dst G) NoExit else AtK (fillD ds 0 vs a0) o.dst G ((fillD ds 0 vs a0).put o.dst undef) w) →
        wpOp P ops Q i (wpAny P .any ops Q fuel (listed.setIfInBounds i true)) a w := by
      intro G hG hob'
      unfold wpOp
      simp only [ho]
      have hin' : ∀ t, o.dst = some t → t < (fillD ds 0 vs a0).tmps.size := fun t ht => by
        rw [fillD_size]
        exact hin i t (by rw [hdsi, ht])
      rw [← hag.wanted] at hob'
      split
      · rename_i hw
        rw [if_pos hw] at hob'
        left
        unfold Oper.wp at hob' ⊢
        rw [← hag.exec (Region.noSelect_spec hsel i o · · ho)] at hob'
        have := upon_move (Q := Q) (a := a) hin' _ hob'
        refine Oper.wp_mono (P := P) (o := o) (a := a) (w := w) (Q := Q) ?_ this
        rintro a'' w'' ⟨v, rfl, hv⟩
        exact next G hG v w'' hv
      · rename_i hw
        rw [if_neg hw] at hob'
        obtain ⟨v, hv, hg⟩ := hob'
        rcases put_inj hin' hv with hn | rfl
        · have hx := next G hG v w hg
          rw [hn] at hx ⊢
          exact hx
        · exact next G hG _ w hg
    cases x with
    | turns k =>
      simp only [partOk, beq_iff_eq] at hpx
      have hkp : k = p := by
        rcases Nat.lt_trichotomy k p with hlt' | heq | hgt
        · have := hp.done k i hlt' hpx
          rw [hi0] at this
          cases this
        · exact heq
        · have hk1 : k - 1 < E.length := by have := (List.getElem?_eq_some_iff.1 hpx).1; omega
          have he := hch1 (k - 1) E[k - 1] i (by simp [hk1]) (by rw [show k - 1 + 1 = k from by omega]; exact hpx)
          have h1 := hedge _ he
          rw [hp.left (k - 1) E[k - 1] (by omega) (by simp [hk1])] at h1
          cases h1
      subst hkp
      refine fin (fun v w' => F.R' w w' ∧ F.S (k + 1) w' ∧ J v w') (fun v w' ⟨h1, h2, h3⟩ => ⟨h1, h3, k + 1, ⟨?_, ?_, ?_⟩, h2⟩) (hob vs w _ hdep' hS h.r (fun v w' h1 h2 h3 => ⟨v, rfl, h1, h2, h3⟩))
      · exact (List.getElem?_eq_some_iff.1 hpx).1
      · intro k' e hk' he
        rw [getD_set hlt]
        split
        · rfl
        · rename_i hne
          refine hp.done k' e ?_ he
          rcases Nat.lt_or_ge k' k with h' | h'
          · exact h'
          · have : k' = k := by omega
            subst this
            rw [hpx] at he
            exact absurd (Option.some.inj he) hne
      · intro k' e hk' he
        rw [getD_set hlt]
        split
        · rename_i heq
          subst heq
          have h1 : k < E.length := (List.getElem?_eq_some_iff.1 hpx).1
          have h2 : k' < E.length := (List.getElem?_eq_some_iff.1 he).1
          have := (List.getElem?_inj h1 hEn).1 (hpx.trans he.symm)
          omega
        · exact hp.left k' e (by omega) he
    | light lo hi' =>
      simp only [partOk, Bool.and_eq_true, Bool.or_eq_true, beq_iff_eq, Bool.not_eq_true', List.contains_eq_mem, decide_eq_false_iff_not] at hpx
      obtain ⟨⟨hni, hlo⟩, hhi⟩ := hpx
      have hlp : lo ≤ p := by
        rcases hlo with h1 | h1
        · omega
        · cases he : E[lo - 1]? with
          | none => rw [he] at h1; cases h1
          | some e =>
            rw [he] at h1
            have h2 := hedge e h1
            rcases Nat.lt_or_ge (lo - 1) p with h' | h'
            · omega
            · rw [hp.left (lo - 1) e h' he] at h2
              cases h2
      have hph' : p ≤ hi' := by
        cases he : E[hi']? with
        | none =>
          rw [he] at hhi
          have h1 := of_decide_eq_true hhi
          have := hp.le
          omega
        | some e =>
          rw [he] at hhi
          rcases Nat.lt_or_ge hi' p with h' | h'
          · -- the turn has come up, so what it waits for has
            have h2 := hp.done hi' e h' he
            have h3 := hpred e i h2 hhi
            rw [hi0] at h3
            cases h3
          · exact h'
      refine fin (fun v w' => F.R w w' ∧ J v w') (fun v w' ⟨h1, h3⟩ => ⟨hF.sub _ _ h1, h3, p, ⟨hp.le, ?_, ?_⟩, hF.st _ _ _ h1 hS⟩) (hob p vs w _ hdep' hlp hph' hS h.r (fun v w' h1 h3 => ⟨v, rfl, h1, h3⟩))
      · intro k' e hk' he
        rw [getD_set hlt]
        split
        · rfl
        · exact hp.done k' e hk' he
      · intro k' e hk' he
        rw [getD_set hlt]
        split
        · rename_i heq
          subst heq
          exact absurd (List.mem_of_getElem? he) hni
        · exact hp.left k' e hk' he
end
def lastOk (ops : Array Oper) (N : Nat) (E : List Nat) : Bool := (ops.size == N + 1) && (List.range N).all (fun i => edge ops N i) && E.all fun e => decide (e < N)
/-- With turns, and a last operation that waits for all. -/
theorem region_cl {P : Program} {Q : Exit → Act → World → Prop} {id : Nat} {os : List Oper} {a0 : Act} {w : World} (F : Frm) (hF : F.Ok) (E : List Nat) (xs : List Part)
    (N n : Nat) (ds : List (Option Tmp)) (dd : List (List Nat)) (Js : List (Value → World → Prop)) (hm : P.follows .mixedOrders = true) (hok : linOk os.toArray ds dd = true)
    (hE : (decide E.Nodup && chainOk os.toArray E && partsOk os.toArray E 0 xs && lastOk os.toArray N E) = true) (hn : a0.tmps.size = n) (hin : inB ds n = true)
    (hJl : Js.length = N) {oL : Oper} (hoL : os.toArray[N]? = some oL) (A : (Nat → Value) → Act) (hA : ∀ vs, fillD (ds.take N) 0 vs a0 = A vs) (A' : (Nat → Value) → Act) (hA' : ∀ vs, fillD ds 0 vs a0 = A' vs) (hst : AllStable F.R' Js) (h0 : F.S 0 w.drew)
    (hsteps : StepsObC P os.toArray Js F A' w.drew (os.take N) dd Js xs)
    (hend : ∀ vs w', AllJ vs w' 0 Js → F.S E.length w' → F.R' w.drew w' → if Region.wanted oL (yielded os.toArray (A vs).tmps) = true then oL.wp P (A vs) w' (Q .normal) Q else Q .normal ((A vs).put oL.dst undef) w') : (Code.region id os.toArray true).wp P Q a0 w := by
  obtain rfl : (fun vs => fillD ds 0 vs a0) = A' := funext hA'
  obtain rfl : (fun vs => fillD (ds.take N) 0 vs a0) = A := funext hA
  subst hn
  simp only [Bool.and_eq_true, decide_eq_true_eq, lastOk, beq_iff_eq, List.all_eq_true, List.mem_range] at hE
  obtain ⟨⟨⟨e1, e2⟩, e3⟩, ⟨e4, e5⟩, e6⟩ := hE
  refine wp_region_any hm ?_
  refine Way.anyL hF hst hok (inB_get hin) e4 rfl hoL e5 e6 (by simpa using hsteps) e1 e2 e3 hJl hend _ _ (fun _ => undef) _ _ ⟨hF.rf _, rfl, rfl, by simp, fun _ _ => rfl, fun i t h => ?_, fun i J h => ?_⟩ ⟨0, ⟨Nat.zero_le _, fun k e h => by omega, fun k e _ _ => ?_⟩, h0⟩ (fun e i h => ?_) ?_ ?_
  · simp [Array.getElem?_replicate] at h
    split at h <;> simp at h
  · simp [Array.getElem?_replicate] at h
    split at h <;> simp at h
  · simp [Array.getElem?_replicate]
    split <;> simp
  · simp [Array.getElem?_replicate] at h
    split at h <;> simp at h
  · simp [Array.getElem?_replicate]
    split <;> simp
  · simp
theorem stepsB_toC {P : Program} {ops : Array Oper} {Js : List (Value → World → Prop)} {A : (Nat → Value) → Act} {w0 : World} : ∀ (os : List Oper) (dd : List (List Nat)) (Jr : List (Value → World → Prop)),
    StepsObB P ops Js A w0 os dd Jr → StepsObC P ops Js ⟨BelowR, BelowR, fun _ _ => True⟩ A w0 os dd Jr (List.replicate os.length (.light 0 0))
  | [], _, _, _ => trivial
  | _ :: os, _ :: dd, _ :: Jr, h => ⟨fun _ vs w K hJ _ _ _ hR hK => h.1 vs w K hJ hR hK, stepsB_toC os dd Jr h.2⟩
  | _ :: _, [], _, h => h
  | _ :: _, _ :: _, [], h => h
theorem partsOk_light (ops : Array Oper) : ∀ (n i : Nat), partsOk ops [] i (List.replicate n (.light 0 0)) = true
  | 0, _ => rfl
  | n + 1, i => by
    rw [List.replicate_succ, partsOk, partsOk_light ops n (i + 1)]
    rfl
/-- No operation but the last turns what was there. -/
theorem region_bl {P : Program} {Q : Exit → Act → World → Prop} {id : Nat} {os : List Oper} {a0 : Act} {w : World}
    (N n : Nat) (ds : List (Option Tmp)) (dd : List (List Nat)) (Js : List (Value → World → Prop)) (hm : P.follows .mixedOrders = true) (hok : linOk os.toArray ds dd = true) (hE : lastOk os.toArray N [] = true) (hn : a0.tmps.size = n) (hin : inB ds n = true)
    (hJl : Js.length = N) {oL : Oper} (hoL : os.toArray[N]? = some oL) (A : (Nat → Value) → Act) (hA : ∀ vs, fillD (ds.take N) 0 vs a0 = A vs) (A' : (Nat → Value) → Act) (hA' : ∀ vs, fillD ds 0 vs a0 = A' vs) (hst : AllStable BelowR Js)
    (hsteps : StepsObB P os.toArray Js A' w.drew (os.take N) dd Js)
    (hend : ∀ vs w', AllJ vs w' 0 Js → BelowR w.drew w' → if Region.wanted oL (yielded os.toArray (A vs).tmps) = true then oL.wp P (A vs) w' (Q .normal) Q else Q .normal ((A vs).put oL.dst undef) w') : (Code.region id os.toArray true).wp P Q a0 w :=
  region_cl ⟨BelowR, BelowR, fun _ _ => True⟩ ⟨BelowR.refl, BelowR.trans, fun _ _ h => h, fun _ _ _ _ h => h⟩ [] (List.replicate (os.take N).length (.light 0 0)) N n ds dd Js hm hok
    (by rw [partsOk_light, hE]; rfl) hn hin hJl hoL A hA A' hA' hst trivial (stepsB_toC _ _ _ hsteps) (fun vs w' h1 _ h2 => hend vs w' h1 h2)
#print axioms region_bl
end Go.Reg

