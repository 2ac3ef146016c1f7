/- A region that draws its order of evaluation, shown operation by operation: each one once, whatever the order. No condition on a program but that it follows mixed orders. -/
import Derived.Orders
import Derived.Below
set_option linter.unusedSimpArgs false
set_option linter.unusedVariables false
namespace Go.Reg
open Go.RowKit
/-- A fact that simp does not look into. -/
def Shut (p : Prop) : Prop := p
theorem Shut.out {p : Prop} (h : Shut p) : p := h
def NoExit : Exit → Act → World → Prop := fun _ _ _ => False
/-- The state behind all operations: each one's place holds its value. -/
def fillD : List (Option Tmp) → Nat → (Nat → Value) → Act → Act
  | [], _, _, a => a
  | d :: r, i, vs, a => fillD r (i + 1) vs (a.put d (vs i))
theorem put_size (a : Act) (d : Option Tmp) (v : Value) : (a.put d v).tmps.size = a.tmps.size := by
  cases d <;> simp [Act.put]
theorem put_defers (a : Act) (d : Option Tmp) (v : Value) : (a.put d v).defers = a.defers := by
  cases d <;> rfl
theorem put_ne (a : Act) (d : Option Tmp) (v : Value) (t : Tmp) (h : d ≠ some t) : (a.put d v).tmps[t]? = a.tmps[t]? := by
  cases d with
  | none => rfl
  | some d =>
    have hne : d ≠ t := fun e => h (by rw [e])
    simp [Act.put, Array.getElem?_setIfInBounds_ne hne]
theorem put_eq (a : Act) (v : Value) (t : Tmp) (h : t < a.tmps.size) : (a.put (some t) v).tmps[t]? = some v := by
  simp [Act.put, h]
theorem fillD_size : ∀ (ds : List (Option Tmp)) (i : Nat) (vs : Nat → Value) (a : Act), (fillD ds i vs a).tmps.size = a.tmps.size
  | [], _, _, _ => rfl
  | d :: r, i, vs, a => by rw [fillD, fillD_size r, put_size]
theorem fillD_defers : ∀ (ds : List (Option Tmp)) (i : Nat) (vs : Nat → Value) (a : Act), (fillD ds i vs a).defers = a.defers
  | [], _, _, _ => rfl
  | d :: r, i, vs, a => by rw [fillD, fillD_defers r, put_defers]
theorem fillD_out : ∀ (ds : List (Option Tmp)) (i : Nat) (vs : Nat → Value) (a : Act) (t : Tmp), some t ∉ ds → (fillD ds i vs a).tmps[t]? = a.tmps[t]?
  | [], _, _, _, _, _ => rfl
  | d :: r, i, vs, a, t, h => by
    rw [fillD, fillD_out r _ _ _ _ (fun hm => h (List.mem_cons_of_mem _ hm)), put_ne _ _ _ _ (fun e => h (by rw [← e]; exact List.mem_cons_self ..))]
def distinctD : List (Option Tmp) → Bool
  | [] => true
  | none :: r => distinctD r
  | some t :: r => !r.contains (some t) && distinctD r
theorem fillD_in : ∀ (ds : List (Option Tmp)) (i : Nat) (vs : Nat → Value) (a : Act) (t : Tmp) (k : Nat), distinctD ds = true → ds[k]? = some (some t) → t < a.tmps.size →
    (fillD ds i vs a).tmps[t]? = some (vs (i + k))
  | [], _, _, _, _, _, _, h, _ => by simp at h
  | d :: r, i, vs, a, t, 0, hd, h, ht => by
    simp at h
    subst h
    simp [distinctD] at hd
    rw [fillD, fillD_out _ _ _ _ _ (by simpa using hd.1), put_eq _ _ _ ht]
    rfl
  | d :: r, i, vs, a, t, k + 1, hd, h, ht => by
    have hd' : distinctD r = true := by
      cases d with
      | none => exact hd
      | some x => simp [distinctD] at hd; exact hd.2
    rw [fillD, fillD_in r (i + 1) vs _ t k hd' (by simpa using h) (by rw [put_size]; exact ht)]
    congr 2
    omega
section
variable {P : Program} {ops : Array Oper}
/-- The two states are alike where the operation looks. -/
def Agree (ops : Array Oper) (o : Oper) (a a' : Act) : Prop := ∀ t ∈ o.looksAt ops, a.tmps[t]? = a'.tmps[t]?
theorem Agree.exec {o : Oper} {a a' : Act} (hs : ∀ cs b, o.op ≠ .select cs b) (h : Agree ops o a a') : execOp a.eval o = execOp a'.eval o :=
  execOp_congr o hs fun x hx => by
    cases x with
    | tmp t =>
      have := h t (List.mem_append_left _ (List.mem_filterMap.2 ⟨.tmp t, by simpa using hx, rfl⟩))
      simp only [Act.eval, Array.getD_eq_getD_getElem?, this]
    | _ => rfl
theorem Agree.wanted {o : Oper} {a a' : Act} (h : Agree ops o a a') : Region.wanted o (yielded ops a.tmps) = Region.wanted o (yielded ops a'.tmps) := by
  unfold Region.wanted
  cases hg : o.guard with
  | none => rfl
  | some gw =>
    obtain ⟨g, want⟩ := gw
    have hy : yielded ops a.tmps g = yielded ops a'.tmps g := by
      unfold yielded
      cases ht : (ops[g]?).bind (·.dst) with
      | none => rfl
      | some t =>
        have : a.tmps[t]? = a'.tmps[t]? := h t (by simp [Oper.looksAt, hg, ht])
        simp only [Option.bind_some, this]
    simp only [hy]
end
/-- From a run in one state to a run in another one that is alike where the operation looks. -/
theorem put_inj {a : Act} {d : Option Tmp} {u v : Value} (hin : ∀ t, d = some t → t < a.tmps.size) (h : a.put d v = a.put d u) : d = none ∨ v = u := by
  cases d with
  | none => exact .inl rfl
  | some t =>
    right
    have h1 := put_eq a v t (hin t rfl)
    rw [h, put_eq a u t (hin t rfl)] at h1
    exact (Option.some.inj h1).symm
def AtK (a : Act) (d : Option Tmp) (G : Value → World → Prop) : Act → World → Prop := fun a'' w' => ∃ v, a'' = a.put d v ∧ G v w'
theorem AtK.move {a a' : Act} {d : Option Tmp} {G : Value → World → Prop} (hin : ∀ t, d = some t → t < a'.tmps.size) {v : Value} {w : World} (h : AtK a' d G (a'.put d v) w) : AtK a d G (a.put d v) w := by
  obtain ⟨u, hu, hG⟩ := h
  rcases put_inj hin hu with rfl | rfl
  · exact ⟨u, rfl, hG⟩
  · exact ⟨_, rfl, hG⟩
theorem upon_move {P : Program} {o : Oper} {a a' : Act} {Q : Exit → Act → World → Prop} {G : Value → World → Prop} (hin : ∀ t, o.dst = some t → t < a'.tmps.size) (r : Result Next)
    (h : o.upon P a' (AtK a' o.dst G) NoExit r) : o.upon P a (AtK a o.dst G) Q r := by
  cases r with
  | ok n w' =>
    cases n <;> simp only [Oper.upon] at h ⊢
    case value v => exact h.move hin
    case skip => exact h.move hin
    case defer d =>
      obtain ⟨u, hu, _⟩ := h
      have := congrArg Act.defers hu
      rw [put_defers, put_defers] at this
      simp at this
    case enter f args =>
      refine Calls.mono h fun e w'' he => ?_
      cases e with
      | returned v => exact AtK.move hin he
      | panicked c => exact (he : False).elim
      | outgrown => obtain ⟨_, _, hx⟩ := he; exact (hx : False).elim
    case row row args => exact Rows.mono h fun v w'' he => AtK.move hin he
  | halt x w' =>
    cases x <;> simp only [Oper.upon] at h ⊢
    case panic v => exact (h : False).elim
/-- What the value of an operation is known to meet, by numbers. -/
def DepJ (Js : List (Value → World → Prop)) (vs : Nat → Value) (w : World) : List Nat → Prop
  | [] => True
  | j :: r => (Js.getD j fun _ _ => True) (vs j) w ∧ DepJ Js vs w r
def AllStable (R : World → World → Prop) : List (Value → World → Prop) → Prop
  | [] => True
  | J :: r => (∀ v w w', R w w' → J v w → J v w') ∧ AllStable R r
def AllJ (vs : Nat → Value) (w : World) : Nat → List (Value → World → Prop) → Prop
  | _, [] => True
  | i, J :: r => J (vs i) w ∧ AllJ vs w (i + 1) r
def StepOb (P : Program) (ops : Array Oper) (ds : List (Option Tmp)) (Js : List (Value → World → Prop)) (R : World → World → Prop) (a0 : Act) (w0 : World) (o : Oper) (d : List Nat) (J : Value → World → Prop) : Prop :=
  ∀ (vs : Nat → Value) (w : World) (K : Act → World → Prop), DepJ Js vs w d → R w0 w →
    Shut (∀ v w', R w w' → J v w' → K ((fillD ds 0 vs a0).put o.dst v) w') →
    if Region.wanted o (yielded ops (fillD ds 0 vs a0).tmps) = true then o.wp P (fillD ds 0 vs a0) w K NoExit else K ((fillD ds 0 vs a0).put o.dst undef) w
def StepsOb (P : Program) (ops : Array Oper) (ds : List (Option Tmp)) (Js : List (Value → World → Prop)) (R : World → World → Prop) (a0 : Act) (w0 : World) : List Oper → List (List Nat) → List (Value → World → Prop) → Prop
  | [], _, _ => True
  | o :: os, d :: dd, J :: Jr => StepOb P ops ds Js R a0 w0 o d J ∧ StepsOb P ops ds Js R a0 w0 os dd Jr
  | _ :: _, _, _ => False
theorem stepsOb_get {P : Program} {ops : Array Oper} {ds : List (Option Tmp)} {Js : List (Value → World → Prop)} {R : World → World → Prop} {a0 : Act} {w0 : World} :
    ∀ (os : List Oper) (dd : List (List Nat)) (Jr : List (Value → World → Prop)), StepsOb P ops ds Js R a0 w0 os dd Jr → ∀ (i : Nat) (o : Oper), os[i]? = some o →
      ∃ d J, dd[i]? = some d ∧ Jr[i]? = some J ∧ StepOb P ops ds Js R a0 w0 o d J
  | [], _, _, _, i, o, h => by simp at h
  | o :: os, d :: dd, J :: Jr, h, 0, o', ho => by
    simp at ho
    subst ho
    exact ⟨d, J, rfl, rfl, h.1⟩
  | o :: os, d :: dd, J :: Jr, h, i + 1, o', ho => by
    obtain ⟨d', J', h1, h2, h3⟩ := stepsOb_get os dd Jr h.2 i o' (by simpa using ho)
    exact ⟨d', J', by simpa using h1, by simpa using h2, h3⟩
  | _ :: _, [], _, h, _, _, _ => (h : False).elim
  | _ :: _, _ :: _, [], h, _, _, _ => (h : False).elim
theorem allStable_get {R : World → World → Prop} : ∀ (Js : List (Value → World → Prop)) (i : Nat) (J : Value → World → Prop), AllStable R Js → Js[i]? = some J → ∀ v w w', R w w' → J v w → J v w'
  | [], i, J, _, h => by simp at h
  | J :: r, 0, J', h, hi => by
    simp at hi
    subst hi
    exact h.1
  | J :: r, i + 1, J', h, hi => allStable_get r i J' h.2 (by simpa using hi)
theorem allJ_of {vs : Nat → Value} {w : World} : ∀ (Jr : List (Value → World → Prop)) (i : Nat), (∀ (k : Nat) (J : Value → World → Prop), Jr[k]? = some J → J (vs (i + k)) w) → AllJ vs w i Jr
  | [], _, _ => trivial
  | J :: r, i, h => ⟨h 0 J rfl, allJ_of r (i + 1) fun k J' hk => by
      have := h (k + 1) J' (by simpa using hk)
      rwa [show i + (k + 1) = i + 1 + k from by omega] at this⟩
theorem depJ_of {Js : List (Value → World → Prop)} {vs : Nat → Value} {w : World} : ∀ (l : List Nat), (∀ j ∈ l, (Js.getD j fun _ _ => True) (vs j) w) → DepJ Js vs w l
  | [], _ => trivial
  | j :: r, h => ⟨h j (by simp), depJ_of r fun k hk => h k (by simp [hk])⟩
/-- The table's own conditions, as a Bool. -/
def looksOk (ds : List (Option Tmp)) (looks : List Tmp) (d : List Nat) : Bool :=
  (List.range ds.length).all fun j => match ds[j]? with
    | some (some t) => !looks.contains t || d.contains j
    | _ => true
def depsOk (ops : Array Oper) (ds : List (Option Tmp)) : Nat → List Oper → List (List Nat) → Bool
  | _, [], _ => true
  | i, o :: os, d :: dd => looksOk ds (o.looksAt ops) d && d.all (fun j => o.after.any fun e => Region.binds .any e && e.on == j) && o.after.all (fun e => !Region.binds .any e || decide (e.on < i)) && depsOk ops ds (i + 1) os dd
  | _, _ :: _, [] => false
def linOk (ops : Array Oper) (ds : List (Option Tmp)) (dd : List (List Nat)) : Bool :=
  (ops.toList.map (·.dst) == ds) && distinctD ds && Region.noSelect ops && depsOk ops ds 0 ops.toList dd
theorem depsOk_get {ops : Array Oper} {ds : List (Option Tmp)} : ∀ (os : List Oper) (dd : List (List Nat)) (k : Nat), depsOk ops ds k os dd = true → ∀ (i : Nat) (o : Oper), os[i]? = some o →
    ∃ d, dd[i]? = some d ∧ (∀ (j : Nat) (t : Tmp), ds[j]? = some (some t) → t ∈ o.looksAt ops → j ∈ d) ∧ (∀ j ∈ d, ∃ e ∈ o.after, Region.binds .any e = true ∧ e.on = j) ∧ ∀ e ∈ o.after, Region.binds .any e = true → e.on < k + i
  | [], _, _, _, i, o, ho => by simp at ho
  | o :: os, [], _, h, _, _, _ => by simp [depsOk] at h
  | o :: os, d :: dd, k, h, 0, o', ho => by
    simp at ho
    subst ho
    simp only [depsOk, Bool.and_eq_true] at h
    refine ⟨d, rfl, fun j t hj ht => ?_, fun j hj => ?_, fun e he hb => ?_⟩
    · have h1 := h.1.1.1
      simp only [looksOk, List.all_eq_true, List.mem_range] at h1
      have hlt : j < ds.length := (List.getElem?_eq_some_iff.1 hj).1
      have h2 := h1 j hlt
      rw [hj] at h2
      simp only [Bool.or_eq_true, Bool.not_eq_true', List.contains_eq_mem, decide_eq_false_iff_not, decide_eq_true_eq] at h2
      rcases h2 with h2 | h2
      · exact absurd ht h2
      · exact h2
    · have h1 := (List.all_eq_true.1 h.1.1.2) j hj
      obtain ⟨e, he, hb⟩ := Array.any_eq_true'.1 h1
      simp only [Bool.and_eq_true, beq_iff_eq] at hb
      exact ⟨e, he, hb.1, hb.2⟩
    · have h1 := (Array.all_eq_true_iff_forall_mem.1 h.1.2) e he
      simpa [hb] using h1
  | o :: os, d :: dd, k, h, i + 1, o', ho => by
    simp only [depsOk, Bool.and_eq_true] at h
    obtain ⟨d', h1, h2, h3, h4⟩ := depsOk_get os dd (k + 1) h.2 i o' (by simpa using ho)
    exact ⟨d', by simpa using h1, h2, h3, fun e he hb => by have := h4 e he hb; omega⟩
theorem all_listed {ops : Array Oper} {listed : Array Bool} (hb : ∀ (i : Nat) (o : Oper), ops[i]? = some o → ∀ e ∈ o.after, Region.binds .any e = true → e.on < i) (hs : listed.size = ops.size)
    (hr : Region.ready .any ops listed = []) : ∀ i, i < ops.size → listed.getD i false = true := by
  intro i
  induction i using Nat.strongRecOn with
  | _ i ih =>
    intro hi
    cases hl : listed.getD i false with
    | true => rfl
    | false =>
      have : i ∈ Region.ready .any ops listed := by
        refine mem_ready.2 ⟨?_, ops[i], by simp [hi], fun e he hbe => ?_⟩
        · have h' : i < listed.size := by omega
          simp [h'] at hl ⊢
          exact hl
        · have := hb i ops[i] (by simp [hi]) e he hbe
          exact ih e.on this (by omega)
      rw [hr] at this
      simp at this
theorem count_set : ∀ (l : List Bool) (i : Nat), l[i]? = some false → (l.set i true).count false + 1 = l.count false
  | [], _, h => by simp at h
  | b :: r, 0, h => by
    simp at h
    subst h
    simp
  | b :: r, i + 1, h => by
    have := count_set r i (by simpa using h)
    cases b <;> simp <;> omega
section
variable {P : Program} {ops : Array Oper} {Q : Exit → Act → World → Prop}
/-- What holds on the way through a region, whatever has come up. -/
structure Way (ops : Array Oper) (ds : List (Option Tmp)) (Js : List (Value → World → Prop)) (R : World → World → Prop) (a0 : Act) (w0 : World) (listed : Array Bool) (vs : Nat → Value) (a : Act) (w : World) : Prop where
  r : R w0 w
  defers : a.defers = a0.defers
  size : a.tmps.size = a0.tmps.size
  lsize : listed.size = ops.size
  out : ∀ t, (∀ i, listed.getD i false = true → ds[i]? ≠ some (some t)) → a.tmps[t]? = a0.tmps[t]?
  inn : ∀ i t, listed.getD i false = true → ds[i]? = some (some t) → a.tmps[t]? = some (vs i)
  js : ∀ i J, listed.getD i false = true → Js[i]? = some J → J (vs i) w
theorem getD_set {l : Array Bool} {i j : Nat} (hi : i < l.size) : (l.setIfInBounds i true).getD j false = (if i = j then true else l.getD j false) := by
  by_cases h : i = j
  · subst h; simp [hi]
  · rw [if_neg h, getD_set_ne false h]
theorem Way.step {ds : List (Option Tmp)} {Js : List (Value → World → Prop)} {R : World → World → Prop} {a0 : Act} {w0 : World} {listed : Array Bool} {vs : Nat → Value} {a : Act} {w : World}
    (htr : ∀ x y z, R x y → R y z → R x z) (hst : AllStable R Js) (hdi : distinctD ds = true) (hin : ∀ (i : Nat) (t : Tmp), ds[i]? = some (some t) → t < a0.tmps.size)
    (h : Way ops ds Js R a0 w0 listed vs a w) {i : Nat} {d : Option Tmp} (hi : i < ops.size) (hd : ds[i]? = some d) (hun : listed.getD i true = false) {v : Value} {w' : World} (hR : R w w') (hJ : ∀ J, Js[i]? = some J → J v w') :
    Way ops ds Js R a0 w0 (listed.setIfInBounds i true) (fun j => if j = i then v else vs j) (a.put d v) w' := by
  have hl : i < listed.size := by rw [h.lsize]; exact hi
  have hun' : listed.getD i false = false := by
    simp [hl] at hun ⊢
    exact hun
  have dne : ∀ j t, j ≠ i → ds[j]? = some (some t) → d ≠ some t := by
    intro j t hj hjt e
    subst e
    have key : ∀ (l : List (Option Tmp)) (i j : Nat), distinctD l = true → l[i]? = some (some t) → l[j]? = some (some t) → i = j := by
      intro l
      induction l with
      | nil => intro i j _ h; simp at h
      | cons x r ih =>
        intro i j hl h1 h2
        have hr : distinctD r = true := by
          cases x with
          | none => exact hl
          | some x => simp [distinctD] at hl; exact hl.2
        have hx : x = some t → some t ∉ r := by
          rintro rfl
          simp [distinctD] at hl
          simpa using hl.1
        cases i <;> cases j
        · rfl
        · simp at h1 h2
          exact absurd (List.mem_of_getElem? h2) (hx h1)
        · simp at h1 h2
          exact absurd (List.mem_of_getElem? h1) (hx h2)
        · simp at h1 h2
          rw [ih _ _ hr h1 h2]
    exact hj (key ds j i hdi hjt hd)
  refine ⟨htr _ _ _ h.r hR, by rw [put_defers]; exact h.defers, by rw [put_size]; exact h.size, by simpa using h.lsize, fun t ht => ?_, fun j t hj hjt => ?_, fun j J hj hJj => ?_⟩
  · have hne : d ≠ some t := fun e => by
      refine ht i ?_ (by rw [hd, e])
      rw [getD_set hl, if_pos rfl]
    rw [put_ne _ _ _ _ hne]
    refine h.out t fun j hj => ht j ?_
    rw [getD_set hl]
    split
    · rfl
    · exact hj
  · by_cases e : j = i
    · subst e
      rw [hd] at hjt
      injection hjt with hjt
      subst hjt
      rw [if_pos rfl]
      exact put_eq _ _ _ (by rw [h.size]; exact hin _ t hd)
    · rw [if_neg e, put_ne _ _ _ _ (dne j t e hjt)]
      rw [getD_set hl, if_neg (Ne.symm e)] at hj
      exact h.inn j t hj hjt
  · by_cases e : j = i
    · subst e
      rw [if_pos rfl]
      exact hJ J hJj
    · rw [if_neg e]
      rw [getD_set hl, if_neg (Ne.symm e)] at hj
      exact allStable_get Js j J hst hJj _ _ _ hR (h.js j J hj hJj)
theorem Way.agree {ds : List (Option Tmp)} {Js : List (Value → World → Prop)} {R : World → World → Prop} {a0 : Act} {w0 : World} {listed : Array Bool} {vs : Nat → Value} {a : Act} {w : World}
    (hdi : distinctD ds = true) (hin : ∀ (i : Nat) (t : Tmp), ds[i]? = some (some t) → t < a0.tmps.size) (h : Way ops ds Js R a0 w0 listed vs a w) {o : Oper} {d : List Nat}
    (hl : ∀ (j : Nat) (t : Tmp), ds[j]? = some (some t) → t ∈ o.looksAt ops → j ∈ d) (hd : ∀ j ∈ d, listed.getD j false = true) : Agree ops o a (fillD ds 0 vs a0) := by
  intro t ht
  by_cases hm : some t ∈ ds
  · obtain ⟨j, hj⟩ := List.mem_iff_getElem?.1 hm
    rw [h.inn j t (hd j (hl j t hj ht)) hj, fillD_in ds 0 vs a0 t j hdi hj (hin j t hj)]
    simp
  · rw [fillD_out ds 0 vs a0 t hm]
    exact h.out t fun j _ hj => hm (List.mem_of_getElem? hj)
theorem Way.full {ds : List (Option Tmp)} {Js : List (Value → World → Prop)} {R : World → World → Prop} {a0 : Act} {w0 : World} {listed : Array Bool} {vs : Nat → Value} {a : Act} {w : World}
    (hdi : distinctD ds = true) (hin : ∀ (i : Nat) (t : Tmp), ds[i]? = some (some t) → t < a0.tmps.size) (h : Way ops ds Js R a0 w0 listed vs a w) (hlen : ds.length = ops.size)
    (hall : ∀ i, i < ops.size → listed.getD i false = true) : a = fillD ds 0 vs a0 := by
  have h1 : a.tmps = (fillD ds 0 vs a0).tmps := by
    apply Array.ext_getElem?
    intro t
    by_cases hm : some t ∈ ds
    · obtain ⟨j, hj⟩ := List.mem_iff_getElem?.1 hm
      have hlt : j < ds.length := (List.getElem?_eq_some_iff.1 hj).1
      rw [h.inn j t (hall j (by omega)) hj, fillD_in ds 0 vs a0 t j hdi hj (hin j t hj)]
      simp
    · rw [fillD_out ds 0 vs a0 t hm]
      exact h.out t fun j _ hj => hm (List.mem_of_getElem? hj)
  have h2 : a.defers = (fillD ds 0 vs a0).defers := by rw [fillD_defers]; exact h.defers
  cases a
  cases hf : fillD ds 0 vs a0
  rw [hf] at h1 h2
  simp only at h1 h2
  rw [h1, h2]
theorem Way.any {ds : List (Option Tmp)} {dd : List (List Nat)} {Js : List (Value → World → Prop)} {R : World → World → Prop} {a0 : Act} {w0 : World}
    (htr : ∀ x y z, R x y → R y z → R x z) (hst : AllStable R Js) (hok : linOk ops ds dd = true) (hin : ∀ (i : Nat) (t : Tmp), ds[i]? = some (some t) → t < a0.tmps.size)
    (hsteps : StepsOb P ops ds Js R a0 w0 ops.toList dd Js) (hJl : Js.length = ops.size)
    (hend : ∀ vs w', AllJ vs w' 0 Js → R w0 w' → Q .normal (fillD ds 0 vs a0) w') :
    ∀ (fuel : Nat) (listed : Array Bool) (vs : Nat → Value) (a : Act) (w : World), Way ops ds Js R a0 w0 listed vs a w → listed.toList.count false ≤ fuel → wpAny P .any ops Q fuel listed a w := by
  simp only [linOk, Bool.and_eq_true, beq_iff_eq] at hok
  obtain ⟨⟨⟨hds, hdi⟩, hsel⟩, hdep⟩ := hok
  have hlen : ds.length = ops.size := by rw [← hds]; simp
  have hback : ∀ (i : Nat) (o : Oper), ops[i]? = some o → ∀ e ∈ o.after, Region.binds .any e = true → e.on < i := by
    intro i o ho e he hb
    obtain ⟨d, _, _, _, h4⟩ := depsOk_get ops.toList dd 0 hdep i o (by simpa using ho)
    simpa using h4 e he hb
  have hfin : ∀ (listed : Array Bool) (vs : Nat → Value) (a : Act) (w : World), Way ops ds Js R a0 w0 listed vs a w → Region.ready .any ops listed = [] → Q .normal a w := by
    intro listed vs a w h hr
    have hall := all_listed hback h.lsize hr
    rw [h.full hdi hin hlen hall]
    refine hend vs w (allJ_of Js 0 fun k J hk => ?_) h.r
    have hlt : k < Js.length := (List.getElem?_eq_some_iff.1 hk).1
    rw [Nat.zero_add]
    exact h.js k J (hall k (by omega)) hk
  intro fuel
  induction fuel with
  | zero =>
    intro listed vs a w h hc
    have hr : Region.ready .any ops listed = [] := by
      cases hr : Region.ready .any ops listed with
      | nil => rfl
      | cons i r =>
        obtain ⟨h0, o, ho, _⟩ := mem_ready.1 (show i ∈ Region.ready .any ops listed by rw [hr]; simp)
        have hlt : i < listed.size := by rw [h.lsize]; exact (Array.getElem?_eq_some_iff.1 ho).1
        have : false ∈ listed.toList := by
          rw [List.mem_iff_getElem?]
          refine ⟨i, ?_⟩
          simp [hlt] at h0 ⊢
          exact h0
        have := List.count_pos_iff.2 this
        omega
    exact ⟨hr, hfin listed vs a w h hr⟩
  | succ fuel ih =>
    intro listed vs a w h hc
    refine ⟨fun hr => hfin listed vs a w h hr, fun i hi => ?_⟩
    obtain ⟨h0, o, ho, hpre⟩ := mem_ready.1 hi
    have hio : i < ops.size := (Array.getElem?_eq_some_iff.1 ho).1
    have hlt : i < listed.size := by rw [h.lsize]; exact hio
    obtain ⟨d, J, hdi', hJi, hob⟩ := stepsOb_get ops.toList dd Js hsteps i o (by simpa using ho)
    obtain ⟨d', hd', hl1, hl2, _⟩ := depsOk_get ops.toList dd 0 hdep i o (by simpa using ho)
    rw [hdi'] at hd'
    obtain rfl := Option.some.inj hd'
    have hdl : ∀ j ∈ d, listed.getD j false = true := fun j hj => by
      obtain ⟨e, he, hb, rfl⟩ := hl2 j hj
      exact hpre e he hb
    have hag := h.agree hdi hin hl1 hdl
    have hdsi : ds[i]? = some o.dst := by rw [← hds]; simp [ho]
    have hdep' : DepJ Js vs w d := depJ_of d fun j hj => by
      cases hj' : Js[j]? with
      | none => simp [List.getD, hj']
      | some J' =>
        have := h.js j J' (hdl j hj) hj'
        simpa [List.getD, hj'] using this
    have hcount : (listed.setIfInBounds i true).toList.count false + 1 = listed.toList.count false := by
      rw [Array.toList_setIfInBounds]
      refine count_set _ _ ?_
      simp [hlt] at h0 ⊢
      exact h0
    have next : ∀ v w', R w w' → J v w' → wpAny P .any ops Q fuel (listed.setIfInBounds i true) (a.put o.dst v) w' := fun v w' hR hJ =>
      ih _ _ _ _ (h.step htr hst hdi hin hio hdsi h0 hR (fun J' hJ' => by rw [hJi] at hJ'; rw [← Option.some.inj hJ']; exact hJ)) (by omega)
    unfold wpOp
    simp only [ho]
    have hob' := hob vs w (AtK (fillD ds 0 vs a0) o.dst fun v w' => R w w' ∧ J v w') hdep' h.r (fun v w' hR hJ => ⟨v, rfl, hR, hJ⟩)
    have hin' : ∀ t, o.dst = some t → t < (fillD ds 0 vs a0).tmps.size := fun t ht => by
      rw [fillD_size]
      exact hin i t (by rw [hdsi, ht])
    rw [← hag.wanted] at hob'
    split
    · rename_i hw
      rw [if_pos hw] at hob'
      left
      unfold Oper.wp at hob' ⊢
      rw [← hag.exec (Region.noSelect_spec hsel i o · · ho)] at hob'
      have := upon_move (Q := Q) (a := a) hin' _ hob'
      refine Oper.wp_mono (P := P) (o := o) (a := a) (w := w) (Q := Q) ?_ this
      rintro a'' w'' ⟨v, rfl, hR, hJ⟩
      exact next v w'' hR hJ
    · rename_i hw
      rw [if_neg hw] at hob'
      obtain ⟨v, hv, hR, hJ⟩ := hob'
      rcases put_inj hin' hv with hn | rfl
      · have hx := next v w hR hJ
        rw [hn] at hx ⊢
        exact hx
      · exact next _ w hR hJ
end
def inB (ds : List (Option Tmp)) (n : Nat) : Bool := ds.all fun d => match d with | some t => decide (t < n) | none => true
theorem inB_get {ds : List (Option Tmp)} {n : Nat} (h : inB ds n = true) : ∀ (i : Nat) (t : Tmp), ds[i]? = some (some t) → t < n := by
  intro i t hi
  have := (List.all_eq_true.1 h) (some t) (List.mem_of_getElem? hi)
  simpa using this
def BelowR (w w' : World) : Prop := Below w.heap.size w w'
theorem BelowR.trans (x y z : World) (h : BelowR x y) (k : BelowR y z) : BelowR x z := Below.trans h (Below.mono k h.size)
theorem BelowR.refl (x : World) : BelowR x x := Below.refl _ _
end Go.Reg

