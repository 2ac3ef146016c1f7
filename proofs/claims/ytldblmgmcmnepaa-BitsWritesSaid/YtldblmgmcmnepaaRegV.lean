/- Lemmas and walks on the way to the seat's laws; each theorem says its own conditions. -/
import Derived.Test.YtldblmgmcmnepaaB1
import Derived.Test.YtldblmgmcmnepaaHPlain
import Derived.Test.YtldblmgmcmnepaaLiftB
import Derived.Test.YtldblmgmcmnepaaOPlain
import Derived.OwnWalk
set_option linter.unusedSimpArgs false
set_option linter.unusedVariables false
set_option linter.unusedSimpArgs false
set_option linter.unusedVariables false
set_option maxRecDepth 100000
namespace Go.Proofs.Ytldblmgmcmnepaa
open Go.RowKit Go.Mem Go.Reg Oct Bit
set_option maxHeartbeats 1600000 in
theorem blen_any (u : Int) (l : List UInt8) (v : Value) (w : World) (hb : Bs w v l) (hl : l.length ≤ 1000000) :
    Calls Try.prog 29 #[.agg #[.int .i64 u, v]] w fun e w' => e = .returned (.int .i64 (lenI u l)) ∧ Below w.heap.size w w' := by
  obtain ⟨A, c, rfl, hlc, hcm, hA, hcell⟩ := hb.open
  have hR := bright_any u l (.slice A l.length c)
  have hLr := @right_range u l
  have hL : lenI u l = if rightB u l then 8 * (l.length : Int) - u else 0 := rfl
  generalize lenI u l = N at *
  generalize rightB u l = r at *
  have H := Hp.start w
  have C : True := trivial
  cases r
  · rw [if_neg (by simp)] at hL
    subst hL
    clear hLr
    go_enter Try.func29, Try.ntmps29
    (repeat' ((fail_if_success (with_reducible show bodyPost _ _ _ _ _ _)); first | ((with_reducible refine Hp.abs_alloc H ?_); intro b' w' H' hb'; (try simp only [hb']); clear hb'; ((try simp only [z0, z1, z2] at H'); clear C H; have H := H'; clear H'; have C := Hp.facts H; simp only [Facts, factsL, and_true, true_and, z0, z1, z2] at C)) | ((with_reducible show wpList _ _ _ _ _ (World.setCell _ _ _)); (with_reducible apply Hp.abs_gen H); (first | ((repeat (with_reducible apply Hp.set' 0)); (with_reducible exact H); (repeat rfl); intro w' H') | ((repeat (with_reducible apply Hp.set' 1)); (with_reducible exact H); (repeat rfl); intro w' H') | ((repeat (with_reducible apply Hp.set' 2)); (with_reducible exact H); (repeat rfl); intro w' H') | ((repeat (with_reducible apply Hp.set' 3)); (with_reducible exact H); (repeat rfl); intro w' H') | ((repeat (with_reducible apply Hp.set' 4)); (with_reducible exact H); (repeat rfl); intro w' H') | ((repeat (with_reducible apply Hp.set' 5)); (with_reducible exact H); (repeat rfl); intro w' H') | ((repeat (with_reducible apply Hp.set' 6)); (with_reducible exact H); (repeat rfl); intro w' H') | ((repeat (with_reducible apply Hp.set' 7)); (with_reducible exact H); (repeat rfl); intro w' H')); ((try simp only [z0, z1, z2] at H'); clear C H; have H := H'; clear H'; have C := Hp.facts H; simp only [Facts, factsL, and_true, true_and, z0, z1, z2] at C)) | (go_at_call 27; refine (hR _ (H.bs hb)).mono ?_; rintro e' w' ⟨rfl, hb'⟩; (have H' := Hp.step H hb'; clear hb'; ((try simp only [z0, z1, z2] at H'); clear C H; have H := H'; clear H'; have C := Hp.facts H; simp only [Facts, factsL, and_true, true_and, z0, z1, z2] at C))) | go_values | go_skip | go_guarded | go_step | go_upon | go_back | (simp only [Int.not_lt, Int.not_le] at *; go_simp) | (go_values <;> (try go_simp)) | (go_ite <;> go_prune <;> (try go_simp)) | (split <;> (first | (rename_i hx; exact (hx _ rfl).elim) | go_prune))))
    go_ret
    exact ⟨rfl, H.low⟩
  · rw [if_pos rfl] at hL
    have hLr := hLr rfl
    subst hL
    go_enter Try.func29, Try.ntmps29
    (repeat' ((fail_if_success (with_reducible show bodyPost _ _ _ _ _ _)); first | ((with_reducible refine Hp.abs_alloc H ?_); intro b' w' H' hb'; (try simp only [hb']); clear hb'; ((try simp only [z0, z1, z2] at H'); clear C H; have H := H'; clear H'; have C := Hp.facts H; simp only [Facts, factsL, and_true, true_and, z0, z1, z2] at C)) | ((with_reducible show wpList _ _ _ _ _ (World.setCell _ _ _)); (with_reducible apply Hp.abs_gen H); (first | ((repeat (with_reducible apply Hp.set' 0)); (with_reducible exact H); (repeat rfl); intro w' H') | ((repeat (with_reducible apply Hp.set' 1)); (with_reducible exact H); (repeat rfl); intro w' H') | ((repeat (with_reducible apply Hp.set' 2)); (with_reducible exact H); (repeat rfl); intro w' H') | ((repeat (with_reducible apply Hp.set' 3)); (with_reducible exact H); (repeat rfl); intro w' H') | ((repeat (with_reducible apply Hp.set' 4)); (with_reducible exact H); (repeat rfl); intro w' H') | ((repeat (with_reducible apply Hp.set' 5)); (with_reducible exact H); (repeat rfl); intro w' H') | ((repeat (with_reducible apply Hp.set' 6)); (with_reducible exact H); (repeat rfl); intro w' H') | ((repeat (with_reducible apply Hp.set' 7)); (with_reducible exact H); (repeat rfl); intro w' H')); ((try simp only [z0, z1, z2] at H'); clear C H; have H := H'; clear H'; have C := Hp.facts H; simp only [Facts, factsL, and_true, true_and, z0, z1, z2] at C)) | (go_at_call 27; refine (hR _ (H.bs hb)).mono ?_; rintro e' w' ⟨rfl, hb'⟩; (have H' := Hp.step H hb'; clear hb'; ((try simp only [z0, z1, z2] at H'); clear C H; have H := H'; clear H'; have C := Hp.facts H; simp only [Facts, factsL, and_true, true_and, z0, z1, z2] at C))) | go_values | go_skip | go_guarded | go_step | go_upon | go_back | (simp only [Int.not_lt, Int.not_le] at *; go_simp) | (go_values <;> (try go_simp)) | (go_ite <;> go_prune <;> (try go_simp)) | (split <;> (first | (rename_i hx; exact (hx _ rfl).elim) | go_prune))))
    go_ret
    exact ⟨by go_num, H.low⟩
set_option maxHeartbeats 1600000 in
theorem bit_any (u : Int) (l : List UInt8) (v : Value) (i : Nat) (w : World) (hb : Bs w v l) (hl : l.length ≤ 1000000) (hi : i < 8 * l.length) :
    Calls Try.prog 83 #[.agg #[.int .i64 u, v], .int .i64 (i : Int)] w fun e w' => e = .returned (.bool (bitN l i)) ∧ Below w.heap.size w w' := by
  obtain ⟨A, c, rfl, hlc, hcm, hA, hcell⟩ := hb.open
  obtain ⟨b, o, rfl, hgl, hc⟩ := hcell 0 (by omega)
  have hq : i / 8 < l.length := by omega
  have hc := hc (i / 8) hq
  have H := Hp.start w
  have C : True := trivial
  go_enter Try.func83, Try.ntmps83
  (repeat' ((fail_if_success (with_reducible show bodyPost _ _ _ _ _ _)); first | ((with_reducible refine Hp.abs_alloc H ?_); intro b' w' H' hb'; (try simp only [hb']); clear hb'; ((try simp only [z0, z1, z2] at H'); clear C H; have H := H'; clear H'; have C := Hp.facts H; simp only [Facts, factsL, and_true, true_and, z0, z1, z2] at C)) | ((with_reducible show wpList _ _ _ _ _ (World.setCell _ _ _)); (with_reducible apply Hp.abs_gen H); (first | ((repeat (with_reducible apply Hp.set' 0)); (with_reducible exact H); (repeat rfl); intro w' H') | ((repeat (with_reducible apply Hp.set' 1)); (with_reducible exact H); (repeat rfl); intro w' H') | ((repeat (with_reducible apply Hp.set' 2)); (with_reducible exact H); (repeat rfl); intro w' H') | ((repeat (with_reducible apply Hp.set' 3)); (with_reducible exact H); (repeat rfl); intro w' H') | ((repeat (with_reducible apply Hp.set' 4)); (with_reducible exact H); (repeat rfl); intro w' H') | ((repeat (with_reducible apply Hp.set' 5)); (with_reducible exact H); (repeat rfl); intro w' H') | ((repeat (with_reducible apply Hp.set' 6)); (with_reducible exact H); (repeat rfl); intro w' H') | ((repeat (with_reducible apply Hp.set' 7)); (with_reducible exact H); (repeat rfl); intro w' H')); ((try simp only [z0, z1, z2] at H'); clear C H; have H := H'; clear H'; have C := Hp.facts H; simp only [Facts, factsL, and_true, true_and, z0, z1, z2] at C)) | go_values | go_skip | go_guarded | go_step | go_upon | go_back | (simp only [Int.not_lt, Int.not_le] at *; go_simp) | (go_values <;> (try go_simp)) | (go_ite <;> go_prune <;> (try go_simp)) | (split <;> (first | (rename_i hx; exact (hx _ rfl).elim) | go_prune))))
  go_ret
  exact ⟨ret_bool (bit_val hq), H.low⟩
end Go.Proofs.Ytldblmgmcmnepaa

/- A make within a region that draws. No condition on a program. -/
namespace Go.Reg
open Go.RowKit Go.Mem
theorem made_u8 (n : Nat) : (madeCells (Value.int .u8 0).cells (n * 1)).toList = (List.replicate n (0 : UInt8)).map u8c := by
  rw [Nat.mul_one]
  have : madeCells (Value.int .u8 0).cells n = Array.replicate n (.int .u8 0) := by
    apply Array.ext
    · simp [madeCells, Value.cells]
    · intro i h1 h2
      simp [madeCells, Value.cells, Nat.mod_one]
  rw [this]
  simp [u8c]
end Go.Reg
namespace Go.Reg
open Go.RowKit Go.Mem
theorem RowJ.bs {B : Nat} {T : TypeId} {n : Nat} {l : List UInt8} {v : Value} {w : World} (h : RowJ B T n (l.map u8c) v w) : Bs w v l := by
  have hn : n = (l.map u8c).length := by
    rcases h with ⟨h1, h2⟩
    omega
  subst hn
  exact slice_of_own h
/-- Two rows in a slice of two. -/
def TwoJ (B : Nat) (U T : TypeId) (n m : Nat) (a b : List UInt8) : Value → World → Prop := fun v w =>
  ∃ k x y, v = .slice (some ⟨k, 0, none⟩) 2 2 ∧ B ≤ k ∧ w.heap[k]? = some (.cells #[x, y] U (0, 0)) ∧ RowJ B T n (a.map u8c) x w ∧ RowJ B T m (b.map u8c) y w
theorem TwoJ.stay {B : Nat} {U T : TypeId} {n m : Nat} {a b : List UInt8} {v : Value} {w w' : World} (hs : AboveR B w w') (h : TwoJ B U T n m a b v w) : TwoJ B U T n m a b v w' := by
  obtain ⟨k, x, y, e, hB, hk, hx, hy⟩ := h
  exact ⟨k, x, y, e, hB, (hs.2 k hB (Array.getElem?_eq_some_iff.1 hk).1).trans hk, hx.stay hs, hy.stay hs⟩
theorem TwoJ.mk {B : Nat} {U T : TypeId} {n m : Nat} {a b : List UInt8} {x y : Value} {w : World} (hB : B ≤ w.heap.size) (hx : RowJ B T n (a.map u8c) x w) (hy : RowJ B T m (b.map u8c) y w) :
    TwoJ B U T n m a b (.slice (some ⟨w.heap.size, 0, none⟩) 2 2) (w.alloc (.cells #[x, y] U)) := by
  have hb : Below w.heap.size w (w.alloc (.cells #[x, y] U)) := (Below.refl _ _).alloc (Nat.le_refl _) _
  have ha : AboveR B w (w.alloc (.cells #[x, y] U)) := ⟨hb.size, fun k _ hl => hb.block k hl⟩
  exact ⟨_, _, _, rfl, hB, heap_alloc_new w _, hx.stay ha, hy.stay ha⟩
end Go.Reg
namespace Go.Reg
open Go.RowKit Go.Mem
/-- append to a slice that has no room: what lay ahead lies as it lay. -/
theorem wp_append_new {P : Program} {w : World} {o : Oper} {a : Act} {K : Act → World → Prop} {N : Exit → Act → World → Prop} (s x : Operand) (t : TypeId) (ho : o.op = .call { callee := .builtin .append, args := #[s, x], argTypes := #[t, t] })
    {e : TypeId} {ti : TypeInfo} {z : Value} {bytes : Nat} (ht : P.underlying t = some (.slice e)) (hti : P.info? e = some ti) (hz : ti.zero = some z) (hsize : ti.size = 1) (hby : ti.bytes = bytes) (hzs : z.cells.size = 1)
    {g : Nat} (hs : a.eval s = .slice (some ⟨g, 0, none⟩) 0 0) (hg : w.heap[g]? = some (.cells #[] e (0, 0)))
    {A : Option Addr} {m c : Nat} {news : List Value} (hx : a.eval x = .slice A m c) (hl : news.length = m) (hA : A = none → c = 0 ∧ m = 0)
    (hnews : 0 < m → ∃ ad, A = some ad ∧ ∀ j u, news[j]? = some u → w.cell? (ad.add j) = some u) (h1 : ∀ u ∈ news, u.oneCell' = true) (h63 : m ≤ maxLen) (hbytes : m * bytes ≤ 140737488355328)
    {B : Nat} (hB : B ≤ w.heap.size) (hBg : B ≤ g)
    (h : ∀ v' w', Below w.heap.size w w' → RowJ B e m news v' w' → K (a.put o.dst v') w') : o.wp P a w K N := by
  have hgl : g < w.heap.size := (Array.getElem?_eq_some_iff.1 hg).1
  have key : ∃ v' w', (Builtin.append_ #[t, t] o.type #[.slice (some ⟨g, 0, none⟩) 0 0, .slice A m c]).run P w = .ok v' w' ∧ Below w.heap.size w w' ∧ RowJ B e m news v' w' := by
    have hown : w.ownsRow B e 1 (.slice (some ⟨g, 0, none⟩) 0 0) 0 [] := ⟨rfl, .inr ⟨g, 0, #[], rfl, hBg, hg, Nat.le_refl _, Nat.zero_le _, rfl, rfl⟩⟩
    rcases Nat.eq_zero_or_pos m with h0 | h0
    · subst h0
      have : news = [] := List.eq_nil_of_length_eq_zero hl
      subst this
      cases A with
      | none =>
        obtain ⟨rfl, -⟩ := hA rfl
        refine ⟨.slice (some ⟨g, 0, none⟩) 0 0, w, ?_, Below.refl _ _, hown⟩
        exact run_append_owned_none (P := P) w B t o.type e ti 1 ht hti _ 0 [] hown
      | some ad =>
        have hr : (Builtin.append_ #[t, t] o.type #[.slice (some ⟨g, 0, none⟩) 0 0, .slice (some ad) 0 c]).run P w = .ok (.slice (some ⟨g, 0, none⟩) 0 0) (w.setRow g #[]) := by
          have := run_append_room (P := P) w t o.type e ti ht hti g 0 0 #[] hg ad 0 c [] (by simp) (fun j u hj => by simp at hj) (fun u hu => by simp at hu) (by omega) (by simp)
          simpa using this
        have hh := setRow_heap w g #[] #[] e (0, 0) hg
        refine ⟨_, _, hr, ⟨rfl, rfl, rfl, by simp [World.setRow], fun k hk => ?_⟩, ⟨rfl, .inr ⟨g, 0, #[], rfl, hBg, hh, Nat.le_refl _, Nat.zero_le _, rfl, rfl⟩⟩⟩
        by_cases hkg : k = g
        · subst hkg
          exact hh.trans hg.symm
        · exact setRow_other w g k _ (fun h => hkg h)
    · obtain ⟨ad, rfl, hc⟩ := hnews h0
      have hr := run_append_grow (P := P) w t o.type e ti z ht hti hz ⟨g, 0, none⟩ 0 0 [] (by simp) (fun j v hj => by simp at hj) ad m c news (by rw [hl, hsize, Nat.mul_one]) hc (by omega) (by simp only [maxLen] at h63; omega) (growslice_fits (by omega) (by rw [hby, Nat.zero_add]; exact hbytes))
      obtain ⟨v', w', hr', h2, h3, _⟩ := run_append_own (P := P) w B t o.type e ti z 1 bytes ht hti hz hsize hby hzs (by decide) _ 0 [] hown ad m c news (by rw [hl, Nat.mul_one]) hc h1 (by omega) (by rw [Nat.zero_add]; exact hbytes) hB
      rw [hr] at hr'
      injection hr' with e1 e2
      subst e1 e2
      rw [Nat.zero_add] at hr h2
      rw [List.nil_append] at h2
      exact ⟨_, _, hr, ((Below.refl _ _).drew).alloc (Nat.le_refl _) _, h2⟩
  obtain ⟨v', w', hr, hb, hj⟩ := key
  unfold Oper.wp
  simp [execOp, ho, resolve, invoke, builtin, hs, hx, hr, Result.andThen]
  exact h v' w' hb hj
end Go.Reg
namespace Go.Reg
open Go.RowKit Go.Mem
/-- A row and a block of another type are apart. -/
theorem row_blk_apart {w : World} {B k : Nat} {T U : TypeId} {s n : Nat} {v : Value} {xs : List Value} {c : Array Value} (h : w.ownsRow B T s v n xs) (hk : w.heap[k]? = some (.cells c U (0, 0))) (hne : T ≠ U) :
    ∀ j, (Ent.row T s v n xs).fp = some j → (Ent.blk k c U).fp = some j → False := by
  intro j h1 h2
  simp only [Ent.fp, Option.some.injEq] at h1 h2
  subst h2
  rcases h.2 with ⟨rfl, -⟩ | ⟨g, cap, cur, rfl, -, hg, -⟩
  · simp [Value.ownBlock] at h1
  · simp only [Value.ownBlock, Option.some.injEq] at h1
    subst h1
    rw [hg] at hk
    injection hk with hk
    injection hk with _ e _
    exact hne e
end Go.Reg

