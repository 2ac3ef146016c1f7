/- Lemmas and walks on the way to the seat's laws; each theorem says its own conditions. -/
import Derived.Test.YtogliinfdfkobaaI5
import Derived.Test.YtogliinfdfkobaaTreeW
set_option linter.unusedSimpArgs false
set_option linter.unusedVariables false
set_option linter.unusedSimpArgs false
set_option linter.unusedVariables false
set_option maxRecDepth 100000
namespace Go.Proofs.Ytogliinfdfkobaa
open Go.RowKit Go.Mem Go.Reg Oct Hd Go.LawLift
/-- What Find gives: a tree of new memory, or that there is none. -/
def FindP (t : Tree) (ps : List Int) (w : World) (e : Ending) (w' : World) : Prop :=
  (∀ u, findT t ps = some u → ∃ (m : Nat) (cs : List Value), e = .returned (.tuple #[.agg cs.toArray, .int .i64 0]) ∧ ItP (fun b => b < 0 ∨ w.heap.size ≤ b) w' m u cs ∧ OwnB w.heap.size w' cs u) ∧
  (findT t ps = none → e = .returned (.tuple #[.agg #[.int .i64 0, .int .i64 0, .bool false, .slice none 0 0, .slice none 0 0], .int .i64 14])) ∧ Below w.heap.size w w'
/-- Find's loop: the tree that has been come to. -/
def FdRel (t : Tree) (ps : List Int) (b4 bt : Nat) (w : World) (ix : Value) (wr : World) : Prop := ∃ (j m : Nat) (u : Tree) (d0 d1 d2 d3 d4 : Value), j ≤ ps.length ∧ ix = .int .i64 j ∧ Kp (findT t ps = findT u (ps.drop j)) ∧ Kp (ItN w m u [d0, d1, d2, d3, d4]) ∧ Kp (u.count ≤ 200000) ∧ Kp (u.total ≤ 100000) ∧
  Hp w [.blk b4 #[.int .i64 0, .int .i64 0, .bool false, .slice none 0 0, .slice none 0 0] 41, .blk bt #[d0, d1, d2, d3, d4] 41] wr
theorem FdRel.mk {t : Tree} {ps : List Int} {b4 bt : Nat} {w wr : World} {ix : Value} (j m : Nat) (u : Tree) (d0 d1 d2 d3 d4 : Value) (h1 : j ≤ ps.length) (h2 : ix = .int .i64 j) (h3 : findT t ps = findT u (ps.drop j)) (h4 : ItN w m u [d0, d1, d2, d3, d4]) (h5 : u.count ≤ 200000) (h6 : u.total ≤ 100000)
  (h7 : Hp w [.blk b4 #[.int .i64 0, .int .i64 0, .bool false, .slice none 0 0, .slice none 0 0] 41, .blk bt #[d0, d1, d2, d3, d4] 41] wr) : FdRel t ps b4 bt w ix wr := ⟨j, m, u, d0, d1, d2, d3, d4, h1, h2, ⟨h3⟩, ⟨h4⟩, ⟨h5⟩, ⟨h6⟩, h7⟩
set_option maxHeartbeats 3200000 in
theorem find_any (n : Nat) (t : Tree) (cs : List Value) (ps : List Int) (v : Value) (w : World) (ht : ItN w n t cs) (hc : t.count ≤ 200000) (hq : t.total ≤ 100000) (hp : Sl w v (ps.map fun z => .int .i64 z)) (hpl : ps.length ≤ 1000000) :
    Calls Try.prog 21 #[.agg cs.toArray, v] w (FindP t ps w) := by
  obtain ⟨A, c, rfl, hlc, hcm, hA, hcell⟩ := hp
  rw [List.length_map] at *
  match cs, ht.len with
  | [d0, d1, d2, d3, d4], _ =>
  obtain ⟨x0, x1, x2, xA, xA2, xk, xc, xk2, xc2, rfl, rfl, rfl, rfl, rfl⟩ := ht.forms
  have H := Hp.start w
  have C : True := trivial
  have gP := Kp.mk (fun (e : Ending) (w' : World) (h : FindP t ps w e w') => h)
  obtain ⟨Q, hQ⟩ : ∃ Q, Q = FindP t ps w := ⟨_, rfl⟩
  rw [← hQ]
  have hQ := Kp.mk hQ
  clear gP hcm
  have ht := Kp.mk ht
  go_enter Try.func21, Try.ntmps21
  (repeat' ((fail_if_success (with_reducible show bodyPost _ _ _ _ _ _)); first | ((with_reducible refine Hp.abs_alloc H ?_); intro b' w' H' hb'; (try simp only [hb']); clear hb'; ((try simp only [List.set_cons_zero, List.set_cons_succ, List.setIfInBounds_toArray] at H'); clear C H; have H := H'; clear H'; have C := Hp.facts H; simp only [Facts, factsL, and_true, true_and, List.set_cons_zero, List.set_cons_succ, List.setIfInBounds_toArray] at C)) | ((with_reducible show wpList _ _ _ _ _ (World.setCell _ _ _)); (with_reducible apply Hp.abs_gen H); (first | ((repeat (with_reducible apply Hp.set' 0)); (with_reducible exact H); (repeat rfl); intro w' H') | ((repeat (with_reducible apply Hp.set' 1)); (with_reducible exact H); (repeat rfl); intro w' H') | ((repeat (with_reducible apply Hp.set' 2)); (with_reducible exact H); (repeat rfl); intro w' H') | ((repeat (with_reducible apply Hp.set' 3)); (with_reducible exact H); (repeat rfl); intro w' H') | ((repeat (with_reducible apply Hp.set' 4)); (with_reducible exact H); (repeat rfl); intro w' H') | ((repeat (with_reducible apply Hp.set' 5)); (with_reducible exact H); (repeat rfl); intro w' H') | ((repeat (with_reducible apply Hp.set' 6)); (with_reducible exact H); (repeat rfl); intro w' H') | ((repeat (with_reducible apply Hp.set' 7)); (with_reducible exact H); (repeat rfl); intro w' H')); ((try simp only [List.set_cons_zero, List.set_cons_succ, List.setIfInBounds_toArray] at H'); clear C H; have H := H'; clear H'; have C := Hp.facts H; simp only [Facts, factsL, and_true, true_and, List.set_cons_zero, List.set_cons_succ, List.setIfInBounds_toArray] at C)) | go_values | go_skip | go_guarded | go_step | go_upon | go_back | (simp only [Int.not_lt, Int.not_le] at *; go_simp) | (go_values <;> (try go_simp)) | (go_ite <;> go_prune <;> (try go_simp)) | (split <;> (first | (rename_i hx; exact (hx _ rfl).elim) | go_prune))))
  (obtain ⟨b4, rfl⟩ := Hp.name H 0 rfl)
  (obtain ⟨bt, rfl⟩ := Hp.name H 1 rfl)
  go_loopw [10, 7] (fun ix _ wr => FdRel t ps b4 bt w ix wr) (fun ix _ _ => ps.length - (intOf ix).toNat)
  case atStart => exact FdRel.mk 0 _ t _ _ _ _ _ (Nat.zero_le _) rfl rfl ht.out hc hq H
  case round =>
    clear H C ht hc hq
    obtain ⟨j, m, u, d0, d1, d2, d3, d4, hj, rfl, gf, ht, hc, hq, H⟩ := hrel
    obtain ⟨m, rfl⟩ := ht.out.pos
    obtain ⟨vb, Ak, ck, e, hbk, hlk, hck, hAk, hkk⟩ := ht.out.open
    obtain ⟨Bk, cbk, rfl⟩ : ∃ Bk cbk, vb = .slice Bk u.bytes.length cbk := by
      obtain ⟨Bv, cv, e, -⟩ := hbk
      exact ⟨Bv, cv, by simpa using e⟩
    simp only [List.cons.injEq, and_true] at e
    obtain ⟨rfl, rfl, rfl, rfl, rfl⟩ := e
    have hkl : u.kids.length ≤ 200000 := by have := Tree.len_counts u.kids; have := u.count_is; have := hc.out; omega
    have gka := Kp.mk (fun k (hk : k < u.kids.length) => show u.kids[k].count ≤ 200000 ∧ u.kids[k].total ≤ 100000 by
      have := Tree.counts_at u.kids k hk; have := u.count_is; have := hc.out
      have := Tree.totals_at u.kids k hk; have := u.total_is; have := hq.out
      omega)
    have hkk := Kp.mk hkk
    clear hbk hck
    have C := Hp.facts H
    simp only [Facts, factsL, and_true, true_and, List.set_cons_zero, List.set_cons_succ, List.setIfInBounds_toArray] at C
    by_cases hlt : j < ps.length
    · obtain ⟨b, o, rfl, hbl, hcl⟩ := hcell (by omega)
      have q := hcl j (.int .i64 ps[j]) (by simp [hlt])
      have gd := Kp.mk (gf.out.trans (findT_drop hlt))
      clear hcell hcl gf ht hc hq
      obtain ⟨z, hz⟩ : ∃ z, z = ps[j] := ⟨_, rfl⟩
      rw [← hz] at q gd
      clear hz
      by_cases hin : 0 ≤ z ∧ z.toNat < u.kids.length
      · have gd2 := Kp.mk (gd.out.trans (findT_yes hin.1 hin.2))
        obtain ⟨k, rfl⟩ : ∃ k : Nat, z = k := ⟨z.toNat, by omega⟩
        have hkl2 : k < u.kids.length := by have := hin.2; omega
        have gd3 : Kp (findT t ps = findT u.kids[k] (ps.drop (j + 1))) := by simpa using gd2
        clear gd2 gd
        obtain ⟨b2, o2, rfl, hgl, f0, f1, f2, f3, f4, r0, r1, r2, r3, r4, hkid⟩ := hkk.out k hkl2
        obtain ⟨y0, y1, y2, yA, yA2, yk, yc, yk2, yc2, rfl, rfl, rfl, rfl, rfl⟩ := hkid.forms
        have hkid := Kp.mk hkid
        have hk3 := gka.out k hkl2
        clear hkk hin gka
        (repeat' ((fail_if_success (with_reducible show bodyPost _ _ _ _ _ _)); first | ((with_reducible refine Hp.abs_alloc H ?_); intro b' w' H' hb'; (try simp only [hb']); clear hb'; ((try simp only [List.set_cons_zero, List.set_cons_succ, List.setIfInBounds_toArray] at H'); clear C H; have H := H'; clear H'; have C := Hp.facts H; simp only [Facts, factsL, and_true, true_and, List.set_cons_zero, List.set_cons_succ, List.setIfInBounds_toArray] at C)) | ((with_reducible show wpList _ _ _ _ _ (World.setCell _ _ _)); (with_reducible apply Hp.abs_gen H); (first | ((repeat (with_reducible apply Hp.set' 0)); (with_reducible exact H); (repeat rfl); intro w' H') | ((repeat (with_reducible apply Hp.set' 1)); (with_reducible exact H); (repeat rfl); intro w' H') | ((repeat (with_reducible apply Hp.set' 2)); (with_reducible exact H); (repeat rfl); intro w' H') | ((repeat (with_reducible apply Hp.set' 3)); (with_reducible exact H); (repeat rfl); intro w' H') | ((repeat (with_reducible apply Hp.set' 4)); (with_reducible exact H); (repeat rfl); intro w' H') | ((repeat (with_reducible apply Hp.set' 5)); (with_reducible exact H); (repeat rfl); intro w' H') | ((repeat (with_reducible apply Hp.set' 6)); (with_reducible exact H); (repeat rfl); intro w' H') | ((repeat (with_reducible apply Hp.set' 7)); (with_reducible exact H); (repeat rfl); intro w' H')); ((try simp only [List.set_cons_zero, List.set_cons_succ, List.setIfInBounds_toArray] at H'); clear C H; have H := H'; clear H'; have C := Hp.facts H; simp only [Facts, factsL, and_true, true_and, List.set_cons_zero, List.set_cons_succ, List.setIfInBounds_toArray] at C)) | go_values | go_skip | go_guarded | go_step | go_upon | go_back | (simp only [Int.not_lt, Int.not_le] at *; go_simp) | (go_values <;> (try go_simp)) | (go_ite <;> go_prune <;> (try go_simp)) | (split <;> (first | (rename_i hx; exact (hx _ rfl).elim) | go_prune))))
        exact ⟨FdRel.mk (j + 1) _ _ _ _ _ _ _ (by omega) (by go_num) gd3.out hkid.out hk3.1 hk3.2 H, by simp [intOf]; omega⟩
      · have gd := Kp.mk (gd.out.trans (findT_no hin))
        clear hkk gka
        (repeat' ((fail_if_success (with_reducible show bodyPost _ _ _ _ _ _)); first | ((with_reducible refine Hp.abs_alloc H ?_); intro b' w' H' hb'; (try simp only [hb']); clear hb'; ((try simp only [List.set_cons_zero, List.set_cons_succ, List.setIfInBounds_toArray] at H'); clear C H; have H := H'; clear H'; have C := Hp.facts H; simp only [Facts, factsL, and_true, true_and, List.set_cons_zero, List.set_cons_succ, List.setIfInBounds_toArray] at C)) | ((with_reducible show wpList _ _ _ _ _ (World.setCell _ _ _)); (with_reducible apply Hp.abs_gen H); (first | ((repeat (with_reducible apply Hp.set' 0)); (with_reducible exact H); (repeat rfl); intro w' H') | ((repeat (with_reducible apply Hp.set' 1)); (with_reducible exact H); (repeat rfl); intro w' H') | ((repeat (with_reducible apply Hp.set' 2)); (with_reducible exact H); (repeat rfl); intro w' H') | ((repeat (with_reducible apply Hp.set' 3)); (with_reducible exact H); (repeat rfl); intro w' H') | ((repeat (with_reducible apply Hp.set' 4)); (with_reducible exact H); (repeat rfl); intro w' H') | ((repeat (with_reducible apply Hp.set' 5)); (with_reducible exact H); (repeat rfl); intro w' H') | ((repeat (with_reducible apply Hp.set' 6)); (with_reducible exact H); (repeat rfl); intro w' H') | ((repeat (with_reducible apply Hp.set' 7)); (with_reducible exact H); (repeat rfl); intro w' H')); ((try simp only [List.set_cons_zero, List.set_cons_succ, List.setIfInBounds_toArray] at H'); clear C H; have H := H'; clear H'; have C := Hp.facts H; simp only [Facts, factsL, and_true, true_and, List.set_cons_zero, List.set_cons_succ, List.setIfInBounds_toArray] at C)) | go_values | go_skip | go_guarded | go_step | go_upon | go_back | (simp only [Int.not_lt, Int.not_le] at *; go_simp) | (go_values <;> (try go_simp)) | (go_ite <;> go_prune <;> (try go_simp)) | (split <;> (first | (rename_i hx; exact (hx _ rfl).elim) | go_prune))))
        all_goals
          first
          | (exfalso; omega)
          | (refine bodyPost_ret (v := .tuple #[.agg #[.int .i64 0, .int .i64 0, .bool false, .slice none 0 0, .slice none 0 0], .int .i64 14]) (by simp [results, go_sem, C]) rfl ?_
             rw [hQ.out]
             exact ⟨fun u' hu => (by rw [gd.out] at hu; cases hu), fun _ => rfl, H.low⟩)
    · obtain rfl : j = ps.length := by omega
      have hfs : findT t ps = some u := by rw [gf.out, List.drop_length]; rfl
      have gc := fun w1 (h : Below w.heap.size w w1) => copied_any (m + 1) u _ w1 (ht.out.step h) hc.out hq.out
      clear gf ht hcell hkk gka
      (repeat' ((fail_if_success (with_reducible show bodyPost _ _ _ _ _ _)); first | ((with_reducible refine Hp.abs_alloc H ?_); intro b' w' H' hb'; (try simp only [hb']); clear hb'; ((try simp only [List.set_cons_zero, List.set_cons_succ, List.setIfInBounds_toArray] at H'); clear C H; have H := H'; clear H'; have C := Hp.facts H; simp only [Facts, factsL, and_true, true_and, List.set_cons_zero, List.set_cons_succ, List.setIfInBounds_toArray] at C)) | ((with_reducible show wpList _ _ _ _ _ (World.setCell _ _ _)); (with_reducible apply Hp.abs_gen H); (first | ((repeat (with_reducible apply Hp.set' 0)); (with_reducible exact H); (repeat rfl); intro w' H') | ((repeat (with_reducible apply Hp.set' 1)); (with_reducible exact H); (repeat rfl); intro w' H') | ((repeat (with_reducible apply Hp.set' 2)); (with_reducible exact H); (repeat rfl); intro w' H') | ((repeat (with_reducible apply Hp.set' 3)); (with_reducible exact H); (repeat rfl); intro w' H') | ((repeat (with_reducible apply Hp.set' 4)); (with_reducible exact H); (repeat rfl); intro w' H') | ((repeat (with_reducible apply Hp.set' 5)); (with_reducible exact H); (repeat rfl); intro w' H') | ((repeat (with_reducible apply Hp.set' 6)); (with_reducible exact H); (repeat rfl); intro w' H') | ((repeat (with_reducible apply Hp.set' 7)); (with_reducible exact H); (repeat rfl); intro w' H')); ((try simp only [List.set_cons_zero, List.set_cons_succ, List.setIfInBounds_toArray] at H'); clear C H; have H := H'; clear H'; have C := Hp.facts H; simp only [Facts, factsL, and_true, true_and, List.set_cons_zero, List.set_cons_succ, List.setIfInBounds_toArray] at C)) | go_values | go_skip | go_guarded | go_step | go_upon | go_back | (simp only [Int.not_lt, Int.not_le] at *; go_simp) | (go_values <;> (try go_simp)) | (go_ite <;> go_prune <;> (try go_simp)) | (split <;> (first | (rename_i hx; exact (hx _ rfl).elim) | go_prune))))
      refine (gc _ H.low).mono ?_
      rintro e w1 ⟨⟨cs', rfl, ht2, hob⟩, hb⟩
      obtain ⟨Os, H2, gk, gO⟩ := H.keepTree2 (Nat.zero_le _) hb ht2
      have gO := Kp.mk (gO _ _ _ _ _ hob).1
      match cs', ht2.len with
      | [e0, e1, e2, e3, e4], _ =>
      obtain ⟨z0, z1, z2, zA, zA2, zk, zc, zk2, zc2, rfl, rfl, rfl, rfl, rfl⟩ := ht2.forms
      have gk := Kp.mk gk
      simp only [List.cons_append, List.nil_append] at H2
      clear H C ht2 hb gc hob
      have H := H2
      clear H2
      have C := Hp.facts H
      simp only [Facts, factsL, and_true, true_and, List.set_cons_zero, List.set_cons_succ, List.setIfInBounds_toArray] at C
      (repeat' ((fail_if_success (with_reducible show bodyPost _ _ _ _ _ _)); first | ((with_reducible refine Hp.abs_alloc H ?_); intro b' w' H' hb'; (try simp only [hb']); clear hb'; ((try simp only [List.set_cons_zero, List.set_cons_succ, List.setIfInBounds_toArray] at H'); clear C H; have H := H'; clear H'; have C := Hp.facts H; simp only [Facts, factsL, and_true, true_and, List.set_cons_zero, List.set_cons_succ, List.setIfInBounds_toArray] at C)) | ((with_reducible show wpList _ _ _ _ _ (World.setCell _ _ _)); (with_reducible apply Hp.abs_gen H); (first | ((repeat (with_reducible apply Hp.set' 0)); (with_reducible exact H); (repeat rfl); intro w' H') | ((repeat (with_reducible apply Hp.set' 1)); (with_reducible exact H); (repeat rfl); intro w' H') | ((repeat (with_reducible apply Hp.set' 2)); (with_reducible exact H); (repeat rfl); intro w' H') | ((repeat (with_reducible apply Hp.set' 3)); (with_reducible exact H); (repeat rfl); intro w' H') | ((repeat (with_reducible apply Hp.set' 4)); (with_reducible exact H); (repeat rfl); intro w' H') | ((repeat (with_reducible apply Hp.set' 5)); (with_reducible exact H); (repeat rfl); intro w' H') | ((repeat (with_reducible apply Hp.set' 6)); (with_reducible exact H); (repeat rfl); intro w' H') | ((repeat (with_reducible apply Hp.set' 7)); (with_reducible exact H); (repeat rfl); intro w' H')); ((try simp only [List.set_cons_zero, List.set_cons_succ, List.setIfInBounds_toArray] at H'); clear C H; have H := H'; clear H'; have C := Hp.facts H; simp only [Facts, factsL, and_true, true_and, List.set_cons_zero, List.set_cons_succ, List.setIfInBounds_toArray] at C)) | go_values | go_skip | go_guarded | go_step | go_upon | go_back | (simp only [Int.not_lt, Int.not_le] at *; go_simp) | (go_values <;> (try go_simp)) | (go_ite <;> go_prune <;> (try go_simp)) | (split <;> (first | (rename_i hx; exact (hx _ rfl).elim) | go_prune))))
      refine bodyPost_ret (v := .tuple #[.agg #[.int .i64 z0, .int .i64 z1, .bool z2, .slice zA zk zc, .slice zA2 zk2 zc2], .int .i64 0]) (by simp [results, go_sem, C]) rfl ?_
      rw [hQ.out]
      exact ⟨fun u' hu => by rw [hfs] at hu; obtain rfl := Option.some.inj hu; exact ⟨_, [_, _, _, _, _], rfl, gk.out _ _ H (fun x hx => List.mem_cons_of_mem _ (List.mem_cons_of_mem _ hx)), gO.out _ _ H (fun x hx => List.mem_cons_of_mem _ (List.mem_cons_of_mem _ hx))⟩, fun hn => (by rw [hfs] at hn; cases hn), H.low⟩
end Go.Proofs.Ytogliinfdfkobaa

