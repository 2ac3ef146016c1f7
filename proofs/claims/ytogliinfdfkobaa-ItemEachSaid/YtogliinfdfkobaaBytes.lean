/- Slices of bytes as lists; rows that are appended to, made and copied into, among what the walk knows of memory. -/
import Derived.Test.YtogliinfdfkobaaMem
import Derived.WalkKit
import Derived.Laws.CopyOwn
import Derived.Lib.Hide
set_option linter.unusedSimpArgs false
set_option linter.unusedVariables false
namespace Go.Mem
open Go.RowKit
/-- A byte as a cell. -/
def u8c (b : UInt8) : Value := .int .u8 (b.toNat : Int)
theorem u8c_one (l : List UInt8) : ∀ u ∈ l.map u8c, u.oneCell' = true := by
  intro u hu
  obtain ⟨b, _, rfl⟩ := List.mem_map.1 hu
  rfl
/-- A slice value that reads as a list of cells, one cell an element. -/
def Sl (w : World) (v : Value) (xs : List Value) : Prop :=
  ∃ (A : Option Addr) (c : Nat), v = .slice A xs.length c ∧ xs.length ≤ c ∧ c ≤ maxLen ∧ (A = none → c = 0) ∧
    (0 < xs.length → ∃ b o, A = some ⟨b, o, none⟩ ∧ b < w.heap.size ∧ ∀ (j : Nat) (u : Value), xs[j]? = some u → w.cell? ⟨b, o + j, none⟩ = some u)
/-- A slice of bytes. -/
def Bs (w : World) (v : Value) (l : List UInt8) : Prop := Sl w v (l.map u8c)
theorem Sl.nil (w : World) : Sl w (.slice none 0 0) [] := ⟨none, 0, rfl, Nat.le_refl _, by simp [maxLen], fun _ => rfl, fun h => absurd h (by simp)⟩
theorem Bs.nil (w : World) : Bs w (.slice none 0 0) [] := Sl.nil w
theorem Sl.step {w w' : World} {v : Value} {xs : List Value} (h : Sl w v xs) (hb : Below w.heap.size w w') : Sl w' v xs := by
  obtain ⟨A, c, rfl, h1, h2, h3, h4⟩ := h
  refine ⟨A, c, rfl, h1, h2, h3, fun hp => ?_⟩
  obtain ⟨b, o, e, hl, hc⟩ := h4 hp
  exact ⟨b, o, e, Nat.lt_of_lt_of_le hl hb.size, fun j u hu => (hb.cell (p := ⟨b, o + j, none⟩) hl).trans (hc j u hu)⟩
theorem Bs.step {w w' : World} {v : Value} {l : List UInt8} (h : Bs w v l) (hb : Below w.heap.size w w') : Bs w' v l := Sl.step h hb
theorem Hp.sl {w0 w : World} {L : List Ent} (H : Hp w0 L w) {v : Value} {xs : List Value} (h : Sl w0 v xs) : Sl w v xs := h.step H.low
theorem Hp.bs {w0 w : World} {L : List Ent} (H : Hp w0 L w) {v : Value} {l : List UInt8} (h : Bs w0 v l) : Bs w v l := h.step H.low
theorem Bs.len {w : World} {v : Value} {l : List UInt8} (h : Bs w v l) : l.length ≤ maxLen := by
  obtain ⟨A, c, _, h1, h2, _⟩ := h
  simp only [List.length_map] at h1
  omega
/-- What a walk begins with: the value written out. -/
theorem Bs.open {w : World} {v : Value} {l : List UInt8} (h : Bs w v l) : ∃ (A : Option Addr) (c : Nat), v = .slice A l.length c ∧ l.length ≤ c ∧ c ≤ 9223372036854775807 ∧ (A = none → c = 0) ∧
    ∀ k, (hk : k < l.length) → ∃ b o, A = some ⟨b, o, none⟩ ∧ b < w.heap.size ∧ ∀ j, (hj : j < l.length) → w.cell? ⟨b, o + j, none⟩ = some (.int .u8 (l[j].toNat : Int)) := by
  obtain ⟨A, c, rfl, h1, h2, h3, h4⟩ := h
  simp only [List.length_map] at *
  refine ⟨A, c, rfl, h1, h2, h3, fun k hk => ?_⟩
  obtain ⟨b, o, e, hl, hc⟩ := h4 (by omega)
  exact ⟨b, o, e, hl, fun j hj => hc j _ (by simp [hj, u8c])⟩
theorem Bs.mk {w : World} {A : Option Addr} {n c : Nat} {l : List UInt8} (hn : l.length = n) (h1 : n ≤ c) (h2 : c ≤ maxLen) (h3 : A = none → c = 0)
    (h4 : 0 < n → ∃ b o, A = some ⟨b, o, none⟩ ∧ b < w.heap.size ∧ ∀ j, (hj : j < l.length) → w.cell? ⟨b, o + j, none⟩ = some (u8c l[j])) : Bs w (.slice A n c) l := by
  subst hn
  refine ⟨A, c, by simp, by simpa using h1, h2, h3, fun hp => ?_⟩
  obtain ⟨b, o, e, hl, hc⟩ := h4 (by simpa using hp)
  refine ⟨b, o, e, hl, fun j u hu => ?_⟩
  have hj : j < l.length := by
    have := (List.getElem?_eq_some_iff.1 hu).1
    simpa using this
  rw [hc j hj]
  simpa [hj] using hu
/-- As the source of an append or a copy. -/
theorem Bs.src {w : World} {A : Option Addr} {n c : Nat} {l : List UInt8} (h : Bs w (.slice A n c) l) :
    (A = none → c = 0 ∧ n = 0) ∧ (l.map u8c).length = n * 1 ∧ (0 < n → ∃ ad, A = some ad ∧ ∀ (j : Nat) (u : Value), (l.map u8c)[j]? = some u → w.cell? (ad.add j) = some u) := by
  obtain ⟨A', c', e, h1, h2, h3, h4⟩ := h
  injection e with e1 e2 e3
  subst e1 e2 e3
  refine ⟨fun hA => ⟨h3 hA, by have := h3 hA; omega⟩, by omega, fun hp => ?_⟩
  obtain ⟨b, o, rfl, hl, hc⟩ := h4 (by simpa using hp)
  refine ⟨⟨b, o, none⟩, rfl, fun j u hu => ?_⟩
  have ha : (⟨b, o, none⟩ : Addr).add j = ⟨b, o + j, none⟩ := by unfold Addr.add; split <;> simp_all
  rw [ha]
  exact hc j u hu
/-- The first ones. -/
theorem Bs.front {w : World} {A : Option Addr} {n c : Nat} {l : List UInt8} (h : Bs w (.slice A n c) l) {k : Nat} (hk : k ≤ n) : Bs w (.slice A k c) (l.take k) := by
  obtain ⟨A', c', e, h1, h2, h3, h4⟩ := Bs.open h
  injection e with e1 e2 e3
  subst e1 e2 e3
  refine Bs.mk (by simp; omega) (by omega) h2 h3 fun hp => ?_
  obtain ⟨b, o, e, hl, hc⟩ := h4 0 (by omega)
  refine ⟨b, o, e, hl, fun j hj => ?_⟩
  have hj' : j < l.length := by simp at hj; omega
  rw [hc j hj', List.getElem_take]
  rfl
theorem slice_of_own {w : World} {B : Nat} {e : TypeId} {v : Value} {xs : List Value} (h : w.ownsRow B e 1 v xs.length xs) : Sl w v xs := by
  rcases h.2 with ⟨rfl, h0⟩ | ⟨g, cap, cur, rfl, hb, hg, hn, hm, hs, ht⟩
  · have : xs = [] := List.eq_nil_of_length_eq_zero h0
    subst this
    exact Sl.nil w
  · refine ⟨some ⟨g, 0, none⟩, cap, rfl, hn, hm, (fun h => by cases h), fun _ => ⟨g, 0, rfl, (Array.getElem?_eq_some_iff.1 hg).1, fun j u hu => ?_⟩⟩
    rw [Nat.zero_add, cell_of_row w g j cur e (0, 0) hg]
    rw [← ht, List.getElem?_take] at hu
    split at hu
    · simpa using hu
    · cases hu
theorem owns_step {w w' : World} {B : Nat} {e : TypeId} {size : Nat} {v : Value} {n : Nat} {xs : List Value} (h : w.ownsRow B e size v n xs) (hb : Below w.heap.size w w') : w'.ownsRow B e size v n xs :=
  (show (Ent.row e size v n xs).ok B w from h).move fun k hk => hb.block k (World.ownsRow.lt h k hk).2
/-- A row among the entries, as a slice that reads. -/
theorem Hp.row {w0 w : World} {L : List Ent} (H : Hp w0 L w) (i : Nat) {e : TypeId} {v : Value} {n : Nat} {xs : List Value} (hi : L[i]? = some (.row e 1 v n xs)) : Sl w v xs := by
  have h : w.ownsRow w0.heap.size e 1 v n xs := H.ok _ (List.mem_of_getElem? hi)
  have hn : xs.length = n := by simpa using h.1
  subst hn
  exact slice_of_own h
theorem Hp.nilRow {w0 w : World} {L : List Ent} (H : Hp w0 L w) (e : TypeId) (size : Nat) : Hp w0 (.row e size (.slice none 0 0) 0 [] :: L) w :=
  H.add _ (World.ownsRow_nil w _ e size) fun k hk => by simp [Ent.fp, Value.ownBlock] at hk
/-- A new block as a row that is full. -/
theorem Hp.blkRow {w0 w : World} {L : List Ent} (H : Hp w0 L w) (i : Nat) {b : Nat} {c : Array Value} {e : TypeId} (hi : L[i]? = some (.blk b c e)) (n size : Nat) (hs : c.size = n * size) (hm : n ≤ maxLen) : Hp w0 (L.set i (.row e size (.slice (some ⟨b, 0, none⟩) n n) n c.toList)) w := by
  have hx := H.ok _ (List.mem_of_getElem? hi)
  refine H.turn i hi (Only.of_below _ (Below.refl _ _)) ?_ fun k hk => .inl (by simpa [Ent.fp, Value.ownBlock] using hk)
  exact ⟨by simpa using hs, .inr ⟨b, n, c, rfl, hx.2, hx.1, Nat.le_refl _, hm, hs, by rw [List.take_of_length_le (by simp [hs])]⟩⟩
theorem Hp.obj {w0 w : World} {L : List Ent} (H : Hp w0 L w) (i : Nat) {b : Nat} {o : Obj} (hi : L[i]? = some (.obj b o)) : w.heap[b]? = some o := (H.ok _ (List.mem_of_getElem? hi)).1
theorem cell_of_marked {w : World} {b : Nat} {c : Array Value} {T : TypeId} {fr : Nat × Nat} (h : w.heap[b]? = some (.cells c T fr)) (j : Nat) : w.cell? ⟨b, j, none⟩ = c[j]? := by simp [World.cell?, h]
theorem bs_cells {w : World} {b n : Nat} {c : Array Value} {T : TypeId} {fr : Nat × Nat} {l : List UInt8} (h : w.heap[b]? = some (.cells c T fr)) (hc : c.toList = l.map u8c) (hn : l.length = n) (hl : n ≤ 1000000) : Bs w (.slice (some ⟨b, 0, none⟩) n n) l := by
  refine Bs.mk hn (Nat.le_refl _) (by unfold maxLen; omega) (fun h => by cases h) fun _ => ⟨b, 0, rfl, (Array.getElem?_eq_some_iff.1 h).1, fun j hj => ?_⟩
  rw [cell_of_marked h, Nat.zero_add, ← Array.getElem?_toList, hc, List.getElem?_map, List.getElem?_eq_getElem hj]
  rfl
/-- A block that a call made is a row of its own. -/
theorem Hp.rowOf {w0 w w' : World} {L : List Ent} (H : Hp w0 L w) (hb : Below w.heap.size w w') {e : TypeId} {v : Value} {n size : Nat} {xs : List Value} (ho : w'.ownsRow w.heap.size e size v n xs) : Hp w0 (.row e size v n xs :: L) w' :=
  H.adopt hb (.row e size v n xs) ho
section
variable {P : Program}
theorem run_append_row (w : World) (base : Nat) (t ty e : TypeId) (i : TypeInfo) (z : Value) (size bytes : Nat) (ht : P.underlying t = some (.slice e)) (hi : P.info? e = some i) (hz : i.zero = some z)
    (hsize : i.size = size) (hby : i.bytes = bytes) (hzs : z.cells.size = size) (hsz : 0 < size)
    (v : Value) (n : Nat) (xs : List Value) (hown : w.ownsRow base e size v n xs)
    (a : Addr) (m c : Nat) (news : List Value) (hl : news.length = m * size) (hnews : ∀ j u, news[j]? = some u → w.cell? (a.add j) = some u) (h1 : ∀ u ∈ news, u.oneCell' = true)
    (h63 : n + m ≤ maxLen) (hbytes : (n + m) * bytes ≤ 140737488355328) (hbase : base ≤ w.heap.size) :
    ∃ v' w', (Builtin.append_ #[t, t] ty #[v, .slice (some a) m c]).run P w = .ok v' w' ∧ w'.ownsRow base e size v' (n + m) (xs ++ news) ∧ w.grownBy w' v.ownBlock ∧
      ∀ k, v'.ownBlock = some k → v.ownBlock = some k ∨ w.heap.size ≤ k := by
  rcases hown.2 with ⟨rfl, rfl⟩ | ⟨g, cap, cur, rfl, hbg, hg, hnc, hcm, hcs, htake⟩
  · -- nil: a new block, or nothing
    obtain ⟨v', w', hr, h2, h3, h4⟩ := run_append_own (P := P) w w.heap.size t ty e i z size bytes ht hi hz hsize hby hzs hsz (.slice none 0 0) 0 xs ⟨hown.1, .inl ⟨rfl, rfl⟩⟩ a m c news hl hnews h1 h63 hbytes (Nat.le_refl _)
    refine ⟨v', w', hr, ?_, h3, fun k hk => .inr (World.ownsRow.lt h2 k hk).1⟩
    refine ⟨h2.1, ?_⟩
    rcases h2.2 with h | ⟨g, cap, cur, e1, e2, rest⟩
    · exact .inl h
    · exact .inr ⟨g, cap, cur, e1, Nat.le_trans hbase e2, rest⟩
  · by_cases hroom : n + m ≤ cap
    · subst hsize
      have hfit : n * i.size + news.length ≤ cur.size := by rw [hl, hcs, ← Nat.add_mul]; exact Nat.mul_le_mul_right _ hroom
      have hr := run_append_room (P := P) w t ty e i ht hi g n cap cur hg a m c news hl hnews h1 hroom hfit
      obtain ⟨v', w', hr', h2, h3, _⟩ := run_append_own (P := P) w base t ty e i z _ bytes ht hi hz rfl hby hzs hsz _ n xs hown a m c news hl hnews h1 h63 hbytes hbase
      rw [hr] at hr'
      injection hr' with e1 e2
      subst e1 e2
      exact ⟨_, _, hr, h2, h3, fun k hk => .inl hk⟩
    · subst hsize
      have holds : ∀ j u, xs[j]? = some u → w.cell? ((⟨g, 0, none⟩ : Addr).add j) = some u := hown.cells (g := g) rfl
      have hr := run_append_grow (P := P) w t ty e i z ht hi hz ⟨g, 0, none⟩ n cap xs hown.1 holds a m c news hl hnews (by omega) (by simp only [maxLen] at h63; omega) (growslice_fits (by omega) (by rw [hby]; exact hbytes))
      obtain ⟨v', w', hr', h2, h3, _⟩ := run_append_own (P := P) w base t ty e i z _ bytes ht hi hz rfl hby hzs hsz _ n xs hown a m c news hl hnews h1 h63 hbytes hbase
      rw [hr] at hr'
      injection hr' with e1 e2
      subst e1 e2
      exact ⟨_, _, hr, h2, h3, fun k hk => by simp [Value.ownBlock] at hk; subst hk; exact .inr (Nat.le_refl _)⟩
theorem u8c_of {n : Int} (h0 : 0 ≤ n) (h1 : n ≤ 255) : u8c (UInt8.ofNat n.toNat) = .int .u8 n := by
  unfold u8c
  have : (UInt8.ofNat n.toNat).toNat = n.toNat := by rw [UInt8.toNat_ofNat']; omega
  rw [this, Int.toNat_of_nonneg h0]
theorem run_str {w : World} {v : Value} {l : List UInt8} (h : Bs w v l) (src dst e : TypeId) (hs : P.underlying src = some (.slice e)) (he : P.underlying e = some (.int .u8)) (hd : P.underlying dst = some .string) :
    (convert src dst v).run P w = .ok (.string ⟨l.toArray⟩) w := by
  obtain ⟨A, c, rfl, h1, h2, h3, h4⟩ := Bs.open h
  by_cases h0 : l.length = 0
  · have : l = [] := List.eq_nil_of_length_eq_zero h0
    subst this
    cases A with
    | none => exact run_convert_bytes_nil (P := P) w src e hs he _ _ dst hd
    | some a =>
      rw [run_convert_bytes_string w src dst e _ _ _ hs he hd]
      have hl : (loadCells a 0).run P w = .ok (([] : List Int).map (Value.int .u8)).toArray w := by simpa using run_loadCells_list (P := P) w a [] (by simp)
      exact run_bytesToString (P := P) w a 0 c [] hl
  · obtain ⟨b, o, rfl, hb, hc⟩ := h4 0 (by omega)
    have := run_convert_bytes_arg (P := P) w src e hs he b o l.length c (l.map fun x => (x.toNat : Int)) (by simp) (fun i hi => by
      rw [hc i hi]
      simp [List.getD, hi]) dst hd
    rw [this]
    congr 2
    have e : (strOfNums (l.map fun x => (x.toNat : Int))).data.toList = l := by
      rw [strOfNums_data, List.map_map]
      conv => rhs; rw [← List.map_id l]
      apply List.map_congr_left
      intro x _
      simp
    have e2 : (strOfNums (l.map fun x => (x.toNat : Int))).data = l.toArray := by
      apply Array.ext'
      rw [e]
    cases hx : strOfNums (l.map fun x => (x.toNat : Int)) with
    | mk d => rw [hx] at e2; rw [← e2]
variable {ops : Array Oper} {Q : Exit → Act → World → Prop} {rest : List Oper} {o : Oper} {a : Act} {w0 w : World} {L : List Ent}
/-- append to a row among the entries: the source lies anywhere, nil or not. -/
theorem wpList_append_hp (H : Hp w0 L w) (i : Nat) (hgd : o.guard = none) (s x : Operand) (t : TypeId) (ho : o.op = .call { callee := .builtin .append, args := #[s, x], argTypes := #[t, t] })
    {e : TypeId} {ti : TypeInfo} {z : Value} {size bytes : Nat} (ht : P.underlying t = some (.slice e)) (hti : P.info? e = some ti) (hz : ti.zero = some z)
    (hsize : ti.size = size) (hby : ti.bytes = bytes) (hzs : z.cells.size = size) (hsz : 0 < size)
    {v : Value} {n : Nat} {xs : List Value} (hs : a.eval s = v) (hi : L[i]? = some (.row e size v n xs))
    {A : Option Addr} {m c : Nat} {news : List Value} (hx : a.eval x = .slice A m c) (hl : news.length = m * size) (hA : A = none → c = 0 ∧ m = 0)
    (hnews : 0 < m → ∃ ad, A = some ad ∧ ∀ j u, news[j]? = some u → w.cell? (ad.add j) = some u) (h1 : ∀ u ∈ news, u.oneCell' = true)
    (h63 : n + m ≤ maxLen) (hbytes : (n + m) * bytes ≤ 140737488355328)
    (h : ∀ v' w', Hp w0 (L.set i (.row e size v' (n + m) (xs ++ news))) w' → wpList P ops Q rest (a.put o.dst v') w') : wpList P ops Q (o :: rest) a w := by
  have hown : w.ownsRow w0.heap.size e size v n xs := H.ok _ (List.mem_of_getElem? hi)
  have key : ∃ v' w', (Builtin.append_ #[t, t] o.type #[v, .slice A m c]).run P w = .ok v' w' ∧ w'.ownsRow w0.heap.size e size v' (n + m) (xs ++ news) ∧ w.grownBy w' v.ownBlock ∧
      ∀ k, v'.ownBlock = some k → v.ownBlock = some k ∨ w.heap.size ≤ k := by
    cases A with
    | none =>
      obtain ⟨rfl, rfl⟩ := hA rfl
      have : news = [] := List.eq_nil_of_length_eq_zero (by simpa using hl)
      subst this
      exact ⟨v, w, run_append_owned_none (P := P) w w0.heap.size t o.type e ti size ht hti v n xs hown, by simpa using hown, ⟨rfl, rfl, rfl, Nat.le_refl _, fun _ _ _ => rfl⟩, fun k hk => .inl hk⟩
    | some ad =>
      refine run_append_row w w0.heap.size t o.type e ti z size bytes ht hti hz hsize hby hzs hsz v n xs hown ad m c news hl ?_ h1 h63 hbytes H.low.size
      intro j u hu
      have hm : 0 < m := by
        rcases Nat.eq_zero_or_pos m with h0 | h0
        · subst h0
          have : news = [] := List.eq_nil_of_length_eq_zero (by simpa using hl)
          subst this
          simp at hu
        · exact h0
      obtain ⟨ad', e1, hc⟩ := hnews hm
      injection e1 with e1
      subst e1
      exact hc j u hu
  obtain ⟨v', w', hr, h2, h3, h4⟩ := key
  refine wpList_plain hgd fun K hK => ?_
  unfold Oper.wp
  simp [execOp, ho, resolve, invoke, builtin, hs, hx, hr, Result.andThen]
  exact hK _ _ (h v' w' (H.turn i hi (Only.of_grown h3) h2 h4))
/-- make([]T, 0, n). -/
theorem wpList_make_hp (H : Hp w0 L w) (hgd : o.guard = none) (l c : Operand) (t : TypeId) (hop : o.op = Op.makeSlice t l c) {e : TypeId} {ti : TypeInfo} {z : Value} {size : Nat} (h1 : P.underlying t = some (.slice e)) (h2 : P.info? e = some ti) (h3 : ti.zero = some z) (h4 : ti.size = size)
    {kl kc : IntKind} {C : Int} (n : Nat) (hl : a.eval l = .int kl 0) (hc : a.eval c = .int kc C) (hC : C = (n : Int)) (b2 : ti.bytes * n ≤ 281474976710656) (b3 : n ≤ maxLen)
    (h : ∀ v' w', Hp w0 (.row e size v' 0 [] :: L) w' → wpList P ops Q rest (a.put o.dst v') w') : wpList P ops Q (o :: rest) a w :=
  wpList_make_own w hgd l c t hop w.heap.size e ti z size h1 h2 h3 h4 kl kc C n hl hc hC b2 b3 (Nat.le_refl _) fun w' ho hg =>
    h _ w' (H.rowOf ⟨hg.os, hg.tape, hg.output, hg.size, fun k hk => hg.block k hk (by simp)⟩ ho)
/-- make([]T, n), T of one cell. -/
theorem wpList_full_hp (H : Hp w0 L w) (hgd : o.guard = none) (l c : Operand) (t : TypeId) (hop : o.op = Op.makeSlice t l c) {e : TypeId} {ti : TypeInfo} {z : Value} {size : Nat} (h1 : P.underlying t = some (.slice e)) (h2 : P.info? e = some ti) (h3 : ti.zero = some z) (h4 : ti.size = size)
    {kl kc : IntKind} {Lz C : Int} (n : Nat) (hl : a.eval l = .int kl Lz) (hc : a.eval c = .int kc C) (hL : Lz = (n : Int)) (hC : C = (n : Int)) (b2 : ti.bytes * n ≤ 281474976710656) (b3 : n ≤ maxLen)
    (h : ∀ g w', Hp w0 (.row e size (.slice (some ⟨g, 0, none⟩) n n) n (madeCells z.cells (n * size)).toList :: L) w' → wpList P ops Q rest (a.put o.dst (.slice (some ⟨g, 0, none⟩) n n)) w') : wpList P ops Q (o :: rest) a w :=
  wpList_make_full w hgd l c t hop w.heap.size e ti z size h1 h2 h3 h4 kl kc Lz C n hl hc hL hC b2 b3 (Nat.le_refl _) fun w' ho hg =>
    h _ w' (H.rowOf ⟨hg.os, hg.tape, hg.output, hg.size, fun k hk => hg.block k hk (by simp)⟩ ho)
/-- copy over a whole row of the call's own, from a slice as long. -/
theorem wpList_copy_hp (H : Hp w0 L w) (i : Nat) (hgd : o.guard = none) (d s : Operand) (dT sT : TypeId) (ho : o.op = .call { callee := .builtin .copy, args := #[d, s], argTypes := #[dT, sT] })
    {elem e : TypeId} (hu : P.underlying dT = some (.slice elem)) (hsz : (P.info? elem).map (·.size) = some 1) {g n : Nat} {xs : List Value} (hd : a.eval d = .slice (some ⟨g, 0, none⟩) n n) (hi : L[i]? = some (.row e 1 (.slice (some ⟨g, 0, none⟩) n n) n xs))
    {A : Option Addr} {c : Nat} {cs : List Value} (hs : a.eval s = .slice A n c) (hn : cs.length = n * 1) (hsrc : 0 < n → ∃ ad, A = some ad ∧ ∀ (j : Nat) (u : Value), cs[j]? = some u → w.cell? (ad.add j) = some u) (h1 : ∀ v ∈ cs, v.oneCell' = true)
    (h : ∀ w', Hp w0 (L.set i (.row e 1 (.slice (some ⟨g, 0, none⟩) n n) n cs)) w' → wpList P ops Q rest (a.put o.dst (.int .i64 (n : Int))) w') : wpList P ops Q (o :: rest) a w := by
  have hown : w.ownsRow w0.heap.size e 1 (.slice (some ⟨g, 0, none⟩) n n) n xs := H.ok _ (List.mem_of_getElem? hi)
  obtain ⟨hx, hr⟩ := hown
  rcases hr with ⟨hv, _⟩ | ⟨g', cap, cur, hv, hb, hg, hnc, hcm, hcs, ht⟩
  · cases hv
  · injection hv with e1 e2 e3
    injection e1 with e1
    injection e1 with e1
    subst e1 e3
    have hcn : cs.length = n := by omega
    have hfin : ∀ w', Only (some g) w w' → w'.heap[g]? = some (.cells cs.toArray e (0, 0)) → Hp w0 (L.set i (.row e 1 (.slice (some ⟨g, 0, none⟩) n n) n cs)) w' := fun w' ho' hw' =>
      H.turn i hi ho' ⟨by omega, .inr ⟨g, n, cs.toArray, rfl, hb, hw', Nat.le_refl _, hcm, by simp; omega, by rw [List.take_of_length_le (by simp; omega)]⟩⟩ fun k hk => .inl hk
    rcases Nat.eq_zero_or_pos n with h0 | hp
    · subst h0
      have : cs = [] := List.eq_nil_of_length_eq_zero hcn
      subst this
      have hcur : cur = #[] := by
        have : cur.size = 0 := by omega
        exact Array.eq_empty_of_size_eq_zero this
      subst hcur
      have := h w (hfin w (Only.of_below _ (Below.refl _ _)) hg)
      exact wpList_copy_nothing hgd d s dT sT ho elem hu hsz _ _ _ _ _ _ hd hs (by simp) this
    · obtain ⟨ad, rfl, hc⟩ := hsrc hp
      refine wpList_copy_own hgd d s dT sT ho elem hu hsz g 0 n n ad n c hd hs cur e hg cs (by rw [hcn]; exact (Nat.min_self n).symm) hc (by omega) h1 ?_
      have hrow : (cur.toList.take 0 ++ (cs ++ cur.toList.drop (0 + cs.length))).toArray = cs.toArray := by
        have : cur.toList.drop (0 + cs.length) = [] := List.drop_eq_nil_of_le (by simp; omega)
        rw [this]
        simp
      rw [hrow, hcn]
      refine h _ (hfin _ ⟨rfl, rfl, rfl, by simp, fun k hk hne => setRow_other w g k _ (fun e => hne (by rw [e]))⟩ (setRow_heap w g cur _ e _ hg))
end
end Go.Mem

