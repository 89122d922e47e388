/-
  A slice that the call itself has made: 'Own w base e size A n c xs'; append onto it from any source; make.
-/
import Derived.Test.YtgidkjfakecniaaLibB
import Derived.Maps.AppendAt
import Derived.Laws.MakeOwn
import Derived.RegionTactic
import Derived.OwnWalk
namespace Go.Proofs.Ytgidkjfakecniaa
open Go.RowKit

/-- The walk stops here. -/
def Halted (p : Prop) : Prop := p
theorem halt_ {p : Prop} (h : Halted p) : p := h
theorem unhalt {p : Prop} (h : p) : Halted p := h

/-- The slice value '.slice A n c' is nil, or starts a block of its own from 'base' on; its cells are xs. -/
def Own (w : World) (base : Nat) (e : TypeId) (size : Nat) (A : Option Addr) (n c : Nat) (xs : List Value) : Prop := w.ownsRow base e size (.slice A n c) n xs

/-- What append and make ask of a slice type t of elements e. -/
def Elem (P : Program) (t e : TypeId) (size bytes : Nat) : Prop := ∃ (i : TypeInfo) (z : Value), P.underlying t = some (.slice e) ∧ P.info? e = some i ∧ i.zero = some z ∧ i.size = size ∧ i.bytes = bytes ∧ z.cells.size = size ∧ 0 < size ∧ 0 < bytes

def elemB (P : Program) (t e : TypeId) (size bytes : Nat) : Bool :=
  (match P.underlying t with | some (.slice e') => e' == e | _ => false) &&
  (match P.info? e with | some i => i.size == size && i.bytes == bytes && (match i.zero with | some z => z.cells.size == size | none => false) | none => false) && decide (0 < size) && decide (0 < bytes)
theorem elem_of {P : Program} {t e : TypeId} {size bytes : Nat} (h : elemB P t e size bytes = true) : Elem P t e size bytes := by
  simp only [elemB, Bool.and_eq_true, decide_eq_true_eq] at h
  obtain ⟨⟨⟨h1, h2⟩, h3⟩, h4⟩ := h
  split at h1
  · rename_i e' he
    rw [beq_iff_eq] at h1
    subst h1
    split at h2
    · rename_i i hi
      simp only [Bool.and_eq_true, beq_iff_eq] at h2
      obtain ⟨⟨h5, h6⟩, h7⟩ := h2
      split at h7
      · rename_i z hz
        rw [beq_iff_eq] at h7
        exact ⟨i, z, he, hi, hz, h5, h6, h7, h3, h4⟩
      · cases h7
    · cases h2
  · cases h1

/-- The block of an address. -/
def blockOf : Option Addr → Option Nat
  | some a => some a.block
  | none => none

section
variable {P : Program} {w w' : World} {base e size : Nat} {A : Option Addr} {n c : Nat} {xs : List Value}

theorem Own.length (h : Own w base e size A n c xs) : xs.length = n * size := h.1
theorem Own.nil_ (w : World) (base e size : Nat) : Own w base e size none 0 0 [] := World.ownsRow_nil w base e size
theorem Own.form (h : Own w base e size A n c xs) : (A = none ∧ n = 0 ∧ c = 0 ∧ xs = []) ∨ ∃ g cur, A = some ⟨g, 0, none⟩ ∧ base ≤ g ∧ Blk w g e cur ∧ n ≤ c ∧ c ≤ maxLen ∧ cur.size = c * size ∧ cur.toList.take (n * size) = xs := by
  obtain ⟨hl, h | ⟨g, cap, cur, hv, hb, hh, h1, h2, h3, h4⟩⟩ := h
  · obtain ⟨h, rfl⟩ := h
    injection h with h1 h2 h3
    exact .inl ⟨h1, rfl, h3, List.eq_nil_of_length_eq_zero (by simpa using hl)⟩
  · injection hv with e1 e2 e3
    subst e1 e3
    exact .inr ⟨g, cur, rfl, hb, hh, h1, h2, h3, h4⟩
theorem Own.of_blk {g : Nat} {cur : Array Value} (h : Blk w g e cur) (hb : base ≤ g) (hn : n ≤ c) (hc : c ≤ maxLen) (hs : cur.size = c * size) : Own w base e size (some ⟨g, 0, none⟩) n c (cur.toList.take (n * size)) :=
  ⟨by rw [List.length_take, Array.length_toList, hs]; exact Nat.min_eq_left (Nat.mul_le_mul_right _ hn), .inr ⟨g, c, cur, rfl, hb, h, hn, hc, hs, rfl⟩⟩
theorem Own.ge (h : Own w base e size A n c xs) : ∀ g, blockOf A = some g → base ≤ g ∧ g < w.heap.size := by
  rcases h.form with ⟨rfl, _⟩ | ⟨g, cur, rfl, hb, hh, _⟩
  · intro g hg; cases hg
  · intro g' hg; cases hg; exact ⟨hb, hh.lt⟩
theorem Own.reads (h : Own w base e size A n c xs) : Reads w w.heap.size size A n xs := Reads.of_own h
theorem Own.mono {base' : Nat} (h : Own w base e size A n c xs) (hb : base' ≤ base) : Own w base' e size A n c xs := by
  obtain ⟨h1, h2⟩ := h
  rcases h2 with h2 | ⟨g, cap, cur, hv, hg, r⟩
  · exact ⟨h1, .inl h2⟩
  · exact ⟨h1, .inr ⟨g, cap, cur, hv, by omega, r⟩⟩
theorem Own.upd {S : Nat → Prop} (h : Own w base e size A n c xs) (hu : Upd S w w') (hn : ∀ g, blockOf A = some g → ¬ S g) : Own w' base e size A n c xs := by
  obtain ⟨h1, h2⟩ := h
  rcases h2 with h2 | ⟨g, cap, cur, hv, hg, hh, r⟩
  · exact ⟨h1, .inl h2⟩
  · refine ⟨h1, .inr ⟨g, cap, cur, hv, hg, (Blk.upd (g := g) hh hu (hn g ?_)), r⟩⟩
    injection hv with e1
    rw [e1]
    rfl
theorem Own.below {B : Nat} (h : Own w base e size A n c xs) (hb : Below B w w') (hB : w.heap.size ≤ B) : Own w' base e size A n c xs :=
  h.upd (S := fun _ => False) (Upd.of_below (hb.mono hB)) (fun _ _ h => h)
theorem Own.drew (h : Own w base e size A n c xs) : Own w.drew base e size A n c xs := h
theorem Own.drewN (h : Own w base e size A n c xs) (k : Nat) : Own (w.drewN k) base e size A n c xs := h
theorem Own.alloc (h : Own w base e size A n c xs) (o : Obj) : Own (w.alloc o) base e size A n c xs := World.ownsRow.alloc h o
theorem Own.far (h : Own w base e size A n c xs) {p : Addr} (hp : blockOf A ≠ some p.block) (u : Value) : Own (w.setCell p u) base e size A n c xs :=
  h.upd (S := fun k => k = p.block) (Upd.setCell (S := fun k => k = p.block) (p := p) (Upd.refl _ _) (fun _ => rfl) u) (fun g hg e => hp (by rw [hg, e]))
/-- A store into the slice. -/
theorem Own.set_ (h : Own w base e size A n c xs) {g i : Nat} (hA : A = some ⟨g, 0, none⟩) (u : Value) : Own (w.setCell ⟨g, i, none⟩ u) base e size A n c (xs.set i u) := by
  rcases h.form with ⟨rfl, _⟩ | ⟨g', cur, rfl, hb, hh, h1, h2, h3, rfl⟩
  · cases hA
  · injection hA with hA
    injection hA with hA
    subst hA
    have := Own.of_blk (base := base) (c := c) (n := n) (size := size) (Blk.set_ hh i u) hb h1 h2 (by simp [h3])
    rw [Array.toList_setIfInBounds, List.take_set] at this
    exact this
theorem Own.cell (h : Own w base e size A n c xs) {g : Nat} (hA : A = some ⟨g, 0, none⟩) {j : Nat} {u : Value} (hj : xs[j]? = some u) : w.cell? ⟨g, j, none⟩ = some u := by
  subst hA
  rcases h.form with ⟨h, _⟩ | ⟨g', cur, hA, hb, hh, h1, h2, h3, rfl⟩
  · cases h
  · injection hA with hA
    injection hA with hA
    subst hA
    rw [hh.cell]
    rw [List.getElem?_take] at hj
    split at hj
    · simpa using hj
    · cases hj
theorem Own.frozen (h : Own w base e size A n c xs) {g : Nat} (hA : A = some ⟨g, 0, none⟩) (j : Nat) : w.frozen? ⟨g, j, none⟩ = false := by
  subst hA
  rcases h.form with ⟨h, _⟩ | ⟨g', cur, hA, hb, hh, h1, h2, h3, rfl⟩
  · cases h
  · injection hA with hA
    injection hA with hA
    subst hA
    exact hh.frozen j
theorem Own.some_ (h : Own w base e size A n c xs) (hn : 0 < n) : ∃ g, A = some ⟨g, 0, none⟩ ∧ base ≤ g ∧ g < w.heap.size ∧ n ≤ c ∧ c ≤ maxLen := by
  rcases h.form with ⟨rfl, rfl, _⟩ | ⟨g, cur, rfl, hb, hh, h1, h2, _⟩
  · omega
  · exact ⟨g, rfl, hb, hh.lt, h1, h2⟩
theorem Own.le (h : Own w base e size A n c xs) : n ≤ c := by
  rcases h.form with ⟨_, rfl, _⟩ | ⟨g, cur, _, _, _, h1, _⟩ <;> omega
theorem Own.capLe (h : Own w base e size A n c xs) : c ≤ maxLen := by
  rcases h.form with ⟨_, _, rfl, _⟩ | ⟨g, cur, _, _, _, _, h2, _⟩
  · unfold maxLen; omega
  · exact h2

theorem Own.empty (w : World) (e size : Nat) : Own (w.alloc (.cells #[] e)) w.heap.size e size (some ⟨w.heap.size, 0, none⟩) 0 0 [] := by
  have := Own.of_blk (base := w.heap.size) (n := 0) (c := 0) (size := size) (Blk.new w e #[]) (Nat.le_refl _) (Nat.le_refl _) (Nat.zero_le _) (by simp)
  simpa using this
theorem Own.empty_ {w : World} {g : Nat} (h : w.heap.size = g) (e size : Nat) : Own (w.alloc (.cells #[] e)) g e size (some ⟨g, 0, none⟩) 0 0 [] := by
  subst h
  exact Own.empty w e size
theorem Own.built {cs : Array Value} {n : Nat} (w : World) (e : Nat) (hs : cs.size = n * size) (hn : n ≤ maxLen) : Own (w.alloc (.cells cs e)) w.heap.size e size (some ⟨w.heap.size, 0, none⟩) n n cs.toList := by
  have := Own.of_blk (base := w.heap.size) (n := n) (c := n) (size := size) (Blk.new w e cs) (Nat.le_refl _) (Nat.le_refl _) hn hs
  rwa [List.take_of_length_le (by simp; omega)] at this

/-- Rows of different elements lie in different blocks. -/
theorem Own.apart {base' e' size' n' c' : Nat} {A' : Option Addr} {xs' : List Value} (h : Own w base e size A n c xs) (h' : Own w base' e' size' A' n' c' xs') (hne : e ≠ e') : ∀ g, blockOf A = some g → blockOf A' ≠ some g := by
  intro g hg hg'
  rcases h.form with ⟨rfl, _⟩ | ⟨g1, cur, rfl, _, hb, _⟩
  · cases hg
  · rcases h'.form with ⟨rfl, _⟩ | ⟨g2, cur', rfl, _, hb', _⟩
    · cases hg'
    · cases hg
      cases hg'
      exact Blk.ne_ hb hb' hne rfl
theorem Own.apartBlk {g : Nat} {t : TypeId} {cs : Array Value} (h : Own w base e size A n c xs) (h' : Blk w g t cs) (hne : e ≠ t) : blockOf A ≠ some g := by
  intro hg
  rcases h.form with ⟨rfl, _⟩ | ⟨g1, cur, rfl, _, hb, _⟩
  · cases hg
  · cases hg
    exact Blk.ne_ hb h' hne rfl

/-- An array's element that is a struct, taken out of the array's value. -/
theorem run_index_agg {t u : TypeId} {m : Nat} {fs : Array Field} (ht : P.underlying t = some (.array m u)) (hu : P.underlying u = some (.struct fs)) (hi : (P.info? u).map (·.size) = some size) (cs : Array Value) {k : Int} (h0 : 0 ≤ k) (hk : k < m) (w : World) :
    (Instr.index t (.agg cs) (.int .i64 k)).run P w = .ok (.agg (cs.extract (k.toNat * size) (k.toNat * size + size))) w := by
  obtain ⟨i, hi, hs⟩ := Option.map_eq_some_iff.1 hi
  simp [Instr.index, asIntOf, run_underlying ht, h0, hk, part, isAgg, run_underlying hu, sizeOf, typeInfo, hi, hs]
/-- An array's element of one cell, taken out of the array's value. -/
theorem run_index_one {t u : TypeId} {m : Nat} (ht : P.underlying t = some (.array m u)) (hu : ∀ w : World, (isAgg u).run P w = .ok false w) (hi : (P.info? u).map (·.size) = some 1) (cs : Array Value) {k : Int} (h0 : 0 ≤ k) (hk : k < m) {v : Value} (hv : cs[k.toNat]? = some v) (w : World) :
    (Instr.index t (.agg cs) (.int .i64 k)).run P w = .ok v w := by
  obtain ⟨i, hi, hs⟩ := Option.map_eq_some_iff.1 hi
  simp [Instr.index, asIntOf, run_underlying ht, h0, hk, part, hu, sizeOf, typeInfo, hi, hs, hv]

/-- append, from any source. -/
theorem run_app {t ty : TypeId} {bytes : Nat} (hi : Elem P t e size bytes) (hown : Own w base e size A n c xs)
    {B : Nat} {D : Option Addr} {m d : Nat} {news : List Value} (hr : Reads w B size D m news) (h1 : ∀ u ∈ news, u.oneCell' = true) (hbytes : (n + m) * bytes ≤ 140737488355328) (hbase : base ≤ w.heap.size) :
    ∃ A' c' w', (Builtin.append_ #[t, t] ty #[.slice A n c, .slice D m d]).run P w = .ok (.slice A' (n + m) c') w' ∧ Own w' base e size A' (n + m) c' (xs ++ news) ∧ Upd (fun k => blockOf A = some k) w w' ∧
      (blockOf A' = blockOf A ∨ ∃ g, A' = some ⟨g, 0, none⟩ ∧ w.heap.size ≤ g) := by
  obtain ⟨i, z, ht, hi, hz, hsize, hby, hzs, hsz, hb0⟩ := hi
  have ho : ∀ v : Value, v = .slice A n c → v.ownBlock = blockOf A := by rintro v rfl; cases A <;> rfl
  rcases D with _ | ad
  · have hm : m = 0 := by
      rcases Nat.eq_zero_or_pos m with h0 | h0
      · exact h0
      · obtain ⟨ad, h, _⟩ := hr.2 h0
        cases h
    subst hm
    have hn : news = [] := List.eq_nil_of_length_eq_zero (by simpa using hr.1)
    subst hn
    refine ⟨A, c, w, ?_, by simpa using hown, Upd.refl _ _, .inl rfl⟩
    rcases hown.2 with ⟨hv, rfl⟩ | ⟨g, cap, cur, hv, _, _, hnc, _⟩
    · injection hv with e1 e2 e3
      subst e1 e3
      simp [Builtin.append_, run_underlying ht, sizeOf, typeInfo, hi, Builtin.lenOf, Builtin.firstCells]
    · injection hv with e1 e2 e3
      subst e1 e3
      simp [Builtin.append_, run_underlying ht, sizeOf, typeInfo, hi, Builtin.lenOf, Builtin.firstCells, hnc, storeCells]
  · have hcells : ∀ j u, news[j]? = some u → w.cell? (ad.add j) = some u := by
      intro j u hu
      rcases Nat.eq_zero_or_pos m with h0 | h0
      · subst h0
        have hn : news = [] := List.eq_nil_of_length_eq_zero (by simpa using hr.1)
        subst hn
        simp at hu
      · obtain ⟨ad', h, _, hc⟩ := hr.2 h0
        injection h with h
        subst h
        exact hc j u hu
    have h63 : n + m ≤ maxLen := by
      have : n + m ≤ (n + m) * bytes := Nat.le_mul_of_pos_right _ hb0
      unfold maxLen
      omega
    obtain ⟨v', w', hrun, h2, h3, h4, h5⟩ := run_append_own_at (P := P) w base t ty e i z size bytes ht hi hz hsize hby hzs hsz _ n xs hown ad m d news hr.1 hcells h1 h63 hbytes hbase
    rw [ho _ rfl] at h3 h5
    have hform : ∃ A' c', v' = .slice A' (n + m) c' := by
      rcases h2.2 with ⟨rfl, e0⟩ | ⟨g, cap, cur, rfl, _⟩
      · exact ⟨none, 0, by rw [e0]⟩
      · exact ⟨_, _, rfl⟩
    obtain ⟨A', c', rfl⟩ := hform
    refine ⟨A', c', w', hrun, h2, ⟨h3.os, h3.tape, h3.output, h3.size, fun k hk hn => h3.block k hk (fun e => hn e.symm)⟩, ?_⟩
    have ho' : (Value.slice A' (n + m) c').ownBlock = blockOf A' := by cases A' <;> rfl
    rw [ho'] at h5
    rcases h5 with h5 | h5
    · exact .inl h5
    · right
      rcases Own.form h2 with ⟨rfl, _⟩ | ⟨g, cur, rfl, _⟩
      · cases h5
      · injection h5 with h5
        dsimp only at h5
        exact ⟨g, rfl, by omega⟩

theorem wp_app {t : TypeId} {bytes : Nat} {o : Oper} {a : Act} {K : Act → World → Prop} {Q : Exit → Act → World → Prop} (hi : Elem P t e size bytes) (hown : Own w base e size A n c xs)
    {B : Nat} {D : Option Addr} {m d : Nat} {news : List Value} (hr : Reads w B size D m news) (h1 : ∀ u ∈ news, u.oneCell' = true) (hbytes : (n + m) * bytes ≤ 140737488355328) (hbase : base ≤ w.heap.size)
    (s x : Operand) (ho : o.op = .call { callee := .builtin .append, args := #[s, x], argTypes := #[t, t] }) (hs : a.eval s = .slice A n c) (hx : a.eval x = .slice D m d)
    (h : ∀ A' c' w', Own w' base e size A' (n + m) c' (xs ++ news) → Upd (fun k => blockOf A = some k) w w' → (blockOf A' = blockOf A ∨ ∃ g, A' = some ⟨g, 0, none⟩ ∧ w.heap.size ≤ g) → K (a.put o.dst (.slice A' (n + m) c')) w') : o.wp P a w K Q := by
  obtain ⟨A', c', w', hrun, h2, h3, h4⟩ := run_app (P := P) (ty := o.type) (d := d) hi hown hr h1 hbytes hbase
  unfold Oper.wp execOp
  simp only [ho, resolve, invoke, builtin, Sem.run_bind, Sem.run_pure, Result.andThen_ok, List.map_toArray, List.map_cons, List.map_nil, hs, hx, hrun]
  exact h A' c' w' h2 h3 h4

theorem wpList_app {t : TypeId} {bytes : Nat} {ops : Array Oper} {rest : List Oper} {o : Oper} {a : Act} {Q : Exit → Act → World → Prop} (hi : Elem P t e size bytes) (hown : Own w base e size A n c xs)
    {B : Nat} {D : Option Addr} {m d : Nat} {news : List Value} (hr : Reads w B size D m news) (h1 : ∀ u ∈ news, u.oneCell' = true) (hbytes : (n + m) * bytes ≤ 140737488355328) (hbase : base ≤ w.heap.size)
    (s x : Operand) (hgd : o.guard = none) (ho : o.op = .call { callee := .builtin .append, args := #[s, x], argTypes := #[t, t] }) (hs : a.eval s = .slice A n c) (hx : a.eval x = .slice D m d)
    (h : ∀ A' c' w', Own w' base e size A' (n + m) c' (xs ++ news) → Upd (fun k => blockOf A = some k) w w' → (blockOf A' = blockOf A ∨ ∃ g, A' = some ⟨g, 0, none⟩ ∧ w.heap.size ≤ g) → wpList P ops Q rest (a.put o.dst (.slice A' (n + m) c')) w') : wpList P ops Q (o :: rest) a w :=
  wpList_plain hgd fun _ hK => wp_app hi hown hr h1 hbytes hbase s x ho hs hx fun A' c' w' h2 h3 h4 => hK _ _ (h A' c' w' h2 h3 h4)

theorem step_app {t : TypeId} {bytes : Nat} {ops : Array Oper} {o : Oper} {a : Act} {K : Act → World → Prop} {Q : Exit → Act → World → Prop} {E : Prop} (hi : Elem P t e size bytes) (hown : Own w base e size A n c xs)
    {B : Nat} {D : Option Addr} {m d : Nat} {news : List Value} (hr : Reads w B size D m news) (h1 : ∀ u ∈ news, u.oneCell' = true) (hbytes : (n + m) * bytes ≤ 140737488355328) (hbase : base ≤ w.heap.size)
    (s x : Operand) (hgd : o.guard = none) (ho : o.op = .call { callee := .builtin .append, args := #[s, x], argTypes := #[t, t] }) (hs : a.eval s = .slice A n c) (hx : a.eval x = .slice D m d)
    (h : ∀ A' c' w', Own w' base e size A' (n + m) c' (xs ++ news) → Upd (fun k => blockOf A = some k) w w' → (blockOf A' = blockOf A ∨ ∃ g, A' = some ⟨g, 0, none⟩ ∧ w.heap.size ≤ g) → K (a.put o.dst (.slice A' (n + m) c')) w') :
    if Region.wanted o (yielded ops a.tmps) = true then Oper.wp P o a w K Q else E := by
  have hw : Region.wanted o (yielded ops a.tmps) = true := by simp [Region.wanted, hgd]
  rw [if_pos hw]
  exact wp_app hi hown hr h1 hbytes hbase s x ho hs hx h

/-- The cells that 'append(s, x)' lays for x. -/
theorem reads_new {cs : Array Value} (w : World) (e m : Nat) (hs : cs.size = m * size) : Reads (w.alloc (.cells cs e)) (w.heap.size + 1) size (some ⟨w.heap.size, 0, none⟩) m cs.toList := by
  have := Reads.of_blk (B := w.heap.size + 1) (n := m) (size := size) (Blk.new w e cs) (by omega) (by omega)
  rwa [List.take_of_length_le (by simp; omega)] at this
end
end Go.Proofs.Ytgidkjfakecniaa
