/-
  Texts joined: SlV, SstC, SstP, SstD, SstE, SstF, SstR, SstJ, SstK, SstM, SstN.
-/
import Derived.Test.YtnhcfhamcakfkaaMSstL2d
import Derived.Laws.BitsAllLaws
/-
  Arguments: lists of numbers and of texts, wherever they lie.
-/
namespace Go.Proofs.Ytnhcfhamcakfkaa
open Go.RowKit
section
variable {P : Program} {w : World}
theorem wf_bd {x : Int} (h : (Lit.int .i64 x).wf = true) : -9223372036854775808 ≤ x ∧ x ≤ 9223372036854775807 := by
  have h1 : IntKind.i64.min = -9223372036854775808 := by decide
  have h2 : IntKind.i64.max = 9223372036854775807 := by decide
  simpa only [Lit.wf, h1, h2, Bool.and_eq_true, decide_eq_true_eq] using h
theorem cel_slice1 {α : Type} [Inhabited α] {f : α → Value} {Q : α → Prop} {n : Nat} {t e : TypeId} {cs : List Value} (ht : P.underlying t = some (.slice e)) (hm : P.cellsOf e = 1) (hcel : ∀ (n : Nat) (cs : List Value), Cel P w n e cs → ∃ a, cs = [f a] ∧ Q a) (h : Cel P w n t cs) :
    ∃ A c l, cs = [.slice A (List.length l) c] ∧ Reads w w.heap.size 1 A l.length (l.map f) ∧ (∀ a ∈ l, Q a) ∧ l.length ≤ c ∧ c * P.bytesOf e ≤ reachBytes := by
  rcases cel_slice ht h with rfl | ⟨a, len, cap, rfl, hl, hmx, hb, hc⟩
  · exact ⟨none, 0, [], rfl, Reads.none_, by simp, Nat.le_refl _, by simp⟩
  · rw [hm] at hc
    have hrow : ∀ i, i < len → ∃ x : α, w.cell? (a.add i) = some (f x) ∧ Q x := by
      intro i hi
      obtain ⟨k, cs, h1, h2, h3⟩ := hc i (by omega)
      obtain ⟨x, rfl, hx⟩ := hcel k cs h3
      have := h2 0 (by omega)
      rw [add_of_add] at this
      exact ⟨x, by simpa using this, hx⟩
    obtain ⟨xs, hxl, hx⟩ := choose_rows hrow
    subst hxl
    refine ⟨some a, cap, xs, rfl, ⟨by simp, fun hn => ⟨a, rfl, ?_, fun j u hu => ?_⟩⟩, fun y hy => ?_, hl, hb⟩
    · obtain ⟨x, _, h1, _⟩ := hx 0 hn
      have := World.block_lt_of_cell? w _ h1
      rwa [block_of_add] at this
    · rw [List.getElem?_map] at hu
      obtain ⟨y, hy, rfl⟩ := Option.map_eq_some_iff.1 hu
      obtain ⟨x, h1, h2, _⟩ := hx j (List.getElem?_eq_some_iff.1 hy).1
      rw [hy] at h1
      injection h1 with h1
      rw [h1, h2]
    · obtain ⟨i, hi⟩ := List.mem_iff_getElem?.1 hy
      obtain ⟨x, h1, _, h2⟩ := hx i (List.getElem?_eq_some_iff.1 hi).1
      rw [hi] at h1
      injection h1 with h1
      rw [h1]
      exact h2
theorem cel_ints {n : Nat} {t e : TypeId} {cs : List Value} (ht : P.underlying t = some (.slice e)) (he : P.underlying e = some (.int .i64)) (hm : P.cellsOf e = 1) (hb : P.bytesOf e = 8) (h : Cel P w n t cs) :
    ∃ A c xs, cs = [.slice A (List.length xs) c] ∧ Reads w w.heap.size 1 A xs.length (ints xs) ∧ (∀ x ∈ xs, -9223372036854775808 ≤ x ∧ x ≤ 9223372036854775807) ∧ xs.length ≤ 17592186044415 := by
  obtain ⟨A, c, l, rfl, hr, hq, hc, hbb⟩ := cel_slice1 (f := Value.int .i64) (Q := fun x => -9223372036854775808 ≤ x ∧ x ≤ 9223372036854775807) ht hm (fun n cs h => by
    obtain ⟨m, rfl, hw⟩ := cel_int he h
    exact ⟨m, rfl, wf_bd hw⟩) h
  rw [hb] at hbb
  unfold reachBytes at hbb
  exact ⟨A, c, l, rfl, hr, hq, by omega⟩
theorem cel_strs {n : Nat} {t e : TypeId} {cs : List Value} (ht : P.underlying t = some (.slice e)) (he : P.underlying e = some .string) (hm : P.cellsOf e = 1) (hb : P.bytesOf e = 16) (h : Cel P w n t cs) :
    ∃ A c xs, cs = [.slice A (List.length xs) c] ∧ Reads w w.heap.size 1 A xs.length (strs xs) ∧ (∀ x ∈ xs, ByteArray.size x ≤ reachBytes) ∧ xs.length ≤ 8796093022207 := by
  obtain ⟨A, c, l, rfl, hr, hq, hc, hbb⟩ := cel_slice1 (f := Value.string) (Q := fun x => ByteArray.size x ≤ reachBytes) ht hm (fun n cs h => by
    obtain ⟨m, rfl, _, hw⟩ := cel_string he h
    exact ⟨m, rfl, hw⟩) h
  rw [hb] at hbb
  unfold reachBytes at hbb
  exact ⟨A, c, l, rfl, hr, hq, by omega⟩
theorem seg_ {cs v : List Value} {off s off' : Nat} (h : (cs.drop off).take s = v) (ho : off + s = off') : cs.drop off = v ++ cs.drop off' := by
  rw [← h, ← ho, ← List.drop_drop, List.take_append_drop]
/-- A slice of structs that is handed in, as a list. -/
theorem val_list {α : Type} [Inhabited α] {f : α → List Value} {Q : World → α → Prop} {t e : TypeId} {m : Nat} {v : Value} (ht : P.underlying t = some (.slice e)) (hm : P.cellsOf e = m) (hm0 : 0 < m) (hf : ∀ a, (f a).length = m)
    (hcel : ∀ (n : Nat) (cs : List Value), Cel P w n e cs → ∃ a, cs = f a ∧ Q w a) (h : Val P w t v) :
    ∃ A c l, v = .slice A (List.length l) c ∧ Reads w w.heap.size m A l.length (l.flatMap f) ∧ (∀ a ∈ l, Q w a) ∧ l.length ≤ c ∧ c * P.bytesOf e ≤ reachBytes := by
  obtain ⟨A, n, c, l, rfl, hr, hq, hnc, _, hb⟩ := val_flat ht hm hm0 hf hcel h
  have e1 : flat f l = l.flatMap f := by
    clear hr hq
    induction l with
    | nil => rfl
    | cons a l ih => simp [flat, List.flatMap_cons] at ih ⊢
  have hl : l.length = n := by
    have := hr.1
    rw [e1, flatMap_len hf] at this
    exact Nat.eq_of_mul_eq_mul_right hm0 this
  subst hl
  exact ⟨A, c, l, rfl, e1 ▸ hr, hq, hnc, hb⟩
theorem val_cel {t e : TypeId} {v : Value} (ht : P.underlying t = some (.slice e)) (h : Val P w t v) : ∃ n, Cel P w n t [v] := by
  simp only [Val, ht] at h
  exact h.2
theorem val_celS {t : TypeId} {fs : Array Field} {v : Value} (ht : P.underlying t = some (.struct fs)) (h : Val P w t v) : ∃ (cs : Array Value) (n : Nat), v = .agg cs ∧ Cel P w n t cs.toList := by
  simp only [Val, ht] at h
  exact h
theorem val_ints {t e : TypeId} {v : Value} (ht : P.underlying t = some (.slice e)) (he : P.underlying e = some (.int .i64)) (hm : P.cellsOf e = 1) (hb : P.bytesOf e = 8) (h : Val P w t v) :
    ∃ A c xs, v = .slice A (List.length xs) c ∧ Reads w w.heap.size 1 A xs.length (ints xs) ∧ (∀ x ∈ xs, -9223372036854775808 ≤ x ∧ x ≤ 9223372036854775807) ∧ xs.length ≤ 17592186044415 := by
  obtain ⟨n, h⟩ := val_cel ht h
  obtain ⟨A, c, xs, e1, h1⟩ := cel_ints ht he hm hb h
  exact ⟨A, c, xs, by simpa using e1, h1⟩
end
end Go.Proofs.Ytnhcfhamcakfkaa
/- entries over pieces; slices.Chunk -/
namespace Go.Proofs.Ytnhcfhamcakfkaa
open Go.RowKit
structure Ety where
  key : ByteArray
  seq : Int
  del : Bool
  value : ByteArray
  deriving Inhabited
def Ety.enc (x : Ety) : List Value := [.string x.key, .int .i64 x.seq, .bool x.del, .string x.value]
theorem ety_len (x : Ety) : x.enc.length = 4 := rfl
def Ety.ok (_ : World) (x : Ety) : Prop := x.key.size ≤ reachBytes ∧ (-9223372036854775808 ≤ x.seq ∧ x.seq ≤ 9223372036854775807) ∧ x.value.size ≤ reachBytes
theorem cel_ety {w : World} (n : Nat) (cs : List Value) (h : Cel Try.prog w n 42 cs) : ∃ x : Ety, cs = x.enc ∧ x.ok w := by
  obtain ⟨hl, m, hf⟩ := cel_fields (k := 4) (rows := [(9, 0, 1), (3, 1, 1), (4, 2, 1), (9, 3, 1)]) Try.underlying42 (by kernel_rfl) (by kernel_rfl) h
  simp only [List.forall_mem_cons] at hf
  obtain ⟨h0, h1, h2, h3, _⟩ := hf
  obtain ⟨f0, e0, _, w0⟩ := cel_string Try.underlying9 h0
  obtain ⟨f1, e1, w1⟩ := cel_int Try.underlying3 h1
  obtain ⟨f2, e2⟩ := cel_bool Try.underlying4 h2
  obtain ⟨f3, e3, _, w3⟩ := cel_string Try.underlying9 h3
  have t0 := seg_ (off' := 1) e0 rfl
  have t1 := seg_ (off' := 2) e1 rfl
  have t2 := seg_ (off' := 3) e2 rfl
  have t3 := seg_ (off' := 4) e3 rfl
  rw [List.drop_zero] at t0
  refine ⟨⟨f0, f1, f2, f3⟩, ?_, w0, wf_bd w1, w3⟩
  rw [t0, t1, t2, t3, List.drop_of_length_le (by omega)]
  first | rfl | simp [Ety.enc]
abbrev rdE (A : Option Addr) (l : List Ety) : Chunk := rd A l.length 4 (l.flatMap Ety.enc)
abbrev rowE (A : Option Addr) (c : Nat) (l : List Ety) : Chunk := row A l.length c 42 4 (l.flatMap Ety.enc)
theorem elem_ents : Elem Try.prog 22 42 4 48 := elem_of (by kernel_rfl)
/-- How many entries the block i has, of n. -/
def blkN (n i : Nat) : Nat := Nat.min 3 (n - 3 * i)
def chunkV (ad : Addr) (n i : Nat) : List Value := [.slice (some (ad.add (3 * i * 4))) (blkN n i) (blkN n i)]
theorem chunk_iter (g1 g2 c n : Nat) (ad : Addr) (hn : n ≤ 8796093022207) (hc : n ≤ c) : IterQ Try.prog 55 #[.pointer (some ⟨g1, 0, none⟩), .pointer (some ⟨g2, 0, none⟩)] (chunkV ad n) [blk g2 3 [.int .i64 3], blk g1 22 [.slice (some ad) n c]] (List.range ((n + 2) / 3)) := by
  intro ι X Y Rc φ ψ l i0 hX hY hR hy h0
  refine Fn.enter Try.func55 rfl Try.ntmps55 (by rfl) ?_
  intro w0
  refine Cd.seq ?_
  refine Cd.region ?_
  refine Ls.ev (some 4) (Ev.assign (show Oper.op _ = Op.assign (Operand.const (Value.int IntKind.i64 0)) from rfl) (by rfl)) (by rfl) (by rfl) ?_
  refine Ls.nil ?_
  refine Cd.block ?_
  refine Cd.loop (ι := Nat × ι) (fun j => [(0, .func (.yield l) #[] #[]), (1, .pointer (some ⟨g1, 0, none⟩)), (2, .pointer (some ⟨g2, 0, none⟩)), (4, .int .i64 (3 * j.1 : Nat))]) (fun j => [X (List.range j.1) j.2, Rc, blk g2 3 [.int .i64 3], blk g1 22 [.slice (some ad) n c]]) (fun j => j.1 ≤ (n + 2) / 3 ∧ φ (List.range j.1) j.2) (fun j => (n + 2) / 3 - j.1) ((0, i0)) (⟨Nat.zero_le _, h0⟩) ?_ rfl ?_
  · (repeat (first | exact trivial | refine ⟨by rfl, ?_⟩))
  rintro ⟨k, j⟩ ⟨hk, hφ⟩
  dsimp only at hk hφ ⊢
  refine Cd.seq ?_
  refine Cd.seq ?_
  refine Cd.region ?_
  refine Ls.ev (some 6) (Ev.move (show Oper.op _ = Op.move (Operand.tmp 4) from rfl) (by rfl)) (by rfl) (by rfl) ?_
  refine Ls.ev (some 7) (Ev.load 3 (show Oper.op _ = Op.load 22 (Operand.tmp 1) from rfl) (by rfl) (by rfl) (by kernel_rfl) (by rfl)) (by rfl) (by rfl) ?_
  refine Ls.ev (some 8) (Ev.len (show Oper.op _ = Op.call { callee := Callee.builtin Builtin.len, args := #[Operand.tmp 7], argTypes := #[22] } from rfl) (by rfl) Try.underlying22) (by rfl) (by rfl) ?_
  refine Ls.ev (some 9) (Ev.lss (show Oper.op _ = Op.binOp BinOp.lss 3 (Operand.tmp 6) (Operand.tmp 8) 3 from rfl) (by rfl) (by rfl)) (by rfl) (by rfl) ?_
  refine Ls.nil ?_
  refine Cd.cond _ (by rfl) (fun h => ?_) (fun h => ?_)
  · skip
    have hlt : 3 * k < n := by have := of_decide_eq_true h; omega
    have hb : blkN n k ≤ n - 3 * k := Nat.min_le_right _ _
    have hb2 : 0 < blkN n k := by show 0 < min 3 (n - 3 * k); omega
    refine Cd.skip ?_
    refine Cd.seq ?_
    refine Cd.block ?_
    refine Cd.seq ?_
    refine Cd.draw [] (by kernel_rfl) ?_
    refine Rg.ev 0 (by rfl) (fun _ h => h) (Ev.load 2 (show Oper.op _ = Op.load 3 (Operand.tmp 2) from rfl) (by rfl) (by rfl) (by kernel_rfl) (by rfl)) (by rfl) (some 13) (by rfl) (by kernel_rfl) (by kernel_rfl) (by kernel_rfl) (by kernel_rfl) ?_
    refine Rg.ev 1 (by rfl) (fun _ h => h) (Ev.load 3 (show Oper.op _ = Op.load 22 (Operand.tmp 1) from rfl) (by rfl) (by rfl) (by kernel_rfl) (by rfl)) (by rfl) (some 14) (by rfl) (by kernel_rfl) (by kernel_rfl) (by kernel_rfl) (by kernel_rfl) ?_
    refine Rg.ev 2 (by rfl) (fun _ h => h) (Ev.move (show Oper.op _ = Op.move (Operand.tmp 4) from rfl) (by rfl)) (by rfl) (some 15) (by rfl) (by kernel_rfl) (by kernel_rfl) (by kernel_rfl) (by kernel_rfl) ?_
    refine Rg.ev 3 (by rfl) (fun _ h => h) (Ev.sliceLs (sz := 4) (show Oper.op _ = Op.slice 22 (Operand.tmp 14) (some (Operand.tmp 15)) none none from rfl) (by rfl) (by rfl) Try.underlying22 (by kernel_rfl) (by omega)) (by rfl) (some 16) (by rfl) (by kernel_rfl) (by kernel_rfl) (by kernel_rfl) (by kernel_rfl) ?_
    refine Rg.ev 4 (by rfl) (fun _ h => h) (Ev.len (show Oper.op _ = Op.call { callee := Callee.builtin Builtin.len, args := #[Operand.tmp 16], argTypes := #[22] } from rfl) (by rfl) Try.underlying22) (by rfl) (some 17) (by rfl) (by kernel_rfl) (by kernel_rfl) (by kernel_rfl) (by kernel_rfl) ?_
    refine Rg.ev 5 (by rfl) (fun _ h => h) (Ev.minN (a := 3) (b := n - 3 * k) (m := blkN n k) (show Oper.op _ = Op.call { callee := Callee.builtin Builtin.min, args := #[Operand.tmp 13, Operand.tmp 17], argTypes := #[3, 3] } from rfl) (by rfl) (by rfl) rfl) (by rfl) (some 18) (by rfl) (by kernel_rfl) (by kernel_rfl) (by kernel_rfl) (by kernel_rfl) ?_
    refine Rg.ev 6 (by rfl) (fun _ h => h) (Ev.assign (show Oper.op _ = Op.assign (Operand.tmp 18) from rfl) (by rfl)) (by rfl) (some 5) (by rfl) (by kernel_rfl) (by kernel_rfl) (by kernel_rfl) (by kernel_rfl) ?_
    refine Rg.done (by kernel_rfl) ?_ _
    refine Cd.seq ?_
    refine Cd.regionI ?_
    refine Li.ev (some 19) (Ev.move (show Oper.op _ = Op.move (Operand.tmp 0) from rfl) (by rfl)) (by rfl) (by rfl) ?_
    refine Li.ev (some 20) (Ev.load 3 (show Oper.op _ = Op.load 22 (Operand.tmp 1) from rfl) (by rfl) (by rfl) (by kernel_rfl) (by rfl)) (by rfl) (by rfl) ?_
    refine Li.ev (some 21) (Ev.move (show Oper.op _ = Op.move (Operand.tmp 4) from rfl) (by rfl)) (by rfl) (by rfl) ?_
    refine Li.ev (some 22) (Ev.move (show Oper.op _ = Op.move (Operand.tmp 4) from rfl) (by rfl)) (by rfl) (by rfl) ?_
    refine Li.ev (some 23) (Ev.move (show Oper.op _ = Op.move (Operand.tmp 5) from rfl) (by rfl)) (by rfl) (by rfl) ?_
    refine Li.ev (some 24) (Ev.addI (show Oper.op _ = Op.binOp BinOp.add 3 (Operand.tmp 22) (Operand.tmp 23) 3 from rfl) (by rfl) (by rfl) (by omega)) (by rfl) (by rfl) ?_
    refine Li.ev (some 25) (Ev.move (show Oper.op _ = Op.move (Operand.tmp 4) from rfl) (by rfl)) (by rfl) (by rfl) ?_
    refine Li.ev (some 26) (Ev.move (show Oper.op _ = Op.move (Operand.tmp 5) from rfl) (by rfl)) (by rfl) (by rfl) ?_
    refine Li.ev (some 27) (Ev.addI (show Oper.op _ = Op.binOp BinOp.add 3 (Operand.tmp 25) (Operand.tmp 26) 3 from rfl) (by rfl) (by rfl) (by omega)) (by rfl) (by rfl) ?_
    refine Li.ev (some 28) (Ev.sliceLHMs (sz := 4) (show Oper.op _ = Op.slice 22 (Operand.tmp 20) (some (Operand.tmp 21)) (some (Operand.tmp 24)) (some (Operand.tmp 27)) from rfl) (by rfl) (by rfl) (by rfl) (by rfl) Try.underlying22 (by kernel_rfl) (by omega)) (by rfl) (by rfl) ?_
    have hsl : (Value.slice (some (ad.add (3 * k * 4))) (3 * k + blkN n k - 3 * k) (3 * k + blkN n k - 3 * k)) = .slice (some (ad.add (3 * k * 4))) (blkN n k) (blkN n k) := by rw [Nat.add_sub_cancel_left]
    have hlen : (List.range k).length = k := List.length_range
    have hget : (List.range ((n + 2) / 3))[(List.range k).length]? = some k := by
      rw [hlen, List.getElem?_range (by omega)]
    have hsp := hy (List.range k) j k hφ hget
    unfold chunkV at hsp
    rw [← hsl] at hsp
    refine Li.yield (some 29) [0, 1, 2, 3] (show Oper.op _ = Op.call { callee := Callee.value (Operand.tmp 19), args := #[Operand.tmp 28], argTypes := #[22] } from rfl) (by rfl) (hsp) (by rfl) (by rfl) (by rfl) (by rfl) (by rfl) ?_
    rintro ⟨b, q⟩ ⟨hp1, hp2⟩
    have hrg : List.range k ++ [k] = List.range (k + 1) := by rw [List.range_succ]
    rw [hrg] at hp1 hp2 ⊢
    cases b with
    | true =>
      skip
      refine Li.ev (some 30) (Ev.not (show Oper.op _ = Op.unOp UnOp.not 4 (Operand.tmp 29) from rfl) (by rfl)) (by rfl) (by rfl) ?_
      refine Li.nil ?_
      refine Cd.cond_false (by rfl) (rfl) ?_
      refine Cd.skip ?_
      refine Cd.region ?_
      refine Ls.ev (some 10) (Ev.move (show Oper.op _ = Op.move (Operand.tmp 4) from rfl) (by rfl)) (by rfl) (by rfl) ?_
      refine Ls.ev (some 11) (Ev.load 2 (show Oper.op _ = Op.load 3 (Operand.tmp 2) from rfl) (by rfl) (by rfl) (by kernel_rfl) (by rfl)) (by rfl) (by rfl) ?_
      refine Ls.ev (some 12) (Ev.addI (show Oper.op _ = Op.binOp BinOp.add 3 (Operand.tmp 10) (Operand.tmp 11) 3 from rfl) (by rfl) (by rfl) (by omega)) (by rfl) (by rfl) ?_
      refine Ls.ev (some 4) (Ev.assign (show Oper.op _ = Op.assign (Operand.tmp 12) from rfl) (by rfl)) (by rfl) (by rfl) ?_
      refine Ls.nil ?_
      refine Ent.inv ((k + 1, q)) ?_ ?_ ?_
      · (try dsimp only); exact ⟨⟨by omega, hp1 rfl⟩, by omega⟩
      · (repeat (first | exact trivial | refine ⟨by rfl, ?_⟩ | refine ⟨by simp only [List.length_append, List.length_cons, List.length_nil]; rfl, ?_⟩ | refine ⟨by push_cast; rfl, ?_⟩))
      · rfl
    | false =>
      skip
      refine Li.ev (some 30) (Ev.not (show Oper.op _ = Op.unOp UnOp.not 4 (Operand.tmp 29) from rfl) (by rfl)) (by rfl) (by rfl) ?_
      refine Li.nil ?_
      refine Cd.cond_true (by rfl) (rfl) ?_
      skip
      refine Cd.ret ?_
      refine Ent.ret ((false, List.range (k + 1), q)) (⟨fun e => (by cases e), fun _ => ⟨by
        obtain ⟨m, hm⟩ : ∃ m, (n + 2) / 3 = k + 1 + m := ⟨(n + 2) / 3 - (k + 1), by omega⟩
        show List.range (k + 1) <+: _
        rw [hm]
        exact ⟨_, List.range_add.symm⟩, hp2 rfl⟩⟩) (Res.nothing (by rfl)) ?_ [0, 1, 2, 3] (by rfl) ?_
      · rfl
      · rfl
  · skip
    have hk : k = (n + 2) / 3 := by have := of_decide_eq_false h; omega
    subst hk
    refine Cd.exit ?_
    refine Ent.fin ((true, [], j)) (⟨fun _ => hφ, fun e => (by cases e)⟩) (Res.nothing (by rfl)) ?_ [0, 1, 2, 3] (by rfl) ?_
    · rfl
    · rfl
end Go.Proofs.Ytnhcfhamcakfkaa
/- tables, plain: what is written -/
namespace Go.Proofs.Ytnhcfhamcakfkaa
open Go.RowKit
/-- The order of entries. -/
def befE (a b : Ety) : Bool := Op.bytesLess a.key.toList b.key.toList || (decide (a.key = b.key) && decide (b.seq < a.seq))
/-- What is wrong with an entry by itself. -/
def errE (e : Ety) : Int := if 64 < e.key.size ∨ 1024 < e.value.size then 3 else if (e.seq < 1 ∨ 4611686018427387904 < e.seq) ∨ (e.del = true ∧ e.value ≠ ⟨#[]⟩) then 1 else 0
/-- The first k entries of l are good and in their order. -/
def goodK (l : List Ety) (k : Nat) : Prop := ∀ i e, i < k → l[i]? = some e → errE e = 0 ∧ ∀ p, 0 < i → l[i - 1]? = some p → befE p e = true
/-- What is wrong with a list's entries from i on. -/
def scanE : Option Ety → List Ety → Int
  | _, [] => 0
  | p, e :: r => if errE e ≠ 0 then errE e else if p.any (fun p => !befE p e) then 60 else scanE (some e) r
def errL (l : List Ety) : Int := if l.length = 0 then 4 else if 84 < l.length then 5 else scanE none l
def prevE (l : List Ety) (k : Nat) : Option Ety := if k = 0 then none else l[k - 1]?
theorem scanE_step {l : List Ety} {k : Nat} {e : Ety} (h : l[k]? = some e) : scanE (prevE l k) (l.drop k) = if errE e ≠ 0 then errE e else if (prevE l k).any (fun p => !befE p e) then 60 else scanE (prevE l (k + 1)) (l.drop (k + 1)) := by
  obtain ⟨hk, rfl⟩ := List.getElem?_eq_some_iff.1 h
  rw [List.drop_eq_getElem_cons hk, scanE]
  have : prevE l (k + 1) = some l[k] := by simp [prevE, h]
  rw [this]
/-- The bytes of an entry. -/
def delB (b : Bool) : UInt8 := bif b then 1 else 0
def putL (e : Ety) : List UInt8 := textL e.key ++ uintL e.seq.toNat ++ [delB e.del] ++ textL e.value
def fourL (n : Nat) : List UInt8 := [UInt8.ofNat n, UInt8.ofNat (n / 256), UInt8.ofNat (n / 65536), UInt8.ofNat (n / 16777216)]
/-- The block k of a list, the frames of its first k blocks, and what the index says of them. -/
def blkE (l : List Ety) (k : Nat) : List Ety := (l.drop (3 * k)).take 3
def bodyE (b : List Ety) : List UInt8 := b.flatMap putL
def outK (l : List Ety) : Nat → List UInt8
  | 0 => []
  | k + 1 => outK l k ++ sealL (bodyE (blkE l k))
def fstK (b : List Ety) : ByteArray := ((b[0]?).map Ety.key).getD ⟨#[]⟩
def lstK (b : List Ety) : ByteArray := ((b[b.length - 1]?).map Ety.key).getD ⟨#[]⟩
theorem fstK_of {b : List Ety} {e : Ety} (h : b[0]? = some e) : fstK b = e.key := by simp [fstK, h]
theorem lstK_of {b : List Ety} {e : Ety} (h : b[b.length - 1]? = some e) : lstK b = e.key := by simp [lstK, h]
def idxE (l : List Ety) (k : Nat) : List UInt8 := textL (fstK (blkE l k)) ++ textL (lstK (blkE l k)) ++ uintL (outK l k).length ++ uintL (sealL (bodyE (blkE l k))).length
def idxK (l : List Ety) : Nat → List UInt8
  | 0 => []
  | k + 1 => idxK l k ++ idxE l k
def nbE (l : List Ety) : Nat := (l.length + 2) / 3
/-- Each of the first k texts that is another than the one ahead of it. -/
def cmpK (ks : List ByteArray) : Nat → List ByteArray
  | 0 => []
  | k + 1 => cmpK ks k ++ (if k = 0 ∨ ks[k - 1]? ≠ ks[k]? then (ks[k]?).toList else [])
def keysE (l : List Ety) : List ByteArray := l.map Ety.key
def outE (l : List Ety) : List UInt8 := outK l (nbE l)
def filE (l : List Ety) : List UInt8 := sealL (buildL (keysL (cmpK (keysE l) l.length)) 10)
def taiE (l : List Ety) : List UInt8 := sealL (uintL (nbE l) ++ idxK l (nbE l))
def tabL (l : List Ety) : List UInt8 := outE l ++ filE l ++ taiE l ++ fourL (outE l).length ++ fourL ((outE l).length + (filE l).length) ++ [99, 118, 116, 49]
end Go.Proofs.Ytnhcfhamcakfkaa
/- sstable's look, before, put, four, over pieces -/
namespace Go.Proofs.Ytnhcfhamcakfkaa
open Go.RowKit
theorem before_sl (a b : Ety) : Fn Try.prog 54 #[.agg a.enc.toArray, .agg b.enc.toArray] [] Unit (fun _ => .bool (befE a b)) (fun _ => []) (fun _ => True) := by
  refine Fn.enter Try.func54 rfl Try.ntmps54 (by rfl) ?_
  intro w0
  refine Cd.seq ?_
  refine Cd.region ?_
  refine Ls.does (some 2) (Does.box (show Oper.op _ = Op.box 42 (Operand.tmp 0) from rfl) (by rfl)) (by rfl) (by rfl) ?_
  intro g1 _
  refine Ls.does (some 3) (Does.box (show Oper.op _ = Op.box 42 (Operand.tmp 1) from rfl) (by rfl)) (by rfl) (by rfl) ?_
  intro g2 _
  refine Ls.ev (some 4) (Ev.assign (show Oper.op _ = Op.assign (Operand.const (Value.bool false)) from rfl) (by rfl)) (by rfl) (by rfl) ?_
  refine Ls.nil ?_
  refine Cd.seq ?_
  refine Cd.region ?_
  refine Ls.ev (some 5) (Ev.fieldAddr (k := 0) (show Oper.op _ = Op.fieldAddr 42 (Operand.tmp 2) 0 from rfl) (by rfl) (by kernel_rfl) (by rfl)) (by rfl) (by rfl) ?_
  refine Ls.ev (some 6) (Ev.load 1 (show Oper.op _ = Op.load 9 (Operand.tmp 5) from rfl) (by rfl) (by rfl) (by kernel_rfl) (by rfl)) (by rfl) (by rfl) ?_
  refine Ls.ev (some 7) (Ev.fieldAddr (k := 0) (show Oper.op _ = Op.fieldAddr 42 (Operand.tmp 3) 0 from rfl) (by rfl) (by kernel_rfl) (by rfl)) (by rfl) (by rfl) ?_
  refine Ls.ev (some 8) (Ev.load 0 (show Oper.op _ = Op.load 9 (Operand.tmp 7) from rfl) (by rfl) (by rfl) (by kernel_rfl) (by rfl)) (by rfl) (by rfl) ?_
  refine Ls.ev (some 9) (Ev.lssS (show Oper.op _ = Op.binOp BinOp.lss 9 (Operand.tmp 6) (Operand.tmp 8) 9 from rfl) (by rfl) (by rfl)) (by rfl) (by rfl) ?_
  refine Ls.ev (some 10) (Ev.move (show Oper.op _ = Op.move (Operand.tmp 9) from rfl) (by rfl)) (by rfl) (by rfl) ?_
  refine Ent.split 10 (by rfl) (fun h => ?_) (fun h => ?_)
  · skip
    refine Ls.ev (some 11) (Ev.fieldAddr (k := 0) (show Oper.op _ = Op.fieldAddr 42 (Operand.tmp 2) 0 from rfl) (by rfl) (by kernel_rfl) (by rfl)) (by rfl) (by rfl) ?_
    refine Ls.ev (some 12) (Ev.load 1 (show Oper.op _ = Op.load 9 (Operand.tmp 11) from rfl) (by rfl) (by rfl) (by kernel_rfl) (by rfl)) (by rfl) (by rfl) ?_
    refine Ls.ev (some 13) (Ev.fieldAddr (k := 0) (show Oper.op _ = Op.fieldAddr 42 (Operand.tmp 3) 0 from rfl) (by rfl) (by kernel_rfl) (by rfl)) (by rfl) (by rfl) ?_
    refine Ls.ev (some 14) (Ev.load 0 (show Oper.op _ = Op.load 9 (Operand.tmp 13) from rfl) (by rfl) (by rfl) (by kernel_rfl) (by rfl)) (by rfl) (by rfl) ?_
    refine Ls.ev (some 15) (Ev.eqlS (show Oper.op _ = Op.binOp BinOp.eql 9 (Operand.tmp 12) (Operand.tmp 14) 9 from rfl) (by rfl) (by rfl)) (by rfl) (by rfl) ?_
    refine Ls.ev (some 16) (Ev.move (show Oper.op _ = Op.move (Operand.tmp 15) from rfl) (by rfl)) (by rfl) (by rfl) ?_
    refine Ent.split 16 (by rfl) (fun h2 => ?_) (fun h2 => ?_)
    · skip
      refine Ls.pass (some 17) (by rfl) (by rfl) ?_
      refine Ls.pass (some 18) (by rfl) (by rfl) ?_
      refine Ls.pass (some 19) (by rfl) (by rfl) ?_
      refine Ls.pass (some 20) (by rfl) (by rfl) ?_
      refine Ls.pass (some 21) (by rfl) (by rfl) ?_
      refine Ls.ev (some 22) (Ev.pickF (show Oper.op _ = Op.pick (Operand.tmp 16) (Operand.tmp 21) (Operand.const (Value.bool false)) from rfl) (by rfl) (by rfl)) (by rfl) (by rfl) ?_
      refine Ls.ev (some 23) (Ev.pickF (show Oper.op _ = Op.pick (Operand.tmp 10) (Operand.const (Value.bool true)) (Operand.tmp 22) from rfl) (by rfl) (by rfl)) (by rfl) (by rfl) ?_
      refine Ls.ev (some 4) (Ev.assign (show Oper.op _ = Op.assign (Operand.tmp 23) from rfl) (by rfl)) (by rfl) (by rfl) ?_
      refine Ls.nil ?_
      refine Cd.ret ?_
      refine Ent.ret (()) (trivial) (Res.tmp (by rfl) (by rfl)) ?_ [] (by rfl) ?_
      · unfold befE; rw [h, h2]; rfl
      · rfl
    · skip
      refine Ls.ev (some 17) (Ev.fieldAddr (k := 1) (show Oper.op _ = Op.fieldAddr 42 (Operand.tmp 2) 1 from rfl) (by rfl) (by kernel_rfl) (by rfl)) (by rfl) (by rfl) ?_
      refine Ls.ev (some 18) (Ev.load 1 (show Oper.op _ = Op.load 3 (Operand.tmp 17) from rfl) (by rfl) (by rfl) (by kernel_rfl) (by rfl)) (by rfl) (by rfl) ?_
      refine Ls.ev (some 19) (Ev.fieldAddr (k := 1) (show Oper.op _ = Op.fieldAddr 42 (Operand.tmp 3) 1 from rfl) (by rfl) (by kernel_rfl) (by rfl)) (by rfl) (by rfl) ?_
      refine Ls.ev (some 20) (Ev.load 0 (show Oper.op _ = Op.load 3 (Operand.tmp 19) from rfl) (by rfl) (by rfl) (by kernel_rfl) (by rfl)) (by rfl) (by rfl) ?_
      refine Ls.ev (some 21) (Ev.gtr (show Oper.op _ = Op.binOp BinOp.gtr 3 (Operand.tmp 18) (Operand.tmp 20) 3 from rfl) (by rfl) (by rfl)) (by rfl) (by rfl) ?_
      refine Ls.ev (some 22) (Ev.pickT (show Oper.op _ = Op.pick (Operand.tmp 16) (Operand.tmp 21) (Operand.const (Value.bool false)) from rfl) (by rfl) (by rfl)) (by rfl) (by rfl) ?_
      refine Ls.ev (some 23) (Ev.pickF (show Oper.op _ = Op.pick (Operand.tmp 10) (Operand.const (Value.bool true)) (Operand.tmp 22) from rfl) (by rfl) (by rfl)) (by rfl) (by rfl) ?_
      refine Ls.ev (some 4) (Ev.assign (show Oper.op _ = Op.assign (Operand.tmp 23) from rfl) (by rfl)) (by rfl) (by rfl) ?_
      refine Ls.nil ?_
      refine Cd.ret ?_
      refine Ent.ret (()) (trivial) (Res.tmp (by rfl) (by rfl)) ?_ [] (by rfl) ?_
      · unfold befE; rw [h, h2]; rfl
      · rfl
  · skip
    refine Ls.pass (some 11) (by rfl) (by rfl) ?_
    refine Ls.pass (some 12) (by rfl) (by rfl) ?_
    refine Ls.pass (some 13) (by rfl) (by rfl) ?_
    refine Ls.pass (some 14) (by rfl) (by rfl) ?_
    refine Ls.pass (some 15) (by rfl) (by rfl) ?_
    refine Ls.pass (some 16) (by rfl) (by rfl) ?_
    refine Ls.pass (some 17) (by rfl) (by rfl) ?_
    refine Ls.pass (some 18) (by rfl) (by rfl) ?_
    refine Ls.pass (some 19) (by rfl) (by rfl) ?_
    refine Ls.pass (some 20) (by rfl) (by rfl) ?_
    refine Ls.pass (some 21) (by rfl) (by rfl) ?_
    refine Ls.pass (some 22) (by rfl) (by rfl) ?_
    refine Ls.ev (some 23) (Ev.pickT (show Oper.op _ = Op.pick (Operand.tmp 10) (Operand.const (Value.bool true)) (Operand.tmp 22) from rfl) (by rfl) (by rfl)) (by rfl) (by rfl) ?_
    refine Ls.ev (some 4) (Ev.assign (show Oper.op _ = Op.assign (Operand.tmp 23) from rfl) (by rfl)) (by rfl) (by rfl) ?_
    refine Ls.nil ?_
    refine Cd.ret ?_
    refine Ent.ret (()) (trivial) (Res.tmp (by rfl) (by rfl)) ?_ [] (by rfl) ?_
    · unfold befE; rw [h]; rfl
    · rfl
def bad1 (e : Ety) : Bool := decide ((64 : Int) < e.key.size) || decide ((1024 : Int) < e.value.size)
def bad2 (e : Ety) : Bool := decide (e.seq < 1) || (decide (4611686018427387904 < e.seq) || (e.del && decide (e.value ≠ ⟨#[]⟩)))
theorem errE_1 {e : Ety} (h : bad1 e = true) : errE e = 3 := by
  unfold errE
  rw [if_pos]
  simp only [bad1, Bool.or_eq_true, decide_eq_true_eq] at h
  omega
theorem errE_2 {e : Ety} (h1 : bad1 e = false) (h : bad2 e = true) : errE e = 1 := by
  unfold errE
  rw [if_neg, if_pos]
  · simp only [bad2, Bool.or_eq_true, Bool.and_eq_true, decide_eq_true_eq] at h
    rcases h with h | h | h
    · exact .inl (.inl h)
    · exact .inl (.inr h)
    · exact .inr h
  · simp only [bad1, Bool.or_eq_false_iff, decide_eq_false_iff_not] at h1
    omega
theorem errE_0 {e : Ety} (h1 : bad1 e = false) (h : bad2 e = false) : errE e = 0 := by
  unfold errE
  rw [if_neg, if_neg]
  · simp only [bad2, Bool.or_eq_false_iff, Bool.and_eq_false_iff, decide_eq_false_iff_not] at h
    rintro ((h2 | h2) | h2)
    · exact h.1 h2
    · exact h.2.1 h2
    · rcases h.2.2 with h3 | h3
      · rw [h2.1] at h3; cases h3
      · exact h3 h2.2
  · simp only [bad1, Bool.or_eq_false_iff, decide_eq_false_iff_not] at h1
    omega
theorem look_sl (A : Option Addr) (c : Nat) (l : List Ety) (hn : l.length ≤ 8796093022207) : Fn Try.prog 27 #[.slice A l.length c] [rdE A l] Unit (fun _ => .int .i64 (errL l)) (fun _ => []) (fun _ => True) := by
  refine Fn.enter Try.func27 rfl Try.ntmps27 (by rfl) ?_
  intro w0
  refine Cd.seq ?_
  refine Cd.region ?_
  refine Ls.ev (some 2) (Ev.assign (show Oper.op _ = Op.assign (Operand.const (Value.int IntKind.i64 0)) from rfl) (by rfl)) (by rfl) (by rfl) ?_
  refine Ls.nil ?_
  refine Cd.seq ?_
  refine Cd.seq ?_
  refine Cd.region ?_
  refine Ls.ev (some 6) (Ev.move (show Oper.op _ = Op.move (Operand.tmp 0) from rfl) (by rfl)) (by rfl) (by rfl) ?_
  refine Ls.ev (some 7) (Ev.len (show Oper.op _ = Op.call { callee := Callee.builtin Builtin.len, args := #[Operand.tmp 6], argTypes := #[22] } from rfl) (by rfl) Try.underlying22) (by rfl) (by rfl) ?_
  refine Ls.ev (some 3) (Ev.assign (show Oper.op _ = Op.assign (Operand.tmp 7) from rfl) (by rfl)) (by rfl) (by rfl) ?_
  refine Ls.nil ?_
  refine Cd.block ?_
  refine Cd.seq ?_
  refine Cd.region ?_
  refine Ls.ev (some 9) (Ev.move (show Oper.op _ = Op.move (Operand.tmp 3) from rfl) (by rfl)) (by rfl) (by rfl) ?_
  refine Ls.ev (some 10) (Ev.eql (show Oper.op _ = Op.binOp BinOp.eql 3 (Operand.tmp 9) (Operand.const (Value.int IntKind.i64 0)) 3 from rfl) (by rfl) (by rfl)) (by rfl) (by rfl) ?_
  refine Ls.ev (some 8) (Ev.assign (show Oper.op _ = Op.assign (Operand.tmp 10) from rfl) (by rfl)) (by rfl) (by rfl) ?_
  refine Ls.nil ?_
  refine Cd.cond _ (by rfl) (fun h => ?_) (fun h => ?_)
  · skip
    have h0 : l.length = 0 := by have := of_decide_eq_true h; omega
    refine Cd.seq ?_
    refine Cd.region ?_
    refine Ls.ev (some 2) (Ev.assign (show Oper.op _ = Op.assign (Operand.const (Value.int IntKind.i64 4)) from rfl) (by rfl)) (by rfl) (by rfl) ?_
    refine Ls.nil ?_
    refine Cd.ret ?_
    refine Ent.ret (()) (trivial) (Res.tmp (by rfl) (by rfl)) ?_ [] (by rfl) ?_
    · simp [errL, h0]
    · rfl
  · skip
    have h0 : ¬ l.length = 0 := by have := of_decide_eq_false h; omega
    refine Cd.seq ?_
    refine Cd.region ?_
    refine Ls.ev (some 12) (Ev.move (show Oper.op _ = Op.move (Operand.tmp 3) from rfl) (by rfl)) (by rfl) (by rfl) ?_
    refine Ls.ev (some 13) (Ev.gtr (show Oper.op _ = Op.binOp BinOp.gtr 3 (Operand.tmp 12) (Operand.const (Value.int IntKind.i64 84)) 3 from rfl) (by rfl) (by rfl)) (by rfl) (by rfl) ?_
    refine Ls.ev (some 11) (Ev.assign (show Oper.op _ = Op.assign (Operand.tmp 13) from rfl) (by rfl)) (by rfl) (by rfl) ?_
    refine Ls.nil ?_
    refine Cd.cond _ (by rfl) (fun h2 => ?_) (fun h2 => ?_)
    · skip
      have h84 : 84 < l.length := by have := of_decide_eq_true h2; omega
      refine Cd.seq ?_
      refine Cd.region ?_
      refine Ls.ev (some 2) (Ev.assign (show Oper.op _ = Op.assign (Operand.const (Value.int IntKind.i64 5)) from rfl) (by rfl)) (by rfl) (by rfl) ?_
      refine Ls.nil ?_
      refine Cd.ret ?_
      refine Ent.ret (()) (trivial) (Res.tmp (by rfl) (by rfl)) ?_ [] (by rfl) ?_
      · simp [errL, h0, h84]
      · rfl
    · skip
      have h84 : ¬ 84 < l.length := by have := of_decide_eq_false h2; omega
      have hE : errL l = scanE none l := by simp [errL, h0, h84]
      refine Cd.skip ?_
      refine Cd.seq ?_
      refine Cd.seq ?_
      refine Cd.region ?_
      refine Ls.ev (some 14) (Ev.move (show Oper.op _ = Op.move (Operand.tmp 0) from rfl) (by rfl)) (by rfl) (by rfl) ?_
      refine Ls.ev (some 15) (Ev.len (show Oper.op _ = Op.call { callee := Callee.builtin Builtin.len, args := #[Operand.tmp 14], argTypes := #[22] } from rfl) (by rfl) Try.underlying22) (by rfl) (by rfl) ?_
      refine Ls.ev (some 16) (Ev.move (show Oper.op _ = Op.move (Operand.const (Value.int IntKind.i64 0)) from rfl) (by rfl)) (by rfl) (by rfl) ?_
      refine Ls.nil ?_
      refine Cd.block ?_
      refine Cd.loop (ι := Nat) (fun k => [(0, .slice A l.length c), (14, .slice A l.length c), (15, .int .i64 l.length), (16, .int .i64 k)]) (fun _ => [rdE A l]) (fun k => k ≤ l.length ∧ scanE (prevE l k) (l.drop k) = errL l) (fun k => l.length - k) (0) (⟨Nat.zero_le _, hE.symm⟩) ?_ rfl ?_
      · (repeat (first | exact trivial | refine ⟨by rfl, ?_⟩))
      intro k ⟨hk, hs⟩
      refine Cd.seq ?_
      refine Cd.region ?_
      refine Ls.ev (some 17) (Ev.lss (show Oper.op _ = Op.binOp BinOp.lss 3 (Operand.tmp 16) (Operand.tmp 15) 3 from rfl) (by rfl) (by rfl)) (by rfl) (by rfl) ?_
      refine Ls.nil ?_
      refine Cd.seq ?_
      refine Cd.cond _ (by rfl) (fun h3 => ?_) (fun h3 => ?_)
      · skip
        have hlt : k < l.length := by have := of_decide_eq_true h3; omega
        obtain ⟨e, he⟩ := get_of_lt hlt
        rw [scanE_step he] at hs
        refine Ent.rdSome 0 (by rfl) (by omega) (fun ad had => ?_)
        subst had
        refine Cd.skip ?_
        refine Cd.seq ?_
        refine Cd.block ?_
        refine Cd.seq ?_
        refine Cd.region ?_
        refine Ls.ev (some 18) (Ev.move (show Oper.op _ = Op.move (Operand.tmp 16) from rfl) (by rfl)) (by rfl) (by rfl) ?_
        refine Ls.ev (some 19) (Ev.indexAt (sz := 4) (show Oper.op _ = Op.indexAddr 22 (Operand.tmp 14) (Operand.tmp 16) from rfl) (by rfl) (by rfl) Try.underlying22 (by kernel_rfl) (by omega)) (by rfl) (by rfl) ?_
        refine Ls.ev (some 20) (Ev.loadEl (show Oper.op _ = Op.load 42 (Operand.tmp 19) from rfl) (by rfl) (ReadsIn.rd 0 (by rfl)) (by kernel_rfl) (by intro _; rfl) (by assumption)) (by rfl) (by rfl) ?_
        refine Ls.does (some 5) (Does.alloc (cs := [.string ⟨#[]⟩, .int .i64 0, .bool false, .string ⟨#[]⟩]) (show Oper.op _ = Op.alloc 42 from rfl) (ZeroIs.mk (.agg #[.string ⟨#[]⟩, .int .i64 0, .bool false, .string ⟨#[]⟩]) (by kernel_rfl) (by rfl))) (by rfl) (by rfl) ?_
        intro g1 _
        refine Ls.ev (some 4) (Ev.assign (show Oper.op _ = Op.assign (Operand.tmp 18) from rfl) (by rfl)) (by rfl) (by rfl) ?_
        refine Ls.does none (Does.store 0 (show Oper.op _ = Op.store 42 (Operand.tmp 5) (Operand.tmp 20) from rfl) (by rfl) (by rfl) (by rfl) (by kernel_rfl) (by rfl) (by kernel_rfl) (by rfl)) (by rfl) (by rfl) ?_
        intro _ _
        refine Ls.nil ?_
        refine Cd.block ?_
        refine Cd.seq ?_
        refine Cd.cut (ι := Unit) (fun _ => [(0, .slice (some ad) l.length c), (14, .slice (some ad) l.length c), (15, .int .i64 l.length), (16, .int .i64 k), (4, .int .i64 k), (5, .pointer (some ⟨g1, 0, none⟩)), (21, .bool (bad1 e))]) (fun _ => [blk g1 42 e.enc, rdE (some ad) l]) (fun _ => True) ?_ ?_
        · skip
          refine Cd.region ?_
          refine Ls.ev (some 22) (Ev.fieldAddr (k := 0) (show Oper.op _ = Op.fieldAddr 42 (Operand.tmp 5) 0 from rfl) (by rfl) (by kernel_rfl) (by rfl)) (by rfl) (by rfl) ?_
          refine Ls.ev (some 23) (Ev.load 0 (show Oper.op _ = Op.load 9 (Operand.tmp 22) from rfl) (by rfl) (by rfl) (by kernel_rfl) (by rfl)) (by rfl) (by rfl) ?_
          refine Ls.ev (some 24) (Ev.lenS (show Oper.op _ = Op.call { callee := Callee.builtin Builtin.len, args := #[Operand.tmp 23], argTypes := #[9] } from rfl) (by rfl) Try.underlying9) (by rfl) (by rfl) ?_
          refine Ls.ev (some 25) (Ev.gtr (show Oper.op _ = Op.binOp BinOp.gtr 3 (Operand.tmp 24) (Operand.const (Value.int IntKind.i64 64)) 3 from rfl) (by rfl) (by rfl)) (by rfl) (by rfl) ?_
          refine Ls.ev (some 26) (Ev.move (show Oper.op _ = Op.move (Operand.tmp 25) from rfl) (by rfl)) (by rfl) (by rfl) ?_
          refine Ent.split 26 (by rfl) (fun h4 => ?_) (fun h4 => ?_)
          · skip
            refine Ls.ev (some 27) (Ev.fieldAddr (k := 3) (show Oper.op _ = Op.fieldAddr 42 (Operand.tmp 5) 3 from rfl) (by rfl) (by kernel_rfl) (by rfl)) (by rfl) (by rfl) ?_
            refine Ls.ev (some 28) (Ev.load 0 (show Oper.op _ = Op.load 9 (Operand.tmp 27) from rfl) (by rfl) (by rfl) (by kernel_rfl) (by rfl)) (by rfl) (by rfl) ?_
            refine Ls.ev (some 29) (Ev.lenS (show Oper.op _ = Op.call { callee := Callee.builtin Builtin.len, args := #[Operand.tmp 28], argTypes := #[9] } from rfl) (by rfl) Try.underlying9) (by rfl) (by rfl) ?_
            refine Ls.ev (some 30) (Ev.gtr (show Oper.op _ = Op.binOp BinOp.gtr 3 (Operand.tmp 29) (Operand.const (Value.int IntKind.i64 1024)) 3 from rfl) (by rfl) (by rfl)) (by rfl) (by rfl) ?_
            refine Ls.ev (some 31) (Ev.pickF (show Oper.op _ = Op.pick (Operand.tmp 26) (Operand.const (Value.bool true)) (Operand.tmp 30) from rfl) (by rfl) (by rfl)) (by rfl) (by rfl) ?_
            refine Ls.ev (some 21) (Ev.assign (show Oper.op _ = Op.assign (Operand.tmp 31) from rfl) (by rfl)) (by rfl) (by rfl) ?_
            refine Ls.nil ?_
            refine Ent.inv (()) ?_ ?_ ?_
            · (try dsimp only); skip
            · (repeat (first | exact trivial | refine ⟨by rfl, ?_⟩ | refine ⟨by simp only [List.length_append, List.length_cons, List.length_nil]; rfl, ?_⟩ | refine ⟨by push_cast; rfl, ?_⟩ | refine ⟨by (show some (Value.bool _) = some (Value.bool _); unfold bad1; rw [h4]; rfl), ?_⟩))
            · rfl
          · skip
            refine Ls.pass (some 27) (by rfl) (by rfl) ?_
            refine Ls.pass (some 28) (by rfl) (by rfl) ?_
            refine Ls.pass (some 29) (by rfl) (by rfl) ?_
            refine Ls.pass (some 30) (by rfl) (by rfl) ?_
            refine Ls.ev (some 31) (Ev.pickT (show Oper.op _ = Op.pick (Operand.tmp 26) (Operand.const (Value.bool true)) (Operand.tmp 30) from rfl) (by rfl) (by rfl)) (by rfl) (by rfl) ?_
            refine Ls.ev (some 21) (Ev.assign (show Oper.op _ = Op.assign (Operand.tmp 31) from rfl) (by rfl)) (by rfl) (by rfl) ?_
            refine Ls.nil ?_
            refine Ent.inv (()) ?_ ?_ ?_
            · (try dsimp only); skip
            · (repeat (first | exact trivial | refine ⟨by rfl, ?_⟩ | refine ⟨by simp only [List.length_append, List.length_cons, List.length_nil]; rfl, ?_⟩ | refine ⟨by push_cast; rfl, ?_⟩ | refine ⟨by (show some (Value.bool _) = some (Value.bool _); unfold bad1; rw [h4]; rfl), ?_⟩))
            · rfl
        skip
        rintro _ -
        skip
        refine Cd.cond _ (by rfl) (fun h5 => ?_) (fun h5 => ?_)
        · skip
          refine Cd.seq ?_
          refine Cd.region ?_
          refine Ls.ev (some 2) (Ev.assign (show Oper.op _ = Op.assign (Operand.const (Value.int IntKind.i64 3)) from rfl) (by rfl)) (by rfl) (by rfl) ?_
          refine Ls.nil ?_
          refine Cd.ret ?_
          refine Ent.ret (()) (trivial) (Res.tmp (by rfl) (by rfl)) ?_ [] (by rfl) ?_
          · rw [← hs, if_pos (by rw [errE_1 h5]; decide), errE_1 h5]
          · rfl
        · skip
          refine Cd.seq ?_
          refine Cd.cut (ι := Unit) (fun _ => [(0, .slice (some ad) l.length c), (14, .slice (some ad) l.length c), (15, .int .i64 l.length), (16, .int .i64 k), (4, .int .i64 k), (5, .pointer (some ⟨g1, 0, none⟩)), (32, .bool (bad2 e))]) (fun _ => [blk g1 42 e.enc, rdE (some ad) l]) (fun _ => True) ?_ ?_
          · skip
            refine Cd.region ?_
            refine Ls.ev (some 33) (Ev.fieldAddr (k := 1) (show Oper.op _ = Op.fieldAddr 42 (Operand.tmp 5) 1 from rfl) (by rfl) (by kernel_rfl) (by rfl)) (by rfl) (by rfl) ?_
            refine Ls.ev (some 34) (Ev.load 0 (show Oper.op _ = Op.load 3 (Operand.tmp 33) from rfl) (by rfl) (by rfl) (by kernel_rfl) (by rfl)) (by rfl) (by rfl) ?_
            refine Ls.ev (some 35) (Ev.lss (show Oper.op _ = Op.binOp BinOp.lss 3 (Operand.tmp 34) (Operand.const (Value.int IntKind.i64 1)) 3 from rfl) (by rfl) (by rfl)) (by rfl) (by rfl) ?_
            refine Ls.ev (some 36) (Ev.move (show Oper.op _ = Op.move (Operand.tmp 35) from rfl) (by rfl)) (by rfl) (by rfl) ?_
            refine Ent.split 36 (by rfl) (fun h6 => ?_) (fun h6 => ?_)
            · skip
              refine Ls.ev (some 37) (Ev.fieldAddr (k := 1) (show Oper.op _ = Op.fieldAddr 42 (Operand.tmp 5) 1 from rfl) (by rfl) (by kernel_rfl) (by rfl)) (by rfl) (by rfl) ?_
              refine Ls.ev (some 38) (Ev.load 0 (show Oper.op _ = Op.load 3 (Operand.tmp 37) from rfl) (by rfl) (by rfl) (by kernel_rfl) (by rfl)) (by rfl) (by rfl) ?_
              refine Ls.ev (some 39) (Ev.gtr (show Oper.op _ = Op.binOp BinOp.gtr 3 (Operand.tmp 38) (Operand.const (Value.int IntKind.i64 4611686018427387904)) 3 from rfl) (by rfl) (by rfl)) (by rfl) (by rfl) ?_
              refine Ls.ev (some 40) (Ev.pickF (show Oper.op _ = Op.pick (Operand.tmp 36) (Operand.const (Value.bool true)) (Operand.tmp 39) from rfl) (by rfl) (by rfl)) (by rfl) (by rfl) ?_
              refine Ls.ev (some 41) (Ev.move (show Oper.op _ = Op.move (Operand.tmp 40) from rfl) (by rfl)) (by rfl) (by rfl) ?_
              refine Ent.split 41 (by rfl) (fun h7 => ?_) (fun h7 => ?_)
              · skip
                refine Ls.ev (some 42) (Ev.fieldAddr (k := 2) (show Oper.op _ = Op.fieldAddr 42 (Operand.tmp 5) 2 from rfl) (by rfl) (by kernel_rfl) (by rfl)) (by rfl) (by rfl) ?_
                refine Ls.ev (some 43) (Ev.load 0 (show Oper.op _ = Op.load 4 (Operand.tmp 42) from rfl) (by rfl) (by rfl) (by kernel_rfl) (by rfl)) (by rfl) (by rfl) ?_
                refine Ls.ev (some 44) (Ev.move (show Oper.op _ = Op.move (Operand.tmp 43) from rfl) (by rfl)) (by rfl) (by rfl) ?_
                refine Ent.split 44 (by rfl) (fun h8 => ?_) (fun h8 => ?_)
                · skip
                  refine Ls.pass (some 45) (by rfl) (by rfl) ?_
                  refine Ls.pass (some 46) (by rfl) (by rfl) ?_
                  refine Ls.pass (some 47) (by rfl) (by rfl) ?_
                  refine Ls.ev (some 48) (Ev.pickF (show Oper.op _ = Op.pick (Operand.tmp 44) (Operand.tmp 47) (Operand.const (Value.bool false)) from rfl) (by rfl) (by rfl)) (by rfl) (by rfl) ?_
                  refine Ls.ev (some 49) (Ev.pickF (show Oper.op _ = Op.pick (Operand.tmp 41) (Operand.const (Value.bool true)) (Operand.tmp 48) from rfl) (by rfl) (by rfl)) (by rfl) (by rfl) ?_
                  refine Ls.ev (some 32) (Ev.assign (show Oper.op _ = Op.assign (Operand.tmp 49) from rfl) (by rfl)) (by rfl) (by rfl) ?_
                  refine Ls.nil ?_
                  refine Ent.inv (()) ?_ ?_ ?_
                  · (try dsimp only); skip
                  · (repeat (first | exact trivial | refine ⟨by rfl, ?_⟩ | refine ⟨by simp only [List.length_append, List.length_cons, List.length_nil]; rfl, ?_⟩ | refine ⟨by push_cast; rfl, ?_⟩ | refine ⟨by (show some (Value.bool _) = some (Value.bool _); unfold bad2; rw [h6, h7, h8]; rfl), ?_⟩))
                  · rfl
                · skip
                  refine Ls.ev (some 45) (Ev.fieldAddr (k := 3) (show Oper.op _ = Op.fieldAddr 42 (Operand.tmp 5) 3 from rfl) (by rfl) (by kernel_rfl) (by rfl)) (by rfl) (by rfl) ?_
                  refine Ls.ev (some 46) (Ev.load 0 (show Oper.op _ = Op.load 9 (Operand.tmp 45) from rfl) (by rfl) (by rfl) (by kernel_rfl) (by rfl)) (by rfl) (by rfl) ?_
                  refine Ls.ev (some 47) (Ev.neqS (show Oper.op _ = Op.binOp BinOp.neq 9 (Operand.tmp 46) (Operand.const (Value.string { data := #[] })) 9 from rfl) (by rfl) (by rfl)) (by rfl) (by rfl) ?_
                  refine Ls.ev (some 48) (Ev.pickT (show Oper.op _ = Op.pick (Operand.tmp 44) (Operand.tmp 47) (Operand.const (Value.bool false)) from rfl) (by rfl) (by rfl)) (by rfl) (by rfl) ?_
                  refine Ls.ev (some 49) (Ev.pickF (show Oper.op _ = Op.pick (Operand.tmp 41) (Operand.const (Value.bool true)) (Operand.tmp 48) from rfl) (by rfl) (by rfl)) (by rfl) (by rfl) ?_
                  refine Ls.ev (some 32) (Ev.assign (show Oper.op _ = Op.assign (Operand.tmp 49) from rfl) (by rfl)) (by rfl) (by rfl) ?_
                  refine Ls.nil ?_
                  refine Ent.inv (()) ?_ ?_ ?_
                  · (try dsimp only); skip
                  · (repeat (first | exact trivial | refine ⟨by rfl, ?_⟩ | refine ⟨by simp only [List.length_append, List.length_cons, List.length_nil]; rfl, ?_⟩ | refine ⟨by push_cast; rfl, ?_⟩ | refine ⟨by (show some (Value.bool _) = some (Value.bool _); unfold bad2; rw [h6, h7, h8]; rfl), ?_⟩))
                  · rfl
              · skip
                refine Ls.pass (some 42) (by rfl) (by rfl) ?_
                refine Ls.pass (some 43) (by rfl) (by rfl) ?_
                refine Ls.pass (some 44) (by rfl) (by rfl) ?_
                refine Ls.pass (some 45) (by rfl) (by rfl) ?_
                refine Ls.pass (some 46) (by rfl) (by rfl) ?_
                refine Ls.pass (some 47) (by rfl) (by rfl) ?_
                refine Ls.pass (some 48) (by rfl) (by rfl) ?_
                refine Ls.ev (some 49) (Ev.pickT (show Oper.op _ = Op.pick (Operand.tmp 41) (Operand.const (Value.bool true)) (Operand.tmp 48) from rfl) (by rfl) (by rfl)) (by rfl) (by rfl) ?_
                refine Ls.ev (some 32) (Ev.assign (show Oper.op _ = Op.assign (Operand.tmp 49) from rfl) (by rfl)) (by rfl) (by rfl) ?_
                refine Ls.nil ?_
                refine Ent.inv (()) ?_ ?_ ?_
                · (try dsimp only); skip
                · (repeat (first | exact trivial | refine ⟨by rfl, ?_⟩ | refine ⟨by simp only [List.length_append, List.length_cons, List.length_nil]; rfl, ?_⟩ | refine ⟨by push_cast; rfl, ?_⟩ | refine ⟨by (show some (Value.bool _) = some (Value.bool _); unfold bad2; rw [h6, h7]; rfl), ?_⟩))
                · rfl
            · skip
              refine Ls.pass (some 37) (by rfl) (by rfl) ?_
              refine Ls.pass (some 38) (by rfl) (by rfl) ?_
              refine Ls.pass (some 39) (by rfl) (by rfl) ?_
              refine Ls.ev (some 40) (Ev.pickT (show Oper.op _ = Op.pick (Operand.tmp 36) (Operand.const (Value.bool true)) (Operand.tmp 39) from rfl) (by rfl) (by rfl)) (by rfl) (by rfl) ?_
              refine Ls.ev (some 41) (Ev.move (show Oper.op _ = Op.move (Operand.tmp 40) from rfl) (by rfl)) (by rfl) (by rfl) ?_
              refine Ls.pass (some 42) (by rfl) (by rfl) ?_
              refine Ls.pass (some 43) (by rfl) (by rfl) ?_
              refine Ls.pass (some 44) (by rfl) (by rfl) ?_
              refine Ls.pass (some 45) (by rfl) (by rfl) ?_
              refine Ls.pass (some 46) (by rfl) (by rfl) ?_
              refine Ls.pass (some 47) (by rfl) (by rfl) ?_
              refine Ls.pass (some 48) (by rfl) (by rfl) ?_
              refine Ls.ev (some 49) (Ev.pickT (show Oper.op _ = Op.pick (Operand.tmp 41) (Operand.const (Value.bool true)) (Operand.tmp 48) from rfl) (by rfl) (by rfl)) (by rfl) (by rfl) ?_
              refine Ls.ev (some 32) (Ev.assign (show Oper.op _ = Op.assign (Operand.tmp 49) from rfl) (by rfl)) (by rfl) (by rfl) ?_
              refine Ls.nil ?_
              refine Ent.inv (()) ?_ ?_ ?_
              · (try dsimp only); skip
              · (repeat (first | exact trivial | refine ⟨by rfl, ?_⟩ | refine ⟨by simp only [List.length_append, List.length_cons, List.length_nil]; rfl, ?_⟩ | refine ⟨by push_cast; rfl, ?_⟩ | refine ⟨by (show some (Value.bool _) = some (Value.bool _); unfold bad2; rw [h6]; rfl), ?_⟩))
              · rfl
          skip
          rintro _ -
          skip
          refine Cd.cond _ (by rfl) (fun h9 => ?_) (fun h9 => ?_)
          · skip
            refine Cd.seq ?_
            refine Cd.region ?_
            refine Ls.ev (some 2) (Ev.assign (show Oper.op _ = Op.assign (Operand.const (Value.int IntKind.i64 1)) from rfl) (by rfl)) (by rfl) (by rfl) ?_
            refine Ls.nil ?_
            refine Cd.ret ?_
            refine Ent.ret (()) (trivial) (Res.tmp (by rfl) (by rfl)) ?_ [] (by rfl) ?_
            · rw [← hs, if_pos (by rw [errE_2 h5 h9]; decide), errE_2 h5 h9]
            · rfl
          · skip
            rw [if_neg (by rw [errE_0 h5 h9]; decide)] at hs
            refine Cd.seq ?_
            refine Cd.cut (ι := Unit) (fun _ => [(0, .slice (some ad) l.length c), (14, .slice (some ad) l.length c), (15, .int .i64 l.length), (16, .int .i64 k), (50, .bool ((prevE l k).any (fun p => !befE p e)))]) (fun _ => [blk g1 42 e.enc, rdE (some ad) l]) (fun _ => True) ?_ ?_
            · skip
              refine Cd.draw [] (by kernel_rfl) ?_
              refine Rg.ev 0 (by rfl) (fun _ h => h) (Ev.move (show Oper.op _ = Op.move (Operand.tmp 4) from rfl) (by rfl)) (by rfl) (some 51) (by rfl) (by kernel_rfl) (by kernel_rfl) (by kernel_rfl) (by kernel_rfl) ?_
              refine Rg.ev 1 (by rfl) (fun _ h => h) (Ev.gtr (show Oper.op _ = Op.binOp BinOp.gtr 3 (Operand.tmp 51) (Operand.const (Value.int IntKind.i64 0)) 3 from rfl) (by rfl) (by rfl)) (by rfl) (some 52) (by rfl) (by kernel_rfl) (by kernel_rfl) (by kernel_rfl) (by kernel_rfl) ?_
              refine Rg.ev 2 (by rfl) (fun _ h => h) (Ev.move (show Oper.op _ = Op.move (Operand.tmp 52) from rfl) (by rfl)) (by rfl) (some 53) (by rfl) (by kernel_rfl) (by kernel_rfl) (by kernel_rfl) (by kernel_rfl) ?_
              refine Ent.split 53 (by rfl) (fun h10 => ?_) (fun h10 => ?_)
              · skip
                have hk0 : k = 0 := by have := of_decide_eq_false h10; omega
                refine Rg.pass 3 (by rfl) (fun _ h => h) (by rfl) (some 54) (by rfl) (by kernel_rfl) (by kernel_rfl) (by kernel_rfl) (by kernel_rfl) ?_
                refine Rg.pass 4 (by rfl) (fun _ h => h) (by rfl) (some 55) (by rfl) (by kernel_rfl) (by kernel_rfl) (by kernel_rfl) (by kernel_rfl) ?_
                refine Rg.pass 5 (by rfl) (fun _ h => h) (by rfl) (some 56) (by rfl) (by kernel_rfl) (by kernel_rfl) (by kernel_rfl) (by kernel_rfl) ?_
                refine Rg.pass 6 (by rfl) (fun _ h => h) (by rfl) (some 57) (by rfl) (by kernel_rfl) (by kernel_rfl) (by kernel_rfl) (by kernel_rfl) ?_
                refine Rg.pass 7 (by rfl) (fun _ h => h) (by rfl) (some 58) (by rfl) (by kernel_rfl) (by kernel_rfl) (by kernel_rfl) (by kernel_rfl) ?_
                refine Rg.pass 8 (by rfl) (fun _ h => h) (by rfl) (some 59) (by rfl) (by kernel_rfl) (by kernel_rfl) (by kernel_rfl) (by kernel_rfl) ?_
                refine Rg.pass 9 (by rfl) (fun _ h => h) (by rfl) (some 60) (by rfl) (by kernel_rfl) (by kernel_rfl) (by kernel_rfl) (by kernel_rfl) ?_
                refine Rg.pass 10 (by rfl) (fun _ h => h) (by rfl) (some 61) (by rfl) (by kernel_rfl) (by kernel_rfl) (by kernel_rfl) (by kernel_rfl) ?_
                refine Rg.ev 11 (by rfl) (fun _ h => h) (Ev.pickF (show Oper.op _ = Op.pick (Operand.tmp 53) (Operand.tmp 61) (Operand.const (Value.bool false)) from rfl) (by rfl) (by rfl)) (by rfl) (some 62) (by rfl) (by kernel_rfl) (by kernel_rfl) (by kernel_rfl) (by kernel_rfl) ?_
                refine Rg.ev 12 (by rfl) (fun _ h => h) (Ev.assign (show Oper.op _ = Op.assign (Operand.tmp 62) from rfl) (by rfl)) (by rfl) (some 50) (by rfl) (by kernel_rfl) (by kernel_rfl) (by kernel_rfl) (by kernel_rfl) ?_
                refine Rg.done (by kernel_rfl) ?_ _
                refine Ent.inv (()) ?_ ?_ ?_
                · (try dsimp only); skip
                · (repeat (first | exact trivial | refine ⟨by rfl, ?_⟩ | refine ⟨by simp only [List.length_append, List.length_cons, List.length_nil]; rfl, ?_⟩ | refine ⟨by push_cast; rfl, ?_⟩ | refine ⟨by (show some (Value.bool _) = some (Value.bool _); subst hk0; rfl), ?_⟩))
                · rfl
              · skip
                have hk0 : 0 < k := by have := of_decide_eq_true h10; omega
                obtain ⟨p, hp⟩ := get_of_lt (show ((k : Int) - 1).toNat < l.length by omega)
                have hp2 : prevE l k = some p := by
                  unfold prevE
                  rw [if_neg (by omega), ← hp]
                  congr 1
                  omega
                refine Rg.ev 3 (by rfl) (fun _ h => h) (Ev.move (show Oper.op _ = Op.move (Operand.tmp 0) from rfl) (by rfl)) (by rfl) (some 54) (by rfl) (by kernel_rfl) (by kernel_rfl) (by kernel_rfl) (by kernel_rfl) ?_
                refine Rg.ev 4 (by rfl) (fun _ h => h) (Ev.move (show Oper.op _ = Op.move (Operand.tmp 4) from rfl) (by rfl)) (by rfl) (some 55) (by rfl) (by kernel_rfl) (by kernel_rfl) (by kernel_rfl) (by kernel_rfl) ?_
                refine Rg.ev 5 (by rfl) (fun _ h => h) (Ev.subI (show Oper.op _ = Op.binOp BinOp.sub 3 (Operand.tmp 55) (Operand.const (Value.int IntKind.i64 1)) 3 from rfl) (by rfl) (by rfl) (by omega)) (by rfl) (some 56) (by rfl) (by kernel_rfl) (by kernel_rfl) (by kernel_rfl) (by kernel_rfl) ?_
                refine Rg.ev 6 (by rfl) (fun _ h => h) (Ev.indexAddr (sz := 4) (show Oper.op _ = Op.indexAddr 22 (Operand.tmp 54) (Operand.tmp 56) from rfl) (by rfl) (by rfl) Try.underlying22 (by kernel_rfl) (by omega)) (by rfl) (some 57) (by rfl) (by kernel_rfl) (by kernel_rfl) (by kernel_rfl) (by kernel_rfl) ?_
                refine Rg.ev 7 (by rfl) (fun _ h => h) (Ev.loadEl (show Oper.op _ = Op.load 42 (Operand.tmp 57) from rfl) (by rfl) (ReadsIn.rd 1 (by rfl)) (by kernel_rfl) (by intro _; rfl) (by assumption)) (by rfl) (some 58) (by rfl) (by kernel_rfl) (by kernel_rfl) (by kernel_rfl) (by kernel_rfl) ?_
                refine Rg.ev 8 (by rfl) (fun _ h => h) (Ev.loads 0 (show Oper.op _ = Op.load 42 (Operand.tmp 5) from rfl) (by rfl) (by rfl) (n := 4) (by kernel_rfl) (by rfl) (by rfl)) (by rfl) (some 59) (by rfl) (by kernel_rfl) (by kernel_rfl) (by kernel_rfl) (by kernel_rfl) ?_
                refine Rg.does 9 (by rfl) (by kernel_rfl) (Does.read (show Oper.op _ = Op.call { callee := Callee.value (Operand.func 54), args := #[Operand.tmp 58, Operand.tmp 59], argTypes := #[42, 42] } from rfl) Try.func54 (by kernel_rfl) (by kernel_rfl) (before_sl p e) (by rfl) (by rfl) trivial) (by rfl) (some 60) (by rfl) (by exact fun _ _ h => h) ?_
                rintro _ -
                refine Rg.ev 10 (by rfl) (fun _ h => h) (Ev.not (show Oper.op _ = Op.unOp UnOp.not 4 (Operand.tmp 60) from rfl) (by rfl)) (by rfl) (some 61) (by rfl) (by kernel_rfl) (by kernel_rfl) (by kernel_rfl) (by kernel_rfl) ?_
                refine Rg.ev 11 (by rfl) (fun _ h => h) (Ev.pickT (show Oper.op _ = Op.pick (Operand.tmp 53) (Operand.tmp 61) (Operand.const (Value.bool false)) from rfl) (by rfl) (by rfl)) (by rfl) (some 62) (by rfl) (by kernel_rfl) (by kernel_rfl) (by kernel_rfl) (by kernel_rfl) ?_
                refine Rg.ev 12 (by rfl) (fun _ h => h) (Ev.assign (show Oper.op _ = Op.assign (Operand.tmp 62) from rfl) (by rfl)) (by rfl) (some 50) (by rfl) (by kernel_rfl) (by kernel_rfl) (by kernel_rfl) (by kernel_rfl) ?_
                refine Rg.done (by kernel_rfl) ?_ _
                refine Ent.inv (()) ?_ ?_ ?_
                · (try dsimp only); skip
                · (repeat (first | exact trivial | refine ⟨by rfl, ?_⟩ | refine ⟨by simp only [List.length_append, List.length_cons, List.length_nil]; rfl, ?_⟩ | refine ⟨by push_cast; rfl, ?_⟩ | refine ⟨by (show some (Value.bool _) = some (Value.bool _); rw [hp2]; rfl), ?_⟩))
                · rfl
            skip
            rintro _ -
            skip
            refine Cd.cond _ (by rfl) (fun h11 => ?_) (fun h11 => ?_)
            · skip
              refine Cd.seq ?_
              refine Cd.region ?_
              refine Ls.ev (some 2) (Ev.assign (show Oper.op _ = Op.assign (Operand.const (Value.int IntKind.i64 60)) from rfl) (by rfl)) (by rfl) (by rfl) ?_
              refine Ls.nil ?_
              refine Cd.ret ?_
              refine Ent.ret (()) (trivial) (Res.tmp (by rfl) (by rfl)) ?_ [] (by rfl) ?_
              · rw [← hs, if_pos h11]
              · rfl
            · skip
              rw [if_neg (by rw [h11]; decide)] at hs
              refine Cd.skip ?_
              refine Cd.region ?_
              refine Ls.ev (some 63) (Ev.addI (show Oper.op _ = Op.binOp BinOp.add 3 (Operand.tmp 16) (Operand.const (Value.int IntKind.i64 1)) 3 from rfl) (by rfl) (by rfl) (by omega)) (by rfl) (by rfl) ?_
              refine Ls.ev (some 16) (Ev.move (show Oper.op _ = Op.move (Operand.tmp 63) from rfl) (by rfl)) (by rfl) (by rfl) ?_
              refine Ls.nil ?_
              refine Ent.pick [1] (by rfl) ?_
              refine Ent.inv (k + 1) ?_ ?_ ?_
              · (try dsimp only); exact ⟨⟨by omega, hs⟩, by omega⟩
              · (repeat (first | exact trivial | refine ⟨by rfl, ?_⟩ | refine ⟨by simp only [List.length_append, List.length_cons, List.length_nil]; rfl, ?_⟩ | refine ⟨by push_cast; rfl, ?_⟩))
              · rfl
      · skip
        have hk : k = l.length := by have := of_decide_eq_false h3; omega
        subst hk
        refine Cd.exit ?_
        refine Cd.seq ?_
        refine Cd.region ?_
        refine Ls.ev (some 2) (Ev.assign (show Oper.op _ = Op.assign (Operand.const (Value.int IntKind.i64 0)) from rfl) (by rfl)) (by rfl) (by rfl) ?_
        refine Ls.nil ?_
        refine Cd.ret ?_
        refine Ent.ret (()) (trivial) (Res.tmp (by rfl) (by rfl)) ?_ [] (by rfl) ?_
        · rw [← hs, List.drop_length]; rfl
        · rfl
theorem uint_slI (n : Int) (hn : 0 ≤ n ∧ n < 18446744073709551616) : Fn Try.prog 33 #[.int .u64 n] [] (Option Addr × Nat) (fun p => .slice p.1 (uintL n.toNat).length p.2) (fun p => [rowB p.1 p.2 (uintL n.toNat)]) (fun _ => True) := by
  have := uint_sl n.toNat (by omega)
  rwa [Int.toNat_of_nonneg hn.1] at this
theorem uintL_len2 {n : Nat} (h : n < 16384) : (uintL n).length ≤ 2 := uintL_len 1 n (by omega)
theorem uintL_len1 {n : Nat} (h : n < 128) : (uintL n).length = 1 := by rw [uintL_lt h]; rfl
theorem putL_len {e : Ety} (h : errE e = 0) : (putL e).length ≤ 1101 := by
  have hs : 1 ≤ e.seq ∧ e.seq ≤ 4611686018427387904 ∧ e.key.size ≤ 64 ∧ e.value.size ≤ 1024 := by
    unfold errE at h
    split at h
    · cases h
    · split at h
      · cases h
      · omega
  unfold putL
  simp only [List.length_append, textL_length, List.length_cons, List.length_nil]
  have h1 := uintL_len1 (n := e.key.size) (by omega)
  have h2 := uintL_len2 (n := e.value.size) (by omega)
  have h3 : (uintL e.seq.toNat).length ≤ 9 := uintL_len 8 _ (by omega)
  omega
theorem put_sl (e : Ety) (he : errE e = 0) : Fn Try.prog 29 #[.agg e.enc.toArray] [] (Option Addr × Nat) (fun p => .slice p.1 (putL e).length p.2) (fun p => [rowB p.1 p.2 (putL e)]) (fun _ => True) := by
  have hl := putL_len he
  have hs : 1 ≤ e.seq ∧ e.seq ≤ 4611686018427387904 ∧ e.key.size ≤ 64 ∧ e.value.size ≤ 1024 := by
    unfold errE at he
    split at he
    · cases he
    · split at he
      · cases he
      · omega
  refine Fn.enter Try.func29 rfl Try.ntmps29 (by rfl) ?_
  intro w0
  refine Cd.seq ?_
  refine Cd.region ?_
  refine Ls.does (some 1) (Does.box (show Oper.op _ = Op.box 42 (Operand.tmp 0) from rfl) (by rfl)) (by rfl) (by rfl) ?_
  intro g1 _
  refine Ls.ev (some 2) (Ev.assign (show Oper.op _ = Op.assign (Operand.const (Value.slice none 0 0)) from rfl) (by rfl)) (by rfl) (by rfl) ?_
  refine Ls.nil ?_
  refine Cd.seq ?_
  refine Cd.region ?_
  refine Ls.ev (some 3) (Ev.assign (show Oper.op _ = Op.assign (Operand.const (Value.int IntKind.u8 0)) from rfl) (by rfl)) (by rfl) (by rfl) ?_
  refine Ls.nil ?_
  refine Cd.seq ?_
  refine Cd.seq ?_
  refine Cd.region ?_
  refine Ls.ev (some 4) (Ev.fieldAddr (k := 2) (show Oper.op _ = Op.fieldAddr 42 (Operand.tmp 1) 2 from rfl) (by rfl) (by kernel_rfl) (by rfl)) (by rfl) (by rfl) ?_
  refine Ls.ev (some 5) (Ev.load 0 (show Oper.op _ = Op.load 4 (Operand.tmp 4) from rfl) (by rfl) (by rfl) (by kernel_rfl) (by rfl)) (by rfl) (by rfl) ?_
  refine Ls.nil ?_
  refine Cd.cut (ι := Unit) (fun _ => [(1, .pointer (some ⟨g1, 0, none⟩)), (3, .int .u8 (delB e.del).toNat)]) (fun _ => [blk g1 42 e.enc]) (fun _ => True) ?_ ?_
  · skip
    refine Cd.cond _ (by rfl) (fun h => ?_) (fun h => ?_)
    · skip
      refine Cd.region ?_
      refine Ls.ev (some 3) (Ev.assign (show Oper.op _ = Op.assign (Operand.const (Value.int IntKind.u8 1)) from rfl) (by rfl)) (by rfl) (by rfl) ?_
      refine Ls.nil ?_
      refine Ent.inv (()) ?_ ?_ ?_
      · (try dsimp only); skip
      · (repeat (first | exact trivial | refine ⟨by rfl, ?_⟩ | refine ⟨by simp only [List.length_append, List.length_cons, List.length_nil]; rfl, ?_⟩ | refine ⟨by push_cast; rfl, ?_⟩ | refine ⟨by (rw [h]; rfl), ?_⟩))
      · rfl
    · skip
      refine Cd.skip ?_
      refine Ent.inv (()) ?_ ?_ ?_
      · (try dsimp only); skip
      · (repeat (first | exact trivial | refine ⟨by rfl, ?_⟩ | refine ⟨by simp only [List.length_append, List.length_cons, List.length_nil]; rfl, ?_⟩ | refine ⟨by push_cast; rfl, ?_⟩ | refine ⟨by (rw [h]; rfl), ?_⟩))
      · rfl
  skip
  rintro _ -
  refine Cd.seq ?_
  refine Cd.draw [] (by kernel_rfl) ?_
  refine Rg.ev 0 (by rfl) (fun _ h => h) (Ev.fieldAddr (k := 0) (show Oper.op _ = Op.fieldAddr 42 (Operand.tmp 1) 0 from rfl) (by rfl) (by kernel_rfl) (by rfl)) (by rfl) (some 6) (by rfl) (by kernel_rfl) (by kernel_rfl) (by kernel_rfl) (by kernel_rfl) ?_
  refine Rg.ev 1 (by rfl) (fun _ h => h) (Ev.load 0 (show Oper.op _ = Op.load 9 (Operand.tmp 6) from rfl) (by rfl) (by rfl) (by kernel_rfl) (by rfl)) (by rfl) (some 7) (by rfl) (by kernel_rfl) (by kernel_rfl) (by kernel_rfl) (by kernel_rfl) ?_
  refine Rg.ev 3 (by rfl) (fun _ h => h) (Ev.fieldAddr (k := 1) (show Oper.op _ = Op.fieldAddr 42 (Operand.tmp 1) 1 from rfl) (by rfl) (by kernel_rfl) (by rfl)) (by rfl) (some 9) (by rfl) (by kernel_rfl) (by kernel_rfl) (by kernel_rfl) (by kernel_rfl) ?_
  refine Rg.ev 4 (by rfl) (fun _ h => h) (Ev.load 0 (show Oper.op _ = Op.load 3 (Operand.tmp 9) from rfl) (by rfl) (by rfl) (by kernel_rfl) (by rfl)) (by rfl) (some 10) (by rfl) (by kernel_rfl) (by kernel_rfl) (by kernel_rfl) (by kernel_rfl) ?_
  refine Rg.ev 5 (by rfl) (fun _ h => h) (Ev.convU (show Oper.op _ = Op.convert 3 64 (Operand.tmp 10) from rfl) (by rfl) (by kernel_rfl) Try.underlying64 (by omega)) (by rfl) (some 11) (by rfl) (by kernel_rfl) (by kernel_rfl) (by kernel_rfl) (by kernel_rfl) ?_
  refine Rg.ev 7 (by rfl) (fun _ h => h) (Ev.move (show Oper.op _ = Op.move (Operand.tmp 3) from rfl) (by rfl)) (by rfl) (some 13) (by rfl) (by kernel_rfl) (by kernel_rfl) (by kernel_rfl) (by kernel_rfl) ?_
  refine Rg.ev 9 (by rfl) (fun _ h => h) (Ev.fieldAddr (k := 3) (show Oper.op _ = Op.fieldAddr 42 (Operand.tmp 1) 3 from rfl) (by rfl) (by kernel_rfl) (by rfl)) (by rfl) (some 15) (by rfl) (by kernel_rfl) (by kernel_rfl) (by kernel_rfl) (by kernel_rfl) ?_
  refine Rg.ev 10 (by rfl) (fun _ h => h) (Ev.load 0 (show Oper.op _ = Op.load 9 (Operand.tmp 15) from rfl) (by rfl) (by rfl) (by kernel_rfl) (by rfl)) (by rfl) (some 16) (by rfl) (by kernel_rfl) (by kernel_rfl) (by kernel_rfl) (by kernel_rfl) ?_
  refine Rg.float1 8 (ι := Nat) (some 14) (fun g => .slice (some ⟨g, 0, none⟩) 1 1) (fun g => row (some ⟨g, 0, none⟩) 1 1 5 1 [.int .u8 (delB e.del).toNat]) ?_
  refine RgF.does 2 (by rfl) (by rfl) (.inr (by kernel_rfl)) (by kernel_rfl) (Does.lit (sz := 1) (show Oper.op _ = Op.buildSlice 25 1 #[(0, Operand.tmp 13)] from rfl) (by rfl) Try.underlying25 (by kernel_rfl) (by rfl) (by kernel_rfl)) (by rfl) (some 14) (by rfl) (fun _ => by repeat (first | exact trivial | refine ⟨by rfl, ?_⟩ | refine ⟨by simp only [List.length_append, List.length_cons, List.length_nil]; rfl, ?_⟩ | refine ⟨by push_cast; rfl, ?_⟩)) (by exact fun _ _ h => h.last) (by exact fun _ _ h => h.pick [0] (by rfl)) (Does.call [0] (show Oper.op _ = Op.call { callee := Callee.value (Operand.func 32), args := #[Operand.tmp 7], argTypes := #[9] } from rfl) Try.func32 (by kernel_rfl) (by kernel_rfl) (text_sl e.key (by omega)) (by rfl) (by rfl) (by rfl)) (by rfl) (some 8) (by rfl) (by exact fun _ _ h => h.pick [1] (by rfl)) (fun _ => Does.call [0, 1] (show Oper.op _ = Op.call { callee := Callee.value (Operand.func 32), args := #[Operand.tmp 7], argTypes := #[9] } from rfl) Try.func32 (by kernel_rfl) (by kernel_rfl) (text_sl e.key (by omega)) (by rfl) (by rfl) (by rfl)) (fun _ => by rfl) (by exact fun _ _ _ h => h.pick [1] (by rfl)) ?_
  intro q1 _
  refine RgF.does 6 (by rfl) (by rfl) (.inr (by kernel_rfl)) (by kernel_rfl) (Does.lit (sz := 1) (show Oper.op _ = Op.buildSlice 25 1 #[(0, Operand.tmp 13)] from rfl) (by rfl) Try.underlying25 (by kernel_rfl) (by rfl) (by kernel_rfl)) (by rfl) (some 14) (by rfl) (fun _ => by repeat (first | exact trivial | refine ⟨by rfl, ?_⟩ | refine ⟨by simp only [List.length_append, List.length_cons, List.length_nil]; rfl, ?_⟩ | refine ⟨by push_cast; rfl, ?_⟩)) (by exact fun _ _ h => h.last) (by exact fun _ _ h => h.pick [1] (by rfl)) (Does.call [0, 1] (show Oper.op _ = Op.call { callee := Callee.value (Operand.func 33), args := #[Operand.tmp 11], argTypes := #[64] } from rfl) Try.func33 (by kernel_rfl) (by kernel_rfl) (uint_slI e.seq (by omega)) (by rfl) (by rfl) (by rfl)) (by rfl) (some 12) (by rfl) (by exact fun _ _ h => h.pick [2] (by rfl)) (fun _ => Does.call [0, 1, 2] (show Oper.op _ = Op.call { callee := Callee.value (Operand.func 33), args := #[Operand.tmp 11], argTypes := #[64] } from rfl) Try.func33 (by kernel_rfl) (by kernel_rfl) (uint_slI e.seq (by omega)) (by rfl) (by rfl) (by rfl)) (fun _ => by rfl) (by exact fun _ _ _ h => h.pick [2] (by rfl)) ?_
  intro q2 _
  refine RgF.does 11 (by rfl) (by rfl) (.inl (by kernel_rfl)) (by kernel_rfl) (Does.lit (sz := 1) (show Oper.op _ = Op.buildSlice 25 1 #[(0, Operand.tmp 13)] from rfl) (by rfl) Try.underlying25 (by kernel_rfl) (by rfl) (by kernel_rfl)) (by rfl) (some 14) (by rfl) (fun _ => by repeat (first | exact trivial | refine ⟨by rfl, ?_⟩ | refine ⟨by simp only [List.length_append, List.length_cons, List.length_nil]; rfl, ?_⟩ | refine ⟨by push_cast; rfl, ?_⟩)) (by exact fun _ _ h => h.last) (by exact fun _ _ h => h.pick [2] (by rfl)) (Does.call [0, 1, 2] (show Oper.op _ = Op.call { callee := Callee.value (Operand.func 32), args := #[Operand.tmp 16], argTypes := #[9] } from rfl) Try.func32 (by kernel_rfl) (by kernel_rfl) (text_sl e.value (by omega)) (by rfl) (by rfl) (by rfl)) (by rfl) (some 17) (by rfl) (by exact fun _ _ h => h.pick [3] (by rfl)) (fun _ => Does.call [0, 1, 2, 3] (show Oper.op _ = Op.call { callee := Callee.value (Operand.func 32), args := #[Operand.tmp 16], argTypes := #[9] } from rfl) Try.func32 (by kernel_rfl) (by kernel_rfl) (text_sl e.value (by omega)) (by rfl) (by rfl) (by rfl)) (fun _ => by rfl) (by exact fun _ _ _ h => h.pick [3] (by rfl)) ?_
  intro q3 _
  refine RgF.land (by rfl) (by kernel_rfl) (Does.lit (sz := 1) (show Oper.op _ = Op.buildSlice 25 1 #[(0, Operand.tmp 13)] from rfl) (by rfl) Try.underlying25 (by kernel_rfl) (by rfl) (by kernel_rfl)) (by rfl) (some 14) (by rfl) (fun _ => by repeat (first | exact trivial | refine ⟨by rfl, ?_⟩ | refine ⟨by simp only [List.length_append, List.length_cons, List.length_nil]; rfl, ?_⟩ | refine ⟨by push_cast; rfl, ?_⟩)) (by exact fun _ _ h => h.last) (by exact fun _ _ h => h.pick [3] (by rfl)) ?_
  intro g2
  refine Rg.one 12 (by kernel_rfl) ?_; refine RgO.does 12 (by rfl) (Does.lit (sz := 1) (show Oper.op _ = Op.buildSlice 76 4 #[(0, Operand.tmp 8), (1, Operand.tmp 12), (2, Operand.tmp 14), (3, Operand.tmp 17)] from rfl) (by rfl) Try.underlying76 (by kernel_rfl) (by rfl) (by kernel_rfl)) (by rfl) (some 18) (by rfl) (by exact fun _ _ h => h.pick [4] (by rfl)) ?_
  intro g3 _
  obtain ⟨ls, hls⟩ : ∃ ls : List Bs, ls = [⟨q1.1, q1.2, textL e.key⟩, ⟨q2.1, q2.2, uintL e.seq.toNat⟩, ⟨some ⟨g2, 0, none⟩, 1, [delB e.del]⟩, ⟨q3.1, q3.2, textL e.value⟩] := ⟨_, rfl⟩
  have hcat : catB ls = putL e := by rw [hls]; simp [catB, putL]
  refine Ent.see 0 (by rfl) (Ent.see 1 (by rfl) (Ent.see 2 (by rfl) (Ent.see 3 (by rfl) (Ent.see 5 (by rfl) ?_))))
  refine Ent.pick [3, 2, 5, 1, 0, 4] (by rfl) (Ent.closeR 4 (by rfl) ?_)
  skip
  rw [hls] at hcat
  refine Rg.one 13 (by kernel_rfl) ?_; refine RgO.does 13 (by rfl) (Does.call [1, 0, 2] (show Oper.op _ = Op.call { callee := Callee.value (Operand.func 31), args := #[Operand.tmp 18], argTypes := #[76] } from rfl) Try.func31 (by kernel_rfl) (by kernel_rfl) (concat_sl (some ⟨g3, 0, none⟩) 4 [⟨q1.1, q1.2, textL e.key⟩, ⟨q2.1, q2.2, uintL e.seq.toNat⟩, ⟨some ⟨g2, 0, none⟩, 1, [delB e.del]⟩, ⟨q3.1, q3.2, textL e.value⟩] (by simp) (by rw [hcat]; omega)) (by rfl) (by rfl) (by rfl)) (by rfl) (some 19) (by rfl) (by exact fun _ _ h => h.pick [1] (by rfl)) ?_
  rw [hcat]
  intro q _
  refine Rg.ev 14 (by rfl) (by exact fun _ h => h.pick [1] (by rfl)) (Ev.assign (show Oper.op _ = Op.assign (Operand.tmp 19) from rfl) (by rfl)) (by rfl) (some 2) (by rfl) (by kernel_rfl) (by kernel_rfl) (by kernel_rfl) (by kernel_rfl) ?_
  refine Rg.done (by kernel_rfl) ?_ _
  refine Cd.ret ?_
  refine Ent.ret (q) (trivial) (Res.tmp (by rfl) (by rfl)) ?_ [0] (by rfl) ?_
  · rfl
  · rfl
theorem fourL_u8 (n : Nat) : u8s (fourL n) = [.int .u8 (IntKind.u8.wrap n), .int .u8 (IntKind.u8.wrap ((n : Int).fdiv (2 ^ 8))), .int .u8 (IntKind.u8.wrap ((n : Int).fdiv (2 ^ 16))), .int .u8 (IntKind.u8.wrap ((n : Int).fdiv (2 ^ 24)))] := by
  have key : ∀ m : Nat, (((UInt8.ofNat m).toNat : Nat) : Int) = IntKind.u8.wrap (m : Int) := fun m => by
    rw [IntKind.wrap_u8]
    simp
  have e : ∀ j : Nat, (n : Int).fdiv (2 ^ j) = ((n / 2 ^ j : Nat) : Int) := fun j => by
    rw [Int.fdiv_eq_ediv_of_nonneg _ (by exact Int.le_of_lt (Int.pow_pos (by decide)))]
    norm_cast
  rw [e, e, e, ← key, ← key, ← key, ← key]
  rfl
theorem four_sl (n : Nat) : Fn Try.prog 36 #[.int .i64 n] [] (Option Addr × Nat) (fun p => .slice p.1 (fourL n).length p.2) (fun p => [rowB p.1 p.2 (fourL n)]) (fun _ => True) := by
  refine Fn.enter Try.func36 rfl Try.ntmps36 (by rfl) ?_
  intro w0
  refine Cd.seq ?_
  refine Cd.region ?_
  refine Ls.ev (some 2) (Ev.assign (show Oper.op _ = Op.assign (Operand.const (Value.slice none 0 0)) from rfl) (by rfl)) (by rfl) (by rfl) ?_
  refine Ls.nil ?_
  refine Cd.seq ?_
  refine Cd.region ?_
  refine Ls.ev (some 3) (Ev.move (show Oper.op _ = Op.move (Operand.tmp 0) from rfl) (by rfl)) (by rfl) (by rfl) ?_
  refine Ls.ev (some 4) (Ev.conv (show Oper.op _ = Op.convert 3 5 (Operand.tmp 3) from rfl) (by rfl) (by kernel_rfl) Try.underlying5) (by rfl) (by rfl) ?_
  refine Ls.ev (some 5) (Ev.move (show Oper.op _ = Op.move (Operand.tmp 0) from rfl) (by rfl)) (by rfl) (by rfl) ?_
  refine Ls.ev (some 6) (Ev.shr (show Oper.op _ = Op.binOp BinOp.shr 3 (Operand.tmp 5) (Operand.const (Value.int IntKind.u64 8)) 89 from rfl) (by rfl) (by rfl) (by omega)) (by rfl) (by rfl) ?_
  refine Ls.ev (some 7) (Ev.conv (show Oper.op _ = Op.convert 3 5 (Operand.tmp 6) from rfl) (by rfl) (by kernel_rfl) Try.underlying5) (by rfl) (by rfl) ?_
  refine Ls.ev (some 8) (Ev.move (show Oper.op _ = Op.move (Operand.tmp 0) from rfl) (by rfl)) (by rfl) (by rfl) ?_
  refine Ls.ev (some 9) (Ev.shr (show Oper.op _ = Op.binOp BinOp.shr 3 (Operand.tmp 8) (Operand.const (Value.int IntKind.u64 16)) 89 from rfl) (by rfl) (by rfl) (by omega)) (by rfl) (by rfl) ?_
  refine Ls.ev (some 10) (Ev.conv (show Oper.op _ = Op.convert 3 5 (Operand.tmp 9) from rfl) (by rfl) (by kernel_rfl) Try.underlying5) (by rfl) (by rfl) ?_
  refine Ls.ev (some 11) (Ev.move (show Oper.op _ = Op.move (Operand.tmp 0) from rfl) (by rfl)) (by rfl) (by rfl) ?_
  refine Ls.ev (some 12) (Ev.shr (show Oper.op _ = Op.binOp BinOp.shr 3 (Operand.tmp 11) (Operand.const (Value.int IntKind.u64 24)) 89 from rfl) (by rfl) (by rfl) (by omega)) (by rfl) (by rfl) ?_
  refine Ls.ev (some 13) (Ev.conv (show Oper.op _ = Op.convert 3 5 (Operand.tmp 12) from rfl) (by rfl) (by kernel_rfl) Try.underlying5) (by rfl) (by rfl) ?_
  refine Ls.does (some 14) (Does.lit (sz := 1) (show Oper.op _ = Op.buildSlice 25 4 #[(0, Operand.tmp 4), (1, Operand.tmp 7), (2, Operand.tmp 10), (3, Operand.tmp 13)] from rfl) (by rfl) Try.underlying25 (by kernel_rfl) (by rfl) (by kernel_rfl)) (by rfl) (by rfl) ?_
  intro g1 _
  refine Ls.ev (some 2) (Ev.assign (show Oper.op _ = Op.assign (Operand.tmp 14) from rfl) (by rfl)) (by rfl) (by rfl) ?_
  refine Ls.nil ?_
  refine Cd.ret ?_
  refine Ent.ret ((some ⟨g1, 0, none⟩, 4)) (trivial) (Res.tmp (by rfl) (by rfl)) ?_ [0] (by rfl) ?_
  · rfl
  · show [_] = [rowB _ _ _]
    unfold rowB
    rw [fourL_u8]
    rfl
end Go.Proofs.Ytnhcfhamcakfkaa
/- slices.Compact over pieces -/
namespace Go.Proofs.Ytnhcfhamcakfkaa
open Go.RowKit
theorem cmpK_ne {ks : List ByteArray} {k : Nat} {u v : ByteArray} (hu : ks[k]? = some u) (hv : ks[k + 1]? = some v) (h : u ≠ v) : cmpK ks (k + 1 + 1) = cmpK ks (k + 1) ++ [v] := by
  rw [cmpK, if_pos]
  · rw [hv]; rfl
  · right
    rw [Nat.add_sub_cancel, hu, hv]
    exact fun e => h (Option.some.inj e)
theorem cmpK_eq {ks : List ByteArray} {k : Nat} {u : ByteArray} (hu : ks[k]? = some u) (hv : ks[k + 1]? = some u) : cmpK ks (k + 1 + 1) = cmpK ks (k + 1) := by
  rw [cmpK, if_neg, List.append_nil]
  rintro (h | h)
  · omega
  · rw [Nat.add_sub_cancel, hu, hv] at h
    exact h rfl
theorem cmpK_one (ks : List ByteArray) : cmpK ks 1 = ks.take 1 := by
  rw [cmpK, cmpK, if_pos (.inl rfl)]
  cases ks <;> rfl
theorem cmpK_le (ks : List ByteArray) : ∀ k, (cmpK ks k).length ≤ k
  | 0 => Nat.le_refl _
  | k + 1 => by
    rw [cmpK, List.length_append]
    have := cmpK_le ks k
    split
    · cases ks[k]? <;> simp <;> omega
    · simp; omega
theorem compact_sl (A : Option Addr) (c : Nat) (ks : List ByteArray) (hn : ks.length ≤ 8796093022207) : Fn Try.prog 35 #[.slice A ks.length c] [row A ks.length c 9 1 (strs ks)] Unit (fun _ => .slice A (cmpK ks ks.length).length c) (fun _ => [row A (cmpK ks ks.length).length c 9 1 (strs (cmpK ks ks.length))]) (fun _ => True) := by
  refine Fn.enter Try.func35 rfl Try.ntmps35 (by rfl) ?_
  intro w0
  skip
  refine Cd.seq ?_
  refine Cd.region ?_
  refine Ls.ev (some 2) (Ev.assign (show Oper.op _ = Op.assign (Operand.const (Value.slice none 0 0)) from rfl) (by rfl)) (by rfl) (by rfl) ?_
  refine Ls.nil ?_
  refine Cd.seq ?_
  refine Cd.seq ?_
  refine Cd.region ?_
  refine Ls.ev (some 6) (Ev.move (show Oper.op _ = Op.move (Operand.tmp 0) from rfl) (by rfl)) (by rfl) (by rfl) ?_
  refine Ls.ev (some 7) (Ev.len (show Oper.op _ = Op.call { callee := Callee.builtin Builtin.len, args := #[Operand.tmp 6], argTypes := #[44] } from rfl) (by rfl) Try.underlying44) (by rfl) (by rfl) ?_
  refine Ls.ev (some 8) (Ev.lss (show Oper.op _ = Op.binOp BinOp.lss 3 (Operand.tmp 7) (Operand.const (Value.int IntKind.i64 2)) 3 from rfl) (by rfl) (by rfl)) (by rfl) (by rfl) ?_
  refine Ls.nil ?_
  refine Cd.cond _ (by rfl) (fun h => ?_) (fun h => ?_)
  · skip
    have h2 : ks.length < 2 := by have := of_decide_eq_true h; omega
    have he : cmpK ks ks.length = ks := by
      rcases Nat.lt_or_ge ks.length 1 with h0 | h0
      · have e0 : ks.length = 0 := by omega
        rw [e0, List.eq_nil_of_length_eq_zero e0]; rfl
      · have e1 : ks.length = 1 := by omega
        rw [e1, cmpK_one, ← e1, List.take_length]
    rw [he]
    refine Cd.seq ?_
    refine Cd.region ?_
    refine Ls.ev (some 9) (Ev.move (show Oper.op _ = Op.move (Operand.tmp 0) from rfl) (by rfl)) (by rfl) (by rfl) ?_
    refine Ls.ev (some 2) (Ev.assign (show Oper.op _ = Op.assign (Operand.tmp 9) from rfl) (by rfl)) (by rfl) (by rfl) ?_
    refine Ls.nil ?_
    refine Cd.ret ?_
    refine Ent.ret (()) (trivial) (Res.tmp (by rfl) (by rfl)) ?_ [0] (by rfl) ?_
    · rfl
    · rfl
  · skip
    have h2 : 2 ≤ ks.length := by have := of_decide_eq_false h; omega
    refine Ent.rowSome 0 (by rfl) (by omega) (fun ad had => ?_)
    subst had
    refine Ent.fact 0 (by rfl) (p := ks.length ≤ c) (fun w hw => Own.le hw) (fun hcap => ?_)
    refine Cd.skip ?_
    refine Cd.seq ?_
    refine Cd.seq ?_
    refine Cd.region ?_
    refine Ls.ev (some 3) (Ev.assign (show Oper.op _ = Op.assign (Operand.const (Value.int IntKind.i64 1)) from rfl) (by rfl)) (by rfl) (by rfl) ?_
    refine Ls.nil ?_
    refine Cd.block ?_
    refine Cd.loop (ι := Nat) (fun k => [(0, .slice (some ad) ks.length c), (3, .int .i64 (k + 1 : Nat))]) (fun _ => [row (some ad) ks.length c 9 1 (strs ks)]) (fun k => k + 1 ≤ ks.length ∧ cmpK ks (k + 1) = ks.take (k + 1)) (fun k => ks.length - k) (0) (⟨by omega, cmpK_one ks⟩) ?_ rfl ?_
    · (repeat (first | exact trivial | refine ⟨by rfl, ?_⟩))
    intro k ⟨hk, hc⟩
    refine Cd.seq ?_
    refine Cd.seq ?_
    refine Cd.region ?_
    refine Ls.ev (some 10) (Ev.move (show Oper.op _ = Op.move (Operand.tmp 3) from rfl) (by rfl)) (by rfl) (by rfl) ?_
    refine Ls.ev (some 11) (Ev.move (show Oper.op _ = Op.move (Operand.tmp 0) from rfl) (by rfl)) (by rfl) (by rfl) ?_
    refine Ls.ev (some 12) (Ev.len (show Oper.op _ = Op.call { callee := Callee.builtin Builtin.len, args := #[Operand.tmp 11], argTypes := #[44] } from rfl) (by rfl) Try.underlying44) (by rfl) (by rfl) ?_
    refine Ls.ev (some 13) (Ev.lss (show Oper.op _ = Op.binOp BinOp.lss 3 (Operand.tmp 10) (Operand.tmp 12) 3 from rfl) (by rfl) (by rfl)) (by rfl) (by rfl) ?_
    refine Ls.nil ?_
    refine Cd.cond _ (by rfl) (fun h3 => ?_) (fun h3 => ?_)
    · skip
      have hlt : k + 1 < ks.length := by have := of_decide_eq_true h3; omega
      obtain ⟨v, hv⟩ := get_of_lt hlt
      obtain ⟨u, hu⟩ := get_of_lt (show k < ks.length by omega)
      have hu2 : ks[k + 1 - 1]? = some u := hu
      refine Cd.skip ?_
      refine Cd.seq ?_
      refine Cd.block ?_
      refine Cd.seq ?_
      refine Cd.draw [] (by kernel_rfl) ?_
      refine Rg.ev 0 (by rfl) (fun _ h => h) (Ev.move (show Oper.op _ = Op.move (Operand.tmp 0) from rfl) (by rfl)) (by rfl) (some 16) (by rfl) (by kernel_rfl) (by kernel_rfl) (by kernel_rfl) (by kernel_rfl) ?_
      refine Rg.ev 1 (by rfl) (fun _ h => h) (Ev.move (show Oper.op _ = Op.move (Operand.tmp 3) from rfl) (by rfl)) (by rfl) (some 17) (by rfl) (by kernel_rfl) (by kernel_rfl) (by kernel_rfl) (by kernel_rfl) ?_
      refine Rg.ev 2 (by rfl) (fun _ h => h) (Ev.indexAt (sz := 1) (show Oper.op _ = Op.indexAddr 44 (Operand.tmp 16) (Operand.tmp 17) from rfl) (by rfl) (by rfl) Try.underlying44 (by kernel_rfl) (by omega)) (by rfl) (some 18) (by rfl) (by kernel_rfl) (by kernel_rfl) (by kernel_rfl) (by kernel_rfl) ?_
      refine Rg.ev 3 (by rfl) (fun _ h => h) (Ev.loadStr (show Oper.op _ = Op.load 9 (Operand.tmp 18) from rfl) (by rfl) (ReadsIn.row 0 (by rfl)) (by kernel_rfl) (by assumption)) (by rfl) (some 19) (by rfl) (by kernel_rfl) (by kernel_rfl) (by kernel_rfl) (by kernel_rfl) ?_
      refine Rg.ev 4 (by rfl) (fun _ h => h) (Ev.move (show Oper.op _ = Op.move (Operand.tmp 0) from rfl) (by rfl)) (by rfl) (some 20) (by rfl) (by kernel_rfl) (by kernel_rfl) (by kernel_rfl) (by kernel_rfl) ?_
      refine Rg.ev 5 (by rfl) (fun _ h => h) (Ev.move (show Oper.op _ = Op.move (Operand.tmp 3) from rfl) (by rfl)) (by rfl) (some 21) (by rfl) (by kernel_rfl) (by kernel_rfl) (by kernel_rfl) (by kernel_rfl) ?_
      refine Rg.ev 6 (by rfl) (fun _ h => h) (Ev.subN (b := 1) (show Oper.op _ = Op.binOp BinOp.sub 3 (Operand.tmp 21) (Operand.const (Value.int IntKind.i64 1)) 3 from rfl) (by rfl) (by rfl) (by omega)) (by rfl) (some 22) (by rfl) (by kernel_rfl) (by kernel_rfl) (by kernel_rfl) (by kernel_rfl) ?_
      refine Rg.ev 7 (by rfl) (fun _ h => h) (Ev.indexAt (sz := 1) (show Oper.op _ = Op.indexAddr 44 (Operand.tmp 20) (Operand.tmp 22) from rfl) (by rfl) (by rfl) Try.underlying44 (by kernel_rfl) (by omega)) (by rfl) (some 23) (by rfl) (by kernel_rfl) (by kernel_rfl) (by kernel_rfl) (by kernel_rfl) ?_
      refine Rg.ev 8 (by rfl) (fun _ h => h) (Ev.loadStr (show Oper.op _ = Op.load 9 (Operand.tmp 23) from rfl) (by rfl) (ReadsIn.row 0 (by rfl)) (by kernel_rfl) (by assumption)) (by rfl) (some 24) (by rfl) (by kernel_rfl) (by kernel_rfl) (by kernel_rfl) (by kernel_rfl) ?_
      refine Rg.ev 9 (by rfl) (fun _ h => h) (Ev.eqlS (show Oper.op _ = Op.binOp BinOp.eql 9 (Operand.tmp 19) (Operand.tmp 24) 9 from rfl) (by rfl) (by rfl)) (by rfl) (some 25) (by rfl) (by kernel_rfl) (by kernel_rfl) (by kernel_rfl) (by kernel_rfl) ?_
      refine Rg.done (by kernel_rfl) ?_ _
      refine Cd.cond _ (by rfl) (fun h4 => ?_) (fun h4 => ?_)
      · skip
        have huv : v = u := of_decide_eq_true h4
        subst huv
        refine Cd.seq ?_
        refine Cd.region ?_
        refine Ls.ev (some 26) (Ev.move (show Oper.op _ = Op.move (Operand.tmp 0) from rfl) (by rfl)) (by rfl) (by rfl) ?_
        refine Ls.ev (some 27) (Ev.move (show Oper.op _ = Op.move (Operand.tmp 3) from rfl) (by rfl)) (by rfl) (by rfl) ?_
        refine Ls.ev (some 28) (Ev.sliceLs (sz := 1) (show Oper.op _ = Op.slice 44 (Operand.tmp 26) (some (Operand.tmp 27)) none none from rfl) (by rfl) (by rfl) Try.underlying44 (by kernel_rfl) (by omega)) (by rfl) (by rfl) ?_
        refine Ls.ev (some 4) (Ev.assign (show Oper.op _ = Op.assign (Operand.tmp 28) from rfl) (by rfl)) (by rfl) (by rfl) ?_
        refine Ls.nil ?_
        refine Cd.seq ?_
        refine Cd.seq ?_
        refine Cd.region ?_
        refine Ls.ev (some 5) (Ev.assign (show Oper.op _ = Op.assign (Operand.const (Value.int IntKind.i64 1)) from rfl) (by rfl)) (by rfl) (by rfl) ?_
        refine Ls.nil ?_
        refine Cd.block ?_
        refine Cd.loop (ι := Nat × Nat × List ByteArray) (fun j => [(0, .slice (some ad) ks.length c), (3, .int .i64 j.2.1), (4, .slice (some (ad.add ((k + 1) * 1))) (ks.length - (k + 1)) (c - (k + 1))), (5, .int .i64 (j.1 + 1 : Nat))]) (fun j => [row (some ad) ks.length c 9 1 (strs j.2.2)]) (fun j => k + 1 + j.1 + 1 ≤ ks.length ∧ j.2.1 ≤ k + 1 + j.1 ∧ j.2.2.length = ks.length ∧ j.2.2.take j.2.1 = cmpK ks (k + 1 + j.1 + 1) ∧ (∀ i, k + 1 + j.1 ≤ i → j.2.2[i]? = ks[i]?)) (fun j => ks.length - j.1) ((0, k + 1, ks)) (⟨by dsimp only; omega, by dsimp only; omega, rfl, by dsimp only; rw [Nat.add_zero, cmpK_eq hu hv, hc], fun _ _ => rfl⟩) ?_ rfl ?_
        · (repeat (first | exact trivial | refine ⟨by rfl, ?_⟩))
        rintro ⟨q, m, cur⟩ ⟨i1, i2, i3, i4, i5⟩
        dsimp only at i1 i2 i3 i4 i5 ⊢
        refine Cd.seq ?_
        refine Cd.seq ?_
        refine Cd.region ?_
        refine Ls.ev (some 29) (Ev.move (show Oper.op _ = Op.move (Operand.tmp 5) from rfl) (by rfl)) (by rfl) (by rfl) ?_
        refine Ls.ev (some 30) (Ev.move (show Oper.op _ = Op.move (Operand.tmp 4) from rfl) (by rfl)) (by rfl) (by rfl) ?_
        refine Ls.ev (some 31) (Ev.len (show Oper.op _ = Op.call { callee := Callee.builtin Builtin.len, args := #[Operand.tmp 30], argTypes := #[44] } from rfl) (by rfl) Try.underlying44) (by rfl) (by rfl) ?_
        refine Ls.ev (some 32) (Ev.lss (show Oper.op _ = Op.binOp BinOp.lss 3 (Operand.tmp 29) (Operand.tmp 31) 3 from rfl) (by rfl) (by rfl)) (by rfl) (by rfl) ?_
        refine Ls.nil ?_
        refine Cd.cond _ (by rfl) (fun h5 => ?_) (fun h5 => ?_)
        · skip
          have hq : k + 1 + q + 1 < ks.length := by have := of_decide_eq_true h5; omega
          obtain ⟨y, hy⟩ := get_of_lt hq
          obtain ⟨x, hx⟩ := get_of_lt (show k + 1 + q < ks.length by omega)
          have hy2 : cur[k + 1 + (q + 1)]? = some y := by rw [i5 _ (by omega)]; exact hy
          have hx2 : cur[k + 1 + (q + 1 - 1)]? = some x := by rw [i5 _ (by omega)]; exact hx
          refine Cd.skip ?_
          refine Cd.seq ?_
          refine Cd.block ?_
          refine Cd.seq ?_
          refine Cd.draw [] (by kernel_rfl) ?_
          refine Rg.ev 0 (by rfl) (fun _ h => h) (Ev.move (show Oper.op _ = Op.move (Operand.tmp 4) from rfl) (by rfl)) (by rfl) (some 35) (by rfl) (by kernel_rfl) (by kernel_rfl) (by kernel_rfl) (by kernel_rfl) ?_
          refine Rg.ev 1 (by rfl) (fun _ h => h) (Ev.move (show Oper.op _ = Op.move (Operand.tmp 5) from rfl) (by rfl)) (by rfl) (some 36) (by rfl) (by kernel_rfl) (by kernel_rfl) (by kernel_rfl) (by kernel_rfl) ?_
          refine Rg.ev 2 (by rfl) (fun _ h => h) (Ev.indexAtC (sz := 1) (show Oper.op _ = Op.indexAddr 44 (Operand.tmp 35) (Operand.tmp 36) from rfl) (by rfl) (by rfl) Try.underlying44 (by kernel_rfl) (by omega)) (by rfl) (some 37) (by rfl) (by kernel_rfl) (by kernel_rfl) (by kernel_rfl) (by kernel_rfl) ?_
          refine Rg.ev 3 (by rfl) (fun _ h => h) (Ev.loadStr (show Oper.op _ = Op.load 9 (Operand.tmp 37) from rfl) (by rfl) (ReadsIn.row 0 (by rfl)) (by kernel_rfl) (by assumption)) (by rfl) (some 38) (by rfl) (by kernel_rfl) (by kernel_rfl) (by kernel_rfl) (by kernel_rfl) ?_
          refine Rg.ev 4 (by rfl) (fun _ h => h) (Ev.move (show Oper.op _ = Op.move (Operand.tmp 4) from rfl) (by rfl)) (by rfl) (some 39) (by rfl) (by kernel_rfl) (by kernel_rfl) (by kernel_rfl) (by kernel_rfl) ?_
          refine Rg.ev 5 (by rfl) (fun _ h => h) (Ev.move (show Oper.op _ = Op.move (Operand.tmp 5) from rfl) (by rfl)) (by rfl) (some 40) (by rfl) (by kernel_rfl) (by kernel_rfl) (by kernel_rfl) (by kernel_rfl) ?_
          refine Rg.ev 6 (by rfl) (fun _ h => h) (Ev.subN (b := 1) (show Oper.op _ = Op.binOp BinOp.sub 3 (Operand.tmp 40) (Operand.const (Value.int IntKind.i64 1)) 3 from rfl) (by rfl) (by rfl) (by omega)) (by rfl) (some 41) (by rfl) (by kernel_rfl) (by kernel_rfl) (by kernel_rfl) (by kernel_rfl) ?_
          refine Rg.ev 7 (by rfl) (fun _ h => h) (Ev.indexAtC (sz := 1) (show Oper.op _ = Op.indexAddr 44 (Operand.tmp 39) (Operand.tmp 41) from rfl) (by rfl) (by rfl) Try.underlying44 (by kernel_rfl) (by omega)) (by rfl) (some 42) (by rfl) (by kernel_rfl) (by kernel_rfl) (by kernel_rfl) (by kernel_rfl) ?_
          refine Rg.ev 8 (by rfl) (fun _ h => h) (Ev.loadStr (show Oper.op _ = Op.load 9 (Operand.tmp 42) from rfl) (by rfl) (ReadsIn.row 0 (by rfl)) (by kernel_rfl) (by assumption)) (by rfl) (some 43) (by rfl) (by kernel_rfl) (by kernel_rfl) (by kernel_rfl) (by kernel_rfl) ?_
          refine Rg.ev 9 (by rfl) (fun _ h => h) (Ev.neqS (show Oper.op _ = Op.binOp BinOp.neq 9 (Operand.tmp 38) (Operand.tmp 43) 9 from rfl) (by rfl) (by rfl)) (by rfl) (some 44) (by rfl) (by kernel_rfl) (by kernel_rfl) (by kernel_rfl) (by kernel_rfl) ?_
          refine Rg.done (by kernel_rfl) ?_ _
          refine Cd.cond _ (by rfl) (fun h6 => ?_) (fun h6 => ?_)
          · skip
            have hne : x ≠ y := fun e => of_decide_eq_true h6 e.symm
            refine Cd.seq ?_
            refine Cd.region ?_
            refine Ls.ev (some 45) (Ev.move (show Oper.op _ = Op.move (Operand.tmp 0) from rfl) (by rfl)) (by rfl) (by rfl) ?_
            refine Ls.ev (some 46) (Ev.move (show Oper.op _ = Op.move (Operand.tmp 3) from rfl) (by rfl)) (by rfl) (by rfl) ?_
            refine Ls.ev (some 47) (Ev.move (show Oper.op _ = Op.move (Operand.tmp 4) from rfl) (by rfl)) (by rfl) (by rfl) ?_
            refine Ls.ev (some 48) (Ev.move (show Oper.op _ = Op.move (Operand.tmp 5) from rfl) (by rfl)) (by rfl) (by rfl) ?_
            refine Ls.ev (some 49) (Ev.indexAtC (sz := 1) (show Oper.op _ = Op.indexAddr 44 (Operand.tmp 47) (Operand.tmp 48) from rfl) (by rfl) (by rfl) Try.underlying44 (by kernel_rfl) (by omega)) (by rfl) (by rfl) ?_
            refine Ls.ev (some 50) (Ev.loadStr (show Oper.op _ = Op.load 9 (Operand.tmp 49) from rfl) (by rfl) (ReadsIn.row 0 (by rfl)) (by kernel_rfl) (by assumption)) (by rfl) (by rfl) ?_
            refine Ls.ev (some 51) (Ev.indexAt (sz := 1) (show Oper.op _ = Op.indexAddr 44 (Operand.tmp 45) (Operand.tmp 46) from rfl) (by rfl) (by rfl) Try.underlying44 (by kernel_rfl) (by omega)) (by rfl) (by rfl) ?_
            refine Ls.does none (Does.storeEl 0 (show Oper.op _ = Op.store 9 (Operand.tmp 51) (Operand.tmp 50) from rfl) (by rfl) (by rfl) (by rfl) (by rfl) (by kernel_rfl) (by rfl) (by omega) (by rfl)) (by rfl) (by rfl) ?_
            intro _ _
            refine Ls.nil ?_
            refine Cd.region ?_
            refine Ls.ev (some 52) (Ev.move (show Oper.op _ = Op.move (Operand.tmp 3) from rfl) (by rfl)) (by rfl) (by rfl) ?_
            refine Ls.ev (some 53) (Ev.addN (b := 1) (show Oper.op _ = Op.binOp BinOp.add 3 (Operand.tmp 52) (Operand.const (Value.int IntKind.i64 1)) 3 from rfl) (by rfl) (by rfl) (by omega)) (by rfl) (by rfl) ?_
            refine Ls.ev (some 3) (Ev.assign (show Oper.op _ = Op.assign (Operand.tmp 53) from rfl) (by rfl)) (by rfl) (by rfl) ?_
            refine Ls.nil ?_
            refine Cd.region ?_
            refine Ls.ev (some 33) (Ev.move (show Oper.op _ = Op.move (Operand.tmp 5) from rfl) (by rfl)) (by rfl) (by rfl) ?_
            refine Ls.ev (some 34) (Ev.addN (b := 1) (show Oper.op _ = Op.binOp BinOp.add 3 (Operand.tmp 33) (Operand.const (Value.int IntKind.i64 1)) 3 from rfl) (by rfl) (by rfl) (by omega)) (by rfl) (by rfl) ?_
            refine Ls.ev (some 5) (Ev.assign (show Oper.op _ = Op.assign (Operand.tmp 34) from rfl) (by rfl)) (by rfl) (by rfl) ?_
            refine Ls.nil ?_
            refine Ent.inv ((q + 1, m + 1, cur.set m y)) ?_ ?_ ?_
            · (try dsimp only); exact ⟨⟨by omega, by omega, by rw [List.length_set]; exact i3, by
              have e1 := cmpK_ne hx hy hne
              rw [show k + 1 + (q + 1) + 1 = k + 1 + q + 1 + 1 by omega, e1, ← i4]
              rw [List.take_add_one, List.take_set_of_le (Nat.le_refl m), List.getElem?_set_self (by omega)]
              rfl, fun i hi => by rw [List.getElem?_set_ne (by omega)]; exact i5 i (by omega)⟩, by omega⟩
            · (repeat (first | exact trivial | refine ⟨by rfl, ?_⟩ | refine ⟨by simp only [List.length_append, List.length_cons, List.length_nil]; rfl, ?_⟩ | refine ⟨by push_cast; rfl, ?_⟩))
            · (simp [strs, List.map_set])
          · skip
            have hxy : y = x := by simpa using of_decide_eq_false h6
            subst hxy
            refine Cd.skip ?_
            refine Cd.region ?_
            refine Ls.ev (some 33) (Ev.move (show Oper.op _ = Op.move (Operand.tmp 5) from rfl) (by rfl)) (by rfl) (by rfl) ?_
            refine Ls.ev (some 34) (Ev.addN (b := 1) (show Oper.op _ = Op.binOp BinOp.add 3 (Operand.tmp 33) (Operand.const (Value.int IntKind.i64 1)) 3 from rfl) (by rfl) (by rfl) (by omega)) (by rfl) (by rfl) ?_
            refine Ls.ev (some 5) (Ev.assign (show Oper.op _ = Op.assign (Operand.tmp 34) from rfl) (by rfl)) (by rfl) (by rfl) ?_
            refine Ls.nil ?_
            refine Ent.inv ((q + 1, m, cur)) ?_ ?_ ?_
            · (try dsimp only); exact ⟨⟨by omega, by omega, i3, by
              have e1 := cmpK_eq hx hy
              rw [show k + 1 + (q + 1) + 1 = k + 1 + q + 1 + 1 by omega, e1, ← i4], fun i hi => i5 i (by omega)⟩, by omega⟩
            · (repeat (first | exact trivial | refine ⟨by rfl, ?_⟩ | refine ⟨by simp only [List.length_append, List.length_cons, List.length_nil]; rfl, ?_⟩ | refine ⟨by push_cast; rfl, ?_⟩))
            · rfl
        · skip
          have hq : k + 1 + q + 1 = ks.length := by have := of_decide_eq_false h5; omega
          have hm : (cmpK ks ks.length).length = m := by rw [← hq, ← i4, List.length_take]; omega
          refine Cd.exit ?_
          refine Cd.seq ?_
          refine Cd.region ?_
          refine Ls.ev (some 54) (Ev.move (show Oper.op _ = Op.move (Operand.tmp 0) from rfl) (by rfl)) (by rfl) (by rfl) ?_
          refine Ls.ev (some 55) (Ev.move (show Oper.op _ = Op.move (Operand.tmp 3) from rfl) (by rfl)) (by rfl) (by rfl) ?_
          refine Ls.ev (some 56) (Ev.sliceLs (sz := 1) (show Oper.op _ = Op.slice 44 (Operand.tmp 54) (some (Operand.tmp 55)) none none from rfl) (by rfl) (by rfl) Try.underlying44 (by kernel_rfl) (by omega)) (by rfl) (by rfl) ?_
          refine Ls.does none (Does.clear (v := .string ⟨#[]⟩) 0 (show Oper.op _ = Op.call { callee := Callee.builtin Builtin.clear, args := #[Operand.tmp 56], argTypes := #[44] } from rfl) (by rfl) (by rfl) rfl Try.underlying44 (by kernel_rfl) (by rfl) (by rfl) (by omega)) (by rfl) (by rfl) ?_
          intro _ _
          refine Ls.nil ?_
          refine Cd.seq ?_
          refine Cd.region ?_
          refine Ls.ev (some 57) (Ev.move (show Oper.op _ = Op.move (Operand.tmp 0) from rfl) (by rfl)) (by rfl) (by rfl) ?_
          refine Ls.ev (some 58) (Ev.move (show Oper.op _ = Op.move (Operand.tmp 3) from rfl) (by rfl)) (by rfl) (by rfl) ?_
          refine Ls.ev (some 59) (Ev.sliceHn (sz := 1) (show Oper.op _ = Op.slice 44 (Operand.tmp 57) none (some (Operand.tmp 58)) none from rfl) (by rfl) (by rfl) Try.underlying44 (by kernel_rfl) (by omega)) (by rfl) (by rfl) ?_
          refine Ls.ev (some 2) (Ev.assign (show Oper.op _ = Op.assign (Operand.tmp 59) from rfl) (by rfl)) (by rfl) (by rfl) ?_
          refine Ls.nil ?_
          refine Ent.trunc 0 m (by rfl) (by omega) ?_
          refine Cd.ret ?_
          refine Ent.ret (()) (trivial) (Res.tmp (by rfl) (by rfl)) ?_ [0] (by rfl) ?_
          · rw [hm]
          · show [_] = [_]
            rw [hm, ← hq, ← i4]
            congr 2
            rw [Nat.mul_one, List.append_assoc, List.take_append_of_le_length (by rw [List.length_take, strs_length]; omega), List.take_take, Nat.min_self, strs_take]
      · skip
        have huv : u ≠ v := fun e => of_decide_eq_false h4 e.symm
        refine Cd.skip ?_
        refine Cd.region ?_
        refine Ls.ev (some 14) (Ev.move (show Oper.op _ = Op.move (Operand.tmp 3) from rfl) (by rfl)) (by rfl) (by rfl) ?_
        refine Ls.ev (some 15) (Ev.addN (b := 1) (show Oper.op _ = Op.binOp BinOp.add 3 (Operand.tmp 14) (Operand.const (Value.int IntKind.i64 1)) 3 from rfl) (by rfl) (by rfl) (by omega)) (by rfl) (by rfl) ?_
        refine Ls.ev (some 3) (Ev.assign (show Oper.op _ = Op.assign (Operand.tmp 15) from rfl) (by rfl)) (by rfl) (by rfl) ?_
        refine Ls.nil ?_
        refine Ent.inv (k + 1) ?_ ?_ ?_
        · (try dsimp only); exact ⟨⟨by omega, by rw [cmpK_ne hu hv huv, hc, List.take_add_one (l := ks) (i := k + 1), hv]; rfl⟩, by omega⟩
        · (repeat (first | exact trivial | refine ⟨by rfl, ?_⟩ | refine ⟨by simp only [List.length_append, List.length_cons, List.length_nil]; rfl, ?_⟩ | refine ⟨by push_cast; rfl, ?_⟩))
        · rfl
    · skip
      have hk2 : ks.length = k + 1 := by have := of_decide_eq_false h3; omega
      have he : cmpK ks ks.length = ks := by rw [hk2, hc, ← hk2, List.take_length]
      rw [he]
      refine Cd.exit ?_
      refine Cd.seq ?_
      refine Cd.region ?_
      refine Ls.ev (some 60) (Ev.move (show Oper.op _ = Op.move (Operand.tmp 0) from rfl) (by rfl)) (by rfl) (by rfl) ?_
      refine Ls.ev (some 2) (Ev.assign (show Oper.op _ = Op.assign (Operand.tmp 60) from rfl) (by rfl)) (by rfl) (by rfl) ?_
      refine Ls.nil ?_
      refine Cd.ret ?_
      refine Ent.ret (()) (trivial) (Res.tmp (by rfl) (by rfl)) ?_ [0] (by rfl) ?_
      · rfl
      · rfl
end Go.Proofs.Ytnhcfhamcakfkaa
/- sstable.Build over pieces -/
namespace Go.Proofs.Ytnhcfhamcakfkaa
open Go.RowKit
theorem elem_strs : Elem Try.prog 44 9 1 16 := elem_of (by kernel_rfl)
theorem flat_cut {α : Type} {enc : α → List Value} {sz : Nat} (he : ∀ a, (enc a).length = sz) (l : List α) (lo m : Nat) : ((l.flatMap enc).drop (lo * sz)).take (m * sz) = ((l.drop lo).take m).flatMap enc := by
  have e1 : ∀ (l : List α) (k : Nat), (l.flatMap enc).drop (k * sz) = (l.drop k).flatMap enc := by
    intro l
    induction l with
    | nil => intro k; simp
    | cons a l ih =>
      intro k
      cases k with
      | zero => simp
      | succ k =>
        rw [List.flatMap_cons, List.drop_append, List.drop_of_length_le (by rw [he, Nat.succ_mul]; omega), List.nil_append, he, Nat.succ_mul, Nat.add_sub_cancel, ih, List.drop_succ_cons]
  have e2 : ∀ (l : List α) (k : Nat), (l.flatMap enc).take (k * sz) = (l.take k).flatMap enc := by
    intro l
    induction l with
    | nil => intro k; simp
    | cons a l ih =>
      intro k
      cases k with
      | zero => simp
      | succ k =>
        rw [List.flatMap_cons, List.take_append, List.take_of_length_le (by rw [he, Nat.succ_mul]; omega), he, Nat.succ_mul, Nat.add_sub_cancel, ih, List.take_succ_cons, List.flatMap_cons]
  rw [e1, e2]
theorem blkE_len (l : List Ety) (k : Nat) : (blkE l k).length = blkN l.length k := by
  unfold blkE blkN
  rw [List.length_take, List.length_drop]
theorem chunk_sl (A : Option Addr) (n c : Nat) : Fn Try.prog 28 #[.slice A n c, .int .i64 3] [] (Nat × Nat) (fun p => .func (.func 55) #[] #[.pointer (some ⟨p.1, 0, none⟩), .pointer (some ⟨p.2, 0, none⟩)]) (fun p => [blk p.2 3 [.int .i64 3], blk p.1 22 [.slice A n c]]) (fun _ => True) := by
  refine Fn.enter Try.func28 rfl Try.ntmps28 (by rfl) ?_
  intro w0
  refine Cd.seq ?_
  refine Cd.region ?_
  refine Ls.does (some 2) (Does.box (show Oper.op _ = Op.box 22 (Operand.tmp 0) from rfl) (by rfl)) (by rfl) (by rfl) ?_
  intro g1 _
  refine Ls.does (some 3) (Does.box (show Oper.op _ = Op.box 3 (Operand.tmp 1) from rfl) (by rfl)) (by rfl) (by rfl) ?_
  intro g2 _
  refine Ls.ev (some 4) (Ev.assign (show Oper.op _ = Op.assign (Operand.const Value.nilFunc) from rfl) (by rfl)) (by rfl) (by rfl) ?_
  refine Ls.nil ?_
  refine Cd.seq ?_
  refine Cd.seq ?_
  refine Cd.region ?_
  refine Ls.ev (some 5) (Ev.load 0 (show Oper.op _ = Op.load 3 (Operand.tmp 3) from rfl) (by rfl) (by rfl) (by kernel_rfl) (by rfl)) (by rfl) (by rfl) ?_
  refine Ls.ev (some 6) (Ev.lss (show Oper.op _ = Op.binOp BinOp.lss 3 (Operand.tmp 5) (Operand.const (Value.int IntKind.i64 1)) 3 from rfl) (by rfl) (by rfl)) (by rfl) (by rfl) ?_
  refine Ls.nil ?_
  refine Cd.cond_false (by rfl) (rfl) ?_
  refine Cd.skip ?_
  refine Cd.seq ?_
  refine Cd.region ?_
  refine Ls.ev (some 8) (Ev.makeFunc2 (show Oper.op _ = Op.makeFunc (Fn.func 55) #[] #[Operand.tmp 2, Operand.tmp 3] from rfl) (by rfl) (by rfl)) (by rfl) (by rfl) ?_
  refine Ls.ev (some 4) (Ev.assign (show Oper.op _ = Op.assign (Operand.tmp 8) from rfl) (by rfl)) (by rfl) (by rfl) ?_
  refine Ls.nil ?_
  refine Cd.ret ?_
  refine Ent.ret ((g1, g2)) (trivial) (Res.tmp (by rfl) (by rfl)) ?_ [0, 1] (by rfl) ?_
  · rfl
  · rfl
theorem body_succ {b : List Ety} {j : Nat} {e : Ety} (h : b[j]? = some e) : bodyE (b.take (j + 1)) = bodyE (b.take j) ++ putL e := by
  unfold bodyE
  rw [List.take_add_one, h, List.flatMap_append]
  simp
def keyT (l : List Ety) (k : Nat) : List ByteArray := (keysE l).take k
theorem keyT_succ {l : List Ety} {k : Nat} {e : Ety} (h : l[k]? = some e) : keyT l (k + 1) = keyT l k ++ [e.key] := by
  unfold keyT keysE
  rw [List.take_add_one, List.getElem?_map, h]
  rfl
theorem blkE_get {l : List Ety} {k j : Nat} {e : Ety} (h : (blkE l k)[j]? = some e) : l[3 * k + j]? = some e ∧ j < 3 := by
  unfold blkE at h
  rw [List.getElem?_take] at h
  split at h
  · rw [List.getElem?_drop] at h
    exact ⟨h, by assumption⟩
  · cases h
/-- What a good list is. -/
structure Good (l : List Ety) : Prop where
  pos : 0 < l.length
  le : l.length ≤ 84
  ok : ∀ e ∈ l, errE e = 0
  srt : ∀ (i : Nat) (a b : Ety), l[i]? = some a → l[i + 1]? = some b → befE a b = true
theorem scanE_good : ∀ (l : List Ety) (p : Option Ety), scanE p l = 0 → (∀ e ∈ l, errE e = 0) ∧ (∀ (i : Nat) (a b : Ety), l[i]? = some a → l[i + 1]? = some b → befE a b = true) ∧ (∀ a b, p = some a → l[0]? = some b → befE a b = true)
  | [], p, _ => ⟨fun _ h => (by cases h), fun i a b h => (by simp at h), fun a b _ h => (by simp at h)⟩
  | e :: r, p, h => by
    rw [scanE] at h
    by_cases h1 : errE e ≠ 0
    · rw [if_pos h1] at h; exact absurd h h1
    · rw [if_neg h1] at h
      by_cases h2 : p.any (fun p => !befE p e) = true
      · rw [if_pos h2] at h; cases h
      · rw [if_neg h2] at h
        obtain ⟨k1, k2, k3⟩ := scanE_good r (some e) h
        refine ⟨fun x hx => ?_, fun i a b ha hb => ?_, fun a b ha hb => ?_⟩
        · rcases List.mem_cons.1 hx with rfl | hx
          · simpa using h1
          · exact k1 x hx
        · cases i with
          | zero =>
            simp only [List.getElem?_cons_zero, Option.some.injEq] at ha
            subst ha
            exact k3 _ _ rfl (by simpa using hb)
          | succ i => exact k2 i a b (by simpa using ha) (by simpa using hb)
        · simp only [List.getElem?_cons_zero, Option.some.injEq] at hb
          subst hb ha
          simpa using h2
theorem good_of {l : List Ety} (h : errL l = 0) : Good l := by
  unfold errL at h
  split at h
  · cases h
  · split at h
    · cases h
    · obtain ⟨k1, k2, _⟩ := scanE_good l none h
      exact ⟨by omega, by omega, k1, k2⟩
theorem sealL_len {b : List UInt8} (h : b.length < 16384) : (sealL b).length ≤ b.length + 6 := by
  rw [sealL_length]
  have := uintL_len2 h
  omega
theorem bodyE_len {l : List Ety} (h : ∀ e ∈ l, errE e = 0) : (bodyE l).length ≤ 1101 * l.length := by
  induction l with
  | nil => simp [bodyE]
  | cons e l ih =>
    have h1 := putL_len (h e List.mem_cons_self)
    have h2 := ih (fun x hx => h x (List.mem_cons_of_mem _ hx))
    unfold bodyE at h2 ⊢
    rw [List.flatMap_cons, List.length_append, List.length_cons]
    omega
theorem buildL_len {ks : List (List UInt8)} (h : ks.length ≤ 84) : (buildL ks 10).length ≤ 106 ∧ 9 ≤ (buildL ks 10).length := by
  have hp : perN 10 = 10 := by decide
  have ht : ks.take 65536 = ks := List.take_of_length_le (by omega)
  unfold buildL
  rw [List.length_set, bitsL_length, List.length_replicate, hp, ht]
  unfold sizeN
  omega
section
variable {l : List Ety} (h : Good l)
include h
theorem Good.blk_ok (k : Nat) : ∀ e ∈ blkE l k, errE e = 0 := fun e he => h.ok e (List.mem_of_mem_drop (List.mem_of_mem_take he))
omit h in
theorem blkE_le (k : Nat) : (blkE l k).length ≤ 3 := by unfold blkE; rw [List.length_take]; omega
theorem Good.body_le (k : Nat) : (bodyE (blkE l k)).length ≤ 3303 := by
  have h1 := bodyE_len (h.blk_ok k)
  have h2 := blkE_le (l := l) k
  omega
theorem Good.seal_le (k : Nat) : (sealL (bodyE (blkE l k))).length ≤ 3309 := by
  have h1 := h.body_le k
  have h2 := sealL_len (b := bodyE (blkE l k)) (by omega)
  omega
theorem Good.out_le : ∀ k, (outK l k).length ≤ 3309 * k
  | 0 => by simp [outK]
  | k + 1 => by
    rw [outK, List.length_append]
    have h1 := h.seal_le k
    have h2 := Good.out_le k
    omega
theorem Good.nb_le : nbE l ≤ 28 ∧ 1 ≤ nbE l := by
  have h1 := h.le
  have h2 := h.pos
  unfold nbE
  omega
theorem Good.key_le {e : Ety} (he : e ∈ l) : e.key.size ≤ 64 := by
  have := h.ok e he
  unfold errE at this
  split at this
  · cases this
  · omega
omit h in
theorem cmpK_mem {ks : List ByteArray} {s : ByteArray} : ∀ k, s ∈ cmpK ks k → s ∈ ks
  | 0, h => by simp [cmpK] at h
  | k + 1, h => by
    rw [cmpK, List.mem_append] at h
    rcases h with h | h
    · exact cmpK_mem k h
    · split at h
      · cases hk : ks[k]? with
        | none => rw [hk] at h; simp at h
        | some x =>
          rw [hk] at h
          obtain rfl : s = x := by simpa using h
          exact List.mem_of_getElem? hk
      · simp at h
theorem Good.cmp_le {s : ByteArray} {k : Nat} (hs : s ∈ cmpK (keysE l) k) : s.size ≤ maxLen := by
  have := cmpK_mem k hs
  unfold keysE at this
  obtain ⟨e, he, rfl⟩ := List.mem_map.1 this
  have := h.key_le he
  unfold maxLen
  omega
theorem Good.fst_le (k : Nat) : (fstK (blkE l k)).size ≤ 64 := by
  unfold fstK
  cases hb : (blkE l k)[0]? with
  | none => exact (by decide : (0 : Nat) ≤ 64)
  | some e => exact h.key_le (List.mem_of_mem_drop (List.mem_of_mem_take (List.mem_of_getElem? hb)))
theorem Good.lst_le (k : Nat) : (lstK (blkE l k)).size ≤ 64 := by
  unfold lstK
  cases hb : (blkE l k)[(blkE l k).length - 1]? with
  | none => exact (by decide : (0 : Nat) ≤ 64)
  | some e => exact h.key_le (List.mem_of_mem_drop (List.mem_of_mem_take (List.mem_of_getElem? hb)))
theorem Good.idx1_le {k : Nat} (hk : k ≤ 28) : (idxE l k).length ≤ 135 := by
  unfold idxE
  simp only [List.length_append, textL_length]
  have h1 := h.fst_le k
  have h2 := h.lst_le k
  have h3 := uintL_len1 (n := (fstK (blkE l k)).size) (by omega)
  have h4 := uintL_len1 (n := (lstK (blkE l k)).size) (by omega)
  have h5 := h.out_le k
  have h6 : (uintL (outK l k).length).length ≤ 3 := uintL_len 2 _ (by omega)
  have h7 := h.seal_le k
  have h8 := uintL_len2 (n := (sealL (bodyE (blkE l k))).length) (by omega)
  omega
theorem Good.idx_le : ∀ k, k ≤ 28 → (idxK l k).length ≤ 135 * k
  | 0, _ => by simp [idxK]
  | k + 1, hk => by
    rw [idxK, List.length_append]
    have h1 := h.idx1_le (k := k) (by omega)
    have h2 := Good.idx_le k (by omega)
    omega
end
end Go.Proofs.Ytnhcfhamcakfkaa
/- tables, plain: what is read -/
namespace Go.Proofs.Ytnhcfhamcakfkaa
open Go.RowKit
/-- A number at the front: it, how much it took, was there none. -/
def numC (l : List UInt8) : Nat × Nat × Bool := if (takeU l).2 = 0 ∨ 4611686018427387904 < (takeU l).1 then (0, 0, true) else ((takeU l).1, (takeU l).2, false)
def txtC (l : List UInt8) : ByteArray × Nat × Bool := if (takeT l).2 = 0 then (⟨#[]⟩, 0, true) else (txt (takeT l).1, (takeT l).2, false)
theorem takeT_le (l : List UInt8) : (takeT l).2 ≤ l.length ∧ (takeT l).1.length ≤ l.length := by
  have := takeU_le l
  unfold takeT
  split
  · simp
  · rename_i h
    simp only [List.length_take, List.length_drop]
    omega
theorem numC_le (l : List UInt8) : (numC l).2.1 ≤ l.length ∧ (numC l).1 ≤ 4611686018427387904 ∧ ((numC l).2.2 = false → 1 ≤ (numC l).2.1) := by
  have := takeU_le l
  unfold numC
  split
  · simp
  · dsimp only; omega
theorem txtC_le (l : List UInt8) : (txtC l).2.1 ≤ l.length ∧ (txtC l).1.size ≤ l.length ∧ ((txtC l).2.2 = false → 1 ≤ (txtC l).2.1) := by
  have h := takeT_le l
  unfold txtC
  split
  · exact ⟨Nat.zero_le _, Nat.zero_le _, fun h => by cases h⟩
  · refine ⟨h.1, ?_, fun _ => by dsimp only; omega⟩
    show (takeT l).1.toArray.size ≤ _
    simpa using h.2
/-- An entry at the front. -/
def entC (l : List UInt8) : Ety × Nat × Bool :=
  let t := txtC l
  let n := numC (l.drop t.2.1)
  match l.drop (t.2.1 + n.2.1) with
  | [] => (⟨t.1, n.1, false, ⟨#[]⟩⟩, t.2.1 + n.2.1, true)
  | d :: r => (⟨t.1, n.1, d == 1, (txtC r).1⟩, t.2.1 + n.2.1 + 1 + (txtC r).2.1, t.2.2 || n.2.2 || (txtC r).2.2)
theorem entC_le (l : List UInt8) : (entC l).2.1 ≤ l.length ∧ ((entC l).2.2 = false → 4 ≤ (entC l).2.1) := by
  have h1 := txtC_le l
  have h2 := numC_le (l.drop (txtC l).2.1)
  rw [List.length_drop] at h2
  unfold entC
  dsimp only
  split
  · rename_i hd
    refine ⟨by dsimp only; omega, fun h => by cases h⟩
  · rename_i d r hd
    have hl := congrArg List.length hd
    rw [List.length_drop, List.length_cons] at hl
    have h3 := txtC_le r
    refine ⟨by dsimp only; omega, fun h => ?_⟩
    simp only [Bool.or_eq_false_iff] at h
    have := h1.2.2 h.1.1
    have := h2.2.2 h.1.2
    have := h3.2.2 h.2
    dsimp only
    omega
/-- The entries that bytes are, if they are whole entries. -/
def entsN : Nat → List UInt8 → Option (List Ety)
  | _, [] => some []
  | 0, _ :: _ => none
  | n + 1, b :: l => bif (entC (b :: l)).2.2 then none else (entsN n ((b :: l).drop (entC (b :: l)).2.1)).map ((entC (b :: l)).1 :: ·)
def entsF (l : List UInt8) : Option (List Ety) := entsN l.length l
theorem entC_drop {b : UInt8} {l : List UInt8} (hb : (entC (b :: l)).2.2 = false) : ((b :: l).drop (entC (b :: l)).2.1).length ≤ l.length := by
  have h := (entC_le (b :: l)).2 hb
  revert h
  generalize (entC (b :: l)).2.1 = k
  intro h
  rw [List.length_drop, List.length_cons]
  omega
theorem entsN_more : ∀ (n m : Nat) (l : List UInt8), l.length ≤ n → l.length ≤ m → entsN n l = entsN m l
  | n, m, [], _, _ => by cases n <;> cases m <;> rfl
  | 0, m, b :: l, h, _ => by simp at h
  | n + 1, 0, b :: l, _, h => by simp at h
  | n + 1, m + 1, b :: l, h, h' => by
    rw [entsN, entsN]
    rcases Bool.eq_false_or_eq_true (entC (b :: l)).2.2 with hb | hb
    · rw [hb, cond_true]
      first | done | rw [cond_true]
    · rw [hb, cond_false]
      try rw [cond_false]
      have hd := entC_drop hb
      have e : entsN n ((b :: l).drop (entC (b :: l)).2.1) = entsN m ((b :: l).drop (entC (b :: l)).2.1) := entsN_more n m _ (Nat.le_trans hd (Nat.le_of_succ_le_succ h)) (Nat.le_trans hd (Nat.le_of_succ_le_succ h'))
      rw [e]
theorem entsF_step {l : List UInt8} (h : l ≠ []) : entsF l = bif (entC l).2.2 then none else (entsF (l.drop (entC l).2.1)).map ((entC l).1 :: ·) := by
  cases l with
  | nil => exact absurd rfl h
  | cons b l =>
    unfold entsF
    rw [List.length_cons, entsN]
    rcases Bool.eq_false_or_eq_true (entC (b :: l)).2.2 with hb | hb
    · rw [hb, cond_true]
      first | done | rw [cond_true]
    · rw [hb, cond_false]
      try rw [cond_false]
      have e : entsN l.length ((b :: l).drop (entC (b :: l)).2.1) = entsN ((b :: l).drop (entC (b :: l)).2.1).length ((b :: l).drop (entC (b :: l)).2.1) := entsN_more _ _ _ (entC_drop hb) (Nat.le_refl _)
      rw [e]
theorem entsF_nil : entsF [] = some [] := rfl
/-- What a block's frame seems to hold. -/
def blkR (b : List UInt8) : List Ety := match takeF b with
  | none => []
  | some x => (entsF x.1).getD []
/-- A block in the index. -/
structure Bk where
  first : ByteArray
  last : ByteArray
  at_ : Nat
  size : Nat
  deriving Inhabited
def Bk.enc (x : Bk) : List Value := [.string x.first, .string x.last, .int .i64 x.at_, .int .i64 x.size]
/-- What the index says of the next block: it, how much it took, was it wrong. -/
def bkC (l : List UInt8) : Bk × Nat × Bool :=
  let a := txtC l
  let b := txtC (l.drop a.2.1)
  let c := numC (l.drop (a.2.1 + b.2.1))
  let d := numC (l.drop (a.2.1 + b.2.1 + c.2.1))
  (⟨a.1, b.1, c.1, d.1⟩, a.2.1 + b.2.1 + c.2.1 + d.2.1, a.2.2 || b.2.2 || c.2.2 || d.2.2)
def bksC (en : Nat) : Nat → List UInt8 → Option (List Bk)
  | 0, _ => some []
  | n + 1, l => if en < (bkC l).1.at_ ∨ en - (bkC l).1.at_ < (bkC l).1.size then none else bif (bkC l).2.2 then none else (bksC en n (l.drop (bkC l).2.1)).map ((bkC l).1 :: ·)
theorem bkC_le (l : List UInt8) : (bkC l).2.1 ≤ l.length ∧ (bkC l).1.at_ ≤ 4611686018427387904 ∧ (bkC l).1.size ≤ 4611686018427387904 ∧ ((bkC l).2.2 = false → 4 ≤ (bkC l).2.1) := by
  unfold bkC
  dsimp only
  have h1 := txtC_le l
  revert h1
  generalize txtC l = t
  obtain ⟨t1, t2, t3⟩ := t
  intro h1
  dsimp only at h1 ⊢
  have h2 := txtC_le (l.drop t2)
  revert h2
  generalize txtC (l.drop t2) = u
  obtain ⟨u1, u2, u3⟩ := u
  intro h2
  dsimp only at h2 ⊢
  have h3 := numC_le (l.drop (t2 + u2))
  revert h3
  generalize numC (l.drop (t2 + u2)) = v
  obtain ⟨v1, v2, v3⟩ := v
  intro h3
  dsimp only at h3 ⊢
  have h4 := numC_le (l.drop (t2 + u2 + v2))
  revert h4
  generalize numC (l.drop (t2 + u2 + v2)) = y
  obtain ⟨y1, y2, y3⟩ := y
  intro h4
  dsimp only at h4 ⊢
  simp only [List.length_drop] at h2 h3 h4
  refine ⟨by omega, h3.2.1, h4.2.1, fun h => ?_⟩
  simp only [Bool.or_eq_false_iff] at h
  have := h1.2.2 h.1.1.1
  have := h2.2.2 h.1.1.2
  have := h3.2.2 h.1.2
  have := h4.2.2 h.2
  omega
def le4 (l : List UInt8) : Nat := (l.getD 0 0).toNat + (l.getD 1 0).toNat * 256 + (l.getD 2 0).toNat * 65536 + (l.getD 3 0).toNat * 16777216
def bksR (en : Nat) (q : List UInt8) : Option (List Bk) := bif (numC q).2.2 then none else bksC en (numC q).1 (q.drop (numC q).2.1)
/-- What stands where the index (at_) and the filter (fr) are said to be. -/
def readU (b : List UInt8) (en fr at_ : Nat) : Option (List Bk × List UInt8) := match takeF ((b.drop at_).take (en - at_)), takeF ((b.drop fr).take (en - fr)) with
  | some x, some f => (bksR en x.1).map (·, f.1)
  | _, _ => none
theorem readU_none {b : List UInt8} {en fr at_ : Nat} (h : takeF ((b.drop at_).take (en - at_)) = none ∨ takeF ((b.drop fr).take (en - fr)) = none) : readU b en fr at_ = none := by
  unfold readU
  rcases h with h | h
  · rw [h]
  · rw [h]
    cases takeF ((b.drop at_).take (en - at_)) with
    | none => simp only
    | some x => simp only
theorem readU_some {b : List UInt8} {en fr at_ : Nat} {x f : List UInt8 × Nat} (h1 : takeF ((b.drop at_).take (en - at_)) = some x) (h2 : takeF ((b.drop fr).take (en - fr)) = some f) : readU b en fr at_ = (bksR en x.1).map (·, f.1) := by
  unfold readU
  rw [h1, h2]
/-- What a table's bytes seem to say: the blocks and the filter. -/
def readT (b : List UInt8) : Option (List Bk × List UInt8) :=
  if b.length < 12 then none else
  if b.length - 12 < le4 (b.drop (b.length - 12)) ∨ b.length - 12 < le4 ((b.drop (b.length - 12)).drop 4) then none else
  readU b (b.length - 12) (le4 (b.drop (b.length - 12))) (le4 ((b.drop (b.length - 12)).drop 4))
def allR (b : List UInt8) (bs : List Bk) : List Ety := bs.flatMap fun x => blkR ((b.drop x.at_).take x.size)
/-- The entries of the table whose bytes these are. -/
def parseT (b : List UInt8) : Option (List Ety) := match readT b with
  | none => none
  | some x => if errL (allR b x.1) = 0 ∧ tabL (allR b x.1) = b then some (allR b x.1) else none
attribute [irreducible] numC txtC entC le4 entsF blkR readU bksR
end Go.Proofs.Ytnhcfhamcakfkaa
/- sstable's cutter over pieces -/
namespace Go.Proofs.Ytnhcfhamcakfkaa
open Go.RowKit
section
variable {Γ : Ctx} {N : Frm} {P : Program} {E : Env} {H : List Chunk} {o : Oper} {x y z : Operand}
theorem Ent.cutB {A : Option Addr} {l : List UInt8} {B : Asrt} (i lo hi m : Nat) (hi' : H[i]? = some (rdB A l)) (hlo : lo ≤ hi ∧ hi ≤ l.length ∧ hi ≤ m) (h : Ent Γ N E (rdB (cutA A m lo 1) ((l.drop lo).take (hi - lo)) :: H) B) : Ent Γ N E H B := by
  refine Ent.cut i lo hi m hi' hlo ?_
  have e : ((u8s l).drop (lo * 1)).take ((hi - lo) * 1) = u8s ((l.drop lo).take (hi - lo)) := by
    rw [Nat.mul_one, Nat.mul_one, u8s_drop]
    simp [u8s, List.map_take]
  have e2 : ((l.drop lo).take (hi - lo)).length = hi - lo := by rw [List.length_take, List.length_drop]; omega
  rw [e]
  unfold rdB at h
  rw [e2] at h
  exact h
theorem Ent.dropB {A : Option Addr} {l : List UInt8} {B : Asrt} (i lo m : Nat) (hi' : H[i]? = some (rdB A l)) (hlo : lo ≤ l.length ∧ l.length ≤ m) (h : Ent Γ N E (rdB (cutA A m lo 1) (l.drop lo) :: H) B) : Ent Γ N E H B := by
  refine Ent.cutB i lo l.length m hi' ⟨hlo.1, Nat.le_refl _, hlo.2⟩ ?_
  rw [List.take_of_length_le (by rw [List.length_drop]; exact Nat.le_refl _)]
  exact h
theorem Ev.dropB {t e c lo : Nat} {A : Option Addr} {k : IntKind} {l : List UInt8} (ho : o.op = .slice t x (some y) none none) (hx : E.ev x = some (.slice A l.length c)) (hy : E.ev y = some (.int k lo)) (ht : P.underlying t = some (.slice e)) (he : (P.info? e).map (·.size) = some 1) (hl : lo ≤ l.length) :
    Ev Γ N P E H o (.slice (cutA A c lo 1) (l.drop lo).length (c - lo)) := by
  rw [List.length_drop]
  exact Ev.sliceLn ho hx hy ht he hl
theorem Ev.cutB {t e c lo hi : Nat} {A : Option Addr} {k k' : IntKind} {l : List UInt8} (ho : o.op = .slice t x (some y) (some z) none) (hx : E.ev x = some (.slice A l.length c)) (hy : E.ev y = some (.int k lo)) (hz : E.ev z = some (.int k' hi)) (ht : P.underlying t = some (.slice e)) (he : (P.info? e).map (·.size) = some 1) (hl : lo ≤ hi ∧ hi ≤ l.length ∧ l.length ≤ c) :
    Ev Γ N P E H o (.slice (cutA A c lo 1) ((l.drop lo).take (hi - lo)).length (c - lo)) := by
  rw [List.length_take, List.length_drop, Nat.min_eq_left (by omega)]
  exact Ev.sliceLHn ho hx hy hz ht he (by omega)
end
/-- The cutter's pieces. -/
def cutP (g : Nat) (l : List UInt8) (bad : Bool) (p : Option Addr × Nat) : List Chunk := [blk g 97 [.slice p.1 l.length p.2, .bool bad], rdB p.1 l]
theorem number_sl (g : Nat) (A : Option Addr) (c : Nat) (l : List UInt8) (bad : Bool) (hc : l.length ≤ c) (hm : l.length ≤ maxLen) :
    Fn Try.prog 61 #[.pointer (some ⟨g, 0, none⟩)] (cutP g l bad (A, c)) (Option Addr × Nat) (fun _ => .int .i64 (numC l).1) (fun p => cutP g (l.drop (numC l).2.1) (bad || (numC l).2.2) p) (fun p => (l.drop (numC l).2.1).length ≤ p.2) := by
  have hle := takeU_le l
  refine Fn.enter Try.func61 rfl Try.ntmps61 (by rfl) ?_
  intro w0
  refine Cd.seq ?_
  refine Cd.region ?_
  refine Ls.ev (some 2) (Ev.assign (show Oper.op _ = Op.assign (Operand.const (Value.int IntKind.i64 0)) from rfl) (by rfl)) (by rfl) (by rfl) ?_
  refine Ls.nil ?_
  refine Cd.seq ?_
  refine Cd.region ?_
  refine Ls.ev (some 6) (Ev.move (show Oper.op _ = Op.move (Operand.tmp 0) from rfl) (by rfl)) (by rfl) (by rfl) ?_
  refine Ls.ev (some 7) (Ev.nilCheck (show Oper.op _ = Op.nilCheck (Operand.tmp 6) from rfl) (by rfl)) (by rfl) (by rfl) ?_
  refine Ls.ev (some 8) (Ev.fieldAddr (k := 0) (show Oper.op _ = Op.fieldAddr 97 (Operand.tmp 7) 0 from rfl) (by rfl) (by kernel_rfl) (by rfl)) (by rfl) (by rfl) ?_
  refine Ls.ev (some 9) (Ev.load 0 (show Oper.op _ = Op.load 25 (Operand.tmp 8) from rfl) (by rfl) (by rfl) (by kernel_rfl) (by rfl)) (by rfl) (by rfl) ?_
  refine Ls.does (some 10) (Does.read (show Oper.op _ = Op.call { callee := Callee.value (Operand.func 72), args := #[Operand.tmp 9], argTypes := #[25] } from rfl) Try.func72 (by kernel_rfl) (by kernel_rfl) (takeUint_sl A c l hm) (by rfl) (by rfl) ⟨ReadsIn.rd 1 (by rfl), trivial⟩) (by rfl) (by rfl) ?_
  rintro _ -
  refine Ls.ev (some 5) (Ev.move (show Oper.op _ = Op.move (Operand.tmp 10) from rfl) (by rfl)) (by rfl) (by rfl) ?_
  refine Ls.ev (some 11) (Ev.extract (show Oper.op _ = Op.extract (Operand.tmp 5) 0 from rfl) (by rfl) (by rfl)) (by rfl) (by rfl) ?_
  refine Ls.ev (some 12) (Ev.extract (show Oper.op _ = Op.extract (Operand.tmp 5) 1 from rfl) (by rfl) (by rfl)) (by rfl) (by rfl) ?_
  refine Ls.ev (some 3) (Ev.assign (show Oper.op _ = Op.assign (Operand.tmp 11) from rfl) (by rfl)) (by rfl) (by rfl) ?_
  refine Ls.ev (some 4) (Ev.assign (show Oper.op _ = Op.assign (Operand.tmp 12) from rfl) (by rfl)) (by rfl) (by rfl) ?_
  refine Ls.nil ?_
  refine Cd.seq ?_
  refine Cd.seq ?_
  refine Cd.cut (ι := Unit) (fun _ => [(0, .pointer (some ⟨g, 0, none⟩)), (3, .int .u64 (takeU l).1), (4, .int .i64 (takeU l).2), (18, .bool (decide ((takeU l).2 = 0 ∨ 4611686018427387904 < (takeU l).1)))]) (fun _ => cutP g l bad (A, c)) (fun _ => True) ?_ ?_
  · skip
    refine Cd.region ?_
    refine Ls.ev (some 13) (Ev.move (show Oper.op _ = Op.move (Operand.tmp 4) from rfl) (by rfl)) (by rfl) (by rfl) ?_
    refine Ls.ev (some 14) (Ev.eql (show Oper.op _ = Op.binOp BinOp.eql 3 (Operand.tmp 13) (Operand.const (Value.int IntKind.i64 0)) 3 from rfl) (by rfl) (by rfl)) (by rfl) (by rfl) ?_
    refine Ls.ev (some 15) (Ev.move (show Oper.op _ = Op.move (Operand.tmp 14) from rfl) (by rfl)) (by rfl) (by rfl) ?_
    refine Ent.split 15 (by rfl) (fun h => ?_) (fun h => ?_)
    · skip
      have h1 : (takeU l).2 ≠ 0 := by have := of_decide_eq_false h; omega
      refine Ls.ev (some 16) (Ev.move (show Oper.op _ = Op.move (Operand.tmp 3) from rfl) (by rfl)) (by rfl) (by rfl) ?_
      refine Ls.ev (some 17) (Ev.gtr (show Oper.op _ = Op.binOp BinOp.gtr 64 (Operand.tmp 16) (Operand.const (Value.int IntKind.u64 4611686018427387904)) 64 from rfl) (by rfl) (by rfl)) (by rfl) (by rfl) ?_
      refine Ls.ev (some 18) (Ev.pickF (show Oper.op _ = Op.pick (Operand.tmp 15) (Operand.const (Value.bool true)) (Operand.tmp 17) from rfl) (by rfl) (by rfl)) (by rfl) (by rfl) ?_
      refine Ls.nil ?_
      refine Ent.inv (()) ?_ ?_ ?_
      · (try dsimp only); skip
      · (repeat (first | exact trivial | refine ⟨by rfl, ?_⟩ | refine ⟨by simp only [List.length_append, List.length_cons, List.length_nil]; rfl, ?_⟩ | refine ⟨by push_cast; rfl, ?_⟩ | refine ⟨by (show some (Value.bool _) = some (Value.bool _); congr 2; rw [decide_eq_decide]; omega), ?_⟩))
      · rfl
    · skip
      have h1 : (takeU l).2 = 0 := by have := of_decide_eq_true h; omega
      refine Ls.pass (some 16) (by rfl) (by rfl) ?_
      refine Ls.pass (some 17) (by rfl) (by rfl) ?_
      refine Ls.ev (some 18) (Ev.pickT (show Oper.op _ = Op.pick (Operand.tmp 15) (Operand.const (Value.bool true)) (Operand.tmp 17) from rfl) (by rfl) (by rfl)) (by rfl) (by rfl) ?_
      refine Ls.nil ?_
      refine Ent.inv (()) ?_ ?_ ?_
      · (try dsimp only); skip
      · (repeat (first | exact trivial | refine ⟨by rfl, ?_⟩ | refine ⟨by simp only [List.length_append, List.length_cons, List.length_nil]; rfl, ?_⟩ | refine ⟨by push_cast; rfl, ?_⟩ | refine ⟨by (show some (Value.bool _) = some (Value.bool _); congr 2; exact (decide_eq_true (.inl h1)).symm), ?_⟩))
      · rfl
  skip
  rintro _ -
  refine Cd.cond _ (by rfl) (fun h => ?_) (fun h => ?_)
  · skip
    have hn : numC l = (0, 0, true) := by unfold numC; rw [if_pos (of_decide_eq_true h)]
    rw [hn]
    refine Cd.seq ?_
    refine Cd.region ?_
    refine Ls.ev (some 19) (Ev.move (show Oper.op _ = Op.move (Operand.tmp 0) from rfl) (by rfl)) (by rfl) (by rfl) ?_
    refine Ls.ev (some 20) (Ev.nilCheck (show Oper.op _ = Op.nilCheck (Operand.tmp 19) from rfl) (by rfl)) (by rfl) (by rfl) ?_
    refine Ls.ev (some 21) (Ev.fieldAddr (k := 1) (show Oper.op _ = Op.fieldAddr 97 (Operand.tmp 20) 1 from rfl) (by rfl) (by kernel_rfl) (by rfl)) (by rfl) (by rfl) ?_
    refine Ls.does none (Does.store 0 (show Oper.op _ = Op.store 4 (Operand.tmp 21) (Operand.const (Value.bool true)) from rfl) (by rfl) (by rfl) (by rfl) (by kernel_rfl) (by rfl) (by kernel_rfl) (by rfl)) (by rfl) (by rfl) ?_
    intro _ _
    refine Ls.nil ?_
    refine Cd.seq ?_
    refine Cd.region ?_
    refine Ls.ev (some 2) (Ev.assign (show Oper.op _ = Op.assign (Operand.const (Value.int IntKind.i64 0)) from rfl) (by rfl)) (by rfl) (by rfl) ?_
    refine Ls.nil ?_
    refine Cd.ret ?_
    refine Ent.ret ((A, c)) (hc) (Res.tmp (by rfl) (by rfl)) ?_ [0, 1] (by rfl) ?_
    · rfl
    · rw [Bool.or_true]; rfl
  · skip
    have hn : numC l = ((takeU l).1, (takeU l).2, false) := by unfold numC; rw [if_neg (of_decide_eq_false h)]
    have hbig := of_decide_eq_false h
    rw [hn]
    refine Cd.skip ?_
    refine Cd.seq ?_
    refine Cd.region ?_
    refine Ls.ev (some 22) (Ev.move (show Oper.op _ = Op.move (Operand.tmp 0) from rfl) (by rfl)) (by rfl) (by rfl) ?_
    refine Ls.ev (some 23) (Ev.move (show Oper.op _ = Op.move (Operand.tmp 0) from rfl) (by rfl)) (by rfl) (by rfl) ?_
    refine Ls.ev (some 24) (Ev.nilCheck (show Oper.op _ = Op.nilCheck (Operand.tmp 23) from rfl) (by rfl)) (by rfl) (by rfl) ?_
    refine Ls.ev (some 25) (Ev.fieldAddr (k := 0) (show Oper.op _ = Op.fieldAddr 97 (Operand.tmp 24) 0 from rfl) (by rfl) (by kernel_rfl) (by rfl)) (by rfl) (by rfl) ?_
    refine Ls.ev (some 26) (Ev.load 0 (show Oper.op _ = Op.load 25 (Operand.tmp 25) from rfl) (by rfl) (by rfl) (by kernel_rfl) (by rfl)) (by rfl) (by rfl) ?_
    refine Ls.ev (some 27) (Ev.move (show Oper.op _ = Op.move (Operand.tmp 4) from rfl) (by rfl)) (by rfl) (by rfl) ?_
    refine Ls.ev (some 28) (Ev.dropB (show Oper.op _ = Op.slice 25 (Operand.tmp 26) (some (Operand.tmp 27)) none none from rfl) (by rfl) (by rfl) Try.underlying25 (by kernel_rfl) hle.1) (by rfl) (by rfl) ?_
    refine Ent.dropB 1 (takeU l).2 c (by rfl) ⟨hle.1, hc⟩ ?_
    refine Ls.ev (some 29) (Ev.nilCheck (show Oper.op _ = Op.nilCheck (Operand.tmp 22) from rfl) (by rfl)) (by rfl) (by rfl) ?_
    refine Ls.ev (some 30) (Ev.fieldAddr (k := 0) (show Oper.op _ = Op.fieldAddr 97 (Operand.tmp 29) 0 from rfl) (by rfl) (by kernel_rfl) (by rfl)) (by rfl) (by rfl) ?_
    refine Ls.does none (Does.store 1 (show Oper.op _ = Op.store 25 (Operand.tmp 30) (Operand.tmp 28) from rfl) (by rfl) (by rfl) (by rfl) (by kernel_rfl) (by rfl) (by kernel_rfl) (by rfl)) (by rfl) (by rfl) ?_
    intro _ _
    refine Ls.nil ?_
    refine Cd.seq ?_
    refine Cd.region ?_
    refine Ls.ev (some 31) (Ev.move (show Oper.op _ = Op.move (Operand.tmp 3) from rfl) (by rfl)) (by rfl) (by rfl) ?_
    refine Ls.ev (some 32) (Ev.convI (show Oper.op _ = Op.convert 64 3 (Operand.tmp 31) from rfl) (by rfl) (by kernel_rfl) Try.underlying3 (by omega)) (by rfl) (by rfl) ?_
    refine Ls.ev (some 2) (Ev.assign (show Oper.op _ = Op.assign (Operand.tmp 32) from rfl) (by rfl)) (by rfl) (by rfl) ?_
    refine Ls.nil ?_
    refine Cd.ret ?_
    refine Ent.ret ((cutA A c (takeU l).2 1, c - (takeU l).2)) ((by dsimp only; rw [List.length_drop]; omega)) (Res.tmp (by rfl) (by rfl)) ?_ [1, 0] (by rfl) ?_
    · rfl
    · rw [Bool.or_false]; rfl
theorem text_slC (g : Nat) (A : Option Addr) (c : Nat) (l : List UInt8) (bad : Bool) (hc : l.length ≤ c) (hm : l.length ≤ maxLen) :
    Fn Try.prog 62 #[.pointer (some ⟨g, 0, none⟩)] (cutP g l bad (A, c)) (Option Addr × Nat) (fun _ => .string (txtC l).1) (fun p => cutP g (l.drop (txtC l).2.1) (bad || (txtC l).2.2) p) (fun p => (l.drop (txtC l).2.1).length ≤ p.2) := by
  have hle := takeT_le l
  refine Fn.enter Try.func62 rfl Try.ntmps62 (by rfl) ?_
  intro w0
  refine Cd.seq ?_
  refine Cd.region ?_
  refine Ls.ev (some 2) (Ev.assign (show Oper.op _ = Op.assign (Operand.const (Value.string { data := #[] })) from rfl) (by rfl)) (by rfl) (by rfl) ?_
  refine Ls.nil ?_
  refine Cd.seq ?_
  refine Cd.region ?_
  refine Ls.ev (some 6) (Ev.move (show Oper.op _ = Op.move (Operand.tmp 0) from rfl) (by rfl)) (by rfl) (by rfl) ?_
  refine Ls.ev (some 7) (Ev.nilCheck (show Oper.op _ = Op.nilCheck (Operand.tmp 6) from rfl) (by rfl)) (by rfl) (by rfl) ?_
  refine Ls.ev (some 8) (Ev.fieldAddr (k := 0) (show Oper.op _ = Op.fieldAddr 97 (Operand.tmp 7) 0 from rfl) (by rfl) (by kernel_rfl) (by rfl)) (by rfl) (by rfl) ?_
  refine Ls.ev (some 9) (Ev.load 0 (show Oper.op _ = Op.load 25 (Operand.tmp 8) from rfl) (by rfl) (by rfl) (by kernel_rfl) (by rfl)) (by rfl) (by rfl) ?_
  refine Ls.does (some 10) (Does.read (show Oper.op _ = Op.call { callee := Callee.value (Operand.func 73), args := #[Operand.tmp 9], argTypes := #[25] } from rfl) Try.func73 (by kernel_rfl) (by kernel_rfl) (takeText_sl A c l hc hm) (by rfl) (by rfl) ⟨ReadsIn.rd 1 (by rfl), trivial⟩) (by rfl) (by rfl) ?_
  rintro _ -
  refine Ls.ev (some 5) (Ev.move (show Oper.op _ = Op.move (Operand.tmp 10) from rfl) (by rfl)) (by rfl) (by rfl) ?_
  refine Ls.ev (some 11) (Ev.extract (show Oper.op _ = Op.extract (Operand.tmp 5) 0 from rfl) (by rfl) (by rfl)) (by rfl) (by rfl) ?_
  refine Ls.ev (some 12) (Ev.extract (show Oper.op _ = Op.extract (Operand.tmp 5) 1 from rfl) (by rfl) (by rfl)) (by rfl) (by rfl) ?_
  refine Ls.ev (some 3) (Ev.assign (show Oper.op _ = Op.assign (Operand.tmp 11) from rfl) (by rfl)) (by rfl) (by rfl) ?_
  refine Ls.ev (some 4) (Ev.assign (show Oper.op _ = Op.assign (Operand.tmp 12) from rfl) (by rfl)) (by rfl) (by rfl) ?_
  refine Ls.nil ?_
  refine Cd.seq ?_
  refine Cd.seq ?_
  refine Cd.region ?_
  refine Ls.ev (some 13) (Ev.move (show Oper.op _ = Op.move (Operand.tmp 4) from rfl) (by rfl)) (by rfl) (by rfl) ?_
  refine Ls.ev (some 14) (Ev.eql (show Oper.op _ = Op.binOp BinOp.eql 3 (Operand.tmp 13) (Operand.const (Value.int IntKind.i64 0)) 3 from rfl) (by rfl) (by rfl)) (by rfl) (by rfl) ?_
  refine Ls.nil ?_
  refine Cd.cond _ (by rfl) (fun h => ?_) (fun h => ?_)
  · skip
    have h1 : (takeT l).2 = 0 := by have := of_decide_eq_true h; omega
    have hn : txtC l = (⟨#[]⟩, 0, true) := by unfold txtC; rw [if_pos h1]
    rw [hn]
    refine Cd.seq ?_
    refine Cd.region ?_
    refine Ls.ev (some 15) (Ev.move (show Oper.op _ = Op.move (Operand.tmp 0) from rfl) (by rfl)) (by rfl) (by rfl) ?_
    refine Ls.ev (some 16) (Ev.nilCheck (show Oper.op _ = Op.nilCheck (Operand.tmp 15) from rfl) (by rfl)) (by rfl) (by rfl) ?_
    refine Ls.ev (some 17) (Ev.fieldAddr (k := 1) (show Oper.op _ = Op.fieldAddr 97 (Operand.tmp 16) 1 from rfl) (by rfl) (by kernel_rfl) (by rfl)) (by rfl) (by rfl) ?_
    refine Ls.does none (Does.store 0 (show Oper.op _ = Op.store 4 (Operand.tmp 17) (Operand.const (Value.bool true)) from rfl) (by rfl) (by rfl) (by rfl) (by kernel_rfl) (by rfl) (by kernel_rfl) (by rfl)) (by rfl) (by rfl) ?_
    intro _ _
    refine Ls.nil ?_
    refine Cd.seq ?_
    refine Cd.region ?_
    refine Ls.ev (some 2) (Ev.assign (show Oper.op _ = Op.assign (Operand.const (Value.string { data := #[] })) from rfl) (by rfl)) (by rfl) (by rfl) ?_
    refine Ls.nil ?_
    refine Cd.ret ?_
    refine Ent.ret ((A, c)) (hc) (Res.tmp (by rfl) (by rfl)) ?_ [0, 1] (by rfl) ?_
    · rfl
    · rw [Bool.or_true]; rfl
  · skip
    have h1 : ¬ (takeT l).2 = 0 := by have := of_decide_eq_false h; omega
    have hn : txtC l = (txt (takeT l).1, (takeT l).2, false) := by unfold txtC; rw [if_neg h1]
    rw [hn]
    refine Cd.skip ?_
    refine Cd.seq ?_
    refine Cd.region ?_
    refine Ls.ev (some 18) (Ev.move (show Oper.op _ = Op.move (Operand.tmp 0) from rfl) (by rfl)) (by rfl) (by rfl) ?_
    refine Ls.ev (some 19) (Ev.move (show Oper.op _ = Op.move (Operand.tmp 0) from rfl) (by rfl)) (by rfl) (by rfl) ?_
    refine Ls.ev (some 20) (Ev.nilCheck (show Oper.op _ = Op.nilCheck (Operand.tmp 19) from rfl) (by rfl)) (by rfl) (by rfl) ?_
    refine Ls.ev (some 21) (Ev.fieldAddr (k := 0) (show Oper.op _ = Op.fieldAddr 97 (Operand.tmp 20) 0 from rfl) (by rfl) (by kernel_rfl) (by rfl)) (by rfl) (by rfl) ?_
    refine Ls.ev (some 22) (Ev.load 0 (show Oper.op _ = Op.load 25 (Operand.tmp 21) from rfl) (by rfl) (by rfl) (by kernel_rfl) (by rfl)) (by rfl) (by rfl) ?_
    refine Ls.ev (some 23) (Ev.move (show Oper.op _ = Op.move (Operand.tmp 4) from rfl) (by rfl)) (by rfl) (by rfl) ?_
    refine Ls.ev (some 24) (Ev.dropB (show Oper.op _ = Op.slice 25 (Operand.tmp 22) (some (Operand.tmp 23)) none none from rfl) (by rfl) (by rfl) Try.underlying25 (by kernel_rfl) hle.1) (by rfl) (by rfl) ?_
    refine Ent.dropB 1 (takeT l).2 c (by rfl) ⟨hle.1, hc⟩ ?_
    refine Ls.ev (some 25) (Ev.nilCheck (show Oper.op _ = Op.nilCheck (Operand.tmp 18) from rfl) (by rfl)) (by rfl) (by rfl) ?_
    refine Ls.ev (some 26) (Ev.fieldAddr (k := 0) (show Oper.op _ = Op.fieldAddr 97 (Operand.tmp 25) 0 from rfl) (by rfl) (by kernel_rfl) (by rfl)) (by rfl) (by rfl) ?_
    refine Ls.does none (Does.store 1 (show Oper.op _ = Op.store 25 (Operand.tmp 26) (Operand.tmp 24) from rfl) (by rfl) (by rfl) (by rfl) (by kernel_rfl) (by rfl) (by kernel_rfl) (by rfl)) (by rfl) (by rfl) ?_
    intro _ _
    refine Ls.nil ?_
    refine Cd.seq ?_
    refine Cd.region ?_
    refine Ls.ev (some 27) (Ev.move (show Oper.op _ = Op.move (Operand.tmp 3) from rfl) (by rfl)) (by rfl) (by rfl) ?_
    refine Ls.ev (some 2) (Ev.assign (show Oper.op _ = Op.assign (Operand.tmp 27) from rfl) (by rfl)) (by rfl) (by rfl) ?_
    refine Ls.nil ?_
    refine Cd.ret ?_
    refine Ent.ret ((cutA A c (takeT l).2 1, c - (takeT l).2)) ((by dsimp only; rw [List.length_drop]; omega)) (Res.tmp (by rfl) (by rfl)) ?_ [1, 0] (by rfl) ?_
    · rfl
    · rw [Bool.or_false]; rfl
end Go.Proofs.Ytnhcfhamcakfkaa
/- sstable's entries over pieces -/
namespace Go.Proofs.Ytnhcfhamcakfkaa
open Go.RowKit
theorem entC_nil {l : List UInt8} (h : (l.drop (txtC l).2.1).drop (numC (l.drop (txtC l).2.1)).2.1 = []) : entC l = (⟨(txtC l).1, (numC (l.drop (txtC l).2.1)).1, false, ⟨#[]⟩⟩, (txtC l).2.1 + (numC (l.drop (txtC l).2.1)).2.1, true) := by
  rw [List.drop_drop] at h
  unfold entC
  dsimp only
  rw [h]
theorem entC_cons {l r : List UInt8} {d : UInt8} (h : (l.drop (txtC l).2.1).drop (numC (l.drop (txtC l).2.1)).2.1 = d :: r) : entC l = (⟨(txtC l).1, (numC (l.drop (txtC l).2.1)).1, d == 1, (txtC r).1⟩, (txtC l).2.1 + (numC (l.drop (txtC l).2.1)).2.1 + 1 + (txtC r).2.1, (txtC l).2.2 || (numC (l.drop (txtC l).2.1)).2.2 || (txtC r).2.2) := by
  rw [List.drop_drop] at h
  unfold entC
  dsimp only
  rw [h]
theorem entry_sl (g : Nat) (A : Option Addr) (c : Nat) (l : List UInt8) (bad : Bool) (hc : l.length ≤ c) (hm : l.length ≤ maxLen) :
    Fn Try.prog 66 #[.pointer (some ⟨g, 0, none⟩)] (cutP g l bad (A, c)) (Option Addr × Nat) (fun _ => .agg (entC l).1.enc.toArray) (fun p => cutP g (l.drop (entC l).2.1) (bad || (entC l).2.2) p) (fun p => (l.drop (entC l).2.1).length ≤ p.2) := by
  refine Fn.enter Try.func66 rfl Try.ntmps66 (by rfl) ?_
  intro w0
  refine Cd.seq ?_
  refine Cd.region ?_
  refine Ls.does (some 2) (Does.alloc (cs := [.string ⟨#[]⟩, .int .i64 0, .bool false, .string ⟨#[]⟩]) (show Oper.op _ = Op.alloc 42 from rfl) (ZeroIs.mk (.agg #[.string ⟨#[]⟩, .int .i64 0, .bool false, .string ⟨#[]⟩]) (by kernel_rfl) (by rfl))) (by rfl) (by rfl) ?_
  intro g1 _
  refine Ls.nil ?_
  refine Cd.seq ?_
  refine Cd.region ?_
  refine Ls.ev (some 4) (Ev.move (show Oper.op _ = Op.move (Operand.tmp 0) from rfl) (by rfl)) (by rfl) (by rfl) ?_
  refine Ls.does (some 5) (Does.call [1, 2, 0] (show Oper.op _ = Op.call { callee := Callee.value (Operand.func 62), args := #[Operand.tmp 4], argTypes := #[95] } from rfl) Try.func62 (by kernel_rfl) (by kernel_rfl) (text_slC g A c l bad hc hm) (by rfl) (by rfl) (by rfl)) (by rfl) (by rfl) ?_
  intro p1 hp1
  have hm1 : (l.drop (txtC l).2.1).length ≤ maxLen := by rw [List.length_drop]; omega
  refine Ls.ev (some 6) (Ev.move (show Oper.op _ = Op.move (Operand.tmp 0) from rfl) (by rfl)) (by rfl) (by rfl) ?_
  refine Ls.does (some 7) (Does.call [0, 1, 2] (show Oper.op _ = Op.call { callee := Callee.value (Operand.func 61), args := #[Operand.tmp 6], argTypes := #[95] } from rfl) Try.func61 (by kernel_rfl) (by kernel_rfl) (number_sl g p1.1 p1.2 (l.drop (txtC l).2.1) (bad || (txtC l).2.2) hp1 hm1) (by rfl) (by rfl) (by rfl)) (by rfl) (by rfl) ?_
  rintro ⟨A2, c2⟩ hp2
  dsimp only at hp2
  have hl2 : ∀ l2, (l.drop (txtC l).2.1).drop (numC (l.drop (txtC l).2.1)).2.1 = l2 → l2.length ≤ maxLen := fun l2 h => by rw [← h, List.length_drop]; omega
  refine Ls.ev (some 8) (Ev.buildP (pl := [(0, 1), (1, 1), (2, 1), (3, 1)]) (zs := [.string ⟨#[]⟩, .int .i64 0, .bool false, .string ⟨#[]⟩]) (show Oper.op _ = Op.build 42 #[(0, Operand.tmp 5), (1, Operand.tmp 7)] from rfl) (by rfl) (by kernel_rfl) (by rfl)) (by rfl) (by rfl) ?_
  refine Ls.does (some 3) (Does.alloc (cs := [.string ⟨#[]⟩, .int .i64 0, .bool false, .string ⟨#[]⟩]) (show Oper.op _ = Op.alloc 42 from rfl) (ZeroIs.mk (.agg #[.string ⟨#[]⟩, .int .i64 0, .bool false, .string ⟨#[]⟩]) (by kernel_rfl) (by rfl))) (by rfl) (by rfl) ?_
  intro g2 _
  refine Ls.does none (Does.store 0 (show Oper.op _ = Op.store 42 (Operand.tmp 3) (Operand.tmp 8) from rfl) (by rfl) (by rfl) (by rfl) (by kernel_rfl) (by rfl) (by kernel_rfl) (by rfl)) (by rfl) (by rfl) ?_
  intro _ _
  refine Ls.nil ?_
  refine Cd.seq ?_
  refine Cd.seq ?_
  refine Cd.region ?_
  refine Ls.ev (some 9) (Ev.move (show Oper.op _ = Op.move (Operand.tmp 0) from rfl) (by rfl)) (by rfl) (by rfl) ?_
  refine Ls.ev (some 10) (Ev.nilCheck (show Oper.op _ = Op.nilCheck (Operand.tmp 9) from rfl) (by rfl)) (by rfl) (by rfl) ?_
  refine Ls.ev (some 11) (Ev.fieldAddr (k := 0) (show Oper.op _ = Op.fieldAddr 97 (Operand.tmp 10) 0 from rfl) (by rfl) (by kernel_rfl) (by rfl)) (by rfl) (by rfl) ?_
  refine Ls.ev (some 12) (Ev.load 1 (show Oper.op _ = Op.load 25 (Operand.tmp 11) from rfl) (by rfl) (by rfl) (by kernel_rfl) (by rfl)) (by rfl) (by rfl) ?_
  refine Ls.ev (some 13) (Ev.len (show Oper.op _ = Op.call { callee := Callee.builtin Builtin.len, args := #[Operand.tmp 12], argTypes := #[25] } from rfl) (by rfl) Try.underlying25) (by rfl) (by rfl) ?_
  refine Ls.ev (some 14) (Ev.eql (show Oper.op _ = Op.binOp BinOp.eql 3 (Operand.tmp 13) (Operand.const (Value.int IntKind.i64 0)) 3 from rfl) (by rfl) (by rfl)) (by rfl) (by rfl) ?_
  refine Ls.nil ?_
  revert hp2 hl2
  cases hd : (l.drop (txtC l).2.1).drop (numC (l.drop (txtC l).2.1)).2.1 with
  | nil =>
    intro hp2 hl2
    have he := entC_nil hd
    have hdd : l.drop (entC l).2.1 = [] := by rw [he, ← List.drop_drop]; exact hd
    skip
    refine Cd.cond_true (by rfl) (rfl) ?_
    refine Cd.seq ?_
    refine Cd.region ?_
    refine Ls.ev (some 15) (Ev.move (show Oper.op _ = Op.move (Operand.tmp 0) from rfl) (by rfl)) (by rfl) (by rfl) ?_
    refine Ls.ev (some 16) (Ev.nilCheck (show Oper.op _ = Op.nilCheck (Operand.tmp 15) from rfl) (by rfl)) (by rfl) (by rfl) ?_
    refine Ls.ev (some 17) (Ev.fieldAddr (k := 1) (show Oper.op _ = Op.fieldAddr 97 (Operand.tmp 16) 1 from rfl) (by rfl) (by kernel_rfl) (by rfl)) (by rfl) (by rfl) ?_
    refine Ls.does none (Does.store 1 (show Oper.op _ = Op.store 4 (Operand.tmp 17) (Operand.const (Value.bool true)) from rfl) (by rfl) (by rfl) (by rfl) (by kernel_rfl) (by rfl) (by kernel_rfl) (by rfl)) (by rfl) (by rfl) ?_
    intro _ _
    refine Ls.nil ?_
    refine Cd.seq ?_
    refine Cd.region ?_
    refine Ls.ev (some 18) (Ev.loads 0 (show Oper.op _ = Op.load 42 (Operand.tmp 3) from rfl) (by rfl) (by rfl) (n := 4) (by kernel_rfl) (by rfl) (by rfl)) (by rfl) (by rfl) ?_
    refine Ls.does none (Does.store 3 (show Oper.op _ = Op.store 42 (Operand.tmp 2) (Operand.tmp 18) from rfl) (by rfl) (by rfl) (by rfl) (by kernel_rfl) (by rfl) (by kernel_rfl) (by rfl)) (by rfl) (by rfl) ?_
    intro _ _
    refine Ls.nil ?_
    rw [hdd, he]
    refine Cd.ret ?_
    refine Ent.ret ((A2, c2)) (hp2) (Res.cell 3 (by rfl) (by rfl) (by rfl) (n := 4) (by kernel_rfl) (by rfl) (by rfl)) ?_ [1, 2] (by rfl) ?_
    · rfl
    · rw [Bool.or_true]; rfl
  | cons d r =>
    intro hp2 hl2
    have he := entC_cons hd
    have hr : (r.drop (txtC r).2.1) = l.drop (entC l).2.1 := by
      rw [he, Nat.add_assoc, Nat.add_assoc, ← List.drop_drop, ← List.drop_drop, hd, Nat.add_comm 1, List.drop_succ_cons]
    have hrm := hl2 _ rfl
    rw [List.length_cons] at hrm hp2
    skip
    refine Cd.cond_false (by rfl) (decide_eq_false (by rw [List.length_cons]; omega)) ?_
    refine Ent.rdSome 2 (by rfl) (by rw [List.length_cons]; omega) (fun ad had => ?_)
    subst had
    have hd0 : (u8s (d :: r))[(0 : Int).toNat * 1]? = some (.int .u8 d.toNat) := rfl
    have hlen : (d :: r).length = r.length + 1 := rfl
    refine Cd.skip ?_
    refine Cd.seq ?_
    refine Cd.region ?_
    refine Ls.ev (some 19) (Ev.move (show Oper.op _ = Op.move (Operand.tmp 0) from rfl) (by rfl)) (by rfl) (by rfl) ?_
    refine Ls.ev (some 20) (Ev.nilCheck (show Oper.op _ = Op.nilCheck (Operand.tmp 19) from rfl) (by rfl)) (by rfl) (by rfl) ?_
    refine Ls.ev (some 21) (Ev.fieldAddr (k := 0) (show Oper.op _ = Op.fieldAddr 97 (Operand.tmp 20) 0 from rfl) (by rfl) (by kernel_rfl) (by rfl)) (by rfl) (by rfl) ?_
    refine Ls.ev (some 22) (Ev.load 1 (show Oper.op _ = Op.load 25 (Operand.tmp 21) from rfl) (by rfl) (by rfl) (by kernel_rfl) (by rfl)) (by rfl) (by rfl) ?_
    refine Ls.ev (some 23) (Ev.indexAddr (sz := 1) (show Oper.op _ = Op.indexAddr 25 (Operand.tmp 22) (Operand.const (Value.int IntKind.i64 0)) from rfl) (by rfl) (by rfl) Try.underlying25 (by kernel_rfl) (by omega)) (by rfl) (by rfl) ?_
    refine Ls.ev (some 24) (Ev.loadR 2 (show Oper.op _ = Op.load 5 (Operand.tmp 23) from rfl) (by rfl) (by rfl) (by kernel_rfl) (by omega) hd0) (by rfl) (by rfl) ?_
    refine Ls.ev (some 25) (Ev.eql (show Oper.op _ = Op.binOp BinOp.eql 5 (Operand.tmp 24) (Operand.const (Value.int IntKind.u8 1)) 5 from rfl) (by rfl) (by rfl)) (by rfl) (by rfl) ?_
    refine Ls.ev (some 26) (Ev.fieldAddr (k := 2) (show Oper.op _ = Op.fieldAddr 42 (Operand.tmp 3) 2 from rfl) (by rfl) (by kernel_rfl) (by rfl)) (by rfl) (by rfl) ?_
    refine Ls.does none (Does.store 0 (show Oper.op _ = Op.store 4 (Operand.tmp 26) (Operand.tmp 25) from rfl) (by rfl) (by rfl) (by rfl) (by kernel_rfl) (by rfl) (by kernel_rfl) (by rfl)) (by rfl) (by rfl) ?_
    intro _ _
    refine Ls.nil ?_
    refine Cd.seq ?_
    refine Cd.region ?_
    refine Ls.ev (some 27) (Ev.move (show Oper.op _ = Op.move (Operand.tmp 0) from rfl) (by rfl)) (by rfl) (by rfl) ?_
    refine Ls.ev (some 28) (Ev.move (show Oper.op _ = Op.move (Operand.tmp 0) from rfl) (by rfl)) (by rfl) (by rfl) ?_
    refine Ls.ev (some 29) (Ev.nilCheck (show Oper.op _ = Op.nilCheck (Operand.tmp 28) from rfl) (by rfl)) (by rfl) (by rfl) ?_
    refine Ls.ev (some 30) (Ev.fieldAddr (k := 0) (show Oper.op _ = Op.fieldAddr 97 (Operand.tmp 29) 0 from rfl) (by rfl) (by kernel_rfl) (by rfl)) (by rfl) (by rfl) ?_
    refine Ls.ev (some 31) (Ev.load 1 (show Oper.op _ = Op.load 25 (Operand.tmp 30) from rfl) (by rfl) (by rfl) (by kernel_rfl) (by rfl)) (by rfl) (by rfl) ?_
    refine Ls.ev (some 32) (Ev.sliceLn (sz := 1) (l := 1) (show Oper.op _ = Op.slice 25 (Operand.tmp 31) (some (Operand.const (Value.int IntKind.i64 1))) none none from rfl) (by rfl) (by rfl) Try.underlying25 (by kernel_rfl) (by omega)) (by rfl) (by rfl) ?_
    refine Ls.ev (some 33) (Ev.nilCheck (show Oper.op _ = Op.nilCheck (Operand.tmp 27) from rfl) (by rfl)) (by rfl) (by rfl) ?_
    refine Ls.ev (some 34) (Ev.fieldAddr (k := 0) (show Oper.op _ = Op.fieldAddr 97 (Operand.tmp 33) 0 from rfl) (by rfl) (by kernel_rfl) (by rfl)) (by rfl) (by rfl) ?_
    refine Ls.does none (Does.store 1 (show Oper.op _ = Op.store 25 (Operand.tmp 34) (Operand.tmp 32) from rfl) (by rfl) (by rfl) (by rfl) (by kernel_rfl) (by rfl) (by kernel_rfl) (by rfl)) (by rfl) (by rfl) ?_
    intro _ _
    refine Ls.nil ?_
    refine Cd.seq ?_
    refine Cd.region ?_
    refine Ls.ev (some 35) (Ev.move (show Oper.op _ = Op.move (Operand.tmp 0) from rfl) (by rfl)) (by rfl) (by rfl) ?_
    refine Ent.dropB 2 1 c2 (by rfl) ⟨by omega, by omega⟩ ?_
    refine Ls.does (some 36) (Does.call [2, 0, 1, 4] (show Oper.op _ = Op.call { callee := Callee.value (Operand.func 62), args := #[Operand.tmp 35], argTypes := #[95] } from rfl) Try.func62 (by kernel_rfl) (by kernel_rfl) (text_slC g (cutA (some ad) c2 1 1) (c2 - 1) r (bad || (txtC l).2.2 || (numC (l.drop (txtC l).2.1)).2.2) (by omega) (by omega)) (by rfl) (by rfl) (by rfl)) (by rfl) (by rfl) ?_
    intro p3 hp3
    refine Ls.ev (some 37) (Ev.fieldAddr (k := 3) (show Oper.op _ = Op.fieldAddr 42 (Operand.tmp 3) 3 from rfl) (by rfl) (by kernel_rfl) (by rfl)) (by rfl) (by rfl) ?_
    refine Ls.does none (Does.store 2 (show Oper.op _ = Op.store 9 (Operand.tmp 37) (Operand.tmp 36) from rfl) (by rfl) (by rfl) (by rfl) (by kernel_rfl) (by rfl) (by kernel_rfl) (by rfl)) (by rfl) (by rfl) ?_
    intro _ _
    refine Ls.nil ?_
    refine Cd.seq ?_
    refine Cd.region ?_
    refine Ls.ev (some 38) (Ev.loads 2 (show Oper.op _ = Op.load 42 (Operand.tmp 3) from rfl) (by rfl) (by rfl) (n := 4) (by kernel_rfl) (by rfl) (by rfl)) (by rfl) (by rfl) ?_
    refine Ls.does none (Does.store 3 (show Oper.op _ = Op.store 42 (Operand.tmp 2) (Operand.tmp 38) from rfl) (by rfl) (by rfl) (by rfl) (by kernel_rfl) (by rfl) (by kernel_rfl) (by rfl)) (by rfl) (by rfl) ?_
    intro _ _
    refine Ls.nil ?_
    have hdel : decide ((d.toNat : Int) = 1) = (d == 1) := by
      rw [show (d == 1) = decide (d = 1) from rfl, decide_eq_decide]
      constructor
      · intro h
        exact UInt8.toNat.inj (by have : (1 : UInt8).toNat = 1 := rfl; omega)
      · rintro rfl
        rfl
    rw [← hr, he, ← hdel]
    refine Cd.ret ?_
    refine Ent.ret (p3) (hp3) (Res.cell 3 (by rfl) (by rfl) (by rfl) (n := 4) (by kernel_rfl) (by rfl) (by rfl)) ?_ [0, 1] (by rfl) ?_
    · rfl
    · simp only [Bool.or_assoc]; rfl
/-- What Take answers. -/
def payF (b : List UInt8) : List UInt8 := match takeF b with
  | none => []
  | some x => x.1
def szF (b : List UInt8) : Nat := match takeF b with
  | none => 0
  | some x => x.2
def erF (b : List UInt8) : Int := match takeF b with
  | none => 10
  | some _ => 0
theorem erF_none {b : List UInt8} (h : erF b ≠ 0) : takeF b = none := by
  unfold erF at h
  split at h
  · assumption
  · exact absurd rfl h
theorem erF_some {b : List UInt8} (h : erF b = 0) : ∃ k, takeF b = some (payF b, k) := by
  unfold erF at h
  unfold payF
  split at h
  · cases h
  · rename_i x hx
    rw [hx]
    exact ⟨x.2, rfl⟩
theorem payF_le (b : List UInt8) : (payF b).length ≤ 4096 := by
  unfold payF
  split
  · exact Nat.zero_le _
  · rename_i x h
    exact (takeF_size h).2.2.1
theorem take_slP (A : Option Addr) (c : Nat) (l : List UInt8) (hc : l.length ≤ c) (hn : l.length ≤ maxLen) : Fn Try.prog 60 #[.slice A l.length c] [rdB A l] (Option Addr × Nat) (fun p => .tuple #[.slice p.1 (payF l).length p.2, .int .i64 (szF l), .int .i64 (erF l)]) (fun p => [rowB p.1 p.2 (payF l)]) (fun _ => True) :=
  Fn.of_own (res := fun p => .tuple #[.slice p.1 (payF l).length p.2, .int .i64 (szF l), .int .i64 (erF l)]) fun w hs => (take_any A l.length c l w (sat_rd 0 rfl hs) hc hn).mono fun e w' ⟨ht, hb⟩ => by
    unfold payF szF erF
    cases h : takeF l with
    | none =>
      rw [h] at ht
      exact ⟨none, 0, ht, Own.nil_ _ _ _ _, hb⟩
    | some x =>
      obtain ⟨q, k⟩ := x
      rw [h] at ht
      obtain ⟨A', c', e1, e2⟩ := ht
      exact ⟨A', c', e1, e2, hb⟩
theorem blkR_pay (b : List UInt8) : blkR b = (entsF (payF b)).getD [] := by
  unfold blkR payF
  cases takeF b with
  | none => simp only [entsF_nil]; rfl
  | some x => rfl
structure EnL where
  rest : List UInt8
  out : List Ety
  bad : Bool
  oA : Option Addr
  oc : Nat
  cA : Option Addr
  cc : Nat
structure EnI (q : List UInt8) (j : EnL) : Prop where
  cap : j.rest.length ≤ j.cc
  le : j.rest.length ≤ 4096
  out : j.out.length ≤ 4097
  good : j.bad = false → j.out.length + j.rest.length ≤ 4096 ∧ entsF q = (entsF j.rest).map (j.out ++ ·)
  bad : j.bad = true → entsF q = none
theorem EnI.next {q : List UInt8} {j : EnL} (h : EnI q j) (hr : 0 < j.rest.length) (hb : j.bad = false) (p : Option Addr × Nat) (hp : (j.rest.drop (entC j.rest).2.1).length ≤ p.2) (o : Option Addr × Nat) : EnI q ⟨j.rest.drop (entC j.rest).2.1, j.out ++ [(entC j.rest).1], j.bad || (entC j.rest).2.2, o.1, o.2, p.1, p.2⟩ ∧
    ((j.bad || (entC j.rest).2.2) = false → (j.rest.drop (entC j.rest).2.1).length < j.rest.length) := by
  have h1 := entC_le j.rest
  have hne : j.rest ≠ [] := fun e => by rw [e] at hr; cases hr
  have h2 := entsF_step hne
  obtain ⟨g1, g2⟩ := h.good hb
  have hle := h.le
  rw [hb, Bool.false_or]
  refine ⟨⟨hp, by rw [List.length_drop]; exact Nat.le_trans (Nat.sub_le _ _) hle, by rw [List.length_append, List.length_cons, List.length_nil]; omega, fun hg => ?_, fun hg => ?_⟩, fun hg => ?_⟩
  · dsimp only at hg ⊢
    have h3 := h1.2 hg
    refine ⟨?_, ?_⟩
    · have h4 := h1.1
      revert h3 h4
      generalize (entC j.rest).2.1 = k
      intro h3 h4
      rw [List.length_append, List.length_cons, List.length_nil, List.length_drop]
      omega
    · rw [g2, h2, hg, cond_false, Option.map_map]
      congr 1
      funext x
      simp
  · dsimp only at hg
    rw [g2, h2, hg, cond_true]
    rfl
  · have h3 := h1.2 hg
    revert h3
    generalize (entC j.rest).2.1 = k
    intro h3
    rw [List.length_drop]
    omega
end Go.Proofs.Ytnhcfhamcakfkaa
/- sstable's entries, over pieces -/
namespace Go.Proofs.Ytnhcfhamcakfkaa
open Go.RowKit
theorem enc_one (e : Ety) : ∀ u ∈ e.enc, u.oneCell' = true := by simp [Ety.enc, Value.oneCell']
theorem entries_sl (A : Option Addr) (c : Nat) (b : List UInt8) (hc : b.length ≤ c) (hm : b.length ≤ maxLen) :
    Fn Try.prog 49 #[.slice A b.length c] [rdB A b] (Option Addr × Nat) (fun p => .slice p.1 (blkR b).length p.2) (fun p => [rowE p.1 p.2 (blkR b)]) (fun _ => True) := by
  have hq := payF_le b
  refine Fn.enter Try.func49 rfl Try.ntmps49 (by rfl) ?_
  intro w0
  refine Cd.seq ?_
  refine Cd.region ?_
  refine Ls.ev (some 2) (Ev.assign (show Oper.op _ = Op.assign (Operand.const (Value.slice none 0 0)) from rfl) (by rfl)) (by rfl) (by rfl) ?_
  refine Ls.nil ?_
  refine Cd.seq ?_
  refine Cd.region ?_
  refine Ls.ev (some 9) (Ev.move (show Oper.op _ = Op.move (Operand.tmp 0) from rfl) (by rfl)) (by rfl) (by rfl) ?_
  refine Ls.does (some 10) (Does.readN (show Oper.op _ = Op.call { callee := Callee.value (Operand.func 60), args := #[Operand.tmp 9], argTypes := #[25] } from rfl) Try.func60 (by kernel_rfl) (by kernel_rfl) (take_slP A c b hc hm) (by rfl) (by rfl) ⟨ReadsIn.rd 0 (by rfl), trivial⟩ (fun _ => by rfl)) (by rfl) (by rfl) ?_
  intro p _
  refine Ls.ev (some 8) (Ev.move (show Oper.op _ = Op.move (Operand.tmp 10) from rfl) (by rfl)) (by rfl) (by rfl) ?_
  refine Ls.ev (some 11) (Ev.extract (show Oper.op _ = Op.extract (Operand.tmp 8) 0 from rfl) (by rfl) (by rfl)) (by rfl) (by rfl) ?_
  refine Ls.ev (some 12) (Ev.extract (show Oper.op _ = Op.extract (Operand.tmp 8) 1 from rfl) (by rfl) (by rfl)) (by rfl) (by rfl) ?_
  refine Ls.ev (some 13) (Ev.extract (show Oper.op _ = Op.extract (Operand.tmp 8) 2 from rfl) (by rfl) (by rfl)) (by rfl) (by rfl) ?_
  refine Ls.ev (some 3) (Ev.assign (show Oper.op _ = Op.assign (Operand.tmp 11) from rfl) (by rfl)) (by rfl) (by rfl) ?_
  refine Ls.ev (some 4) (Ev.assign (show Oper.op _ = Op.assign (Operand.tmp 12) from rfl) (by rfl)) (by rfl) (by rfl) ?_
  refine Ls.ev (some 5) (Ev.assign (show Oper.op _ = Op.assign (Operand.tmp 13) from rfl) (by rfl)) (by rfl) (by rfl) ?_
  refine Ls.nil ?_
  refine Cd.seq ?_
  refine Cd.region ?_
  refine Ls.ev (some 14) (Ev.move (show Oper.op _ = Op.move (Operand.tmp 3) from rfl) (by rfl)) (by rfl) (by rfl) ?_
  refine Ls.ev (some 15) (Ev.buildP (pl := [(0, 1), (1, 1)]) (zs := [.slice none 0 0, .bool false]) (show Oper.op _ = Op.build 97 #[(0, Operand.tmp 14)] from rfl) (by rfl) (by kernel_rfl) (by rfl)) (by rfl) (by rfl) ?_
  refine Ls.does (some 16) (Does.box (show Oper.op _ = Op.box 97 (Operand.tmp 15) from rfl) (by rfl)) (by rfl) (by rfl) ?_
  intro g1 _
  refine Ls.ev (some 6) (Ev.assign (show Oper.op _ = Op.assign (Operand.tmp 16) from rfl) (by rfl)) (by rfl) (by rfl) ?_
  refine Ls.nil ?_
  refine Cd.seq ?_
  refine Cd.region ?_
  refine Ls.ev (some 7) (Ev.assign (show Oper.op _ = Op.assign (Operand.const (Value.slice none 0 0)) from rfl) (by rfl)) (by rfl) (by rfl) ?_
  refine Ls.nil ?_
  refine Cd.seq ?_
  refine Cd.block ?_
  refine Ent.fact 1 (by rfl) (p := (payF b).length ≤ p.2) (fun w hw => Own.le hw) (fun hpc => ?_)
  refine Ent.see 1 (by rfl) (Ent.nil 42 4 (Ent.pick [1, 2, 0] (by rfl) ?_))
  refine Cd.loop (ι := EnL) (fun j => [(6, .pointer (some ⟨g1, 0, none⟩)), (7, .slice j.oA j.out.length j.oc)]) (fun j => [blk g1 97 [.slice j.cA j.rest.length j.cc, .bool j.bad], rdB j.cA j.rest, rowE j.oA j.oc j.out]) (EnI (payF b)) (fun j => bif j.bad then 0 else j.rest.length + 1) (⟨payF b, [], false, none, 0, p.1, p.2⟩) (⟨hpc, hq, Nat.zero_le _, fun _ => ⟨by simpa using hq, by show _ = (entsF (payF b)).map (fun x => [] ++ x); cases entsF (payF b) <;> rfl⟩, fun h => (by cases h)⟩) ?_ rfl ?_
  · (repeat (first | exact trivial | refine ⟨by rfl, ?_⟩))
  intro j hj
  have hjl := hj.le
  have hjo := hj.out
  refine Cd.seq ?_
  refine Cd.seq ?_
  refine Cd.cut (ι := Unit) (fun _ => [(6, .pointer (some ⟨g1, 0, none⟩)), (7, .slice j.oA j.out.length j.oc), (29, .bool (decide ((0 : Int) < j.rest.length) && !j.bad))]) (fun _ => [blk g1 97 [.slice j.cA j.rest.length j.cc, .bool j.bad], rdB j.cA j.rest, rowE j.oA j.oc j.out]) (fun _ => True) ?_ ?_
  · skip
    refine Cd.region ?_
    refine Ls.ev (some 17) (Ev.move (show Oper.op _ = Op.move (Operand.tmp 6) from rfl) (by rfl)) (by rfl) (by rfl) ?_
    refine Ls.ev (some 18) (Ev.nilCheck (show Oper.op _ = Op.nilCheck (Operand.tmp 17) from rfl) (by rfl)) (by rfl) (by rfl) ?_
    refine Ls.ev (some 19) (Ev.fieldAddr (k := 0) (show Oper.op _ = Op.fieldAddr 97 (Operand.tmp 18) 0 from rfl) (by rfl) (by kernel_rfl) (by rfl)) (by rfl) (by rfl) ?_
    refine Ls.ev (some 20) (Ev.load 0 (show Oper.op _ = Op.load 25 (Operand.tmp 19) from rfl) (by rfl) (by rfl) (by kernel_rfl) (by rfl)) (by rfl) (by rfl) ?_
    refine Ls.ev (some 21) (Ev.len (show Oper.op _ = Op.call { callee := Callee.builtin Builtin.len, args := #[Operand.tmp 20], argTypes := #[25] } from rfl) (by rfl) Try.underlying25) (by rfl) (by rfl) ?_
    refine Ls.ev (some 22) (Ev.gtr (show Oper.op _ = Op.binOp BinOp.gtr 3 (Operand.tmp 21) (Operand.const (Value.int IntKind.i64 0)) 3 from rfl) (by rfl) (by rfl)) (by rfl) (by rfl) ?_
    refine Ls.ev (some 23) (Ev.move (show Oper.op _ = Op.move (Operand.tmp 22) from rfl) (by rfl)) (by rfl) (by rfl) ?_
    refine Ent.split 23 (by rfl) (fun h => ?_) (fun h => ?_)
    · skip
      refine Ls.pass (some 24) (by rfl) (by rfl) ?_
      refine Ls.pass (some 25) (by rfl) (by rfl) ?_
      refine Ls.pass (some 26) (by rfl) (by rfl) ?_
      refine Ls.pass (some 27) (by rfl) (by rfl) ?_
      refine Ls.pass (some 28) (by rfl) (by rfl) ?_
      refine Ls.ev (some 29) (Ev.pickF (show Oper.op _ = Op.pick (Operand.tmp 23) (Operand.tmp 28) (Operand.const (Value.bool false)) from rfl) (by rfl) (by rfl)) (by rfl) (by rfl) ?_
      refine Ls.nil ?_
      refine Ent.inv (()) ?_ ?_ ?_
      · (try dsimp only); skip
      · (repeat (first | exact trivial | refine ⟨by rfl, ?_⟩ | refine ⟨by simp only [List.length_append, List.length_cons, List.length_nil]; rfl, ?_⟩ | refine ⟨by push_cast; rfl, ?_⟩ | refine ⟨by (rw [h]; rfl), ?_⟩))
      · rfl
    · skip
      refine Ls.ev (some 24) (Ev.move (show Oper.op _ = Op.move (Operand.tmp 6) from rfl) (by rfl)) (by rfl) (by rfl) ?_
      refine Ls.ev (some 25) (Ev.nilCheck (show Oper.op _ = Op.nilCheck (Operand.tmp 24) from rfl) (by rfl)) (by rfl) (by rfl) ?_
      refine Ls.ev (some 26) (Ev.fieldAddr (k := 1) (show Oper.op _ = Op.fieldAddr 97 (Operand.tmp 25) 1 from rfl) (by rfl) (by kernel_rfl) (by rfl)) (by rfl) (by rfl) ?_
      refine Ls.ev (some 27) (Ev.load 0 (show Oper.op _ = Op.load 4 (Operand.tmp 26) from rfl) (by rfl) (by rfl) (by kernel_rfl) (by rfl)) (by rfl) (by rfl) ?_
      refine Ls.ev (some 28) (Ev.not (show Oper.op _ = Op.unOp UnOp.not 4 (Operand.tmp 27) from rfl) (by rfl)) (by rfl) (by rfl) ?_
      refine Ls.ev (some 29) (Ev.pickT (show Oper.op _ = Op.pick (Operand.tmp 23) (Operand.tmp 28) (Operand.const (Value.bool false)) from rfl) (by rfl) (by rfl)) (by rfl) (by rfl) ?_
      refine Ls.nil ?_
      refine Ent.inv (()) ?_ ?_ ?_
      · (try dsimp only); skip
      · (repeat (first | exact trivial | refine ⟨by rfl, ?_⟩ | refine ⟨by simp only [List.length_append, List.length_cons, List.length_nil]; rfl, ?_⟩ | refine ⟨by push_cast; rfl, ?_⟩ | refine ⟨by (rw [h]; rfl), ?_⟩))
      · rfl
  skip
  rintro _ -
  refine Cd.cond _ (by rfl) (fun h => ?_) (fun h => ?_)
  · skip
    simp only [Bool.and_eq_true, decide_eq_true_eq, Bool.not_eq_true'] at h
    obtain ⟨hr, hb⟩ := h
    have hr2 : 0 < j.rest.length := by omega
    have hg := (hj.good hb).1
    refine Cd.skip ?_
    refine Cd.block ?_
    refine Cd.region ?_
    refine Ls.ev (some 30) (Ev.move (show Oper.op _ = Op.move (Operand.tmp 7) from rfl) (by rfl)) (by rfl) (by rfl) ?_
    refine Ls.ev (some 31) (Ev.move (show Oper.op _ = Op.move (Operand.tmp 6) from rfl) (by rfl)) (by rfl) (by rfl) ?_
    refine Ls.does (some 32) (Does.call [0, 1, 2] (show Oper.op _ = Op.call { callee := Callee.value (Operand.func 66), args := #[Operand.tmp 31], argTypes := #[95] } from rfl) Try.func66 (by kernel_rfl) (by kernel_rfl) (entry_sl g1 j.cA j.cc j.rest j.bad hj.cap (by unfold maxLen; omega)) (by rfl) (by rfl) (by rfl)) (by rfl) (by rfl) ?_
    intro p2 hp2
    refine Ls.does (some 33) (Does.lit (sz := 4) (show Oper.op _ = Op.buildSlice 22 1 #[(0, Operand.tmp 32)] from rfl) (by rfl) Try.underlying22 (by kernel_rfl) (by rfl) (by kernel_rfl)) (by rfl) (by rfl) ?_
    intro g2 _
    refine Ls.does (some 34) (Does.app (xs := j.out.flatMap Ety.enc) (news := (entC j.rest).1.enc) 3 (show Oper.op _ = Op.call { callee := Callee.builtin Builtin.append, args := #[Operand.tmp 30, Operand.tmp 33], argTypes := #[22, 22] } from rfl) (by rfl) (by rfl) (by rfl) (ReadsIn.row 0 (by rfl)) elem_ents (enc_one _) (by omega)) (by rfl) (by rfl) ?_
    intro q _
    refine Ls.ev (some 7) (Ev.assign (show Oper.op _ = Op.assign (Operand.tmp 34) from rfl) (by rfl)) (by rfl) (by rfl) ?_
    refine Ls.nil ?_
    refine Ent.pick [1, 2, 3] (by rfl) ?_
    refine Ent.inv (⟨j.rest.drop (entC j.rest).2.1, j.out ++ [(entC j.rest).1], j.bad || (entC j.rest).2.2, q.1, q.2, p2.1, p2.2⟩) ?_ ?_ ?_
    · (try dsimp only); exact ⟨(hj.next hr2 hb p2 hp2 q).1, by
      have h5 := (hj.next hr2 hb p2 hp2 q).2
      revert h5
      rw [hb, cond_false]
      rcases Bool.eq_false_or_eq_true (false || (entC j.rest).2.2) with h6 | h6
      · intro _
        rw [h6, cond_true]
        omega
      · intro h5
        have := h5 h6
        rw [h6, cond_false]
        omega⟩
    · (repeat (first | exact trivial | refine ⟨by rfl, ?_⟩ | refine ⟨by simp only [List.length_append, List.length_cons, List.length_nil]; rfl, ?_⟩ | refine ⟨by push_cast; rfl, ?_⟩ | refine ⟨by (show some (Value.slice _ _ _) = some (Value.slice _ _ _); dsimp only; rw [List.length_append]; rfl), ?_⟩))
    · (show [_, _, _] = [_, _, _]; dsimp only [rowE]; rw [List.length_append, List.flatMap_append, List.flatMap_cons, List.flatMap_nil, List.append_nil]; rfl)
  · skip
    have hx : j.rest.length = 0 ∨ j.bad = true := by
      rcases Bool.eq_false_or_eq_true j.bad with hb | hb
      · exact .inr hb
      · left
        rw [hb, Bool.not_false, Bool.and_true] at h
        have := of_decide_eq_false h
        omega
    refine Cd.exit ?_
    refine Cd.seq ?_
    refine Cd.seq ?_
    refine Cd.region ?_
    refine Ls.ev (some 35) (Ev.move (show Oper.op _ = Op.move (Operand.tmp 6) from rfl) (by rfl)) (by rfl) (by rfl) ?_
    refine Ls.ev (some 36) (Ev.nilCheck (show Oper.op _ = Op.nilCheck (Operand.tmp 35) from rfl) (by rfl)) (by rfl) (by rfl) ?_
    refine Ls.ev (some 37) (Ev.fieldAddr (k := 1) (show Oper.op _ = Op.fieldAddr 97 (Operand.tmp 36) 1 from rfl) (by rfl) (by kernel_rfl) (by rfl)) (by rfl) (by rfl) ?_
    refine Ls.ev (some 38) (Ev.load 0 (show Oper.op _ = Op.load 4 (Operand.tmp 37) from rfl) (by rfl) (by rfl) (by kernel_rfl) (by rfl)) (by rfl) (by rfl) ?_
    refine Ls.nil ?_
    refine Cd.cond _ (by rfl) (fun h2 => ?_) (fun h2 => ?_)
    · skip
      have he : blkR b = [] := by rw [blkR_pay, hj.bad h2]; rfl
      rw [he]
      refine Cd.seq ?_
      refine Cd.region ?_
      refine Ls.ev (some 2) (Ev.assign (show Oper.op _ = Op.assign (Operand.const (Value.slice none 0 0)) from rfl) (by rfl)) (by rfl) (by rfl) ?_
      refine Ls.nil ?_
      refine Ent.nil 42 4 ?_
      refine Cd.ret ?_
      refine Ent.ret ((none, 0)) (trivial) (Res.tmp (by rfl) (by rfl)) ?_ [0] (by rfl) ?_
      · rfl
      · rfl
    · skip
      have h0 : j.rest = [] := by
        rcases hx with h3 | h3
        · exact List.eq_nil_of_length_eq_zero h3
        · rw [h2] at h3; cases h3
      have he : blkR b = j.out := by
        rw [blkR_pay, (hj.good h2).2, h0, entsF_nil]
        simp
      rw [he]
      refine Cd.skip ?_
      refine Cd.seq ?_
      refine Cd.region ?_
      refine Ls.ev (some 39) (Ev.move (show Oper.op _ = Op.move (Operand.tmp 7) from rfl) (by rfl)) (by rfl) (by rfl) ?_
      refine Ls.ev (some 2) (Ev.assign (show Oper.op _ = Op.assign (Operand.tmp 39) from rfl) (by rfl)) (by rfl) (by rfl) ?_
      refine Ls.nil ?_
      refine Cd.ret ?_
      refine Ent.ret ((j.oA, j.oc)) (trivial) (Res.tmp (by rfl) (by rfl)) ?_ [2] (by rfl) ?_
      · rfl
      · rfl
end Go.Proofs.Ytnhcfhamcakfkaa
/- sstable's read, over pieces -/
namespace Go.Proofs.Ytnhcfhamcakfkaa
open Go.RowKit
theorem i64_or_nat (a b : Nat) (ha : a < 9223372036854775808) (hb : b < 9223372036854775808) : bits .or .i64 (a : Int) (b : Int) = ((a ||| b : Nat) : Int) := by
  have hx : a ||| b < 2 ^ 63 := Nat.or_lt_two_pow (by omega) (by omega)
  show IntKind.i64.wrap ((BitVec.ofInt 64 (a : Int) ||| BitVec.ofInt 64 (b : Int)).toNat : Int) = _
  rw [BitVec.toNat_or, ofInt_u64 a (by omega), ofInt_u64 b (by omega), IntWalk.i64_in _ (by omega)]
theorem le4_int {l : List UInt8} {v0 v1 v2 v3 : Int} (h0 : v0 = (l.getD 0 0).toNat) (h1 : v1 = (l.getD 1 0).toNat) (h2 : v2 = (l.getD 2 0).toNat) (h3 : v3 = (l.getD 3 0).toNat) :
    bits .or .i64 (bits .or .i64 (bits .or .i64 v0 (IntKind.i64.wrap (v1 * 2 ^ (min (Int.toNat 8) IntKind.i64.bits)))) (IntKind.i64.wrap (v2 * 2 ^ (min (Int.toNat 16) IntKind.i64.bits)))) (IntKind.i64.wrap (v3 * 2 ^ (min (Int.toNat 24) IntKind.i64.bits))) = (le4 l : Nat) := by
  have b0 := (l.getD 0 0).toNat_lt
  have b1 := (l.getD 1 0).toNat_lt
  have b2 := (l.getD 2 0).toNat_lt
  have b3 := (l.getD 3 0).toNat_lt
  unfold le4
  generalize (l.getD 0 0).toNat = n0 at *
  generalize (l.getD 1 0).toNat = n1 at *
  generalize (l.getD 2 0).toNat = n2 at *
  generalize (l.getD 3 0).toNat = n3 at *
  subst h0 h1 h2 h3
  have p1 : (2 : Int) ^ (min (Int.toNat 8) IntKind.i64.bits) = 256 := by decide
  have p2 : (2 : Int) ^ (min (Int.toNat 16) IntKind.i64.bits) = 65536 := by decide
  have p3 : (2 : Int) ^ (min (Int.toNat 24) IntKind.i64.bits) = 16777216 := by decide
  have e1 : IntKind.i64.wrap ((n1 : Int) * 256) = ((n1 * 256 : Nat) : Int) := by rw [IntWalk.i64_in _ (by omega)]; omega
  have e2 : IntKind.i64.wrap ((n2 : Int) * 65536) = ((n2 * 65536 : Nat) : Int) := by rw [IntWalk.i64_in _ (by omega)]; omega
  have e3 : IntKind.i64.wrap ((n3 : Int) * 16777216) = ((n3 * 16777216 : Nat) : Int) := by rw [IntWalk.i64_in _ (by omega)]; omega
  have om : ∀ (a b i m : Nat), m = 2 ^ i → a < m → a ||| (b * m) = b * m + a := fun a b i m hm h => by
    subst hm
    rw [Nat.or_comm, ← Nat.shiftLeft_eq, Nat.shiftLeft_add_eq_or_of_lt h]
  rw [p1, p2, p3, e1, e2, e3, i64_or_nat n0 (n1 * 256) (by omega) (by omega), om n0 n1 8 256 (by decide) (by omega), i64_or_nat _ (n2 * 65536) (by omega) (by omega), om _ n2 16 65536 (by decide) (by omega), i64_or_nat _ (n3 * 16777216) (by omega) (by omega), om _ n3 24 16777216 (by decide) (by omega)]
  omega
theorem le4_int4 {l : List UInt8} {v0 v1 v2 v3 : Int} (h0 : v0 = (l.getD 4 0).toNat) (h1 : v1 = (l.getD 5 0).toNat) (h2 : v2 = (l.getD 6 0).toNat) (h3 : v3 = (l.getD 7 0).toNat) :
    bits .or .i64 (bits .or .i64 (bits .or .i64 v0 (IntKind.i64.wrap (v1 * 2 ^ (min (Int.toNat 8) IntKind.i64.bits)))) (IntKind.i64.wrap (v2 * 2 ^ (min (Int.toNat 16) IntKind.i64.bits)))) (IntKind.i64.wrap (v3 * 2 ^ (min (Int.toNat 24) IntKind.i64.bits))) = (le4 (l.drop 4) : Nat) := by
  have hd4 : ∀ k, (l.drop 4).getD k 0 = l.getD (4 + k) 0 := fun k => by simp [List.getD, List.getElem?_drop]
  exact le4_int (by rw [hd4, h0]) (by rw [hd4, h1]) (by rw [hd4, h2]) (by rw [hd4, h3])
theorem u8_at (l : List UInt8) (k : Nat) (h : k < l.length) : (u8s l)[k * 1]? = some (.int .u8 (l.getD k 0).toNat) := by
  rw [Nat.mul_one, u8s_get, List.getElem?_eq_getElem h]
  simp [List.getD, List.getElem?_eq_getElem h]
theorem le4_lt (l : List UInt8) : le4 l < 4294967296 := by
  have b0 := (l.getD 0 0).toNat_lt
  have b1 := (l.getD 1 0).toNat_lt
  have b2 := (l.getD 2 0).toNat_lt
  have b3 := (l.getD 3 0).toNat_lt
  unfold le4
  omega
/-- What read answers. -/
structure RdX where
  ok : Bool
  v : Value
  bs : List Bk
  fil : List UInt8
  g : Nat
  xA : Option Addr
  xc : Nat
  fA : Option Addr
  fc : Nat
abbrev rowK (A : Option Addr) (c : Nat) (bs : List Bk) : Chunk := row A bs.length c 80 4 (bs.flatMap Bk.enc)
/-- A reader's pieces, beside its bytes. -/
def rdrP (bA : Option Addr) (bn bc : Nat) (count looked : Int) (i : RdX) : List Chunk :=
  [blk i.g 75 [.slice bA bn bc, .slice i.xA i.bs.length i.xc, .slice i.fA i.fil.length i.fc, .int .i64 count, .int .i64 looked], rowK i.xA i.xc i.bs, rowB i.fA i.fc i.fil]
theorem elem_bks : Elem Try.prog 73 80 4 48 := elem_of (by kernel_rfl)
structure RdOk (b : List UInt8) (i : RdX) : Prop where
  no : i.ok = false → readT b = none
  yes : i.ok = true → readT b = some (i.bs, i.fil) ∧ i.v = .pointer (some ⟨i.g, 0, none⟩)
/-- What the loop over the index holds. -/
structure RdL where
  i : Nat
  rest : List UInt8
  bad : Bool
  bs : List Bk
  xA : Option Addr
  xc : Nat
  cA : Option Addr
  cc : Nat
structure RdI (en : Nat) (q : List UInt8) (j : RdL) : Prop where
  le : j.i ≤ (numC q).1
  cap : j.rest.length ≤ j.cc
  rl : j.rest.length ≤ 4096
  bl : j.bs.length ≤ 1025
  good : j.bad = false → 4 * j.bs.length + j.rest.length ≤ 4096 ∧ bksR en q = (bksC en ((numC q).1 - j.i) j.rest).map (j.bs ++ ·)
  bad : j.bad = true → bksR en q = none
theorem bksC_step {en n : Nat} {l : List UInt8} (h : 0 < n) : bksC en n l = if en < (bkC l).1.at_ ∨ en - (bkC l).1.at_ < (bkC l).1.size then none else bif (bkC l).2.2 then none else (bksC en (n - 1) (l.drop (bkC l).2.1)).map ((bkC l).1 :: ·) := by
  cases n with
  | zero => cases h
  | succ n => rfl
theorem RdI.start {en : Nat} {q : List UInt8} (hq : q.length ≤ 4096) (p : Option Addr × Nat) (hp : (q.drop (numC q).2.1).length ≤ p.2) : RdI en q ⟨0, q.drop (numC q).2.1, false || (numC q).2.2, [], none, 0, p.1, p.2⟩ := by
  have hl : (q.drop (numC q).2.1).length ≤ 4096 := by rw [List.length_drop]; omega
  refine ⟨Nat.zero_le _, hp, hl, Nat.zero_le _, fun h => ⟨by dsimp only; rw [List.length_nil]; omega, ?_⟩, fun h => ?_⟩
  · dsimp only at h ⊢
    rw [Bool.false_or] at h
    unfold bksR
    rw [h, cond_false, Nat.sub_zero]
    cases bksC en (numC q).1 (q.drop (numC q).2.1) <;> rfl
  · dsimp only at h
    rw [Bool.false_or] at h
    unfold bksR
    rw [h, cond_true]
theorem RdI.next {en i : Nat} {q rest : List UInt8} {bs : List Bk} {xA cA : Option Addr} {xc cc : Nat} (h : RdI en q ⟨i, rest, false, bs, xA, xc, cA, cc⟩) (hi : i < (numC q).1) (p o : Option Addr × Nat) (hp : (rest.drop (bkC rest).2.1).length ≤ p.2) :
    ((en < (bkC rest).1.at_ ∨ en - (bkC rest).1.at_ < (bkC rest).1.size) → bksR en q = none) ∧
    (¬ (en < (bkC rest).1.at_ ∨ en - (bkC rest).1.at_ < (bkC rest).1.size) → RdI en q ⟨i + 1, rest.drop (bkC rest).2.1, (bkC rest).2.2, bs ++ [(bkC rest).1], o.1, o.2, p.1, p.2⟩) := by
  obtain ⟨g1, g2⟩ := h.good rfl
  have hrl := h.rl
  have hk := bkC_le rest
  dsimp only at g1 g2 hrl
  rw [bksC_step (n := (numC q).1 - i) (Nat.sub_pos_of_lt hi)] at g2
  constructor
  · intro hx
    rw [g2, if_pos hx, Option.map_none]
  · intro hx
    rw [if_neg hx] at g2
    have hd : (rest.drop (bkC rest).2.1).length ≤ 4096 := by rw [List.length_drop]; omega
    refine ⟨?_, hp, hd, ?_, fun hb => ?_, fun hb => ?_⟩
    · dsimp only; exact Nat.succ_le_of_lt hi
    · dsimp only
      rw [List.length_append, List.length_cons, List.length_nil]
      omega
    · dsimp only at hb ⊢
      rw [hb, cond_false] at g2
      have h4 := hk.2.2.2 hb
      have h5 := hk.1
      refine ⟨?_, ?_⟩
      · revert h4 h5
        generalize (bkC rest).2.1 = k
        intro h4 h5
        rw [List.length_append, List.length_cons, List.length_nil, List.length_drop]
        omega
      · rw [g2, Option.map_map, Nat.sub_sub]
        congr 1
        funext x
        simp
    · dsimp only at hb
      rw [hb, cond_true, Option.map_none] at g2
      exact g2
theorem read_sl (A : Option Addr) (c : Nat) (b : List UInt8) (hc : b.length ≤ c) (hm : b.length ≤ 140737488355328) :
    Fn Try.prog 44 #[.slice A b.length c] [rdB A b] RdX (fun i => .tuple #[i.v, .bool i.ok]) (fun i => bif i.ok then rdrP A b.length c 0 0 i else []) (RdOk b) := by
  refine Fn.enter Try.func44 rfl Try.ntmps44 (by rfl) ?_
  intro w0
  skip
  refine Cd.seq ?_
  refine Cd.region ?_
  refine Ls.ev (some 2) (Ev.assign (show Oper.op _ = Op.assign (Operand.const (Value.pointer none)) from rfl) (by rfl)) (by rfl) (by rfl) ?_
  refine Ls.ev (some 3) (Ev.assign (show Oper.op _ = Op.assign (Operand.const (Value.bool false)) from rfl) (by rfl)) (by rfl) (by rfl) ?_
  refine Ls.nil ?_
  refine Cd.seq ?_
  refine Cd.seq ?_
  refine Cd.region ?_
  refine Ls.ev (some 19) (Ev.move (show Oper.op _ = Op.move (Operand.tmp 0) from rfl) (by rfl)) (by rfl) (by rfl) ?_
  refine Ls.ev (some 20) (Ev.len (show Oper.op _ = Op.call { callee := Callee.builtin Builtin.len, args := #[Operand.tmp 19], argTypes := #[25] } from rfl) (by rfl) Try.underlying25) (by rfl) (by rfl) ?_
  refine Ls.ev (some 21) (Ev.lss (show Oper.op _ = Op.binOp BinOp.lss 3 (Operand.tmp 20) (Operand.const (Value.int IntKind.i64 12)) 3 from rfl) (by rfl) (by rfl)) (by rfl) (by rfl) ?_
  refine Ls.nil ?_
  refine Cd.cond _ (by rfl) (fun h => ?_) (fun h => ?_)
  · skip
    have hb : b.length < 12 := by have := of_decide_eq_true h; omega
    refine Cd.seq ?_
    refine Cd.region ?_
    refine Ls.ev (some 2) (Ev.assign (show Oper.op _ = Op.assign (Operand.const (Value.pointer none)) from rfl) (by rfl)) (by rfl) (by rfl) ?_
    refine Ls.ev (some 3) (Ev.assign (show Oper.op _ = Op.assign (Operand.const (Value.bool false)) from rfl) (by rfl)) (by rfl) (by rfl) ?_
    refine Ls.nil ?_
    refine Cd.ret ?_
    refine Ent.ret (⟨false, .pointer none, [], [], 0, none, 0, none, 0⟩) (⟨fun _ => by unfold readT; rw [if_pos hb], fun h => (by cases h)⟩) (Res.tmp2 (by rfl) (by rfl) (by rfl)) ?_ [] (by rfl) ?_
    · rfl
    · rfl
  · skip
    have hb : ¬ b.length < 12 := by have := of_decide_eq_false h; omega
    refine Cd.skip ?_
    refine Cd.seq ?_
    refine Cd.region ?_
    refine Ls.ev (some 22) (Ev.move (show Oper.op _ = Op.move (Operand.tmp 0) from rfl) (by rfl)) (by rfl) (by rfl) ?_
    refine Ls.ev (some 23) (Ev.len (show Oper.op _ = Op.call { callee := Callee.builtin Builtin.len, args := #[Operand.tmp 22], argTypes := #[25] } from rfl) (by rfl) Try.underlying25) (by rfl) (by rfl) ?_
    refine Ls.ev (some 24) (Ev.subN (b := 12) (show Oper.op _ = Op.binOp BinOp.sub 3 (Operand.tmp 23) (Operand.const (Value.int IntKind.i64 12)) 3 from rfl) (by rfl) (by rfl) (by omega)) (by rfl) (by rfl) ?_
    refine Ls.ev (some 4) (Ev.assign (show Oper.op _ = Op.assign (Operand.tmp 24) from rfl) (by rfl)) (by rfl) (by rfl) ?_
    refine Ls.nil ?_
    refine Cd.seq ?_
    refine Cd.region ?_
    refine Ls.ev (some 25) (Ev.move (show Oper.op _ = Op.move (Operand.tmp 0) from rfl) (by rfl)) (by rfl) (by rfl) ?_
    refine Ls.ev (some 26) (Ev.move (show Oper.op _ = Op.move (Operand.tmp 4) from rfl) (by rfl)) (by rfl) (by rfl) ?_
    refine Ls.ev (some 27) (Ev.dropB (lo := b.length - 12) (show Oper.op _ = Op.slice 25 (Operand.tmp 25) (some (Operand.tmp 26)) none none from rfl) (by rfl) (by rfl) Try.underlying25 (by kernel_rfl) (by omega)) (by rfl) (by rfl) ?_
    refine Ls.ev (some 5) (Ev.assign (show Oper.op _ = Op.assign (Operand.tmp 27) from rfl) (by rfl)) (by rfl) (by rfl) ?_
    refine Ls.nil ?_
    refine Cd.seq ?_
    obtain ⟨en, hen⟩ : ∃ en, en = b.length - 12 := ⟨_, rfl⟩
    obtain ⟨tl, htl⟩ : ∃ tl, tl = b.drop (b.length - 12) := ⟨_, rfl⟩
    have htlen : tl.length = 12 := by rw [htl, List.length_drop]; omega
    refine Ent.dropB 0 (b.length - 12) c (by rfl) ⟨by omega, hc⟩ ?_
    rw [← htl, ← hen]
    generalize cutA A c en 1 = tA
    refine Ent.rdSome 0 (by rfl) (by omega) (fun ad had => ?_)
    subst had
    have k0 := u8_at tl 0 (by omega)
    have k1 := u8_at tl 1 (by omega)
    have k2 := u8_at tl 2 (by omega)
    have k3 := u8_at tl 3 (by omega)
    have k4 := u8_at tl 4 (by omega)
    have k5 := u8_at tl 5 (by omega)
    have k6 := u8_at tl 6 (by omega)
    have k7 := u8_at tl 7 (by omega)
    have b0 := (tl.getD 0 0).toNat_lt
    have b1 := (tl.getD 1 0).toNat_lt
    have b2 := (tl.getD 2 0).toNat_lt
    have b3 := (tl.getD 3 0).toNat_lt
    have b4 := (tl.getD 4 0).toNat_lt
    have b5 := (tl.getD 5 0).toNat_lt
    have b6 := (tl.getD 6 0).toNat_lt
    have b7 := (tl.getD 7 0).toNat_lt
    refine Cd.draw [] (by kernel_rfl) ?_
    refine Rg.ev 0 (by rfl) (fun _ h => h) (Ev.move (show Oper.op _ = Op.move (Operand.tmp 5) from rfl) (by rfl)) (by rfl) (some 28) (by rfl) (by kernel_rfl) (by kernel_rfl) (by kernel_rfl) (by kernel_rfl) ?_
    refine Rg.ev 1 (by rfl) (fun _ h => h) (Ev.indexAt (k := 4) (sz := 1) (show Oper.op _ = Op.indexAddr 25 (Operand.tmp 28) (Operand.const (Value.int IntKind.i64 4)) from rfl) (by rfl) (by rfl) Try.underlying25 (by kernel_rfl) (by omega)) (by rfl) (some 29) (by rfl) (by kernel_rfl) (by kernel_rfl) (by kernel_rfl) (by kernel_rfl) ?_
    refine Rg.ev 2 (by rfl) (fun _ h => h) (Ev.loadR 0 (show Oper.op _ = Op.load 5 (Operand.tmp 29) from rfl) (by rfl) (by rfl) (by kernel_rfl) (by omega) (by assumption)) (by rfl) (some 30) (by rfl) (by kernel_rfl) (by kernel_rfl) (by kernel_rfl) (by kernel_rfl) ?_
    refine Rg.ev 3 (by rfl) (fun _ h => h) (Ev.convI (show Oper.op _ = Op.convert 5 3 (Operand.tmp 30) from rfl) (by rfl) (by kernel_rfl) Try.underlying3 (by omega)) (by rfl) (some 31) (by rfl) (by kernel_rfl) (by kernel_rfl) (by kernel_rfl) (by kernel_rfl) ?_
    refine Rg.ev 4 (by rfl) (fun _ h => h) (Ev.move (show Oper.op _ = Op.move (Operand.tmp 5) from rfl) (by rfl)) (by rfl) (some 32) (by rfl) (by kernel_rfl) (by kernel_rfl) (by kernel_rfl) (by kernel_rfl) ?_
    refine Rg.ev 5 (by rfl) (fun _ h => h) (Ev.indexAt (k := 5) (sz := 1) (show Oper.op _ = Op.indexAddr 25 (Operand.tmp 32) (Operand.const (Value.int IntKind.i64 5)) from rfl) (by rfl) (by rfl) Try.underlying25 (by kernel_rfl) (by omega)) (by rfl) (some 33) (by rfl) (by kernel_rfl) (by kernel_rfl) (by kernel_rfl) (by kernel_rfl) ?_
    refine Rg.ev 6 (by rfl) (fun _ h => h) (Ev.loadR 0 (show Oper.op _ = Op.load 5 (Operand.tmp 33) from rfl) (by rfl) (by rfl) (by kernel_rfl) (by omega) (by assumption)) (by rfl) (some 34) (by rfl) (by kernel_rfl) (by kernel_rfl) (by kernel_rfl) (by kernel_rfl) ?_
    refine Rg.ev 7 (by rfl) (fun _ h => h) (Ev.convI (show Oper.op _ = Op.convert 5 3 (Operand.tmp 34) from rfl) (by rfl) (by kernel_rfl) Try.underlying3 (by omega)) (by rfl) (some 35) (by rfl) (by kernel_rfl) (by kernel_rfl) (by kernel_rfl) (by kernel_rfl) ?_
    refine Rg.ev 8 (by rfl) (fun _ h => h) (Ev.shl (show Oper.op _ = Op.binOp BinOp.shl 3 (Operand.tmp 35) (Operand.const (Value.int IntKind.u64 8)) 89 from rfl) (by rfl) (by rfl) (by omega)) (by rfl) (some 36) (by rfl) (by kernel_rfl) (by kernel_rfl) (by kernel_rfl) (by kernel_rfl) ?_
    refine Rg.ev 9 (by rfl) (fun _ h => h) (Ev.or (show Oper.op _ = Op.binOp BinOp.or 3 (Operand.tmp 31) (Operand.tmp 36) 3 from rfl) (by rfl) (by rfl)) (by rfl) (some 37) (by rfl) (by kernel_rfl) (by kernel_rfl) (by kernel_rfl) (by kernel_rfl) ?_
    refine Rg.ev 10 (by rfl) (fun _ h => h) (Ev.move (show Oper.op _ = Op.move (Operand.tmp 5) from rfl) (by rfl)) (by rfl) (some 38) (by rfl) (by kernel_rfl) (by kernel_rfl) (by kernel_rfl) (by kernel_rfl) ?_
    refine Rg.ev 11 (by rfl) (fun _ h => h) (Ev.indexAt (k := 6) (sz := 1) (show Oper.op _ = Op.indexAddr 25 (Operand.tmp 38) (Operand.const (Value.int IntKind.i64 6)) from rfl) (by rfl) (by rfl) Try.underlying25 (by kernel_rfl) (by omega)) (by rfl) (some 39) (by rfl) (by kernel_rfl) (by kernel_rfl) (by kernel_rfl) (by kernel_rfl) ?_
    refine Rg.ev 12 (by rfl) (fun _ h => h) (Ev.loadR 0 (show Oper.op _ = Op.load 5 (Operand.tmp 39) from rfl) (by rfl) (by rfl) (by kernel_rfl) (by omega) (by assumption)) (by rfl) (some 40) (by rfl) (by kernel_rfl) (by kernel_rfl) (by kernel_rfl) (by kernel_rfl) ?_
    refine Rg.ev 13 (by rfl) (fun _ h => h) (Ev.convI (show Oper.op _ = Op.convert 5 3 (Operand.tmp 40) from rfl) (by rfl) (by kernel_rfl) Try.underlying3 (by omega)) (by rfl) (some 41) (by rfl) (by kernel_rfl) (by kernel_rfl) (by kernel_rfl) (by kernel_rfl) ?_
    refine Rg.ev 14 (by rfl) (fun _ h => h) (Ev.shl (show Oper.op _ = Op.binOp BinOp.shl 3 (Operand.tmp 41) (Operand.const (Value.int IntKind.u64 16)) 89 from rfl) (by rfl) (by rfl) (by omega)) (by rfl) (some 42) (by rfl) (by kernel_rfl) (by kernel_rfl) (by kernel_rfl) (by kernel_rfl) ?_
    refine Rg.ev 15 (by rfl) (fun _ h => h) (Ev.or (show Oper.op _ = Op.binOp BinOp.or 3 (Operand.tmp 37) (Operand.tmp 42) 3 from rfl) (by rfl) (by rfl)) (by rfl) (some 43) (by rfl) (by kernel_rfl) (by kernel_rfl) (by kernel_rfl) (by kernel_rfl) ?_
    refine Rg.ev 16 (by rfl) (fun _ h => h) (Ev.move (show Oper.op _ = Op.move (Operand.tmp 5) from rfl) (by rfl)) (by rfl) (some 44) (by rfl) (by kernel_rfl) (by kernel_rfl) (by kernel_rfl) (by kernel_rfl) ?_
    refine Rg.ev 17 (by rfl) (fun _ h => h) (Ev.indexAt (k := 7) (sz := 1) (show Oper.op _ = Op.indexAddr 25 (Operand.tmp 44) (Operand.const (Value.int IntKind.i64 7)) from rfl) (by rfl) (by rfl) Try.underlying25 (by kernel_rfl) (by omega)) (by rfl) (some 45) (by rfl) (by kernel_rfl) (by kernel_rfl) (by kernel_rfl) (by kernel_rfl) ?_
    refine Rg.ev 18 (by rfl) (fun _ h => h) (Ev.loadR 0 (show Oper.op _ = Op.load 5 (Operand.tmp 45) from rfl) (by rfl) (by rfl) (by kernel_rfl) (by omega) (by assumption)) (by rfl) (some 46) (by rfl) (by kernel_rfl) (by kernel_rfl) (by kernel_rfl) (by kernel_rfl) ?_
    refine Rg.ev 19 (by rfl) (fun _ h => h) (Ev.convI (show Oper.op _ = Op.convert 5 3 (Operand.tmp 46) from rfl) (by rfl) (by kernel_rfl) Try.underlying3 (by omega)) (by rfl) (some 47) (by rfl) (by kernel_rfl) (by kernel_rfl) (by kernel_rfl) (by kernel_rfl) ?_
    refine Rg.ev 20 (by rfl) (fun _ h => h) (Ev.shl (show Oper.op _ = Op.binOp BinOp.shl 3 (Operand.tmp 47) (Operand.const (Value.int IntKind.u64 24)) 89 from rfl) (by rfl) (by rfl) (by omega)) (by rfl) (some 48) (by rfl) (by kernel_rfl) (by kernel_rfl) (by kernel_rfl) (by kernel_rfl) ?_
    refine Rg.ev 21 (by rfl) (fun _ h => h) (Ev.or (show Oper.op _ = Op.binOp BinOp.or 3 (Operand.tmp 43) (Operand.tmp 48) 3 from rfl) (by rfl) (by rfl)) (by rfl) (some 49) (by rfl) (by kernel_rfl) (by kernel_rfl) (by kernel_rfl) (by kernel_rfl) ?_
    refine Rg.ev 22 (by rfl) (fun _ h => h) (Ev.to (v' := .int .i64 (le4 (tl.drop 4) : Nat)) (Ev.assign (show Oper.op _ = Op.assign (Operand.tmp 49) from rfl) (by rfl)) (by exact congrArg (Value.int .i64) (le4_int4 (l := tl) rfl rfl rfl rfl))) (by rfl) (some 6) (by rfl) (by kernel_rfl) (by kernel_rfl) (by kernel_rfl) (by kernel_rfl) ?_
    refine Rg.done (by kernel_rfl) ?_ _
    refine Cd.seq ?_
    refine Cd.draw [] (by kernel_rfl) ?_
    refine Rg.ev 0 (by rfl) (fun _ h => h) (Ev.move (show Oper.op _ = Op.move (Operand.tmp 5) from rfl) (by rfl)) (by rfl) (some 50) (by rfl) (by kernel_rfl) (by kernel_rfl) (by kernel_rfl) (by kernel_rfl) ?_
    refine Rg.ev 1 (by rfl) (fun _ h => h) (Ev.indexAt (k := 0) (sz := 1) (show Oper.op _ = Op.indexAddr 25 (Operand.tmp 50) (Operand.const (Value.int IntKind.i64 0)) from rfl) (by rfl) (by rfl) Try.underlying25 (by kernel_rfl) (by omega)) (by rfl) (some 51) (by rfl) (by kernel_rfl) (by kernel_rfl) (by kernel_rfl) (by kernel_rfl) ?_
    refine Rg.ev 2 (by rfl) (fun _ h => h) (Ev.loadR 0 (show Oper.op _ = Op.load 5 (Operand.tmp 51) from rfl) (by rfl) (by rfl) (by kernel_rfl) (by omega) (by assumption)) (by rfl) (some 52) (by rfl) (by kernel_rfl) (by kernel_rfl) (by kernel_rfl) (by kernel_rfl) ?_
    refine Rg.ev 3 (by rfl) (fun _ h => h) (Ev.convI (show Oper.op _ = Op.convert 5 3 (Operand.tmp 52) from rfl) (by rfl) (by kernel_rfl) Try.underlying3 (by omega)) (by rfl) (some 53) (by rfl) (by kernel_rfl) (by kernel_rfl) (by kernel_rfl) (by kernel_rfl) ?_
    refine Rg.ev 4 (by rfl) (fun _ h => h) (Ev.move (show Oper.op _ = Op.move (Operand.tmp 5) from rfl) (by rfl)) (by rfl) (some 54) (by rfl) (by kernel_rfl) (by kernel_rfl) (by kernel_rfl) (by kernel_rfl) ?_
    refine Rg.ev 5 (by rfl) (fun _ h => h) (Ev.indexAt (k := 1) (sz := 1) (show Oper.op _ = Op.indexAddr 25 (Operand.tmp 54) (Operand.const (Value.int IntKind.i64 1)) from rfl) (by rfl) (by rfl) Try.underlying25 (by kernel_rfl) (by omega)) (by rfl) (some 55) (by rfl) (by kernel_rfl) (by kernel_rfl) (by kernel_rfl) (by kernel_rfl) ?_
    refine Rg.ev 6 (by rfl) (fun _ h => h) (Ev.loadR 0 (show Oper.op _ = Op.load 5 (Operand.tmp 55) from rfl) (by rfl) (by rfl) (by kernel_rfl) (by omega) (by assumption)) (by rfl) (some 56) (by rfl) (by kernel_rfl) (by kernel_rfl) (by kernel_rfl) (by kernel_rfl) ?_
    refine Rg.ev 7 (by rfl) (fun _ h => h) (Ev.convI (show Oper.op _ = Op.convert 5 3 (Operand.tmp 56) from rfl) (by rfl) (by kernel_rfl) Try.underlying3 (by omega)) (by rfl) (some 57) (by rfl) (by kernel_rfl) (by kernel_rfl) (by kernel_rfl) (by kernel_rfl) ?_
    refine Rg.ev 8 (by rfl) (fun _ h => h) (Ev.shl (show Oper.op _ = Op.binOp BinOp.shl 3 (Operand.tmp 57) (Operand.const (Value.int IntKind.u64 8)) 89 from rfl) (by rfl) (by rfl) (by omega)) (by rfl) (some 58) (by rfl) (by kernel_rfl) (by kernel_rfl) (by kernel_rfl) (by kernel_rfl) ?_
    refine Rg.ev 9 (by rfl) (fun _ h => h) (Ev.or (show Oper.op _ = Op.binOp BinOp.or 3 (Operand.tmp 53) (Operand.tmp 58) 3 from rfl) (by rfl) (by rfl)) (by rfl) (some 59) (by rfl) (by kernel_rfl) (by kernel_rfl) (by kernel_rfl) (by kernel_rfl) ?_
    refine Rg.ev 10 (by rfl) (fun _ h => h) (Ev.move (show Oper.op _ = Op.move (Operand.tmp 5) from rfl) (by rfl)) (by rfl) (some 60) (by rfl) (by kernel_rfl) (by kernel_rfl) (by kernel_rfl) (by kernel_rfl) ?_
    refine Rg.ev 11 (by rfl) (fun _ h => h) (Ev.indexAt (k := 2) (sz := 1) (show Oper.op _ = Op.indexAddr 25 (Operand.tmp 60) (Operand.const (Value.int IntKind.i64 2)) from rfl) (by rfl) (by rfl) Try.underlying25 (by kernel_rfl) (by omega)) (by rfl) (some 61) (by rfl) (by kernel_rfl) (by kernel_rfl) (by kernel_rfl) (by kernel_rfl) ?_
    refine Rg.ev 12 (by rfl) (fun _ h => h) (Ev.loadR 0 (show Oper.op _ = Op.load 5 (Operand.tmp 61) from rfl) (by rfl) (by rfl) (by kernel_rfl) (by omega) (by assumption)) (by rfl) (some 62) (by rfl) (by kernel_rfl) (by kernel_rfl) (by kernel_rfl) (by kernel_rfl) ?_
    refine Rg.ev 13 (by rfl) (fun _ h => h) (Ev.convI (show Oper.op _ = Op.convert 5 3 (Operand.tmp 62) from rfl) (by rfl) (by kernel_rfl) Try.underlying3 (by omega)) (by rfl) (some 63) (by rfl) (by kernel_rfl) (by kernel_rfl) (by kernel_rfl) (by kernel_rfl) ?_
    refine Rg.ev 14 (by rfl) (fun _ h => h) (Ev.shl (show Oper.op _ = Op.binOp BinOp.shl 3 (Operand.tmp 63) (Operand.const (Value.int IntKind.u64 16)) 89 from rfl) (by rfl) (by rfl) (by omega)) (by rfl) (some 64) (by rfl) (by kernel_rfl) (by kernel_rfl) (by kernel_rfl) (by kernel_rfl) ?_
    refine Rg.ev 15 (by rfl) (fun _ h => h) (Ev.or (show Oper.op _ = Op.binOp BinOp.or 3 (Operand.tmp 59) (Operand.tmp 64) 3 from rfl) (by rfl) (by rfl)) (by rfl) (some 65) (by rfl) (by kernel_rfl) (by kernel_rfl) (by kernel_rfl) (by kernel_rfl) ?_
    refine Rg.ev 16 (by rfl) (fun _ h => h) (Ev.move (show Oper.op _ = Op.move (Operand.tmp 5) from rfl) (by rfl)) (by rfl) (some 66) (by rfl) (by kernel_rfl) (by kernel_rfl) (by kernel_rfl) (by kernel_rfl) ?_
    refine Rg.ev 17 (by rfl) (fun _ h => h) (Ev.indexAt (k := 3) (sz := 1) (show Oper.op _ = Op.indexAddr 25 (Operand.tmp 66) (Operand.const (Value.int IntKind.i64 3)) from rfl) (by rfl) (by rfl) Try.underlying25 (by kernel_rfl) (by omega)) (by rfl) (some 67) (by rfl) (by kernel_rfl) (by kernel_rfl) (by kernel_rfl) (by kernel_rfl) ?_
    refine Rg.ev 18 (by rfl) (fun _ h => h) (Ev.loadR 0 (show Oper.op _ = Op.load 5 (Operand.tmp 67) from rfl) (by rfl) (by rfl) (by kernel_rfl) (by omega) (by assumption)) (by rfl) (some 68) (by rfl) (by kernel_rfl) (by kernel_rfl) (by kernel_rfl) (by kernel_rfl) ?_
    refine Rg.ev 19 (by rfl) (fun _ h => h) (Ev.convI (show Oper.op _ = Op.convert 5 3 (Operand.tmp 68) from rfl) (by rfl) (by kernel_rfl) Try.underlying3 (by omega)) (by rfl) (some 69) (by rfl) (by kernel_rfl) (by kernel_rfl) (by kernel_rfl) (by kernel_rfl) ?_
    refine Rg.ev 20 (by rfl) (fun _ h => h) (Ev.shl (show Oper.op _ = Op.binOp BinOp.shl 3 (Operand.tmp 69) (Operand.const (Value.int IntKind.u64 24)) 89 from rfl) (by rfl) (by rfl) (by omega)) (by rfl) (some 70) (by rfl) (by kernel_rfl) (by kernel_rfl) (by kernel_rfl) (by kernel_rfl) ?_
    refine Rg.ev 21 (by rfl) (fun _ h => h) (Ev.or (show Oper.op _ = Op.binOp BinOp.or 3 (Operand.tmp 65) (Operand.tmp 70) 3 from rfl) (by rfl) (by rfl)) (by rfl) (some 71) (by rfl) (by kernel_rfl) (by kernel_rfl) (by kernel_rfl) (by kernel_rfl) ?_
    refine Rg.ev 22 (by rfl) (fun _ h => h) (Ev.to (v' := .int .i64 (le4 tl : Nat)) (Ev.assign (show Oper.op _ = Op.assign (Operand.tmp 71) from rfl) (by rfl)) (by exact congrArg (Value.int .i64) (le4_int (l := tl) rfl rfl rfl rfl))) (by rfl) (some 7) (by rfl) (by kernel_rfl) (by kernel_rfl) (by kernel_rfl) (by kernel_rfl) ?_
    refine Rg.done (by kernel_rfl) ?_ _
    refine Cd.seq ?_
    refine Cd.seq ?_
    refine Ent.norm ([(0, .slice A b.length c), (4, .int .i64 en), (6, .int .i64 (le4 (tl.drop 4) : Nat)), (7, .int .i64 (le4 tl : Nat))]) ([rdB (some ad) tl, rdB A b]) (by repeat (first | exact trivial | refine ⟨by rfl, ?_⟩ | refine ⟨by simp only [List.length_append, List.length_cons, List.length_nil]; rfl, ?_⟩ | refine ⟨by push_cast; rfl, ?_⟩)) (by rfl) ?_
    have hat := le4_lt (tl.drop 4)
    have hfr := le4_lt tl
    have hrd : readT b = if en < le4 tl ∨ en < le4 (tl.drop 4) then none else readU b en (le4 tl) (le4 (tl.drop 4)) := by
      unfold readT
      rw [if_neg hb, ← htl, ← hen]
    clear k0 k1 k2 k3 k4 k5 k6 k7 b0 b1 b2 b3 b4 b5 b6 b7 htl
    revert hat hfr hrd
    generalize le4 (tl.drop 4) = at_
    generalize le4 tl = fr
    intro hat hfr hrd
    refine Ent.pick [1] (by rfl) ?_
    refine Cd.cut (ι := Unit) (fun _ => [(0, .slice A b.length c), (4, .int .i64 en), (6, .int .i64 at_), (7, .int .i64 fr), (79, .bool (decide (en < fr ∨ en < at_)))]) (fun _ => [rdB A b]) (fun _ => True) ?_ ?_
    · skip
      refine Cd.region ?_
      refine Ls.ev (some 72) (Ev.move (show Oper.op _ = Op.move (Operand.tmp 7) from rfl) (by rfl)) (by rfl) (by rfl) ?_
      refine Ls.ev (some 73) (Ev.move (show Oper.op _ = Op.move (Operand.tmp 4) from rfl) (by rfl)) (by rfl) (by rfl) ?_
      refine Ls.ev (some 74) (Ev.gtr (show Oper.op _ = Op.binOp BinOp.gtr 3 (Operand.tmp 72) (Operand.tmp 73) 3 from rfl) (by rfl) (by rfl)) (by rfl) (by rfl) ?_
      refine Ls.ev (some 75) (Ev.move (show Oper.op _ = Op.move (Operand.tmp 74) from rfl) (by rfl)) (by rfl) (by rfl) ?_
      refine Ent.split 75 (by rfl) (fun h1 => ?_) (fun h1 => ?_)
      · skip
        have h1 := of_decide_eq_false h1
        refine Ls.ev (some 76) (Ev.move (show Oper.op _ = Op.move (Operand.tmp 6) from rfl) (by rfl)) (by rfl) (by rfl) ?_
        refine Ls.ev (some 77) (Ev.move (show Oper.op _ = Op.move (Operand.tmp 4) from rfl) (by rfl)) (by rfl) (by rfl) ?_
        refine Ls.ev (some 78) (Ev.gtr (show Oper.op _ = Op.binOp BinOp.gtr 3 (Operand.tmp 76) (Operand.tmp 77) 3 from rfl) (by rfl) (by rfl)) (by rfl) (by rfl) ?_
        refine Ls.ev (some 79) (Ev.pickF (show Oper.op _ = Op.pick (Operand.tmp 75) (Operand.const (Value.bool true)) (Operand.tmp 78) from rfl) (by rfl) (by rfl)) (by rfl) (by rfl) ?_
        refine Ls.nil ?_
        refine Ent.inv (()) ?_ ?_ ?_
        · (try dsimp only); skip
        · (repeat (first | exact trivial | refine ⟨by rfl, ?_⟩ | refine ⟨by simp only [List.length_append, List.length_cons, List.length_nil]; rfl, ?_⟩ | refine ⟨by push_cast; rfl, ?_⟩ | refine ⟨by (show some (Value.bool _) = some (Value.bool _); congr 2; rw [decide_eq_decide]; omega), ?_⟩))
        · rfl
      · skip
        have h1 := of_decide_eq_true h1
        refine Ls.pass (some 76) (by rfl) (by rfl) ?_
        refine Ls.pass (some 77) (by rfl) (by rfl) ?_
        refine Ls.pass (some 78) (by rfl) (by rfl) ?_
        refine Ls.ev (some 79) (Ev.pickT (show Oper.op _ = Op.pick (Operand.tmp 75) (Operand.const (Value.bool true)) (Operand.tmp 78) from rfl) (by rfl) (by rfl)) (by rfl) (by rfl) ?_
        refine Ls.nil ?_
        refine Ent.inv (()) ?_ ?_ ?_
        · (try dsimp only); skip
        · (repeat (first | exact trivial | refine ⟨by rfl, ?_⟩ | refine ⟨by simp only [List.length_append, List.length_cons, List.length_nil]; rfl, ?_⟩ | refine ⟨by push_cast; rfl, ?_⟩ | refine ⟨by (show some (Value.bool _) = some (Value.bool _); congr 2; exact (decide_eq_true (by omega)).symm), ?_⟩))
        · rfl
    skip
    rintro _ -
    refine Cd.cond _ (by rfl) (fun h1 => ?_) (fun h1 => ?_)
    · skip
      rw [if_pos (of_decide_eq_true h1)] at hrd
      refine Cd.seq ?_
      refine Cd.region ?_
      refine Ls.ev (some 2) (Ev.assign (show Oper.op _ = Op.assign (Operand.const (Value.pointer none)) from rfl) (by rfl)) (by rfl) (by rfl) ?_
      refine Ls.ev (some 3) (Ev.assign (show Oper.op _ = Op.assign (Operand.const (Value.bool false)) from rfl) (by rfl)) (by rfl) (by rfl) ?_
      refine Ls.nil ?_
      refine Cd.ret ?_
      refine Ent.ret (⟨false, .pointer none, [], [], 0, none, 0, none, 0⟩) (⟨fun _ => hrd, fun h => (by cases h)⟩) (Res.tmp2 (by rfl) (by rfl) (by rfl)) ?_ [] (by rfl) ?_
      · rfl
      · rfl
    · skip
      have h1 := of_decide_eq_false h1
      rw [if_neg h1] at hrd
      refine Cd.skip ?_
      refine Cd.seq ?_
      refine Cd.region ?_
      refine Ls.ev (some 81) (Ev.move (show Oper.op _ = Op.move (Operand.tmp 0) from rfl) (by rfl)) (by rfl) (by rfl) ?_
      refine Ls.ev (some 82) (Ev.move (show Oper.op _ = Op.move (Operand.tmp 6) from rfl) (by rfl)) (by rfl) (by rfl) ?_
      refine Ls.ev (some 83) (Ev.move (show Oper.op _ = Op.move (Operand.tmp 4) from rfl) (by rfl)) (by rfl) (by rfl) ?_
      refine Ls.ev (some 84) (Ev.cutB (lo := at_) (hi := en) (show Oper.op _ = Op.slice 25 (Operand.tmp 81) (some (Operand.tmp 82)) (some (Operand.tmp 83)) none from rfl) (by rfl) (by rfl) (by rfl) Try.underlying25 (by kernel_rfl) ⟨by omega, by omega, hc⟩) (by rfl) (by rfl) ?_
      refine Ent.cutB 0 at_ en c (by rfl) ⟨by omega, by omega, by omega⟩ ?_
      refine Ls.does (some 85) (Does.readN (show Oper.op _ = Op.call { callee := Callee.value (Operand.func 60), args := #[Operand.tmp 84], argTypes := #[25] } from rfl) Try.func60 (by kernel_rfl) (by kernel_rfl) (take_slP (cutA A c at_ 1) (c - at_) ((b.drop at_).take (en - at_)) (by rw [List.length_take, List.length_drop]; omega) (by rw [List.length_take, List.length_drop]; unfold maxLen; omega)) (by rfl) (by rfl) ⟨ReadsIn.rd 0 (by rfl), trivial⟩ (fun _ => by rfl)) (by rfl) (by rfl) ?_
      intro p1 _
      refine Ls.ev (some 80) (Ev.move (show Oper.op _ = Op.move (Operand.tmp 85) from rfl) (by rfl)) (by rfl) (by rfl) ?_
      refine Ls.ev (some 86) (Ev.extract (show Oper.op _ = Op.extract (Operand.tmp 80) 0 from rfl) (by rfl) (by rfl)) (by rfl) (by rfl) ?_
      refine Ls.ev (some 87) (Ev.extract (show Oper.op _ = Op.extract (Operand.tmp 80) 1 from rfl) (by rfl) (by rfl)) (by rfl) (by rfl) ?_
      refine Ls.ev (some 88) (Ev.extract (show Oper.op _ = Op.extract (Operand.tmp 80) 2 from rfl) (by rfl) (by rfl)) (by rfl) (by rfl) ?_
      refine Ls.ev (some 8) (Ev.assign (show Oper.op _ = Op.assign (Operand.tmp 86) from rfl) (by rfl)) (by rfl) (by rfl) ?_
      refine Ls.ev (some 9) (Ev.assign (show Oper.op _ = Op.assign (Operand.tmp 87) from rfl) (by rfl)) (by rfl) (by rfl) ?_
      refine Ls.ev (some 10) (Ev.assign (show Oper.op _ = Op.assign (Operand.tmp 88) from rfl) (by rfl)) (by rfl) (by rfl) ?_
      refine Ls.nil ?_
      refine Cd.seq ?_
      refine Cd.region ?_
      refine Ls.ev (some 90) (Ev.move (show Oper.op _ = Op.move (Operand.tmp 0) from rfl) (by rfl)) (by rfl) (by rfl) ?_
      refine Ls.ev (some 91) (Ev.move (show Oper.op _ = Op.move (Operand.tmp 7) from rfl) (by rfl)) (by rfl) (by rfl) ?_
      refine Ls.ev (some 92) (Ev.move (show Oper.op _ = Op.move (Operand.tmp 4) from rfl) (by rfl)) (by rfl) (by rfl) ?_
      refine Ls.ev (some 93) (Ev.cutB (lo := fr) (hi := en) (show Oper.op _ = Op.slice 25 (Operand.tmp 90) (some (Operand.tmp 91)) (some (Operand.tmp 92)) none from rfl) (by rfl) (by rfl) (by rfl) Try.underlying25 (by kernel_rfl) ⟨by omega, by omega, hc⟩) (by rfl) (by rfl) ?_
      refine Ent.cutB 2 fr en c (by rfl) ⟨by omega, by omega, by omega⟩ ?_
      refine Ls.does (some 94) (Does.readN (show Oper.op _ = Op.call { callee := Callee.value (Operand.func 60), args := #[Operand.tmp 93], argTypes := #[25] } from rfl) Try.func60 (by kernel_rfl) (by kernel_rfl) (take_slP (cutA A c fr 1) (c - fr) ((b.drop fr).take (en - fr)) (by rw [List.length_take, List.length_drop]; omega) (by rw [List.length_take, List.length_drop]; unfold maxLen; omega)) (by rfl) (by rfl) ⟨ReadsIn.rd 0 (by rfl), trivial⟩ (fun _ => by rfl)) (by rfl) (by rfl) ?_
      intro p2 _
      refine Ls.ev (some 89) (Ev.move (show Oper.op _ = Op.move (Operand.tmp 94) from rfl) (by rfl)) (by rfl) (by rfl) ?_
      refine Ls.ev (some 95) (Ev.extract (show Oper.op _ = Op.extract (Operand.tmp 89) 0 from rfl) (by rfl) (by rfl)) (by rfl) (by rfl) ?_
      refine Ls.ev (some 96) (Ev.extract (show Oper.op _ = Op.extract (Operand.tmp 89) 1 from rfl) (by rfl) (by rfl)) (by rfl) (by rfl) ?_
      refine Ls.ev (some 97) (Ev.extract (show Oper.op _ = Op.extract (Operand.tmp 89) 2 from rfl) (by rfl) (by rfl)) (by rfl) (by rfl) ?_
      refine Ls.ev (some 11) (Ev.assign (show Oper.op _ = Op.assign (Operand.tmp 95) from rfl) (by rfl)) (by rfl) (by rfl) ?_
      refine Ls.ev (some 12) (Ev.assign (show Oper.op _ = Op.assign (Operand.tmp 96) from rfl) (by rfl)) (by rfl) (by rfl) ?_
      refine Ls.ev (some 13) (Ev.assign (show Oper.op _ = Op.assign (Operand.tmp 97) from rfl) (by rfl)) (by rfl) (by rfl) ?_
      refine Ls.nil ?_
      refine Cd.seq ?_
      refine Cd.seq ?_
      refine Ent.fact 2 (by rfl) (p := (payF ((b.drop at_).take (en - at_))).length ≤ p1.2) (fun w hw => Own.le hw) (fun hpc => ?_)
      refine Ent.see 2 (by rfl) (Ent.pick [2, 0, 4] (by rfl) ?_)
      have hq := payF_le ((b.drop at_).take (en - at_))
      obtain ⟨q, hqe⟩ : ∃ q, q = payF ((b.drop at_).take (en - at_)) := ⟨_, rfl⟩
      obtain ⟨f, hfe⟩ : ∃ f, f = payF ((b.drop fr).take (en - fr)) := ⟨_, rfl⟩
      refine Cd.cut (ι := Unit) (fun _ => [(0, .slice A b.length c), (4, .int .i64 en), (8, .slice p1.1 q.length p1.2), (11, .slice p2.1 f.length p2.2), (103, .bool (decide (erF ((b.drop at_).take (en - at_)) ≠ 0 ∨ erF ((b.drop fr).take (en - fr)) ≠ 0)))]) (fun _ => [rdB p1.1 q, rowB p2.1 p2.2 f, rdB A b]) (fun _ => True) ?_ ?_
      · skip
        rw [hqe, hfe]
        refine Cd.region ?_
        refine Ls.ev (some 98) (Ev.move (show Oper.op _ = Op.move (Operand.tmp 10) from rfl) (by rfl)) (by rfl) (by rfl) ?_
        refine Ls.ev (some 99) (Ev.neq (show Oper.op _ = Op.binOp BinOp.neq 26 (Operand.tmp 98) (Operand.const (Value.int IntKind.i64 0)) 26 from rfl) (by rfl) (by rfl)) (by rfl) (by rfl) ?_
        refine Ls.ev (some 100) (Ev.move (show Oper.op _ = Op.move (Operand.tmp 99) from rfl) (by rfl)) (by rfl) (by rfl) ?_
        refine Ent.split 100 (by rfl) (fun h2 => ?_) (fun h2 => ?_)
        · skip
          have h2 := of_decide_eq_false h2
          refine Ls.ev (some 101) (Ev.move (show Oper.op _ = Op.move (Operand.tmp 13) from rfl) (by rfl)) (by rfl) (by rfl) ?_
          refine Ls.ev (some 102) (Ev.neq (show Oper.op _ = Op.binOp BinOp.neq 26 (Operand.tmp 101) (Operand.const (Value.int IntKind.i64 0)) 26 from rfl) (by rfl) (by rfl)) (by rfl) (by rfl) ?_
          refine Ls.ev (some 103) (Ev.pickF (show Oper.op _ = Op.pick (Operand.tmp 100) (Operand.const (Value.bool true)) (Operand.tmp 102) from rfl) (by rfl) (by rfl)) (by rfl) (by rfl) ?_
          refine Ls.nil ?_
          refine Ent.inv (()) ?_ ?_ ?_
          · (try dsimp only); skip
          · (repeat (first | exact trivial | refine ⟨by rfl, ?_⟩ | refine ⟨by simp only [List.length_append, List.length_cons, List.length_nil]; rfl, ?_⟩ | refine ⟨by push_cast; rfl, ?_⟩ | refine ⟨by (show some (Value.bool _) = some (Value.bool _); congr 2; rw [decide_eq_decide]; exact ⟨fun h => .inr h, fun h => h.elim (fun h => absurd h h2) id⟩), ?_⟩))
          · rfl
        · skip
          have h2 := of_decide_eq_true h2
          refine Ls.pass (some 101) (by rfl) (by rfl) ?_
          refine Ls.pass (some 102) (by rfl) (by rfl) ?_
          refine Ls.ev (some 103) (Ev.pickT (show Oper.op _ = Op.pick (Operand.tmp 100) (Operand.const (Value.bool true)) (Operand.tmp 102) from rfl) (by rfl) (by rfl)) (by rfl) (by rfl) ?_
          refine Ls.nil ?_
          refine Ent.inv (()) ?_ ?_ ?_
          · (try dsimp only); skip
          · (repeat (first | exact trivial | refine ⟨by rfl, ?_⟩ | refine ⟨by simp only [List.length_append, List.length_cons, List.length_nil]; rfl, ?_⟩ | refine ⟨by push_cast; rfl, ?_⟩ | refine ⟨by (show some (Value.bool _) = some (Value.bool _); congr 2; exact (decide_eq_true (.inl h2)).symm), ?_⟩))
          · rfl
      skip
      rintro _ -
      refine Cd.cond _ (by rfl) (fun h2 => ?_) (fun h2 => ?_)
      · skip
        have h2 := of_decide_eq_true h2
        have hno : readT b = none := hrd.trans (readU_none (h2.imp erF_none erF_none))
        refine Cd.seq ?_
        refine Cd.region ?_
        refine Ls.ev (some 2) (Ev.assign (show Oper.op _ = Op.assign (Operand.const (Value.pointer none)) from rfl) (by rfl)) (by rfl) (by rfl) ?_
        refine Ls.ev (some 3) (Ev.assign (show Oper.op _ = Op.assign (Operand.const (Value.bool false)) from rfl) (by rfl)) (by rfl) (by rfl) ?_
        refine Ls.nil ?_
        refine Cd.ret ?_
        refine Ent.ret (⟨false, .pointer none, [], [], 0, none, 0, none, 0⟩) (⟨fun _ => hno, fun h => (by cases h)⟩) (Res.tmp2 (by rfl) (by rfl) (by rfl)) ?_ [] (by rfl) ?_
        · rfl
        · rfl
      · skip
        have h2 := of_decide_eq_false h2
        have hyes : readT b = (bksR en q).map (·, f) := by
          obtain ⟨k1, e1⟩ := erF_some (Classical.byContradiction fun h => h2 (.inl h))
          obtain ⟨k2, e2⟩ := erF_some (Classical.byContradiction fun h => h2 (.inr h))
          rw [hrd, readU_some e1 e2, hqe, hfe]
        rw [← hqe] at hq hpc
        clear hrd h2 hqe hfe
        refine Cd.skip ?_
        refine Cd.seq ?_
        refine Cd.region ?_
        refine Ls.ev (some 104) (Ev.move (show Oper.op _ = Op.move (Operand.tmp 0) from rfl) (by rfl)) (by rfl) (by rfl) ?_
        refine Ls.ev (some 105) (Ev.move (show Oper.op _ = Op.move (Operand.tmp 11) from rfl) (by rfl)) (by rfl) (by rfl) ?_
        refine Ls.ev (some 106) (Ev.buildP (pl := [(0, 1), (1, 1), (2, 1), (3, 1), (4, 1)]) (zs := [.slice none 0 0, .slice none 0 0, .slice none 0 0, .int .i64 0, .int .i64 0]) (show Oper.op _ = Op.build 75 #[(0, Operand.tmp 104), (2, Operand.tmp 105)] from rfl) (by rfl) (by kernel_rfl) (by rfl)) (by rfl) (by rfl) ?_
        refine Ls.does (some 107) (Does.box (show Oper.op _ = Op.box 75 (Operand.tmp 106) from rfl) (by rfl)) (by rfl) (by rfl) ?_
        intro g1 _
        refine Ls.ev (some 14) (Ev.assign (show Oper.op _ = Op.assign (Operand.tmp 107) from rfl) (by rfl)) (by rfl) (by rfl) ?_
        refine Ls.nil ?_
        refine Cd.seq ?_
        refine Cd.region ?_
        refine Ls.ev (some 108) (Ev.move (show Oper.op _ = Op.move (Operand.tmp 8) from rfl) (by rfl)) (by rfl) (by rfl) ?_
        refine Ls.ev (some 109) (Ev.buildP (pl := [(0, 1), (1, 1)]) (zs := [.slice none 0 0, .bool false]) (show Oper.op _ = Op.build 97 #[(0, Operand.tmp 108)] from rfl) (by rfl) (by kernel_rfl) (by rfl)) (by rfl) (by rfl) ?_
        refine Ls.does (some 110) (Does.box (show Oper.op _ = Op.box 97 (Operand.tmp 109) from rfl) (by rfl)) (by rfl) (by rfl) ?_
        intro g2 _
        refine Ls.ev (some 15) (Ev.assign (show Oper.op _ = Op.assign (Operand.tmp 110) from rfl) (by rfl)) (by rfl) (by rfl) ?_
        refine Ls.nil ?_
        refine Cd.seq ?_
        refine Cd.region ?_
        refine Ls.ev (some 111) (Ev.move (show Oper.op _ = Op.move (Operand.tmp 15) from rfl) (by rfl)) (by rfl) (by rfl) ?_
        refine Ls.does (some 112) (Does.call [0, 2, 1, 3] (show Oper.op _ = Op.call { callee := Callee.value (Operand.func 61), args := #[Operand.tmp 111], argTypes := #[95] } from rfl) Try.func61 (by kernel_rfl) (by kernel_rfl) (number_sl g2 p1.1 p1.2 q false hpc (by unfold maxLen; omega)) (by rfl) (by rfl) (by rfl)) (by rfl) (by rfl) ?_
        intro p3 hp3
        refine Ls.ev (some 16) (Ev.assign (show Oper.op _ = Op.assign (Operand.tmp 112) from rfl) (by rfl)) (by rfl) (by rfl) ?_
        refine Ls.nil ?_
        refine Cd.seq ?_
        refine Cd.seq ?_
        refine Cd.region ?_
        refine Ls.ev (some 17) (Ev.assign (show Oper.op _ = Op.assign (Operand.const (Value.int IntKind.i64 0)) from rfl) (by rfl)) (by rfl) (by rfl) ?_
        refine Ls.nil ?_
        refine Cd.block ?_
        refine Ent.nil 80 4 (Ent.pick [1, 2, 3, 0, 4] (by rfl) ?_)
        refine Cd.loop (ι := RdL) (fun j => [(4, .int .i64 en), (14, .pointer (some ⟨g1, 0, none⟩)), (15, .pointer (some ⟨g2, 0, none⟩)), (16, .int .i64 (numC q).1), (17, .int .i64 j.i)]) (fun j => [blk g2 97 [.slice j.cA j.rest.length j.cc, .bool j.bad], rdB j.cA j.rest, blk g1 75 [.slice A b.length c, .slice j.xA j.bs.length j.xc, .slice p2.1 f.length p2.2, .int .i64 0, .int .i64 0], rowK j.xA j.xc j.bs, rowB p2.1 p2.2 f]) (RdI en q) (fun j => (numC q).1 - j.i) (⟨0, q.drop (numC q).2.1, false || (numC q).2.2, [], none, 0, p3.1, p3.2⟩) (RdI.start hq p3 hp3) ?_ rfl ?_
        · (repeat (first | exact trivial | refine ⟨by rfl, ?_⟩))
        rintro ⟨i, rest, bad, bs, xA, xc, cA, cc⟩ hj
        dsimp only
        have hle := (numC_le q).2.1
        have hil := hj.le
        have hcap := hj.cap
        have hrl := hj.rl
        have hbl := hj.bl
        dsimp only at hil hcap hrl hbl
        refine Cd.seq ?_
        refine Cd.seq ?_
        refine Cd.cut (ι := Unit) (fun _ => [(4, .int .i64 en), (14, .pointer (some ⟨g1, 0, none⟩)), (15, .pointer (some ⟨g2, 0, none⟩)), (16, .int .i64 (numC q).1), (17, .int .i64 i), (122, .bool (decide (i < (numC q).1) && !bad))]) (fun _ => [blk g2 97 [.slice cA rest.length cc, .bool bad], rdB cA rest, blk g1 75 [.slice A b.length c, .slice xA bs.length xc, .slice p2.1 f.length p2.2, .int .i64 0, .int .i64 0], rowK xA xc bs, rowB p2.1 p2.2 f]) (fun _ => True) ?_ ?_
        · skip
          refine Cd.region ?_
          refine Ls.ev (some 113) (Ev.move (show Oper.op _ = Op.move (Operand.tmp 17) from rfl) (by rfl)) (by rfl) (by rfl) ?_
          refine Ls.ev (some 114) (Ev.move (show Oper.op _ = Op.move (Operand.tmp 16) from rfl) (by rfl)) (by rfl) (by rfl) ?_
          refine Ls.ev (some 115) (Ev.lss (show Oper.op _ = Op.binOp BinOp.lss 3 (Operand.tmp 113) (Operand.tmp 114) 3 from rfl) (by rfl) (by rfl)) (by rfl) (by rfl) ?_
          refine Ls.ev (some 116) (Ev.move (show Oper.op _ = Op.move (Operand.tmp 115) from rfl) (by rfl)) (by rfl) (by rfl) ?_
          refine Ent.split 116 (by rfl) (fun h3 => ?_) (fun h3 => ?_)
          · skip
            have h3 := of_decide_eq_false h3
            refine Ls.pass (some 117) (by rfl) (by rfl) ?_
            refine Ls.pass (some 118) (by rfl) (by rfl) ?_
            refine Ls.pass (some 119) (by rfl) (by rfl) ?_
            refine Ls.pass (some 120) (by rfl) (by rfl) ?_
            refine Ls.pass (some 121) (by rfl) (by rfl) ?_
            refine Ls.ev (some 122) (Ev.pickF (show Oper.op _ = Op.pick (Operand.tmp 116) (Operand.tmp 121) (Operand.const (Value.bool false)) from rfl) (by rfl) (by rfl)) (by rfl) (by rfl) ?_
            refine Ls.nil ?_
            refine Ent.inv (()) ?_ ?_ ?_
            · (try dsimp only); skip
            · (repeat (first | exact trivial | refine ⟨by rfl, ?_⟩ | refine ⟨by simp only [List.length_append, List.length_cons, List.length_nil]; rfl, ?_⟩ | refine ⟨by push_cast; rfl, ?_⟩ | refine ⟨by (rw [decide_eq_false (show ¬ i < (numC q).1 by omega)]; rfl), ?_⟩))
            · rfl
          · skip
            have h3 := of_decide_eq_true h3
            refine Ls.ev (some 117) (Ev.move (show Oper.op _ = Op.move (Operand.tmp 15) from rfl) (by rfl)) (by rfl) (by rfl) ?_
            refine Ls.ev (some 118) (Ev.nilCheck (show Oper.op _ = Op.nilCheck (Operand.tmp 117) from rfl) (by rfl)) (by rfl) (by rfl) ?_
            refine Ls.ev (some 119) (Ev.fieldAddr (k := 1) (show Oper.op _ = Op.fieldAddr 97 (Operand.tmp 118) 1 from rfl) (by rfl) (by kernel_rfl) (by rfl)) (by rfl) (by rfl) ?_
            refine Ls.ev (some 120) (Ev.load 0 (show Oper.op _ = Op.load 4 (Operand.tmp 119) from rfl) (by rfl) (by rfl) (by kernel_rfl) (by rfl)) (by rfl) (by rfl) ?_
            refine Ls.ev (some 121) (Ev.not (show Oper.op _ = Op.unOp UnOp.not 4 (Operand.tmp 120) from rfl) (by rfl)) (by rfl) (by rfl) ?_
            refine Ls.ev (some 122) (Ev.pickT (show Oper.op _ = Op.pick (Operand.tmp 116) (Operand.tmp 121) (Operand.const (Value.bool false)) from rfl) (by rfl) (by rfl)) (by rfl) (by rfl) ?_
            refine Ls.nil ?_
            refine Ent.inv (()) ?_ ?_ ?_
            · (try dsimp only); skip
            · (repeat (first | exact trivial | refine ⟨by rfl, ?_⟩ | refine ⟨by simp only [List.length_append, List.length_cons, List.length_nil]; rfl, ?_⟩ | refine ⟨by push_cast; rfl, ?_⟩ | refine ⟨by (rw [decide_eq_true (show i < (numC q).1 by omega)]; rfl), ?_⟩))
            · rfl
        skip
        rintro _ -
        refine Cd.cond _ (by rfl) (fun h3 => ?_) (fun h3 => ?_)
        · skip
          simp only [Bool.and_eq_true, decide_eq_true_eq, Bool.not_eq_true'] at h3
          obtain ⟨hi, rfl⟩ := h3
          refine Cd.skip ?_
          refine Cd.seq ?_
          refine Cd.block ?_
          refine Cd.seq ?_
          refine Cd.region ?_
          refine Ls.ev (some 125) (Ev.move (show Oper.op _ = Op.move (Operand.tmp 15) from rfl) (by rfl)) (by rfl) (by rfl) ?_
          refine Ls.does (some 126) (Does.call [0, 1, 2, 3, 4] (show Oper.op _ = Op.call { callee := Callee.value (Operand.func 62), args := #[Operand.tmp 125], argTypes := #[95] } from rfl) Try.func62 (by kernel_rfl) (by kernel_rfl) (text_slC g2 cA cc rest false hcap (by unfold maxLen; omega)) (by rfl) (by rfl) (by rfl)) (by rfl) (by rfl) ?_
          intro y1 hy1
          refine Ls.ev (some 127) (Ev.move (show Oper.op _ = Op.move (Operand.tmp 15) from rfl) (by rfl)) (by rfl) (by rfl) ?_
          refine Ls.does (some 128) (Does.call [0, 1, 2, 3, 4] (show Oper.op _ = Op.call { callee := Callee.value (Operand.func 62), args := #[Operand.tmp 127], argTypes := #[95] } from rfl) Try.func62 (by kernel_rfl) (by kernel_rfl) (text_slC g2 y1.1 y1.2 _ _ hy1 (by rw [List.length_drop]; unfold maxLen; omega)) (by rfl) (by rfl) (by rfl)) (by rfl) (by rfl) ?_
          rw [List.drop_drop]
          intro y2 hy2
          refine Ls.ev (some 129) (Ev.move (show Oper.op _ = Op.move (Operand.tmp 15) from rfl) (by rfl)) (by rfl) (by rfl) ?_
          refine Ls.does (some 130) (Does.call [0, 1, 2, 3, 4] (show Oper.op _ = Op.call { callee := Callee.value (Operand.func 61), args := #[Operand.tmp 129], argTypes := #[95] } from rfl) Try.func61 (by kernel_rfl) (by kernel_rfl) (number_sl g2 y2.1 y2.2 _ _ hy2 (by rw [List.length_drop]; unfold maxLen; omega)) (by rfl) (by rfl) (by rfl)) (by rfl) (by rfl) ?_
          rw [List.drop_drop]
          intro y3 hy3
          refine Ls.ev (some 131) (Ev.move (show Oper.op _ = Op.move (Operand.tmp 15) from rfl) (by rfl)) (by rfl) (by rfl) ?_
          refine Ls.does (some 132) (Does.call [0, 1, 2, 3, 4] (show Oper.op _ = Op.call { callee := Callee.value (Operand.func 61), args := #[Operand.tmp 131], argTypes := #[95] } from rfl) Try.func61 (by kernel_rfl) (by kernel_rfl) (number_sl g2 y3.1 y3.2 _ _ hy3 (by rw [List.length_drop]; unfold maxLen; omega)) (by rfl) (by rfl) (by rfl)) (by rfl) (by rfl) ?_
          rw [List.drop_drop]
          intro y4 hy4
          refine Ls.ev (some 133) (Ev.buildP (pl := [(0, 1), (1, 1), (2, 1), (3, 1)]) (zs := [.string ⟨#[]⟩, .string ⟨#[]⟩, .int .i64 0, .int .i64 0]) (show Oper.op _ = Op.build 80 #[(0, Operand.tmp 126), (1, Operand.tmp 128), (2, Operand.tmp 130), (3, Operand.tmp 132)] from rfl) (by rfl) (by kernel_rfl) (by rfl)) (by rfl) (by rfl) ?_
          refine Ls.does (some 18) (Does.alloc (cs := [.string ⟨#[]⟩, .string ⟨#[]⟩, .int .i64 0, .int .i64 0]) (show Oper.op _ = Op.alloc 80 from rfl) (ZeroIs.mk (.agg #[.string ⟨#[]⟩, .string ⟨#[]⟩, .int .i64 0, .int .i64 0]) (by kernel_rfl) (by rfl))) (by rfl) (by rfl) ?_
          intro g3 _
          refine Ls.does none (Does.store 0 (show Oper.op _ = Op.store 80 (Operand.tmp 18) (Operand.tmp 133) from rfl) (by rfl) (by rfl) (by rfl) (by kernel_rfl) (by rfl) (by kernel_rfl) (by rfl)) (by rfl) (by rfl) ?_
          intro _ _
          refine Ls.nil ?_
          refine Cd.seq ?_
          refine Cd.seq ?_
          refine Ent.norm ([(4, .int .i64 en), (14, .pointer (some ⟨g1, 0, none⟩)), (15, .pointer (some ⟨g2, 0, none⟩)), (16, .int .i64 (numC q).1), (17, .int .i64 i), (18, .pointer (some ⟨g3, 0, none⟩))]) ([blk g3 80 [.string (bkC rest).1.first, .string (bkC rest).1.last, .int .i64 (bkC rest).1.at_, .int .i64 (bkC rest).1.size], blk g2 97 [.slice y4.1 (rest.drop (bkC rest).2.1).length y4.2, .bool (bkC rest).2.2], rdB y4.1 (rest.drop (bkC rest).2.1), blk g1 75 [.slice A b.length c, .slice xA bs.length xc, .slice p2.1 f.length p2.2, .int .i64 0, .int .i64 0], rowK xA xc bs, rowB p2.1 p2.2 f]) (by repeat (first | exact trivial | refine ⟨by rfl, ?_⟩ | refine ⟨by simp only [List.length_append, List.length_cons, List.length_nil]; rfl, ?_⟩ | refine ⟨by push_cast; rfl, ?_⟩)) (by rfl) ?_
          have hnx := fun o => hj.next hi y4 o hy4
          have hbk := bkC_le rest
          clear hy1 hy2 hy3 hy4
          revert hnx hbk
          generalize bkC rest = x
          obtain ⟨⟨fi, la, ba, bz⟩, k, fl⟩ := x
          dsimp only
          intro hnx hbk
          refine Cd.cut (ι := Unit) (fun _ => [(4, .int .i64 en), (14, .pointer (some ⟨g1, 0, none⟩)), (15, .pointer (some ⟨g2, 0, none⟩)), (16, .int .i64 (numC q).1), (17, .int .i64 i), (18, .pointer (some ⟨g3, 0, none⟩)), (146, .bool (decide (en < ba ∨ en - ba < bz)))]) (fun _ => [blk g3 80 [.string fi, .string la, .int .i64 ba, .int .i64 bz], blk g2 97 [.slice y4.1 (rest.drop k).length y4.2, .bool fl], rdB y4.1 (rest.drop k), blk g1 75 [.slice A b.length c, .slice xA bs.length xc, .slice p2.1 f.length p2.2, .int .i64 0, .int .i64 0], rowK xA xc bs, rowB p2.1 p2.2 f]) (fun _ => True) ?_ ?_
          · skip
            refine Cd.region ?_
            refine Ls.ev (some 134) (Ev.fieldAddr (k := 2) (show Oper.op _ = Op.fieldAddr 80 (Operand.tmp 18) 2 from rfl) (by rfl) (by kernel_rfl) (by rfl)) (by rfl) (by rfl) ?_
            refine Ls.ev (some 135) (Ev.load 0 (show Oper.op _ = Op.load 3 (Operand.tmp 134) from rfl) (by rfl) (by rfl) (by kernel_rfl) (by rfl)) (by rfl) (by rfl) ?_
            refine Ls.ev (some 136) (Ev.move (show Oper.op _ = Op.move (Operand.tmp 4) from rfl) (by rfl)) (by rfl) (by rfl) ?_
            refine Ls.ev (some 137) (Ev.gtr (show Oper.op _ = Op.binOp BinOp.gtr 3 (Operand.tmp 135) (Operand.tmp 136) 3 from rfl) (by rfl) (by rfl)) (by rfl) (by rfl) ?_
            refine Ls.ev (some 138) (Ev.move (show Oper.op _ = Op.move (Operand.tmp 137) from rfl) (by rfl)) (by rfl) (by rfl) ?_
            refine Ent.split 138 (by rfl) (fun h4 => ?_) (fun h4 => ?_)
            · skip
              have h4 := of_decide_eq_false h4
              refine Ls.ev (some 139) (Ev.fieldAddr (k := 3) (show Oper.op _ = Op.fieldAddr 80 (Operand.tmp 18) 3 from rfl) (by rfl) (by kernel_rfl) (by rfl)) (by rfl) (by rfl) ?_
              refine Ls.ev (some 140) (Ev.load 0 (show Oper.op _ = Op.load 3 (Operand.tmp 139) from rfl) (by rfl) (by rfl) (by kernel_rfl) (by rfl)) (by rfl) (by rfl) ?_
              refine Ls.ev (some 141) (Ev.move (show Oper.op _ = Op.move (Operand.tmp 4) from rfl) (by rfl)) (by rfl) (by rfl) ?_
              refine Ls.ev (some 142) (Ev.fieldAddr (k := 2) (show Oper.op _ = Op.fieldAddr 80 (Operand.tmp 18) 2 from rfl) (by rfl) (by kernel_rfl) (by rfl)) (by rfl) (by rfl) ?_
              refine Ls.ev (some 143) (Ev.load 0 (show Oper.op _ = Op.load 3 (Operand.tmp 142) from rfl) (by rfl) (by rfl) (by kernel_rfl) (by rfl)) (by rfl) (by rfl) ?_
              refine Ls.ev (some 144) (Ev.subN (show Oper.op _ = Op.binOp BinOp.sub 3 (Operand.tmp 141) (Operand.tmp 143) 3 from rfl) (by rfl) (by rfl) (by omega)) (by rfl) (by rfl) ?_
              refine Ls.ev (some 145) (Ev.gtr (show Oper.op _ = Op.binOp BinOp.gtr 3 (Operand.tmp 140) (Operand.tmp 144) 3 from rfl) (by rfl) (by rfl)) (by rfl) (by rfl) ?_
              refine Ls.ev (some 146) (Ev.pickF (show Oper.op _ = Op.pick (Operand.tmp 138) (Operand.const (Value.bool true)) (Operand.tmp 145) from rfl) (by rfl) (by rfl)) (by rfl) (by rfl) ?_
              refine Ls.nil ?_
              refine Ent.inv (()) ?_ ?_ ?_
              · (try dsimp only); skip
              · (repeat (first | exact trivial | refine ⟨by rfl, ?_⟩ | refine ⟨by simp only [List.length_append, List.length_cons, List.length_nil]; rfl, ?_⟩ | refine ⟨by push_cast; rfl, ?_⟩ | refine ⟨by (show some (Value.bool _) = some (Value.bool _); congr 2; rw [decide_eq_decide]; omega), ?_⟩))
              · rfl
            · skip
              have h4 := of_decide_eq_true h4
              refine Ls.pass (some 139) (by rfl) (by rfl) ?_
              refine Ls.pass (some 140) (by rfl) (by rfl) ?_
              refine Ls.pass (some 141) (by rfl) (by rfl) ?_
              refine Ls.pass (some 142) (by rfl) (by rfl) ?_
              refine Ls.pass (some 143) (by rfl) (by rfl) ?_
              refine Ls.pass (some 144) (by rfl) (by rfl) ?_
              refine Ls.pass (some 145) (by rfl) (by rfl) ?_
              refine Ls.ev (some 146) (Ev.pickT (show Oper.op _ = Op.pick (Operand.tmp 138) (Operand.const (Value.bool true)) (Operand.tmp 145) from rfl) (by rfl) (by rfl)) (by rfl) (by rfl) ?_
              refine Ls.nil ?_
              refine Ent.inv (()) ?_ ?_ ?_
              · (try dsimp only); skip
              · (repeat (first | exact trivial | refine ⟨by rfl, ?_⟩ | refine ⟨by simp only [List.length_append, List.length_cons, List.length_nil]; rfl, ?_⟩ | refine ⟨by push_cast; rfl, ?_⟩ | refine ⟨by (show some (Value.bool _) = some (Value.bool _); congr 2; exact (decide_eq_true (by omega)).symm), ?_⟩))
              · rfl
          skip
          rintro _ -
          refine Cd.cond _ (by rfl) (fun h5 => ?_) (fun h5 => ?_)
          · skip
            have hno : readT b = none := by rw [hyes, (hnx (none, 0)).1 (of_decide_eq_true h5)]; rfl
            refine Cd.seq ?_
            refine Cd.region ?_
            refine Ls.ev (some 2) (Ev.assign (show Oper.op _ = Op.assign (Operand.const (Value.pointer none)) from rfl) (by rfl)) (by rfl) (by rfl) ?_
            refine Ls.ev (some 3) (Ev.assign (show Oper.op _ = Op.assign (Operand.const (Value.bool false)) from rfl) (by rfl)) (by rfl) (by rfl) ?_
            refine Ls.nil ?_
            refine Cd.ret ?_
            refine Ent.ret (⟨false, .pointer none, [], [], 0, none, 0, none, 0⟩) (⟨fun _ => hno, fun h => (by cases h)⟩) (Res.tmp2 (by rfl) (by rfl) (by rfl)) ?_ [] (by rfl) ?_
            · rfl
            · rfl
          · skip
            have h5 := of_decide_eq_false h5
            refine Cd.skip ?_
            refine Cd.draw [7] (by kernel_rfl) ?_
            refine Rg.mv 0 (by rfl) (fun _ h => h) (show Oper.op _ = Op.move (Operand.tmp 14) from rfl) (by rfl) (by rfl) (some 147) (by rfl) (by kernel_rfl) (by kernel_rfl) (by kernel_rfl) (by kernel_rfl) ?_
            refine Rg.ev 1 (by rfl) (fun _ h => h) (Ev.move (show Oper.op _ = Op.move (Operand.tmp 14) from rfl) (by rfl)) (by rfl) (some 148) (by rfl) (by kernel_rfl) (by kernel_rfl) (by kernel_rfl) (by kernel_rfl) ?_
            refine Rg.ev 2 (by rfl) (fun _ h => h) (Ev.nilCheck (show Oper.op _ = Op.nilCheck (Operand.tmp 148) from rfl) (by rfl)) (by rfl) (some 149) (by rfl) (by kernel_rfl) (by kernel_rfl) (by kernel_rfl) (by kernel_rfl) ?_
            refine Rg.ev 3 (by rfl) (fun _ h => h) (Ev.fieldAddr (k := 1) (show Oper.op _ = Op.fieldAddr 75 (Operand.tmp 149) 1 from rfl) (by rfl) (by kernel_rfl) (by rfl)) (by rfl) (some 150) (by rfl) (by kernel_rfl) (by kernel_rfl) (by kernel_rfl) (by kernel_rfl) ?_
            refine Rg.ev 4 (by rfl) (fun _ h => h) (Ev.load 3 (show Oper.op _ = Op.load 73 (Operand.tmp 150) from rfl) (by rfl) (by rfl) (by kernel_rfl) (by rfl)) (by rfl) (some 151) (by rfl) (by kernel_rfl) (by kernel_rfl) (by kernel_rfl) (by kernel_rfl) ?_
            refine Rg.ev 5 (by rfl) (fun _ h => h) (Ev.loads 0 (show Oper.op _ = Op.load 80 (Operand.tmp 18) from rfl) (by rfl) (by rfl) (n := 4) (by kernel_rfl) (by rfl) (by rfl)) (by rfl) (some 152) (by rfl) (by kernel_rfl) (by kernel_rfl) (by kernel_rfl) (by kernel_rfl) ?_
            refine Rg.does 6 (by rfl) (by kernel_rfl) (Does.lit (sz := 4) (show Oper.op _ = Op.buildSlice 73 1 #[(0, Operand.tmp 152)] from rfl) (by rfl) Try.underlying73 (by kernel_rfl) (by rfl) (by kernel_rfl)) (by rfl) (some 153) (by rfl) (fun _ _ h => h.tail_) ?_
            intro g4 _
            refine Rg.tail 7 [10] (by rfl) (by kernel_rfl) (Does.app (xs := bs.flatMap Bk.enc) (news := [.string fi, .string la, .int .i64 ba, .int .i64 bz]) 5 (show Oper.op _ = Op.call { callee := Callee.builtin Builtin.append, args := #[Operand.tmp 151, Operand.tmp 153], argTypes := #[73, 73] } from rfl) (by rfl) (by rfl) (by rfl) (ReadsIn.row 0 (by rfl)) elem_bks (by simp [Value.oneCell']) (by omega)) (by rfl) (some 154) (by rfl) (by kernel_rfl) (by kernel_rfl) ?_
            intro o _
            refine Rg.ev 8 (by rfl) (fun _ h => h) (Ev.nilCheck (show Oper.op _ = Op.nilCheck (Operand.tmp 147) from rfl) (by rfl)) (by rfl) (some 155) (by rfl) (by kernel_rfl) (by kernel_rfl) (by kernel_rfl) (by kernel_rfl) ?_
            refine Rg.ev 9 (by rfl) (fun _ h => h) (Ev.fieldAddr (k := 1) (show Oper.op _ = Op.fieldAddr 75 (Operand.tmp 155) 1 from rfl) (by rfl) (by kernel_rfl) (by rfl)) (by rfl) (some 156) (by rfl) (by kernel_rfl) (by kernel_rfl) (by kernel_rfl) (by kernel_rfl) ?_
            refine Rg.tail 10 [] (by rfl) (by kernel_rfl) (Does.store 4 (show Oper.op _ = Op.store 73 (Operand.tmp 156) (Operand.tmp 154) from rfl) (by rfl) (by rfl) (by rfl) (by kernel_rfl) (by rfl) (by kernel_rfl) (by rfl)) (by rfl) none (by rfl) (by kernel_rfl) (by kernel_rfl) ?_
            intro _ _
            refine Rg.done (by kernel_rfl) ?_ _
            refine Cd.region ?_
            refine Ls.ev (some 123) (Ev.move (show Oper.op _ = Op.move (Operand.tmp 17) from rfl) (by rfl)) (by rfl) (by rfl) ?_
            refine Ls.ev (some 124) (Ev.addN (b := 1) (show Oper.op _ = Op.binOp BinOp.add 3 (Operand.tmp 123) (Operand.const (Value.int IntKind.i64 1)) 3 from rfl) (by rfl) (by rfl) (by omega)) (by rfl) (by rfl) ?_
            refine Ls.ev (some 17) (Ev.assign (show Oper.op _ = Op.assign (Operand.tmp 124) from rfl) (by rfl)) (by rfl) (by rfl) ?_
            refine Ls.nil ?_
            refine Ent.pick [2, 3, 4, 5, 6] (by rfl) ?_
            refine Ent.inv (⟨i + 1, rest.drop k, fl, bs ++ [⟨fi, la, ba, bz⟩], o.1, o.2, y4.1, y4.2⟩) ?_ ?_ ?_
            · (try dsimp only); exact ⟨(hnx o).2 h5, by omega⟩
            · (repeat (first | exact trivial | refine ⟨by rfl, ?_⟩ | refine ⟨by simp only [List.length_append, List.length_cons, List.length_nil]; rfl, ?_⟩ | refine ⟨by push_cast; rfl, ?_⟩))
            · (show [_, _, _, _, _] = [_, _, _, _, _]; dsimp only [rowK]; rw [List.length_append, List.flatMap_append, List.flatMap_cons, List.flatMap_nil, List.append_nil]; rfl)
        · skip
          refine Cd.exit ?_
          refine Cd.seq ?_
          refine Cd.draw [] (by kernel_rfl) ?_
          refine Rg.ev 0 (by rfl) (fun _ h => h) (Ev.move (show Oper.op _ = Op.move (Operand.tmp 14) from rfl) (by rfl)) (by rfl) (some 157) (by rfl) (by kernel_rfl) (by kernel_rfl) (by kernel_rfl) (by kernel_rfl) ?_
          refine Rg.ev 1 (by rfl) (fun _ h => h) (Ev.move (show Oper.op _ = Op.move (Operand.tmp 15) from rfl) (by rfl)) (by rfl) (some 158) (by rfl) (by kernel_rfl) (by kernel_rfl) (by kernel_rfl) (by kernel_rfl) ?_
          refine Rg.ev 2 (by rfl) (fun _ h => h) (Ev.nilCheck (show Oper.op _ = Op.nilCheck (Operand.tmp 158) from rfl) (by rfl)) (by rfl) (some 159) (by rfl) (by kernel_rfl) (by kernel_rfl) (by kernel_rfl) (by kernel_rfl) ?_
          refine Rg.ev 3 (by rfl) (fun _ h => h) (Ev.fieldAddr (k := 1) (show Oper.op _ = Op.fieldAddr 97 (Operand.tmp 159) 1 from rfl) (by rfl) (by kernel_rfl) (by rfl)) (by rfl) (some 160) (by rfl) (by kernel_rfl) (by kernel_rfl) (by kernel_rfl) (by kernel_rfl) ?_
          refine Rg.ev 4 (by rfl) (fun _ h => h) (Ev.load 0 (show Oper.op _ = Op.load 4 (Operand.tmp 160) from rfl) (by rfl) (by rfl) (by kernel_rfl) (by rfl)) (by rfl) (some 161) (by rfl) (by kernel_rfl) (by kernel_rfl) (by kernel_rfl) (by kernel_rfl) ?_
          refine Rg.ev 5 (by rfl) (fun _ h => h) (Ev.not (show Oper.op _ = Op.unOp UnOp.not 4 (Operand.tmp 161) from rfl) (by rfl)) (by rfl) (some 162) (by rfl) (by kernel_rfl) (by kernel_rfl) (by kernel_rfl) (by kernel_rfl) ?_
          refine Rg.ev 6 (by rfl) (fun _ h => h) (Ev.assign (show Oper.op _ = Op.assign (Operand.tmp 157) from rfl) (by rfl)) (by rfl) (some 2) (by rfl) (by kernel_rfl) (by kernel_rfl) (by kernel_rfl) (by kernel_rfl) ?_
          refine Rg.ev 7 (by rfl) (fun _ h => h) (Ev.assign (show Oper.op _ = Op.assign (Operand.tmp 162) from rfl) (by rfl)) (by rfl) (some 3) (by rfl) (by kernel_rfl) (by kernel_rfl) (by kernel_rfl) (by kernel_rfl) ?_
          refine Rg.done (by kernel_rfl) ?_ _
          cases bad with
          | true =>
            skip
            refine Cd.ret ?_
            refine Ent.ret (⟨false, .pointer (some ⟨g1, 0, none⟩), [], [], 0, none, 0, none, 0⟩) (⟨fun _ => by rw [hyes, hj.bad rfl]; rfl, fun h => (by cases h)⟩) (Res.tmp2 (by rfl) (by rfl) (by rfl)) ?_ [] (by rfl) ?_
            · rfl
            · rfl
          | false =>
            skip
            refine Cd.ret ?_
            refine Ent.ret (⟨true, .pointer (some ⟨g1, 0, none⟩), bs, f, g1, xA, xc, p2.1, p2.2⟩) (⟨fun h => (by cases h), fun _ => ⟨by
              rw [hyes, (hj.good rfl).2]
              have hz : (numC q).1 - i = 0 := by
                have h4 := h3
                rw [Bool.not_false, Bool.and_true] at h4
                have := of_decide_eq_false h4
                omega
              dsimp only
              rw [hz]
              simp [bksC], rfl⟩⟩) (Res.tmp2 (by rfl) (by rfl) (by rfl)) ?_ [2, 3, 4] (by rfl) ?_
            · rfl
            · rfl
end Go.Proofs.Ytnhcfhamcakfkaa
