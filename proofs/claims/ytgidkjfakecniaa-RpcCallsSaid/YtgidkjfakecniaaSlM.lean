/-
  Maps of whole numbers, as pieces; pieces by an index.
-/
import Derived.Test.YtgidkjfakecniaaSlG
import Derived.Test.YtgidkjfakecniaaLibW
namespace Go.Proofs.Ytgidkjfakecniaa
open Go.RowKit
theorem wf64 {x : Int} (h : -9223372036854775808 ≤ x ∧ x ≤ 9223372036854775807) : (Lit.int .i64 x).wf = true := by
  have h1 : IntKind.i64.min = -9223372036854775808 := by decide
  have h2 : IntKind.i64.max = 9223372036854775807 := by decide
  simp only [Lit.wf, h1, h2, Bool.and_eq_true, decide_eq_true_eq]
  exact h
/-- A map of at most n whole numbers, which reads as f. -/
def mapc (P : Program) (k : TypeId) (b n : Nat) (z : Value) (f : Int → Value) : Chunk where
  holds w := ∃ m, m ≤ n ∧ MapI w P k b m z f
  foot i := i = b
  excl := true
  lt := fun _ i ⟨_, _, h⟩ e => by subst e; exact h.lt
  loc := fun _ _ _ he ⟨m, hm, h⟩ => ⟨m, hm, h.block (he b rfl)⟩
section
variable {Γ : Ctx} {N : Nat} {P : Program} {E : Env} {H : List Chunk} {o : Oper} {x y u : Operand}
theorem mapc_mono {k b n n' : Nat} {z : Value} {f : Int → Value} (h : n ≤ n') : ∀ w, (mapc P k b n z f).holds w → (mapc P k b n' z f).holds w := fun _ ⟨m, hm, hh⟩ => ⟨m, by omega, hh⟩
theorem Ev.look {t k e b n : Nat} {z : Value} {f : Int → Value} {q : Int} (i : Nat) (ho : o.op = .lookup t x y false) (hx : E.ev x = some (.map (some b))) (hy : E.ev y = some (.int .i64 q)) (hi : H[i]? = some (mapc P k b n z f)) (hk : P.underlying k = some (.int .i64)) (ht : P.underlying t = some (.map k e)) (hz : ∀ w, (zeroValue e).run P w = .ok z w) (hq : -9223372036854775808 ≤ q ∧ q ≤ 9223372036854775807) : Ev Γ N P E H o (f q) := ⟨fun a w hr hs => by
  obtain ⟨m, _, h⟩ := hs.mem hi
  have := h.look hk ht hz (wf64 hq)
  simp [execOp, ho, hr.ev hx, hr.ev hy, this]⟩
theorem zero_of {e : Nat} {z : Value} (h : (P.info? e).bind (·.zero) = some z) : ∀ w, (zeroValue e).run P w = .ok z w := fun w => by
  obtain ⟨i, hi, hz⟩ := Option.bind_eq_some_iff.1 h
  simp [zeroValue, typeInfo, hi, hz]
theorem Does.mapPut {t k e b n : Nat} {z v : Value} {f : Int → Value} {q : Int} (i : Nat) (ho : o.op = .mapUpdate t x y u) (hx : E.ev x = some (.map (some b))) (hy : E.ev y = some (.int .i64 q)) (hu : E.ev u = some v) (hi : H[i]? = some (mapc P k b n z f)) (hk : P.underlying k = some (.int .i64)) (ht : P.underlying t = some (.map k e)) (hn : n < 1000000) (hq : -9223372036854775808 ≤ q ∧ q ≤ 9223372036854775807) :
    Does Γ N P E H o Unit (fun _ => undef) (fun _ => H.set i (mapc P k b (n + 1) z (put f q v))) (fun _ => True) := .of fun ρ hρ w hs => by
  obtain ⟨m, hm, h⟩ := hs.mem hi
  obtain ⟨w', hrun, h1, h2⟩ := h.put_ hk ht (show m < maxLen by unfold maxLen; omega) (wf64 hq) v
  refine ⟨(), w', trivial, hs.turn hi rfl h2 ⟨m + 1, by omega, h1⟩ (fun k hk => .inl hk), .inr ⟨rfl, ?_⟩⟩
  simp [execOp, ho, hρ x _ hx, hρ y _ hy, hρ u _ hu, hrun]
theorem Does.mapDel {t k e b n : Nat} {z : Value} {f : Int → Value} {q : Int} (i : Nat) (ho : o.op = .call { callee := .builtin .delete, args := #[x, y], argTypes := #[t, k] }) (hx : E.ev x = some (.map (some b))) (hy : E.ev y = some (.int .i64 q)) (hi : H[i]? = some (mapc P k b n z f)) (hk : P.underlying k = some (.int .i64)) (ht : P.underlying t = some (.map k e)) (hq : -9223372036854775808 ≤ q ∧ q ≤ 9223372036854775807) :
    Does Γ N P E H o Unit (fun _ => .tuple #[]) (fun _ => H.set i (mapc P k b n z (put f q z))) (fun _ => True) := .of fun ρ hρ w hs => by
  obtain ⟨m, hm, h⟩ := hs.mem hi
  obtain ⟨w', hrun, h1, h2⟩ := h.drop_ hk ht (wf64 hq) o.type
  refine ⟨(), w', trivial, hs.turn hi rfl h2 ⟨m, by omega, h1⟩ (fun k hk => .inl hk), .inl ?_⟩
  simp [execOp, ho, resolve, invoke, builtin, hρ x _ hx, hρ y _ hy, hrun]
theorem Does.mapNew {t : Nat} (k : Nat) (z : Value) (ho : o.op = .makeMap t none) : Does Γ N P E H o Nat (fun b => .map (some b)) (fun b => mapc P k b 0 z (fun _ => z) :: H) (fun _ => True) := .of fun ρ hρ w hs => by
  have hlt : ∀ C ∈ H, ∀ k, C.foot k → k < w.heap.size := fun C hC k hk => C.lt w k (hs.sat.1 C hC) hk
  refine ⟨w.heap.size, w.alloc (.map #[] 0), trivial, ⟨hs.upd.alloc _, ⟨fun C hC => ?_, List.Pairwise.cons (fun D hD _ k hk hf => ?_) hs.sat.2⟩, fun C hC => ?_⟩, .inl ?_⟩
  · rcases List.mem_cons.1 hC with rfl | hC
    · exact ⟨0, Nat.le_refl _, MapI.made w P k z⟩
    · exact C.loc w _ (by simp) (fun k hk => Below.heap_alloc w _ k (hlt C hC k hk)) (hs.sat.1 C hC)
  · have := hlt D hD k hf
    obtain rfl : k = w.heap.size := hk
    omega
  · rcases List.mem_cons.1 hC with rfl | hC
    · intro k hk hk'
      obtain rfl : k = w.heap.size := hk
      exact absurd hs.upd.size (by omega)
    · exact hs.fits C hC
  · simp [execOp, ho, Instr.makeMap]

/-- Pieces that are read alone, one for each index. -/
def starf {ι : Type} (F : ι → Chunk) : Chunk where
  holds w := ∀ i, (F i).excl = false ∧ (F i).holds w
  foot k := ∃ i, (F i).foot k
  excl := false
  lt := fun w k h ⟨i, hk⟩ => (F i).lt w k (h i).2 hk
  loc := fun w w' hs he h i => ⟨(h i).1, (F i).loc w w' hs (fun k hk => he k ⟨i, hk⟩) (h i).2⟩
/-- A piece that is read alone and hangs on nothing. -/
theorem Sat.free {C : Chunk} {w : World} (hx : C.excl = false) (hf : ∀ k, ¬ C.foot k) (hh : C.holds w) (h : Sat Γ H w) : Sat Γ (C :: H) w :=
  ⟨h.upd, ⟨fun D hD => by
    rcases List.mem_cons.1 hD with rfl | hD
    · exact hh
    · exact h.sat.1 D hD, List.Pairwise.cons (fun D _ _ k hk => absurd hk (hf k)) h.sat.2⟩, fun D hD => by
    rcases List.mem_cons.1 hD with rfl | hD
    · exact fun k hk => absurd hk (hf k)
    · exact h.fits D hD⟩
theorem Sat.starf_get {ι : Type} {F : ι → Chunk} {w : World} (i : Nat) (q : ι) (hi : H[i]? = some (starf F)) (h : Sat Γ H w) : Sat Γ (F q :: H) w := by
  have hm : starf F ∈ H := List.mem_of_getElem? hi
  have hx : (F q).excl = false := (h.sat.1 _ hm q).1
  refine ⟨h.upd, ⟨fun D hD => ?_, List.Pairwise.cons (fun D hD he k hk hk' => ?_) h.sat.2⟩, fun D hD => ?_⟩
  · rcases List.mem_cons.1 hD with rfl | hD
    · exact (h.sat.1 _ hm q).2
    · exact h.sat.1 D hD
  · have he2 : D.excl = true := by
      rcases he with he | he
      · rw [hx] at he; cases he
      · exact he
    obtain ⟨il, e1⟩ := List.getElem?_eq_some_iff.1 hi
    obtain ⟨j, jl, e2⟩ := List.getElem_of_mem hD
    have hp := List.pairwise_iff_getElem.1 h.sat.2
    rcases Nat.lt_trichotomy i j with hlt | rfl | hlt
    · have := hp i j il jl hlt
      rw [e1, e2] at this
      exact this (.inr he2) k ⟨q, hk⟩ hk'
    · rw [e1] at e2; subst e2; cases he2
    · have := hp j i jl il hlt
      rw [e1, e2] at this
      exact this (.inl he2) k hk' ⟨q, hk⟩
  · rcases List.mem_cons.1 hD with rfl | hD
    · intro k hk hlt
      exact ⟨(h.fits _ hm k ⟨q, hk⟩ hlt).1, fun e => by rw [hx] at e; cases e⟩
    · exact h.fits D hD
/-- A family whose pieces stand already. -/
theorem Sat.starf_put {ι : Type} {F G : ι → Chunk} {C : Chunk} {w : World} (hx : C.excl = false) (hG : ∀ i, G i = F i ∨ G i = C) (h : Sat Γ (C :: starf F :: H) w) : Sat Γ (starf G :: H) w := by
  obtain ⟨hu, ⟨hh, hp⟩, hf⟩ := h
  rw [List.pairwise_cons, List.pairwise_cons] at hp
  obtain ⟨p1, p2, p3⟩ := hp
  have hS : (starf F).holds w := hh _ (List.mem_cons_of_mem _ List.mem_cons_self)
  have hC : C.holds w := hh _ List.mem_cons_self
  have hfoot : ∀ k, (starf G).foot k → C.foot k ∨ (starf F).foot k := by
    rintro k ⟨i, hk⟩
    rcases hG i with e | e
    · exact .inr ⟨i, e ▸ hk⟩
    · exact .inl (e ▸ hk)
  refine ⟨hu, ⟨fun D hD => ?_, List.Pairwise.cons (fun D hD he k hk => ?_) p3⟩, fun D hD => ?_⟩
  · rcases List.mem_cons.1 hD with rfl | hD
    · intro i
      rcases hG i with e | e
      · rw [e]; exact hS i
      · rw [e]; exact ⟨hx, hC⟩
    · exact hh D (List.mem_cons_of_mem _ (List.mem_cons_of_mem _ hD))
  · have he2 : D.excl = true := by
      rcases he with he | he
      · cases he
      · exact he
    rcases hfoot k hk with h1 | h1
    · exact p1 D (List.mem_cons_of_mem _ hD) (.inr he2) k h1
    · exact p2 D hD (.inr he2) k h1
  · rcases List.mem_cons.1 hD with rfl | hD
    · intro k hk hlt
      rcases hfoot k hk with h1 | h1
      · exact ⟨(hf C List.mem_cons_self k h1 hlt).1, fun e => by cases e⟩
      · exact ⟨(hf _ (List.mem_cons_of_mem _ List.mem_cons_self) k h1 hlt).1, fun e => by cases e⟩
    · exact hf D (List.mem_cons_of_mem _ (List.mem_cons_of_mem _ hD))
end
end Go.Proofs.Ytgidkjfakecniaa
