/-
  make of a slice of one-cell elements, whole; lists of texts as cells; what a range over a function leaves alone.
-/
import Derived.Test.YtgidkjfakecniaaLibL
import Derived.Laws.MakeOwn
import Derived.RangeFuncNested
namespace Go.Proofs.Ytgidkjfakecniaa
open Go.RowKit

section
variable {P : Program} {t e : TypeId} {bytes : Nat}
theorem made_one (z : Value) (hz : z.cells = #[z]) (n : Nat) : madeCells z.cells n = (List.replicate n z).toArray := by
  rw [hz]
  unfold madeCells
  apply Array.ext
  · simp
  · intro i h1 h2
    simp [Nat.mod_one]
/-- make(t, n): a new block of n zero cells. -/
theorem run_make1 (hel : Elem P t e 1 bytes) (z : Value) (hz : (P.info? e).bind (·.zero) = some z) (hc : z.cells = #[z]) (n : Nat) (hb : n * bytes ≤ 281474976710656) (w : World) :
    (Instr.makeSlice t (.int .i64 (n : Int)) (.int .i64 (n : Int))).run P w = .ok (.slice (some ⟨w.heap.size, 0, none⟩) n n) (w.alloc (.cells (List.replicate n z).toArray e)) := by
  obtain ⟨i, z', ht, hi, hzi, hs, hby, hzs, _, hb0⟩ := hel
  rw [hi, Option.bind_some, hzi, Option.some.injEq] at hz
  subst hz
  have hn : n ≤ n * bytes := Nat.le_mul_of_pos_right _ hb0
  have hbz : (i.bytes : Int) * (n : Int) ≤ 281474976710656 := by
    have h1 : ((n * bytes : Nat) : Int) ≤ 281474976710656 := by omega
    rw [Int.natCast_mul] at h1
    rw [hby, Int.mul_comm]
    exact h1
  have h := run_make (P := P) w t e i z' ht hi hzi .i64 .i64 (n : Int) (n : Int) (by omega) (by omega) hbz (by omega)
  rw [h, hs, Int.toNat_natCast, Nat.mul_one, made_one _ hc]
end

/-- A list of texts as cells. -/
def strs (ks : List ByteArray) : List Value := ks.map Value.string
theorem strs_length (ks : List ByteArray) : (strs ks).length = ks.length := by simp [strs]
theorem strs_append (a b : List ByteArray) : strs (a ++ b) = strs a ++ strs b := by simp [strs]
theorem strs_take (a : List ByteArray) (k : Nat) : (strs a).take k = strs (a.take k) := by simp [strs, List.map_take]
theorem strs_get (ks : List ByteArray) (k : Nat) : (strs ks)[k]? = (ks[k]?).map Value.string := by simp [strs]
theorem strs_one (ks : List ByteArray) : ∀ u ∈ strs ks, u.oneCell' = true := by
  intro u hu
  simp only [strs, List.mem_map] at hu
  obtain ⟨x, _, rfl⟩ := hu
  rfl
theorem Reads.str_ {w : World} {B n : Nat} {A : Option Addr} {ks : List ByteArray} (h : Reads w B 1 A n (strs ks)) {k : Nat} (hk : k < n) : ∃ ad, A = some ad ∧ ad.block < B ∧ w.cell? (ad.add k) = some (.string (ks.getD k .empty)) := by
  obtain ⟨ad, u, e, hb, hx, hc⟩ := h.at_ hk
  refine ⟨ad, e, hb, ?_⟩
  have hl : k < ks.length := by have := h.1; rw [strs_length] at this; omega
  rw [strs_get, List.getElem?_eq_getElem hl] at hx
  rw [hc, ← hx]
  simp [List.getD, List.getElem?_eq_getElem hl]

theorem blk_grown {W W' : World} {row : Option Nat} {B g t : Nat} {cs : Array Value} (h : Blk W g t cs) (hg : W.grownBy W' row) (hr : ∀ r, row = some r → B ≤ r ∧ ∃ o : Obj, W.heap[r]? = some o ∧ o.isCells = false) : Blk W' g t cs := by
  refine Blk.grown h hg (fun e => ?_)
  obtain ⟨_, o, ho, hc⟩ := hr g e.symm
  unfold Blk at h
  rw [h] at ho
  injection ho with ho
  subst ho
  cases hc
/-- The marks of ranges over functions that are over. -/
def marks (rs : List Nat) : List Deferred := rs.map fun D => { target := .collected D, args := #[] }
def Marked (B : Nat) (rs : List Nat) (w : World) : Prop := rs.Nodup ∧ ∀ D ∈ rs, B ≤ D ∧ D < w.heap.size ∧ w.heap[D]? = some (.deferred (some []))
theorem Marked.nil (B : Nat) (w : World) : Marked B [] w := ⟨List.nodup_nil, by simp⟩
theorem marked_grown {W W' : World} {row : Option Nat} {B C : Nat} {rs : List Nat} (h : Marked B rs W) (hC : ∀ D ∈ rs, D < C) (hg : W.grownBy W' row) (hr : ∀ r, row = some r → C ≤ r) : Marked B rs W' :=
  ⟨h.1, fun D hD => by
    obtain ⟨h1, h2, h3⟩ := h.2 D hD
    refine ⟨h1, Nat.lt_of_lt_of_le h2 hg.size, (hg.block D h2 (fun e => ?_)).trans h3⟩
    have := hr D e.symm
    have := hC D hD
    omega⟩
theorem Marked.upd {S : Nat → Prop} {W W' : World} {B : Nat} {rs : List Nat} (h : Marked B rs W) (hu : Upd S W W') (hn : ∀ D ∈ rs, ¬ S D) : Marked B rs W' :=
  ⟨h.1, fun D hD => by
    obtain ⟨h1, h2, h3⟩ := h.2 D hD
    exact ⟨h1, Nat.lt_of_lt_of_le h2 hu.size, (hu.block D h2 (hn D hD)).trans h3⟩⟩
/-- The way out of a function past its marks. -/
theorem leaves_marks {F : Fence} {n : Nat} {P : Program} {fn : Func} {tmps : Array Value} {R : Ending → World → Prop} (B : Nat) : ∀ (rs : List Nat) (w : World), Marked B rs w →
    (∀ w', Below B w w' → (∀ (k : Nat) (cs : Array Value) (t : TypeId) (fr : Nat × Nat), w.heap[k]? = some (Obj.cells cs t fr) → w'.heap[k]? = some (Obj.cells cs t fr)) → LeavesIn F n P fn tmps R [] .returning w') → LeavesInM F n P fn tmps R (marks rs) .returning w
  | [], w, _, h => h w (Below.refl _ _) (fun _ _ _ _ h => h)
  | D :: rs, w, hm, h => by
    obtain ⟨h1, h2, h3⟩ := hm.2 D (by simp)
    have hnd := hm.1
    rw [List.nodup_cons] at hnd
    have hput : w.grownBy (w.putObj D (.deferred none)) (some D) := grownBy_putObj' w D _
    refine ⟨by simp, .inl ⟨D, _, rfl, run_takeDeferred h3, leaves_marks B rs _ ⟨hnd.2, fun E hE => ?_⟩ (fun w' hb hc => h w' ?_ ?_)⟩⟩
    · obtain ⟨k1, k2, k3⟩ := hm.2 E (by simp [hE])
      refine ⟨k1, Nat.lt_of_lt_of_le k2 hput.size, (hput.block E k2 (fun e => ?_)).trans k3⟩
      injection e with e
      subst e
      exact hnd.1 hE
    · exact ((Below.refl B w).grown hput (by omega) (fun k e => by cases e; exact h1)).trans hb
    · intro k cs t fr hk
      refine hc k cs t fr ?_
      have hlt : k < w.heap.size := by
        rcases Nat.lt_or_ge k w.heap.size with hlt | hge
        · exact hlt
        · rw [Array.getElem?_eq_none hge] at hk; cases hk
      refine (hput.block k hlt (fun e => ?_)).trans hk
      injection e with e
      subst e
      rw [h3] at hk
      cases hk
end Go.Proofs.Ytgidkjfakecniaa
