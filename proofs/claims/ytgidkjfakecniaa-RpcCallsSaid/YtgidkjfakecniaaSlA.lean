/-
  A heap in pieces: 'Sat Γ H w': the world w holds the pieces H, apart from each other, and all else that there was stays. A walk speaks of slots by number and of memory by pieces, never of worlds.
-/
import Derived.Test.YtgidkjfakecniaaLibK
import Derived.Deep.RegionHeld3
import Derived.Laws.CopyRow
import Derived.Laws.ResultCell
namespace Go.Proofs.Ytgidkjfakecniaa
open Go.RowKit

/-- A piece of memory: what it says, the blocks that it hangs on, whether it is ours alone. -/
structure Chunk where
  holds : World → Prop
  foot : Nat → Prop
  excl : Bool
  lt : ∀ w k, holds w → foot k → k < w.heap.size
  loc : ∀ w w', w.heap.size ≤ w'.heap.size → (∀ k, foot k → w'.heap[k]? = w.heap[k]?) → holds w → holds w'

/-- A block that is ours. -/
def blk (g : Nat) (t : TypeId) (cs : List Value) : Chunk where
  holds w := Blk w g t cs.toArray
  foot k := k = g
  excl := true
  lt := fun _ k h e => by subst e; exact h.lt
  loc := fun w w' _ he h => (he g rfl).trans h

theorem own_block {w w' : World} {base e size n c : Nat} {A : Option Addr} {xs : List Value} (h : Own w base e size A n c xs) (he : ∀ k, blockOf A = some k → w'.heap[k]? = w.heap[k]?) : Own w' base e size A n c xs := by
  obtain ⟨h1, h2⟩ := h
  rcases h2 with h2 | ⟨g, cap, cur, hv, hg, hh, r⟩
  · exact ⟨h1, .inl h2⟩
  · refine ⟨h1, .inr ⟨g, cap, cur, hv, hg, (he g ?_).trans hh, r⟩⟩
    injection hv with e1
    rw [e1]
    rfl

/-- A slice that is ours: nil, or the head of a block of its own. -/
def row (A : Option Addr) (n c : Nat) (e size : Nat) (xs : List Value) : Chunk where
  holds w := Own w 0 e size A n c xs
  foot k := blockOf A = some k
  excl := true
  lt := fun _ k h e => (h.ge k e).2
  loc := fun _ _ _ he h => own_block h he

/-- A slice that is read alone. -/
def rd (A : Option Addr) (n size : Nat) (xs : List Value) : Chunk where
  holds w := Reads w w.heap.size size A n xs
  foot k := 0 < n ∧ blockOf A = some k
  excl := false
  lt := fun w k h e => by
    obtain ⟨ad, rfl, hb, _⟩ := h.2 e.1
    obtain rfl : ad.block = k := by simpa [blockOf] using e.2
    exact hb
  loc := fun w w' hs he h => ⟨h.1, fun hn => by
    obtain ⟨ad, rfl, hb, hc⟩ := h.2 hn
    refine ⟨ad, rfl, by omega, fun j u hu => ?_⟩
    rw [← hc j u hu]
    exact World.cell?_of_block (by rw [block_of_add]; exact he _ ⟨hn, rfl⟩)⟩

def apart (C D : Chunk) : Prop := (C.excl = true ∨ D.excl = true) → ∀ k, C.foot k → ¬ D.foot k
theorem apart.symm {C D : Chunk} (h : apart C D) : apart D C := fun he k h1 h2 => h he.symm k h2 h1

def Sat0 (H : List Chunk) (w : World) : Prop := (∀ C ∈ H, C.holds w) ∧ H.Pairwise apart

/-- Where a function began: the world, and the pieces that it was given. -/
structure Ctx where
  w0 : World
  H0 : List Chunk
def Ctx.S (Γ : Ctx) (k : Nat) : Prop := ∃ D ∈ Γ.H0, D.excl = true ∧ D.foot k
def Ctx.old (Γ : Ctx) (k : Nat) : Prop := ∃ D ∈ Γ.H0, D.foot k

/-- The piece is new, or hangs on what was given (its own: on what was given as one's own). -/
def Ctx.fits (Γ : Ctx) (C : Chunk) : Prop := ∀ k, C.foot k → k < Γ.w0.heap.size → Γ.old k ∧ (C.excl = true → Γ.S k)

structure Sat (Γ : Ctx) (H : List Chunk) (w : World) : Prop where
  upd : Upd Γ.S Γ.w0 w
  sat : Sat0 H w
  fits : ∀ C ∈ H, Γ.fits C

theorem Sat.start {H : List Chunk} {w : World} (h : Sat0 H w) : Sat ⟨w, H⟩ H w := ⟨Upd.refl _ _, h, fun C hC _ hk _ => ⟨⟨C, hC, hk⟩, fun he => ⟨C, hC, he, hk⟩⟩⟩

/-! ### Choosing pieces -/
def picks (H : List Chunk) : List Nat → List Chunk
  | [] => []
  | i :: r => match H[i]? with
    | some C => C :: picks H r
    | none => picks H r
theorem mem_picks {H : List Chunk} {C : Chunk} : ∀ {is : List Nat}, C ∈ picks H is → ∃ j ∈ is, H[j]? = some C
  | [], h => by cases h
  | i :: r, h => by
    unfold picks at h
    split at h
    · rename_i D hD
      rcases List.mem_cons.1 h with rfl | h
      · exact ⟨i, List.mem_cons_self, hD⟩
      · obtain ⟨j, hj, e⟩ := mem_picks h
        exact ⟨j, List.mem_cons_of_mem _ hj, e⟩
    · obtain ⟨j, hj, e⟩ := mem_picks h
      exact ⟨j, List.mem_cons_of_mem _ hj, e⟩
def selB (es : List Bool) : List Nat → Bool
  | [] => true
  | i :: r => (r.all fun j => i != j || es[i]? == some false) && selB es r

theorem pick_sat0 {H : List Chunk} {w : World} (h : Sat0 H w) : ∀ (is : List Nat), selB (H.map (·.excl)) is = true → Sat0 (picks H is) w
  | [], _ => ⟨fun C hC => (by cases hC), List.Pairwise.nil⟩
  | i :: r, hs => by
    simp only [selB, Bool.and_eq_true] at hs
    have ih := pick_sat0 h r hs.2
    have hmem : ∀ D ∈ picks H r, ∃ j ∈ r, H[j]? = some D := fun D hD => mem_picks hD
    cases hi : H[i]? with
    | none => simpa [picks, hi] using ih
    | some C =>
      have e : picks H (i :: r) = C :: picks H r := by simp [picks, hi]
      rw [e]
      refine ⟨fun D hD => ?_, List.Pairwise.cons (fun D hD => ?_) ih.2⟩
      · rcases List.mem_cons.1 hD with rfl | hD
        · exact h.1 _ (List.mem_of_getElem? hi)
        · exact ih.1 D hD
      · obtain ⟨j, hj, hD'⟩ := hmem D hD
        have hp := List.pairwise_iff_getElem.1 h.2
        obtain ⟨hil, rfl⟩ := List.getElem?_eq_some_iff.1 hi
        obtain ⟨hjl, rfl⟩ := List.getElem?_eq_some_iff.1 hD'
        rcases Nat.lt_trichotomy i j with hlt | rfl | hlt
        · exact hp i j hil hjl hlt
        · have := (List.all_eq_true.1 hs.1) i hj
          simp [hi] at this
          intro he
          simp [this] at he
        · exact (hp j i hjl hil hlt).symm

theorem Sat.pick {Γ : Ctx} {H : List Chunk} {w : World} (h : Sat Γ H w) (is : List Nat) (hs : selB (H.map (·.excl)) is = true) : Sat Γ (picks H is) w :=
  ⟨h.upd, pick_sat0 h.sat is hs, fun C hC => by
    obtain ⟨j, _, hj⟩ := mem_picks hC
    exact h.fits C (List.mem_of_getElem? hj)⟩

theorem Sat.mem {Γ : Ctx} {H : List Chunk} {w : World} (h : Sat Γ H w) {C : Chunk} {i : Nat} (hi : H[i]? = some C) : C.holds w := h.sat.1 C (List.mem_of_getElem? hi)

theorem sat0_append {H R : List Chunk} {w : World} : Sat0 (H ++ R) w ↔ Sat0 H w ∧ Sat0 R w ∧ ∀ C ∈ H, ∀ D ∈ R, apart C D := by
  unfold Sat0
  rw [List.pairwise_append]
  constructor
  · rintro ⟨h1, h2, h3, h4⟩
    exact ⟨⟨fun C hC => h1 C (List.mem_append_left _ hC), h2⟩, ⟨fun C hC => h1 C (List.mem_append_right _ hC), h3⟩, h4⟩
  · rintro ⟨⟨h1, h2⟩, ⟨h3, h4⟩, h5⟩
    exact ⟨fun C hC => (List.mem_append.1 hC).elim (h1 C) (h3 C), h2, h4, h5⟩

/-- Behind a call that was given H: what it left, and what it was not given. -/
theorem Sat.call {Γ : Ctx} {H R H' : List Chunk} {w w' : World} (h : Sat Γ (H ++ R) w) (k : Sat ⟨w, H⟩ H' w') : Sat Γ (H' ++ R) w' := by
  obtain ⟨sH, sR, sap⟩ := sat0_append.1 h.sat
  have hR : ∀ C ∈ R, ∀ k, C.foot k → ¬ Ctx.S ⟨w, H⟩ k := fun C hC k hk ⟨D, hD, he, hf⟩ => sap D hD C hC (.inl he) k hf hk
  have hlt : ∀ C ∈ R, ∀ k, C.foot k → k < w.heap.size := fun C hC k hk => C.lt w k (sR.1 C hC) hk
  refine ⟨?_, sat0_append.2 ⟨k.sat, ⟨fun C hC => C.loc w w' k.upd.size (fun k' hk' => k.upd.block k' (hlt C hC k' hk') (hR C hC k' hk')) (sR.1 C hC), sR.2⟩, ?_⟩, ?_⟩
  · refine h.upd.trans k.upd ?_
    rintro i hi ⟨D, hD, he, hf⟩
    exact (h.fits D (List.mem_append_left _ hD) i hf hi).2 he
  · intro C hC D hD he i h1 h2
    have hi : i < w.heap.size := hlt D hD i h2
    obtain ⟨⟨E, hE, hEf⟩, hS⟩ := k.fits C hC i h1 hi
    rcases he with he | he
    · obtain ⟨E', hE', hx, hf⟩ := hS he
      exact sap E' hE' D hD (.inl hx) i hf h2
    · exact sap E hE D hD (.inr he) i hEf h2
  · intro C hC
    rcases List.mem_append.1 hC with hC | hC
    · intro i h1 h2
      obtain ⟨⟨E, hE, hEf⟩, hS⟩ := k.fits C hC i h1 (Nat.lt_of_lt_of_le h2 h.upd.size)
      refine ⟨(h.fits E (List.mem_append_left _ hE) i hEf h2).1, fun he => ?_⟩
      obtain ⟨E', hE', hx, hf⟩ := hS he
      exact (h.fits E' (List.mem_append_left _ hE') i hf h2).2 hx
    · exact h.fits C (List.mem_append_right _ hC)

/-- New memory. -/
theorem Sat.new {Γ : Ctx} {H : List Chunk} {w : World} (h : Sat Γ H w) (t : TypeId) (cs : List Value) : Sat Γ (blk w.heap.size t cs :: H) (w.alloc (.cells cs.toArray t)) := by
  have hlt : ∀ C ∈ H, ∀ k, C.foot k → k < w.heap.size := fun C hC k hk => C.lt w k (h.sat.1 C hC) hk
  refine ⟨h.upd.alloc _, ⟨fun C hC => ?_, List.Pairwise.cons (fun D hD _ k hk hf => ?_) h.sat.2⟩, fun C hC => ?_⟩
  · rcases List.mem_cons.1 hC with rfl | hC
    · exact Blk.new w t _
    · exact C.loc w _ (by simp) (fun k hk => Below.heap_alloc w _ k (hlt C hC k hk)) (h.sat.1 C hC)
  · have := hlt D hD k hf
    obtain rfl : k = w.heap.size := hk
    omega
  · rcases List.mem_cons.1 hC with rfl | hC
    · intro k hk hk'
      obtain rfl : k = w.heap.size := hk
      exact absurd h.upd.size (by omega)
    · exact h.fits C hC

/-- The piece at i has turned, by a change of the world at its blocks alone. -/
theorem Sat.turn {Γ : Ctx} {H : List Chunk} {w w' : World} (h : Sat Γ H w) {i : Nat} {C C' : Chunk} (hi : H[i]? = some C) (hx : C.excl = true) (hu : Upd C.foot w w') (hh : C'.holds w') (hf : ∀ k, C'.foot k → C.foot k ∨ w.heap.size ≤ k) : Sat Γ (H.set i C') w' := by
  have hlt : ∀ C ∈ H, ∀ k, C.foot k → k < w.heap.size := fun C hC k hk => C.lt w k (h.sat.1 C hC) hk
  obtain ⟨hil, hiC⟩ := List.getElem?_eq_some_iff.1 hi
  have hp := List.pairwise_iff_getElem.1 h.sat.2
  have hCm : C ∈ H := List.mem_of_getElem? hi
  have hap : ∀ j (hj : j < H.length), j ≠ i → ∀ k, C.foot k → ¬ H[j].foot k := by
    intro j hj hne k hk hk'
    rcases Nat.lt_or_gt_of_ne hne with hlt' | hlt'
    · exact hp j i hj hil hlt' (.inr (by rw [hiC]; exact hx)) k hk' (by rw [hiC]; exact hk)
    · exact hp i j hil hj hlt' (.inl (by rw [hiC]; exact hx)) k (by rw [hiC]; exact hk) hk'
  have hap' : ∀ j (hj : j < H.length), j ≠ i → ∀ k, C'.foot k → ¬ H[j].foot k := by
    intro j hj hne k hk hk'
    rcases hf k hk with h1 | h1
    · exact hap j hj hne k h1 hk'
    · exact absurd (hlt _ (List.getElem_mem hj) k hk') (by omega)
  refine ⟨h.upd.trans hu (fun k hk hf' => (h.fits C hCm k hf' hk).2 hx), ⟨fun D hD => ?_, ?_⟩, fun D hD => ?_⟩
  · obtain ⟨j, hj, rfl⟩ := List.getElem_of_mem hD
    rw [List.length_set] at hj
    rw [List.getElem_set]
    split
    · exact hh
    · rename_i hne
      exact H[j].loc w w' hu.size (fun k hk => hu.block k (hlt _ (List.getElem_mem hj) k hk) (fun hc => hap j hj (fun e => hne e.symm) k hc hk)) (h.sat.1 _ (List.getElem_mem hj))
  · rw [List.pairwise_iff_getElem]
    intro a b ha hb hab
    rw [List.length_set] at ha hb
    rw [List.getElem_set, List.getElem_set]
    split
    · rename_i ha'
      rw [if_neg (by omega)]
      intro _ k hk hk'
      exact hap' b hb (by omega) k hk hk'
    · rename_i ha'
      split
      · intro _ k hk hk'
        exact hap' a ha (fun e => ha' e.symm) k hk' hk
      · exact hp a b ha hb hab
  · obtain ⟨j, hj, rfl⟩ := List.getElem_of_mem hD
    rw [List.length_set] at hj
    rw [List.getElem_set]
    split
    · intro k hk hk'
      rcases hf k hk with h1 | h1
      · obtain ⟨o1, o2⟩ := h.fits C hCm k h1 hk'
        exact ⟨o1, fun _ => o2 hx⟩
      · exact absurd h.upd.size (by omega)
    · exact h.fits _ (List.getElem_mem hj)

/-- One's own, read alone from here on. -/
theorem Sat.see {Γ : Ctx} {H : List Chunk} {w : World} (h : Sat Γ H w) {i : Nat} {C C' : Chunk} (hi : H[i]? = some C) (hx : C.excl = true) (hh : ∀ w, C.holds w → C'.holds w) (hf : ∀ k, C'.foot k → C.foot k) : Sat Γ (H.set i C') w :=
  h.turn hi hx (Upd.refl _ _) (hh w (h.mem hi)) (fun k hk => .inl (hf k hk))

theorem row_rd {A : Option Addr} {n c e size : Nat} {xs : List Value} : (∀ w, (row A n c e size xs).holds w → (rd A n size xs).holds w) ∧ (∀ k, (rd A n size xs).foot k → (row A n c e size xs).foot k) :=
  ⟨fun _ h => Own.reads h, fun _ h => h.2⟩
/-- The draw of an order. -/
theorem Sat.drew {Γ : Ctx} {H : List Chunk} {w : World} (h : Sat Γ H w) : Sat Γ H w.drew :=
  ⟨h.upd.drew, ⟨fun C hC => C.loc w _ (Nat.le_refl _) (fun _ _ => rfl) (h.sat.1 C hC), h.sat.2⟩, h.fits⟩
end Go.Proofs.Ytgidkjfakecniaa
