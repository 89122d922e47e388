/-
  Pieces of one's own, together.
-/
import Derived.Test.YtgidkjfakecniaaSlE
namespace Go.Proofs.Ytgidkjfakecniaa
open Go.RowKit
section
variable {Γ : Ctx} {N : Nat} {P : Program} {E : Env} {H : List Chunk}

/-- Pieces that are one's own, apart from each other, as one piece. -/
def starx (Cs : List Chunk) : Chunk where
  holds w := Sat0 Cs w
  foot k := ∃ C ∈ Cs, C.foot k
  excl := true
  lt := fun w k h ⟨C, hC, hk⟩ => C.lt w k (h.1 C hC) hk
  loc := fun w w' hs he h => ⟨fun C hC => C.loc w w' hs (fun k hk => he k ⟨C, hC, hk⟩) (h.1 C hC), h.2⟩
theorem Sat.starx_nil {w : World} (h : Sat Γ H w) : Sat Γ (starx [] :: H) w :=
  ⟨h.upd, ⟨fun C hC => by
    rcases List.mem_cons.1 hC with rfl | hC
    · exact ⟨fun C hC => (by cases hC), List.Pairwise.nil⟩
    · exact h.sat.1 C hC, List.Pairwise.cons (fun D _ _ k hk => by obtain ⟨C, hC, _⟩ := hk; cases hC) h.sat.2⟩, fun C hC => by
    rcases List.mem_cons.1 hC with rfl | hC
    · rintro k ⟨C, hC, _⟩; cases hC
    · exact h.fits C hC⟩
theorem Sat.starx_add {C : Chunk} {Cs : List Chunk} {w : World} (hx : C.excl = true) (h : Sat Γ (C :: starx Cs :: H) w) : Sat Γ (starx (Cs ++ [C]) :: H) w := by
  obtain ⟨hu, ⟨hh, hp⟩, hf⟩ := h
  rw [List.pairwise_cons, List.pairwise_cons] at hp
  obtain ⟨p1, p2, p3⟩ := hp
  have hS : Sat0 Cs w := hh (starx Cs) (List.mem_cons_of_mem _ List.mem_cons_self)
  refine ⟨hu, ⟨fun D hD => ?_, List.Pairwise.cons (fun D hD _ k hk => ?_) p3⟩, fun D hD => ?_⟩
  · rcases List.mem_cons.1 hD with rfl | hD
    · refine ⟨fun F hF => ?_, List.pairwise_append.2 ⟨hS.2, List.pairwise_singleton _ _, fun F hF G hG _ k hk hk' => ?_⟩⟩
      · rcases List.mem_append.1 hF with hF | hF
        · exact hS.1 F hF
        · obtain rfl : F = C := by simpa using hF
          exact hh F List.mem_cons_self
      · obtain rfl : G = C := by simpa using hG
        exact p1 (starx Cs) List.mem_cons_self (.inr rfl) k hk' ⟨F, hF, hk⟩
    · exact hh D (List.mem_cons_of_mem _ (List.mem_cons_of_mem _ hD))
  · obtain ⟨F, hF, hk⟩ := hk
    rcases List.mem_append.1 hF with hF | hF
    · exact p2 D hD (.inl rfl) k ⟨F, hF, hk⟩
    · obtain rfl : F = C := by simpa using hF
      exact p1 D (List.mem_cons_of_mem _ hD) (.inl hx) k hk
  · rcases List.mem_cons.1 hD with rfl | hD
    · rintro k ⟨F, hF, hk⟩ hlt
      rcases List.mem_append.1 hF with hF | hF
      · exact (hf (starx Cs) (List.mem_cons_of_mem _ List.mem_cons_self)) k ⟨F, hF, hk⟩ hlt
      · obtain rfl : F = C := by simpa using hF
        obtain ⟨h1, h2⟩ := hf F List.mem_cons_self k hk hlt
        exact ⟨h1, fun _ => h2 hx⟩
    · exact hf D (List.mem_cons_of_mem _ (List.mem_cons_of_mem _ hD))
/-- Taken apart again. -/
theorem Sat.starx_open {Cs : List Chunk} {w : World} (h : Sat Γ (starx Cs :: H) w) : Sat Γ (Cs ++ H) w := by
  obtain ⟨hu, ⟨hh, hp⟩, hf⟩ := h
  rw [List.pairwise_cons] at hp
  have hS : Sat0 Cs w := hh _ List.mem_cons_self
  refine ⟨hu, ⟨fun D hD => (List.mem_append.1 hD).elim (hS.1 D) (fun h => hh D (List.mem_cons_of_mem _ h)), List.pairwise_append.2 ⟨hS.2, hp.2, fun F hF G hG _ k hk hk' => hp.1 G hG (.inl rfl) k ⟨F, hF, hk⟩ hk'⟩⟩, fun D hD k hk hlt => ?_⟩
  rcases List.mem_append.1 hD with hD | hD
  · obtain ⟨h1, h2⟩ := hf _ List.mem_cons_self k ⟨D, hD, hk⟩ hlt
    exact ⟨h1, fun _ => h2 rfl⟩
  · exact hf D (List.mem_cons_of_mem _ hD) k hk hlt
/-- Read alone from here on. -/
theorem Sat.starx_see {ι : Type} {ps : List ι} {f g : ι → Chunk} {w : World} (hg : ∀ p, (g p).excl = false) (hh : ∀ p w, (f p).holds w → (g p).holds w) (hf : ∀ p k, (g p).foot k → (f p).foot k) (h : Sat Γ (starx (ps.map f) :: H) w) : Sat Γ (stars (ps.map g) :: H) w := by
  have := h.see (i := 0) (C := starx (ps.map f)) (C' := stars (ps.map g)) rfl rfl (fun w hw C hC => by
    obtain ⟨p, hp, rfl⟩ := List.mem_map.1 hC
    exact ⟨hg p, hh p w (hw.1 _ (List.mem_map_of_mem hp))⟩) (fun k ⟨C, hC, hk⟩ => by
    obtain ⟨p, hp, rfl⟩ := List.mem_map.1 hC
    exact ⟨f p, List.mem_map_of_mem hp, hf p k hk⟩)
  simpa using this
end
end Go.Proofs.Ytgidkjfakecniaa
