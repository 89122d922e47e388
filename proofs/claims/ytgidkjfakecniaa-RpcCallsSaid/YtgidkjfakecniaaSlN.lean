/-
  Drawn regions in which two operations that make memory are ready together; an operation behind which the rest needs no memory.
-/
import Derived.Test.YtgidkjfakecniaaSlG
namespace Go.Proofs.Ytgidkjfakecniaa
open Go.RowKit
section
variable {Γ : Ctx} {N : Nat} {P : Program} {E : Env} {H : List Chunk} {κ : Cont} {ops : Array Oper} {o : Oper}

/-- The rest of a drawn region, if the operation i comes next. -/
def RgO (Γ : Ctx) (N : Nat) (P : Program) (E : Env) (H Hs : List Chunk) (T : List Nat) (ops : Array Oper) (fuel : Nat) (listed : Array Bool) (κ : Cont) (i : Nat) : Prop :=
  Ent Γ N E H fun a w => wpOp P ops κ.toQ i (fun a' w' => until_ (Sat Γ Hs) T (listed.setIfInBounds i true) w' ∧ wpAnyL P .any ops κ.toQ (Sat Γ Hs) T fuel (listed.setIfInBounds i true) a' w') a w
theorem Rg.two {Hs : List Chunk} {T : List Nat} {fuel : Nat} {listed : Array Bool} (i j : Nat) (hr : Region.ready .any ops listed = [i, j]) (hi : RgO Γ N P E H Hs T ops fuel listed κ i) (hj : RgO Γ N P E H Hs T ops fuel listed κ j) : Rg Γ N P E H Hs T ops (fuel + 1) listed κ := fun a w hrep hs => by
  refine ⟨fun h => (by rw [hr] at h; cases h), fun k hk => ?_⟩
  rw [hr] at hk
  rcases List.mem_cons.1 hk with rfl | hk
  · exact hi a w hrep hs
  · obtain rfl : k = j := by simpa using hk
    exact hj a w hrep hs
theorem Rg.one {Hs : List Chunk} {T : List Nat} {fuel : Nat} {listed : Array Bool} (i : Nat) (hr : Region.ready .any ops listed = [i]) (hi : RgO Γ N P E H Hs T ops fuel listed κ i) : Rg Γ N P E H Hs T ops (fuel + 1) listed κ := fun a w hrep hs => by
  refine ⟨fun h => (by rw [hr] at h; cases h), fun k hk => ?_⟩
  rw [hr] at hk
  obtain rfl : k = i := by simpa using hk
  exact hi a w hrep hs
theorem RgO.does {Hs : List Chunk} {T : List Nat} {fuel : Nat} {listed : Array Bool} {ι : Type} {v : ι → Value} {H' : ι → List Chunk} {φ : ι → Prop} (i : Nat) (hi : ops[i]? = some o) (h : Does Γ N P E H o ι v H' φ) (hw : wantB ops E o = some true) (d : Option Tmp) (hd : (decide (o.dst = d) && dstB N d) = true)
    (hsub : ∀ j w, Sat Γ (H' j) w → Sat Γ Hs w) (k : ∀ j, φ j → Rg Γ N P (E.put d (v j)) (H' j) Hs T ops fuel (listed.setIfInBounds i true) κ) : RgO Γ N P E H Hs T ops fuel listed κ i := by
  simp only [Bool.and_eq_true, decide_eq_true_eq] at hd
  obtain ⟨rfl, hd⟩ := hd
  intro a w hrep hsat
  refine wpOp_step hi fun K hK => ?_
  rw [if_pos (wanted_of hrep hw)]
  refine h.run a w hrep hsat K _ fun x w' hx hs' => hK _ _ ⟨.inr (hsub x w' hs'), ?_⟩
  exact k x hx _ _ (hrep.put hd (v x)) hs'
/-- An operation that changes memory; what comes behind it needs no memory to stay. -/
theorem RgO.tail {Hs : List Chunk} {T : List Nat} {fuel : Nat} {listed : Array Bool} {ι : Type} {v : ι → Value} {H' : ι → List Chunk} {φ : ι → Prop} (i : Nat) (hi : ops[i]? = some o) (h : Does Γ N P E H o ι v H' φ) (hw : wantB ops E o = some true) (d : Option Tmp) (hd : (decide (o.dst = d) && dstB N d) = true)
    (hT : T.contains i = true) (hl : decide (i < listed.size) = true) (k : ∀ j, φ j → Rg Γ N P (E.put d (v j)) (H' j) [] [] ops fuel (listed.setIfInBounds i true) κ) : RgO Γ N P E H Hs T ops fuel listed κ i := by
  simp only [Bool.and_eq_true, decide_eq_true_eq] at hd
  obtain ⟨rfl, hd⟩ := hd
  intro a w hrep hsat
  have hil : (listed.setIfInBounds i true).getD i false = true := by
    have : i < listed.size := of_decide_eq_true hl
    simp [this]
  refine wpOp_step hi fun K hK => ?_
  rw [if_pos (wanted_of hrep hw)]
  refine h.run a w hrep hsat K _ fun x w' hx hs' => hK _ _ ⟨.inl ⟨i, by simpa using hT, hil⟩, ?_⟩
  exact wpAnyL_turn fuel _ _ _ (fun l w hm _ => .inl ⟨i, by simpa using hT, hm i hil⟩) (k x hx _ _ (hrep.put hd (v x)) hs')
/-- Ways through a drawn region that meet. -/
theorem Rg.join {Hs0 : List Chunk} {T0 : List Nat} {fuel0 : Nat} {listed0 : Array Bool} {ι : Type} (Es : ι → Env) (Hs : ι → List Chunk) (φ : ι → Prop) (fuel : Nat) (listed : Array Bool)
    (h1 : (∀ j, φ j → Rg Γ N P (Es j) (Hs j) [] [] ops fuel listed κ) → Rg Γ N P E H Hs0 T0 ops fuel0 listed0 κ) (h2 : ∀ j, φ j → Rg Γ N P (Es j) (Hs j) [] [] ops fuel listed κ) : Rg Γ N P E H Hs0 T0 ops fuel0 listed0 κ := h1 h2
theorem Rg.meet {fuel : Nat} {listed listed' : Array Bool} {ι : Type} {Es : ι → Env} {Hs : ι → List Chunk} {φ : ι → Prop} (h : ∀ j, φ j → Rg Γ N P (Es j) (Hs j) [] [] ops fuel listed κ) (j : ι) (hl : listed = listed') (hj : φ j) (hE : E.le (Es j)) (hH : H = Hs j) : Rg Γ N P E H [] [] ops fuel listed' κ := fun a w hrep hs => by
  subst hl hH
  exact h j hj a w (hrep.le hE) hs
end
end Go.Proofs.Ytgidkjfakecniaa
