/-
  Texts joined: WlX.
-/
import Derived.Test.YtceanciekadkeaaGreatDoorMWlL4g
/- lives of a log, plain: what is read back; a loss of power -/
namespace Go.Proofs.YtceanciekadkeaaGreatDoor
/-- All files are segments, with numbers up to N. -/
def SegsTo (P : DrP) (N : Nat) : Prop := ∀ f ∈ P.fs, ∃ n, 1 ≤ n ∧ n ≤ N ∧ f.nm = nameP n
abbrev scanB (B : List FiP) : List (List UInt8) := B.flatMap fun f => (scanF f.b).1
theorem flat_congr {α β : Type} {f g : α → List β} : ∀ {l : List α}, (∀ x ∈ l, f x = g x) → l.flatMap f = l.flatMap g
  | [], _ => rfl
  | x :: l, h => by
    rw [List.flatMap_cons, List.flatMap_cons, h x List.mem_cons_self, flat_congr fun y hy => h y (List.mem_cons_of_mem _ hy)]
theorem pay_all {P : DrP} {N : Nat} (h : P.Ok) (hs : SegsTo P N) (hN : N ≤ 999999) : P.pay 1 = scanB P.fs := by
  unfold DrP.pay payN segsP segsN scanB
  have hall : ∀ f ∈ P.fs, 1 ≤ numP f.nm ∧ nameP (numP f.nm) = f.nm := fun f hf => by
    obtain ⟨n, h1, h2, h3⟩ := hs f hf
    rw [h3, numP_name h1 (by omega)]
    exact ⟨h1, rfl⟩
  have e1 : (P.fs.map FiP.nm).map numP = P.fs.map fun f => numP f.nm := by rw [List.map_map]; rfl
  rw [e1, List.filter_eq_self.2 (fun n hn => by
    obtain ⟨f, hf, rfl⟩ := List.mem_map.1 hn
    have := (hall f hf).1
    exact decide_eq_true (by omega)), List.flatMap_map]
  refine flat_congr fun f hf => ?_
  obtain ⟨h1, h2⟩ := hall f hf
  rw [if_pos h1]
  unfold DrP.segB DrP.bytes DrP.find
  rw [h2, findG_mem h.rise hf]
theorem seg_le {P : DrP} {N : Nat} (hs : SegsTo P N) (hN : N ≤ 999999) : P.seg 1 ≤ N + 1 ∧ 1 ≤ P.seg 1 ∧ ∀ n, 1 ≤ n → n ≤ 999999 → (∃ f ∈ P.fs, f.nm = nameP n) → n < P.seg 1 := by
  unfold DrP.seg
  have hmem : ∀ n ∈ segsP P, n ≤ N := fun n hn => by
    obtain ⟨h1, h2, h3⟩ := segsN_mem hn
    obtain ⟨f, hf, he⟩ := List.mem_map.1 h3
    obtain ⟨m, k1, k2, k3⟩ := hs f hf
    rw [he] at k3
    have := nameP_inj (by omega) (by omega) k3
    omega
  have key : ∀ (ns : List Nat) (s : Nat), (∀ n ∈ ns, n ≤ N) → s ≤ N + 1 → ns.foldl segA s ≤ N + 1 ∧ s ≤ ns.foldl segA s ∧ ∀ n ∈ ns, n < ns.foldl segA s := by
    intro ns
    induction ns with
    | nil => exact fun s _ h => ⟨h, Nat.le_refl _, fun _ h => absurd h List.not_mem_nil⟩
    | cons n ns ih =>
      intro s hn hs
      have h1 := hn n List.mem_cons_self
      obtain ⟨a, b, c⟩ := ih (segA s n) (fun m hm => hn m (List.mem_cons_of_mem _ hm)) (by unfold segA; omega)
      have h2 : s ≤ segA s n ∧ n < segA s n := by unfold segA; omega
      refine ⟨a, Nat.le_trans h2.1 b, fun m hm => ?_⟩
      rcases List.mem_cons.1 hm with rfl | hm
      · exact Nat.lt_of_lt_of_le h2.2 b
      · exact c m hm
  obtain ⟨a, b, c⟩ := key (segsP P) 1 hmem (by omega)
  exact ⟨a, b, fun n h1 h2 ⟨f, hf, he⟩ => c n (segsN_of h1 h2 (List.mem_map.2 ⟨f, hf, he⟩))⟩
/-- A log that is opened on a drive on which nothing is loose. -/
theorem Liv.open_ {P : DrP} {N : Nat} (h : P.Ok) (hs : SegsTo P N) (hN : N ≤ 999999) (hy : ∀ f ∈ P.fs, f.sy = f.b.length) : Liv P ⟨P.seg 1, false⟩ P.fs (P.seg 1) [] [] 0 := by
  obtain ⟨h1, h2, h3⟩ := seg_le hs hN
  refine ⟨h, by rw [clF, curF, if_pos rfl, List.append_nil, List.append_nil], fun f hf => ?_, hy, h2, rfl, Nat.le_refl _, fun p hp => by simp at hp, by simp [seals]⟩
  obtain ⟨n, k1, k2, k3⟩ := hs f hf
  exact ⟨n, k1, h3 n k1 (by omega) ⟨f, hf, k3⟩, k3⟩
section
variable {P : DrP} {L : LgP} {B : List FiP} {s0 : Nat} {C : List (List (List UInt8))} {G : List (List UInt8)} {k : Nat}
theorem Liv.to (h : Liv P L B s0 C G k) : SegsTo P L.seg := fun f hf => by
  rw [h.fs] at hf
  have hp := h.pos
  have hsg := h.seg
  rcases List.mem_append.1 hf with hf | hf
  · rcases List.mem_append.1 hf with hf | hf
    · obtain ⟨n, h1, h2, h3⟩ := h.base f hf
      exact ⟨n, h1, by omega, h3⟩
    · obtain ⟨n, _, h1, h2, _, rfl⟩ := clF_mem hf
      exact ⟨n, by omega, by omega, rfl⟩
  · unfold curF at hf
    split at hf
    · cases hf
    · obtain rfl := List.mem_singleton.1 hf
      exact ⟨L.seg, by omega, Nat.le_refl _, rfl⟩
theorem scan_cl : ∀ (s : Nat) (C : List (List (List UInt8))), (∀ p ∈ C.flatten, p.length ≤ 4096) → scanB (clF s C) = C.flatten
  | _, [], _ => rfl
  | s, G :: C, h => by
    rw [clF, scanB, List.flatMap_cons]
    rw [List.flatten_cons] at h ⊢
    have := scan_cl (s + 1) C (fun p hp => h p (List.mem_append_right _ hp))
    unfold scanB at this
    rw [this]
    show (scanF (seals G)).1 ++ _ = _
    rw [scanF_seals G (fun p hp => h p (List.mem_append_left _ hp))]
theorem Liv.pay (h : Liv P L B s0 C G k) (hs : L.seg ≤ 999999) : P.pay 1 = scanB B ++ allP C G := by
  rw [pay_all h.ok h.to hs, h.fs, scanB, List.flatMap_append, List.flatMap_append]
  have h1 := scan_cl s0 C (fun p hp => h.pl p (List.mem_append_left _ hp))
  unfold scanB at h1
  rw [h1, List.append_assoc]
  congr 2
  unfold curF
  split
  · rename_i e
    rw [e]
    rfl
  · rw [List.flatMap_singleton]
    show (scanF (seals G)).1 = _
    rw [scanF_seals G (fun p hp => h.pl p (List.mem_append_right _ hp))]
end
section
variable {P : DrP} {L : LgP} {B : List FiP} {s0 : Nat} {C : List (List (List UInt8))} {G : List (List UInt8)} {k : Nat}
end
end Go.Proofs.YtceanciekadkeaaGreatDoor
