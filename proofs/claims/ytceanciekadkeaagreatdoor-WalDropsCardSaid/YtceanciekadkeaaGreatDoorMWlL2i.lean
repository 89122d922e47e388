/-
  Texts joined: WlDP.
-/
import Derived.Test.YtceanciekadkeaaGreatDoorMWlL2h
/- what is dropped, plain -/
namespace Go.Proofs.YtceanciekadkeaaGreatDoor
theorem delete_ok {P : DrP} {q : List UInt8} (hf : P.find q ≠ none) (hl : P.left = none) : P.delete q = (P.step.without q, 0) := by
  unfold DrP.delete
  cases h : P.find q with
  | none => exact absurd h hf
  | some f =>
    dsimp only
    rw [if_neg (by rw [DrP.dead, hl]; simp)]
/-- All that is below is dropped, but for the log's own. -/
theorem dropF_all (before : Int) (L : LgP) (hL : L.dead = false) : ∀ (ns : List Nat) (P : DrP), P.Ok → P.left = none → ns.Pairwise (· < ·) → (∀ n ∈ ns, n ≤ 999999 ∧ P.find (nameP n) ≠ none) →
    ∃ P', dropF before ns P L = (P', L, 0) ∧ P'.left = none ∧ P'.Ok ∧ P'.fs = P.fs.filter fun f => decide (∀ n ∈ ns, (n : Int) < before → n ≠ L.seg → f.nm ≠ nameP n)
  | [], P, hok, hl, _, _ => ⟨P, rfl, hl, hok, by rw [List.filter_eq_self.2]; intro f _; simp⟩
  | n :: ns, P, hok, hl, hp, hn => by
    have hp2 := (List.pairwise_cons.1 hp).2
    have hp1 := (List.pairwise_cons.1 hp).1
    rw [dropF]
    by_cases hc : before ≤ (n : Int) ∨ n = L.seg
    · rw [if_pos hc]
      obtain ⟨P', h1, h2, h3, h4⟩ := dropF_all before L hL ns P hok hl hp2 (fun m hm => hn m (List.mem_cons_of_mem _ hm))
      refine ⟨P', h1, h2, h3, h4.trans ?_⟩
      refine List.filter_congr fun f _ => decide_eq_decide.2 ⟨fun h m hm => ?_, fun h m hm => h m (List.mem_cons_of_mem _ hm)⟩
      rcases List.mem_cons.1 hm with rfl | hm
      · intro a b
        rcases hc with hc | hc
        · omega
        · exact absurd hc b
      · exact h m hm
    · rw [if_neg hc]
      have hd := delete_ok (hn n List.mem_cons_self).2 hl
      rw [hd]
      dsimp only
      rw [if_neg (fun h => h rfl)]
      obtain ⟨P', h1, h2, h3, h4⟩ := dropF_all before L hL ns (P.step.without (nameP n)) (hok.step.without _) (by show P.left.map _ = none; rw [hl]; rfl) hp2 (fun m hm => by
        obtain ⟨a, b⟩ := hn m (List.mem_cons_of_mem _ hm)
        refine ⟨a, ?_⟩
        show findG FiP.nm (nameP m) (delG FiP.nm (nameP n) P.fs) ≠ none
        rw [findG_del, if_neg (fun e => by
          have := nameP_inj (by omega) (by have := (hn n List.mem_cons_self).1; omega) e
          have := hp1 m hm
          omega)]
        exact b)
      refine ⟨P', h1, h2, h3, h4.trans ?_⟩
      show (delG FiP.nm (nameP n) P.fs).filter _ = _
      unfold delG
      rw [List.filter_filter]
      refine List.filter_congr fun f _ => ?_
      rw [← Bool.decide_and]
      refine decide_eq_decide.2 ⟨fun ⟨h1, h2⟩ m hm => ?_, fun h => ⟨fun m hm => h m (List.mem_cons_of_mem _ hm), h n List.mem_cons_self (by omega) (fun e => hc (.inr e))⟩⟩
      rcases List.mem_cons.1 hm with rfl | hm
      · exact fun _ _ => h2
      · exact h1 m hm
/-- Where the payloads are. -/
def atsC : Nat → List (List (List UInt8)) → List Nat
  | _, [] => []
  | s, G :: C => List.replicate G.length s ++ atsC (s + 1) C
theorem atsC_snoc : ∀ (s : Nat) (C : List (List (List UInt8))) (G : List (List UInt8)), atsC s (C ++ [G]) = atsC s C ++ List.replicate G.length (s + C.length)
  | s, [], G => by simp [atsC]
  | s, D :: C, G => by
    rw [List.cons_append, atsC, atsC_snoc (s + 1) C G, atsC, List.length_cons, show s + 1 + C.length = s + (C.length + 1) by omega, List.append_assoc]
theorem atsC_len : ∀ (s : Nat) (C : List (List (List UInt8))), (atsC s C).length = C.flatten.length
  | _, [] => rfl
  | s, G :: C => by rw [atsC, List.length_append, List.length_replicate, List.flatten_cons, List.length_append, atsC_len (s + 1) C]
/-- What stays of them. -/
def keptL (keep : Nat → Bool) (qs : List (List UInt8)) (ats : List Nat) : List (List UInt8) := ((qs.zip ats).filter fun x => keep x.2).map Prod.fst
theorem keptL_append {keep : Nat → Bool} {a b : List (List UInt8)} {s t : List Nat} (h : a.length = s.length) : keptL keep (a ++ b) (s ++ t) = keptL keep a s ++ keptL keep b t := by
  unfold keptL
  rw [List.zip_append h, List.filter_append, List.map_append]
theorem keptL_rep (keep : Nat → Bool) (s : Nat) : ∀ G : List (List UInt8), keptL keep G (List.replicate G.length s) = if keep s then G else []
  | [] => by simp [keptL]
  | p :: G => by
    have ih := keptL_rep keep s G
    unfold keptL at ih ⊢
    rw [List.length_cons, List.replicate_succ, List.zip_cons_cons, List.filter_cons]
    by_cases h : keep s
    · simp only [h, if_true] at ih ⊢
      rw [List.map_cons, ih]
    · simp only [h] at ih ⊢
      exact ih
theorem scan_kept (keep : Nat → Bool) (q : FiP → Bool) : ∀ (s : Nat) (C : List (List (List UInt8))), (∀ n b y, s ≤ n → n < s + C.length → q (segFile n b y) = keep n) → (∀ p ∈ C.flatten, p.length ≤ 4096) → scanB ((clF s C).filter q) = keptL keep C.flatten (atsC s C)
  | _, [], _, _ => rfl
  | s, G :: C, h, hp => by
    rw [List.flatten_cons] at hp ⊢
    rw [clF, atsC, keptL_append (by rw [List.length_replicate]), keptL_rep, List.filter_cons, h s _ _ (Nat.le_refl _) (by simp)]
    have ih := scan_kept keep q (s + 1) C (fun n b y h1 h2 => h n b y (by omega) (by simp only [List.length_cons]; omega)) (fun p hp' => hp p (List.mem_append_right _ hp'))
    by_cases hk : keep s
    · rw [if_pos hk, if_pos hk, scanB, List.flatMap_cons]
      unfold scanB at ih
      rw [ih]
      show (scanF (seals G)).1 ++ _ = _
      rw [scanF_seals G (fun p hp' => hp p (List.mem_append_left _ hp'))]
    · rw [if_neg hk, if_neg hk, List.nil_append]
      exact ih
/-- What is dropped is gone, what stands from a number on stays, and so does the log's own. -/
theorem Liv.drop {P : DrP} {L : LgP} {C : List (List (List UInt8))} {G : List (List UInt8)} {k : Nat} (h : Liv P L [] 1 C G k) (hs : L.seg ≤ 900000) (hd : L.dead = false) (hl : P.left = none) (before : Int) :
    ∃ P', dropL P L before = (P', L, 0) ∧ P'.Ok ∧ P'.pay 1 = keptL (fun n => decide (before ≤ (n : Int)) || decide (n = L.seg)) (allP C G) (atsC 1 C ++ List.replicate G.length L.seg) := by
  unfold dropL
  rw [if_neg (by rw [hd]; decide)]
  have hto := h.to
  have hrise : (segsP P).Pairwise (· < ·) := by
    have hr : (P.fs.map fun f => numP f.nm).Pairwise (· < ·) := by
      rw [List.pairwise_map]
      refine (List.Pairwise.imp_of_mem (fun {x y} hx hy hxy => ?_) h.ok.rise)
      obtain ⟨n, a1, a2, a3⟩ := hto x hx
      obtain ⟨m, b1, b2, b3⟩ := hto y hy
      rw [a3, b3, numP_name a1 (by omega), numP_name b1 (by omega)]
      rw [a3, b3] at hxy
      refine Nat.lt_of_not_le fun hle => ?_
      rcases Nat.lt_or_eq_of_le hle with hlt | heq
      · exact List.lt_irrefl _ (List.lt_trans hxy (nameP_lt (by omega) hlt))
      · rw [heq] at hxy
        exact List.lt_irrefl _ hxy
    unfold segsP segsN
    rw [List.map_map]
    exact List.Pairwise.sublist List.filter_sublist hr
  obtain ⟨P', h1, h2, h3, h4⟩ := dropF_all before L hd (segsP P) P h.ok hl hrise (fun n hn => by
    obtain ⟨a, b, hc⟩ := segsN_mem hn
    obtain ⟨f, hf, he⟩ := List.mem_map.1 hc
    refine ⟨b, ?_⟩
    rw [← he]
    show findG FiP.nm f.nm P.fs ≠ none
    rw [findG_mem h.ok.rise hf]
    simp)
  refine ⟨P', h1, h3, ?_⟩
  have hto' : SegsTo P' L.seg := fun f hf => by
    rw [h4] at hf
    exact hto f (List.mem_filter.1 hf).1
  have hkeep : P'.fs = P.fs.filter fun f => (decide (before ≤ (numP f.nm : Int)) || decide (numP f.nm = L.seg)) := by
    rw [h4]
    refine List.filter_congr fun f hf => ?_
    obtain ⟨n, a1, a2, a3⟩ := hto f hf
    rw [a3, numP_name a1 (by omega), ← Bool.decide_or]
    refine decide_eq_decide.2 ⟨fun hall => ?_, fun hor m hm hlt hne e => ?_⟩
    · have := hall n (segsN_of a1 (by omega) (List.mem_map.2 ⟨f, hf, a3⟩))
      by_cases hb : before ≤ (n : Int)
      · exact .inl hb
      · refine .inr (Decidable.byContradiction fun hne => ?_)
        exact this (by omega) hne rfl
    · have := nameP_inj (by omega) (by have := (segsN_mem hm).2.1; omega) e
      subst this
      rcases hor with hor | hor
      · omega
      · exact hne hor
  rw [pay_all h3 hto' (by omega), hkeep, h.fs, List.nil_append, List.filter_append, scanB, List.flatMap_append, allP, keptL_append (by rw [atsC_len])]
  have hnum : ∀ n b y, 1 ≤ n → n ≤ 900000 → numP (segFile n b y).nm = n := fun n b y h1 h2 => numP_name h1 (by omega)
  have hsg := h.seg
  have e1 := scan_kept (fun n => decide (before ≤ (n : Int)) || decide (n = L.seg)) (fun f => (decide (before ≤ (numP f.nm : Int)) || decide (numP f.nm = L.seg))) 1 C (fun n b y k1 k2 => by rw [hnum n b y k1 (by omega)]) (fun p hp => h.pl p (List.mem_append_left _ hp))
  unfold scanB at e1
  rw [e1]
  congr 1
  unfold curF
  split
  · rename_i e
    rw [e]
    rfl
  · rw [keptL_rep, List.filter_cons, hnum _ _ _ (by omega) hs]
    split
    · rw [List.filter_nil, List.flatMap_singleton]
      show (scanF (seals G)).1 = _
      rw [scanF_seals G (fun p hp => h.pl p (List.mem_append_right _ hp))]
    · rfl
end Go.Proofs.YtceanciekadkeaaGreatDoor
