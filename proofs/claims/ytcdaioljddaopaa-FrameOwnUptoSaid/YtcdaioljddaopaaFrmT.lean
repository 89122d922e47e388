/- Scan as a plain function; frames one behind the other, cut anywhere. -/
import Derived.Test.YtcdaioljddaopaaFrmQ
namespace Go.Proofs.Ytcdaioljddaopaa

def scanN : Nat → List UInt8 → List (List UInt8) × Nat
  | 0, _ => ([], 0)
  | k + 1, b => match takeF b with
    | none => ([], 0)
    | some (p, n) => (p :: (scanN k (b.drop n)).1, n + (scanN k (b.drop n)).2)
/-- The payloads of the longest beginning that is frames, and its size. -/
def scanF (b : List UInt8) : List (List UInt8) × Nat := scanN b.length b
theorem scanN_more : ∀ (k j : Nat) (b : List UInt8), b.length ≤ k → b.length ≤ j → scanN k b = scanN j b
  | 0, 0, _, _, _ => rfl
  | 0, j + 1, b, hk, _ => by
    have hb : b = [] := List.eq_nil_of_length_eq_zero (by omega)
    subst hb
    cases h : takeF [] with
    | none => simp [scanN, h]
    | some x =>
      have := takeF_size (p := x.1) (k := x.2) h
      simp at this
      omega
  | k + 1, 0, b, _, hj => by
    have hb : b = [] := List.eq_nil_of_length_eq_zero (by omega)
    subst hb
    cases h : takeF [] with
    | none => simp [scanN, h]
    | some x =>
      have := takeF_size (p := x.1) (k := x.2) h
      simp at this
      omega
  | k + 1, j + 1, b, hk, hj => by
    cases h : takeF b with
    | none => simp [scanN, h]
    | some x =>
      have h1 := takeF_size (p := x.1) (k := x.2) h
      simp only [scanN, h]
      rw [scanN_more k j (b.drop x.2) (by rw [List.length_drop]; omega) (by rw [List.length_drop]; omega)]
theorem scanF_none {b : List UInt8} (h : takeF b = none) : scanF b = ([], 0) := by
  unfold scanF
  cases e : b.length with
  | zero => rfl
  | succ k => simp [scanN, h]
theorem scanF_some {b p : List UInt8} {n : Nat} (h : takeF b = some (p, n)) : scanF b = (p :: (scanF (b.drop n)).1, n + (scanF (b.drop n)).2) := by
  have h1 := takeF_size h
  unfold scanF
  obtain ⟨k, hk⟩ : ∃ k, b.length = k + 1 := ⟨b.length - 1, by omega⟩
  rw [hk]
  simp only [scanN, h]
  rw [scanN_more k (b.drop n).length (b.drop n) (by rw [List.length_drop]; omega) (Nat.le_refl _)]
theorem scanF_size (b : List UInt8) : 5 * (scanF b).1.length ≤ (scanF b).2 ∧ (scanF b).2 ≤ b.length := by
  suffices H : ∀ k (b : List UInt8), b.length ≤ k → 5 * (scanF b).1.length ≤ (scanF b).2 ∧ (scanF b).2 ≤ b.length from H _ b (Nat.le_refl _)
  intro k
  induction k with
  | zero =>
    intro b hb
    cases h : takeF b with
    | none => rw [scanF_none h]; simp
    | some x => have := takeF_size (p := x.1) (k := x.2) h; omega
  | succ k ih =>
    intro b hb
    cases h : takeF b with
    | none => rw [scanF_none h]; simp
    | some x =>
      have h1 := takeF_size (p := x.1) (k := x.2) h
      rw [scanF_some (p := x.1) (n := x.2) h]
      have h2 := ih (b.drop x.2) (by rw [List.length_drop]; omega)
      rw [List.length_drop] at h2
      simp only [List.length_cons]
      omega
theorem scanF_nil : scanF [] = ([], 0) := rfl
/-- A frame that is cut is none. -/
theorem takeF_cut {l : List UInt8} (hl : l.length ≤ 4096) {j : Nat} (hj : j < (sealL l).length) : takeF ((sealL l).take j) = none := by
  cases h : takeF ((sealL l).take j) with
  | none => rfl
  | some x =>
    obtain ⟨q, n⟩ := x
    obtain ⟨h1, h2, h3, h4, h5, h6⟩ := takeF_size h
    rw [List.length_take] at h2
    rw [List.take_take, Nat.min_eq_left (by omega)] at h5
    have h7 : sealL l = sealL q ++ (sealL l).drop n := by rw [← h5, List.take_append_drop]
    have h8 := takeF_seal q ((sealL l).drop n) h3
    rw [← h7] at h8
    have h9 := takeF_seal l [] hl
    rw [List.append_nil, h8] at h9
    simp only [Option.some.injEq, Prod.mk.injEq] at h9
    omega
/-- The bytes of frames one behind the other. -/
def seals : List (List UInt8) → List UInt8
  | [] => []
  | p :: ps => sealL p ++ seals ps
theorem seals_append (a b : List (List UInt8)) : seals (a ++ b) = seals a ++ seals b := by
  induction a with
  | nil => rfl
  | cons p ps ih => simp only [List.cons_append, seals, ih, List.append_assoc]
theorem seals_snoc (a : List (List UInt8)) (p : List UInt8) : seals (a ++ [p]) = seals a ++ sealL p := by rw [seals_append]; simp [seals]
/-- Of frames one behind the other, cut: those that are whole. -/
theorem scanF_cut : ∀ (ps : List (List UInt8)) (k cut : Nat), (∀ p ∈ ps, p.length ≤ 4096) → k ≤ ps.length → (seals (ps.take k)).length ≤ cut → (∀ p, ps[k]? = some p → cut < (seals (ps.take k)).length + (sealL p).length) → cut ≤ (seals ps).length →
    scanF ((seals ps).take cut) = (ps.take k, (seals (ps.take k)).length)
  | [], k, cut, _, hk, _, _, hc => by
    simp [seals] at hc
    subst hc
    simp [seals, scanF_nil]
  | p :: ps, 0, cut, hp, _, _, h2, _ => by
    have h3 := h2 p rfl
    simp [seals] at h3
    have : (seals (p :: ps)).take cut = (sealL p).take cut := by
      simp only [seals]
      rw [List.take_append_of_le_length (by omega)]
    rw [this, scanF_none (takeF_cut (hp p (by simp)) h3)]
    rfl
  | p :: ps, k + 1, cut, hp, hk, h1, h2, hc => by
    simp only [List.take_succ_cons, seals, List.length_append] at h1 hc ⊢
    have e : (sealL p ++ seals ps).take cut = sealL p ++ (seals ps).take (cut - (sealL p).length) := by
      rw [List.take_append, List.take_of_length_le (by omega)]
    have ht := takeF_seal p ((seals ps).take (cut - (sealL p).length)) (hp p (by simp))
    rw [e, scanF_some ht, List.drop_left' rfl, scanF_cut ps k (cut - (sealL p).length) (fun q hq => hp q (by simp [hq])) (by simp at hk; omega) (by omega) (fun q hq => by
      have := h2 q (by simpa using hq)
      simp only [List.take_succ_cons, seals, List.length_append] at this
      omega) (by omega)]
theorem scanF_seals (ps : List (List UInt8)) (hp : ∀ p ∈ ps, p.length ≤ 4096) : scanF (seals ps) = (ps, (seals ps).length) := by
  have := scanF_cut ps ps.length (seals ps).length hp (Nat.le_refl _) (by rw [List.take_length]; exact Nat.le_refl _) (fun p h => by rw [List.getElem?_eq_none (Nat.le_refl _)] at h; cases h) (Nat.le_refl _)
  rwa [List.take_length, List.take_length] at this
end Go.Proofs.Ytcdaioljddaopaa
