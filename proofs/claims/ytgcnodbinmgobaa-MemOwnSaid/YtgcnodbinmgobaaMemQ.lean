/- plain: the reference's search for the newest, and its place -/
import Derived.Test.YtgcnodbinmgobaaMemP
namespace Go.Proofs.Ytgcnodbinmgobaa

theorem posOf_eq {l : List Ent} {key : ByteArray} {s : Int} {k : Nat} (hk : k ≤ l.length) (h1 : ∀ j a, j < k → l[j]? = some a → bfor a key s = true) (h2 : ∀ a, l[k]? = some a → bfor a key s = false) : posOf l key s = k := by
  rcases Nat.lt_trichotomy (posOf l key s) k with h | h | h
  · have hl : l[posOf l key s]? = some l[posOf l key s] := List.getElem?_eq_getElem (by omega)
    have := posOf_at hl
    rw [h1 _ _ h hl] at this
    cases this
  · exact h
  · have hle := posOf_le l key s
    have hl : l[k]? = some l[k] := List.getElem?_eq_getElem (by omega)
    have := posOf_lt hl h
    rw [h2 _ hl] at this
    cases this

theorem snoc_ind {α : Type} {P : List α → Prop} (h0 : P []) (h1 : ∀ l x, P l → P (l ++ [x])) (l : List α) : P l := by
  have h : ∀ r : List α, P r.reverse := by
    intro r
    induction r with
    | nil => exact h0
    | cons a r ih => rw [List.reverse_cons]; exact h1 _ _ ih
  have := h l.reverse
  rwa [List.reverse_reverse] at this
def hits (key : ByteArray) (s : Int) (x : Ent) : Bool := x.key.toList == key.toList && decide (x.seq ≤ s)
/-- One step of the search. -/
def scanS (key : ByteArray) (s : Int) (st : Ent × Bool) (x : Ent) : Ent × Bool := if hits key s x && (!st.2 || decide (st.1.seq < x.seq)) then (x, true) else st
def scanL (key : ByteArray) (s : Int) (z : Ent) (l : List Ent) : Ent × Bool := l.foldl (scanS key s) (z, false)
theorem scanL_snoc (key : ByteArray) (s : Int) (z : Ent) (l : List Ent) (x : Ent) : scanL key s z (l ++ [x]) = scanS key s (scanL key s z l) x := by simp [scanL]
theorem scan_no (key : ByteArray) (s : Int) (z : Ent) : ∀ l : List Ent, (∀ x ∈ l, hits key s x = false) → scanL key s z l = (z, false) := by
  intro l
  refine snoc_ind (P := fun l => (∀ x ∈ l, hits key s x = false) → scanL key s z l = (z, false)) (fun _ => rfl) ?_ l
  · intro l x ih h
    rw [scanL_snoc, ih fun y hy => h y (by simp [hy])]
    unfold scanS
    rw [h x (by simp)]
    rfl
theorem scan_yes (key : ByteArray) (s : Int) (z : Ent) : ∀ l : List Ent, (∃ x ∈ l, hits key s x = true) → ∃ a, scanL key s z l = (a, true) ∧ a ∈ l ∧ hits key s a = true ∧ ∀ x ∈ l, hits key s x = true → x.seq ≤ a.seq := by
  intro l
  refine snoc_ind (P := fun l => (∃ x ∈ l, hits key s x = true) → ∃ a, scanL key s z l = (a, true) ∧ a ∈ l ∧ hits key s a = true ∧ ∀ x ∈ l, hits key s x = true → x.seq ≤ a.seq) ?_ ?_ l
  · rintro ⟨x, hx, _⟩
    simp at hx
  · intro l x ih h
    by_cases hl : ∃ y ∈ l, hits key s y = true
    · obtain ⟨a, h1, h2, h3, h4⟩ := ih hl
      rw [scanL_snoc, h1]
      unfold scanS
      by_cases hx : hits key s x = true
      · by_cases hs : a.seq < x.seq
        · refine ⟨x, by simp [hx, hs], by simp, hx, fun y hy hyh => ?_⟩
          rcases List.mem_append.1 hy with hy | hy
          · have := h4 y hy hyh; omega
          · rw [List.mem_singleton.1 hy]; exact Int.le_refl _
        · refine ⟨a, by simp [hs], by simp [h2], h3, fun y hy hyh => ?_⟩
          rcases List.mem_append.1 hy with hy | hy
          · exact h4 y hy hyh
          · rw [List.mem_singleton.1 hy]; omega
      · refine ⟨a, by simp [hx], by simp [h2], h3, fun y hy hyh => ?_⟩
        rcases List.mem_append.1 hy with hy | hy
        · exact h4 y hy hyh
        · rw [List.mem_singleton.1 hy] at hyh; exact absurd hyh hx
    · have hno : ∀ y ∈ l, hits key s y = false := fun y hy => by
        cases hh : hits key s y with
        | false => rfl
        | true => exact absurd ⟨y, hy, hh⟩ hl
      obtain ⟨y, hy, hyh⟩ := h
      have hyx : y = x := by
        rcases List.mem_append.1 hy with h | h
        · rw [hno y h] at hyh; cases hyh
        · exact List.mem_singleton.1 h
      subst hyx
      rw [scanL_snoc, scan_no key s z l hno]
      unfold scanS
      refine ⟨y, by simp [hyh], by simp, hyh, fun u hu huh => ?_⟩
      rcases List.mem_append.1 hu with h | h
      · rw [hno u h] at huh; cases huh
      · rw [List.mem_singleton.1 h]; exact Int.le_refl _
theorem hits_iff {key : ByteArray} {s : Int} {x : Ent} : hits key s x = true ↔ x.key.toList = key.toList ∧ x.seq ≤ s := by simp [hits]
theorem ordered_inj {l : List Ent} (ho : Ordered l) {a b : Ent} (ha : a ∈ l) (hb : b ∈ l) (hk : a.key.toList = b.key.toList) (hs : a.seq = b.seq) : a = b := by
  obtain ⟨i, hi⟩ := List.mem_iff_getElem?.1 ha
  obtain ⟨j, hj⟩ := List.mem_iff_getElem?.1 hb
  have hno : ∀ {x y : Ent}, x.key.toList = y.key.toList → x.seq = y.seq → bfor x y.key y.seq = true → False := fun {x y} h1 h2 h => by
    simp only [bfor, h1, less_irrefl, Bool.false_or, beq_self_eq_true, Bool.true_and, decide_eq_true_eq] at h
    omega
  rcases Nat.lt_trichotomy i j with h | h | h
  · exact (hno hk hs (ordered_at ho hi hj h)).elim
  · subst h
    rw [hi] at hj
    injection hj
  · exact (hno hk.symm hs.symm (ordered_at ho hj hi h)).elim
theorem scan_getL {l : List Ent} (ho : Ordered l) (key : ByteArray) (s : Int) (z : Ent) : scanL key s z l = ((getL l key s).getD z, (getL l key s).isSome) := by
  cases hg : getL l key s with
  | none =>
    rw [scan_no]
    · rfl
    · intro x hx
      cases hh : hits key s x with
      | false => rfl
      | true =>
        obtain ⟨h1, h2⟩ := hits_iff.1 hh
        exact absurd h2 (getL_none ho hg x hx h1)
  | some a =>
    obtain ⟨h1, h2, h3, h4⟩ := getL_some ho hg
    obtain ⟨b, e, k1, k2, k3⟩ := scan_yes key s z l ⟨a, h1, hits_iff.2 ⟨h2, h3⟩⟩
    obtain ⟨k4, k5⟩ := hits_iff.1 k2
    have h5 := h4 b k1 k4 k5
    have h6 := k3 a h1 (hits_iff.2 ⟨h2, h3⟩)
    have : b = a := ordered_inj ho k1 h1 (k4.trans h2.symm) (by omega)
    subst this
    rw [e]
    rfl
end Go.Proofs.Ytgcnodbinmgobaa
