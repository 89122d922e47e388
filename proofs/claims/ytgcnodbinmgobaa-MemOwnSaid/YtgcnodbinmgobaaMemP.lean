/- plain: entries in order, places, putting in -/
import GoSem.Op.String
import Derived.ProofKit
namespace Go.Proofs.Ytgcnodbinmgobaa

theorem less_irrefl : ∀ a : List UInt8, Op.bytesLess a a = false
  | [] => rfl
  | a :: x => by simp [Op.bytesLess, less_irrefl x]
theorem less_trans : ∀ {a b c : List UInt8}, Op.bytesLess a b = true → Op.bytesLess b c = true → Op.bytesLess a c = true
  | _, _, [], _, h => by simp [Op.bytesLess] at h
  | [], _, _ :: _, _, _ => rfl
  | _ :: _, [], _ :: _, h, _ => by simp [Op.bytesLess] at h
  | a :: x, b :: y, c :: z, h1, h2 => by
    simp only [Op.bytesLess, Bool.or_eq_true, decide_eq_true_eq, Bool.and_eq_true, beq_iff_eq] at h1 h2 ⊢
    rcases h1 with h1 | ⟨rfl, h1⟩
    · rcases h2 with h2 | ⟨rfl, h2⟩
      · left
        rw [UInt8.lt_iff_toNat_lt] at *
        omega
      · exact .inl h1
    · rcases h2 with h2 | ⟨rfl, h2⟩
      · exact .inl h2
      · exact .inr ⟨rfl, less_trans h1 h2⟩
theorem less_total : ∀ {a b : List UInt8}, Op.bytesLess a b = false → Op.bytesLess b a = false → a = b
  | [], [], _, _ => rfl
  | [], _ :: _, h, _ => by simp [Op.bytesLess] at h
  | _ :: _, [], _, h => by simp [Op.bytesLess] at h
  | a :: x, b :: y, h1, h2 => by
    simp only [Op.bytesLess, Bool.or_eq_false_iff, decide_eq_false_iff_not, Bool.and_eq_false_iff, beq_eq_false_iff_ne] at h1 h2
    have e : a = b := by
      apply UInt8.toNat_inj.1
      have h3 := h1.1
      have h4 := h2.1
      rw [UInt8.lt_iff_toNat_lt] at h3 h4
      omega
    subst e
    rw [less_total (h1.2.resolve_left (fun h => h rfl)) (h2.2.resolve_left (fun h => h rfl))]
theorem less_asymm {a b : List UInt8} (h : Op.bytesLess a b = true) : Op.bytesLess b a = false := by
  cases h2 : Op.bytesLess b a with
  | false => rfl
  | true => have := less_trans h h2; rw [less_irrefl] at this; cases this

structure Ent where
  key : ByteArray
  seq : Int
  del : Bool
  val : ByteArray
deriving DecidableEq
instance : Inhabited Ent := ⟨⟨.empty, 0, false, .empty⟩⟩
structure Nd where
  b : Nat
  nb : Nat
  h : Nat
  e : Ent
instance : Inhabited Nd := ⟨⟨0, 0, 0, default⟩⟩

theorem toList_inj {a b : ByteArray} (h : a.toList = b.toList) : a = b := by
  rw [ByteArray.toList_eq, ByteArray.toList_eq] at h
  cases a; cases b; simp at h; simp; exact Array.toList_inj.1 (by simpa using h)

/-- Does a stand ahead of the key and the number? -/
def bfor (a : Ent) (k : ByteArray) (s : Int) : Bool := Op.bytesLess a.key.toList k.toList || (a.key.toList == k.toList && decide (s < a.seq))
theorem bfor_trans {a b : Ent} {k : ByteArray} {s : Int} (h1 : bfor a b.key b.seq = true) (h2 : bfor b k s = true) : bfor a k s = true := by
  simp only [bfor, Bool.or_eq_true, Bool.and_eq_true, beq_iff_eq, decide_eq_true_eq] at h1 h2 ⊢
  rcases h1 with h1 | ⟨e1, h1⟩ <;> rcases h2 with h2 | ⟨e2, h2⟩
  · exact .inl (less_trans h1 h2)
  · exact .inl (e2 ▸ h1)
  · exact .inl (e1 ▸ h2)
  · exact .inr ⟨e1.trans e2, by omega⟩
theorem bfor_total {a b : Ent} (h1 : bfor a b.key b.seq = false) (hne : ¬ (a.key.toList = b.key.toList ∧ a.seq = b.seq)) : bfor b a.key a.seq = true := by
  simp only [bfor, Bool.or_eq_false_iff, Bool.and_eq_false_iff, beq_eq_false_iff_ne, decide_eq_false_iff_not, Bool.or_eq_true, Bool.and_eq_true, beq_iff_eq, decide_eq_true_eq] at h1 ⊢
  cases h2 : Op.bytesLess b.key.toList a.key.toList with
  | true => exact .inl rfl
  | false =>
    have e := less_total h1.1 h2
    refine .inr ⟨e.symm, ?_⟩
    rcases h1.2 with h3 | h3
    · exact absurd e h3
    · have : a.seq ≠ b.seq := fun h => hne ⟨e, h⟩
      omega
theorem bfor_irrefl (a : Ent) : bfor a a.key a.seq = false := by simp [bfor, less_irrefl]

/-- Sorted: each stands ahead of all behind it. -/
def Ordered (l : List Ent) : Prop := l.Pairwise fun a b => bfor a b.key b.seq = true
/-- How many stand ahead. -/
def posOf (l : List Ent) (k : ByteArray) (s : Int) : Nat := (l.takeWhile fun a => bfor a k s).length
theorem posOf_le (l : List Ent) (k : ByteArray) (s : Int) : posOf l k s ≤ l.length := by
  unfold posOf
  exact (List.takeWhile_sublist _).length_le
theorem posOf_lt : ∀ {l : List Ent} {k : ByteArray} {s : Int} {j : Nat} {a : Ent}, l[j]? = some a → j < posOf l k s → bfor a k s = true
  | [], _, _, _, _, h, _ => by simp at h
  | x :: l, k, s, j, a, h, hj => by
    unfold posOf at hj
    rw [List.takeWhile_cons] at hj
    split at hj
    · rename_i hx
      cases j with
      | zero => simp at h; rw [← h]; exact hx
      | succ j => exact posOf_lt (l := l) (j := j) (by simpa using h) (by unfold posOf; simpa using hj)
    · simp at hj
theorem posOf_at : ∀ {l : List Ent} {k : ByteArray} {s : Int} {a : Ent}, l[posOf l k s]? = some a → bfor a k s = false
  | [], _, _, _, h => by simp at h
  | x :: l, k, s, a, h => by
    unfold posOf at h
    rw [List.takeWhile_cons] at h
    split at h
    · exact posOf_at (l := l) (k := k) (s := s) (by unfold posOf; simpa using h)
    · rename_i hx
      simp at h
      rw [← h]
      simpa using hx
theorem ordered_at {l : List Ent} (ho : Ordered l) {i j : Nat} {a b : Ent} (hi : l[i]? = some a) (hj : l[j]? = some b) (h : i < j) : bfor a b.key b.seq = true := by
  obtain ⟨h1, rfl⟩ := List.getElem?_eq_some_iff.1 hi
  obtain ⟨h2, rfl⟩ := List.getElem?_eq_some_iff.1 hj
  exact List.pairwise_iff_getElem.1 ho i j h1 h2 h
theorem posOf_ge {l : List Ent} (ho : Ordered l) {k : ByteArray} {s : Int} {j : Nat} {a : Ent} (h : l[j]? = some a) (hj : posOf l k s ≤ j) : bfor a k s = false := by
  rcases Nat.eq_or_lt_of_le hj with e | e
  · exact posOf_at (e ▸ h)
  · have hl := (List.getElem?_eq_some_iff.1 h).1
    obtain ⟨p, hp⟩ : ∃ p, l[posOf l k s]? = some p := ⟨_, List.getElem?_eq_getElem (by omega)⟩
    have h1 := posOf_at hp
    have h2 := ordered_at ho hp h e
    cases h3 : bfor a k s with
    | false => rfl
    | true => rw [bfor_trans h2 h3] at h1; cases h1

def sameAt (o : Option Ent) (e : Ent) : Bool := match o with
  | none => false
  | some a => decide (a.key.toList = e.key.toList ∧ a.seq = e.seq)
def insL (l : List Ent) (e : Ent) : List Ent := l.take (posOf l e.key e.seq) ++ e :: l.drop (posOf l e.key e.seq)
theorem ordered_ins {l : List Ent} (ho : Ordered l) (e : Ent) (h : sameAt l[posOf l e.key e.seq]? e = false) : Ordered (insL l e) := by
  have hp := posOf_le l e.key e.seq
  unfold insL Ordered
  rw [List.pairwise_append]
  refine ⟨ho.take, List.pairwise_cons.2 ⟨?_, ho.drop⟩, ?_⟩
  · intro b hb
    obtain ⟨j, hj, rfl⟩ := List.mem_iff_getElem.1 hb
    rw [List.length_drop] at hj
    rw [List.getElem_drop]
    have hb2 : l[posOf l e.key e.seq + j]? = some l[posOf l e.key e.seq + j] := List.getElem?_eq_getElem (by omega)
    obtain ⟨p, hpp⟩ : ∃ p, l[posOf l e.key e.seq]? = some p := ⟨_, List.getElem?_eq_getElem (by omega)⟩
    rw [hpp] at h
    simp only [sameAt, decide_eq_false_iff_not] at h
    have h2 := bfor_total (posOf_at hpp) h
    generalize l[posOf l e.key e.seq + j] = y at hb2 ⊢
    rcases Nat.eq_zero_or_pos j with rfl | hj0
    · rw [Nat.add_zero, hpp] at hb2
      injection hb2 with hb2
      rw [← hb2]
      exact h2
    · exact bfor_trans h2 (ordered_at ho hpp hb2 (by omega))
  · intro a ha b hb
    obtain ⟨i, hi, rfl⟩ := List.mem_iff_getElem.1 ha
    rw [List.length_take] at hi
    rw [List.getElem_take]
    have ha2 : l[i]? = some l[i] := List.getElem?_eq_getElem (by omega)
    have hlt := posOf_lt ha2 (k := e.key) (s := e.seq) (by omega)
    rcases List.mem_cons.1 hb with rfl | hb
    · exact hlt
    · obtain ⟨j, hj, rfl⟩ := List.mem_iff_getElem.1 hb
      rw [List.length_drop] at hj
      rw [List.getElem_drop]
      exact ordered_at ho ha2 (List.getElem?_eq_getElem (by omega)) (by omega)
theorem mem_ins {l : List Ent} {e x : Ent} : x ∈ insL l e ↔ x = e ∨ x ∈ l := by
  unfold insL
  conv => rhs; rw [← List.take_append_drop (posOf l e.key e.seq) l]
  simp only [List.mem_append, List.mem_cons]
  constructor
  · rintro (h | h | h) <;> simp [h]
  · rintro (h | h | h) <;> simp [h]
theorem ins_length (l : List Ent) (e : Ent) : (insL l e).length = l.length + 1 := by
  have := posOf_le l e.key e.seq
  unfold insL
  rw [List.length_append, List.length_take, List.length_cons, List.length_drop]
  omega

/-- Of an entry by itself. -/
def errL (e : Ent) : Nat := if 64 < e.key.size ∨ 1024 < e.val.size then 3 else if e.seq < 1 ∨ 4611686018427387904 < e.seq ∨ (e.del = true ∧ e.val.toList ≠ []) then 1 else 0
/-- Putting in: the list behind it, and the code. -/
def putL (l : List Ent) (e : Ent) : List Ent × Nat := if errL e ≠ 0 then (l, errL e) else if sameAt l[posOf l e.key e.seq]? e = true then (l, 2) else (insL l e, 0)
def getL (l : List Ent) (k : ByteArray) (s : Int) : Option Ent := match l[posOf l k s]? with
  | none => none
  | some a => if a.key.toList = k.toList then some a else none
theorem ordered_put {l : List Ent} (ho : Ordered l) (e : Ent) : Ordered (putL l e).1 := by
  unfold putL
  split
  · exact ho
  · split
    · exact ho
    · rename_i h
      exact ordered_ins ho e (by simpa using h)
theorem put_length (l : List Ent) (e : Ent) : (putL l e).1.length ≤ l.length + 1 := by
  unfold putL
  split
  · simp
  · split
    · simp
    · simp [ins_length]
theorem getL_some {l : List Ent} (ho : Ordered l) {k : ByteArray} {s : Int} {a : Ent} (h : getL l k s = some a) : a ∈ l ∧ a.key.toList = k.toList ∧ a.seq ≤ s ∧ ∀ x ∈ l, x.key.toList = k.toList → x.seq ≤ s → x.seq ≤ a.seq := by
  unfold getL at h
  split at h
  · cases h
  · rename_i p hp
    split at h
    · rename_i hk
      injection h with h
      subst h
      have hb := posOf_at hp
      have hs : p.seq ≤ s := by
        simp only [bfor, hk, less_irrefl, Bool.false_or, beq_self_eq_true, Bool.true_and, decide_eq_false_iff_not] at hb
        omega
      refine ⟨List.mem_of_getElem? hp, hk, hs, fun x hx hxk hxs => ?_⟩
      obtain ⟨j, hj⟩ := List.mem_iff_getElem?.1 hx
      rcases Nat.lt_trichotomy j (posOf l k s) with h1 | h1 | h1
      · have := posOf_lt hj h1
        simp only [bfor, hxk, less_irrefl, Bool.false_or, beq_self_eq_true, Bool.true_and, decide_eq_true_eq] at this
        omega
      · rw [h1, hp] at hj
        injection hj with hj
        rw [hj]
        exact Int.le_refl _
      · have := ordered_at ho hp hj h1
        simp only [bfor, hk, hxk, less_irrefl, Bool.false_or, beq_self_eq_true, Bool.true_and, decide_eq_true_eq] at this
        omega
    · cases h
theorem getL_none {l : List Ent} (ho : Ordered l) {k : ByteArray} {s : Int} (h : getL l k s = none) : ∀ x ∈ l, x.key.toList = k.toList → ¬ x.seq ≤ s := by
  intro x hx hxk hxs
  obtain ⟨j, hj⟩ := List.mem_iff_getElem?.1 hx
  have hge : posOf l k s ≤ j := by
    rcases Nat.lt_or_ge j (posOf l k s) with h1 | h1
    · have := posOf_lt hj h1
      simp only [bfor, hxk, less_irrefl, Bool.false_or, beq_self_eq_true, Bool.true_and, decide_eq_true_eq] at this
      omega
    · exact h1
  have hl := (List.getElem?_eq_some_iff.1 hj).1
  obtain ⟨p, hp⟩ : ∃ p, l[posOf l k s]? = some p := ⟨_, List.getElem?_eq_getElem (by omega)⟩
  unfold getL at h
  rw [hp] at h
  dsimp only at h
  split at h
  · cases h
  · rename_i hk
    rcases Nat.eq_or_lt_of_le hge with e | e
    · rw [← e, hp] at hj
      injection hj with hj
      rw [hj] at hk
      exact hk hxk
    · have h1 := ordered_at ho hp hj e
      have h2 := posOf_at hp
      simp only [bfor, hxk, Bool.or_eq_false_iff] at h1 h2
      rw [h2.1] at h1
      simp only [Bool.false_or, Bool.and_eq_true, beq_iff_eq] at h1
      exact hk h1.1
end Go.Proofs.Ytgcnodbinmgobaa
