/-
  Texts joined: JdP.
-/
import Derived.Test.YtegjoabfoddadaaMJdL1a
/- the floor, routes and their keys, plain -/
namespace Go.Proofs.Ytegjoabfoddadaa
/-- A map: columns, rows, shards, blocked cells. -/
structure MapP where
  w : Int
  h : Int
  sh : Int
  bl : List Int
/-- A route: its first tick, its cells. -/
structure RtP where
  start : Int
  cells : List Int
  deriving DecidableEq
def isM (m : MapP) (c : Int) : Bool := decide (0 ≤ c) && decide (c < m.w * m.h)
def goodM (m : MapP) : Bool := decide (1 ≤ m.w ∧ m.w ≤ 16 ∧ 1 ≤ m.h ∧ m.h ≤ 16 ∧ 1 ≤ m.sh ∧ m.sh ≤ 4 ∧ m.sh ≤ m.w) && m.bl.all (isM m)
def freeM (m : MapP) (c : Int) : Bool := isM m c && !m.bl.contains c
def besB (w a b : Int) : Bool := decide ((a % w - b % w = 0 ∧ (a / w - b / w = 1 ∨ a / w - b / w = -1)) ∨ (a / w - b / w = 0 ∧ (a % w - b % w = 1 ∨ a % w - b % w = -1)))
def besideM (m : MapP) (a b : Int) : Bool := isM m a && isM m b && besB m.w a b
def nearM (m : MapP) (a b : Int) : Bool := freeM m a && freeM m b && (decide (a = b) || besideM m a b)
def planR (r : RtP) : Bool := decide (r.cells.length ≤ 24) && decide (0 ≤ r.start) && decide (r.start ≤ 1073741824)
def cellsE (m : MapP) : List Int → Int
  | [] => 0
  | c :: r => if isM m c then (if freeM m c then cellsE m r else 132) else 121
def stepsE (m : MapP) : List Int → Int
  | a :: b :: r => if nearM m a b then stepsE m (b :: r) else 131
  | _ => 0
/-- What is wrong with a route. -/
def checkR (m : MapP) (r : RtP) : Int :=
  if r.cells.length = 0 ∨ 24 < r.cells.length then 130 else if r.start < 0 ∨ 1073741824 - ((r.cells.length : Int) - 1) < r.start then 122 else if cellsE m r.cells ≠ 0 then cellsE m r.cells else stepsE m r.cells
def noR : RtP := ⟨0, []⟩
/-- What is left of a route. -/
def cutR (r : RtP) (now : Int) : RtP := if planR r = false ∨ r.cells.length = 0 ∨ r.start + (r.cells.length : Int) - 1 < now then noR else if now ≤ r.start then r else ⟨now, r.cells.drop (now - r.start).toNat⟩
/-- The cell at a tick. -/
def atR (r : RtP) (t : Int) : Option Int := if planR r = false ∨ t < r.start ∨ r.start + (r.cells.length : Int) - 1 < t then none else r.cells[(t - r.start).toNat]?
def meetAt (a b : RtP) (t : Int) : Bool :=
  decide ((atR a t).getD 0 = (atR b t).getD 0) || ((atR a (t + 1)).isSome && (atR b (t + 1)).isSome && decide ((atR a t).getD 0 ≠ (atR a (t + 1)).getD 0) &&
    (decide ((atR a t).getD 0 = (atR b (t + 1)).getD 0 ∧ (atR b t).getD 0 = (atR a (t + 1)).getD 0) || decide ((atR a t).getD 0 = (atR b t).getD 0 ∧ (atR a (t + 1)).getD 0 = (atR b (t + 1)).getD 0)))
def meetLo (a b : RtP) : Int := max a.start b.start
def meetHi (a b : RtP) : Int := min (a.start + a.cells.length) (b.start + b.cells.length)
def meetF (a b : RtP) : Nat → Int → Bool
  | 0, _ => false
  | n + 1, t => meetAt a b t || meetF a b n (t + 1)
def meetR (a b : RtP) : Bool := planR a && planR b && meetF a b (meetHi a b - meetLo a b).toNat (meetLo a b)
/-! ### Keys -/
def digF : Nat → Nat → List UInt8
  | 0, _ => []
  | f + 1, k => if k = 0 then [] else digF f (k / 10) ++ [UInt8.ofNat (48 + k % 10)]
/-- A number in decimal digits. -/
def digL (n : Int) : List UInt8 := if n = 0 then [48] else digF 20 n.toNat
def slotL (c t : Int) : List UInt8 := 99 :: (digL c ++ 64 :: digL t)
def passL (a b t : Int) : List UInt8 := 112 :: (digL (min a b) ++ 45 :: (digL (max a b) ++ 64 :: digL t))
def keysF : Int → List Int → List (List UInt8)
  | _, [] => []
  | t, [c] => [slotL c t]
  | t, c :: d :: r => slotL c t :: ((if d ≠ c then [passL c d t] else []) ++ keysF (t + 1) (d :: r))
def keysR (r : RtP) : List (List UInt8) := if planR r then keysF r.start r.cells else []
def commonR (a b : RtP) : Bool := (keysR a).any fun x => (keysR b).any fun y => decide (x = y)
theorem u8nat {m : Nat} (h : m < 256) : (UInt8.ofNat m).toNat = m := by simp; omega
def valD (l : List UInt8) : Nat := l.foldl (fun v d => v * 10 + (d.toNat - 48)) 0
theorem digF_val : ∀ (f k : Nat), k < 10 ^ f → valD (digF f k) = k
  | 0, k, h => by simp at h; subst h; rfl
  | f + 1, k, h => by
    unfold digF
    split
    · rename_i h0; subst h0; rfl
    · have hd : k / 10 < 10 ^ f := Nat.div_lt_of_lt_mul (by rw [Nat.pow_succ] at h; omega)
      have ih := digF_val f (k / 10) hd
      unfold valD at ih ⊢
      rw [List.foldl_append, ih, List.foldl_cons, List.foldl_nil]
      have : (UInt8.ofNat (48 + k % 10)).toNat = 48 + k % 10 := u8nat (by omega)
      rw [this]
      omega
theorem digF_dig : ∀ (f k : Nat), ∀ d ∈ digF f k, 48 ≤ d.toNat ∧ d.toNat ≤ 57
  | 0, _, d, h => by simp [digF] at h
  | f + 1, k, d, h => by
    unfold digF at h
    split at h
    · cases h
    · rcases List.mem_append.1 h with h | h
      · exact digF_dig f _ d h
      · obtain rfl := List.mem_singleton.1 h
        have : (UInt8.ofNat (48 + k % 10)).toNat = 48 + k % 10 := u8nat (by omega)
        omega
theorem digL_dig {n : Int} : ∀ d ∈ digL n, 48 ≤ d.toNat ∧ d.toNat ≤ 57 := by
  intro d h
  unfold digL at h
  split at h
  · obtain rfl : d = 48 := by simpa using h
    decide
  · exact digF_dig _ _ d h
theorem digL_inj {a b : Int} (ha : 0 ≤ a ∧ a < 4294967296) (hb : 0 ≤ b ∧ b < 4294967296) (h : digL a = digL b) : a = b := by
  have key : ∀ n : Int, 0 ≤ n → n < 4294967296 → valD (digL n) = n.toNat := by
    intro n h0 h1
    unfold digL
    split
    · rename_i h; subst h; rfl
    · exact digF_val 20 n.toNat (by have : (4294967296 : Nat) ≤ 10 ^ 20 := by decide
                                    omega)
  have h1 := key a ha.1 ha.2
  have h2 := key b hb.1 hb.2
  rw [h] at h1
  omega
theorem split_inj {x : UInt8} : ∀ {l1 l2 r1 r2 : List UInt8}, x ∉ l1 → x ∉ l2 → l1 ++ x :: r1 = l2 ++ x :: r2 → l1 = l2 ∧ r1 = r2
  | [], [], _, _, _, _, h => by simpa using h
  | [], y :: l2, r1, r2, _, h2, h => by
    simp only [List.nil_append, List.cons_append, List.cons.injEq] at h
    exact absurd (h.1 ▸ List.mem_cons_self) h2
  | y :: l1, [], r1, r2, h1, _, h => by
    simp only [List.nil_append, List.cons_append, List.cons.injEq] at h
    exact absurd (h.1 ▸ List.mem_cons_self) h1
  | y :: l1, z :: l2, r1, r2, h1, h2, h => by
    simp only [List.cons_append, List.cons.injEq] at h
    obtain ⟨e1, e2⟩ := split_inj (fun hx => h1 (List.mem_cons_of_mem _ hx)) (fun hx => h2 (List.mem_cons_of_mem _ hx)) h.2
    exact ⟨by rw [h.1, e1], e2⟩
theorem digL_not {n : Int} {x : UInt8} (hx : x.toNat < 48 ∨ 57 < x.toNat) : x ∉ digL n := fun h => by have := digL_dig x h; omega
theorem slotL_inj {c t c' t' : Int} (hc : 0 ≤ c ∧ c < 4294967296) (ht : 0 ≤ t ∧ t < 4294967296) (hc' : 0 ≤ c' ∧ c' < 4294967296) (ht' : 0 ≤ t' ∧ t' < 4294967296) (h : slotL c t = slotL c' t') : c = c' ∧ t = t' := by
  unfold slotL at h
  simp only [List.cons.injEq, true_and] at h
  obtain ⟨h1, h2⟩ := split_inj (digL_not (by decide)) (digL_not (by decide)) h
  exact ⟨digL_inj hc hc' h1, digL_inj ht ht' h2⟩
theorem passL_inj {a b t a' b' t' : Int} (ha : 0 ≤ a ∧ a < 4294967296) (hb : 0 ≤ b ∧ b < 4294967296) (ht : 0 ≤ t ∧ t < 4294967296) (ha' : 0 ≤ a' ∧ a' < 4294967296) (hb' : 0 ≤ b' ∧ b' < 4294967296) (ht' : 0 ≤ t' ∧ t' < 4294967296) (h : passL a b t = passL a' b' t') : min a b = min a' b' ∧ max a b = max a' b' ∧ t = t' := by
  unfold passL at h
  simp only [List.cons.injEq, true_and] at h
  obtain ⟨h1, h2⟩ := split_inj (digL_not (by decide)) (digL_not (by decide)) h
  obtain ⟨h3, h4⟩ := split_inj (digL_not (by decide)) (digL_not (by decide)) h2
  exact ⟨digL_inj (by omega) (by omega) h1, digL_inj (by omega) (by omega) h3, digL_inj ht ht' h4⟩
theorem slot_pass {c t a b t' : Int} : slotL c t ≠ passL a b t' := fun h => by
  unfold slotL passL at h
  simp only [List.cons.injEq] at h
  exact absurd h.1 (by decide)
theorem mem_keysF {x : List UInt8} : ∀ {s : Int} {cs : List Int}, x ∈ keysF s cs ↔ (∃ i c, cs[i]? = some c ∧ x = slotL c (s + (i : Nat))) ∨ (∃ i c d, cs[i]? = some c ∧ cs[i + 1]? = some d ∧ d ≠ c ∧ x = passL c d (s + (i : Nat)))
  | s, [] => by simp [keysF]
  | s, [c] => by
    rw [keysF, List.mem_singleton]
    constructor
    · rintro rfl
      exact .inl ⟨0, c, rfl, by rw [show s + (0 : Nat) = s by omega]⟩
    · rintro (⟨i, c', h, rfl⟩ | ⟨i, c', d, h1, h2, _⟩)
      · have hi := (List.getElem?_eq_some_iff.1 h).1
        obtain rfl : i = 0 := by simpa using hi
        simp only [List.getElem?_cons_zero, Option.some.injEq] at h
        subst h
        rw [show s + (0 : Nat) = s by omega]
      · simp at h2
  | s, c :: d :: r => by
    rw [keysF, List.mem_cons, List.mem_append, mem_keysF (s := s + 1) (cs := d :: r)]
    constructor
    · rintro (rfl | h | ⟨i, c', h, rfl⟩ | ⟨i, c', d', h1, h2, h3, rfl⟩)
      · exact .inl ⟨0, c, rfl, by rw [show s + (0 : Nat) = s by omega]⟩
      · by_cases hd : d ≠ c
        · rw [if_pos hd] at h
          obtain rfl := List.mem_singleton.1 h
          exact .inr ⟨0, c, d, rfl, rfl, hd, by rw [show s + (0 : Nat) = s by omega]⟩
        · rw [if_neg hd] at h
          cases h
      · exact .inl ⟨i + 1, c', h, by rw [show s + 1 + (i : Int) = s + ((i + 1 : Nat) : Int) by omega]⟩
      · exact .inr ⟨i + 1, c', d', h1, h2, h3, by rw [show s + 1 + (i : Int) = s + ((i + 1 : Nat) : Int) by omega]⟩
    · rintro (⟨i, c', h, rfl⟩ | ⟨i, c', d', h1, h2, h3, rfl⟩)
      · cases i with
        | zero =>
          simp only [List.getElem?_cons_zero, Option.some.injEq] at h
          subst h
          exact .inl (by rw [show s + (0 : Nat) = s by omega])
        | succ i => exact .inr (.inr (.inl ⟨i, c', h, by rw [show s + 1 + (i : Int) = s + ((i + 1 : Nat) : Int) by omega]⟩))
      · cases i with
        | zero =>
          simp only [List.getElem?_cons_zero, Option.some.injEq, Nat.zero_add, List.getElem?_cons_succ] at h1 h2
          subst h1 h2
          refine .inr (.inl ?_)
          rw [if_pos h3, List.mem_singleton, show s + (0 : Nat) = s by omega]
        | succ i => exact .inr (.inr (.inr ⟨i, c', d', h1, h2, h3, by rw [show s + 1 + (i : Int) = s + ((i + 1 : Nat) : Int) by omega]⟩))
theorem meetF_iff {a b : RtP} : ∀ {n : Nat} {t : Int}, meetF a b n t = true ↔ ∃ k : Nat, k < n ∧ meetAt a b (t + k) = true
  | 0, t => by simp [meetF]
  | n + 1, t => by
    rw [meetF, Bool.or_eq_true, meetF_iff (n := n)]
    constructor
    · rintro (h | ⟨k, hk, h⟩)
      · exact ⟨0, by omega, by rw [show t + (0 : Nat) = t by omega]; exact h⟩
      · exact ⟨k + 1, by omega, by rw [show t + ((k + 1 : Nat) : Int) = t + 1 + k by omega]; exact h⟩
    · rintro ⟨k, hk, h⟩
      cases k with
      | zero => exact .inl (by rw [show t + (0 : Nat) = t by omega] at h; exact h)
      | succ k => exact .inr ⟨k, by omega, by rw [show t + ((k + 1 : Nat) : Int) = t + 1 + k by omega] at h; exact h⟩
theorem planR_iff {r : RtP} : planR r = true ↔ r.cells.length ≤ 24 ∧ 0 ≤ r.start ∧ r.start ≤ 1073741824 := by
  unfold planR
  simp only [Bool.and_eq_true, decide_eq_true_eq]
  exact ⟨fun h => ⟨h.1.1, h.1.2, h.2⟩, fun h => ⟨⟨h.1, h.2.1⟩, h.2.2⟩⟩
theorem at_i {r : RtP} (h : planR r = true) (i : Nat) : atR r (r.start + i) = r.cells[i]? := by
  unfold atR
  by_cases hi : i < r.cells.length
  · rw [if_neg (by rw [h]; simp; omega), show (r.start + (i : Int) - r.start).toNat = i by omega]
  · rw [if_pos (by right; right; omega), List.getElem?_eq_none (by omega)]
theorem at_of {r : RtP} (h : planR r = true) {t : Int} (h1 : r.start ≤ t) (h2 : t < r.start + r.cells.length) : ∃ (i : Nat) (c : Int), t = r.start + i ∧ r.cells[i]? = some c ∧ atR r t = some c := by
  have hi : (t - r.start).toNat < r.cells.length := by omega
  refine ⟨(t - r.start).toNat, r.cells[(t - r.start).toNat], by omega, List.getElem?_eq_getElem hi, ?_⟩
  have := at_i h (t - r.start).toNat
  rw [show r.start + ((t - r.start).toNat : Int) = t by omega] at this
  rw [this]
  exact List.getElem?_eq_getElem hi
def smallR (r : RtP) : Prop := ∀ c ∈ r.cells, 0 ≤ c ∧ c < 4294967296
theorem passL_comm (a b t : Int) : passL a b t = passL b a t := by unfold passL; rw [show min a b = min b a by omega, show max a b = max b a by omega]
/-- Two routes meet just where they need one key. -/
theorem meet_common {a b : RtP} (ha : planR a = true) (hb : planR b = true) (sa : smallR a) (sb : smallR b) : meetR a b = commonR a b := by
  have pa := planR_iff.1 ha
  have pb := planR_iff.1 hb
  rw [Bool.eq_iff_iff]
  unfold meetR commonR keysR
  rw [ha, hb, if_pos rfl, if_pos rfl, Bool.and_self, Bool.true_and, meetF_iff, List.any_eq_true]
  simp only [List.any_eq_true, decide_eq_true_eq]
  constructor
  · rintro ⟨k, hk, h⟩
    obtain ⟨t, ht⟩ : ∃ t, t = meetLo a b + (k : Int) := ⟨_, rfl⟩
    rw [← ht] at h
    unfold meetLo meetHi at *
    obtain ⟨i, c, hi, hci, hat⟩ := at_of ha (t := t) (by omega) (by omega)
    obtain ⟨j, d, hj, hdj, hbt⟩ := at_of hb (t := t) (by omega) (by omega)
    unfold meetAt at h
    rw [hat, hbt] at h
    have ea : atR a (t + 1) = a.cells[i + 1]? := by rw [hi, show a.start + (i : Int) + 1 = a.start + ((i + 1 : Nat) : Int) by omega]; exact at_i ha _
    have eb : atR b (t + 1) = b.cells[j + 1]? := by rw [hj, show b.start + (j : Int) + 1 = b.start + ((j + 1 : Nat) : Int) by omega]; exact at_i hb _
    rw [ea, eb] at h
    simp only [Option.getD_some, Bool.or_eq_true, Bool.and_eq_true, decide_eq_true_eq] at h
    have slot : c = d → ∃ x, x ∈ keysF a.start a.cells ∧ ∃ y, y ∈ keysF b.start b.cells ∧ x = y := fun e =>
      ⟨slotL c t, mem_keysF.2 (.inl ⟨i, c, hci, by rw [hi]⟩), slotL d t, mem_keysF.2 (.inl ⟨j, d, hdj, by rw [hj]⟩), by rw [e]⟩
    rcases h with h | ⟨⟨⟨h1, h2⟩, h3⟩, h4⟩
    · exact slot h
    · obtain ⟨u, hu⟩ := Option.isSome_iff_exists.1 h1
      obtain ⟨v, hv⟩ := Option.isSome_iff_exists.1 h2
      rw [hu, hv] at h4
      rw [hu] at h3
      simp only [Option.getD_some] at h3 h4
      rcases h4 with ⟨e1, e2⟩ | ⟨e1, _⟩
      · refine ⟨passL c u t, mem_keysF.2 (.inr ⟨i, c, u, hci, hu, fun e => h3 e.symm, by rw [hi]⟩), passL d v t, mem_keysF.2 (.inr ⟨j, d, v, hdj, hv, fun e => h3 (by rw [e1, e, e2]), by rw [hj]⟩), ?_⟩
        rw [e1, e2]
        exact passL_comm _ _ _
      · exact slot e1
  · rintro ⟨x, hx, y, hy, rfl⟩
    have low : ∀ {i j : Nat} {c d : Int}, a.cells[i]? = some c → b.cells[j]? = some d → a.start + (i : Int) = b.start + (j : Int) → (meetAt a b (a.start + i) = true) → ∃ k : Nat, k < (meetHi a b - meetLo a b).toNat ∧ meetAt a b (meetLo a b + k) = true := by
      intro i j c d hc hd he h
      have h1 := (List.getElem?_eq_some_iff.1 hc).1
      have h2 := (List.getElem?_eq_some_iff.1 hd).1
      refine ⟨(a.start + i - meetLo a b).toNat, ?_, ?_⟩
      · unfold meetLo meetHi; omega
      · rw [show meetLo a b + ((a.start + (i : Int) - meetLo a b).toNat : Int) = a.start + i by unfold meetLo; omega]
        exact h
    have slot : ∀ {i j : Nat} {c d : Int}, a.cells[i]? = some c → b.cells[j]? = some d → a.start + (i : Int) = b.start + (j : Int) → c = d → ∃ k : Nat, k < (meetHi a b - meetLo a b).toNat ∧ meetAt a b (meetLo a b + k) = true := by
      intro i j c d hc hd he e
      refine low hc hd he ?_
      unfold meetAt
      rw [at_i ha, hc, he, at_i hb, hd, e]
      simp
    have inr : ∀ {r : RtP} {i : Nat} {c : Int}, r.cells[i]? = some c → planR r = true → smallR r → (0 ≤ c ∧ c < 4294967296) ∧ (0 ≤ r.start + (i : Int) ∧ r.start + (i : Int) < 4294967296) := by
      intro r i c hc hp hs
      have := (List.getElem?_eq_some_iff.1 hc).1
      have hp := planR_iff.1 hp
      exact ⟨hs c (List.mem_of_getElem? hc), by omega, by omega⟩
    rcases mem_keysF.1 hx with ⟨i, c, hc, e1⟩ | ⟨i, c, u, hc, hu, hcu, e1⟩ <;> rcases mem_keysF.1 hy with ⟨j, d, hd, e2⟩ | ⟨j, d, v, hd, hv, hdv, e2⟩
    · obtain ⟨k1, k2⟩ := slotL_inj (inr hc ha sa).1 (inr hc ha sa).2 (inr hd hb sb).1 (inr hd hb sb).2 (e1.symm.trans e2)
      exact slot hc hd k2 k1
    · exact absurd (e1.symm.trans e2) slot_pass
    · exact absurd (e2.symm.trans e1) slot_pass
    · obtain ⟨k1, k2, k3⟩ := passL_inj (inr hc ha sa).1 (inr hu ha sa).1 (inr hc ha sa).2 (inr hd hb sb).1 (inr hv hb sb).1 (inr hd hb sb).2 (e1.symm.trans e2)
      by_cases hcd : c = d
      · exact slot hc hd k3 hcd
      · refine low hc hd k3 ?_
        have f1 : c = v := by omega
        have f2 : d = u := by omega
        unfold meetAt
        rw [at_i ha, hc, show a.start + (i : Int) + 1 = a.start + ((i + 1 : Nat) : Int) by omega, at_i ha, hu, show a.start + ((i + 1 : Nat) : Int) = b.start + ((j + 1 : Nat) : Int) by omega, at_i hb, hv, k3, at_i hb, hd]
        simp [f1, f2]
end Go.Proofs.Ytegjoabfoddadaa
