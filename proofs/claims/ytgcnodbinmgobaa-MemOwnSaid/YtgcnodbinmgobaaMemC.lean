/- the towers behind a node put in between; the table's blocks as they turn -/
import Derived.Test.YtgcnodbinmgobaaMemB
namespace Go.Proofs.Ytgcnodbinmgobaa
open Go.RowKit

theorem nxv_some {ns : List Nd} {j L k : Nat} {n : Nd} (hj : j ≤ k) (hn : ns[k]? = some n) (hL : L < n.h) (hno : ∀ i, j ≤ i → i < k → ∀ m, ns[i]? = some m → m.h ≤ L) : nxv ns j L = ptr n.b := by
  rcases nxv_cases ns j L with ⟨_, h⟩ | ⟨k', n', h1, h2, h3, h4, h5⟩
  · have := h k hj n hn; omega
  · rcases Nat.lt_trichotomy k k' with h | h | h
    · have := h5 k hj h n hn; omega
    · subst h; rw [hn] at h2; injection h2 with h2; rw [h4, h2]
    · have := hno k' h1 h n' h2; omega
theorem nxv_none {ns : List Nd} {j L : Nat} (hno : ∀ i, j ≤ i → ∀ m, ns[i]? = some m → m.h ≤ L) : nxv ns j L = .pointer none := by
  rcases nxv_cases ns j L with ⟨h, _⟩ | ⟨k', n', h1, h2, h3, h4, h5⟩
  · exact h
  · have := hno k' h1 n' h2; omega
/-- Two lists whose nodes that are higher than L are the same from two places on. -/
theorem nxv_shift {ns ns' : List Nd} {j d L : Nat} (h : ∀ i, ns'[j + d + i]? = ns[j + i]?) : nxv ns' (j + d) L = nxv ns j L := by
  unfold nxv
  have e : ns'.drop (j + d) = ns.drop j := by
    apply List.ext_getElem?
    intro i
    rw [List.getElem?_drop, List.getElem?_drop]
    exact h i
  rw [e]

def ins (ns : List Nd) (p : Nat) (x : Nd) : List Nd := ns.take p ++ x :: ns.drop p
theorem ins_lt {ns : List Nd} {p : Nat} (x : Nd) (hp : p ≤ ns.length) {k : Nat} (hk : k < p) : (ins ns p x)[k]? = ns[k]? := by
  unfold ins
  rw [List.getElem?_append_left (by rw [List.length_take]; omega), List.getElem?_take_of_lt hk]
theorem ins_at {ns : List Nd} {p : Nat} (x : Nd) (hp : p ≤ ns.length) : (ins ns p x)[p]? = some x := by
  unfold ins
  rw [List.getElem?_append_right (by rw [List.length_take]; omega), List.length_take, show p - min p ns.length = 0 by omega]
  rfl
theorem ins_gt {ns : List Nd} {p : Nat} (x : Nd) (hp : p ≤ ns.length) (k : Nat) : (ins ns p x)[p + 1 + k]? = ns[p + k]? := by
  unfold ins
  rw [List.getElem?_append_right (by rw [List.length_take]; omega), List.length_take, show p + 1 + k - min p ns.length = k + 1 by omega, List.getElem?_cons_succ, List.getElem?_drop]
theorem ins_ents (ns : List Nd) (p : Nat) (x : Nd) : (ins ns p x).map (·.e) = (ns.map (·.e)).take p ++ x.e :: (ns.map (·.e)).drop p := by
  unfold ins
  rw [List.map_append, List.map_cons, List.map_take, List.map_drop]
theorem ins_cases {ns : List Nd} {p : Nat} (x : Nd) (hp : p ≤ ns.length) {k : Nat} {n : Nd} (h : (ins ns p x)[k]? = some n) : (k < p ∧ ns[k]? = some n) ∨ (k = p ∧ n = x) ∨ (p < k ∧ ns[k - 1]? = some n) := by
  rcases Nat.lt_trichotomy k p with e | e | e
  · rw [ins_lt x hp e] at h; exact .inl ⟨e, h⟩
  · subst e; rw [ins_at x hp] at h; injection h with h; exact .inr (.inl ⟨rfl, h.symm⟩)
  · have := ins_gt x hp (k - p - 1)
    rw [show p + 1 + (k - p - 1) = k by omega, show p + (k - p - 1) = k - 1 by omega, h] at this
    exact .inr (.inr ⟨e, this.symm⟩)

/-- Which places count: the head's and each node's own levels. -/
def Has (ns : List Nd) (j i : Nat) : Prop := i < 12 ∧ (0 < j → ∃ n, ns[j - 1]? = some n ∧ i < n.h)
/-- The first m levels are those of the list behind it. -/
def mix (ns : List Nd) (p : Nat) (x : Nd) (m j i : Nat) : Value := if i < m then nxv (ins ns p x) j i else if j = p + 1 then .pointer none else nxv ns (if j ≤ p then j else j - 1) i

theorem skip_le {ns : List Nd} {p L : Nat} {x : Nd} (hp : p ≤ ns.length) {j : Nat} (hj : j ≤ p) (hx : x.h ≤ L) : nxv (ins ns p x) j L = nxv ns j L := by
  rcases nxv_cases ns j L with ⟨e, hno⟩ | ⟨k, n, h1, h2, h3, e, h5⟩
  · rw [e]
    refine nxv_none fun i hi m hm => ?_
    rcases ins_cases x hp hm with ⟨_, h⟩ | ⟨_, rfl⟩ | ⟨hlt, h'⟩
    · exact hno i hi m h
    · exact hx
    · exact hno (i - 1) (by omega) m h'
  · rw [e]
    rcases Nat.lt_or_ge k p with hk | hk
    · exact nxv_some h1 (by rw [ins_lt x hp hk]; exact h2) h3 fun i hi hik m hm => by
        rw [ins_lt x hp (by omega)] at hm
        exact h5 i hi hik m hm
    · refine nxv_some (k := k + 1) (by omega) (by have := ins_gt x hp (k - p); rw [show p + 1 + (k - p) = k + 1 by omega, show p + (k - p) = k by omega] at this; rw [this]; exact h2) h3 fun i hi hik m hm => ?_
      rcases ins_cases x hp hm with ⟨_, h⟩ | ⟨_, rfl⟩ | ⟨hlt, h'⟩
      · exact h5 i hi (by omega) m h
      · exact hx
      · exact h5 (i - 1) (by omega) (by omega) m h'
theorem shift_gt {ns : List Nd} {p L : Nat} {x : Nd} (hp : p ≤ ns.length) {j : Nat} (hj : p < j) : nxv (ins ns p x) j L = nxv ns (j - 1) L := by
  have h := nxv_shift (ns := ns) (ns' := ins ns p x) (j := j - 1) (d := 1) (L := L) (fun i => by
    have := ins_gt x hp (j - 1 - p + i)
    rw [show p + 1 + (j - 1 - p + i) = j - 1 + 1 + i by omega, show p + (j - 1 - p + i) = j - 1 + i by omega] at this
    exact this)
  rwa [show j - 1 + 1 = j by omega] at h

theorem mix_end {ns : List Nd} {p : Nat} {x : Nd} (hp : p ≤ ns.length) {j i : Nat} (h : Has (ins ns p x) j i) : mix ns p x x.h j i = nxv (ins ns p x) j i := by
  unfold mix
  by_cases e : i < x.h
  · rw [if_pos e]
  · rw [if_neg e]
    by_cases e2 : j = p + 1
    · subst e2
      obtain ⟨n, h1, h2⟩ := h.2 (by omega)
      rw [Nat.add_sub_cancel, ins_at x hp] at h1
      injection h1 with h1
      subst h1
      omega
    · rw [if_neg e2]
      by_cases e3 : j ≤ p
      · rw [if_pos e3, skip_le hp e3 (by omega)]
      · rw [if_neg e3, shift_gt hp (by omega)]
theorem mix_next {ns : List Nd} {p : Nat} {x : Nd} (hp : p ≤ ns.length) {m q : Nat} (hm : m < x.h) (hq : IsLast ns p m q) {j i : Nat} (h : Has (ins ns p x) j i) :
    mix ns p x (m + 1) j i = if j = q ∧ i = m then ptr x.b else if j = p + 1 ∧ i = m then nxv ns q m else mix ns p x m j i := by
  obtain ⟨hq1, hq2, hq3⟩ := hq
  by_cases e : i = m
  · subst e
    have e1 : mix ns p x (i + 1) j i = nxv (ins ns p x) j i := by unfold mix; rw [if_pos (by omega)]
    rw [e1]
    by_cases ej : j = q
    · rw [if_pos ⟨ej, rfl⟩, ej]
      exact nxv_some hq1 (ins_at x hp) hm fun k h1 h2 n hn => by
        rw [ins_lt x hp h2] at hn
        exact hq3 k h1 h2 n hn
    · rw [if_neg (fun x => ej x.1)]
      by_cases ep : j = p + 1
      · rw [if_pos ⟨ep, rfl⟩, ep, shift_gt hp (by omega), Nat.add_sub_cancel]
        rcases nxv_cases ns p i with ⟨e, hno⟩ | ⟨k, n, h1, h2, h3, e, h5⟩
        · rw [e]
          refine (nxv_none fun k hk n hn => ?_).symm
          rcases Nat.lt_or_ge k p with hkp | hkp
          · exact hq3 k hk hkp n hn
          · exact hno k hkp n hn
        · rw [e]
          refine (nxv_some (k := k) (by omega) h2 h3 fun k' h1' h2' n' hn' => ?_).symm
          rcases Nat.lt_or_ge k' p with hkp | hkp
          · exact hq3 k' h1' hkp n' hn'
          · exact h5 k' hkp h2' n' hn'
      · rw [if_neg (fun x => ep x.1)]
        unfold mix
        rw [if_neg (by omega), if_neg ep]
        by_cases e3 : j ≤ p
        · rw [if_pos e3]
          rcases Nat.lt_or_ge j q with hjq | hjq
          · obtain ⟨n, hn, hnh⟩ := hq2 (by omega)
            rcases nxv_cases ns j i with ⟨_, h⟩ | ⟨k, n', h1, h2, h3, e, h5⟩
            · have := h (q - 1) (by omega) n hn; omega
            · have hkp : k < p := by
                rcases Nat.lt_or_ge k p with h | h
                · exact h
                · have := h5 (q - 1) (by omega) (by omega) n hn; omega
              rw [e]
              exact nxv_some h1 (by rw [ins_lt x hp hkp]; exact h2) h3 fun i' hi hik m hm' => by
                rw [ins_lt x hp (by omega)] at hm'
                exact h5 i' hi hik m hm'
          · obtain ⟨n, h1, h2⟩ := h.2 (by omega)
            rw [ins_lt x hp (by omega)] at h1
            have := hq3 (j - 1) (by omega) (by omega) n h1
            omega
        · rw [if_neg e3, shift_gt hp (by omega)]
  · rw [if_neg (fun x => e x.2), if_neg (fun x => e x.2)]
    unfold mix
    by_cases e2 : i < m
    · rw [if_pos e2, if_pos (by omega)]
    · rw [if_neg e2, if_neg (by omega)]

theorem Tab.congr {w : World} {T hb : Nat} {ns : List Nd} {nx nx' : Nat → Nat → Value} {cnt byt : Int} (h : Tab w T hb ns nx cnt byt) (e : ∀ j i, Has ns j i → nx j i = nx' j i) : Tab w T hb ns nx' cnt byt :=
  ⟨h.top, by rw [← row_congr (f := nx 0) fun i hi => e 0 i ⟨hi, fun h => absurd h (by omega)⟩]; exact h.row0,
    fun k n hn => by
      obtain ⟨h1, h2, h3, h4, h5⟩ := h.node k n hn
      exact ⟨h1, by rw [← row_congr (f := nx (k + 1)) fun i hi => e (k + 1) i ⟨by omega, fun _ => ⟨n, by rw [Nat.add_sub_cancel]; exact hn, hi⟩⟩]; exact h2, h3, h4, h5⟩, h.apart⟩
/-- The block of the pointers behind place j. -/
def rowAt (hb : Nat) (ns : List Nd) (j : Nat) : Nat := match j with
  | 0 => hb
  | j + 1 => (ns[j]?.map (·.nb)).getD 0
theorem Tab.set_ {w : World} {T hb : Nat} {ns : List Nd} {nx : Nat → Nat → Value} {cnt byt : Int} (h : Tab w T hb ns nx cnt byt) {j i : Nat} (hj : 0 < j → ∃ n, ns[j - 1]? = some n) (v : Value) :
    Tab (w.setCell ⟨rowAt hb ns j, i, none⟩ v) T hb ns (fun a b => if a = j ∧ b = i then v else nx a b) cnt byt := by
  have hfar : ∀ g t cs, Blk w g t cs → t ≠ 54 → Blk (w.setCell ⟨rowAt hb ns j, i, none⟩ v) g t cs := by
    intro g t cs hb' ht
    refine hb'.far (fun e => ?_) v
    dsimp only at e
    cases j with
    | zero => exact hb'.ne_ h.row0 ht e
    | succ j =>
      obtain ⟨n, hn⟩ := hj (by omega)
      rw [Nat.add_sub_cancel] at hn
      simp only [rowAt, hn, Option.map_some, Option.getD_some] at e
      exact hb'.ne_ (h.node j n hn).2.1 ht e
  refine ⟨hfar _ _ _ h.top (by decide), ?_, fun k n hn => ?_, h.apart⟩
  · cases j with
    | zero =>
      have := h.row0.set_ i v
      rw [row_set] at this
      rw [show (fun b => if 0 = 0 ∧ b = i then v else nx 0 b) = fun b => if b = i then v else nx 0 b from by funext b; simp]
      exact this
    | succ j =>
      obtain ⟨n, hn⟩ := hj (by omega)
      rw [Nat.add_sub_cancel] at hn
      rw [show (fun b => if 0 = j + 1 ∧ b = i then v else nx 0 b) = nx 0 from by funext b; rw [if_neg (by omega)]]
      refine h.row0.far ?_ v
      simp only [rowAt, hn, Option.map_some, Option.getD_some]
      exact fun e => (h.node j n hn).2.2.2.2 e.symm
  · obtain ⟨h1, h2, h3, h4, h5⟩ := h.node k n hn
    refine ⟨hfar _ _ _ h1 (by decide), ?_, h3, h4, h5⟩
    cases j with
    | zero =>
      rw [show (fun b => if k + 1 = 0 ∧ b = i then v else nx (k + 1) b) = nx (k + 1) from by funext b; rw [if_neg (by omega)]]
      exact h2.far h5 v
    | succ j =>
      obtain ⟨n', hn'⟩ := hj (by omega)
      rw [Nat.add_sub_cancel] at hn'
      by_cases e : k = j
      · subst e
        rw [hn] at hn'
        injection hn' with hn'
        subst hn'
        have := h2.set_ i v
        rw [row_set] at this
        rw [show (fun b => if k + 1 = k + 1 ∧ b = i then v else nx (k + 1) b) = fun b => if b = i then v else nx (k + 1) b from by funext b; simp]
        simpa [rowAt, hn] using this
      · rw [show (fun b => if k + 1 = j + 1 ∧ b = i then v else nx (k + 1) b) = nx (k + 1) from by funext b; rw [if_neg (by omega)]]
        refine h2.far ?_ v
        simp only [rowAt, hn', Option.map_some, Option.getD_some]
        exact (h.apart k n j n' hn hn' e).2
/-- A new node's blocks beside the table's. -/
theorem Tab.ins_ {w : World} {T hb : Nat} {ns : List Nd} {cnt byt : Int} (h : Tab w T hb ns (nxv ns) cnt byt) {p : Nat} (hp : p ≤ ns.length) {x : Nd}
    (h1 : Blk w x.b 51 x.cells) (h2 : Blk w x.nb 54 (row (fun _ => .pointer none) x.h)) (h3 : 1 ≤ x.h) (h4 : x.h ≤ 12) (hn : ∀ k, Foot T hb ns k → k ≠ x.b ∧ k ≠ x.nb) :
    Tab w T hb (ins ns p x) (mix ns p x 0) cnt byt := by
  have hf : ∀ (k : Nat) (n : Nd), ns[k]? = some n → (n.b ≠ x.b ∧ n.nb ≠ x.nb) := fun k n hk => by
    have hm := List.mem_of_getElem? hk
    exact ⟨(hn _ (.inr (.inr ⟨n, hm, .inl rfl⟩))).1, (hn _ (.inr (.inr ⟨n, hm, .inr rfl⟩))).2⟩
  refine ⟨h.top, ?_, fun k n hk => ?_, fun k n k' n' hk hk' hne => ?_⟩
  · rw [show mix ns p x 0 0 = nxv ns 0 from by funext i; simp [mix]]
    exact h.row0
  · rcases ins_cases x hp hk with ⟨e, hk⟩ | ⟨e, rfl⟩ | ⟨e, hk⟩
    · rw [show mix ns p x 0 (k + 1) = nxv ns (k + 1) from by funext i; unfold mix; rw [if_neg (by omega), if_neg (by omega), if_pos (by omega)]]
      exact h.node k n hk
    · subst e
      rw [show mix ns k n 0 (k + 1) = fun _ => .pointer none from by funext i; unfold mix; rw [if_neg (by omega), if_pos rfl]]
      exact ⟨h1, h2, h3, h4, fun e => (hn hb (.inr (.inl rfl))).2 e.symm⟩
    · rw [show mix ns p x 0 (k + 1) = nxv ns (k - 1 + 1) from by funext i; unfold mix; rw [if_neg (by omega), if_neg (by omega), if_neg (by omega)]; congr 1; omega]
      exact h.node (k - 1) n hk
  · rcases ins_cases x hp hk with ⟨e, hk⟩ | ⟨e, rfl⟩ | ⟨e, hk⟩ <;> rcases ins_cases _ hp hk' with ⟨e', hk'⟩ | ⟨e', hx⟩ | ⟨e', hk'⟩
    · exact h.apart _ _ _ _ hk hk' hne
    · rw [hx]; exact hf _ _ hk
    · exact h.apart _ _ _ _ hk hk' (by omega)
    · exact ⟨fun y => (hf _ _ hk').1 y.symm, fun y => (hf _ _ hk').2 y.symm⟩
    · omega
    · exact ⟨fun y => (hf _ _ hk').1 y.symm, fun y => (hf _ _ hk').2 y.symm⟩
    · exact h.apart _ _ _ _ hk hk' (by omega)
    · rw [hx]; exact hf _ _ hk
    · exact h.apart _ _ _ _ hk hk' (by omega)
end Go.Proofs.Ytgcnodbinmgobaa
