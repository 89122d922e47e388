/- walks: frame.Scan, convoyref01.Scan -/
import Derived.Test.YtcdaioljddaopaaFrmO
import Derived.Test.YtcdaioljddaopaaFrmT
import Derived.Test.YtcdaioljddaopaaLibL
namespace Go.Proofs.Ytcdaioljddaopaa
open Go.RowKit

theorem size_u8 : (Try.prog.info? 5).map (·.size) = some 1 := by kernel_rfl
theorem elem_rows : Elem Try.prog 48 23 1 24 := elem_of (by kernel_rfl)
/-- A slice of bytes of the call's own. -/
def RowOf (w : World) (base : Nat) (v : Value) (l : List UInt8) : Prop := ∃ A c, v = .slice A l.length c ∧ Own w base 5 1 A l.length c (u8s l)
def vBlock : Value → Option Nat
  | .slice A _ _ => blockOf A
  | _ => none
/-- Slices of bytes of the call's own, each in a block of its own. -/
structure OwnRows (w : World) (base : Nat) (vs : List Value) (ls : List (List UInt8)) : Prop where
  len : vs.length = ls.length
  row : ∀ (i : Nat) v l, vs[i]? = some v → ls[i]? = some l → RowOf w base v l
  apart : ∀ (i j : Nat) v v' g g', i < j → vs[i]? = some v → vs[j]? = some v' → vBlock v = some g → vBlock v' = some g' → g < g'
section
variable {w w' : World} {base e n c : Nat} {A : Option Addr} {vs : List Value} {ls : List (List UInt8)} {v : Value} {l : List UInt8}
theorem RowOf.ge (h : RowOf w base v l) : ∀ g, vBlock v = some g → base ≤ g ∧ g < w.heap.size := by
  obtain ⟨A, c, rfl, h⟩ := h
  exact h.ge
theorem RowOf.upd {S : Nat → Prop} (h : RowOf w base v l) (hu : Upd S w w') (hn : ∀ g, vBlock v = some g → ¬ S g) : RowOf w' base v l := by
  obtain ⟨A, c, rfl, h⟩ := h
  exact ⟨A, c, rfl, h.upd hu hn⟩
theorem RowOf.mono {base' : Nat} (h : RowOf w base v l) (hb : base' ≤ base) : RowOf w base' v l := by
  obtain ⟨A, c, rfl, h⟩ := h
  exact ⟨A, c, rfl, h.mono hb⟩
theorem OwnRows.nil_ (w : World) (base : Nat) : OwnRows w base [] [] := ⟨rfl, fun _ _ _ h => by simp at h, fun _ _ _ _ _ _ _ h => by simp at h⟩
theorem OwnRows.upd {S : Nat → Prop} (h : OwnRows w base vs ls) (hu : Upd S w w') (hn : ∀ v ∈ vs, ∀ g, vBlock v = some g → ¬ S g) : OwnRows w' base vs ls :=
  ⟨h.len, fun i v l hv hl => (h.row i v l hv hl).upd hu (hn v (List.mem_of_getElem? hv)), h.apart⟩
theorem OwnRows.below {B : Nat} (h : OwnRows w base vs ls) (hb : Below B w w') (hB : w.heap.size ≤ B) : OwnRows w' base vs ls :=
  h.upd (S := fun _ => False) (Upd.of_below (hb.mono hB)) (fun _ _ _ _ h => h)
theorem OwnRows.mem_row (h : OwnRows w base vs ls) (hv : v ∈ vs) : ∃ l, RowOf w base v l := by
  obtain ⟨i, hi, e⟩ := List.mem_iff_getElem.1 hv
  have hl : i < ls.length := by rw [← h.len]; exact hi
  exact ⟨ls[i], h.row i v _ (by rw [List.getElem?_eq_getElem hi, e]) (List.getElem?_eq_getElem hl)⟩
theorem OwnRows.ge (h : OwnRows w base vs ls) (hv : v ∈ vs) : ∀ g, vBlock v = some g → base ≤ g ∧ g < w.heap.size := by
  obtain ⟨l, hr⟩ := h.mem_row hv
  exact hr.ge
/-- The rows lie elsewhere than a slice of another element. -/
theorem OwnRows.off (h : OwnRows w base vs ls) {base' e' size' n' c' : Nat} {A' : Option Addr} {xs' : List Value} (ho : Own w base' e' size' A' n' c' xs') (hne : 5 ≠ e') (hv : v ∈ vs) : ∀ g, vBlock v = some g → blockOf A' ≠ some g := by
  obtain ⟨l, A, c, rfl, hr⟩ := h.mem_row hv
  exact hr.apart ho hne
theorem OwnRows.snoc {B : Nat} (h : OwnRows w base vs ls) (hr : RowOf w B v l) (hB : base ≤ B) (hlt : ∀ u ∈ vs, ∀ g, vBlock u = some g → g < B) : OwnRows w base (vs ++ [v]) (ls ++ [l]) := by
  have hl := h.len
  refine ⟨by simp [hl], fun i u k hu hk => ?_, fun i j u u' g g' hij hu hu' hg hg' => ?_⟩
  · rcases Nat.lt_or_ge i vs.length with hi | hi
    · rw [List.getElem?_append_left hi] at hu
      rw [List.getElem?_append_left (by omega)] at hk
      exact h.row i u k hu hk
    · rw [List.getElem?_append_right hi] at hu
      rw [List.getElem?_append_right (by omega)] at hk
      have hi0 : i - vs.length = 0 := by
        have := (List.getElem?_eq_some_iff.1 hu).1
        simp at this
        omega
      rw [hi0] at hu
      rw [show i - ls.length = 0 by omega] at hk
      simp only [List.getElem?_cons_zero, Option.some.injEq] at hu hk
      subst hu hk
      exact hr.mono hB
  · have hj : j < vs.length + 1 := by
      have := (List.getElem?_eq_some_iff.1 hu').1
      simpa using this
    rw [List.getElem?_append_left (by omega)] at hu
    rcases Nat.lt_or_ge j vs.length with hj2 | hj2
    · rw [List.getElem?_append_left hj2] at hu'
      exact h.apart i j u u' g g' hij hu hu' hg hg'
    · rw [List.getElem?_append_right hj2, show j - vs.length = 0 by omega] at hu'
      simp only [List.getElem?_cons_zero, Option.some.injEq] at hu'
      subst hu'
      have := hlt u (List.mem_of_getElem? hu) g hg
      have := (hr.ge g' hg').1
      omega
theorem OwnRows.one (h : OwnRows w base vs ls) : ∀ u ∈ vs, u.oneCell' = true := by
  intro u hu
  obtain ⟨l, A, c, rfl, _⟩ := h.mem_row hu
  rfl
end

set_option maxRecDepth 100000 in
set_option maxHeartbeats 4000000 in
theorem scan_any (A : Option Addr) (n c : Nat) (b : List UInt8) (w : World) (hx : Reads w w.heap.size 1 A n (u8s b)) (hn : n ≤ c) (hc : c ≤ maxLen) (hn2 : n ≤ 20000000000000) :
    Calls Try.prog 27 #[.slice A n c] w fun e w' => ∃ D d vs, e = .returned (.tuple #[.slice D (scanF b).1.length d, .int .i64 (scanF b).2]) ∧
      Own w' w.heap.size 23 1 D (scanF b).1.length d vs ∧ OwnRows w' w.heap.size vs (scanF b).1 ∧ Below w.heap.size w w' := by
  have hlen := hx.len_
  have hcm : c ≤ 9223372036854775807 := by unfold maxLen at hc; omega
  have HX := Lib.hid hx
  have HL := Lib.hid hlen
  clear hx hlen
  go_enter Try.func27, Try.ntmps27
  go_wp2_with fail
  go_loopw [4, 5] (fun ov av wr => ∃ (D : Option Addr) (d at_ : Nat) (vs : List Value) (ls : List (List UInt8)), ov = .slice D ls.length d ∧ av = .int .i64 at_ ∧ at_ ≤ n ∧ 5 * ls.length ≤ at_ ∧ Own wr w.heap.size 23 1 D ls.length d vs ∧ OwnRows wr w.heap.size vs ls ∧ Below w.heap.size w wr ∧
    (scanF b).1 = ls ++ (scanF (b.drop at_)).1 ∧ (scanF b).2 = at_ + (scanF (b.drop at_)).2) (fun _ av _ => n - (intOf av).toNat)
  case atStart => exact ⟨none, 0, 0, [], [], rfl, rfl, by omega, by simp, Own.nil_ _ _ _ _, OwnRows.nil_ _ _, Below.refl _ _, by simp, by simp⟩
  case round =>
    obtain ⟨D, d, at_, vs, ls, rfl, rfl, hat, h5, ho, hr, hb, hs1, hs2⟩ := hrel
    have HO := Lib.hid ho
    have HR := Lib.hid hr
    have HB := Lib.hid hb
    have HS := Lib.hid (And.intro hs1 hs2)
    clear ho hr hb hs1 hs2
    obtain ⟨PA, hsl, hcut⟩ := cut_low (P := Try.prog) Try.underlying23 size_u8 A (c := c) hat hn
    have hc1 := hcut _ _ _ ((HX.out.below HB.out).more HB.out.size)
    rw [Nat.mul_one, u8s_drop] at hc1
    have HC := Lib.hid hc1
    clear hcut hc1
    go_wp2_with fail
    refine (take_any _ (n - at_) (c - at_) _ wr HC.out (by omega) (by unfold maxLen; omega)).mono ?_
    cases hf : takeF (b.drop at_) with
    | none =>
      rintro e w1 ⟨rfl, hb⟩
      have hs := scanF_none hf
      have HS2 := Lib.hid (And.intro HS.out hs)
      have HB1 := Lib.hid hb
      clear hf hs hb
      go_wp2_with fail
      go_ret2
      have e1 := HS2.out.1.1
      have e2 := HS2.out.1.2
      rw [HS2.out.2] at e1 e2
      simp only [List.append_nil, Nat.add_zero] at e1 e2
      rw [e1, e2]
      exact ⟨D, d, vs, rfl, HO.out.below HB1.out (Nat.le_refl _), HR.out.below HB1.out (Nat.le_refl _), HB.out.trans (HB1.out.mono HB.out.size)⟩
    | some x =>
      obtain ⟨p, k⟩ := x
      rintro e w1 ⟨⟨A1, c1, rfl, ho⟩, hb⟩
      have hs := scanF_some hf
      have hk := takeF_size hf
      rw [List.length_drop, HL.out] at hk
      obtain ⟨hk1, hk2, hk3, hk4, -, -⟩ := hk
      have HS2 := Lib.hid (And.intro HS.out hs)
      have HB1 := Lib.hid hb
      have HO1 := Lib.hid ho
      have hz1 := hb.size
      have HOO := Lib.hid (HO.out.below hb (Nat.le_refl _))
      have HRR := Lib.hid (HR.out.below hb (Nat.le_refl _))
      have hz0 := HB.out.size
      clear hf hs hb ho
      go_wp2_with (at_builtin; refine halt_ ?_)
      refine unhalt ?_
      refine wpList_app elem_rows (HOO.out.alloc _) (reads_new (cs := #[_]) w1 23 1 rfl) (by simp [Value.oneCell']) (by omega) (by simp; omega) _ _ rfl rfl rfl rfl ?_
      intro D2 d2 w2 ho2 hup hat2
      have hoff : ∀ i, blockOf D = some i → w.heap.size ≤ i := fun i hi => (HOO.out.ge i hi).1
      have HB2 := Lib.hid (((HB.out.trans (HB1.out.mono hz0)).alloc (by omega) _).trans (hup.to_below (by simp; omega) (fun i hi e => by have := hoff _ e; omega)))
      have hr2 : OwnRows w2 w.heap.size (vs ++ [.slice A1 p.length c1]) (ls ++ [p]) := by
        have h1 := HRR.out.snoc (B := wr.heap.size) ⟨A1, c1, rfl, HO1.out⟩ hz0 (fun u hu g hg => (HR.out.ge hu g hg).2)
        refine (h1.upd ((Upd.refl (fun k => blockOf D = some k) w1).alloc (.cells #[.slice A1 p.length c1] 23)) (fun v hv g hg hD => h1.off HOO.out (by decide) hv g hg hD)).upd hup (fun v hv g hg hD => h1.off HOO.out (by decide) hv g hg hD)
      have HR2 := Lib.hid hr2
      have HO2 := Lib.hid ho2
      clear hr2 ho2 hup hat2 hoff
      go_wp2_with fail
      go_roundw
      case rel =>
        refine ⟨D2, d2, at_ + k, vs ++ [.slice A1 p.length c1], ls ++ [p], by simp, by simp, by omega, by simp; omega, by simpa using HO2.out, HR2.out, HB2.out, ?_, ?_⟩
        · rw [HS2.out.1.1, HS2.out.2, List.drop_drop, List.append_assoc]; rfl
        · rw [HS2.out.1.2, HS2.out.2, List.drop_drop, Nat.add_assoc]
      case measure => simp [intOf]; omega
end Go.Proofs.Ytcdaioljddaopaa
