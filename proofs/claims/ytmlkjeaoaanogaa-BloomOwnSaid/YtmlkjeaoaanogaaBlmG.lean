/- walks: convoylaw05.cut, awake; a list of texts that is handed in -/
import Derived.Test.YtmlkjeaoaanogaaBlmF
import Derived.Test.YtmlkjeaoaanogaaBlmQ
import Derived.Test.YtmlkjeaoaanogaaLibA
import Derived.Test.YtmlkjeaoaanogaaLibE
namespace Go.Proofs.Ytmlkjeaoaanogaa
open Go.RowKit

theorem choose_list {α : Type} [Inhabited α] {P : Nat → α → Prop} {n : Nat} (h : ∀ i, i < n → ∃ x, P i x) : ∃ xs : List α, xs.length = n ∧ ∀ i, i < n → ∃ x, xs[i]? = some x ∧ P i x := by
  induction n with
  | zero => exact ⟨[], rfl, fun i hi => absurd hi (by omega)⟩
  | succ n ih =>
    obtain ⟨xs, hl, hx⟩ := ih fun i hi => h i (by omega)
    obtain ⟨y, hy⟩ := h n (by omega)
    refine ⟨xs ++ [y], by simp [hl], fun i hi => ?_⟩
    rcases Nat.lt_or_ge i n with h1 | h1
    · obtain ⟨x, h2, h3⟩ := hx i h1
      exact ⟨x, by rw [List.getElem?_append_left (by omega)]; exact h2, h3⟩
    · obtain rfl : i = n := by omega
      exact ⟨y, by rw [List.getElem?_append_right (by omega), hl]; simp, hy⟩
theorem elem_strs : Elem Try.prog 22 9 1 16 := elem_of (by kernel_rfl)
theorem str_u8 {w : World} {B n c : Nat} {A : Option Addr} {l : List UInt8} (h : Reads w B 1 A n (u8s l)) : (convert 25 9 (.slice A n c)).run Try.prog w = .ok (.string ⟨l.toArray⟩) w :=
  run_string_of Try.underlying25 Try.underlying5 Try.underlying9 h
theorem below_drew1 (w : World) : Below w.heap.size w w.drew := below_drew w

set_option maxHeartbeats 1000000 in
theorem cut_any (A : Option Addr) (n c : Nat) (ks : List ByteArray) (w : World) (hx : Reads w w.heap.size 1 A n (strs ks)) (hnc : n ≤ c) (hn : n ≤ 140737488355328) :
    Calls Try.prog 9 #[.slice A n c] w fun e w' => ∃ A' c', e = .returned (.slice A' (min n 200) c') ∧ Own w' w.heap.size 9 1 A' (min n 200) c' (strs (ks.take 200)) ∧ Below w.heap.size w w' := by
  obtain ⟨m, hm⟩ : ∃ m, m = min n 200 := ⟨_, rfl⟩
  rw [← hm]
  have hlen : ks.length = n := by have := hx.1; rw [strs_length] at this; omega
  have hmi : (if (200 : Int) < (n : Int) then (200 : Int) else (n : Int)) = (m : Int) := by omega
  have hmn : m ≤ n := by omega
  have hm200 : m ≤ 200 := by omega
  have hsh := cut_high (P := Try.prog) (n := n) (hi := m) (c := c) Try.underlying22 size_str A (by omega)
  have hr := hx.take (k := m) hmn
  rw [Nat.mul_one, strs_take] at hr
  have htk : ks.take m = ks.take 200 := by
    rcases Nat.lt_or_ge n 200 with h | h
    · rw [List.take_of_length_le (by omega), List.take_of_length_le (by omega)]
    · rw [show m = 200 by omega]
  rw [htk] at hr
  have HR := Lib.hid hr
  clear hm hlen hx hr htk
  go_enter Try.func9, Try.ntmps9
  go_wp2_with (at_builtin; refine halt_ ?_)
  refine unhalt ?_
  refine wpList_app elem_strs (Own.empty w _ 1) (HR.out.alloc (Nat.le_refl _) _) (fun u hu => strs_one _ u hu) (by omega) (by simp) _ _ rfl rfl rfl rfl ?_
  intro A' c' w1 ho hu hat
  have hb : Below w.heap.size w w1 := (Upd.trans (S := fun _ => False) ((Upd.refl _ w).alloc _) hu (by intro i hi e; simp [blockOf] at e; omega)).none_
  rw [Nat.zero_add, List.nil_append] at ho
  clear hu hat
  go_wp2_with fail
  go_ret
  exact ⟨A', c', by simp, ho, hb⟩

theorem fHash0 : hashL [] = 2166136261 := rfl
theorem fHasha : hashL [97] = 3826002220 := by decide +kernel
theorem fBuild : (buildL [[97]] 10).length = 9 ∧ (buildL [[97]] 10).getD 8 0 = 6 := by decide +kernel
theorem keys1 : keysL [⟨#[97]⟩] = [[97]] := rfl

set_option maxRecDepth 100000 in
set_option maxHeartbeats 2000000 in
theorem awake_any (w : World) : Calls Try.prog 8 #[] w fun e w' => e = .returned (.bool true) ∧ Below w.heap.size w w' := by
  go_enter Try.func8, Try.ntmps8
  go_wp2_with fail
  refine (build_any _ 1 1 [⟨#[97]⟩] 10 _ ((reads_new (cs := #[.string ⟨#[97]⟩]) w 9 1 rfl).more (by simp)) (by omega) (by omega) (by intro s hs; rw [List.mem_singleton.1 hs]; decide)).mono ?_
  rw [keys1]
  rintro e w1 ⟨A1, c1, rfl, ho, hb⟩
  have hkeep := may_keeps [[97]] 10 (by decide) [97] (by simp)
  obtain ⟨f, hf⟩ : ∃ f, f = buildL [[97]] 10 := ⟨_, rfl⟩
  have h9 := fBuild
  rw [← hf] at ho hkeep h9 ⊢
  rw [h9.1] at ho ⊢
  obtain ⟨ad, rfl, _, hcell⟩ := ho.reads.u8_ (k := 8) (by omega)
  rw [h9.2] at hcell
  have HK := Lib.hid ((below_keeps (((Below.refl _ w).alloc (Nat.le_refl _) (.cells #[.string ⟨#[97]⟩] 9)).trans (hb.mono (by simp))) (by have := hb.size; simp at this; omega)).and ho.keepsR)
  have HKEEP := Lib.hid hkeep
  have HC := Lib.hid hcell
  clear hf h9 hb ho hkeep hcell
  go_wp2_with fail
  refine (hash_any ⟨#[]⟩ w1 (by decide)).mono ?_
  rw [show hashL (⟨#[]⟩ : ByteArray).data.toList = 2166136261 from fHash0]
  rintro e w2 ⟨rfl, rfl⟩
  go_wp2_with fail
  refine (hash_any ⟨#[97]⟩ w1 (by decide)).mono ?_
  rw [show hashL (⟨#[97]⟩ : ByteArray).data.toList = 3826002220 from fHasha]
  rintro e w2 ⟨rfl, rfl⟩
  have hc := HC.out
  rw [show ad.add 8 = ⟨ad.block, ad.off + 8, none⟩ from rfl] at hc
  go_wp2_with fail
  refine (may_any _ 9 c1 f ⟨#[97]⟩ w1 HK.out.now.2 (by decide) (by decide)).mono ?_
  rw [show (⟨#[97]⟩ : ByteArray).data.toList = [97] from rfl, HKEEP.out]
  rintro e w2 ⟨rfl, hb⟩
  go_wp2_with fail
  go_ret
  exact ⟨rfl, (HK.out.on hb).now.1⟩

/-- A list of texts that is handed in. -/
theorem val_strs {w : World} {v : Value} (h : Val Try.prog w 22 v) : ∃ A n c ks, v = .slice A n c ∧ Reads w w.heap.size 1 A n (strs ks) ∧ (∀ s ∈ ks, s.size ≤ maxLen) ∧ n ≤ c ∧ c ≤ 8796093021952 := by
  have cells_s : Try.prog.cellsOf 9 = 1 := by kernel_rfl
  have bytes_s : Try.prog.bytesOf 9 = 16 := by kernel_rfl
  rcases val_slice Try.underlying22 h with rfl | ⟨a, len, cap, rfl, hl, hm, hb, hc⟩
  · exact ⟨none, 0, 0, [], rfl, Reads.none_, by simp, Nat.le_refl _, by omega⟩
  · rw [bytes_s] at hb
    unfold reachBytes at hb
    have hrow : ∀ i, i < len → ∃ x : ByteArray, w.cell? (a.add i) = some (.string x) ∧ x.size ≤ maxLen := by
      intro i hi
      obtain ⟨m, cs, h1, h2, h3⟩ := hc i (by omega)
      rw [cells_s] at h1 h2
      match cs, h1 with
      | [u], _ =>
        have hcell := h2 0 (by omega)
        rw [add_of_add] at hcell
        simp only [Nat.mul_one, Nat.add_zero, List.getElem?_cons_zero] at hcell
        obtain ⟨s, h4, h5, _⟩ := cel_string Try.underlying9 h3
        simp only [List.cons.injEq, and_true] at h4
        subst h4
        exact ⟨s, hcell, h5⟩
    obtain ⟨xs, hxl, hx⟩ := choose_list hrow
    refine ⟨some a, len, cap, xs, rfl, ⟨by simp [strs, hxl], fun hn => ⟨a, rfl, ?_, fun j u hu => ?_⟩⟩, fun s hs => ?_, hl, by omega⟩
    · obtain ⟨x, _, h, _⟩ := hx 0 hn
      have := World.block_lt_of_cell? w _ h
      rwa [block_of_add] at this
    · have hj : j < len := by
        have := (List.getElem?_eq_some_iff.1 hu).1
        simpa [strs, hxl] using this
      obtain ⟨x, h1, h2, _⟩ := hx j hj
      rw [strs_get, h1] at hu
      simp only [Option.map_some, Option.some.injEq] at hu
      rw [← hu]
      exact h2
    · obtain ⟨i, hi, e⟩ := List.mem_iff_getElem.1 hs
      obtain ⟨y, h1, _, h2⟩ := hx i (by omega)
      rw [List.getElem?_eq_getElem hi, e] at h1
      injection h1 with h1
      subst h1
      exact h2
end Go.Proofs.Ytmlkjeaoaanogaa
