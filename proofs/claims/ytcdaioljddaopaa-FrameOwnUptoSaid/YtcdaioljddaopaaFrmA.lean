/- walks: frame.Uint -/
import Derived.Test.YtcdaioljddaopaaRows
import Derived.Test.YtcdaioljddaopaaFrmM
import Derived.WalkSpells
import Derived.WalkLawsBesides
import Derived.BigQuiet
namespace Go.Proofs.Ytcdaioljddaopaa
open Go.RowKit

theorem elem_u8 : Elem Try.prog 23 5 1 1 := elem_of (by kernel_rfl)
theorem zero_u8 : (Try.prog.info? 5).bind (·.zero) = some (.int .u8 0) := by kernel_rfl

theorem or128_all : ∀ k : Fin 256, bits BinOp.or IntKind.u8 (k.val : Int) 128 = ((k.val % 128 + 128 : Nat) : Int) := by decide +kernel
theorem or128 (m : Nat) : bits BinOp.or IntKind.u8 ((m : Int) % 256) 128 = ((UInt8.ofNat (m % 128 + 128)).toNat : Int) := by
  have h := or128_all ⟨m % 256, by omega⟩
  have e : ((m % 256 : Nat) : Int) = (m : Int) % 256 := by omega
  dsimp only at h
  rw [e] at h
  rw [h]
  simp
  omega
theorem small_u8 {m : Nat} (h : m < 128) : ((UInt8.ofNat m).toNat : Int) = m := by simp; omega

set_option maxHeartbeats 1000000 in
theorem uint_any (n : Nat) (w : World) (hn : n < 18446744073709551616) :
    Calls Try.prog 12 #[.int .u64 n] w fun e w' => ∃ A c, e = .returned (.slice A (uintL n).length c) ∧ Own w' w.heap.size 5 1 A (uintL n).length c (u8s (uintL n)) ∧ Below w.heap.size w w' := by
  have hlen := uintL_len64 hn
  go_enter Try.func12, Try.ntmps12
  go_wp2_with fail
  go_loopw [0, 3] (fun nv ov wr => ∃ (m : Nat) (A : Option Addr) (c : Nat) (pre : List UInt8), nv = .int .u64 m ∧ m < 18446744073709551616 ∧ ov = .slice A pre.length c ∧ Own wr w.heap.size 5 1 A pre.length c (u8s pre) ∧ pre ++ uintL m = uintL n ∧ Below w.heap.size w wr) (fun nv _ _ => (intOf nv).toNat)
  case atStart => exact ⟨n, none, 0, [], rfl, hn, rfl, Own.nil_ _ _ _ _, rfl, Below.refl _ _⟩
  case round =>
    obtain ⟨m, A, c, pre, rfl, hm, rfl, ho, he, hb⟩ := hrel
    have HO := Lib.hid ho
    have HE := Lib.hid he
    have hpl : pre.length ≤ 10 := by
      have := congrArg List.length he
      rw [List.length_append] at this
      omega
    have hsz := hb.size
    clear ho he
    have hbd : ∀ (v : Int) (w1 : World), Upd (fun k => blockOf A = some k) (wr.alloc (.cells #[.int .u8 v] 5)) w1 → Below w.heap.size w w1 := fun v w1 hu =>
      (hb.alloc hb.size _).trans (hu.to_below (by simp; omega) (fun i hi e => by have := HO.out.ge _ e; omega))
    have HB := Lib.hid hbd
    clear hbd
    by_cases h : (128 : Int) ≤ (m : Int)
    · have hv := or128 m
      have hu := uintL_ge (n := m) (by omega)
      have hd : (m : Int) / 128 = ((m / 128 : Nat) : Int) := by omega
      have HV := Lib.hid hv
      have HU := Lib.hid hu
      have HD := Lib.hid hd
      clear hv hu hd
      go_wp2_with (at_builtin; refine halt_ ?_)
      refine unhalt ?_
      refine wpList_app elem_u8 (HO.out.alloc _) (reads_new (cs := #[_]) wr 5 1 rfl) (by simp [Value.oneCell']) (by omega) (by simp; omega) _ _ rfl rfl rfl rfl ?_
      intro A' c' w1 ho hup hat
      rw [HV.out] at ho
      have hb1 := HB.out _ w1 hup
      have HO1 := Lib.hid ho
      clear hup hat ho
      go_wp2_with fail
      go_roundw
      case rel => exact ⟨m / 128, A', c', pre ++ [UInt8.ofNat (m % 128 + 128)], by rw [HD.out], by omega, by simp, by simpa [u8s] using HO1.out, by rw [List.append_assoc, List.singleton_append, ← HU.out, HE.out], hb1⟩
      case measure => simp [intOf]; omega
    · have hu := uintL_lt (n := m) (by omega)
      have hv := small_u8 (m := m) (by omega)
      have HU := Lib.hid hu
      have HV := Lib.hid hv
      clear hu hv
      go_wp2_with (at_builtin; refine halt_ ?_)
      refine unhalt ?_
      refine wpList_app elem_u8 (HO.out.alloc _) (reads_new (cs := #[_]) wr 5 1 rfl) (by simp [Value.oneCell']) (by omega) (by simp; omega) _ _ rfl rfl rfl rfl ?_
      intro A' c' w1 ho hup hat
      rw [← HV.out] at ho
      have hb1 := HB.out _ w1 hup
      have HO1 := Lib.hid ho
      clear hup hat ho
      go_wp2_with fail
      go_ret
      have e := HE.out
      rw [HU.out] at e
      rw [← e]
      exact ⟨A', c', by simp, by simpa [u8s] using HO1.out, hb1⟩
theorem refbyte (m : Nat) : (m : Int) % 128 + 128 = ((UInt8.ofNat (m % 128 + 128)).toNat : Int) := by
  have : m % 128 + 128 < 256 := by omega
  simp
  omega

set_option maxHeartbeats 1000000 in
theorem refUint_any (n : Nat) (w : World) (hn : n < 18446744073709551616) :
    Calls Try.prog 15 #[.int .u64 n] w fun e w' => ∃ A c, e = .returned (.slice A (uintL n).length c) ∧ Own w' w.heap.size 5 1 A (uintL n).length c (u8s (uintL n)) ∧ Below w.heap.size w w' := by
  have hlen := uintL_len64 hn
  go_enter Try.func15, Try.ntmps15
  go_wp2_with fail
  go_loopw [0, 3] (fun nv ov wr => ∃ (m : Nat) (A : Option Addr) (c : Nat) (pre : List UInt8), nv = .int .u64 m ∧ m < 18446744073709551616 ∧ ov = .slice A pre.length c ∧ Own wr w.heap.size 5 1 A pre.length c (u8s pre) ∧ pre ++ uintL m = uintL n ∧ Below w.heap.size w wr) (fun nv _ _ => (intOf nv).toNat)
  case atStart => exact ⟨n, none, 0, [], rfl, hn, rfl, Own.nil_ _ _ _ _, rfl, Below.refl _ _⟩
  case round =>
    obtain ⟨m, A, c, pre, rfl, hm, rfl, ho, he, hb⟩ := hrel
    have HO := Lib.hid ho
    have HE := Lib.hid he
    have hpl : pre.length ≤ 10 := by
      have := congrArg List.length he
      rw [List.length_append] at this
      omega
    have hsz := hb.size
    clear ho he
    have hbd : ∀ (v : Int) (w1 : World), Upd (fun k => blockOf A = some k) (wr.alloc (.cells #[.int .u8 v] 5)) w1 → Below w.heap.size w w1 := fun v w1 hu =>
      (hb.alloc hb.size _).trans (hu.to_below (by simp; omega) (fun i hi e => by have := HO.out.ge _ e; omega))
    have HB := Lib.hid hbd
    clear hbd
    by_cases h : (128 : Int) ≤ (m : Int)
    · have hv := refbyte m
      have hu := uintL_ge (n := m) (by omega)
      have hd : (m : Int) / 128 = ((m / 128 : Nat) : Int) := by omega
      have HV := Lib.hid hv
      have HU := Lib.hid hu
      have HD := Lib.hid hd
      clear hv hu hd
      go_wp2_with (at_builtin; refine halt_ ?_)
      refine unhalt ?_
      refine wpList_app elem_u8 (HO.out.alloc _) (reads_new (cs := #[_]) wr 5 1 rfl) (by simp [Value.oneCell']) (by omega) (by simp; omega) _ _ rfl rfl rfl rfl ?_
      intro A' c' w1 ho hup hat
      rw [HV.out] at ho
      have hb1 := HB.out _ w1 hup
      have HO1 := Lib.hid ho
      clear hup hat ho
      go_wp2_with fail
      go_roundw
      case rel => exact ⟨m / 128, A', c', pre ++ [UInt8.ofNat (m % 128 + 128)], by rw [HD.out], by omega, by simp, by simpa [u8s] using HO1.out, by rw [List.append_assoc, List.singleton_append, ← HU.out, HE.out], hb1⟩
      case measure => simp [intOf]; omega
    · have hu := uintL_lt (n := m) (by omega)
      have hv := small_u8 (m := m) (by omega)
      have HU := Lib.hid hu
      have HV := Lib.hid hv
      clear hu hv
      go_wp2_with (at_builtin; refine halt_ ?_)
      refine unhalt ?_
      refine wpList_app elem_u8 (HO.out.alloc _) (reads_new (cs := #[_]) wr 5 1 rfl) (by simp [Value.oneCell']) (by omega) (by simp; omega) _ _ rfl rfl rfl rfl ?_
      intro A' c' w1 ho hup hat
      rw [← HV.out] at ho
      have hb1 := HB.out _ w1 hup
      have HO1 := Lib.hid ho
      clear hup hat ho
      go_wp2_with fail
      go_ret
      have e := HE.out
      rw [HU.out] at e
      rw [← e]
      exact ⟨A', c', by simp, by simpa [u8s] using HO1.out, hb1⟩

set_option maxHeartbeats 1000000 in
theorem own_any (A : Option Addr) (n c : Nat) (l : List UInt8) (w : World) (hr : Reads w w.heap.size 1 A n (u8s l)) (hn : n ≤ 140737488355328) :
    Calls Try.prog 14 #[.slice A n c] w fun e w' => ∃ A' c', e = .returned (.slice A' n c') ∧ Own w' w.heap.size 5 1 A' n c' (u8s l) ∧ Below w.heap.size w w' := by
  go_enter Try.func14, Try.ntmps14
  go_wp2_with (at_builtin; refine halt_ ?_)
  refine unhalt ?_
  refine wpList_app elem_u8 (Own.empty w _ 1) (hr.alloc (Nat.le_refl _) _) (u8s_one l) (by omega) (by simp) _ _ rfl rfl rfl rfl ?_
  intro A' c' w1 ho hu hat
  have hb : Below w.heap.size w w1 := (Upd.trans (S := fun _ => False) ((Upd.refl _ w).alloc _) hu (by intro i hi e; simp [blockOf] at e; omega)).none_
  rw [Nat.zero_add, List.nil_append] at ho
  clear hu hat
  go_wp2_with fail
  go_ret
  exact ⟨A', c', by simp, ho, hb⟩

set_option maxHeartbeats 1000000 in
theorem text_any (s : ByteArray) (w : World) (hs : s.size ≤ 140737488351232) :
    Calls Try.prog 19 #[.string s] w fun e w' => ∃ A c, e = .returned (.slice A ((uintL s.size).length + s.size) c) ∧ Own w' w.heap.size 5 1 A ((uintL s.size).length + s.size) c (u8s (uintL s.size ++ s.data.toList)) ∧ Below w.heap.size w w' := by
  have hlen := uintL_len64 (n := s.size) (by omega)
  go_enter Try.func19, Try.ntmps19
  go_wp2_with fail
  refine (uint_any s.size _ (by omega)).mono ?_
  rintro e w1 ⟨A, c, rfl, ho, hb⟩
  have HO := Lib.hid ho
  clear ho
  go_wp2_with (at_builtin; refine halt_ ?_)
  refine unhalt ?_
  refine wpList_appStr elem_u8 zero_u8 Try.underlying9 HO.out s (by omega) hb.size _ _ rfl rfl rfl rfl ?_
  intro A' c' w2 ho hu hat
  have hb2 : Below w.heap.size w w2 := hb.trans (hu.to_below hb.size (fun i hi e => by have := HO.out.ge _ e; omega))
  rw [← u8s_append] at ho
  clear hu hat
  go_wp2_with fail
  go_ret
  exact ⟨A', c', rfl, ho, hb2⟩

set_option maxHeartbeats 1000000 in
theorem refText_any (s : ByteArray) (w : World) (hs : s.size ≤ 140737488351232) :
    Calls Try.prog 21 #[.string s] w fun e w' => ∃ A c, e = .returned (.slice A ((uintL s.size).length + s.size) c) ∧ Own w' w.heap.size 5 1 A ((uintL s.size).length + s.size) c (u8s (uintL s.size ++ s.data.toList)) ∧ Below w.heap.size w w' := by
  have hlen := uintL_len64 (n := s.size) (by omega)
  go_enter Try.func21, Try.ntmps21
  go_wp2_with fail
  refine (refUint_any s.size _ (by omega)).mono ?_
  rintro e w1 ⟨A, c, rfl, ho, hb⟩
  have HO := Lib.hid ho
  clear ho
  go_wp2_with (at_builtin; refine halt_ ?_)
  refine unhalt ?_
  refine wpList_appStr elem_u8 zero_u8 Try.underlying9 HO.out s (by omega) hb.size _ _ rfl rfl rfl rfl ?_
  intro A' c' w2 ho hu hat
  have hb2 : Below w.heap.size w w2 := hb.trans (hu.to_below hb.size (fun i hi e => by have := HO.out.ge _ e; omega))
  rw [← u8s_append] at ho
  clear hu hat
  go_wp2_with fail
  go_ret
  exact ⟨A', c', rfl, ho, hb2⟩
end Go.Proofs.Ytcdaioljddaopaa
