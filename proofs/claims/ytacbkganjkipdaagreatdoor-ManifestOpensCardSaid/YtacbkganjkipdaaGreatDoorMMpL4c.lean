/-
  Texts joined: FrmM, FrmA, FrmB, FrmN, FrmC, FrmD, FrmS, FrmE, FrmF, FrmG, FrmJ, FrmI, FrmK, FrmP, FrmO, FrmQ, FrmT, FrmU, FrmW, FrmU2.
-/
import Derived.Test.YtacbkganjkipdaaGreatDoorMMpL4a
import Derived.Test.YtacbkganjkipdaaGreatDoorRows
import Derived.WalkSpells
import Derived.WalkLawsBesides
import Derived.BigQuiet
import Derived.Lib.Strings
import Derived.Lib.Slices
import Derived.Lib.Small
import Derived.Lib.Walk
import Derived.Lib.BitFns
import Derived.Laws.Bits64b
import Derived.Laws.CopyOwn
import Derived.Laws.BitsAllLaws
namespace Go.Proofs.YtacbkganjkipdaaGreatDoor
def uintF : Nat → Nat → List UInt8
 | 0, n => [UInt8.ofNat n]
 | f + 1, n => if n < 128 then [UInt8.ofNat n] else UInt8.ofNat (n % 128 + 128) :: uintF f (n / 128)
theorem uintF_eq : ∀ f g n, n ≤ f → n ≤ g → uintF f n = uintF g n
 | 0, 0, n, _, _ => rfl
 | 0, g + 1, n, h, _ => by
  obtain rfl : n = 0 := by omega
  simp [uintF]
 | f + 1, 0, n, _, h => by
  obtain rfl : n = 0 := by omega
  simp [uintF]
 | f + 1, g + 1, n, h1, h2 => by
  simp only [uintF]
  split
  · rfl
  · rw [uintF_eq f g (n / 128) (by omega) (by omega)]
def uintL (n : Nat) : List UInt8 := uintF n n
theorem uintL_lt {n : Nat} (h : n < 128) : uintL n = [UInt8.ofNat n] := by
 unfold uintL
 cases n with
 | zero => rfl
 | succ n => simp only [uintF]; rw [if_pos h]
theorem uintL_ge {n : Nat} (h : 128 ≤ n) : uintL n = UInt8.ofNat (n % 128 + 128) :: uintL (n / 128) := by
 unfold uintL
 cases n with
 | zero => omega
 | succ n =>
  simp only [uintF]
  rw [if_neg (by omega), uintF_eq n ((n + 1) / 128) ((n + 1) / 128) (by omega) (Nat.le_refl _)]
theorem uintL_len : ∀ (k n : Nat), n < 128 ^ (k + 1) → (uintL n).length ≤ k + 1
 | 0, n, h => by rw [uintL_lt (by simpa using h)]; simp
 | k + 1, n, h => by
  rcases Nat.lt_or_ge n 128 with h1 | h1
  · rw [uintL_lt h1]; simp
  · rw [uintL_ge h1]
    have := uintL_len k (n / 128) (by rw [Nat.div_lt_iff_lt_mul (by omega)]; rwa [Nat.pow_succ] at h)
    simp only [List.length_cons]
    omega
theorem uintL_len64 {n : Nat} (h : n < 18446744073709551616) : (uintL n).length ≤ 10 := uintL_len 9 n (by omega)
end Go.Proofs.YtacbkganjkipdaaGreatDoor
namespace Go.Proofs.YtacbkganjkipdaaGreatDoor
open Go.RowKit
theorem elem_u8 : Elem Tryz.prog 47 5 1 1 := elem_of (by kernel_rfl)
theorem zero_u8 : (Tryz.prog.info? 5).bind (·.zero) = some (.int .u8 0) := by kernel_rfl
theorem or128_all : ∀ k : Fin 256, bits BinOp.or IntKind.u8 (k.val : Int) 128 = ((k.val % 128 + 128 : Nat) : Int) := by decide +kernel
theorem or128 (m : Nat) : bits BinOp.or IntKind.u8 ((m : Int) % 256) 128 = ((UInt8.ofNat (m % 128 + 128)).toNat : Int) := by
 have h := or128_all ⟨m % 256, by omega⟩
 have e : ((m % 256 : Nat) : Int) = (m : Int) % 256 := by omega
 dsimp only at h
 rw [e] at h
 rw [h]
 simp
 omega
theorem small_u8 {m : Nat} (h : m < 128) : ((UInt8.ofNat m).toNat : Int) = m := by simp; omega
set_option maxHeartbeats 1000000 in
theorem uint_any (n : Nat) (w : World) (hn : n < 18446744073709551616) :
 Calls Tryz.prog 92 #[.int .u64 n] w fun e w' => ∃ A c, e = .returned (.slice A (uintL n).length c) ∧ Own w' w.heap.size 5 1 A (uintL n).length c (u8s (uintL n)) ∧ Below w.heap.size w w' := by
 have hlen := uintL_len64 hn
 go_enter Tryz.func92, Tryz.ntmps92
 go_wp2_with fail
 go_loopw [0, 3] (fun nv ov wr => ∃ (m : Nat) (A : Option Addr) (c : Nat) (pre : List UInt8), nv = .int .u64 m ∧ m < 18446744073709551616 ∧ ov = .slice A pre.length c ∧ Own wr w.heap.size 5 1 A pre.length c (u8s pre) ∧ pre ++ uintL m = uintL n ∧ Below w.heap.size w wr) (fun nv _ _ => (intOf nv).toNat)
 case atStart => exact ⟨n, none, 0, [], rfl, hn, rfl, Own.nil_ _ _ _ _, rfl, Below.refl _ _⟩
 case round =>
  obtain ⟨m, A, c, pre, rfl, hm, rfl, ho, he, hb⟩ := hrel
  have HO := Lib.hid ho
  have HE := Lib.hid he
  have hpl : pre.length ≤ 10 := by
   have := congrArg List.length he
   rw [List.length_append] at this
   omega
  have hsz := hb.size
  clear ho he
  have hbd : ∀ (v : Int) (w1 : World), Upd (fun k => blockOf A = some k) (wr.alloc (.cells #[.int .u8 v] 5)) w1 → Below w.heap.size w w1 := fun v w1 hu =>
   (hb.alloc hb.size _).trans (hu.to_below (by simp; omega) (fun i hi e => by have := HO.out.ge _ e; omega))
  have HB := Lib.hid hbd
  clear hbd
  by_cases h : (128 : Int) ≤ (m : Int)
  · have hv := or128 m
    have hu := uintL_ge (n := m) (by omega)
    have hd : (m : Int) / 128 = ((m / 128 : Nat) : Int) := by omega
    have HV := Lib.hid hv
    have HU := Lib.hid hu
    have HD := Lib.hid hd
    clear hv hu hd
    go_wp2_with (at_builtin; refine halt_ ?_)
    refine unhalt ?_
    refine wpList_app elem_u8 (HO.out.alloc _) (reads_new (cs := #[_]) wr 5 1 rfl) (by simp [Value.oneCell']) (by omega) (by simp; omega) _ _ rfl rfl rfl rfl ?_
    intro A' c' w1 ho hup hat
    rw [HV.out] at ho
    have hb1 := HB.out _ w1 hup
    have HO1 := Lib.hid ho
    clear hup hat ho
    go_wp2_with fail
    go_roundw
    case rel => exact ⟨m / 128, A', c', pre ++ [UInt8.ofNat (m % 128 + 128)], by rw [HD.out], by omega, by simp, by simpa [u8s] using HO1.out, by rw [List.append_assoc, List.singleton_append, ← HU.out, HE.out], hb1⟩
    case measure => simp [intOf]; omega
  · have hu := uintL_lt (n := m) (by omega)
    have hv := small_u8 (m := m) (by omega)
    have HU := Lib.hid hu
    have HV := Lib.hid hv
    clear hu hv
    go_wp2_with (at_builtin; refine halt_ ?_)
    refine unhalt ?_
    refine wpList_app elem_u8 (HO.out.alloc _) (reads_new (cs := #[_]) wr 5 1 rfl) (by simp [Value.oneCell']) (by omega) (by simp; omega) _ _ rfl rfl rfl rfl ?_
    intro A' c' w1 ho hup hat
    rw [← HV.out] at ho
    have hb1 := HB.out _ w1 hup
    have HO1 := Lib.hid ho
    clear hup hat ho
    go_wp2_with fail
    go_ret
    have e := HE.out
    rw [HU.out] at e
    rw [← e]
    exact ⟨A', c', by simp, by simpa [u8s] using HO1.out, hb1⟩
theorem refbyte (m : Nat) : (m : Int) % 128 + 128 = ((UInt8.ofNat (m % 128 + 128)).toNat : Int) := by
 have : m % 128 + 128 < 256 := by omega
 simp
 omega
set_option maxHeartbeats 1000000 in
theorem refUint_any (n : Nat) (w : World) (hn : n < 18446744073709551616) :
 Calls Tryz.prog 112 #[.int .u64 n] w fun e w' => ∃ A c, e = .returned (.slice A (uintL n).length c) ∧ Own w' w.heap.size 5 1 A (uintL n).length c (u8s (uintL n)) ∧ Below w.heap.size w w' := by
 have hlen := uintL_len64 hn
 go_enter Tryz.func112, Tryz.ntmps112
 go_wp2_with fail
 go_loopw [0, 3] (fun nv ov wr => ∃ (m : Nat) (A : Option Addr) (c : Nat) (pre : List UInt8), nv = .int .u64 m ∧ m < 18446744073709551616 ∧ ov = .slice A pre.length c ∧ Own wr w.heap.size 5 1 A pre.length c (u8s pre) ∧ pre ++ uintL m = uintL n ∧ Below w.heap.size w wr) (fun nv _ _ => (intOf nv).toNat)
 case atStart => exact ⟨n, none, 0, [], rfl, hn, rfl, Own.nil_ _ _ _ _, rfl, Below.refl _ _⟩
 case round =>
  obtain ⟨m, A, c, pre, rfl, hm, rfl, ho, he, hb⟩ := hrel
  have HO := Lib.hid ho
  have HE := Lib.hid he
  have hpl : pre.length ≤ 10 := by
   have := congrArg List.length he
   rw [List.length_append] at this
   omega
  have hsz := hb.size
  clear ho he
  have hbd : ∀ (v : Int) (w1 : World), Upd (fun k => blockOf A = some k) (wr.alloc (.cells #[.int .u8 v] 5)) w1 → Below w.heap.size w w1 := fun v w1 hu =>
   (hb.alloc hb.size _).trans (hu.to_below (by simp; omega) (fun i hi e => by have := HO.out.ge _ e; omega))
  have HB := Lib.hid hbd
  clear hbd
  by_cases h : (128 : Int) ≤ (m : Int)
  · have hv := refbyte m
    have hu := uintL_ge (n := m) (by omega)
    have hd : (m : Int) / 128 = ((m / 128 : Nat) : Int) := by omega
    have HV := Lib.hid hv
    have HU := Lib.hid hu
    have HD := Lib.hid hd
    clear hv hu hd
    go_wp2_with (at_builtin; refine halt_ ?_)
    refine unhalt ?_
    refine wpList_app elem_u8 (HO.out.alloc _) (reads_new (cs := #[_]) wr 5 1 rfl) (by simp [Value.oneCell']) (by omega) (by simp; omega) _ _ rfl rfl rfl rfl ?_
    intro A' c' w1 ho hup hat
    rw [HV.out] at ho
    have hb1 := HB.out _ w1 hup
    have HO1 := Lib.hid ho
    clear hup hat ho
    go_wp2_with fail
    go_roundw
    case rel => exact ⟨m / 128, A', c', pre ++ [UInt8.ofNat (m % 128 + 128)], by rw [HD.out], by omega, by simp, by simpa [u8s] using HO1.out, by rw [List.append_assoc, List.singleton_append, ← HU.out, HE.out], hb1⟩
    case measure => simp [intOf]; omega
  · have hu := uintL_lt (n := m) (by omega)
    have hv := small_u8 (m := m) (by omega)
    have HU := Lib.hid hu
    have HV := Lib.hid hv
    clear hu hv
    go_wp2_with (at_builtin; refine halt_ ?_)
    refine unhalt ?_
    refine wpList_app elem_u8 (HO.out.alloc _) (reads_new (cs := #[_]) wr 5 1 rfl) (by simp [Value.oneCell']) (by omega) (by simp; omega) _ _ rfl rfl rfl rfl ?_
    intro A' c' w1 ho hup hat
    rw [← HV.out] at ho
    have hb1 := HB.out _ w1 hup
    have HO1 := Lib.hid ho
    clear hup hat ho
    go_wp2_with fail
    go_ret
    have e := HE.out
    rw [HU.out] at e
    rw [← e]
    exact ⟨A', c', by simp, by simpa [u8s] using HO1.out, hb1⟩
set_option maxHeartbeats 1000000 in
theorem text_any (s : ByteArray) (w : World) (hs : s.size ≤ 140737488351232) :
 Calls Tryz.prog 94 #[.string s] w fun e w' => ∃ A c, e = .returned (.slice A ((uintL s.size).length + s.size) c) ∧ Own w' w.heap.size 5 1 A ((uintL s.size).length + s.size) c (u8s (uintL s.size ++ s.data.toList)) ∧ Below w.heap.size w w' := by
 have hlen := uintL_len64 (n := s.size) (by omega)
 go_enter Tryz.func94, Tryz.ntmps94
 go_wp2_with fail
 refine (uint_any s.size _ (by omega)).mono ?_
 rintro e w1 ⟨A, c, rfl, ho, hb⟩
 have HO := Lib.hid ho
 clear ho
 go_wp2_with (at_builtin; refine halt_ ?_)
 refine unhalt ?_
 refine wpList_appStr elem_u8 zero_u8 Tryz.underlying9 HO.out s (by omega) hb.size _ _ rfl rfl rfl rfl ?_
 intro A' c' w2 ho hu hat
 have hb2 : Below w.heap.size w w2 := hb.trans (hu.to_below hb.size (fun i hi e => by have := HO.out.ge _ e; omega))
 rw [← u8s_append] at ho
 clear hu hat
 go_wp2_with fail
 go_ret
 exact ⟨A', c', rfl, ho, hb2⟩
set_option maxHeartbeats 1000000 in
theorem refText_any (s : ByteArray) (w : World) (hs : s.size ≤ 140737488351232) :
 Calls Tryz.prog 113 #[.string s] w fun e w' => ∃ A c, e = .returned (.slice A ((uintL s.size).length + s.size) c) ∧ Own w' w.heap.size 5 1 A ((uintL s.size).length + s.size) c (u8s (uintL s.size ++ s.data.toList)) ∧ Below w.heap.size w w' := by
 have hlen := uintL_len64 (n := s.size) (by omega)
 go_enter Tryz.func113, Tryz.ntmps113
 go_wp2_with fail
 refine (refUint_any s.size _ (by omega)).mono ?_
 rintro e w1 ⟨A, c, rfl, ho, hb⟩
 have HO := Lib.hid ho
 clear ho
 go_wp2_with (at_builtin; refine halt_ ?_)
 refine unhalt ?_
 refine wpList_appStr elem_u8 zero_u8 Tryz.underlying9 HO.out s (by omega) hb.size _ _ rfl rfl rfl rfl ?_
 intro A' c' w2 ho hu hat
 have hb2 : Below w.heap.size w w2 := hb.trans (hu.to_below hb.size (fun i hi e => by have := HO.out.ge _ e; omega))
 rw [← u8s_append] at ho
 clear hu hat
 go_wp2_with fail
 go_ret
 exact ⟨A', c', rfl, ho, hb2⟩
set_option maxHeartbeats 4000000 in
set_option maxRecDepth 100000 in
theorem len64_any (x : Int) (w : World) (h0 : 0 ≤ x) (hx : x < 128) :
 Calls Tryz.prog 152 #[.int .u64 x] w fun e w' => e = .returned (.int .i64 (Lib.bitLen x.toNat)) ∧ w = w' := by
 have h1 : ¬ 4294967296 ≤ x := by omega
 have h2 : ¬ 65536 ≤ x := by omega
 have h3 : ¬ 256 ≤ x := by omega
 go_enter Tryz.func152, Tryz.ntmps152
 go_wp2
 go_ret
 refine ⟨congrArg Ending.returned (congrArg (Value.int IntKind.i64) ?_), rfl⟩
 have e := Lib.len8_of x h0 (by omega)
 have l := Lib.bitLen_le8 ⟨x.toNat, by omega⟩
 have hs : x.toNat < Lib.len8tab.size := by rw [Lib.len8tab_size]; omega
 unfold Lib.len8 at e
 rw [getElem?_pos Lib.len8tab x.toNat hs, Option.getD_some] at e
 rw [e]
 dsimp only at l
 have h : ∀ z : Int, 0 ≤ z → z ≤ 8 → wrap64 z = z := by intro z _ _; unfold wrap64; omega
 rw [h (Lib.bitLen x.toNat : Int) (by omega) (by omega), h (Lib.bitLen x.toNat : Int) (by omega) (by omega)]
theorem bitLen_ge : ∀ k : Fin 128, 7 * 9 + Lib.bitLen k.val > 64 ↔ k.val ≥ 2 := by decide +kernel
theorem bitLen_le : ∀ k : Fin 128, Lib.bitLen k.val ≤ 7 := by decide +kernel
end Go.Proofs.YtacbkganjkipdaaGreatDoor
namespace Go.Proofs.YtacbkganjkipdaaGreatDoor
def valp : List UInt8 → Nat
 | [] => 0
 | c :: r => c.toNat % 128 + 128 * valp r
theorem valp_append : ∀ (a b : List UInt8), valp (a ++ b) = valp a + 128 ^ a.length * valp b
 | [], b => by simp [valp]
 | c :: a, b => by
  simp only [List.cons_append, valp, valp_append a b, List.length_cons, Nat.pow_succ]
  rw [Nat.mul_add, Nat.add_assoc, ← Nat.mul_assoc, Nat.mul_comm 128 (128 ^ a.length)]
theorem valp_lt : ∀ (a : List UInt8), valp a < 128 ^ a.length
 | [] => by simp [valp]
 | c :: a => by
  have := valp_lt a
  simp only [valp, List.length_cons, Nat.pow_succ]
  have h : c.toNat % 128 < 128 := Nat.mod_lt _ (by omega)
  omega
def takeL : List UInt8 → Option (Nat × Nat)
 | [] => none
 | c :: r => if c.toNat < 128 then some (c.toNat, 1) else (takeL r).map fun x => (c.toNat % 128 + 128 * x.1, x.2 + 1)
theorem takeL_append : ∀ (pre r : List UInt8), (∀ x ∈ pre, 128 ≤ x.toNat) → takeL (pre ++ r) = (takeL r).map fun x => (valp pre + 128 ^ pre.length * x.1, pre.length + x.2)
 | [], r, _ => by cases h : takeL r <;> simp [valp, h]
 | c :: pre, r, hp => by
  have hc := hp c (by simp)
  have ih := takeL_append pre r fun x hx => hp x (by simp [hx])
  simp only [List.cons_append, takeL]
  rw [if_neg (by omega), ih]
  cases h : takeL r with
  | none => rfl
  | some x =>
   simp only [Option.map_some, valp, List.length_cons, Nat.pow_succ]
   congr 1
   refine Prod.ext ?_ ?_
   · show _ = _
     simp only [Nat.mul_add]
     rw [← Nat.mul_assoc, Nat.mul_comm 128 (128 ^ pre.length)]
     omega
   · show _ = _
     simp only
     omega
theorem takeL_size : ∀ {b : List UInt8} {v s : Nat}, takeL b = some (v, s) → 1 ≤ s ∧ s ≤ b.length
 | c :: r, v, s, h => by
  simp only [takeL] at h
  split at h
  · simp only [Option.some.injEq, Prod.mk.injEq] at h
    obtain ⟨_, rfl⟩ := h
    simp
  · cases h2 : takeL r with
    | none => rw [h2] at h; cases h
    | some x =>
     rw [h2] at h
     simp only [Option.map_some, Option.some.injEq, Prod.mk.injEq] at h
     obtain ⟨_, rfl⟩ := h
     have := takeL_size (v := x.1) (s := x.2) h2
     simp only [List.length_cons]
     omega
def takeU (b : List UInt8) : Nat × Nat :=
 match takeL b with
 | none => (0, 0)
 | some (v, s) => if s ≤ 10 ∧ v < 18446744073709551616 ∧ (s = 1 ∨ (b.getD (s - 1) 0).toNat ≠ 0) then (v, s) else (0, 0)
theorem takeU_none {b : List UInt8} (h : ∀ x ∈ b, 128 ≤ x.toNat) : takeU b = (0, 0) := by
 have := takeL_append b [] h
 rw [List.append_nil] at this
 simp [takeU, this, takeL]
theorem takeU_long {pre r : List UInt8} (h : ∀ x ∈ pre, 128 ≤ x.toNat) (hl : 10 ≤ pre.length) : takeU (pre ++ r) = (0, 0) := by
 have := takeL_append pre r h
 cases h2 : takeL r with
 | none => simp [takeU, this, h2]
 | some x =>
  have h3 := takeL_size (v := x.1) (s := x.2) h2
  simp only [takeU, this, h2, Option.map_some]
  rw [if_neg (by omega)]
theorem takeU_one {pre r : List UInt8} {c : UInt8} (h : ∀ x ∈ pre, 128 ≤ x.toNat) (hc : c.toNat < 128) :
 takeU (pre ++ c :: r) = if pre.length + 1 ≤ 10 ∧ valp pre + 128 ^ pre.length * c.toNat < 18446744073709551616 ∧ (pre.length = 0 ∨ c.toNat ≠ 0) then (valp pre + 128 ^ pre.length * c.toNat, pre.length + 1) else (0, 0) := by
 have := takeL_append pre (c :: r) h
 have e : takeL (c :: r) = some (c.toNat, 1) := by simp only [takeL]; rw [if_pos hc]
 rw [e] at this
 simp only [takeU, this, Option.map_some]
 have e2 : (pre ++ c :: r).getD (pre.length + 1 - 1) 0 = c := by simp [List.getD]
 rw [e2]
 by_cases h1 : pre.length + 1 ≤ 10 ∧ valp pre + 128 ^ pre.length * c.toNat < 18446744073709551616 ∧ (pre.length = 0 ∨ c.toNat ≠ 0)
 · rw [if_pos h1, if_pos ⟨h1.1, h1.2.1, by omega⟩]
 · rw [if_neg h1, if_neg (fun h2 => h1 ⟨h2.1, h2.2.1, by omega⟩)]
theorem takeU_big {pre r : List UInt8} {c : UInt8} (h : ∀ x ∈ pre, 128 ≤ x.toNat) (hl : pre.length = 9) (hc : 2 ≤ c.toNat % 128) : takeU (pre ++ c :: r) = (0, 0) := by
 by_cases h1 : c.toNat < 128
 · rw [takeU_one h h1, if_neg]
   rintro ⟨_, h2, _⟩
   rw [hl] at h2
   omega
 · have e : pre ++ c :: r = (pre ++ [c]) ++ r := by simp
   rw [e]
   refine takeU_long ?_ (by simp; omega)
   intro x hx
   rcases List.mem_append.1 hx with hx | hx
   · exact h x hx
   · rw [List.mem_singleton.1 hx]; omega
theorem valp_uintL : ∀ (n : Nat), valp (uintL n) = n := by
 intro n
 induction n using Nat.strongRecOn with
 | ind n ih =>
  rcases Nat.lt_or_ge n 128 with h | h
  · rw [uintL_lt h]
    simp [valp]
    omega
  · rw [uintL_ge h]
    simp only [valp]
    rw [ih (n / 128) (by omega)]
    have : (UInt8.ofNat (n % 128 + 128)).toNat = n % 128 + 128 := by simp; omega
    rw [this]
    omega
theorem uintL_form : ∀ (n : Nat), ∃ pre c, uintL n = pre ++ [c] ∧ (∀ x ∈ pre, 128 ≤ UInt8.toNat x) ∧ c.toNat < 128 ∧ (pre.length = 0 ∨ c.toNat ≠ 0) ∧ (n ≠ 0 → c.toNat ≠ 0) := by
 intro n
 induction n using Nat.strongRecOn with
 | ind n ih =>
  rcases Nat.lt_or_ge n 128 with h | h
  · refine ⟨[], UInt8.ofNat n, by rw [uintL_lt h]; rfl, by simp, by simp; omega, .inl rfl, fun h0 => by simp; omega⟩
  · obtain ⟨pre, c, e, h1, h2, _, h4⟩ := ih (n / 128) (by omega)
    refine ⟨UInt8.ofNat (n % 128 + 128) :: pre, c, by rw [uintL_ge h, e]; rfl, ?_, h2, .inr (h4 (by omega)), fun _ => h4 (by omega)⟩
    intro x hx
    rcases List.mem_cons.1 hx with rfl | hx
    · simp; omega
    · exact h1 x hx
theorem uintL_valp : ∀ (pre : List UInt8) (c : UInt8), (∀ x ∈ pre, 128 ≤ x.toNat) → c.toNat < 128 → (pre.length = 0 ∨ c.toNat ≠ 0) → uintL (valp (pre ++ [c])) = pre ++ [c]
 | [], c, _, hc, _ => by
  simp only [List.nil_append, valp]
  rw [uintL_lt (by omega)]
  congr 1
  apply UInt8.toNat.inj
  simp
  omega
 | p :: pre, c, h1, hc, h2 => by
  have hp := h1 p (by simp)
  have ih := uintL_valp pre c (fun x hx => h1 x (by simp [hx])) hc (by simp at h2; omega)
  have hpos : 0 < valp (pre ++ [c]) := by
   rw [valp_append]
   simp only [valp]
   have : 0 < 128 ^ pre.length := Nat.pow_pos (by omega)
   have h3 : 0 < c.toNat % 128 + 128 * 0 := by simp at h2; omega
   have := Nat.mul_pos this h3
   omega
  simp only [List.cons_append, valp]
  have hm : p.toNat % 128 < 128 := Nat.mod_lt _ (by omega)
  rw [uintL_ge (by omega), show (p.toNat % 128 + 128 * valp (pre ++ [c])) / 128 = valp (pre ++ [c]) by omega, ih,
   show (p.toNat % 128 + 128 * valp (pre ++ [c])) % 128 + 128 = p.toNat by have := p.toNat_lt; omega]
  simp
theorem takeU_ref {pre r : List UInt8} {c : UInt8} (h : ∀ x ∈ pre, 128 ≤ x.toNat) (hc : c.toNat < 128) (hl : pre.length ≤ 9) :
 takeU (pre ++ c :: r) = if uintL (valp (pre ++ [c]) % 18446744073709551616) = pre ++ [c] then (valp (pre ++ [c]) % 18446744073709551616, pre.length + 1) else (0, 0) := by
 rw [takeU_one h hc]
 have ev : valp (pre ++ [c]) = valp pre + 128 ^ pre.length * c.toNat := by
  rw [valp_append]
  simp only [valp]
  rw [show c.toNat % 128 + 128 * 0 = c.toNat by omega]
 rw [← ev]
 by_cases h1 : valp (pre ++ [c]) < 18446744073709551616 ∧ (pre.length = 0 ∨ c.toNat ≠ 0)
 · rw [if_pos ⟨by omega, h1⟩, Nat.mod_eq_of_lt h1.1, if_pos (uintL_valp pre c h hc h1.2)]
 · rw [if_neg (fun h2 => h1 h2.2), if_neg]
   intro e
   have e1 : valp (pre ++ [c]) = valp (pre ++ [c]) % 18446744073709551616 := by
    conv => lhs; rw [← e, valp_uintL]
   obtain ⟨pre', c', e2, _, _, h3, _⟩ := uintL_form (valp (pre ++ [c]) % 18446744073709551616)
   rw [e] at e2
   have e3 : pre = pre' ∧ [c] = [c'] := List.append_inj' e2 rfl
   obtain ⟨rfl, e4⟩ := e3
   injection e4 with e4 _
   subst e4
   exact h1 ⟨by rw [e1]; exact Nat.mod_lt _ (by omega), h3⟩
theorem takeU_le (b : List UInt8) : (takeU b).2 ≤ b.length ∧ (takeU b).2 ≤ 10 ∧ (takeU b).1 < 18446744073709551616 := by
 unfold takeU
 cases h : takeL b with
 | none => simp
 | some x =>
  have := takeL_size (v := x.1) (s := x.2) h
  simp only
  split
  · exact ⟨this.2, by omega, by omega⟩
  · simp
end Go.Proofs.YtacbkganjkipdaaGreatDoor
namespace Go.Proofs.YtacbkganjkipdaaGreatDoor
open Go.RowKit
theorem and127_all : ∀ k : Fin 256, bits BinOp.and IntKind.u8 (k.val : Int) 127 = ((k.val % 128 : Nat) : Int) := by decide +kernel
theorem and127 (x : UInt8) : bits BinOp.and IntKind.u8 (x.toNat : Int) 127 = ((x.toNat % 128 : Nat) : Int) := and127_all ⟨x.toNat, x.toNat_lt⟩
theorem all_take {l : List UInt8} {i : Nat} (h : ∀ j, j < i → 128 ≤ (l.getD j 0).toNat) (hi : i ≤ l.length) : ∀ x ∈ l.take i, 128 ≤ UInt8.toNat x := by
 intro x hx
 obtain ⟨j, hj, e⟩ := List.mem_iff_getElem.1 hx
 simp only [List.length_take] at hj
 have := h j (by omega)
 rw [List.getElem_take] at e
 rw [List.getD_eq_getElem?_getD, List.getElem?_eq_getElem (by omega), Option.getD_some, e] at this
 exact this
theorem split_at {l : List UInt8} {i : Nat} (hi : i < l.length) : l = l.take i ++ l.getD i 0 :: l.drop (i + 1) := by
 rw [List.getD_eq_getElem?_getD, List.getElem?_eq_getElem hi, Option.getD_some, ← List.drop_eq_getElem_cons hi, List.take_append_drop]
theorem take_snoc {l : List UInt8} {i : Nat} (hi : i < l.length) : l.take (i + 1) = l.take i ++ [l.getD i 0] := by
 rw [List.getD_eq_getElem?_getD, List.getElem?_eq_getElem hi, Option.getD_some, List.take_add_one, List.getElem?_eq_getElem hi]
 rfl
theorem pow7 (i : Nat) : 128 ^ i = 2 ^ (7 * i) := by rw [Nat.pow_mul]
theorem part_lt {m p i : Nat} (hm : m < 128 ^ i) (hp : p < 128) (hok : i ≤ 8 ∨ (i = 9 ∧ p < 2)) : m + 128 ^ i * p < 18446744073709551616 := by
 rcases hok with h | ⟨rfl, h⟩
 · have h1 : m + 128 ^ i * p < 128 ^ i * 128 := by
    have : 128 ^ i * p + 128 ^ i ≤ 128 ^ i * 128 := by
     rw [← Nat.mul_succ]
     exact Nat.mul_le_mul_left _ (by omega)
    omega
   have h2 : 128 ^ i ≤ 128 ^ 8 := Nat.pow_le_pow_right (by omega) h
   omega
 · omega
theorem or7 {m p i : Nat} (hm : m < 128 ^ i) (hp : p < 128) (hok : i ≤ 8 ∨ (i = 9 ∧ p < 2)) :
 bits BinOp.or IntKind.u64 (m : Int) (IntKind.u64.wrap ((p : Int) * 2 ^ (7 * i))) = ((m + 128 ^ i * p : Nat) : Int) := by
 have h := part_lt hm hp hok
 have e : (p : Int) * 2 ^ (7 * i) = ((p * 2 ^ (7 * i) : Nat) : Int) := by simp
 have h2 : p * 2 ^ (7 * i) = 128 ^ i * p := by rw [pow7, Nat.mul_comm]
 rw [e, IntKind.wrap_u64, Int.emod_eq_of_lt (by omega) (by rw [h2]; omega), bits_or_u64_nat _ _ (by omega) (by rw [h2]; omega), h2]
 congr 1
 rw [pow7] at hm ⊢
 rw [Nat.or_comm, ← Nat.two_pow_add_eq_or_of_lt hm]
 omega
set_option maxRecDepth 100000 in
set_option maxHeartbeats 2000000 in
theorem takeUint_any (A : Option Addr) (n c : Nat) (l : List UInt8) (w : World) (hx : Reads w w.heap.size 1 A n (u8s l)) (hn : n ≤ maxLen) :
 Calls Tryz.prog 129 #[.slice A n c] w fun e w' => e = .returned (.tuple #[.int .u64 (takeU l).1, .int .i64 (takeU l).2]) ∧ w = w' := by
 have hlen := hx.len_
 unfold maxLen at hn
 have HX := Lib.hid hx
 clear hx
 go_enter Tryz.func129, Tryz.ntmps129
 go_wp2_with fail
 go_loopw [4, 10] (fun nv iv wr => ∃ (m i : Nat), nv = .int .u64 m ∧ iv = .int .i64 i ∧ i ≤ 10 ∧ i ≤ n ∧ m = valp (l.take i) ∧ (∀ j, j < i → 128 ≤ (l.getD j 0).toNat) ∧ w = wr) (fun _ iv _ => n - (intOf iv).toNat)
 case atStart => exact ⟨0, 0, rfl, rfl, by omega, by omega, rfl, by omega, rfl⟩
 case round =>
  obtain ⟨m, i, rfl, rfl, hi, hin, hm, hall, rfl⟩ := hrel
  have HM := Lib.hid hm
  have HA := Lib.hid hall
  clear hm hall
  by_cases h : (i : Int) < n
  · obtain ⟨ad, rfl, hb, hc⟩ := HX.out.u8_ (k := i) (by omega)
    have hsp := split_at (l := l) (i := i) (by omega)
    have hal := all_take HA.out (by omega)
    have hv := valp_lt (l.take i)
    rw [List.length_take, show min i l.length = i by omega, ← HM.out] at hv
    have HS := Lib.hid hsp
    have HL := Lib.hid hal
    have HV := Lib.hid hv
    clear hsp hal hv
    generalize hxx : l.getD i 0 = x at hc
    have h127 := and127 x
    have hx1 : (x.toNat : Int) < 256 := by have := x.toNat_lt; omega
    have hx2 : ((x.toNat % 128 : Nat) : Int) < 128 := by omega
    go_wp2_with fail
    refine (len64_any ((x.toNat : Int) % 128) w (by omega) (by omega)).mono ?_
    rintro e w1 ⟨rfl, rfl⟩
    have hb7 := bitLen_le ⟨((x.toNat : Int) % 128).toNat, by omega⟩
    have hb9 := bitLen_ge ⟨((x.toNat : Int) % 128).toNat, by omega⟩
    dsimp only at hb7 hb9
    generalize hbl : Lib.bitLen ((x.toNat : Int) % 128).toNat = bl at hb7 hb9
    by_cases hok : i ≤ 8 ∨ (i = 9 ∧ x.toNat % 128 < 2)
    · have ht : ¬ (64 : Int) < 7 * (i : Int) + bl := by
       rcases hok with h1 | ⟨h1, h2⟩
       · omega
       · have : ¬ 7 * 9 + bl > 64 := fun h3 => by have := hb9.1 h3; omega
         omega
      have hor := or7 (m := m) (p := x.toNat % 128) (i := i) HV.out (by omega) hok
      have hlt := part_lt (m := m) (p := x.toNat % 128) (i := i) HV.out (by omega) hok
      rw [show (((x.toNat % 128 : Nat) : Int)) = (x.toNat : Int) % 128 by omega] at hor
      obtain ⟨M, hM⟩ : ∃ M, M = m + 128 ^ i * (x.toNat % 128) := ⟨_, rfl⟩
      rw [← hM] at hor hlt
      have HM2 := Lib.hid hM
      have HOK := Lib.hid hok
      have HB9 := Lib.hid hb9
      clear hM hok hb9
      have hi9 : i ≤ 9 := by have := HOK.out; omega
      by_cases hx128 : (x.toNat : Int) < 128
      · have hone := takeU_one (pre := l.take i) (r := l.drop (i + 1)) (c := x) HL.out (by omega)
        rw [List.length_take, show min i l.length = i by omega, ← HM.out, ← hxx, ← HS.out, hxx] at hone
        have hpx : x.toNat % 128 = x.toNat := by omega
        have hM3 := HM2.out
        rw [hpx] at hM3
        rw [← hM3] at hone
        have HON := Lib.hid hone
        clear hone hpx hM3
        by_cases hz0 : x.toNat = 0
        · have hz : ((x.toNat : Int) == 0) = true := by rw [hz0]; rfl
          have HZ := Lib.hid hz0
          clear hz0
          by_cases hi0 : (0 : Int) < (i : Int)
          · go_wp2_with fail
            go_ret2
            have := HON.out
            rw [if_neg (by have := HZ.out; omega)] at this
            rw [this]
            exact ⟨rfl, rfl⟩
          · go_wp2_with fail
            go_ret2
            have := HON.out
            rw [if_pos ⟨by omega, hlt, .inl (by omega)⟩] at this
            rw [this]
            exact ⟨rfl, rfl⟩
        · have hz : ((x.toNat : Int) == 0) = false := by simpa using hz0
          have HZ := Lib.hid hz0
          clear hz0
          go_wp2_with fail
          go_ret2
          have := HON.out
          rw [if_pos ⟨by omega, hlt, .inr HZ.out⟩] at this
          rw [this]
          exact ⟨rfl, rfl⟩
      · go_wp2_with fail
        go_roundw
        case rel =>
         refine ⟨M, i + 1, rfl, by simp, by omega, by omega, ?_, ?_, trivial⟩
         · rw [take_snoc (by omega), valp_append, ← HM.out, hxx, HM2.out, List.length_take, show min i l.length = i by omega]
           simp only [valp]
           rw [Nat.mul_zero, Nat.add_zero]
         · intro j hj
           rcases Nat.lt_or_ge j i with h1 | h1
           · exact HA.out j h1
           · obtain rfl : j = i := by omega
             rw [hxx]
             omega
        case measure => simp [intOf]; omega
    · have ht : (64 : Int) < 7 * (i : Int) + bl := by
       rcases Nat.lt_or_ge i 10 with h1 | h1
       · have : 7 * 9 + bl > 64 := hb9.2 (by omega)
         omega
       · omega
      go_wp2_with fail
      go_ret2
      have hx9 : takeU l = (0, 0) := by
       rw [HS.out, hxx]
       rcases Nat.lt_or_ge i 10 with h1 | h1
       · exact takeU_big HL.out (by rw [List.length_take]; omega) (by omega)
       · exact takeU_long HL.out (by rw [List.length_take]; omega)
      rw [hx9]
      exact ⟨rfl, rfl⟩
  · go_wp2_with fail
    go_ret2
    have hx9 : takeU l = (0, 0) := by
     have := all_take HA.out (by omega)
     rw [List.take_of_length_le (by omega)] at this
     exact takeU_none this
    rw [hx9]
    exact ⟨rfl, rfl⟩
theorem str_u8 {w : World} {B n c : Nat} {A : Option Addr} {l : List UInt8} (h : Reads w B 1 A n (u8s l)) : (convert 47 9 (.slice A n c)).run Tryz.prog w = .ok (.string ⟨l.toArray⟩) w :=
 run_string_of Tryz.underlying47 Tryz.underlying5 Tryz.underlying9 h
theorem l_same {a b : List UInt8} (h : a = b) : (a == b) = true := by rw [h]; exact beq_self_eq_true _
theorem l_other {a b : List UInt8} (h : ¬ a = b) : (a == b) = false := beq_eq_false_iff_ne.2 h
set_option maxRecDepth 100000 in
set_option maxHeartbeats 2000000 in
theorem refTakeUint_any (A : Option Addr) (n c : Nat) (l : List UInt8) (w : World) (hx : Reads w w.heap.size 1 A n (u8s l)) (hn : n ≤ c) (hc : n ≤ maxLen) :
 Calls Tryz.prog 140 #[.slice A n c] w fun e w' => e = .returned (.tuple #[.int .u64 (takeU l).1, .int .i64 (takeU l).2]) ∧ Below w.heap.size w w' := by
 have hlen := hx.len_
 unfold maxLen at hc
 have HX := Lib.hid hx
 clear hx
 go_enter Tryz.func140, Tryz.ntmps140
 go_wp2_with fail
 go_loopw [4] (fun iv wr => ∃ (i : Nat), iv = .int .i64 i ∧ i ≤ 10 ∧ i ≤ n ∧ (∀ j, j < i → 128 ≤ (l.getD j 0).toNat) ∧ w = wr) (fun iv _ => n - (intOf iv).toNat)
 case atStart => exact ⟨0, rfl, by omega, by omega, by omega, rfl⟩
 case round =>
  obtain ⟨i, rfl, hi, hin, hall, rfl⟩ := hrel
  have HA := Lib.hid hall
  clear hall
  by_cases h : (i : Int) < n
  · obtain ⟨ad, rfl, hb, hc0⟩ := HX.out.u8_ (k := i) (by omega)
    have hsp := split_at (l := l) (i := i) (by omega)
    have hal := all_take HA.out (by omega)
    have HS := Lib.hid hsp
    have HL := Lib.hid hal
    clear hsp hal
    have hxx : Hid (l.getD i 0 = l.getD i 0) := Lib.hid rfl
    have hq1 : ((i : Int) == (n : Int)) = false := by simp; omega
    by_cases h10 : (i : Int) < 10
    · have hq2 : ((i : Int) == 10) = false := by simp; omega
      obtain ⟨x, hx⟩ : ∃ x, x = l.getD i 0 := ⟨_, rfl⟩
      rw [← hx] at hc0
      have HXX := Lib.hid hx
      clear hx hxx
      by_cases h128 : (128 : Int) ≤ (x.toNat : Int)
      · go_wp2_with fail
        go_roundw
        case rel =>
         refine ⟨i + 1, by simp, by omega, by omega, ?_, trivial⟩
         intro j hj
         rcases Nat.lt_or_ge j i with h1 | h1
         · exact HA.out j h1
         · obtain rfl : j = i := by omega
           rw [← HXX.out]
           omega
        case measure => simp [intOf]; omega
      · go_wp2_with fail
        go_loopw [5, 6] (fun nv iv wr => ∃ (m : Nat) (z : Int), nv = .int .u64 m ∧ iv = .int .i64 z ∧ -1 ≤ z ∧ z ≤ i ∧ m = valp ((l.take (i + 1)).drop (z + 1).toNat) % 18446744073709551616 ∧ w = wr) (fun _ iv _ => (intOf iv + 1).toNat)
        case atStart =>
         refine ⟨0, i, rfl, rfl, by omega, by omega, ?_, rfl⟩
         rw [show ((i : Int) + 1).toNat = i + 1 by omega, List.drop_of_length_le (by rw [List.length_take]; omega)]
         simp [valp]
        case round =>
         obtain ⟨m, z, rfl, rfl, hz1, hz2, hm, rfl⟩ := hrel
         have HM := Lib.hid hm
         have hm64 : m < 18446744073709551616 := by rw [hm]; exact Nat.mod_lt _ (by omega)
         clear hm
         by_cases hz : (0 : Int) ≤ z
         · obtain ⟨k, rfl⟩ := Int.eq_ofNat_of_zero_le hz
           have hkn : (k : Int) < n := by omega
           obtain ⟨ad', e1, _, hck⟩ := HX.out.u8_ (k := k) (by omega)
           injection e1 with e1
           subst e1
           obtain ⟨y, hy⟩ : ∃ y, y = l.getD k 0 := ⟨_, rfl⟩
           rw [← hy] at hck
           have HY := Lib.hid hy
           have hy1 : (y.toNat : Int) < 256 := by have := y.toNat_lt; omega
           clear hy
           go_wp2_with fail
           go_roundw
           case rel =>
            refine ⟨(m * 128 + y.toNat % 128) % 18446744073709551616, (k : Int) - 1, ?_, rfl, by omega, by omega, ?_, trivial⟩
            · congr 1
              rw [IntKind.wrap_u64, IntKind.wrap_u64]
              omega
            · have e1 : ((k : Int) - 1 + 1).toNat = k := by omega
              have e2 : (l.take (i + 1)).drop k = y :: (l.take (i + 1)).drop (k + 1) := by
               rw [List.drop_eq_getElem_cons (by rw [List.length_take]; omega), List.getElem_take, HY.out, List.getD_eq_getElem?_getD, List.getElem?_eq_getElem (by omega), Option.getD_some]
              have e3 := HM.out
              rw [show ((k : Int) + 1).toNat = k + 1 by omega] at e3
              rw [e1, e2]
              simp only [valp]
              omega
           case measure => simp [intOf]
         · obtain rfl : z = -1 := by omega
           go_wp2_with fail
           have hw1 : IntKind.i64.wrap ((i : Int) + 1) = (i : Int) + 1 := by rw [IntKind.wrap_i64]; omega
           have hw2 : (0 : Int) ≤ (i : Int) + 1 := by omega
           have hw3 : (i : Int) + 1 ≤ (c : Int) := by omega
           have hw4 : ((i : Int) + 1).toNat = i + 1 := by omega
           have hr1 := HX.out.take (k := i + 1) (by omega)
           rw [Nat.mul_one, u8s_take] at hr1
           have HR1 := Lib.hid hr1
           clear hr1
           refine wp_region_noPanic ?_
           refine wp_region_held_drew (S := fun w' => Below w.heap.size w w') (by kernel_rfl) (below_drew w) (fun hH => ?_)
           refine wpAnyH_take (i := 0) (oi := _) (v := ?_) (by simp only [List.getElem?_toArray, List.getElem?_cons_zero]; rfl) (by kernel_rfl) (by kernel_rfl) (by kernel_rfl) (fun _ _ _ h => h) (Or.inl ⟨by rfl, ?_⟩) (by assumption) ?_
           rotate_left
           · intro w' hSw; (try dsimp only at hSw); go_simp; try with_reducible rfl
           try simp only [Act.put, List.setIfInBounds_toArray, List.set_cons_zero, List.set_cons_succ]
           refine wpAnyH_take (i := 3) (oi := _) (v := ?_) (by simp only [List.getElem?_toArray, List.getElem?_cons_zero, List.getElem?_cons_succ]; rfl) (by kernel_rfl) (by kernel_rfl) (by kernel_rfl) (fun _ _ _ h => h) (Or.inl ⟨by rfl, ?_⟩) (by assumption) ?_
           rotate_left
           · intro w' hSw; (try dsimp only at hSw); go_simp; try with_reducible rfl
           try simp only [Act.put, List.setIfInBounds_toArray, List.set_cons_zero, List.set_cons_succ]
           refine wpAnyH_take (i := 4) (oi := _) (v := ?_) (by simp only [List.getElem?_toArray, List.getElem?_cons_zero, List.getElem?_cons_succ]; rfl) (by kernel_rfl) (by kernel_rfl) (by kernel_rfl) (fun _ _ _ h => h) (Or.inl ⟨by rfl, ?_⟩) (by assumption) ?_
           rotate_left
           · intro w' hSw; (try dsimp only at hSw); go_simp; try with_reducible rfl
           try simp only [Act.put, List.setIfInBounds_toArray, List.set_cons_zero, List.set_cons_succ]
           refine wpAnyH_take (i := 5) (oi := _) (v := ?_) (by simp only [List.getElem?_toArray, List.getElem?_cons_zero, List.getElem?_cons_succ]; rfl) (by kernel_rfl) (by kernel_rfl) (by kernel_rfl) (fun _ _ _ h => h) (Or.inl ⟨by rfl, ?_⟩) (by assumption) ?_
           rotate_left
           · intro w' hSw; (try dsimp only at hSw); go_simp; try with_reducible rfl
           try simp only [Act.put, List.setIfInBounds_toArray, List.set_cons_zero, List.set_cons_succ]
           refine wpAnyH_take (i := 6) (oi := _) (v := ?_) (by simp only [List.getElem?_toArray, List.getElem?_cons_zero, List.getElem?_cons_succ]; rfl) (by kernel_rfl) (by kernel_rfl) (by kernel_rfl) (fun _ _ _ h => h) (Or.inl ⟨by rfl, ?_⟩) (by assumption) ?_
           rotate_left
           · intro w' hSw; (try dsimp only at hSw); go_simp; try with_reducible rfl
           try simp only [Act.put, List.setIfInBounds_toArray, List.set_cons_zero, List.set_cons_succ]
           refine wpAnyH_take (i := 7) (oi := _) (v := ?_) (by simp only [List.getElem?_toArray, List.getElem?_cons_zero, List.getElem?_cons_succ]; rfl) (by kernel_rfl) (by kernel_rfl) (by kernel_rfl) (fun _ _ _ h => h) (Or.inl ⟨by rfl, ?_⟩) (by assumption) ?_
           rotate_left
           · intro w' hSw; (try dsimp only at hSw); have hf := str_u8 (c := c) (HR1.out.below hSw); go_simp; try with_reducible rfl
           try simp only [Act.put, List.setIfInBounds_toArray, List.set_cons_zero, List.set_cons_succ]
           refine wpAnyH_ready (rs := [1]) (by kernel_rfl) (by simp) (AllReadyH.cons (o := _) (by simp only [List.getElem?_toArray, List.getElem?_cons_zero, List.getElem?_cons_succ]; rfl) (fun K hK => ?_) AllReadyH.nil)
           go_simp
           go_at_call 112
           refine (refUint_any m _ hm64).mono ?_
           rintro e w1 ⟨A1, c1, rfl, ho, hb1⟩
           have HO := Lib.hid ho
           have HB1 := Lib.hid ((below_drew w).trans hb1)
           clear ho hb1
           try go_wp2_with fail
           refine hK.out _ _ (HB1.out) (fun hHeld => ?_)
           clear hK K hH
           have hH := hHeld
           clear hHeld
           try simp only [Act.put, List.setIfInBounds_toArray, List.set_cons_zero, List.set_cons_succ]
           refine wpAnyH_more (S' := fun w' => Below w1.heap.size w1 w') (fun w' h => HB1.out.trans (h.mono HB1.out.size)) _ _ _ _ ?_
           clear hH
           have hH := Below.refl w1.heap.size w1
           refine wpAnyH_take (i := 2) (oi := _) (v := ?_) (by simp only [List.getElem?_toArray, List.getElem?_cons_zero, List.getElem?_cons_succ]; rfl) (by kernel_rfl) (by kernel_rfl) (by kernel_rfl) (fun _ _ _ h => h) (Or.inl ⟨by rfl, ?_⟩) (by assumption) ?_
           rotate_left
           · intro w' hSw; (try dsimp only at hSw); have hf := str_u8 (c := c1) (HO.out.reads.below hSw); go_simp; try with_reducible rfl
           try simp only [Act.put, List.setIfInBounds_toArray, List.set_cons_zero, List.set_cons_succ]
           have hmv := HM.out
           rw [show ((-1 : Int) + 1).toNat = 0 by rfl, List.drop_zero] at hmv
           have hsn := take_snoc (l := l) (i := i) (by omega)
           rw [← HXX.out] at hsn
           have hone := takeU_ref (pre := l.take i) (r := l.drop (i + 1)) (c := x) HL.out (by omega) (by rw [List.length_take]; omega)
           rw [← hsn, ← hmv, List.length_take, show min i l.length = i by omega] at hone
           have hlx := HS.out
           rw [← HXX.out] at hlx
           rw [← hlx] at hone
           have HON := Lib.hid hone
           clear hmv hsn hone hlx
           by_cases heq : uintL m = l.take (i + 1)
           · have hs := l_same heq
             have HEQ := Lib.hid heq
             clear heq
             refine wpAnyH_take (i := 8) (oi := _) (v := ?_) (by simp only [List.getElem?_toArray, List.getElem?_cons_zero, List.getElem?_cons_succ]; rfl) (by kernel_rfl) (by kernel_rfl) (by kernel_rfl) (fun _ _ _ h => h) (Or.inl ⟨by rfl, ?_⟩) (by assumption) ?_
             rotate_left
             · intro w' hSw; (try dsimp only at hSw); go_simp; try with_reducible rfl
             try simp only [Act.put, List.setIfInBounds_toArray, List.set_cons_zero, List.set_cons_succ]
             refine wpAnyH_done (by kernel_rfl) ?_ _
             refine NoPanic.normal ?_
             go_wp2_with fail
             go_ret2
             have := HON.out
             rw [if_pos HEQ.out] at this
             rw [this]
             exact ⟨by simp, HB1.out⟩
           · have hs := l_other heq
             have HEQ := Lib.hid heq
             clear heq
             refine wpAnyH_take (i := 8) (oi := _) (v := ?_) (by simp only [List.getElem?_toArray, List.getElem?_cons_zero, List.getElem?_cons_succ]; rfl) (by kernel_rfl) (by kernel_rfl) (by kernel_rfl) (fun _ _ _ h => h) (Or.inl ⟨by rfl, ?_⟩) (by assumption) ?_
             rotate_left
             · intro w' hSw; (try dsimp only at hSw); go_simp; try with_reducible rfl
             try simp only [Act.put, List.setIfInBounds_toArray, List.set_cons_zero, List.set_cons_succ]
             refine wpAnyH_done (by kernel_rfl) ?_ _
             refine NoPanic.normal ?_
             go_wp2_with fail
             go_ret2
             have := HON.out
             rw [if_neg HEQ.out] at this
             rw [this]
             exact ⟨rfl, HB1.out⟩
    · obtain ⟨x, hx⟩ : ∃ x, x = l.getD i 0 := ⟨_, rfl⟩
      rw [← hx] at hc0
      have hq2 : ((i : Int) == 10) = true := by simp; omega
      go_wp2_with fail
      go_ret2
      have hx9 : takeU l = (0, 0) := by
       rw [HS.out]
       exact takeU_long HL.out (by rw [List.length_take]; omega)
      rw [hx9]
      exact ⟨rfl, Below.refl _ _⟩
  · have hq1 : ((i : Int) == (n : Int)) = true := by simp; omega
    go_wp2_with fail
    go_ret2
    have hx9 : takeU l = (0, 0) := by
     have := all_take HA.out (by omega)
     rw [List.take_of_length_le (by omega)] at this
     exact takeU_none this
    rw [hx9]
    exact ⟨rfl, Below.refl _ _⟩
end Go.Proofs.YtacbkganjkipdaaGreatDoor
namespace Go.Proofs.YtacbkganjkipdaaGreatDoor
def crcStep (c : Nat) : Nat := if c % 2 = 1 then c / 2 ^^^ 3988292384 else c / 2
def crcN : Nat → Nat → Nat
 | 0, c => c
 | k + 1, c => crcStep (crcN k c)
theorem crcStep_lt {c : Nat} (h : c < 4294967296) : crcStep c < 4294967296 := by
 unfold crcStep
 split
 · exact Nat.xor_lt_two_pow (n := 32) (by omega) (by omega)
 · omega
theorem crcN_lt : ∀ (k : Nat) {c : Nat}, c < 4294967296 → crcN k c < 4294967296
 | 0, _, h => h
 | k + 1, _, h => crcStep_lt (crcN_lt k h)
theorem xor_four (a b c d : Nat) : (a ^^^ b) ^^^ (c ^^^ d) = (a ^^^ c) ^^^ (b ^^^ d) := by
 rw [Nat.xor_assoc, Nat.xor_assoc, ← Nat.xor_assoc b c d, Nat.xor_comm b c, Nat.xor_assoc c b d]
theorem crcStep_eq (c : Nat) : crcStep c = c / 2 ^^^ (if c % 2 = 1 then 3988292384 else 0) := by
 unfold crcStep
 split <;> simp
theorem crcStep_xor (a b : Nat) : crcStep (a ^^^ b) = crcStep a ^^^ crcStep b := by
 rw [crcStep_eq, crcStep_eq a, crcStep_eq b, xor_four]
 have h1 : (a ^^^ b) / 2 = a / 2 ^^^ b / 2 := Nat.xor_div_two_pow (n := 1)
 have h2 : (a ^^^ b) % 2 = a % 2 ^^^ b % 2 := Nat.xor_mod_two_pow (n := 1)
 rw [h1, h2]
 congr 1
 have ha : a % 2 = 0 ∨ a % 2 = 1 := by omega
 have hb : b % 2 = 0 ∨ b % 2 = 1 := by omega
 rcases ha with ha | ha <;> rcases hb with hb | hb <;> rw [ha, hb] <;> decide
theorem crcN_xor : ∀ (k a b : Nat), crcN k (a ^^^ b) = crcN k a ^^^ crcN k b
 | 0, _, _ => rfl
 | k + 1, a, b => by rw [crcN, crcN_xor k a b, crcStep_xor]; rfl
theorem crcN_high : ∀ (k h : Nat), crcN k (2 ^ k * h) = h
 | 0, h => by simp [crcN]
 | k + 1, h => by
  have e : crcN (k + 1) (2 ^ (k + 1) * h) = crcStep (crcN k (2 ^ k * (2 * h))) := by
   rw [Nat.pow_succ, Nat.mul_assoc]; rfl
  rw [e, crcN_high k (2 * h)]
  unfold crcStep
  rw [if_neg (by omega)]
  omega
theorem low_high (c : Nat) : c = 256 * (c / 256) ^^^ c % 256 := by
 apply Nat.eq_of_testBit_eq
 intro i
 have h1 := Nat.testBit_two_pow_mul (a := c / 2 ^ 8) (i := 8) (j := i)
 rw [Nat.testBit_xor, show 256 * (c / 256) = 2 ^ 8 * (c / 2 ^ 8) by rfl, show c % 256 = c % 2 ^ 8 by rfl, h1, Nat.testBit_mod_two_pow, Nat.testBit_div_two_pow]
 by_cases h : 8 ≤ i
 · simp [h, show ¬ i < 8 by omega]
 · simp [h, show i < 8 by omega]
theorem crc_byte (c x : Nat) : crcN 8 (c ^^^ x) = crcN 8 (c % 256 ^^^ x) ^^^ c / 256 := by
 have e : c ^^^ x = 2 ^ 8 * (c / 256) ^^^ (c % 256 ^^^ x) := by
  conv => lhs; rw [low_high c]
  rw [Nat.xor_assoc]
 rw [e, crcN_xor, crcN_high, Nat.xor_comm]
def crcF (c : Nat) (x : UInt8) : Nat := crcN 8 (c ^^^ x.toNat)
def crcL (l : List UInt8) : Nat := l.foldl crcF 4294967295
theorem crcF_lt {c : Nat} {x : UInt8} (h : c < 4294967296) : crcF c x < 4294967296 :=
 crcN_lt 8 (Nat.xor_lt_two_pow (n := 32) h (by have := x.toNat_lt; omega))
theorem crc_foldl_lt : ∀ (l : List UInt8) {c : Nat}, c < 4294967296 → l.foldl crcF c < 4294967296
 | [], _, h => h
 | _ :: l, _, h => crc_foldl_lt l (crcF_lt h)
theorem crcL_lt (l : List UInt8) : crcL l < 4294967296 := crc_foldl_lt l (by omega)
theorem crcL_snoc (l : List UInt8) (x : UInt8) : crcL (l ++ [x]) = crcF (crcL l) x := by simp [crcL]
def sumL (l : List UInt8) : Nat := 4294967295 - crcL l
theorem sumL_lt (l : List UInt8) : sumL l < 4294967296 := by unfold sumL; omega
theorem xor_ones {c : Nat} (h : c < 4294967296) : c ^^^ 4294967295 = 4294967295 - c := by
 apply Nat.eq_of_testBit_eq
 intro i
 have h1 := Nat.testBit_two_pow_sub_succ (n := 32) (x := c) (by omega) i
 rw [show 2 ^ 32 - (c + 1) = 4294967295 - c by omega] at h1
 have h2 := Nat.testBit_two_pow_sub_one 32 i
 rw [show 2 ^ 32 - 1 = 4294967295 by rfl] at h2
 rw [h1, Nat.testBit_xor, h2]
 by_cases h3 : i < 32
 · simp [h3]
 · simp only [h3, decide_false, Bool.bne_false, Bool.false_and]
   have h4 : (2 : Nat) ^ 32 ≤ 2 ^ i := Nat.pow_le_pow_right (by decide) (by omega)
   have h5 : c < 2 ^ 32 := h
   simpa using Nat.testBit_lt_two_pow (Nat.lt_of_lt_of_le h5 h4)
def refStep (x k c : Nat) : Nat := if (x / 2 ^ k ^^^ c) % 2 = 1 then c / 2 ^^^ 3988292384 else c / 2
def refN (x : Nat) : Nat → Nat → Nat
 | 0, c => c
 | k + 1, c => refStep x k (refN x k c)
theorem refN_eq (x c : Nat) : ∀ k, crcN k (c ^^^ x) = refN x k c ^^^ x / 2 ^ k
 | 0 => by simp [crcN, refN]
 | k + 1 => by
  have ih := refN_eq x c k
  simp only [crcN, ih, refN]
  rw [crcStep_eq]
  have h1 : (refN x k c ^^^ x / 2 ^ k) / 2 = refN x k c / 2 ^^^ (x / 2 ^ k) / 2 := Nat.xor_div_two_pow (n := 1)
  rw [h1, Nat.div_div_eq_div_mul, ← Nat.pow_succ]
  unfold refStep
  rw [Nat.xor_comm (x / 2 ^ k)]
  split
  · rw [Nat.xor_assoc, Nat.xor_comm (x / 2 ^ (k + 1)), ← Nat.xor_assoc]
  · simp
theorem refN_byte (x : UInt8) (c : Nat) : refN x.toNat 8 c = crcF c x := by
 have h := refN_eq x.toNat c 8
 have : x.toNat / 2 ^ 8 = 0 := Nat.div_eq_of_lt x.toNat_lt
 rw [this, Nat.xor_zero] at h
 exact h.symm
theorem refN_lt (x : Nat) : ∀ (k : Nat) {c : Nat}, c < 4294967296 → refN x k c < 4294967296
 | 0, _, h => h
 | k + 1, c, h => by
  have := refN_lt x k h
  unfold refN refStep
  split
  · exact Nat.xor_lt_two_pow (n := 32) (by omega) (by omega)
  · omega
end Go.Proofs.YtacbkganjkipdaaGreatDoor
namespace Go.Proofs.YtacbkganjkipdaaGreatDoor
open Go.RowKit
def crcCells (i : Nat) : Array Value := ((List.range 256).map fun j => Value.int .u32 (if j < i then crcN 8 j else 0 : Nat)).toArray
theorem crcCells_size (i : Nat) : (crcCells i).size = 256 := by simp [crcCells]
theorem crcCells_get {i j : Nat} (h : j < 256) : (crcCells i)[j]? = some (.int .u32 (if j < i then crcN 8 j else 0 : Nat)) := by
 simp only [crcCells, List.getElem?_toArray, List.getElem?_map, List.getElem?_range h, Option.map_some]
theorem crcCells_set {i : Nat} (h : i < 256) : (crcCells i).setIfInBounds i (.int .u32 (crcN 8 i : Nat)) = crcCells (i + 1) := by
 apply Array.ext_getElem?
 intro j
 rcases Nat.lt_or_ge j 256 with hj | hj
 · rw [Array.getElem?_setIfInBounds, crcCells_get hj, crcCells_size]
   split
   · rename_i e
     subst e
     rw [crcCells_get h, if_pos (by omega)]
   · rename_i e
     rw [crcCells_get hj]
     by_cases h2 : j < i
     · rw [if_pos h2, if_pos (by omega)]
     · rw [if_neg h2, if_neg (by omega)]
 · rw [Array.getElem?_eq_none (by simp [crcCells_size]; omega), Array.getElem?_eq_none (by simp [crcCells_size]; omega)]
theorem crcCells_one (i : Nat) : (crcCells i).all (·.oneCell') = true := by
 rw [Array.all_eq_true_iff_forall_mem]
 intro v hv
 simp only [crcCells, List.mem_toArray, List.mem_map] at hv
 obtain ⟨j, _, rfl⟩ := hv
 rfl
theorem zero256 (w : World) : (zeroValue 182).run Tryz.prog w = .ok (.agg (crcCells 0)) w := by kernel_rfl
theorem and1_u32 (c : Nat) (h : c < 4294967296) : bits BinOp.and IntKind.u32 (c : Int) 1 = ((c % 2 : Nat) : Int) := by
 have := u32_and_nat c 1 h (by omega)
 rw [Nat.and_one_is_mod] at this
 exact this
theorem crcStep_odd {c : Nat} (h1 : c % 2 = 1) (h : c < 4294967296) : bits BinOp.xor IntKind.u32 ((c : Int) / 2) 3988292384 = ((crcStep c : Nat) : Int) := by
 have := u32_xor_nat (c / 2) 3988292384 (by omega) (by omega)
 unfold crcStep
 rw [if_pos h1]
 rw [← this]
 rfl
theorem crcStep_even {c : Nat} (h1 : ¬ c % 2 = 1) : (c : Int) / 2 = ((crcStep c : Nat) : Int) := by
 unfold crcStep
 rw [if_neg h1]
 omega
set_option maxRecDepth 100000 in
set_option maxHeartbeats 2000000 in
theorem table_any (w : World) :
 Calls Tryz.prog 139 #[] w fun e w' => e = .returned (.agg (crcCells 256)) ∧ Below w.heap.size w w' := by
 have hz := zero256
 have hb0 := (Blk.new w 182 (crcCells 0)).alloc (.cells (crcCells 0) 182)
 have hb1 := Blk.new_ (w := w.alloc (.cells (crcCells 0) 182)) (g := w.heap.size + 1) (by simp) 182 (crcCells 0)
 have HB0 := Lib.hid hb0
 have HB1 := Lib.hid hb1
 have HB := Lib.hid (((Below.refl w.heap.size w).alloc (Nat.le_refl _) (.cells (crcCells 0) 182)).alloc (by simp) (.cells (crcCells 0) 182))
 clear hb0 hb1
 go_enter Tryz.func139, Tryz.ntmps139
 go_wp2_with fail
 go_loopw [4] (fun iv wr => ∃ (i : Nat), iv = .int .i64 i ∧ i ≤ 256 ∧ Blk wr (w.heap.size + 1) 182 (crcCells i) ∧ Blk wr w.heap.size 182 (crcCells 0) ∧ Below w.heap.size w wr) (fun iv _ => 256 - (intOf iv).toNat)
 case atStart => exact ⟨0, rfl, by omega, HB1.out, HB0.out, HB.out⟩
 case round =>
  obtain ⟨i, rfl, hi, hb1, hb0, hb⟩ := hrel
  have HC1 := Lib.hid hb1
  have HC0 := Lib.hid hb0
  have HD := Lib.hid hb
  clear hb1 hb0 hb
  by_cases h : (i : Int) < 256
  · have hwi : (i : Int) % 4294967296 = i := by omega
    go_wp2_with fail
    go_loopw [3, 9] (fun cv kv wx => ∃ (k : Nat), cv = .int .u32 ((crcN k i : Nat) : Int) ∧ kv = .int .i64 k ∧ k ≤ 8 ∧ wr = wx) (fun _ kv _ => 8 - (intOf kv).toNat)
    case atStart => exact ⟨0, rfl, rfl, by omega, rfl⟩
    case round =>
     obtain ⟨k, rfl, rfl, hk, rfl⟩ := hrel
     by_cases hk8 : (k : Int) < 8
     · have hc := crcN_lt k (c := i) (by omega)
       obtain ⟨c, hcc⟩ : ∃ c, c = crcN k i := ⟨_, rfl⟩
       rw [← hcc] at hc
       have hnext : crcN (k + 1) i = crcStep c := by rw [hcc]; rfl
       have h1 := and1_u32 c hc
       rw [← hcc]
       have HN := Lib.hid hnext
       clear hnext hcc
       by_cases hodd : c % 2 = 1
       · have h2 : (((c % 2 : Nat) : Int) == 1) = true := by simp; omega
         have h3 := crcStep_odd hodd hc
         clear hodd
         go_wp2_with fail
         go_roundw
         case rel => exact ⟨k + 1, by rw [HN.out], by simp, by omega, trivial⟩
         case measure => simp [intOf]; omega
       · have h2 : (((c % 2 : Nat) : Int) == 1) = false := by simp; omega
         have h3 := crcStep_even hodd
         clear hodd
         go_wp2_with fail
         go_roundw
         case rel => exact ⟨k + 1, by rw [HN.out], by simp, by omega, trivial⟩
         case measure => simp [intOf]; omega
     · obtain rfl : k = 8 := by omega
       have c1 := HC1.out.cell i
       rw [crcCells_get (by omega), if_neg (by omega)] at c1
       have c2 := HC1.out.frozen i
       go_wp2_with fail
       go_roundw
       case rel =>
        refine ⟨i + 1, by simp, by omega, ?_, ?_, ?_⟩
        · rw [← crcCells_set (by omega)]
          exact HC1.out.set_ i _
        · exact HC0.out.far (by simp) _
        · exact HD.out.setCell (by simp) _
       case measure => simp [intOf]; omega
  · obtain rfl : i = 256 := by omega
    go_wp2_with (first | refine wpList_load_row rfl 182 _ rfl (w.heap.size + 1) rfl _ _ (0, 0) _ HC1.out Tryz.underlying182 rfl (by kernel_rfl) ?_ | refine wpList_store_row rfl 182 _ _ rfl w.heap.size (crcCells 256) rfl rfl _ _ HC0.out (by kernel_rfl) (by simp [crcCells_size]) (crcCells_one _) ?_)
    refine bodyPost_ret (results_cell_row rfl _ _ w.heap.size 182 (crcCells 256) (0, 0) _ rfl (setRow_heap wr w.heap.size (crcCells 0) (crcCells 256) 182 (0, 0) HC0.out) Tryz.underlying182 rfl (by kernel_rfl)) rfl ⟨rfl, below_setRow HD.out (Nat.le_refl _) _⟩
theorem not_u32 {c : Nat} (h : c < 4294967296) : bits BinOp.xor IntKind.u32 IntKind.u32.max (c : Int) = ((4294967295 - c : Nat) : Int) := by
 have := u32_xor_nat 4294967295 c (by omega) h
 rw [Nat.xor_comm, xor_ones h] at this
 exact this
set_option maxRecDepth 100000 in
set_option maxHeartbeats 2000000 in
theorem sum_any (A : Option Addr) (n c : Nat) (l : List UInt8) (w : World) (hx : Reads w w.heap.size 1 A n (u8s l)) (hn : n ≤ maxLen) :
 Calls Tryz.prog 97 #[.slice A n c] w fun e w' => e = .returned (.int .u32 (sumL l)) ∧ Below w.heap.size w w' := by
 have hlen := hx.len_
 unfold maxLen at hn
 have HX := Lib.hid hx
 clear hx
 have hz := zero256
 go_enter Tryz.func97, Tryz.ntmps97
 go_wp2_with fail
 refine (table_any w).mono ?_
 rintro e w1 ⟨rfl, hb1⟩
 have hsz := hb1.size
 have hn0 := Blk.new w1 182 (crcCells 0)
 have hba := below_setRow (hb1.alloc hb1.size (.cells (crcCells 0) 182)) (g := w1.heap.size) hsz (crcCells 256)
 have HN0 := Lib.hid hn0
 have HB := Lib.hid hba
 have HG := Lib.hid (setRow_heap _ w1.heap.size (crcCells 0) (crcCells 256) 182 (0, 0) hn0)
 clear hn0 hba hb1
 go_wp2_with (refine wpList_store_row rfl 182 _ _ rfl w1.heap.size (crcCells 256) rfl rfl _ _ HN0.out (by kernel_rfl) (by simp [crcCells_size]) (crcCells_one _) ?_)
 generalize hw2 : (w1.alloc (.cells (crcCells 0) 182)).setRow w1.heap.size (crcCells 256) = w2 at HB HG
 have HX2 := Lib.hid (HX.out.below HB.out)
 go_loopw [4, 10] (fun cv iv wr => ∃ (i : Nat), cv = .int .u32 ((crcL (l.take i) : Nat) : Int) ∧ iv = .int .i64 i ∧ i ≤ n ∧ w2 = wr) (fun _ iv _ => n - (intOf iv).toNat)
 case atStart => exact ⟨0, by simp [crcL], rfl, by omega, rfl⟩
 case round =>
  obtain ⟨i, rfl, rfl, hi, rfl⟩ := hrel
  clear hw2
  by_cases h : (i : Int) < n
  · obtain ⟨ad, rfl, hb, hc0⟩ := HX2.out.u8_ (k := i) (by omega)
    obtain ⟨x, hx⟩ : ∃ x, x = l.getD i 0 := ⟨_, rfl⟩
    rw [← hx] at hc0
    have hx1 : (x.toNat : Int) < 256 := by have := x.toNat_lt; omega
    have hcl := crcL_lt (l.take i)
    obtain ⟨c', hcc⟩ : ∃ c', c' = crcL (l.take i) := ⟨_, rfl⟩
    rw [← hcc] at hcl
    have hj : (c' % 256 ^^^ x.toNat) < 2 ^ 8 := Nat.xor_lt_two_pow (by omega) (by omega)
    have f1 := u8_xor_nat (c' % 256) x.toNat (by omega) (by omega)
    rw [show ((c' % 256 : Nat) : Int) = (c' : Int) % 256 by omega] at f1
    have f3 := u32_xor_nat (crcN 8 (c' % 256 ^^^ x.toNat)) (c' / 256) (crcN_lt 8 (by omega)) (by omega)
    rw [← crc_byte, show ((c' / 256 : Nat) : Int) = (c' : Int) / 256 by omega] at f3
    have hnext : crcL (l.take (i + 1)) = crcN 8 (c' ^^^ x.toNat) := by
     rw [take_snoc (by omega), crcL_snoc, ← hcc, ← hx]
     rfl
    obtain ⟨j, hjj⟩ : ∃ j, j = c' % 256 ^^^ x.toNat := ⟨_, rfl⟩
    rw [← hjj] at hj f1 f3
    have f2 : w2.cell? ⟨w1.heap.size, j, none⟩ = some (.int .u32 ((crcN 8 j : Nat) : Int)) := by
     have := Blk.cell HG.out j
     rw [crcCells_get (by omega), if_pos (by omega)] at this
     exact this
    have hj2 : (j : Int) < 256 := by omega
    have HNX := Lib.hid hnext
    rw [← hcc]
    clear hjj hcc hnext hx hj
    go_wp2_with fail
    go_roundw
    case rel => exact ⟨i + 1, by rw [HNX.out], by simp, by omega, trivial⟩
    case measure => simp [intOf]; omega
  · obtain rfl : i = n := by omega
    have hcl := crcL_lt (l.take i)
    go_wp2_with fail
    go_ret
    have e := List.take_of_length_le (show l.length ≤ i by omega)
    rw [e]
    exact ⟨congrArg Ending.returned (congrArg (Value.int IntKind.u32) (not_u32 (crcL_lt l))), HB.out⟩
set_option maxRecDepth 100000 in
set_option maxHeartbeats 2000000 in
theorem refSum_any (A : Option Addr) (n c : Nat) (l : List UInt8) (w : World) (hx : Reads w w.heap.size 1 A n (u8s l)) (hn : n ≤ maxLen) :
 Calls Tryz.prog 115 #[.slice A n c] w fun e w' => e = .returned (.int .u32 (sumL l)) ∧ w = w' := by
 have hlen := hx.len_
 unfold maxLen at hn
 have HX := Lib.hid hx
 clear hx
 go_enter Tryz.func115, Tryz.ntmps115
 go_wp2_with fail
 go_loopw [3, 4] (fun cv iv wr => ∃ (i : Nat), cv = .int .u32 ((crcL (l.take i) : Nat) : Int) ∧ iv = .int .i64 i ∧ i ≤ n ∧ w = wr) (fun _ iv _ => n - (intOf iv).toNat)
 case atStart => exact ⟨0, by simp [crcL], rfl, by omega, rfl⟩
 case round =>
  obtain ⟨i, rfl, rfl, hi, rfl⟩ := hrel
  by_cases h : (i : Int) < n
  · obtain ⟨ad, rfl, hb, hc0⟩ := HX.out.u8_ (k := i) (by omega)
    obtain ⟨x, hx⟩ : ∃ x, x = l.getD i 0 := ⟨_, rfl⟩
    rw [← hx] at hc0
    have hx1 : (x.toNat : Int) < 256 := by have := x.toNat_lt; omega
    have hcl := crcL_lt (l.take i)
    obtain ⟨c', hcc⟩ : ∃ c', c' = crcL (l.take i) := ⟨_, rfl⟩
    rw [← hcc] at hcl
    have hnext : crcL (l.take (i + 1)) = refN x.toNat 8 c' := by
     rw [take_snoc (by omega), crcL_snoc, ← hcc, ← hx, refN_byte]
    have HNX := Lib.hid hnext
    rw [← hcc]
    clear hcc hnext hx
    go_wp2_with fail
    go_loopw [3, 5] (fun cv kv wx => ∃ (k : Nat), cv = .int .u32 ((refN x.toNat k c' : Nat) : Int) ∧ kv = .int .i64 k ∧ k ≤ 8 ∧ w = wx) (fun _ kv _ => 8 - (intOf kv).toNat)
    case atStart => exact ⟨0, rfl, rfl, by omega, rfl⟩
    case round =>
     obtain ⟨k, rfl, rfl, hk, rfl⟩ := hrel
     by_cases hk8 : (k : Int) < 8
     · have hc := refN_lt x.toNat k (c := c') hcl
       obtain ⟨c2, hcc⟩ : ∃ c, c = refN x.toNat k c' := ⟨_, rfl⟩
       rw [← hcc] at hc
       have hnext : refN x.toNat (k + 1) c' = refStep x.toNat k c2 := by rw [hcc]; rfl
       rw [← hcc]
       have HN := Lib.hid hnext
       clear hnext hcc
       have hxd : x.toNat / 2 ^ k < 256 := Nat.lt_of_le_of_lt (Nat.div_le_self _ _) (by omega)
       have f1 := u32_xor_nat (x.toNat / 2 ^ k) c2 (by omega) hc
       have hcast : ((x.toNat / 2 ^ k : Nat) : Int) = (x.toNat : Int) / 2 ^ k := by simp
       rw [hcast] at f1
       have f3 := u32_xor_nat (c2 / 2) 3988292384 (by omega) (by omega)
       have f4 : bits BinOp.xor IntKind.u32 ((c2 : Int) / 2) 3988292384 = ((c2 / 2 ^^^ 3988292384 : Nat) : Int) := f3
       obtain ⟨y, hy⟩ : ∃ y, y = x.toNat / 2 ^ k ^^^ c2 := ⟨_, rfl⟩
       rw [← hy] at f1
       have HY := Lib.hid hy
       clear hy hcast f3 hxd
       by_cases hodd : y % 2 = 1
       · have f2 : ((y : Int) % 2 == 1) = true := by rw [beq_iff_eq]; omega
         have HO := Lib.hid hodd
         clear hodd
         go_wp2_with fail
         go_roundw
         case rel =>
          refine ⟨k + 1, ?_, by simp, by omega, trivial⟩
          rw [HN.out]
          unfold refStep
          rw [if_pos (by rw [← HY.out]; exact HO.out)]
         case measure => simp [intOf]; omega
       · have f2 : ((y : Int) % 2 == 1) = false := by rw [beq_eq_false_iff_ne]; omega
         have HO := Lib.hid hodd
         clear hodd
         go_wp2_with fail
         go_roundw
         case rel =>
          refine ⟨k + 1, ?_, by simp, by omega, trivial⟩
          rw [HN.out]
          unfold refStep
          rw [if_neg (by rw [← HY.out]; exact HO.out)]
          simp
         case measure => simp [intOf]; omega
     · obtain rfl : k = 8 := by omega
       go_wp2_with fail
       go_roundw
       case rel => exact ⟨i + 1, by rw [HNX.out], by simp, by omega, trivial⟩
       case measure => simp [intOf]; omega
  · obtain rfl : i = n := by omega
    have hcl := crcL_lt (l.take i)
    have hf := u32_xor_nat (crcL (l.take i)) 4294967295 hcl (by omega)
    rw [xor_ones hcl] at hf
    have hf2 : bits BinOp.xor IntKind.u32 ((crcL (l.take i) : Nat) : Int) 4294967295 = ((4294967295 - crcL (l.take i) : Nat) : Int) := hf
    clear hf
    go_wp2_with fail
    go_ret
    have e := List.take_of_length_le (show l.length ≤ i by omega)
    rw [e]
    exact ⟨rfl, rfl⟩
def sum4 (s : Nat) : List UInt8 := [UInt8.ofNat (s % 256), UInt8.ofNat (s / 256 % 256), UInt8.ofNat (s / 65536 % 256), UInt8.ofNat (s / 16777216)]
def sealL (l : List UInt8) : List UInt8 := uintL l.length ++ sum4 (sumL l) ++ l
theorem u8_cast {m : Nat} (h : m < 256) : ((UInt8.ofNat m).toNat : Int) = m := by simp; omega
theorem u8s_sum4 {s : Nat} (h : s < 4294967296) : u8s (sum4 s) = [.int .u8 ((s : Int) % 256), .int .u8 ((s : Int) / 256 % 256), .int .u8 ((s : Int) / 65536 % 256), .int .u8 ((s : Int) / 16777216)] := by
 simp only [sum4, u8s, List.map_cons, List.map_nil]
 rw [u8_cast (by omega), u8_cast (by omega), u8_cast (by omega), u8_cast (by omega)]
 simp
set_option maxRecDepth 100000 in
set_option maxHeartbeats 2000000 in
theorem seal_any (A : Option Addr) (n c : Nat) (l : List UInt8) (w : World) (hx : Reads w w.heap.size 1 A n (u8s l)) (hn : n ≤ 4096) :
 Calls Tryz.prog 50 #[.slice A n c] w fun e w' => ∃ A' c', e = .returned (.tuple #[.slice A' (sealL l).length c', .int .i64 0]) ∧ Own w' w.heap.size 5 1 A' (sealL l).length c' (u8s (sealL l)) ∧ Below w.heap.size w w' := by
 have hlen := hx.len_
 have HX := Lib.hid hx
 clear hx
 have h1 : ¬ (4096 : Int) < n := by omega
 go_enter Tryz.func50, Tryz.ntmps50
 go_wp2_with fail
 refine (sum_any A n c l w HX.out (by unfold maxLen; omega)).mono ?_
 rintro e w1 ⟨rfl, hb1⟩
 have hs := sumL_lt l
 obtain ⟨s, hss⟩ : ∃ s, s = sumL l := ⟨_, rfl⟩
 rw [← hss] at hs ⊢
 have HS := Lib.hid hss
 clear hss
 have HB1 := Lib.hid hb1
 clear hb1
 go_wp2_with fail
 refine (uint_any n w1 (by omega)).mono ?_
 rintro e w2 ⟨A2, c2, rfl, ho, hb⟩
 have hlu := uintL_len64 (n := n) (by omega)
 have HO := Lib.hid ho
 have HB2 := Lib.hid (HB1.out.trans (hb.mono HB1.out.size))
 have hz1 := HB1.out.size
 have hz2 := HB2.out.size
 clear ho hb
 go_wp2_with (at_builtin; refine halt_ ?_)
 refine unhalt ?_
 refine wpList_app elem_u8 ((HO.out.mono hz1).alloc _) (reads_new (cs := #[_, _, _, _]) w2 5 4 rfl) (by simp [Value.oneCell']) (by omega) (by simp; omega) _ _ rfl rfl rfl rfl ?_
 intro A3 c3 w3 ho hup hat
 have HB3 := Lib.hid ((HB2.out.alloc hz2 _).trans (hup.to_below (by simp; omega) (fun i hi e => by have := HO.out.ge _ e; omega)))
 have hz3 := HB3.out.size
 rw [← u8s_sum4 hs, ← u8s_append] at ho
 have HO3 := Lib.hid ho
 clear ho hup hat
 go_wp2_with (at_builtin; refine halt_ ?_)
 refine unhalt ?_
 refine wpList_app elem_u8 HO3.out (HX.out.below HB3.out) (u8s_one l) (by omega) hz3 _ _ rfl rfl rfl rfl ?_
 intro A4 c4 w4 ho hup hat
 have HB4 := Lib.hid (HB3.out.trans (hup.to_below hz3 (fun i hi e => by have := HO3.out.ge _ e; omega)))
 rw [← u8s_append] at ho
 have hlen4 : (sealL l).length = (uintL n).length + 4 + n := by simp [sealL, sum4, hlen]; omega
 have e4 : sealL l = uintL n ++ sum4 s ++ l := by rw [HS.out, ← hlen]; rfl
 clear hup hat
 go_wp2_with fail
 go_ret2
 refine ⟨A4, c4, by rw [hlen4]; rfl, ?_, HB4.out⟩
 rw [hlen4, e4]
 exact ho
set_option maxRecDepth 100000 in
set_option maxHeartbeats 2000000 in
theorem refSeal_any (A : Option Addr) (n c : Nat) (l : List UInt8) (w : World) (hx : Reads w w.heap.size 1 A n (u8s l)) (hn : n ≤ 140737488355000) :
 Calls Tryz.prog 72 #[.slice A n c] w fun e w' => ∃ A' c', e = .returned (.slice A' (sealL l).length c') ∧ Own w' w.heap.size 5 1 A' (sealL l).length c' (u8s (sealL l)) ∧ Below w.heap.size w w' := by
 have hlen := hx.len_
 have HX := Lib.hid hx
 clear hx
 go_enter Tryz.func72, Tryz.ntmps72
 go_wp2_with fail
 refine (refSum_any A n c l w HX.out (by unfold maxLen; omega)).mono ?_
 rintro e w1 ⟨rfl, rfl⟩
 have hs := sumL_lt l
 obtain ⟨s, hss⟩ : ∃ s, s = sumL l := ⟨_, rfl⟩
 rw [← hss] at hs ⊢
 have HS := Lib.hid hss
 clear hss
 have hm1 : (s : Int) % 256 % 256 = (s : Int) % 256 := by omega
 have hm2 : (s : Int) / 256 % 256 % 256 = (s : Int) / 256 % 256 := by omega
 have hm3 : (s : Int) / 65536 % 256 % 256 = (s : Int) / 65536 % 256 := by omega
 have hm4 : (s : Int) / 16777216 % 256 = (s : Int) / 16777216 := by omega
 go_wp2_with fail
 refine (refUint_any n w (by omega)).mono ?_
 rintro e w2 ⟨A2, c2, rfl, ho, hb⟩
 have hlu := uintL_len64 (n := n) (by omega)
 have HO := Lib.hid ho
 have HB2 := Lib.hid hb
 have hz1 : w.heap.size ≤ w.heap.size := Nat.le_refl _
 have hz2 := HB2.out.size
 clear ho hb
 go_wp2_with (at_builtin; refine halt_ ?_)
 refine unhalt ?_
 refine wpList_app elem_u8 ((HO.out.mono hz1).alloc _) (reads_new (cs := #[_, _, _, _]) w2 5 4 rfl) (by simp [Value.oneCell']) (by omega) (by simp; omega) _ _ rfl rfl rfl rfl ?_
 intro A3 c3 w3 ho hup hat
 have HB3 := Lib.hid ((HB2.out.alloc hz2 _).trans (hup.to_below (by simp; omega) (fun i hi e => by have := HO.out.ge _ e; omega)))
 have hz3 := HB3.out.size
 rw [← u8s_sum4 hs, ← u8s_append] at ho
 have HO3 := Lib.hid ho
 clear ho hup hat
 go_wp2_with (at_builtin; refine halt_ ?_)
 refine unhalt ?_
 refine wpList_app elem_u8 HO3.out (HX.out.below HB3.out) (u8s_one l) (by omega) hz3 _ _ rfl rfl rfl rfl ?_
 intro A4 c4 w4 ho hup hat
 have HB4 := Lib.hid (HB3.out.trans (hup.to_below hz3 (fun i hi e => by have := HO3.out.ge _ e; omega)))
 rw [← u8s_append] at ho
 have hlen4 : (sealL l).length = (uintL n).length + 4 + n := by simp [sealL, sum4, hlen]; omega
 have e4 : sealL l = uintL n ++ sum4 s ++ l := by rw [HS.out, ← hlen]; rfl
 clear hup hat
 go_wp2_with fail
 go_ret
 refine ⟨A4, c4, by rw [hlen4]; rfl, ?_, HB4.out⟩
 rw [hlen4, e4]
 exact ho
end Go.Proofs.YtacbkganjkipdaaGreatDoor
namespace Go.Proofs.YtacbkganjkipdaaGreatDoor
theorem takeL_split : ∀ {b : List UInt8} {v s : Nat}, takeL b = some (v, s) → ∃ pre c r, b = pre ++ c :: r ∧ (∀ x ∈ pre, 128 ≤ UInt8.toNat x) ∧ c.toNat < 128 ∧ s = pre.length + 1 ∧ v = valp (pre ++ [c])
 | c :: r, v, s, h => by
  simp only [takeL] at h
  split at h
  · rename_i hc
    simp only [Option.some.injEq, Prod.mk.injEq] at h
    obtain ⟨rfl, rfl⟩ := h
    refine ⟨[], c, r, rfl, by simp, hc, rfl, ?_⟩
    simp [valp]
    omega
  · rename_i hc
    cases h2 : takeL r with
    | none => rw [h2] at h; cases h
    | some x =>
     rw [h2] at h
     simp only [Option.map_some, Option.some.injEq, Prod.mk.injEq] at h
     obtain ⟨rfl, rfl⟩ := h
     obtain ⟨pre, c', r', rfl, h3, h4, h5, h6⟩ := takeL_split (v := x.1) (s := x.2) h2
     refine ⟨c :: pre, c', r', rfl, ?_, h4, by rw [h5]; rfl, by rw [h6]; rfl⟩
     intro y hy
     rcases List.mem_cons.1 hy with rfl | hy
     · omega
     · exact h3 y hy
theorem takeU_front {b : List UInt8} {m s : Nat} (h : takeU b = (m, s)) (hs : s ≠ 0) : b.take s = uintL m ∧ (uintL m).length = s := by
 unfold takeU at h
 cases h2 : takeL b with
 | none => rw [h2] at h; simp only [Prod.mk.injEq] at h; omega
 | some x =>
  obtain ⟨v, s'⟩ := x
  rw [h2] at h
  simp only at h
  split at h
  · rename_i hc
    simp only [Prod.mk.injEq] at h
    obtain ⟨rfl, rfl⟩ := h
    obtain ⟨pre, c, r, rfl, h3, h4, rfl, rfl⟩ := takeL_split h2
    have e2 : (pre ++ c :: r).getD (pre.length + 1 - 1) 0 = c := by simp [List.getD]
    rw [e2] at hc
    have e3 := uintL_valp pre c h3 h4 (by omega)
    rw [e3]
    constructor
    · rw [List.append_cons, List.take_left' (by simp)]
    · simp
  · simp only [Prod.mk.injEq] at h; omega
def le32 (a b c d : UInt8) : Nat := a.toNat + b.toNat * 256 + c.toNat * 65536 + d.toNat * 16777216
theorem sum4_le32 {s : Nat} (h : s < 4294967296) (a b c d : UInt8) : sum4 s = [a, b, c, d] ↔ s = le32 a b c d := by
 have ha := a.toNat_lt
 have hb := b.toNat_lt
 have hc := c.toNat_lt
 have hd := d.toNat_lt
 unfold sum4 le32
 simp only [List.cons.injEq, and_true]
 rw [← UInt8.toNat_inj, ← UInt8.toNat_inj, ← UInt8.toNat_inj, ← UInt8.toNat_inj]
 simp only [UInt8.toNat_ofNat']
 omega
def takeF (b : List UInt8) : Option (List UInt8 × Nat) :=
 if (takeU b).2 = 0 ∨ 4096 < (takeU b).1 ∨ b.length < (takeU b).2 + 4 + (takeU b).1 then none
 else if sealL ((b.drop ((takeU b).2 + 4)).take (takeU b).1) = b.take ((takeU b).2 + 4 + (takeU b).1) then some ((b.drop ((takeU b).2 + 4)).take (takeU b).1, (takeU b).2 + 4 + (takeU b).1) else none
end Go.Proofs.YtacbkganjkipdaaGreatDoor
namespace Go.Proofs.YtacbkganjkipdaaGreatDoor
open Go.RowKit
def takeT (b : List UInt8) : List UInt8 × Nat :=
 if (takeU b).2 = 0 ∨ b.length - (takeU b).2 < (takeU b).1 then ([], 0) else ((b.drop (takeU b).2).take (takeU b).1, (takeU b).2 + (takeU b).1)
set_option maxRecDepth 100000 in
set_option maxHeartbeats 2000000 in
theorem takeText_any (A : Option Addr) (n c : Nat) (l : List UInt8) (w : World) (hx : Reads w w.heap.size 1 A n (u8s l)) (hn : n ≤ c) (hc : n ≤ maxLen) :
 Calls Tryz.prog 130 #[.slice A n c] w fun e w' => e = .returned (.tuple #[.string ⟨(takeT l).1.toArray⟩, .int .i64 (takeT l).2]) ∧ w = w' := by
 have hlen := hx.len_
 unfold maxLen at hc
 have HX := Lib.hid hx
 clear hx
 have hle := takeU_le l
 have ht : takeT l = if (takeU l).2 = 0 ∨ l.length - (takeU l).2 < (takeU l).1 then ([], 0) else ((l.drop (takeU l).2).take (takeU l).1, (takeU l).2 + (takeU l).1) := rfl
 go_enter Tryz.func130, Tryz.ntmps130
 go_wp2_with fail
 refine (takeUint_any A n c l w HX.out (by unfold maxLen; omega)).mono ?_
 rintro e w1 ⟨rfl, rfl⟩
 generalize takeU l = t at ht hle ⊢
 obtain ⟨m, s⟩ := t
 dsimp only at ht hle ⊢
 have HT := Lib.hid ht
 clear ht
 obtain ⟨hs1, hs2, hm1⟩ := hle
 by_cases hs : s = 0
 · have h1 : ((s : Int) == 0) = true := by rw [beq_iff_eq]; omega
   go_wp2_with fail
   go_ret2
   rw [HT.out, if_pos (.inl hs)]
   exact ⟨rfl, rfl⟩
 · have h1 : ((s : Int) == 0) = false := by rw [beq_eq_false_iff_ne]; omega
   by_cases hm : ((n : Int) - s) < (m : Int)
   · have hm2 : ((n : Int) - s) % 18446744073709551616 = (n : Int) - s := by omega
     go_wp2_with fail
     go_ret2
     rw [HT.out, if_pos (.inr (by omega))]
     exact ⟨rfl, rfl⟩
   · have hm2 : ((n : Int) - s) % 18446744073709551616 = (n : Int) - s := by omega
     have hr := ((HX.out.drop (k := s) (by omega)).take (k := m) (by omega))
     rw [u8s_drop, Nat.mul_one, u8s_take] at hr
     have hif : takeT l = ((l.drop s).take m, s + m) := by rw [HT.out, if_neg (by omega)]
     by_cases hcs : c = s
     · obtain rfl : m = 0 := by omega
       have hf := str_u8 (c := 0) (show Reads w w.heap.size 1 A 0 (u8s []) from ⟨rfl, fun h => absurd h (by omega)⟩)
       have HIF := Lib.hid hif
       clear hif hr
       go_wp2_with fail
       go_ret2
       rw [HIF.out]
       exact ⟨rfl, rfl⟩
     · have hf := str_u8 (c := c - s) hr
       have HIF := Lib.hid hif
       clear hif hr
       go_wp2_with fail
       go_ret2
       rw [HIF.out]
       exact ⟨by simp, rfl⟩
set_option maxRecDepth 100000 in
set_option maxHeartbeats 2000000 in
theorem refTakeText_any (A : Option Addr) (n c : Nat) (l : List UInt8) (w0 : World) (hx : Reads w0 w0.heap.size 1 A n (u8s l)) (hn : n ≤ c) (hc : n ≤ maxLen) :
 Calls Tryz.prog 111 #[.slice A n c] w0 fun e w' => e = .returned (.tuple #[.string ⟨(takeT l).1.toArray⟩, .int .i64 (takeT l).2]) ∧ Below w0.heap.size w0 w' := by
 have hlen := hx.len_
 unfold maxLen at hc
 have HX0 := Lib.hid hx
 clear hx
 have hle := takeU_le l
 have ht : takeT l = if (takeU l).2 = 0 ∨ l.length - (takeU l).2 < (takeU l).1 then ([], 0) else ((l.drop (takeU l).2).take (takeU l).1, (takeU l).2 + (takeU l).1) := rfl
 go_enter Tryz.func111, Tryz.ntmps111
 go_wp2_with fail
 refine (refTakeUint_any A n c l w0 HX0.out hn (by unfold maxLen; omega)).mono ?_
 rintro e w ⟨rfl, hb⟩
 have HX := Lib.hid ((HX0.out.below hb).more hb.size)
 have HB := Lib.hid hb
 clear hb
 generalize takeU l = t at ht hle ⊢
 obtain ⟨m, s⟩ := t
 dsimp only at ht hle ⊢
 have HT := Lib.hid ht
 clear ht
 obtain ⟨hs1, hs2, hm1⟩ := hle
 by_cases hs : s = 0
 · have h1 : ((s : Int) == 0) = true := by rw [beq_iff_eq]; omega
   go_wp2_with fail
   go_ret2
   rw [HT.out, if_pos (.inl hs)]
   exact ⟨rfl, HB.out⟩
 · have h1 : ((s : Int) == 0) = false := by rw [beq_eq_false_iff_ne]; omega
   by_cases hm3 : (n : Int) < (m : Int)
   · have hm2 : (n : Int) % 18446744073709551616 = (n : Int) := by omega
     go_wp2_with fail
     go_ret2
     rw [HT.out, if_pos (.inr (by omega))]
     exact ⟨rfl, HB.out⟩
   by_cases hm : ((n : Int) - s) < (m : Int)
   · go_wp2_with fail
     go_ret2
     rw [HT.out, if_pos (.inr (by omega))]
     exact ⟨rfl, HB.out⟩
   · skip
     have hr := ((HX.out.drop (k := s) (by omega)).take (k := m) (by omega))
     rw [u8s_drop, Nat.mul_one, u8s_take] at hr
     have hif : takeT l = ((l.drop s).take m, s + m) := by rw [HT.out, if_neg (by omega)]
     by_cases hcs : c = s
     · obtain rfl : m = 0 := by omega
       have hf := str_u8 (c := 0) (show Reads w w.heap.size 1 A 0 (u8s []) from ⟨rfl, fun h => absurd h (by omega)⟩)
       have HIF := Lib.hid hif
       clear hif hr
       go_wp2_with fail
       go_ret2
       rw [HIF.out]
       exact ⟨rfl, HB.out⟩
     · have hf := str_u8 (c := c - s) hr
       have HIF := Lib.hid hif
       clear hif hr
       go_wp2_with fail
       go_ret2
       rw [HIF.out]
       exact ⟨by simp, HB.out⟩
theorem u8_nil (w : World) (a : Option Addr) (n c : Nat) : (binOp .eql 47 (.slice a n c) (.slice none 0 0)).run Tryz.prog w = .ok (.bool a.isNone) w :=
 Lib.run_eql_slice_nil w _ _ a n c 0 0 Tryz.underlying47
set_option maxHeartbeats 400000 in
theorem clone_any (A : Option Addr) (n c : Nat) (l : List UInt8) (w : World) (hr : Reads w w.heap.size 1 A n (u8s l)) (hn : n ≤ 140737488355328) :
 Calls Tryz.prog 61 #[.slice A n c] w fun e w' => ∃ A' c', e = .returned (.slice A' n c') ∧ Own w' w.heap.size 5 1 A' n c' (u8s l) ∧ Below w.heap.size w w' := by
 have knil := u8_nil
 rcases A with _ | a
 · have h0 : n = 0 := by
    rcases Nat.eq_zero_or_pos n with h | h
    · exact h
    · obtain ⟨_, h, _⟩ := hr.2 h; cases h
   subst h0
   have hx : l = [] := List.eq_nil_of_length_eq_zero hr.len_
   subst hx
   go_enter Tryz.func61, Tryz.ntmps61
   go_wp2_with fail
   go_ret
   exact ⟨none, 0, rfl, Own.nil_ _ _ _ _, Below.refl _ _⟩
 · go_enter Tryz.func61, Tryz.ntmps61
   go_wp2_with (at_builtin; refine halt_ ?_)
   refine unhalt ?_
   refine wpList_app elem_u8 (Own.empty w _ 1) (hr.alloc (Nat.le_refl _) _) (u8s_one l) (by omega) (by simp) _ _ rfl rfl rfl rfl ?_
   intro A' c' w1 ho hu hat
   go_wp2_with fail
   go_ret
   have hb : Below w.heap.size w w1 := (Upd.trans (S := fun _ => False) ((Upd.refl _ w).alloc _) hu (by intro i hi e; simp [blockOf] at e; omega)).none_
   rw [Nat.zero_add, List.nil_append] at ho
   exact ⟨A', c', rfl, ho, hb⟩
end Go.Proofs.YtacbkganjkipdaaGreatDoor
namespace Go.Proofs.YtacbkganjkipdaaGreatDoor
theorem sealL_length (l : List UInt8) : (sealL l).length = (uintL l.length).length + 4 + l.length := by simp [sealL, sum4]; omega
theorem take4 {b : List UInt8} (h : 4 ≤ b.length) : b.take 4 = [b.getD 0 0, b.getD 1 0, b.getD 2 0, b.getD 3 0] := by
 match b, h with
 | x :: y :: z :: u :: r, _ => rfl
theorem getD_drop {b : List UInt8} {i j : Nat} : (b.drop i).getD j 0 = b.getD (i + j) 0 := by simp [List.getD_eq_getElem?_getD, List.getElem?_drop]
theorem take_three {b : List UInt8} (s k m : Nat) : b.take (s + k + m) = b.take s ++ (b.drop s).take k ++ (b.drop (s + k)).take m := by
 rw [List.take_add, List.take_add]
theorem seal_iff {b : List UInt8} {s m : Nat} (h : b.take s = uintL m) (hl : s + 4 + m ≤ b.length) :
 sealL ((b.drop (s + 4)).take m) = b.take (s + 4 + m) ↔ sumL ((b.drop (s + 4)).take m) = le32 (b.getD s 0) (b.getD (s + 1) 0) (b.getD (s + 2) 0) (b.getD (s + 3) 0) := by
 have hm : ((b.drop (s + 4)).take m).length = m := by rw [List.length_take, List.length_drop]; omega
 have h4 : (b.drop s).take 4 = [b.getD s 0, b.getD (s + 1) 0, b.getD (s + 2) 0, b.getD (s + 3) 0] := by
  rw [take4 (by rw [List.length_drop]; omega)]
  simp only [getD_drop, Nat.add_zero]
 rw [take_three, h, h4, ← sum4_le32 (sumL_lt _)]
 unfold sealL
 rw [hm]
 constructor
 · intro e
   exact List.append_cancel_left (List.append_cancel_right e)
 · intro e
   rw [e]
theorem takeF_size {b p : List UInt8} {k : Nat} (h : takeF b = some (p, k)) : 5 ≤ k ∧ k ≤ b.length ∧ p.length ≤ 4096 ∧ p.length + 5 ≤ k ∧ b.take k = sealL p ∧ k = (sealL p).length := by
 unfold takeF at h
 split at h
 · cases h
 · rename_i hc
   split at h
   · rename_i e
     simp only [Option.some.injEq, Prod.mk.injEq] at h
     obtain ⟨rfl, rfl⟩ := h
     have hl : ((b.drop ((takeU b).2 + 4)).take (takeU b).1).length = (takeU b).1 := by rw [List.length_take, List.length_drop]; omega
     rw [e]
     refine ⟨by omega, by omega, by omega, by omega, rfl, ?_⟩
     rw [List.length_take]; omega
   · cases h
end Go.Proofs.YtacbkganjkipdaaGreatDoor
namespace Go.Proofs.YtacbkganjkipdaaGreatDoor
open Go.RowKit
theorem or_mul (a b i m : Nat) (hm : m = 2 ^ i) (h : a < m) : a ||| (b * m) = b * m + a := by
 subst hm
 rw [Nat.or_comm, ← Nat.shiftLeft_eq, Nat.shiftLeft_add_eq_or_of_lt h]
theorem u32_in {n : Nat} (h : n < 4294967296) : IntKind.u32.wrap (n : Int) = (n : Int) := by rw [IntKind.wrap_u32]; omega
theorem u32le (b0 b1 b2 b3 : UInt8) :
 bits BinOp.or IntKind.u32 (bits BinOp.or IntKind.u32 (bits BinOp.or IntKind.u32 (IntKind.u32.wrap (b0.toNat : Int)) (IntKind.u32.wrap (IntKind.u32.wrap (b1.toNat : Int) * 256))) (IntKind.u32.wrap (IntKind.u32.wrap (b2.toNat : Int) * 65536)))
  (IntKind.u32.wrap (IntKind.u32.wrap (b3.toNat : Int) * 16777216)) = ((le32 b0 b1 b2 b3 : Nat) : Int) := by
 have h0 := b0.toNat_lt
 have h1 := b1.toNat_lt
 have h2 := b2.toNat_lt
 have h3 := b3.toNat_lt
 unfold le32
 generalize b0.toNat = n0 at *
 generalize b1.toNat = n1 at *
 generalize b2.toNat = n2 at *
 generalize b3.toNat = n3 at *
 have e1 : ((n1 : Int) * 256) = ((n1 * 256 : Nat) : Int) := by omega
 have e2 : ((n2 : Int) * 65536) = ((n2 * 65536 : Nat) : Int) := by omega
 have e3 : ((n3 : Int) * 16777216) = ((n3 * 16777216 : Nat) : Int) := by omega
 rw [u32_in (n := n0) (by omega), u32_in (n := n1) (by omega), u32_in (n := n2) (by omega), u32_in (n := n3) (by omega), e1, e2, e3, u32_in (n := n1 * 256) (by omega), u32_in (n := n2 * 65536) (by omega), u32_in (n := n3 * 16777216) (by omega),
  u32_or_nat n0 (n1 * 256) (by omega) (by omega), or_mul n0 n1 8 256 (by decide) (by omega), u32_or_nat _ (n2 * 65536) (by omega) (by omega), or_mul _ n2 16 65536 (by decide) (by omega), u32_or_nat _ (n3 * 16777216) (by omega) (by omega), or_mul _ n3 24 16777216 (by decide) (by omega)]
 omega
def Took (w w' : World) (r : Option (List UInt8 × Nat)) (e : Ending) : Prop :=
 match r with
 | none => e = .returned (.tuple #[.slice none 0 0, .int .i64 0, .int .i64 10])
 | some (p, k) => ∃ A c, e = .returned (.tuple #[.slice A p.length c, .int .i64 k, .int .i64 0]) ∧ Own w' w.heap.size 5 1 A p.length c (u8s p)
set_option maxRecDepth 100000 in
set_option maxHeartbeats 4000000 in
theorem take_any (A : Option Addr) (n c : Nat) (l : List UInt8) (w : World) (hx : Reads w w.heap.size 1 A n (u8s l)) (hn : n ≤ c) (hc : n ≤ maxLen) :
 Calls Tryz.prog 88 #[.slice A n c] w fun e w' => Took w w' (takeF l) e ∧ Below w.heap.size w w' := by
 have hlen := hx.len_
 unfold maxLen at hc
 have HX := Lib.hid hx
 clear hx
 have hle := takeU_le l
 have hfr := fun h => takeU_front (b := l) (m := (takeU l).1) (s := (takeU l).2) rfl h
 have ht : takeF l = if (takeU l).2 = 0 ∨ 4096 < (takeU l).1 ∨ l.length < (takeU l).2 + 4 + (takeU l).1 then none
  else if sealL ((l.drop ((takeU l).2 + 4)).take (takeU l).1) = l.take ((takeU l).2 + 4 + (takeU l).1) then some ((l.drop ((takeU l).2 + 4)).take (takeU l).1, (takeU l).2 + 4 + (takeU l).1) else none := rfl
 go_enter Tryz.func88, Tryz.ntmps88
 go_wp2_with fail
 refine (takeUint_any A n c l w HX.out (by unfold maxLen; omega)).mono ?_
 rintro e w1 ⟨rfl, rfl⟩
 generalize takeU l = t at ht hle hfr ⊢
 obtain ⟨m, s⟩ := t
 dsimp only at ht hle hfr ⊢
 have HT := Lib.hid ht
 have HF := Lib.hid hfr
 clear ht hfr
 obtain ⟨hs1, hs2, hm1⟩ := hle
 by_cases hs : s = 0
 · have h1 : ((s : Int) == 0) = true := by rw [beq_iff_eq]; omega
   go_wp2_with fail
   go_ret3
   rw [HT.out, if_pos (.inl hs)]
   exact ⟨rfl, Below.refl _ _⟩
 · have h1 : ((s : Int) == 0) = false := by rw [beq_eq_false_iff_ne]; omega
   by_cases hm4 : (4096 : Int) < (m : Int)
   · go_wp2_with fail
     go_ret3
     rw [HT.out, if_pos (.inr (.inl (by omega)))]
     exact ⟨rfl, Below.refl _ _⟩
   · by_cases hlt : (n : Int) - s < (m : Int) + 4
     · go_wp2_with fail
       go_ret3
       rw [HT.out, if_pos (.inr (.inr (by omega)))]
       exact ⟨rfl, Below.refl _ _⟩
     · have hfalse : ¬ (s = 0 ∨ 4096 < m ∨ l.length < s + 4 + m) := by omega
       have hT2 := HT.out
       rw [if_neg hfalse] at hT2
       have HT2 := Lib.hid hT2
       clear hT2 hfalse
       have hcs : ¬ c = s := by omega
       obtain ⟨k, hk⟩ : ∃ k, k = s + 4 := ⟨_, rfl⟩
       have hki : (s : Int) + 4 = (k : Int) := by omega
       have HK := Lib.hid hk
       have hkn : k + m ≤ n := by omega
       clear hk
       obtain ⟨ad, hA⟩ : ∃ ad, A = some ad := by
        obtain ⟨ad, e, _⟩ := HX.out.2 (by omega)
        exact ⟨ad, e⟩
       subst hA
       have hcut := (HX.out.cut (k := k) (cap := c) (by omega) hn).take (k := m) (by omega)
       rw [Nat.mul_one, Nat.mul_one, u8s_drop, u8s_take] at hcut
       have HC := Lib.hid hcut
       clear hcut
       have hq : ∀ j, j < 4 → ∀ w', Below w.heap.size w w' → w'.cell? ((ad.add s).add j) = some (.int .u8 (l.getD (s + j) 0).toNat) := by
        intro j hj w' hb
        obtain ⟨ad', e, hlt, hcell⟩ := HX.out.u8_ (k := s + j) (by omega)
        injection e with e
        subst e
        rw [add_of_add, hb.cell (by rw [block_of_add]; exact hlt)]
        exact hcell
       obtain ⟨b0, e0⟩ : ∃ b, b = l.getD s 0 := ⟨_, rfl⟩
       obtain ⟨b1, e1⟩ : ∃ b, b = l.getD (s + 1) 0 := ⟨_, rfl⟩
       obtain ⟨b2, e2⟩ : ∃ b, b = l.getD (s + 2) 0 := ⟨_, rfl⟩
       obtain ⟨b3, e3⟩ : ∃ b, b = l.getD (s + 3) 0 := ⟨_, rfl⟩
       have hq0 := hq 0 (by omega)
       have hq1 := hq 1 (by omega)
       have hq2 := hq 2 (by omega)
       have hq3 := hq 3 (by omega)
       rw [Nat.add_zero, ← e0, show (ad.add s).add 0 = ad.add s by rw [add_of_add, Nat.add_zero]] at hq0
       rw [← e1, show (ad.add s).add 1 = ⟨(ad.add s).block, (ad.add s).off + 1, none⟩ by rfl] at hq1
       rw [← e2, show (ad.add s).add 2 = ⟨(ad.add s).block, (ad.add s).off + 2, none⟩ by rfl] at hq2
       rw [← e3, show (ad.add s).add 3 = ⟨(ad.add s).block, (ad.add s).off + 3, none⟩ by rfl] at hq3
       have HE := Lib.hid (And.intro e0 (And.intro e1 (And.intro e2 e3)))
       have HQ0 := Lib.hid hq0
       have HQ1 := Lib.hid hq1
       have HQ2 := Lib.hid hq2
       have HQ3 := Lib.hid hq3
       clear hq e0 e1 e2 e3 hq0 hq1 hq2 hq3
       have g0 : 0 < k - s := by have := HK.out; omega
       have g1 : (1 : Int) < ((k - s : Nat) : Int) := by have := HK.out; omega
       have g2 : (2 : Int) < ((k - s : Nat) : Int) := by have := HK.out; omega
       have g3 : (3 : Int) < ((k - s : Nat) : Int) := by have := HK.out; omega
       by_cases hck : c = k
       · have hcp := HC.out
         rw [if_pos hck] at hcp
         have HP := Lib.hid hcp
         clear hcp
         go_wp2_with fail
         refine wp_region_noPanic ?_
         refine wp_region_held_drew (S := fun w' => Below w.heap.size w w') (by kernel_rfl) (below_drew w) (fun hH => ?_)
         refine wpAnyH_take (i := 0) (oi := _) (v := ?_) (by simp only [List.getElem?_toArray, List.getElem?_cons_zero]; rfl) (by kernel_rfl) (by kernel_rfl) (by kernel_rfl) (fun _ _ _ h => h) (Or.inl ⟨by rfl, ?_⟩) (by assumption) ?_
         rotate_left
         · intro w' hSw; (try dsimp only at hSw); go_simp; try with_reducible rfl
         try simp only [Act.put, List.setIfInBounds_toArray, List.set_cons_zero, List.set_cons_succ]
         refine wpAnyH_take (i := 2) (oi := _) (v := ?_) (by simp only [List.getElem?_toArray, List.getElem?_cons_zero, List.getElem?_cons_succ]; rfl) (by kernel_rfl) (by kernel_rfl) (by kernel_rfl) (fun _ _ _ h => h) (Or.inl ⟨by rfl, ?_⟩) (by assumption) ?_
         rotate_left
         · intro w' hSw; (try dsimp only at hSw); go_simp; try with_reducible rfl
         try simp only [Act.put, List.setIfInBounds_toArray, List.set_cons_zero, List.set_cons_succ]
         refine wpAnyH_take (i := 3) (oi := _) (v := ?_) (by simp only [List.getElem?_toArray, List.getElem?_cons_zero, List.getElem?_cons_succ]; rfl) (by kernel_rfl) (by kernel_rfl) (by kernel_rfl) (fun _ _ _ h => h) (Or.inl ⟨by rfl, ?_⟩) (by assumption) ?_
         rotate_left
         · intro w' hSw; (try dsimp only at hSw); go_simp; try with_reducible rfl
         try simp only [Act.put, List.setIfInBounds_toArray, List.set_cons_zero, List.set_cons_succ]
         refine wpAnyH_take (i := 4) (oi := _) (v := ?_) (by simp only [List.getElem?_toArray, List.getElem?_cons_zero, List.getElem?_cons_succ]; rfl) (by kernel_rfl) (by kernel_rfl) (by kernel_rfl) (fun _ _ _ h => h) (Or.inl ⟨by rfl, ?_⟩) (by assumption) ?_
         rotate_left
         · intro w' hSw; (try dsimp only at hSw); have hf := HQ0.out _ hSw; go_simp; try with_reducible rfl
         try simp only [Act.put, List.setIfInBounds_toArray, List.set_cons_zero, List.set_cons_succ]
         refine wpAnyH_take (i := 5) (oi := _) (v := ?_) (by simp only [List.getElem?_toArray, List.getElem?_cons_zero, List.getElem?_cons_succ]; rfl) (by kernel_rfl) (by kernel_rfl) (by kernel_rfl) (fun _ _ _ h => h) (Or.inl ⟨by rfl, ?_⟩) (by assumption) ?_
         rotate_left
         · intro w' hSw; (try dsimp only at hSw); go_simp; try with_reducible rfl
         try simp only [Act.put, List.setIfInBounds_toArray, List.set_cons_zero, List.set_cons_succ]
         refine wpAnyH_take (i := 6) (oi := _) (v := ?_) (by simp only [List.getElem?_toArray, List.getElem?_cons_zero, List.getElem?_cons_succ]; rfl) (by kernel_rfl) (by kernel_rfl) (by kernel_rfl) (fun _ _ _ h => h) (Or.inl ⟨by rfl, ?_⟩) (by assumption) ?_
         rotate_left
         · intro w' hSw; (try dsimp only at hSw); go_simp; try with_reducible rfl
         try simp only [Act.put, List.setIfInBounds_toArray, List.set_cons_zero, List.set_cons_succ]
         refine wpAnyH_take (i := 7) (oi := _) (v := ?_) (by simp only [List.getElem?_toArray, List.getElem?_cons_zero, List.getElem?_cons_succ]; rfl) (by kernel_rfl) (by kernel_rfl) (by kernel_rfl) (fun _ _ _ h => h) (Or.inl ⟨by rfl, ?_⟩) (by assumption) ?_
         rotate_left
         · intro w' hSw; (try dsimp only at hSw); go_simp; try with_reducible rfl
         try simp only [Act.put, List.setIfInBounds_toArray, List.set_cons_zero, List.set_cons_succ]
         refine wpAnyH_take (i := 8) (oi := _) (v := ?_) (by simp only [List.getElem?_toArray, List.getElem?_cons_zero, List.getElem?_cons_succ]; rfl) (by kernel_rfl) (by kernel_rfl) (by kernel_rfl) (fun _ _ _ h => h) (Or.inl ⟨by rfl, ?_⟩) (by assumption) ?_
         rotate_left
         · intro w' hSw; (try dsimp only at hSw); have hf := HQ1.out _ hSw; go_simp; try with_reducible rfl
         try simp only [Act.put, List.setIfInBounds_toArray, List.set_cons_zero, List.set_cons_succ]
         refine wpAnyH_take (i := 9) (oi := _) (v := ?_) (by simp only [List.getElem?_toArray, List.getElem?_cons_zero, List.getElem?_cons_succ]; rfl) (by kernel_rfl) (by kernel_rfl) (by kernel_rfl) (fun _ _ _ h => h) (Or.inl ⟨by rfl, ?_⟩) (by assumption) ?_
         rotate_left
         · intro w' hSw; (try dsimp only at hSw); go_simp; try with_reducible rfl
         try simp only [Act.put, List.setIfInBounds_toArray, List.set_cons_zero, List.set_cons_succ]
         refine wpAnyH_take (i := 10) (oi := _) (v := ?_) (by simp only [List.getElem?_toArray, List.getElem?_cons_zero, List.getElem?_cons_succ]; rfl) (by kernel_rfl) (by kernel_rfl) (by kernel_rfl) (fun _ _ _ h => h) (Or.inl ⟨by rfl, ?_⟩) (by assumption) ?_
         rotate_left
         · intro w' hSw; (try dsimp only at hSw); go_simp; try with_reducible rfl
         try simp only [Act.put, List.setIfInBounds_toArray, List.set_cons_zero, List.set_cons_succ]
         refine wpAnyH_take (i := 11) (oi := _) (v := ?_) (by simp only [List.getElem?_toArray, List.getElem?_cons_zero, List.getElem?_cons_succ]; rfl) (by kernel_rfl) (by kernel_rfl) (by kernel_rfl) (fun _ _ _ h => h) (Or.inl ⟨by rfl, ?_⟩) (by assumption) ?_
         rotate_left
         · intro w' hSw; (try dsimp only at hSw); go_simp; try with_reducible rfl
         try simp only [Act.put, List.setIfInBounds_toArray, List.set_cons_zero, List.set_cons_succ]
         refine wpAnyH_take (i := 12) (oi := _) (v := ?_) (by simp only [List.getElem?_toArray, List.getElem?_cons_zero, List.getElem?_cons_succ]; rfl) (by kernel_rfl) (by kernel_rfl) (by kernel_rfl) (fun _ _ _ h => h) (Or.inl ⟨by rfl, ?_⟩) (by assumption) ?_
         rotate_left
         · intro w' hSw; (try dsimp only at hSw); go_simp; try with_reducible rfl
         try simp only [Act.put, List.setIfInBounds_toArray, List.set_cons_zero, List.set_cons_succ]
         refine wpAnyH_take (i := 13) (oi := _) (v := ?_) (by simp only [List.getElem?_toArray, List.getElem?_cons_zero, List.getElem?_cons_succ]; rfl) (by kernel_rfl) (by kernel_rfl) (by kernel_rfl) (fun _ _ _ h => h) (Or.inl ⟨by rfl, ?_⟩) (by assumption) ?_
         rotate_left
         · intro w' hSw; (try dsimp only at hSw); go_simp; try with_reducible rfl
         try simp only [Act.put, List.setIfInBounds_toArray, List.set_cons_zero, List.set_cons_succ]
         refine wpAnyH_take (i := 14) (oi := _) (v := ?_) (by simp only [List.getElem?_toArray, List.getElem?_cons_zero, List.getElem?_cons_succ]; rfl) (by kernel_rfl) (by kernel_rfl) (by kernel_rfl) (fun _ _ _ h => h) (Or.inl ⟨by rfl, ?_⟩) (by assumption) ?_
         rotate_left
         · intro w' hSw; (try dsimp only at hSw); have hf := HQ2.out _ hSw; go_simp; try with_reducible rfl
         try simp only [Act.put, List.setIfInBounds_toArray, List.set_cons_zero, List.set_cons_succ]
         refine wpAnyH_take (i := 15) (oi := _) (v := ?_) (by simp only [List.getElem?_toArray, List.getElem?_cons_zero, List.getElem?_cons_succ]; rfl) (by kernel_rfl) (by kernel_rfl) (by kernel_rfl) (fun _ _ _ h => h) (Or.inl ⟨by rfl, ?_⟩) (by assumption) ?_
         rotate_left
         · intro w' hSw; (try dsimp only at hSw); go_simp; try with_reducible rfl
         try simp only [Act.put, List.setIfInBounds_toArray, List.set_cons_zero, List.set_cons_succ]
         refine wpAnyH_take (i := 16) (oi := _) (v := ?_) (by simp only [List.getElem?_toArray, List.getElem?_cons_zero, List.getElem?_cons_succ]; rfl) (by kernel_rfl) (by kernel_rfl) (by kernel_rfl) (fun _ _ _ h => h) (Or.inl ⟨by rfl, ?_⟩) (by assumption) ?_
         rotate_left
         · intro w' hSw; (try dsimp only at hSw); go_simp; try with_reducible rfl
         try simp only [Act.put, List.setIfInBounds_toArray, List.set_cons_zero, List.set_cons_succ]
         refine wpAnyH_take (i := 17) (oi := _) (v := ?_) (by simp only [List.getElem?_toArray, List.getElem?_cons_zero, List.getElem?_cons_succ]; rfl) (by kernel_rfl) (by kernel_rfl) (by kernel_rfl) (fun _ _ _ h => h) (Or.inl ⟨by rfl, ?_⟩) (by assumption) ?_
         rotate_left
         · intro w' hSw; (try dsimp only at hSw); go_simp; try with_reducible rfl
         try simp only [Act.put, List.setIfInBounds_toArray, List.set_cons_zero, List.set_cons_succ]
         refine wpAnyH_take (i := 18) (oi := _) (v := ?_) (by simp only [List.getElem?_toArray, List.getElem?_cons_zero, List.getElem?_cons_succ]; rfl) (by kernel_rfl) (by kernel_rfl) (by kernel_rfl) (fun _ _ _ h => h) (Or.inl ⟨by rfl, ?_⟩) (by assumption) ?_
         rotate_left
         · intro w' hSw; (try dsimp only at hSw); go_simp; try with_reducible rfl
         try simp only [Act.put, List.setIfInBounds_toArray, List.set_cons_zero, List.set_cons_succ]
         refine wpAnyH_take (i := 19) (oi := _) (v := ?_) (by simp only [List.getElem?_toArray, List.getElem?_cons_zero, List.getElem?_cons_succ]; rfl) (by kernel_rfl) (by kernel_rfl) (by kernel_rfl) (fun _ _ _ h => h) (Or.inl ⟨by rfl, ?_⟩) (by assumption) ?_
         rotate_left
         · intro w' hSw; (try dsimp only at hSw); go_simp; try with_reducible rfl
         try simp only [Act.put, List.setIfInBounds_toArray, List.set_cons_zero, List.set_cons_succ]
         refine wpAnyH_take (i := 20) (oi := _) (v := ?_) (by simp only [List.getElem?_toArray, List.getElem?_cons_zero, List.getElem?_cons_succ]; rfl) (by kernel_rfl) (by kernel_rfl) (by kernel_rfl) (fun _ _ _ h => h) (Or.inl ⟨by rfl, ?_⟩) (by assumption) ?_
         rotate_left
         · intro w' hSw; (try dsimp only at hSw); have hf := HQ3.out _ hSw; go_simp; try with_reducible rfl
         try simp only [Act.put, List.setIfInBounds_toArray, List.set_cons_zero, List.set_cons_succ]
         refine wpAnyH_take (i := 21) (oi := _) (v := ?_) (by simp only [List.getElem?_toArray, List.getElem?_cons_zero, List.getElem?_cons_succ]; rfl) (by kernel_rfl) (by kernel_rfl) (by kernel_rfl) (fun _ _ _ h => h) (Or.inl ⟨by rfl, ?_⟩) (by assumption) ?_
         rotate_left
         · intro w' hSw; (try dsimp only at hSw); go_simp; try with_reducible rfl
         try simp only [Act.put, List.setIfInBounds_toArray, List.set_cons_zero, List.set_cons_succ]
         refine wpAnyH_take (i := 22) (oi := _) (v := ?_) (by simp only [List.getElem?_toArray, List.getElem?_cons_zero, List.getElem?_cons_succ]; rfl) (by kernel_rfl) (by kernel_rfl) (by kernel_rfl) (fun _ _ _ h => h) (Or.inl ⟨by rfl, ?_⟩) (by assumption) ?_
         rotate_left
         · intro w' hSw; (try dsimp only at hSw); go_simp; try with_reducible rfl
         try simp only [Act.put, List.setIfInBounds_toArray, List.set_cons_zero, List.set_cons_succ]
         refine wpAnyH_take (i := 23) (oi := _) (v := ?_) (by simp only [List.getElem?_toArray, List.getElem?_cons_zero, List.getElem?_cons_succ]; rfl) (by kernel_rfl) (by kernel_rfl) (by kernel_rfl) (fun _ _ _ h => h) (Or.inl ⟨by rfl, ?_⟩) (by assumption) ?_
         rotate_left
         · intro w' hSw; (try dsimp only at hSw); go_simp; try with_reducible rfl
         try simp only [Act.put, List.setIfInBounds_toArray, List.set_cons_zero, List.set_cons_succ]
         refine wpAnyH_ready (rs := [1]) (by kernel_rfl) (by simp) (AllReadyH.cons (o := _) (by simp only [List.getElem?_toArray, List.getElem?_cons_zero, List.getElem?_cons_succ]; rfl) (fun K hK => ?_) AllReadyH.nil)
         go_simp
         go_at_call 97
         refine (sum_any _ m _ _ _ HP.out.drew (by unfold maxLen; omega)).mono ?_
         rintro e w1 ⟨rfl, hb1⟩
         have HB1 := Lib.hid ((below_drew w).trans hb1)
         clear hb1
         try go_wp2_with fail
         refine hK.out _ _ (HB1.out) (fun hHeld => ?_)
         clear hK K hH
         have hH := hHeld
         clear hHeld
         try simp only [Act.put, List.setIfInBounds_toArray, List.set_cons_zero, List.set_cons_succ]
         simp only [u32le]
         have hiff := seal_iff (b := l) (s := s) (m := m) (HF.out hs).1 (by omega)
         rw [← HK.out, ← HE.out.1, ← HE.out.2.1, ← HE.out.2.2.1, ← HE.out.2.2.2] at hiff
         have hT3 := HT2.out
         rw [← HK.out] at hT3
         obtain ⟨p, hp⟩ : ∃ p, p = List.take m (List.drop k l) := ⟨_, rfl⟩
         rw [← hp] at hiff hT3 ⊢
         have hpl : p.length = m := by rw [hp, List.length_take, List.length_drop]; omega
         have hrp := HP.out
         rw [← hp] at hrp
         have HRP := Lib.hid ((hrp.below HB1.out).more HB1.out.size)
         have HPL := Lib.hid hpl
         have HT3 := Lib.hid hT3
         clear hp hT3 hrp hpl
         by_cases heq : sumL p = le32 b0 b1 b2 b3
         · have hval := hiff.2 heq
           have HV := Lib.hid hval
           clear hval hiff
           rw [heq]
           have HEQ := Lib.hid heq
           clear heq
           obtain ⟨v, hv⟩ : ∃ v, v = le32 b0 b1 b2 b3 := ⟨_, rfl⟩
           rw [← hv]
           clear hv
           refine wpAnyH_take (i := 24) (oi := _) (v := ?_) (by simp only [List.getElem?_toArray, List.getElem?_cons_zero, List.getElem?_cons_succ]; rfl) (by kernel_rfl) (by kernel_rfl) (by kernel_rfl) (fun _ _ _ h => h) (Or.inl ⟨by rfl, ?_⟩) (by assumption) ?_
           rotate_left
           · intro w' hSw; (try dsimp only at hSw); go_simp; try with_reducible rfl
           try simp only [Act.put, List.setIfInBounds_toArray, List.set_cons_zero, List.set_cons_succ]
           refine wpAnyH_done (by kernel_rfl) ?_ _
           refine NoPanic.normal ?_
           go_wp2_with fail
           refine (clone_any _ m _ p w1 HRP.out (by omega)).mono ?_
           rintro e w2 ⟨A2, c2, rfl, ho, hb⟩
           have HO := Lib.hid (ho.mono HB1.out.size)
           have HB2 := Lib.hid (HB1.out.trans (hb.mono HB1.out.size))
           clear ho hb
           go_wp2_with fail
           go_ret3
           rw [HT3.out, if_pos HV.out]
           refine ⟨⟨A2, c2, by rw [HPL.out]; rfl, ?_⟩, HB2.out⟩
           rw [HPL.out]
           exact HO.out
         · have hval := fun h => heq (hiff.1 h)
           have hne : (((sumL p : Nat) : Int) != ((le32 b0 b1 b2 b3 : Nat) : Int)) = true := by rw [bne_iff_ne]; omega
           have HV := Lib.hid hval
           clear hval hiff heq
           refine wpAnyH_take (i := 24) (oi := _) (v := ?_) (by simp only [List.getElem?_toArray, List.getElem?_cons_zero, List.getElem?_cons_succ]; rfl) (by kernel_rfl) (by kernel_rfl) (by kernel_rfl) (fun _ _ _ h => h) (Or.inl ⟨by rfl, ?_⟩) (by assumption) ?_
           rotate_left
           · intro w' hSw; (try dsimp only at hSw); go_simp; try with_reducible rfl
           try simp only [Act.put, List.setIfInBounds_toArray, List.set_cons_zero, List.set_cons_succ]
           refine wpAnyH_done (by kernel_rfl) ?_ _
           refine NoPanic.normal ?_
           go_wp2_with fail
           go_ret3
           rw [HT3.out, if_neg HV.out]
           exact ⟨rfl, HB1.out⟩
       · have hcp := HC.out
         rw [if_neg hck] at hcp
         have HP := Lib.hid hcp
         clear hcp
         go_wp2_with fail
         refine wp_region_noPanic ?_
         refine wp_region_held_drew (S := fun w' => Below w.heap.size w w') (by kernel_rfl) (below_drew w) (fun hH => ?_)
         refine wpAnyH_take (i := 0) (oi := _) (v := ?_) (by simp only [List.getElem?_toArray, List.getElem?_cons_zero]; rfl) (by kernel_rfl) (by kernel_rfl) (by kernel_rfl) (fun _ _ _ h => h) (Or.inl ⟨by rfl, ?_⟩) (by assumption) ?_
         rotate_left
         · intro w' hSw; (try dsimp only at hSw); go_simp; try with_reducible rfl
         try simp only [Act.put, List.setIfInBounds_toArray, List.set_cons_zero, List.set_cons_succ]
         refine wpAnyH_take (i := 2) (oi := _) (v := ?_) (by simp only [List.getElem?_toArray, List.getElem?_cons_zero, List.getElem?_cons_succ]; rfl) (by kernel_rfl) (by kernel_rfl) (by kernel_rfl) (fun _ _ _ h => h) (Or.inl ⟨by rfl, ?_⟩) (by assumption) ?_
         rotate_left
         · intro w' hSw; (try dsimp only at hSw); go_simp; try with_reducible rfl
         try simp only [Act.put, List.setIfInBounds_toArray, List.set_cons_zero, List.set_cons_succ]
         refine wpAnyH_take (i := 3) (oi := _) (v := ?_) (by simp only [List.getElem?_toArray, List.getElem?_cons_zero, List.getElem?_cons_succ]; rfl) (by kernel_rfl) (by kernel_rfl) (by kernel_rfl) (fun _ _ _ h => h) (Or.inl ⟨by rfl, ?_⟩) (by assumption) ?_
         rotate_left
         · intro w' hSw; (try dsimp only at hSw); go_simp; try with_reducible rfl
         try simp only [Act.put, List.setIfInBounds_toArray, List.set_cons_zero, List.set_cons_succ]
         refine wpAnyH_take (i := 4) (oi := _) (v := ?_) (by simp only [List.getElem?_toArray, List.getElem?_cons_zero, List.getElem?_cons_succ]; rfl) (by kernel_rfl) (by kernel_rfl) (by kernel_rfl) (fun _ _ _ h => h) (Or.inl ⟨by rfl, ?_⟩) (by assumption) ?_
         rotate_left
         · intro w' hSw; (try dsimp only at hSw); have hf := HQ0.out _ hSw; go_simp; try with_reducible rfl
         try simp only [Act.put, List.setIfInBounds_toArray, List.set_cons_zero, List.set_cons_succ]
         refine wpAnyH_take (i := 5) (oi := _) (v := ?_) (by simp only [List.getElem?_toArray, List.getElem?_cons_zero, List.getElem?_cons_succ]; rfl) (by kernel_rfl) (by kernel_rfl) (by kernel_rfl) (fun _ _ _ h => h) (Or.inl ⟨by rfl, ?_⟩) (by assumption) ?_
         rotate_left
         · intro w' hSw; (try dsimp only at hSw); go_simp; try with_reducible rfl
         try simp only [Act.put, List.setIfInBounds_toArray, List.set_cons_zero, List.set_cons_succ]
         refine wpAnyH_take (i := 6) (oi := _) (v := ?_) (by simp only [List.getElem?_toArray, List.getElem?_cons_zero, List.getElem?_cons_succ]; rfl) (by kernel_rfl) (by kernel_rfl) (by kernel_rfl) (fun _ _ _ h => h) (Or.inl ⟨by rfl, ?_⟩) (by assumption) ?_
         rotate_left
         · intro w' hSw; (try dsimp only at hSw); go_simp; try with_reducible rfl
         try simp only [Act.put, List.setIfInBounds_toArray, List.set_cons_zero, List.set_cons_succ]
         refine wpAnyH_take (i := 7) (oi := _) (v := ?_) (by simp only [List.getElem?_toArray, List.getElem?_cons_zero, List.getElem?_cons_succ]; rfl) (by kernel_rfl) (by kernel_rfl) (by kernel_rfl) (fun _ _ _ h => h) (Or.inl ⟨by rfl, ?_⟩) (by assumption) ?_
         rotate_left
         · intro w' hSw; (try dsimp only at hSw); go_simp; try with_reducible rfl
         try simp only [Act.put, List.setIfInBounds_toArray, List.set_cons_zero, List.set_cons_succ]
         refine wpAnyH_take (i := 8) (oi := _) (v := ?_) (by simp only [List.getElem?_toArray, List.getElem?_cons_zero, List.getElem?_cons_succ]; rfl) (by kernel_rfl) (by kernel_rfl) (by kernel_rfl) (fun _ _ _ h => h) (Or.inl ⟨by rfl, ?_⟩) (by assumption) ?_
         rotate_left
         · intro w' hSw; (try dsimp only at hSw); have hf := HQ1.out _ hSw; go_simp; try with_reducible rfl
         try simp only [Act.put, List.setIfInBounds_toArray, List.set_cons_zero, List.set_cons_succ]
         refine wpAnyH_take (i := 9) (oi := _) (v := ?_) (by simp only [List.getElem?_toArray, List.getElem?_cons_zero, List.getElem?_cons_succ]; rfl) (by kernel_rfl) (by kernel_rfl) (by kernel_rfl) (fun _ _ _ h => h) (Or.inl ⟨by rfl, ?_⟩) (by assumption) ?_
         rotate_left
         · intro w' hSw; (try dsimp only at hSw); go_simp; try with_reducible rfl
         try simp only [Act.put, List.setIfInBounds_toArray, List.set_cons_zero, List.set_cons_succ]
         refine wpAnyH_take (i := 10) (oi := _) (v := ?_) (by simp only [List.getElem?_toArray, List.getElem?_cons_zero, List.getElem?_cons_succ]; rfl) (by kernel_rfl) (by kernel_rfl) (by kernel_rfl) (fun _ _ _ h => h) (Or.inl ⟨by rfl, ?_⟩) (by assumption) ?_
         rotate_left
         · intro w' hSw; (try dsimp only at hSw); go_simp; try with_reducible rfl
         try simp only [Act.put, List.setIfInBounds_toArray, List.set_cons_zero, List.set_cons_succ]
         refine wpAnyH_take (i := 11) (oi := _) (v := ?_) (by simp only [List.getElem?_toArray, List.getElem?_cons_zero, List.getElem?_cons_succ]; rfl) (by kernel_rfl) (by kernel_rfl) (by kernel_rfl) (fun _ _ _ h => h) (Or.inl ⟨by rfl, ?_⟩) (by assumption) ?_
         rotate_left
         · intro w' hSw; (try dsimp only at hSw); go_simp; try with_reducible rfl
         try simp only [Act.put, List.setIfInBounds_toArray, List.set_cons_zero, List.set_cons_succ]
         refine wpAnyH_take (i := 12) (oi := _) (v := ?_) (by simp only [List.getElem?_toArray, List.getElem?_cons_zero, List.getElem?_cons_succ]; rfl) (by kernel_rfl) (by kernel_rfl) (by kernel_rfl) (fun _ _ _ h => h) (Or.inl ⟨by rfl, ?_⟩) (by assumption) ?_
         rotate_left
         · intro w' hSw; (try dsimp only at hSw); go_simp; try with_reducible rfl
         try simp only [Act.put, List.setIfInBounds_toArray, List.set_cons_zero, List.set_cons_succ]
         refine wpAnyH_take (i := 13) (oi := _) (v := ?_) (by simp only [List.getElem?_toArray, List.getElem?_cons_zero, List.getElem?_cons_succ]; rfl) (by kernel_rfl) (by kernel_rfl) (by kernel_rfl) (fun _ _ _ h => h) (Or.inl ⟨by rfl, ?_⟩) (by assumption) ?_
         rotate_left
         · intro w' hSw; (try dsimp only at hSw); go_simp; try with_reducible rfl
         try simp only [Act.put, List.setIfInBounds_toArray, List.set_cons_zero, List.set_cons_succ]
         refine wpAnyH_take (i := 14) (oi := _) (v := ?_) (by simp only [List.getElem?_toArray, List.getElem?_cons_zero, List.getElem?_cons_succ]; rfl) (by kernel_rfl) (by kernel_rfl) (by kernel_rfl) (fun _ _ _ h => h) (Or.inl ⟨by rfl, ?_⟩) (by assumption) ?_
         rotate_left
         · intro w' hSw; (try dsimp only at hSw); have hf := HQ2.out _ hSw; go_simp; try with_reducible rfl
         try simp only [Act.put, List.setIfInBounds_toArray, List.set_cons_zero, List.set_cons_succ]
         refine wpAnyH_take (i := 15) (oi := _) (v := ?_) (by simp only [List.getElem?_toArray, List.getElem?_cons_zero, List.getElem?_cons_succ]; rfl) (by kernel_rfl) (by kernel_rfl) (by kernel_rfl) (fun _ _ _ h => h) (Or.inl ⟨by rfl, ?_⟩) (by assumption) ?_
         rotate_left
         · intro w' hSw; (try dsimp only at hSw); go_simp; try with_reducible rfl
         try simp only [Act.put, List.setIfInBounds_toArray, List.set_cons_zero, List.set_cons_succ]
         refine wpAnyH_take (i := 16) (oi := _) (v := ?_) (by simp only [List.getElem?_toArray, List.getElem?_cons_zero, List.getElem?_cons_succ]; rfl) (by kernel_rfl) (by kernel_rfl) (by kernel_rfl) (fun _ _ _ h => h) (Or.inl ⟨by rfl, ?_⟩) (by assumption) ?_
         rotate_left
         · intro w' hSw; (try dsimp only at hSw); go_simp; try with_reducible rfl
         try simp only [Act.put, List.setIfInBounds_toArray, List.set_cons_zero, List.set_cons_succ]
         refine wpAnyH_take (i := 17) (oi := _) (v := ?_) (by simp only [List.getElem?_toArray, List.getElem?_cons_zero, List.getElem?_cons_succ]; rfl) (by kernel_rfl) (by kernel_rfl) (by kernel_rfl) (fun _ _ _ h => h) (Or.inl ⟨by rfl, ?_⟩) (by assumption) ?_
         rotate_left
         · intro w' hSw; (try dsimp only at hSw); go_simp; try with_reducible rfl
         try simp only [Act.put, List.setIfInBounds_toArray, List.set_cons_zero, List.set_cons_succ]
         refine wpAnyH_take (i := 18) (oi := _) (v := ?_) (by simp only [List.getElem?_toArray, List.getElem?_cons_zero, List.getElem?_cons_succ]; rfl) (by kernel_rfl) (by kernel_rfl) (by kernel_rfl) (fun _ _ _ h => h) (Or.inl ⟨by rfl, ?_⟩) (by assumption) ?_
         rotate_left
         · intro w' hSw; (try dsimp only at hSw); go_simp; try with_reducible rfl
         try simp only [Act.put, List.setIfInBounds_toArray, List.set_cons_zero, List.set_cons_succ]
         refine wpAnyH_take (i := 19) (oi := _) (v := ?_) (by simp only [List.getElem?_toArray, List.getElem?_cons_zero, List.getElem?_cons_succ]; rfl) (by kernel_rfl) (by kernel_rfl) (by kernel_rfl) (fun _ _ _ h => h) (Or.inl ⟨by rfl, ?_⟩) (by assumption) ?_
         rotate_left
         · intro w' hSw; (try dsimp only at hSw); go_simp; try with_reducible rfl
         try simp only [Act.put, List.setIfInBounds_toArray, List.set_cons_zero, List.set_cons_succ]
         refine wpAnyH_take (i := 20) (oi := _) (v := ?_) (by simp only [List.getElem?_toArray, List.getElem?_cons_zero, List.getElem?_cons_succ]; rfl) (by kernel_rfl) (by kernel_rfl) (by kernel_rfl) (fun _ _ _ h => h) (Or.inl ⟨by rfl, ?_⟩) (by assumption) ?_
         rotate_left
         · intro w' hSw; (try dsimp only at hSw); have hf := HQ3.out _ hSw; go_simp; try with_reducible rfl
         try simp only [Act.put, List.setIfInBounds_toArray, List.set_cons_zero, List.set_cons_succ]
         refine wpAnyH_take (i := 21) (oi := _) (v := ?_) (by simp only [List.getElem?_toArray, List.getElem?_cons_zero, List.getElem?_cons_succ]; rfl) (by kernel_rfl) (by kernel_rfl) (by kernel_rfl) (fun _ _ _ h => h) (Or.inl ⟨by rfl, ?_⟩) (by assumption) ?_
         rotate_left
         · intro w' hSw; (try dsimp only at hSw); go_simp; try with_reducible rfl
         try simp only [Act.put, List.setIfInBounds_toArray, List.set_cons_zero, List.set_cons_succ]
         refine wpAnyH_take (i := 22) (oi := _) (v := ?_) (by simp only [List.getElem?_toArray, List.getElem?_cons_zero, List.getElem?_cons_succ]; rfl) (by kernel_rfl) (by kernel_rfl) (by kernel_rfl) (fun _ _ _ h => h) (Or.inl ⟨by rfl, ?_⟩) (by assumption) ?_
         rotate_left
         · intro w' hSw; (try dsimp only at hSw); go_simp; try with_reducible rfl
         try simp only [Act.put, List.setIfInBounds_toArray, List.set_cons_zero, List.set_cons_succ]
         refine wpAnyH_take (i := 23) (oi := _) (v := ?_) (by simp only [List.getElem?_toArray, List.getElem?_cons_zero, List.getElem?_cons_succ]; rfl) (by kernel_rfl) (by kernel_rfl) (by kernel_rfl) (fun _ _ _ h => h) (Or.inl ⟨by rfl, ?_⟩) (by assumption) ?_
         rotate_left
         · intro w' hSw; (try dsimp only at hSw); go_simp; try with_reducible rfl
         try simp only [Act.put, List.setIfInBounds_toArray, List.set_cons_zero, List.set_cons_succ]
         refine wpAnyH_ready (rs := [1]) (by kernel_rfl) (by simp) (AllReadyH.cons (o := _) (by simp only [List.getElem?_toArray, List.getElem?_cons_zero, List.getElem?_cons_succ]; rfl) (fun K hK => ?_) AllReadyH.nil)
         go_simp
         go_at_call 97
         refine (sum_any _ m _ _ _ HP.out.drew (by unfold maxLen; omega)).mono ?_
         rintro e w1 ⟨rfl, hb1⟩
         have HB1 := Lib.hid ((below_drew w).trans hb1)
         clear hb1
         try go_wp2_with fail
         refine hK.out _ _ (HB1.out) (fun hHeld => ?_)
         clear hK K hH
         have hH := hHeld
         clear hHeld
         try simp only [Act.put, List.setIfInBounds_toArray, List.set_cons_zero, List.set_cons_succ]
         simp only [u32le]
         have hiff := seal_iff (b := l) (s := s) (m := m) (HF.out hs).1 (by omega)
         rw [← HK.out, ← HE.out.1, ← HE.out.2.1, ← HE.out.2.2.1, ← HE.out.2.2.2] at hiff
         have hT3 := HT2.out
         rw [← HK.out] at hT3
         obtain ⟨p, hp⟩ : ∃ p, p = List.take m (List.drop k l) := ⟨_, rfl⟩
         rw [← hp] at hiff hT3 ⊢
         have hpl : p.length = m := by rw [hp, List.length_take, List.length_drop]; omega
         have hrp := HP.out
         rw [← hp] at hrp
         have HRP := Lib.hid ((hrp.below HB1.out).more HB1.out.size)
         have HPL := Lib.hid hpl
         have HT3 := Lib.hid hT3
         clear hp hT3 hrp hpl
         by_cases heq : sumL p = le32 b0 b1 b2 b3
         · have hval := hiff.2 heq
           have HV := Lib.hid hval
           clear hval hiff
           rw [heq]
           have HEQ := Lib.hid heq
           clear heq
           obtain ⟨v, hv⟩ : ∃ v, v = le32 b0 b1 b2 b3 := ⟨_, rfl⟩
           rw [← hv]
           clear hv
           refine wpAnyH_take (i := 24) (oi := _) (v := ?_) (by simp only [List.getElem?_toArray, List.getElem?_cons_zero, List.getElem?_cons_succ]; rfl) (by kernel_rfl) (by kernel_rfl) (by kernel_rfl) (fun _ _ _ h => h) (Or.inl ⟨by rfl, ?_⟩) (by assumption) ?_
           rotate_left
           · intro w' hSw; (try dsimp only at hSw); go_simp; try with_reducible rfl
           try simp only [Act.put, List.setIfInBounds_toArray, List.set_cons_zero, List.set_cons_succ]
           refine wpAnyH_done (by kernel_rfl) ?_ _
           refine NoPanic.normal ?_
           go_wp2_with fail
           refine (clone_any _ m _ p w1 HRP.out (by omega)).mono ?_
           rintro e w2 ⟨A2, c2, rfl, ho, hb⟩
           have HO := Lib.hid (ho.mono HB1.out.size)
           have HB2 := Lib.hid (HB1.out.trans (hb.mono HB1.out.size))
           clear ho hb
           go_wp2_with fail
           go_ret3
           rw [HT3.out, if_pos HV.out]
           refine ⟨⟨A2, c2, by rw [HPL.out]; rfl, ?_⟩, HB2.out⟩
           rw [HPL.out]
           exact HO.out
         · have hval := fun h => heq (hiff.1 h)
           have hne : (((sumL p : Nat) : Int) != ((le32 b0 b1 b2 b3 : Nat) : Int)) = true := by rw [bne_iff_ne]; omega
           have HV := Lib.hid hval
           clear hval hiff heq
           refine wpAnyH_take (i := 24) (oi := _) (v := ?_) (by simp only [List.getElem?_toArray, List.getElem?_cons_zero, List.getElem?_cons_succ]; rfl) (by kernel_rfl) (by kernel_rfl) (by kernel_rfl) (fun _ _ _ h => h) (Or.inl ⟨by rfl, ?_⟩) (by assumption) ?_
           rotate_left
           · intro w' hSw; (try dsimp only at hSw); go_simp; try with_reducible rfl
           try simp only [Act.put, List.setIfInBounds_toArray, List.set_cons_zero, List.set_cons_succ]
           refine wpAnyH_done (by kernel_rfl) ?_ _
           refine NoPanic.normal ?_
           go_wp2_with fail
           go_ret3
           rw [HT3.out, if_neg HV.out]
           exact ⟨rfl, HB1.out⟩
end Go.Proofs.YtacbkganjkipdaaGreatDoor
namespace Go.Proofs.YtacbkganjkipdaaGreatDoor
def scanN : Nat → List UInt8 → List (List UInt8) × Nat
 | 0, _ => ([], 0)
 | k + 1, b => match takeF b with
  | none => ([], 0)
  | some (p, n) => (p :: (scanN k (b.drop n)).1, n + (scanN k (b.drop n)).2)
def scanF (b : List UInt8) : List (List UInt8) × Nat := scanN b.length b
theorem scanN_more : ∀ (k j : Nat) (b : List UInt8), b.length ≤ k → b.length ≤ j → scanN k b = scanN j b
 | 0, 0, _, _, _ => rfl
 | 0, j + 1, b, hk, _ => by
  have hb : b = [] := List.eq_nil_of_length_eq_zero (by omega)
  subst hb
  cases h : takeF [] with
  | none => simp [scanN, h]
  | some x =>
   have := takeF_size (p := x.1) (k := x.2) h
   simp at this
   omega
 | k + 1, 0, b, _, hj => by
  have hb : b = [] := List.eq_nil_of_length_eq_zero (by omega)
  subst hb
  cases h : takeF [] with
  | none => simp [scanN, h]
  | some x =>
   have := takeF_size (p := x.1) (k := x.2) h
   simp at this
   omega
 | k + 1, j + 1, b, hk, hj => by
  cases h : takeF b with
  | none => simp [scanN, h]
  | some x =>
   have h1 := takeF_size (p := x.1) (k := x.2) h
   simp only [scanN, h]
   rw [scanN_more k j (b.drop x.2) (by rw [List.length_drop]; omega) (by rw [List.length_drop]; omega)]
theorem scanF_none {b : List UInt8} (h : takeF b = none) : scanF b = ([], 0) := by
 unfold scanF
 cases e : b.length with
 | zero => rfl
 | succ k => simp [scanN, h]
theorem scanF_some {b p : List UInt8} {n : Nat} (h : takeF b = some (p, n)) : scanF b = (p :: (scanF (b.drop n)).1, n + (scanF (b.drop n)).2) := by
 have h1 := takeF_size h
 unfold scanF
 obtain ⟨k, hk⟩ : ∃ k, b.length = k + 1 := ⟨b.length - 1, by omega⟩
 rw [hk]
 simp only [scanN, h]
 rw [scanN_more k (b.drop n).length (b.drop n) (by rw [List.length_drop]; omega) (Nat.le_refl _)]
theorem scanF_size (b : List UInt8) : 5 * (scanF b).1.length ≤ (scanF b).2 ∧ (scanF b).2 ≤ b.length := by
 suffices H : ∀ k (b : List UInt8), b.length ≤ k → 5 * (scanF b).1.length ≤ (scanF b).2 ∧ (scanF b).2 ≤ b.length from H _ b (Nat.le_refl _)
 intro k
 induction k with
 | zero =>
  intro b hb
  cases h : takeF b with
  | none => rw [scanF_none h]; simp
  | some x => have := takeF_size (p := x.1) (k := x.2) h; omega
 | succ k ih =>
  intro b hb
  cases h : takeF b with
  | none => rw [scanF_none h]; simp
  | some x =>
   have h1 := takeF_size (p := x.1) (k := x.2) h
   rw [scanF_some (p := x.1) (n := x.2) h]
   have h2 := ih (b.drop x.2) (by rw [List.length_drop]; omega)
   rw [List.length_drop] at h2
   simp only [List.length_cons]
   omega
theorem scanF_nil : scanF [] = ([], 0) := rfl
end Go.Proofs.YtacbkganjkipdaaGreatDoor
namespace Go.Proofs.YtacbkganjkipdaaGreatDoor
open Go.RowKit
theorem size_u8 : (Tryz.prog.info? 5).map (·.size) = some 1 := by kernel_rfl
theorem elem_rows : Elem Tryz.prog 48 47 1 24 := elem_of (by kernel_rfl)
def RowOf (w : World) (base : Nat) (v : Value) (l : List UInt8) : Prop := ∃ A c, v = .slice A l.length c ∧ Own w base 5 1 A l.length c (u8s l)
def vBlock : Value → Option Nat
 | .slice A _ _ => blockOf A
 | _ => none
structure OwnRows (w : World) (base : Nat) (vs : List Value) (ls : List (List UInt8)) : Prop where
 len : vs.length = ls.length
 row : ∀ (i : Nat) v l, vs[i]? = some v → ls[i]? = some l → RowOf w base v l
 apart : ∀ (i j : Nat) v v' g g', i < j → vs[i]? = some v → vs[j]? = some v' → vBlock v = some g → vBlock v' = some g' → g < g'
section
variable {w w' : World} {base e n c : Nat} {A : Option Addr} {vs : List Value} {ls : List (List UInt8)} {v : Value} {l : List UInt8}
theorem RowOf.ge (h : RowOf w base v l) : ∀ g, vBlock v = some g → base ≤ g ∧ g < w.heap.size := by
 obtain ⟨A, c, rfl, h⟩ := h
 exact h.ge
theorem RowOf.upd {S : Nat → Prop} (h : RowOf w base v l) (hu : Upd S w w') (hn : ∀ g, vBlock v = some g → ¬ S g) : RowOf w' base v l := by
 obtain ⟨A, c, rfl, h⟩ := h
 exact ⟨A, c, rfl, h.upd hu hn⟩
theorem RowOf.mono {base' : Nat} (h : RowOf w base v l) (hb : base' ≤ base) : RowOf w base' v l := by
 obtain ⟨A, c, rfl, h⟩ := h
 exact ⟨A, c, rfl, h.mono hb⟩
theorem OwnRows.nil_ (w : World) (base : Nat) : OwnRows w base [] [] := ⟨rfl, fun _ _ _ h => by simp at h, fun _ _ _ _ _ _ _ h => by simp at h⟩
theorem OwnRows.upd {S : Nat → Prop} (h : OwnRows w base vs ls) (hu : Upd S w w') (hn : ∀ v ∈ vs, ∀ g, vBlock v = some g → ¬ S g) : OwnRows w' base vs ls :=
 ⟨h.len, fun i v l hv hl => (h.row i v l hv hl).upd hu (hn v (List.mem_of_getElem? hv)), h.apart⟩
theorem OwnRows.below {B : Nat} (h : OwnRows w base vs ls) (hb : Below B w w') (hB : w.heap.size ≤ B) : OwnRows w' base vs ls :=
 h.upd (S := fun _ => False) (Upd.of_below (hb.mono hB)) (fun _ _ _ _ h => h)
theorem OwnRows.mem_row (h : OwnRows w base vs ls) (hv : v ∈ vs) : ∃ l, RowOf w base v l := by
 obtain ⟨i, hi, e⟩ := List.mem_iff_getElem.1 hv
 have hl : i < ls.length := by rw [← h.len]; exact hi
 exact ⟨ls[i], h.row i v _ (by rw [List.getElem?_eq_getElem hi, e]) (List.getElem?_eq_getElem hl)⟩
theorem OwnRows.ge (h : OwnRows w base vs ls) (hv : v ∈ vs) : ∀ g, vBlock v = some g → base ≤ g ∧ g < w.heap.size := by
 obtain ⟨l, hr⟩ := h.mem_row hv
 exact hr.ge
theorem OwnRows.off (h : OwnRows w base vs ls) {base' e' size' n' c' : Nat} {A' : Option Addr} {xs' : List Value} (ho : Own w base' e' size' A' n' c' xs') (hne : 5 ≠ e') (hv : v ∈ vs) : ∀ g, vBlock v = some g → blockOf A' ≠ some g := by
 obtain ⟨l, A, c, rfl, hr⟩ := h.mem_row hv
 exact hr.apart ho hne
theorem OwnRows.snoc {B : Nat} (h : OwnRows w base vs ls) (hr : RowOf w B v l) (hB : base ≤ B) (hlt : ∀ u ∈ vs, ∀ g, vBlock u = some g → g < B) : OwnRows w base (vs ++ [v]) (ls ++ [l]) := by
 have hl := h.len
 refine ⟨by simp [hl], fun i u k hu hk => ?_, fun i j u u' g g' hij hu hu' hg hg' => ?_⟩
 · rcases Nat.lt_or_ge i vs.length with hi | hi
   · rw [List.getElem?_append_left hi] at hu
     rw [List.getElem?_append_left (by omega)] at hk
     exact h.row i u k hu hk
   · rw [List.getElem?_append_right hi] at hu
     rw [List.getElem?_append_right (by omega)] at hk
     have hi0 : i - vs.length = 0 := by
      have := (List.getElem?_eq_some_iff.1 hu).1
      simp at this
      omega
     rw [hi0] at hu
     rw [show i - ls.length = 0 by omega] at hk
     simp only [List.getElem?_cons_zero, Option.some.injEq] at hu hk
     subst hu hk
     exact hr.mono hB
 · have hj : j < vs.length + 1 := by
    have := (List.getElem?_eq_some_iff.1 hu').1
    simpa using this
   rw [List.getElem?_append_left (by omega)] at hu
   rcases Nat.lt_or_ge j vs.length with hj2 | hj2
   · rw [List.getElem?_append_left hj2] at hu'
     exact h.apart i j u u' g g' hij hu hu' hg hg'
   · rw [List.getElem?_append_right hj2, show j - vs.length = 0 by omega] at hu'
     simp only [List.getElem?_cons_zero, Option.some.injEq] at hu'
     subst hu'
     have := hlt u (List.mem_of_getElem? hu) g hg
     have := (hr.ge g' hg').1
     omega
end
def TookR (w w' : World) (r : Option (List UInt8 × Nat)) (e : Ending) : Prop :=
 match r with
 | none => e = .returned (.tuple #[.slice none 0 0, .int .i64 0])
 | some (p, k) => ∃ A c, e = .returned (.tuple #[.slice A p.length c, .int .i64 k]) ∧ Own w' w.heap.size 5 1 A p.length c (u8s p)
set_option maxRecDepth 100000 in
set_option maxHeartbeats 4000000 in
theorem refTake_any (A : Option Addr) (n c : Nat) (l : List UInt8) (w0 : World) (hx : Reads w0 w0.heap.size 1 A n (u8s l)) (hn : n ≤ c) (hc : n ≤ maxLen) :
 Calls Tryz.prog 109 #[.slice A n c] w0 fun e w' => TookR w0 w' (takeF l) e ∧ Below w0.heap.size w0 w' := by
 have hlen := hx.len_
 have hcm : n ≤ 9223372036854775807 := by unfold maxLen at hc; omega
 have HX := Lib.hid hx
 clear hx
 have hle := takeU_le l
 have ht : takeF l = if (takeU l).2 = 0 ∨ 4096 < (takeU l).1 ∨ l.length < (takeU l).2 + 4 + (takeU l).1 then none
  else if sealL ((l.drop ((takeU l).2 + 4)).take (takeU l).1) = l.take ((takeU l).2 + 4 + (takeU l).1) then some ((l.drop ((takeU l).2 + 4)).take (takeU l).1, (takeU l).2 + 4 + (takeU l).1) else none := rfl
 go_enter Tryz.func109, Tryz.ntmps109
 go_wp2_with fail
 refine (refTakeUint_any A n c l w0 HX.out hn hc).mono ?_
 rintro e w ⟨rfl, hb⟩
 generalize takeU l = t at ht hle ⊢
 obtain ⟨m, s⟩ := t
 dsimp only at ht hle ⊢
 have HT := Lib.hid ht
 have HB := Lib.hid hb
 have HR := Lib.hid ((HX.out.below hb).more hb.size)
 clear ht hb
 obtain ⟨hs1, hs2, hm1⟩ := hle
 by_cases hs : s = 0
 · have h1 : ((s : Int) == 0) = true := by rw [beq_iff_eq]; omega
   go_wp2_with fail
   go_ret2
   rw [HT.out, if_pos (.inl hs)]
   exact ⟨rfl, HB.out⟩
 · have h1 : ((s : Int) == 0) = false := by rw [beq_eq_false_iff_ne]; omega
   by_cases hm4 : (4096 : Int) < (m : Int)
   · go_wp2_with fail
     go_ret2
     rw [HT.out, if_pos (.inr (.inl (by omega)))]
     exact ⟨rfl, HB.out⟩
   · obtain ⟨k, hk⟩ : ∃ k, k = s + 4 := ⟨_, rfl⟩
     have hki : (s : Int) + 4 = (k : Int) := by omega
     obtain ⟨K, hK⟩ : ∃ K, K = k + m := ⟨_, rfl⟩
     have hKi : (k : Int) + (m : Int) = (K : Int) := by omega
     by_cases hlt : (n : Int) < (K : Int)
     · have HKK := Lib.hid (And.intro hk hK)
       clear hk hK
       go_wp2_with fail
       go_ret2
       rw [HT.out, if_pos (.inr (.inr (by have := HKK.out; omega)))]
       exact ⟨rfl, HB.out⟩
     · have hT2 := HT.out
       rw [if_neg (by omega)] at hT2
       rw [← hk, ← hK] at hT2
       obtain ⟨p, hp⟩ : ∃ p, p = (l.drop k).take m := ⟨_, rfl⟩
       have hpl : p.length = m := by rw [hp, List.length_take, List.length_drop]; omega
       rw [← hp] at hT2
       have hKn : K ≤ n := by omega
       obtain ⟨PA, hsl, hcut⟩ := cut_both (P := Tryz.prog) (lo := k) (hi := K) Tryz.underlying47 size_u8 A (c := c) (by omega) hKn hn
       have hsh := cut_high (P := Tryz.prog) (hi := K) (c := c) (n := n) Tryz.underlying47 size_u8 A (by omega)
       have hc1 := hcut _ _ _ HR.out
       have hKm : K - k = m := by omega
       rw [Nat.mul_one, Nat.mul_one, u8s_drop, hKm, u8s_take, ← hp] at hc1
       rw [hKm] at hsl
       have hr3 := HR.out.take (k := K) hKn
       rw [Nat.mul_one, u8s_take] at hr3
       have HK3 := Lib.hid hr3
       have HC := Lib.hid hc1
       have HT2 := Lib.hid hT2
       have HPL := Lib.hid hpl
       have hm2 : m ≤ 4096 := by omega
       have HKK := Lib.hid hK
       clear hcut hc1 hT2 hp hpl hK hk hr3 hKm
       go_wp2_with (at_builtin; refine halt_ ?_)
       refine unhalt ?_
       refine wpList_app elem_u8 (Own.empty w _ 1) (HC.out.alloc (Nat.le_refl _) _) (u8s_one p) (by omega) (by simp) _ _ rfl rfl rfl rfl ?_
       intro A2 c2 w2 ho hup hat2
       rw [Nat.zero_add, List.nil_append] at ho
       have hb2 : Below w.heap.size w w2 := (Upd.trans (S := fun _ => False) ((Upd.refl _ w).alloc _) hup (by intro i hi e; simp [blockOf] at e; omega)).none_
       have HO2 := Lib.hid (ho.mono HB.out.size)
       have HB2 := Lib.hid (HB.out.trans (hb2.mono HB.out.size))
       have HK4 := Lib.hid (((HK3.out.keeps (Nat.le_refl _)).on hb2).and ho.keepsR)
       clear ho hup hat2 hb2
       go_wp2_with fail
       have hw1 : IntKind.i64.wrap (k : Int) = (k : Int) := IntWalk.i64_in _ (by omega)
       have hw2 : IntKind.i64.wrap (m : Int) = (m : Int) := IntWalk.i64_in _ (by omega)
       have hw3 : IntKind.i64.wrap (K : Int) = (K : Int) := IntWalk.i64_in _ (by omega)
       refine wp_region_noPanic ?_
       refine wp_region_held_drew (S := fun w' => Below w2.heap.size w2 w') (by kernel_rfl) (below_drew w2) (fun hH => ?_)
       refine wpAnyH_take (i := 0) (oi := _) (v := ?_) (by simp only [List.getElem?_toArray, List.getElem?_cons_zero]; rfl) (by kernel_rfl) (by kernel_rfl) (by kernel_rfl) (fun _ _ _ h => h) (Or.inl ⟨by rfl, ?_⟩) (by assumption) ?_
       rotate_left
       · intro w' hSw; (try dsimp only at hSw); go_simp; try with_reducible rfl
       try simp only [Act.put, List.setIfInBounds_toArray, List.set_cons_zero, List.set_cons_succ]
       refine wpAnyH_take (i := 3) (oi := _) (v := ?_) (by simp only [List.getElem?_toArray, List.getElem?_cons_zero, List.getElem?_cons_succ]; rfl) (by kernel_rfl) (by kernel_rfl) (by kernel_rfl) (fun _ _ _ h => h) (Or.inl ⟨by rfl, ?_⟩) (by assumption) ?_
       rotate_left
       · intro w' hSw; (try dsimp only at hSw); go_simp; try with_reducible rfl
       try simp only [Act.put, List.setIfInBounds_toArray, List.set_cons_zero, List.set_cons_succ]
       refine wpAnyH_take (i := 4) (oi := _) (v := ?_) (by simp only [List.getElem?_toArray, List.getElem?_cons_zero, List.getElem?_cons_succ]; rfl) (by kernel_rfl) (by kernel_rfl) (by kernel_rfl) (fun _ _ _ h => h) (Or.inl ⟨by rfl, ?_⟩) (by assumption) ?_
       rotate_left
       · intro w' hSw; (try dsimp only at hSw); go_simp; try with_reducible rfl
       try simp only [Act.put, List.setIfInBounds_toArray, List.set_cons_zero, List.set_cons_succ]
       refine wpAnyH_take (i := 5) (oi := _) (v := ?_) (by simp only [List.getElem?_toArray, List.getElem?_cons_zero, List.getElem?_cons_succ]; rfl) (by kernel_rfl) (by kernel_rfl) (by kernel_rfl) (fun _ _ _ h => h) (Or.inl ⟨by rfl, ?_⟩) (by assumption) ?_
       rotate_left
       · intro w' hSw; (try dsimp only at hSw); go_simp; try with_reducible rfl
       try simp only [Act.put, List.setIfInBounds_toArray, List.set_cons_zero, List.set_cons_succ]
       refine wpAnyH_take (i := 6) (oi := _) (v := ?_) (by simp only [List.getElem?_toArray, List.getElem?_cons_zero, List.getElem?_cons_succ]; rfl) (by kernel_rfl) (by kernel_rfl) (by kernel_rfl) (fun _ _ _ h => h) (Or.inl ⟨by rfl, ?_⟩) (by assumption) ?_
       rotate_left
       · intro w' hSw; (try dsimp only at hSw); go_simp; try with_reducible rfl
       try simp only [Act.put, List.setIfInBounds_toArray, List.set_cons_zero, List.set_cons_succ]
       refine wpAnyH_take (i := 7) (oi := _) (v := ?_) (by simp only [List.getElem?_toArray, List.getElem?_cons_zero, List.getElem?_cons_succ]; rfl) (by kernel_rfl) (by kernel_rfl) (by kernel_rfl) (fun _ _ _ h => h) (Or.inl ⟨by rfl, ?_⟩) (by assumption) ?_
       rotate_left
       · intro w' hSw; (try dsimp only at hSw); go_simp; try with_reducible rfl
       try simp only [Act.put, List.setIfInBounds_toArray, List.set_cons_zero, List.set_cons_succ]
       refine wpAnyH_take (i := 8) (oi := _) (v := ?_) (by simp only [List.getElem?_toArray, List.getElem?_cons_zero, List.getElem?_cons_succ]; rfl) (by kernel_rfl) (by kernel_rfl) (by kernel_rfl) (fun _ _ _ h => h) (Or.inl ⟨by rfl, ?_⟩) (by assumption) ?_
       rotate_left
       · intro w' hSw; (try dsimp only at hSw); go_simp; try with_reducible rfl
       try simp only [Act.put, List.setIfInBounds_toArray, List.set_cons_zero, List.set_cons_succ]
       refine wpAnyH_take (i := 9) (oi := _) (v := ?_) (by simp only [List.getElem?_toArray, List.getElem?_cons_zero, List.getElem?_cons_succ]; rfl) (by kernel_rfl) (by kernel_rfl) (by kernel_rfl) (fun _ _ _ h => h) (Or.inl ⟨by rfl, ?_⟩) (by assumption) ?_
       rotate_left
       · intro w' hSw; (try dsimp only at hSw); go_simp; try with_reducible rfl
       try simp only [Act.put, List.setIfInBounds_toArray, List.set_cons_zero, List.set_cons_succ]
       refine wpAnyH_take (i := 10) (oi := _) (v := ?_) (by simp only [List.getElem?_toArray, List.getElem?_cons_zero, List.getElem?_cons_succ]; rfl) (by kernel_rfl) (by kernel_rfl) (by kernel_rfl) (fun _ _ _ h => h) (Or.inl ⟨by rfl, ?_⟩) (by assumption) ?_
       rotate_left
       · intro w' hSw; (try dsimp only at hSw); have hf := str_u8 (c := c) (HK4.out.at_ hSw).1; go_simp; try with_reducible rfl
       try simp only [Act.put, List.setIfInBounds_toArray, List.set_cons_zero, List.set_cons_succ]
       refine wpAnyH_ready (rs := [1]) (by kernel_rfl) (by simp) (AllReadyH.cons (o := _) (by simp only [List.getElem?_toArray, List.getElem?_cons_zero, List.getElem?_cons_succ]; rfl) (fun K hK => ?_) AllReadyH.nil)
       go_simp
       go_at_call 72
       refine (refSeal_any A2 m c2 p _ HK4.out.drew.now.2 (by omega)).mono ?_
       rintro e w3 ⟨A3, c3, rfl, ho, hb⟩
       have HB3 := Lib.hid ((below_drew w2).trans hb)
       have HK5 := Lib.hid ((HK4.out.on HB3.out).and ho.keepsR)
       clear ho hb
       try go_wp2_with fail
       refine hK.out _ _ (HB3.out) (fun hHeld => ?_)
       clear hK K hH
       have hH := hHeld
       clear hHeld
       try simp only [Act.put, List.setIfInBounds_toArray, List.set_cons_zero, List.set_cons_succ]
       refine wpAnyH_more (S' := fun w' => Below w3.heap.size w3 w') (fun w' h => HB3.out.trans (h.mono HB3.out.size)) _ _ _ _ ?_
       clear hH
       have hH := Below.refl w3.heap.size w3
       refine wpAnyH_take (i := 2) (oi := _) (v := ?_) (by simp only [List.getElem?_toArray, List.getElem?_cons_zero, List.getElem?_cons_succ]; rfl) (by kernel_rfl) (by kernel_rfl) (by kernel_rfl) (fun _ _ _ h => h) (Or.inl ⟨by rfl, ?_⟩) (by assumption) ?_
       rotate_left
       · intro w' hSw; (try dsimp only at hSw); have hf := str_u8 (c := c3) (HK5.out.at_ hSw).2; go_simp; try with_reducible rfl
       try simp only [Act.put, List.setIfInBounds_toArray, List.set_cons_zero, List.set_cons_succ]
       clear hw1 hw2 hw3
       have hbz : Below w0.heap.size w0 w3 := HB2.out.trans (HB3.out.mono HB2.out.size)
       have HBZ := Lib.hid hbz
       clear hbz
       by_cases heq : sealL p = l.take K
       · have hs := l_same heq
         have HEQ := Lib.hid heq
         clear heq
         refine wpAnyH_take (i := 11) (oi := _) (v := ?_) (by simp only [List.getElem?_toArray, List.getElem?_cons_zero, List.getElem?_cons_succ]; rfl) (by kernel_rfl) (by kernel_rfl) (by kernel_rfl) (fun _ _ _ h => h) (Or.inl ⟨by rfl, ?_⟩) (by assumption) ?_
         rotate_left
         · intro w' hSw; (try dsimp only at hSw); go_simp; try with_reducible rfl
         try simp only [Act.put, List.setIfInBounds_toArray, List.set_cons_zero, List.set_cons_succ]
         refine wpAnyH_done (by kernel_rfl) ?_ _
         refine NoPanic.normal ?_
         go_wp2_with fail
         go_ret2
         rw [HT2.out, if_pos HEQ.out]
         refine ⟨⟨A2, c2, by rw [HPL.out]; rfl, ?_⟩, HBZ.out⟩
         rw [HPL.out]
         exact HO2.out.below HB3.out (Nat.le_refl _)
       · have hs := l_other heq
         have HEQ := Lib.hid heq
         clear heq
         refine wpAnyH_take (i := 11) (oi := _) (v := ?_) (by simp only [List.getElem?_toArray, List.getElem?_cons_zero, List.getElem?_cons_succ]; rfl) (by kernel_rfl) (by kernel_rfl) (by kernel_rfl) (fun _ _ _ h => h) (Or.inl ⟨by rfl, ?_⟩) (by assumption) ?_
         rotate_left
         · intro w' hSw; (try dsimp only at hSw); go_simp; try with_reducible rfl
         try simp only [Act.put, List.setIfInBounds_toArray, List.set_cons_zero, List.set_cons_succ]
         refine wpAnyH_done (by kernel_rfl) ?_ _
         refine NoPanic.normal ?_
         go_wp2_with fail
         go_ret2
         rw [HT2.out, if_neg HEQ.out]
         exact ⟨rfl, HBZ.out⟩
set_option maxRecDepth 100000 in
set_option maxHeartbeats 4000000 in
theorem refScan_any (A : Option Addr) (n c : Nat) (b : List UInt8) (w : World) (hx : Reads w w.heap.size 1 A n (u8s b)) (hn : n ≤ c) (hc : n ≤ maxLen) (hn2 : n ≤ 20000000000000) :
 Calls Tryz.prog 68 #[.slice A n c] w fun e w' => ∃ D d vs, e = .returned (.tuple #[.slice D (scanF b).1.length d, .int .i64 (scanF b).2]) ∧
  Own w' w.heap.size 47 1 D (scanF b).1.length d vs ∧ OwnRows w' w.heap.size vs (scanF b).1 ∧ Below w.heap.size w w' := by
 have hlen := hx.len_
 have hcm : n ≤ 9223372036854775807 := by unfold maxLen at hc; omega
 have HX := Lib.hid hx
 have HL := Lib.hid hlen
 clear hx hlen
 go_enter Tryz.func68, Tryz.ntmps68
 go_wp2_with fail
 go_loopw [4, 5] (fun ov av wr => ∃ (D : Option Addr) (d at_ : Nat) (vs : List Value) (ls : List (List UInt8)), ov = .slice D ls.length d ∧ av = .int .i64 at_ ∧ at_ ≤ n ∧ 5 * ls.length ≤ at_ ∧ Own wr w.heap.size 47 1 D ls.length d vs ∧ OwnRows wr w.heap.size vs ls ∧ Below w.heap.size w wr ∧
  (scanF b).1 = ls ++ (scanF (b.drop at_)).1 ∧ (scanF b).2 = at_ + (scanF (b.drop at_)).2) (fun _ av _ => n - (intOf av).toNat)
 case atStart => exact ⟨none, 0, 0, [], [], rfl, rfl, by omega, by simp, Own.nil_ _ _ _ _, OwnRows.nil_ _ _, Below.refl _ _, by simp, by simp⟩
 case round =>
  obtain ⟨D, d, at_, vs, ls, rfl, rfl, hat, h5, ho, hr, hb, hs1, hs2⟩ := hrel
  have HO := Lib.hid ho
  have HR := Lib.hid hr
  have HB := Lib.hid hb
  have HS := Lib.hid (And.intro hs1 hs2)
  clear ho hr hb hs1 hs2
  by_cases hlt : (at_ : Int) < (n : Int)
  · obtain ⟨PA, hsl, hcut⟩ := cut_low (P := Tryz.prog) Tryz.underlying47 size_u8 A (c := c) hat hn
    have hc1 := hcut _ _ _ ((HX.out.below HB.out).more HB.out.size)
    rw [Nat.mul_one, u8s_drop] at hc1
    have HC := Lib.hid hc1
    clear hcut hc1
    go_wp2_with fail
    refine (refTake_any _ (n - at_) (c - at_) _ wr HC.out (by omega) (by unfold maxLen; omega)).mono ?_
    cases hf : takeF (b.drop at_) with
    | none =>
     rintro e w1 ⟨rfl, hb⟩
     have hs := scanF_none hf
     have HS2 := Lib.hid (And.intro HS.out hs)
     have HB1 := Lib.hid hb
     clear hf hs hb
     go_wp2_with fail
     go_ret2
     have e1 := HS2.out.1.1
     have e2 := HS2.out.1.2
     rw [HS2.out.2] at e1 e2
     simp only [List.append_nil, Nat.add_zero] at e1 e2
     rw [e1, e2]
     exact ⟨D, d, vs, rfl, HO.out.below HB1.out (Nat.le_refl _), HR.out.below HB1.out (Nat.le_refl _), HB.out.trans (HB1.out.mono HB.out.size)⟩
    | some x =>
     obtain ⟨p, k⟩ := x
     rintro e w1 ⟨⟨A1, c1, rfl, ho⟩, hb⟩
     have hs := scanF_some hf
     have hk := takeF_size hf
     rw [List.length_drop, HL.out] at hk
     obtain ⟨hk1, hk2, hk3, hk4, -, -⟩ := hk
     have HS2 := Lib.hid (And.intro HS.out hs)
     have HB1 := Lib.hid hb
     have HO1 := Lib.hid ho
     have hz1 := hb.size
     have HOO := Lib.hid (HO.out.below hb (Nat.le_refl _))
     have HRR := Lib.hid (HR.out.below hb (Nat.le_refl _))
     have hz0 := HB.out.size
     have hk0 : ((k : Int) == 0) = false := by rw [beq_eq_false_iff_ne]; omega
     clear hf hs hb ho
     go_wp2_with (at_builtin; refine halt_ ?_)
     refine unhalt ?_
     refine wpList_app elem_rows (HOO.out.alloc _) (reads_new (cs := #[_]) w1 47 1 rfl) (by simp [Value.oneCell']) (by omega) (by simp; omega) _ _ rfl rfl rfl rfl ?_
     intro D2 d2 w2 ho2 hup hat2
     have hoff : ∀ i, blockOf D = some i → w.heap.size ≤ i := fun i hi => (HOO.out.ge i hi).1
     have HB2 := Lib.hid (((HB.out.trans (HB1.out.mono hz0)).alloc (by omega) _).trans (hup.to_below (by simp; omega) (fun i hi e => by have := hoff _ e; omega)))
     have hr2 : OwnRows w2 w.heap.size (vs ++ [.slice A1 p.length c1]) (ls ++ [p]) := by
      have h1 := HRR.out.snoc (B := wr.heap.size) ⟨A1, c1, rfl, HO1.out⟩ hz0 (fun u hu g hg => (HR.out.ge hu g hg).2)
      refine (h1.upd ((Upd.refl (fun k => blockOf D = some k) w1).alloc (.cells #[.slice A1 p.length c1] 47)) (fun v hv g hg hD => h1.off HOO.out (by decide) hv g hg hD)).upd hup (fun v hv g hg hD => h1.off HOO.out (by decide) hv g hg hD)
     have HR2 := Lib.hid hr2
     have HO2 := Lib.hid ho2
     clear hr2 ho2 hup hat2 hoff
     go_wp2_with fail
     go_roundw
     case rel =>
      refine ⟨D2, d2, at_ + k, vs ++ [.slice A1 p.length c1], ls ++ [p], by simp, by simp, by omega, by simp; omega, by simpa using HO2.out, HR2.out, HB2.out, ?_, ?_⟩
      · rw [HS2.out.1.1, HS2.out.2, List.drop_drop, List.append_assoc]; rfl
      · rw [HS2.out.1.2, HS2.out.2, List.drop_drop, Nat.add_assoc]
     case measure => simp [intOf]; omega
  · go_wp2_with fail
    go_ret2
    have e0 : b.drop at_ = [] := List.drop_of_length_le (by have := HL.out; omega)
    have e1 := HS.out.1
    have e2 := HS.out.2
    rw [e0, scanF_nil] at e1 e2
    simp only [List.append_nil, Nat.add_zero] at e1 e2
    rw [e1, e2]
    exact ⟨D, d, rfl, vs, HO.out, HR.out, HB.out⟩
set_option maxRecDepth 100000 in
set_option maxHeartbeats 4000000 in
theorem scan_any (A : Option Addr) (n c : Nat) (b : List UInt8) (w : World) (hx : Reads w w.heap.size 1 A n (u8s b)) (hn : n ≤ c) (hc : c ≤ maxLen) (hn2 : n ≤ 20000000000000) :
 Calls Tryz.prog 46 #[.slice A n c] w fun e w' => ∃ D d vs, e = .returned (.tuple #[.slice D (scanF b).1.length d, .int .i64 (scanF b).2]) ∧
  Own w' w.heap.size 47 1 D (scanF b).1.length d vs ∧ OwnRows w' w.heap.size vs (scanF b).1 ∧ Below w.heap.size w w' := by
 have hlen := hx.len_
 have hcm : c ≤ 9223372036854775807 := by unfold maxLen at hc; omega
 have HX := Lib.hid hx
 have HL := Lib.hid hlen
 clear hx hlen
 go_enter Tryz.func46, Tryz.ntmps46
 go_wp2_with fail
 go_loopw [4, 5] (fun ov av wr => ∃ (D : Option Addr) (d at_ : Nat) (vs : List Value) (ls : List (List UInt8)), ov = .slice D ls.length d ∧ av = .int .i64 at_ ∧ at_ ≤ n ∧ 5 * ls.length ≤ at_ ∧ Own wr w.heap.size 47 1 D ls.length d vs ∧ OwnRows wr w.heap.size vs ls ∧ Below w.heap.size w wr ∧
  (scanF b).1 = ls ++ (scanF (b.drop at_)).1 ∧ (scanF b).2 = at_ + (scanF (b.drop at_)).2) (fun _ av _ => n - (intOf av).toNat)
 case atStart => exact ⟨none, 0, 0, [], [], rfl, rfl, by omega, by simp, Own.nil_ _ _ _ _, OwnRows.nil_ _ _, Below.refl _ _, by simp, by simp⟩
 case round =>
  obtain ⟨D, d, at_, vs, ls, rfl, rfl, hat, h5, ho, hr, hb, hs1, hs2⟩ := hrel
  have HO := Lib.hid ho
  have HR := Lib.hid hr
  have HB := Lib.hid hb
  have HS := Lib.hid (And.intro hs1 hs2)
  clear ho hr hb hs1 hs2
  obtain ⟨PA, hsl, hcut⟩ := cut_low (P := Tryz.prog) Tryz.underlying47 size_u8 A (c := c) hat hn
  have hc1 := hcut _ _ _ ((HX.out.below HB.out).more HB.out.size)
  rw [Nat.mul_one, u8s_drop] at hc1
  have HC := Lib.hid hc1
  clear hcut hc1
  go_wp2_with fail
  refine (take_any _ (n - at_) (c - at_) _ wr HC.out (by omega) (by unfold maxLen; omega)).mono ?_
  cases hf : takeF (b.drop at_) with
  | none =>
   rintro e w1 ⟨rfl, hb⟩
   have hs := scanF_none hf
   have HS2 := Lib.hid (And.intro HS.out hs)
   have HB1 := Lib.hid hb
   clear hf hs hb
   go_wp2_with fail
   go_ret2
   have e1 := HS2.out.1.1
   have e2 := HS2.out.1.2
   rw [HS2.out.2] at e1 e2
   simp only [List.append_nil, Nat.add_zero] at e1 e2
   rw [e1, e2]
   exact ⟨D, d, vs, rfl, HO.out.below HB1.out (Nat.le_refl _), HR.out.below HB1.out (Nat.le_refl _), HB.out.trans (HB1.out.mono HB.out.size)⟩
  | some x =>
   obtain ⟨p, k⟩ := x
   rintro e w1 ⟨⟨A1, c1, rfl, ho⟩, hb⟩
   have hs := scanF_some hf
   have hk := takeF_size hf
   rw [List.length_drop, HL.out] at hk
   obtain ⟨hk1, hk2, hk3, hk4, -, -⟩ := hk
   have HS2 := Lib.hid (And.intro HS.out hs)
   have HB1 := Lib.hid hb
   have HO1 := Lib.hid ho
   have hz1 := hb.size
   have HOO := Lib.hid (HO.out.below hb (Nat.le_refl _))
   have HRR := Lib.hid (HR.out.below hb (Nat.le_refl _))
   have hz0 := HB.out.size
   clear hf hs hb ho
   go_wp2_with (at_builtin; refine halt_ ?_)
   refine unhalt ?_
   refine wpList_app elem_rows (HOO.out.alloc _) (reads_new (cs := #[_]) w1 47 1 rfl) (by simp [Value.oneCell']) (by omega) (by simp; omega) _ _ rfl rfl rfl rfl ?_
   intro D2 d2 w2 ho2 hup hat2
   have hoff : ∀ i, blockOf D = some i → w.heap.size ≤ i := fun i hi => (HOO.out.ge i hi).1
   have HB2 := Lib.hid (((HB.out.trans (HB1.out.mono hz0)).alloc (by omega) _).trans (hup.to_below (by simp; omega) (fun i hi e => by have := hoff _ e; omega)))
   have hr2 : OwnRows w2 w.heap.size (vs ++ [.slice A1 p.length c1]) (ls ++ [p]) := by
    have h1 := HRR.out.snoc (B := wr.heap.size) ⟨A1, c1, rfl, HO1.out⟩ hz0 (fun u hu g hg => (HR.out.ge hu g hg).2)
    refine (h1.upd ((Upd.refl (fun k => blockOf D = some k) w1).alloc (.cells #[.slice A1 p.length c1] 47)) (fun v hv g hg hD => h1.off HOO.out (by decide) hv g hg hD)).upd hup (fun v hv g hg hD => h1.off HOO.out (by decide) hv g hg hD)
   have HR2 := Lib.hid hr2
   have HO2 := Lib.hid ho2
   clear hr2 ho2 hup hat2 hoff
   go_wp2_with fail
   go_roundw
   case rel =>
    refine ⟨D2, d2, at_ + k, vs ++ [.slice A1 p.length c1], ls ++ [p], by simp, by simp, by omega, by simp; omega, by simpa using HO2.out, HR2.out, HB2.out, ?_, ?_⟩
    · rw [HS2.out.1.1, HS2.out.2, List.drop_drop, List.append_assoc]; rfl
    · rw [HS2.out.1.2, HS2.out.2, List.drop_drop, Nat.add_assoc]
   case measure => simp [intOf]; omega
end Go.Proofs.YtacbkganjkipdaaGreatDoor
