/- walks: frame.table, frame.Sum, convoyref01.Sum -/
import Derived.Test.YtcdaioljddaopaaFrmD
import Derived.Test.YtcdaioljddaopaaFrmS
import Derived.Laws.CopyOwn
namespace Go.Proofs.Ytcdaioljddaopaa
open Go.RowKit

def crcCells (i : Nat) : Array Value := ((List.range 256).map fun j => Value.int .u32 (if j < i then crcN 8 j else 0 : Nat)).toArray
theorem crcCells_size (i : Nat) : (crcCells i).size = 256 := by simp [crcCells]
theorem crcCells_get {i j : Nat} (h : j < 256) : (crcCells i)[j]? = some (.int .u32 (if j < i then crcN 8 j else 0 : Nat)) := by
  simp only [crcCells, List.getElem?_toArray, List.getElem?_map, List.getElem?_range h, Option.map_some]
theorem crcCells_set {i : Nat} (h : i < 256) : (crcCells i).setIfInBounds i (.int .u32 (crcN 8 i : Nat)) = crcCells (i + 1) := by
  apply Array.ext_getElem?
  intro j
  rcases Nat.lt_or_ge j 256 with hj | hj
  · rw [Array.getElem?_setIfInBounds, crcCells_get hj, crcCells_size]
    split
    · rename_i e
      subst e
      rw [crcCells_get h, if_pos (by omega)]
    · rename_i e
      rw [crcCells_get hj]
      by_cases h2 : j < i
      · rw [if_pos h2, if_pos (by omega)]
      · rw [if_neg h2, if_neg (by omega)]
  · rw [Array.getElem?_eq_none (by simp [crcCells_size]; omega), Array.getElem?_eq_none (by simp [crcCells_size]; omega)]
theorem crcCells_one (i : Nat) : (crcCells i).all (·.oneCell') = true := by
  rw [Array.all_eq_true_iff_forall_mem]
  intro v hv
  simp only [crcCells, List.mem_toArray, List.mem_map] at hv
  obtain ⟨j, _, rfl⟩ := hv
  rfl
theorem zero256 (w : World) : (zeroValue 55).run Try.prog w = .ok (.agg (crcCells 0)) w := by kernel_rfl

theorem and1_u32 (c : Nat) (h : c < 4294967296) : bits BinOp.and IntKind.u32 (c : Int) 1 = ((c % 2 : Nat) : Int) := by
  have := u32_and_nat c 1 h (by omega)
  rw [Nat.and_one_is_mod] at this
  exact this
theorem crcStep_odd {c : Nat} (h1 : c % 2 = 1) (h : c < 4294967296) : bits BinOp.xor IntKind.u32 ((c : Int) / 2) 3988292384 = ((crcStep c : Nat) : Int) := by
  have := u32_xor_nat (c / 2) 3988292384 (by omega) (by omega)
  unfold crcStep
  rw [if_pos h1]
  rw [← this]
  rfl
theorem crcStep_even {c : Nat} (h1 : ¬ c % 2 = 1) : (c : Int) / 2 = ((crcStep c : Nat) : Int) := by
  unfold crcStep
  rw [if_neg h1]
  omega

set_option maxRecDepth 100000 in
set_option maxHeartbeats 2000000 in
theorem table_any (w : World) :
    Calls Try.prog 31 #[] w fun e w' => e = .returned (.agg (crcCells 256)) ∧ Below w.heap.size w w' := by
  have hz := zero256
  have hb0 := (Blk.new w 55 (crcCells 0)).alloc (.cells (crcCells 0) 55)
  have hb1 := Blk.new_ (w := w.alloc (.cells (crcCells 0) 55)) (g := w.heap.size + 1) (by simp) 55 (crcCells 0)
  have HB0 := Lib.hid hb0
  have HB1 := Lib.hid hb1
  have HB := Lib.hid (((Below.refl w.heap.size w).alloc (Nat.le_refl _) (.cells (crcCells 0) 55)).alloc (by simp) (.cells (crcCells 0) 55))
  clear hb0 hb1
  go_enter Try.func31, Try.ntmps31
  go_wp2_with fail
  go_loopw [4] (fun iv wr => ∃ (i : Nat), iv = .int .i64 i ∧ i ≤ 256 ∧ Blk wr (w.heap.size + 1) 55 (crcCells i) ∧ Blk wr w.heap.size 55 (crcCells 0) ∧ Below w.heap.size w wr) (fun iv _ => 256 - (intOf iv).toNat)
  case atStart => exact ⟨0, rfl, by omega, HB1.out, HB0.out, HB.out⟩
  case round =>
    obtain ⟨i, rfl, hi, hb1, hb0, hb⟩ := hrel
    have HC1 := Lib.hid hb1
    have HC0 := Lib.hid hb0
    have HD := Lib.hid hb
    clear hb1 hb0 hb
    by_cases h : (i : Int) < 256
    · have hwi : (i : Int) % 4294967296 = i := by omega
      go_wp2_with fail
      go_loopw [3, 9] (fun cv kv wx => ∃ (k : Nat), cv = .int .u32 ((crcN k i : Nat) : Int) ∧ kv = .int .i64 k ∧ k ≤ 8 ∧ wr = wx) (fun _ kv _ => 8 - (intOf kv).toNat)
      case atStart => exact ⟨0, rfl, rfl, by omega, rfl⟩
      case round =>
        obtain ⟨k, rfl, rfl, hk, rfl⟩ := hrel
        by_cases hk8 : (k : Int) < 8
        · have hc := crcN_lt k (c := i) (by omega)
          obtain ⟨c, hcc⟩ : ∃ c, c = crcN k i := ⟨_, rfl⟩
          rw [← hcc] at hc
          have hnext : crcN (k + 1) i = crcStep c := by rw [hcc]; rfl
          have h1 := and1_u32 c hc
          rw [← hcc]
          have HN := Lib.hid hnext
          clear hnext hcc
          by_cases hodd : c % 2 = 1
          · have h2 : (((c % 2 : Nat) : Int) == 1) = true := by simp; omega
            have h3 := crcStep_odd hodd hc
            clear hodd
            go_wp2_with fail
            go_roundw
            case rel => exact ⟨k + 1, by rw [HN.out], by simp, by omega, trivial⟩
            case measure => simp [intOf]; omega
          · have h2 : (((c % 2 : Nat) : Int) == 1) = false := by simp; omega
            have h3 := crcStep_even hodd
            clear hodd
            go_wp2_with fail
            go_roundw
            case rel => exact ⟨k + 1, by rw [HN.out], by simp, by omega, trivial⟩
            case measure => simp [intOf]; omega
        · obtain rfl : k = 8 := by omega
          have c1 := HC1.out.cell i
          rw [crcCells_get (by omega), if_neg (by omega)] at c1
          have c2 := HC1.out.frozen i
          go_wp2_with fail
          go_roundw
          case rel =>
            refine ⟨i + 1, by simp, by omega, ?_, ?_, ?_⟩
            · rw [← crcCells_set (by omega)]
              exact HC1.out.set_ i _
            · exact HC0.out.far (by simp) _
            · exact HD.out.setCell (by simp) _
          case measure => simp [intOf]; omega
    · obtain rfl : i = 256 := by omega
      go_wp2_with (first | refine wpList_load_row rfl 55 _ rfl (w.heap.size + 1) rfl _ _ (0, 0) _ HC1.out Try.underlying55 rfl (by kernel_rfl) ?_ | refine wpList_store_row rfl 55 _ _ rfl w.heap.size (crcCells 256) rfl rfl _ _ HC0.out (by kernel_rfl) (by simp [crcCells_size]) (crcCells_one _) ?_)
      refine bodyPost_ret (results_cell_row rfl _ _ w.heap.size 55 (crcCells 256) (0, 0) _ rfl (setRow_heap wr w.heap.size (crcCells 0) (crcCells 256) 55 (0, 0) HC0.out) Try.underlying55 rfl (by kernel_rfl)) rfl ⟨rfl, below_setRow HD.out (Nat.le_refl _) _⟩

theorem not_u32 {c : Nat} (h : c < 4294967296) : bits BinOp.xor IntKind.u32 IntKind.u32.max (c : Int) = ((4294967295 - c : Nat) : Int) := by
  have := u32_xor_nat 4294967295 c (by omega) h
  rw [Nat.xor_comm, xor_ones h] at this
  exact this

set_option maxRecDepth 100000 in
set_option maxHeartbeats 2000000 in
theorem sum_any (A : Option Addr) (n c : Nat) (l : List UInt8) (w : World) (hx : Reads w w.heap.size 1 A n (u8s l)) (hn : n ≤ maxLen) :
    Calls Try.prog 17 #[.slice A n c] w fun e w' => e = .returned (.int .u32 (sumL l)) ∧ Below w.heap.size w w' := by
  have hlen := hx.len_
  unfold maxLen at hn
  have HX := Lib.hid hx
  clear hx
  have hz := zero256
  go_enter Try.func17, Try.ntmps17
  go_wp2_with fail
  refine (table_any w).mono ?_
  rintro e w1 ⟨rfl, hb1⟩
  have hsz := hb1.size
  have hn0 := Blk.new w1 55 (crcCells 0)
  have hba := below_setRow (hb1.alloc hb1.size (.cells (crcCells 0) 55)) (g := w1.heap.size) hsz (crcCells 256)
  have HN0 := Lib.hid hn0
  have HB := Lib.hid hba
  have HG := Lib.hid (setRow_heap _ w1.heap.size (crcCells 0) (crcCells 256) 55 (0, 0) hn0)
  clear hn0 hba hb1
  go_wp2_with (refine wpList_store_row rfl 55 _ _ rfl w1.heap.size (crcCells 256) rfl rfl _ _ HN0.out (by kernel_rfl) (by simp [crcCells_size]) (crcCells_one _) ?_)
  generalize hw2 : (w1.alloc (.cells (crcCells 0) 55)).setRow w1.heap.size (crcCells 256) = w2 at HB HG
  have HX2 := Lib.hid (HX.out.below HB.out)
  go_loopw [4, 10] (fun cv iv wr => ∃ (i : Nat), cv = .int .u32 ((crcL (l.take i) : Nat) : Int) ∧ iv = .int .i64 i ∧ i ≤ n ∧ w2 = wr) (fun _ iv _ => n - (intOf iv).toNat)
  case atStart => exact ⟨0, by simp [crcL], rfl, by omega, rfl⟩
  case round =>
    obtain ⟨i, rfl, rfl, hi, rfl⟩ := hrel
    clear hw2
    by_cases h : (i : Int) < n
    · obtain ⟨ad, rfl, hb, hc0⟩ := HX2.out.u8_ (k := i) (by omega)
      obtain ⟨x, hx⟩ : ∃ x, x = l.getD i 0 := ⟨_, rfl⟩
      rw [← hx] at hc0
      have hx1 : (x.toNat : Int) < 256 := by have := x.toNat_lt; omega
      have hcl := crcL_lt (l.take i)
      obtain ⟨c', hcc⟩ : ∃ c', c' = crcL (l.take i) := ⟨_, rfl⟩
      rw [← hcc] at hcl
      have hj : (c' % 256 ^^^ x.toNat) < 2 ^ 8 := Nat.xor_lt_two_pow (by omega) (by omega)
      have f1 := u8_xor_nat (c' % 256) x.toNat (by omega) (by omega)
      rw [show ((c' % 256 : Nat) : Int) = (c' : Int) % 256 by omega] at f1
      have f3 := u32_xor_nat (crcN 8 (c' % 256 ^^^ x.toNat)) (c' / 256) (crcN_lt 8 (by omega)) (by omega)
      rw [← crc_byte, show ((c' / 256 : Nat) : Int) = (c' : Int) / 256 by omega] at f3
      have hnext : crcL (l.take (i + 1)) = crcN 8 (c' ^^^ x.toNat) := by
        rw [take_snoc (by omega), crcL_snoc, ← hcc, ← hx]
        rfl
      obtain ⟨j, hjj⟩ : ∃ j, j = c' % 256 ^^^ x.toNat := ⟨_, rfl⟩
      rw [← hjj] at hj f1 f3
      have f2 : w2.cell? ⟨w1.heap.size, j, none⟩ = some (.int .u32 ((crcN 8 j : Nat) : Int)) := by
        have := Blk.cell HG.out j
        rw [crcCells_get (by omega), if_pos (by omega)] at this
        exact this
      have hj2 : (j : Int) < 256 := by omega
      have HNX := Lib.hid hnext
      rw [← hcc]
      clear hjj hcc hnext hx hj
      go_wp2_with fail
      go_roundw
      case rel => exact ⟨i + 1, by rw [HNX.out], by simp, by omega, trivial⟩
      case measure => simp [intOf]; omega
    · obtain rfl : i = n := by omega
      have hcl := crcL_lt (l.take i)
      go_wp2_with fail
      go_ret
      have e := List.take_of_length_le (show l.length ≤ i by omega)
      rw [e]
      exact ⟨congrArg Ending.returned (congrArg (Value.int IntKind.u32) (not_u32 (crcL_lt l))), HB.out⟩

end Go.Proofs.Ytcdaioljddaopaa
