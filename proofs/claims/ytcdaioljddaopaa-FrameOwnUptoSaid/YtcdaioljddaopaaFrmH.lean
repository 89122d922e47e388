/- walk: awake -/
import Derived.Test.YtcdaioljddaopaaFrmG
import Derived.Lib.SlBytesConst
namespace Go.Proofs.Ytcdaioljddaopaa
open Go.RowKit

theorem f300 : takeU [172, 2, 9] = (300, 2) := by decide +kernel
theorem fSeal0 : sealL [] = [0, 0, 0, 0, 0] := by decide +kernel
theorem fSum9 : sumL [49, 50, 51, 52, 53, 54, 55, 56, 57] = 3421780262 := by decide +kernel
theorem fText : uintL 2 ++ [97, 98] = [2, 97, 98] := by decide +kernel

theorem reads_fr {cs : Array Value} (w : World) (e : TypeId) (fr : Nat × Nat) : Reads (w.alloc (.cells cs e fr)) (w.heap.size + 1) 1 (some ⟨w.heap.size, 0, none⟩) cs.size cs.toList := by
  refine ⟨by simp, fun _ => ⟨_, rfl, by simp, fun j u hu => ?_⟩⟩
  have e1 : (⟨w.heap.size, 0, none⟩ : Addr).add j = ⟨w.heap.size, j, none⟩ := by unfold Addr.add; split <;> simp_all
  rw [e1, cell_of_row (w.alloc (.cells cs e fr)) w.heap.size j cs e fr (heap_alloc_new w _)]
  simpa using hu

set_option maxRecDepth 100000 in
set_option maxHeartbeats 2000000 in
theorem awake_any (w : World) : Calls Try.prog 11 #[] w fun e w' => e = .returned (.bool true) ∧ Below w.heap.size w w' := by
  go_enter Try.func11, Try.ntmps11
  go_wp2_with fail
  refine (takeUint_any _ 3 3 [172, 2, 9] _ (reads_new (cs := #[.int .u8 172, .int .u8 2, .int .u8 9]) w 5 3 rfl |>.more (by simp)) (by unfold maxLen; omega)).mono ?_
  rintro e w1 ⟨rfl, rfl⟩
  rw [f300]
  have HB1 := Lib.hid ((Below.refl w.heap.size w).alloc (Nat.le_refl _) (.cells #[.int .u8 172, .int .u8 2, .int .u8 9] 5))
  generalize hw1 : w.alloc _ = w1 at HB1
  go_wp2_with fail
  refine (seal_any none 0 0 [] _ Reads.none_ (by omega)).mono ?_
  rintro e w2 ⟨A2, c2, rfl, ho, hb⟩
  rw [fSeal0] at ho ⊢
  have HO := Lib.hid ho
  have HB2 := Lib.hid (HB1.out.trans (hb.mono HB1.out.size))
  clear ho hb
  have kc := fun (w : World) (C : Array Value) (n c : Nat) => Lib.run_convert_bytes_const (P := Try.prog) w 23 5 C n c Try.underlying23 Try.underlying5
  go_wp2_with fail
  refine (sum_any _ 9 9 [49, 50, 51, 52, 53, 54, 55, 56, 57] _ ((reads_fr (cs := #[.int .u8 49, .int .u8 50, .int .u8 51, .int .u8 52, .int .u8 53, .int .u8 54, .int .u8 55, .int .u8 56, .int .u8 57]) w2 5 (9, 10)).more (by simp)) (by unfold maxLen; omega)).mono ?_
  rintro e w3 ⟨rfl, hb⟩
  rw [fSum9]
  have hb3 := (Below.refl w2.heap.size w2).alloc (Nat.le_refl _) (.cells #[.int .u8 49, .int .u8 50, .int .u8 51, .int .u8 52, .int .u8 53, .int .u8 54, .int .u8 55, .int .u8 56, .int .u8 57] 5 (9, 10))
  have hb4 := hb3.trans (hb.mono hb3.size)
  have HB3 := Lib.hid (HB2.out.trans (hb4.mono HB2.out.size))
  have ks := str_u8 (c := c2) (HO.out.below hb4 (Nat.le_refl _)).reads
  have HO3 := Lib.hid hb4
  clear hb hb3 hb4
  simp only [List.length_cons, List.length_nil, Nat.zero_add, Nat.reduceAdd] at ks
  go_wp2_with fail
  refine (text_any ⟨#[97, 98]⟩ w3 (by decide)).mono ?_
  rintro e w4 ⟨A5, c5, rfl, ho, hb⟩
  have HB4 := Lib.hid (HB3.out.trans (hb.mono HB3.out.size))
  have ks2 : (convert 23 9 (.slice A5 ((uintL 2).length + 2) c5)).run Try.prog w4 = .ok (.string ⟨[2, 97, 98].toArray⟩) w4 := by
    have h1 := str_u8 (c := c5) ho.reads
    have e : uintL (⟨#[97, 98]⟩ : ByteArray).size ++ (⟨#[97, 98]⟩ : ByteArray).data.toList = [2, 97, 98] := fText
    rw [e] at h1
    exact h1
  clear ho hb ks
  go_wp2_with fail
  go_ret
  exact ⟨rfl, HB4.out⟩
end Go.Proofs.Ytcdaioljddaopaa
