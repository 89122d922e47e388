/- walks: From, and the library's IndexFunc and Values at entries -/
import Derived.Test.YtgcnodbinmgobaaMemR
namespace Go.Proofs.Ytgcnodbinmgobaa
open Go.RowKit

/-- How many stand ahead of the key. -/
def fromP (l : List Ent) (key : ByteArray) : Nat := (l.takeWhile fun e => Op.bytesLess e.key.toList key.toList).length
theorem fromP_le (l : List Ent) (key : ByteArray) : fromP l key ≤ l.length := (List.takeWhile_sublist _).length_le
theorem takeWhile_len {α : Type} {p : α → Bool} : ∀ {l : List α} {k : Nat}, k ≤ l.length → (∀ j a, j < k → l[j]? = some a → p a = true) → (∀ a, l[k]? = some a → p a = false) → (l.takeWhile p).length = k
  | [], k, hk, _, _ => by simp at hk; simp [hk]
  | x :: l, 0, _, _, h2 => by simp [h2 x (by simp)]
  | x :: l, k + 1, hk, h1, h2 => by
    rw [List.takeWhile_cons, if_pos (h1 0 x (by omega) (by simp)), List.length_cons, takeWhile_len (l := l) (k := k) (by simpa using hk) (fun j a hj ha => h1 (j + 1) a (by omega) (by simpa using ha)) (fun a ha => h2 a (by simpa using ha))]

set_option maxRecDepth 100000 in
theorem from1_any (x : Ent) (g : Nat) (key : ByteArray) (w : World) (h : w.cell? ⟨g, 0, none⟩ = some (.string key)) (hg : g < w.heap.size) :
    Calls Try.prog 21 #[.agg #[.string x.key, .int .i64 x.seq, .bool x.del, .string x.val], .pointer (some ⟨g, 0, none⟩)] w fun e w' => e = .returned (.bool (!Op.bytesLess x.key.toList key.toList)) ∧ Below w.heap.size w w' := by
  have HB := Lib.hid ((Below.refl w.heap.size w).alloc (Nat.le_refl _) (.cells #[.string x.key, .int .i64 x.seq, .bool x.del, .string x.val] 28))
  cases hl : Op.bytesLess x.key.toList key.toList
  all_goals
    go_enter Try.func21, Try.ntmps21
    go_wp2_with fail
    go_ret
    exact ⟨rfl, HB.out⟩

set_option maxRecDepth 100000 in
set_option maxHeartbeats 1000000 in
theorem index_any (A : Option Addr) (n c : Nat) (l : List Ent) (g : Nat) (key : ByteArray) (w : World) (h : Reads w w.heap.size 4 A n (ents l)) (hn : n ≤ 1000) (hg : w.cell? ⟨g, 0, none⟩ = some (.string key)) (hgl : g < w.heap.size) :
    Calls Try.prog 20 #[.slice A n c, .func (.func 21) #[] #[.pointer (some ⟨g, 0, none⟩)]] w fun e w' =>
      e = .returned (.int .i64 (if fromP l key < n then (fromP l key : Int) else -1)) ∧ Below w.heap.size w w' := by
  have HLN := Lib.hid h.ents_length
  have HX := Lib.hid (h.keeps (Nat.le_refl _))
  have HG := Lib.hid hg
  clear h hg
  obtain ⟨r, hr⟩ : ∃ r : Int, r = if fromP l key < n then (fromP l key : Int) else -1 := ⟨_, rfl⟩
  rw [← hr]
  have HR := Lib.hid hr
  clear hr
  go_enter Try.func20, Try.ntmps20
  go_wp2_with fail
  go_loopw [8] (fun iv wr => ∃ k : Nat, iv = .int .i64 k ∧ k ≤ n ∧ (∀ j a, j < k → l[j]? = some a → Op.bytesLess a.key.toList key.toList = true) ∧ Below w.heap.size w wr) (fun iv _ => n - (intOf iv).toNat)
  case atStart => exact ⟨0, rfl, by omega, fun j a h => by omega, Below.refl _ _⟩
  case round =>
    obtain ⟨k, rfl, hk, hj, hb⟩ := hrel
    have HJ := Lib.hid hj
    have HB := Lib.hid hb
    have hgl2 : g < wr.heap.size := Nat.lt_of_lt_of_le hgl hb.size
    clear hj hb
    by_cases hkn : (k : Int) < (n : Int)
    · obtain ⟨ad, y, rfl, hab, hy, hc⟩ := (HX.out.at_ HB.out).ent (k := k) (by omega)
      have hk0 : (0 : Int) ≤ (k : Int) := by omega
      have HY := Lib.hid hy
      clear hy hab
      go_wp2_with fail
      refine (from1_any y g key wr ((HB.out.cell (p := ⟨g, 0, none⟩) hgl).trans HG.out) hgl2).mono ?_
      rintro e w4 ⟨rfl, hb⟩
      have HB4 := Lib.hid (HB.out.trans (hb.mono HB.out.size))
      clear hb hc
      cases hl : Op.bytesLess y.key.toList key.toList with
      | true =>
        have HLL := Lib.hid hl
        clear hl
        go_wp2_with fail
        go_roundw
        case rel => exact ⟨k + 1, by go_num, by omega, (fun j a h1 h2 => by
          rcases Nat.lt_or_ge j k with h | h
          · exact HJ.out j a h h2
          · obtain rfl : j = k := by omega
            rw [HY.out] at h2
            injection h2 with h2
            rw [← h2]
            exact HLL.out), HB4.out⟩
        case measure => simp [intOf]; omega
      | false =>
        have hp : fromP l key = k := takeWhile_len (by have := HLN.out; omega) HJ.out (fun a h2 => by
          rw [HY.out] at h2
          injection h2 with h2
          rw [← h2]
          exact hl)
        have hrk : r = (k : Int) := by rw [HR.out, hp, if_pos (by omega)]
        have HRK := Lib.hid hrk
        clear hl hp hrk
        go_wp2_with fail
        go_ret
        exact ⟨by rw [HRK.out]; rfl, HB4.out⟩
    · have hp : fromP l key = k := takeWhile_len (by have := HLN.out; omega) HJ.out (fun a h2 => by
        have := (List.getElem?_eq_some_iff.1 h2).1
        have := HLN.out
        omega)
      have hrk : r = -1 := by rw [HR.out, hp, if_neg (by omega)]
      have HRK := Lib.hid hrk
      clear hp hrk
      go_wp2_with fail
      go_ret
      exact ⟨by rw [HRK.out]; rfl, HB.out⟩

set_option maxHeartbeats 1000000 in
theorem values_any (A : Option Addr) (n c : Nat) (w : World) :
    Calls Try.prog 22 #[.slice A n c] w fun e w' => e = .returned (.func (.func 26) #[] #[.pointer (some ⟨w.heap.size, 0, none⟩)]) ∧ w' = w.alloc (.cells #[.slice A n c] 26) := by
  go_enter Try.func22, Try.ntmps22
  go_wp2_with fail
  go_ret
  exact ⟨rfl, rfl⟩

theorem cut_low2 {P : Program} {t e : TypeId} {size : Nat} (ht : P.underlying t = some (.slice e)) (hz : (P.info? e).map (·.size) = some size) (A : Option Addr) {n c lo : Nat} (hlo : lo ≤ n) (hn : n ≤ c) :
    ∃ PA, (∀ w, (Instr.slice t (.slice A n c) (some (.int .i64 (lo : Int))) none none).run P w = .ok (.slice PA (n - lo) (c - lo)) w) ∧ blockOf PA = blockOf A ∧
      ∀ w B xs, Reads w B size A n xs → Reads w B size PA (n - lo) (xs.drop (lo * size)) := by
  obtain ⟨i, hi, hs⟩ := Option.map_eq_some_iff.1 hz
  refine ⟨if c = lo then A else A.map (·.add (lo * size)), fun w => ?_, ?_, fun w B xs hr => hr.cut hlo hn⟩
  · simp [Instr.slice, Instr.sliceBounds, Instr.sliceBound, asIntOf, run_underlying ht, sizeOf, typeInfo, hi, hs, hlo]
  · split
    · rfl
    · cases A with
      | none => rfl
      | some a => simp [blockOf, block_of_add]
/-- An iterator over l in this world: its box g, the rows A0 behind it. -/
def Iter (w : World) (base g : Nat) (l : List Ent) : Prop := ∃ (A0 : Option Addr) (m c0 : Nat) (l0 : List Ent) (p : Nat) (A : Option Addr) (c : Nat), Own w base 28 4 A0 m c0 (ents l0) ∧ p ≤ m ∧ l = l0.drop p ∧ m ≤ 1000 ∧ base ≤ g ∧ Blk w g 26 #[.slice A (m - p) c] ∧ blockOf A = blockOf A0 ∧
  ∀ w B xs, Reads w B 4 A0 m xs → Reads w B 4 A (m - p) (xs.drop (p * 4))
set_option maxRecDepth 100000 in
set_option maxHeartbeats 1000000 in
theorem from_any (B T : Nat) (l : List Ent) (key : ByteArray) (w : World) (h : TblB w B T l) (hlen : l.length ≤ 1000) :
    Calls Try.prog 16 #[.pointer (some ⟨T, 0, none⟩), .string key] w fun e w' => ∃ g, e = .returned (.func (.func 26) #[] #[.pointer (some ⟨g, 0, none⟩)]) ∧ Iter w' w.heap.size g (l.drop (fromP l key)) ∧ Below w.heap.size w w' := by
  have HT := Lib.hid h
  clear h
  go_enter Try.func16, Try.ntmps16
  go_wp2_with fail
  obtain ⟨w1, hw1⟩ : ∃ v, v = w.alloc (.cells #[.string key] 9) := ⟨_, rfl⟩
  obtain ⟨g, hg⟩ : ∃ g, g = w.heap.size := ⟨_, rfl⟩
  rw [← hw1, ← hg]
  have hb1 : Below w.heap.size w w1 := by rw [hw1]; exact (Below.refl _ _).alloc (Nat.le_refl _) _
  have hk1 : Blk w1 g 9 #[.string key] := by rw [hw1, hg]; exact Blk.new _ _ _
  have HK := Lib.hid (hk1.keeps.and (below_keeps hb1 hb1.size))
  have HT1 := Lib.hid (HT.out.below hb1)
  clear hw1 hg hb1 hk1 HT
  refine (all_b B T l w1 HT1.out hlen).mono ?_
  rintro e w2 ⟨A, c, rfl, ho, hb⟩
  have hsz : w.heap.size ≤ w1.heap.size := HK.out.now.2.size
  have HO := Lib.hid (ho.mono hsz)
  have HK2 := Lib.hid ((HK.out.on hb).and (ho.mono hsz).keeps)
  clear ho hb HK HT1 hsz
  have hgl := HK2.out.now.1.1.lt
  go_wp2_with fail
  refine (index_any A l.length c l g key w2 HO.out.reads hlen (HK2.out.now.1.1.cell 0) hgl).mono ?_
  rintro e w3 ⟨rfl, hb⟩
  have HK3 := Lib.hid (HK2.out.on hb)
  clear hb HK2 HO hgl
  obtain ⟨p, hp⟩ : ∃ p, p = fromP l key := ⟨_, rfl⟩
  have hpl : p ≤ l.length := by rw [hp]; exact fromP_le l key
  rw [← hp]
  have HP := Lib.hid hp
  clear hp
  have hnc := HK3.out.now.2.le
  obtain ⟨PA, hcut, hblk, hread⟩ := cut_low2 (P := Try.prog) (lo := p) Try.underlying26 size_ent A hpl hnc
  have HREAD := Lib.hid hread
  have HBK := Lib.hid hblk
  have hsz3 : w.heap.size ≤ w3.heap.size := HK3.out.now.1.2.size
  clear hread hblk
  have hfin := fun (W : World) (h : Below w3.heap.size w3 W) (g : Nat) (hb : Blk W g 26 #[.slice PA (l.length - p) (c - p)]) (hg : w.heap.size ≤ g) => (⟨A, l.length, c, l, p, PA, c - p, (HK3.out.at_ h).2, hpl, by rw [HP.out], hlen, hg, hb, HBK.out, HREAD.out⟩ : Iter W w.heap.size g (l.drop (fromP l key)))
  obtain ⟨q, hq⟩ : ∃ q, q = l.length - p := ⟨_, rfl⟩
  obtain ⟨d, hd⟩ : ∃ d, d = c - p := ⟨_, rfl⟩
  rw [← hq, ← hd] at hfin hcut
  have HFIN := Lib.hid hfin
  clear hq hd hfin
  by_cases hpn : p < l.length
  · rw [if_pos hpn]
    have hp0 : ¬ (p : Int) < 0 := by omega
    go_wp2_with fail
    refine (values_any PA q d w3).mono ?_
    rintro e w4 ⟨rfl, rfl⟩
    go_wp2_with fail
    go_ret
    exact ⟨w3.heap.size, rfl, HFIN.out _ ((Below.refl _ _).alloc (Nat.le_refl _) _) _ (Blk.new _ _ _) hsz3, HK3.out.now.1.2.alloc hsz3 _⟩
  · rw [if_neg hpn]
    have hpe : p = l.length := by omega
    rw [hpe] at hcut
    clear hpn hpe
    go_wp2_with fail
    refine (values_any PA q d w3).mono ?_
    rintro e w4 ⟨rfl, rfl⟩
    go_wp2_with fail
    go_ret
    exact ⟨w3.heap.size, rfl, HFIN.out _ ((Below.refl _ _).alloc (Nat.le_refl _) _) _ (Blk.new _ _ _) hsz3, HK3.out.now.1.2.alloc hsz3 _⟩
end Go.Proofs.Ytgcnodbinmgobaa
