/- walks: bloom.places and what it answers -/
import Derived.Test.YtmlkjeaoaanogaaBlmA
import Derived.RangeFuncNested
import Derived.RangeFuncBound
import Derived.RangeFuncBox
import Derived.RangeFuncCalls
import Derived.RangeFuncLeaves
import Derived.Shelf.Abstract
import Derived.Shelf.RegionOpen
import Derived.OwnWalkIn
import Derived.TacticsInMore
import Derived.LoopNIn
import Derived.LoopIn
namespace Go.Proofs.Ytmlkjeaoaanogaa
open Go.RowKit Go.Shelf
attribute [local go_sem] Oper.semAt_some

/-- What 'places' reads between two rounds. -/
def KN (Bn : Nat) (W W' : World) : Prop := W'.cell? ⟨Bn, 0, none⟩ = W.cell? ⟨Bn, 0, none⟩
theorem KN.trans {Bn : Nat} {A B C : World} (h : KN Bn A B) (k : KN Bn B C) : KN Bn A C := Eq.trans k h
theorem KN.put {Bn n : Nat} (hB : Bn < n) (W : World) (l : Nat) (o o' : Obj) (hl : n ≤ l) (_ : W.heap[l]? = some o) (_ : o.isCells = false) (_ : o.isWalk = false) : KN Bn W (W.putObj l o') := by
  have hg : W.grownBy (W.putObj l o') (some l) := grownBy_putObj' W l o'
  rcases Nat.lt_or_ge Bn W.heap.size with h | h
  · exact World.cell?_of_block (a := ⟨Bn, 0, none⟩) (hg.block Bn h (fun e => by injection e with e; omega))
  · have e1 : W.heap[Bn]? = none := Array.getElem?_eq_none h
    have e2 : (W.putObj l o').heap[Bn]? = none := by
      apply Array.getElem?_eq_none
      simpa [World.putObj] using h
    unfold KN
    simp [World.cell?, e1, e2]

set_option maxRecDepth 100000 in
set_option maxHeartbeats 2000000 in
theorem places1_in (m : Nat) (hm : 1 ≤ m) (l Bk Bc Bn : Nat) (s : ByteArray) (hs : s.size ≤ maxLen) (N k : Nat) (hN : 0 < N) (hN2 : N ≤ 8388608) (hk : k ≤ 255) (J Jx : List { x : Nat // x < N } → World → Prop)
    (hY : ∀ pre (x : { x : Nat // x < N }) W, J pre W → pre.length < k → YieldAt Fence.wide (m - 1) Try.prog l #[.int .u32 (x.1 : Int)] W fun e W' =>
      (e = .returned (.bool true) ∧ J (pre ++ [x]) W' ∧ KN Bn W W') ∨ (e = .returned (.bool false) ∧ Jx (pre ++ [x]) W'))
    (W : World) (c1 : W.cell? ⟨Bk, 0, none⟩ = some (.string s)) (c2 : W.cell? ⟨Bc, 0, none⟩ = some (.int .i64 k)) (c3 : W.cell? ⟨Bn, 0, none⟩ = some (.int .u32 N)) (h0 : J [] W) :
    CallsIn Fence.wide m Try.prog 18 #[.func (.yield l) #[] #[], .pointer (some ⟨Bk, 0, none⟩), .pointer (some ⟨Bc, 0, none⟩), .pointer (some ⟨Bn, 0, none⟩)] W fun e W' => (∃ v, e = .returned v) ∧
      ((∃ ys, ys = placesS s.data.toList hN k ∧ J ys W') ∨ (∃ pre, pre <+: placesS s.data.toList hN k ∧ Jx pre W')) := by
  have hh := hashL_lt s.data.toList
  have htl := turnN_lt hh
  have hpd : placesS s.data.toList hN k = plcsS (turnN (hashL s.data.toList)) N hN k (hashL s.data.toList) := rfl
  rw [hpd]
  have hha := hash_any s W hs
  have hro := rotate_any (hashL s.data.toList) W hh
  obtain ⟨h0', h0e⟩ : ∃ h0, h0 = hashL s.data.toList := ⟨_, rfl⟩
  rw [← h0e] at hh htl hha hro ⊢
  obtain ⟨t, ht⟩ : ∃ t, t = turnN h0' := ⟨_, rfl⟩
  rw [← ht] at htl hro ⊢
  have HHA := Lib.hid hha
  have HRO := Lib.hid hro
  clear hpd h0e ht hha hro
  refine callsIn_of_wp Try.func18 rfl trivial ?_ rfl
  simp only [Try.ntmps18, List.size_toArray, List.length_cons, List.length_nil, Nat.reduceAdd, Nat.reduceSub, Array.replicate_succ, Array.replicate_zero, List.push_toArray, List.append_toArray, List.nil_append, List.cons_append]
  gi_wp2_with fail
  refine ⟨trivial, (callsIn_wide.2 HHA.out).mono ?_⟩
  rintro e w' ⟨rfl, rfl⟩
  gi_wp2_with fail
  refine ⟨trivial, (callsIn_wide.2 HRO.out).mono ?_⟩
  rintro e w' ⟨rfl, rfl⟩
  gi_wp2_with fail
  gi_loopw [5, 12] (fun hv iv wr => ∃ i : Nat, i ≤ k ∧ iv = .int .i64 i ∧ hv = .int .u32 ((hAt t i h0' : Nat) : Int) ∧ J (plcsS t N hN i h0') wr ∧ KN Bn W wr)
    (fun _ iv _ => k - (intOf iv).toNat)
  case atStart => exact ⟨0, Nat.zero_le _, rfl, rfl, h0, rfl⟩
  case round =>
    obtain ⟨i, hi, rfl, rfl, hJs, hnx⟩ := hrel
    have hlt := hAt_lt t i h0' hh
    have hnext : hAt t (i + 1) h0' = (hAt t i h0' + t) % 4294967296 := rfl
    have hsn := plcsS_snoc t N hN i h0'
    have hpl := plcsS_length t N hN i h0'
    obtain ⟨x, hx⟩ : ∃ x, x = hAt t i h0' := ⟨_, rfl⟩
    rw [← hx] at hlt hnext hsn ⊢
    have HX := Lib.hid hnext
    have HSN := Lib.hid hsn
    have HJ := Lib.hid hJs
    have HNX := Lib.hid hnx
    clear hnext hsn hx hJs
    by_cases hik : i < k
    · have c4 : wr.cell? ⟨Bn, 0, none⟩ = some (.int .u32 N) := Eq.trans hnx c3
      have hn0 : ((N : Int) == 0) = false := by rw [beq_eq_false_iff_ne]; omega
      obtain ⟨fn, tmps, assign, body, hy, hR⟩ := hY _ ⟨x % N, Nat.mod_lt _ hN⟩ wr HJ.out (by rw [hpl]; exact hik)
      have HR := Lib.hid hR
      dsimp only at hy
      rw [show (((x % N : Nat)) : Int) = (x : Int) % (N : Int) from by omega] at hy
      clear hR hnx hpl
      gi_wp2_with fail
      refine HR.out.mono ?_
      rintro e W3 (⟨rfl, hJ3, hk3⟩ | ⟨rfl, hJx3⟩)
      · have HJ3 := Lib.hid hJ3
        have HK3 := Lib.hid (KN.trans HNX.out hk3)
        clear hJ3 hk3 c4 hy
        gi_wp2_with fail
        go_roundw
        case rel => exact ⟨i + 1, by omega, by go_num, by rw [HX.out]; go_num, by rw [HSN.out]; exact HJ3.out, HK3.out⟩
        case measure => simp [intOf]; omega
      · gi_wp2_with fail
        refine bodyPost_ret (results_none rfl _ _ _) rfl ?_
        refine ⟨⟨_, rfl⟩, .inr ⟨_, ?_, hJx3⟩⟩
        rw [← HSN.out]
        exact plcsS_prefix t N hN h0' (by omega)
    · obtain rfl : i = k := by omega
      gi_wp2_with fail
      go_end0
      exact ⟨⟨_, rfl⟩, .inl ⟨_, rfl, HJ.out⟩⟩

/-- What 'places' answers gives the places, one by one. -/
theorem places_stops (m : Nat) (hm : 1 ≤ m) (Bk Bc Bn : Nat) (w : World) (hbk : Bk < w.heap.size) (hbc : Bc < w.heap.size) (hbn : Bn < w.heap.size) (s : ByteArray) (hs : s.size ≤ maxLen) (N k : Nat) (hN : 0 < N) (hN2 : N ≤ 8388608) (hk : k ≤ 255)
    (c1 : w.cell? ⟨Bk, 0, none⟩ = some (.string s)) (c2 : w.cell? ⟨Bc, 0, none⟩ = some (.int .i64 k)) (c3 : w.cell? ⟨Bn, 0, none⟩ = some (.int .u32 N)) :
    SeqStopsK Fence.wide m Try.prog 18 #[.pointer (some ⟨Bk, 0, none⟩), .pointer (some ⟨Bc, 0, none⟩), .pointer (some ⟨Bn, 0, none⟩)] (fun x : { x : Nat // x < N } => #[Value.int .u32 (x.1 : Int)]) (KN Bn) (fun ys => ys = placesS s.data.toList hN k) (fun pre => pre <+: placesS s.data.toList hN k) k w :=
  fun l J Jx W hW _ _ hY h0 => by
    have hb := hW
    exact places1_in m hm l Bk Bc Bn s hs N k hN hN2 hk J Jx hY W ((hb.cell (p := ⟨Bk, 0, none⟩) hbk).trans c1) ((hb.cell (p := ⟨Bc, 0, none⟩) hbc).trans c2) ((hb.cell (p := ⟨Bn, 0, none⟩) hbn).trans c3) h0

set_option maxHeartbeats 1000000 in
theorem places_any (s : ByteArray) (N k : Int) (w : World) :
    Calls Try.prog 16 #[.string s, .int .u32 N, .int .i64 k] w fun e w' => e = .returned (.func (.func 18) #[] #[.pointer (some ⟨w.heap.size, 0, none⟩), .pointer (some ⟨w.heap.size + 1 + 1, 0, none⟩), .pointer (some ⟨w.heap.size + 1, 0, none⟩)]) ∧
      w' = ((w.alloc (.cells #[.string s] 9)).alloc (.cells #[.int .u32 N] 27)).alloc (.cells #[.int .i64 k] 3) := by
  go_enter Try.func16, Try.ntmps16
  go_wp2_with fail
  go_ret
  exact ⟨rfl, rfl⟩
end Go.Proofs.Ytmlkjeaoaanogaa
