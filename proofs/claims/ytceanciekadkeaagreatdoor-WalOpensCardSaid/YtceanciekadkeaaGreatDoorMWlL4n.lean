/-
  Texts joined: WlPB, WlLd.
-/
import Derived.Test.YtceanciekadkeaaGreatDoorMWlL4a
import Derived.Test.YtceanciekadkeaaGreatDoorMWlL4k
import Derived.Test.YtceanciekadkeaaGreatDoorMWlL4m
import Derived.Deep.DeepHandedRow
import Derived.Stop.LaidErr
import Derived.Shelf.Vars
import Derived.MakeChecks
/- WalOpens: the walk -/
namespace Go.Proofs.YtceanciekadkeaaGreatDoor
open Go.RowKit
theorem elem_str : Elem Tryz.prog 36 9 1 16 := elem_of (by kernel_rfl)
theorem one_txts (l : List (List UInt8)) : ∀ u ∈ txts l, u.oneCell' = true := fun u hu => by
  obtain ⟨b, _, rfl⟩ := List.mem_map.1 hu
  rfl
theorem txts_append (a b : List (List UInt8)) : txts (a ++ b) = txts a ++ txts b := by simp [strs]
abbrev rowT (A : Option Addr) (c : Nat) (l : List (List UInt8)) : Chunk := row A l.length c 9 1 (txts l)
theorem u64_le (n : Int) : 0 ≤ IntKind.u64.wrap n ∧ IntKind.u64.wrap n ≤ 18446744073709551615 := by
  unfold IntKind.wrap
  simp [IntKind.bits, IntKind.signed]
  omega
theorem number_of (n : Int) : ∃ m : Nat, m ≤ 1000000 ∧ (IntKind.u64.wrap n).tmod 1000001 = m := by
  obtain ⟨h1, h2⟩ := u64_le n
  refine ⟨((IntKind.u64.wrap n).tmod 1000001).toNat, ?_, ?_⟩
  · have := Int.tmod_lt_of_pos (IntKind.u64.wrap n) (b := 1000001) (by decide)
    omega
  · have := Int.tmod_nonneg (a := IntKind.u64.wrap n) 1000001 h1
    omega
set_option maxHeartbeats 2000000 in
theorem opens_sl (W : World) (mA : Option Addr) (mc : Nat) (ms : List Int) (hmr : Reads W W.heap.size 1 mA ms.length (ints ms)) (hmn : ms.length ≤ 17592186044415) (A : Option Addr) (c : Nat) (S : List ByS) (hr : Reads W W.heap.size 1 A S.length (S.map ByS.v)) (hok : ∀ s ∈ S, ByS.ok W s) (hn : S.length ≤ 5864062014634) (fr : Int) : Fn Tryz.prog 4 #[.slice mA ms.length mc, .slice A S.length c, .int .i64 fr] [argc W, laidC] Unit (fun _ => .bool true) (fun _ => []) (fun _ => True) := by
  refine Fn.enter Tryz.func4 rfl Tryz.ntmps4 (by rfl) ?_
  intro w0
  refine Ent.arg 0 (by rfl) hr ?_
  refine Ent.arg 1 (by rfl) hmr ?_
  refine Cd.seq ?_
  refine Cd.region ?_
  refine Ls.ev (some 6) (Ev.assign (show Oper.op _ = Op.assign (Operand.const (Value.bool false)) from rfl) (by rfl)) (by rfl) (by rfl) ?_
  refine Ls.nil ?_
  refine Cd.seq ?_
  refine Cd.seq ?_
  refine Cd.region ?_
  refine Ls.does (some 26) (Does.read (show Oper.op _ = Op.call { callee := Callee.value (Operand.func 8), args := #[], argTypes := #[] } from rfl) Tryz.func8 (by kernel_rfl) (by kernel_rfl) (awake_sl) (by rfl) (by rfl) ⟨laidIn 3 (by rfl), trivial⟩) (by rfl) (by rfl) ?_
  rintro _ -
  refine Ls.ev (some 27) (Ev.not (show Oper.op _ = Op.unOp UnOp.not 4 (Operand.tmp 26) from rfl) (by rfl)) (by rfl) (by rfl) ?_
  refine Ls.ev (some 28) (Ev.move (show Oper.op _ = Op.move (Operand.tmp 27) from rfl) (by rfl)) (by rfl) (by rfl) ?_
  refine Ent.known 28 false (by rfl) (by exact (rfl)) ?_
  refine Ls.ev (some 29) (Ev.move (show Oper.op _ = Op.move (Operand.tmp 1) from rfl) (by rfl)) (by rfl) (by rfl) ?_
  refine Ls.ev (some 30) (Ev.len (show Oper.op _ = Op.call { callee := Callee.builtin Builtin.len, args := #[Operand.tmp 29], argTypes := #[22] } from rfl) (by rfl) Tryz.underlying22) (by rfl) (by rfl) ?_
  refine Ls.ev (some 31) (Ev.gtr (show Oper.op _ = Op.binOp BinOp.gtr 3 (Operand.tmp 30) (Operand.const (Value.int IntKind.i64 20)) 3 from rfl) (by rfl) (by rfl)) (by rfl) (by rfl) ?_
  refine Ls.ev (some 32) (Ev.pickF (show Oper.op _ = Op.pick (Operand.tmp 28) (Operand.const (Value.bool true)) (Operand.tmp 31) from rfl) (by rfl) (by rfl)) (by rfl) (by rfl) ?_
  refine Ls.nil ?_
  skip
  by_cases h20 : 20 < S.length
  · skip
    refine Cd.cond_true (by rfl) (decide_eq_true (show (20 : Int) < (S.length : Int) by omega)) ?_
    refine Cd.seq ?_
    refine Cd.region ?_
    refine Ls.does (some 33) (Does.read (show Oper.op _ = Op.call { callee := Callee.value (Operand.func 8), args := #[], argTypes := #[] } from rfl) Tryz.func8 (by kernel_rfl) (by kernel_rfl) (awake_sl) (by rfl) (by rfl) ⟨laidIn 3 (by rfl), trivial⟩) (by rfl) (by rfl) ?_
    rintro _ -
    refine Ls.ev (some 6) (Ev.assign (show Oper.op _ = Op.assign (Operand.tmp 33) from rfl) (by rfl)) (by rfl) (by rfl) ?_
    refine Ls.nil ?_
    refine Cd.ret ?_
    refine Ent.ret (()) (trivial) (Res.tmp (by rfl) (by rfl)) ?_ [] (by rfl) ?_
    · rfl
    · rfl
  · skip
    refine Cd.cond_false (by rfl) (decide_eq_false (show ¬ ((20 : Int) < (S.length : Int)) by omega)) ?_
    refine Cd.skip ?_
    refine Cd.seq ?_
    refine Cd.region ?_
    refine Ls.ev (some 7) (Ev.assign (show Oper.op _ = Op.assign (Operand.const (Value.slice none 0 0)) from rfl) (by rfl)) (by rfl) (by rfl) ?_
    refine Ls.nil ?_
    refine Cd.seq ?_
    refine Cd.region ?_
    refine Ls.ev (some 8) (Ev.assign (show Oper.op _ = Op.assign (Operand.const (Value.slice none 0 0)) from rfl) (by rfl)) (by rfl) (by rfl) ?_
    refine Ls.nil ?_
    refine Cd.seq ?_
    refine Cd.seq ?_
    refine Cd.region ?_
    refine Ls.ev (some 34) (Ev.move (show Oper.op _ = Op.move (Operand.tmp 1) from rfl) (by rfl)) (by rfl) (by rfl) ?_
    refine Ls.ev (some 35) (Ev.len (show Oper.op _ = Op.call { callee := Callee.builtin Builtin.len, args := #[Operand.tmp 34], argTypes := #[22] } from rfl) (by rfl) Tryz.underlying22) (by rfl) (by rfl) ?_
    refine Ls.ev (some 36) (Ev.move (show Oper.op _ = Op.move (Operand.const (Value.int IntKind.i64 0)) from rfl) (by rfl)) (by rfl) (by rfl) ?_
    refine Ls.nil ?_
    refine Cd.block ?_
    refine Ent.nil 30 1 ?_
    refine Ent.nil 9 1 ?_
    refine Ent.map (fun w hs => hs.stars_nil) ?_
    refine Ent.pick [1, 2, 0, 3, 4, 5, 6] (by rfl) ?_
    skip
    refine Cd.loop (ι := Nat × (Option Addr × Nat × List (List UInt8)) × (Option Addr × Nat × List ByS)) (fun p => [(0, .slice mA ms.length mc), (1, .slice A S.length c), (2, .int .i64 fr), (7, .slice p.2.1.1 p.2.1.2.2.length p.2.1.2.1), (8, .slice p.2.2.1 p.2.2.2.2.length p.2.2.2.1), (35, .int .i64 S.length), (36, .int .i64 p.1)]) (fun p => [rowT p.2.1.1 p.2.1.2.1 p.2.1.2.2, payW p.2.2.1 p.2.2.2.1 p.2.2.2.2, payR p.2.2.2.2, rd mA ms.length 1 (ints ms), rdV A S, argc W, laidC]) (fun p => p.1 ≤ S.length ∧ InOk p.2.1.2.2 p.2.2.2.2 ∧ p.2.1.2.2.length ≤ p.1) (fun p => S.length - p.1) ((0, (none, 0, []), (none, 0, []))) (⟨Nat.zero_le _, InOk.nil, Nat.le_refl _⟩) ?_ rfl ?_
    · (repeat (first | exact trivial | refine ⟨by rfl, ?_⟩))
    rintro ⟨k, ⟨nA, nc, ns⟩, ⟨bA, bc, U⟩⟩ ⟨hk, hin, hnk⟩
    dsimp only at hk hin hnk ⊢
    have hUl := hin.len
    refine Cd.seq ?_
    refine Cd.region ?_
    refine Ls.ev (some 37) (Ev.lss (show Oper.op _ = Op.binOp BinOp.lss 3 (Operand.tmp 36) (Operand.tmp 35) 3 from rfl) (by rfl) (by rfl)) (by rfl) (by rfl) ?_
    refine Ls.nil ?_
    refine Cd.seq ?_
    refine Cd.cond _ (by rfl) (fun h2 => ?_) (fun h2 => ?_)
    · skip
      have hlt : k < S.length := by have := of_decide_eq_true h2; omega
      obtain ⟨s, hs⟩ := get_of_lt hlt
      have hoks := hok s (List.mem_of_getElem? hs)
      refine Ent.rdSome 4 (by rfl) (by omega) (fun ad had => ?_)
      subst had
      refine Cd.skip ?_
      refine Cd.seq ?_
      refine Cd.block ?_
      refine Cd.seq ?_
      refine Cd.region ?_
      refine Ls.ev (some 38) (Ev.move (show Oper.op _ = Op.move (Operand.tmp 36) from rfl) (by rfl)) (by rfl) (by rfl) ?_
      refine Ls.ev (some 9) (Ev.assign (show Oper.op _ = Op.assign (Operand.tmp 38) from rfl) (by rfl)) (by rfl) (by rfl) ?_
      refine Ls.nil ?_
      refine Cd.seq ?_
      refine Cd.region ?_
      refine Ls.ev (some 39) (Ev.move (show Oper.op _ = Op.move (Operand.tmp 9) from rfl) (by rfl)) (by rfl) (by rfl) ?_
      refine Ls.ev (some 40) (Ev.addN (b := 1) (show Oper.op _ = Op.binOp BinOp.add 3 (Operand.tmp 39) (Operand.const (Value.int IntKind.i64 1)) 3 from rfl) (by rfl) (by rfl) (by omega)) (by rfl) (by rfl) ?_
      refine Ls.ev (some 10) (Ev.assign (show Oper.op _ = Op.assign (Operand.tmp 40) from rfl) (by rfl)) (by rfl) (by rfl) ?_
      refine Ls.nil ?_
      refine Cd.seq ?_
      refine Cd.seq ?_
      refine Cd.region ?_
      refine Ls.ev (some 41) (Ev.move (show Oper.op _ = Op.move (Operand.tmp 9) from rfl) (by rfl)) (by rfl) (by rfl) ?_
      refine Ls.ev (some 42) (Ev.move (show Oper.op _ = Op.move (Operand.tmp 0) from rfl) (by rfl)) (by rfl) (by rfl) ?_
      refine Ls.ev (some 43) (Ev.len (show Oper.op _ = Op.call { callee := Callee.builtin Builtin.len, args := #[Operand.tmp 42], argTypes := #[35] } from rfl) (by rfl) Tryz.underlying35) (by rfl) (by rfl) ?_
      refine Ls.ev (some 44) (Ev.lss (show Oper.op _ = Op.binOp BinOp.lss 3 (Operand.tmp 41) (Operand.tmp 43) 3 from rfl) (by rfl) (by rfl)) (by rfl) (by rfl) ?_
      refine Ls.nil ?_
      refine Cd.cut (ι := Nat) (fun m => [(0, .slice mA ms.length mc), (1, .slice (some ad) S.length c), (2, .int .i64 fr), (7, .slice nA ns.length nc), (8, .slice bA U.length bc), (9, .int .i64 k), (10, .int .i64 m), (35, .int .i64 S.length), (36, .int .i64 k)]) (fun _ => [rowT nA nc ns, payW bA bc U, payR U, rd mA ms.length 1 (ints ms), rdV (some ad) S, argc W, laidC]) (fun m => m ≤ 1000000) ?_ ?_
      · skip
        by_cases hkm : k < ms.length
        · skip
          obtain ⟨mv, hmv⟩ := get_of_lt hkm
          obtain ⟨m, hm1, hm2⟩ := number_of mv
          refine Cd.cond_true (by rfl) (decide_eq_true (show (k : Int) < (ms.length : Int) by omega)) ?_
          refine Ent.rdSome 3 (by rfl) (by omega) (fun md hmd => ?_)
          obtain rfl : mA = some md := hmd
          refine Cd.region ?_
          refine Ls.ev (some 45) (Ev.move (show Oper.op _ = Op.move (Operand.tmp 0) from rfl) (by rfl)) (by rfl) (by rfl) ?_
          refine Ls.ev (some 46) (Ev.move (show Oper.op _ = Op.move (Operand.tmp 9) from rfl) (by rfl)) (by rfl) (by rfl) ?_
          refine Ls.ev (some 47) (Ev.indexAt (sz := 1) (show Oper.op _ = Op.indexAddr 35 (Operand.tmp 45) (Operand.tmp 46) from rfl) (by rfl) (by rfl) Tryz.underlying35 (by kernel_rfl) (by omega)) (by rfl) (by rfl) ?_
          refine Ls.ev (some 48) (Ev.loadInt (show Oper.op _ = Op.load 3 (Operand.tmp 47) from rfl) (by rfl) (ReadsIn.rd 3 (by rfl)) (by kernel_rfl) (by assumption)) (by rfl) (by rfl) ?_
          refine Ls.ev (some 49) (Ev.conv (show Oper.op _ = Op.convert 3 37 (Operand.tmp 48) from rfl) (by rfl) (by kernel_rfl) Tryz.underlying37) (by rfl) (by rfl) ?_
          skip
          refine Ls.ev (some 50) (Ev.to (Ev.rem (show Oper.op _ = Op.binOp BinOp.rem 37 (Operand.tmp 49) (Operand.const (Value.int IntKind.u64 1000001)) 37 from rfl) (by rfl) (by rfl) (by decide)) (congrArg (Value.int .u64) hm2)) (by rfl) (by rfl) ?_
          refine Ls.ev (some 51) (Ev.convI (show Oper.op _ = Op.convert 37 3 (Operand.tmp 50) from rfl) (by rfl) (by kernel_rfl) Tryz.underlying3 (by omega)) (by rfl) (by rfl) ?_
          refine Ls.ev (some 10) (Ev.assign (show Oper.op _ = Op.assign (Operand.tmp 51) from rfl) (by rfl)) (by rfl) (by rfl) ?_
          refine Ls.nil ?_
          refine Ent.inv (m) ?_ ?_ ?_
          · (try dsimp only); exact hm1
          · (repeat (first | exact trivial | refine ⟨by rfl, ?_⟩ | refine ⟨by simp only [List.length_append, List.length_cons, List.length_nil]; rfl, ?_⟩ | refine ⟨by push_cast; rfl, ?_⟩))
          · rfl
        · skip
          refine Cd.cond_false (by rfl) (decide_eq_false (show ¬ ((k : Int) < (ms.length : Int)) by omega)) ?_
          refine Cd.skip ?_
          refine Ent.inv ((k + 1)) ?_ ?_ ?_
          · (try dsimp only); omega
          · (repeat (first | exact trivial | refine ⟨by rfl, ?_⟩ | refine ⟨by simp only [List.length_append, List.length_cons, List.length_nil]; rfl, ?_⟩ | refine ⟨by push_cast; rfl, ?_⟩))
          · rfl
      skip
      rintro m hm
      refine Cd.seq ?_
      refine Cd.region ?_
      refine Ls.ev (some 52) (Ev.move (show Oper.op _ = Op.move (Operand.tmp 10) from rfl) (by rfl)) (by rfl) (by rfl) ?_
      refine Ls.does (some 53) (Does.read (show Oper.op _ = Op.call { callee := Callee.value (Operand.func 13), args := #[Operand.tmp 52], argTypes := #[3] } from rfl) Tryz.func13 (by kernel_rfl) (by kernel_rfl) (rname_sl m hm) (by rfl) (by rfl) trivial) (by rfl) (by rfl) ?_
      rintro _ -
      refine Ls.ev (some 11) (Ev.assign (show Oper.op _ = Op.assign (Operand.tmp 53) from rfl) (by rfl)) (by rfl) (by rfl) ?_
      refine Ls.nil ?_
      refine Cd.seq ?_
      refine Cd.region ?_
      refine Ls.ev (some 54) (Ev.move (show Oper.op _ = Op.move (Operand.tmp 1) from rfl) (by rfl)) (by rfl) (by rfl) ?_
      refine Ls.ev (some 55) (Ev.move (show Oper.op _ = Op.move (Operand.tmp 9) from rfl) (by rfl)) (by rfl) (by rfl) ?_
      refine Ls.ev (some 56) (Ev.indexAt (sz := 1) (show Oper.op _ = Op.indexAddr 22 (Operand.tmp 54) (Operand.tmp 55) from rfl) (by rfl) (by rfl) Tryz.underlying22 (by kernel_rfl) (by omega)) (by rfl) (by rfl) ?_
      refine Ls.ev (some 57) (Ev.loadV (show Oper.op _ = Op.load 30 (Operand.tmp 56) from rfl) (by rfl) (ReadsIn.rd 4 (by rfl)) (by kernel_rfl) hs) (by rfl) (by rfl) ?_
      refine Ls.ev (some 58) (Ev.len (show Oper.op _ = Op.call { callee := Callee.builtin Builtin.len, args := #[Operand.tmp 57], argTypes := #[30] } from rfl) (by rfl) Tryz.underlying30) (by rfl) (by rfl) ?_
      refine Ls.ev (some 59) (Ev.lss (show Oper.op _ = Op.binOp BinOp.lss 3 (Operand.tmp 58) (Operand.const (Value.int IntKind.i64 20000)) 3 from rfl) (by rfl) (by rfl)) (by rfl) (by rfl) ?_
      generalize hb0 : decide ((s.l.length : Int) < 20000) = b0
      refine Ls.ev (some 12) (Ev.assign (show Oper.op _ = Op.assign (Operand.tmp 59) from rfl) (by rfl)) (by rfl) (by rfl) ?_
      refine Ls.nil ?_
      refine Cd.seq ?_
      refine Cd.seq ?_
      refine Cd.region ?_
      refine Ls.ev (some 60) (Ev.move (show Oper.op _ = Op.move (Operand.tmp 7) from rfl) (by rfl)) (by rfl) (by rfl) ?_
      refine Ls.ev (some 61) (Ev.len (show Oper.op _ = Op.call { callee := Callee.builtin Builtin.len, args := #[Operand.tmp 60], argTypes := #[36] } from rfl) (by rfl) Tryz.underlying36) (by rfl) (by rfl) ?_
      refine Ls.ev (some 62) (Ev.move (show Oper.op _ = Op.move (Operand.const (Value.int IntKind.i64 0)) from rfl) (by rfl)) (by rfl) (by rfl) ?_
      refine Ls.nil ?_
      refine Cd.block ?_
      refine Cd.loop (ι := Nat × Bool) (fun p => [(0, .slice mA ms.length mc), (1, .slice (some ad) S.length c), (2, .int .i64 fr), (7, .slice nA ns.length nc), (8, .slice bA U.length bc), (9, .int .i64 k), (11, .string (txt (nmR m))), (12, .bool p.2), (35, .int .i64 S.length), (36, .int .i64 k), (60, .slice nA ns.length nc), (61, .int .i64 ns.length), (62, .int .i64 p.1)]) (fun _ => [rowT nA nc ns, payW bA bc U, payR U, rd mA ms.length 1 (ints ms), rdV (some ad) S, argc W, laidC]) (fun p => p.1 ≤ ns.length ∧ (p.2 = true ↔ s.l.length < 20000 ∧ ∀ x ∈ ns.take p.1, x ≠ nmR m)) (fun p => ns.length - p.1) ((0, b0)) (⟨Nat.zero_le _, by rw [← hb0, decide_eq_true_eq]; exact ⟨fun h => ⟨by omega, fun x hx => absurd (show x ∈ [] from hx) List.not_mem_nil⟩, fun h => by omega⟩⟩) ?_ rfl ?_
      · (repeat (first | exact trivial | refine ⟨by rfl, ?_⟩))
      rintro ⟨j, fb⟩ ⟨hj, hfb⟩
      dsimp only at hj hfb ⊢
      refine Cd.seq ?_
      refine Cd.region ?_
      refine Ls.ev (some 63) (Ev.lss (show Oper.op _ = Op.binOp BinOp.lss 3 (Operand.tmp 62) (Operand.tmp 61) 3 from rfl) (by rfl) (by rfl)) (by rfl) (by rfl) ?_
      refine Ls.nil ?_
      refine Cd.seq ?_
      refine Cd.cond _ (by rfl) (fun h3 => ?_) (fun h3 => ?_)
      · skip
        have hjl : j < ns.length := by have := of_decide_eq_true h3; omega
        obtain ⟨x, hx⟩ := get_of_lt hjl
        have hqt : (ns.map txt)[j]? = some (txt x) := by rw [List.getElem?_map, hx]; rfl
        have htk : ns.take (j + 1) = ns.take j ++ [x] := by rw [List.take_add_one, hx]; rfl
        refine Ent.rowSome 0 (by rfl) (by omega) (fun nd hnd => ?_)
        obtain rfl : nA = some nd := hnd
        refine Cd.skip ?_
        refine Cd.seq ?_
        refine Cd.block ?_
        refine Cd.seq ?_
        refine Cd.region ?_
        refine Ls.ev (some 64) (Ev.indexAt (sz := 1) (show Oper.op _ = Op.indexAddr 36 (Operand.tmp 60) (Operand.tmp 62) from rfl) (by rfl) (by rfl) Tryz.underlying36 (by kernel_rfl) (by omega)) (by rfl) (by rfl) ?_
        refine Ls.ev (some 65) (Ev.loadStr (show Oper.op _ = Op.load 9 (Operand.tmp 64) from rfl) (by rfl) (ReadsIn.row 0 (by rfl)) (by kernel_rfl) (by assumption)) (by rfl) (by rfl) ?_
        refine Ls.ev (some 14) (Ev.assign (show Oper.op _ = Op.assign (Operand.tmp 65) from rfl) (by rfl)) (by rfl) (by rfl) ?_
        refine Ls.nil ?_
        refine Cd.region ?_
        refine Ls.ev (some 66) (Ev.move (show Oper.op _ = Op.move (Operand.tmp 12) from rfl) (by rfl)) (by rfl) (by rfl) ?_
        refine Ls.ev (some 67) (Ev.move (show Oper.op _ = Op.move (Operand.tmp 66) from rfl) (by rfl)) (by rfl) (by rfl) ?_
        cases fb with
        | false =>
          skip
          refine Ent.known 67 false (by rfl) (by exact (rfl)) ?_
          refine Ls.pass (some 68) (by rfl) (by rfl) ?_
          refine Ls.pass (some 69) (by rfl) (by rfl) ?_
          refine Ls.pass (some 70) (by rfl) (by rfl) ?_
          refine Ls.ev (some 71) (Ev.pickF (show Oper.op _ = Op.pick (Operand.tmp 67) (Operand.tmp 70) (Operand.const (Value.bool false)) from rfl) (by rfl) (by rfl)) (by rfl) (by rfl) ?_
          refine Ls.ev (some 12) (Ev.assign (show Oper.op _ = Op.assign (Operand.tmp 71) from rfl) (by rfl)) (by rfl) (by rfl) ?_
          refine Ls.nil ?_
          refine Cd.region ?_
          refine Ls.ev (some 72) (Ev.addN (b := 1) (show Oper.op _ = Op.binOp BinOp.add 3 (Operand.tmp 62) (Operand.const (Value.int IntKind.i64 1)) 3 from rfl) (by rfl) (by rfl) (by omega)) (by rfl) (by rfl) ?_
          refine Ls.ev (some 62) (Ev.move (show Oper.op _ = Op.move (Operand.tmp 72) from rfl) (by rfl)) (by rfl) (by rfl) ?_
          refine Ls.nil ?_
          skip
          refine Ent.inv ((j + 1, false)) ?_ ?_ ?_
          · (try dsimp only); exact ⟨⟨hjl, by
            rw [htk]
            refine ⟨fun h => (by cases h), fun ⟨h4, h5⟩ => hfb.2 ⟨h4, fun y hy => h5 y (List.mem_append_left _ hy)⟩⟩⟩, by omega⟩
          · (repeat (first | exact trivial | refine ⟨by rfl, ?_⟩ | refine ⟨by simp only [List.length_append, List.length_cons, List.length_nil]; rfl, ?_⟩ | refine ⟨by push_cast; rfl, ?_⟩))
          · rfl
        | true =>
          skip
          refine Ent.known 67 true (by rfl) (by exact (rfl)) ?_
          refine Ls.ev (some 68) (Ev.move (show Oper.op _ = Op.move (Operand.tmp 14) from rfl) (by rfl)) (by rfl) (by rfl) ?_
          refine Ls.ev (some 69) (Ev.move (show Oper.op _ = Op.move (Operand.tmp 11) from rfl) (by rfl)) (by rfl) (by rfl) ?_
          refine Ls.ev (some 70) (Ev.neqS (show Oper.op _ = Op.binOp BinOp.neq 9 (Operand.tmp 68) (Operand.tmp 69) 9 from rfl) (by rfl) (by rfl)) (by rfl) (by rfl) ?_
          refine Ls.ev (some 71) (Ev.pickT (show Oper.op _ = Op.pick (Operand.tmp 67) (Operand.tmp 70) (Operand.const (Value.bool false)) from rfl) (by rfl) (by rfl)) (by rfl) (by rfl) ?_
          refine Ls.ev (some 12) (Ev.assign (show Oper.op _ = Op.assign (Operand.tmp 71) from rfl) (by rfl)) (by rfl) (by rfl) ?_
          refine Ls.nil ?_
          refine Cd.region ?_
          refine Ls.ev (some 72) (Ev.addN (b := 1) (show Oper.op _ = Op.binOp BinOp.add 3 (Operand.tmp 62) (Operand.const (Value.int IntKind.i64 1)) 3 from rfl) (by rfl) (by rfl) (by omega)) (by rfl) (by rfl) ?_
          refine Ls.ev (some 62) (Ev.move (show Oper.op _ = Op.move (Operand.tmp 72) from rfl) (by rfl)) (by rfl) (by rfl) ?_
          refine Ls.nil ?_
          skip
          refine Ent.inv ((j + 1, decide (txt x ≠ txt (nmR m)))) ?_ ?_ ?_
          · (try dsimp only); exact ⟨⟨hjl, by
            obtain ⟨h4, h5⟩ := hfb.1 rfl
            rw [htk, decide_eq_true_eq]
            refine ⟨fun h => ⟨h4, fun y hy => ?_⟩, fun ⟨_, h6⟩ e => h6 x (List.mem_append_right _ (List.mem_singleton.2 rfl)) (txt_eq_iff.1 e)⟩
            rcases List.mem_append.1 hy with hy | hy
            · exact h5 y hy
            · rw [List.mem_singleton.1 hy]
              exact fun e => h (txt_eq_iff.2 e)⟩, by omega⟩
          · (repeat (first | exact trivial | refine ⟨by rfl, ?_⟩ | refine ⟨by simp only [List.length_append, List.length_cons, List.length_nil]; rfl, ?_⟩ | refine ⟨by push_cast; rfl, ?_⟩))
          · rfl
      · skip
        have hge : ns.length ≤ j := by have := of_decide_eq_false h3; omega
        rw [List.take_of_length_le hge] at hfb
        refine Cd.exit ?_
        refine Cd.seq ?_
        refine Cd.region ?_
        refine Ls.ev (some 73) (Ev.move (show Oper.op _ = Op.move (Operand.tmp 12) from rfl) (by rfl)) (by rfl) (by rfl) ?_
        refine Ls.nil ?_
        cases fb with
        | false =>
          skip
          refine Cd.cond_false (by rfl) (rfl) ?_
          refine Cd.skip ?_
          refine Cd.region ?_
          refine Ls.ev (some 85) (Ev.addN (b := 1) (show Oper.op _ = Op.binOp BinOp.add 3 (Operand.tmp 36) (Operand.const (Value.int IntKind.i64 1)) 3 from rfl) (by rfl) (by rfl) (by omega)) (by rfl) (by rfl) ?_
          refine Ls.ev (some 36) (Ev.move (show Oper.op _ = Op.move (Operand.tmp 85) from rfl) (by rfl)) (by rfl) (by rfl) ?_
          refine Ls.nil ?_
          refine Ent.inv ((k + 1, (nA, nc, ns), (bA, bc, U))) ?_ ?_ ?_
          · (try dsimp only); exact ⟨⟨hlt, hin, by omega⟩, by omega⟩
          · (repeat (first | exact trivial | refine ⟨by rfl, ?_⟩ | refine ⟨by simp only [List.length_append, List.length_cons, List.length_nil]; rfl, ?_⟩ | refine ⟨by push_cast; rfl, ?_⟩))
          · rfl
        | true =>
          obtain ⟨h4, h5⟩ := hfb.1 rfl
          skip
          refine Cd.cond_true (by rfl) (rfl) ?_
          refine Cd.seq ?_
          refine Cd.region ?_
          refine Ls.ev (some 74) (Ev.move (show Oper.op _ = Op.move (Operand.tmp 7) from rfl) (by rfl)) (by rfl) (by rfl) ?_
          refine Ls.ev (some 75) (Ev.move (show Oper.op _ = Op.move (Operand.tmp 11) from rfl) (by rfl)) (by rfl) (by rfl) ?_
          refine Ls.does (some 76) (Does.lit (sz := 1) (show Oper.op _ = Op.buildSlice 36 1 #[(0, Operand.tmp 75)] from rfl) (by rfl) Tryz.underlying36 (by kernel_rfl) (by rfl) (by kernel_rfl)) (by rfl) (by rfl) ?_
          intro g1 _
          refine Ls.does (some 77) (Does.app (xs := txts ns) (news := txts [nmR m]) 1 (show Oper.op _ = Op.call { callee := Callee.builtin Builtin.append, args := #[Operand.tmp 74, Operand.tmp 76], argTypes := #[36, 36] } from rfl) (by rfl) (by rfl) (by rfl) (ReadsIn.row 0 (by rfl)) elem_str (one_txts _) (show (ns.length + 1) * 16 ≤ 140737488355328 by omega)) (by rfl) (by rfl) ?_
          rintro r1 -
          refine Ls.ev (some 7) (Ev.assign (show Oper.op _ = Op.assign (Operand.tmp 77) from rfl) (by rfl)) (by rfl) (by rfl) ?_
          refine Ls.nil ?_
          refine Cd.region ?_
          refine Ls.ev (some 78) (Ev.move (show Oper.op _ = Op.move (Operand.tmp 8) from rfl) (by rfl)) (by rfl) (by rfl) ?_
          refine Ls.ev (some 79) (Ev.move (show Oper.op _ = Op.move (Operand.tmp 1) from rfl) (by rfl)) (by rfl) (by rfl) ?_
          refine Ls.ev (some 80) (Ev.move (show Oper.op _ = Op.move (Operand.tmp 9) from rfl) (by rfl)) (by rfl) (by rfl) ?_
          refine Ls.ev (some 81) (Ev.indexAt (sz := 1) (show Oper.op _ = Op.indexAddr 22 (Operand.tmp 79) (Operand.tmp 80) from rfl) (by rfl) (by rfl) Tryz.underlying22 (by kernel_rfl) (by omega)) (by rfl) (by rfl) ?_
          refine Ls.ev (some 82) (Ev.loadV (show Oper.op _ = Op.load 30 (Operand.tmp 81) from rfl) (by rfl) (ReadsIn.rd 5 (by rfl)) (by kernel_rfl) hs) (by rfl) (by rfl) ?_
          refine Ls.does (some 83) (Does.lit (sz := 1) (show Oper.op _ = Op.buildSlice 22 1 #[(0, Operand.tmp 82)] from rfl) (by rfl) Tryz.underlying22 (by kernel_rfl) (by rfl) (by kernel_rfl)) (by rfl) (by rfl) ?_
          intro g2 _
          refine Ls.does (some 84) (Does.app (xs := U.map ByS.v) (news := [s.v]) 3 (show Oper.op _ = Op.call { callee := Callee.builtin Builtin.append, args := #[Operand.tmp 78, Operand.tmp 83], argTypes := #[22, 22] } from rfl) (by rfl) (by rfl) (by rfl) (ReadsIn.row 0 (by rfl)) elem_pay (one_pay [s]) (show (U.length + 1) * 24 ≤ 140737488355328 by omega)) (by rfl) (by rfl) ?_
          rintro r2 -
          refine Ls.ev (some 8) (Ev.assign (show Oper.op _ = Op.assign (Operand.tmp 84) from rfl) (by rfl)) (by rfl) (by rfl) ?_
          refine Ls.nil ?_
          refine Cd.region ?_
          refine Ls.ev (some 85) (Ev.addN (b := 1) (show Oper.op _ = Op.binOp BinOp.add 3 (Operand.tmp 36) (Operand.const (Value.int IntKind.i64 1)) 3 from rfl) (by rfl) (by rfl) (by omega)) (by rfl) (by rfl) ?_
          refine Ls.ev (some 36) (Ev.move (show Oper.op _ = Op.move (Operand.tmp 85) from rfl) (by rfl)) (by rfl) (by rfl) ?_
          refine Ls.nil ?_
          refine Ent.arg 7 (by rfl) hoks.1 ?_
          refine Ent.pick [0, 5, 3, 4, 6, 7, 8, 9] (by rfl) ?_
          refine Ent.map (fun w hs' => Sat.stars_add (C := s.r) rfl hs') ?_
          refine Ent.pick [1, 2, 0, 3, 4, 5, 6] (by rfl) ?_
          refine Ent.inv ((k + 1, (r1.1, r1.2, ns ++ [nmR m]), (r2.1, r2.2, U ++ [s]))) ?_ ?_ ?_
          · (try dsimp only); exact ⟨⟨hlt, hin.snoc hm h4 h5, by rw [List.length_append, List.length_singleton]; omega⟩, by omega⟩
          · (repeat (first | exact trivial | refine ⟨by rfl, ?_⟩ | refine ⟨by simp only [List.length_append, List.length_cons, List.length_nil]; rfl, ?_⟩ | refine ⟨by push_cast; rfl, ?_⟩ | refine ⟨by (show some (Value.slice _ _ _) = some (Value.slice _ _ _); rw [List.length_append]; rfl), ?_⟩))
          · (show [_, _, _, _, _, _, _] = [_, _, _, _, _, _, _]; dsimp only [rowT, payW, payR]; rw [List.length_append, List.length_append, txts_append, List.map_append, List.map_append]; rfl)
    · skip
      have hn20 : ns.length ≤ 20 := by omega
      refine Cd.exit ?_
      refine Cd.seq ?_
      refine Cd.region ?_
      refine Ls.ev (some 86) (Ev.move (show Oper.op _ = Op.move (Operand.tmp 7) from rfl) (by rfl)) (by rfl) (by rfl) ?_
      refine Ls.does (some 87) (Does.lit (sz := 1) (show Oper.op _ = Op.buildSlice 36 2 #[(0, Operand.const (Value.string { data := #[119, 97, 108, 45, 49, 50] })), (1, Operand.const (Value.string { data := #[119, 97, 108, 45, 48, 48, 48, 48, 48, 120] }))] from rfl) (by rfl) Tryz.underlying36 (by kernel_rfl) (by rfl) (by kernel_rfl)) (by rfl) (by rfl) ?_
      intro g1 _
      refine Ls.does (some 88) (Does.app (xs := txts ns) (news := txts [w12, w0x]) 1 (show Oper.op _ = Op.call { callee := Callee.builtin Builtin.append, args := #[Operand.tmp 86, Operand.tmp 87], argTypes := #[36, 36] } from rfl) (by rfl) (by rfl) (by rfl) (ReadsIn.row 0 (by rfl)) elem_str (one_txts _) (show (ns.length + 2) * 16 ≤ 140737488355328 by omega)) (by rfl) (by rfl) ?_
      rintro r1 -
      refine Ls.ev (some 89) (Ev.move (show Oper.op _ = Op.move (Operand.tmp 8) from rfl) (by rfl)) (by rfl) (by rfl) ?_
      refine Ls.does (some 90) (Does.lit (sz := 1) (show Oper.op _ = Op.buildSlice 30 5 #[(0, Operand.const (Value.int IntKind.u8 0)), (1, Operand.const (Value.int IntKind.u8 0)), (2, Operand.const (Value.int IntKind.u8 0)), (3, Operand.const (Value.int IntKind.u8 0)), (4, Operand.const (Value.int IntKind.u8 0))] from rfl) (by rfl) Tryz.underlying30 (by kernel_rfl) (by rfl) (by kernel_rfl)) (by rfl) (by rfl) ?_
      intro g2 _
      refine Ls.does (some 91) (Does.lit (sz := 1) (show Oper.op _ = Op.buildSlice 30 5 #[(0, Operand.const (Value.int IntKind.u8 0)), (1, Operand.const (Value.int IntKind.u8 0)), (2, Operand.const (Value.int IntKind.u8 0)), (3, Operand.const (Value.int IntKind.u8 0)), (4, Operand.const (Value.int IntKind.u8 0))] from rfl) (by rfl) Tryz.underlying30 (by kernel_rfl) (by rfl) (by kernel_rfl)) (by rfl) (by rfl) ?_
      intro g3 _
      refine Ls.does (some 92) (Does.lit (sz := 1) (show Oper.op _ = Op.buildSlice 22 2 #[(0, Operand.tmp 90), (1, Operand.tmp 91)] from rfl) (by rfl) Tryz.underlying22 (by kernel_rfl) (by rfl) (by kernel_rfl)) (by rfl) (by rfl) ?_
      intro g4 _
      refine Ls.does (some 93) (Does.app (xs := U.map ByS.v) (news := [ByS.v ⟨some ⟨g2, 0, none⟩, 5, [0, 0, 0, 0, 0]⟩, ByS.v ⟨some ⟨g3, 0, none⟩, 5, [0, 0, 0, 0, 0]⟩]) 5 (show Oper.op _ = Op.call { callee := Callee.builtin Builtin.append, args := #[Operand.tmp 89, Operand.tmp 92], argTypes := #[22, 22] } from rfl) (by rfl) (by rfl) (by rfl) (ReadsIn.row 0 (by rfl)) elem_pay (one_pay [⟨some ⟨g2, 0, none⟩, 5, [0, 0, 0, 0, 0]⟩, ⟨some ⟨g3, 0, none⟩, 5, [0, 0, 0, 0, 0]⟩]) (show (U.length + 2) * 24 ≤ 140737488355328 by omega)) (by rfl) (by rfl) ?_
      rintro r2 -
      refine Ls.ev (some 7) (Ev.assign (show Oper.op _ = Op.assign (Operand.tmp 88) from rfl) (by rfl)) (by rfl) (by rfl) ?_
      refine Ls.ev (some 8) (Ev.assign (show Oper.op _ = Op.assign (Operand.tmp 93) from rfl) (by rfl)) (by rfl) (by rfl) ?_
      refine Ls.nil ?_
      refine Cd.seq ?_
      have hlo := hin.load hn20 (y := ⟨some ⟨g2, 0, none⟩, 5, [0, 0, 0, 0, 0]⟩) (z := ⟨some ⟨g3, 0, none⟩, 5, [0, 0, 0, 0, 0]⟩) (Nat.le_refl 5) (Nat.le_refl 5)
      obtain ⟨y, hy⟩ : ∃ y : ByS, y = ⟨some ⟨g2, 0, none⟩, 5, [0, 0, 0, 0, 0]⟩ := ⟨_, rfl⟩
      obtain ⟨z, hz⟩ : ∃ z : ByS, z = ⟨some ⟨g3, 0, none⟩, 5, [0, 0, 0, 0, 0]⟩ := ⟨_, rfl⟩
      rw [← hy, ← hz] at hlo ⊢
      refine Ent.see 2 (by rfl) ?_
      refine Ent.see 1 (by rfl) ?_
      refine Ent.pick [2, 6, 1, 4, 5, 9, 10] (by rfl) ?_
      refine Ent.restate [y.r, payR U, z.r, row r1.1 (ns.length + 2) r1.2 9 1 (txts ns ++ txts [w12, w0x]), row r2.1 (U.length + 2) r2.2 30 1 (U.map ByS.v ++ [y.v, z.v]), argc W, laidC] (by rw [hy, hz]; rfl) ?_
      refine Ent.map (fun w hs => Sat.stars_add (C := y.r) rfl hs) ?_
      refine Ent.pick [1, 0, 2, 3, 4, 5] (by rfl) ?_
      refine Ent.map (fun w hs => Sat.stars_add (C := z.r) rfl hs) ?_
      refine Ent.see 1 (by rfl) ?_
      refine Ent.see 2 (by rfl) ?_
      clear hy hz
      obtain ⟨ns', hns'⟩ : ∃ x, x = ns ++ [w12, w0x] := ⟨_, rfl⟩
      obtain ⟨U', hU'⟩ : ∃ x, x = U ++ [y, z] := ⟨_, rfl⟩
      have hl1 : ns.length + 2 = ns'.length := by rw [hns', List.length_append]; rfl
      have hl2 : U.length + 2 = U'.length := by rw [hU', List.length_append]; rfl
      have ht1 : txts ns ++ txts [w12, w0x] = txts ns' := by rw [hns', txts_append]
      have ht2 : U.map ByS.v ++ [y.v, z.v] = U'.map ByS.v := by rw [hU', List.map_append]; rfl
      have ht3 : (U.map ByS.r ++ [y.r]) ++ [z.r] = U'.map ByS.r := by rw [hU', List.map_append, List.append_assoc]; rfl
      rw [← hns', ← hU'] at hlo
      obtain ⟨nA2, nc2⟩ := r1
      obtain ⟨bA2, bc2⟩ := r2
      refine Ent.norm ([(2, .int .i64 fr), (7, .slice nA2 ns'.length nc2), (8, .slice bA2 U'.length bc2)]) ([payR U', rd nA2 ns'.length 1 (txts ns'), rdV bA2 U', argc W, laidC]) (by repeat (first | refine ⟨by (first | rfl | (rw [← hl1]; rfl) | (rw [← hl2]; rfl)), ?_⟩ | exact trivial | refine ⟨by rfl, ?_⟩ | refine ⟨by simp only [List.length_append, List.length_cons, List.length_nil]; rfl, ?_⟩ | refine ⟨by push_cast; rfl, ?_⟩)) (by (dsimp only [rdV, payR]; rw [← ht3, ← ht1, ← ht2, ← hl1, ← hl2]; rfl)) ?_
      refine Cd.region ?_
      refine Ls.ev (some 95) (Ev.move (show Oper.op _ = Op.move (Operand.tmp 7) from rfl) (by rfl)) (by rfl) (by rfl) ?_
      refine Ls.ev (some 96) (Ev.move (show Oper.op _ = Op.move (Operand.tmp 8) from rfl) (by rfl)) (by rfl) (by rfl) ?_
      refine Ls.does (some 97) (Does.readN (show Oper.op _ = Op.call { callee := Callee.value (Operand.func 14), args := #[Operand.tmp 95, Operand.tmp 96], argTypes := #[36, 22] } from rfl) Tryz.func14 (by kernel_rfl) (by kernel_rfl) (load_sl nA2 bA2 nc2 bc2 ns' U' hlo) (by rfl) (by rfl) ⟨ReadsIn.rd 1 (by rfl), ReadsIn.rd 2 (by rfl), rpayIn 0 (by rfl), trivial⟩ (fun _ => by rfl)) (by rfl) (by rfl) ?_
      rintro D hD
      refine Ls.ev (some 94) (Ev.move (show Oper.op _ = Op.move (Operand.tmp 97) from rfl) (by rfl)) (by rfl) (by rfl) ?_
      refine Ls.ev (some 98) (Ev.extract (show Oper.op _ = Op.extract (Operand.tmp 94) 0 from rfl) (by rfl) (by rfl)) (by rfl) (by rfl) ?_
      refine Ls.ev (some 99) (Ev.extract (show Oper.op _ = Op.extract (Operand.tmp 94) 1 from rfl) (by rfl) (by rfl)) (by rfl) (by rfl) ?_
      refine Ls.ev (some 15) (Ev.assign (show Oper.op _ = Op.assign (Operand.tmp 98) from rfl) (by rfl)) (by rfl) (by rfl) ?_
      refine Ls.ev (some 16) (Ev.assign (show Oper.op _ = Op.assign (Operand.tmp 99) from rfl) (by rfl)) (by rfl) (by rfl) ?_
      refine Ls.nil ?_
      refine Cd.seq ?_
      refine Cd.region ?_
      refine Ls.ev (some 101) (Ev.move (show Oper.op _ = Op.move (Operand.tmp 7) from rfl) (by rfl)) (by rfl) (by rfl) ?_
      refine Ls.ev (some 102) (Ev.move (show Oper.op _ = Op.move (Operand.tmp 8) from rfl) (by rfl)) (by rfl) (by rfl) ?_
      refine Ls.does (some 103) (Does.call [4, 5, 3, 0, 1, 2, 6, 7] (show Oper.op _ = Op.call { callee := Callee.value (Operand.func 15), args := #[Operand.tmp 101, Operand.tmp 102], argTypes := #[36, 22] } from rfl) Tryz.func15 (by kernel_rfl) (by kernel_rfl) (dload_sl nA2 bA2 nc2 bc2 ns' U' hlo) (by rfl) (by rfl) (by rfl)) (by rfl) (by rfl) ?_
      rintro ⟨dA, dc⟩ -
      dsimp only
      generalize loadP ns' (U'.map ByS.l) = P at hD ⊢
      refine Ls.ev (some 100) (Ev.move (show Oper.op _ = Op.move (Operand.tmp 103) from rfl) (by rfl)) (by rfl) (by rfl) ?_
      refine Ls.ev (some 104) (Ev.extract (show Oper.op _ = Op.extract (Operand.tmp 100) 0 from rfl) (by rfl) (by rfl)) (by rfl) (by rfl) ?_
      refine Ls.ev (some 105) (Ev.extract (show Oper.op _ = Op.extract (Operand.tmp 100) 1 from rfl) (by rfl) (by rfl)) (by rfl) (by rfl) ?_
      refine Ls.does (some 17) (Does.alloc (cs := [.slice none 0 0, .int .i64 0, .bool false, .int .i64 0]) (show Oper.op _ = Op.alloc 43 from rfl) (ZeroIs.mk (.agg #[.slice none 0 0, .int .i64 0, .bool false, .int .i64 0]) (by kernel_rfl) (by rfl))) (by rfl) (by rfl) ?_
      intro g5 _
      refine Ls.does none (Does.store 0 (show Oper.op _ = Op.store 43 (Operand.tmp 17) (Operand.tmp 104) from rfl) (by rfl) (by rfl) (by rfl) (by kernel_rfl) (by rfl) (by kernel_rfl) (by rfl)) (by rfl) (by rfl) ?_
      intro _ _
      refine Ls.ev (some 18) (Ev.assign (show Oper.op _ = Op.assign (Operand.tmp 105) from rfl) (by rfl)) (by rfl) (by rfl) ?_
      refine Ls.nil ?_
      refine Cd.seq ?_
      refine Cd.seq ?_
      refine Cd.region ?_
      refine Ls.ev (some 106) (Ev.move (show Oper.op _ = Op.move (Operand.tmp 16) from rfl) (by rfl)) (by rfl) (by rfl) ?_
      refine Ls.ev (some 107) (Ev.to (Ev.neq (show Oper.op _ = Op.binOp BinOp.neq 27 (Operand.tmp 106) (Operand.const (Value.int IntKind.i64 0)) 27 from rfl) (by rfl) (by rfl)) (bool_f (fun h => h rfl))) (by rfl) (by rfl) ?_
      refine Ls.ev (some 108) (Ev.move (show Oper.op _ = Op.move (Operand.tmp 107) from rfl) (by rfl)) (by rfl) (by rfl) ?_
      refine Ls.ev (some 109) (Ev.move (show Oper.op _ = Op.move (Operand.tmp 18) from rfl) (by rfl)) (by rfl) (by rfl) ?_
      refine Ls.ev (some 110) (Ev.to (Ev.neq (show Oper.op _ = Op.binOp BinOp.neq 3 (Operand.tmp 109) (Operand.const (Value.int IntKind.i64 0)) 3 from rfl) (by rfl) (by rfl)) (bool_f (fun h => h rfl))) (by rfl) (by rfl) ?_
      refine Ls.ev (some 111) (Ev.pickF (show Oper.op _ = Op.pick (Operand.tmp 108) (Operand.const (Value.bool true)) (Operand.tmp 110) from rfl) (by rfl) (by rfl)) (by rfl) (by rfl) ?_
      refine Ls.ev (some 112) (Ev.move (show Oper.op _ = Op.move (Operand.tmp 111) from rfl) (by rfl)) (by rfl) (by rfl) ?_
      refine Ls.ev (some 113) (Ev.move (show Oper.op _ = Op.move (Operand.tmp 15) from rfl) (by rfl)) (by rfl) (by rfl) ?_
      refine Ls.ev (some 114) (Ev.ptrNil (show Oper.op _ = Op.binOp BinOp.eql 23 (Operand.tmp 113) (Operand.const (Value.pointer none)) 23 from rfl) (by rfl) (by rfl) Tryz.underlying23) (by rfl) (by rfl) ?_
      refine Ls.ev (some 115) (Ev.pickF (show Oper.op _ = Op.pick (Operand.tmp 112) (Operand.const (Value.bool true)) (Operand.tmp 114) from rfl) (by rfl) (by rfl)) (by rfl) (by rfl) ?_
      refine Ls.nil ?_
      refine Cd.cond_false (by rfl) (rfl) ?_
      refine Cd.skip ?_
      refine Cd.seq ?_
      refine Cd.region ?_
      refine Ls.ev (some 117) (Ev.move (show Oper.op _ = Op.move (Operand.tmp 15) from rfl) (by rfl)) (by rfl) (by rfl) ?_
      refine Ls.ev (some 118) (Ev.move (show Oper.op _ = Op.move (Operand.tmp 2) from rfl) (by rfl)) (by rfl) (by rfl) ?_
      by_cases hf : fr < 1 ∨ 999999 < fr
      · skip
        refine Ls.does (some 119) (Does.read (show Oper.op _ = Op.call { callee := Callee.value (Operand.func 9), args := #[Operand.tmp 117, Operand.tmp 118], argTypes := #[23, 3] } from rfl) Tryz.func9 (by kernel_rfl) (by kernel_rfl) (open_bad D.ptr fr hf) (by rfl) (by rfl) trivial) (by rfl) (by rfl) ?_
        rintro _ -
        refine Ls.ev (some 116) (Ev.move (show Oper.op _ = Op.move (Operand.tmp 119) from rfl) (by rfl)) (by rfl) (by rfl) ?_
        refine Ls.ev (some 120) (Ev.extract (show Oper.op _ = Op.extract (Operand.tmp 116) 0 from rfl) (by rfl) (by rfl)) (by rfl) (by rfl) ?_
        refine Ls.ev (some 121) (Ev.extract (show Oper.op _ = Op.extract (Operand.tmp 116) 1 from rfl) (by rfl) (by rfl)) (by rfl) (by rfl) ?_
        refine Ls.ev (some 122) (Ev.extract (show Oper.op _ = Op.extract (Operand.tmp 116) 2 from rfl) (by rfl) (by rfl)) (by rfl) (by rfl) ?_
        refine Ls.ev (some 19) (Ev.assign (show Oper.op _ = Op.assign (Operand.tmp 120) from rfl) (by rfl)) (by rfl) (by rfl) ?_
        refine Ls.ev (some 20) (Ev.assign (show Oper.op _ = Op.assign (Operand.tmp 121) from rfl) (by rfl)) (by rfl) (by rfl) ?_
        refine Ls.ev (some 21) (Ev.assign (show Oper.op _ = Op.assign (Operand.tmp 122) from rfl) (by rfl)) (by rfl) (by rfl) ?_
        refine Ls.nil ?_
        refine Cd.seq ?_
        refine Cd.region ?_
        refine Ls.ev (some 124) (Ev.loads 0 (show Oper.op _ = Op.load 43 (Operand.tmp 17) from rfl) (by rfl) (by rfl) (n := 4) (by kernel_rfl) (by rfl) (by rfl)) (by rfl) (by rfl) ?_
        refine Ls.ev (some 125) (Ev.move (show Oper.op _ = Op.move (Operand.tmp 2) from rfl) (by rfl)) (by rfl) (by rfl) ?_
        refine Ls.does (some 126) (Does.read (show Oper.op _ = Op.call { callee := Callee.value (Operand.func 16), args := #[Operand.tmp 124, Operand.tmp 125], argTypes := #[43, 3] } from rfl) Tryz.func16 (by kernel_rfl) (by kernel_rfl) (ropen_bad P dA dc fr hf) (by rfl) (by rfl) trivial) (by rfl) (by rfl) ?_
        rintro _ -
        have hsm := same_sl none none 0 0 [] [] (by simp) (by simp)
        rw [decide_eq_true (show (([] : List ByS).map ByS.l = ([] : List ByS).map ByS.l) from rfl)] at hsm
        refine Ls.ev (some 123) (Ev.move (show Oper.op _ = Op.move (Operand.tmp 126) from rfl) (by rfl)) (by rfl) (by rfl) ?_
        refine Ls.ev (some 127) (Ev.extract (show Oper.op _ = Op.extract (Operand.tmp 123) 0 from rfl) (by rfl) (by rfl)) (by rfl) (by rfl) ?_
        refine Ls.ev (some 128) (Ev.extract (show Oper.op _ = Op.extract (Operand.tmp 123) 1 from rfl) (by rfl) (by rfl)) (by rfl) (by rfl) ?_
        refine Ls.ev (some 129) (Ev.extract (show Oper.op _ = Op.extract (Operand.tmp 123) 2 from rfl) (by rfl) (by rfl)) (by rfl) (by rfl) ?_
        refine Ls.does (some 22) (Does.alloc (cs := [.int .i64 0, .bool false]) (show Oper.op _ = Op.alloc 47 from rfl) (ZeroIs.mk (.agg #[.int .i64 0, .bool false]) (by kernel_rfl) (by rfl))) (by rfl) (by rfl) ?_
        intro g6 _
        refine Ls.does none (Does.store 0 (show Oper.op _ = Op.store 47 (Operand.tmp 22) (Operand.tmp 127) from rfl) (by rfl) (by rfl) (by rfl) (by kernel_rfl) (by rfl) (by kernel_rfl) (by rfl)) (by rfl) (by rfl) ?_
        intro _ _
        refine Ls.ev (some 23) (Ev.assign (show Oper.op _ = Op.assign (Operand.tmp 128) from rfl) (by rfl)) (by rfl) (by rfl) ?_
        refine Ls.ev (some 24) (Ev.assign (show Oper.op _ = Op.assign (Operand.tmp 129) from rfl) (by rfl)) (by rfl) (by rfl) ?_
        refine Ls.nil ?_
        refine Cd.seq ?_
        refine Cd.seq ?_
        refine Ent.nil 30 1 ?_
        refine Ent.map (fun w hs => hs.stars_nil) ?_
        refine Cd.region ?_
        refine Ls.ev (some 130) (Ev.move (show Oper.op _ = Op.move (Operand.tmp 21) from rfl) (by rfl)) (by rfl) (by rfl) ?_
        refine Ls.ev (some 131) (Ev.move (show Oper.op _ = Op.move (Operand.tmp 24) from rfl) (by rfl)) (by rfl) (by rfl) ?_
        refine Ls.ev (some 132) (Ev.to (Ev.neq (show Oper.op _ = Op.binOp BinOp.neq 3 (Operand.tmp 130) (Operand.tmp 131) 3 from rfl) (by rfl) (by rfl)) (bool_f (fun h => h rfl))) (by rfl) (by rfl) ?_
        refine Ls.ev (some 133) (Ev.move (show Oper.op _ = Op.move (Operand.tmp 132) from rfl) (by rfl)) (by rfl) (by rfl) ?_
        refine Ls.ev (some 134) (Ev.move (show Oper.op _ = Op.move (Operand.tmp 19) from rfl) (by rfl)) (by rfl) (by rfl) ?_
        refine Ls.ev (some 135) (Ev.nilEq (show Oper.op _ = Op.binOp BinOp.eql 26 (Operand.tmp 134) (Operand.const (Value.pointer none)) 26 from rfl) (by rfl) (by rfl) Tryz.underlying26) (by rfl) (by rfl) ?_
        refine Ls.ev (some 136) (Ev.move (show Oper.op _ = Op.move (Operand.tmp 24) from rfl) (by rfl)) (by rfl) (by rfl) ?_
        refine Ls.ev (some 137) (Ev.to (Ev.neq (show Oper.op _ = Op.binOp BinOp.neq 3 (Operand.tmp 136) (Operand.const (Value.int IntKind.i64 0)) 3 from rfl) (by rfl) (by rfl)) (bool_t (by decide))) (by rfl) (by rfl) ?_
        skip
        refine Ls.ev (some 138) (Ev.to (Ev.neqB (show Oper.op _ = Op.binOp BinOp.neq 4 (Operand.tmp 135) (Operand.tmp 137) 4 from rfl) (by rfl) (by rfl) Tryz.underlying4) (show Value.bool (!(true == true)) = Value.bool false from rfl)) (by rfl) (by rfl) ?_
        refine Ls.ev (some 139) (Ev.pickF (show Oper.op _ = Op.pick (Operand.tmp 133) (Operand.const (Value.bool true)) (Operand.tmp 138) from rfl) (by rfl) (by rfl)) (by rfl) (by rfl) ?_
        refine Ls.ev (some 140) (Ev.move (show Oper.op _ = Op.move (Operand.tmp 139) from rfl) (by rfl)) (by rfl) (by rfl) ?_
        refine Ls.ev (some 141) (Ev.move (show Oper.op _ = Op.move (Operand.tmp 20) from rfl) (by rfl)) (by rfl) (by rfl) ?_
        refine Ls.ev (some 142) (Ev.move (show Oper.op _ = Op.move (Operand.tmp 23) from rfl) (by rfl)) (by rfl) (by rfl) ?_
        refine Ls.does (some 143) (Does.read (show Oper.op _ = Op.call { callee := Callee.value (Operand.func 12), args := #[Operand.tmp 141, Operand.tmp 142], argTypes := #[22, 22] } from rfl) Tryz.func12 (by kernel_rfl) (by kernel_rfl) (hsm) (by rfl) (by rfl) ⟨ReadsIn.row 1 (by rfl), rpayIn 0 (by rfl), ReadsIn.row 1 (by rfl), rpayIn 0 (by rfl), trivial⟩) (by rfl) (by rfl) ?_
        rintro _ -
        refine Ls.ev (some 144) (Ev.not (show Oper.op _ = Op.unOp UnOp.not 4 (Operand.tmp 143) from rfl) (by rfl)) (by rfl) (by rfl) ?_
        refine Ls.ev (some 145) (Ev.pickF (show Oper.op _ = Op.pick (Operand.tmp 140) (Operand.const (Value.bool true)) (Operand.tmp 144) from rfl) (by rfl) (by rfl)) (by rfl) (by rfl) ?_
        refine Ls.ev (some 146) (Ev.move (show Oper.op _ = Op.move (Operand.tmp 145) from rfl) (by rfl)) (by rfl) (by rfl) ?_
        refine Ls.ev (some 147) (Ev.move (show Oper.op _ = Op.move (Operand.tmp 15) from rfl) (by rfl)) (by rfl) (by rfl) ?_
        refine Ls.ev (some 148) (Ev.loads 3 (show Oper.op _ = Op.load 43 (Operand.tmp 17) from rfl) (by rfl) (by rfl) (n := 4) (by kernel_rfl) (by rfl) (by rfl)) (by rfl) (by rfl) ?_
        refine Ls.does (some 149) (Does.read (show Oper.op _ = Op.call { callee := Callee.value (Operand.func 17), args := #[Operand.tmp 147, Operand.tmp 148], argTypes := #[23, 43] } from rfl) Tryz.func17 (by kernel_rfl) (by kernel_rfl) (tells_sl hD dA dc) (by rfl) (by rfl) ⟨blkIn 5 (by rfl), mapIn 6 (by rfl), filIn 7 (by rfl), ReadsIn.rd 4 (by rfl), trivial⟩) (by rfl) (by rfl) ?_
        rintro _ -
        refine Ls.ev (some 150) (Ev.not (show Oper.op _ = Op.unOp UnOp.not 4 (Operand.tmp 149) from rfl) (by rfl)) (by rfl) (by rfl) ?_
        refine Ls.ev (some 151) (Ev.pickF (show Oper.op _ = Op.pick (Operand.tmp 146) (Operand.const (Value.bool true)) (Operand.tmp 150) from rfl) (by rfl) (by rfl)) (by rfl) (by rfl) ?_
        refine Ls.nil ?_
        refine Cd.cond_false (by rfl) (rfl) ?_
        refine Cd.skip ?_
        refine Cd.seq ?_
        refine Cd.seq ?_
        refine Cd.region ?_
        refine Ls.ev (some 152) (Ev.move (show Oper.op _ = Op.move (Operand.tmp 24) from rfl) (by rfl)) (by rfl) (by rfl) ?_
        refine Ls.ev (some 153) (Ev.to (Ev.neq (show Oper.op _ = Op.binOp BinOp.neq 3 (Operand.tmp 152) (Operand.const (Value.int IntKind.i64 0)) 3 from rfl) (by rfl) (by rfl)) (bool_t (by decide))) (by rfl) (by rfl) ?_
        refine Ls.nil ?_
        refine Cd.cond_true (by rfl) (rfl) ?_
        refine Cd.seq ?_
        refine Cd.region ?_
        refine Ls.ev (some 6) (Ev.assign (show Oper.op _ = Op.assign (Operand.const (Value.bool true)) from rfl) (by rfl)) (by rfl) (by rfl) ?_
        refine Ls.nil ?_
        refine Cd.ret ?_
        refine Ent.ret (()) (trivial) (Res.tmp (by rfl) (by rfl)) ?_ [] (by rfl) ?_
        · rfl
        · rfl
      · skip
        obtain ⟨f, rfl⟩ : ∃ f : Nat, fr = f := ⟨fr.toNat, by omega⟩
        have hf1 : 1 ≤ f := by omega
        have hf2 : f ≤ 999999 := by omega
        refine Ls.does (some 119) (Does.readN (show Oper.op _ = Op.call { callee := Callee.value (Operand.func 9), args := #[Operand.tmp 117, Operand.tmp 118], argTypes := #[23, 3] } from rfl) Tryz.func9 (by kernel_rfl) (by kernel_rfl) (open_sl hD f hf1 hf2) (by rfl) (by rfl) ⟨blkIn 2 (by rfl), mapIn 3 (by rfl), filIn 4 (by rfl), laidIn 6 (by rfl), trivial⟩ (fun _ => by rfl)) (by rfl) (by rfl) ?_
        rintro ⟨g, ⟨pA, pc⟩, T⟩ hT
        dsimp only at hT ⊢
        refine Ls.ev (some 116) (Ev.move (show Oper.op _ = Op.move (Operand.tmp 119) from rfl) (by rfl)) (by rfl) (by rfl) ?_
        refine Ls.ev (some 120) (Ev.extract (show Oper.op _ = Op.extract (Operand.tmp 116) 0 from rfl) (by rfl) (by rfl)) (by rfl) (by rfl) ?_
        refine Ls.ev (some 121) (Ev.extract (show Oper.op _ = Op.extract (Operand.tmp 116) 1 from rfl) (by rfl) (by rfl)) (by rfl) (by rfl) ?_
        refine Ls.ev (some 122) (Ev.extract (show Oper.op _ = Op.extract (Operand.tmp 116) 2 from rfl) (by rfl) (by rfl)) (by rfl) (by rfl) ?_
        refine Ls.ev (some 19) (Ev.assign (show Oper.op _ = Op.assign (Operand.tmp 120) from rfl) (by rfl)) (by rfl) (by rfl) ?_
        refine Ls.ev (some 20) (Ev.assign (show Oper.op _ = Op.assign (Operand.tmp 121) from rfl) (by rfl)) (by rfl) (by rfl) ?_
        refine Ls.ev (some 21) (Ev.assign (show Oper.op _ = Op.assign (Operand.tmp 122) from rfl) (by rfl)) (by rfl) (by rfl) ?_
        refine Ls.nil ?_
        refine Cd.seq ?_
        refine Cd.region ?_
        refine Ls.ev (some 124) (Ev.loads 3 (show Oper.op _ = Op.load 43 (Operand.tmp 17) from rfl) (by rfl) (by rfl) (n := 4) (by kernel_rfl) (by rfl) (by rfl)) (by rfl) (by rfl) ?_
        refine Ls.ev (some 125) (Ev.move (show Oper.op _ = Op.move (Operand.tmp 2) from rfl) (by rfl)) (by rfl) (by rfl) ?_
        refine Ls.does (some 126) (Does.readN (show Oper.op _ = Op.call { callee := Callee.value (Operand.func 16), args := #[Operand.tmp 124, Operand.tmp 125], argTypes := #[43, 3] } from rfl) Tryz.func16 (by kernel_rfl) (by kernel_rfl) (ropen_sl P hD.ok dA dc f hf1 hf2) (by rfl) (by rfl) ⟨ReadsIn.rd 4 (by rfl), trivial⟩ (fun _ => by rfl)) (by rfl) (by rfl) ?_
        rintro ⟨⟨qA, qc⟩, V⟩ hV
        dsimp only at hV ⊢
        have hpm := pay_most hD.ok f
        have hTl : T.length ≤ 17592186044415 := by rw [← hT, List.length_map] at hpm; exact hpm
        have hVl : V.length ≤ 17592186044415 := by rw [← hV, List.length_map] at hpm; exact hpm
        have hsm := same_sl pA qA pc qc T V hTl hVl
        rw [decide_eq_true (hT.trans hV.symm)] at hsm
        have hsg := seg_most (P := P) hf2
        have hne : P.seg f ≤ 999999 → P.find (nameP (P.seg f)) = none := fun h => seg_new hf1 h
        refine Ls.ev (some 123) (Ev.move (show Oper.op _ = Op.move (Operand.tmp 126) from rfl) (by rfl)) (by rfl) (by rfl) ?_
        refine Ls.ev (some 127) (Ev.extract (show Oper.op _ = Op.extract (Operand.tmp 123) 0 from rfl) (by rfl) (by rfl)) (by rfl) (by rfl) ?_
        refine Ls.ev (some 128) (Ev.extract (show Oper.op _ = Op.extract (Operand.tmp 123) 1 from rfl) (by rfl) (by rfl)) (by rfl) (by rfl) ?_
        refine Ls.ev (some 129) (Ev.extract (show Oper.op _ = Op.extract (Operand.tmp 123) 2 from rfl) (by rfl) (by rfl)) (by rfl) (by rfl) ?_
        refine Ls.does (some 22) (Does.alloc (cs := [.int .i64 0, .bool false]) (show Oper.op _ = Op.alloc 47 from rfl) (ZeroIs.mk (.agg #[.int .i64 0, .bool false]) (by kernel_rfl) (by rfl))) (by rfl) (by rfl) ?_
        intro g6 _
        refine Ls.does none (Does.store 0 (show Oper.op _ = Op.store 47 (Operand.tmp 22) (Operand.tmp 127) from rfl) (by rfl) (by rfl) (by rfl) (by kernel_rfl) (by rfl) (by kernel_rfl) (by rfl)) (by rfl) (by rfl) ?_
        intro _ _
        refine Ls.ev (some 23) (Ev.assign (show Oper.op _ = Op.assign (Operand.tmp 128) from rfl) (by rfl)) (by rfl) (by rfl) ?_
        refine Ls.ev (some 24) (Ev.assign (show Oper.op _ = Op.assign (Operand.tmp 129) from rfl) (by rfl)) (by rfl) (by rfl) ?_
        refine Ls.nil ?_
        refine Cd.seq ?_
        refine Cd.seq ?_
        refine Cd.region ?_
        refine Ls.ev (some 130) (Ev.move (show Oper.op _ = Op.move (Operand.tmp 21) from rfl) (by rfl)) (by rfl) (by rfl) ?_
        refine Ls.ev (some 131) (Ev.move (show Oper.op _ = Op.move (Operand.tmp 24) from rfl) (by rfl)) (by rfl) (by rfl) ?_
        refine Ls.ev (some 132) (Ev.to (Ev.neq (show Oper.op _ = Op.binOp BinOp.neq 3 (Operand.tmp 130) (Operand.tmp 131) 3 from rfl) (by rfl) (by rfl)) (bool_f (fun h => h rfl))) (by rfl) (by rfl) ?_
        refine Ls.ev (some 133) (Ev.move (show Oper.op _ = Op.move (Operand.tmp 132) from rfl) (by rfl)) (by rfl) (by rfl) ?_
        refine Ls.ev (some 134) (Ev.move (show Oper.op _ = Op.move (Operand.tmp 19) from rfl) (by rfl)) (by rfl) (by rfl) ?_
        refine Ls.ev (some 135) (Ev.ptrNil (show Oper.op _ = Op.binOp BinOp.eql 26 (Operand.tmp 134) (Operand.const (Value.pointer none)) 26 from rfl) (by rfl) (by rfl) Tryz.underlying26) (by rfl) (by rfl) ?_
        refine Ls.ev (some 136) (Ev.move (show Oper.op _ = Op.move (Operand.tmp 24) from rfl) (by rfl)) (by rfl) (by rfl) ?_
        refine Ls.ev (some 137) (Ev.to (Ev.neq (show Oper.op _ = Op.binOp BinOp.neq 3 (Operand.tmp 136) (Operand.const (Value.int IntKind.i64 0)) 3 from rfl) (by rfl) (by rfl)) (bool_f (fun h => h rfl))) (by rfl) (by rfl) ?_
        skip
        refine Ls.ev (some 138) (Ev.to (Ev.neqB (show Oper.op _ = Op.binOp BinOp.neq 4 (Operand.tmp 135) (Operand.tmp 137) 4 from rfl) (by rfl) (by rfl) Tryz.underlying4) (show Value.bool (!(false == false)) = Value.bool false from rfl)) (by rfl) (by rfl) ?_
        refine Ls.ev (some 139) (Ev.pickF (show Oper.op _ = Op.pick (Operand.tmp 133) (Operand.const (Value.bool true)) (Operand.tmp 138) from rfl) (by rfl) (by rfl)) (by rfl) (by rfl) ?_
        refine Ls.ev (some 140) (Ev.move (show Oper.op _ = Op.move (Operand.tmp 139) from rfl) (by rfl)) (by rfl) (by rfl) ?_
        refine Ls.ev (some 141) (Ev.move (show Oper.op _ = Op.move (Operand.tmp 20) from rfl) (by rfl)) (by rfl) (by rfl) ?_
        refine Ls.ev (some 142) (Ev.move (show Oper.op _ = Op.move (Operand.tmp 23) from rfl) (by rfl)) (by rfl) (by rfl) ?_
        refine Ls.does (some 143) (Does.read (show Oper.op _ = Op.call { callee := Callee.value (Operand.func 12), args := #[Operand.tmp 141, Operand.tmp 142], argTypes := #[22, 22] } from rfl) Tryz.func12 (by kernel_rfl) (by kernel_rfl) (hsm) (by rfl) (by rfl) ⟨ReadsIn.row 4 (by rfl), payIn 5 (by rfl), ReadsIn.row 1 (by rfl), payIn 2 (by rfl), trivial⟩) (by rfl) (by rfl) ?_
        rintro _ -
        refine Ls.ev (some 144) (Ev.not (show Oper.op _ = Op.unOp UnOp.not 4 (Operand.tmp 143) from rfl) (by rfl)) (by rfl) (by rfl) ?_
        refine Ls.ev (some 145) (Ev.pickF (show Oper.op _ = Op.pick (Operand.tmp 140) (Operand.const (Value.bool true)) (Operand.tmp 144) from rfl) (by rfl) (by rfl)) (by rfl) (by rfl) ?_
        refine Ls.ev (some 146) (Ev.move (show Oper.op _ = Op.move (Operand.tmp 145) from rfl) (by rfl)) (by rfl) (by rfl) ?_
        refine Ls.ev (some 147) (Ev.move (show Oper.op _ = Op.move (Operand.tmp 15) from rfl) (by rfl)) (by rfl) (by rfl) ?_
        refine Ls.ev (some 148) (Ev.loads 6 (show Oper.op _ = Op.load 43 (Operand.tmp 17) from rfl) (by rfl) (by rfl) (n := 4) (by kernel_rfl) (by rfl) (by rfl)) (by rfl) (by rfl) ?_
        refine Ls.does (some 149) (Does.read (show Oper.op _ = Op.call { callee := Callee.value (Operand.func 17), args := #[Operand.tmp 147, Operand.tmp 148], argTypes := #[23, 43] } from rfl) Tryz.func17 (by kernel_rfl) (by kernel_rfl) (tells_sl hD dA dc) (by rfl) (by rfl) ⟨blkIn 8 (by rfl), mapIn 9 (by rfl), filIn 10 (by rfl), ReadsIn.rd 7 (by rfl), trivial⟩) (by rfl) (by rfl) ?_
        rintro _ -
        refine Ls.ev (some 150) (Ev.not (show Oper.op _ = Op.unOp UnOp.not 4 (Operand.tmp 149) from rfl) (by rfl)) (by rfl) (by rfl) ?_
        refine Ls.ev (some 151) (Ev.pickF (show Oper.op _ = Op.pick (Operand.tmp 146) (Operand.const (Value.bool true)) (Operand.tmp 150) from rfl) (by rfl) (by rfl)) (by rfl) (by rfl) ?_
        refine Ls.nil ?_
        refine Cd.cond_false (by rfl) (rfl) ?_
        refine Cd.skip ?_
        refine Cd.seq ?_
        refine Cd.seq ?_
        refine Cd.region ?_
        refine Ls.ev (some 152) (Ev.move (show Oper.op _ = Op.move (Operand.tmp 24) from rfl) (by rfl)) (by rfl) (by rfl) ?_
        refine Ls.ev (some 153) (Ev.to (Ev.neq (show Oper.op _ = Op.binOp BinOp.neq 3 (Operand.tmp 152) (Operand.const (Value.int IntKind.i64 0)) 3 from rfl) (by rfl) (by rfl)) (bool_f (fun h => h rfl))) (by rfl) (by rfl) ?_
        refine Ls.nil ?_
        refine Cd.cond_false (by rfl) (rfl) ?_
        refine Cd.skip ?_
        refine Cd.seq ?_
        refine Cd.region ?_
        refine Ls.ev (some 154) (Ev.move (show Oper.op _ = Op.move (Operand.tmp 19) from rfl) (by rfl)) (by rfl) (by rfl) ?_
        refine Ls.does (some 155) (Does.lit (sz := 1) (show Oper.op _ = Op.buildSlice 30 1 #[(0, Operand.const (Value.int IntKind.u8 7))] from rfl) (by rfl) Tryz.underlying30 (by kernel_rfl) (by rfl) (by kernel_rfl)) (by rfl) (by rfl) ?_
        intro g7 _
        refine Ent.see 0 (by rfl) ?_
        refine Ls.does (some 156) (Does.call [4, 9, 10, 11, 13, 0, 1, 7, 8, 12, 13] (show Oper.op _ = Op.call { callee := Callee.value (Operand.func 11), args := #[Operand.tmp 154, Operand.tmp 155], argTypes := #[26, 30] } from rfl) Tryz.func11 (by kernel_rfl) (by kernel_rfl) (lappend_sl hD g ⟨P.seg f, false⟩ hsg (some ⟨g7, 0, none⟩) 1 [7]) (by rfl) (by rfl) (by rfl)) (by rfl) (by rfl) ?_
        rintro D2 ⟨hD2, hd2, -⟩
        dsimp only
        refine Ls.ev (some 25) (Ev.assign (show Oper.op _ = Op.assign (Operand.tmp 156) from rfl) (by rfl)) (by rfl) (by rfl) ?_
        refine Ls.nil ?_
        refine Cd.seq ?_
        refine Cd.region ?_
        refine Ls.ev (some 158) (Ev.loads 5 (show Oper.op _ = Op.load 43 (Operand.tmp 17) from rfl) (by rfl) (by rfl) (n := 4) (by kernel_rfl) (by rfl) (by rfl)) (by rfl) (by rfl) ?_
        refine Ls.ev (some 159) (Ev.loads 4 (show Oper.op _ = Op.load 47 (Operand.tmp 22) from rfl) (by rfl) (by rfl) (n := 2) (by kernel_rfl) (by rfl) (by rfl)) (by rfl) (by rfl) ?_
        refine Ls.does (some 160) (Does.lit (sz := 1) (show Oper.op _ = Op.buildSlice 30 1 #[(0, Operand.const (Value.int IntKind.u8 7))] from rfl) (by rfl) Tryz.underlying30 (by kernel_rfl) (by rfl) (by kernel_rfl)) (by rfl) (by rfl) ?_
        intro g8 _
        refine Ent.see 0 (by rfl) ?_
        have hra := rappend_none P hD.ok dA dc (P.seg f) hne (some ⟨g8, 0, none⟩) 1 [7] (by decide)
        generalize appL P ⟨P.seg f, false⟩ [7] = R at hD2 hra ⊢
        refine Ls.does (some 161) (Does.call [7, 0, 1, 2, 3, 4, 5, 6, 8, 9] (show Oper.op _ = Op.call { callee := Callee.value (Operand.func 18), args := #[Operand.tmp 158, Operand.tmp 159, Operand.tmp 160], argTypes := #[43, 47, 30] } from rfl) Tryz.func18 (by kernel_rfl) (by kernel_rfl) (hra) (by rfl) (by rfl) (by rfl)) (by rfl) (by rfl) ?_
        rintro ⟨eA, ec⟩ -
        dsimp only
        have htl := tells_sl hD2 eA ec
        rw [show D2.ptr = D.ptr by rw [DrS.ptr, DrS.ptr, hd2]] at htl
        refine Ls.ev (some 157) (Ev.move (show Oper.op _ = Op.move (Operand.tmp 161) from rfl) (by rfl)) (by rfl) (by rfl) ?_
        refine Ls.ev (some 162) (Ev.extract (show Oper.op _ = Op.extract (Operand.tmp 157) 0 from rfl) (by rfl) (by rfl)) (by rfl) (by rfl) ?_
        refine Ls.ev (some 163) (Ev.extract (show Oper.op _ = Op.extract (Operand.tmp 157) 1 from rfl) (by rfl) (by rfl)) (by rfl) (by rfl) ?_
        refine Ls.ev (some 164) (Ev.extract (show Oper.op _ = Op.extract (Operand.tmp 157) 2 from rfl) (by rfl) (by rfl)) (by rfl) (by rfl) ?_
        refine Ls.does none (Does.store 6 (show Oper.op _ = Op.store 43 (Operand.tmp 17) (Operand.tmp 162) from rfl) (by rfl) (by rfl) (by rfl) (by kernel_rfl) (by rfl) (by kernel_rfl) (by rfl)) (by rfl) (by rfl) ?_
        intro _ _
        refine Ls.does none (Does.store 5 (show Oper.op _ = Op.store 47 (Operand.tmp 22) (Operand.tmp 163) from rfl) (by rfl) (by rfl) (by rfl) (by kernel_rfl) (by rfl) (by kernel_rfl) (by rfl)) (by rfl) (by rfl) ?_
        intro _ _
        refine Ls.ev (some 18) (Ev.assign (show Oper.op _ = Op.assign (Operand.tmp 164) from rfl) (by rfl)) (by rfl) (by rfl) ?_
        refine Ls.nil ?_
        refine Cd.seq ?_
        refine Cd.draw [] (by kernel_rfl) ?_
        refine Rg.ev 0 (by rfl) (fun _ h => h) (Ev.move (show Oper.op _ = Op.move (Operand.tmp 25) from rfl) (by rfl)) (by rfl) (some 165) (by rfl) (by kernel_rfl) (by kernel_rfl) (by kernel_rfl) (by kernel_rfl) ?_
        refine Rg.ev 1 (by rfl) (fun _ h => h) (Ev.move (show Oper.op _ = Op.move (Operand.tmp 18) from rfl) (by rfl)) (by rfl) (some 166) (by rfl) (by kernel_rfl) (by kernel_rfl) (by kernel_rfl) (by kernel_rfl) ?_
        refine Rg.ev 2 (by rfl) (fun _ h => h) (Ev.to (Ev.eql (show Oper.op _ = Op.binOp BinOp.eql 3 (Operand.tmp 165) (Operand.tmp 166) 3 from rfl) (by rfl) (by rfl)) (bool_t rfl)) (by rfl) (some 167) (by rfl) (by kernel_rfl) (by kernel_rfl) (by kernel_rfl) (by kernel_rfl) ?_
        refine Rg.ev 3 (by rfl) (fun _ h => h) (Ev.move (show Oper.op _ = Op.move (Operand.tmp 167) from rfl) (by rfl)) (by rfl) (some 168) (by rfl) (by kernel_rfl) (by kernel_rfl) (by kernel_rfl) (by kernel_rfl) ?_
        refine Rg.ev 4 (by rfl) (fun _ h => h) (Ev.move (show Oper.op _ = Op.move (Operand.tmp 19) from rfl) (by rfl)) (by rfl) (some 169) (by rfl) (by kernel_rfl) (by kernel_rfl) (by kernel_rfl) (by kernel_rfl) ?_
        refine Rg.ev 6 (by rfl) (fun _ h => h) (Ev.fieldAddr (k := 0) (show Oper.op _ = Op.fieldAddr 47 (Operand.tmp 22) 0 from rfl) (by rfl) (by kernel_rfl) (by rfl)) (by rfl) (some 171) (by rfl) (by kernel_rfl) (by kernel_rfl) (by kernel_rfl) (by kernel_rfl) ?_
        refine Rg.ev 7 (by rfl) (fun _ h => h) (Ev.load 5 (show Oper.op _ = Op.load 3 (Operand.tmp 171) from rfl) (by rfl) (by rfl) (by kernel_rfl) (by rfl)) (by rfl) (some 172) (by rfl) (by kernel_rfl) (by kernel_rfl) (by kernel_rfl) (by kernel_rfl) ?_
        refine Rg.does 5 (by rfl) (by kernel_rfl) (Does.read (show Oper.op _ = Op.call { callee := Callee.value (Operand.func 19), args := #[Operand.tmp 169], argTypes := #[26] } from rfl) Tryz.func19 (by kernel_rfl) (by kernel_rfl) (segment_sl g D.d R.2.1) (by rfl) (by rfl) ⟨blkIn 1 (by rfl), trivial⟩) (by rfl) (some 170) (by rfl) (by exact fun _ _ h => h) ?_
        rintro _ -
        skip
        refine Rg.ev 8 (by rfl) (fun _ h => h) (Ev.to (Ev.eql (show Oper.op _ = Op.binOp BinOp.eql 3 (Operand.tmp 170) (Operand.tmp 172) 3 from rfl) (by rfl) (by rfl)) (bool_t rfl)) (by rfl) (some 173) (by rfl) (by kernel_rfl) (by kernel_rfl) (by kernel_rfl) (by kernel_rfl) ?_
        refine Rg.ev 9 (by rfl) (fun _ h => h) (Ev.pickT (show Oper.op _ = Op.pick (Operand.tmp 168) (Operand.tmp 173) (Operand.const (Value.bool false)) from rfl) (by rfl) (by rfl)) (by rfl) (some 174) (by rfl) (by kernel_rfl) (by kernel_rfl) (by kernel_rfl) (by kernel_rfl) ?_
        refine Rg.ev 10 (by rfl) (fun _ h => h) (Ev.move (show Oper.op _ = Op.move (Operand.tmp 174) from rfl) (by rfl)) (by rfl) (some 175) (by rfl) (by kernel_rfl) (by kernel_rfl) (by kernel_rfl) (by kernel_rfl) ?_
        refine Rg.ev 11 (by rfl) (fun _ h => h) (Ev.move (show Oper.op _ = Op.move (Operand.tmp 15) from rfl) (by rfl)) (by rfl) (some 176) (by rfl) (by kernel_rfl) (by kernel_rfl) (by kernel_rfl) (by kernel_rfl) ?_
        refine Rg.ev 12 (by rfl) (fun _ h => h) (Ev.loads 6 (show Oper.op _ = Op.load 43 (Operand.tmp 17) from rfl) (by rfl) (by rfl) (n := 4) (by kernel_rfl) (by rfl) (by rfl)) (by rfl) (some 177) (by rfl) (by kernel_rfl) (by kernel_rfl) (by kernel_rfl) (by kernel_rfl) ?_
        refine Rg.does 13 (by rfl) (by kernel_rfl) (Does.read (show Oper.op _ = Op.call { callee := Callee.value (Operand.func 17), args := #[Operand.tmp 176, Operand.tmp 177], argTypes := #[23, 43] } from rfl) Tryz.func17 (by kernel_rfl) (by kernel_rfl) (htl) (by rfl) (by rfl) ⟨blkIn 2 (by rfl), mapIn 3 (by rfl), filIn 4 (by rfl), ReadsIn.rd 0 (by rfl), trivial⟩) (by rfl) (some 178) (by rfl) (by exact fun _ _ h => h) ?_
        rintro _ -
        refine Rg.ev 14 (by rfl) (fun _ h => h) (Ev.pickT (show Oper.op _ = Op.pick (Operand.tmp 175) (Operand.tmp 178) (Operand.const (Value.bool false)) from rfl) (by rfl) (by rfl)) (by rfl) (some 179) (by rfl) (by kernel_rfl) (by kernel_rfl) (by kernel_rfl) (by kernel_rfl) ?_
        refine Rg.ev 15 (by rfl) (fun _ h => h) (Ev.assign (show Oper.op _ = Op.assign (Operand.tmp 179) from rfl) (by rfl)) (by rfl) (some 6) (by rfl) (by kernel_rfl) (by kernel_rfl) (by kernel_rfl) (by kernel_rfl) ?_
        refine Rg.done (by kernel_rfl) ?_ _
        refine Cd.ret ?_
        refine Ent.ret (()) (trivial) (Res.tmp (by rfl) (by rfl)) ?_ [] (by rfl) ?_
        · rfl
        · rfl
end Go.Proofs.YtceanciekadkeaaGreatDoor
/- A law over laid variables: the row's step, once for all. -/
namespace Go.Proofs.YtceanciekadkeaaGreatDoor
open Go.ChangeShapes Go.WideShapes Go.ChangeAt Go.RowKit

/-- A law that answers true and writes nothing that was there, over laid variables: its row's step, in either form. -/
theorem lift_laid {C : Checked} {os : Os} {f : FuncId} {fn : Func} {s : ChangeSpec} {sp : OpenSpec} {H : Type} {enc : TypeId × Value → H} {conds : List PathCond} {tb : TypeId} {F : Stop.Interp} {laid : List (String × DataW Unit)} (ts : Array TypeId)
    (hbare : sp.bare.plain.varTypes C.prog = []) (hat : (sp.at F) = s)
    (own : ownKnob C.prog.godebug = none) (lo : laidOutB C.prog = true) (started : os.Started) (noInit : C.prog.inits.idxOf? f = none) (hfn : C.prog.funcs[f]? = some fn)
    (witness : ∃ (w : World) (tape : Tape) (i : Input), w.os = os ∧ (w.forCall tape i).Shaped C.prog ∧ i.vars = [] ∧ Input.okWide C.prog (w.forCall tape i) .any w.heap.size f i ∧
      sp.preRow enc C.prog fn conds false laid (w.forCall tape i).memory i.args ∧ ({} : Assume).holds C.prog (lone (Frame.enter C.prog f i.args .normal) [] (w.forCall tape i)))
    (hts : fn.params = ts) (hrow : rowed C.prog ts.toList = true) (hvars : s.vars = []) (hvars2 : sp.vars = []) (hres : fn.resultTypes = #[tb]) (hb : C.prog.underlying tb = some .bool)
    (hs : ∀ ds : List (DataW H), ds.length = ts.toList.length → s.fn H ds = { results := [.lit (.bool true)], args := ds })
    (walk : ∀ (W : World) (args : Array Value) (ds : List (DataW H)) (p : List MemPlace), laidMetH C.prog laid W → W.ShapedOpen C.prog → Vals C.prog W ts.toList args.toList →
      DataW.TrodAll enc C.prog W 0 (fun _ => true) true ts.toList args.toList ds p → (∀ k, sp.cond = some k → k H ds = true) →
      Calls C.prog f args W fun e W' => e = .returned (.bool true) ∧ Below W.heap.size W W') :
    ReturnsInHanded {} C os f .any (sp.preRow enc C.prog fn conds false laid) ((sp.at F).post enc C.prog fn false true false false) := by
  refine returnsInHanded_of_row own started noInit hfn witness ?_
  intro W base args ds gs before hval hW _ hk hsz hL hsh _
  subst hts
  rw [hvars2] at hW
  have hW' : DataW.Whole enc C.prog fn.params.toList s.vars false W args.toList ds gs before := by rw [hvars]; exact hW
  have hW2 := hW'
  obtain ⟨p, q, hA, hV, rfl, _, _⟩ := hW2
  rw [hvars] at hV
  obtain ⟨rfl, rfl⟩ := trodVars_none hV
  rw [hbare, List.append_nil, List.append_nil] at hsz
  have hv := vals_of_trodAll (fun j t v hj hj' => hval j t v (by simpa using hj) (by simpa using hj')) hA (fun n hn => by simpa using List.all_eq_true.1 hsz n hn)
  refine (walk W args ds p hL hsh hv hA (fun k h => by simpa using hk k h)).mono fun e W' ⟨he, bel⟩ => ?_
  subst he
  have hfn' : s.fn H (ds ++ []) = { results := [.lit (.bool true)], args := ds } := by
    rw [List.append_nil]
    exact hs ds (trodAll_length hA).1
  have key : s.post enc C.prog fn false true false false W args (.bool true) W' := by
    refine ⟨ds, [], p ++ [], [], p, [], hW', ?_, ?_, ?_, bel.frame _, fun h => by cases h⟩
    · rw [hfn', hres]
      exact trodAll_mk1 (shut_bool hb true)
    · rw [hfn']
      exact trodAll_below lo bel hrow hA
    · rw [hfn', hvars]
      rfl
  rw [hat]
  exact ⟨_, rfl, key⟩

/-- Pieces that are all read alone. -/
theorem sat0_ro {H : List Chunk} {w : World} (hx : ∀ D ∈ H, D.excl = false) (hh : ∀ D ∈ H, D.holds w) : Sat0 H w :=
  ⟨hh, List.pairwise_iff_getElem.2 fun i j hi hj _ he => by
    rw [hx _ (List.getElem_mem hi), hx _ (List.getElem_mem hj)] at he
    rcases he with he | he <;> cases he⟩
theorem Fn.lawR {P : Program} {f : FuncId} {args : Array Value} {W : World} {H : List Chunk} (hx : ∀ D ∈ H, D.excl = false) (hh : ∀ D ∈ H, D.holds W)
    (h : Fn P f args H Unit (fun _ => .bool true) (fun _ => []) (fun _ => True)) : Calls P f args W fun e w' => e = .returned (.bool true) ∧ Below W.heap.size W w' :=
  (h W (sat0_ro hx hh)).mono fun e w' ⟨_, _, he, hs⟩ => ⟨he, hs.upd.to_below (Nat.le_refl _) fun k _ ⟨D, hD, hd, _⟩ => by rw [hx D hD] at hd; cases hd⟩

/-- A variable that the row lists as an error holds some error. -/
theorem iface_of_head {P : Program} {W : World} {n nm : String} {d : DataW Unit} {r : List (String × DataW Unit)} {g : Nat} {ti : TypeId} {ms : Array (String × TypeId)} (h : laidMet P ((n, .iface nm d) :: r) W)
    (hg : P.globalNamed n = some g) (ht : (P.globals[g]?).map (·.type) = some ti) (hi : P.underlying ti = some (.interface ms)) : ∃ tp p, W.var? P n = some #[.iface tp p] := by
  obtain ⟨ps, ⟨g0, t0, cs0, f0, p0, q0, hg0, ht0, hv0, hd0, _, _⟩, _, _⟩ := h
  obtain rfl := Option.some.inj (hg.symm.trans hg0)
  obtain rfl := Option.some.inj (ht.symm.trans ht0)
  obtain ⟨_, u, v, e, _, _⟩ := iface_of_trod hi hd0
  obtain ⟨l0⟩ := cs0
  subst e
  exact ⟨u, v, hv0⟩

def lawsLaid : List (String × DataW Unit) := [("math/bits.deBruijn32tab", Rows.laid_math_bits_deBruijn32tab), ("math/bits.deBruijn64tab", Rows.laid_math_bits_deBruijn64tab), ("internal/strconv.uint64pow10", Rows.laid_internal_strconv_uint64pow10), ("strconv.ErrRange", Rows.laid_strconv_ErrRange), ("strconv.ErrSyntax", Rows.laid_strconv_ErrSyntax)]
theorem pow10_data : (Rows.laid_internal_strconv_uint64pow10 : DataW Unit) = Lib.tabData .u64 Lib.pow10Tab := by kernel_rfl
theorem laidH_of_row {W : World} (h : laidMetH Tryz.prog lawsLaid W) (_ : W.ShapedOpen Tryz.prog) : laidH W := by
  rw [MakeChecks.laidMetH_plain _ _ _ (by kernel_rfl)] at h
  have h2 : laidMet Tryz.prog (("internal/strconv.uint64pow10", Lib.tabData .u64 Lib.pow10Tab) :: lawsLaid.drop 3) W := by
    rw [← pow10_data]
    exact h.tail.tail
  refine ⟨?_, ?_, ?_⟩
  · exact Lib.tabIs_of_head gT (by kernel_rfl) Tryz.underlying179 Tryz.underlying109 (by kernel_rfl) (by kernel_rfl) h2
  · exact iface_of_head h.tail.tail.tail.tail gS (by kernel_rfl) Tryz.underlying121
  · exact iface_of_head h.tail.tail.tail gR (by kernel_rfl) Tryz.underlying121

/-! ### one start that fits -/
/-- The cells of a table, as the row lists it. -/
def flatD : Nat → DataW Unit → List Value
  | 0, _ => []
  | _ + 1, .lit (.int k m) => [.int k m]
  | n + 1, .agg ps => ps.flatMap (flatD n)
  | _ + 1, _ => []
noncomputable def low : Nat := (World.holding Tryz.prog default ⟨#[], #[], []⟩).heap.size
def putG_ (cs : List Value) : Obj → Obj
  | .cells _ t frozen => .cells cs.toArray t frozen
  | o => o
noncomputable def laidWorld (os : Os) : World :=
  let w0 := World.holding Tryz.prog os ⟨#[.cells #[.string (txt [118, 97, 108, 117, 101, 32, 111, 117, 116, 32, 111, 102, 32, 114, 97, 110, 103, 101])] 191, .cells #[.string (txt [105, 110, 118, 97, 108, 105, 100, 32, 115, 121, 110, 116, 97, 120])] 191], #[], []⟩
  { w0 with heap := ((((w0.heap.modify 4 (putG_ (flatD 3 Rows.laid_math_bits_deBruijn32tab))).modify 5 (putG_ (flatD 3 Rows.laid_math_bits_deBruijn64tab))).modify 2 (putG_ (flatD 3 Rows.laid_internal_strconv_uint64pow10))).modify 1 (putG_ [.iface 189 (.pointer (some ⟨low, 0, none⟩))])).modify 0 (putG_ [.iface 189 (.pointer (some ⟨low + 1, 0, none⟩))]) }
theorem laid_met (os : Os) (args : Array Value) : laidMet Tryz.prog lawsLaid ((laidWorld os).forCall (fun _ _ => 0) ⟨#[], args, []⟩).memory :=
  laidMet_of_run' 8 (by kernel_rfl) (by kernel_rfl)
theorem laid_metH (os : Os) (args : Array Value) : laidMetH Tryz.prog lawsLaid ((laidWorld os).forCall (fun _ _ => 0) ⟨#[], args, []⟩).memory := by
  rw [MakeChecks.laidMetH_plain _ _ _ (by kernel_rfl)]
  exact laid_met os args
theorem own_none : ownKnob Tryz.prog.godebug = none := by kernel_rfl
theorem laid_outB : laidOutB Tryz.prog = true := by kernel_rfl
end Go.Proofs.YtceanciekadkeaaGreatDoor
