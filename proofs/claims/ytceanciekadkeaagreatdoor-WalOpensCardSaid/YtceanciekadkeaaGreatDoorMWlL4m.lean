/-
  Texts joined: RfG, RfI, DvE, RfC, DvF, WlPA, SlU, WlW, SlV, WlOA.
-/
import Derived.Test.YtceanciekadkeaaGreatDoorMWlL4c
import Derived.Test.YtceanciekadkeaaGreatDoorMWlL4h
import Derived.Test.YtceanciekadkeaaGreatDoorMWlL4i
import Derived.Test.YtceanciekadkeaaGreatDoorMWlL4k
import Derived.Test.YtceanciekadkeaaGreatDoorMWlL4l
/- the document's log over pieces: opened -/
namespace Go.Proofs.YtceanciekadkeaaGreatDoor
open Go.RowKit
theorem rscan_sl (A : Option Addr) (c : Nat) (l : List UInt8) (hl : l.length ≤ 1048576) (hc : l.length ≤ c ∧ c ≤ maxLen) : Fn Tryz.prog 43 #[.slice A l.length c] [rdB A l] ((Option Addr × Nat) × List ByS) (fun p => .tuple #[.slice p.1.1 p.2.length p.1.2, .int .i64 (scanF l).2]) (fun p => [payW p.1.1 p.1.2 p.2, payX p.2]) (fun p => p.2.map ByS.l = (scanF l).1) := fun w hs => by
  refine (refScan_any A l.length c l w (sat_rd 0 rfl hs) hc.1 hc.2 (by omega)).mono ?_
  rintro e w' ⟨D, d, vs, rfl, ho, hr, hb⟩
  obtain ⟨S, h1, h2⟩ := sat_rows (H := [rdB A l]) hb ho hr
  refine ⟨((D, d), S), h1, ?_, h2⟩
  dsimp only
  rw [← h1, List.length_map]
abbrev lvB (g : Nat) (s : Nat) (d : Bool) : Chunk := blk g 47 [.int .i64 s, .bool d]
theorem ropen_bad (P : DrP) (A : Option Addr) (c : Nat) (fr : Int) (hf : fr < 1 ∨ 999999 < fr) : Fn Tryz.prog 16 #[.agg (P.val A c).toArray, .int .i64 fr] [] Unit (fun _ => .tuple #[.agg #[.int .i64 0, .bool false], .slice none 0 0, .int .i64 1]) (fun _ => []) (fun _ => True) := by
  dsimp only [DrP.val]
  refine Fn.enter Tryz.func16 rfl Tryz.ntmps16 (by rfl) ?_
  intro w0
  refine Cd.seq ?_
  refine Cd.region ?_
  refine Ls.does (some 2) (Does.box (show Oper.op _ = Op.box 43 (Operand.tmp 0) from rfl) (by rfl)) (by rfl) (by rfl) ?_
  intro g1 _
  refine Ls.does (some 4) (Does.alloc (cs := [.int .i64 0, .bool false]) (show Oper.op _ = Op.alloc 47 from rfl) (ZeroIs.mk (.agg #[.int .i64 0, .bool false]) (by kernel_rfl) (by rfl))) (by rfl) (by rfl) ?_
  intro g2 _
  refine Ls.ev (some 5) (Ev.assign (show Oper.op _ = Op.assign (Operand.const (Value.slice none 0 0)) from rfl) (by rfl)) (by rfl) (by rfl) ?_
  refine Ls.ev (some 6) (Ev.assign (show Oper.op _ = Op.assign (Operand.const (Value.int IntKind.i64 0)) from rfl) (by rfl)) (by rfl) (by rfl) ?_
  refine Ls.nil ?_
  refine Cd.seq ?_
  refine Cd.seq ?_
  refine Cd.region ?_
  refine Ls.ev (some 13) (Ev.move (show Oper.op _ = Op.move (Operand.tmp 1) from rfl) (by rfl)) (by rfl) (by rfl) ?_
  refine Ls.ev (some 14) (Ev.lss (show Oper.op _ = Op.binOp BinOp.lss 3 (Operand.tmp 13) (Operand.const (Value.int IntKind.i64 1)) 3 from rfl) (by rfl) (by rfl)) (by rfl) (by rfl) ?_
  refine Ls.ev (some 15) (Ev.move (show Oper.op _ = Op.move (Operand.tmp 14) from rfl) (by rfl)) (by rfl) (by rfl) ?_
  by_cases h1 : fr < 1
  · skip
    refine Ent.known 15 true (by rfl) (by exact (decide_eq_true h1)) ?_
    refine Ls.pass (some 16) (by rfl) (by rfl) ?_
    refine Ls.pass (some 17) (by rfl) (by rfl) ?_
    refine Ls.ev (some 18) (Ev.pickT (show Oper.op _ = Op.pick (Operand.tmp 15) (Operand.const (Value.bool true)) (Operand.tmp 17) from rfl) (by rfl) (by rfl)) (by rfl) (by rfl) ?_
    refine Ls.nil ?_
    skip
    refine Cd.cond_true (by rfl) (rfl) ?_
    refine Cd.seq ?_
    refine Cd.region ?_
    refine Ls.ev (some 19) (Ev.buildP (pl := [(0, 1), (1, 1)]) (zs := [.int .i64 0, .bool false]) (show Oper.op _ = Op.build 47 #[] from rfl) (by rfl) (by kernel_rfl) (by rfl)) (by rfl) (by rfl) ?_
    refine Ls.does none (Does.store 0 (show Oper.op _ = Op.store 47 (Operand.tmp 4) (Operand.tmp 19) from rfl) (by rfl) (by rfl) (by rfl) (by kernel_rfl) (by rfl) (by kernel_rfl) (by rfl)) (by rfl) (by rfl) ?_
    intro _ _
    refine Ls.ev (some 5) (Ev.assign (show Oper.op _ = Op.assign (Operand.const (Value.slice none 0 0)) from rfl) (by rfl)) (by rfl) (by rfl) ?_
    refine Ls.ev (some 6) (Ev.assign (show Oper.op _ = Op.assign (Operand.const (Value.int IntKind.i64 1)) from rfl) (by rfl)) (by rfl) (by rfl) ?_
    refine Ls.nil ?_
    refine Cd.ret ?_
    refine Ent.ret (()) (trivial) (Res.cell_tmp2 0 (by rfl) (by rfl) (by rfl) (n := 2) (by kernel_rfl) (by rfl) (by rfl) (by rfl) (by rfl)) ?_ [] (by rfl) ?_
    · rfl
    · rfl
  · skip
    refine Ent.known 15 false (by rfl) (by exact (decide_eq_false h1)) ?_
    refine Ls.ev (some 16) (Ev.move (show Oper.op _ = Op.move (Operand.tmp 1) from rfl) (by rfl)) (by rfl) (by rfl) ?_
    refine Ls.ev (some 17) (Ev.gtr (show Oper.op _ = Op.binOp BinOp.gtr 3 (Operand.tmp 16) (Operand.const (Value.int IntKind.i64 999999)) 3 from rfl) (by rfl) (by rfl)) (by rfl) (by rfl) ?_
    refine Ls.ev (some 18) (Ev.pickF (show Oper.op _ = Op.pick (Operand.tmp 15) (Operand.const (Value.bool true)) (Operand.tmp 17) from rfl) (by rfl) (by rfl)) (by rfl) (by rfl) ?_
    refine Ls.nil ?_
    skip
    refine Cd.cond_true (by rfl) (decide_eq_true (hf.resolve_left h1)) ?_
    refine Cd.seq ?_
    refine Cd.region ?_
    refine Ls.ev (some 19) (Ev.buildP (pl := [(0, 1), (1, 1)]) (zs := [.int .i64 0, .bool false]) (show Oper.op _ = Op.build 47 #[] from rfl) (by rfl) (by kernel_rfl) (by rfl)) (by rfl) (by rfl) ?_
    refine Ls.does none (Does.store 0 (show Oper.op _ = Op.store 47 (Operand.tmp 4) (Operand.tmp 19) from rfl) (by rfl) (by rfl) (by rfl) (by kernel_rfl) (by rfl) (by kernel_rfl) (by rfl)) (by rfl) (by rfl) ?_
    intro _ _
    refine Ls.ev (some 5) (Ev.assign (show Oper.op _ = Op.assign (Operand.const (Value.slice none 0 0)) from rfl) (by rfl)) (by rfl) (by rfl) ?_
    refine Ls.ev (some 6) (Ev.assign (show Oper.op _ = Op.assign (Operand.const (Value.int IntKind.i64 1)) from rfl) (by rfl)) (by rfl) (by rfl) ?_
    refine Ls.nil ?_
    refine Cd.ret ?_
    refine Ent.ret (()) (trivial) (Res.cell_tmp2 0 (by rfl) (by rfl) (by rfl) (n := 2) (by kernel_rfl) (by rfl) (by rfl) (by rfl) (by rfl)) ?_ [] (by rfl) ?_
    · rfl
    · rfl
set_option maxHeartbeats 1000000 in
theorem ropen_sl (P : DrP) (hok : P.Ok) (A : Option Addr) (c : Nat) (fr : Nat) (hf1 : 1 ≤ fr) (hf2 : fr ≤ 999999) : Fn Tryz.prog 16 #[.agg (P.val A c).toArray, .int .i64 fr] [rdF A P.fs] ((Option Addr × Nat) × List ByS) (fun p => .tuple #[.agg #[.int .i64 (P.seg fr), .bool false], .slice p.1.1 p.2.length p.1.2, .int .i64 0]) (fun p => [payW p.1.1 p.1.2 p.2, payX p.2]) (fun p => p.2.map ByS.l = P.pay fr) := by
  have hpl := hok.len
  have hsg := rsegs_sl P hpl (fun f hf => (hok.good f hf).len) A c
  have hln : (segsP P).length ≤ 256 := by
    have := segsN_len (P.fs.map FiP.nm)
    rw [List.length_map] at this
    show (segsN _).length ≤ _
    omega
  have hmem : ∀ n ∈ segsP P, 1 ≤ n ∧ n ≤ 999999 ∧ ∃ f, P.find (nameP n) = some f := fun n hn => by
    obtain ⟨a, b, hc⟩ := segsN_mem hn
    obtain ⟨f, hf, he⟩ := List.mem_map.1 hc
    exact ⟨a, b, f, by rw [← he]; exact findG_mem hok.rise hf⟩
  unfold DrP.seg DrP.pay
  generalize segsP P = ns at hsg hln hmem ⊢
  have hat : ∀ q, _ := fun q => dat_sl P A c q (by omega)
  have hVe : P.val A c = [.slice A P.fs.length c, .int .i64 P.steps, .bool P.left.isSome, .int .i64 ((P.left.getD 0 : Nat) : Int)] := rfl
  rw [hVe] at hsg hat ⊢
  refine Fn.enter Tryz.func16 rfl Tryz.ntmps16 (by rfl) ?_
  intro w0
  refine Cd.seq ?_
  refine Cd.region ?_
  refine Ls.does (some 2) (Does.box (show Oper.op _ = Op.box 43 (Operand.tmp 0) from rfl) (by rfl)) (by rfl) (by rfl) ?_
  intro g1 _
  refine Ls.does (some 4) (Does.alloc (cs := [.int .i64 0, .bool false]) (show Oper.op _ = Op.alloc 47 from rfl) (ZeroIs.mk (.agg #[.int .i64 0, .bool false]) (by kernel_rfl) (by rfl))) (by rfl) (by rfl) ?_
  intro g2 _
  refine Ls.ev (some 5) (Ev.assign (show Oper.op _ = Op.assign (Operand.const (Value.slice none 0 0)) from rfl) (by rfl)) (by rfl) (by rfl) ?_
  refine Ls.ev (some 6) (Ev.assign (show Oper.op _ = Op.assign (Operand.const (Value.int IntKind.i64 0)) from rfl) (by rfl)) (by rfl) (by rfl) ?_
  refine Ls.nil ?_
  refine Cd.seq ?_
  refine Cd.seq ?_
  refine Cd.region ?_
  refine Ls.ev (some 13) (Ev.move (show Oper.op _ = Op.move (Operand.tmp 1) from rfl) (by rfl)) (by rfl) (by rfl) ?_
  refine Ls.ev (some 14) (Ev.lss (show Oper.op _ = Op.binOp BinOp.lss 3 (Operand.tmp 13) (Operand.const (Value.int IntKind.i64 1)) 3 from rfl) (by rfl) (by rfl)) (by rfl) (by rfl) ?_
  refine Ls.ev (some 15) (Ev.move (show Oper.op _ = Op.move (Operand.tmp 14) from rfl) (by rfl)) (by rfl) (by rfl) ?_
  refine Ent.known 15 false (by rfl) (by exact (decide_eq_false (by omega))) ?_
  refine Ls.ev (some 16) (Ev.move (show Oper.op _ = Op.move (Operand.tmp 1) from rfl) (by rfl)) (by rfl) (by rfl) ?_
  refine Ls.ev (some 17) (Ev.gtr (show Oper.op _ = Op.binOp BinOp.gtr 3 (Operand.tmp 16) (Operand.const (Value.int IntKind.i64 999999)) 3 from rfl) (by rfl) (by rfl)) (by rfl) (by rfl) ?_
  refine Ls.ev (some 18) (Ev.pickF (show Oper.op _ = Op.pick (Operand.tmp 15) (Operand.const (Value.bool true)) (Operand.tmp 17) from rfl) (by rfl) (by rfl)) (by rfl) (by rfl) ?_
  refine Ls.nil ?_
  skip
  refine Cd.cond_false (by rfl) (decide_eq_false (by omega)) ?_
  refine Cd.skip ?_
  refine Cd.seq ?_
  refine Cd.region ?_
  refine Ls.ev (some 20) (Ev.move (show Oper.op _ = Op.move (Operand.tmp 1) from rfl) (by rfl)) (by rfl) (by rfl) ?_
  refine Ls.ev (some 21) (Ev.buildP (pl := [(0, 1), (1, 1)]) (zs := [.int .i64 0, .bool false]) (show Oper.op _ = Op.build 47 #[(0, Operand.tmp 20)] from rfl) (by rfl) (by kernel_rfl) (by rfl)) (by rfl) (by rfl) ?_
  refine Ls.does (some 7) (Does.alloc (cs := [.int .i64 0, .bool false]) (show Oper.op _ = Op.alloc 47 from rfl) (ZeroIs.mk (.agg #[.int .i64 0, .bool false]) (by kernel_rfl) (by rfl))) (by rfl) (by rfl) ?_
  intro g3 _
  refine Ls.does none (Does.store 0 (show Oper.op _ = Op.store 47 (Operand.tmp 7) (Operand.tmp 21) from rfl) (by rfl) (by rfl) (by rfl) (by kernel_rfl) (by rfl) (by kernel_rfl) (by rfl)) (by rfl) (by rfl) ?_
  intro _ _
  refine Ls.nil ?_
  refine Cd.seq ?_
  refine Cd.region ?_
  refine Ls.ev (some 8) (Ev.assign (show Oper.op _ = Op.assign (Operand.const (Value.slice none 0 0)) from rfl) (by rfl)) (by rfl) (by rfl) ?_
  refine Ls.nil ?_
  refine Cd.seq ?_
  refine Cd.region ?_
  refine Ls.ev (some 22) (Ev.loads 2 (show Oper.op _ = Op.load 43 (Operand.tmp 2) from rfl) (by rfl) (by rfl) (n := 4) (by kernel_rfl) (by rfl) (by rfl)) (by rfl) (by rfl) ?_
  refine Ls.does (some 23) (Does.readN (show Oper.op _ = Op.call { callee := Callee.value (Operand.func 42), args := #[Operand.tmp 22], argTypes := #[43] } from rfl) Tryz.func42 (by kernel_rfl) (by kernel_rfl) (hsg) (by rfl) (by rfl) ⟨ReadsIn.rd 3 (by rfl), trivial⟩ (fun _ => by rfl)) (by rfl) (by rfl) ?_
  rintro ⟨sA, sc⟩ -
  refine Ent.see 0 (by rfl) ?_
  refine Ent.nil 30 1 ?_
  refine Ent.map (fun w hs => hs.starx_nil) ?_
  refine Ent.pick [1, 0, 3, 2, 4, 5, 6] (by rfl) ?_
  skip
  refine Ls.ev (some 9) (Ev.assign (show Oper.op _ = Op.assign (Operand.tmp 23) from rfl) (by rfl)) (by rfl) (by rfl) ?_
  refine Ls.nil ?_
  refine Cd.seq ?_
  refine Cd.seq ?_
  refine Cd.region ?_
  refine Ls.ev (some 10) (Ev.assign (show Oper.op _ = Op.assign (Operand.const (Value.int IntKind.i64 0)) from rfl) (by rfl)) (by rfl) (by rfl) ?_
  refine Ls.nil ?_
  refine Cd.block ?_
  refine Cd.loop (ι := Nat × Nat × (Option Addr × Nat) × List ByS) (fun p => [(1, .int .i64 fr), (2, .pointer (some ⟨g1, 0, none⟩)), (4, .pointer (some ⟨g2, 0, none⟩)), (7, .pointer (some ⟨g3, 0, none⟩)), (8, .slice p.2.2.1.1 p.2.2.2.length p.2.2.1.2), (9, .slice sA ns.length sc), (10, .int .i64 p.1)]) (fun p => [payW p.2.2.1.1 p.2.2.1.2 p.2.2.2, payX p.2.2.2, lvB g3 p.2.1 false, rd sA ns.length 1 (nats ns), lvB g2 0 false, blk g1 43 [.slice A P.fs.length c, .int .i64 P.steps, .bool P.left.isSome, .int .i64 ((P.left.getD 0 : Nat) : Int)], rdF A P.fs]) (fun p => p.1 ≤ ns.length ∧ p.2.1 = (ns.take p.1).foldl segA fr ∧ p.2.2.2.map ByS.l = payN P fr (ns.take p.1) ∧ p.2.2.2.length ≤ 60000 * p.1) (fun p => ns.length - p.1) ((0, fr, (none, 0), [])) (⟨Nat.zero_le _, rfl, rfl, Nat.le_refl _⟩) ?_ rfl ?_
  · (repeat (first | exact trivial | refine ⟨by rfl, ?_⟩))
  rintro ⟨k, sg, ⟨W, d⟩, S⟩ ⟨hk, hsg2, hS, hSl⟩
  dsimp only at hk hsg2 hS hSl ⊢
  have hsb : sg ≤ 1000000 := by
    rw [hsg2]
    exact (foldl_seg_le (by omega) (fun n hn => (hmem n (List.mem_of_mem_take hn)).2.1)).1
  refine Cd.seq ?_
  refine Cd.seq ?_
  refine Cd.region ?_
  refine Ls.ev (some 24) (Ev.move (show Oper.op _ = Op.move (Operand.tmp 10) from rfl) (by rfl)) (by rfl) (by rfl) ?_
  refine Ls.ev (some 25) (Ev.move (show Oper.op _ = Op.move (Operand.tmp 9) from rfl) (by rfl)) (by rfl) (by rfl) ?_
  refine Ls.ev (some 26) (Ev.len (show Oper.op _ = Op.call { callee := Callee.builtin Builtin.len, args := #[Operand.tmp 25], argTypes := #[35] } from rfl) (by rfl) Tryz.underlying35) (by rfl) (by rfl) ?_
  refine Ls.ev (some 27) (Ev.lss (show Oper.op _ = Op.binOp BinOp.lss 3 (Operand.tmp 24) (Operand.tmp 26) 3 from rfl) (by rfl) (by rfl)) (by rfl) (by rfl) ?_
  refine Ls.nil ?_
  refine Cd.cond _ (by rfl) (fun h2 => ?_) (fun h2 => ?_)
  · skip
    have hlt : k < ns.length := by have := of_decide_eq_true h2; omega
    obtain ⟨n, hn⟩ := get_of_lt hlt
    obtain ⟨hn1, hn2, f, hfd⟩ := hmem n (List.mem_of_getElem? hn)
    have hst : (ns.take (k + 1)).foldl segA fr = segA sg n := by
      rw [List.take_add_one, hn, hsg2]
      show (_ ++ [n]).foldl segA fr = _
      rw [List.foldl_append]
      rfl
    have hpt : payN P fr (ns.take (k + 1)) = S.map ByS.l ++ if fr ≤ n then P.segB n else [] := by
      rw [List.take_add_one, hn, hS]
      exact payN_snoc P fr _ n
    have hmx : (if (sg : Int) < ((n + 1 : Nat) : Int) then ((n + 1 : Nat) : Int) else (sg : Int)) = ((segA sg n : Nat) : Int) := by
      unfold segA
      split <;> omega
    refine Ent.rdSome 3 (by rfl) (by omega) (fun ad had => ?_)
    subst had
    refine Cd.skip ?_
    refine Cd.seq ?_
    refine Cd.block ?_
    refine Cd.seq ?_
    refine Cd.draw [9] (by kernel_rfl) ?_
    refine Rg.ev 0 (by rfl) (fun _ h => h) (Ev.fieldAddr (k := 0) (show Oper.op _ = Op.fieldAddr 47 (Operand.tmp 7) 0 from rfl) (by rfl) (by kernel_rfl) (by rfl)) (by rfl) (some 30) (by rfl) (by kernel_rfl) (by kernel_rfl) (by kernel_rfl) (by kernel_rfl) ?_
    refine Rg.ev 1 (by rfl) (fun _ h => h) (Ev.load 2 (show Oper.op _ = Op.load 3 (Operand.tmp 30) from rfl) (by rfl) (by rfl) (by kernel_rfl) (by rfl)) (by rfl) (some 31) (by rfl) (by kernel_rfl) (by kernel_rfl) (by kernel_rfl) (by kernel_rfl) ?_
    refine Rg.ev 2 (by rfl) (fun _ h => h) (Ev.move (show Oper.op _ = Op.move (Operand.tmp 9) from rfl) (by rfl)) (by rfl) (some 32) (by rfl) (by kernel_rfl) (by kernel_rfl) (by kernel_rfl) (by kernel_rfl) ?_
    refine Rg.ev 3 (by rfl) (fun _ h => h) (Ev.move (show Oper.op _ = Op.move (Operand.tmp 10) from rfl) (by rfl)) (by rfl) (some 33) (by rfl) (by kernel_rfl) (by kernel_rfl) (by kernel_rfl) (by kernel_rfl) ?_
    refine Rg.ev 4 (by rfl) (fun _ h => h) (Ev.indexAt (sz := 1) (show Oper.op _ = Op.indexAddr 35 (Operand.tmp 32) (Operand.tmp 33) from rfl) (by rfl) (by rfl) Tryz.underlying35 (by kernel_rfl) (by omega)) (by rfl) (some 34) (by rfl) (by kernel_rfl) (by kernel_rfl) (by kernel_rfl) (by kernel_rfl) ?_
    refine Rg.ev 5 (by rfl) (fun _ h => h) (Ev.loadNat (show Oper.op _ = Op.load 3 (Operand.tmp 34) from rfl) (by rfl) (ReadsIn.rd 3 (by rfl)) (by kernel_rfl) hn) (by rfl) (some 35) (by rfl) (by kernel_rfl) (by kernel_rfl) (by kernel_rfl) (by kernel_rfl) ?_
    refine Rg.ev 6 (by rfl) (fun _ h => h) (Ev.addN (b := 1) (show Oper.op _ = Op.binOp BinOp.add 3 (Operand.tmp 35) (Operand.const (Value.int IntKind.i64 1)) 3 from rfl) (by rfl) (by rfl) (by omega)) (by rfl) (some 36) (by rfl) (by kernel_rfl) (by kernel_rfl) (by kernel_rfl) (by kernel_rfl) ?_
    refine Rg.ev 7 (by rfl) (fun _ h => h) (Ev.max (show Oper.op _ = Op.call { callee := Callee.builtin Builtin.max, args := #[Operand.tmp 31, Operand.tmp 36], argTypes := #[3, 3] } from rfl) (by rfl) (by rfl)) (by rfl) (some 37) (by rfl) (by kernel_rfl) (by kernel_rfl) (by kernel_rfl) (by kernel_rfl) ?_
    rw [hmx]
    refine Rg.ev 8 (by rfl) (fun _ h => h) (Ev.fieldAddr (k := 0) (show Oper.op _ = Op.fieldAddr 47 (Operand.tmp 7) 0 from rfl) (by rfl) (by kernel_rfl) (by rfl)) (by rfl) (some 38) (by rfl) (by kernel_rfl) (by kernel_rfl) (by kernel_rfl) (by kernel_rfl) ?_
    refine Rg.tail 9 [] (by rfl) (by kernel_rfl) (Does.store 2 (show Oper.op _ = Op.store 3 (Operand.tmp 38) (Operand.tmp 37) from rfl) (by rfl) (by rfl) (by rfl) (by kernel_rfl) (by rfl) (by kernel_rfl) (by rfl)) (by rfl) none (by rfl) (by kernel_rfl) (by kernel_rfl) ?_
    intro _ _
    refine Rg.done (by kernel_rfl) ?_ _
    refine Cd.seq ?_
    refine Cd.region ?_
    refine Ls.ev (some 39) (Ev.move (show Oper.op _ = Op.move (Operand.tmp 9) from rfl) (by rfl)) (by rfl) (by rfl) ?_
    refine Ls.ev (some 40) (Ev.move (show Oper.op _ = Op.move (Operand.tmp 10) from rfl) (by rfl)) (by rfl) (by rfl) ?_
    refine Ls.ev (some 41) (Ev.indexAt (sz := 1) (show Oper.op _ = Op.indexAddr 35 (Operand.tmp 39) (Operand.tmp 40) from rfl) (by rfl) (by rfl) Tryz.underlying35 (by kernel_rfl) (by omega)) (by rfl) (by rfl) ?_
    refine Ls.ev (some 42) (Ev.loadNat (show Oper.op _ = Op.load 3 (Operand.tmp 41) from rfl) (by rfl) (ReadsIn.rd 3 (by rfl)) (by kernel_rfl) hn) (by rfl) (by rfl) ?_
    refine Ls.ev (some 43) (Ev.move (show Oper.op _ = Op.move (Operand.tmp 1) from rfl) (by rfl)) (by rfl) (by rfl) ?_
    refine Ls.ev (some 44) (Ev.geq (show Oper.op _ = Op.binOp BinOp.geq 3 (Operand.tmp 42) (Operand.tmp 43) 3 from rfl) (by rfl) (by rfl)) (by rfl) (by rfl) ?_
    refine Ls.nil ?_
    by_cases hfn : fr ≤ n
    · skip
      rw [if_pos hfn] at hpt
      have hb : P.bytes (nameP n) = f.b := by unfold DrP.bytes; rw [hfd]
      have hfb := hok.size f (findG_some hfd).1
      refine Cd.cond_true (by rfl) (decide_eq_true (by omega)) ?_
      refine Cd.seq ?_
      refine Cd.draw [] (by kernel_rfl) ?_
      refine Rg.ev 0 (by rfl) (fun _ h => h) (Ev.fieldAddr (k := 0) (show Oper.op _ = Op.fieldAddr 43 (Operand.tmp 2) 0 from rfl) (by rfl) (by kernel_rfl) (by rfl)) (by rfl) (some 46) (by rfl) (by kernel_rfl) (by kernel_rfl) (by kernel_rfl) (by kernel_rfl) ?_
      refine Rg.ev 1 (by rfl) (fun _ h => h) (Ev.load 5 (show Oper.op _ = Op.load 41 (Operand.tmp 46) from rfl) (by rfl) (by rfl) (by kernel_rfl) (by rfl)) (by rfl) (some 47) (by rfl) (by kernel_rfl) (by kernel_rfl) (by kernel_rfl) (by kernel_rfl) ?_
      refine Rg.ev 2 (by rfl) (fun _ h => h) (Ev.loads 5 (show Oper.op _ = Op.load 43 (Operand.tmp 2) from rfl) (by rfl) (by rfl) (n := 4) (by kernel_rfl) (by rfl) (by rfl)) (by rfl) (some 48) (by rfl) (by kernel_rfl) (by kernel_rfl) (by kernel_rfl) (by kernel_rfl) ?_
      refine Rg.ev 3 (by rfl) (fun _ h => h) (Ev.move (show Oper.op _ = Op.move (Operand.tmp 9) from rfl) (by rfl)) (by rfl) (some 49) (by rfl) (by kernel_rfl) (by kernel_rfl) (by kernel_rfl) (by kernel_rfl) ?_
      refine Rg.ev 4 (by rfl) (fun _ h => h) (Ev.move (show Oper.op _ = Op.move (Operand.tmp 10) from rfl) (by rfl)) (by rfl) (some 50) (by rfl) (by kernel_rfl) (by kernel_rfl) (by kernel_rfl) (by kernel_rfl) ?_
      refine Rg.ev 5 (by rfl) (fun _ h => h) (Ev.indexAt (sz := 1) (show Oper.op _ = Op.indexAddr 35 (Operand.tmp 49) (Operand.tmp 50) from rfl) (by rfl) (by rfl) Tryz.underlying35 (by kernel_rfl) (by omega)) (by rfl) (some 51) (by rfl) (by kernel_rfl) (by kernel_rfl) (by kernel_rfl) (by kernel_rfl) ?_
      refine Rg.ev 6 (by rfl) (fun _ h => h) (Ev.loadNat (show Oper.op _ = Op.load 3 (Operand.tmp 51) from rfl) (by rfl) (ReadsIn.rd 3 (by rfl)) (by kernel_rfl) hn) (by rfl) (some 52) (by rfl) (by kernel_rfl) (by kernel_rfl) (by kernel_rfl) (by kernel_rfl) ?_
      skip
      refine Rg.does 7 (by rfl) (by kernel_rfl) (Does.read (show Oper.op _ = Op.call { callee := Callee.value (Operand.func 13), args := #[Operand.tmp 52], argTypes := #[3] } from rfl) Tryz.func13 (by kernel_rfl) (by kernel_rfl) (rname_sl n (by omega)) (by rfl) (by rfl) trivial) (by rfl) (some 53) (by rfl) (by exact fun _ _ h => h) ?_
      rintro _ -
      rw [nmR_name hn2]
      skip
      refine Rg.does 8 (by rfl) (by kernel_rfl) (Does.read (show Oper.op _ = Op.call { callee := Callee.value (Operand.func 39), args := #[Operand.tmp 48, Operand.tmp 53], argTypes := #[43, 9] } from rfl) Tryz.func39 (by kernel_rfl) (by kernel_rfl) (hat (nameP n)) (by rfl) (by rfl) ⟨ReadsIn.rd 6 (by rfl), trivial⟩) (by rfl) (some 54) (by rfl) (by exact fun _ _ h => h) ?_
      rintro r hr
      obtain ⟨m, rfl, hm⟩ := at_hit hr hfd
      have hml := (List.getElem?_eq_some_iff.1 hm).1
      refine Ent.rdSome 6 (by rfl) (by omega) (fun fd hfd2 => ?_)
      subst hfd2
      skip
      refine Rg.ev 9 (by rfl) (fun _ h => h) (Ev.indexAt (sz := 3) (show Oper.op _ = Op.indexAddr 41 (Operand.tmp 47) (Operand.tmp 54) from rfl) (by rfl) (by rfl) Tryz.underlying41 (by kernel_rfl) (by omega)) (by rfl) (some 55) (by rfl) (by kernel_rfl) (by kernel_rfl) (by kernel_rfl) (by kernel_rfl) ?_
      refine Rg.ev 10 (by rfl) (fun _ h => h) (Ev.fieldAddrE0 (k := 1) (show Oper.op _ = Op.fieldAddr 88 (Operand.tmp 55) 1 from rfl) (by rfl) (by kernel_rfl)) (by rfl) (some 56) (by rfl) (by kernel_rfl) (by kernel_rfl) (by kernel_rfl) (by kernel_rfl) ?_
      refine Rg.ev 11 (by rfl) (fun _ h => h) (Ev.loadElF (show Oper.op _ = Op.load 9 (Operand.tmp 56) from rfl) (by rfl) (ReadsIn.rd 6 (by rfl)) (by kernel_rfl) (by intro _; rfl) (by assumption) (by rfl)) (by rfl) (some 57) (by rfl) (by kernel_rfl) (by kernel_rfl) (by kernel_rfl) (by kernel_rfl) ?_
      refine Rg.does 12 (by rfl) (by kernel_rfl) (Does.bytesOf (l := f.b) (show Oper.op _ = Op.convert 9 30 (Operand.tmp 57) from rfl) (by rfl) Tryz.underlying9 Tryz.underlying30 Tryz.underlying5 (by unfold maxLen; omega)) (by rfl) (some 58) (by rfl) (fun _ _ h => h.tail_) ?_
      rintro ⟨bA, bc⟩ hbc
      dsimp only at hbc ⊢
      skip
      refine Rg.does 13 (by rfl) (by kernel_rfl) (Does.readN (show Oper.op _ = Op.call { callee := Callee.value (Operand.func 43), args := #[Operand.tmp 58], argTypes := #[30] } from rfl) Tryz.func43 (by kernel_rfl) (by kernel_rfl) (rscan_sl (some ⟨bA, 0, none⟩) bc f.b (by omega) hbc) (by rfl) (by rfl) ⟨ReadsIn.rd 0 (by rfl), trivial⟩ (fun _ => by rfl)) (by rfl) (some 59) (by rfl) (fun _ _ h => h.tail_.tail_) ?_
      rintro ⟨⟨qA, qc⟩, S2⟩ hS2
      dsimp only at hS2 ⊢
      have hS2l : S2.length ≤ 60000 := by
        have h1 := (scanF_size f.b)
        have h2 : S2.length = (scanF f.b).1.length := by rw [← hS2, List.length_map]
        omega
      refine Rg.ev 14 (by rfl) (fun _ h => h) (Ev.move (show Oper.op _ = Op.move (Operand.tmp 59) from rfl) (by rfl)) (by rfl) (some 45) (by rfl) (by kernel_rfl) (by kernel_rfl) (by kernel_rfl) (by kernel_rfl) ?_
      refine Rg.ev 15 (by rfl) (fun _ h => h) (Ev.extract (show Oper.op _ = Op.extract (Operand.tmp 45) 0 from rfl) (by rfl) (by rfl)) (by rfl) (some 60) (by rfl) (by kernel_rfl) (by kernel_rfl) (by kernel_rfl) (by kernel_rfl) ?_
      refine Rg.ev 16 (by rfl) (fun _ h => h) (Ev.extract (show Oper.op _ = Op.extract (Operand.tmp 45) 1 from rfl) (by rfl) (by rfl)) (by rfl) (some 61) (by rfl) (by kernel_rfl) (by kernel_rfl) (by kernel_rfl) (by kernel_rfl) ?_
      refine Rg.ev 17 (by rfl) (fun _ h => h) (Ev.assign (show Oper.op _ = Op.assign (Operand.tmp 60) from rfl) (by rfl)) (by rfl) (some 11) (by rfl) (by kernel_rfl) (by kernel_rfl) (by kernel_rfl) (by kernel_rfl) ?_
      refine Rg.ev 18 (by rfl) (fun _ h => h) (Ev.assign (show Oper.op _ = Op.assign (Operand.tmp 61) from rfl) (by rfl)) (by rfl) (some 12) (by rfl) (by kernel_rfl) (by kernel_rfl) (by kernel_rfl) (by kernel_rfl) ?_
      refine Rg.done (by kernel_rfl) ?_ _
      refine Ent.see 0 (by rfl) ?_
      refine Cd.region ?_
      refine Ls.ev (some 62) (Ev.move (show Oper.op _ = Op.move (Operand.tmp 8) from rfl) (by rfl)) (by rfl) (by rfl) ?_
      refine Ls.ev (some 63) (Ev.move (show Oper.op _ = Op.move (Operand.tmp 11) from rfl) (by rfl)) (by rfl) (by rfl) ?_
      refine Ls.does (some 64) (Does.app (xs := S.map ByS.v) (news := S2.map ByS.v) 3 (show Oper.op _ = Op.call { callee := Callee.builtin Builtin.append, args := #[Operand.tmp 62, Operand.tmp 63], argTypes := #[22, 22] } from rfl) (by rfl) (by rfl) (by rfl) (ReadsIn.rd 0 (by rfl)) elem_pay (one_pay _) (by omega)) (by rfl) (by rfl) ?_
      rintro r -
      refine Ls.ev (some 8) (Ev.assign (show Oper.op _ = Op.assign (Operand.tmp 64) from rfl) (by rfl)) (by rfl) (by rfl) ?_
      refine Ls.nil ?_
      refine Cd.region ?_
      refine Ls.ev (some 28) (Ev.move (show Oper.op _ = Op.move (Operand.tmp 10) from rfl) (by rfl)) (by rfl) (by rfl) ?_
      refine Ls.ev (some 29) (Ev.addN (b := 1) (show Oper.op _ = Op.binOp BinOp.add 3 (Operand.tmp 28) (Operand.const (Value.int IntKind.i64 1)) 3 from rfl) (by rfl) (by rfl) (by omega)) (by rfl) (by rfl) ?_
      refine Ls.ev (some 10) (Ev.assign (show Oper.op _ = Op.assign (Operand.tmp 29) from rfl) (by rfl)) (by rfl) (by rfl) ?_
      refine Ls.nil ?_
      refine Ent.pick [4, 1, 3, 5, 6, 7, 8, 9] (by rfl) ?_
      refine Ent.map (fun w hs => pay_join hs) ?_
      refine Ent.pick [1, 0, 2, 3, 4, 5, 6] (by rfl) ?_
      refine Ent.inv ((k + 1, segA sg n, (r.1, r.2), S ++ S2)) ?_ ?_ ?_
      · (try dsimp only); exact ⟨⟨hlt, hst.symm, by rw [List.map_append, hS2, hpt, DrP.segB, hb], by rw [List.length_append]; omega⟩, by omega⟩
      · (repeat (first | exact trivial | refine ⟨by rfl, ?_⟩ | refine ⟨by simp only [List.length_append, List.length_cons, List.length_nil]; rfl, ?_⟩ | refine ⟨by push_cast; rfl, ?_⟩ | refine ⟨by (show some (Value.slice _ _ _) = some (Value.slice _ _ _); rw [List.length_append]; rfl), ?_⟩))
      · (show [_, _, _, _, _, _, _] = [_, _, _, _, _, _, _]; dsimp only [payW]; rw [List.length_append, List.map_append]; rfl)
    · skip
      rw [if_neg hfn, List.append_nil] at hpt
      refine Cd.cond_false (by rfl) (decide_eq_false (by omega)) ?_
      refine Cd.skip ?_
      refine Cd.region ?_
      refine Ls.ev (some 28) (Ev.move (show Oper.op _ = Op.move (Operand.tmp 10) from rfl) (by rfl)) (by rfl) (by rfl) ?_
      refine Ls.ev (some 29) (Ev.addN (b := 1) (show Oper.op _ = Op.binOp BinOp.add 3 (Operand.tmp 28) (Operand.const (Value.int IntKind.i64 1)) 3 from rfl) (by rfl) (by rfl) (by omega)) (by rfl) (by rfl) ?_
      refine Ls.ev (some 10) (Ev.assign (show Oper.op _ = Op.assign (Operand.tmp 29) from rfl) (by rfl)) (by rfl) (by rfl) ?_
      refine Ls.nil ?_
      refine Ent.inv ((k + 1, segA sg n, (W, d), S)) ?_ ?_ ?_
      · (try dsimp only); exact ⟨⟨hlt, hst.symm, hpt.symm, by omega⟩, by omega⟩
      · (repeat (first | exact trivial | refine ⟨by rfl, ?_⟩ | refine ⟨by simp only [List.length_append, List.length_cons, List.length_nil]; rfl, ?_⟩ | refine ⟨by push_cast; rfl, ?_⟩))
      · rfl
  · skip
    have hge : ns.length ≤ k := by have := of_decide_eq_false h2; omega
    rw [List.take_of_length_le hge] at hsg2 hS
    subst hsg2
    refine Cd.exit ?_
    refine Cd.seq ?_
    refine Cd.region ?_
    refine Ls.ev (some 65) (Ev.loads 2 (show Oper.op _ = Op.load 47 (Operand.tmp 7) from rfl) (by rfl) (by rfl) (n := 2) (by kernel_rfl) (by rfl) (by rfl)) (by rfl) (by rfl) ?_
    refine Ls.ev (some 66) (Ev.move (show Oper.op _ = Op.move (Operand.tmp 8) from rfl) (by rfl)) (by rfl) (by rfl) ?_
    refine Ls.does none (Does.store 4 (show Oper.op _ = Op.store 47 (Operand.tmp 4) (Operand.tmp 65) from rfl) (by rfl) (by rfl) (by rfl) (by kernel_rfl) (by rfl) (by kernel_rfl) (by rfl)) (by rfl) (by rfl) ?_
    intro _ _
    refine Ls.ev (some 5) (Ev.assign (show Oper.op _ = Op.assign (Operand.tmp 66) from rfl) (by rfl)) (by rfl) (by rfl) ?_
    refine Ls.ev (some 6) (Ev.assign (show Oper.op _ = Op.assign (Operand.const (Value.int IntKind.i64 0)) from rfl) (by rfl)) (by rfl) (by rfl) ?_
    refine Ls.nil ?_
    refine Cd.ret ?_
    refine Ent.ret (((W, d), S)) (hS) (Res.cell_tmp2 4 (by rfl) (by rfl) (by rfl) (n := 2) (by kernel_rfl) (by rfl) (by rfl) (by rfl) (by rfl)) ?_ [0, 1] (by rfl) ?_
    · rfl
    · rfl
end Go.Proofs.YtceanciekadkeaaGreatDoor
/- the document's log over pieces: an append to a segment that has no file -/
namespace Go.Proofs.YtceanciekadkeaaGreatDoor
open Go.RowKit
theorem Res.cell2_tmp {Γ : Ctx} {N : Frm} {P : Program} {E : Env} {H : List Chunk} {fn : Func} {p p' q t t' n n' g g' m m' u u' : Nat} {cs cs' vs vs' : List Value} {v : Value} (i i' : Nat) (h : fn.results = #[.cell p t, .cell p' t', .tmp q]) (hp : E.get p = some (.pointer (some ⟨g, m, none⟩))) (hp' : E.get p' = some (.pointer (some ⟨g', m', none⟩))) (hi : H[i]? = some (blk g u cs)) (hi' : H[i']? = some (blk g' u' cs')) (ht : agg P t n = true) (ht' : agg P t' n' = true) (hv : rangeOf cs m n = vs) (hv' : rangeOf cs' m' n' = vs') (hn : vs.length = n) (hn' : vs'.length = n') (hq : E.get q = some v) : Res Γ N P fn E H (.tuple #[.agg vs.toArray, .agg vs'.toArray, v]) := fun a w hr hs => by
  simp [results, h, hr.get p _ hp, hr.get p' _ hp', hr.get q _ hq, asAddr, run_cell i hs hi ht hv hn, run_cell i' hs hi' ht' hv' hn']
theorem rseal_sl (A : Option Addr) (c : Nat) (l : List UInt8) (hn : l.length ≤ 4096) : Fn Tryz.prog 49 #[.slice A l.length c] [rdB A l] (Option Addr × Nat) (fun p => .slice p.1 (sealL l).length p.2) (fun p => [rowB p.1 p.2 (sealL l)]) (fun _ => True) :=
  Fn.of_own (res := fun p => .slice p.1 (sealL l).length p.2) fun w hs => refSeal_any A l.length c l w (sat_rd 0 rfl hs) (by omega)
theorem rfile_none (P : DrP) (hpl : P.fs.length ≤ 256) (A : Option Addr) (c s : Nat) (d : Bool) (hs : s ≤ 999999 → P.find (nameP s) = none) : Fn Tryz.prog 50 #[.agg (P.val A c).toArray, .agg #[.int .i64 s, .bool d]] [rdF A P.fs] Unit (fun _ => .tuple #[.agg #[.string ⟨#[]⟩, .string ⟨#[]⟩, .int .i64 0], .bool false]) (fun _ => []) (fun _ => True) := by
  have hat : ∀ q, _ := fun q => dat_sl P A c q (by omega)
  have hVe : P.val A c = [.slice A P.fs.length c, .int .i64 P.steps, .bool P.left.isSome, .int .i64 ((P.left.getD 0 : Nat) : Int)] := rfl
  rw [hVe] at hat ⊢
  refine Fn.enter Tryz.func50 rfl Tryz.ntmps50 (by rfl) ?_
  intro w0
  refine Cd.seq ?_
  refine Cd.region ?_
  refine Ls.does (some 2) (Does.box (show Oper.op _ = Op.box 43 (Operand.tmp 0) from rfl) (by rfl)) (by rfl) (by rfl) ?_
  intro g1 _
  refine Ls.does (some 3) (Does.box (show Oper.op _ = Op.box 47 (Operand.tmp 1) from rfl) (by rfl)) (by rfl) (by rfl) ?_
  intro g2 _
  refine Ls.does (some 4) (Does.alloc (cs := [.string ⟨#[]⟩, .string ⟨#[]⟩, .int .i64 0]) (show Oper.op _ = Op.alloc 88 from rfl) (ZeroIs.mk (.agg #[.string ⟨#[]⟩, .string ⟨#[]⟩, .int .i64 0]) (by kernel_rfl) (by rfl))) (by rfl) (by rfl) ?_
  intro g3 _
  refine Ls.ev (some 5) (Ev.assign (show Oper.op _ = Op.assign (Operand.const (Value.bool false)) from rfl) (by rfl)) (by rfl) (by rfl) ?_
  refine Ls.nil ?_
  refine Cd.seq ?_
  refine Cd.seq ?_
  refine Cd.region ?_
  refine Ls.ev (some 7) (Ev.fieldAddr (k := 0) (show Oper.op _ = Op.fieldAddr 47 (Operand.tmp 3) 0 from rfl) (by rfl) (by kernel_rfl) (by rfl)) (by rfl) (by rfl) ?_
  refine Ls.ev (some 8) (Ev.load 1 (show Oper.op _ = Op.load 3 (Operand.tmp 7) from rfl) (by rfl) (by rfl) (by kernel_rfl) (by rfl)) (by rfl) (by rfl) ?_
  refine Ls.ev (some 9) (Ev.gtr (show Oper.op _ = Op.binOp BinOp.gtr 3 (Operand.tmp 8) (Operand.const (Value.int IntKind.i64 999999)) 3 from rfl) (by rfl) (by rfl)) (by rfl) (by rfl) ?_
  refine Ls.nil ?_
  by_cases hb : 999999 < s
  · skip
    refine Cd.cond_true (by rfl) (decide_eq_true (show (999999 : Int) < (s : Int) by omega)) ?_
    refine Cd.seq ?_
    refine Cd.region ?_
    refine Ls.ev (some 10) (Ev.buildP (pl := [(0, 1), (1, 1), (2, 1)]) (zs := [.string ⟨#[]⟩, .string ⟨#[]⟩, .int .i64 0]) (show Oper.op _ = Op.build 88 #[] from rfl) (by rfl) (by kernel_rfl) (by rfl)) (by rfl) (by rfl) ?_
    refine Ls.does none (Does.store 0 (show Oper.op _ = Op.store 88 (Operand.tmp 4) (Operand.tmp 10) from rfl) (by rfl) (by rfl) (by rfl) (by kernel_rfl) (by rfl) (by kernel_rfl) (by rfl)) (by rfl) (by rfl) ?_
    intro _ _
    refine Ls.ev (some 5) (Ev.assign (show Oper.op _ = Op.assign (Operand.const (Value.bool false)) from rfl) (by rfl)) (by rfl) (by rfl) ?_
    refine Ls.nil ?_
    refine Cd.ret ?_
    refine Ent.ret (()) (trivial) (Res.cell_tmp 0 (by rfl) (by rfl) (by rfl) (n := 3) (by kernel_rfl) (by rfl) (by rfl) (by rfl)) ?_ [] (by rfl) ?_
    · rfl
    · rfl
  · skip
    have hn := hs (by omega)
    refine Cd.cond_false (by rfl) (decide_eq_false (show ¬ ((999999 : Int) < (s : Int)) by omega)) ?_
    refine Cd.skip ?_
    refine Cd.seq ?_
    refine Cd.draw [] (by kernel_rfl) ?_
    refine Rg.ev 0 (by rfl) (fun _ h => h) (Ev.loads 2 (show Oper.op _ = Op.load 43 (Operand.tmp 2) from rfl) (by rfl) (by rfl) (n := 4) (by kernel_rfl) (by rfl) (by rfl)) (by rfl) (some 11) (by rfl) (by kernel_rfl) (by kernel_rfl) (by kernel_rfl) (by kernel_rfl) ?_
    refine Rg.ev 1 (by rfl) (fun _ h => h) (Ev.fieldAddr (k := 0) (show Oper.op _ = Op.fieldAddr 47 (Operand.tmp 3) 0 from rfl) (by rfl) (by kernel_rfl) (by rfl)) (by rfl) (some 12) (by rfl) (by kernel_rfl) (by kernel_rfl) (by kernel_rfl) (by kernel_rfl) ?_
    refine Rg.ev 2 (by rfl) (fun _ h => h) (Ev.load 1 (show Oper.op _ = Op.load 3 (Operand.tmp 12) from rfl) (by rfl) (by rfl) (by kernel_rfl) (by rfl)) (by rfl) (some 13) (by rfl) (by kernel_rfl) (by kernel_rfl) (by kernel_rfl) (by kernel_rfl) ?_
    refine Rg.does 3 (by rfl) (by kernel_rfl) (Does.read (show Oper.op _ = Op.call { callee := Callee.value (Operand.func 13), args := #[Operand.tmp 13], argTypes := #[3] } from rfl) Tryz.func13 (by kernel_rfl) (by kernel_rfl) (rname_sl s (by omega)) (by rfl) (by rfl) trivial) (by rfl) (some 14) (by rfl) (by exact fun _ _ h => h) ?_
    rintro _ -
    rw [nmR_name (show s ≤ 999999 by omega)]
    skip
    refine Rg.does 4 (by rfl) (by kernel_rfl) (Does.read (show Oper.op _ = Op.call { callee := Callee.value (Operand.func 39), args := #[Operand.tmp 11, Operand.tmp 14], argTypes := #[43, 9] } from rfl) Tryz.func39 (by kernel_rfl) (by kernel_rfl) (hat (nameP s)) (by rfl) (by rfl) ⟨ReadsIn.rd 3 (by rfl), trivial⟩) (by rfl) (some 15) (by rfl) (by exact fun _ _ h => h) ?_
    rintro r hr
    obtain rfl := at_miss hr hn
    refine Rg.ev 5 (by rfl) (fun _ h => h) (Ev.assign (show Oper.op _ = Op.assign (Operand.tmp 15) from rfl) (by rfl)) (by rfl) (some 6) (by rfl) (by kernel_rfl) (by kernel_rfl) (by kernel_rfl) (by kernel_rfl) ?_
    refine Rg.done (by kernel_rfl) ?_ _
    refine Cd.seq ?_
    refine Cd.seq ?_
    refine Cd.region ?_
    refine Ls.ev (some 16) (Ev.move (show Oper.op _ = Op.move (Operand.tmp 6) from rfl) (by rfl)) (by rfl) (by rfl) ?_
    refine Ls.ev (some 17) (Ev.lss (show Oper.op _ = Op.binOp BinOp.lss 3 (Operand.tmp 16) (Operand.const (Value.int IntKind.i64 0)) 3 from rfl) (by rfl) (by rfl)) (by rfl) (by rfl) ?_
    refine Ls.nil ?_
    refine Cd.cond_true (by rfl) (decide_eq_true (show (-1 : Int) < 0 by decide)) ?_
    refine Cd.seq ?_
    refine Cd.region ?_
    refine Ls.ev (some 18) (Ev.buildP (pl := [(0, 1), (1, 1), (2, 1)]) (zs := [.string ⟨#[]⟩, .string ⟨#[]⟩, .int .i64 0]) (show Oper.op _ = Op.build 88 #[] from rfl) (by rfl) (by kernel_rfl) (by rfl)) (by rfl) (by rfl) ?_
    refine Ls.does none (Does.store 0 (show Oper.op _ = Op.store 88 (Operand.tmp 4) (Operand.tmp 18) from rfl) (by rfl) (by rfl) (by rfl) (by kernel_rfl) (by rfl) (by kernel_rfl) (by rfl)) (by rfl) (by rfl) ?_
    intro _ _
    refine Ls.ev (some 5) (Ev.assign (show Oper.op _ = Op.assign (Operand.const (Value.bool false)) from rfl) (by rfl)) (by rfl) (by rfl) ?_
    refine Ls.nil ?_
    refine Cd.ret ?_
    refine Ent.ret (()) (trivial) (Res.cell_tmp 0 (by rfl) (by rfl) (by rfl) (n := 3) (by kernel_rfl) (by rfl) (by rfl) (by rfl)) ?_ [] (by rfl) ?_
    · rfl
    · rfl
theorem appL_none {P : DrP} {s : Nat} (hs : s ≤ 999999 → P.find (nameP s) = none) {p : List UInt8} (hp : p.length ≤ 4096) : appL P ⟨s, false⟩ p = putL P ⟨s, false⟩ (sealL p) := by
  have h0 : sizeL P ⟨s, false⟩ = 0 := by
    unfold sizeL
    dsimp only
    split
    · rename_i h
      unfold DrP.bytes
      rw [hs h]
      rfl
    · rfl
  unfold appL
  rw [if_neg (by omega), if_neg (by simp), if_neg (by rw [h0]; omega)]
set_option maxHeartbeats 1000000 in
theorem rappend_none (P : DrP) (hok : P.Ok) (A : Option Addr) (c s : Nat) (hs : s ≤ 999999 → P.find (nameP s) = none) (B : Option Addr) (b : Nat) (p : List UInt8) (hp : p.length ≤ 4096) : Fn Tryz.prog 18 #[.agg (P.val A c).toArray, .agg #[.int .i64 s, .bool false], .slice B p.length b] [rdF A P.fs, rdB B p] (Option Addr × Nat) (fun r => .tuple #[.agg ((appL P ⟨s, false⟩ p).1.val r.1 r.2).toArray, .agg #[.int .i64 (appL P ⟨s, false⟩ p).2.1.seg, .bool (appL P ⟨s, false⟩ p).2.1.dead], .int .i64 (appL P ⟨s, false⟩ p).2.2]) (fun r => [rdF r.1 (appL P ⟨s, false⟩ p).1.fs]) (fun _ => True) := by
  have hpl := hok.len
  have hR := appL_none hs hp
  have hsl := sealL_len p hp
  have hfl := rfile_none P hpl A c s false hs
  have hap := dappend_sl P hok A c (nameP s) (sealL p) (by rw [nameP_len]; omega) (by omega)
  have hsq := rseal_sl B b p hp
  generalize appL P ⟨s, false⟩ p = R at hR ⊢
  unfold putL at hR
  dsimp only at hR
  generalize sealL p = sl at hR hsl hap hsq
  have hVe : P.val A c = [.slice A P.fs.length c, .int .i64 P.steps, .bool P.left.isSome, .int .i64 ((P.left.getD 0 : Nat) : Int)] := rfl
  rw [hVe] at hap hfl ⊢
  refine Fn.enter Tryz.func18 rfl Tryz.ntmps18 (by rfl) ?_
  intro w0
  refine Cd.seq ?_
  refine Cd.region ?_
  refine Ls.does (some 3) (Does.box (show Oper.op _ = Op.box 43 (Operand.tmp 0) from rfl) (by rfl)) (by rfl) (by rfl) ?_
  intro g1 _
  refine Ls.does (some 4) (Does.box (show Oper.op _ = Op.box 47 (Operand.tmp 1) from rfl) (by rfl)) (by rfl) (by rfl) ?_
  intro g2 _
  refine Ls.does (some 6) (Does.alloc (cs := [.slice none 0 0, .int .i64 0, .bool false, .int .i64 0]) (show Oper.op _ = Op.alloc 43 from rfl) (ZeroIs.mk (.agg #[.slice none 0 0, .int .i64 0, .bool false, .int .i64 0]) (by kernel_rfl) (by rfl))) (by rfl) (by rfl) ?_
  intro g3 _
  refine Ls.does (some 7) (Does.alloc (cs := [.int .i64 0, .bool false]) (show Oper.op _ = Op.alloc 47 from rfl) (ZeroIs.mk (.agg #[.int .i64 0, .bool false]) (by kernel_rfl) (by rfl))) (by rfl) (by rfl) ?_
  intro g4 _
  refine Ls.ev (some 8) (Ev.assign (show Oper.op _ = Op.assign (Operand.const (Value.int IntKind.i64 0)) from rfl) (by rfl)) (by rfl) (by rfl) ?_
  refine Ls.nil ?_
  refine Cd.seq ?_
  refine Cd.seq ?_
  refine Cd.region ?_
  refine Ls.ev (some 13) (Ev.move (show Oper.op _ = Op.move (Operand.tmp 2) from rfl) (by rfl)) (by rfl) (by rfl) ?_
  refine Ls.ev (some 14) (Ev.len (show Oper.op _ = Op.call { callee := Callee.builtin Builtin.len, args := #[Operand.tmp 13], argTypes := #[30] } from rfl) (by rfl) Tryz.underlying30) (by rfl) (by rfl) ?_
  refine Ls.ev (some 15) (Ev.gtr (show Oper.op _ = Op.binOp BinOp.gtr 3 (Operand.tmp 14) (Operand.const (Value.int IntKind.i64 4096)) 3 from rfl) (by rfl) (by rfl)) (by rfl) (by rfl) ?_
  refine Ls.nil ?_
  refine Cd.cond_false (by rfl) (decide_eq_false (show ¬ ((4096 : Int) < (p.length : Int)) by omega)) ?_
  refine Cd.skip ?_
  refine Cd.seq ?_
  refine Cd.seq ?_
  refine Cd.region ?_
  refine Ls.ev (some 18) (Ev.fieldAddr (k := 1) (show Oper.op _ = Op.fieldAddr 47 (Operand.tmp 4) 1 from rfl) (by rfl) (by kernel_rfl) (by rfl)) (by rfl) (by rfl) ?_
  refine Ls.ev (some 19) (Ev.load 2 (show Oper.op _ = Op.load 4 (Operand.tmp 18) from rfl) (by rfl) (by rfl) (by kernel_rfl) (by rfl)) (by rfl) (by rfl) ?_
  refine Ls.nil ?_
  refine Cd.cond_false (by rfl) (rfl) ?_
  refine Cd.skip ?_
  refine Cd.seq ?_
  refine Cd.region ?_
  refine Ls.ev (some 22) (Ev.move (show Oper.op _ = Op.move (Operand.tmp 2) from rfl) (by rfl)) (by rfl) (by rfl) ?_
  refine Ls.does (some 23) (Does.readN (show Oper.op _ = Op.call { callee := Callee.value (Operand.func 49), args := #[Operand.tmp 22], argTypes := #[30] } from rfl) Tryz.func49 (by kernel_rfl) (by kernel_rfl) (hsq) (by rfl) (by rfl) ⟨ReadsIn.rd 5 (by rfl), trivial⟩ (fun _ => by rfl)) (by rfl) (by rfl) ?_
  rintro ⟨sA, sc⟩ -
  refine Ls.ev (some 9) (Ev.assign (show Oper.op _ = Op.assign (Operand.tmp 23) from rfl) (by rfl)) (by rfl) (by rfl) ?_
  refine Ls.nil ?_
  refine Cd.seq ?_
  refine Cd.region ?_
  refine Ls.ev (some 25) (Ev.loads 4 (show Oper.op _ = Op.load 43 (Operand.tmp 3) from rfl) (by rfl) (by rfl) (n := 4) (by kernel_rfl) (by rfl) (by rfl)) (by rfl) (by rfl) ?_
  refine Ls.ev (some 26) (Ev.loads 3 (show Oper.op _ = Op.load 47 (Operand.tmp 4) from rfl) (by rfl) (by rfl) (n := 2) (by kernel_rfl) (by rfl) (by rfl)) (by rfl) (by rfl) ?_
  refine Ls.does (some 27) (Does.read (show Oper.op _ = Op.call { callee := Callee.value (Operand.func 50), args := #[Operand.tmp 25, Operand.tmp 26], argTypes := #[43, 47] } from rfl) Tryz.func50 (by kernel_rfl) (by kernel_rfl) (hfl) (by rfl) (by rfl) ⟨ReadsIn.rd 5 (by rfl), trivial⟩) (by rfl) (by rfl) ?_
  rintro _ -
  refine Ls.ev (some 24) (Ev.move (show Oper.op _ = Op.move (Operand.tmp 27) from rfl) (by rfl)) (by rfl) (by rfl) ?_
  refine Ls.ev (some 28) (Ev.extract (show Oper.op _ = Op.extract (Operand.tmp 24) 0 from rfl) (by rfl) (by rfl)) (by rfl) (by rfl) ?_
  refine Ls.ev (some 29) (Ev.extract (show Oper.op _ = Op.extract (Operand.tmp 24) 1 from rfl) (by rfl) (by rfl)) (by rfl) (by rfl) ?_
  refine Ls.does (some 10) (Does.alloc (cs := [.string ⟨#[]⟩, .string ⟨#[]⟩, .int .i64 0]) (show Oper.op _ = Op.alloc 88 from rfl) (ZeroIs.mk (.agg #[.string ⟨#[]⟩, .string ⟨#[]⟩, .int .i64 0]) (by kernel_rfl) (by rfl))) (by rfl) (by rfl) ?_
  intro g5 _
  refine Ls.does none (Does.store 0 (show Oper.op _ = Op.store 88 (Operand.tmp 10) (Operand.tmp 28) from rfl) (by rfl) (by rfl) (by rfl) (by kernel_rfl) (by rfl) (by kernel_rfl) (by rfl)) (by rfl) (by rfl) ?_
  intro _ _
  refine Ls.ev (some 11) (Ev.assign (show Oper.op _ = Op.assign (Operand.tmp 29) from rfl) (by rfl)) (by rfl) (by rfl) ?_
  refine Ls.nil ?_
  refine Cd.seq ?_
  refine Cd.region ?_
  refine Ls.ev (some 12) (Ev.assign (show Oper.op _ = Op.assign (Operand.const (Value.int IntKind.i64 0)) from rfl) (by rfl)) (by rfl) (by rfl) ?_
  refine Ls.nil ?_
  refine Cd.seq ?_
  refine Cd.seq ?_
  refine Cd.region ?_
  refine Ls.ev (some 30) (Ev.fieldAddr (k := 1) (show Oper.op _ = Op.fieldAddr 88 (Operand.tmp 10) 1 from rfl) (by rfl) (by kernel_rfl) (by rfl)) (by rfl) (by rfl) ?_
  refine Ls.ev (some 31) (Ev.load 0 (show Oper.op _ = Op.load 9 (Operand.tmp 30) from rfl) (by rfl) (by rfl) (by kernel_rfl) (by rfl)) (by rfl) (by rfl) ?_
  refine Ls.ev (some 32) (Ev.lenS (show Oper.op _ = Op.call { callee := Callee.builtin Builtin.len, args := #[Operand.tmp 31], argTypes := #[9] } from rfl) (by rfl) Tryz.underlying9) (by rfl) (by rfl) ?_
  refine Ls.ev (some 33) (Ev.gtr (show Oper.op _ = Op.binOp BinOp.gtr 3 (Operand.tmp 32) (Operand.const (Value.int IntKind.i64 0)) 3 from rfl) (by rfl) (by rfl)) (by rfl) (by rfl) ?_
  refine Ls.ev (some 34) (Ev.move (show Oper.op _ = Op.move (Operand.tmp 33) from rfl) (by rfl)) (by rfl) (by rfl) ?_
  refine Ent.known 34 false (by rfl) (by exact (rfl)) ?_
  refine Ls.pass (some 35) (by rfl) (by rfl) ?_
  refine Ls.pass (some 36) (by rfl) (by rfl) ?_
  refine Ls.pass (some 37) (by rfl) (by rfl) ?_
  refine Ls.pass (some 38) (by rfl) (by rfl) ?_
  refine Ls.pass (some 39) (by rfl) (by rfl) ?_
  refine Ls.pass (some 40) (by rfl) (by rfl) ?_
  refine Ls.pass (some 41) (by rfl) (by rfl) ?_
  refine Ls.ev (some 42) (Ev.pickF (show Oper.op _ = Op.pick (Operand.tmp 34) (Operand.tmp 41) (Operand.const (Value.bool false)) from rfl) (by rfl) (by rfl)) (by rfl) (by rfl) ?_
  refine Ls.nil ?_
  skip
  refine Cd.cond_false (by rfl) (rfl) ?_
  refine Cd.skip ?_
  refine Cd.seq ?_
  refine Cd.seq ?_
  refine Cd.region ?_
  refine Ls.ev (some 56) (Ev.fieldAddr (k := 0) (show Oper.op _ = Op.fieldAddr 47 (Operand.tmp 4) 0 from rfl) (by rfl) (by kernel_rfl) (by rfl)) (by rfl) (by rfl) ?_
  refine Ls.ev (some 57) (Ev.load 4 (show Oper.op _ = Op.load 3 (Operand.tmp 56) from rfl) (by rfl) (by rfl) (by kernel_rfl) (by rfl)) (by rfl) (by rfl) ?_
  refine Ls.ev (some 58) (Ev.gtr (show Oper.op _ = Op.binOp BinOp.gtr 3 (Operand.tmp 57) (Operand.const (Value.int IntKind.i64 999999)) 3 from rfl) (by rfl) (by rfl)) (by rfl) (by rfl) ?_
  refine Ls.nil ?_
  by_cases hb : 999999 < s
  · skip
    rw [if_pos hb] at hR
    subst hR
    refine Cd.cond_true (by rfl) (decide_eq_true (show (999999 : Int) < (s : Int) by omega)) ?_
    skip
    refine Cd.seq ?_
    refine Cd.drawS [4, 5] [3] (by kernel_rfl) ?_
    refine Rg.ev 0 (by rfl) (fun _ h => h.pick [4, 5] rfl) (Ev.loads 1 (show Oper.op _ = Op.load 43 (Operand.tmp 3) from rfl) (by rfl) (by rfl) (n := 4) (by kernel_rfl) (by rfl) (by rfl)) (by rfl) (some 59) (by rfl) (by kernel_rfl) (by kernel_rfl) (by kernel_rfl) (by kernel_rfl) ?_
    refine Rg.ev 1 (by rfl) (fun _ h => h.pick [4, 5] rfl) (Ev.loads 0 (show Oper.op _ = Op.load 47 (Operand.tmp 4) from rfl) (by rfl) (by rfl) (n := 2) (by kernel_rfl) (by rfl) (by rfl)) (by rfl) (some 60) (by rfl) (by kernel_rfl) (by kernel_rfl) (by kernel_rfl) (by kernel_rfl) ?_
    refine Rg.keep 2 (by rfl) (by kernel_rfl) (Does.store 3 (show Oper.op _ = Op.store 43 (Operand.tmp 6) (Operand.tmp 59) from rfl) (by rfl) (by rfl) (by rfl) (by kernel_rfl) (by rfl) (by kernel_rfl) (by rfl)) (by rfl) none (by rfl) (fun _ _ h => by have h2 := h.pick [4, 5] (by rfl); exact h2) ?_
    intro _ _
    refine Rg.tail 3 [] (by rfl) (by kernel_rfl) (Does.store 2 (show Oper.op _ = Op.store 47 (Operand.tmp 7) (Operand.tmp 60) from rfl) (by rfl) (by rfl) (by rfl) (by kernel_rfl) (by rfl) (by kernel_rfl) (by rfl)) (by rfl) none (by rfl) (by kernel_rfl) (by kernel_rfl) ?_
    intro _ _
    refine Rg.ev 4 (by rfl) (fun _ h => h) (Ev.assign (show Oper.op _ = Op.assign (Operand.const (Value.int IntKind.i64 5)) from rfl) (by rfl)) (by rfl) (some 8) (by rfl) (by kernel_rfl) (by kernel_rfl) (by kernel_rfl) (by kernel_rfl) ?_
    refine Rg.done (by kernel_rfl) ?_ _
    refine Cd.ret ?_
    refine Ent.ret ((A, c)) (trivial) (Res.cell2_tmp 3 2 (by rfl) (by rfl) (by rfl) (by rfl) (by rfl) (n := 4) (n' := 2) (by kernel_rfl) (by kernel_rfl) (by rfl) (by rfl) (by rfl) (by rfl) (by rfl)) ?_ [6] (by rfl) ?_
    · rfl
    · rfl
  · skip
    rw [if_neg hb] at hR
    rw [Bool.false_or] at hR
    generalize P.append (nameP s) sl = Q at hR hap
    subst hR
    refine Cd.cond_false (by rfl) (decide_eq_false (show ¬ ((999999 : Int) < (s : Int)) by omega)) ?_
    refine Cd.skip ?_
    refine Cd.seq ?_
    refine Cd.draw [10] (by kernel_rfl) ?_
    refine Rg.ev 0 (by rfl) (fun _ h => h) (Ev.loads 5 (show Oper.op _ = Op.load 43 (Operand.tmp 3) from rfl) (by rfl) (by rfl) (n := 4) (by kernel_rfl) (by rfl) (by rfl)) (by rfl) (some 62) (by rfl) (by kernel_rfl) (by kernel_rfl) (by kernel_rfl) (by kernel_rfl) ?_
    refine Rg.ev 1 (by rfl) (fun _ h => h) (Ev.fieldAddr (k := 0) (show Oper.op _ = Op.fieldAddr 47 (Operand.tmp 4) 0 from rfl) (by rfl) (by kernel_rfl) (by rfl)) (by rfl) (some 63) (by rfl) (by kernel_rfl) (by kernel_rfl) (by kernel_rfl) (by kernel_rfl) ?_
    refine Rg.ev 2 (by rfl) (fun _ h => h) (Ev.load 4 (show Oper.op _ = Op.load 3 (Operand.tmp 63) from rfl) (by rfl) (by rfl) (by kernel_rfl) (by rfl)) (by rfl) (some 64) (by rfl) (by kernel_rfl) (by kernel_rfl) (by kernel_rfl) (by kernel_rfl) ?_
    refine Rg.ev 4 (by rfl) (fun _ h => h) (Ev.move (show Oper.op _ = Op.move (Operand.tmp 9) from rfl) (by rfl)) (by rfl) (some 66) (by rfl) (by kernel_rfl) (by kernel_rfl) (by kernel_rfl) (by kernel_rfl) ?_
    refine Rg.ev 5 (by rfl) (fun _ h => h) (Ev.textOf (show Oper.op _ = Op.convert 30 9 (Operand.tmp 66) from rfl) (by rfl) (ReadsIn.row 1 (by rfl)) Tryz.underlying30 Tryz.underlying5 Tryz.underlying9) (by rfl) (some 67) (by rfl) (by kernel_rfl) (by kernel_rfl) (by kernel_rfl) (by kernel_rfl) ?_
    refine Rg.does 3 (by rfl) (by kernel_rfl) (Does.read (show Oper.op _ = Op.call { callee := Callee.value (Operand.func 13), args := #[Operand.tmp 64], argTypes := #[3] } from rfl) Tryz.func13 (by kernel_rfl) (by kernel_rfl) (rname_sl s (by omega)) (by rfl) (by rfl) trivial) (by rfl) (some 65) (by rfl) (by exact fun _ _ h => h) ?_
    rintro _ -
    rw [nmR_name (show s ≤ 999999 by omega)]
    skip
    refine Rg.does 6 (by rfl) (by kernel_rfl) (Does.call [6, 0, 1, 2, 3, 4, 5, 6, 7] (show Oper.op _ = Op.call { callee := Callee.value (Operand.func 52), args := #[Operand.tmp 62, Operand.tmp 65, Operand.tmp 67], argTypes := #[43, 9, 9] } from rfl) Tryz.func52 (by kernel_rfl) (by kernel_rfl) (hap) (by rfl) (by rfl) (by rfl)) (by rfl) (some 68) (by rfl) (fun _ _ h => h.tail_) ?_
    rintro ⟨wA, wc⟩ -
    dsimp only
    refine Rg.ev 7 (by rfl) (fun _ h => h) (Ev.move (show Oper.op _ = Op.move (Operand.tmp 68) from rfl) (by rfl)) (by rfl) (some 61) (by rfl) (by kernel_rfl) (by kernel_rfl) (by kernel_rfl) (by kernel_rfl) ?_
    refine Rg.ev 8 (by rfl) (fun _ h => h) (Ev.extract (show Oper.op _ = Op.extract (Operand.tmp 61) 0 from rfl) (by rfl) (by rfl)) (by rfl) (some 69) (by rfl) (by kernel_rfl) (by kernel_rfl) (by kernel_rfl) (by kernel_rfl) ?_
    refine Rg.pv 9 (by rfl) (fun _ h => h) (fun _ => Ev.extract (show Oper.op _ = Op.extract (Operand.tmp 61) 1 from rfl) (by rfl) (by rfl)) (by rfl) (some 70) (by rfl) (by kernel_rfl) (by kernel_rfl) (by kernel_rfl) (by kernel_rfl) ?_
    refine Rg.tail 10 [] (by rfl) (by kernel_rfl) (Does.store 6 (show Oper.op _ = Op.store 43 (Operand.tmp 3) (Operand.tmp 69) from rfl) (by rfl) (by rfl) (by rfl) (by kernel_rfl) (by rfl) (by kernel_rfl) (by rfl)) (by rfl) none (by rfl) (by kernel_rfl) (by kernel_rfl) ?_
    intro _ _
    refine Rg.ev 11 (by rfl) (fun _ h => h) (Ev.assign (show Oper.op _ = Op.assign (Operand.tmp 70) from rfl) (by rfl)) (by rfl) (some 12) (by rfl) (by kernel_rfl) (by kernel_rfl) (by kernel_rfl) (by kernel_rfl) ?_
    refine Rg.done (by kernel_rfl) ?_ _
    refine Cd.seq ?_
    refine Cd.region ?_
    refine Ls.ev (some 71) (Ev.move (show Oper.op _ = Op.move (Operand.tmp 12) from rfl) (by rfl)) (by rfl) (by rfl) ?_
    refine Ls.ev (some 72) (Ev.eql (show Oper.op _ = Op.binOp BinOp.eql 3 (Operand.tmp 71) (Operand.const (Value.int IntKind.i64 6)) 3 from rfl) (by rfl) (by rfl)) (by rfl) (by rfl) ?_
    refine Ls.ev (some 73) (Ev.fieldAddr (k := 1) (show Oper.op _ = Op.fieldAddr 47 (Operand.tmp 4) 1 from rfl) (by rfl) (by kernel_rfl) (by rfl)) (by rfl) (by rfl) ?_
    refine Ls.does none (Does.store 5 (show Oper.op _ = Op.store 4 (Operand.tmp 73) (Operand.tmp 72) from rfl) (by rfl) (by rfl) (by rfl) (by kernel_rfl) (by rfl) (by kernel_rfl) (by rfl)) (by rfl) (by rfl) ?_
    intro _ _
    refine Ls.nil ?_
    refine Cd.seq ?_
    skip
    refine Cd.drawS [5, 6] [4] (by kernel_rfl) ?_
    refine Rg.ev 0 (by rfl) (fun _ h => h.pick [5, 6] rfl) (Ev.loads 1 (show Oper.op _ = Op.load 43 (Operand.tmp 3) from rfl) (by rfl) (by rfl) (n := 4) (by kernel_rfl) (by rfl) (by rfl)) (by rfl) (some 74) (by rfl) (by kernel_rfl) (by kernel_rfl) (by kernel_rfl) (by kernel_rfl) ?_
    refine Rg.ev 1 (by rfl) (fun _ h => h.pick [5, 6] rfl) (Ev.loads 0 (show Oper.op _ = Op.load 47 (Operand.tmp 4) from rfl) (by rfl) (by rfl) (n := 2) (by kernel_rfl) (by rfl) (by rfl)) (by rfl) (some 75) (by rfl) (by kernel_rfl) (by kernel_rfl) (by kernel_rfl) (by kernel_rfl) ?_
    refine Rg.mv 2 (by rfl) (fun _ h => h.pick [5, 6] rfl) (show Oper.op _ = Op.move (Operand.tmp 12) from rfl) (by rfl) (by rfl) (some 76) (by rfl) (by kernel_rfl) (by kernel_rfl) (by kernel_rfl) (by kernel_rfl) ?_
    refine Rg.keep 3 (by rfl) (by kernel_rfl) (Does.store 4 (show Oper.op _ = Op.store 43 (Operand.tmp 6) (Operand.tmp 74) from rfl) (by rfl) (by rfl) (by rfl) (by kernel_rfl) (by rfl) (by kernel_rfl) (by rfl)) (by rfl) none (by rfl) (fun _ _ h => by have h2 := h.pick [5, 6] (by rfl); exact h2) ?_
    intro _ _
    refine Rg.tail 4 [] (by rfl) (by kernel_rfl) (Does.store 3 (show Oper.op _ = Op.store 47 (Operand.tmp 7) (Operand.tmp 75) from rfl) (by rfl) (by rfl) (by rfl) (by kernel_rfl) (by rfl) (by kernel_rfl) (by rfl)) (by rfl) none (by rfl) (by kernel_rfl) (by kernel_rfl) ?_
    intro _ _
    refine Rg.ev 5 (by rfl) (fun _ h => h) (Ev.assign (show Oper.op _ = Op.assign (Operand.tmp 76) from rfl) (by rfl)) (by rfl) (some 8) (by rfl) (by kernel_rfl) (by kernel_rfl) (by kernel_rfl) (by kernel_rfl) ?_
    refine Rg.done (by kernel_rfl) ?_ _
    refine Cd.ret ?_
    refine Ent.ret ((wA, wc)) (trivial) (Res.cell2_tmp 4 3 (by rfl) (by rfl) (by rfl) (by rfl) (by rfl) (n := 4) (n' := 2) (by kernel_rfl) (by kernel_rfl) (by rfl) (by rfl) (by rfl) (by rfl) (by rfl)) ?_ [0] (by rfl) ?_
    · rfl
    · rfl
end Go.Proofs.YtceanciekadkeaaGreatDoor
/- drives: a loss of power -/
namespace Go.Proofs.YtceanciekadkeaaGreatDoor
open Go.RowKit
end Go.Proofs.YtceanciekadkeaaGreatDoor
/- drives loaded, and the document's -/
namespace Go.Proofs.YtceanciekadkeaaGreatDoor
open Go.RowKit
/-- The drive that has these files. -/
def loadP (ns bs : List (List UInt8)) : DrP := (ns.zip bs).foldl (fun P x => P.put ⟨x.1, x.2, x.2.length⟩) DrP.new
structure LoadOk (ns bs : List (List UInt8)) : Prop where
  len : bs.length = ns.length
  nodup : ns.Nodup
  good : ∀ q ∈ ns, Good q
  most : ns.length ≤ 256
  size : ∀ b ∈ bs, b.length ≤ 262144
theorem put_mem_nm {α : Type} {nm : α → List UInt8} {f x : α} {l : List α} (h : x ∈ putG nm f l) : nm x = nm f ∨ x ∈ l := (putG_mem h).imp (fun e => by rw [e]) id
theorem loadP_snoc {ns bs : List (List UInt8)} {k : Nat} {q b : List UInt8} (hq : ns[k]? = some q) (hb : bs[k]? = some b) : loadP (ns.take (k + 1)) (bs.take (k + 1)) = (loadP (ns.take k) (bs.take k)).put ⟨q, b, b.length⟩ := by
  unfold loadP
  rw [List.take_add_one, List.take_add_one, hq, hb]
  show ((_ ++ [q]).zip (_ ++ [b])).foldl _ _ = _
  have h1 := (List.getElem?_eq_some_iff.1 hq).1
  have h2 := (List.getElem?_eq_some_iff.1 hb).1
  rw [List.zip_append (by rw [List.length_take, List.length_take]; omega), List.foldl_append]
  rfl
theorem loadP_inv {ns bs : List (List UInt8)} (h : LoadOk ns bs) : ∀ k, k ≤ ns.length → (loadP (ns.take k) (bs.take k)).Ok ∧ (loadP (ns.take k) (bs.take k)).fs.length ≤ k ∧ (loadP (ns.take k) (bs.take k)).steps = 0 ∧ (loadP (ns.take k) (bs.take k)).left = none ∧ ∀ f ∈ (loadP (ns.take k) (bs.take k)).fs, f.nm ∈ ns.take k
  | 0, _ => ⟨DrP.new_ok, Nat.le_refl _, rfl, rfl, fun _ h => by simp [loadP, DrP.new] at h⟩
  | k + 1, hk => by
    obtain ⟨h1, h2, h3, h4, h5⟩ := loadP_inv h k (by omega)
    obtain ⟨q, hq⟩ := get_of_lt (show k < ns.length by omega)
    obtain ⟨b, hb⟩ := get_of_lt (show k < bs.length by have := h.len; omega)
    rw [loadP_snoc hq hb]
    have hm := h.most
    refine ⟨h1.put (h.good q (List.mem_of_getElem? hq)) (h.size b (List.mem_of_getElem? hb)) (Nat.le_refl _) (.inr (by omega)), ?_, h3, h4, fun f hf => ?_⟩
    · have := putG_len (nm := FiP.nm) (f := ⟨q, b, b.length⟩) (l := (loadP (ns.take k) (bs.take k)).fs)
      show (putG _ _ _).length ≤ _
      omega
    · rw [List.take_add_one, hq]
      rcases put_mem_nm (nm := FiP.nm) hf with e | hf
      · rw [e]
        simp
      · exact List.mem_append_left _ (h5 f hf)
theorem loadP_new {ns bs : List (List UInt8)} (h : LoadOk ns bs) {k : Nat} {q : List UInt8} (hq : ns[k]? = some q) : (loadP (ns.take k) (bs.take k)).find q = none := findG_none_of fun f hf e => by
  have hk := (List.getElem?_eq_some_iff.1 hq).1
  have h5 := (loadP_inv h k (by omega)).2.2.2.2 f hf
  have hn := h.nodup
  rw [← List.take_append_drop k ns, List.nodup_append] at hn
  refine hn.2.2 q (e ▸ h5) q ?_ rfl
  rw [List.drop_eq_getElem_cons hk]
  rw [List.getElem?_eq_getElem hk] at hq
  rw [← Option.some.inj hq]
  exact List.mem_cons_self
set_option maxHeartbeats 1000000 in
theorem dload_sl (nA bA : Option Addr) (nc bc : Nat) (ns : List (List UInt8)) (S : List ByS) (h : LoadOk ns (S.map ByS.l)) : Fn Tryz.prog 15 #[.slice nA ns.length nc, .slice bA S.length bc] [rd nA ns.length 1 (txts ns), rdV bA S, payR S] (Option Addr × Nat) (fun p => .tuple #[.agg ((loadP ns (S.map ByS.l)).val p.1 p.2).toArray, .int .i64 0]) (fun p => [rdF p.1 (loadP ns (S.map ByS.l)).fs]) (fun _ => True) := by
  have hlen := h.len
  rw [List.length_map] at hlen
  have hm := h.most
  refine Fn.enter Tryz.func15 rfl Tryz.ntmps15 (by rfl) ?_
  intro w0
  refine Cd.seq ?_
  refine Cd.region ?_
  refine Ls.does (some 4) (Does.alloc (cs := [.slice none 0 0, .int .i64 0, .bool false, .int .i64 0]) (show Oper.op _ = Op.alloc 43 from rfl) (ZeroIs.mk (.agg #[.slice none 0 0, .int .i64 0, .bool false, .int .i64 0]) (by kernel_rfl) (by rfl))) (by rfl) (by rfl) ?_
  intro g1 _
  refine Ls.ev (some 5) (Ev.assign (show Oper.op _ = Op.assign (Operand.const (Value.int IntKind.i64 0)) from rfl) (by rfl)) (by rfl) (by rfl) ?_
  refine Ls.nil ?_
  refine Cd.seq ?_
  refine Cd.seq ?_
  refine Cd.region ?_
  refine Ls.ev (some 9) (Ev.move (show Oper.op _ = Op.move (Operand.tmp 0) from rfl) (by rfl)) (by rfl) (by rfl) ?_
  refine Ls.ev (some 10) (Ev.len (show Oper.op _ = Op.call { callee := Callee.builtin Builtin.len, args := #[Operand.tmp 9], argTypes := #[36] } from rfl) (by rfl) Tryz.underlying36) (by rfl) (by rfl) ?_
  refine Ls.ev (some 11) (Ev.move (show Oper.op _ = Op.move (Operand.tmp 1) from rfl) (by rfl)) (by rfl) (by rfl) ?_
  refine Ls.ev (some 12) (Ev.len (show Oper.op _ = Op.call { callee := Callee.builtin Builtin.len, args := #[Operand.tmp 11], argTypes := #[22] } from rfl) (by rfl) Tryz.underlying22) (by rfl) (by rfl) ?_
  refine Ls.ev (some 13) (Ev.neq (show Oper.op _ = Op.binOp BinOp.neq 3 (Operand.tmp 10) (Operand.tmp 12) 3 from rfl) (by rfl) (by rfl)) (by rfl) (by rfl) ?_
  refine Ls.nil ?_
  refine Cd.cond_false (by rfl) (decide_eq_false (show ¬ ((ns.length : Int) ≠ (S.length : Int)) by omega)) ?_
  refine Cd.skip ?_
  refine Cd.seq ?_
  refine Cd.region ?_
  refine Ls.ev (some 15) (Ev.buildP (pl := [(0, 1), (1, 1), (2, 1), (3, 1)]) (zs := [.slice none 0 0, .int .i64 0, .bool false, .int .i64 0]) (show Oper.op _ = Op.build 43 #[] from rfl) (by rfl) (by kernel_rfl) (by rfl)) (by rfl) (by rfl) ?_
  refine Ls.does (some 6) (Does.alloc (cs := [.slice none 0 0, .int .i64 0, .bool false, .int .i64 0]) (show Oper.op _ = Op.alloc 43 from rfl) (ZeroIs.mk (.agg #[.slice none 0 0, .int .i64 0, .bool false, .int .i64 0]) (by kernel_rfl) (by rfl))) (by rfl) (by rfl) ?_
  intro g2 _
  refine Ls.does none (Does.store 0 (show Oper.op _ = Op.store 43 (Operand.tmp 6) (Operand.tmp 15) from rfl) (by rfl) (by rfl) (by rfl) (by kernel_rfl) (by rfl) (by kernel_rfl) (by rfl)) (by rfl) (by rfl) ?_
  intro _ _
  refine Ls.nil ?_
  refine Cd.seq ?_
  refine Cd.region ?_
  refine Ls.ev (some 7) (Ev.assign (show Oper.op _ = Op.assign (Operand.const (Value.int IntKind.i64 0)) from rfl) (by rfl)) (by rfl) (by rfl) ?_
  refine Ls.nil ?_
  refine Cd.seq ?_
  refine Cd.seq ?_
  refine Cd.region ?_
  refine Ls.ev (some 8) (Ev.assign (show Oper.op _ = Op.assign (Operand.const (Value.int IntKind.i64 0)) from rfl) (by rfl)) (by rfl) (by rfl) ?_
  refine Ls.nil ?_
  refine Cd.block ?_
  refine Ent.nil 88 3 ?_
  refine Ent.see 0 (by rfl) ?_
  skip
  refine Cd.loop (ι := Nat × (Option Addr × Nat)) (fun p => [(0, .slice nA ns.length nc), (1, .slice bA S.length bc), (4, .pointer (some ⟨g1, 0, none⟩)), (6, .pointer (some ⟨g2, 0, none⟩)), (7, .int .i64 0), (8, .int .i64 p.1)]) (fun p => [rdF p.2.1 (loadP (ns.take p.1) ((S.map ByS.l).take p.1)).fs, blk g2 43 ((loadP (ns.take p.1) ((S.map ByS.l).take p.1)).val p.2.1 p.2.2), blk g1 43 [.slice none 0 0, .int .i64 0, .bool false, .int .i64 0], rd nA ns.length 1 (txts ns), rdV bA S, payR S]) (fun p => p.1 ≤ ns.length) (fun p => ns.length - p.1) ((0, (none, 0))) (Nat.zero_le _) ?_ rfl ?_
  · (repeat (first | exact trivial | refine ⟨by rfl, ?_⟩))
  rintro ⟨k, A, c⟩ hk
  dsimp only at hk ⊢
  obtain ⟨hok, hfl, hst, hle, -⟩ := loadP_inv h k hk
  refine Cd.seq ?_
  refine Cd.seq ?_
  refine Cd.region ?_
  refine Ls.ev (some 16) (Ev.move (show Oper.op _ = Op.move (Operand.tmp 8) from rfl) (by rfl)) (by rfl) (by rfl) ?_
  refine Ls.ev (some 17) (Ev.move (show Oper.op _ = Op.move (Operand.tmp 0) from rfl) (by rfl)) (by rfl) (by rfl) ?_
  refine Ls.ev (some 18) (Ev.len (show Oper.op _ = Op.call { callee := Callee.builtin Builtin.len, args := #[Operand.tmp 17], argTypes := #[36] } from rfl) (by rfl) Tryz.underlying36) (by rfl) (by rfl) ?_
  refine Ls.ev (some 19) (Ev.lss (show Oper.op _ = Op.binOp BinOp.lss 3 (Operand.tmp 16) (Operand.tmp 18) 3 from rfl) (by rfl) (by rfl)) (by rfl) (by rfl) ?_
  refine Ls.nil ?_
  refine Cd.cond _ (by rfl) (fun h2 => ?_) (fun h2 => ?_)
  · skip
    have hlt : k < ns.length := by have := of_decide_eq_true h2; omega
    obtain ⟨q, hq⟩ := get_of_lt hlt
    obtain ⟨s, hs⟩ := get_of_lt (show k < S.length by omega)
    have hqt : (ns.map txt)[k]? = some (txt q) := by rw [List.getElem?_map, hq]; rfl
    have hsl : (S.map ByS.l)[k]? = some s.l := by rw [List.getElem?_map, hs]; rfl
    have hgq := h.good q (List.mem_of_getElem? hq)
    have hsz := h.size s.l (List.mem_of_getElem? hsl)
    have hnew := loadP_new h hq
    have hsn := loadP_snoc hq hsl
    generalize loadP (ns.take k) ((S.map ByS.l).take k) = Q at hok hfl hst hle hnew hsn ⊢
    refine Ent.rdSome 3 (by rfl) (by omega) (fun nd hnd => ?_)
    subst hnd
    refine Ent.rdSome 4 (by rfl) (by omega) (fun bd hbd => ?_)
    subst hbd
    refine Cd.skip ?_
    refine Cd.seq ?_
    refine Cd.block ?_
    refine Cd.seq ?_
    refine Cd.seq ?_
    refine Cd.region ?_
    refine Ls.ev (some 22) (Ev.move (show Oper.op _ = Op.move (Operand.tmp 0) from rfl) (by rfl)) (by rfl) (by rfl) ?_
    refine Ls.ev (some 23) (Ev.move (show Oper.op _ = Op.move (Operand.tmp 8) from rfl) (by rfl)) (by rfl) (by rfl) ?_
    refine Ls.ev (some 24) (Ev.indexAt (sz := 1) (show Oper.op _ = Op.indexAddr 36 (Operand.tmp 22) (Operand.tmp 23) from rfl) (by rfl) (by rfl) Tryz.underlying36 (by kernel_rfl) (by omega)) (by rfl) (by rfl) ?_
    refine Ls.ev (some 25) (Ev.loadStr (show Oper.op _ = Op.load 9 (Operand.tmp 24) from rfl) (by rfl) (ReadsIn.rd 3 (by rfl)) (by kernel_rfl) (by assumption)) (by rfl) (by rfl) ?_
    refine Ls.does (some 26) (Does.read (show Oper.op _ = Op.call { callee := Callee.value (Operand.func 38), args := #[Operand.tmp 25], argTypes := #[9] } from rfl) Tryz.func38 (by kernel_rfl) (by kernel_rfl) (dname_sl q (by have := hgq.len; omega)) (by rfl) (by rfl) trivial) (by rfl) (by rfl) ?_
    rintro _ -
    rw [decide_eq_true hgq]
    refine Ls.ev (some 27) (Ev.not (show Oper.op _ = Op.unOp UnOp.not 4 (Operand.tmp 26) from rfl) (by rfl)) (by rfl) (by rfl) ?_
    refine Ls.nil ?_
    refine Cd.cond_false (by rfl) (rfl) ?_
    refine Cd.skip ?_
    refine Cd.seq ?_
    refine Cd.seq ?_
    refine Cd.draw [] (by kernel_rfl) ?_
    refine Rg.ev 0 (by rfl) (fun _ h => h) (Ev.loads 1 (show Oper.op _ = Op.load 43 (Operand.tmp 6) from rfl) (by rfl) (by rfl) (n := 4) (by kernel_rfl) (by rfl) (by rfl)) (by rfl) (some 29) (by rfl) (by kernel_rfl) (by kernel_rfl) (by kernel_rfl) (by kernel_rfl) ?_
    refine Rg.ev 1 (by rfl) (fun _ h => h) (Ev.move (show Oper.op _ = Op.move (Operand.tmp 0) from rfl) (by rfl)) (by rfl) (some 30) (by rfl) (by kernel_rfl) (by kernel_rfl) (by kernel_rfl) (by kernel_rfl) ?_
    refine Rg.ev 2 (by rfl) (fun _ h => h) (Ev.move (show Oper.op _ = Op.move (Operand.tmp 8) from rfl) (by rfl)) (by rfl) (some 31) (by rfl) (by kernel_rfl) (by kernel_rfl) (by kernel_rfl) (by kernel_rfl) ?_
    refine Rg.ev 3 (by rfl) (fun _ h => h) (Ev.indexAt (sz := 1) (show Oper.op _ = Op.indexAddr 36 (Operand.tmp 30) (Operand.tmp 31) from rfl) (by rfl) (by rfl) Tryz.underlying36 (by kernel_rfl) (by omega)) (by rfl) (some 32) (by rfl) (by kernel_rfl) (by kernel_rfl) (by kernel_rfl) (by kernel_rfl) ?_
    refine Rg.ev 4 (by rfl) (fun _ h => h) (Ev.loadStr (show Oper.op _ = Op.load 9 (Operand.tmp 32) from rfl) (by rfl) (ReadsIn.rd 3 (by rfl)) (by kernel_rfl) (by assumption)) (by rfl) (some 33) (by rfl) (by kernel_rfl) (by kernel_rfl) (by kernel_rfl) (by kernel_rfl) ?_
    refine Rg.does 5 (by rfl) (by kernel_rfl) (Does.read (show Oper.op _ = Op.call { callee := Callee.value (Operand.func 39), args := #[Operand.tmp 29, Operand.tmp 33], argTypes := #[43, 9] } from rfl) Tryz.func39 (by kernel_rfl) (by kernel_rfl) (dat_sl Q A c q (by omega)) (by rfl) (by rfl) ⟨ReadsIn.rd 0 (by rfl), trivial⟩) (by rfl) (some 34) (by rfl) (by exact fun _ _ h => h) ?_
    rintro r hr
    obtain rfl : r = -1 := by
      rcases hr with ⟨h1, -⟩ | ⟨_, f, _, _, _, h4⟩
      · exact h1
      · exact absurd (hnew.symm.trans h4) (by simp)
    refine Rg.ev 6 (by rfl) (fun _ h => h) (Ev.geq (show Oper.op _ = Op.binOp BinOp.geq 3 (Operand.tmp 34) (Operand.const (Value.int IntKind.i64 0)) 3 from rfl) (by rfl) (by rfl)) (by rfl) (some 35) (by rfl) (by kernel_rfl) (by kernel_rfl) (by kernel_rfl) (by kernel_rfl) ?_
    refine Rg.done (by kernel_rfl) ?_ _
    refine Cd.cond_false (by rfl) (decide_eq_false (show ¬ ((0 : Int) ≤ -1) by decide)) ?_
    refine Cd.skip ?_
    refine Cd.seq ?_
    refine Cd.seq ?_
    refine Cd.region ?_
    refine Ls.ev (some 36) (Ev.move (show Oper.op _ = Op.move (Operand.tmp 7) from rfl) (by rfl)) (by rfl) (by rfl) ?_
    refine Ls.ev (some 37) (Ev.eql (show Oper.op _ = Op.binOp BinOp.eql 3 (Operand.tmp 36) (Operand.const (Value.int IntKind.i64 0)) 3 from rfl) (by rfl) (by rfl)) (by rfl) (by rfl) ?_
    refine Ls.ev (some 38) (Ev.move (show Oper.op _ = Op.move (Operand.tmp 37) from rfl) (by rfl)) (by rfl) (by rfl) ?_
    refine Ent.known 38 true (by rfl) (by exact (decide_eq_true (show (0 : Int) = 0 from rfl))) ?_
    refine Ls.ev (some 39) (Ev.move (show Oper.op _ = Op.move (Operand.tmp 0) from rfl) (by rfl)) (by rfl) (by rfl) ?_
    refine Ls.ev (some 40) (Ev.len (show Oper.op _ = Op.call { callee := Callee.builtin Builtin.len, args := #[Operand.tmp 39], argTypes := #[36] } from rfl) (by rfl) Tryz.underlying36) (by rfl) (by rfl) ?_
    refine Ls.ev (some 41) (Ev.gtr (show Oper.op _ = Op.binOp BinOp.gtr 3 (Operand.tmp 40) (Operand.const (Value.int IntKind.i64 256)) 3 from rfl) (by rfl) (by rfl)) (by rfl) (by rfl) ?_
    refine Ls.ev (some 42) (Ev.move (show Oper.op _ = Op.move (Operand.tmp 41) from rfl) (by rfl)) (by rfl) (by rfl) ?_
    skip
    refine Ent.known 42 false (by rfl) (by exact (decide_eq_false (show ¬ ((256 : Int) < (ns.length : Int)) by omega))) ?_
    refine Ls.ev (some 43) (Ev.move (show Oper.op _ = Op.move (Operand.tmp 1) from rfl) (by rfl)) (by rfl) (by rfl) ?_
    refine Ls.ev (some 44) (Ev.move (show Oper.op _ = Op.move (Operand.tmp 8) from rfl) (by rfl)) (by rfl) (by rfl) ?_
    refine Ls.ev (some 45) (Ev.indexAt (sz := 1) (show Oper.op _ = Op.indexAddr 22 (Operand.tmp 43) (Operand.tmp 44) from rfl) (by rfl) (by rfl) Tryz.underlying22 (by kernel_rfl) (by omega)) (by rfl) (by rfl) ?_
    refine Ls.ev (some 46) (Ev.loadV (show Oper.op _ = Op.load 30 (Operand.tmp 45) from rfl) (by rfl) (ReadsIn.rd 4 (by rfl)) (by kernel_rfl) hs) (by rfl) (by rfl) ?_
    refine Ls.ev (some 47) (Ev.len (show Oper.op _ = Op.call { callee := Callee.builtin Builtin.len, args := #[Operand.tmp 46], argTypes := #[30] } from rfl) (by rfl) Tryz.underlying30) (by rfl) (by rfl) ?_
    refine Ls.ev (some 48) (Ev.gtr (show Oper.op _ = Op.binOp BinOp.gtr 3 (Operand.tmp 47) (Operand.const (Value.int IntKind.i64 262144)) 3 from rfl) (by rfl) (by rfl)) (by rfl) (by rfl) ?_
    refine Ls.ev (some 49) (Ev.pickF (show Oper.op _ = Op.pick (Operand.tmp 42) (Operand.const (Value.bool true)) (Operand.tmp 48) from rfl) (by rfl) (by rfl)) (by rfl) (by rfl) ?_
    refine Ls.ev (some 50) (Ev.pickT (show Oper.op _ = Op.pick (Operand.tmp 38) (Operand.tmp 49) (Operand.const (Value.bool false)) from rfl) (by rfl) (by rfl)) (by rfl) (by rfl) ?_
    refine Ls.nil ?_
    refine Cd.cond_false (by rfl) (decide_eq_false (show ¬ ((262144 : Int) < (s.l.length : Int)) by omega)) ?_
    refine Cd.skip ?_
    refine Cd.seq ?_
    refine Cd.region ?_
    refine Ls.ev (some 51) (Ev.move (show Oper.op _ = Op.move (Operand.tmp 0) from rfl) (by rfl)) (by rfl) (by rfl) ?_
    refine Ls.ev (some 52) (Ev.len (show Oper.op _ = Op.call { callee := Callee.builtin Builtin.len, args := #[Operand.tmp 51], argTypes := #[36] } from rfl) (by rfl) Tryz.underlying36) (by rfl) (by rfl) ?_
    refine Ls.ev (some 53) (Ev.leq (show Oper.op _ = Op.binOp BinOp.leq 3 (Operand.tmp 52) (Operand.const (Value.int IntKind.i64 512)) 3 from rfl) (by rfl) (by rfl)) (by rfl) (by rfl) ?_
    refine Ls.nil ?_
    refine Cd.cond_true (by rfl) (decide_eq_true (show (ns.length : Int) ≤ 512 by omega)) ?_
    refine Ent.map (fun w hs' => payGet 5 rfl (List.mem_of_getElem? hs) hs') ?_
    refine Cd.draw [17] (by kernel_rfl) ?_
    refine Rg.ev 0 (by rfl) (fun _ h => h) (Ev.loads 2 (show Oper.op _ = Op.load 43 (Operand.tmp 6) from rfl) (by rfl) (by rfl) (n := 4) (by kernel_rfl) (by rfl) (by rfl)) (by rfl) (some 54) (by rfl) (by kernel_rfl) (by kernel_rfl) (by kernel_rfl) (by kernel_rfl) ?_
    refine Rg.ev 1 (by rfl) (fun _ h => h) (Ev.move (show Oper.op _ = Op.move (Operand.tmp 0) from rfl) (by rfl)) (by rfl) (some 55) (by rfl) (by kernel_rfl) (by kernel_rfl) (by kernel_rfl) (by kernel_rfl) ?_
    refine Rg.ev 2 (by rfl) (fun _ h => h) (Ev.move (show Oper.op _ = Op.move (Operand.tmp 8) from rfl) (by rfl)) (by rfl) (some 56) (by rfl) (by kernel_rfl) (by kernel_rfl) (by kernel_rfl) (by kernel_rfl) ?_
    refine Rg.ev 3 (by rfl) (fun _ h => h) (Ev.indexAt (sz := 1) (show Oper.op _ = Op.indexAddr 36 (Operand.tmp 55) (Operand.tmp 56) from rfl) (by rfl) (by rfl) Tryz.underlying36 (by kernel_rfl) (by omega)) (by rfl) (some 57) (by rfl) (by kernel_rfl) (by kernel_rfl) (by kernel_rfl) (by kernel_rfl) ?_
    refine Rg.ev 4 (by rfl) (fun _ h => h) (Ev.loadStr (show Oper.op _ = Op.load 9 (Operand.tmp 57) from rfl) (by rfl) (ReadsIn.rd 4 (by rfl)) (by kernel_rfl) (by assumption)) (by rfl) (some 58) (by rfl) (by kernel_rfl) (by kernel_rfl) (by kernel_rfl) (by kernel_rfl) ?_
    refine Rg.ev 5 (by rfl) (fun _ h => h) (Ev.move (show Oper.op _ = Op.move (Operand.tmp 1) from rfl) (by rfl)) (by rfl) (some 59) (by rfl) (by kernel_rfl) (by kernel_rfl) (by kernel_rfl) (by kernel_rfl) ?_
    refine Rg.ev 6 (by rfl) (fun _ h => h) (Ev.move (show Oper.op _ = Op.move (Operand.tmp 8) from rfl) (by rfl)) (by rfl) (some 60) (by rfl) (by kernel_rfl) (by kernel_rfl) (by kernel_rfl) (by kernel_rfl) ?_
    refine Rg.ev 7 (by rfl) (fun _ h => h) (Ev.indexAt (sz := 1) (show Oper.op _ = Op.indexAddr 22 (Operand.tmp 59) (Operand.tmp 60) from rfl) (by rfl) (by rfl) Tryz.underlying22 (by kernel_rfl) (by omega)) (by rfl) (some 61) (by rfl) (by kernel_rfl) (by kernel_rfl) (by kernel_rfl) (by kernel_rfl) ?_
    refine Rg.ev 8 (by rfl) (fun _ h => h) (Ev.loadV (show Oper.op _ = Op.load 30 (Operand.tmp 61) from rfl) (by rfl) (ReadsIn.rd 5 (by rfl)) (by kernel_rfl) hs) (by rfl) (some 62) (by rfl) (by kernel_rfl) (by kernel_rfl) (by kernel_rfl) (by kernel_rfl) ?_
    refine Rg.ev 9 (by rfl) (fun _ h => h) (Ev.textOf (show Oper.op _ = Op.convert 30 9 (Operand.tmp 62) from rfl) (by rfl) (ReadsIn.rd 0 (by rfl)) Tryz.underlying30 Tryz.underlying5 Tryz.underlying9) (by rfl) (some 63) (by rfl) (by kernel_rfl) (by kernel_rfl) (by kernel_rfl) (by kernel_rfl) ?_
    refine Rg.ev 10 (by rfl) (fun _ h => h) (Ev.move (show Oper.op _ = Op.move (Operand.tmp 1) from rfl) (by rfl)) (by rfl) (some 64) (by rfl) (by kernel_rfl) (by kernel_rfl) (by kernel_rfl) (by kernel_rfl) ?_
    refine Rg.ev 11 (by rfl) (fun _ h => h) (Ev.move (show Oper.op _ = Op.move (Operand.tmp 8) from rfl) (by rfl)) (by rfl) (some 65) (by rfl) (by kernel_rfl) (by kernel_rfl) (by kernel_rfl) (by kernel_rfl) ?_
    refine Rg.ev 12 (by rfl) (fun _ h => h) (Ev.indexAt (sz := 1) (show Oper.op _ = Op.indexAddr 22 (Operand.tmp 64) (Operand.tmp 65) from rfl) (by rfl) (by rfl) Tryz.underlying22 (by kernel_rfl) (by omega)) (by rfl) (some 66) (by rfl) (by kernel_rfl) (by kernel_rfl) (by kernel_rfl) (by kernel_rfl) ?_
    refine Rg.ev 13 (by rfl) (fun _ h => h) (Ev.loadV (show Oper.op _ = Op.load 30 (Operand.tmp 66) from rfl) (by rfl) (ReadsIn.rd 5 (by rfl)) (by kernel_rfl) hs) (by rfl) (some 67) (by rfl) (by kernel_rfl) (by kernel_rfl) (by kernel_rfl) (by kernel_rfl) ?_
    refine Rg.ev 14 (by rfl) (fun _ h => h) (Ev.len (show Oper.op _ = Op.call { callee := Callee.builtin Builtin.len, args := #[Operand.tmp 67], argTypes := #[30] } from rfl) (by rfl) Tryz.underlying30) (by rfl) (some 68) (by rfl) (by kernel_rfl) (by kernel_rfl) (by kernel_rfl) (by kernel_rfl) ?_
    refine Rg.ev 15 (by rfl) (fun _ h => h) (Ev.buildP (pl := [(0, 1), (1, 1), (2, 1)]) (zs := [.string ⟨#[]⟩, .string ⟨#[]⟩, .int .i64 0]) (show Oper.op _ = Op.build 88 #[(0, Operand.tmp 58), (1, Operand.tmp 63), (2, Operand.tmp 68)] from rfl) (by rfl) (by kernel_rfl) (by rfl)) (by rfl) (some 69) (by rfl) (by kernel_rfl) (by kernel_rfl) (by kernel_rfl) (by kernel_rfl) ?_
    refine Rg.does 16 (by rfl) (by kernel_rfl) (Does.readN (show Oper.op _ = Op.call { callee := Callee.value (Operand.func 40), args := #[Operand.tmp 54, Operand.tmp 69], argTypes := #[43, 88] } from rfl) Tryz.func40 (by kernel_rfl) (by kernel_rfl) (dwith_sl Q hok.rise (by omega) A c ⟨q, s.l, s.l.length⟩) (by rfl) (by rfl) ⟨ReadsIn.rd 1 (by rfl), trivial⟩ (fun _ => by rfl)) (by rfl) (some 70) (by rfl) (fun _ _ h => h.tail_) ?_
    rintro ⟨wA, wc⟩ -
    dsimp only
    refine Ent.see 0 (by rfl) ?_
    refine Rg.tail 17 [] (by rfl) (by kernel_rfl) (Does.store 3 (show Oper.op _ = Op.store 43 (Operand.tmp 6) (Operand.tmp 70) from rfl) (by rfl) (by rfl) (by rfl) (by kernel_rfl) (by rfl) (by kernel_rfl) (by rfl)) (by rfl) none (by rfl) (by kernel_rfl) (by kernel_rfl) ?_
    intro _ _
    refine Rg.done (by kernel_rfl) ?_ _
    refine Cd.region ?_
    refine Ls.ev (some 20) (Ev.move (show Oper.op _ = Op.move (Operand.tmp 8) from rfl) (by rfl)) (by rfl) (by rfl) ?_
    refine Ls.ev (some 21) (Ev.addN (b := 1) (show Oper.op _ = Op.binOp BinOp.add 3 (Operand.tmp 20) (Operand.const (Value.int IntKind.i64 1)) 3 from rfl) (by rfl) (by rfl) (by omega)) (by rfl) (by rfl) ?_
    refine Ls.ev (some 8) (Ev.assign (show Oper.op _ = Op.assign (Operand.tmp 21) from rfl) (by rfl)) (by rfl) (by rfl) ?_
    refine Ls.nil ?_
    refine Ent.pick [0, 3, 4, 5, 6, 7] (by rfl) ?_
    refine Ent.inv ((k + 1, wA, wc)) ?_ ?_ ?_
    · (try dsimp only); exact ⟨hlt, by omega⟩
    · (repeat (first | exact trivial | refine ⟨by rfl, ?_⟩ | refine ⟨by simp only [List.length_append, List.length_cons, List.length_nil]; rfl, ?_⟩ | refine ⟨by push_cast; rfl, ?_⟩))
    · (show [_, _, _, _, _, _] = [_, _, _, _, _, _]; dsimp only; rw [hsn]; rfl)
  · skip
    have hge : ns.length ≤ k := by have := of_decide_eq_false h2; omega
    rw [List.take_of_length_le hge, List.take_of_length_le (by rw [List.length_map]; omega)]
    refine Cd.exit ?_
    refine Cd.seq ?_
    refine Cd.seq ?_
    refine Cd.region ?_
    refine Ls.ev (some 71) (Ev.move (show Oper.op _ = Op.move (Operand.tmp 7) from rfl) (by rfl)) (by rfl) (by rfl) ?_
    refine Ls.ev (some 72) (Ev.eql (show Oper.op _ = Op.binOp BinOp.eql 3 (Operand.tmp 71) (Operand.const (Value.int IntKind.i64 5)) 3 from rfl) (by rfl) (by rfl)) (by rfl) (by rfl) ?_
    refine Ls.ev (some 73) (Ev.move (show Oper.op _ = Op.move (Operand.tmp 72) from rfl) (by rfl)) (by rfl) (by rfl) ?_
    refine Ent.known 73 false (by rfl) (by exact (decide_eq_false (show ¬ ((0 : Int) = 5) by decide))) ?_
    refine Ls.pass (some 74) (by rfl) (by rfl) ?_
    refine Ls.pass (some 75) (by rfl) (by rfl) ?_
    refine Ls.ev (some 76) (Ev.pickF (show Oper.op _ = Op.pick (Operand.tmp 73) (Operand.tmp 75) (Operand.const (Value.bool false)) from rfl) (by rfl) (by rfl)) (by rfl) (by rfl) ?_
    refine Ls.nil ?_
    refine Cd.cond_false (by rfl) (rfl) ?_
    refine Cd.skip ?_
    refine Cd.seq ?_
    refine Cd.seq ?_
    refine Cd.region ?_
    refine Ls.ev (some 77) (Ev.move (show Oper.op _ = Op.move (Operand.tmp 7) from rfl) (by rfl)) (by rfl) (by rfl) ?_
    refine Ls.ev (some 78) (Ev.neq (show Oper.op _ = Op.binOp BinOp.neq 3 (Operand.tmp 77) (Operand.const (Value.int IntKind.i64 0)) 3 from rfl) (by rfl) (by rfl)) (by rfl) (by rfl) ?_
    refine Ls.nil ?_
    refine Cd.cond_false (by rfl) (decide_eq_false (show ¬ ((0 : Int) ≠ 0) from fun h => h rfl)) ?_
    refine Cd.skip ?_
    refine Cd.seq ?_
    refine Cd.region ?_
    refine Ls.ev (some 81) (Ev.loads 1 (show Oper.op _ = Op.load 43 (Operand.tmp 6) from rfl) (by rfl) (by rfl) (n := 4) (by kernel_rfl) (by rfl) (by rfl)) (by rfl) (by rfl) ?_
    refine Ls.does none (Does.store 2 (show Oper.op _ = Op.store 43 (Operand.tmp 4) (Operand.tmp 81) from rfl) (by rfl) (by rfl) (by rfl) (by kernel_rfl) (by rfl) (by kernel_rfl) (by rfl)) (by rfl) (by rfl) ?_
    intro _ _
    refine Ls.ev (some 5) (Ev.assign (show Oper.op _ = Op.assign (Operand.const (Value.int IntKind.i64 0)) from rfl) (by rfl)) (by rfl) (by rfl) ?_
    refine Ls.nil ?_
    refine Cd.ret ?_
    refine Ent.ret ((A, c)) (trivial) (Res.cell_tmp 2 (by rfl) (by rfl) (by rfl) (n := 4) (by kernel_rfl) (by rfl) (by rfl) (by rfl)) ?_ [0] (by rfl) ?_
    · rfl
    · rfl
end Go.Proofs.YtceanciekadkeaaGreatDoor
/- drives loaded -/
namespace Go.Proofs.YtceanciekadkeaaGreatDoor
open Go.RowKit
set_option maxHeartbeats 1000000 in
theorem load_sl (nA bA : Option Addr) (nc bc : Nat) (ns : List (List UInt8)) (S : List ByS) (h : LoadOk ns (S.map ByS.l)) : Fn Tryz.prog 14 #[.slice nA ns.length nc, .slice bA S.length bc] [rd nA ns.length 1 (txts ns), rdV bA S, payR S] DrS (fun D => .tuple #[D.ptr, .int .i64 0]) (fun D => [D.B, D.M, D.F]) (fun D => Drv D (loadP ns (S.map ByS.l))) := by
  have hlen := h.len
  rw [List.length_map] at hlen
  have hm := h.most
  refine Fn.enter Tryz.func14 rfl Tryz.ntmps14 (by rfl) ?_
  intro w0
  refine Cd.seq ?_
  refine Cd.region ?_
  refine Ls.ev (some 4) (Ev.assign (show Oper.op _ = Op.assign (Operand.const (Value.pointer none)) from rfl) (by rfl)) (by rfl) (by rfl) ?_
  refine Ls.ev (some 5) (Ev.assign (show Oper.op _ = Op.assign (Operand.const (Value.int IntKind.i64 0)) from rfl) (by rfl)) (by rfl) (by rfl) ?_
  refine Ls.nil ?_
  refine Cd.seq ?_
  refine Cd.seq ?_
  refine Cd.region ?_
  refine Ls.ev (some 11) (Ev.move (show Oper.op _ = Op.move (Operand.tmp 0) from rfl) (by rfl)) (by rfl) (by rfl) ?_
  refine Ls.ev (some 12) (Ev.len (show Oper.op _ = Op.call { callee := Callee.builtin Builtin.len, args := #[Operand.tmp 11], argTypes := #[36] } from rfl) (by rfl) Tryz.underlying36) (by rfl) (by rfl) ?_
  refine Ls.ev (some 13) (Ev.move (show Oper.op _ = Op.move (Operand.tmp 1) from rfl) (by rfl)) (by rfl) (by rfl) ?_
  refine Ls.ev (some 14) (Ev.len (show Oper.op _ = Op.call { callee := Callee.builtin Builtin.len, args := #[Operand.tmp 13], argTypes := #[22] } from rfl) (by rfl) Tryz.underlying22) (by rfl) (by rfl) ?_
  refine Ls.ev (some 15) (Ev.neq (show Oper.op _ = Op.binOp BinOp.neq 3 (Operand.tmp 12) (Operand.tmp 14) 3 from rfl) (by rfl) (by rfl)) (by rfl) (by rfl) ?_
  refine Ls.nil ?_
  refine Cd.cond_false (by rfl) (decide_eq_false (show ¬ ((ns.length : Int) ≠ (S.length : Int)) by omega)) ?_
  refine Cd.skip ?_
  refine Cd.seq ?_
  refine Cd.region ?_
  refine Ls.does (some 16) (Does.call [0, 1, 2] (show Oper.op _ = Op.call { callee := Callee.value (Operand.func 7), args := #[], argTypes := #[] } from rfl) Tryz.func7 (by kernel_rfl) (by kernel_rfl) (new_sl) (by rfl) (by rfl) (by rfl)) (by rfl) (by rfl) ?_
  rintro X0 hX0
  refine Ls.ev (some 6) (Ev.assign (show Oper.op _ = Op.assign (Operand.tmp 16) from rfl) (by rfl)) (by rfl) (by rfl) ?_
  refine Ls.nil ?_
  refine Cd.seq ?_
  refine Cd.region ?_
  refine Ls.ev (some 17) (Ev.move (show Oper.op _ = Op.move (Operand.tmp 0) from rfl) (by rfl)) (by rfl) (by rfl) ?_
  refine Ls.ev (some 18) (Ev.len (show Oper.op _ = Op.call { callee := Callee.builtin Builtin.len, args := #[Operand.tmp 17], argTypes := #[36] } from rfl) (by rfl) Tryz.underlying36) (by rfl) (by rfl) ?_
  refine Ls.ev (some 19) (Ev.gtr (show Oper.op _ = Op.binOp BinOp.gtr 3 (Operand.tmp 18) (Operand.const (Value.int IntKind.i64 256)) 3 from rfl) (by rfl) (by rfl)) (by rfl) (by rfl) ?_
  refine Ls.ev (some 7) (Ev.assign (show Oper.op _ = Op.assign (Operand.const (Value.bool false)) from rfl) (by rfl)) (by rfl) (by rfl) ?_
  refine Ls.ev (some 8) (Ev.assign (show Oper.op _ = Op.assign (Operand.tmp 19) from rfl) (by rfl)) (by rfl) (by rfl) ?_
  refine Ls.nil ?_
  refine Cd.seq ?_
  refine Cd.seq ?_
  refine Cd.region ?_
  refine Ls.ev (some 20) (Ev.move (show Oper.op _ = Op.move (Operand.tmp 0) from rfl) (by rfl)) (by rfl) (by rfl) ?_
  refine Ls.ev (some 21) (Ev.len (show Oper.op _ = Op.call { callee := Callee.builtin Builtin.len, args := #[Operand.tmp 20], argTypes := #[36] } from rfl) (by rfl) Tryz.underlying36) (by rfl) (by rfl) ?_
  refine Ls.ev (some 22) (Ev.move (show Oper.op _ = Op.move (Operand.const (Value.int IntKind.i64 0)) from rfl) (by rfl)) (by rfl) (by rfl) ?_
  refine Ls.nil ?_
  refine Cd.block ?_
  rw [show decide ((256 : Int) < (ns.length : Int)) = false from decide_eq_false (by omega)]
  skip
  refine Cd.loop (ι := Nat × DrS) (fun p => [(0, .slice nA ns.length nc), (1, .slice bA S.length bc), (6, .pointer (some ⟨X0.d, 0, none⟩)), (7, .bool false), (8, .bool false), (20, .slice nA ns.length nc), (21, .int .i64 ns.length), (22, .int .i64 p.1)]) (fun p => [p.2.B, p.2.M, p.2.F, rd nA ns.length 1 (txts ns), rdV bA S, payR S]) (fun p => p.1 ≤ ns.length ∧ Drv p.2 (loadP (ns.take p.1) ((S.map ByS.l).take p.1)) ∧ p.2.d = X0.d) (fun p => ns.length - p.1) ((0, X0)) (⟨Nat.zero_le _, hX0, rfl⟩) ?_ rfl ?_
  · (repeat (first | exact trivial | refine ⟨by rfl, ?_⟩))
  rintro ⟨k, X⟩ ⟨hk, hX, hXd⟩
  dsimp only at hk hX hXd ⊢
  obtain ⟨hok, hfl, hst, hle, -⟩ := loadP_inv h k hk
  refine Cd.seq ?_
  refine Cd.region ?_
  refine Ls.ev (some 23) (Ev.lss (show Oper.op _ = Op.binOp BinOp.lss 3 (Operand.tmp 22) (Operand.tmp 21) 3 from rfl) (by rfl) (by rfl)) (by rfl) (by rfl) ?_
  refine Ls.nil ?_
  refine Cd.seq ?_
  refine Cd.cond _ (by rfl) (fun h2 => ?_) (fun h2 => ?_)
  · skip
    have hlt : k < ns.length := by have := of_decide_eq_true h2; omega
    obtain ⟨q, hq⟩ := get_of_lt hlt
    obtain ⟨s, hs⟩ := get_of_lt (show k < S.length by omega)
    have hqt : (ns.map txt)[k]? = some (txt q) := by rw [List.getElem?_map, hq]; rfl
    have hsl : (S.map ByS.l)[k]? = some s.l := by rw [List.getElem?_map, hs]; rfl
    have hgq := h.good q (List.mem_of_getElem? hq)
    have hsz := h.size s.l (List.mem_of_getElem? hsl)
    have hnew := loadP_new h hq
    have hsn := loadP_snoc hq hsl
    have hok2 := (loadP_inv h (k + 1) hlt).1
    rw [hsn] at hok2
    generalize loadP (ns.take k) ((S.map ByS.l).take k) = Q at hok hfl hst hle hnew hsn hok2 hX
    have hnf : findF X.fs q = none := hX.miss hnew
    have hp := ptr_miss hnf
    have hql := hgq.len
    have hXl : X.fs.length ≤ 256 := by
      rw [hX.len]
      omega
    refine Ent.rdSome 3 (by rfl) (by omega) (fun nd hnd => ?_)
    subst hnd
    refine Ent.rdSome 4 (by rfl) (by omega) (fun bd hbd => ?_)
    subst hbd
    refine Cd.skip ?_
    refine Cd.seq ?_
    refine Cd.block ?_
    refine Cd.seq ?_
    refine Cd.region ?_
    refine Ls.ev (some 24) (Ev.move (show Oper.op _ = Op.move (Operand.tmp 22) from rfl) (by rfl)) (by rfl) (by rfl) ?_
    refine Ls.ev (some 25) (Ev.indexAt (sz := 1) (show Oper.op _ = Op.indexAddr 36 (Operand.tmp 20) (Operand.tmp 22) from rfl) (by rfl) (by rfl) Tryz.underlying36 (by kernel_rfl) (by omega)) (by rfl) (by rfl) ?_
    refine Ls.ev (some 26) (Ev.loadStr (show Oper.op _ = Op.load 9 (Operand.tmp 25) from rfl) (by rfl) (ReadsIn.rd 3 (by rfl)) (by kernel_rfl) (by assumption)) (by rfl) (by rfl) ?_
    refine Ls.ev (some 9) (Ev.assign (show Oper.op _ = Op.assign (Operand.tmp 24) from rfl) (by rfl)) (by rfl) (by rfl) ?_
    refine Ls.ev (some 10) (Ev.assign (show Oper.op _ = Op.assign (Operand.tmp 26) from rfl) (by rfl)) (by rfl) (by rfl) ?_
    refine Ls.nil ?_
    refine Cd.seq ?_
    refine Cd.seq ?_
    refine Cd.region ?_
    refine Ls.ev (some 27) (Ev.move (show Oper.op _ = Op.move (Operand.tmp 10) from rfl) (by rfl)) (by rfl) (by rfl) ?_
    refine Ls.does (some 28) (Does.read (show Oper.op _ = Op.call { callee := Callee.value (Operand.func 36), args := #[Operand.tmp 27], argTypes := #[9] } from rfl) Tryz.func36 (by kernel_rfl) (by kernel_rfl) (good_sl q) (by rfl) (by rfl) trivial) (by rfl) (by rfl) ?_
    rintro _ -
    rw [decide_eq_true hgq]
    refine Ls.ev (some 29) (Ev.not (show Oper.op _ = Op.unOp UnOp.not 4 (Operand.tmp 28) from rfl) (by rfl)) (by rfl) (by rfl) ?_
    refine Ls.nil ?_
    refine Cd.cond_false (by rfl) (rfl) ?_
    rw [← hXd]
    refine Cd.skip ?_
    refine Cd.seq ?_
    refine Cd.region ?_
    refine Ls.ev (some 30) (Ev.move (show Oper.op _ = Op.move (Operand.tmp 7) from rfl) (by rfl)) (by rfl) (by rfl) ?_
    refine Ls.ev (some 31) (Ev.move (show Oper.op _ = Op.move (Operand.tmp 30) from rfl) (by rfl)) (by rfl) (by rfl) ?_
    refine Ls.ev (some 32) (Ev.move (show Oper.op _ = Op.move (Operand.tmp 6) from rfl) (by rfl)) (by rfl) (by rfl) ?_
    refine Ls.ev (some 33) (Ev.nilCheck (show Oper.op _ = Op.nilCheck (Operand.tmp 32) from rfl) (by rfl)) (by rfl) (by rfl) ?_
    refine Ls.ev (some 34) (Ev.fieldAddr (k := 0) (show Oper.op _ = Op.fieldAddr 67 (Operand.tmp 33) 0 from rfl) (by rfl) (by kernel_rfl) (by rfl)) (by rfl) (by rfl) ?_
    refine Ls.ev (some 35) (Ev.load 0 (show Oper.op _ = Op.load 65 (Operand.tmp 34) from rfl) (by rfl) (by rfl) (by kernel_rfl) (by rfl)) (by rfl) (by rfl) ?_
    refine Ls.ev (some 36) (Ev.move (show Oper.op _ = Op.move (Operand.tmp 10) from rfl) (by rfl)) (by rfl) (by rfl) ?_
    refine Ls.ev (some 37) (Ev.to (Ev.lookT (maptIn 1 (by rfl)) (show Oper.op _ = Op.lookup 65 (Operand.tmp 35) (Operand.tmp 36) false from rfl) (by rfl) (by rfl) Tryz.underlying9 Tryz.underlying65 (zero_of (by kernel_rfl)) (by unfold maxLen; omega)) hp) (by rfl) (by rfl) ?_
    skip
    refine Ls.ev (some 38) (Ev.nilNe (show Oper.op _ = Op.binOp BinOp.neq 82 (Operand.tmp 37) (Operand.const (Value.pointer none)) 82 from rfl) (by rfl) (by rfl) Tryz.underlying82) (by rfl) (by rfl) ?_
    refine Ls.ev (some 39) (Ev.pickF (show Oper.op _ = Op.pick (Operand.tmp 31) (Operand.const (Value.bool true)) (Operand.tmp 38) from rfl) (by rfl) (by rfl)) (by rfl) (by rfl) ?_
    refine Ls.ev (some 7) (Ev.assign (show Oper.op _ = Op.assign (Operand.tmp 39) from rfl) (by rfl)) (by rfl) (by rfl) ?_
    refine Ls.nil ?_
    refine Cd.seq ?_
    refine Cd.region ?_
    refine Ls.ev (some 40) (Ev.move (show Oper.op _ = Op.move (Operand.tmp 8) from rfl) (by rfl)) (by rfl) (by rfl) ?_
    refine Ls.ev (some 41) (Ev.move (show Oper.op _ = Op.move (Operand.tmp 40) from rfl) (by rfl)) (by rfl) (by rfl) ?_
    refine Ls.ev (some 42) (Ev.move (show Oper.op _ = Op.move (Operand.tmp 1) from rfl) (by rfl)) (by rfl) (by rfl) ?_
    refine Ls.ev (some 43) (Ev.move (show Oper.op _ = Op.move (Operand.tmp 9) from rfl) (by rfl)) (by rfl) (by rfl) ?_
    refine Ls.ev (some 44) (Ev.indexAt (sz := 1) (show Oper.op _ = Op.indexAddr 22 (Operand.tmp 42) (Operand.tmp 43) from rfl) (by rfl) (by rfl) Tryz.underlying22 (by kernel_rfl) (by omega)) (by rfl) (by rfl) ?_
    refine Ls.ev (some 45) (Ev.loadV (show Oper.op _ = Op.load 30 (Operand.tmp 44) from rfl) (by rfl) (ReadsIn.rd 4 (by rfl)) (by kernel_rfl) hs) (by rfl) (by rfl) ?_
    refine Ls.ev (some 46) (Ev.len (show Oper.op _ = Op.call { callee := Callee.builtin Builtin.len, args := #[Operand.tmp 45], argTypes := #[30] } from rfl) (by rfl) Tryz.underlying30) (by rfl) (by rfl) ?_
    refine Ls.ev (some 47) (Ev.gtr (show Oper.op _ = Op.binOp BinOp.gtr 3 (Operand.tmp 46) (Operand.const (Value.int IntKind.i64 262144)) 3 from rfl) (by rfl) (by rfl)) (by rfl) (by rfl) ?_
    rw [show decide ((262144 : Int) < (s.l.length : Int)) = false from decide_eq_false (by omega)]
    refine Ls.ev (some 48) (Ev.pickF (show Oper.op _ = Op.pick (Operand.tmp 41) (Operand.const (Value.bool true)) (Operand.tmp 47) from rfl) (by rfl) (by rfl)) (by rfl) (by rfl) ?_
    refine Ls.ev (some 8) (Ev.assign (show Oper.op _ = Op.assign (Operand.tmp 48) from rfl) (by rfl)) (by rfl) (by rfl) ?_
    refine Ls.nil ?_
    refine Ent.map (fun w hs' => payGet 5 rfl (List.mem_of_getElem? hs) hs') ?_
    refine Cd.draw [17] (by kernel_rfl) ?_
    refine Rg.ev 0 (by rfl) (fun _ h => h) (Ev.move (show Oper.op _ = Op.move (Operand.tmp 6) from rfl) (by rfl)) (by rfl) (some 49) (by rfl) (by kernel_rfl) (by kernel_rfl) (by kernel_rfl) (by kernel_rfl) ?_
    refine Rg.ev 1 (by rfl) (fun _ h => h) (Ev.nilCheck (show Oper.op _ = Op.nilCheck (Operand.tmp 49) from rfl) (by rfl)) (by rfl) (some 50) (by rfl) (by kernel_rfl) (by kernel_rfl) (by kernel_rfl) (by kernel_rfl) ?_
    refine Rg.ev 2 (by rfl) (fun _ h => h) (Ev.fieldAddr (k := 0) (show Oper.op _ = Op.fieldAddr 67 (Operand.tmp 50) 0 from rfl) (by rfl) (by kernel_rfl) (by rfl)) (by rfl) (some 51) (by rfl) (by kernel_rfl) (by kernel_rfl) (by kernel_rfl) (by kernel_rfl) ?_
    refine Rg.ev 3 (by rfl) (fun _ h => h) (Ev.load 1 (show Oper.op _ = Op.load 65 (Operand.tmp 51) from rfl) (by rfl) (by rfl) (by kernel_rfl) (by rfl)) (by rfl) (some 52) (by rfl) (by kernel_rfl) (by kernel_rfl) (by kernel_rfl) (by kernel_rfl) ?_
    refine Rg.ev 4 (by rfl) (fun _ h => h) (Ev.move (show Oper.op _ = Op.move (Operand.tmp 10) from rfl) (by rfl)) (by rfl) (some 53) (by rfl) (by kernel_rfl) (by kernel_rfl) (by kernel_rfl) (by kernel_rfl) ?_
    refine Rg.ev 5 (by rfl) (fun _ h => h) (Ev.move (show Oper.op _ = Op.move (Operand.tmp 1) from rfl) (by rfl)) (by rfl) (some 54) (by rfl) (by kernel_rfl) (by kernel_rfl) (by kernel_rfl) (by kernel_rfl) ?_
    refine Rg.ev 6 (by rfl) (fun _ h => h) (Ev.move (show Oper.op _ = Op.move (Operand.tmp 9) from rfl) (by rfl)) (by rfl) (some 55) (by rfl) (by kernel_rfl) (by kernel_rfl) (by kernel_rfl) (by kernel_rfl) ?_
    refine Rg.ev 7 (by rfl) (fun _ h => h) (Ev.indexAt (sz := 1) (show Oper.op _ = Op.indexAddr 22 (Operand.tmp 54) (Operand.tmp 55) from rfl) (by rfl) (by rfl) Tryz.underlying22 (by kernel_rfl) (by omega)) (by rfl) (some 56) (by rfl) (by kernel_rfl) (by kernel_rfl) (by kernel_rfl) (by kernel_rfl) ?_
    refine Rg.ev 8 (by rfl) (fun _ h => h) (Ev.loadV (show Oper.op _ = Op.load 30 (Operand.tmp 56) from rfl) (by rfl) (ReadsIn.rd 5 (by rfl)) (by kernel_rfl) hs) (by rfl) (some 57) (by rfl) (by kernel_rfl) (by kernel_rfl) (by kernel_rfl) (by kernel_rfl) ?_
    refine Rg.ev 10 (by rfl) (fun _ h => h) (Ev.move (show Oper.op _ = Op.move (Operand.tmp 1) from rfl) (by rfl)) (by rfl) (some 59) (by rfl) (by kernel_rfl) (by kernel_rfl) (by kernel_rfl) (by kernel_rfl) ?_
    refine Rg.ev 11 (by rfl) (fun _ h => h) (Ev.move (show Oper.op _ = Op.move (Operand.tmp 9) from rfl) (by rfl)) (by rfl) (some 60) (by rfl) (by kernel_rfl) (by kernel_rfl) (by kernel_rfl) (by kernel_rfl) ?_
    refine Rg.ev 12 (by rfl) (fun _ h => h) (Ev.indexAt (sz := 1) (show Oper.op _ = Op.indexAddr 22 (Operand.tmp 59) (Operand.tmp 60) from rfl) (by rfl) (by rfl) Tryz.underlying22 (by kernel_rfl) (by omega)) (by rfl) (some 61) (by rfl) (by kernel_rfl) (by kernel_rfl) (by kernel_rfl) (by kernel_rfl) ?_
    refine Rg.ev 13 (by rfl) (fun _ h => h) (Ev.loadV (show Oper.op _ = Op.load 30 (Operand.tmp 61) from rfl) (by rfl) (ReadsIn.rd 5 (by rfl)) (by kernel_rfl) hs) (by rfl) (some 62) (by rfl) (by kernel_rfl) (by kernel_rfl) (by kernel_rfl) (by kernel_rfl) ?_
    refine Rg.ev 14 (by rfl) (fun _ h => h) (Ev.len (show Oper.op _ = Op.call { callee := Callee.builtin Builtin.len, args := #[Operand.tmp 62], argTypes := #[30] } from rfl) (by rfl) Tryz.underlying30) (by rfl) (some 63) (by rfl) (by kernel_rfl) (by kernel_rfl) (by kernel_rfl) (by kernel_rfl) ?_
    refine Rg.does 9 (by rfl) (by kernel_rfl) (Does.readN (show Oper.op _ = Op.call { callee := Callee.value (Operand.func 37), args := #[Operand.tmp 57], argTypes := #[30] } from rfl) Tryz.func37 (by kernel_rfl) (by kernel_rfl) (clone_sl s.A s.c s.l (by omega)) (by rfl) (by rfl) ⟨ReadsIn.rd 0 (by rfl), trivial⟩ (fun _ => by rfl)) (by rfl) (some 58) (by rfl) (fun _ _ h => h.tail_) ?_
    rintro ⟨cA, cc⟩ -
    dsimp only
    refine Rg.ev 15 (by rfl) (fun _ h => h) (Ev.buildP (pl := [(0, 1), (1, 1)]) (zs := [.slice none 0 0, .int .i64 0]) (show Oper.op _ = Op.build 84 #[(0, Operand.tmp 58), (1, Operand.tmp 63)] from rfl) (by rfl) (by kernel_rfl) (by rfl)) (by rfl) (some 64) (by rfl) (by kernel_rfl) (by kernel_rfl) (by kernel_rfl) (by kernel_rfl) ?_
    refine Rg.does 16 (by rfl) (by kernel_rfl) (Does.box (show Oper.op _ = Op.box 84 (Operand.tmp 64) from rfl) (by rfl)) (by rfl) (some 65) (by rfl) (fun _ _ h => h.tail_) ?_
    intro g1 _
    refine Rg.tail 17 [] (by rfl) (by kernel_rfl) (Does.putT 4 (show Oper.op _ = Op.mapUpdate 65 (Operand.tmp 52) (Operand.tmp 53) (Operand.tmp 65) from rfl) (by rfl) (by rfl) (by rfl) (by rfl) Tryz.underlying9 Tryz.underlying65 (by rw [List.length_map]; omega) (by unfold maxLen; omega) (not_mem_of_find hnf)) (by rfl) none (by rfl) (by kernel_rfl) (by kernel_rfl) ?_
    rintro _ -
    refine Rg.done (by kernel_rfl) ?_ _
    refine Cd.region ?_
    refine Ls.ev (some 66) (Ev.addN (b := 1) (show Oper.op _ = Op.binOp BinOp.add 3 (Operand.tmp 22) (Operand.const (Value.int IntKind.i64 1)) 3 from rfl) (by rfl) (by rfl) (by omega)) (by rfl) (by rfl) ?_
    refine Ls.ev (some 22) (Ev.move (show Oper.op _ = Op.move (Operand.tmp 66) from rfl) (by rfl)) (by rfl) (by rfl) ?_
    refine Ls.nil ?_
    have hbk : blk g1 84 [.slice cA s.l.length cc, .int .i64 s.l.length] = FiS.B ⟨⟨q, s.l, s.l.length⟩, g1, cA, cc⟩ := rfl
    have hperm : (putG FiS.nm ⟨⟨q, s.l, s.l.length⟩, g1, cA, cc⟩ X.fs).Perm (⟨⟨q, s.l, s.l.length⟩, g1, cA, cc⟩ :: X.fs) := put_perm (nm := FiS.nm) (f := ⟨⟨q, s.l, s.l.length⟩, g1, cA, cc⟩) hnf
    have hpn : (X.fs.map FiS.nm ++ [q]).Perm ((putG FiS.nm ⟨⟨q, s.l, s.l.length⟩, g1, cA, cc⟩ X.fs).map FiS.nm) := List.perm_append_comm.trans ((hperm.map FiS.nm).symm)
    refine Ent.pick [0, 1, 5, 4, 3, 6, 7, 8] (by rfl) ?_
    refine Ent.map (fun w hs => fil_perm hperm.symm (fil_shut (a := []) (b := X.fs) (f := ⟨⟨q, s.l, s.l.length⟩, g1, cA, cc⟩) (by rw [← hbk]; exact hs))) ?_
    refine Ent.pick [1, 0, 2, 3, 4, 5] (by rfl) ?_
    refine Ent.map (fun w hs => mapt_perm hpn (f' := ptrF (putG FiS.nm ⟨⟨q, s.l, s.l.length⟩, g1, cA, cc⟩ X.fs)) (fun y _ => (ptrF_put hX.rise ⟨⟨q, s.l, s.l.length⟩, g1, cA, cc⟩ y).symm) hs) ?_
    refine Ent.pick [2, 0, 1, 3, 4, 5] (by rfl) ?_
    refine Ent.inv ((k + 1, { X with fs := putG FiS.nm ⟨⟨q, s.l, s.l.length⟩, g1, cA, cc⟩ X.fs })) ?_ ?_ ?_
    · (try dsimp only); exact ⟨⟨hlt, by rw [hsn]; exact hX.put (f := ⟨⟨q, s.l, s.l.length⟩, g1, cA, cc⟩) hok2, rfl⟩, by omega⟩
    · (repeat (first | exact trivial | refine ⟨by rfl, ?_⟩ | refine ⟨by simp only [List.length_append, List.length_cons, List.length_nil]; rfl, ?_⟩ | refine ⟨by push_cast; rfl, ?_⟩))
    · rfl
  · skip
    have hge : ns.length ≤ k := by have := of_decide_eq_false h2; omega
    rw [List.take_of_length_le hge, List.take_of_length_le (by rw [List.length_map]; omega)] at hX
    refine Cd.exit ?_
    refine Cd.seq ?_
    refine Cd.block ?_
    refine Cd.seq ?_
    refine Cd.region ?_
    refine Ls.ev (some 68) (Ev.move (show Oper.op _ = Op.move (Operand.tmp 7) from rfl) (by rfl)) (by rfl) (by rfl) ?_
    refine Ls.ev (some 67) (Ev.assign (show Oper.op _ = Op.assign (Operand.tmp 68) from rfl) (by rfl)) (by rfl) (by rfl) ?_
    refine Ls.nil ?_
    refine Cd.cond_false (by rfl) (rfl) ?_
    refine Cd.seq ?_
    refine Cd.region ?_
    refine Ls.ev (some 70) (Ev.move (show Oper.op _ = Op.move (Operand.tmp 8) from rfl) (by rfl)) (by rfl) (by rfl) ?_
    refine Ls.ev (some 69) (Ev.assign (show Oper.op _ = Op.assign (Operand.tmp 70) from rfl) (by rfl)) (by rfl) (by rfl) ?_
    refine Ls.nil ?_
    refine Cd.cond_false (by rfl) (rfl) ?_
    refine Cd.skip ?_
    refine Cd.seq ?_
    refine Cd.region ?_
    refine Ls.ev (some 71) (Ev.move (show Oper.op _ = Op.move (Operand.tmp 6) from rfl) (by rfl)) (by rfl) (by rfl) ?_
    refine Ls.ev (some 4) (Ev.assign (show Oper.op _ = Op.assign (Operand.tmp 71) from rfl) (by rfl)) (by rfl) (by rfl) ?_
    refine Ls.ev (some 5) (Ev.assign (show Oper.op _ = Op.assign (Operand.const (Value.int IntKind.i64 0)) from rfl) (by rfl)) (by rfl) (by rfl) ?_
    refine Ls.nil ?_
    refine Cd.ret ?_
    refine Ent.ret (X) (hX) (Res.tmp2 (by rfl) (by rfl) (by rfl)) ?_ [0, 1, 2] (by rfl) ?_
    · show Value.tuple #[X0.ptr, _] = Value.tuple #[X.ptr, _]
      rw [DrS.ptr, DrS.ptr, hXd]
    · rfl
end Go.Proofs.YtceanciekadkeaaGreatDoor
/- WalOpens: plain facts -/
namespace Go.Proofs.YtceanciekadkeaaGreatDoor
open Go.RowKit
theorem nmR_big : nmR 1000000 = [119, 97, 108, 45, 49, 48, 48, 48, 48, 48, 48] := by kernel_rfl
theorem nmR_two {n : Nat} (h : n ≤ 1000000) : (n ≤ 999999 ∧ nmR n = nameP n) ∨ nmR n = [119, 97, 108, 45, 49, 48, 48, 48, 48, 48, 48] := by
  rcases Nat.lt_or_ge 999999 n with h1 | h1
  · obtain rfl : n = 1000000 := by omega
    exact .inr nmR_big
  · exact .inl ⟨h1, nmR_name h1⟩
theorem ok_cut {l : List UInt8} (h : l.all (fun x => (97 ≤ x.toNat && x.toNat ≤ 122) || (48 ≤ x.toNat && x.toNat ≤ 57) || x.toNat == 45 || x.toNat == 46) = true) : ∀ x ∈ l, okB x := fun x hx => by
  have := List.all_eq_true.1 h x hx
  simp only [Bool.or_eq_true, Bool.and_eq_true, decide_eq_true_eq, beq_iff_eq] at this
  unfold okB
  omega
theorem nmR_good {n : Nat} (h : n ≤ 1000000) : Good (nmR n) := by
  rcases nmR_two h with ⟨_, e⟩ | e
  · rw [e]
    exact nameP_good n
  · rw [e]
    exact ⟨by simp, by decide, ok_cut (by decide)⟩
abbrev w12 : List UInt8 := [119, 97, 108, 45, 49, 50]
abbrev w0x : List UInt8 := [119, 97, 108, 45, 48, 48, 48, 48, 48, 120]
theorem w12_good : Good w12 := ⟨by simp, by decide, ok_cut (by decide)⟩
theorem w0x_good : Good w0x := ⟨by simp, by decide, ok_cut (by decide)⟩
theorem nmR_w12 {n : Nat} (h : n ≤ 1000000) : nmR n ≠ w12 := fun e => by
  have e2 := congrArg List.length e
  rcases nmR_two h with ⟨_, k⟩ | k
  · rw [k, nameP_len] at e2
    cases e2
  · rw [k] at e2
    cases e2
theorem nmR_w0x {n : Nat} (h : n ≤ 1000000) : nmR n ≠ w0x := fun e => by
  rcases nmR_two h with ⟨_, k⟩ | k
  · rw [k] at e
    have : (120 : UInt8) ∈ dgs 6 n := by
      have e2 : dgs 6 n = [48, 48, 48, 48, 48, 120] := congrArg (List.drop 4) e
      rw [e2]
      simp
    have := dgs_digit 6 n 120 this
    revert this
    decide
  · rw [k] at e
    cases e
/-- Names and files that have been taken. -/
structure InOk (ns : List (List UInt8)) (S : List ByS) : Prop where
  len : S.length = ns.length
  nodup : ns.Nodup
  form : ∀ q ∈ ns, ∃ n, n ≤ 1000000 ∧ q = nmR n
  size : ∀ s ∈ S, s.l.length < 20000
theorem InOk.nil : InOk [] [] := ⟨rfl, List.nodup_nil, fun _ h => absurd h List.not_mem_nil, fun _ h => absurd h List.not_mem_nil⟩
theorem InOk.snoc {ns : List (List UInt8)} {S : List ByS} (h : InOk ns S) {n : Nat} (hn : n ≤ 1000000) {s : ByS} (hs : s.l.length < 20000) (hq : ∀ x ∈ ns, x ≠ nmR n) : InOk (ns ++ [nmR n]) (S ++ [s]) :=
  ⟨by rw [List.length_append, List.length_append, h.len]; rfl, List.nodup_append.2 ⟨h.nodup, List.pairwise_singleton _ _, fun a ha b hb => by rw [List.mem_singleton.1 hb]; exact hq a ha⟩, fun q hq' => by
    rcases List.mem_append.1 hq' with h' | h'
    · exact h.form q h'
    · exact ⟨n, hn, List.mem_singleton.1 h'⟩, fun x hx => by
    rcases List.mem_append.1 hx with h' | h'
    · exact h.size x h'
    · rw [List.mem_singleton.1 h']
      exact hs⟩
theorem InOk.load {ns : List (List UInt8)} {S : List ByS} (h : InOk ns S) (hk : ns.length ≤ 20) {y z : ByS} (hy : y.l.length ≤ 5) (hz : z.l.length ≤ 5) : LoadOk (ns ++ [w12, w0x]) ((S ++ [y, z]).map ByS.l) where
  len := by rw [List.length_map, List.length_append, List.length_append, h.len]; rfl
  nodup := List.nodup_append.2 ⟨h.nodup, by decide, fun a ha b hb => by
    obtain ⟨n, hn, rfl⟩ := h.form a ha
    simp only [List.mem_cons, List.not_mem_nil, or_false] at hb
    rcases hb with rfl | rfl
    · exact nmR_w12 hn
    · exact nmR_w0x hn⟩
  good := fun q hq => by
    rcases List.mem_append.1 hq with hq | hq
    · obtain ⟨n, hn, rfl⟩ := h.form q hq
      exact nmR_good hn
    · simp only [List.mem_cons, List.not_mem_nil, or_false] at hq
      rcases hq with rfl | rfl
      · exact w12_good
      · exact w0x_good
  most := by rw [List.length_append]; simp; omega
  size := fun b hb => by
    obtain ⟨s, hs, rfl⟩ := List.mem_map.1 hb
    rcases List.mem_append.1 hs with hs | hs
    · have := h.size s hs
      omega
    · simp only [List.mem_cons, List.not_mem_nil, or_false] at hs
      rcases hs with rfl | rfl <;> omega
theorem foldl_seg_ge : ∀ {ns : List Nat} {s n : Nat}, (n ∈ ns → n + 1 ≤ ns.foldl segA s) ∧ s ≤ ns.foldl segA s
  | [], s, n => ⟨fun h => absurd h List.not_mem_nil, Nat.le_refl _⟩
  | m :: ns, s, n => by
    obtain ⟨h1, h2⟩ := foldl_seg_ge (ns := ns) (s := segA s m) (n := n)
    rw [List.foldl_cons]
    refine ⟨fun h => ?_, ?_⟩
    · rcases List.mem_cons.1 h with rfl | h
      · unfold segA at h2 ⊢
        omega
      · exact h1 h
    · unfold segA at h2 ⊢
      omega
theorem seg_new {P : DrP} {fr : Nat} (h1 : 1 ≤ fr) (h2 : P.seg fr ≤ 999999) : P.find (nameP (P.seg fr)) = none := by
  cases hf : P.find (nameP (P.seg fr)) with
  | none => rfl
  | some f =>
    obtain ⟨a, b⟩ := findG_some hf
    have h3 : fr ≤ P.seg fr := (foldl_seg_ge (ns := segsP P) (n := 0)).2
    have h4 : P.seg fr ∈ segsP P := segsN_of (by omega) h2 (by rw [← b]; exact List.mem_map_of_mem a)
    have h5 : P.seg fr + 1 ≤ P.seg fr := (foldl_seg_ge (s := fr)).1 h4
    omega
theorem seg_most {P : DrP} {fr : Nat} (h : fr ≤ 999999) : P.seg fr ≤ 1000000 := (foldl_seg_le (by omega) (fun n hn => (segsN_mem hn).2.1)).1
theorem payN_len {P : DrP} (h : P.Ok) (fr : Nat) : ∀ ns : List Nat, (payN P fr ns).length ≤ 60000 * ns.length
  | [] => Nat.zero_le _
  | n :: ns => by
    have := payN_len h fr ns
    show ((if fr ≤ n then P.segB n else []) ++ payN P fr ns).length ≤ _
    have hb : (P.segB n).length ≤ 60000 := by
      unfold DrP.segB
      have h1 := scanF_size (P.bytes (nameP n))
      have h2 : (P.bytes (nameP n)).length ≤ 262144 := by
        unfold DrP.bytes
        split
        · rename_i f hf
          exact h.size f (findG_some hf).1
        · simp
      omega
    rw [List.length_append, List.length_cons]
    split
    · omega
    · rw [List.length_nil]
      omega
theorem pay_most {P : DrP} (h : P.Ok) (fr : Nat) : (P.pay fr).length ≤ 17592186044415 := by
  have h1 := payN_len h fr (segsP P)
  have h2 : (segsP P).length ≤ 256 := by
    have := segsN_len (P.fs.map FiP.nm)
    rw [List.length_map] at this
    have := h.len
    show (segsN _).length ≤ _
    omega
  have : (P.pay fr).length ≤ 60000 * (segsP P).length := h1
  omega
end Go.Proofs.YtceanciekadkeaaGreatDoor
/- One's own lent to be read, and had back. -/
namespace Go.Proofs.YtceanciekadkeaaGreatDoor
section
variable {P : Program} {f : FuncId} {args : Array Value} {ι : Type} {res : ι → Value} {φ : ι → Prop}
end
end Go.Proofs.YtceanciekadkeaaGreatDoor
/- walks: the law's awake, cut; lists of payloads held against each other -/
namespace Go.Proofs.YtceanciekadkeaaGreatDoor
open Go.RowKit
theorem rows_r {w : World} {S : List ByS} (h : (payR S).holds w) : RowsR w (S.map ByS.v) (S.map ByS.l) := ⟨by simp, fun i v l hv hl => by
  rw [List.getElem?_map] at hv hl
  cases hi : S[i]? with
  | none => rw [hi] at hv; cases hv
  | some s =>
    rw [hi] at hv hl
    obtain rfl := Option.some.inj hv
    obtain rfl := Option.some.inj hl
    exact ⟨s.A, s.c, rfl, (h s.r (List.mem_map_of_mem (List.mem_of_getElem? hi))).2⟩⟩
theorem same_sl (A B : Option Addr) (c d : Nat) (S U : List ByS) (hS : S.length ≤ 17592186044415) (hU : U.length ≤ 17592186044415) : Fn Tryz.prog 12 #[.slice A S.length c, .slice B U.length d] [rdV A S, payR S, rdV B U, payR U] Unit (fun _ => .bool (decide (S.map ByS.l = U.map ByS.l))) (fun _ => []) (fun _ => True) :=
  Fn.of_below fun w hs => same_any A B S.length c U.length d (S.map ByS.v) (U.map ByS.v) (S.map ByS.l) (U.map ByS.l) w (sat_rd 0 rfl hs) (rows_r (hs.1 _ (by simp))) (sat_rd 2 rfl hs) (rows_r (hs.1 _ (by simp))) hS hU
/-- A log that was fed these payloads, one behind the other. -/
def Fed (P : DrP) (L : LgP) (qs : List (List UInt8)) : Prop := ∃ C G k, Liv P L [] 1 C G k ∧ allP C G = qs ∧ C.length ≤ qs.length ∧ L.dead = false ∧ P.left = none
theorem Fed.start : Fed DrP.new ⟨1, false⟩ [] :=
  ⟨[], [], 0, Liv.open_ (P := DrP.new) (N := 0) DrP.new_ok (fun _ h => absurd h List.not_mem_nil) (by omega) (fun _ h => absurd h List.not_mem_nil), rfl, Nat.le_refl _, rfl, rfl⟩
theorem Fed.seg {P : DrP} {L : LgP} {qs : List (List UInt8)} (h : Fed P L qs) : 1 ≤ L.seg ∧ L.seg ≤ qs.length + 1 := by
  obtain ⟨C, G, k, h1, _, h3, _, _⟩ := h
  have := h1.seg
  omega
theorem Fed.app {P : DrP} {L : LgP} {qs : List (List UInt8)} {p : List UInt8} (h : Fed P L qs) (hq : qs.length ≤ 200) (hp : p.length ≤ 4000) : (appL P L p).2.2 = 0 ∧ Fed (appL P L p).1 (appL P L p).2.1 (qs ++ [p]) := by
  have hsg := h.seg
  obtain ⟨C, G, k, h1, h2, h3, h4, h5⟩ := h
  have hsl : (sealL p).length ≤ 4110 := sealL_len p (by omega)
  obtain ⟨C', G', k', k1, k2, _, k4 | k4⟩ := h1.app (p := p) (by omega) h4 (by omega) (by rw [List.length_nil]; omega) hsl
  · obtain ⟨a, b, c, d, _⟩ := k4
    exact ⟨a, C', G', k', k1, by rw [b, h2], by rw [List.length_append, List.length_singleton]; omega, c, d h5⟩
  · exact absurd h5 k4.2.2.2
theorem Fed.pay {P : DrP} {L : LgP} {qs : List (List UInt8)} (h : Fed P L qs) (hq : qs.length ≤ 900000) : P.pay 1 = qs := by
  have hsg := h.seg
  obtain ⟨C, G, k, h1, h2, _⟩ := h
  rw [h1.pay (by omega), h2]
  rfl
theorem aw1 : appL DrP.new ⟨DrP.new.seg 1, false⟩ [1, 2, 3] = ((appL DrP.new ⟨DrP.new.seg 1, false⟩ [1, 2, 3]).1, ⟨DrP.new.seg 1, false⟩, 0) := by kernel_rfl
theorem aw2 : (appL DrP.new ⟨DrP.new.seg 1, false⟩ [1, 2, 3]).1.pay 1 = [[1, 2, 3]] := by kernel_rfl
theorem aw3 : (appL DrP.new ⟨DrP.new.seg 1, false⟩ [1, 2, 3]).1.loose [119, 97, 108, 45, 48, 48, 48, 48, 48, 49] = 8 := by kernel_rfl
theorem segment_sl (g d : Nat) (L : LgP) : Fn Tryz.prog 19 #[ptrV g] [rlgB g d L] Unit (fun _ => .int .i64 L.seg) (fun _ => []) (fun _ => True) := by
  refine Fn.enter Tryz.func19 rfl Tryz.ntmps19 (by rfl) ?_
  intro w0
  skip
  refine Cd.seq ?_
  refine Cd.region ?_
  refine Ls.ev (some 2) (Ev.assign (show Oper.op _ = Op.assign (Operand.const (Value.int IntKind.i64 0)) from rfl) (by rfl)) (by rfl) (by rfl) ?_
  refine Ls.nil ?_
  refine Cd.seq ?_
  refine Cd.region ?_
  refine Ls.ev (some 3) (Ev.move (show Oper.op _ = Op.move (Operand.tmp 0) from rfl) (by rfl)) (by rfl) (by rfl) ?_
  refine Ls.ev (some 4) (Ev.nilCheck (show Oper.op _ = Op.nilCheck (Operand.tmp 3) from rfl) (by rfl)) (by rfl) (by rfl) ?_
  refine Ls.ev (some 5) (Ev.fieldAddr (k := 1) (show Oper.op _ = Op.fieldAddr 70 (Operand.tmp 4) 1 from rfl) (by rfl) (by kernel_rfl) (by rfl)) (by rfl) (by rfl) ?_
  refine Ls.ev (some 6) (Ev.loadB 0 (show Oper.op _ = Op.load 3 (Operand.tmp 5) from rfl) (by rfl) (by rfl) (by kernel_rfl) (by rfl)) (by rfl) (by rfl) ?_
  refine Ls.ev (some 2) (Ev.assign (show Oper.op _ = Op.assign (Operand.tmp 6) from rfl) (by rfl)) (by rfl) (by rfl) ?_
  refine Ls.nil ?_
  refine Cd.ret ?_
  refine Ent.ret (()) (trivial) (Res.tmp (by rfl) (by rfl)) ?_ [] (by rfl) ?_
  · rfl
  · rfl
theorem pay_one {S : List ByS} {l : List UInt8} (h : S.map ByS.l = [l]) : ∃ A c, S = [⟨A, c, l⟩] := by
  cases S with
  | nil => cases h
  | cons s S =>
    cases S with
    | nil =>
      obtain ⟨A, c, l'⟩ := s
      obtain rfl : l' = l := by simpa using h
      exact ⟨A, c, rfl⟩
    | cons _ _ => simp at h
theorem awake_sl : Fn Tryz.prog 8 #[] [laidC] Unit (fun _ => .bool true) (fun _ => []) (fun _ => True) := by
  have hP := DrP.new_ok.append
  refine Fn.enter Tryz.func8 rfl Tryz.ntmps8 (by rfl) ?_
  intro w0
  refine Cd.seq ?_
  refine Cd.region ?_
  refine Ls.ev (some 0) (Ev.assign (show Oper.op _ = Op.assign (Operand.const (Value.bool false)) from rfl) (by rfl)) (by rfl) (by rfl) ?_
  refine Ls.nil ?_
  refine Cd.seq ?_
  refine Cd.region ?_
  refine Ls.does (some 5) (Does.call [0] (show Oper.op _ = Op.call { callee := Callee.value (Operand.func 7), args := #[], argTypes := #[] } from rfl) Tryz.func7 (by kernel_rfl) (by kernel_rfl) (new_sl) (by rfl) (by rfl) (by rfl)) (by rfl) (by rfl) ?_
  rintro D hD
  refine Ls.ev (some 1) (Ev.assign (show Oper.op _ = Op.assign (Operand.tmp 5) from rfl) (by rfl)) (by rfl) (by rfl) ?_
  refine Ls.nil ?_
  refine Cd.seq ?_
  refine Cd.seq ?_
  refine Cd.region ?_
  refine Ls.ev (some 6) (Ev.move (show Oper.op _ = Op.move (Operand.tmp 1) from rfl) (by rfl)) (by rfl) (by rfl) ?_
  refine Ls.ev (some 7) (Ev.ptrNil (show Oper.op _ = Op.binOp BinOp.eql 23 (Operand.tmp 6) (Operand.const (Value.pointer none)) 23 from rfl) (by rfl) (by rfl) Tryz.underlying23) (by rfl) (by rfl) ?_
  refine Ls.nil ?_
  refine Cd.cond_false (by rfl) (rfl) ?_
  refine Cd.skip ?_
  refine Cd.seq ?_
  refine Cd.region ?_
  refine Ls.ev (some 9) (Ev.move (show Oper.op _ = Op.move (Operand.tmp 1) from rfl) (by rfl)) (by rfl) (by rfl) ?_
  refine Ls.does (some 10) (Does.readN (show Oper.op _ = Op.call { callee := Callee.value (Operand.func 9), args := #[Operand.tmp 9, Operand.const (Value.int IntKind.i64 1)], argTypes := #[23, 3] } from rfl) Tryz.func9 (by kernel_rfl) (by kernel_rfl) (open_sl hD 1 (by omega) (by omega)) (by rfl) (by rfl) ⟨blkIn 0 (by rfl), mapIn 1 (by rfl), filIn 2 (by rfl), laidIn 3 (by rfl), trivial⟩ (fun _ => by rfl)) (by rfl) (by rfl) ?_
  rintro ⟨g, ⟨pA, pc⟩, S⟩ hS
  obtain rfl : S = [] := by
    have : S.map ByS.l = [] := hS
    simpa using this
  refine Ls.ev (some 8) (Ev.move (show Oper.op _ = Op.move (Operand.tmp 10) from rfl) (by rfl)) (by rfl) (by rfl) ?_
  refine Ls.ev (some 11) (Ev.extract (show Oper.op _ = Op.extract (Operand.tmp 8) 0 from rfl) (by rfl) (by rfl)) (by rfl) (by rfl) ?_
  refine Ls.ev (some 12) (Ev.extract (show Oper.op _ = Op.extract (Operand.tmp 8) 1 from rfl) (by rfl) (by rfl)) (by rfl) (by rfl) ?_
  refine Ls.ev (some 13) (Ev.extract (show Oper.op _ = Op.extract (Operand.tmp 8) 2 from rfl) (by rfl) (by rfl)) (by rfl) (by rfl) ?_
  refine Ls.ev (some 2) (Ev.assign (show Oper.op _ = Op.assign (Operand.tmp 11) from rfl) (by rfl)) (by rfl) (by rfl) ?_
  refine Ls.ev (some 3) (Ev.assign (show Oper.op _ = Op.assign (Operand.tmp 12) from rfl) (by rfl)) (by rfl) (by rfl) ?_
  refine Ls.ev (some 4) (Ev.assign (show Oper.op _ = Op.assign (Operand.tmp 13) from rfl) (by rfl)) (by rfl) (by rfl) ?_
  refine Ls.nil ?_
  refine Cd.seq ?_
  refine Cd.seq ?_
  refine Cd.region ?_
  refine Ls.ev (some 14) (Ev.move (show Oper.op _ = Op.move (Operand.tmp 2) from rfl) (by rfl)) (by rfl) (by rfl) ?_
  refine Ls.ev (some 15) (Ev.ptrNil (show Oper.op _ = Op.binOp BinOp.eql 26 (Operand.tmp 14) (Operand.const (Value.pointer none)) 26 from rfl) (by rfl) (by rfl) Tryz.underlying26) (by rfl) (by rfl) ?_
  refine Ls.ev (some 16) (Ev.move (show Oper.op _ = Op.move (Operand.tmp 15) from rfl) (by rfl)) (by rfl) (by rfl) ?_
  refine Ent.known 16 false (by rfl) (by exact (rfl)) ?_
  refine Ls.ev (some 17) (Ev.move (show Oper.op _ = Op.move (Operand.tmp 4) from rfl) (by rfl)) (by rfl) (by rfl) ?_
  refine Ls.ev (some 18) (Ev.neq (show Oper.op _ = Op.binOp BinOp.neq 27 (Operand.tmp 17) (Operand.const (Value.int IntKind.i64 0)) 27 from rfl) (by rfl) (by rfl)) (by rfl) (by rfl) ?_
  refine Ls.ev (some 19) (Ev.pickF (show Oper.op _ = Op.pick (Operand.tmp 16) (Operand.const (Value.bool true)) (Operand.tmp 18) from rfl) (by rfl) (by rfl)) (by rfl) (by rfl) ?_
  refine Ls.ev (some 20) (Ev.move (show Oper.op _ = Op.move (Operand.tmp 19) from rfl) (by rfl)) (by rfl) (by rfl) ?_
  skip
  refine Ent.known 20 false (by rfl) (by exact (decide_eq_false (show ¬ ((0 : Int) ≠ 0) from fun h => h rfl))) ?_
  refine Ls.ev (some 21) (Ev.move (show Oper.op _ = Op.move (Operand.tmp 3) from rfl) (by rfl)) (by rfl) (by rfl) ?_
  refine Ls.ev (some 22) (Ev.len (show Oper.op _ = Op.call { callee := Callee.builtin Builtin.len, args := #[Operand.tmp 21], argTypes := #[22] } from rfl) (by rfl) Tryz.underlying22) (by rfl) (by rfl) ?_
  refine Ls.ev (some 23) (Ev.neq (show Oper.op _ = Op.binOp BinOp.neq 3 (Operand.tmp 22) (Operand.const (Value.int IntKind.i64 0)) 3 from rfl) (by rfl) (by rfl)) (by rfl) (by rfl) ?_
  refine Ls.ev (some 24) (Ev.pickF (show Oper.op _ = Op.pick (Operand.tmp 20) (Operand.const (Value.bool true)) (Operand.tmp 23) from rfl) (by rfl) (by rfl)) (by rfl) (by rfl) ?_
  refine Ls.ev (some 25) (Ev.move (show Oper.op _ = Op.move (Operand.tmp 24) from rfl) (by rfl)) (by rfl) (by rfl) ?_
  skip
  refine Ent.known 25 false (by rfl) (by exact (decide_eq_false (show ¬ (((0 : Nat) : Int) ≠ 0) from fun h => h rfl))) ?_
  refine Ls.ev (some 26) (Ev.move (show Oper.op _ = Op.move (Operand.tmp 2) from rfl) (by rfl)) (by rfl) (by rfl) ?_
  skip
  refine Ls.does (some 27) (Does.read (show Oper.op _ = Op.call { callee := Callee.value (Operand.func 19), args := #[Operand.tmp 26], argTypes := #[26] } from rfl) Tryz.func19 (by kernel_rfl) (by kernel_rfl) (segment_sl g D.d ⟨DrP.new.seg 1, false⟩) (by rfl) (by rfl) ⟨blkIn 0 (by rfl), trivial⟩) (by rfl) (by rfl) ?_
  rintro _ -
  refine Ls.ev (some 28) (Ev.neq (show Oper.op _ = Op.binOp BinOp.neq 3 (Operand.tmp 27) (Operand.const (Value.int IntKind.i64 1)) 3 from rfl) (by rfl) (by rfl)) (by rfl) (by rfl) ?_
  refine Ls.ev (some 29) (Ev.pickF (show Oper.op _ = Op.pick (Operand.tmp 25) (Operand.const (Value.bool true)) (Operand.tmp 28) from rfl) (by rfl) (by rfl)) (by rfl) (by rfl) ?_
  refine Ls.ev (some 30) (Ev.move (show Oper.op _ = Op.move (Operand.tmp 29) from rfl) (by rfl)) (by rfl) (by rfl) ?_
  refine Ent.known 30 false (by rfl) (by exact (decide_eq_false (show ¬ ((((DrP.new.seg 1 : Nat)) : Int) ≠ 1) from fun h => h rfl))) ?_
  refine Ls.ev (some 31) (Ev.move (show Oper.op _ = Op.move (Operand.tmp 2) from rfl) (by rfl)) (by rfl) (by rfl) ?_
  refine Ls.does (some 32) (Does.lit (sz := 1) (show Oper.op _ = Op.buildSlice 30 3 #[(0, Operand.const (Value.int IntKind.u8 1)), (1, Operand.const (Value.int IntKind.u8 2)), (2, Operand.const (Value.int IntKind.u8 3))] from rfl) (by rfl) Tryz.underlying30 (by kernel_rfl) (by rfl) (by kernel_rfl)) (by rfl) (by rfl) ?_; intro g1 _
  skip
  refine Ent.pick [1, 4, 5, 6, 7, 0] (by rfl) ?_
  refine Ent.see 5 (by rfl) ?_
  refine Ls.does (some 33) (Does.call [0, 1, 2, 3, 4, 5, 4] (show Oper.op _ = Op.call { callee := Callee.value (Operand.func 11), args := #[Operand.tmp 31, Operand.tmp 32], argTypes := #[26, 30] } from rfl) Tryz.func11 (by kernel_rfl) (by kernel_rfl) (lappend_sl hD g ⟨DrP.new.seg 1, false⟩ (show 1 ≤ 1000000 by omega) _ 3 [1, 2, 3]) (by rfl) (by rfl) (by rfl)) (by rfl) (by rfl) ?_
  rintro D1 ⟨hD1, hd1, hm1⟩
  refine Ls.ev (some 34) (Ev.neq (show Oper.op _ = Op.binOp BinOp.neq 27 (Operand.tmp 33) (Operand.const (Value.int IntKind.i64 0)) 27 from rfl) (by rfl) (by rfl)) (by rfl) (by rfl) ?_
  refine Ls.ev (some 35) (Ev.pickF (show Oper.op _ = Op.pick (Operand.tmp 30) (Operand.const (Value.bool true)) (Operand.tmp 34) from rfl) (by rfl) (by rfl)) (by rfl) (by rfl) ?_
  refine Ls.nil ?_
  refine Cd.cond_false (by rfl) ((by rw [show (appL DrP.new ⟨DrP.new.seg 1, false⟩ [1, 2, 3]).2.2 = 0 from congrArg (fun x => x.2.2) aw1]; rfl)) ?_
  refine Cd.skip ?_
  refine Cd.seq ?_
  refine Cd.region ?_
  refine Ls.ev (some 37) (Ev.move (show Oper.op _ = Op.move (Operand.tmp 1) from rfl) (by rfl)) (by rfl) (by rfl) ?_
  have hp1 : D1.ptr = D.ptr := by rw [DrS.ptr, hd1]
  have ho1 := open_sl hD1 1 (by omega) (by omega)
  have hl1 := loose_sl hD1 [119, 97, 108, 45, 48, 48, 48, 48, 48, 49] (by decide)
  rw [hp1] at ho1 hl1
  rw [aw3] at hl1
  refine Ls.does (some 38) (Does.readN (show Oper.op _ = Op.call { callee := Callee.value (Operand.func 9), args := #[Operand.tmp 37, Operand.const (Value.int IntKind.i64 1)], argTypes := #[23, 3] } from rfl) Tryz.func9 (by kernel_rfl) (by kernel_rfl) (ho1) (by rfl) (by rfl) ⟨blkIn 1 (by rfl), mapIn 2 (by rfl), filIn 3 (by rfl), laidIn 4 (by rfl), trivial⟩ (fun _ => by rfl)) (by rfl) (by rfl) ?_
  rintro ⟨g2, ⟨qA, qc⟩, S2⟩ hS2
  obtain ⟨rA, rc, rfl⟩ := pay_one (hS2.trans aw2)
  dsimp only
  refine Ls.ev (some 36) (Ev.move (show Oper.op _ = Op.move (Operand.tmp 38) from rfl) (by rfl)) (by rfl) (by rfl) ?_
  refine Ls.ev (some 39) (Ev.extract (show Oper.op _ = Op.extract (Operand.tmp 36) 0 from rfl) (by rfl) (by rfl)) (by rfl) (by rfl) ?_
  refine Ls.ev (some 40) (Ev.extract (show Oper.op _ = Op.extract (Operand.tmp 36) 1 from rfl) (by rfl) (by rfl)) (by rfl) (by rfl) ?_
  refine Ls.ev (some 41) (Ev.extract (show Oper.op _ = Op.extract (Operand.tmp 36) 2 from rfl) (by rfl) (by rfl)) (by rfl) (by rfl) ?_
  refine Ls.ev (some 3) (Ev.assign (show Oper.op _ = Op.assign (Operand.tmp 40) from rfl) (by rfl)) (by rfl) (by rfl) ?_
  refine Ls.ev (some 4) (Ev.assign (show Oper.op _ = Op.assign (Operand.tmp 41) from rfl) (by rfl)) (by rfl) (by rfl) ?_
  refine Ls.nil ?_
  refine Cd.seq ?_
  refine Cd.region ?_
  refine Ls.ev (some 42) (Ev.move (show Oper.op _ = Op.move (Operand.tmp 4) from rfl) (by rfl)) (by rfl) (by rfl) ?_
  refine Ls.ev (some 43) (Ev.eql (show Oper.op _ = Op.binOp BinOp.eql 27 (Operand.tmp 42) (Operand.const (Value.int IntKind.i64 0)) 27 from rfl) (by rfl) (by rfl)) (by rfl) (by rfl) ?_
  refine Ls.ev (some 44) (Ev.move (show Oper.op _ = Op.move (Operand.tmp 43) from rfl) (by rfl)) (by rfl) (by rfl) ?_
  refine Ent.known 44 true (by rfl) (by exact (decide_eq_true (show (0 : Int) = 0 from rfl))) ?_
  refine Ls.ev (some 45) (Ev.move (show Oper.op _ = Op.move (Operand.tmp 3) from rfl) (by rfl)) (by rfl) (by rfl) ?_
  refine Ls.ev (some 46) (Ev.len (show Oper.op _ = Op.call { callee := Callee.builtin Builtin.len, args := #[Operand.tmp 45], argTypes := #[22] } from rfl) (by rfl) Tryz.underlying22) (by rfl) (by rfl) ?_
  refine Ls.ev (some 47) (Ev.eql (show Oper.op _ = Op.binOp BinOp.eql 3 (Operand.tmp 46) (Operand.const (Value.int IntKind.i64 1)) 3 from rfl) (by rfl) (by rfl)) (by rfl) (by rfl) ?_
  refine Ls.ev (some 48) (Ev.pickT (show Oper.op _ = Op.pick (Operand.tmp 44) (Operand.tmp 47) (Operand.const (Value.bool false)) from rfl) (by rfl) (by rfl)) (by rfl) (by rfl) ?_
  refine Ls.ev (some 49) (Ev.move (show Oper.op _ = Op.move (Operand.tmp 48) from rfl) (by rfl)) (by rfl) (by rfl) ?_
  skip
  refine Ent.rowSome 1 (by rfl) (by simp) (fun ad had => ?_)
  obtain rfl : qA = some ad := had
  refine Ent.map (fun w hs => paySee 2 rfl hs) ?_
  refine Ent.map (fun w hs => payGet 2 rfl List.mem_cons_self hs) ?_
  skip
  refine Ent.known 49 true (by rfl) (by exact (decide_eq_true (show ((1 : Nat) : Int) = 1 from rfl))) ?_
  refine Ls.ev (some 50) (Ev.move (show Oper.op _ = Op.move (Operand.tmp 3) from rfl) (by rfl)) (by rfl) (by rfl) ?_
  refine Ls.ev (some 51) (Ev.indexAt (k := 0) (sz := 1) (show Oper.op _ = Op.indexAddr 22 (Operand.tmp 50) (Operand.const (Value.int IntKind.i64 0)) from rfl) (by rfl) (by rfl) Tryz.underlying22 (by kernel_rfl) (by simp)) (by rfl) (by rfl) ?_
  refine Ls.ev (some 52) (Ev.loadV (show Oper.op _ = Op.load 30 (Operand.tmp 51) from rfl) (by rfl) (ReadsIn.row 2 (by rfl)) (by kernel_rfl) (by rfl)) (by rfl) (by rfl) ?_
  refine Ls.ev (some 53) (Ev.textOf (show Oper.op _ = Op.convert 30 9 (Operand.tmp 52) from rfl) (by rfl) (ReadsIn.rd 0 (by rfl)) Tryz.underlying30 Tryz.underlying5 Tryz.underlying9) (by rfl) (by rfl) ?_
  refine Ls.ev (some 54) (Ev.eqlS (show Oper.op _ = Op.binOp BinOp.eql 9 (Operand.tmp 53) (Operand.const (Value.string { data := #[1, 2, 3] })) 9 from rfl) (by rfl) (by rfl)) (by rfl) (by rfl) ?_
  refine Ls.ev (some 55) (Ev.pickT (show Oper.op _ = Op.pick (Operand.tmp 49) (Operand.tmp 54) (Operand.const (Value.bool false)) from rfl) (by rfl) (by rfl)) (by rfl) (by rfl) ?_
  refine Ls.ev (some 56) (Ev.move (show Oper.op _ = Op.move (Operand.tmp 55) from rfl) (by rfl)) (by rfl) (by rfl) ?_
  refine Ent.known 56 true (by rfl) (by exact (decide_eq_true (show txt [1, 2, 3] = ⟨#[1, 2, 3]⟩ from rfl))) ?_
  refine Ls.ev (some 57) (Ev.move (show Oper.op _ = Op.move (Operand.tmp 1) from rfl) (by rfl)) (by rfl) (by rfl) ?_
  skip
  refine Ls.does (some 58) (Does.read (show Oper.op _ = Op.call { callee := Callee.value (Operand.func 25), args := #[Operand.tmp 57, Operand.const (Value.string { data := #[119, 97, 108, 45, 48, 48, 48, 48, 48, 49] })], argTypes := #[23, 9] } from rfl) Tryz.func25 (by kernel_rfl) (by kernel_rfl) (hl1) (by rfl) (by rfl) ⟨blkIn 5 (by rfl), mapIn 6 (by rfl), filIn 7 (by rfl), trivial⟩) (by rfl) (by rfl) ?_
  rintro _ -
  refine Ls.ev (some 59) (Ev.gtr (show Oper.op _ = Op.binOp BinOp.gtr 3 (Operand.tmp 58) (Operand.const (Value.int IntKind.i64 0)) 3 from rfl) (by rfl) (by rfl)) (by rfl) (by rfl) ?_
  refine Ls.ev (some 60) (Ev.pickT (show Oper.op _ = Op.pick (Operand.tmp 56) (Operand.tmp 59) (Operand.const (Value.bool false)) from rfl) (by rfl) (by rfl)) (by rfl) (by rfl) ?_
  refine Ls.ev (some 0) (Ev.assign (show Oper.op _ = Op.assign (Operand.tmp 60) from rfl) (by rfl)) (by rfl) (by rfl) ?_
  refine Ls.nil ?_
  refine Cd.ret ?_
  refine Ent.ret (()) (trivial) (Res.tmp (by rfl) (by rfl)) ?_ [] (by rfl) ?_
  · rfl
  · rfl
end Go.Proofs.YtceanciekadkeaaGreatDoor
/-
  Arguments: lists of numbers and of texts, wherever they lie.
-/
namespace Go.Proofs.YtceanciekadkeaaGreatDoor
open Go.RowKit
section
variable {P : Program} {w : World}
theorem wf_bd {x : Int} (h : (Lit.int .i64 x).wf = true) : -9223372036854775808 ≤ x ∧ x ≤ 9223372036854775807 := by
  have h1 : IntKind.i64.min = -9223372036854775808 := by decide
  have h2 : IntKind.i64.max = 9223372036854775807 := by decide
  simpa only [Lit.wf, h1, h2, Bool.and_eq_true, decide_eq_true_eq] using h
theorem cel_slice1 {α : Type} [Inhabited α] {f : α → Value} {Q : α → Prop} {n : Nat} {t e : TypeId} {cs : List Value} (ht : P.underlying t = some (.slice e)) (hm : P.cellsOf e = 1) (hcel : ∀ (n : Nat) (cs : List Value), Cel P w n e cs → ∃ a, cs = [f a] ∧ Q a) (h : Cel P w n t cs) :
    ∃ A c l, cs = [.slice A (List.length l) c] ∧ Reads w w.heap.size 1 A l.length (l.map f) ∧ (∀ a ∈ l, Q a) ∧ l.length ≤ c ∧ c * P.bytesOf e ≤ reachBytes := by
  rcases cel_slice ht h with rfl | ⟨a, len, cap, rfl, hl, hmx, hb, hc⟩
  · exact ⟨none, 0, [], rfl, Reads.none_, by simp, Nat.le_refl _, by simp⟩
  · rw [hm] at hc
    have hrow : ∀ i, i < len → ∃ x : α, w.cell? (a.add i) = some (f x) ∧ Q x := by
      intro i hi
      obtain ⟨k, cs, h1, h2, h3⟩ := hc i (by omega)
      obtain ⟨x, rfl, hx⟩ := hcel k cs h3
      have := h2 0 (by omega)
      rw [add_of_add] at this
      exact ⟨x, by simpa using this, hx⟩
    obtain ⟨xs, hxl, hx⟩ := choose_rows hrow
    subst hxl
    refine ⟨some a, cap, xs, rfl, ⟨by simp, fun hn => ⟨a, rfl, ?_, fun j u hu => ?_⟩⟩, fun y hy => ?_, hl, hb⟩
    · obtain ⟨x, _, h1, _⟩ := hx 0 hn
      have := World.block_lt_of_cell? w _ h1
      rwa [block_of_add] at this
    · rw [List.getElem?_map] at hu
      obtain ⟨y, hy, rfl⟩ := Option.map_eq_some_iff.1 hu
      obtain ⟨x, h1, h2, _⟩ := hx j (List.getElem?_eq_some_iff.1 hy).1
      rw [hy] at h1
      injection h1 with h1
      rw [h1, h2]
    · obtain ⟨i, hi⟩ := List.mem_iff_getElem?.1 hy
      obtain ⟨x, h1, _, h2⟩ := hx i (List.getElem?_eq_some_iff.1 hi).1
      rw [hi] at h1
      injection h1 with h1
      rw [h1]
      exact h2
theorem cel_ints {n : Nat} {t e : TypeId} {cs : List Value} (ht : P.underlying t = some (.slice e)) (he : P.underlying e = some (.int .i64)) (hm : P.cellsOf e = 1) (hb : P.bytesOf e = 8) (h : Cel P w n t cs) :
    ∃ A c xs, cs = [.slice A (List.length xs) c] ∧ Reads w w.heap.size 1 A xs.length (ints xs) ∧ (∀ x ∈ xs, -9223372036854775808 ≤ x ∧ x ≤ 9223372036854775807) ∧ xs.length ≤ 17592186044415 := by
  obtain ⟨A, c, l, rfl, hr, hq, hc, hbb⟩ := cel_slice1 (f := Value.int .i64) (Q := fun x => -9223372036854775808 ≤ x ∧ x ≤ 9223372036854775807) ht hm (fun n cs h => by
    obtain ⟨m, rfl, hw⟩ := cel_int he h
    exact ⟨m, rfl, wf_bd hw⟩) h
  rw [hb] at hbb
  unfold reachBytes at hbb
  exact ⟨A, c, l, rfl, hr, hq, by omega⟩
theorem val_cel {t e : TypeId} {v : Value} (ht : P.underlying t = some (.slice e)) (h : Val P w t v) : ∃ n, Cel P w n t [v] := by
  simp only [Val, ht] at h
  exact h.2
theorem val_ints {t e : TypeId} {v : Value} (ht : P.underlying t = some (.slice e)) (he : P.underlying e = some (.int .i64)) (hm : P.cellsOf e = 1) (hb : P.bytesOf e = 8) (h : Val P w t v) :
    ∃ A c xs, v = .slice A (List.length xs) c ∧ Reads w w.heap.size 1 A xs.length (ints xs) ∧ (∀ x ∈ xs, -9223372036854775808 ≤ x ∧ x ≤ 9223372036854775807) ∧ xs.length ≤ 17592186044415 := by
  obtain ⟨n, h⟩ := val_cel ht h
  obtain ⟨A, c, xs, e1, h1⟩ := cel_ints ht he hm hb h
  exact ⟨A, c, xs, by simpa using e1, h1⟩
end
end Go.Proofs.YtceanciekadkeaaGreatDoor
/- WalOwn: the walk -/
namespace Go.Proofs.YtceanciekadkeaaGreatDoor
open Go.RowKit
section
variable {Γ : Ctx} {H : List Chunk} {w : World} {α : Type} {F : α → Chunk}
end
def ByS.ok (W : World) (s : ByS) : Prop := Reads W W.heap.size 1 s.A s.l.length (u8s s.l) ∧ s.l.length ≤ s.c ∧ s.l.length ≤ 140737488351232
theorem cel_bys {w : World} {n : Nat} {cs : List Value} (h : Cel Tryz.prog w n 30 cs) : ∃ s : ByS, cs = [s.v] ∧ s.ok w := by
  rcases cel_slice Tryz.underlying30 h with rfl | ⟨a2, len2, cap2, rfl, hl2, hm2, hb2, hc2⟩
  · exact ⟨⟨none, 0, []⟩, rfl, ⟨Reads.none_, Nat.le_refl 0, by show (0 : Nat) ≤ 140737488351232; omega⟩⟩
  · obtain ⟨l, hr⟩ := bytes_of w a2 len2 cap2 hl2 hc2
    rw [bytes_u8] at hb2
    unfold reachBytes at hb2
    have hll := hr.len_
    subst hll
    exact ⟨⟨some a2, cap2, l⟩, rfl, hr, hl2, by show l.length ≤ _; omega⟩
theorem cells_bys : Tryz.prog.cellsOf 30 = 1 := by kernel_rfl
theorem bytes_bys : Tryz.prog.bytesOf 30 = 24 := by kernel_rfl
set_option maxRecDepth 100000 in
theorem val_pay {W : World} {v : Value} (h : Val Tryz.prog W 22 v) : ∃ A c S, v = .slice A (List.length S) c ∧ Reads W W.heap.size 1 A S.length (S.map ByS.v) ∧ (∀ s ∈ S, ByS.ok W s) ∧ S.length ≤ c ∧ c ≤ 5864062014634 := by
  obtain ⟨n, h⟩ := @val_cel Tryz.prog W 22 30 v Tryz.underlying22 h
  obtain ⟨A, c, S, e, hr, hq, hc, hb⟩ := cel_slice1 (f := ByS.v) (Q := ByS.ok W) Tryz.underlying22 cells_bys (fun n cs h => cel_bys h) h
  rw [bytes_bys] at hb
  unfold reachBytes at hb
  exact ⟨A, c, S, by simpa using e, hr, hq, hc, by omega⟩
end Go.Proofs.YtceanciekadkeaaGreatDoor
