/- PROVED HERE: RpcOnce: for every input the law of layer 11 answers true and its input reads as before: whatever order the sendings of calls come in, each is new at most once, and is answered again with its reply till a greater one is seen. No conditions. -/
import Derived.Test.YtgidkjfakecniaaRsF
import Derived.Test.YtgidkjfakecniaaSlV
import Derived.Test.YtgidkjfakecniaaRows
import Derived.Test.YtgidkjfakecniaaChecked
namespace Go.Proofs.Ytgidkjfakecniaa
open Go.RowKit
structure OnceI where
  k : Nat
  gr : Int
  S : Int → SeenD
  n : Nat
  A : Option Addr
  c : Nat
  dl : List Int
theorem u64_bd (x : Int) : 0 ≤ IntKind.u64.wrap x ∧ IntKind.u64.wrap x < 18446744073709551616 := by rw [IntKind.wrap_u64]; omega


set_option maxHeartbeats 4000000 in
theorem once_sl (W : World) (q : Int) (hq : -9223372036854775808 ≤ q ∧ q ≤ 9223372036854775807) (B : Option Addr) (d : Nat) (ids : List Int) (hids : ids.length ≤ 17592186044415) (hr : Reads W W.heap.size 1 B ids.length (ints ids)) :
    Fn Try.prog 7 #[.int .i64 q, .slice B ids.length d] [argc W] Unit (fun _ => .bool true) (fun _ => []) (fun _ => True) := by
  refine Fn.enter Try.func7 rfl Try.ntmps7 (by rfl) ?_
  intro w0
  refine Cd.seq ?_
  refine Cd.region ?_
  refine Ls.ev (some 4) (Ev.assign (show Oper.op _ = Op.assign (Operand.const (Value.bool false)) from rfl) (by rfl)) (by rfl) (by rfl) ?_
  refine Ls.nil ?_
  refine Cd.seq ?_
  refine Cd.region ?_
  refine Ls.does (some 15) (Does.call [0] (show Oper.op _ = Op.call { callee := Callee.value (Operand.func 22), args := #[], argTypes := #[] } from rfl) Try.func22 (by kernel_rfl) (by kernel_rfl) (newWindow_sl) (by rfl) (by rfl) (by rfl)) (by rfl) (by rfl) ?_
  rintro ⟨g, b⟩ _
  refine Ls.ev (some 5) (Ev.assign (show Oper.op _ = Op.assign (Operand.tmp 15) from rfl) (by rfl)) (by rfl) (by rfl) ?_
  refine Ls.nil ?_
  refine Cd.seq ?_
  refine Cd.seq ?_
  refine Cd.region ?_
  refine Ls.does (some 16) (Does.call [0, 1, 2, 3] (show Oper.op _ = Op.call { callee := Callee.value (Operand.func 9), args := #[], argTypes := #[] } from rfl) Try.func9 (by kernel_rfl) (by kernel_rfl) (awake_sl) (by rfl) (by rfl) (by rfl)) (by rfl) (by rfl) ?_
  intro _ _
  refine Ls.ev (some 17) (Ev.not (show Oper.op _ = Op.unOp UnOp.not 4 (Operand.tmp 16) from rfl) (by rfl)) (by rfl) (by rfl) ?_
  refine Ls.ev (some 18) (Ev.move (show Oper.op _ = Op.move (Operand.tmp 17) from rfl) (by rfl)) (by rfl) (by rfl) ?_
  refine Ls.ev (some 19) (Ev.move (show Oper.op _ = Op.move (Operand.tmp 5) from rfl) (by rfl)) (by rfl) (by rfl) ?_
  refine Ls.ev (some 20) (Ev.ptrNil (show Oper.op _ = Op.binOp BinOp.eql 66 (Operand.tmp 19) (Operand.const (Value.pointer none)) 66 from rfl) (by rfl) (by rfl) Try.underlying66) (by rfl) (by rfl) ?_
  refine Ls.ev (some 21) (Ev.pickF (show Oper.op _ = Op.pick (Operand.tmp 18) (Operand.const (Value.bool true)) (Operand.tmp 20) from rfl) (by rfl) (by rfl)) (by rfl) (by rfl) ?_
  refine Ls.nil ?_
  refine Cd.cond_false (by rfl) (rfl) ?_
  refine Cd.skip ?_
  refine Cd.seq ?_
  refine Cd.region ?_
  refine Ls.ev (some 6) (Ev.assign (show Oper.op _ = Op.assign (Operand.const (Value.int IntKind.i64 0)) from rfl) (by rfl)) (by rfl) (by rfl) ?_
  refine Ls.nil ?_
  refine Cd.seq ?_
  refine Cd.region ?_
  refine Ls.ev (some 7) (Ev.assign (show Oper.op _ = Op.assign (Operand.const (Value.slice none 0 0)) from rfl) (by rfl)) (by rfl) (by rfl) ?_
  refine Ls.nil ?_
  refine Cd.seq ?_
  refine Cd.seq ?_
  refine Cd.region ?_
  refine Ls.ev (some 8) (Ev.assign (show Oper.op _ = Op.assign (Operand.const (Value.int IntKind.i64 0)) from rfl) (by rfl)) (by rfl) (by rfl) ?_
  refine Ls.nil ?_
  refine Cd.block ?_
  refine Ent.nil 3 1 ?_
  refine Cd.loop (ι := OnceI) (fun j => [(0, .int .i64 q), (1, .slice B ids.length d), (5, .pointer (some ⟨g, 0, none⟩)), (6, .int .i64 j.gr), (7, .slice j.A j.dl.length j.c), (8, .int .i64 j.k)]) (fun j => [row j.A j.dl.length j.c 3 1 (ints j.dl), winB g b, winM b j.n j.S, winS j.S, argc W]) (fun j => j.gr = (j.S q).id ∧ j.k ≤ 80 ∧ j.n ≤ 2 * j.k ∧ j.dl.length ≤ j.k ∧ (∀ x ∈ j.dl, x ≤ (j.S q).id) ∧ (0 ≤ (j.S q).id ∧ (j.S q).id ≤ 9) ∧ ((j.S q).id = 0 ∨ ((j.S q).dn = true ∧ (j.S q).ep = (j.S q).id ∧ (j.S q).xs = []))) (fun j => 80 - j.k) (⟨0, 0, fun _ => SeenD.zero, 0, none, 0, []⟩) (by refine ⟨rfl, by decide, by decide, by decide, ?_, ⟨by simp [SeenD.zero], by simp [SeenD.zero]⟩, Or.inl rfl⟩; intro x hx; cases hx) ?_ rfl ?_
  · (repeat (first | exact trivial | refine ⟨by rfl, ?_⟩))
  rintro ⟨k, gr, S, n, A, c, dl⟩ ⟨hgr, h1, h2, h3, h4, h5, h6⟩
  dsimp only at hgr h1 h2 h3 h4 h5 h6 ⊢
  subst hgr
  refine Cd.seq ?_
  refine Cd.seq ?_
  refine Cd.region ?_
  refine Ls.ev (some 22) (Ev.move (show Oper.op _ = Op.move (Operand.tmp 8) from rfl) (by rfl)) (by rfl) (by rfl) ?_
  refine Ls.ev (some 23) (Ev.move (show Oper.op _ = Op.move (Operand.tmp 1) from rfl) (by rfl)) (by rfl) (by rfl) ?_
  refine Ls.ev (some 24) (Ev.len (show Oper.op _ = Op.call { callee := Callee.builtin Builtin.len, args := #[Operand.tmp 23], argTypes := #[23] } from rfl) (by rfl) Try.underlying23) (by rfl) (by rfl) ?_
  refine Ls.ev (some 25) (Ev.lss (show Oper.op _ = Op.binOp BinOp.lss 3 (Operand.tmp 22) (Operand.tmp 24) 3 from rfl) (by rfl) (by rfl)) (by rfl) (by rfl) ?_
  refine Ls.ev (some 26) (Ev.move (show Oper.op _ = Op.move (Operand.tmp 25) from rfl) (by rfl)) (by rfl) (by rfl) ?_
  refine Ent.split 26 (by rfl) (fun h => ?_) (fun h => ?_)
  · skip
    refine Ls.pass (some 27) (by rfl) (by rfl) ?_
    refine Ls.pass (some 28) (by rfl) (by rfl) ?_
    refine Ls.ev (some 29) (Ev.pickF (show Oper.op _ = Op.pick (Operand.tmp 26) (Operand.tmp 28) (Operand.const (Value.bool false)) from rfl) (by rfl) (by rfl)) (by rfl) (by rfl) ?_
    refine Ls.nil ?_
    refine Cd.cond_false (by rfl) (rfl) ?_
    refine Cd.exit ?_
    refine Cd.seq ?_
    refine Cd.region ?_
    refine Ls.ev (some 4) (Ev.assign (show Oper.op _ = Op.assign (Operand.const (Value.bool true)) from rfl) (by rfl)) (by rfl) (by rfl) ?_
    refine Ls.nil ?_
    refine Cd.ret ?_
    refine Ent.ret (()) (trivial) (Res.tmp (by rfl) (by rfl)) ?_ [] (by rfl) ?_
    · rfl
    · rfl
  skip
  have hlt : k < ids.length := by have := of_decide_eq_true h; omega
  refine Ls.ev (some 27) (Ev.move (show Oper.op _ = Op.move (Operand.tmp 8) from rfl) (by rfl)) (by rfl) (by rfl) ?_
  refine Ls.ev (some 28) (Ev.lss (show Oper.op _ = Op.binOp BinOp.lss 3 (Operand.tmp 27) (Operand.const (Value.int IntKind.i64 80)) 3 from rfl) (by rfl) (by rfl)) (by rfl) (by rfl) ?_
  refine Ls.ev (some 29) (Ev.pickT (show Oper.op _ = Op.pick (Operand.tmp 26) (Operand.tmp 28) (Operand.const (Value.bool false)) from rfl) (by rfl) (by rfl)) (by rfl) (by rfl) ?_
  refine Ls.nil ?_
  refine Cd.cond _ (by rfl) (fun h7 => ?_) (fun h7 => ?_)
  · skip
    have h7 : k < 80 := by have := of_decide_eq_true h7; omega
    obtain ⟨u, hu⟩ := get_of_lt hlt
    refine Ent.arg 4 (by rfl) hr ?_
    refine Ent.rdSome 0 (by rfl) (by omega) (fun ax hax => ?_)
    subst hax
    have hw := u64_bd u
    refine Cd.skip ?_
    refine Cd.seq ?_
    refine Cd.block ?_
    refine Cd.seq ?_
    refine Cd.region ?_
    refine Ls.ev (some 32) (Ev.move (show Oper.op _ = Op.move (Operand.tmp 1) from rfl) (by rfl)) (by rfl) (by rfl) ?_
    refine Ls.ev (some 33) (Ev.move (show Oper.op _ = Op.move (Operand.tmp 8) from rfl) (by rfl)) (by rfl) (by rfl) ?_
    refine Ls.ev (some 34) (Ev.indexAt (sz := 1) (show Oper.op _ = Op.indexAddr 23 (Operand.tmp 32) (Operand.tmp 33) from rfl) (by rfl) (by rfl) Try.underlying23 (by kernel_rfl) (by omega)) (by rfl) (by rfl) ?_
    refine Ls.ev (some 35) (Ev.loadInt (show Oper.op _ = Op.load 3 (Operand.tmp 34) from rfl) (by rfl) (ReadsIn.rd 0 (by rfl)) (by kernel_rfl) (by assumption)) (by rfl) (by rfl) ?_
    refine Ls.ev (some 36) (Ev.conv (show Oper.op _ = Op.convert 3 45 (Operand.tmp 35) from rfl) (by rfl) (by kernel_rfl) Try.underlying45) (by rfl) (by rfl) ?_
    refine Ls.ev (some 37) (Ev.remI (show Oper.op _ = Op.binOp BinOp.rem 45 (Operand.tmp 36) (Operand.const (Value.int IntKind.u64 9)) 45 from rfl) (by rfl) (by rfl) (by omega)) (by rfl) (by rfl) ?_
    refine Ls.ev (some 38) (Ev.convI (show Oper.op _ = Op.convert 45 3 (Operand.tmp 37) from rfl) (by rfl) (by kernel_rfl) Try.underlying3 (by omega)) (by rfl) (by rfl) ?_
    refine Ls.ev (some 39) (Ev.addI (show Oper.op _ = Op.binOp BinOp.add 3 (Operand.tmp 38) (Operand.const (Value.int IntKind.i64 1)) 3 from rfl) (by rfl) (by rfl) (by omega)) (by rfl) (by rfl) ?_
    refine Ls.ev (some 9) (Ev.assign (show Oper.op _ = Op.assign (Operand.tmp 39) from rfl) (by rfl)) (by rfl) (by rfl) ?_
    refine Ls.nil ?_
    refine Cd.seq ?_
    refine Cd.region ?_
    refine Ls.ev (some 41) (Ev.move (show Oper.op _ = Op.move (Operand.tmp 5) from rfl) (by rfl)) (by rfl) (by rfl) ?_
    refine Ls.ev (some 42) (Ev.move (show Oper.op _ = Op.move (Operand.tmp 0) from rfl) (by rfl)) (by rfl) (by rfl) ?_
    refine Ls.ev (some 43) (Ev.move (show Oper.op _ = Op.move (Operand.tmp 9) from rfl) (by rfl)) (by rfl) (by rfl) ?_
    obtain ⟨idx, hidx⟩ : ∃ v, v = IntKind.u64.wrap u % 9 + 1 := ⟨_, rfl⟩
    rw [← hidx]
    have hi9 : 1 ≤ idx ∧ idx ≤ 9 := by omega
    clear hidx hw
    have hid : -9223372036854775808 ≤ idx ∧ idx ≤ 9223372036854775807 := by omega
    rcases Int.lt_trichotomy (S q).id idx with hc | hc | hc
    · skip
      skip
      refine Ls.does (some 44) (Does.call [2, 3, 4, 0, 1, 5] (show Oper.op _ = Op.call { callee := Callee.value (Operand.func 25), args := #[Operand.tmp 41, Operand.tmp 42, Operand.tmp 43], argTypes := #[66, 3, 3] } from rfl) Try.func25 (by kernel_rfl) (by kernel_rfl) (see_new g b n S q idx hq (by omega) hc) (by rfl) (by rfl) (by rfl)) (by rfl) (by rfl) ?_
      intro _ _
      refine Ls.ev (some 40) (Ev.move (show Oper.op _ = Op.move (Operand.tmp 44) from rfl) (by rfl)) (by rfl) (by rfl) ?_
      refine Ls.ev (some 45) (Ev.extract (show Oper.op _ = Op.extract (Operand.tmp 40) 0 from rfl) (by rfl) (by rfl)) (by rfl) (by rfl) ?_
      refine Ls.ev (some 46) (Ev.extract (show Oper.op _ = Op.extract (Operand.tmp 40) 1 from rfl) (by rfl) (by rfl)) (by rfl) (by rfl) ?_
      refine Ls.does (some 11) (Does.alloc (cs := [.int .i64 0, .int .i64 0, .int .i64 0, .slice none 0 0]) (show Oper.op _ = Op.alloc 39 from rfl) (ZeroIs.mk (.agg #[.int .i64 0, .int .i64 0, .int .i64 0, .slice none 0 0]) (by kernel_rfl) (by rfl))) (by rfl) (by rfl) ?_
      intro g1 _
      refine Ls.ev (some 10) (Ev.assign (show Oper.op _ = Op.assign (Operand.tmp 45) from rfl) (by rfl)) (by rfl) (by rfl) ?_
      refine Ls.does none (Does.store 0 (show Oper.op _ = Op.store 39 (Operand.tmp 11) (Operand.tmp 46) from rfl) (by rfl) (by rfl) (by rfl) (by kernel_rfl) (by rfl) (by kernel_rfl) (by rfl)) (by rfl) (by rfl) ?_
      intro _ _
      refine Ls.nil ?_
      refine Cd.seq ?_
      refine Cd.region ?_
      refine Ls.ev (some 12) (Ev.assign (show Oper.op _ = Op.assign (Operand.const (Value.bool false)) from rfl) (by rfl)) (by rfl) (by rfl) ?_
      refine Ls.nil ?_
      refine Cd.seq ?_
      refine Cd.seq ?_
      refine Cd.region ?_
      refine Ls.ev (some 47) (Ev.move (show Oper.op _ = Op.move (Operand.tmp 7) from rfl) (by rfl)) (by rfl) (by rfl) ?_
      refine Ls.ev (some 48) (Ev.len (show Oper.op _ = Op.call { callee := Callee.builtin Builtin.len, args := #[Operand.tmp 47], argTypes := #[23] } from rfl) (by rfl) Try.underlying23) (by rfl) (by rfl) ?_
      refine Ls.ev (some 49) (Ev.move (show Oper.op _ = Op.move (Operand.const (Value.int IntKind.i64 0)) from rfl) (by rfl)) (by rfl) (by rfl) ?_
      refine Ls.nil ?_
      refine Cd.cut (ι := Bool) (fun tw => [(0, .int .i64 q), (1, .slice (some ax) ids.length d), (5, .pointer (some ⟨g, 0, none⟩)), (6, .int .i64 (S q).id), (7, .slice A dl.length c), (8, .int .i64 k), (9, .int .i64 idx), (10, .int .i64 1), (11, .pointer (some ⟨g1, 0, none⟩)), (12, .bool tw)]) (fun _ => [blk g1 39 [.int .i64 0, .int .i64 0, .int .i64 0, .slice none 0 0], winB g b, winM b (n + 1) (upd S q (newD idx)), winS (upd S q (newD idx)), rd (some ax) ids.length 1 (ints ids), row A dl.length c 3 1 (ints dl), argc W]) (fun tw => tw = true → idx ∈ dl) ?_ ?_
      · skip
        refine Cd.block ?_
        refine Cd.loop (ι := Nat × Bool) (fun j => [(0, .int .i64 q), (1, .slice (some ax) ids.length d), (5, .pointer (some ⟨g, 0, none⟩)), (6, .int .i64 (S q).id), (7, .slice A dl.length c), (8, .int .i64 k), (9, .int .i64 idx), (10, .int .i64 1), (11, .pointer (some ⟨g1, 0, none⟩)), (12, .bool j.2), (47, .slice A dl.length c), (48, .int .i64 dl.length), (49, .int .i64 j.1)]) (fun _ => [blk g1 39 [.int .i64 0, .int .i64 0, .int .i64 0, .slice none 0 0], winB g b, winM b (n + 1) (upd S q (newD idx)), winS (upd S q (newD idx)), rd (some ax) ids.length 1 (ints ids), row A dl.length c 3 1 (ints dl), argc W]) (fun j => j.1 ≤ dl.length ∧ (j.2 = true → idx ∈ dl)) (fun j => dl.length - j.1) ((0, false)) (⟨Nat.zero_le _, fun h => by cases h⟩) ?_ rfl ?_
        · (repeat (first | exact trivial | refine ⟨by rfl, ?_⟩))
        rintro ⟨j, tw⟩ ⟨hj, htw⟩
        dsimp only at hj htw ⊢
        refine Cd.seq ?_
        refine Cd.region ?_
        refine Ls.ev (some 50) (Ev.lss (show Oper.op _ = Op.binOp BinOp.lss 3 (Operand.tmp 49) (Operand.tmp 48) 3 from rfl) (by rfl) (by rfl)) (by rfl) (by rfl) ?_
        refine Ls.nil ?_
        refine Cd.seq ?_
        refine Cd.cond _ (by rfl) (fun h => ?_) (fun h => ?_)
        · skip
          have hlj : j < dl.length := by have := of_decide_eq_true h; omega
          obtain ⟨u', hu'⟩ := get_of_lt hlj
          refine Ent.rowSome 5 (by rfl) (by omega) (fun ad had => ?_)
          subst had
          refine Cd.skip ?_
          refine Cd.seq ?_
          refine Cd.block ?_
          refine Cd.seq ?_
          refine Cd.region ?_
          refine Ls.ev (some 51) (Ev.indexAt (sz := 1) (show Oper.op _ = Op.indexAddr 23 (Operand.tmp 47) (Operand.tmp 49) from rfl) (by rfl) (by rfl) Try.underlying23 (by kernel_rfl) (by omega)) (by rfl) (by rfl) ?_
          refine Ls.ev (some 52) (Ev.loadInt (show Oper.op _ = Op.load 3 (Operand.tmp 51) from rfl) (by rfl) (ReadsIn.row 5 (by rfl)) (by kernel_rfl) (by assumption)) (by rfl) (by rfl) ?_
          refine Ls.ev (some 14) (Ev.assign (show Oper.op _ = Op.assign (Operand.tmp 52) from rfl) (by rfl)) (by rfl) (by rfl) ?_
          refine Ls.nil ?_
          refine Cd.region ?_
          refine Ls.ev (some 53) (Ev.move (show Oper.op _ = Op.move (Operand.tmp 12) from rfl) (by rfl)) (by rfl) (by rfl) ?_
          refine Ls.ev (some 54) (Ev.move (show Oper.op _ = Op.move (Operand.tmp 53) from rfl) (by rfl)) (by rfl) (by rfl) ?_
          cases tw
          · skip
            refine Ls.ev (some 55) (Ev.move (show Oper.op _ = Op.move (Operand.tmp 14) from rfl) (by rfl)) (by rfl) (by rfl) ?_
            refine Ls.ev (some 56) (Ev.move (show Oper.op _ = Op.move (Operand.tmp 9) from rfl) (by rfl)) (by rfl) (by rfl) ?_
            refine Ls.ev (some 57) (Ev.eql (show Oper.op _ = Op.binOp BinOp.eql 3 (Operand.tmp 55) (Operand.tmp 56) 3 from rfl) (by rfl) (by rfl)) (by rfl) (by rfl) ?_
            refine Ls.ev (some 58) (Ev.pickF (show Oper.op _ = Op.pick (Operand.tmp 54) (Operand.const (Value.bool true)) (Operand.tmp 57) from rfl) (by rfl) (by rfl)) (by rfl) (by rfl) ?_
            refine Ls.ev (some 12) (Ev.assign (show Oper.op _ = Op.assign (Operand.tmp 58) from rfl) (by rfl)) (by rfl) (by rfl) ?_
            refine Ls.nil ?_
            refine Cd.region ?_
            refine Ls.ev (some 59) (Ev.addI (show Oper.op _ = Op.binOp BinOp.add 3 (Operand.tmp 49) (Operand.const (Value.int IntKind.i64 1)) 3 from rfl) (by rfl) (by rfl) (by omega)) (by rfl) (by rfl) ?_
            refine Ls.ev (some 49) (Ev.move (show Oper.op _ = Op.move (Operand.tmp 59) from rfl) (by rfl)) (by rfl) (by rfl) ?_
            refine Ls.nil ?_
            refine Ent.inv ((j + 1, decide (u' = idx))) ?_ ?_ ?_
            · (try dsimp only); exact ⟨⟨by omega, fun h => by have := of_decide_eq_true h; rw [← this]; exact List.mem_of_getElem? hu'⟩, by omega⟩
            · (repeat (first | exact trivial | refine ⟨by rfl, ?_⟩ | refine ⟨by simp only [List.length_append, List.length_cons, List.length_nil]; rfl, ?_⟩ | refine ⟨by push_cast; rfl, ?_⟩))
            · rfl
          · skip
            refine Ls.pass (some 55) (by rfl) (by rfl) ?_
            refine Ls.pass (some 56) (by rfl) (by rfl) ?_
            refine Ls.pass (some 57) (by rfl) (by rfl) ?_
            refine Ls.ev (some 58) (Ev.pickT (show Oper.op _ = Op.pick (Operand.tmp 54) (Operand.const (Value.bool true)) (Operand.tmp 57) from rfl) (by rfl) (by rfl)) (by rfl) (by rfl) ?_
            refine Ls.ev (some 12) (Ev.assign (show Oper.op _ = Op.assign (Operand.tmp 58) from rfl) (by rfl)) (by rfl) (by rfl) ?_
            refine Ls.nil ?_
            refine Cd.region ?_
            refine Ls.ev (some 59) (Ev.addI (show Oper.op _ = Op.binOp BinOp.add 3 (Operand.tmp 49) (Operand.const (Value.int IntKind.i64 1)) 3 from rfl) (by rfl) (by rfl) (by omega)) (by rfl) (by rfl) ?_
            refine Ls.ev (some 49) (Ev.move (show Oper.op _ = Op.move (Operand.tmp 59) from rfl) (by rfl)) (by rfl) (by rfl) ?_
            refine Ls.nil ?_
            refine Ent.inv ((j + 1, true)) ?_ ?_ ?_
            · (try dsimp only); exact ⟨⟨by omega, fun _ => htw rfl⟩, by omega⟩
            · (repeat (first | exact trivial | refine ⟨by rfl, ?_⟩ | refine ⟨by simp only [List.length_append, List.length_cons, List.length_nil]; rfl, ?_⟩ | refine ⟨by push_cast; rfl, ?_⟩))
            · rfl
        · skip
          refine Cd.exit ?_
          refine Ent.inv (tw) ?_ ?_ ?_
          · (try dsimp only); exact htw
          · (repeat (first | exact trivial | refine ⟨by rfl, ?_⟩ | refine ⟨by simp only [List.length_append, List.length_cons, List.length_nil]; rfl, ?_⟩ | refine ⟨by push_cast; rfl, ?_⟩))
          · rfl
      skip
      rintro tw htw
      have htw : tw = false := by
        cases tw
        · rfl
        · have := h4 idx (htw rfl); omega
      subst htw
      refine Cd.block ?_
      refine Cd.seq ?_
      refine Cd.region ?_
      refine Ls.ev (some 71) (Ev.move (show Oper.op _ = Op.move (Operand.tmp 9) from rfl) (by rfl)) (by rfl) (by rfl) ?_
      refine Ls.ev (some 72) (Ev.move (show Oper.op _ = Op.move (Operand.tmp 6) from rfl) (by rfl)) (by rfl) (by rfl) ?_
      refine Ls.ev (some 73) (Ev.gtr (show Oper.op _ = Op.binOp BinOp.gtr 3 (Operand.tmp 71) (Operand.tmp 72) 3 from rfl) (by rfl) (by rfl)) (by rfl) (by rfl) ?_
      refine Ls.ev (some 70) (Ev.assign (show Oper.op _ = Op.assign (Operand.tmp 73) from rfl) (by rfl)) (by rfl) (by rfl) ?_
      refine Ls.nil ?_
      refine Cd.cond_true (by rfl) (decide_eq_true hc) ?_
      refine Cd.seq ?_
      refine Cd.seq ?_
      refine Cd.region ?_
      refine Ls.ev (some 74) (Ev.move (show Oper.op _ = Op.move (Operand.tmp 10) from rfl) (by rfl)) (by rfl) (by rfl) ?_
      refine Ls.ev (some 75) (Ev.neq (show Oper.op _ = Op.binOp BinOp.neq 70 (Operand.tmp 74) (Operand.const (Value.int IntKind.i64 1)) 70 from rfl) (by rfl) (by rfl)) (by rfl) (by rfl) ?_
      refine Ls.ev (some 76) (Ev.move (show Oper.op _ = Op.move (Operand.tmp 75) from rfl) (by rfl)) (by rfl) (by rfl) ?_
      refine Ls.ev (some 77) (Ev.move (show Oper.op _ = Op.move (Operand.tmp 12) from rfl) (by rfl)) (by rfl) (by rfl) ?_
      refine Ls.ev (some 78) (Ev.pickF (show Oper.op _ = Op.pick (Operand.tmp 76) (Operand.const (Value.bool true)) (Operand.tmp 77) from rfl) (by rfl) (by rfl)) (by rfl) (by rfl) ?_
      refine Ls.ev (some 79) (Ev.move (show Oper.op _ = Op.move (Operand.tmp 78) from rfl) (by rfl)) (by rfl) (by rfl) ?_
      refine Ls.ev (some 80) (Ev.move (show Oper.op _ = Op.move (Operand.tmp 5) from rfl) (by rfl)) (by rfl) (by rfl) ?_
      refine Ls.ev (some 81) (Ev.move (show Oper.op _ = Op.move (Operand.tmp 0) from rfl) (by rfl)) (by rfl) (by rfl) ?_
      refine Ls.ev (some 82) (Ev.move (show Oper.op _ = Op.move (Operand.tmp 9) from rfl) (by rfl)) (by rfl) (by rfl) ?_
      refine Ls.ev (some 83) (Ev.move (show Oper.op _ = Op.move (Operand.tmp 9) from rfl) (by rfl)) (by rfl) (by rfl) ?_
      refine Ls.ev (some 84) (Ev.buildP (pl := [(0, 1), (1, 1), (2, 2)]) (zs := [.int .i64 0, .int .i64 0, .int .i64 0, .slice none 0 0]) (show Oper.op _ = Op.build 39 #[(1, Operand.tmp 83)] from rfl) (by rfl) (by kernel_rfl) (by rfl)) (by rfl) (by rfl) ?_
      refine Ent.map (fun w h => h.rdNil) ?_
      refine Ls.does (some 85) (Does.call [2, 3, 4, 0, 6, 7] (show Oper.op _ = Op.call { callee := Callee.value (Operand.func 29), args := #[Operand.tmp 80, Operand.tmp 81, Operand.tmp 82, Operand.tmp 84], argTypes := #[66, 3, 3, 39] } from rfl) Try.func29 (by kernel_rfl) (by kernel_rfl) (answer_ok g b (n + 1) (upd S q (newD idx)) q idx 0 idx 0 none 0 [] hq (by omega) (by simp [upd, newD]) (by simp [upd, newD]) (by omega) (by decide)) (by rfl) (by rfl) (by rfl)) (by rfl) (by rfl) ?_
      intro p _
      refine Ls.ev (some 86) (Ev.neq (show Oper.op _ = Op.binOp BinOp.neq 37 (Operand.tmp 85) (Operand.const (Value.int IntKind.i64 0)) 37 from rfl) (by rfl) (by rfl)) (by rfl) (by rfl) ?_
      refine Ls.ev (some 87) (Ev.pickF (show Oper.op _ = Op.pick (Operand.tmp 79) (Operand.const (Value.bool true)) (Operand.tmp 86) from rfl) (by rfl) (by rfl)) (by rfl) (by rfl) ?_
      refine Ls.nil ?_
      refine Cd.cond_false (by rfl) (rfl) ?_
      refine Cd.skip ?_
      refine Cd.seq ?_
      refine Cd.region ?_
      refine Ls.ev (some 88) (Ev.move (show Oper.op _ = Op.move (Operand.tmp 9) from rfl) (by rfl)) (by rfl) (by rfl) ?_
      refine Ls.ev (some 6) (Ev.assign (show Oper.op _ = Op.assign (Operand.tmp 88) from rfl) (by rfl)) (by rfl) (by rfl) ?_
      refine Ls.nil ?_
      refine Cd.region ?_
      refine Ls.ev (some 89) (Ev.move (show Oper.op _ = Op.move (Operand.tmp 7) from rfl) (by rfl)) (by rfl) (by rfl) ?_
      refine Ls.ev (some 90) (Ev.move (show Oper.op _ = Op.move (Operand.tmp 9) from rfl) (by rfl)) (by rfl) (by rfl) ?_
      refine Ls.does (some 91) (Does.lit (sz := 1) (show Oper.op _ = Op.buildSlice 23 1 #[(0, Operand.tmp 90)] from rfl) (by rfl) Try.underlying23 (by kernel_rfl) (by rfl) (by kernel_rfl)) (by rfl) (by rfl) ?_
      intro g2 _
      refine Ls.does (some 92) (Does.app 4 (show Oper.op _ = Op.call { callee := Callee.builtin Builtin.append, args := #[Operand.tmp 89, Operand.tmp 91], argTypes := #[23, 23] } from rfl) (by rfl) (by rfl) (by rfl) (ReadsIn.row 0 (by rfl)) elem_int (one_ints [idx]) (by omega)) (by rfl) (by rfl) ?_
      intro r _
      refine Ls.ev (some 7) (Ev.assign (show Oper.op _ = Op.assign (Operand.tmp 92) from rfl) (by rfl)) (by rfl) (by rfl) ?_
      refine Ls.nil ?_
      refine Cd.region ?_
      refine Ls.ev (some 30) (Ev.move (show Oper.op _ = Op.move (Operand.tmp 8) from rfl) (by rfl)) (by rfl) (by rfl) ?_
      refine Ls.ev (some 31) (Ev.addI (show Oper.op _ = Op.binOp BinOp.add 3 (Operand.tmp 30) (Operand.const (Value.int IntKind.i64 1)) 3 from rfl) (by rfl) (by rfl) (by omega)) (by rfl) (by rfl) ?_
      refine Ls.ev (some 8) (Ev.assign (show Oper.op _ = Op.assign (Operand.tmp 31) from rfl) (by rfl)) (by rfl) (by rfl) ?_
      refine Ls.nil ?_
      refine Ent.pick [4, 1, 2, 3, 5] (by rfl) ?_
      have hle : ∀ x ∈ dl ++ [idx], x ≤ idx := fun x hx => by
        rcases List.mem_append.1 hx with hx | hx
        · exact Int.le_trans (h4 x hx) (by omega)
        · rw [List.mem_singleton.1 hx]; exact Int.le_refl _
      refine Ent.inv (⟨k + 1, idx, upd (upd S q (newD idx)) q ⟨idx, true, 0, idx, 0, p.1, p.2, []⟩, n + 1 + 1, r.1, r.2, dl ++ [idx]⟩) ?_ ?_ ?_
      · (try dsimp only); exact ⟨⟨by simp [upd], by omega, by omega, by simp; omega, by simpa [upd] using hle, by simp [upd]; omega, Or.inr (by simp [upd])⟩, by omega⟩
      · (repeat (first | exact trivial | refine ⟨by rfl, ?_⟩ | refine ⟨by simp only [List.length_append, List.length_cons, List.length_nil]; rfl, ?_⟩ | refine ⟨by push_cast; rfl, ?_⟩))
      · exact cons_eq (by rw [List.length_append, ints_append]; rfl) rfl
    · skip
      have hd : (S q).dn = true ∧ (S q).ep = (S q).id ∧ (S q).xs = [] := h6.resolve_left (by omega)
      skip
      refine Ls.does (some 44) (Does.call [2, 3, 4, 0, 1, 5] (show Oper.op _ = Op.call { callee := Callee.value (Operand.func 25), args := #[Operand.tmp 41, Operand.tmp 42, Operand.tmp 43], argTypes := #[66, 3, 3] } from rfl) Try.func25 (by kernel_rfl) (by kernel_rfl) (see_again g b n S q idx hq hc.symm (by omega) hd.1 (by rw [hd.2.2]; decide)) (by rfl) (by rfl) (by rfl)) (by rfl) (by rfl) ?_
      intro p _
      refine Ls.ev (some 40) (Ev.move (show Oper.op _ = Op.move (Operand.tmp 44) from rfl) (by rfl)) (by rfl) (by rfl) ?_
      refine Ls.ev (some 45) (Ev.extract (show Oper.op _ = Op.extract (Operand.tmp 40) 0 from rfl) (by rfl) (by rfl)) (by rfl) (by rfl) ?_
      refine Ls.ev (some 46) (Ev.extract (show Oper.op _ = Op.extract (Operand.tmp 40) 1 from rfl) (by rfl) (by rfl)) (by rfl) (by rfl) ?_
      refine Ls.does (some 11) (Does.alloc (cs := [.int .i64 0, .int .i64 0, .int .i64 0, .slice none 0 0]) (show Oper.op _ = Op.alloc 39 from rfl) (ZeroIs.mk (.agg #[.int .i64 0, .int .i64 0, .int .i64 0, .slice none 0 0]) (by kernel_rfl) (by rfl))) (by rfl) (by rfl) ?_
      intro g1 _
      refine Ls.ev (some 10) (Ev.assign (show Oper.op _ = Op.assign (Operand.tmp 45) from rfl) (by rfl)) (by rfl) (by rfl) ?_
      refine Ls.does none (Does.store 0 (show Oper.op _ = Op.store 39 (Operand.tmp 11) (Operand.tmp 46) from rfl) (by rfl) (by rfl) (by rfl) (by kernel_rfl) (by rfl) (by kernel_rfl) (by rfl)) (by rfl) (by rfl) ?_
      intro _ _
      refine Ls.nil ?_
      refine Cd.seq ?_
      refine Cd.region ?_
      refine Ls.ev (some 12) (Ev.assign (show Oper.op _ = Op.assign (Operand.const (Value.bool false)) from rfl) (by rfl)) (by rfl) (by rfl) ?_
      refine Ls.nil ?_
      refine Cd.seq ?_
      refine Cd.seq ?_
      refine Cd.region ?_
      refine Ls.ev (some 47) (Ev.move (show Oper.op _ = Op.move (Operand.tmp 7) from rfl) (by rfl)) (by rfl) (by rfl) ?_
      refine Ls.ev (some 48) (Ev.len (show Oper.op _ = Op.call { callee := Callee.builtin Builtin.len, args := #[Operand.tmp 47], argTypes := #[23] } from rfl) (by rfl) Try.underlying23) (by rfl) (by rfl) ?_
      refine Ls.ev (some 49) (Ev.move (show Oper.op _ = Op.move (Operand.const (Value.int IntKind.i64 0)) from rfl) (by rfl)) (by rfl) (by rfl) ?_
      refine Ls.nil ?_
      refine Cd.cut (ι := Bool) (fun tw => [(0, .int .i64 q), (1, .slice (some ax) ids.length d), (5, .pointer (some ⟨g, 0, none⟩)), (6, .int .i64 (S q).id), (7, .slice A dl.length c), (8, .int .i64 k), (9, .int .i64 idx), (10, .int .i64 2), (11, .pointer (some ⟨g1, 0, none⟩)), (12, .bool tw)]) (fun _ => [blk g1 39 [.int .i64 (S q).code, .int .i64 (S q).ep, .int .i64 (S q).st, .slice p.1 (S q).xs.length p.2], winB g b, winM b n S, winS S, row p.1 (S q).xs.length p.2 3 1 (ints (S q).xs), rd (some ax) ids.length 1 (ints ids), row A dl.length c 3 1 (ints dl), argc W]) (fun tw => tw = true → idx ∈ dl) ?_ ?_
      · skip
        refine Cd.block ?_
        refine Cd.loop (ι := Nat × Bool) (fun j => [(0, .int .i64 q), (1, .slice (some ax) ids.length d), (5, .pointer (some ⟨g, 0, none⟩)), (6, .int .i64 (S q).id), (7, .slice A dl.length c), (8, .int .i64 k), (9, .int .i64 idx), (10, .int .i64 2), (11, .pointer (some ⟨g1, 0, none⟩)), (12, .bool j.2), (47, .slice A dl.length c), (48, .int .i64 dl.length), (49, .int .i64 j.1)]) (fun _ => [blk g1 39 [.int .i64 (S q).code, .int .i64 (S q).ep, .int .i64 (S q).st, .slice p.1 (S q).xs.length p.2], winB g b, winM b n S, winS S, row p.1 (S q).xs.length p.2 3 1 (ints (S q).xs), rd (some ax) ids.length 1 (ints ids), row A dl.length c 3 1 (ints dl), argc W]) (fun j => j.1 ≤ dl.length ∧ (j.2 = true → idx ∈ dl)) (fun j => dl.length - j.1) ((0, false)) (⟨Nat.zero_le _, fun h => by cases h⟩) ?_ rfl ?_
        · (repeat (first | exact trivial | refine ⟨by rfl, ?_⟩))
        rintro ⟨j, tw⟩ ⟨hj, htw⟩
        dsimp only at hj htw ⊢
        refine Cd.seq ?_
        refine Cd.region ?_
        refine Ls.ev (some 50) (Ev.lss (show Oper.op _ = Op.binOp BinOp.lss 3 (Operand.tmp 49) (Operand.tmp 48) 3 from rfl) (by rfl) (by rfl)) (by rfl) (by rfl) ?_
        refine Ls.nil ?_
        refine Cd.seq ?_
        refine Cd.cond _ (by rfl) (fun h => ?_) (fun h => ?_)
        · skip
          have hlj : j < dl.length := by have := of_decide_eq_true h; omega
          obtain ⟨u', hu'⟩ := get_of_lt hlj
          refine Ent.rowSome 6 (by rfl) (by omega) (fun ad had => ?_)
          subst had
          refine Cd.skip ?_
          refine Cd.seq ?_
          refine Cd.block ?_
          refine Cd.seq ?_
          refine Cd.region ?_
          refine Ls.ev (some 51) (Ev.indexAt (sz := 1) (show Oper.op _ = Op.indexAddr 23 (Operand.tmp 47) (Operand.tmp 49) from rfl) (by rfl) (by rfl) Try.underlying23 (by kernel_rfl) (by omega)) (by rfl) (by rfl) ?_
          refine Ls.ev (some 52) (Ev.loadInt (show Oper.op _ = Op.load 3 (Operand.tmp 51) from rfl) (by rfl) (ReadsIn.row 6 (by rfl)) (by kernel_rfl) (by assumption)) (by rfl) (by rfl) ?_
          refine Ls.ev (some 14) (Ev.assign (show Oper.op _ = Op.assign (Operand.tmp 52) from rfl) (by rfl)) (by rfl) (by rfl) ?_
          refine Ls.nil ?_
          refine Cd.region ?_
          refine Ls.ev (some 53) (Ev.move (show Oper.op _ = Op.move (Operand.tmp 12) from rfl) (by rfl)) (by rfl) (by rfl) ?_
          refine Ls.ev (some 54) (Ev.move (show Oper.op _ = Op.move (Operand.tmp 53) from rfl) (by rfl)) (by rfl) (by rfl) ?_
          cases tw
          · skip
            refine Ls.ev (some 55) (Ev.move (show Oper.op _ = Op.move (Operand.tmp 14) from rfl) (by rfl)) (by rfl) (by rfl) ?_
            refine Ls.ev (some 56) (Ev.move (show Oper.op _ = Op.move (Operand.tmp 9) from rfl) (by rfl)) (by rfl) (by rfl) ?_
            refine Ls.ev (some 57) (Ev.eql (show Oper.op _ = Op.binOp BinOp.eql 3 (Operand.tmp 55) (Operand.tmp 56) 3 from rfl) (by rfl) (by rfl)) (by rfl) (by rfl) ?_
            refine Ls.ev (some 58) (Ev.pickF (show Oper.op _ = Op.pick (Operand.tmp 54) (Operand.const (Value.bool true)) (Operand.tmp 57) from rfl) (by rfl) (by rfl)) (by rfl) (by rfl) ?_
            refine Ls.ev (some 12) (Ev.assign (show Oper.op _ = Op.assign (Operand.tmp 58) from rfl) (by rfl)) (by rfl) (by rfl) ?_
            refine Ls.nil ?_
            refine Cd.region ?_
            refine Ls.ev (some 59) (Ev.addI (show Oper.op _ = Op.binOp BinOp.add 3 (Operand.tmp 49) (Operand.const (Value.int IntKind.i64 1)) 3 from rfl) (by rfl) (by rfl) (by omega)) (by rfl) (by rfl) ?_
            refine Ls.ev (some 49) (Ev.move (show Oper.op _ = Op.move (Operand.tmp 59) from rfl) (by rfl)) (by rfl) (by rfl) ?_
            refine Ls.nil ?_
            refine Ent.inv ((j + 1, decide (u' = idx))) ?_ ?_ ?_
            · (try dsimp only); exact ⟨⟨by omega, fun h => by have := of_decide_eq_true h; rw [← this]; exact List.mem_of_getElem? hu'⟩, by omega⟩
            · (repeat (first | exact trivial | refine ⟨by rfl, ?_⟩ | refine ⟨by simp only [List.length_append, List.length_cons, List.length_nil]; rfl, ?_⟩ | refine ⟨by push_cast; rfl, ?_⟩))
            · rfl
          · skip
            refine Ls.pass (some 55) (by rfl) (by rfl) ?_
            refine Ls.pass (some 56) (by rfl) (by rfl) ?_
            refine Ls.pass (some 57) (by rfl) (by rfl) ?_
            refine Ls.ev (some 58) (Ev.pickT (show Oper.op _ = Op.pick (Operand.tmp 54) (Operand.const (Value.bool true)) (Operand.tmp 57) from rfl) (by rfl) (by rfl)) (by rfl) (by rfl) ?_
            refine Ls.ev (some 12) (Ev.assign (show Oper.op _ = Op.assign (Operand.tmp 58) from rfl) (by rfl)) (by rfl) (by rfl) ?_
            refine Ls.nil ?_
            refine Cd.region ?_
            refine Ls.ev (some 59) (Ev.addI (show Oper.op _ = Op.binOp BinOp.add 3 (Operand.tmp 49) (Operand.const (Value.int IntKind.i64 1)) 3 from rfl) (by rfl) (by rfl) (by omega)) (by rfl) (by rfl) ?_
            refine Ls.ev (some 49) (Ev.move (show Oper.op _ = Op.move (Operand.tmp 59) from rfl) (by rfl)) (by rfl) (by rfl) ?_
            refine Ls.nil ?_
            refine Ent.inv ((j + 1, true)) ?_ ?_ ?_
            · (try dsimp only); exact ⟨⟨by omega, fun _ => htw rfl⟩, by omega⟩
            · (repeat (first | exact trivial | refine ⟨by rfl, ?_⟩ | refine ⟨by simp only [List.length_append, List.length_cons, List.length_nil]; rfl, ?_⟩ | refine ⟨by push_cast; rfl, ?_⟩))
            · rfl
        · skip
          refine Cd.exit ?_
          refine Ent.inv (tw) ?_ ?_ ?_
          · (try dsimp only); exact htw
          · (repeat (first | exact trivial | refine ⟨by rfl, ?_⟩ | refine ⟨by simp only [List.length_append, List.length_cons, List.length_nil]; rfl, ?_⟩ | refine ⟨by push_cast; rfl, ?_⟩))
          · rfl
      skip
      rintro tw _
      refine Cd.block ?_
      refine Cd.seq ?_
      refine Cd.region ?_
      refine Ls.ev (some 71) (Ev.move (show Oper.op _ = Op.move (Operand.tmp 9) from rfl) (by rfl)) (by rfl) (by rfl) ?_
      refine Ls.ev (some 72) (Ev.move (show Oper.op _ = Op.move (Operand.tmp 6) from rfl) (by rfl)) (by rfl) (by rfl) ?_
      refine Ls.ev (some 73) (Ev.gtr (show Oper.op _ = Op.binOp BinOp.gtr 3 (Operand.tmp 71) (Operand.tmp 72) 3 from rfl) (by rfl) (by rfl)) (by rfl) (by rfl) ?_
      refine Ls.ev (some 70) (Ev.assign (show Oper.op _ = Op.assign (Operand.tmp 73) from rfl) (by rfl)) (by rfl) (by rfl) ?_
      refine Ls.nil ?_
      refine Cd.cond_false (by rfl) (decide_eq_false (by omega)) ?_
      refine Cd.seq ?_
      refine Cd.region ?_
      refine Ls.ev (some 94) (Ev.move (show Oper.op _ = Op.move (Operand.tmp 9) from rfl) (by rfl)) (by rfl) (by rfl) ?_
      refine Ls.ev (some 95) (Ev.move (show Oper.op _ = Op.move (Operand.tmp 6) from rfl) (by rfl)) (by rfl) (by rfl) ?_
      refine Ls.ev (some 96) (Ev.eql (show Oper.op _ = Op.binOp BinOp.eql 3 (Operand.tmp 94) (Operand.tmp 95) 3 from rfl) (by rfl) (by rfl)) (by rfl) (by rfl) ?_
      refine Ls.ev (some 93) (Ev.assign (show Oper.op _ = Op.assign (Operand.tmp 96) from rfl) (by rfl)) (by rfl) (by rfl) ?_
      refine Ls.nil ?_
      refine Cd.cond_true (by rfl) (decide_eq_true hc.symm) ?_
      refine Cd.seq ?_
      refine Cd.region ?_
      refine Ls.ev (some 97) (Ev.move (show Oper.op _ = Op.move (Operand.tmp 10) from rfl) (by rfl)) (by rfl) (by rfl) ?_
      refine Ls.ev (some 98) (Ev.neq (show Oper.op _ = Op.binOp BinOp.neq 70 (Operand.tmp 97) (Operand.const (Value.int IntKind.i64 2)) 70 from rfl) (by rfl) (by rfl)) (by rfl) (by rfl) ?_
      refine Ls.ev (some 99) (Ev.move (show Oper.op _ = Op.move (Operand.tmp 98) from rfl) (by rfl)) (by rfl) (by rfl) ?_
      refine Ls.ev (some 100) (Ev.fieldAddr (k := 1) (show Oper.op _ = Op.fieldAddr 39 (Operand.tmp 11) 1 from rfl) (by rfl) (by kernel_rfl) (by rfl)) (by rfl) (by rfl) ?_
      refine Ls.ev (some 101) (Ev.load 0 (show Oper.op _ = Op.load 3 (Operand.tmp 100) from rfl) (by rfl) (by rfl) (by kernel_rfl) (by rfl)) (by rfl) (by rfl) ?_
      refine Ls.ev (some 102) (Ev.move (show Oper.op _ = Op.move (Operand.tmp 9) from rfl) (by rfl)) (by rfl) (by rfl) ?_
      refine Ls.ev (some 103) (Ev.neq (show Oper.op _ = Op.binOp BinOp.neq 3 (Operand.tmp 101) (Operand.tmp 102) 3 from rfl) (by rfl) (by rfl)) (by rfl) (by rfl) ?_
      refine Ls.ev (some 104) (Ev.pickF (show Oper.op _ = Op.pick (Operand.tmp 99) (Operand.const (Value.bool true)) (Operand.tmp 103) from rfl) (by rfl) (by rfl)) (by rfl) (by rfl) ?_
      refine Ls.ev (some 105) (Ev.move (show Oper.op _ = Op.move (Operand.tmp 104) from rfl) (by rfl)) (by rfl) (by rfl) ?_
      refine Ent.split 105 (by rfl) (fun _ => ?_) (fun (h : decide ((S q).ep ≠ idx) = true) => absurd (of_decide_eq_true h) (by omega))
      refine Ls.ev (some 106) (Ev.move (show Oper.op _ = Op.move (Operand.tmp 5) from rfl) (by rfl)) (by rfl) (by rfl) ?_
      refine Ls.ev (some 107) (Ev.move (show Oper.op _ = Op.move (Operand.tmp 0) from rfl) (by rfl)) (by rfl) (by rfl) ?_
      refine Ls.ev (some 108) (Ev.move (show Oper.op _ = Op.move (Operand.tmp 9) from rfl) (by rfl)) (by rfl) (by rfl) ?_
      refine Ls.ev (some 109) (Ev.loads 0 (show Oper.op _ = Op.load 39 (Operand.tmp 11) from rfl) (by rfl) (by rfl) (n := 4) (by kernel_rfl) (by rfl) (by rfl)) (by rfl) (by rfl) ?_
      refine Ls.does (some 110) (Does.call [1, 2, 3, 6, 7] (show Oper.op _ = Op.call { callee := Callee.value (Operand.func 29), args := #[Operand.tmp 106, Operand.tmp 107, Operand.tmp 108, Operand.tmp 109], argTypes := #[66, 3, 3, 39] } from rfl) Try.func29 (by kernel_rfl) (by kernel_rfl) (answer_twice g b n S q idx (S q).code (S q).ep (S q).st p.1 (S q).xs.length p.2 hq ⟨by omega, hc.symm, hd.1⟩) (by rfl) (by rfl) (by rfl)) (by rfl) (by rfl) ?_
      intro _ _
      refine Ls.ev (some 111) (Ev.neq (show Oper.op _ = Op.binOp BinOp.neq 37 (Operand.tmp 110) (Operand.const (Value.int IntKind.i64 2)) 37 from rfl) (by rfl) (by rfl)) (by rfl) (by rfl) ?_
      refine Ls.ev (some 112) (Ev.pickF (show Oper.op _ = Op.pick (Operand.tmp 105) (Operand.const (Value.bool true)) (Operand.tmp 111) from rfl) (by rfl) (by rfl)) (by rfl) (by rfl) ?_
      refine Ls.nil ?_
      refine Cd.cond_false (by rfl) (rfl) ?_
      refine Cd.skip ?_
      refine Cd.region ?_
      refine Ls.ev (some 30) (Ev.move (show Oper.op _ = Op.move (Operand.tmp 8) from rfl) (by rfl)) (by rfl) (by rfl) ?_
      refine Ls.ev (some 31) (Ev.addI (show Oper.op _ = Op.binOp BinOp.add 3 (Operand.tmp 30) (Operand.const (Value.int IntKind.i64 1)) 3 from rfl) (by rfl) (by rfl) (by omega)) (by rfl) (by rfl) ?_
      refine Ls.ev (some 8) (Ev.assign (show Oper.op _ = Op.assign (Operand.tmp 31) from rfl) (by rfl)) (by rfl) (by rfl) ?_
      refine Ls.nil ?_
      refine Ent.pick [3, 0, 1, 2, 4] (by rfl) ?_
      refine Ent.inv (⟨k + 1, (S q).id, S, n, A, c, dl⟩) ?_ ?_ ?_
      · (try dsimp only); exact ⟨⟨rfl, by omega, by omega, by omega, h4, h5, h6⟩, by omega⟩
      · (repeat (first | exact trivial | refine ⟨by rfl, ?_⟩ | refine ⟨by simp only [List.length_append, List.length_cons, List.length_nil]; rfl, ?_⟩ | refine ⟨by push_cast; rfl, ?_⟩))
      · rfl
    · skip
      skip
      refine Ls.does (some 44) (Does.call [2, 3, 4, 0, 1, 5] (show Oper.op _ = Op.call { callee := Callee.value (Operand.func 25), args := #[Operand.tmp 41, Operand.tmp 42, Operand.tmp 43], argTypes := #[66, 3, 3] } from rfl) Try.func25 (by kernel_rfl) (by kernel_rfl) (see_stale g b n S q idx hq (by omega) (Or.inl hc)) (by rfl) (by rfl) (by rfl)) (by rfl) (by rfl) ?_
      intro _ _
      refine Ls.ev (some 40) (Ev.move (show Oper.op _ = Op.move (Operand.tmp 44) from rfl) (by rfl)) (by rfl) (by rfl) ?_
      refine Ls.ev (some 45) (Ev.extract (show Oper.op _ = Op.extract (Operand.tmp 40) 0 from rfl) (by rfl) (by rfl)) (by rfl) (by rfl) ?_
      refine Ls.ev (some 46) (Ev.extract (show Oper.op _ = Op.extract (Operand.tmp 40) 1 from rfl) (by rfl) (by rfl)) (by rfl) (by rfl) ?_
      refine Ls.does (some 11) (Does.alloc (cs := [.int .i64 0, .int .i64 0, .int .i64 0, .slice none 0 0]) (show Oper.op _ = Op.alloc 39 from rfl) (ZeroIs.mk (.agg #[.int .i64 0, .int .i64 0, .int .i64 0, .slice none 0 0]) (by kernel_rfl) (by rfl))) (by rfl) (by rfl) ?_
      intro g1 _
      refine Ls.ev (some 10) (Ev.assign (show Oper.op _ = Op.assign (Operand.tmp 45) from rfl) (by rfl)) (by rfl) (by rfl) ?_
      refine Ls.does none (Does.store 0 (show Oper.op _ = Op.store 39 (Operand.tmp 11) (Operand.tmp 46) from rfl) (by rfl) (by rfl) (by rfl) (by kernel_rfl) (by rfl) (by kernel_rfl) (by rfl)) (by rfl) (by rfl) ?_
      intro _ _
      refine Ls.nil ?_
      refine Cd.seq ?_
      refine Cd.region ?_
      refine Ls.ev (some 12) (Ev.assign (show Oper.op _ = Op.assign (Operand.const (Value.bool false)) from rfl) (by rfl)) (by rfl) (by rfl) ?_
      refine Ls.nil ?_
      refine Cd.seq ?_
      refine Cd.seq ?_
      refine Cd.region ?_
      refine Ls.ev (some 47) (Ev.move (show Oper.op _ = Op.move (Operand.tmp 7) from rfl) (by rfl)) (by rfl) (by rfl) ?_
      refine Ls.ev (some 48) (Ev.len (show Oper.op _ = Op.call { callee := Callee.builtin Builtin.len, args := #[Operand.tmp 47], argTypes := #[23] } from rfl) (by rfl) Try.underlying23) (by rfl) (by rfl) ?_
      refine Ls.ev (some 49) (Ev.move (show Oper.op _ = Op.move (Operand.const (Value.int IntKind.i64 0)) from rfl) (by rfl)) (by rfl) (by rfl) ?_
      refine Ls.nil ?_
      refine Cd.cut (ι := Bool) (fun tw => [(0, .int .i64 q), (1, .slice (some ax) ids.length d), (5, .pointer (some ⟨g, 0, none⟩)), (6, .int .i64 (S q).id), (7, .slice A dl.length c), (8, .int .i64 k), (9, .int .i64 idx), (10, .int .i64 4), (11, .pointer (some ⟨g1, 0, none⟩)), (12, .bool tw)]) (fun _ => [blk g1 39 [.int .i64 0, .int .i64 0, .int .i64 0, .slice none 0 0], winB g b, winM b n S, winS S, rd (some ax) ids.length 1 (ints ids), row A dl.length c 3 1 (ints dl), argc W]) (fun tw => tw = true → idx ∈ dl) ?_ ?_
      · skip
        refine Cd.block ?_
        refine Cd.loop (ι := Nat × Bool) (fun j => [(0, .int .i64 q), (1, .slice (some ax) ids.length d), (5, .pointer (some ⟨g, 0, none⟩)), (6, .int .i64 (S q).id), (7, .slice A dl.length c), (8, .int .i64 k), (9, .int .i64 idx), (10, .int .i64 4), (11, .pointer (some ⟨g1, 0, none⟩)), (12, .bool j.2), (47, .slice A dl.length c), (48, .int .i64 dl.length), (49, .int .i64 j.1)]) (fun _ => [blk g1 39 [.int .i64 0, .int .i64 0, .int .i64 0, .slice none 0 0], winB g b, winM b n S, winS S, rd (some ax) ids.length 1 (ints ids), row A dl.length c 3 1 (ints dl), argc W]) (fun j => j.1 ≤ dl.length ∧ (j.2 = true → idx ∈ dl)) (fun j => dl.length - j.1) ((0, false)) (⟨Nat.zero_le _, fun h => by cases h⟩) ?_ rfl ?_
        · (repeat (first | exact trivial | refine ⟨by rfl, ?_⟩))
        rintro ⟨j, tw⟩ ⟨hj, htw⟩
        dsimp only at hj htw ⊢
        refine Cd.seq ?_
        refine Cd.region ?_
        refine Ls.ev (some 50) (Ev.lss (show Oper.op _ = Op.binOp BinOp.lss 3 (Operand.tmp 49) (Operand.tmp 48) 3 from rfl) (by rfl) (by rfl)) (by rfl) (by rfl) ?_
        refine Ls.nil ?_
        refine Cd.seq ?_
        refine Cd.cond _ (by rfl) (fun h => ?_) (fun h => ?_)
        · skip
          have hlj : j < dl.length := by have := of_decide_eq_true h; omega
          obtain ⟨u', hu'⟩ := get_of_lt hlj
          refine Ent.rowSome 5 (by rfl) (by omega) (fun ad had => ?_)
          subst had
          refine Cd.skip ?_
          refine Cd.seq ?_
          refine Cd.block ?_
          refine Cd.seq ?_
          refine Cd.region ?_
          refine Ls.ev (some 51) (Ev.indexAt (sz := 1) (show Oper.op _ = Op.indexAddr 23 (Operand.tmp 47) (Operand.tmp 49) from rfl) (by rfl) (by rfl) Try.underlying23 (by kernel_rfl) (by omega)) (by rfl) (by rfl) ?_
          refine Ls.ev (some 52) (Ev.loadInt (show Oper.op _ = Op.load 3 (Operand.tmp 51) from rfl) (by rfl) (ReadsIn.row 5 (by rfl)) (by kernel_rfl) (by assumption)) (by rfl) (by rfl) ?_
          refine Ls.ev (some 14) (Ev.assign (show Oper.op _ = Op.assign (Operand.tmp 52) from rfl) (by rfl)) (by rfl) (by rfl) ?_
          refine Ls.nil ?_
          refine Cd.region ?_
          refine Ls.ev (some 53) (Ev.move (show Oper.op _ = Op.move (Operand.tmp 12) from rfl) (by rfl)) (by rfl) (by rfl) ?_
          refine Ls.ev (some 54) (Ev.move (show Oper.op _ = Op.move (Operand.tmp 53) from rfl) (by rfl)) (by rfl) (by rfl) ?_
          cases tw
          · skip
            refine Ls.ev (some 55) (Ev.move (show Oper.op _ = Op.move (Operand.tmp 14) from rfl) (by rfl)) (by rfl) (by rfl) ?_
            refine Ls.ev (some 56) (Ev.move (show Oper.op _ = Op.move (Operand.tmp 9) from rfl) (by rfl)) (by rfl) (by rfl) ?_
            refine Ls.ev (some 57) (Ev.eql (show Oper.op _ = Op.binOp BinOp.eql 3 (Operand.tmp 55) (Operand.tmp 56) 3 from rfl) (by rfl) (by rfl)) (by rfl) (by rfl) ?_
            refine Ls.ev (some 58) (Ev.pickF (show Oper.op _ = Op.pick (Operand.tmp 54) (Operand.const (Value.bool true)) (Operand.tmp 57) from rfl) (by rfl) (by rfl)) (by rfl) (by rfl) ?_
            refine Ls.ev (some 12) (Ev.assign (show Oper.op _ = Op.assign (Operand.tmp 58) from rfl) (by rfl)) (by rfl) (by rfl) ?_
            refine Ls.nil ?_
            refine Cd.region ?_
            refine Ls.ev (some 59) (Ev.addI (show Oper.op _ = Op.binOp BinOp.add 3 (Operand.tmp 49) (Operand.const (Value.int IntKind.i64 1)) 3 from rfl) (by rfl) (by rfl) (by omega)) (by rfl) (by rfl) ?_
            refine Ls.ev (some 49) (Ev.move (show Oper.op _ = Op.move (Operand.tmp 59) from rfl) (by rfl)) (by rfl) (by rfl) ?_
            refine Ls.nil ?_
            refine Ent.inv ((j + 1, decide (u' = idx))) ?_ ?_ ?_
            · (try dsimp only); exact ⟨⟨by omega, fun h => by have := of_decide_eq_true h; rw [← this]; exact List.mem_of_getElem? hu'⟩, by omega⟩
            · (repeat (first | exact trivial | refine ⟨by rfl, ?_⟩ | refine ⟨by simp only [List.length_append, List.length_cons, List.length_nil]; rfl, ?_⟩ | refine ⟨by push_cast; rfl, ?_⟩))
            · rfl
          · skip
            refine Ls.pass (some 55) (by rfl) (by rfl) ?_
            refine Ls.pass (some 56) (by rfl) (by rfl) ?_
            refine Ls.pass (some 57) (by rfl) (by rfl) ?_
            refine Ls.ev (some 58) (Ev.pickT (show Oper.op _ = Op.pick (Operand.tmp 54) (Operand.const (Value.bool true)) (Operand.tmp 57) from rfl) (by rfl) (by rfl)) (by rfl) (by rfl) ?_
            refine Ls.ev (some 12) (Ev.assign (show Oper.op _ = Op.assign (Operand.tmp 58) from rfl) (by rfl)) (by rfl) (by rfl) ?_
            refine Ls.nil ?_
            refine Cd.region ?_
            refine Ls.ev (some 59) (Ev.addI (show Oper.op _ = Op.binOp BinOp.add 3 (Operand.tmp 49) (Operand.const (Value.int IntKind.i64 1)) 3 from rfl) (by rfl) (by rfl) (by omega)) (by rfl) (by rfl) ?_
            refine Ls.ev (some 49) (Ev.move (show Oper.op _ = Op.move (Operand.tmp 59) from rfl) (by rfl)) (by rfl) (by rfl) ?_
            refine Ls.nil ?_
            refine Ent.inv ((j + 1, true)) ?_ ?_ ?_
            · (try dsimp only); exact ⟨⟨by omega, fun _ => htw rfl⟩, by omega⟩
            · (repeat (first | exact trivial | refine ⟨by rfl, ?_⟩ | refine ⟨by simp only [List.length_append, List.length_cons, List.length_nil]; rfl, ?_⟩ | refine ⟨by push_cast; rfl, ?_⟩))
            · rfl
        · skip
          refine Cd.exit ?_
          refine Ent.inv (tw) ?_ ?_ ?_
          · (try dsimp only); exact htw
          · (repeat (first | exact trivial | refine ⟨by rfl, ?_⟩ | refine ⟨by simp only [List.length_append, List.length_cons, List.length_nil]; rfl, ?_⟩ | refine ⟨by push_cast; rfl, ?_⟩))
          · rfl
      skip
      rintro tw _
      refine Cd.block ?_
      refine Cd.seq ?_
      refine Cd.region ?_
      refine Ls.ev (some 71) (Ev.move (show Oper.op _ = Op.move (Operand.tmp 9) from rfl) (by rfl)) (by rfl) (by rfl) ?_
      refine Ls.ev (some 72) (Ev.move (show Oper.op _ = Op.move (Operand.tmp 6) from rfl) (by rfl)) (by rfl) (by rfl) ?_
      refine Ls.ev (some 73) (Ev.gtr (show Oper.op _ = Op.binOp BinOp.gtr 3 (Operand.tmp 71) (Operand.tmp 72) 3 from rfl) (by rfl) (by rfl)) (by rfl) (by rfl) ?_
      refine Ls.ev (some 70) (Ev.assign (show Oper.op _ = Op.assign (Operand.tmp 73) from rfl) (by rfl)) (by rfl) (by rfl) ?_
      refine Ls.nil ?_
      refine Cd.cond_false (by rfl) (decide_eq_false (by omega)) ?_
      refine Cd.seq ?_
      refine Cd.region ?_
      refine Ls.ev (some 94) (Ev.move (show Oper.op _ = Op.move (Operand.tmp 9) from rfl) (by rfl)) (by rfl) (by rfl) ?_
      refine Ls.ev (some 95) (Ev.move (show Oper.op _ = Op.move (Operand.tmp 6) from rfl) (by rfl)) (by rfl) (by rfl) ?_
      refine Ls.ev (some 96) (Ev.eql (show Oper.op _ = Op.binOp BinOp.eql 3 (Operand.tmp 94) (Operand.tmp 95) 3 from rfl) (by rfl) (by rfl)) (by rfl) (by rfl) ?_
      refine Ls.ev (some 93) (Ev.assign (show Oper.op _ = Op.assign (Operand.tmp 96) from rfl) (by rfl)) (by rfl) (by rfl) ?_
      refine Ls.nil ?_
      refine Cd.cond_false (by rfl) (decide_eq_false (by omega)) ?_
      refine Cd.seq ?_
      refine Cd.region ?_
      refine Ls.ev (some 60) (Ev.move (show Oper.op _ = Op.move (Operand.tmp 10) from rfl) (by rfl)) (by rfl) (by rfl) ?_
      refine Ls.ev (some 61) (Ev.neq (show Oper.op _ = Op.binOp BinOp.neq 70 (Operand.tmp 60) (Operand.const (Value.int IntKind.i64 4)) 70 from rfl) (by rfl) (by rfl)) (by rfl) (by rfl) ?_
      refine Ls.ev (some 62) (Ev.move (show Oper.op _ = Op.move (Operand.tmp 61) from rfl) (by rfl)) (by rfl) (by rfl) ?_
      refine Ls.ev (some 63) (Ev.move (show Oper.op _ = Op.move (Operand.tmp 5) from rfl) (by rfl)) (by rfl) (by rfl) ?_
      refine Ls.ev (some 64) (Ev.move (show Oper.op _ = Op.move (Operand.tmp 0) from rfl) (by rfl)) (by rfl) (by rfl) ?_
      refine Ls.ev (some 65) (Ev.move (show Oper.op _ = Op.move (Operand.tmp 9) from rfl) (by rfl)) (by rfl) (by rfl) ?_
      refine Ls.ev (some 66) (Ev.loads 0 (show Oper.op _ = Op.load 39 (Operand.tmp 11) from rfl) (by rfl) (by rfl) (n := 4) (by kernel_rfl) (by rfl) (by rfl)) (by rfl) (by rfl) ?_
      refine Ls.does (some 67) (Does.call [1, 2, 3, 5, 6] (show Oper.op _ = Op.call { callee := Callee.value (Operand.func 29), args := #[Operand.tmp 63, Operand.tmp 64, Operand.tmp 65, Operand.tmp 66], argTypes := #[66, 3, 3, 39] } from rfl) Try.func29 (by kernel_rfl) (by kernel_rfl) (answer_stale g b n S q idx 0 0 0 none 0 0 hq ⟨by omega, by omega⟩) (by rfl) (by rfl) (by rfl)) (by rfl) (by rfl) ?_
      intro _ _
      refine Ls.ev (some 68) (Ev.neq (show Oper.op _ = Op.binOp BinOp.neq 37 (Operand.tmp 67) (Operand.const (Value.int IntKind.i64 7)) 37 from rfl) (by rfl) (by rfl)) (by rfl) (by rfl) ?_
      refine Ls.ev (some 69) (Ev.pickF (show Oper.op _ = Op.pick (Operand.tmp 62) (Operand.const (Value.bool true)) (Operand.tmp 68) from rfl) (by rfl) (by rfl)) (by rfl) (by rfl) ?_
      refine Ls.nil ?_
      refine Cd.cond_false (by rfl) (rfl) ?_
      refine Cd.skip ?_
      refine Cd.region ?_
      refine Ls.ev (some 30) (Ev.move (show Oper.op _ = Op.move (Operand.tmp 8) from rfl) (by rfl)) (by rfl) (by rfl) ?_
      refine Ls.ev (some 31) (Ev.addI (show Oper.op _ = Op.binOp BinOp.add 3 (Operand.tmp 30) (Operand.const (Value.int IntKind.i64 1)) 3 from rfl) (by rfl) (by rfl) (by omega)) (by rfl) (by rfl) ?_
      refine Ls.ev (some 8) (Ev.assign (show Oper.op _ = Op.assign (Operand.tmp 31) from rfl) (by rfl)) (by rfl) (by rfl) ?_
      refine Ls.nil ?_
      refine Ent.pick [3, 0, 1, 2, 4] (by rfl) ?_
      refine Ent.inv (⟨k + 1, (S q).id, S, n, A, c, dl⟩) ?_ ?_ ?_
      · (try dsimp only); exact ⟨⟨rfl, by omega, by omega, by omega, h4, h5, h6⟩, by omega⟩
      · (repeat (first | exact trivial | refine ⟨by rfl, ?_⟩ | refine ⟨by simp only [List.length_append, List.length_cons, List.length_nil]; rfl, ?_⟩ | refine ⟨by push_cast; rfl, ?_⟩))
      · rfl
  · skip
    refine Cd.exit ?_
    refine Cd.seq ?_
    refine Cd.region ?_
    refine Ls.ev (some 4) (Ev.assign (show Oper.op _ = Op.assign (Operand.const (Value.bool true)) from rfl) (by rfl)) (by rfl) (by rfl) ?_
    refine Ls.nil ?_
    refine Cd.ret ?_
    refine Ent.ret (()) (trivial) (Res.tmp (by rfl) (by rfl)) ?_ [] (by rfl) ?_
    · rfl
    · rfl
theorem once_vals (W : World) (args : Array Value) (hv : Vals Try.prog W [3, 23] args.toList) :
    Calls Try.prog 7 args W fun e W' => e = .returned (.bool true) ∧ Below W.heap.size W W' := by
  obtain ⟨v0, r0, e0, h0, v1, r1, rfl, h1, rfl⟩ := hv
  obtain rfl : args = #[v0, v1] := by cases args; simp_all
  obtain ⟨q, rfl, hq⟩ := val_int Try.underlying3 h0
  obtain ⟨B, d, ids, rfl, hr, _, hn⟩ := val_ints Try.underlying23 Try.underlying3 (by kernel_rfl) (by kernel_rfl) h1
  exact Fn.law (once_sl W q (wf_bd hq) B d ids hn hr)

set_option maxRecDepth 100000 in
theorem once_lifted (os : Os) (started : os.Started) (H : Type) (enc : TypeId × Value → H) :
    ReturnsInHanded {} Try.checked os 7 .any (Rows.rpcOnceSpec.pre6 enc Try.prog Try.f7 Rows.rpcOnceRow.domain false) (Rows.rpcOnceSpec.post enc Try.prog Try.f7 false true false false) :=
  lift_law (C := Try.checked) #[3, 23] (by kernel_rfl) (by kernel_rfl) started (by kernel_rfl) Try.func7
    (ChangeSpec.witness6 (enc := enc) (C := Try.checked) false ⟨#[], #[.int .i64 0, .slice none 0 0], []⟩ 8 (by kernel_rfl) (by kernel_rfl) (by kernel_rfl) (by kernel_rfl))
    Try.params7 (by kernel_rfl) rfl rfl Try.underlying4 (fun ds hl => match ds, hl with | [_, _], _ => rfl) (fun W args hv => once_vals W args hv)

theorem once_holds : Rows.RpcOnceSaid :=
  OpenClaim.holds_of_wide 7 Try.f7 rfl rfl rfl rfl rfl rfl rfl ⟨rfl, rfl, rfl, rfl, rfl⟩ rfl rfl rfl rfl rfl (by kernel_rfl) Try.func7 (by kernel_rfl)
    (of_decide_eq_true (by kernel_rfl)) (by unfold Func.isWrapper; rw [if_neg (of_decide_eq_false (by kernel_rfl))]; exact ⟨rfl, rfl⟩)
    (fun os started H enc _ => once_lifted os started H enc)

end Go.Proofs.Ytgidkjfakecniaa
