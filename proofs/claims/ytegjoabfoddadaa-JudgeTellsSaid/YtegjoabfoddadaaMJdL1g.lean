/-
  Texts joined: JdA, JdB, JdC, JdD.
-/
import Derived.Test.YtegjoabfoddadaaMJdL1a
import Derived.Test.YtegjoabfoddadaaMJdL1b
import Derived.Test.YtegjoabfoddadaaMJdL1c
import Derived.Test.YtegjoabfoddadaaMJdL1e
import Derived.Test.YtegjoabfoddadaaMJdL1f
import Derived.Test.YtegjoabfoddadaaProg
/- layer 23 over pieces: lists, routes, calls, replies -/
namespace Go.Proofs.Ytegjoabfoddadaa
open Go.RowKit
theorem elem_int : Elem Try.prog 22 3 1 8 := elem_of (by kernel_rfl)

theorem one_ints (xs : List Int) : ∀ u ∈ ints xs, u.oneCell' = true := fun u hu => by
  simp only [ints, List.mem_map] at hu
  obtain ⟨x, _, rfl⟩ := hu
  rfl
theorem clone_sl (A : Option Addr) (n c : Nat) (xs : List Int) (hn : n ≤ 17592186044415) :
    Fn Try.prog 42 #[.slice A n c] [rd A n 1 (ints xs)] (Option Addr × Nat) (fun p => .slice p.1 n p.2) (fun p => [row p.1 n p.2 3 1 (ints xs)]) (fun _ => True) := by
  refine Fn.enter Try.func42 rfl Try.ntmps42 (by rfl) ?_
  intro w0
  refine Cd.seq ?_
  refine Cd.region ?_
  refine Ls.ev (some 2) (Ev.assign (show Oper.op _ = Op.assign (Operand.const (Value.slice none 0 0)) from rfl) (by rfl)) (by rfl) (by rfl) ?_
  refine Ls.nil ?_
  refine Cd.seq ?_
  refine Cd.seq ?_
  refine Cd.region ?_
  refine Ls.ev (some 3) (Ev.move (show Oper.op _ = Op.move (Operand.tmp 0) from rfl) (by rfl)) (by rfl) (by rfl) ?_
  refine Ls.ev (some 4) (Ev.isNil (show Oper.op _ = Op.binOp BinOp.eql 22 (Operand.tmp 3) (Operand.const (Value.slice none 0 0)) 22 from rfl) (by rfl) (by rfl) Try.underlying22) (by rfl) (by rfl) ?_
  refine Ls.nil ?_
  refine Cd.cond _ (by rfl) (fun h => ?_) (fun h => ?_)
  · skip
    refine Cd.seq ?_
    refine Cd.region ?_
    refine Ls.ev (some 2) (Ev.assign (show Oper.op _ = Op.assign (Operand.const (Value.slice none 0 0)) from rfl) (by rfl)) (by rfl) (by rfl) ?_
    refine Ls.nil ?_
    have hA : A = none := by simpa using h
    subst hA
    refine Ent.fact 0 (by rfl) (p := n = 0 ∧ xs = []) (fun w hw => ?_) ?_
    · have h0 : n = 0 := by
        rcases Nat.eq_zero_or_pos n with h | h
        · exact h
        · obtain ⟨_, h, _⟩ := hw.2 h; cases h
      subst h0
      exact ⟨rfl, by simpa [ints] using hw.1⟩
    rintro ⟨rfl, rfl⟩
    refine Ent.nil 3 1 ?_
    refine Cd.ret ?_
    refine Ent.ret ((none, 0)) (trivial) (Res.tmp (by rfl) (by rfl)) ?_ [0] (by rfl) ?_
    · rfl
    · rfl
  · skip
    refine Cd.skip ?_
    refine Cd.seq ?_
    refine Cd.region ?_
    refine Ls.does (some 5) (Does.lit0 (sz := 1) (show Oper.op _ = Op.buildSlice 22 0 #[] from rfl) Try.underlying22 (by kernel_rfl)) (by rfl) (by rfl) ?_
    intro g1 _
    refine Ls.ev (some 6) (Ev.move (show Oper.op _ = Op.move (Operand.tmp 0) from rfl) (by rfl)) (by rfl) (by rfl) ?_
    refine Ls.does (some 7) (Does.app 0 (show Oper.op _ = Op.call { callee := Callee.builtin Builtin.append, args := #[Operand.tmp 5, Operand.tmp 6], argTypes := #[22, 22] } from rfl) (by rfl) (by rfl) (by rfl) (ReadsIn.rd 1 (by rfl)) elem_int (one_ints xs) (by omega)) (by rfl) (by rfl) ?_
    intro p _
    refine Ls.ev (some 2) (Ev.assign (show Oper.op _ = Op.assign (Operand.tmp 7) from rfl) (by rfl)) (by rfl) (by rfl) ?_
    refine Ls.nil ?_
    refine Cd.ret ?_
    refine Ent.ret (p) (trivial) (Res.tmp (by rfl) (by rfl)) ?_ [0] (by rfl) ?_
    · rw [Nat.zero_add]
    · simp only [Nat.zero_add, List.nil_append]
      rfl

theorem take_eq_step {α : Type} {xs ys : List α} {k : Nat} {u v : α} (h : xs.take k = ys.take k) (hu : xs[k]? = some u) (hv : ys[k]? = some v) (e : u = v) : xs.take (k + 1) = ys.take (k + 1) := by
  rw [List.take_add_one, List.take_add_one, h, hu, hv, e]
theorem get_of_lt {α : Type} {xs : List α} {k : Nat} (h : k < xs.length) : ∃ u, xs[k]? = some u := ⟨xs[k], List.getElem?_eq_getElem h⟩

theorem ints_sl (A D : Option Addr) (c d : Nat) (xs ys : List Int) (hn : xs.length ≤ 17592186044415) :
    Fn Try.prog 41 #[.slice A xs.length c, .slice D ys.length d] [rd A xs.length 1 (ints xs), rd D ys.length 1 (ints ys)] Unit (fun _ => .bool (decide (xs = ys))) (fun _ => []) (fun _ => True) := by
  refine Fn.enter Try.func41 rfl Try.ntmps41 (by rfl) ?_
  intro w0
  refine Cd.seq ?_
  refine Cd.region ?_
  refine Ls.ev (some 4) (Ev.assign (show Oper.op _ = Op.assign (Operand.const (Value.bool false)) from rfl) (by rfl)) (by rfl) (by rfl) ?_
  refine Ls.nil ?_
  refine Cd.seq ?_
  refine Cd.seq ?_
  refine Cd.region ?_
  refine Ls.ev (some 6) (Ev.move (show Oper.op _ = Op.move (Operand.tmp 0) from rfl) (by rfl)) (by rfl) (by rfl) ?_
  refine Ls.ev (some 7) (Ev.len (show Oper.op _ = Op.call { callee := Callee.builtin Builtin.len, args := #[Operand.tmp 6], argTypes := #[22] } from rfl) (by rfl) Try.underlying22) (by rfl) (by rfl) ?_
  refine Ls.ev (some 8) (Ev.move (show Oper.op _ = Op.move (Operand.tmp 1) from rfl) (by rfl)) (by rfl) (by rfl) ?_
  refine Ls.ev (some 9) (Ev.len (show Oper.op _ = Op.call { callee := Callee.builtin Builtin.len, args := #[Operand.tmp 8], argTypes := #[22] } from rfl) (by rfl) Try.underlying22) (by rfl) (by rfl) ?_
  refine Ls.ev (some 10) (Ev.neq (show Oper.op _ = Op.binOp BinOp.neq 3 (Operand.tmp 7) (Operand.tmp 9) 3 from rfl) (by rfl) (by rfl)) (by rfl) (by rfl) ?_
  refine Ls.nil ?_
  refine Cd.cond _ (by rfl) (fun h => ?_) (fun h => ?_)
  · skip
    have h : (xs.length : Int) ≠ ys.length := of_decide_eq_true h
    have hne : xs ≠ ys := fun e => h (by rw [e])
    refine Cd.seq ?_
    refine Cd.region ?_
    refine Ls.ev (some 4) (Ev.assign (show Oper.op _ = Op.assign (Operand.const (Value.bool false)) from rfl) (by rfl)) (by rfl) (by rfl) ?_
    refine Ls.nil ?_
    refine Cd.ret ?_
    refine Ent.ret (()) (trivial) (Res.tmp (by rfl) (by rfl)) ?_ [] (by rfl) ?_
    · rw [decide_eq_false hne]
    · rfl
  · skip
    have h : (xs.length : Int) = ys.length := by simpa using of_decide_eq_false h
    have hl : ys.length = xs.length := by omega
    refine Cd.skip ?_
    refine Cd.seq ?_
    refine Cd.seq ?_
    refine Cd.region ?_
    refine Ls.ev (some 11) (Ev.move (show Oper.op _ = Op.move (Operand.tmp 0) from rfl) (by rfl)) (by rfl) (by rfl) ?_
    refine Ls.ev (some 12) (Ev.len (show Oper.op _ = Op.call { callee := Callee.builtin Builtin.len, args := #[Operand.tmp 11], argTypes := #[22] } from rfl) (by rfl) Try.underlying22) (by rfl) (by rfl) ?_
    refine Ls.ev (some 13) (Ev.move (show Oper.op _ = Op.move (Operand.const (Value.int IntKind.i64 0)) from rfl) (by rfl)) (by rfl) (by rfl) ?_
    refine Ls.nil ?_
    refine Cd.block ?_
    refine Cd.loop (ι := Nat) (fun k => [(0, .slice A xs.length c), (1, .slice D ys.length d), (12, .int .i64 xs.length), (13, .int .i64 k)]) (fun _ => [rd A xs.length 1 (ints xs), rd D ys.length 1 (ints ys)]) (fun k => k ≤ xs.length ∧ xs.take k = ys.take k) (fun k => xs.length - k) (0) (⟨Nat.zero_le _, rfl⟩) ?_ rfl ?_
    · (repeat (first | exact trivial | refine ⟨by rfl, ?_⟩))
    intro k ⟨hk, htk⟩
    refine Cd.seq ?_
    refine Cd.region ?_
    refine Ls.ev (some 14) (Ev.lss (show Oper.op _ = Op.binOp BinOp.lss 3 (Operand.tmp 13) (Operand.tmp 12) 3 from rfl) (by rfl) (by rfl)) (by rfl) (by rfl) ?_
    refine Ls.nil ?_
    refine Cd.seq ?_
    refine Cd.cond _ (by rfl) (fun h => ?_) (fun h => ?_)
    · skip
      have hlt : k < xs.length := by have := of_decide_eq_true h; omega
      obtain ⟨u, hu⟩ := get_of_lt hlt
      obtain ⟨v, hv⟩ := get_of_lt (show k < ys.length by omega)
      refine Ent.rdSome 0 (by rfl) (by omega) (fun ax hax => ?_)
      refine Ent.rdSome 1 (by rfl) (by omega) (fun ay hay => ?_)
      subst hax hay
      refine Cd.skip ?_
      refine Cd.seq ?_
      refine Cd.block ?_
      refine Cd.seq ?_
      refine Cd.region ?_
      refine Ls.ev (some 15) (Ev.move (show Oper.op _ = Op.move (Operand.tmp 13) from rfl) (by rfl)) (by rfl) (by rfl) ?_
      refine Ls.ev (some 5) (Ev.assign (show Oper.op _ = Op.assign (Operand.tmp 15) from rfl) (by rfl)) (by rfl) (by rfl) ?_
      refine Ls.nil ?_
      refine Cd.seq ?_
      refine Cd.draw [] (by kernel_rfl) ?_
      refine Rg.ev 0 (by rfl) (fun _ h => h) (Ev.move (show Oper.op _ = Op.move (Operand.tmp 0) from rfl) (by rfl)) (by rfl) (some 16) (by rfl) (by kernel_rfl) (by kernel_rfl) (by kernel_rfl) (by kernel_rfl) ?_
      refine Rg.ev 1 (by rfl) (fun _ h => h) (Ev.move (show Oper.op _ = Op.move (Operand.tmp 5) from rfl) (by rfl)) (by rfl) (some 17) (by rfl) (by kernel_rfl) (by kernel_rfl) (by kernel_rfl) (by kernel_rfl) ?_
      refine Rg.ev 2 (by rfl) (fun _ h => h) (Ev.indexAt (sz := 1) (show Oper.op _ = Op.indexAddr 22 (Operand.tmp 16) (Operand.tmp 17) from rfl) (by rfl) (by rfl) Try.underlying22 (by kernel_rfl) (by omega)) (by rfl) (some 18) (by rfl) (by kernel_rfl) (by kernel_rfl) (by kernel_rfl) (by kernel_rfl) ?_
      refine Rg.ev 3 (by rfl) (fun _ h => h) (Ev.loadInt (show Oper.op _ = Op.load 3 (Operand.tmp 18) from rfl) (by rfl) (ReadsIn.rd 0 (by rfl)) (by kernel_rfl) (by assumption)) (by rfl) (some 19) (by rfl) (by kernel_rfl) (by kernel_rfl) (by kernel_rfl) (by kernel_rfl) ?_
      refine Rg.ev 4 (by rfl) (fun _ h => h) (Ev.move (show Oper.op _ = Op.move (Operand.tmp 1) from rfl) (by rfl)) (by rfl) (some 20) (by rfl) (by kernel_rfl) (by kernel_rfl) (by kernel_rfl) (by kernel_rfl) ?_
      refine Rg.ev 5 (by rfl) (fun _ h => h) (Ev.move (show Oper.op _ = Op.move (Operand.tmp 5) from rfl) (by rfl)) (by rfl) (some 21) (by rfl) (by kernel_rfl) (by kernel_rfl) (by kernel_rfl) (by kernel_rfl) ?_
      refine Rg.ev 6 (by rfl) (fun _ h => h) (Ev.indexAt (sz := 1) (show Oper.op _ = Op.indexAddr 22 (Operand.tmp 20) (Operand.tmp 21) from rfl) (by rfl) (by rfl) Try.underlying22 (by kernel_rfl) (by omega)) (by rfl) (some 22) (by rfl) (by kernel_rfl) (by kernel_rfl) (by kernel_rfl) (by kernel_rfl) ?_
      refine Rg.ev 7 (by rfl) (fun _ h => h) (Ev.loadInt (show Oper.op _ = Op.load 3 (Operand.tmp 22) from rfl) (by rfl) (ReadsIn.rd 1 (by rfl)) (by kernel_rfl) (by assumption)) (by rfl) (some 23) (by rfl) (by kernel_rfl) (by kernel_rfl) (by kernel_rfl) (by kernel_rfl) ?_
      refine Rg.ev 8 (by rfl) (fun _ h => h) (Ev.neq (show Oper.op _ = Op.binOp BinOp.neq 3 (Operand.tmp 19) (Operand.tmp 23) 3 from rfl) (by rfl) (by rfl)) (by rfl) (some 24) (by rfl) (by kernel_rfl) (by kernel_rfl) (by kernel_rfl) (by kernel_rfl) ?_
      refine Rg.done (by kernel_rfl) ?_ _
      refine Cd.cond _ (by rfl) (fun h => ?_) (fun h => ?_)
      · skip
        have huv : u ≠ v := of_decide_eq_true h
        have hne : xs ≠ ys := fun e => huv (by subst e; rw [hu] at hv; exact Option.some.inj hv)
        refine Cd.seq ?_
        refine Cd.region ?_
        refine Ls.ev (some 4) (Ev.assign (show Oper.op _ = Op.assign (Operand.const (Value.bool false)) from rfl) (by rfl)) (by rfl) (by rfl) ?_
        refine Ls.nil ?_
        refine Cd.ret ?_
        refine Ent.ret (()) (trivial) (Res.tmp (by rfl) (by rfl)) ?_ [] (by rfl) ?_
        · rw [decide_eq_false hne]
        · rfl
      · skip
        have huv : u = v := by simpa using of_decide_eq_false h
        refine Cd.skip ?_
        refine Cd.region ?_
        refine Ls.ev (some 25) (Ev.addI (show Oper.op _ = Op.binOp BinOp.add 3 (Operand.tmp 13) (Operand.const (Value.int IntKind.i64 1)) 3 from rfl) (by rfl) (by rfl) (by omega)) (by rfl) (by rfl) ?_
        refine Ls.ev (some 13) (Ev.move (show Oper.op _ = Op.move (Operand.tmp 25) from rfl) (by rfl)) (by rfl) (by rfl) ?_
        refine Ls.nil ?_
        refine Ent.inv (k + 1) ?_ ?_ ?_
        · (try dsimp only); exact ⟨⟨by omega, take_eq_step htk hu hv huv⟩, by omega⟩
        · (repeat (first | exact trivial | refine ⟨by rfl, ?_⟩ | refine ⟨by simp only [List.length_append, List.length_cons, List.length_nil]; rfl, ?_⟩ | refine ⟨by push_cast; rfl, ?_⟩))
        · rfl
    · skip
      have hlt : ¬ k < xs.length := by have := of_decide_eq_false h; omega
      have he : xs = ys := by rwa [List.take_of_length_le (by omega), List.take_of_length_le (by omega)] at htk
      refine Cd.exit ?_
      refine Cd.seq ?_
      refine Cd.region ?_
      refine Ls.ev (some 4) (Ev.assign (show Oper.op _ = Op.assign (Operand.const (Value.bool true)) from rfl) (by rfl)) (by rfl) (by rfl) ?_
      refine Ls.nil ?_
      refine Cd.ret ?_
      refine Ent.ret (()) (trivial) (Res.tmp (by rfl) (by rfl)) ?_ [] (by rfl) ?_
      · rw [decide_eq_true he]
      · rfl
theorem equalI_sl (A D : Option Addr) (c d : Nat) (xs ys : List Int) (hn : xs.length ≤ 17592186044415) :
    Fn Try.prog 44 #[.slice A xs.length c, .slice D ys.length d] [rd A xs.length 1 (ints xs), rd D ys.length 1 (ints ys)] Unit (fun _ => .bool (decide (xs = ys))) (fun _ => []) (fun _ => True) := by
  refine Fn.enter Try.func44 rfl Try.ntmps44 (by rfl) ?_
  intro w0
  refine Cd.seq ?_
  refine Cd.region ?_
  refine Ls.ev (some 4) (Ev.assign (show Oper.op _ = Op.assign (Operand.const (Value.bool false)) from rfl) (by rfl)) (by rfl) (by rfl) ?_
  refine Ls.nil ?_
  refine Cd.seq ?_
  refine Cd.seq ?_
  refine Cd.region ?_
  refine Ls.ev (some 6) (Ev.move (show Oper.op _ = Op.move (Operand.tmp 0) from rfl) (by rfl)) (by rfl) (by rfl) ?_
  refine Ls.ev (some 7) (Ev.len (show Oper.op _ = Op.call { callee := Callee.builtin Builtin.len, args := #[Operand.tmp 6], argTypes := #[22] } from rfl) (by rfl) Try.underlying22) (by rfl) (by rfl) ?_
  refine Ls.ev (some 8) (Ev.move (show Oper.op _ = Op.move (Operand.tmp 1) from rfl) (by rfl)) (by rfl) (by rfl) ?_
  refine Ls.ev (some 9) (Ev.len (show Oper.op _ = Op.call { callee := Callee.builtin Builtin.len, args := #[Operand.tmp 8], argTypes := #[22] } from rfl) (by rfl) Try.underlying22) (by rfl) (by rfl) ?_
  refine Ls.ev (some 10) (Ev.neq (show Oper.op _ = Op.binOp BinOp.neq 3 (Operand.tmp 7) (Operand.tmp 9) 3 from rfl) (by rfl) (by rfl)) (by rfl) (by rfl) ?_
  refine Ls.nil ?_
  refine Cd.cond _ (by rfl) (fun h => ?_) (fun h => ?_)
  · skip
    have h : (xs.length : Int) ≠ ys.length := of_decide_eq_true h
    have hne : xs ≠ ys := fun e => h (by rw [e])
    refine Cd.seq ?_
    refine Cd.region ?_
    refine Ls.ev (some 4) (Ev.assign (show Oper.op _ = Op.assign (Operand.const (Value.bool false)) from rfl) (by rfl)) (by rfl) (by rfl) ?_
    refine Ls.nil ?_
    refine Cd.ret ?_
    refine Ent.ret (()) (trivial) (Res.tmp (by rfl) (by rfl)) ?_ [] (by rfl) ?_
    · rw [decide_eq_false hne]
    · rfl
  · skip
    have h : (xs.length : Int) = ys.length := by simpa using of_decide_eq_false h
    have hl : ys.length = xs.length := by omega
    refine Cd.skip ?_
    refine Cd.seq ?_
    refine Cd.seq ?_
    refine Cd.region ?_
    refine Ls.ev (some 11) (Ev.move (show Oper.op _ = Op.move (Operand.tmp 0) from rfl) (by rfl)) (by rfl) (by rfl) ?_
    refine Ls.ev (some 12) (Ev.len (show Oper.op _ = Op.call { callee := Callee.builtin Builtin.len, args := #[Operand.tmp 11], argTypes := #[22] } from rfl) (by rfl) Try.underlying22) (by rfl) (by rfl) ?_
    refine Ls.ev (some 13) (Ev.move (show Oper.op _ = Op.move (Operand.const (Value.int IntKind.i64 0)) from rfl) (by rfl)) (by rfl) (by rfl) ?_
    refine Ls.nil ?_
    refine Cd.block ?_
    refine Cd.loop (ι := Nat) (fun k => [(0, .slice A xs.length c), (1, .slice D ys.length d), (12, .int .i64 xs.length), (13, .int .i64 k)]) (fun _ => [rd A xs.length 1 (ints xs), rd D ys.length 1 (ints ys)]) (fun k => k ≤ xs.length ∧ xs.take k = ys.take k) (fun k => xs.length - k) (0) (⟨Nat.zero_le _, rfl⟩) ?_ rfl ?_
    · (repeat (first | exact trivial | refine ⟨by rfl, ?_⟩))
    intro k ⟨hk, htk⟩
    refine Cd.seq ?_
    refine Cd.region ?_
    refine Ls.ev (some 14) (Ev.lss (show Oper.op _ = Op.binOp BinOp.lss 3 (Operand.tmp 13) (Operand.tmp 12) 3 from rfl) (by rfl) (by rfl)) (by rfl) (by rfl) ?_
    refine Ls.nil ?_
    refine Cd.seq ?_
    refine Cd.cond _ (by rfl) (fun h => ?_) (fun h => ?_)
    · skip
      have hlt : k < xs.length := by have := of_decide_eq_true h; omega
      obtain ⟨u, hu⟩ := get_of_lt hlt
      obtain ⟨v, hv⟩ := get_of_lt (show k < ys.length by omega)
      refine Ent.rdSome 0 (by rfl) (by omega) (fun ax hax => ?_)
      refine Ent.rdSome 1 (by rfl) (by omega) (fun ay hay => ?_)
      subst hax hay
      refine Cd.skip ?_
      refine Cd.seq ?_
      refine Cd.block ?_
      refine Cd.seq ?_
      refine Cd.region ?_
      refine Ls.ev (some 15) (Ev.move (show Oper.op _ = Op.move (Operand.tmp 13) from rfl) (by rfl)) (by rfl) (by rfl) ?_
      refine Ls.ev (some 5) (Ev.assign (show Oper.op _ = Op.assign (Operand.tmp 15) from rfl) (by rfl)) (by rfl) (by rfl) ?_
      refine Ls.nil ?_
      refine Cd.seq ?_
      refine Cd.draw [] (by kernel_rfl) ?_
      refine Rg.ev 0 (by rfl) (fun _ h => h) (Ev.move (show Oper.op _ = Op.move (Operand.tmp 0) from rfl) (by rfl)) (by rfl) (some 16) (by rfl) (by kernel_rfl) (by kernel_rfl) (by kernel_rfl) (by kernel_rfl) ?_
      refine Rg.ev 1 (by rfl) (fun _ h => h) (Ev.move (show Oper.op _ = Op.move (Operand.tmp 5) from rfl) (by rfl)) (by rfl) (some 17) (by rfl) (by kernel_rfl) (by kernel_rfl) (by kernel_rfl) (by kernel_rfl) ?_
      refine Rg.ev 2 (by rfl) (fun _ h => h) (Ev.indexAt (sz := 1) (show Oper.op _ = Op.indexAddr 22 (Operand.tmp 16) (Operand.tmp 17) from rfl) (by rfl) (by rfl) Try.underlying22 (by kernel_rfl) (by omega)) (by rfl) (some 18) (by rfl) (by kernel_rfl) (by kernel_rfl) (by kernel_rfl) (by kernel_rfl) ?_
      refine Rg.ev 3 (by rfl) (fun _ h => h) (Ev.loadInt (show Oper.op _ = Op.load 3 (Operand.tmp 18) from rfl) (by rfl) (ReadsIn.rd 0 (by rfl)) (by kernel_rfl) (by assumption)) (by rfl) (some 19) (by rfl) (by kernel_rfl) (by kernel_rfl) (by kernel_rfl) (by kernel_rfl) ?_
      refine Rg.ev 4 (by rfl) (fun _ h => h) (Ev.move (show Oper.op _ = Op.move (Operand.tmp 1) from rfl) (by rfl)) (by rfl) (some 20) (by rfl) (by kernel_rfl) (by kernel_rfl) (by kernel_rfl) (by kernel_rfl) ?_
      refine Rg.ev 5 (by rfl) (fun _ h => h) (Ev.move (show Oper.op _ = Op.move (Operand.tmp 5) from rfl) (by rfl)) (by rfl) (some 21) (by rfl) (by kernel_rfl) (by kernel_rfl) (by kernel_rfl) (by kernel_rfl) ?_
      refine Rg.ev 6 (by rfl) (fun _ h => h) (Ev.indexAt (sz := 1) (show Oper.op _ = Op.indexAddr 22 (Operand.tmp 20) (Operand.tmp 21) from rfl) (by rfl) (by rfl) Try.underlying22 (by kernel_rfl) (by omega)) (by rfl) (some 22) (by rfl) (by kernel_rfl) (by kernel_rfl) (by kernel_rfl) (by kernel_rfl) ?_
      refine Rg.ev 7 (by rfl) (fun _ h => h) (Ev.loadInt (show Oper.op _ = Op.load 3 (Operand.tmp 22) from rfl) (by rfl) (ReadsIn.rd 1 (by rfl)) (by kernel_rfl) (by assumption)) (by rfl) (some 23) (by rfl) (by kernel_rfl) (by kernel_rfl) (by kernel_rfl) (by kernel_rfl) ?_
      refine Rg.ev 8 (by rfl) (fun _ h => h) (Ev.neq (show Oper.op _ = Op.binOp BinOp.neq 3 (Operand.tmp 19) (Operand.tmp 23) 3 from rfl) (by rfl) (by rfl)) (by rfl) (some 24) (by rfl) (by kernel_rfl) (by kernel_rfl) (by kernel_rfl) (by kernel_rfl) ?_
      refine Rg.done (by kernel_rfl) ?_ _
      refine Cd.cond _ (by rfl) (fun h => ?_) (fun h => ?_)
      · skip
        have huv : u ≠ v := of_decide_eq_true h
        have hne : xs ≠ ys := fun e => huv (by subst e; rw [hu] at hv; exact Option.some.inj hv)
        refine Cd.seq ?_
        refine Cd.region ?_
        refine Ls.ev (some 4) (Ev.assign (show Oper.op _ = Op.assign (Operand.const (Value.bool false)) from rfl) (by rfl)) (by rfl) (by rfl) ?_
        refine Ls.nil ?_
        refine Cd.ret ?_
        refine Ent.ret (()) (trivial) (Res.tmp (by rfl) (by rfl)) ?_ [] (by rfl) ?_
        · rw [decide_eq_false hne]
        · rfl
      · skip
        have huv : u = v := by simpa using of_decide_eq_false h
        refine Cd.skip ?_
        refine Cd.region ?_
        refine Ls.ev (some 25) (Ev.addI (show Oper.op _ = Op.binOp BinOp.add 3 (Operand.tmp 13) (Operand.const (Value.int IntKind.i64 1)) 3 from rfl) (by rfl) (by rfl) (by omega)) (by rfl) (by rfl) ?_
        refine Ls.ev (some 13) (Ev.move (show Oper.op _ = Op.move (Operand.tmp 25) from rfl) (by rfl)) (by rfl) (by rfl) ?_
        refine Ls.nil ?_
        refine Ent.inv (k + 1) ?_ ?_ ?_
        · (try dsimp only); exact ⟨⟨by omega, take_eq_step htk hu hv huv⟩, by omega⟩
        · (repeat (first | exact trivial | refine ⟨by rfl, ?_⟩ | refine ⟨by simp only [List.length_append, List.length_cons, List.length_nil]; rfl, ?_⟩ | refine ⟨by push_cast; rfl, ?_⟩))
        · rfl
    · skip
      have hlt : ¬ k < xs.length := by have := of_decide_eq_false h; omega
      have he : xs = ys := by rwa [List.take_of_length_le (by omega), List.take_of_length_le (by omega)] at htk
      refine Cd.exit ?_
      refine Cd.seq ?_
      refine Cd.region ?_
      refine Ls.ev (some 4) (Ev.assign (show Oper.op _ = Op.assign (Operand.const (Value.bool true)) from rfl) (by rfl)) (by rfl) (by rfl) ?_
      refine Ls.nil ?_
      refine Cd.ret ?_
      refine Ent.ret (()) (trivial) (Res.tmp (by rfl) (by rfl)) ?_ [] (by rfl) ?_
      · rw [decide_eq_true he]
      · rfl

theorem sameRoute_sl (s1 s2 : Int) (A D : Option Addr) (c d : Nat) (xs ys : List Int) (hn : xs.length ≤ 17592186044415) :
    Fn Try.prog 24 #[.agg #[.int .i64 s1, .slice A xs.length c], .agg #[.int .i64 s2, .slice D ys.length d]] [rd A xs.length 1 (ints xs), rd D ys.length 1 (ints ys)] Unit (fun _ => .bool (decide (s1 = s2 ∧ xs = ys))) (fun _ => []) (fun _ => True) := by
  refine Fn.enter Try.func24 rfl Try.ntmps24 (by rfl) ?_
  intro w0
  refine Cd.seq ?_
  refine Cd.region ?_
  refine Ls.does (some 2) (Does.box (show Oper.op _ = Op.box 41 (Operand.tmp 0) from rfl) (by rfl)) (by rfl) (by rfl) ?_
  intro g1 _
  refine Ls.does (some 3) (Does.box (show Oper.op _ = Op.box 41 (Operand.tmp 1) from rfl) (by rfl)) (by rfl) (by rfl) ?_
  intro g2 _
  refine Ls.ev (some 4) (Ev.assign (show Oper.op _ = Op.assign (Operand.const (Value.bool false)) from rfl) (by rfl)) (by rfl) (by rfl) ?_
  refine Ls.nil ?_
  refine Cd.seq ?_
  refine Cd.region ?_
  refine Ls.ev (some 5) (Ev.fieldAddr (k := 0) (show Oper.op _ = Op.fieldAddr 41 (Operand.tmp 2) 0 from rfl) (by rfl) (by kernel_rfl) (by rfl)) (by rfl) (by rfl) ?_
  refine Ls.ev (some 6) (Ev.load 1 (show Oper.op _ = Op.load 3 (Operand.tmp 5) from rfl) (by rfl) (by rfl) (by kernel_rfl) (by rfl)) (by rfl) (by rfl) ?_
  refine Ls.ev (some 7) (Ev.fieldAddr (k := 0) (show Oper.op _ = Op.fieldAddr 41 (Operand.tmp 3) 0 from rfl) (by rfl) (by kernel_rfl) (by rfl)) (by rfl) (by rfl) ?_
  refine Ls.ev (some 8) (Ev.load 0 (show Oper.op _ = Op.load 3 (Operand.tmp 7) from rfl) (by rfl) (by rfl) (by kernel_rfl) (by rfl)) (by rfl) (by rfl) ?_
  refine Ls.ev (some 9) (Ev.eql (show Oper.op _ = Op.binOp BinOp.eql 3 (Operand.tmp 6) (Operand.tmp 8) 3 from rfl) (by rfl) (by rfl)) (by rfl) (by rfl) ?_
  refine Ls.ev (some 10) (Ev.move (show Oper.op _ = Op.move (Operand.tmp 9) from rfl) (by rfl)) (by rfl) (by rfl) ?_
  refine Ent.split 10 (by rfl) (fun h => ?_) (fun h => ?_)
  · skip
    refine Ls.pass (some 11) (by rfl) (by rfl) ?_
    refine Ls.pass (some 12) (by rfl) (by rfl) ?_
    refine Ls.pass (some 13) (by rfl) (by rfl) ?_
    refine Ls.pass (some 14) (by rfl) (by rfl) ?_
    refine Ls.pass (some 15) (by rfl) (by rfl) ?_
    refine Ls.ev (some 16) (Ev.pickF (show Oper.op _ = Op.pick (Operand.tmp 10) (Operand.tmp 15) (Operand.const (Value.bool false)) from rfl) (by rfl) (by rfl)) (by rfl) (by rfl) ?_
    refine Ls.ev (some 4) (Ev.assign (show Oper.op _ = Op.assign (Operand.tmp 16) from rfl) (by rfl)) (by rfl) (by rfl) ?_
    refine Ls.nil ?_
    refine Cd.ret ?_
    refine Ent.ret (()) (trivial) (Res.tmp (by rfl) (by rfl)) ?_ [] (by rfl) ?_
    · rw [decide_eq_false (fun e => (of_decide_eq_false h) e.1)]
    · rfl
  skip
  refine Ls.ev (some 11) (Ev.fieldAddr (k := 1) (show Oper.op _ = Op.fieldAddr 41 (Operand.tmp 2) 1 from rfl) (by rfl) (by kernel_rfl) (by rfl)) (by rfl) (by rfl) ?_
  refine Ls.ev (some 12) (Ev.load 1 (show Oper.op _ = Op.load 22 (Operand.tmp 11) from rfl) (by rfl) (by rfl) (by kernel_rfl) (by rfl)) (by rfl) (by rfl) ?_
  refine Ls.ev (some 13) (Ev.fieldAddr (k := 1) (show Oper.op _ = Op.fieldAddr 41 (Operand.tmp 3) 1 from rfl) (by rfl) (by kernel_rfl) (by rfl)) (by rfl) (by rfl) ?_
  refine Ls.ev (some 14) (Ev.load 0 (show Oper.op _ = Op.load 22 (Operand.tmp 13) from rfl) (by rfl) (by rfl) (by kernel_rfl) (by rfl)) (by rfl) (by rfl) ?_
  refine Ls.does (some 15) (Does.call [2, 3] (show Oper.op _ = Op.call { callee := Callee.value (Operand.func 41), args := #[Operand.tmp 12, Operand.tmp 14], argTypes := #[22, 22] } from rfl) Try.func41 (by kernel_rfl) (by kernel_rfl) (ints_sl A D c d xs ys hn) (by rfl) (by rfl) (by rfl)) (by rfl) (by rfl) ?_
  intro _ _
  refine Ls.ev (some 16) (Ev.pickT (show Oper.op _ = Op.pick (Operand.tmp 10) (Operand.tmp 15) (Operand.const (Value.bool false)) from rfl) (by rfl) (by rfl)) (by rfl) (by rfl) ?_
  refine Ls.ev (some 4) (Ev.assign (show Oper.op _ = Op.assign (Operand.tmp 16) from rfl) (by rfl)) (by rfl) (by rfl) ?_
  refine Ls.nil ?_
  refine Cd.ret ?_
  refine Ent.ret (()) (trivial) (Res.tmp (by rfl) (by rfl)) ?_ [] (by rfl) ?_
  · simp [of_decide_eq_true h]
  · rfl
theorem sameCall_sl (v1 v2 e1 e2 s1 s2 : Int) (A D : Option Addr) (c d : Nat) (xs ys : List Int) (hn : xs.length ≤ 17592186044415) :
    Fn Try.prog 12 #[.agg #[.int .i64 v1, .int .i64 e1, .int .i64 s1, .slice A xs.length c], .agg #[.int .i64 v2, .int .i64 e2, .int .i64 s2, .slice D ys.length d]] [rd A xs.length 1 (ints xs), rd D ys.length 1 (ints ys)] Unit (fun _ => .bool (decide (v1 = v2 ∧ e1 = e2 ∧ s1 = s2 ∧ xs = ys))) (fun _ => []) (fun _ => True) := by
  refine Fn.enter Try.func12 rfl Try.ntmps12 (by rfl) ?_
  intro w0
  refine Cd.seq ?_
  refine Cd.region ?_
  refine Ls.does (some 2) (Does.box (show Oper.op _ = Op.box 43 (Operand.tmp 0) from rfl) (by rfl)) (by rfl) (by rfl) ?_
  intro g1 _
  refine Ls.does (some 3) (Does.box (show Oper.op _ = Op.box 43 (Operand.tmp 1) from rfl) (by rfl)) (by rfl) (by rfl) ?_
  intro g2 _
  refine Ls.ev (some 4) (Ev.assign (show Oper.op _ = Op.assign (Operand.const (Value.bool false)) from rfl) (by rfl)) (by rfl) (by rfl) ?_
  refine Ls.nil ?_
  refine Cd.seq ?_
  refine Cd.region ?_
  refine Ls.ev (some 5) (Ev.fieldAddr (k := 0) (show Oper.op _ = Op.fieldAddr 43 (Operand.tmp 2) 0 from rfl) (by rfl) (by kernel_rfl) (by rfl)) (by rfl) (by rfl) ?_
  refine Ls.ev (some 6) (Ev.load 1 (show Oper.op _ = Op.load 39 (Operand.tmp 5) from rfl) (by rfl) (by rfl) (by kernel_rfl) (by rfl)) (by rfl) (by rfl) ?_
  refine Ls.ev (some 7) (Ev.fieldAddr (k := 0) (show Oper.op _ = Op.fieldAddr 43 (Operand.tmp 3) 0 from rfl) (by rfl) (by kernel_rfl) (by rfl)) (by rfl) (by rfl) ?_
  refine Ls.ev (some 8) (Ev.load 0 (show Oper.op _ = Op.load 39 (Operand.tmp 7) from rfl) (by rfl) (by rfl) (by kernel_rfl) (by rfl)) (by rfl) (by rfl) ?_
  refine Ls.ev (some 9) (Ev.eql (show Oper.op _ = Op.binOp BinOp.eql 39 (Operand.tmp 6) (Operand.tmp 8) 39 from rfl) (by rfl) (by rfl)) (by rfl) (by rfl) ?_
  refine Ls.ev (some 10) (Ev.move (show Oper.op _ = Op.move (Operand.tmp 9) from rfl) (by rfl)) (by rfl) (by rfl) ?_
  refine Ent.split 10 (by rfl) (fun h => ?_) (fun h => ?_)
  · skip
    refine Ls.pass (some 11) (by rfl) (by rfl) ?_
    refine Ls.pass (some 12) (by rfl) (by rfl) ?_
    refine Ls.pass (some 13) (by rfl) (by rfl) ?_
    refine Ls.pass (some 14) (by rfl) (by rfl) ?_
    refine Ls.pass (some 15) (by rfl) (by rfl) ?_
    refine Ls.ev (some 16) (Ev.pickF (show Oper.op _ = Op.pick (Operand.tmp 10) (Operand.tmp 15) (Operand.const (Value.bool false)) from rfl) (by rfl) (by rfl)) (by rfl) (by rfl) ?_
    refine Ls.ev (some 17) (Ev.move (show Oper.op _ = Op.move (Operand.tmp 16) from rfl) (by rfl)) (by rfl) (by rfl) ?_
    refine Ls.pass (some 18) (by rfl) (by rfl) ?_
    refine Ls.pass (some 19) (by rfl) (by rfl) ?_
    refine Ls.pass (some 20) (by rfl) (by rfl) ?_
    refine Ls.pass (some 21) (by rfl) (by rfl) ?_
    refine Ls.pass (some 22) (by rfl) (by rfl) ?_
    refine Ls.ev (some 23) (Ev.pickF (show Oper.op _ = Op.pick (Operand.tmp 17) (Operand.tmp 22) (Operand.const (Value.bool false)) from rfl) (by rfl) (by rfl)) (by rfl) (by rfl) ?_
    refine Ls.ev (some 4) (Ev.assign (show Oper.op _ = Op.assign (Operand.tmp 23) from rfl) (by rfl)) (by rfl) (by rfl) ?_
    refine Ls.nil ?_
    refine Cd.ret ?_
    refine Ent.ret (()) (trivial) (Res.tmp (by rfl) (by rfl)) ?_ [] (by rfl) ?_
    · rw [decide_eq_false (fun e => (of_decide_eq_false h) e.1)]
    · rfl
  skip
  refine Ls.ev (some 11) (Ev.fieldAddr (k := 1) (show Oper.op _ = Op.fieldAddr 43 (Operand.tmp 2) 1 from rfl) (by rfl) (by kernel_rfl) (by rfl)) (by rfl) (by rfl) ?_
  refine Ls.ev (some 12) (Ev.load 1 (show Oper.op _ = Op.load 3 (Operand.tmp 11) from rfl) (by rfl) (by rfl) (by kernel_rfl) (by rfl)) (by rfl) (by rfl) ?_
  refine Ls.ev (some 13) (Ev.fieldAddr (k := 1) (show Oper.op _ = Op.fieldAddr 43 (Operand.tmp 3) 1 from rfl) (by rfl) (by kernel_rfl) (by rfl)) (by rfl) (by rfl) ?_
  refine Ls.ev (some 14) (Ev.load 0 (show Oper.op _ = Op.load 3 (Operand.tmp 13) from rfl) (by rfl) (by rfl) (by kernel_rfl) (by rfl)) (by rfl) (by rfl) ?_
  refine Ls.ev (some 15) (Ev.eql (show Oper.op _ = Op.binOp BinOp.eql 3 (Operand.tmp 12) (Operand.tmp 14) 3 from rfl) (by rfl) (by rfl)) (by rfl) (by rfl) ?_
  refine Ls.ev (some 16) (Ev.pickT (show Oper.op _ = Op.pick (Operand.tmp 10) (Operand.tmp 15) (Operand.const (Value.bool false)) from rfl) (by rfl) (by rfl)) (by rfl) (by rfl) ?_
  refine Ls.ev (some 17) (Ev.move (show Oper.op _ = Op.move (Operand.tmp 16) from rfl) (by rfl)) (by rfl) (by rfl) ?_
  refine Ent.split 17 (by rfl) (fun h2 => ?_) (fun h2 => ?_)
  · skip
    refine Ls.pass (some 18) (by rfl) (by rfl) ?_
    refine Ls.pass (some 19) (by rfl) (by rfl) ?_
    refine Ls.pass (some 20) (by rfl) (by rfl) ?_
    refine Ls.pass (some 21) (by rfl) (by rfl) ?_
    refine Ls.pass (some 22) (by rfl) (by rfl) ?_
    refine Ls.ev (some 23) (Ev.pickF (show Oper.op _ = Op.pick (Operand.tmp 17) (Operand.tmp 22) (Operand.const (Value.bool false)) from rfl) (by rfl) (by rfl)) (by rfl) (by rfl) ?_
    refine Ls.ev (some 4) (Ev.assign (show Oper.op _ = Op.assign (Operand.tmp 23) from rfl) (by rfl)) (by rfl) (by rfl) ?_
    refine Ls.nil ?_
    refine Cd.ret ?_
    refine Ent.ret (()) (trivial) (Res.tmp (by rfl) (by rfl)) ?_ [] (by rfl) ?_
    · rw [decide_eq_false (fun e => (of_decide_eq_false h2) e.2.1)]
    · rfl
  skip
  refine Ls.ev (some 18) (Ev.fieldAddr (k := 2) (show Oper.op _ = Op.fieldAddr 43 (Operand.tmp 2) 2 from rfl) (by rfl) (by kernel_rfl) (by rfl)) (by rfl) (by rfl) ?_
  refine Ls.ev (some 19) (Ev.loads 1 (show Oper.op _ = Op.load 41 (Operand.tmp 18) from rfl) (by rfl) (by rfl) (n := 2) (by kernel_rfl) (by rfl) (by rfl)) (by rfl) (by rfl) ?_
  refine Ls.ev (some 20) (Ev.fieldAddr (k := 2) (show Oper.op _ = Op.fieldAddr 43 (Operand.tmp 3) 2 from rfl) (by rfl) (by kernel_rfl) (by rfl)) (by rfl) (by rfl) ?_
  refine Ls.ev (some 21) (Ev.loads 0 (show Oper.op _ = Op.load 41 (Operand.tmp 20) from rfl) (by rfl) (by rfl) (n := 2) (by kernel_rfl) (by rfl) (by rfl)) (by rfl) (by rfl) ?_
  refine Ls.does (some 22) (Does.call [2, 3] (show Oper.op _ = Op.call { callee := Callee.value (Operand.func 24), args := #[Operand.tmp 19, Operand.tmp 21], argTypes := #[41, 41] } from rfl) Try.func24 (by kernel_rfl) (by kernel_rfl) (sameRoute_sl s1 s2 A D c d xs ys hn) (by rfl) (by rfl) (by rfl)) (by rfl) (by rfl) ?_
  intro _ _
  refine Ls.ev (some 23) (Ev.pickT (show Oper.op _ = Op.pick (Operand.tmp 17) (Operand.tmp 22) (Operand.const (Value.bool false)) from rfl) (by rfl) (by rfl)) (by rfl) (by rfl) ?_
  refine Ls.ev (some 4) (Ev.assign (show Oper.op _ = Op.assign (Operand.tmp 23) from rfl) (by rfl)) (by rfl) (by rfl) ?_
  refine Ls.nil ?_
  refine Cd.ret ?_
  refine Ent.ret (()) (trivial) (Res.tmp (by rfl) (by rfl)) ?_ [] (by rfl) ?_
  · simp [of_decide_eq_true h, of_decide_eq_true h2]
  · rfl
theorem sameReply_sl (v1 v2 e1 e2 s1 s2 : Int) (A D : Option Addr) (c d : Nat) (xs ys : List Int) (hn : xs.length ≤ 17592186044415) :
    Fn Try.prog 13 #[.agg #[.int .i64 v1, .int .i64 e1, .int .i64 s1, .slice A xs.length c], .agg #[.int .i64 v2, .int .i64 e2, .int .i64 s2, .slice D ys.length d]] [rd A xs.length 1 (ints xs), rd D ys.length 1 (ints ys)] Unit (fun _ => .bool (decide (v1 = v2 ∧ e1 = e2 ∧ s1 = s2 ∧ xs = ys))) (fun _ => []) (fun _ => True) := by
  refine Fn.enter Try.func13 rfl Try.ntmps13 (by rfl) ?_
  intro w0
  refine Cd.seq ?_
  refine Cd.region ?_
  refine Ls.does (some 2) (Does.box (show Oper.op _ = Op.box 45 (Operand.tmp 0) from rfl) (by rfl)) (by rfl) (by rfl) ?_
  intro g1 _
  refine Ls.does (some 3) (Does.box (show Oper.op _ = Op.box 45 (Operand.tmp 1) from rfl) (by rfl)) (by rfl) (by rfl) ?_
  intro g2 _
  refine Ls.ev (some 4) (Ev.assign (show Oper.op _ = Op.assign (Operand.const (Value.bool false)) from rfl) (by rfl)) (by rfl) (by rfl) ?_
  refine Ls.nil ?_
  refine Cd.seq ?_
  refine Cd.region ?_
  refine Ls.ev (some 5) (Ev.fieldAddr (k := 0) (show Oper.op _ = Op.fieldAddr 45 (Operand.tmp 2) 0 from rfl) (by rfl) (by kernel_rfl) (by rfl)) (by rfl) (by rfl) ?_
  refine Ls.ev (some 6) (Ev.load 1 (show Oper.op _ = Op.load 30 (Operand.tmp 5) from rfl) (by rfl) (by rfl) (by kernel_rfl) (by rfl)) (by rfl) (by rfl) ?_
  refine Ls.ev (some 7) (Ev.fieldAddr (k := 0) (show Oper.op _ = Op.fieldAddr 45 (Operand.tmp 3) 0 from rfl) (by rfl) (by kernel_rfl) (by rfl)) (by rfl) (by rfl) ?_
  refine Ls.ev (some 8) (Ev.load 0 (show Oper.op _ = Op.load 30 (Operand.tmp 7) from rfl) (by rfl) (by rfl) (by kernel_rfl) (by rfl)) (by rfl) (by rfl) ?_
  refine Ls.ev (some 9) (Ev.eql (show Oper.op _ = Op.binOp BinOp.eql 30 (Operand.tmp 6) (Operand.tmp 8) 30 from rfl) (by rfl) (by rfl)) (by rfl) (by rfl) ?_
  refine Ls.ev (some 10) (Ev.move (show Oper.op _ = Op.move (Operand.tmp 9) from rfl) (by rfl)) (by rfl) (by rfl) ?_
  refine Ent.split 10 (by rfl) (fun h => ?_) (fun h => ?_)
  · skip
    refine Ls.pass (some 11) (by rfl) (by rfl) ?_
    refine Ls.pass (some 12) (by rfl) (by rfl) ?_
    refine Ls.pass (some 13) (by rfl) (by rfl) ?_
    refine Ls.pass (some 14) (by rfl) (by rfl) ?_
    refine Ls.pass (some 15) (by rfl) (by rfl) ?_
    refine Ls.ev (some 16) (Ev.pickF (show Oper.op _ = Op.pick (Operand.tmp 10) (Operand.tmp 15) (Operand.const (Value.bool false)) from rfl) (by rfl) (by rfl)) (by rfl) (by rfl) ?_
    refine Ls.ev (some 17) (Ev.move (show Oper.op _ = Op.move (Operand.tmp 16) from rfl) (by rfl)) (by rfl) (by rfl) ?_
    refine Ls.pass (some 18) (by rfl) (by rfl) ?_
    refine Ls.pass (some 19) (by rfl) (by rfl) ?_
    refine Ls.pass (some 20) (by rfl) (by rfl) ?_
    refine Ls.pass (some 21) (by rfl) (by rfl) ?_
    refine Ls.pass (some 22) (by rfl) (by rfl) ?_
    refine Ls.ev (some 23) (Ev.pickF (show Oper.op _ = Op.pick (Operand.tmp 17) (Operand.tmp 22) (Operand.const (Value.bool false)) from rfl) (by rfl) (by rfl)) (by rfl) (by rfl) ?_
    refine Ls.ev (some 4) (Ev.assign (show Oper.op _ = Op.assign (Operand.tmp 23) from rfl) (by rfl)) (by rfl) (by rfl) ?_
    refine Ls.nil ?_
    refine Cd.ret ?_
    refine Ent.ret (()) (trivial) (Res.tmp (by rfl) (by rfl)) ?_ [] (by rfl) ?_
    · rw [decide_eq_false (fun e => (of_decide_eq_false h) e.1)]
    · rfl
  skip
  refine Ls.ev (some 11) (Ev.fieldAddr (k := 1) (show Oper.op _ = Op.fieldAddr 45 (Operand.tmp 2) 1 from rfl) (by rfl) (by kernel_rfl) (by rfl)) (by rfl) (by rfl) ?_
  refine Ls.ev (some 12) (Ev.load 1 (show Oper.op _ = Op.load 3 (Operand.tmp 11) from rfl) (by rfl) (by rfl) (by kernel_rfl) (by rfl)) (by rfl) (by rfl) ?_
  refine Ls.ev (some 13) (Ev.fieldAddr (k := 1) (show Oper.op _ = Op.fieldAddr 45 (Operand.tmp 3) 1 from rfl) (by rfl) (by kernel_rfl) (by rfl)) (by rfl) (by rfl) ?_
  refine Ls.ev (some 14) (Ev.load 0 (show Oper.op _ = Op.load 3 (Operand.tmp 13) from rfl) (by rfl) (by rfl) (by kernel_rfl) (by rfl)) (by rfl) (by rfl) ?_
  refine Ls.ev (some 15) (Ev.eql (show Oper.op _ = Op.binOp BinOp.eql 3 (Operand.tmp 12) (Operand.tmp 14) 3 from rfl) (by rfl) (by rfl)) (by rfl) (by rfl) ?_
  refine Ls.ev (some 16) (Ev.pickT (show Oper.op _ = Op.pick (Operand.tmp 10) (Operand.tmp 15) (Operand.const (Value.bool false)) from rfl) (by rfl) (by rfl)) (by rfl) (by rfl) ?_
  refine Ls.ev (some 17) (Ev.move (show Oper.op _ = Op.move (Operand.tmp 16) from rfl) (by rfl)) (by rfl) (by rfl) ?_
  refine Ent.split 17 (by rfl) (fun h2 => ?_) (fun h2 => ?_)
  · skip
    refine Ls.pass (some 18) (by rfl) (by rfl) ?_
    refine Ls.pass (some 19) (by rfl) (by rfl) ?_
    refine Ls.pass (some 20) (by rfl) (by rfl) ?_
    refine Ls.pass (some 21) (by rfl) (by rfl) ?_
    refine Ls.pass (some 22) (by rfl) (by rfl) ?_
    refine Ls.ev (some 23) (Ev.pickF (show Oper.op _ = Op.pick (Operand.tmp 17) (Operand.tmp 22) (Operand.const (Value.bool false)) from rfl) (by rfl) (by rfl)) (by rfl) (by rfl) ?_
    refine Ls.ev (some 4) (Ev.assign (show Oper.op _ = Op.assign (Operand.tmp 23) from rfl) (by rfl)) (by rfl) (by rfl) ?_
    refine Ls.nil ?_
    refine Cd.ret ?_
    refine Ent.ret (()) (trivial) (Res.tmp (by rfl) (by rfl)) ?_ [] (by rfl) ?_
    · rw [decide_eq_false (fun e => (of_decide_eq_false h2) e.2.1)]
    · rfl
  skip
  refine Ls.ev (some 18) (Ev.fieldAddr (k := 2) (show Oper.op _ = Op.fieldAddr 45 (Operand.tmp 2) 2 from rfl) (by rfl) (by kernel_rfl) (by rfl)) (by rfl) (by rfl) ?_
  refine Ls.ev (some 19) (Ev.loads 1 (show Oper.op _ = Op.load 41 (Operand.tmp 18) from rfl) (by rfl) (by rfl) (n := 2) (by kernel_rfl) (by rfl) (by rfl)) (by rfl) (by rfl) ?_
  refine Ls.ev (some 20) (Ev.fieldAddr (k := 2) (show Oper.op _ = Op.fieldAddr 45 (Operand.tmp 3) 2 from rfl) (by rfl) (by kernel_rfl) (by rfl)) (by rfl) (by rfl) ?_
  refine Ls.ev (some 21) (Ev.loads 0 (show Oper.op _ = Op.load 41 (Operand.tmp 20) from rfl) (by rfl) (by rfl) (n := 2) (by kernel_rfl) (by rfl) (by rfl)) (by rfl) (by rfl) ?_
  refine Ls.does (some 22) (Does.call [2, 3] (show Oper.op _ = Op.call { callee := Callee.value (Operand.func 24), args := #[Operand.tmp 19, Operand.tmp 21], argTypes := #[41, 41] } from rfl) Try.func24 (by kernel_rfl) (by kernel_rfl) (sameRoute_sl s1 s2 A D c d xs ys hn) (by rfl) (by rfl) (by rfl)) (by rfl) (by rfl) ?_
  intro _ _
  refine Ls.ev (some 23) (Ev.pickT (show Oper.op _ = Op.pick (Operand.tmp 17) (Operand.tmp 22) (Operand.const (Value.bool false)) from rfl) (by rfl) (by rfl)) (by rfl) (by rfl) ?_
  refine Ls.ev (some 4) (Ev.assign (show Oper.op _ = Op.assign (Operand.tmp 23) from rfl) (by rfl)) (by rfl) (by rfl) ?_
  refine Ls.nil ?_
  refine Cd.ret ?_
  refine Ent.ret (()) (trivial) (Res.tmp (by rfl) (by rfl)) ?_ [] (by rfl) ?_
  · simp [of_decide_eq_true h, of_decide_eq_true h2]
  · rfl

/-- A route as it lies. -/
structure RtS where
  s : Int
  A : Option Addr
  c : Nat
  l : List Int
  deriving Inhabited
def RtS.enc (x : RtS) : List Value := [.int .i64 x.s, .slice x.A x.l.length x.c]
def RtS.rd (x : RtS) : Chunk := Go.Proofs.Ytegjoabfoddadaa.rd x.A x.l.length 1 (ints x.l)
def RtS.row (x : RtS) : Chunk := Go.Proofs.Ytegjoabfoddadaa.row x.A x.l.length x.c 3 1 (ints x.l)
def RtS.p (x : RtS) : RtP := ⟨x.s, x.l⟩
theorem bis_sl (r : Int) : Fn Try.prog 35 #[.int .i64 r] [] Unit (fun _ => .bool (decide (0 ≤ r ∧ r < 16))) (fun _ => []) (fun _ => True) := by
  refine Fn.enter Try.func35 rfl Try.ntmps35 (by rfl) ?_
  intro w0
  refine Cd.seq ?_
  refine Cd.region ?_
  refine Ls.ev (some 2) (Ev.assign (show Oper.op _ = Op.assign (Operand.const (Value.bool false)) from rfl) (by rfl)) (by rfl) (by rfl) ?_
  refine Ls.nil ?_
  refine Cd.seq ?_
  refine Cd.cut (ι := Unit) (fun _ => [(2, .bool (decide (0 ≤ r ∧ r < 16)))]) (fun _ => []) (fun _ => True) ?_ ?_
  · skip
    refine Cd.region ?_
    refine Ls.ev (some 3) (Ev.move (show Oper.op _ = Op.move (Operand.tmp 0) from rfl) (by rfl)) (by rfl) (by rfl) ?_
    refine Ls.ev (some 4) (Ev.geq (show Oper.op _ = Op.binOp BinOp.geq 3 (Operand.tmp 3) (Operand.const (Value.int IntKind.i64 0)) 3 from rfl) (by rfl) (by rfl)) (by rfl) (by rfl) ?_
    refine Ls.ev (some 5) (Ev.move (show Oper.op _ = Op.move (Operand.tmp 4) from rfl) (by rfl)) (by rfl) (by rfl) ?_
    refine Ent.split 5 (by rfl) (fun hT1 => ?_) (fun hT1 => ?_)
    · first | have hT1 := of_decide_eq_false hT1 | have hT1 := of_not_decide_false hT1 | skip
      refine Ls.pass (some 6) (by rfl) (by rfl) ?_
      refine Ls.pass (some 7) (by rfl) (by rfl) ?_
      refine Ls.ev (some 8) (Ev.pickF (show Oper.op _ = Op.pick (Operand.tmp 5) (Operand.tmp 7) (Operand.const (Value.bool false)) from rfl) (by rfl) (by rfl)) (by rfl) (by rfl) ?_
      refine Ls.ev (some 2) (Ev.assign (show Oper.op _ = Op.assign (Operand.tmp 8) from rfl) (by rfl)) (by rfl) (by rfl) ?_
      refine Ls.nil ?_
      refine Ent.inv () ?_ ?_ ?_
      · exact trivial
      · (repeat (first | exact trivial | refine ⟨by rfl, ?_⟩ | refine ⟨by simp only [List.length_append, List.length_cons, List.length_nil]; rfl, ?_⟩ | refine ⟨by push_cast; rfl, ?_⟩ | refine ⟨by (show some (Value.bool _) = some (Value.bool _); congr 2; first | rfl | exact (decide_eq_true (by omega)).symm | exact (decide_eq_false (by omega)).symm | exact decide_eq_decide.2 (by omega)), ?_⟩))
      · rfl
    · first | have hT1 := of_decide_eq_true hT1 | have hT1 := of_not_decide_true hT1 | skip
      refine Ls.ev (some 6) (Ev.move (show Oper.op _ = Op.move (Operand.tmp 0) from rfl) (by rfl)) (by rfl) (by rfl) ?_
      refine Ls.ev (some 7) (Ev.lss (show Oper.op _ = Op.binOp BinOp.lss 3 (Operand.tmp 6) (Operand.const (Value.int IntKind.i64 16)) 3 from rfl) (by rfl) (by rfl)) (by rfl) (by rfl) ?_
      refine Ls.ev (some 8) (Ev.pickT (show Oper.op _ = Op.pick (Operand.tmp 5) (Operand.tmp 7) (Operand.const (Value.bool false)) from rfl) (by rfl) (by rfl)) (by rfl) (by rfl) ?_
      refine Ls.ev (some 2) (Ev.assign (show Oper.op _ = Op.assign (Operand.tmp 8) from rfl) (by rfl)) (by rfl) (by rfl) ?_
      refine Ls.nil ?_
      refine Ent.inv () ?_ ?_ ?_
      · exact trivial
      · (repeat (first | exact trivial | refine ⟨by rfl, ?_⟩ | refine ⟨by simp only [List.length_append, List.length_cons, List.length_nil]; rfl, ?_⟩ | refine ⟨by push_cast; rfl, ?_⟩ | refine ⟨by (show some (Value.bool _) = some (Value.bool _); congr 2; first | rfl | exact (decide_eq_true (by omega)).symm | exact (decide_eq_false (by omega)).symm | exact decide_eq_decide.2 (by omega)), ?_⟩))
      · rfl
  skip
  rintro _ -
  skip
  refine Cd.ret ?_
  refine Ent.ret (()) (trivial) (Res.tmp (by rfl) (by rfl)) ?_ [] (by rfl) ?_
  · rfl
  · rfl
theorem refused_sl (e : Int) : Fn Try.prog 36 #[.int .i64 e] [] Unit (fun _ => .agg #[.int .i64 e, .int .i64 0, .int .i64 0, .slice none 0 0]) (fun _ => []) (fun _ => True) := by
  refine Fn.enter Try.func36 rfl Try.ntmps36 (by rfl) ?_
  intro w0
  refine Cd.seq ?_
  refine Cd.region ?_
  refine Ls.does (some 2) (Does.alloc (cs := [.int .i64 0, .int .i64 0, .int .i64 0, .slice none 0 0]) (show Oper.op _ = Op.alloc 45 from rfl) (ZeroIs.mk (.agg #[.int .i64 0, .int .i64 0, .int .i64 0, .slice none 0 0]) (by kernel_rfl) (by rfl))) (by rfl) (by rfl) ?_
  intro g1 _
  refine Ls.nil ?_
  refine Cd.seq ?_
  refine Cd.region ?_
  refine Ls.ev (some 3) (Ev.move (show Oper.op _ = Op.move (Operand.tmp 0) from rfl) (by rfl)) (by rfl) (by rfl) ?_
  refine Ls.ev (some 4) (Ev.buildP (pl := [(0, 1), (1, 1), (2, 2)]) (zs := [.int .i64 0, .int .i64 0, .int .i64 0, .slice none 0 0]) (show Oper.op _ = Op.build 45 #[(0, Operand.tmp 3)] from rfl) (by rfl) (by kernel_rfl) (by rfl)) (by rfl) (by rfl) ?_
  refine Ls.does none (Does.store 0 (show Oper.op _ = Op.store 45 (Operand.tmp 2) (Operand.tmp 4) from rfl) (by rfl) (by rfl) (by rfl) (by kernel_rfl) (by rfl) (by kernel_rfl) (by rfl)) (by rfl) (by rfl) ?_
  intro _ _
  refine Ls.nil ?_
  refine Cd.ret ?_
  refine Ent.ret (()) (trivial) (Res.cell 0 (by rfl) (by rfl) (by rfl) (n := 4) (by kernel_rfl) (by rfl) (by rfl)) ?_ [] (by rfl) ?_
  · rfl
  · rfl
/-- Can its ticks be counted? -/
abbrev RtS.plain (x : RtS) : Prop := x.l.length ≤ 24 ∧ 0 ≤ x.s ∧ x.s ≤ 1073741824
theorem RtS.planR (x : RtS) : planR x.p = decide x.plain := by
  rw [Bool.eq_iff_iff, planR_iff, decide_eq_true_eq]
  rfl
theorem plain_sl (x : RtS) : Fn Try.prog 50 #[.agg x.enc.toArray] [] Unit (fun _ => .bool (decide (x.l.length ≤ 24 ∧ 0 ≤ x.s ∧ x.s ≤ 1073741824))) (fun _ => []) (fun _ => True) := by
  refine Fn.enter Try.func50 rfl Try.ntmps50 (by rfl) ?_
  intro w0
  refine Cd.seq ?_
  refine Cd.region ?_
  refine Ls.does (some 1) (Does.box (show Oper.op _ = Op.box 41 (Operand.tmp 0) from rfl) (by rfl)) (by rfl) (by rfl) ?_
  intro g1 _
  refine Ls.ev (some 2) (Ev.assign (show Oper.op _ = Op.assign (Operand.const (Value.bool false)) from rfl) (by rfl)) (by rfl) (by rfl) ?_
  refine Ls.nil ?_
  refine Cd.seq ?_
  refine Cd.cut (ι := Unit) (fun _ => [(2, .bool (decide (x.l.length ≤ 24 ∧ 0 ≤ x.s ∧ x.s ≤ 1073741824)))]) (fun _ => []) (fun _ => True) ?_ ?_
  · skip
    refine Cd.region ?_
    refine Ls.ev (some 3) (Ev.fieldAddr (k := 1) (show Oper.op _ = Op.fieldAddr 41 (Operand.tmp 1) 1 from rfl) (by rfl) (by kernel_rfl) (by rfl)) (by rfl) (by rfl) ?_
    refine Ls.ev (some 4) (Ev.load 0 (show Oper.op _ = Op.load 22 (Operand.tmp 3) from rfl) (by rfl) (by rfl) (by kernel_rfl) (by rfl)) (by rfl) (by rfl) ?_
    refine Ls.ev (some 5) (Ev.len (show Oper.op _ = Op.call { callee := Callee.builtin Builtin.len, args := #[Operand.tmp 4], argTypes := #[22] } from rfl) (by rfl) Try.underlying22) (by rfl) (by rfl) ?_
    refine Ls.ev (some 6) (Ev.leq (show Oper.op _ = Op.binOp BinOp.leq 3 (Operand.tmp 5) (Operand.const (Value.int IntKind.i64 24)) 3 from rfl) (by rfl) (by rfl)) (by rfl) (by rfl) ?_
    refine Ls.ev (some 7) (Ev.move (show Oper.op _ = Op.move (Operand.tmp 6) from rfl) (by rfl)) (by rfl) (by rfl) ?_
    refine Ent.split 7 (by rfl) (fun hT1 => ?_) (fun hT1 => ?_)
    · first | have hT1 := of_decide_eq_false hT1 | have hT1 := of_not_decide_false hT1 | skip
      refine Ls.pass (some 8) (by rfl) (by rfl) ?_
      refine Ls.pass (some 9) (by rfl) (by rfl) ?_
      refine Ls.pass (some 10) (by rfl) (by rfl) ?_
      refine Ls.ev (some 11) (Ev.pickF (show Oper.op _ = Op.pick (Operand.tmp 7) (Operand.tmp 10) (Operand.const (Value.bool false)) from rfl) (by rfl) (by rfl)) (by rfl) (by rfl) ?_
      refine Ls.ev (some 12) (Ev.move (show Oper.op _ = Op.move (Operand.tmp 11) from rfl) (by rfl)) (by rfl) (by rfl) ?_
      refine Ls.pass (some 13) (by rfl) (by rfl) ?_
      refine Ls.pass (some 14) (by rfl) (by rfl) ?_
      refine Ls.pass (some 15) (by rfl) (by rfl) ?_
      refine Ls.ev (some 16) (Ev.pickF (show Oper.op _ = Op.pick (Operand.tmp 12) (Operand.tmp 15) (Operand.const (Value.bool false)) from rfl) (by rfl) (by rfl)) (by rfl) (by rfl) ?_
      refine Ls.ev (some 2) (Ev.assign (show Oper.op _ = Op.assign (Operand.tmp 16) from rfl) (by rfl)) (by rfl) (by rfl) ?_
      refine Ls.nil ?_
      refine Ent.pick [] (by rfl) ?_
      refine Ent.inv () ?_ ?_ ?_
      · exact trivial
      · (repeat (first | exact trivial | refine ⟨by rfl, ?_⟩ | refine ⟨by simp only [List.length_append, List.length_cons, List.length_nil]; rfl, ?_⟩ | refine ⟨by push_cast; rfl, ?_⟩ | refine ⟨by (show some (Value.bool _) = some (Value.bool _); congr 2; first | rfl | exact (decide_eq_true (by omega)).symm | exact (decide_eq_false (by omega)).symm | exact decide_eq_decide.2 (by omega)), ?_⟩))
      · rfl
    · first | have hT1 := of_decide_eq_true hT1 | have hT1 := of_not_decide_true hT1 | skip
      refine Ls.ev (some 8) (Ev.fieldAddr (k := 0) (show Oper.op _ = Op.fieldAddr 41 (Operand.tmp 1) 0 from rfl) (by rfl) (by kernel_rfl) (by rfl)) (by rfl) (by rfl) ?_
      refine Ls.ev (some 9) (Ev.load 0 (show Oper.op _ = Op.load 3 (Operand.tmp 8) from rfl) (by rfl) (by rfl) (by kernel_rfl) (by rfl)) (by rfl) (by rfl) ?_
      refine Ls.ev (some 10) (Ev.geq (show Oper.op _ = Op.binOp BinOp.geq 3 (Operand.tmp 9) (Operand.const (Value.int IntKind.i64 0)) 3 from rfl) (by rfl) (by rfl)) (by rfl) (by rfl) ?_
      refine Ls.ev (some 11) (Ev.pickT (show Oper.op _ = Op.pick (Operand.tmp 7) (Operand.tmp 10) (Operand.const (Value.bool false)) from rfl) (by rfl) (by rfl)) (by rfl) (by rfl) ?_
      refine Ls.ev (some 12) (Ev.move (show Oper.op _ = Op.move (Operand.tmp 11) from rfl) (by rfl)) (by rfl) (by rfl) ?_
      refine Ent.split 12 (by rfl) (fun hT2 => ?_) (fun hT2 => ?_)
      · first | have hT2 := of_decide_eq_false hT2 | have hT2 := of_not_decide_false hT2 | skip
        refine Ls.pass (some 13) (by rfl) (by rfl) ?_
        refine Ls.pass (some 14) (by rfl) (by rfl) ?_
        refine Ls.pass (some 15) (by rfl) (by rfl) ?_
        refine Ls.ev (some 16) (Ev.pickF (show Oper.op _ = Op.pick (Operand.tmp 12) (Operand.tmp 15) (Operand.const (Value.bool false)) from rfl) (by rfl) (by rfl)) (by rfl) (by rfl) ?_
        refine Ls.ev (some 2) (Ev.assign (show Oper.op _ = Op.assign (Operand.tmp 16) from rfl) (by rfl)) (by rfl) (by rfl) ?_
        refine Ls.nil ?_
        refine Ent.pick [] (by rfl) ?_
        refine Ent.inv () ?_ ?_ ?_
        · exact trivial
        · (repeat (first | exact trivial | refine ⟨by rfl, ?_⟩ | refine ⟨by simp only [List.length_append, List.length_cons, List.length_nil]; rfl, ?_⟩ | refine ⟨by push_cast; rfl, ?_⟩ | refine ⟨by (show some (Value.bool _) = some (Value.bool _); congr 2; first | rfl | exact (decide_eq_true (by omega)).symm | exact (decide_eq_false (by omega)).symm | exact decide_eq_decide.2 (by omega)), ?_⟩))
        · rfl
      · first | have hT2 := of_decide_eq_true hT2 | have hT2 := of_not_decide_true hT2 | skip
        refine Ls.ev (some 13) (Ev.fieldAddr (k := 0) (show Oper.op _ = Op.fieldAddr 41 (Operand.tmp 1) 0 from rfl) (by rfl) (by kernel_rfl) (by rfl)) (by rfl) (by rfl) ?_
        refine Ls.ev (some 14) (Ev.load 0 (show Oper.op _ = Op.load 3 (Operand.tmp 13) from rfl) (by rfl) (by rfl) (by kernel_rfl) (by rfl)) (by rfl) (by rfl) ?_
        refine Ls.ev (some 15) (Ev.leq (show Oper.op _ = Op.binOp BinOp.leq 3 (Operand.tmp 14) (Operand.const (Value.int IntKind.i64 1073741824)) 3 from rfl) (by rfl) (by rfl)) (by rfl) (by rfl) ?_
        refine Ls.ev (some 16) (Ev.pickT (show Oper.op _ = Op.pick (Operand.tmp 12) (Operand.tmp 15) (Operand.const (Value.bool false)) from rfl) (by rfl) (by rfl)) (by rfl) (by rfl) ?_
        refine Ls.ev (some 2) (Ev.assign (show Oper.op _ = Op.assign (Operand.tmp 16) from rfl) (by rfl)) (by rfl) (by rfl) ?_
        refine Ls.nil ?_
        refine Ent.pick [] (by rfl) ?_
        refine Ent.inv () ?_ ?_ ?_
        · exact trivial
        · (repeat (first | exact trivial | refine ⟨by rfl, ?_⟩ | refine ⟨by simp only [List.length_append, List.length_cons, List.length_nil]; rfl, ?_⟩ | refine ⟨by push_cast; rfl, ?_⟩ | refine ⟨by (show some (Value.bool _) = some (Value.bool _); congr 2; first | rfl | exact (decide_eq_true (by omega)).symm | exact (decide_eq_false (by omega)).symm | exact decide_eq_decide.2 (by omega)), ?_⟩))
        · rfl
  skip
  rintro _ -
  skip
  refine Cd.ret ?_
  refine Ent.ret (()) (trivial) (Res.tmp (by rfl) (by rfl)) ?_ [] (by rfl) ?_
  · rfl
  · rfl
section
variable {s t : Int} {l : List Int}
theorem at_none (h : ¬ (l.length ≤ 24 ∧ 0 ≤ s ∧ s ≤ 1073741824) ∨ t < s ∨ s + (l.length : Int) - 1 < t) : atR ⟨s, l⟩ t = none := by
  unfold atR
  rw [if_pos]
  rcases h with h | h
  · refine .inl (Bool.eq_false_iff.2 fun e => h (planR_iff.1 e))
  · exact .inr h
theorem at_some {d : Nat} (h : l.length ≤ 24 ∧ 0 ≤ s ∧ s ≤ 1073741824) : atR ⟨s, l⟩ (s + d) = l[d]? := at_i (r := ⟨s, l⟩) (planR_iff.2 h) d
theorem cut_none (h : ¬ (l.length ≤ 24 ∧ 0 ≤ s ∧ s ≤ 1073741824) ∨ l.length = 0 ∨ s + (l.length : Int) - 1 < t) : cutR ⟨s, l⟩ t = noR := by
  unfold cutR
  rw [if_pos]
  rcases h with h | h
  · exact .inl (Bool.eq_false_iff.2 fun e => h (planR_iff.1 e))
  · exact .inr h
theorem cut_some (h : ¬ (¬ (l.length ≤ 24 ∧ 0 ≤ s ∧ s ≤ 1073741824) ∨ l.length = 0 ∨ s + (l.length : Int) - 1 < t)) : cutR ⟨s, l⟩ t = if t ≤ s then ⟨s, l⟩ else ⟨t, l.drop (t - s).toNat⟩ := by
  unfold cutR
  rw [if_neg]
  rintro (h2 | h2)
  · exact Bool.eq_false_iff.1 h2 (planR_iff.2 (by dsimp only; omega))
  · exact h (.inr h2)
end
theorem at_sl (x : RtS) (t : Int) : Fn Try.prog 59 #[.agg x.enc.toArray, .int .i64 t] [x.rd] Unit (fun _ => .tuple #[.int .i64 ((atR x.p t).getD 0), .bool (atR x.p t).isSome]) (fun _ => []) (fun _ => True) := by
  have hps := plain_sl x
  obtain ⟨s, A, c, l⟩ := x
  dsimp only [RtS.enc, RtS.rd, RtS.p] at hps ⊢
  refine Fn.enter Try.func59 rfl Try.ntmps59 (by rfl) ?_
  intro w0
  refine Cd.seq ?_
  refine Cd.region ?_
  refine Ls.does (some 2) (Does.box (show Oper.op _ = Op.box 41 (Operand.tmp 0) from rfl) (by rfl)) (by rfl) (by rfl) ?_
  intro g1 _
  refine Ls.ev (some 4) (Ev.assign (show Oper.op _ = Op.assign (Operand.const (Value.int IntKind.i64 0)) from rfl) (by rfl)) (by rfl) (by rfl) ?_
  refine Ls.ev (some 5) (Ev.assign (show Oper.op _ = Op.assign (Operand.const (Value.bool false)) from rfl) (by rfl)) (by rfl) (by rfl) ?_
  refine Ls.nil ?_
  refine Cd.seq ?_
  refine Cd.seq ?_
  refine Cd.cut (ι := Unit) (fun _ => [(1, .int .i64 t), (2, .pointer (some ⟨g1, 0, none⟩)), (25, .bool (decide (¬ (l.length ≤ 24 ∧ 0 ≤ s ∧ s ≤ 1073741824) ∨ t < s ∨ s + (l.length : Int) - 1 < t)))]) (fun _ => [blk g1 41 [.int .i64 s, .slice A l.length c], rd A l.length 1 (ints l)]) (fun _ => True) ?_ ?_
  · skip
    refine Cd.region ?_
    refine Ls.ev (some 6) (Ev.loads 0 (show Oper.op _ = Op.load 41 (Operand.tmp 2) from rfl) (by rfl) (by rfl) (n := 2) (by kernel_rfl) (by rfl) (by rfl)) (by rfl) (by rfl) ?_
    refine Ls.does (some 7) (Does.read (show Oper.op _ = Op.call { callee := Callee.value (Operand.func 50), args := #[Operand.tmp 6], argTypes := #[41] } from rfl) Try.func50 (by kernel_rfl) (by kernel_rfl) (hps) (by rfl) (by rfl) trivial) (by rfl) (by rfl) ?_
    rintro _ -
    refine Ls.ev (some 8) (Ev.not (show Oper.op _ = Op.unOp UnOp.not 4 (Operand.tmp 7) from rfl) (by rfl)) (by rfl) (by rfl) ?_
    refine Ls.ev (some 9) (Ev.move (show Oper.op _ = Op.move (Operand.tmp 8) from rfl) (by rfl)) (by rfl) (by rfl) ?_
    refine Ent.split 9 (by rfl) (fun hT1 => ?_) (fun hT1 => ?_)
    · first | have hT1 := of_decide_eq_false hT1 | have hT1 := of_not_decide_false hT1 | skip
      refine Ls.ev (some 10) (Ev.move (show Oper.op _ = Op.move (Operand.tmp 1) from rfl) (by rfl)) (by rfl) (by rfl) ?_
      refine Ls.ev (some 11) (Ev.fieldAddr (k := 0) (show Oper.op _ = Op.fieldAddr 41 (Operand.tmp 2) 0 from rfl) (by rfl) (by kernel_rfl) (by rfl)) (by rfl) (by rfl) ?_
      refine Ls.ev (some 12) (Ev.load 0 (show Oper.op _ = Op.load 3 (Operand.tmp 11) from rfl) (by rfl) (by rfl) (by kernel_rfl) (by rfl)) (by rfl) (by rfl) ?_
      refine Ls.ev (some 13) (Ev.lss (show Oper.op _ = Op.binOp BinOp.lss 3 (Operand.tmp 10) (Operand.tmp 12) 3 from rfl) (by rfl) (by rfl)) (by rfl) (by rfl) ?_
      refine Ls.ev (some 14) (Ev.pickF (show Oper.op _ = Op.pick (Operand.tmp 9) (Operand.const (Value.bool true)) (Operand.tmp 13) from rfl) (by rfl) (by rfl)) (by rfl) (by rfl) ?_
      refine Ls.ev (some 15) (Ev.move (show Oper.op _ = Op.move (Operand.tmp 14) from rfl) (by rfl)) (by rfl) (by rfl) ?_
      refine Ent.split 15 (by rfl) (fun hT2 => ?_) (fun hT2 => ?_)
      · first | have hT2 := of_decide_eq_false hT2 | have hT2 := of_not_decide_false hT2 | skip
        refine Ls.ev (some 16) (Ev.move (show Oper.op _ = Op.move (Operand.tmp 1) from rfl) (by rfl)) (by rfl) (by rfl) ?_
        refine Ls.ev (some 17) (Ev.fieldAddr (k := 0) (show Oper.op _ = Op.fieldAddr 41 (Operand.tmp 2) 0 from rfl) (by rfl) (by kernel_rfl) (by rfl)) (by rfl) (by rfl) ?_
        refine Ls.ev (some 18) (Ev.load 0 (show Oper.op _ = Op.load 3 (Operand.tmp 17) from rfl) (by rfl) (by rfl) (by kernel_rfl) (by rfl)) (by rfl) (by rfl) ?_
        refine Ls.ev (some 19) (Ev.fieldAddr (k := 1) (show Oper.op _ = Op.fieldAddr 41 (Operand.tmp 2) 1 from rfl) (by rfl) (by kernel_rfl) (by rfl)) (by rfl) (by rfl) ?_
        refine Ls.ev (some 20) (Ev.load 0 (show Oper.op _ = Op.load 22 (Operand.tmp 19) from rfl) (by rfl) (by rfl) (by kernel_rfl) (by rfl)) (by rfl) (by rfl) ?_
        refine Ls.ev (some 21) (Ev.len (show Oper.op _ = Op.call { callee := Callee.builtin Builtin.len, args := #[Operand.tmp 20], argTypes := #[22] } from rfl) (by rfl) Try.underlying22) (by rfl) (by rfl) ?_
        refine Ls.ev (some 22) (Ev.addI (show Oper.op _ = Op.binOp BinOp.add 3 (Operand.tmp 18) (Operand.tmp 21) 3 from rfl) (by rfl) (by rfl) (by omega)) (by rfl) (by rfl) ?_
        refine Ls.ev (some 23) (Ev.subI (show Oper.op _ = Op.binOp BinOp.sub 3 (Operand.tmp 22) (Operand.const (Value.int IntKind.i64 1)) 3 from rfl) (by rfl) (by rfl) (by omega)) (by rfl) (by rfl) ?_
        refine Ls.ev (some 24) (Ev.gtr (show Oper.op _ = Op.binOp BinOp.gtr 3 (Operand.tmp 16) (Operand.tmp 23) 3 from rfl) (by rfl) (by rfl)) (by rfl) (by rfl) ?_
        refine Ls.ev (some 25) (Ev.pickF (show Oper.op _ = Op.pick (Operand.tmp 15) (Operand.const (Value.bool true)) (Operand.tmp 24) from rfl) (by rfl) (by rfl)) (by rfl) (by rfl) ?_
        refine Ls.nil ?_
        refine Ent.pick [0, 1] (by rfl) ?_
        refine Ent.inv () ?_ ?_ ?_
        · exact trivial
        · (repeat (first | exact trivial | refine ⟨by rfl, ?_⟩ | refine ⟨by simp only [List.length_append, List.length_cons, List.length_nil]; rfl, ?_⟩ | refine ⟨by push_cast; rfl, ?_⟩ | refine ⟨by (show some (Value.bool _) = some (Value.bool _); congr 2; first | rfl | exact (decide_eq_true (by omega)).symm | exact (decide_eq_false (by omega)).symm | exact decide_eq_decide.2 (by omega)), ?_⟩))
        · rfl
      · first | have hT2 := of_decide_eq_true hT2 | have hT2 := of_not_decide_true hT2 | skip
        refine Ls.pass (some 16) (by rfl) (by rfl) ?_
        refine Ls.pass (some 17) (by rfl) (by rfl) ?_
        refine Ls.pass (some 18) (by rfl) (by rfl) ?_
        refine Ls.pass (some 19) (by rfl) (by rfl) ?_
        refine Ls.pass (some 20) (by rfl) (by rfl) ?_
        refine Ls.pass (some 21) (by rfl) (by rfl) ?_
        refine Ls.pass (some 22) (by rfl) (by rfl) ?_
        refine Ls.pass (some 23) (by rfl) (by rfl) ?_
        refine Ls.pass (some 24) (by rfl) (by rfl) ?_
        refine Ls.ev (some 25) (Ev.pickT (show Oper.op _ = Op.pick (Operand.tmp 15) (Operand.const (Value.bool true)) (Operand.tmp 24) from rfl) (by rfl) (by rfl)) (by rfl) (by rfl) ?_
        refine Ls.nil ?_
        refine Ent.pick [0, 1] (by rfl) ?_
        refine Ent.inv () ?_ ?_ ?_
        · exact trivial
        · (repeat (first | exact trivial | refine ⟨by rfl, ?_⟩ | refine ⟨by simp only [List.length_append, List.length_cons, List.length_nil]; rfl, ?_⟩ | refine ⟨by push_cast; rfl, ?_⟩ | refine ⟨by (show some (Value.bool _) = some (Value.bool _); congr 2; first | rfl | exact (decide_eq_true (by omega)).symm | exact (decide_eq_false (by omega)).symm | exact decide_eq_decide.2 (by omega)), ?_⟩))
        · rfl
    · first | have hT1 := of_decide_eq_true hT1 | have hT1 := of_not_decide_true hT1 | skip
      refine Ls.pass (some 10) (by rfl) (by rfl) ?_
      refine Ls.pass (some 11) (by rfl) (by rfl) ?_
      refine Ls.pass (some 12) (by rfl) (by rfl) ?_
      refine Ls.pass (some 13) (by rfl) (by rfl) ?_
      refine Ls.ev (some 14) (Ev.pickT (show Oper.op _ = Op.pick (Operand.tmp 9) (Operand.const (Value.bool true)) (Operand.tmp 13) from rfl) (by rfl) (by rfl)) (by rfl) (by rfl) ?_
      refine Ls.ev (some 15) (Ev.move (show Oper.op _ = Op.move (Operand.tmp 14) from rfl) (by rfl)) (by rfl) (by rfl) ?_
      refine Ls.pass (some 16) (by rfl) (by rfl) ?_
      refine Ls.pass (some 17) (by rfl) (by rfl) ?_
      refine Ls.pass (some 18) (by rfl) (by rfl) ?_
      refine Ls.pass (some 19) (by rfl) (by rfl) ?_
      refine Ls.pass (some 20) (by rfl) (by rfl) ?_
      refine Ls.pass (some 21) (by rfl) (by rfl) ?_
      refine Ls.pass (some 22) (by rfl) (by rfl) ?_
      refine Ls.pass (some 23) (by rfl) (by rfl) ?_
      refine Ls.pass (some 24) (by rfl) (by rfl) ?_
      refine Ls.ev (some 25) (Ev.pickT (show Oper.op _ = Op.pick (Operand.tmp 15) (Operand.const (Value.bool true)) (Operand.tmp 24) from rfl) (by rfl) (by rfl)) (by rfl) (by rfl) ?_
      refine Ls.nil ?_
      refine Ent.pick [0, 1] (by rfl) ?_
      refine Ent.inv () ?_ ?_ ?_
      · exact trivial
      · (repeat (first | exact trivial | refine ⟨by rfl, ?_⟩ | refine ⟨by simp only [List.length_append, List.length_cons, List.length_nil]; rfl, ?_⟩ | refine ⟨by push_cast; rfl, ?_⟩ | refine ⟨by (show some (Value.bool _) = some (Value.bool _); congr 2; first | rfl | exact (decide_eq_true (by omega)).symm | exact (decide_eq_false (by omega)).symm | exact decide_eq_decide.2 (by omega)), ?_⟩))
      · rfl
  skip
  rintro _ -
  refine Cd.cond _ (by rfl) (fun h => ?_) (fun h => ?_)
  · skip
    rw [at_none (of_decide_eq_true h)]
    refine Cd.seq ?_
    refine Cd.region ?_
    refine Ls.ev (some 4) (Ev.assign (show Oper.op _ = Op.assign (Operand.const (Value.int IntKind.i64 0)) from rfl) (by rfl)) (by rfl) (by rfl) ?_
    refine Ls.ev (some 5) (Ev.assign (show Oper.op _ = Op.assign (Operand.const (Value.bool false)) from rfl) (by rfl)) (by rfl) (by rfl) ?_
    refine Ls.nil ?_
    refine Cd.ret ?_
    refine Ent.ret (()) (trivial) (Res.tmp2 (by rfl) (by rfl) (by rfl)) ?_ [] (by rfl) ?_
    · rfl
    · rfl
  · skip
    have h := of_decide_eq_false h
    obtain ⟨d, rfl⟩ : ∃ d : Nat, t = s + d := ⟨(t - s).toNat, by omega⟩
    obtain ⟨u, hu⟩ := get_of_lt (show d < l.length by omega)
    rw [at_some (by omega), hu]
    refine Ent.rdSome 1 (by rfl) (by omega) (fun ad had => ?_)
    subst had
    refine Cd.skip ?_
    refine Cd.seq ?_
    refine Cd.region ?_
    refine Ls.ev (some 26) (Ev.fieldAddr (k := 1) (show Oper.op _ = Op.fieldAddr 41 (Operand.tmp 2) 1 from rfl) (by rfl) (by kernel_rfl) (by rfl)) (by rfl) (by rfl) ?_
    refine Ls.ev (some 27) (Ev.load 0 (show Oper.op _ = Op.load 22 (Operand.tmp 26) from rfl) (by rfl) (by rfl) (by kernel_rfl) (by rfl)) (by rfl) (by rfl) ?_
    refine Ls.ev (some 28) (Ev.move (show Oper.op _ = Op.move (Operand.tmp 1) from rfl) (by rfl)) (by rfl) (by rfl) ?_
    refine Ls.ev (some 29) (Ev.fieldAddr (k := 0) (show Oper.op _ = Op.fieldAddr 41 (Operand.tmp 2) 0 from rfl) (by rfl) (by kernel_rfl) (by rfl)) (by rfl) (by rfl) ?_
    refine Ls.ev (some 30) (Ev.load 0 (show Oper.op _ = Op.load 3 (Operand.tmp 29) from rfl) (by rfl) (by rfl) (by kernel_rfl) (by rfl)) (by rfl) (by rfl) ?_
    refine Ls.ev (some 31) (Ev.to (Ev.subI (show Oper.op _ = Op.binOp BinOp.sub 3 (Operand.tmp 28) (Operand.tmp 30) 3 from rfl) (by rfl) (by rfl) (by omega)) (show Value.int _ _ = .int .i64 (d : Nat) by congr 1; omega)) (by rfl) (by rfl) ?_
    refine Ls.ev (some 32) (Ev.indexAt (sz := 1) (show Oper.op _ = Op.indexAddr 22 (Operand.tmp 27) (Operand.tmp 31) from rfl) (by rfl) (by rfl) Try.underlying22 (by kernel_rfl) (by omega)) (by rfl) (by rfl) ?_
    refine Ls.ev (some 33) (Ev.loadInt (show Oper.op _ = Op.load 3 (Operand.tmp 32) from rfl) (by rfl) (ReadsIn.rd 1 (by rfl)) (by kernel_rfl) (by assumption)) (by rfl) (by rfl) ?_
    refine Ls.ev (some 4) (Ev.assign (show Oper.op _ = Op.assign (Operand.tmp 33) from rfl) (by rfl)) (by rfl) (by rfl) ?_
    refine Ls.ev (some 5) (Ev.assign (show Oper.op _ = Op.assign (Operand.const (Value.bool true)) from rfl) (by rfl)) (by rfl) (by rfl) ?_
    refine Ls.nil ?_
    refine Cd.ret ?_
    refine Ent.ret (()) (trivial) (Res.tmp2 (by rfl) (by rfl) (by rfl)) ?_ [] (by rfl) ?_
    · rfl
    · rfl
theorem cut_sl (x : RtS) (t : Int) (hc : x.l.length ≤ x.c) : Fn Try.prog 37 #[.agg x.enc.toArray, .int .i64 t] [x.rd] RtS (fun y => .agg y.enc.toArray) (fun y => [y.row]) (fun y => y.p = cutR x.p t) := by
  have hps := plain_sl x
  obtain ⟨s, A, c, l⟩ := x
  dsimp only [RtS.enc, RtS.rd, RtS.p] at hps hc ⊢
  refine Fn.enter Try.func37 rfl Try.ntmps37 (by rfl) ?_
  intro w0
  refine Cd.seq ?_
  refine Cd.region ?_
  refine Ls.does (some 2) (Does.box (show Oper.op _ = Op.box 41 (Operand.tmp 0) from rfl) (by rfl)) (by rfl) (by rfl) ?_
  intro g1 _
  refine Ls.does (some 4) (Does.alloc (cs := [.int .i64 0, .slice none 0 0]) (show Oper.op _ = Op.alloc 41 from rfl) (ZeroIs.mk (.agg #[.int .i64 0, .slice none 0 0]) (by kernel_rfl) (by rfl))) (by rfl) (by rfl) ?_
  intro g2 _
  refine Ls.nil ?_
  refine Cd.seq ?_
  refine Cd.region ?_
  refine Ls.ev (some 6) (Ev.fieldAddr (k := 1) (show Oper.op _ = Op.fieldAddr 41 (Operand.tmp 2) 1 from rfl) (by rfl) (by kernel_rfl) (by rfl)) (by rfl) (by rfl) ?_
  refine Ls.ev (some 7) (Ev.load 1 (show Oper.op _ = Op.load 22 (Operand.tmp 6) from rfl) (by rfl) (by rfl) (by kernel_rfl) (by rfl)) (by rfl) (by rfl) ?_
  refine Ls.ev (some 8) (Ev.len (show Oper.op _ = Op.call { callee := Callee.builtin Builtin.len, args := #[Operand.tmp 7], argTypes := #[22] } from rfl) (by rfl) Try.underlying22) (by rfl) (by rfl) ?_
  refine Ls.ev (some 5) (Ev.assign (show Oper.op _ = Op.assign (Operand.tmp 8) from rfl) (by rfl)) (by rfl) (by rfl) ?_
  refine Ls.nil ?_
  refine Cd.seq ?_
  refine Cd.block ?_
  refine Cd.seq ?_
  refine Cd.cut (ι := Unit) (fun _ => [(1, .int .i64 t), (2, .pointer (some ⟨g1, 0, none⟩)), (4, .pointer (some ⟨g2, 0, none⟩)), (9, .bool (decide (¬ (l.length ≤ 24 ∧ 0 ≤ s ∧ s ≤ 1073741824) ∨ l.length = 0 ∨ s + (l.length : Int) - 1 < t)))]) (fun _ => [blk g2 41 [.int .i64 0, .slice none 0 0], blk g1 41 [.int .i64 s, .slice A l.length c], rd A l.length 1 (ints l)]) (fun _ => True) ?_ ?_
  · skip
    refine Cd.region ?_
    refine Ls.ev (some 10) (Ev.loads 1 (show Oper.op _ = Op.load 41 (Operand.tmp 2) from rfl) (by rfl) (by rfl) (n := 2) (by kernel_rfl) (by rfl) (by rfl)) (by rfl) (by rfl) ?_
    refine Ls.does (some 11) (Does.read (show Oper.op _ = Op.call { callee := Callee.value (Operand.func 50), args := #[Operand.tmp 10], argTypes := #[41] } from rfl) Try.func50 (by kernel_rfl) (by kernel_rfl) (hps) (by rfl) (by rfl) trivial) (by rfl) (by rfl) ?_
    rintro _ -
    refine Ls.ev (some 12) (Ev.not (show Oper.op _ = Op.unOp UnOp.not 4 (Operand.tmp 11) from rfl) (by rfl)) (by rfl) (by rfl) ?_
    refine Ls.ev (some 13) (Ev.move (show Oper.op _ = Op.move (Operand.tmp 12) from rfl) (by rfl)) (by rfl) (by rfl) ?_
    refine Ent.split 13 (by rfl) (fun hT1 => ?_) (fun hT1 => ?_)
    · first | have hT1 := of_decide_eq_false hT1 | have hT1 := of_not_decide_false hT1 | skip
      refine Ls.ev (some 14) (Ev.move (show Oper.op _ = Op.move (Operand.tmp 5) from rfl) (by rfl)) (by rfl) (by rfl) ?_
      refine Ls.ev (some 15) (Ev.eql (show Oper.op _ = Op.binOp BinOp.eql 3 (Operand.tmp 14) (Operand.const (Value.int IntKind.i64 0)) 3 from rfl) (by rfl) (by rfl)) (by rfl) (by rfl) ?_
      refine Ls.ev (some 16) (Ev.pickF (show Oper.op _ = Op.pick (Operand.tmp 13) (Operand.const (Value.bool true)) (Operand.tmp 15) from rfl) (by rfl) (by rfl)) (by rfl) (by rfl) ?_
      refine Ls.ev (some 17) (Ev.move (show Oper.op _ = Op.move (Operand.tmp 16) from rfl) (by rfl)) (by rfl) (by rfl) ?_
      refine Ent.split 17 (by rfl) (fun hT2 => ?_) (fun hT2 => ?_)
      · first | have hT2 := of_decide_eq_false hT2 | have hT2 := of_not_decide_false hT2 | skip
        refine Ls.ev (some 18) (Ev.move (show Oper.op _ = Op.move (Operand.tmp 1) from rfl) (by rfl)) (by rfl) (by rfl) ?_
        refine Ls.ev (some 19) (Ev.fieldAddr (k := 0) (show Oper.op _ = Op.fieldAddr 41 (Operand.tmp 2) 0 from rfl) (by rfl) (by kernel_rfl) (by rfl)) (by rfl) (by rfl) ?_
        refine Ls.ev (some 20) (Ev.load 1 (show Oper.op _ = Op.load 3 (Operand.tmp 19) from rfl) (by rfl) (by rfl) (by kernel_rfl) (by rfl)) (by rfl) (by rfl) ?_
        refine Ls.ev (some 21) (Ev.move (show Oper.op _ = Op.move (Operand.tmp 5) from rfl) (by rfl)) (by rfl) (by rfl) ?_
        refine Ls.ev (some 22) (Ev.addI (show Oper.op _ = Op.binOp BinOp.add 3 (Operand.tmp 20) (Operand.tmp 21) 3 from rfl) (by rfl) (by rfl) (by omega)) (by rfl) (by rfl) ?_
        refine Ls.ev (some 23) (Ev.subI (show Oper.op _ = Op.binOp BinOp.sub 3 (Operand.tmp 22) (Operand.const (Value.int IntKind.i64 1)) 3 from rfl) (by rfl) (by rfl) (by omega)) (by rfl) (by rfl) ?_
        refine Ls.ev (some 24) (Ev.gtr (show Oper.op _ = Op.binOp BinOp.gtr 3 (Operand.tmp 18) (Operand.tmp 23) 3 from rfl) (by rfl) (by rfl)) (by rfl) (by rfl) ?_
        refine Ls.ev (some 25) (Ev.pickF (show Oper.op _ = Op.pick (Operand.tmp 17) (Operand.const (Value.bool true)) (Operand.tmp 24) from rfl) (by rfl) (by rfl)) (by rfl) (by rfl) ?_
        refine Ls.ev (some 9) (Ev.assign (show Oper.op _ = Op.assign (Operand.tmp 25) from rfl) (by rfl)) (by rfl) (by rfl) ?_
        refine Ls.nil ?_
        refine Ent.pick [0, 1, 2] (by rfl) ?_
        refine Ent.inv () ?_ ?_ ?_
        · exact trivial
        · (repeat (first | exact trivial | refine ⟨by rfl, ?_⟩ | refine ⟨by simp only [List.length_append, List.length_cons, List.length_nil]; rfl, ?_⟩ | refine ⟨by push_cast; rfl, ?_⟩ | refine ⟨by (show some (Value.bool _) = some (Value.bool _); congr 2; first | rfl | exact (decide_eq_true (by omega)).symm | exact (decide_eq_false (by omega)).symm | exact decide_eq_decide.2 (by omega)), ?_⟩))
        · rfl
      · first | have hT2 := of_decide_eq_true hT2 | have hT2 := of_not_decide_true hT2 | skip
        refine Ls.pass (some 18) (by rfl) (by rfl) ?_
        refine Ls.pass (some 19) (by rfl) (by rfl) ?_
        refine Ls.pass (some 20) (by rfl) (by rfl) ?_
        refine Ls.pass (some 21) (by rfl) (by rfl) ?_
        refine Ls.pass (some 22) (by rfl) (by rfl) ?_
        refine Ls.pass (some 23) (by rfl) (by rfl) ?_
        refine Ls.pass (some 24) (by rfl) (by rfl) ?_
        refine Ls.ev (some 25) (Ev.pickT (show Oper.op _ = Op.pick (Operand.tmp 17) (Operand.const (Value.bool true)) (Operand.tmp 24) from rfl) (by rfl) (by rfl)) (by rfl) (by rfl) ?_
        refine Ls.ev (some 9) (Ev.assign (show Oper.op _ = Op.assign (Operand.tmp 25) from rfl) (by rfl)) (by rfl) (by rfl) ?_
        refine Ls.nil ?_
        refine Ent.pick [0, 1, 2] (by rfl) ?_
        refine Ent.inv () ?_ ?_ ?_
        · exact trivial
        · (repeat (first | exact trivial | refine ⟨by rfl, ?_⟩ | refine ⟨by simp only [List.length_append, List.length_cons, List.length_nil]; rfl, ?_⟩ | refine ⟨by push_cast; rfl, ?_⟩ | refine ⟨by (show some (Value.bool _) = some (Value.bool _); congr 2; first | rfl | exact (decide_eq_true (by omega)).symm | exact (decide_eq_false (by omega)).symm | exact decide_eq_decide.2 (by omega)), ?_⟩))
        · rfl
    · first | have hT1 := of_decide_eq_true hT1 | have hT1 := of_not_decide_true hT1 | skip
      refine Ls.pass (some 14) (by rfl) (by rfl) ?_
      refine Ls.pass (some 15) (by rfl) (by rfl) ?_
      refine Ls.ev (some 16) (Ev.pickT (show Oper.op _ = Op.pick (Operand.tmp 13) (Operand.const (Value.bool true)) (Operand.tmp 15) from rfl) (by rfl) (by rfl)) (by rfl) (by rfl) ?_
      refine Ls.ev (some 17) (Ev.move (show Oper.op _ = Op.move (Operand.tmp 16) from rfl) (by rfl)) (by rfl) (by rfl) ?_
      refine Ls.pass (some 18) (by rfl) (by rfl) ?_
      refine Ls.pass (some 19) (by rfl) (by rfl) ?_
      refine Ls.pass (some 20) (by rfl) (by rfl) ?_
      refine Ls.pass (some 21) (by rfl) (by rfl) ?_
      refine Ls.pass (some 22) (by rfl) (by rfl) ?_
      refine Ls.pass (some 23) (by rfl) (by rfl) ?_
      refine Ls.pass (some 24) (by rfl) (by rfl) ?_
      refine Ls.ev (some 25) (Ev.pickT (show Oper.op _ = Op.pick (Operand.tmp 17) (Operand.const (Value.bool true)) (Operand.tmp 24) from rfl) (by rfl) (by rfl)) (by rfl) (by rfl) ?_
      refine Ls.ev (some 9) (Ev.assign (show Oper.op _ = Op.assign (Operand.tmp 25) from rfl) (by rfl)) (by rfl) (by rfl) ?_
      refine Ls.nil ?_
      refine Ent.pick [0, 1, 2] (by rfl) ?_
      refine Ent.inv () ?_ ?_ ?_
      · exact trivial
      · (repeat (first | exact trivial | refine ⟨by rfl, ?_⟩ | refine ⟨by simp only [List.length_append, List.length_cons, List.length_nil]; rfl, ?_⟩ | refine ⟨by push_cast; rfl, ?_⟩ | refine ⟨by (show some (Value.bool _) = some (Value.bool _); congr 2; first | rfl | exact (decide_eq_true (by omega)).symm | exact (decide_eq_false (by omega)).symm | exact decide_eq_decide.2 (by omega)), ?_⟩))
      · rfl
  skip
  rintro _ -
  refine Cd.cond _ (by rfl) (fun h => ?_) (fun h => ?_)
  · skip
    rw [cut_none (of_decide_eq_true h)]
    refine Cd.seq ?_
    refine Cd.region ?_
    refine Ls.ev (some 26) (Ev.buildP (pl := [(0, 1), (1, 1)]) (zs := [.int .i64 0, .slice none 0 0]) (show Oper.op _ = Op.build 41 #[] from rfl) (by rfl) (by kernel_rfl) (by rfl)) (by rfl) (by rfl) ?_
    refine Ls.does none (Does.store 0 (show Oper.op _ = Op.store 41 (Operand.tmp 4) (Operand.tmp 26) from rfl) (by rfl) (by rfl) (by rfl) (by kernel_rfl) (by rfl) (by kernel_rfl) (by rfl)) (by rfl) (by rfl) ?_
    intro _ _
    refine Ls.nil ?_
    refine Ent.nil 3 1 ?_
    refine Cd.ret ?_
    refine Ent.ret (⟨0, none, 0, []⟩) (rfl) (Res.cell 1 (by rfl) (by rfl) (by rfl) (n := 2) (by kernel_rfl) (by rfl) (by rfl)) ?_ [0] (by rfl) ?_
    · rfl
    · rfl
  · skip
    have h := of_decide_eq_false h
    rw [cut_some h]
    refine Cd.seq ?_
    refine Cd.region ?_
    refine Ls.ev (some 28) (Ev.move (show Oper.op _ = Op.move (Operand.tmp 1) from rfl) (by rfl)) (by rfl) (by rfl) ?_
    refine Ls.ev (some 29) (Ev.fieldAddr (k := 0) (show Oper.op _ = Op.fieldAddr 41 (Operand.tmp 2) 0 from rfl) (by rfl) (by kernel_rfl) (by rfl)) (by rfl) (by rfl) ?_
    refine Ls.ev (some 30) (Ev.load 1 (show Oper.op _ = Op.load 3 (Operand.tmp 29) from rfl) (by rfl) (by rfl) (by kernel_rfl) (by rfl)) (by rfl) (by rfl) ?_
    refine Ls.ev (some 31) (Ev.leq (show Oper.op _ = Op.binOp BinOp.leq 3 (Operand.tmp 28) (Operand.tmp 30) 3 from rfl) (by rfl) (by rfl)) (by rfl) (by rfl) ?_
    refine Ls.ev (some 27) (Ev.assign (show Oper.op _ = Op.assign (Operand.tmp 31) from rfl) (by rfl)) (by rfl) (by rfl) ?_
    refine Ls.nil ?_
    refine Cd.cond _ (by rfl) (fun h2 => ?_) (fun h2 => ?_)
    · skip
      rw [if_pos (of_decide_eq_true h2)]
      refine Cd.seq ?_
      refine Cd.draw [6] (by kernel_rfl) ?_
      refine Rg.ev 0 (by rfl) (fun _ h => h) (Ev.fieldAddr (k := 0) (show Oper.op _ = Op.fieldAddr 41 (Operand.tmp 2) 0 from rfl) (by rfl) (by kernel_rfl) (by rfl)) (by rfl) (some 32) (by rfl) (by kernel_rfl) (by kernel_rfl) (by kernel_rfl) (by kernel_rfl) ?_
      refine Rg.ev 1 (by rfl) (fun _ h => h) (Ev.load 1 (show Oper.op _ = Op.load 3 (Operand.tmp 32) from rfl) (by rfl) (by rfl) (by kernel_rfl) (by rfl)) (by rfl) (some 33) (by rfl) (by kernel_rfl) (by kernel_rfl) (by kernel_rfl) (by kernel_rfl) ?_
      refine Rg.ev 2 (by rfl) (fun _ h => h) (Ev.fieldAddr (k := 1) (show Oper.op _ = Op.fieldAddr 41 (Operand.tmp 2) 1 from rfl) (by rfl) (by kernel_rfl) (by rfl)) (by rfl) (some 34) (by rfl) (by kernel_rfl) (by kernel_rfl) (by kernel_rfl) (by kernel_rfl) ?_
      refine Rg.ev 3 (by rfl) (fun _ h => h) (Ev.load 1 (show Oper.op _ = Op.load 22 (Operand.tmp 34) from rfl) (by rfl) (by rfl) (by kernel_rfl) (by rfl)) (by rfl) (some 35) (by rfl) (by kernel_rfl) (by kernel_rfl) (by kernel_rfl) (by kernel_rfl) ?_
      refine Rg.does 4 (by rfl) (by kernel_rfl) (Does.readN (show Oper.op _ = Op.call { callee := Callee.value (Operand.func 42), args := #[Operand.tmp 35], argTypes := #[22] } from rfl) Try.func42 (by kernel_rfl) (by kernel_rfl) (clone_sl A l.length c l (by omega)) (by rfl) (by rfl) ⟨ReadsIn.rd 2 (by rfl), trivial⟩ (fun _ => by rfl)) (by rfl) (some 36) (by rfl) (fun _ _ h => h.tail_) ?_
      intro q _
      refine Rg.ev 5 (by rfl) (fun _ h => h) (Ev.buildP (pl := [(0, 1), (1, 1)]) (zs := [.int .i64 0, .slice none 0 0]) (show Oper.op _ = Op.build 41 #[(0, Operand.tmp 33), (1, Operand.tmp 36)] from rfl) (by rfl) (by kernel_rfl) (by rfl)) (by rfl) (some 37) (by rfl) (by kernel_rfl) (by kernel_rfl) (by kernel_rfl) (by kernel_rfl) ?_
      refine Rg.tail 6 [] (by rfl) (by kernel_rfl) (Does.store 1 (show Oper.op _ = Op.store 41 (Operand.tmp 4) (Operand.tmp 37) from rfl) (by rfl) (by rfl) (by rfl) (by kernel_rfl) (by rfl) (by kernel_rfl) (by rfl)) (by rfl) none (by rfl) (by kernel_rfl) (by kernel_rfl) ?_
      intro _ _
      refine Rg.done (by kernel_rfl) ?_ _
      refine Cd.ret ?_
      refine Ent.ret (⟨s, q.1, q.2, l⟩) (rfl) (Res.cell 1 (by rfl) (by rfl) (by rfl) (n := 2) (by kernel_rfl) (by rfl) (by rfl)) ?_ [0] (by rfl) ?_
      · rfl
      · rfl
    · skip
      have h2 := of_decide_eq_false h2
      rw [if_neg h2]
      obtain ⟨d, rfl⟩ : ∃ d : Nat, t = s + d := ⟨(t - s).toNat, by omega⟩
      rw [show (s + (d : Int) - s).toNat = d by omega]
      refine Cd.skip ?_
      refine Cd.seq ?_
      refine Cd.region ?_
      refine Ls.ev (some 38) (Ev.move (show Oper.op _ = Op.move (Operand.tmp 1) from rfl) (by rfl)) (by rfl) (by rfl) ?_
      refine Ls.ev (some 39) (Ev.fieldAddr (k := 1) (show Oper.op _ = Op.fieldAddr 41 (Operand.tmp 2) 1 from rfl) (by rfl) (by kernel_rfl) (by rfl)) (by rfl) (by rfl) ?_
      refine Ls.ev (some 40) (Ev.load 1 (show Oper.op _ = Op.load 22 (Operand.tmp 39) from rfl) (by rfl) (by rfl) (by kernel_rfl) (by rfl)) (by rfl) (by rfl) ?_
      refine Ls.ev (some 41) (Ev.move (show Oper.op _ = Op.move (Operand.tmp 1) from rfl) (by rfl)) (by rfl) (by rfl) ?_
      refine Ls.ev (some 42) (Ev.fieldAddr (k := 0) (show Oper.op _ = Op.fieldAddr 41 (Operand.tmp 2) 0 from rfl) (by rfl) (by kernel_rfl) (by rfl)) (by rfl) (by rfl) ?_
      refine Ls.ev (some 43) (Ev.load 1 (show Oper.op _ = Op.load 3 (Operand.tmp 42) from rfl) (by rfl) (by rfl) (by kernel_rfl) (by rfl)) (by rfl) (by rfl) ?_
      refine Ls.ev (some 44) (Ev.to (Ev.subI (show Oper.op _ = Op.binOp BinOp.sub 3 (Operand.tmp 41) (Operand.tmp 43) 3 from rfl) (by rfl) (by rfl) (by omega)) (show Value.int _ _ = .int .i64 (d : Nat) by congr 1; omega)) (by rfl) (by rfl) ?_
      refine Ls.ev (some 45) (Ev.sliceLn (sz := 1) (show Oper.op _ = Op.slice 22 (Operand.tmp 40) (some (Operand.tmp 44)) none none from rfl) (by rfl) (by rfl) Try.underlying22 (by kernel_rfl) (by omega)) (by rfl) (by rfl) ?_
      refine Ent.cut 2 d l.length c (by rfl) (by omega) ?_
      have hdr : (((ints l).drop (d * 1)).take ((l.length - d) * 1)) = ints (l.drop d) := by
        unfold ints
        rw [Nat.mul_one, Nat.mul_one, ← List.map_drop, List.take_of_length_le (by rw [List.length_map, List.length_drop]; exact Nat.le_refl _)]
      have hdl : l.length - d = (l.drop d).length := List.length_drop.symm
      rw [hdr, hdl]
      refine Ls.does (some 46) (Does.readN (show Oper.op _ = Op.call { callee := Callee.value (Operand.func 42), args := #[Operand.tmp 45], argTypes := #[22] } from rfl) Try.func42 (by kernel_rfl) (by kernel_rfl) (clone_sl (cutA A c d 1) (l.drop d).length (c - d) (l.drop d) (by rw [List.length_drop]; omega)) (by rfl) (by rfl) ⟨ReadsIn.rd 0 (by rfl), trivial⟩ (fun _ => by rfl)) (by rfl) (by rfl) ?_
      intro q _
      refine Ls.ev (some 47) (Ev.buildP (pl := [(0, 1), (1, 1)]) (zs := [.int .i64 0, .slice none 0 0]) (show Oper.op _ = Op.build 41 #[(0, Operand.tmp 38), (1, Operand.tmp 46)] from rfl) (by rfl) (by kernel_rfl) (by rfl)) (by rfl) (by rfl) ?_
      refine Ls.does none (Does.store 2 (show Oper.op _ = Op.store 41 (Operand.tmp 4) (Operand.tmp 47) from rfl) (by rfl) (by rfl) (by rfl) (by kernel_rfl) (by rfl) (by kernel_rfl) (by rfl)) (by rfl) (by rfl) ?_
      intro _ _
      refine Ls.nil ?_
      refine Cd.ret ?_
      refine Ent.ret (⟨s + d, q.1, q.2, l.drop d⟩) (rfl) (Res.cell 2 (by rfl) (by rfl) (by rfl) (n := 2) (by kernel_rfl) (by rfl) (by rfl)) ?_ [0] (by rfl) ?_
      · rfl
      · rfl
end Go.Proofs.Ytegjoabfoddadaa
/- slices.Grow, Concat, Equal of ints; route.Join, route.Meet; judge.same -/
namespace Go.Proofs.Ytegjoabfoddadaa
open Go.RowKit
abbrev rowI (A : Option Addr) (c : Nat) (l : List Int) : Chunk := row A l.length c 3 1 (ints l)
abbrev rdI (A : Option Addr) (l : List Int) : Chunk := rd A l.length 1 (ints l)
theorem growI_sl (n : Nat) (hn : n ≤ 17592186044416) : Fn Try.prog 60 #[.slice none 0 0, .int .i64 n] [] (Option Addr × Nat) (fun p => .slice p.1 0 p.2) (fun p => [rowI p.1 p.2 []]) (fun _ => True) := by
  refine Fn.enter Try.func60 rfl Try.ntmps60 (by rfl) ?_
  intro w0
  refine Cd.seq ?_
  refine Cd.region ?_
  refine Ls.ev (some 4) (Ev.assign (show Oper.op _ = Op.assign (Operand.const (Value.slice none 0 0)) from rfl) (by rfl)) (by rfl) (by rfl) ?_
  refine Ls.nil ?_
  refine Cd.seq ?_
  refine Cd.seq ?_
  refine Cd.region ?_
  refine Ls.ev (some 5) (Ev.move (show Oper.op _ = Op.move (Operand.tmp 1) from rfl) (by rfl)) (by rfl) (by rfl) ?_
  refine Ls.ev (some 6) (Ev.lss (show Oper.op _ = Op.binOp BinOp.lss 3 (Operand.tmp 5) (Operand.const (Value.int IntKind.i64 0)) 3 from rfl) (by rfl) (by rfl)) (by rfl) (by rfl) ?_
  refine Ls.nil ?_
  refine Cd.cond_false (by rfl) (decide_eq_false (by omega)) ?_
  refine Cd.skip ?_
  refine Cd.seq ?_
  refine Cd.seq ?_
  refine Cd.region ?_
  refine Ls.ev (some 8) (Ev.move (show Oper.op _ = Op.move (Operand.tmp 1) from rfl) (by rfl)) (by rfl) (by rfl) ?_
  refine Ls.ev (some 9) (Ev.move (show Oper.op _ = Op.move (Operand.tmp 0) from rfl) (by rfl)) (by rfl) (by rfl) ?_
  refine Ls.ev (some 10) (Ev.cap (show Oper.op _ = Op.call { callee := Callee.builtin Builtin.cap, args := #[Operand.tmp 9], argTypes := #[22] } from rfl) (by rfl) Try.underlying22) (by rfl) (by rfl) ?_
  refine Ls.ev (some 11) (Ev.move (show Oper.op _ = Op.move (Operand.tmp 0) from rfl) (by rfl)) (by rfl) (by rfl) ?_
  refine Ls.ev (some 12) (Ev.len (show Oper.op _ = Op.call { callee := Callee.builtin Builtin.len, args := #[Operand.tmp 11], argTypes := #[22] } from rfl) (by rfl) Try.underlying22) (by rfl) (by rfl) ?_
  refine Ls.ev (some 13) (Ev.subI (show Oper.op _ = Op.binOp BinOp.sub 3 (Operand.tmp 10) (Operand.tmp 12) 3 from rfl) (by rfl) (by rfl) (by omega)) (by rfl) (by rfl) ?_
  refine Ls.ev (some 14) (Ev.subI (show Oper.op _ = Op.binOp BinOp.sub 3 (Operand.tmp 8) (Operand.tmp 13) 3 from rfl) (by rfl) (by rfl) (by omega)) (by rfl) (by rfl) ?_
  refine Ls.ev (some 1) (Ev.assign (show Oper.op _ = Op.assign (Operand.tmp 14) from rfl) (by rfl)) (by rfl) (by rfl) ?_
  refine Ls.nil ?_
  refine Cd.seq ?_
  refine Cd.region ?_
  refine Ls.ev (some 15) (Ev.move (show Oper.op _ = Op.move (Operand.tmp 1) from rfl) (by rfl)) (by rfl) (by rfl) ?_
  refine Ls.ev (some 16) (Ev.gtr (show Oper.op _ = Op.binOp BinOp.gtr 3 (Operand.tmp 15) (Operand.const (Value.int IntKind.i64 0)) 3 from rfl) (by rfl) (by rfl)) (by rfl) (by rfl) ?_
  refine Ls.nil ?_
  refine Cd.cond _ (by rfl) (fun h => ?_) (fun h => ?_)
  · skip
    refine Cd.region ?_
    refine Ls.ev (some 17) (Ev.move (show Oper.op _ = Op.move (Operand.tmp 0) from rfl) (by rfl)) (by rfl) (by rfl) ?_
    refine Ls.ev (some 18) (Ev.move (show Oper.op _ = Op.move (Operand.tmp 0) from rfl) (by rfl)) (by rfl) (by rfl) ?_
    refine Ls.ev (some 19) (Ev.cap (show Oper.op _ = Op.call { callee := Callee.builtin Builtin.cap, args := #[Operand.tmp 18], argTypes := #[22] } from rfl) (by rfl) Try.underlying22) (by rfl) (by rfl) ?_
    refine Ls.ev (some 20) (Ev.sliceHn (sz := 1) (show Oper.op _ = Op.slice 22 (Operand.tmp 17) none (some (Operand.tmp 19)) none from rfl) (by rfl) (by rfl) Try.underlying22 (by kernel_rfl) (by omega)) (by rfl) (by rfl) ?_
    refine Ls.ev (some 21) (Ev.move (show Oper.op _ = Op.move (Operand.tmp 1) from rfl) (by rfl)) (by rfl) (by rfl) ?_
    refine Ls.does (some 22) (Does.growZ (show Oper.op _ = Op.call { callee := Callee.builtin Builtin.append, args := #[Operand.tmp 20, Operand.tmp 21], argTypes := #[22, 3] } from rfl) (by rfl) (by rfl) elem_int (v := .int .i64 0) (by kernel_rfl) (by rfl) Try.underlying3 (by simpa using of_decide_eq_true h) (by omega)) (by rfl) (by rfl) ?_
    intro p _
    refine Ls.ev (some 23) (Ev.move (show Oper.op _ = Op.move (Operand.tmp 0) from rfl) (by rfl)) (by rfl) (by rfl) ?_
    refine Ls.ev (some 24) (Ev.len (show Oper.op _ = Op.call { callee := Callee.builtin Builtin.len, args := #[Operand.tmp 23], argTypes := #[22] } from rfl) (by rfl) Try.underlying22) (by rfl) (by rfl) ?_
    refine Ls.ev (some 25) (Ev.sliceHn (sz := 1) (show Oper.op _ = Op.slice 22 (Operand.tmp 22) none (some (Operand.tmp 24)) none from rfl) (by rfl) (by rfl) Try.underlying22 (by kernel_rfl) (by omega)) (by rfl) (by rfl) ?_
    refine Ls.ev (some 0) (Ev.assign (show Oper.op _ = Op.assign (Operand.tmp 25) from rfl) (by rfl)) (by rfl) (by rfl) ?_
    refine Ls.nil ?_
    refine Cd.seq ?_
    refine Cd.region ?_
    refine Ls.ev (some 26) (Ev.move (show Oper.op _ = Op.move (Operand.tmp 0) from rfl) (by rfl)) (by rfl) (by rfl) ?_
    refine Ls.ev (some 4) (Ev.assign (show Oper.op _ = Op.assign (Operand.tmp 26) from rfl) (by rfl)) (by rfl) (by rfl) ?_
    refine Ls.nil ?_
    refine Ent.trunc 0 0 (by rfl) (by omega) ?_
    refine Cd.ret ?_
    refine Ent.ret ((p.1, p.2)) (trivial) (Res.tmp (by rfl) (by rfl)) ?_ [0] (by rfl) ?_
    · rfl
    · rfl
  · skip
    refine Cd.skip ?_
    refine Cd.seq ?_
    refine Cd.region ?_
    refine Ls.ev (some 26) (Ev.move (show Oper.op _ = Op.move (Operand.tmp 0) from rfl) (by rfl)) (by rfl) (by rfl) ?_
    refine Ls.ev (some 4) (Ev.assign (show Oper.op _ = Op.assign (Operand.tmp 26) from rfl) (by rfl)) (by rfl) (by rfl) ?_
    refine Ls.nil ?_
    refine Ent.nil 3 1 ?_
    refine Cd.ret ?_
    refine Ent.ret ((none, 0)) (trivial) (Res.tmp (by rfl) (by rfl)) ?_ [0] (by rfl) ?_
    · rfl
    · rfl
/-- Slices of ints, as values, and what is read of them. -/
structure Is where
  A : Option Addr
  c : Nat
  l : List Int
  deriving Inhabited
def Is.val (p : Is) : Value := .slice p.A p.l.length p.c
def Is.rd (p : Is) : Chunk := rdI p.A p.l
def catI (ls : List Is) : List Int := ls.flatMap Is.l
theorem catI_take {ls : List Is} {k : Nat} {p : Is} (h : ls[k]? = some p) : catI (ls.take (k + 1)) = catI (ls.take k) ++ p.l := by
  unfold catI
  rw [List.take_add_one, h]
  simp
theorem catI_le (ls : List Is) (k : Nat) : (catI (ls.take k)).length ≤ (catI ls).length := by
  unfold catI
  conv => rhs; rw [← List.take_append_drop k ls]
  rw [List.flatMap_append, List.length_append]
  omega
section
variable {Γ : Ctx} {H : List Chunk}
def AllIs (Γ : Ctx) (H : List Chunk) : List Is → Prop
  | [] => True
  | p :: r => ReadsIn Γ H 1 p.A p.l.length (ints p.l) ∧ AllIs Γ H r
theorem AllIs.mem : ∀ {ls : List Is}, AllIs Γ H ls → ∀ p ∈ ls, ReadsIn Γ H 1 p.A p.l.length (ints p.l)
  | [], _, _, h => (List.not_mem_nil h).elim
  | q :: r, h, p, hp => by
    rcases List.mem_cons.1 hp with rfl | hp
    · exact h.1
    · exact AllIs.mem h.2 p hp
theorem starsI (ls : List Is) (h : AllIs Γ H ls) : ∀ w, Sat Γ H w → (stars (ls.map Is.rd)).holds w := fun w hs C hC => by
  obtain ⟨p, hp, rfl⟩ := List.mem_map.1 hC
  exact ⟨rfl, h.mem p hp w hs⟩
end
set_option maxHeartbeats 400000 in
theorem concatI_sl (A : Option Addr) (c : Nat) (ls : List Is) (hn : ls.length ≤ 1048576) (hb : (catI ls).length ≤ 17592186044415) :
    Fn Try.prog 53 #[.slice A ls.length c] [rd A ls.length 1 (ls.map Is.val), stars (ls.map Is.rd)] (Option Addr × Nat) (fun p => .slice p.1 (catI ls).length p.2) (fun p => [rowI p.1 p.2 (catI ls)]) (fun _ => True) := by
  refine Fn.enter Try.func53 rfl Try.ntmps53 (by rfl) ?_
  intro w0
  refine Cd.seq ?_
  refine Cd.region ?_
  refine Ls.ev (some 2) (Ev.assign (show Oper.op _ = Op.assign (Operand.const (Value.slice none 0 0)) from rfl) (by rfl)) (by rfl) (by rfl) ?_
  refine Ls.nil ?_
  refine Cd.seq ?_
  refine Cd.region ?_
  refine Ls.ev (some 3) (Ev.assign (show Oper.op _ = Op.assign (Operand.const (Value.int IntKind.i64 0)) from rfl) (by rfl)) (by rfl) (by rfl) ?_
  refine Ls.nil ?_
  refine Cd.seq ?_
  refine Cd.seq ?_
  refine Cd.region ?_
  refine Ls.ev (some 9) (Ev.move (show Oper.op _ = Op.move (Operand.tmp 0) from rfl) (by rfl)) (by rfl) (by rfl) ?_
  refine Ls.ev (some 10) (Ev.len (show Oper.op _ = Op.call { callee := Callee.builtin Builtin.len, args := #[Operand.tmp 9], argTypes := #[114] } from rfl) (by rfl) Try.underlying114) (by rfl) (by rfl) ?_
  refine Ls.ev (some 11) (Ev.move (show Oper.op _ = Op.move (Operand.const (Value.int IntKind.i64 0)) from rfl) (by rfl)) (by rfl) (by rfl) ?_
  refine Ls.nil ?_
  refine Cd.block ?_
  refine Cd.loop (ι := Nat) (fun k => [(0, .slice A ls.length c), (9, .slice A ls.length c), (10, .int .i64 ls.length), (11, .int .i64 k), (3, .int .i64 (catI (ls.take k)).length)]) (fun _ => [rd A ls.length 1 (ls.map Is.val), stars (ls.map Is.rd)]) (fun k => k ≤ ls.length) (fun k => ls.length - k) (0) (Nat.zero_le _) ?_ rfl ?_
  · (repeat (first | exact trivial | refine ⟨by rfl, ?_⟩))
  intro k hk
  refine Cd.seq ?_
  refine Cd.region ?_
  refine Ls.ev (some 12) (Ev.lss (show Oper.op _ = Op.binOp BinOp.lss 3 (Operand.tmp 11) (Operand.tmp 10) 3 from rfl) (by rfl) (by rfl)) (by rfl) (by rfl) ?_
  refine Ls.nil ?_
  refine Cd.seq ?_
  refine Cd.cond _ (by rfl) (fun h => ?_) (fun h => ?_)
  · skip
    have hlt : k < ls.length := by have := of_decide_eq_true h; omega
    obtain ⟨p, hp⟩ := get_of_lt hlt
    have hv : (ls.map Is.val)[k * 1]? = some p.val := by simp [hp]
    have hcat := catI_take hp
    have hle := catI_le ls (k + 1)
    have hl2 : (catI (ls.take (k + 1))).length = (catI (ls.take k)).length + p.l.length := by rw [hcat, List.length_append]
    refine Ent.rdSome 0 (by rfl) (by omega) (fun ad had => ?_)
    subst had
    refine Cd.skip ?_
    refine Cd.seq ?_
    refine Cd.block ?_
    refine Cd.seq ?_
    refine Cd.region ?_
    refine Ls.ev (some 13) (Ev.indexAt (sz := 1) (show Oper.op _ = Op.indexAddr 114 (Operand.tmp 9) (Operand.tmp 11) from rfl) (by rfl) (by rfl) Try.underlying114 (by kernel_rfl) (by omega)) (by rfl) (by rfl) ?_
    refine Ls.ev (some 14) (Ev.loadR 0 (show Oper.op _ = Op.load 22 (Operand.tmp 13) from rfl) (by rfl) (by rfl) (by kernel_rfl) (by omega) (by assumption)) (by rfl) (by rfl) ?_
    refine Ls.ev (some 5) (Ev.assign (show Oper.op _ = Op.assign (Operand.tmp 14) from rfl) (by rfl)) (by rfl) (by rfl) ?_
    refine Ls.nil ?_
    refine Cd.seq ?_
    refine Cd.region ?_
    refine Ls.ev (some 15) (Ev.move (show Oper.op _ = Op.move (Operand.tmp 3) from rfl) (by rfl)) (by rfl) (by rfl) ?_
    refine Ls.ev (some 16) (Ev.move (show Oper.op _ = Op.move (Operand.tmp 5) from rfl) (by rfl)) (by rfl) (by rfl) ?_
    refine Ls.ev (some 17) (Ev.len (show Oper.op _ = Op.call { callee := Callee.builtin Builtin.len, args := #[Operand.tmp 16], argTypes := #[22] } from rfl) (by rfl) Try.underlying22) (by rfl) (by rfl) ?_
    refine Ls.ev (some 18) (Ev.addI (show Oper.op _ = Op.binOp BinOp.add 3 (Operand.tmp 15) (Operand.tmp 17) 3 from rfl) (by rfl) (by rfl) (by omega)) (by rfl) (by rfl) ?_
    refine Ls.ev (some 3) (Ev.assign (show Oper.op _ = Op.assign (Operand.tmp 18) from rfl) (by rfl)) (by rfl) (by rfl) ?_
    refine Ls.nil ?_
    refine Cd.seq ?_
    refine Cd.region ?_
    refine Ls.ev (some 19) (Ev.move (show Oper.op _ = Op.move (Operand.tmp 3) from rfl) (by rfl)) (by rfl) (by rfl) ?_
    refine Ls.ev (some 20) (Ev.lss (show Oper.op _ = Op.binOp BinOp.lss 3 (Operand.tmp 19) (Operand.const (Value.int IntKind.i64 0)) 3 from rfl) (by rfl) (by rfl)) (by rfl) (by rfl) ?_
    refine Ls.nil ?_
    refine Cd.cond_false (by rfl) (decide_eq_false (by omega)) ?_
    refine Cd.skip ?_
    refine Cd.region ?_
    refine Ls.ev (some 22) (Ev.addI (show Oper.op _ = Op.binOp BinOp.add 3 (Operand.tmp 11) (Operand.const (Value.int IntKind.i64 1)) 3 from rfl) (by rfl) (by rfl) (by omega)) (by rfl) (by rfl) ?_
    refine Ls.ev (some 11) (Ev.move (show Oper.op _ = Op.move (Operand.tmp 22) from rfl) (by rfl)) (by rfl) (by rfl) ?_
    refine Ls.nil ?_
    refine Ent.inv (k + 1) ?_ ?_ ?_
    · (try dsimp only); exact ⟨by omega, by omega⟩
    · (repeat (first | exact trivial | refine ⟨by rfl, ?_⟩ | refine ⟨by simp only [List.length_append, List.length_cons, List.length_nil]; rfl, ?_⟩ | refine ⟨by push_cast; rfl, ?_⟩ | refine ⟨by (show some (Value.int .i64 _) = some (Value.int .i64 _); rw [hl2]; rfl), ?_⟩))
    · rfl
  · skip
    have hk : k = ls.length := by have := of_decide_eq_false h; omega
    subst hk
    have ht : ls.take ls.length = ls := List.take_length
    rw [ht]
    refine Cd.exit ?_
    refine Cd.seq ?_
    refine Cd.region ?_
    refine Ls.ev (some 23) (Ev.move (show Oper.op _ = Op.move (Operand.tmp 3) from rfl) (by rfl)) (by rfl) (by rfl) ?_
    refine Ls.does (some 24) (Does.call [0, 1] (show Oper.op _ = Op.call { callee := Callee.value (Operand.func 60), args := #[Operand.const (Value.slice none 0 0), Operand.tmp 23], argTypes := #[22, 3] } from rfl) Try.func60 (by kernel_rfl) (by kernel_rfl) (growI_sl (catI ls).length (by omega)) (by rfl) (by rfl) (by rfl)) (by rfl) (by rfl) ?_
    intro g _
    refine Ls.ev (some 6) (Ev.assign (show Oper.op _ = Op.assign (Operand.tmp 24) from rfl) (by rfl)) (by rfl) (by rfl) ?_
    refine Ls.nil ?_
    refine Cd.seq ?_
    refine Cd.seq ?_
    refine Cd.region ?_
    refine Ls.ev (some 25) (Ev.move (show Oper.op _ = Op.move (Operand.tmp 0) from rfl) (by rfl)) (by rfl) (by rfl) ?_
    refine Ls.ev (some 26) (Ev.len (show Oper.op _ = Op.call { callee := Callee.builtin Builtin.len, args := #[Operand.tmp 25], argTypes := #[114] } from rfl) (by rfl) Try.underlying114) (by rfl) (by rfl) ?_
    refine Ls.ev (some 27) (Ev.move (show Oper.op _ = Op.move (Operand.const (Value.int IntKind.i64 0)) from rfl) (by rfl)) (by rfl) (by rfl) ?_
    refine Ls.nil ?_
    refine Cd.block ?_
    refine Cd.loop (ι := Nat × Option Addr × Nat) (fun j => [(25, .slice A ls.length c), (26, .int .i64 ls.length), (27, .int .i64 j.1), (6, .slice j.2.1 (catI (ls.take j.1)).length j.2.2)]) (fun j => [rowI j.2.1 j.2.2 (catI (ls.take j.1)), rd A ls.length 1 (ls.map Is.val), stars (ls.map Is.rd)]) (fun j => j.1 ≤ ls.length) (fun j => ls.length - j.1) ((0, g.1, g.2)) (Nat.zero_le _) ?_ rfl ?_
    · (repeat (first | exact trivial | refine ⟨by rfl, ?_⟩))
    rintro ⟨k, D, d⟩ hk
    dsimp only at hk ⊢
    refine Cd.seq ?_
    refine Cd.region ?_
    refine Ls.ev (some 28) (Ev.lss (show Oper.op _ = Op.binOp BinOp.lss 3 (Operand.tmp 27) (Operand.tmp 26) 3 from rfl) (by rfl) (by rfl)) (by rfl) (by rfl) ?_
    refine Ls.nil ?_
    refine Cd.seq ?_
    refine Cd.cond _ (by rfl) (fun h => ?_) (fun h => ?_)
    · skip
      have hlt : k < ls.length := by have := of_decide_eq_true h; omega
      obtain ⟨p, hp⟩ := get_of_lt hlt
      have hv : (ls.map Is.val)[k * 1]? = some p.val := by simp [hp]
      have hcat := catI_take hp
      have hle := catI_le ls (k + 1)
      have hl2 : (catI (ls.take (k + 1))).length = (catI (ls.take k)).length + p.l.length := by rw [hcat, List.length_append]
      refine Ent.rdSome 1 (by rfl) (by omega) (fun ad had => ?_)
      subst had
      refine Cd.skip ?_
      refine Cd.seq ?_
      refine Cd.block ?_
      refine Cd.seq ?_
      refine Cd.region ?_
      refine Ls.ev (some 29) (Ev.indexAt (sz := 1) (show Oper.op _ = Op.indexAddr 114 (Operand.tmp 25) (Operand.tmp 27) from rfl) (by rfl) (by rfl) Try.underlying114 (by kernel_rfl) (by omega)) (by rfl) (by rfl) ?_
      refine Ls.ev (some 30) (Ev.loadR 1 (show Oper.op _ = Op.load 22 (Operand.tmp 29) from rfl) (by rfl) (by rfl) (by kernel_rfl) (by omega) (by assumption)) (by rfl) (by rfl) ?_
      refine Ls.ev (some 8) (Ev.assign (show Oper.op _ = Op.assign (Operand.tmp 30) from rfl) (by rfl)) (by rfl) (by rfl) ?_
      refine Ls.nil ?_
      refine Cd.region ?_
      refine Ls.ev (some 31) (Ev.move (show Oper.op _ = Op.move (Operand.tmp 6) from rfl) (by rfl)) (by rfl) (by rfl) ?_
      refine Ls.ev (some 32) (Ev.move (show Oper.op _ = Op.move (Operand.tmp 8) from rfl) (by rfl)) (by rfl) (by rfl) ?_
      refine Ent.map (fun w hs => hs.stars_get (i := 2) (C := p.rd) rfl (List.mem_map_of_mem (List.mem_of_getElem? hp))) ?_
      refine Ls.does (some 33) (Does.app (xs := ints (catI (ls.take k))) (news := ints p.l) 1 (show Oper.op _ = Op.call { callee := Callee.builtin Builtin.append, args := #[Operand.tmp 31, Operand.tmp 32], argTypes := #[22, 22] } from rfl) (by rfl) (by rfl) (by rfl) (ReadsIn.rd 0 (by rfl)) elem_int (one_ints _) (by omega)) (by rfl) (by rfl) ?_
      intro q _
      refine Ls.ev (some 6) (Ev.assign (show Oper.op _ = Op.assign (Operand.tmp 33) from rfl) (by rfl)) (by rfl) (by rfl) ?_
      refine Ls.nil ?_
      refine Cd.region ?_
      refine Ls.ev (some 34) (Ev.addI (show Oper.op _ = Op.binOp BinOp.add 3 (Operand.tmp 27) (Operand.const (Value.int IntKind.i64 1)) 3 from rfl) (by rfl) (by rfl) (by omega)) (by rfl) (by rfl) ?_
      refine Ls.ev (some 27) (Ev.move (show Oper.op _ = Op.move (Operand.tmp 34) from rfl) (by rfl)) (by rfl) (by rfl) ?_
      refine Ls.nil ?_
      refine Ent.pick [1, 2, 3] (by rfl) ?_
      refine Ent.inv ((k + 1, q.1, q.2)) ?_ ?_ ?_
      · (try dsimp only); exact ⟨by omega, by omega⟩
      · (repeat (first | exact trivial | refine ⟨by rfl, ?_⟩ | refine ⟨by simp only [List.length_append, List.length_cons, List.length_nil]; rfl, ?_⟩ | refine ⟨by push_cast; rfl, ?_⟩ | refine ⟨by (show some (Value.slice _ _ _) = some (Value.slice _ _ _); dsimp only; rw [hl2]), ?_⟩))
      · (show [_, _, _] = [_, _, _]; dsimp only [rowI]; rw [hl2, hcat, ints_append])
    · skip
      have hk : k = ls.length := by have := of_decide_eq_false h; omega
      subst hk
      rw [ht]
      refine Cd.exit ?_
      refine Cd.seq ?_
      refine Cd.region ?_
      refine Ls.ev (some 35) (Ev.move (show Oper.op _ = Op.move (Operand.tmp 6) from rfl) (by rfl)) (by rfl) (by rfl) ?_
      refine Ls.ev (some 2) (Ev.assign (show Oper.op _ = Op.assign (Operand.tmp 35) from rfl) (by rfl)) (by rfl) (by rfl) ?_
      refine Ls.nil ?_
      refine Cd.ret ?_
      refine Ent.ret ((D, d)) (trivial) (Res.tmp (by rfl) (by rfl)) ?_ [0] (by rfl) ?_
      · rfl
      · rfl
theorem join_sl (x : RtS) (D : Option Addr) (d : Nat) (m : List Int) (hn : x.l.length + m.length ≤ 1048576) : Fn Try.prog 40 #[.agg x.enc.toArray, .slice D m.length d] [x.rd, rdI D m] RtS (fun y => .agg y.enc.toArray) (fun y => [y.row]) (fun y => y.s = x.s ∧ y.l = x.l ++ m) := by
  obtain ⟨s, A, c, l⟩ := x
  dsimp only [RtS.enc, RtS.rd] at hn ⊢
  refine Fn.enter Try.func40 rfl Try.ntmps40 (by rfl) ?_
  intro w0
  refine Cd.seq ?_
  refine Cd.region ?_
  refine Ls.does (some 2) (Does.box (show Oper.op _ = Op.box 41 (Operand.tmp 0) from rfl) (by rfl)) (by rfl) (by rfl) ?_
  intro g1 _
  refine Ls.does (some 4) (Does.alloc (cs := [.int .i64 0, .slice none 0 0]) (show Oper.op _ = Op.alloc 41 from rfl) (ZeroIs.mk (.agg #[.int .i64 0, .slice none 0 0]) (by kernel_rfl) (by rfl))) (by rfl) (by rfl) ?_
  intro g2 _
  refine Ls.nil ?_
  refine Cd.seq ?_
  refine Cd.draw [8] (by kernel_rfl) ?_
  refine Rg.ev 0 (by rfl) (fun _ h => h) (Ev.fieldAddr (k := 0) (show Oper.op _ = Op.fieldAddr 41 (Operand.tmp 2) 0 from rfl) (by rfl) (by kernel_rfl) (by rfl)) (by rfl) (some 5) (by rfl) (by kernel_rfl) (by kernel_rfl) (by kernel_rfl) (by kernel_rfl) ?_
  refine Rg.ev 1 (by rfl) (fun _ h => h) (Ev.load 1 (show Oper.op _ = Op.load 3 (Operand.tmp 5) from rfl) (by rfl) (by rfl) (by kernel_rfl) (by rfl)) (by rfl) (some 6) (by rfl) (by kernel_rfl) (by kernel_rfl) (by kernel_rfl) (by kernel_rfl) ?_
  refine Rg.ev 2 (by rfl) (fun _ h => h) (Ev.fieldAddr (k := 1) (show Oper.op _ = Op.fieldAddr 41 (Operand.tmp 2) 1 from rfl) (by rfl) (by kernel_rfl) (by rfl)) (by rfl) (some 7) (by rfl) (by kernel_rfl) (by kernel_rfl) (by kernel_rfl) (by kernel_rfl) ?_
  refine Rg.ev 3 (by rfl) (fun _ h => h) (Ev.load 1 (show Oper.op _ = Op.load 22 (Operand.tmp 7) from rfl) (by rfl) (by rfl) (by kernel_rfl) (by rfl)) (by rfl) (some 8) (by rfl) (by kernel_rfl) (by kernel_rfl) (by kernel_rfl) (by kernel_rfl) ?_
  refine Rg.ev 4 (by rfl) (fun _ h => h) (Ev.move (show Oper.op _ = Op.move (Operand.tmp 1) from rfl) (by rfl)) (by rfl) (some 9) (by rfl) (by kernel_rfl) (by kernel_rfl) (by kernel_rfl) (by kernel_rfl) ?_
  refine Rg.does 5 (by rfl) (by kernel_rfl) (Does.lit (sz := 1) (show Oper.op _ = Op.buildSlice 114 2 #[(0, Operand.tmp 8), (1, Operand.tmp 9)] from rfl) (by rfl) Try.underlying114 (by kernel_rfl) (by rfl) (by kernel_rfl)) (by rfl) (some 10) (by rfl) (fun _ _ h => h.tail_) ?_
  intro g3 _
  obtain ⟨ls, hls⟩ : ∃ ls : List Is, ls = [⟨A, c, l⟩, ⟨D, d, m⟩] := ⟨_, rfl⟩
  have hcat : catI ls = l ++ m := by rw [hls]; simp [catI]
  rw [hls] at hcat
  refine Rg.does 6 (by rfl) (by kernel_rfl) (Does.readN (show Oper.op _ = Op.call { callee := Callee.value (Operand.func 53), args := #[Operand.tmp 10], argTypes := #[114] } from rfl) Try.func53 (by kernel_rfl) (by kernel_rfl) (concatI_sl (some ⟨g3, 0, none⟩) 2 [⟨A, c, l⟩, ⟨D, d, m⟩] (by simp) (by rw [hcat, List.length_append]; omega)) (by rfl) (by rfl) ⟨ReadsIn.row 0 (by rfl), starsI _ ⟨ReadsIn.rd 3 (by rfl), ReadsIn.rd 4 (by rfl), trivial⟩, trivial⟩ (fun _ => by rfl)) (by rfl) (some 11) (by rfl) (fun _ _ h => h.tail_) ?_
  rw [hcat]
  intro q _
  refine Rg.ev 7 (by rfl) (fun _ h => h) (Ev.buildP (pl := [(0, 1), (1, 1)]) (zs := [.int .i64 0, .slice none 0 0]) (show Oper.op _ = Op.build 41 #[(0, Operand.tmp 6), (1, Operand.tmp 11)] from rfl) (by rfl) (by kernel_rfl) (by rfl)) (by rfl) (some 12) (by rfl) (by kernel_rfl) (by kernel_rfl) (by kernel_rfl) (by kernel_rfl) ?_
  refine Rg.tail 8 [] (by rfl) (by kernel_rfl) (Does.store 2 (show Oper.op _ = Op.store 41 (Operand.tmp 4) (Operand.tmp 12) from rfl) (by rfl) (by rfl) (by rfl) (by kernel_rfl) (by rfl) (by kernel_rfl) (by rfl)) (by rfl) none (by rfl) (by kernel_rfl) (by kernel_rfl) ?_
  intro _ _
  refine Rg.done (by kernel_rfl) ?_ _
  refine Cd.ret ?_
  refine Ent.ret (⟨s, q.1, q.2, l ++ m⟩) (⟨rfl, rfl⟩) (Res.cell 2 (by rfl) (by rfl) (by rfl) (n := 2) (by kernel_rfl) (by rfl) (by rfl)) ?_ [0] (by rfl) ?_
  · rfl
  · rfl
theorem meetF_succ (a b : RtP) (n : Nat) (t : Int) (h : 0 < n) : meetF a b n t = (meetAt a b t || meetF a b (n - 1) (t + 1)) := by
  obtain ⟨m, rfl⟩ : ∃ m, n = m + 1 := ⟨n - 1, by omega⟩
  rfl
set_option maxHeartbeats 1000000 in
theorem meet_sl (x y : RtS) : Fn Try.prog 52 #[.agg x.enc.toArray, .agg y.enc.toArray] [x.rd, y.rd] Unit (fun _ => .bool (meetR x.p y.p)) (fun _ => []) (fun _ => True) := by
  have hpx := plain_sl x
  have hpy := plain_sl y
  have hax := at_sl x
  have hay := at_sl y
  have hR : meetR x.p y.p = (decide (x.l.length ≤ 24 ∧ 0 ≤ x.s ∧ x.s ≤ 1073741824) && decide (y.l.length ≤ 24 ∧ 0 ≤ y.s ∧ y.s ≤ 1073741824) && meetF x.p y.p (meetHi x.p y.p - meetLo x.p y.p).toNat (meetLo x.p y.p)) := by
    unfold meetR
    rw [x.planR, y.planR]
  have hhi : meetHi x.p y.p = min (x.s + x.l.length) (y.s + y.l.length) := rfl
  have hlo : meetLo x.p y.p = max x.s y.s := rfl
  revert hR hhi hlo hax hay
  generalize x.p = a
  generalize y.p = b
  generalize meetHi a b = hi
  generalize meetLo a b = lo
  obtain ⟨s, A, c, l⟩ := x
  obtain ⟨s2, D, d, m⟩ := y
  dsimp only [RtS.enc, RtS.rd] at hpx hpy ⊢
  intro hax hay hR hhi hlo
  refine Fn.enter Try.func52 rfl Try.ntmps52 (by rfl) ?_
  intro w0
  refine Cd.seq ?_
  refine Cd.region ?_
  refine Ls.does (some 2) (Does.box (show Oper.op _ = Op.box 41 (Operand.tmp 0) from rfl) (by rfl)) (by rfl) (by rfl) ?_
  intro g1 _
  refine Ls.does (some 3) (Does.box (show Oper.op _ = Op.box 41 (Operand.tmp 1) from rfl) (by rfl)) (by rfl) (by rfl) ?_
  intro g2 _
  refine Ls.ev (some 4) (Ev.assign (show Oper.op _ = Op.assign (Operand.const (Value.bool false)) from rfl) (by rfl)) (by rfl) (by rfl) ?_
  refine Ls.nil ?_
  refine Cd.seq ?_
  refine Cd.seq ?_
  refine Cd.cut (ι := Unit) (fun _ => [(2, .pointer (some ⟨g1, 0, none⟩)), (3, .pointer (some ⟨g2, 0, none⟩)), (21, .bool (decide (¬ (l.length ≤ 24 ∧ 0 ≤ s ∧ s ≤ 1073741824) ∨ ¬ (m.length ≤ 24 ∧ 0 ≤ s2 ∧ s2 ≤ 1073741824))))]) (fun _ => [blk g2 41 [.int .i64 s2, .slice D m.length d], blk g1 41 [.int .i64 s, .slice A l.length c], rd A l.length 1 (ints l), rd D m.length 1 (ints m)]) (fun _ => True) ?_ ?_
  · skip
    refine Cd.region ?_
    refine Ls.ev (some 14) (Ev.loads 1 (show Oper.op _ = Op.load 41 (Operand.tmp 2) from rfl) (by rfl) (by rfl) (n := 2) (by kernel_rfl) (by rfl) (by rfl)) (by rfl) (by rfl) ?_
    refine Ls.does (some 15) (Does.read (show Oper.op _ = Op.call { callee := Callee.value (Operand.func 50), args := #[Operand.tmp 14], argTypes := #[41] } from rfl) Try.func50 (by kernel_rfl) (by kernel_rfl) (hpx) (by rfl) (by rfl) trivial) (by rfl) (by rfl) ?_
    rintro _ -
    refine Ls.ev (some 16) (Ev.not (show Oper.op _ = Op.unOp UnOp.not 4 (Operand.tmp 15) from rfl) (by rfl)) (by rfl) (by rfl) ?_
    refine Ls.ev (some 17) (Ev.move (show Oper.op _ = Op.move (Operand.tmp 16) from rfl) (by rfl)) (by rfl) (by rfl) ?_
    refine Ent.split 17 (by rfl) (fun h1 => ?_) (fun h1 => ?_)
    · skip
      have h1 := of_not_decide_false h1
      refine Ls.ev (some 18) (Ev.loads 0 (show Oper.op _ = Op.load 41 (Operand.tmp 3) from rfl) (by rfl) (by rfl) (n := 2) (by kernel_rfl) (by rfl) (by rfl)) (by rfl) (by rfl) ?_
      refine Ls.does (some 19) (Does.read (show Oper.op _ = Op.call { callee := Callee.value (Operand.func 50), args := #[Operand.tmp 18], argTypes := #[41] } from rfl) Try.func50 (by kernel_rfl) (by kernel_rfl) (hpy) (by rfl) (by rfl) trivial) (by rfl) (by rfl) ?_
      rintro _ -
      refine Ls.ev (some 20) (Ev.not (show Oper.op _ = Op.unOp UnOp.not 4 (Operand.tmp 19) from rfl) (by rfl)) (by rfl) (by rfl) ?_
      refine Ls.ev (some 21) (Ev.pickF (show Oper.op _ = Op.pick (Operand.tmp 17) (Operand.const (Value.bool true)) (Operand.tmp 20) from rfl) (by rfl) (by rfl)) (by rfl) (by rfl) ?_
      refine Ls.nil ?_
      refine Ent.inv (()) ?_ ?_ ?_
      · (try dsimp only); skip
      · (repeat (first | exact trivial | refine ⟨by rfl, ?_⟩ | refine ⟨by simp only [List.length_append, List.length_cons, List.length_nil]; rfl, ?_⟩ | refine ⟨by push_cast; rfl, ?_⟩ | refine ⟨by (show some (Value.bool _) = some (Value.bool _); congr 2; rw [← decide_not]; exact decide_eq_decide.2 ⟨.inr, fun h => h.resolve_left (fun h => h h1)⟩), ?_⟩))
      · rfl
    · skip
      have h1 := of_not_decide_true h1
      refine Ls.pass (some 18) (by rfl) (by rfl) ?_
      refine Ls.pass (some 19) (by rfl) (by rfl) ?_
      refine Ls.pass (some 20) (by rfl) (by rfl) ?_
      refine Ls.ev (some 21) (Ev.pickT (show Oper.op _ = Op.pick (Operand.tmp 17) (Operand.const (Value.bool true)) (Operand.tmp 20) from rfl) (by rfl) (by rfl)) (by rfl) (by rfl) ?_
      refine Ls.nil ?_
      refine Ent.inv (()) ?_ ?_ ?_
      · (try dsimp only); skip
      · (repeat (first | exact trivial | refine ⟨by rfl, ?_⟩ | refine ⟨by simp only [List.length_append, List.length_cons, List.length_nil]; rfl, ?_⟩ | refine ⟨by push_cast; rfl, ?_⟩ | refine ⟨by (show some (Value.bool _) = some (Value.bool _); congr 2; exact (decide_eq_true (.inl h1)).symm), ?_⟩))
      · rfl
  skip
  rintro _ -
  refine Cd.cond _ (by rfl) (fun h => ?_) (fun h => ?_)
  · skip
    have h := of_decide_eq_true h
    have : meetR a b = false := by
      rw [hR]
      rcases h with h | h
      · rw [decide_eq_false h]; rfl
      · rw [decide_eq_false h, Bool.and_false]; rfl
    rw [this]
    refine Cd.seq ?_
    refine Cd.region ?_
    refine Ls.ev (some 4) (Ev.assign (show Oper.op _ = Op.assign (Operand.const (Value.bool false)) from rfl) (by rfl)) (by rfl) (by rfl) ?_
    refine Ls.nil ?_
    refine Cd.ret ?_
    refine Ent.ret (()) (trivial) (Res.tmp (by rfl) (by rfl)) ?_ [] (by rfl) ?_
    · rfl
    · rfl
  · skip
    have h := of_decide_eq_false h
    refine Cd.skip ?_
    refine Cd.seq ?_
    refine Cd.seq ?_
    refine Cd.region ?_
    refine Ls.ev (some 22) (Ev.fieldAddr (k := 0) (show Oper.op _ = Op.fieldAddr 41 (Operand.tmp 2) 0 from rfl) (by rfl) (by kernel_rfl) (by rfl)) (by rfl) (by rfl) ?_
    refine Ls.ev (some 23) (Ev.load 1 (show Oper.op _ = Op.load 3 (Operand.tmp 22) from rfl) (by rfl) (by rfl) (by kernel_rfl) (by rfl)) (by rfl) (by rfl) ?_
    refine Ls.ev (some 24) (Ev.fieldAddr (k := 0) (show Oper.op _ = Op.fieldAddr 41 (Operand.tmp 3) 0 from rfl) (by rfl) (by kernel_rfl) (by rfl)) (by rfl) (by rfl) ?_
    refine Ls.ev (some 25) (Ev.load 0 (show Oper.op _ = Op.load 3 (Operand.tmp 24) from rfl) (by rfl) (by rfl) (by kernel_rfl) (by rfl)) (by rfl) (by rfl) ?_
    refine Ls.ev (some 26) (Ev.max (show Oper.op _ = Op.call { callee := Callee.builtin Builtin.max, args := #[Operand.tmp 23, Operand.tmp 25], argTypes := #[3, 3] } from rfl) (by rfl) (by rfl)) (by rfl) (by rfl) ?_
    refine Ls.ev (some 5) (Ev.assign (show Oper.op _ = Op.assign (Operand.tmp 26) from rfl) (by rfl)) (by rfl) (by rfl) ?_
    refine Ls.nil ?_
    refine Cd.block ?_
    have hR2 : meetR a b = meetF a b (hi - lo).toNat lo := by
      rw [hR, decide_eq_true (show l.length ≤ 24 ∧ 0 ≤ s ∧ s ≤ 1073741824 by omega), decide_eq_true (show m.length ≤ 24 ∧ 0 ≤ s2 ∧ s2 ≤ 1073741824 by omega)]
      rfl
    rw [hR2]
    clear hR hR2
    have hlo2 : (if s < s2 then s2 else s) = lo := by rw [hlo]; split <;> omega
    rw [hlo2]
    refine Cd.loop (ι := Nat) (fun k => [(2, .pointer (some ⟨g1, 0, none⟩)), (3, .pointer (some ⟨g2, 0, none⟩)), (5, .int .i64 (lo + (k : Int)))]) (fun _ => [blk g2 41 [.int .i64 s2, .slice D m.length d], blk g1 41 [.int .i64 s, .slice A l.length c], rd A l.length 1 (ints l), rd D m.length 1 (ints m)]) (fun k => k ≤ (hi - lo).toNat ∧ meetF a b (hi - lo).toNat lo = meetF a b ((hi - lo).toNat - k) (lo + (k : Int))) (fun k => (hi - lo).toNat - k) (0) (⟨Nat.zero_le _, by rw [show lo + ((0 : Nat) : Int) = lo by omega, Nat.sub_zero]⟩) ?_ rfl ?_
    · (refine ⟨by rfl, by rfl, ?_, trivial⟩; show some (Value.int .i64 _) = some (Value.int .i64 _); rw [show lo + ((0 : Nat) : Int) = lo by omega])
    rintro k ⟨hk, hmf⟩
    dsimp only at hk hmf ⊢
    rw [hmf]
    refine Cd.seq ?_
    refine Cd.seq ?_
    refine Cd.region ?_
    refine Ls.ev (some 27) (Ev.move (show Oper.op _ = Op.move (Operand.tmp 5) from rfl) (by rfl)) (by rfl) (by rfl) ?_
    refine Ls.ev (some 28) (Ev.fieldAddr (k := 0) (show Oper.op _ = Op.fieldAddr 41 (Operand.tmp 2) 0 from rfl) (by rfl) (by kernel_rfl) (by rfl)) (by rfl) (by rfl) ?_
    refine Ls.ev (some 29) (Ev.load 1 (show Oper.op _ = Op.load 3 (Operand.tmp 28) from rfl) (by rfl) (by rfl) (by kernel_rfl) (by rfl)) (by rfl) (by rfl) ?_
    refine Ls.ev (some 30) (Ev.fieldAddr (k := 1) (show Oper.op _ = Op.fieldAddr 41 (Operand.tmp 2) 1 from rfl) (by rfl) (by kernel_rfl) (by rfl)) (by rfl) (by rfl) ?_
    refine Ls.ev (some 31) (Ev.load 1 (show Oper.op _ = Op.load 22 (Operand.tmp 30) from rfl) (by rfl) (by rfl) (by kernel_rfl) (by rfl)) (by rfl) (by rfl) ?_
    refine Ls.ev (some 32) (Ev.len (show Oper.op _ = Op.call { callee := Callee.builtin Builtin.len, args := #[Operand.tmp 31], argTypes := #[22] } from rfl) (by rfl) Try.underlying22) (by rfl) (by rfl) ?_
    refine Ls.ev (some 33) (Ev.addI (show Oper.op _ = Op.binOp BinOp.add 3 (Operand.tmp 29) (Operand.tmp 32) 3 from rfl) (by rfl) (by rfl) (by omega)) (by rfl) (by rfl) ?_
    refine Ls.ev (some 34) (Ev.fieldAddr (k := 0) (show Oper.op _ = Op.fieldAddr 41 (Operand.tmp 3) 0 from rfl) (by rfl) (by kernel_rfl) (by rfl)) (by rfl) (by rfl) ?_
    refine Ls.ev (some 35) (Ev.load 0 (show Oper.op _ = Op.load 3 (Operand.tmp 34) from rfl) (by rfl) (by rfl) (by kernel_rfl) (by rfl)) (by rfl) (by rfl) ?_
    refine Ls.ev (some 36) (Ev.fieldAddr (k := 1) (show Oper.op _ = Op.fieldAddr 41 (Operand.tmp 3) 1 from rfl) (by rfl) (by kernel_rfl) (by rfl)) (by rfl) (by rfl) ?_
    refine Ls.ev (some 37) (Ev.load 0 (show Oper.op _ = Op.load 22 (Operand.tmp 36) from rfl) (by rfl) (by rfl) (by kernel_rfl) (by rfl)) (by rfl) (by rfl) ?_
    refine Ls.ev (some 38) (Ev.len (show Oper.op _ = Op.call { callee := Callee.builtin Builtin.len, args := #[Operand.tmp 37], argTypes := #[22] } from rfl) (by rfl) Try.underlying22) (by rfl) (by rfl) ?_
    refine Ls.ev (some 39) (Ev.addI (show Oper.op _ = Op.binOp BinOp.add 3 (Operand.tmp 35) (Operand.tmp 38) 3 from rfl) (by rfl) (by rfl) (by omega)) (by rfl) (by rfl) ?_
    refine Ls.ev (some 40) (Ev.min (show Oper.op _ = Op.call { callee := Callee.builtin Builtin.min, args := #[Operand.tmp 33, Operand.tmp 39], argTypes := #[3, 3] } from rfl) (by rfl) (by rfl)) (by rfl) (by rfl) ?_
    refine Ls.ev (some 41) (Ev.lss (show Oper.op _ = Op.binOp BinOp.lss 3 (Operand.tmp 27) (Operand.tmp 40) 3 from rfl) (by rfl) (by rfl)) (by rfl) (by rfl) ?_
    refine Ls.nil ?_
    have hhi2 : (if s2 + (m.length : Int) < s + l.length then s2 + (m.length : Int) else s + l.length) = hi := by rw [hhi]; split <;> omega
    rw [hhi2]
    refine Cd.cond _ (by rfl) (fun h2 => ?_) (fun h2 => ?_)
    · skip
      have h2 := of_decide_eq_true h2
      obtain ⟨t, ht⟩ : ∃ t, t = lo + (k : Int) := ⟨_, rfl⟩
      rw [meetF_succ a b _ _ (by omega), ← ht]
      have htb : -4611686018427387904 ≤ t ∧ t ≤ 4611686018427387904 := by omega
      have hax1 := hax t
      have hay1 := hay t
      have hax2 := hax (t + 1)
      have hay2 := hay (t + 1)
      have hM : meetAt a b t = (decide ((atR a t).getD 0 = (atR b t).getD 0) || ((atR a (t + 1)).isSome && (atR b (t + 1)).isSome && decide ((atR a t).getD 0 ≠ (atR a (t + 1)).getD 0) && (decide ((atR a t).getD 0 = (atR b (t + 1)).getD 0 ∧ (atR b t).getD 0 = (atR a (t + 1)).getD 0) || decide ((atR a t).getD 0 = (atR b t).getD 0 ∧ (atR a (t + 1)).getD 0 = (atR b (t + 1)).getD 0)))) := rfl
      have hgo : ∀ z : Bool, meetAt a b t = z → (meetAt a b t || meetF a b ((hi - lo).toNat - k - 1) (t + 1)) = (z || meetF a b ((hi - lo).toNat - k - 1) (t + 1)) := fun z hz => by rw [hz]
      revert hM hax1 hay1 hax2 hay2
      generalize (atR a t).getD 0 = pa
      generalize (atR b t).getD 0 = pb
      generalize (atR a (t + 1)).getD 0 = pu
      generalize (atR b (t + 1)).getD 0 = pv
      generalize (atR a t).isSome = fa
      generalize (atR b t).isSome = fb
      generalize (atR a (t + 1)).isSome = fu
      generalize (atR b (t + 1)).isSome = fv
      intro hax1 hay1 hax2 hay2 hM
      refine Cd.skip ?_
      refine Cd.seq ?_
      refine Cd.block ?_
      refine Cd.seq ?_
      refine Cd.region ?_
      refine Ls.ev (some 45) (Ev.loads 1 (show Oper.op _ = Op.load 41 (Operand.tmp 2) from rfl) (by rfl) (by rfl) (n := 2) (by kernel_rfl) (by rfl) (by rfl)) (by rfl) (by rfl) ?_
      refine Ls.ev (some 46) (Ev.move (show Oper.op _ = Op.move (Operand.tmp 5) from rfl) (by rfl)) (by rfl) (by rfl) ?_
      refine Ls.does (some 47) (Does.read (show Oper.op _ = Op.call { callee := Callee.value (Operand.func 59), args := #[Operand.tmp 45, Operand.tmp 46], argTypes := #[41, 3] } from rfl) Try.func59 (by kernel_rfl) (by kernel_rfl) (hax1) (by rfl) (by rfl) ⟨ReadsIn.rd 2 (by rfl), trivial⟩) (by rfl) (by rfl) ?_
      rintro _ -
      refine Ls.ev (some 44) (Ev.move (show Oper.op _ = Op.move (Operand.tmp 47) from rfl) (by rfl)) (by rfl) (by rfl) ?_
      refine Ls.ev (some 48) (Ev.extract (show Oper.op _ = Op.extract (Operand.tmp 44) 0 from rfl) (by rfl) (by rfl)) (by rfl) (by rfl) ?_
      refine Ls.ev (some 49) (Ev.extract (show Oper.op _ = Op.extract (Operand.tmp 44) 1 from rfl) (by rfl) (by rfl)) (by rfl) (by rfl) ?_
      refine Ls.ev (some 6) (Ev.assign (show Oper.op _ = Op.assign (Operand.tmp 48) from rfl) (by rfl)) (by rfl) (by rfl) ?_
      refine Ls.ev (some 7) (Ev.assign (show Oper.op _ = Op.assign (Operand.tmp 49) from rfl) (by rfl)) (by rfl) (by rfl) ?_
      refine Ls.nil ?_
      refine Cd.seq ?_
      refine Cd.region ?_
      refine Ls.ev (some 51) (Ev.loads 0 (show Oper.op _ = Op.load 41 (Operand.tmp 3) from rfl) (by rfl) (by rfl) (n := 2) (by kernel_rfl) (by rfl) (by rfl)) (by rfl) (by rfl) ?_
      refine Ls.ev (some 52) (Ev.move (show Oper.op _ = Op.move (Operand.tmp 5) from rfl) (by rfl)) (by rfl) (by rfl) ?_
      refine Ls.does (some 53) (Does.read (show Oper.op _ = Op.call { callee := Callee.value (Operand.func 59), args := #[Operand.tmp 51, Operand.tmp 52], argTypes := #[41, 3] } from rfl) Try.func59 (by kernel_rfl) (by kernel_rfl) (hay1) (by rfl) (by rfl) ⟨ReadsIn.rd 3 (by rfl), trivial⟩) (by rfl) (by rfl) ?_
      rintro _ -
      refine Ls.ev (some 50) (Ev.move (show Oper.op _ = Op.move (Operand.tmp 53) from rfl) (by rfl)) (by rfl) (by rfl) ?_
      refine Ls.ev (some 54) (Ev.extract (show Oper.op _ = Op.extract (Operand.tmp 50) 0 from rfl) (by rfl) (by rfl)) (by rfl) (by rfl) ?_
      refine Ls.ev (some 55) (Ev.extract (show Oper.op _ = Op.extract (Operand.tmp 50) 1 from rfl) (by rfl) (by rfl)) (by rfl) (by rfl) ?_
      refine Ls.ev (some 8) (Ev.assign (show Oper.op _ = Op.assign (Operand.tmp 54) from rfl) (by rfl)) (by rfl) (by rfl) ?_
      refine Ls.ev (some 9) (Ev.assign (show Oper.op _ = Op.assign (Operand.tmp 55) from rfl) (by rfl)) (by rfl) (by rfl) ?_
      refine Ls.nil ?_
      refine Cd.seq ?_
      refine Cd.seq ?_
      refine Cd.region ?_
      refine Ls.ev (some 56) (Ev.move (show Oper.op _ = Op.move (Operand.tmp 6) from rfl) (by rfl)) (by rfl) (by rfl) ?_
      refine Ls.ev (some 57) (Ev.move (show Oper.op _ = Op.move (Operand.tmp 8) from rfl) (by rfl)) (by rfl) (by rfl) ?_
      refine Ls.ev (some 58) (Ev.eql (show Oper.op _ = Op.binOp BinOp.eql 3 (Operand.tmp 56) (Operand.tmp 57) 3 from rfl) (by rfl) (by rfl)) (by rfl) (by rfl) ?_
      refine Ls.nil ?_
      refine Cd.cond _ (by rfl) (fun h3 => ?_) (fun h3 => ?_)
      · skip
        rw [hM, h3]
        refine Cd.seq ?_
        refine Cd.region ?_
        refine Ls.ev (some 4) (Ev.assign (show Oper.op _ = Op.assign (Operand.const (Value.bool true)) from rfl) (by rfl)) (by rfl) (by rfl) ?_
        refine Ls.nil ?_
        refine Cd.ret ?_
        refine Ent.ret (()) (trivial) (Res.tmp (by rfl) (by rfl)) ?_ [] (by rfl) ?_
        · rfl
        · rfl
      · skip
        rw [h3, Bool.false_or] at hM
        have h3 := of_decide_eq_false h3
        refine Cd.skip ?_
        refine Cd.seq ?_
        refine Cd.region ?_
        refine Ls.ev (some 60) (Ev.loads 1 (show Oper.op _ = Op.load 41 (Operand.tmp 2) from rfl) (by rfl) (by rfl) (n := 2) (by kernel_rfl) (by rfl) (by rfl)) (by rfl) (by rfl) ?_
        refine Ls.ev (some 61) (Ev.move (show Oper.op _ = Op.move (Operand.tmp 5) from rfl) (by rfl)) (by rfl) (by rfl) ?_
        refine Ls.ev (some 62) (Ev.addI (show Oper.op _ = Op.binOp BinOp.add 3 (Operand.tmp 61) (Operand.const (Value.int IntKind.i64 1)) 3 from rfl) (by rfl) (by rfl) (by omega)) (by rfl) (by rfl) ?_
        refine Ls.does (some 63) (Does.read (show Oper.op _ = Op.call { callee := Callee.value (Operand.func 59), args := #[Operand.tmp 60, Operand.tmp 62], argTypes := #[41, 3] } from rfl) Try.func59 (by kernel_rfl) (by kernel_rfl) (hax2) (by rfl) (by rfl) ⟨ReadsIn.rd 2 (by rfl), trivial⟩) (by rfl) (by rfl) ?_
        rintro _ -
        refine Ls.ev (some 59) (Ev.move (show Oper.op _ = Op.move (Operand.tmp 63) from rfl) (by rfl)) (by rfl) (by rfl) ?_
        refine Ls.ev (some 64) (Ev.extract (show Oper.op _ = Op.extract (Operand.tmp 59) 0 from rfl) (by rfl) (by rfl)) (by rfl) (by rfl) ?_
        refine Ls.ev (some 65) (Ev.extract (show Oper.op _ = Op.extract (Operand.tmp 59) 1 from rfl) (by rfl) (by rfl)) (by rfl) (by rfl) ?_
        refine Ls.ev (some 10) (Ev.assign (show Oper.op _ = Op.assign (Operand.tmp 64) from rfl) (by rfl)) (by rfl) (by rfl) ?_
        refine Ls.ev (some 11) (Ev.assign (show Oper.op _ = Op.assign (Operand.tmp 65) from rfl) (by rfl)) (by rfl) (by rfl) ?_
        refine Ls.nil ?_
        refine Cd.seq ?_
        refine Cd.region ?_
        refine Ls.ev (some 67) (Ev.loads 0 (show Oper.op _ = Op.load 41 (Operand.tmp 3) from rfl) (by rfl) (by rfl) (n := 2) (by kernel_rfl) (by rfl) (by rfl)) (by rfl) (by rfl) ?_
        refine Ls.ev (some 68) (Ev.move (show Oper.op _ = Op.move (Operand.tmp 5) from rfl) (by rfl)) (by rfl) (by rfl) ?_
        refine Ls.ev (some 69) (Ev.addI (show Oper.op _ = Op.binOp BinOp.add 3 (Operand.tmp 68) (Operand.const (Value.int IntKind.i64 1)) 3 from rfl) (by rfl) (by rfl) (by omega)) (by rfl) (by rfl) ?_
        refine Ls.does (some 70) (Does.read (show Oper.op _ = Op.call { callee := Callee.value (Operand.func 59), args := #[Operand.tmp 67, Operand.tmp 69], argTypes := #[41, 3] } from rfl) Try.func59 (by kernel_rfl) (by kernel_rfl) (hay2) (by rfl) (by rfl) ⟨ReadsIn.rd 3 (by rfl), trivial⟩) (by rfl) (by rfl) ?_
        rintro _ -
        refine Ls.ev (some 66) (Ev.move (show Oper.op _ = Op.move (Operand.tmp 70) from rfl) (by rfl)) (by rfl) (by rfl) ?_
        refine Ls.ev (some 71) (Ev.extract (show Oper.op _ = Op.extract (Operand.tmp 66) 0 from rfl) (by rfl) (by rfl)) (by rfl) (by rfl) ?_
        refine Ls.ev (some 72) (Ev.extract (show Oper.op _ = Op.extract (Operand.tmp 66) 1 from rfl) (by rfl) (by rfl)) (by rfl) (by rfl) ?_
        refine Ls.ev (some 12) (Ev.assign (show Oper.op _ = Op.assign (Operand.tmp 71) from rfl) (by rfl)) (by rfl) (by rfl) ?_
        refine Ls.ev (some 13) (Ev.assign (show Oper.op _ = Op.assign (Operand.tmp 72) from rfl) (by rfl)) (by rfl) (by rfl) ?_
        refine Ls.nil ?_
        refine Cd.seq ?_
        refine Cd.cut (ι := Unit) (fun _ => [(2, .pointer (some ⟨g1, 0, none⟩)), (3, .pointer (some ⟨g2, 0, none⟩)), (5, .int .i64 t), (101, .bool (fu && fv && decide (pa ≠ pu) && (decide (pa = pv ∧ pb = pu) || decide (pa = pb ∧ pu = pv))))]) (fun _ => [blk g2 41 [.int .i64 s2, .slice D m.length d], blk g1 41 [.int .i64 s, .slice A l.length c], rd A l.length 1 (ints l), rd D m.length 1 (ints m)]) (fun _ => True) ?_ ?_
        · skip
          refine Cd.region ?_
          refine Ls.ev (some 73) (Ev.move (show Oper.op _ = Op.move (Operand.tmp 11) from rfl) (by rfl)) (by rfl) (by rfl) ?_
          refine Ls.ev (some 74) (Ev.move (show Oper.op _ = Op.move (Operand.tmp 73) from rfl) (by rfl)) (by rfl) (by rfl) ?_
          refine Ent.split 74 (by rfl) (fun hT1 => ?_) (fun hT1 => ?_)
          · first | have hT1 := of_decide_eq_false hT1 | have hT1 := of_not_decide_false hT1 | skip
            refine Ls.pass (some 75) (by rfl) (by rfl) ?_
            refine Ls.ev (some 76) (Ev.pickF (show Oper.op _ = Op.pick (Operand.tmp 74) (Operand.tmp 75) (Operand.const (Value.bool false)) from rfl) (by rfl) (by rfl)) (by rfl) (by rfl) ?_
            refine Ls.ev (some 77) (Ev.move (show Oper.op _ = Op.move (Operand.tmp 76) from rfl) (by rfl)) (by rfl) (by rfl) ?_
            refine Ls.pass (some 78) (by rfl) (by rfl) ?_
            refine Ls.pass (some 79) (by rfl) (by rfl) ?_
            refine Ls.pass (some 80) (by rfl) (by rfl) ?_
            refine Ls.ev (some 81) (Ev.pickF (show Oper.op _ = Op.pick (Operand.tmp 77) (Operand.tmp 80) (Operand.const (Value.bool false)) from rfl) (by rfl) (by rfl)) (by rfl) (by rfl) ?_
            refine Ls.ev (some 82) (Ev.move (show Oper.op _ = Op.move (Operand.tmp 81) from rfl) (by rfl)) (by rfl) (by rfl) ?_
            refine Ls.pass (some 83) (by rfl) (by rfl) ?_
            refine Ls.pass (some 84) (by rfl) (by rfl) ?_
            refine Ls.pass (some 85) (by rfl) (by rfl) ?_
            refine Ls.pass (some 86) (by rfl) (by rfl) ?_
            refine Ls.pass (some 87) (by rfl) (by rfl) ?_
            refine Ls.pass (some 88) (by rfl) (by rfl) ?_
            refine Ls.pass (some 89) (by rfl) (by rfl) ?_
            refine Ls.pass (some 90) (by rfl) (by rfl) ?_
            refine Ls.pass (some 91) (by rfl) (by rfl) ?_
            refine Ls.pass (some 92) (by rfl) (by rfl) ?_
            refine Ls.pass (some 93) (by rfl) (by rfl) ?_
            refine Ls.pass (some 94) (by rfl) (by rfl) ?_
            refine Ls.pass (some 95) (by rfl) (by rfl) ?_
            refine Ls.pass (some 96) (by rfl) (by rfl) ?_
            refine Ls.pass (some 97) (by rfl) (by rfl) ?_
            refine Ls.pass (some 98) (by rfl) (by rfl) ?_
            refine Ls.pass (some 99) (by rfl) (by rfl) ?_
            refine Ls.pass (some 100) (by rfl) (by rfl) ?_
            refine Ls.ev (some 101) (Ev.pickF (show Oper.op _ = Op.pick (Operand.tmp 82) (Operand.tmp 100) (Operand.const (Value.bool false)) from rfl) (by rfl) (by rfl)) (by rfl) (by rfl) ?_
            refine Ls.nil ?_
            refine Ent.pick [0, 1, 2, 3] (by rfl) ?_
            refine Ent.inv () ?_ ?_ ?_
            · exact trivial
            · (repeat (first | exact trivial | refine ⟨by rfl, ?_⟩ | refine ⟨by simp only [List.length_append, List.length_cons, List.length_nil]; rfl, ?_⟩ | refine ⟨by push_cast; rfl, ?_⟩ | refine ⟨by (show some (Value.bool _) = some (Value.bool _); congr 2; (clear hM hgo; simp_all)), ?_⟩))
            · rfl
          · first | have hT1 := of_decide_eq_true hT1 | have hT1 := of_not_decide_true hT1 | skip
            refine Ls.ev (some 75) (Ev.move (show Oper.op _ = Op.move (Operand.tmp 13) from rfl) (by rfl)) (by rfl) (by rfl) ?_
            refine Ls.ev (some 76) (Ev.pickT (show Oper.op _ = Op.pick (Operand.tmp 74) (Operand.tmp 75) (Operand.const (Value.bool false)) from rfl) (by rfl) (by rfl)) (by rfl) (by rfl) ?_
            refine Ls.ev (some 77) (Ev.move (show Oper.op _ = Op.move (Operand.tmp 76) from rfl) (by rfl)) (by rfl) (by rfl) ?_
            refine Ent.split 77 (by rfl) (fun hT2 => ?_) (fun hT2 => ?_)
            · first | have hT2 := of_decide_eq_false hT2 | have hT2 := of_not_decide_false hT2 | skip
              refine Ls.pass (some 78) (by rfl) (by rfl) ?_
              refine Ls.pass (some 79) (by rfl) (by rfl) ?_
              refine Ls.pass (some 80) (by rfl) (by rfl) ?_
              refine Ls.ev (some 81) (Ev.pickF (show Oper.op _ = Op.pick (Operand.tmp 77) (Operand.tmp 80) (Operand.const (Value.bool false)) from rfl) (by rfl) (by rfl)) (by rfl) (by rfl) ?_
              refine Ls.ev (some 82) (Ev.move (show Oper.op _ = Op.move (Operand.tmp 81) from rfl) (by rfl)) (by rfl) (by rfl) ?_
              refine Ls.pass (some 83) (by rfl) (by rfl) ?_
              refine Ls.pass (some 84) (by rfl) (by rfl) ?_
              refine Ls.pass (some 85) (by rfl) (by rfl) ?_
              refine Ls.pass (some 86) (by rfl) (by rfl) ?_
              refine Ls.pass (some 87) (by rfl) (by rfl) ?_
              refine Ls.pass (some 88) (by rfl) (by rfl) ?_
              refine Ls.pass (some 89) (by rfl) (by rfl) ?_
              refine Ls.pass (some 90) (by rfl) (by rfl) ?_
              refine Ls.pass (some 91) (by rfl) (by rfl) ?_
              refine Ls.pass (some 92) (by rfl) (by rfl) ?_
              refine Ls.pass (some 93) (by rfl) (by rfl) ?_
              refine Ls.pass (some 94) (by rfl) (by rfl) ?_
              refine Ls.pass (some 95) (by rfl) (by rfl) ?_
              refine Ls.pass (some 96) (by rfl) (by rfl) ?_
              refine Ls.pass (some 97) (by rfl) (by rfl) ?_
              refine Ls.pass (some 98) (by rfl) (by rfl) ?_
              refine Ls.pass (some 99) (by rfl) (by rfl) ?_
              refine Ls.pass (some 100) (by rfl) (by rfl) ?_
              refine Ls.ev (some 101) (Ev.pickF (show Oper.op _ = Op.pick (Operand.tmp 82) (Operand.tmp 100) (Operand.const (Value.bool false)) from rfl) (by rfl) (by rfl)) (by rfl) (by rfl) ?_
              refine Ls.nil ?_
              refine Ent.pick [0, 1, 2, 3] (by rfl) ?_
              refine Ent.inv () ?_ ?_ ?_
              · exact trivial
              · (repeat (first | exact trivial | refine ⟨by rfl, ?_⟩ | refine ⟨by simp only [List.length_append, List.length_cons, List.length_nil]; rfl, ?_⟩ | refine ⟨by push_cast; rfl, ?_⟩ | refine ⟨by (show some (Value.bool _) = some (Value.bool _); congr 2; (clear hM hgo; simp_all)), ?_⟩))
              · rfl
            · first | have hT2 := of_decide_eq_true hT2 | have hT2 := of_not_decide_true hT2 | skip
              refine Ls.ev (some 78) (Ev.move (show Oper.op _ = Op.move (Operand.tmp 6) from rfl) (by rfl)) (by rfl) (by rfl) ?_
              refine Ls.ev (some 79) (Ev.move (show Oper.op _ = Op.move (Operand.tmp 10) from rfl) (by rfl)) (by rfl) (by rfl) ?_
              refine Ls.ev (some 80) (Ev.neq (show Oper.op _ = Op.binOp BinOp.neq 3 (Operand.tmp 78) (Operand.tmp 79) 3 from rfl) (by rfl) (by rfl)) (by rfl) (by rfl) ?_
              refine Ls.ev (some 81) (Ev.pickT (show Oper.op _ = Op.pick (Operand.tmp 77) (Operand.tmp 80) (Operand.const (Value.bool false)) from rfl) (by rfl) (by rfl)) (by rfl) (by rfl) ?_
              refine Ls.ev (some 82) (Ev.move (show Oper.op _ = Op.move (Operand.tmp 81) from rfl) (by rfl)) (by rfl) (by rfl) ?_
              refine Ent.split 82 (by rfl) (fun hT3 => ?_) (fun hT3 => ?_)
              · first | have hT3 := of_decide_eq_false hT3 | have hT3 := of_not_decide_false hT3 | skip
                refine Ls.pass (some 83) (by rfl) (by rfl) ?_
                refine Ls.pass (some 84) (by rfl) (by rfl) ?_
                refine Ls.pass (some 85) (by rfl) (by rfl) ?_
                refine Ls.pass (some 86) (by rfl) (by rfl) ?_
                refine Ls.pass (some 87) (by rfl) (by rfl) ?_
                refine Ls.pass (some 88) (by rfl) (by rfl) ?_
                refine Ls.pass (some 89) (by rfl) (by rfl) ?_
                refine Ls.pass (some 90) (by rfl) (by rfl) ?_
                refine Ls.pass (some 91) (by rfl) (by rfl) ?_
                refine Ls.pass (some 92) (by rfl) (by rfl) ?_
                refine Ls.pass (some 93) (by rfl) (by rfl) ?_
                refine Ls.pass (some 94) (by rfl) (by rfl) ?_
                refine Ls.pass (some 95) (by rfl) (by rfl) ?_
                refine Ls.pass (some 96) (by rfl) (by rfl) ?_
                refine Ls.pass (some 97) (by rfl) (by rfl) ?_
                refine Ls.pass (some 98) (by rfl) (by rfl) ?_
                refine Ls.pass (some 99) (by rfl) (by rfl) ?_
                refine Ls.pass (some 100) (by rfl) (by rfl) ?_
                refine Ls.ev (some 101) (Ev.pickF (show Oper.op _ = Op.pick (Operand.tmp 82) (Operand.tmp 100) (Operand.const (Value.bool false)) from rfl) (by rfl) (by rfl)) (by rfl) (by rfl) ?_
                refine Ls.nil ?_
                refine Ent.pick [0, 1, 2, 3] (by rfl) ?_
                refine Ent.inv () ?_ ?_ ?_
                · exact trivial
                · (repeat (first | exact trivial | refine ⟨by rfl, ?_⟩ | refine ⟨by simp only [List.length_append, List.length_cons, List.length_nil]; rfl, ?_⟩ | refine ⟨by push_cast; rfl, ?_⟩ | refine ⟨by (show some (Value.bool _) = some (Value.bool _); congr 2; (clear hM hgo; simp_all)), ?_⟩))
                · rfl
              · first | have hT3 := of_decide_eq_true hT3 | have hT3 := of_not_decide_true hT3 | skip
                refine Ls.ev (some 83) (Ev.move (show Oper.op _ = Op.move (Operand.tmp 6) from rfl) (by rfl)) (by rfl) (by rfl) ?_
                refine Ls.ev (some 84) (Ev.move (show Oper.op _ = Op.move (Operand.tmp 12) from rfl) (by rfl)) (by rfl) (by rfl) ?_
                refine Ls.ev (some 85) (Ev.eql (show Oper.op _ = Op.binOp BinOp.eql 3 (Operand.tmp 83) (Operand.tmp 84) 3 from rfl) (by rfl) (by rfl)) (by rfl) (by rfl) ?_
                refine Ls.ev (some 86) (Ev.move (show Oper.op _ = Op.move (Operand.tmp 85) from rfl) (by rfl)) (by rfl) (by rfl) ?_
                refine Ent.split 86 (by rfl) (fun hT4 => ?_) (fun hT4 => ?_)
                · first | have hT4 := of_decide_eq_false hT4 | have hT4 := of_not_decide_false hT4 | skip
                  refine Ls.pass (some 87) (by rfl) (by rfl) ?_
                  refine Ls.pass (some 88) (by rfl) (by rfl) ?_
                  refine Ls.pass (some 89) (by rfl) (by rfl) ?_
                  refine Ls.ev (some 90) (Ev.pickF (show Oper.op _ = Op.pick (Operand.tmp 86) (Operand.tmp 89) (Operand.const (Value.bool false)) from rfl) (by rfl) (by rfl)) (by rfl) (by rfl) ?_
                  refine Ls.ev (some 91) (Ev.move (show Oper.op _ = Op.move (Operand.tmp 90) from rfl) (by rfl)) (by rfl) (by rfl) ?_
                  refine Ls.ev (some 92) (Ev.move (show Oper.op _ = Op.move (Operand.tmp 6) from rfl) (by rfl)) (by rfl) (by rfl) ?_
                  refine Ls.ev (some 93) (Ev.move (show Oper.op _ = Op.move (Operand.tmp 8) from rfl) (by rfl)) (by rfl) (by rfl) ?_
                  refine Ls.ev (some 94) (Ev.eql (show Oper.op _ = Op.binOp BinOp.eql 3 (Operand.tmp 92) (Operand.tmp 93) 3 from rfl) (by rfl) (by rfl)) (by rfl) (by rfl) ?_
                  refine Ls.ev (some 95) (Ev.move (show Oper.op _ = Op.move (Operand.tmp 94) from rfl) (by rfl)) (by rfl) (by rfl) ?_
                  refine Ent.split 95 (by rfl) (fun hT5 => ?_) (fun hT5 => ?_)
                  · first | have hT5 := of_decide_eq_false hT5 | have hT5 := of_not_decide_false hT5 | skip
                    refine Ls.pass (some 96) (by rfl) (by rfl) ?_
                    refine Ls.pass (some 97) (by rfl) (by rfl) ?_
                    refine Ls.pass (some 98) (by rfl) (by rfl) ?_
                    refine Ls.ev (some 99) (Ev.pickF (show Oper.op _ = Op.pick (Operand.tmp 95) (Operand.tmp 98) (Operand.const (Value.bool false)) from rfl) (by rfl) (by rfl)) (by rfl) (by rfl) ?_
                    refine Ls.ev (some 100) (Ev.pickF (show Oper.op _ = Op.pick (Operand.tmp 91) (Operand.const (Value.bool true)) (Operand.tmp 99) from rfl) (by rfl) (by rfl)) (by rfl) (by rfl) ?_
                    refine Ls.ev (some 101) (Ev.pickT (show Oper.op _ = Op.pick (Operand.tmp 82) (Operand.tmp 100) (Operand.const (Value.bool false)) from rfl) (by rfl) (by rfl)) (by rfl) (by rfl) ?_
                    refine Ls.nil ?_
                    refine Ent.pick [0, 1, 2, 3] (by rfl) ?_
                    refine Ent.inv () ?_ ?_ ?_
                    · exact trivial
                    · (repeat (first | exact trivial | refine ⟨by rfl, ?_⟩ | refine ⟨by simp only [List.length_append, List.length_cons, List.length_nil]; rfl, ?_⟩ | refine ⟨by push_cast; rfl, ?_⟩ | refine ⟨by (show some (Value.bool _) = some (Value.bool _); congr 2; (clear hM hgo; simp_all)), ?_⟩))
                    · rfl
                  · first | have hT5 := of_decide_eq_true hT5 | have hT5 := of_not_decide_true hT5 | skip
                    refine Ls.ev (some 96) (Ev.move (show Oper.op _ = Op.move (Operand.tmp 10) from rfl) (by rfl)) (by rfl) (by rfl) ?_
                    refine Ls.ev (some 97) (Ev.move (show Oper.op _ = Op.move (Operand.tmp 12) from rfl) (by rfl)) (by rfl) (by rfl) ?_
                    refine Ls.ev (some 98) (Ev.eql (show Oper.op _ = Op.binOp BinOp.eql 3 (Operand.tmp 96) (Operand.tmp 97) 3 from rfl) (by rfl) (by rfl)) (by rfl) (by rfl) ?_
                    refine Ls.ev (some 99) (Ev.pickT (show Oper.op _ = Op.pick (Operand.tmp 95) (Operand.tmp 98) (Operand.const (Value.bool false)) from rfl) (by rfl) (by rfl)) (by rfl) (by rfl) ?_
                    refine Ls.ev (some 100) (Ev.pickF (show Oper.op _ = Op.pick (Operand.tmp 91) (Operand.const (Value.bool true)) (Operand.tmp 99) from rfl) (by rfl) (by rfl)) (by rfl) (by rfl) ?_
                    refine Ls.ev (some 101) (Ev.pickT (show Oper.op _ = Op.pick (Operand.tmp 82) (Operand.tmp 100) (Operand.const (Value.bool false)) from rfl) (by rfl) (by rfl)) (by rfl) (by rfl) ?_
                    refine Ls.nil ?_
                    refine Ent.pick [0, 1, 2, 3] (by rfl) ?_
                    refine Ent.inv () ?_ ?_ ?_
                    · exact trivial
                    · (repeat (first | exact trivial | refine ⟨by rfl, ?_⟩ | refine ⟨by simp only [List.length_append, List.length_cons, List.length_nil]; rfl, ?_⟩ | refine ⟨by push_cast; rfl, ?_⟩ | refine ⟨by (show some (Value.bool _) = some (Value.bool _); congr 2; (clear hM hgo; simp_all)), ?_⟩))
                    · rfl
                · first | have hT4 := of_decide_eq_true hT4 | have hT4 := of_not_decide_true hT4 | skip
                  refine Ls.ev (some 87) (Ev.move (show Oper.op _ = Op.move (Operand.tmp 8) from rfl) (by rfl)) (by rfl) (by rfl) ?_
                  refine Ls.ev (some 88) (Ev.move (show Oper.op _ = Op.move (Operand.tmp 10) from rfl) (by rfl)) (by rfl) (by rfl) ?_
                  refine Ls.ev (some 89) (Ev.eql (show Oper.op _ = Op.binOp BinOp.eql 3 (Operand.tmp 87) (Operand.tmp 88) 3 from rfl) (by rfl) (by rfl)) (by rfl) (by rfl) ?_
                  refine Ls.ev (some 90) (Ev.pickT (show Oper.op _ = Op.pick (Operand.tmp 86) (Operand.tmp 89) (Operand.const (Value.bool false)) from rfl) (by rfl) (by rfl)) (by rfl) (by rfl) ?_
                  refine Ls.ev (some 91) (Ev.move (show Oper.op _ = Op.move (Operand.tmp 90) from rfl) (by rfl)) (by rfl) (by rfl) ?_
                  refine Ent.split 91 (by rfl) (fun hT5 => ?_) (fun hT5 => ?_)
                  · first | have hT5 := of_decide_eq_false hT5 | have hT5 := of_not_decide_false hT5 | skip
                    refine Ls.ev (some 92) (Ev.move (show Oper.op _ = Op.move (Operand.tmp 6) from rfl) (by rfl)) (by rfl) (by rfl) ?_
                    refine Ls.ev (some 93) (Ev.move (show Oper.op _ = Op.move (Operand.tmp 8) from rfl) (by rfl)) (by rfl) (by rfl) ?_
                    refine Ls.ev (some 94) (Ev.eql (show Oper.op _ = Op.binOp BinOp.eql 3 (Operand.tmp 92) (Operand.tmp 93) 3 from rfl) (by rfl) (by rfl)) (by rfl) (by rfl) ?_
                    refine Ls.ev (some 95) (Ev.move (show Oper.op _ = Op.move (Operand.tmp 94) from rfl) (by rfl)) (by rfl) (by rfl) ?_
                    refine Ent.split 95 (by rfl) (fun hT6 => ?_) (fun hT6 => ?_)
                    · first | have hT6 := of_decide_eq_false hT6 | have hT6 := of_not_decide_false hT6 | skip
                      refine Ls.pass (some 96) (by rfl) (by rfl) ?_
                      refine Ls.pass (some 97) (by rfl) (by rfl) ?_
                      refine Ls.pass (some 98) (by rfl) (by rfl) ?_
                      refine Ls.ev (some 99) (Ev.pickF (show Oper.op _ = Op.pick (Operand.tmp 95) (Operand.tmp 98) (Operand.const (Value.bool false)) from rfl) (by rfl) (by rfl)) (by rfl) (by rfl) ?_
                      refine Ls.ev (some 100) (Ev.pickF (show Oper.op _ = Op.pick (Operand.tmp 91) (Operand.const (Value.bool true)) (Operand.tmp 99) from rfl) (by rfl) (by rfl)) (by rfl) (by rfl) ?_
                      refine Ls.ev (some 101) (Ev.pickT (show Oper.op _ = Op.pick (Operand.tmp 82) (Operand.tmp 100) (Operand.const (Value.bool false)) from rfl) (by rfl) (by rfl)) (by rfl) (by rfl) ?_
                      refine Ls.nil ?_
                      refine Ent.pick [0, 1, 2, 3] (by rfl) ?_
                      refine Ent.inv () ?_ ?_ ?_
                      · exact trivial
                      · (repeat (first | exact trivial | refine ⟨by rfl, ?_⟩ | refine ⟨by simp only [List.length_append, List.length_cons, List.length_nil]; rfl, ?_⟩ | refine ⟨by push_cast; rfl, ?_⟩ | refine ⟨by (show some (Value.bool _) = some (Value.bool _); congr 2; (clear hM hgo; simp_all)), ?_⟩))
                      · rfl
                    · first | have hT6 := of_decide_eq_true hT6 | have hT6 := of_not_decide_true hT6 | skip
                      refine Ls.ev (some 96) (Ev.move (show Oper.op _ = Op.move (Operand.tmp 10) from rfl) (by rfl)) (by rfl) (by rfl) ?_
                      refine Ls.ev (some 97) (Ev.move (show Oper.op _ = Op.move (Operand.tmp 12) from rfl) (by rfl)) (by rfl) (by rfl) ?_
                      refine Ls.ev (some 98) (Ev.eql (show Oper.op _ = Op.binOp BinOp.eql 3 (Operand.tmp 96) (Operand.tmp 97) 3 from rfl) (by rfl) (by rfl)) (by rfl) (by rfl) ?_
                      refine Ls.ev (some 99) (Ev.pickT (show Oper.op _ = Op.pick (Operand.tmp 95) (Operand.tmp 98) (Operand.const (Value.bool false)) from rfl) (by rfl) (by rfl)) (by rfl) (by rfl) ?_
                      refine Ls.ev (some 100) (Ev.pickF (show Oper.op _ = Op.pick (Operand.tmp 91) (Operand.const (Value.bool true)) (Operand.tmp 99) from rfl) (by rfl) (by rfl)) (by rfl) (by rfl) ?_
                      refine Ls.ev (some 101) (Ev.pickT (show Oper.op _ = Op.pick (Operand.tmp 82) (Operand.tmp 100) (Operand.const (Value.bool false)) from rfl) (by rfl) (by rfl)) (by rfl) (by rfl) ?_
                      refine Ls.nil ?_
                      refine Ent.pick [0, 1, 2, 3] (by rfl) ?_
                      refine Ent.inv () ?_ ?_ ?_
                      · exact trivial
                      · (repeat (first | exact trivial | refine ⟨by rfl, ?_⟩ | refine ⟨by simp only [List.length_append, List.length_cons, List.length_nil]; rfl, ?_⟩ | refine ⟨by push_cast; rfl, ?_⟩ | refine ⟨by (show some (Value.bool _) = some (Value.bool _); congr 2; (clear hM hgo; simp_all)), ?_⟩))
                      · rfl
                  · first | have hT5 := of_decide_eq_true hT5 | have hT5 := of_not_decide_true hT5 | skip
                    refine Ls.pass (some 92) (by rfl) (by rfl) ?_
                    refine Ls.pass (some 93) (by rfl) (by rfl) ?_
                    refine Ls.pass (some 94) (by rfl) (by rfl) ?_
                    refine Ls.pass (some 95) (by rfl) (by rfl) ?_
                    refine Ls.pass (some 96) (by rfl) (by rfl) ?_
                    refine Ls.pass (some 97) (by rfl) (by rfl) ?_
                    refine Ls.pass (some 98) (by rfl) (by rfl) ?_
                    refine Ls.pass (some 99) (by rfl) (by rfl) ?_
                    refine Ls.ev (some 100) (Ev.pickT (show Oper.op _ = Op.pick (Operand.tmp 91) (Operand.const (Value.bool true)) (Operand.tmp 99) from rfl) (by rfl) (by rfl)) (by rfl) (by rfl) ?_
                    refine Ls.ev (some 101) (Ev.pickT (show Oper.op _ = Op.pick (Operand.tmp 82) (Operand.tmp 100) (Operand.const (Value.bool false)) from rfl) (by rfl) (by rfl)) (by rfl) (by rfl) ?_
                    refine Ls.nil ?_
                    refine Ent.pick [0, 1, 2, 3] (by rfl) ?_
                    refine Ent.inv () ?_ ?_ ?_
                    · exact trivial
                    · (repeat (first | exact trivial | refine ⟨by rfl, ?_⟩ | refine ⟨by simp only [List.length_append, List.length_cons, List.length_nil]; rfl, ?_⟩ | refine ⟨by push_cast; rfl, ?_⟩ | refine ⟨by (show some (Value.bool _) = some (Value.bool _); congr 2; (clear hM hgo; simp_all)), ?_⟩))
                    · rfl
        skip
        rintro _ -
        refine Cd.cond _ (by rfl) (fun h4 => ?_) (fun h4 => ?_)
        · skip
          rw [hM, h4]
          refine Cd.seq ?_
          refine Cd.region ?_
          refine Ls.ev (some 4) (Ev.assign (show Oper.op _ = Op.assign (Operand.const (Value.bool true)) from rfl) (by rfl)) (by rfl) (by rfl) ?_
          refine Ls.nil ?_
          refine Cd.ret ?_
          refine Ent.ret (()) (trivial) (Res.tmp (by rfl) (by rfl)) ?_ [] (by rfl) ?_
          · rfl
          · rfl
        · skip
          rw [hM, h4, Bool.false_or]
          refine Cd.skip ?_
          refine Cd.region ?_
          refine Ls.ev (some 42) (Ev.move (show Oper.op _ = Op.move (Operand.tmp 5) from rfl) (by rfl)) (by rfl) (by rfl) ?_
          refine Ls.ev (some 43) (Ev.addI (show Oper.op _ = Op.binOp BinOp.add 3 (Operand.tmp 42) (Operand.const (Value.int IntKind.i64 1)) 3 from rfl) (by rfl) (by rfl) (by omega)) (by rfl) (by rfl) ?_
          refine Ls.ev (some 5) (Ev.assign (show Oper.op _ = Op.assign (Operand.tmp 43) from rfl) (by rfl)) (by rfl) (by rfl) ?_
          refine Ls.nil ?_
          refine Ent.inv (k + 1) ?_ ?_ ?_
          · (try dsimp only); exact ⟨⟨by omega, by rw [Nat.sub_sub, show t + 1 = lo + ((k + 1 : Nat) : Int) by omega]⟩, by omega⟩
          · (repeat (first | exact trivial | refine ⟨by rfl, ?_⟩ | refine ⟨by simp only [List.length_append, List.length_cons, List.length_nil]; rfl, ?_⟩ | refine ⟨by push_cast; rfl, ?_⟩ | refine ⟨by (show some (Value.int _ _) = some (Value.int _ _); congr 2; omega), ?_⟩))
          · rfl
    · skip
      have h2 := of_decide_eq_false h2
      rw [show (hi - lo).toNat - k = 0 by omega]
      refine Cd.exit ?_
      refine Cd.seq ?_
      refine Cd.region ?_
      refine Ls.ev (some 4) (Ev.assign (show Oper.op _ = Op.assign (Operand.const (Value.bool false)) from rfl) (by rfl)) (by rfl) (by rfl) ?_
      refine Ls.nil ?_
      refine Cd.ret ?_
      refine Ent.ret (()) (trivial) (Res.tmp (by rfl) (by rfl)) ?_ [] (by rfl) ?_
      · rfl
      · rfl
end Go.Proofs.Ytegjoabfoddadaa
/- slices.Sort, Compact, Contains of ints, over pieces -/
namespace Go.Proofs.Ytegjoabfoddadaa
open Go.RowKit
/-- A slice's cells turned, at whatever draws and beside new blocks. -/
theorem turn_row {w : World} {g c e : Nat} {l : List Int} (ho : Own w 0 e 1 (some ⟨g, 0, none⟩) l.length c (ints l)) (arr : Array Int) (ha : arr.size = l.length) (k : Nat) (os : Array Obj) :
    Own (Go.Sort.grow (Go.Sort.putRow (Value.int .i64) (Go.Sort.ahead w k) g 0 arr) os) 0 e 1 (some ⟨g, 0, none⟩) l.length c (ints arr.toList) ∧ Upd (fun i => i = g) w (Go.Sort.grow (Go.Sort.putRow (Value.int .i64) (Go.Sort.ahead w k) g 0 arr) os) := by
  rcases ho.form with ⟨h, _⟩ | ⟨g', cur, h1, _, hb, hn, hc, hs, hx⟩
  · cases h
  · obtain rfl : g = g' := by simpa using h1
    have hlt := hb.lt
    have hblk : (Go.Sort.grow (Go.Sort.putRow (Value.int .i64) (Go.Sort.ahead w k) g 0 arr) os).heap[g]? = some (.cells (Go.Sort.putCells (Value.int .i64) 0 arr cur) e (0, 0)) := by
      have hb' : w.heap[g]? = some (.cells cur e (0, 0)) := hb
      simp only [Go.Sort.grow, Go.Sort.putRow, Go.Sort.mapBlock, Go.Sort.ahead]
      rw [Array.getElem?_append_left (by simpa using hlt), Array.getElem?_modify, if_pos rfl, hb']
      rfl
    have hsz : (Go.Sort.putCells (Value.int .i64) 0 arr cur).size = c * 1 := by rw [← hs]; simp [Go.Sort.putCells]
    have := Own.of_blk (e := e) (base := 0) (size := 1) (n := l.length) hblk (Nat.zero_le _) hn hc hsz
    have hx2 : (Go.Sort.putCells (Value.int .i64) 0 arr cur).toList.take (l.length * 1) = ints arr.toList := by
      refine List.ext_getElem? fun i => ?_
      rw [Nat.mul_one, List.getElem?_take, ints_get, Array.getElem?_toList, Array.getElem?_toList]
      by_cases hi : i < l.length
      · rw [if_pos hi]
        have hic : i < cur.size := by rw [hs]; omega
        have e1 : (Go.Sort.putCells (Value.int .i64) 0 arr cur)[i]? = some (.int .i64 arr[i]!) := by
          simp only [Go.Sort.putCells, Array.getElem?_mapIdx]
          rw [Array.getElem?_eq_getElem hic]
          simp [ha, hi]
        rw [e1, Array.getElem?_eq_getElem (by omega), getElem!_pos arr i (by omega)]
        rfl
      · rw [if_neg hi, Array.getElem?_eq_none (by omega)]
        rfl
    rw [hx2] at this
    refine ⟨this, rfl, rfl, rfl, by simp [Go.Sort.grow, Go.Sort.putRow, Go.Sort.mapBlock, Go.Sort.ahead], fun i hi hn => ?_⟩
    simp only [Go.Sort.grow, Go.Sort.putRow, Go.Sort.mapBlock, Go.Sort.ahead]
    rw [Array.getElem?_append_left (by simpa using hi), Array.getElem?_modify, if_neg (fun e => hn e.symm)]
theorem holds_row {w : World} {g c e : Nat} {l : List Int} (ho : Own w 0 e 1 (some ⟨g, 0, none⟩) l.length c (ints l)) : Go.Sort.Holds (Value.int .i64) w g 0 l.toArray := fun j hj => by
  have hj : j < l.length := by simpa using hj
  refine ⟨?_, ?_⟩
  · rw [Nat.zero_add]
    refine ho.cell rfl ?_
    rw [ints_get, List.getElem?_eq_getElem hj]
    simp [hj]
  · rw [Nat.zero_add]
    exact ho.frozen rfl j
def sortI (l : List Int) : List Int := l.mergeSort fun x y => decide (x ≤ y)
theorem sortI_mem {l : List Int} {x : Int} : x ∈ sortI l ↔ x ∈ l := (List.mergeSort_perm l _).mem_iff
theorem sortI_len (l : List Int) : (sortI l).length = l.length := List.length_mergeSort _
theorem fn_of_own {f : FuncId} {args : Array Value} {A : Option Addr} {n c e sz : Nat} {xs : List Value} {n' : Nat} {xs' : List Value} {v : Value}
    (h : ∀ w, Own w 0 e sz A n c xs → Calls Try.prog f args w fun en w' => en = .returned v ∧ Own w' 0 e sz A n' c xs' ∧ Upd (fun i => blockOf A = some i) w w') :
    Fn Try.prog f args [row A n c e sz xs] Unit (fun _ => v) (fun _ => [row A n' c e sz xs']) (fun _ => True) := fun w hs =>
  (h w (hs.1 _ List.mem_cons_self)).mono fun en w' ⟨h1, h2, h3⟩ => ⟨(), trivial, h1, by
    have := (Sat.start hs).turn (C' := row A n' c e sz xs') (i := 0) rfl rfl h3 h2 (fun k hk => .inl hk)
    exact this⟩
theorem sort_sl (A : Option Addr) (c : Nat) (l : List Int) (hl : l.length ≤ 1048576) : Fn Try.prog 68 #[.slice A l.length c] [rowI A c l] Unit (fun _ => .tuple #[]) (fun _ => [row A l.length c 3 1 (ints (sortI l))]) (fun _ => True) :=
  fn_of_own fun w ho => by
    by_cases h0 : l = []
    · subst h0
      refine (Try.slices_Sort_int_none A c w).mono ?_
      rintro e w' ⟨rfl, rfl⟩
      exact ⟨rfl, by simpa [sortI] using ho, Upd.refl _ _⟩
    · obtain ⟨g, rfl, _, hg, _⟩ := ho.some_ (by rcases Nat.eq_zero_or_pos l.length with h | h; exact absurd (List.eq_nil_of_length_eq_zero h) h0; exact h)
      refine (Try.slices_Sort_int g 0 c l w (holds_row ho) hg (by omega)).mono ?_
      rintro e w' ⟨rfl, k, os, rfl⟩
      have := turn_row ho (sortI l).toArray (by simp [sortI_len]) k os
      refine ⟨rfl, by have h := this.1; rw [List.toList_toArray] at h; exact h, ?_⟩
      refine ⟨this.2.os, this.2.tape, this.2.output, this.2.size, fun i hi hn => this.2.block i hi (fun e => hn (by rw [e]; rfl))⟩
theorem grow_empty' (w : World) (k : Nat) (g : Nat) (arr : Array Int) : Go.Sort.putRow (Value.int .i64) (Go.Sort.ahead w k) g 0 arr = Go.Sort.grow (Go.Sort.putRow (Value.int .i64) (Go.Sort.ahead w k) g 0 arr) #[] := by simp
theorem compact_len (l : List Int) : (Lib.compact l).length ≤ l.length := by
  unfold Lib.compact Lib.compactUpTo
  rw [List.length_map]
  exact Nat.le_trans (List.length_filter_le _ _) (by rw [List.length_range]; exact Nat.le_refl _)
theorem compact_sl (A : Option Addr) (c : Nat) (l : List Int) (hl : l.length ≤ 1048576) : Fn Try.prog 69 #[.slice A l.length c] [rowI A c l] Unit (fun _ => .slice A (Lib.compact l).length c) (fun _ => [rowI A c (Lib.compact l)]) (fun _ => True) :=
  fn_of_own fun w ho => by
    by_cases h0 : l = []
    · subst h0
      refine (Try.slices_Compact_int_empty A c w).mono ?_
      rintro e w' ⟨rfl, rfl⟩
      exact ⟨rfl, ho, Upd.refl _ _⟩
    · obtain ⟨g, rfl, _, hg, hlc, _⟩ := ho.some_ (by rcases Nat.eq_zero_or_pos l.length with h | h; exact absurd (List.eq_nil_of_length_eq_zero h) h0; exact h)
      refine (Try.slices_Compact_int g 0 c l w (holds_row ho) (by omega) hlc).mono ?_
      rintro e w' ⟨rfl, k, rfl⟩
      rw [grow_empty']
      have hcl := compact_len l
      have := turn_row ho (Lib.compact l ++ List.replicate (l.length - (Lib.compact l).length) 0).toArray (by simp; omega) k #[]
      refine ⟨rfl, ?_, ?_⟩
      · have h2 := this.1
        rcases h2.form with ⟨h, _⟩ | ⟨g', cur, h1, _, hb, hn, hc, hs, hx⟩
        · cases h
        · obtain rfl : g = g' := by simpa using h1
          have h3 := Own.of_blk (e := 3) (base := 0) (size := 1) (n := (Lib.compact l).length) hb (Nat.zero_le _) (by omega) hc hs
          have h4 : cur.toList.take ((Lib.compact l).length * 1) = ints (Lib.compact l) := by
            have := congrArg (List.take (Lib.compact l).length) hx
            rw [List.take_take, Nat.mul_one, Nat.min_eq_left hcl] at this
            rw [Nat.mul_one, this]
            simp [ints, List.take_append]
          rw [h4] at h3
          exact h3
      · exact ⟨this.2.os, this.2.tape, this.2.output, this.2.size, fun i hi hn => this.2.block i hi (fun e => hn (by rw [e]; rfl))⟩
theorem upto_mem (d : Array Int) (x : Int) : ∀ m, x ∈ Lib.compactUpTo d m ↔ ∃ j, j < m ∧ d[j]! = x
  | 0 => by simp [Lib.compactUpTo]
  | m + 1 => by
    rw [Lib.compactUpTo_succ, List.mem_append, upto_mem d x m]
    constructor
    · rintro (⟨j, hj, h⟩ | h)
      · exact ⟨j, by omega, h⟩
      · split at h
        · exact ⟨m, by omega, (List.mem_singleton.1 h).symm⟩
        · cases h
    · rintro ⟨j, hj, h⟩
      by_cases hm : j < m
      · exact .inl ⟨j, hm, h⟩
      · obtain rfl : j = m := by omega
        by_cases hk : Lib.keeps d j = true
        · exact .inr (by rw [if_pos hk, h]; exact List.mem_singleton.2 rfl)
        · have hk : ¬ (j = 0) ∧ d[j]! = d[j - 1]! := by
            unfold Lib.keeps at hk
            simpa using hk
          exact .inl ⟨j - 1, by omega, by rw [← hk.2, h]⟩
theorem compact_mem {l : List Int} {x : Int} : x ∈ Lib.compact l ↔ x ∈ l := by
  unfold Lib.compact
  rw [upto_mem]
  constructor
  · rintro ⟨j, hj, rfl⟩
    rw [getElem!_pos l.toArray j (by simpa using hj)]
    simp
  · intro h
    obtain ⟨j, hj, rfl⟩ := List.mem_iff_getElem.1 h
    exact ⟨j, hj, by rw [getElem!_pos l.toArray j (by simpa using hj)]; simp⟩
theorem index_sl (A : Option Addr) (c : Nat) (l : List Int) (x : Int) (hl : l.length ≤ 1048576) : Fn Try.prog 66 #[.slice A l.length c, .int .i64 x] [rdI A l] Int (fun i => .int .i64 i) (fun _ => []) (fun i => (0 ≤ i ↔ x ∈ l) ∧ -1 ≤ i ∧ i ≤ 1048576) := by
  refine Fn.enter Try.func66 rfl Try.ntmps66 (by rfl) ?_
  intro w0
  skip
  refine Cd.seq ?_
  refine Cd.region ?_
  refine Ls.ev (some 4) (Ev.assign (show Oper.op _ = Op.assign (Operand.const (Value.int IntKind.i64 0)) from rfl) (by rfl)) (by rfl) (by rfl) ?_
  refine Ls.nil ?_
  refine Cd.seq ?_
  refine Cd.seq ?_
  refine Cd.region ?_
  refine Ls.ev (some 6) (Ev.move (show Oper.op _ = Op.move (Operand.tmp 0) from rfl) (by rfl)) (by rfl) (by rfl) ?_
  refine Ls.ev (some 7) (Ev.len (show Oper.op _ = Op.call { callee := Callee.builtin Builtin.len, args := #[Operand.tmp 6], argTypes := #[22] } from rfl) (by rfl) Try.underlying22) (by rfl) (by rfl) ?_
  refine Ls.ev (some 8) (Ev.move (show Oper.op _ = Op.move (Operand.const (Value.int IntKind.i64 0)) from rfl) (by rfl)) (by rfl) (by rfl) ?_
  refine Ls.nil ?_
  refine Cd.block ?_
  refine Cd.loop (ι := Nat) (fun k => [(0, .slice A l.length c), (1, .int .i64 x), (7, .int .i64 l.length), (8, .int .i64 k)]) (fun _ => [rdI A l]) (fun k => k ≤ l.length ∧ x ∉ l.take k) (fun k => l.length - k) (0) (⟨Nat.zero_le _, by simp⟩) ?_ rfl ?_
  · (repeat (first | exact trivial | refine ⟨by rfl, ?_⟩))
  rintro k ⟨hk, hx⟩
  refine Cd.seq ?_
  refine Cd.region ?_
  refine Ls.ev (some 9) (Ev.lss (show Oper.op _ = Op.binOp BinOp.lss 3 (Operand.tmp 8) (Operand.tmp 7) 3 from rfl) (by rfl) (by rfl)) (by rfl) (by rfl) ?_
  refine Ls.nil ?_
  refine Cd.seq ?_
  refine Cd.cond _ (by rfl) (fun h => ?_) (fun h => ?_)
  · skip
    have hlt : k < l.length := by have := of_decide_eq_true h; omega
    obtain ⟨u, hu⟩ := get_of_lt hlt
    refine Ent.rdSome 0 (by rfl) (by omega) (fun ad had => ?_)
    subst had
    refine Cd.skip ?_
    refine Cd.seq ?_
    refine Cd.block ?_
    refine Cd.seq ?_
    refine Cd.region ?_
    refine Ls.ev (some 10) (Ev.move (show Oper.op _ = Op.move (Operand.tmp 8) from rfl) (by rfl)) (by rfl) (by rfl) ?_
    refine Ls.ev (some 5) (Ev.assign (show Oper.op _ = Op.assign (Operand.tmp 10) from rfl) (by rfl)) (by rfl) (by rfl) ?_
    refine Ls.nil ?_
    refine Cd.seq ?_
    refine Cd.region ?_
    refine Ls.ev (some 11) (Ev.move (show Oper.op _ = Op.move (Operand.tmp 1) from rfl) (by rfl)) (by rfl) (by rfl) ?_
    refine Ls.ev (some 12) (Ev.move (show Oper.op _ = Op.move (Operand.tmp 0) from rfl) (by rfl)) (by rfl) (by rfl) ?_
    refine Ls.ev (some 13) (Ev.move (show Oper.op _ = Op.move (Operand.tmp 5) from rfl) (by rfl)) (by rfl) (by rfl) ?_
    refine Ls.ev (some 14) (Ev.indexAt (sz := 1) (show Oper.op _ = Op.indexAddr 22 (Operand.tmp 12) (Operand.tmp 13) from rfl) (by rfl) (by rfl) Try.underlying22 (by kernel_rfl) (by omega)) (by rfl) (by rfl) ?_
    refine Ls.ev (some 15) (Ev.loadInt (show Oper.op _ = Op.load 3 (Operand.tmp 14) from rfl) (by rfl) (ReadsIn.rd 0 (by rfl)) (by kernel_rfl) (by assumption)) (by rfl) (by rfl) ?_
    refine Ls.ev (some 16) (Ev.eql (show Oper.op _ = Op.binOp BinOp.eql 3 (Operand.tmp 11) (Operand.tmp 15) 3 from rfl) (by rfl) (by rfl)) (by rfl) (by rfl) ?_
    refine Ls.nil ?_
    refine Cd.cond _ (by rfl) (fun h2 => ?_) (fun h2 => ?_)
    · skip
      have h2 : x = u := of_decide_eq_true h2
      refine Cd.seq ?_
      refine Cd.region ?_
      refine Ls.ev (some 17) (Ev.move (show Oper.op _ = Op.move (Operand.tmp 5) from rfl) (by rfl)) (by rfl) (by rfl) ?_
      refine Ls.ev (some 4) (Ev.assign (show Oper.op _ = Op.assign (Operand.tmp 17) from rfl) (by rfl)) (by rfl) (by rfl) ?_
      refine Ls.nil ?_
      refine Cd.ret ?_
      refine Ent.ret ((k : Int)) (⟨⟨fun _ => h2 ▸ List.mem_of_getElem? hu, fun _ => by omega⟩, by omega, by omega⟩) (Res.tmp (by rfl) (by rfl)) ?_ [] (by rfl) ?_
      · rfl
      · rfl
    · skip
      have h2 : x ≠ u := of_decide_eq_false h2
      refine Cd.skip ?_
      refine Cd.region ?_
      refine Ls.ev (some 18) (Ev.addN (b := 1) (show Oper.op _ = Op.binOp BinOp.add 3 (Operand.tmp 8) (Operand.const (Value.int IntKind.i64 1)) 3 from rfl) (by rfl) (by rfl) (by omega)) (by rfl) (by rfl) ?_
      refine Ls.ev (some 8) (Ev.move (show Oper.op _ = Op.move (Operand.tmp 18) from rfl) (by rfl)) (by rfl) (by rfl) ?_
      refine Ls.nil ?_
      refine Ent.inv (k + 1) ?_ ?_ ?_
      · (try dsimp only); exact ⟨⟨by omega, by rw [List.take_add_one, hu, List.mem_append]; exact fun h => h.elim hx (fun h => h2 (by simpa using h))⟩, by omega⟩
      · (repeat (first | exact trivial | refine ⟨by rfl, ?_⟩ | refine ⟨by simp only [List.length_append, List.length_cons, List.length_nil]; rfl, ?_⟩ | refine ⟨by push_cast; rfl, ?_⟩))
      · rfl
  · skip
    have hk : l.take k = l := List.take_of_length_le (by have := of_decide_eq_false h; omega)
    rw [hk] at hx
    refine Cd.exit ?_
    refine Cd.seq ?_
    refine Cd.region ?_
    refine Ls.ev (some 4) (Ev.assign (show Oper.op _ = Op.assign (Operand.const (Value.int IntKind.i64 (-1))) from rfl) (by rfl)) (by rfl) (by rfl) ?_
    refine Ls.nil ?_
    refine Cd.ret ?_
    refine Ent.ret ((-1 : Int)) (⟨⟨fun h => absurd h (by decide), fun h => absurd h hx⟩, by omega, by omega⟩) (Res.tmp (by rfl) (by rfl)) ?_ [] (by rfl) ?_
    · rfl
    · rfl
theorem contains_sl (A : Option Addr) (c : Nat) (l : List Int) (x : Int) (hl : l.length ≤ 1048576) : Fn Try.prog 63 #[.slice A l.length c, .int .i64 x] [rdI A l] Unit (fun _ => .bool (decide (x ∈ l))) (fun _ => []) (fun _ => True) := by
  refine Fn.enter Try.func63 rfl Try.ntmps63 (by rfl) ?_
  intro w0
  refine Cd.seq ?_
  refine Cd.region ?_
  refine Ls.ev (some 4) (Ev.assign (show Oper.op _ = Op.assign (Operand.const (Value.bool false)) from rfl) (by rfl)) (by rfl) (by rfl) ?_
  refine Ls.nil ?_
  refine Cd.seq ?_
  refine Cd.region ?_
  refine Ls.ev (some 5) (Ev.move (show Oper.op _ = Op.move (Operand.tmp 0) from rfl) (by rfl)) (by rfl) (by rfl) ?_
  refine Ls.ev (some 6) (Ev.move (show Oper.op _ = Op.move (Operand.tmp 1) from rfl) (by rfl)) (by rfl) (by rfl) ?_
  refine Ls.does (some 7) (Does.read (show Oper.op _ = Op.call { callee := Callee.value (Operand.func 66), args := #[Operand.tmp 5, Operand.tmp 6], argTypes := #[22, 3] } from rfl) Try.func66 (by kernel_rfl) (by kernel_rfl) (index_sl A c l x hl) (by rfl) (by rfl) ⟨ReadsIn.rd 0 (by rfl), trivial⟩) (by rfl) (by rfl) ?_
  rintro i ⟨hi, _⟩
  refine Ls.ev (some 8) (Ev.geq (show Oper.op _ = Op.binOp BinOp.geq 3 (Operand.tmp 7) (Operand.const (Value.int IntKind.i64 0)) 3 from rfl) (by rfl) (by rfl)) (by rfl) (by rfl) ?_
  refine Ls.ev (some 4) (Ev.assign (show Oper.op _ = Op.assign (Operand.tmp 8) from rfl) (by rfl)) (by rfl) (by rfl) ?_
  refine Ls.nil ?_
  refine Cd.ret ?_
  refine Ent.ret (()) (trivial) (Res.tmp (by rfl) (by rfl)) ?_ [] (by rfl) ?_
  · rw [show decide (0 ≤ i) = decide (x ∈ l) from decide_eq_decide.2 hi]
  · rfl
end Go.Proofs.Ytegjoabfoddadaa
/- the grid over pieces -/
namespace Go.Proofs.Ytegjoabfoddadaa
open Go.RowKit
/-- A grid as it lies. -/
structure GrS where
  g : Nat
  mb : Nat
  A : Option Addr
  c : Nat
  deriving Inhabited
def GrS.vals (G : GrS) (m : MapP) : List Value := [.int .i64 m.w, .int .i64 m.h, .int .i64 m.sh, .slice G.A m.bl.length G.c, .map (some G.mb)]
def mapF (m : MapP) (c : Int) : Option Value := if c ∈ m.bl then some (.int .i64 1) else none
abbrev GrS.b (G : GrS) (m : MapP) : Chunk := rblk G.g 101 (G.vals m)
abbrev GrS.r (G : GrS) (m : MapP) : Chunk := rmap Try.prog 3 G.mb (.int .i64 0) (Value.int .i64) (mapF m)
theorem keyed_int : Maps.Keyed Try.prog 3 := Maps.int_keyed Try.underlying3
theorem keyOf_int {x : Int} (h : -9223372036854775808 ≤ x ∧ x ≤ 9223372036854775807) : keyOf Try.prog 3 (.int .i64 x) = some (.int .i64 x) := Maps.keyOf_int_mk Try.underlying3 (wf64 h)
theorem gis_of (G : GrS) (m : MapP) (hw : m.w * m.h ≤ 256 ∧ 1 ≤ m.w ∧ m.w ≤ 16 ∧ 1 ≤ m.h ∧ m.h ≤ 16 ∧ 1 ≤ m.w * m.h) (c : Int) : Fn Try.prog 43 #[.pointer (some ⟨G.g, 0, none⟩), .int .i64 c] [G.b m] Unit (fun _ => .bool (decide (0 ≤ c ∧ c < m.w * m.h))) (fun _ => []) (fun _ => True) := by
  unfold GrS.b GrS.vals
  refine Fn.enter Try.func43 rfl Try.ntmps43 (by rfl) ?_
  intro w0
  skip
  refine Cd.seq ?_
  refine Cd.region ?_
  refine Ls.ev (some 4) (Ev.assign (show Oper.op _ = Op.assign (Operand.const (Value.bool false)) from rfl) (by rfl)) (by rfl) (by rfl) ?_
  refine Ls.nil ?_
  refine Cd.seq ?_
  refine Cd.cut (ι := Unit) (fun _ => [(4, .bool (decide (0 ≤ c ∧ c < m.w * m.h)))]) (fun _ => []) (fun _ => True) ?_ ?_
  · skip
    refine Cd.draw [] (by kernel_rfl) ?_
    refine Rg.ev 0 (by rfl) (fun _ h => h) (Ev.move (show Oper.op _ = Op.move (Operand.tmp 1) from rfl) (by rfl)) (by rfl) (some 5) (by rfl) (by kernel_rfl) (by kernel_rfl) (by kernel_rfl) (by kernel_rfl) ?_
    refine Rg.ev 1 (by rfl) (fun _ h => h) (Ev.geq (show Oper.op _ = Op.binOp BinOp.geq 3 (Operand.tmp 5) (Operand.const (Value.int IntKind.i64 0)) 3 from rfl) (by rfl) (by rfl)) (by rfl) (some 6) (by rfl) (by kernel_rfl) (by kernel_rfl) (by kernel_rfl) (by kernel_rfl) ?_
    refine Rg.ev 2 (by rfl) (fun _ h => h) (Ev.move (show Oper.op _ = Op.move (Operand.tmp 6) from rfl) (by rfl)) (by rfl) (some 7) (by rfl) (by kernel_rfl) (by kernel_rfl) (by kernel_rfl) (by kernel_rfl) ?_
    refine Ent.split 7 (by rfl) (fun hT1 => ?_) (fun hT1 => ?_)
    · first | have hT1 := of_decide_eq_false hT1 | have hT1 := of_not_decide_false hT1 | skip
      refine Rg.pass 3 (by rfl) (fun _ h => h) (by rfl) (some 8) (by rfl) (by kernel_rfl) (by kernel_rfl) (by kernel_rfl) (by kernel_rfl) ?_
      refine Rg.pass 4 (by rfl) (fun _ h => h) (by rfl) (some 9) (by rfl) (by kernel_rfl) (by kernel_rfl) (by kernel_rfl) (by kernel_rfl) ?_
      refine Rg.pass 5 (by rfl) (fun _ h => h) (by rfl) (some 10) (by rfl) (by kernel_rfl) (by kernel_rfl) (by kernel_rfl) (by kernel_rfl) ?_
      refine Rg.pass 6 (by rfl) (fun _ h => h) (by rfl) (some 11) (by rfl) (by kernel_rfl) (by kernel_rfl) (by kernel_rfl) (by kernel_rfl) ?_
      refine Rg.pass 7 (by rfl) (fun _ h => h) (by rfl) (some 12) (by rfl) (by kernel_rfl) (by kernel_rfl) (by kernel_rfl) (by kernel_rfl) ?_
      refine Rg.pass 8 (by rfl) (fun _ h => h) (by rfl) (some 13) (by rfl) (by kernel_rfl) (by kernel_rfl) (by kernel_rfl) (by kernel_rfl) ?_
      refine Rg.pass 9 (by rfl) (fun _ h => h) (by rfl) (some 14) (by rfl) (by kernel_rfl) (by kernel_rfl) (by kernel_rfl) (by kernel_rfl) ?_
      refine Rg.pass 10 (by rfl) (fun _ h => h) (by rfl) (some 15) (by rfl) (by kernel_rfl) (by kernel_rfl) (by kernel_rfl) (by kernel_rfl) ?_
      refine Rg.pass 11 (by rfl) (fun _ h => h) (by rfl) (some 16) (by rfl) (by kernel_rfl) (by kernel_rfl) (by kernel_rfl) (by kernel_rfl) ?_
      refine Rg.pass 12 (by rfl) (fun _ h => h) (by rfl) (some 17) (by rfl) (by kernel_rfl) (by kernel_rfl) (by kernel_rfl) (by kernel_rfl) ?_
      refine Rg.pass 13 (by rfl) (fun _ h => h) (by rfl) (some 18) (by rfl) (by kernel_rfl) (by kernel_rfl) (by kernel_rfl) (by kernel_rfl) ?_
      refine Rg.pass 14 (by rfl) (fun _ h => h) (by rfl) (some 19) (by rfl) (by kernel_rfl) (by kernel_rfl) (by kernel_rfl) (by kernel_rfl) ?_
      refine Rg.pass 15 (by rfl) (fun _ h => h) (by rfl) (some 20) (by rfl) (by kernel_rfl) (by kernel_rfl) (by kernel_rfl) (by kernel_rfl) ?_
      refine Rg.ev 16 (by rfl) (fun _ h => h) (Ev.pickF (show Oper.op _ = Op.pick (Operand.tmp 7) (Operand.tmp 20) (Operand.const (Value.bool false)) from rfl) (by rfl) (by rfl)) (by rfl) (some 21) (by rfl) (by kernel_rfl) (by kernel_rfl) (by kernel_rfl) (by kernel_rfl) ?_
      refine Rg.ev 17 (by rfl) (fun _ h => h) (Ev.assign (show Oper.op _ = Op.assign (Operand.tmp 21) from rfl) (by rfl)) (by rfl) (some 4) (by rfl) (by kernel_rfl) (by kernel_rfl) (by kernel_rfl) (by kernel_rfl) ?_
      refine Rg.done (by kernel_rfl) ?_ _
      refine Ent.pick [] (by rfl) ?_
      refine Ent.inv () ?_ ?_ ?_
      · exact trivial
      · (repeat (first | exact trivial | refine ⟨by rfl, ?_⟩ | refine ⟨by simp only [List.length_append, List.length_cons, List.length_nil]; rfl, ?_⟩ | refine ⟨by push_cast; rfl, ?_⟩ | refine ⟨by (show some (Value.bool _) = some (Value.bool _); congr 2; first | rfl | exact (decide_eq_true (by omega)).symm | exact (decide_eq_false (by omega)).symm | exact decide_eq_decide.2 (by omega)), ?_⟩))
      · rfl
    · first | have hT1 := of_decide_eq_true hT1 | have hT1 := of_not_decide_true hT1 | skip
      refine Rg.ev 3 (by rfl) (fun _ h => h) (Ev.move (show Oper.op _ = Op.move (Operand.tmp 1) from rfl) (by rfl)) (by rfl) (some 8) (by rfl) (by kernel_rfl) (by kernel_rfl) (by kernel_rfl) (by kernel_rfl) ?_
      refine Rg.ev 4 (by rfl) (fun _ h => h) (Ev.move (show Oper.op _ = Op.move (Operand.tmp 0) from rfl) (by rfl)) (by rfl) (some 9) (by rfl) (by kernel_rfl) (by kernel_rfl) (by kernel_rfl) (by kernel_rfl) ?_
      refine Rg.ev 5 (by rfl) (fun _ h => h) (Ev.nilCheck (show Oper.op _ = Op.nilCheck (Operand.tmp 9) from rfl) (by rfl)) (by rfl) (some 10) (by rfl) (by kernel_rfl) (by kernel_rfl) (by kernel_rfl) (by kernel_rfl) ?_
      refine Rg.ev 6 (by rfl) (fun _ h => h) (Ev.fieldAddr (k := 0) (show Oper.op _ = Op.fieldAddr 101 (Operand.tmp 10) 0 from rfl) (by rfl) (by kernel_rfl) (by rfl)) (by rfl) (some 11) (by rfl) (by kernel_rfl) (by kernel_rfl) (by kernel_rfl) (by kernel_rfl) ?_
      refine Rg.ev 7 (by rfl) (fun _ h => h) (Ev.fieldAddr (k := 0) (show Oper.op _ = Op.fieldAddr 24 (Operand.tmp 11) 0 from rfl) (by rfl) (by kernel_rfl) (by rfl)) (by rfl) (some 12) (by rfl) (by kernel_rfl) (by kernel_rfl) (by kernel_rfl) (by kernel_rfl) ?_
      refine Rg.ev 8 (by rfl) (fun _ h => h) (Ev.loadB 0 (show Oper.op _ = Op.load 3 (Operand.tmp 12) from rfl) (by rfl) (by rfl) (by kernel_rfl) (by rfl)) (by rfl) (some 13) (by rfl) (by kernel_rfl) (by kernel_rfl) (by kernel_rfl) (by kernel_rfl) ?_
      refine Rg.ev 9 (by rfl) (fun _ h => h) (Ev.move (show Oper.op _ = Op.move (Operand.tmp 0) from rfl) (by rfl)) (by rfl) (some 14) (by rfl) (by kernel_rfl) (by kernel_rfl) (by kernel_rfl) (by kernel_rfl) ?_
      refine Rg.ev 10 (by rfl) (fun _ h => h) (Ev.nilCheck (show Oper.op _ = Op.nilCheck (Operand.tmp 14) from rfl) (by rfl)) (by rfl) (some 15) (by rfl) (by kernel_rfl) (by kernel_rfl) (by kernel_rfl) (by kernel_rfl) ?_
      refine Rg.ev 11 (by rfl) (fun _ h => h) (Ev.fieldAddr (k := 0) (show Oper.op _ = Op.fieldAddr 101 (Operand.tmp 15) 0 from rfl) (by rfl) (by kernel_rfl) (by rfl)) (by rfl) (some 16) (by rfl) (by kernel_rfl) (by kernel_rfl) (by kernel_rfl) (by kernel_rfl) ?_
      refine Rg.ev 12 (by rfl) (fun _ h => h) (Ev.fieldAddr (k := 1) (show Oper.op _ = Op.fieldAddr 24 (Operand.tmp 16) 1 from rfl) (by rfl) (by kernel_rfl) (by rfl)) (by rfl) (some 17) (by rfl) (by kernel_rfl) (by kernel_rfl) (by kernel_rfl) (by kernel_rfl) ?_
      refine Rg.ev 13 (by rfl) (fun _ h => h) (Ev.loadB 0 (show Oper.op _ = Op.load 3 (Operand.tmp 17) from rfl) (by rfl) (by rfl) (by kernel_rfl) (by rfl)) (by rfl) (some 18) (by rfl) (by kernel_rfl) (by kernel_rfl) (by kernel_rfl) (by kernel_rfl) ?_
      refine Rg.ev 14 (by rfl) (fun _ h => h) (Ev.mulI (show Oper.op _ = Op.binOp BinOp.mul 3 (Operand.tmp 13) (Operand.tmp 18) 3 from rfl) (by rfl) (by rfl) (by omega)) (by rfl) (some 19) (by rfl) (by kernel_rfl) (by kernel_rfl) (by kernel_rfl) (by kernel_rfl) ?_
      refine Rg.ev 15 (by rfl) (fun _ h => h) (Ev.lss (show Oper.op _ = Op.binOp BinOp.lss 3 (Operand.tmp 8) (Operand.tmp 19) 3 from rfl) (by rfl) (by rfl)) (by rfl) (some 20) (by rfl) (by kernel_rfl) (by kernel_rfl) (by kernel_rfl) (by kernel_rfl) ?_
      refine Rg.ev 16 (by rfl) (fun _ h => h) (Ev.pickT (show Oper.op _ = Op.pick (Operand.tmp 7) (Operand.tmp 20) (Operand.const (Value.bool false)) from rfl) (by rfl) (by rfl)) (by rfl) (some 21) (by rfl) (by kernel_rfl) (by kernel_rfl) (by kernel_rfl) (by kernel_rfl) ?_
      refine Rg.ev 17 (by rfl) (fun _ h => h) (Ev.assign (show Oper.op _ = Op.assign (Operand.tmp 21) from rfl) (by rfl)) (by rfl) (some 4) (by rfl) (by kernel_rfl) (by kernel_rfl) (by kernel_rfl) (by kernel_rfl) ?_
      refine Rg.done (by kernel_rfl) ?_ _
      refine Ent.pick [] (by rfl) ?_
      refine Ent.inv () ?_ ?_ ?_
      · exact trivial
      · (repeat (first | exact trivial | refine ⟨by rfl, ?_⟩ | refine ⟨by simp only [List.length_append, List.length_cons, List.length_nil]; rfl, ?_⟩ | refine ⟨by push_cast; rfl, ?_⟩ | refine ⟨by (show some (Value.bool _) = some (Value.bool _); congr 2; first | rfl | exact (decide_eq_true (by omega)).symm | exact (decide_eq_false (by omega)).symm | exact decide_eq_decide.2 (by omega)), ?_⟩))
      · rfl
  skip
  rintro _ -
  skip
  refine Cd.ret ?_
  refine Ent.ret (()) (trivial) (Res.tmp (by rfl) (by rfl)) ?_ [] (by rfl) ?_
  · rfl
  · rfl
section
variable (G : GrS) (m : MapP) (hm : goodM m = true)
include hm
theorem gis_sl (c : Int) : Fn Try.prog 43 #[.pointer (some ⟨G.g, 0, none⟩), .int .i64 c] [G.b m] Unit (fun _ => .bool (decide (0 ≤ c ∧ c < m.w * m.h))) (fun _ => []) (fun _ => True) := gis_of G m (wh_le hm) c
theorem place_sl (c : Int) : Fn Try.prog 56 #[.pointer (some ⟨G.g, 0, none⟩), .int .i64 c] [G.b m] Unit (fun _ => .tuple #[.int .i64 (if isM m c then c % m.w else 0), .int .i64 (if isM m c then c / m.w else 0), .int .i64 (if isM m c then 0 else 121)]) (fun _ => []) (fun _ => True) := by
  have hw := wh_le hm
  have hi := gis_sl G m hm c
  have hd : isM m c = decide (0 ≤ c ∧ c < m.w * m.h) := by unfold isM; rw [Bool.decide_and]
  unfold GrS.b GrS.vals at *
  refine Fn.enter Try.func56 rfl Try.ntmps56 (by rfl) ?_
  intro w0
  skip
  refine Cd.seq ?_
  refine Cd.region ?_
  refine Ls.ev (some 4) (Ev.assign (show Oper.op _ = Op.assign (Operand.const (Value.int IntKind.i64 0)) from rfl) (by rfl)) (by rfl) (by rfl) ?_
  refine Ls.ev (some 5) (Ev.assign (show Oper.op _ = Op.assign (Operand.const (Value.int IntKind.i64 0)) from rfl) (by rfl)) (by rfl) (by rfl) ?_
  refine Ls.ev (some 6) (Ev.assign (show Oper.op _ = Op.assign (Operand.const (Value.int IntKind.i64 0)) from rfl) (by rfl)) (by rfl) (by rfl) ?_
  refine Ls.nil ?_
  refine Cd.seq ?_
  refine Cd.seq ?_
  refine Cd.region ?_
  refine Ls.ev (some 7) (Ev.move (show Oper.op _ = Op.move (Operand.tmp 0) from rfl) (by rfl)) (by rfl) (by rfl) ?_
  refine Ls.ev (some 8) (Ev.move (show Oper.op _ = Op.move (Operand.tmp 1) from rfl) (by rfl)) (by rfl) (by rfl) ?_
  refine Ls.does (some 9) (Does.read (show Oper.op _ = Op.call { callee := Callee.value (Operand.func 43), args := #[Operand.tmp 7, Operand.tmp 8], argTypes := #[79, 3] } from rfl) Try.func43 (by kernel_rfl) (by kernel_rfl) (hi) (by rfl) (by rfl) ⟨rblkIn 0 (by rfl), trivial⟩) (by rfl) (by rfl) ?_
  rintro _ -
  refine Ls.ev (some 10) (Ev.not (show Oper.op _ = Op.unOp UnOp.not 4 (Operand.tmp 9) from rfl) (by rfl)) (by rfl) (by rfl) ?_
  refine Ls.nil ?_
  rw [hd]
  refine Cd.cond _ (by rfl) (fun h => ?_) (fun h => ?_)
  · skip
    rw [decide_eq_false (of_not_decide_true h)]
    refine Cd.seq ?_
    refine Cd.region ?_
    refine Ls.ev (some 4) (Ev.assign (show Oper.op _ = Op.assign (Operand.const (Value.int IntKind.i64 0)) from rfl) (by rfl)) (by rfl) (by rfl) ?_
    refine Ls.ev (some 5) (Ev.assign (show Oper.op _ = Op.assign (Operand.const (Value.int IntKind.i64 0)) from rfl) (by rfl)) (by rfl) (by rfl) ?_
    refine Ls.ev (some 6) (Ev.assign (show Oper.op _ = Op.assign (Operand.const (Value.int IntKind.i64 121)) from rfl) (by rfl)) (by rfl) (by rfl) ?_
    refine Ls.nil ?_
    refine Cd.ret ?_
    refine Ent.ret (()) (trivial) (Res.tmp3 (by rfl) (by rfl) (by rfl) (by rfl)) ?_ [] (by rfl) ?_
    · rfl
    · rfl
  · skip
    have h := of_not_decide_false h
    rw [decide_eq_true h]
    refine Cd.skip ?_
    refine Cd.seq ?_
    refine Cd.draw [] (by kernel_rfl) ?_
    refine Rg.ev 0 (by rfl) (fun _ h => h) (Ev.move (show Oper.op _ = Op.move (Operand.tmp 1) from rfl) (by rfl)) (by rfl) (some 11) (by rfl) (by kernel_rfl) (by kernel_rfl) (by kernel_rfl) (by kernel_rfl) ?_
    refine Rg.ev 1 (by rfl) (fun _ h => h) (Ev.move (show Oper.op _ = Op.move (Operand.tmp 0) from rfl) (by rfl)) (by rfl) (some 12) (by rfl) (by kernel_rfl) (by kernel_rfl) (by kernel_rfl) (by kernel_rfl) ?_
    refine Rg.ev 2 (by rfl) (fun _ h => h) (Ev.nilCheck (show Oper.op _ = Op.nilCheck (Operand.tmp 12) from rfl) (by rfl)) (by rfl) (some 13) (by rfl) (by kernel_rfl) (by kernel_rfl) (by kernel_rfl) (by kernel_rfl) ?_
    refine Rg.ev 3 (by rfl) (fun _ h => h) (Ev.fieldAddr (k := 0) (show Oper.op _ = Op.fieldAddr 101 (Operand.tmp 13) 0 from rfl) (by rfl) (by kernel_rfl) (by rfl)) (by rfl) (some 14) (by rfl) (by kernel_rfl) (by kernel_rfl) (by kernel_rfl) (by kernel_rfl) ?_
    refine Rg.ev 4 (by rfl) (fun _ h => h) (Ev.fieldAddr (k := 0) (show Oper.op _ = Op.fieldAddr 24 (Operand.tmp 14) 0 from rfl) (by rfl) (by kernel_rfl) (by rfl)) (by rfl) (some 15) (by rfl) (by kernel_rfl) (by kernel_rfl) (by kernel_rfl) (by kernel_rfl) ?_
    refine Rg.ev 5 (by rfl) (fun _ h => h) (Ev.loadB 0 (show Oper.op _ = Op.load 3 (Operand.tmp 15) from rfl) (by rfl) (by rfl) (by kernel_rfl) (by rfl)) (by rfl) (some 16) (by rfl) (by kernel_rfl) (by kernel_rfl) (by kernel_rfl) (by kernel_rfl) ?_
    refine Rg.ev 6 (by rfl) (fun _ h => h) (Ev.remI (show Oper.op _ = Op.binOp BinOp.rem 3 (Operand.tmp 11) (Operand.tmp 16) 3 from rfl) (by rfl) (by rfl) (by omega)) (by rfl) (some 17) (by rfl) (by kernel_rfl) (by kernel_rfl) (by kernel_rfl) (by kernel_rfl) ?_
    refine Rg.ev 7 (by rfl) (fun _ h => h) (Ev.move (show Oper.op _ = Op.move (Operand.tmp 1) from rfl) (by rfl)) (by rfl) (some 18) (by rfl) (by kernel_rfl) (by kernel_rfl) (by kernel_rfl) (by kernel_rfl) ?_
    refine Rg.ev 8 (by rfl) (fun _ h => h) (Ev.move (show Oper.op _ = Op.move (Operand.tmp 0) from rfl) (by rfl)) (by rfl) (some 19) (by rfl) (by kernel_rfl) (by kernel_rfl) (by kernel_rfl) (by kernel_rfl) ?_
    refine Rg.ev 9 (by rfl) (fun _ h => h) (Ev.nilCheck (show Oper.op _ = Op.nilCheck (Operand.tmp 19) from rfl) (by rfl)) (by rfl) (some 20) (by rfl) (by kernel_rfl) (by kernel_rfl) (by kernel_rfl) (by kernel_rfl) ?_
    refine Rg.ev 10 (by rfl) (fun _ h => h) (Ev.fieldAddr (k := 0) (show Oper.op _ = Op.fieldAddr 101 (Operand.tmp 20) 0 from rfl) (by rfl) (by kernel_rfl) (by rfl)) (by rfl) (some 21) (by rfl) (by kernel_rfl) (by kernel_rfl) (by kernel_rfl) (by kernel_rfl) ?_
    refine Rg.ev 11 (by rfl) (fun _ h => h) (Ev.fieldAddr (k := 0) (show Oper.op _ = Op.fieldAddr 24 (Operand.tmp 21) 0 from rfl) (by rfl) (by kernel_rfl) (by rfl)) (by rfl) (some 22) (by rfl) (by kernel_rfl) (by kernel_rfl) (by kernel_rfl) (by kernel_rfl) ?_
    refine Rg.ev 12 (by rfl) (fun _ h => h) (Ev.loadB 0 (show Oper.op _ = Op.load 3 (Operand.tmp 22) from rfl) (by rfl) (by rfl) (by kernel_rfl) (by rfl)) (by rfl) (some 23) (by rfl) (by kernel_rfl) (by kernel_rfl) (by kernel_rfl) (by kernel_rfl) ?_
    refine Rg.ev 13 (by rfl) (fun _ h => h) (Ev.quoI (show Oper.op _ = Op.binOp BinOp.quo 3 (Operand.tmp 18) (Operand.tmp 23) 3 from rfl) (by rfl) (by rfl) (by omega)) (by rfl) (some 24) (by rfl) (by kernel_rfl) (by kernel_rfl) (by kernel_rfl) (by kernel_rfl) ?_
    refine Rg.ev 14 (by rfl) (fun _ h => h) (Ev.assign (show Oper.op _ = Op.assign (Operand.tmp 17) from rfl) (by rfl)) (by rfl) (some 4) (by rfl) (by kernel_rfl) (by kernel_rfl) (by kernel_rfl) (by kernel_rfl) ?_
    refine Rg.ev 15 (by rfl) (fun _ h => h) (Ev.assign (show Oper.op _ = Op.assign (Operand.tmp 24) from rfl) (by rfl)) (by rfl) (some 5) (by rfl) (by kernel_rfl) (by kernel_rfl) (by kernel_rfl) (by kernel_rfl) ?_
    refine Rg.ev 16 (by rfl) (fun _ h => h) (Ev.assign (show Oper.op _ = Op.assign (Operand.const (Value.int IntKind.i64 0)) from rfl) (by rfl)) (by rfl) (some 6) (by rfl) (by kernel_rfl) (by kernel_rfl) (by kernel_rfl) (by kernel_rfl) ?_
    refine Rg.done (by kernel_rfl) ?_ _
    refine Cd.ret ?_
    refine Ent.ret (()) (trivial) (Res.tmp3 (by rfl) (by rfl) (by rfl) (by rfl)) ?_ [] (by rfl) ?_
    · rfl
    · rfl
theorem free_sl (c : Int) : Fn Try.prog 57 #[.pointer (some ⟨G.g, 0, none⟩), .int .i64 c] [G.b m, G.r m] Unit (fun _ => .bool (freeM m c)) (fun _ => []) (fun _ => True) := by
  have hw := wh_le hm
  have hi := gis_sl G m hm c
  have hd : isM m c = decide (0 ≤ c ∧ c < m.w * m.h) := by unfold isM; rw [Bool.decide_and]
  have hf : freeM m c = (decide (0 ≤ c ∧ c < m.w * m.h) && !m.bl.contains c) := by unfold freeM; rw [hd]
  unfold GrS.b GrS.vals at *
  refine Fn.enter Try.func57 rfl Try.ntmps57 (by rfl) ?_
  intro w0
  skip
  refine Cd.seq ?_
  refine Cd.region ?_
  refine Ls.ev (some 4) (Ev.assign (show Oper.op _ = Op.assign (Operand.const (Value.bool false)) from rfl) (by rfl)) (by rfl) (by rfl) ?_
  refine Ls.nil ?_
  refine Cd.seq ?_
  refine Cd.region ?_
  refine Ls.ev (some 5) (Ev.move (show Oper.op _ = Op.move (Operand.tmp 0) from rfl) (by rfl)) (by rfl) (by rfl) ?_
  refine Ls.ev (some 6) (Ev.move (show Oper.op _ = Op.move (Operand.tmp 1) from rfl) (by rfl)) (by rfl) (by rfl) ?_
  refine Ls.does (some 7) (Does.read (show Oper.op _ = Op.call { callee := Callee.value (Operand.func 43), args := #[Operand.tmp 5, Operand.tmp 6], argTypes := #[79, 3] } from rfl) Try.func43 (by kernel_rfl) (by kernel_rfl) (hi) (by rfl) (by rfl) ⟨rblkIn 0 (by rfl), trivial⟩) (by rfl) (by rfl) ?_
  rintro _ -
  refine Ls.ev (some 8) (Ev.move (show Oper.op _ = Op.move (Operand.tmp 7) from rfl) (by rfl)) (by rfl) (by rfl) ?_
  refine Ent.split 8 (by rfl) (fun h => ?_) (fun h => ?_)
  · skip
    rw [hf, h]
    refine Ls.pass (some 9) (by rfl) (by rfl) ?_
    refine Ls.pass (some 10) (by rfl) (by rfl) ?_
    refine Ls.pass (some 11) (by rfl) (by rfl) ?_
    refine Ls.pass (some 12) (by rfl) (by rfl) ?_
    refine Ls.pass (some 13) (by rfl) (by rfl) ?_
    refine Ls.pass (some 14) (by rfl) (by rfl) ?_
    refine Ls.pass (some 15) (by rfl) (by rfl) ?_
    refine Ls.ev (some 16) (Ev.pickF (show Oper.op _ = Op.pick (Operand.tmp 8) (Operand.tmp 15) (Operand.const (Value.bool false)) from rfl) (by rfl) (by rfl)) (by rfl) (by rfl) ?_
    refine Ls.ev (some 4) (Ev.assign (show Oper.op _ = Op.assign (Operand.tmp 16) from rfl) (by rfl)) (by rfl) (by rfl) ?_
    refine Ls.nil ?_
    skip
    refine Cd.ret ?_
    refine Ent.ret (()) (trivial) (Res.tmp (by rfl) (by rfl)) ?_ [] (by rfl) ?_
    · rfl
    · rfl
  · skip
    rw [hf, h]
    have h := of_decide_eq_true h
    refine Ls.ev (some 9) (Ev.move (show Oper.op _ = Op.move (Operand.tmp 0) from rfl) (by rfl)) (by rfl) (by rfl) ?_
    refine Ls.ev (some 10) (Ev.nilCheck (show Oper.op _ = Op.nilCheck (Operand.tmp 9) from rfl) (by rfl)) (by rfl) (by rfl) ?_
    refine Ls.ev (some 11) (Ev.fieldAddr (k := 4) (show Oper.op _ = Op.fieldAddr 101 (Operand.tmp 10) 1 from rfl) (by rfl) (by kernel_rfl) (by rfl)) (by rfl) (by rfl) ?_
    refine Ls.ev (some 12) (Ev.loadB 0 (show Oper.op _ = Op.load 72 (Operand.tmp 11) from rfl) (by rfl) (by rfl) (by kernel_rfl) (by rfl)) (by rfl) (by rfl) ?_
    refine Ls.ev (some 13) (Ev.move (show Oper.op _ = Op.move (Operand.tmp 1) from rfl) (by rfl)) (by rfl) (by rfl) ?_
    refine Ls.ev (some 14) (Ev.to (Ev.lookR 1 (show Oper.op _ = Op.lookup 72 (Operand.tmp 12) (Operand.tmp 13) false from rfl) (by rfl) (by rfl) (by rfl) keyed_int Try.underlying72 (zero_of (by kernel_rfl)) (keyOf_int (by omega))) (show (mapF m c).getD (.int .i64 0) = .int .i64 (if c ∈ m.bl then 1 else 0) by unfold mapF; split <;> rfl)) (by rfl) (by rfl) ?_
    refine Ls.ev (some 15) (Ev.eql (show Oper.op _ = Op.binOp BinOp.eql 3 (Operand.tmp 14) (Operand.const (Value.int IntKind.i64 0)) 3 from rfl) (by rfl) (by rfl)) (by rfl) (by rfl) ?_
    refine Ls.ev (some 16) (Ev.pickT (show Oper.op _ = Op.pick (Operand.tmp 8) (Operand.tmp 15) (Operand.const (Value.bool false)) from rfl) (by rfl) (by rfl)) (by rfl) (by rfl) ?_
    refine Ls.ev (some 4) (Ev.assign (show Oper.op _ = Op.assign (Operand.tmp 16) from rfl) (by rfl)) (by rfl) (by rfl) ?_
    refine Ls.nil ?_
    refine Cd.ret ?_
    refine Ent.ret (()) (trivial) (Res.tmp (by rfl) (by rfl)) ?_ [] (by rfl) ?_
    · show Value.bool (decide (_ = _)) = Value.bool (true && !m.bl.contains c)
      congr 1
      by_cases hc : c ∈ m.bl
      · rw [if_pos hc, List.contains_iff_mem.2 hc]; rfl
      · rw [if_neg hc, show m.bl.contains c = false from Bool.eq_false_iff.2 fun e => hc (List.contains_iff_mem.1 e)]; rfl
    · rfl
omit hm in
theorem sq_bd {p : Int} (h : -15 ≤ p ∧ p ≤ 15) : 0 ≤ p * p ∧ p * p ≤ 225 := by
  have key : ∀ n : Nat, n ≤ 15 → n * n ≤ 225 := by decide
  have h1 := key p.natAbs (by omega)
  have h2 : p * p = (p.natAbs * p.natAbs : Nat) := by rw [Int.natAbs_mul_self]
  omega
omit hm in
theorem sq_one {p q : Int} : p * p + q * q = 1 ↔ (p = 0 ∧ (q = 1 ∨ q = -1)) ∨ (q = 0 ∧ (p = 1 ∨ p = -1)) := by
  have big : ∀ z : Int, z ≤ -2 ∨ 2 ≤ z → 4 ≤ z * z := by
    intro z hz
    rcases hz with h | h
    · have : (2 : Int) * 2 ≤ (-z) * (-z) := Int.mul_le_mul (by omega) (by omega) (by omega) (by omega)
      rw [Int.neg_mul_neg] at this
      omega
    · have : (2 : Int) * 2 ≤ z * z := Int.mul_le_mul h h (by omega) (by omega)
      omega
  have pos : ∀ z : Int, 0 ≤ z * z := fun z => by rw [← Int.natAbs_mul_self]; omega
  constructor
  · intro h
    have hp := pos p
    have hq := pos q
    have h1 : ¬ (p ≤ -2 ∨ 2 ≤ p) := fun e => by have := big p e; omega
    have h2 : ¬ (q ≤ -2 ∨ 2 ≤ q) := fun e => by have := big q e; omega
    obtain h3 | h3 | h3 : p = -1 ∨ p = 0 ∨ p = 1 := by omega
    all_goals
      obtain h4 | h4 | h4 : q = -1 ∨ q = 0 ∨ q = 1 := by omega
      all_goals
        subst h3 h4
        first | omega | simp at h
  · rintro (⟨rfl, rfl | rfl⟩ | ⟨rfl, rfl | rfl⟩) <;> rfl
omit hm in
theorem div_bd {w h c : Int} (hw : 1 ≤ w ∧ w ≤ 16) (hh : 1 ≤ h ∧ h ≤ 16) (hc : 0 ≤ c ∧ c < w * h) : (0 ≤ c % w ∧ c % w ≤ 15) ∧ (0 ≤ c / w ∧ c / w ≤ 15) := by
  have h1 := Int.emod_nonneg c (by omega : w ≠ 0)
  have h2 := Int.emod_lt_of_pos c (by omega : 0 < w)
  have h3 := Int.ediv_nonneg hc.1 (by omega : 0 ≤ w)
  have h4 : c / w < h := Int.ediv_lt_of_lt_mul (by omega) (by rw [Int.mul_comm]; exact hc.2)
  omega
theorem beside_sl (a b : Int) : Fn Try.prog 67 #[.pointer (some ⟨G.g, 0, none⟩), .int .i64 a, .int .i64 b] [G.b m] Unit (fun _ => .bool (besideM m a b)) (fun _ => []) (fun _ => True) := by
  have hw := wh_le hm
  have pa := place_sl G m hm a
  have pb := place_sl G m hm b
  have bd : ∀ c, (0 ≤ (if isM m c then c % m.w else 0) ∧ (if isM m c then c % m.w else 0) ≤ 15) ∧ (0 ≤ (if isM m c then c / m.w else 0) ∧ (if isM m c then c / m.w else 0) ≤ 15) := by
    intro c
    by_cases hc : isM m c = true
    · rw [if_pos hc, if_pos hc]
      exact div_bd ⟨hw.2.1, hw.2.2.1⟩ ⟨hw.2.2.2.1, hw.2.2.2.2.1⟩ (isM_iff.1 hc)
    · rw [if_neg hc, if_neg hc]
      omega
  have ba := bd a
  have bb := bd b
  have hB : besideM m a b = decide ((if isM m a then (0 : Int) else 121) = 0 ∧ (if isM m b then (0 : Int) else 121) = 0 ∧ ((if isM m a then a % m.w else 0) - (if isM m b then b % m.w else 0)) * ((if isM m a then a % m.w else 0) - (if isM m b then b % m.w else 0)) + ((if isM m a then a / m.w else 0) - (if isM m b then b / m.w else 0)) * ((if isM m a then a / m.w else 0) - (if isM m b then b / m.w else 0)) = 1) := by
    unfold besideM besB
    cases ha : isM m a with
    | false => rfl
    | true =>
      cases hb : isM m b with
      | false => rfl
      | true =>
        rw [Bool.true_and, Bool.true_and]
        refine decide_eq_decide.2 ?_
        repeat rw [if_pos rfl]
        rw [sq_one]
        exact ⟨fun h => ⟨rfl, rfl, h⟩, fun h => h.2.2⟩
  rw [hB]
  clear hB bd
  revert pa pb ba bb
  generalize (if isM m a then a % m.w else 0) = x
  generalize (if isM m b then b % m.w else 0) = u
  generalize (if isM m a then a / m.w else 0) = y
  generalize (if isM m b then b / m.w else 0) = v
  generalize (if isM m a then (0 : Int) else 121) = e1
  generalize (if isM m b then (0 : Int) else 121) = e2
  intro pa pb ba bb
  have s1 := sq_bd (p := x - u) (by omega)
  have s2 := sq_bd (p := y - v) (by omega)
  unfold GrS.b GrS.vals at *
  refine Fn.enter Try.func67 rfl Try.ntmps67 (by rfl) ?_
  intro w0
  skip
  refine Cd.seq ?_
  refine Cd.region ?_
  refine Ls.ev (some 6) (Ev.assign (show Oper.op _ = Op.assign (Operand.const (Value.bool false)) from rfl) (by rfl)) (by rfl) (by rfl) ?_
  refine Ls.nil ?_
  refine Cd.seq ?_
  refine Cd.region ?_
  refine Ls.ev (some 14) (Ev.move (show Oper.op _ = Op.move (Operand.tmp 0) from rfl) (by rfl)) (by rfl) (by rfl) ?_
  refine Ls.ev (some 15) (Ev.move (show Oper.op _ = Op.move (Operand.tmp 1) from rfl) (by rfl)) (by rfl) (by rfl) ?_
  refine Ls.does (some 16) (Does.read (show Oper.op _ = Op.call { callee := Callee.value (Operand.func 56), args := #[Operand.tmp 14, Operand.tmp 15], argTypes := #[79, 3] } from rfl) Try.func56 (by kernel_rfl) (by kernel_rfl) (pa) (by rfl) (by rfl) ⟨rblkIn 0 (by rfl), trivial⟩) (by rfl) (by rfl) ?_
  rintro _ -
  refine Ls.ev (some 13) (Ev.move (show Oper.op _ = Op.move (Operand.tmp 16) from rfl) (by rfl)) (by rfl) (by rfl) ?_
  refine Ls.ev (some 17) (Ev.extract (show Oper.op _ = Op.extract (Operand.tmp 13) 0 from rfl) (by rfl) (by rfl)) (by rfl) (by rfl) ?_
  refine Ls.ev (some 18) (Ev.extract (show Oper.op _ = Op.extract (Operand.tmp 13) 1 from rfl) (by rfl) (by rfl)) (by rfl) (by rfl) ?_
  refine Ls.ev (some 19) (Ev.extract (show Oper.op _ = Op.extract (Operand.tmp 13) 2 from rfl) (by rfl) (by rfl)) (by rfl) (by rfl) ?_
  refine Ls.ev (some 7) (Ev.assign (show Oper.op _ = Op.assign (Operand.tmp 17) from rfl) (by rfl)) (by rfl) (by rfl) ?_
  refine Ls.ev (some 8) (Ev.assign (show Oper.op _ = Op.assign (Operand.tmp 18) from rfl) (by rfl)) (by rfl) (by rfl) ?_
  refine Ls.ev (some 9) (Ev.assign (show Oper.op _ = Op.assign (Operand.tmp 19) from rfl) (by rfl)) (by rfl) (by rfl) ?_
  refine Ls.nil ?_
  refine Cd.seq ?_
  refine Cd.region ?_
  refine Ls.ev (some 21) (Ev.move (show Oper.op _ = Op.move (Operand.tmp 0) from rfl) (by rfl)) (by rfl) (by rfl) ?_
  refine Ls.ev (some 22) (Ev.move (show Oper.op _ = Op.move (Operand.tmp 2) from rfl) (by rfl)) (by rfl) (by rfl) ?_
  refine Ls.does (some 23) (Does.read (show Oper.op _ = Op.call { callee := Callee.value (Operand.func 56), args := #[Operand.tmp 21, Operand.tmp 22], argTypes := #[79, 3] } from rfl) Try.func56 (by kernel_rfl) (by kernel_rfl) (pb) (by rfl) (by rfl) ⟨rblkIn 0 (by rfl), trivial⟩) (by rfl) (by rfl) ?_
  rintro _ -
  refine Ls.ev (some 20) (Ev.move (show Oper.op _ = Op.move (Operand.tmp 23) from rfl) (by rfl)) (by rfl) (by rfl) ?_
  refine Ls.ev (some 24) (Ev.extract (show Oper.op _ = Op.extract (Operand.tmp 20) 0 from rfl) (by rfl) (by rfl)) (by rfl) (by rfl) ?_
  refine Ls.ev (some 25) (Ev.extract (show Oper.op _ = Op.extract (Operand.tmp 20) 1 from rfl) (by rfl) (by rfl)) (by rfl) (by rfl) ?_
  refine Ls.ev (some 26) (Ev.extract (show Oper.op _ = Op.extract (Operand.tmp 20) 2 from rfl) (by rfl) (by rfl)) (by rfl) (by rfl) ?_
  refine Ls.ev (some 10) (Ev.assign (show Oper.op _ = Op.assign (Operand.tmp 24) from rfl) (by rfl)) (by rfl) (by rfl) ?_
  refine Ls.ev (some 11) (Ev.assign (show Oper.op _ = Op.assign (Operand.tmp 25) from rfl) (by rfl)) (by rfl) (by rfl) ?_
  refine Ls.ev (some 12) (Ev.assign (show Oper.op _ = Op.assign (Operand.tmp 26) from rfl) (by rfl)) (by rfl) (by rfl) ?_
  refine Ls.nil ?_
  refine Cd.seq ?_
  refine Cd.cut (ι := Unit) (fun _ => [(6, .bool (decide (e1 = 0 ∧ e2 = 0 ∧ (x - u) * (x - u) + (y - v) * (y - v) = 1)))]) (fun _ => []) (fun _ => True) ?_ ?_
  · skip
    refine Cd.region ?_
    refine Ls.ev (some 27) (Ev.move (show Oper.op _ = Op.move (Operand.tmp 9) from rfl) (by rfl)) (by rfl) (by rfl) ?_
    refine Ls.ev (some 28) (Ev.eql (show Oper.op _ = Op.binOp BinOp.eql 30 (Operand.tmp 27) (Operand.const (Value.int IntKind.i64 0)) 30 from rfl) (by rfl) (by rfl)) (by rfl) (by rfl) ?_
    refine Ls.ev (some 29) (Ev.move (show Oper.op _ = Op.move (Operand.tmp 28) from rfl) (by rfl)) (by rfl) (by rfl) ?_
    refine Ent.split 29 (by rfl) (fun hT1 => ?_) (fun hT1 => ?_)
    · first | have hT1 := of_decide_eq_false hT1 | have hT1 := of_not_decide_false hT1 | skip
      refine Ls.pass (some 30) (by rfl) (by rfl) ?_
      refine Ls.pass (some 31) (by rfl) (by rfl) ?_
      refine Ls.ev (some 32) (Ev.pickF (show Oper.op _ = Op.pick (Operand.tmp 29) (Operand.tmp 31) (Operand.const (Value.bool false)) from rfl) (by rfl) (by rfl)) (by rfl) (by rfl) ?_
      refine Ls.ev (some 33) (Ev.move (show Oper.op _ = Op.move (Operand.tmp 32) from rfl) (by rfl)) (by rfl) (by rfl) ?_
      refine Ls.pass (some 34) (by rfl) (by rfl) ?_
      refine Ls.pass (some 35) (by rfl) (by rfl) ?_
      refine Ls.pass (some 36) (by rfl) (by rfl) ?_
      refine Ls.pass (some 37) (by rfl) (by rfl) ?_
      refine Ls.pass (some 38) (by rfl) (by rfl) ?_
      refine Ls.pass (some 39) (by rfl) (by rfl) ?_
      refine Ls.pass (some 40) (by rfl) (by rfl) ?_
      refine Ls.pass (some 41) (by rfl) (by rfl) ?_
      refine Ls.pass (some 42) (by rfl) (by rfl) ?_
      refine Ls.pass (some 43) (by rfl) (by rfl) ?_
      refine Ls.pass (some 44) (by rfl) (by rfl) ?_
      refine Ls.pass (some 45) (by rfl) (by rfl) ?_
      refine Ls.pass (some 46) (by rfl) (by rfl) ?_
      refine Ls.pass (some 47) (by rfl) (by rfl) ?_
      refine Ls.pass (some 48) (by rfl) (by rfl) ?_
      refine Ls.pass (some 49) (by rfl) (by rfl) ?_
      refine Ls.ev (some 50) (Ev.pickF (show Oper.op _ = Op.pick (Operand.tmp 33) (Operand.tmp 49) (Operand.const (Value.bool false)) from rfl) (by rfl) (by rfl)) (by rfl) (by rfl) ?_
      refine Ls.ev (some 6) (Ev.assign (show Oper.op _ = Op.assign (Operand.tmp 50) from rfl) (by rfl)) (by rfl) (by rfl) ?_
      refine Ls.nil ?_
      refine Ent.pick [] (by rfl) ?_
      refine Ent.inv () ?_ ?_ ?_
      · exact trivial
      · (repeat (first | exact trivial | refine ⟨by rfl, ?_⟩ | refine ⟨by simp only [List.length_append, List.length_cons, List.length_nil]; rfl, ?_⟩ | refine ⟨by push_cast; rfl, ?_⟩ | refine ⟨by (show some (Value.bool _) = some (Value.bool _); congr 2; (first | exact (decide_eq_false (fun h => by omega)).symm | exact decide_eq_decide.2 ⟨fun h => ⟨by assumption, by assumption, h⟩, fun h => h.2.2⟩)), ?_⟩))
      · rfl
    · first | have hT1 := of_decide_eq_true hT1 | have hT1 := of_not_decide_true hT1 | skip
      refine Ls.ev (some 30) (Ev.move (show Oper.op _ = Op.move (Operand.tmp 12) from rfl) (by rfl)) (by rfl) (by rfl) ?_
      refine Ls.ev (some 31) (Ev.eql (show Oper.op _ = Op.binOp BinOp.eql 30 (Operand.tmp 30) (Operand.const (Value.int IntKind.i64 0)) 30 from rfl) (by rfl) (by rfl)) (by rfl) (by rfl) ?_
      refine Ls.ev (some 32) (Ev.pickT (show Oper.op _ = Op.pick (Operand.tmp 29) (Operand.tmp 31) (Operand.const (Value.bool false)) from rfl) (by rfl) (by rfl)) (by rfl) (by rfl) ?_
      refine Ls.ev (some 33) (Ev.move (show Oper.op _ = Op.move (Operand.tmp 32) from rfl) (by rfl)) (by rfl) (by rfl) ?_
      refine Ent.split 33 (by rfl) (fun hT2 => ?_) (fun hT2 => ?_)
      · first | have hT2 := of_decide_eq_false hT2 | have hT2 := of_not_decide_false hT2 | skip
        refine Ls.pass (some 34) (by rfl) (by rfl) ?_
        refine Ls.pass (some 35) (by rfl) (by rfl) ?_
        refine Ls.pass (some 36) (by rfl) (by rfl) ?_
        refine Ls.pass (some 37) (by rfl) (by rfl) ?_
        refine Ls.pass (some 38) (by rfl) (by rfl) ?_
        refine Ls.pass (some 39) (by rfl) (by rfl) ?_
        refine Ls.pass (some 40) (by rfl) (by rfl) ?_
        refine Ls.pass (some 41) (by rfl) (by rfl) ?_
        refine Ls.pass (some 42) (by rfl) (by rfl) ?_
        refine Ls.pass (some 43) (by rfl) (by rfl) ?_
        refine Ls.pass (some 44) (by rfl) (by rfl) ?_
        refine Ls.pass (some 45) (by rfl) (by rfl) ?_
        refine Ls.pass (some 46) (by rfl) (by rfl) ?_
        refine Ls.pass (some 47) (by rfl) (by rfl) ?_
        refine Ls.pass (some 48) (by rfl) (by rfl) ?_
        refine Ls.pass (some 49) (by rfl) (by rfl) ?_
        refine Ls.ev (some 50) (Ev.pickF (show Oper.op _ = Op.pick (Operand.tmp 33) (Operand.tmp 49) (Operand.const (Value.bool false)) from rfl) (by rfl) (by rfl)) (by rfl) (by rfl) ?_
        refine Ls.ev (some 6) (Ev.assign (show Oper.op _ = Op.assign (Operand.tmp 50) from rfl) (by rfl)) (by rfl) (by rfl) ?_
        refine Ls.nil ?_
        refine Ent.pick [] (by rfl) ?_
        refine Ent.inv () ?_ ?_ ?_
        · exact trivial
        · (repeat (first | exact trivial | refine ⟨by rfl, ?_⟩ | refine ⟨by simp only [List.length_append, List.length_cons, List.length_nil]; rfl, ?_⟩ | refine ⟨by push_cast; rfl, ?_⟩ | refine ⟨by (show some (Value.bool _) = some (Value.bool _); congr 2; (first | exact (decide_eq_false (fun h => by omega)).symm | exact decide_eq_decide.2 ⟨fun h => ⟨by assumption, by assumption, h⟩, fun h => h.2.2⟩)), ?_⟩))
        · rfl
      · first | have hT2 := of_decide_eq_true hT2 | have hT2 := of_not_decide_true hT2 | skip
        refine Ls.ev (some 34) (Ev.move (show Oper.op _ = Op.move (Operand.tmp 7) from rfl) (by rfl)) (by rfl) (by rfl) ?_
        refine Ls.ev (some 35) (Ev.move (show Oper.op _ = Op.move (Operand.tmp 10) from rfl) (by rfl)) (by rfl) (by rfl) ?_
        refine Ls.ev (some 36) (Ev.subI (show Oper.op _ = Op.binOp BinOp.sub 3 (Operand.tmp 34) (Operand.tmp 35) 3 from rfl) (by rfl) (by rfl) (by omega)) (by rfl) (by rfl) ?_
        refine Ls.ev (some 37) (Ev.move (show Oper.op _ = Op.move (Operand.tmp 7) from rfl) (by rfl)) (by rfl) (by rfl) ?_
        refine Ls.ev (some 38) (Ev.move (show Oper.op _ = Op.move (Operand.tmp 10) from rfl) (by rfl)) (by rfl) (by rfl) ?_
        refine Ls.ev (some 39) (Ev.subI (show Oper.op _ = Op.binOp BinOp.sub 3 (Operand.tmp 37) (Operand.tmp 38) 3 from rfl) (by rfl) (by rfl) (by omega)) (by rfl) (by rfl) ?_
        refine Ls.ev (some 40) (Ev.mulI (show Oper.op _ = Op.binOp BinOp.mul 3 (Operand.tmp 36) (Operand.tmp 39) 3 from rfl) (by rfl) (by rfl) (by omega)) (by rfl) (by rfl) ?_
        refine Ls.ev (some 41) (Ev.move (show Oper.op _ = Op.move (Operand.tmp 8) from rfl) (by rfl)) (by rfl) (by rfl) ?_
        refine Ls.ev (some 42) (Ev.move (show Oper.op _ = Op.move (Operand.tmp 11) from rfl) (by rfl)) (by rfl) (by rfl) ?_
        refine Ls.ev (some 43) (Ev.subI (show Oper.op _ = Op.binOp BinOp.sub 3 (Operand.tmp 41) (Operand.tmp 42) 3 from rfl) (by rfl) (by rfl) (by omega)) (by rfl) (by rfl) ?_
        refine Ls.ev (some 44) (Ev.move (show Oper.op _ = Op.move (Operand.tmp 8) from rfl) (by rfl)) (by rfl) (by rfl) ?_
        refine Ls.ev (some 45) (Ev.move (show Oper.op _ = Op.move (Operand.tmp 11) from rfl) (by rfl)) (by rfl) (by rfl) ?_
        refine Ls.ev (some 46) (Ev.subI (show Oper.op _ = Op.binOp BinOp.sub 3 (Operand.tmp 44) (Operand.tmp 45) 3 from rfl) (by rfl) (by rfl) (by omega)) (by rfl) (by rfl) ?_
        refine Ls.ev (some 47) (Ev.mulI (show Oper.op _ = Op.binOp BinOp.mul 3 (Operand.tmp 43) (Operand.tmp 46) 3 from rfl) (by rfl) (by rfl) (by omega)) (by rfl) (by rfl) ?_
        refine Ls.ev (some 48) (Ev.addI (show Oper.op _ = Op.binOp BinOp.add 3 (Operand.tmp 40) (Operand.tmp 47) 3 from rfl) (by rfl) (by rfl) (by omega)) (by rfl) (by rfl) ?_
        refine Ls.ev (some 49) (Ev.eql (show Oper.op _ = Op.binOp BinOp.eql 3 (Operand.tmp 48) (Operand.const (Value.int IntKind.i64 1)) 3 from rfl) (by rfl) (by rfl)) (by rfl) (by rfl) ?_
        refine Ls.ev (some 50) (Ev.pickT (show Oper.op _ = Op.pick (Operand.tmp 33) (Operand.tmp 49) (Operand.const (Value.bool false)) from rfl) (by rfl) (by rfl)) (by rfl) (by rfl) ?_
        refine Ls.ev (some 6) (Ev.assign (show Oper.op _ = Op.assign (Operand.tmp 50) from rfl) (by rfl)) (by rfl) (by rfl) ?_
        refine Ls.nil ?_
        refine Ent.pick [] (by rfl) ?_
        refine Ent.inv () ?_ ?_ ?_
        · exact trivial
        · (repeat (first | exact trivial | refine ⟨by rfl, ?_⟩ | refine ⟨by simp only [List.length_append, List.length_cons, List.length_nil]; rfl, ?_⟩ | refine ⟨by push_cast; rfl, ?_⟩ | refine ⟨by (show some (Value.bool _) = some (Value.bool _); congr 2; (first | exact (decide_eq_false (fun h => by omega)).symm | exact decide_eq_decide.2 ⟨fun h => ⟨by assumption, by assumption, h⟩, fun h => h.2.2⟩)), ?_⟩))
        · rfl
  skip
  rintro _ -
  skip
  refine Cd.ret ?_
  refine Ent.ret (()) (trivial) (Res.tmp (by rfl) (by rfl)) ?_ [] (by rfl) ?_
  · rfl
  · rfl
omit hm in
def candM (m : MapP) (c : Int) : List Int := [c - m.w, c - 1, c, c + 1, c + m.w]
omit hm in
def stepB (m : MapP) (c x : Int) : Bool := freeM m x && (decide (x = c) || besideM m x c)
theorem next_sl (c : Int) : Fn Try.prog 64 #[.pointer (some ⟨G.g, 0, none⟩), .int .i64 c] [G.b m, G.r m] (Option Addr × Nat × List Int) (fun p => .slice p.1 p.2.2.length p.2.1) (fun p => [rowI p.1 p.2.1 p.2.2]) (fun p => p.2.2.length ≤ 5 ∧ ∀ x, x ∈ p.2.2 ↔ freeM m c = true ∧ x ∈ (candM m c).filter (stepB m c)) := by
  have hw := wh_le hm
  have hf := free_sl G m hm
  have hb := beside_sl G m hm
  unfold GrS.b GrS.vals at *
  refine Fn.enter Try.func64 rfl Try.ntmps64 (by rfl) ?_
  intro w0
  skip
  refine Cd.seq ?_
  refine Cd.region ?_
  refine Ls.ev (some 4) (Ev.assign (show Oper.op _ = Op.assign (Operand.const (Value.slice none 0 0)) from rfl) (by rfl)) (by rfl) (by rfl) ?_
  refine Ls.nil ?_
  refine Cd.seq ?_
  refine Cd.seq ?_
  refine Cd.region ?_
  refine Ls.ev (some 8) (Ev.move (show Oper.op _ = Op.move (Operand.tmp 0) from rfl) (by rfl)) (by rfl) (by rfl) ?_
  refine Ls.ev (some 9) (Ev.move (show Oper.op _ = Op.move (Operand.tmp 1) from rfl) (by rfl)) (by rfl) (by rfl) ?_
  refine Ls.does (some 10) (Does.read (show Oper.op _ = Op.call { callee := Callee.value (Operand.func 57), args := #[Operand.tmp 8, Operand.tmp 9], argTypes := #[79, 3] } from rfl) Try.func57 (by kernel_rfl) (by kernel_rfl) (hf c) (by rfl) (by rfl) ⟨rblkIn 0 (by rfl), rmapIn 1 (by rfl), trivial⟩) (by rfl) (by rfl) ?_
  rintro _ -
  refine Ls.ev (some 11) (Ev.not (show Oper.op _ = Op.unOp UnOp.not 4 (Operand.tmp 10) from rfl) (by rfl)) (by rfl) (by rfl) ?_
  refine Ls.nil ?_
  refine Cd.cond _ (by rfl) (fun h => ?_) (fun h => ?_)
  · skip
    have h : freeM m c = false := by simpa using h
    refine Cd.seq ?_
    refine Cd.region ?_
    refine Ls.ev (some 4) (Ev.assign (show Oper.op _ = Op.assign (Operand.const (Value.slice none 0 0)) from rfl) (by rfl)) (by rfl) (by rfl) ?_
    refine Ls.nil ?_
    refine Ent.nil 3 1 ?_
    refine Cd.ret ?_
    refine Ent.ret ((none, 0, [])) (⟨by decide, fun x => by rw [h]; simp⟩) (Res.tmp (by rfl) (by rfl)) ?_ [0] (by rfl) ?_
    · rfl
    · rfl
  · skip
    have h : freeM m c = true := by simpa using h
    have hc : 0 ≤ c ∧ c < m.w * m.h := by
      unfold freeM at h
      simp only [Bool.and_eq_true] at h
      exact isM_iff.1 h.1
    skip
    refine Cd.skip ?_
    refine Cd.seq ?_
    refine Cd.region ?_
    refine Ls.ev (some 5) (Ev.assign (show Oper.op _ = Op.assign (Operand.const (Value.slice none 0 0)) from rfl) (by rfl)) (by rfl) (by rfl) ?_
    refine Ls.nil ?_
    refine Cd.seq ?_
    refine Cd.seq ?_
    refine Cd.draw [] (by kernel_rfl) ?_
    refine Rg.ev 0 (by rfl) (fun _ h => h) (Ev.move (show Oper.op _ = Op.move (Operand.tmp 1) from rfl) (by rfl)) (by rfl) (some 12) (by rfl) (by kernel_rfl) (by kernel_rfl) (by kernel_rfl) (by kernel_rfl) ?_
    refine Rg.ev 1 (by rfl) (fun _ h => h) (Ev.move (show Oper.op _ = Op.move (Operand.tmp 0) from rfl) (by rfl)) (by rfl) (some 13) (by rfl) (by kernel_rfl) (by kernel_rfl) (by kernel_rfl) (by kernel_rfl) ?_
    refine Rg.ev 2 (by rfl) (fun _ h => h) (Ev.nilCheck (show Oper.op _ = Op.nilCheck (Operand.tmp 13) from rfl) (by rfl)) (by rfl) (some 14) (by rfl) (by kernel_rfl) (by kernel_rfl) (by kernel_rfl) (by kernel_rfl) ?_
    refine Rg.ev 3 (by rfl) (fun _ h => h) (Ev.fieldAddr (k := 0) (show Oper.op _ = Op.fieldAddr 101 (Operand.tmp 14) 0 from rfl) (by rfl) (by kernel_rfl) (by rfl)) (by rfl) (some 15) (by rfl) (by kernel_rfl) (by kernel_rfl) (by kernel_rfl) (by kernel_rfl) ?_
    refine Rg.ev 4 (by rfl) (fun _ h => h) (Ev.fieldAddr (k := 0) (show Oper.op _ = Op.fieldAddr 24 (Operand.tmp 15) 0 from rfl) (by rfl) (by kernel_rfl) (by rfl)) (by rfl) (some 16) (by rfl) (by kernel_rfl) (by kernel_rfl) (by kernel_rfl) (by kernel_rfl) ?_
    refine Rg.ev 5 (by rfl) (fun _ h => h) (Ev.loadB 0 (show Oper.op _ = Op.load 3 (Operand.tmp 16) from rfl) (by rfl) (by rfl) (by kernel_rfl) (by rfl)) (by rfl) (some 17) (by rfl) (by kernel_rfl) (by kernel_rfl) (by kernel_rfl) (by kernel_rfl) ?_
    refine Rg.ev 6 (by rfl) (fun _ h => h) (Ev.subI (show Oper.op _ = Op.binOp BinOp.sub 3 (Operand.tmp 12) (Operand.tmp 17) 3 from rfl) (by rfl) (by rfl) (by omega)) (by rfl) (some 18) (by rfl) (by kernel_rfl) (by kernel_rfl) (by kernel_rfl) (by kernel_rfl) ?_
    refine Rg.ev 7 (by rfl) (fun _ h => h) (Ev.move (show Oper.op _ = Op.move (Operand.tmp 1) from rfl) (by rfl)) (by rfl) (some 19) (by rfl) (by kernel_rfl) (by kernel_rfl) (by kernel_rfl) (by kernel_rfl) ?_
    refine Rg.ev 8 (by rfl) (fun _ h => h) (Ev.subI (show Oper.op _ = Op.binOp BinOp.sub 3 (Operand.tmp 19) (Operand.const (Value.int IntKind.i64 1)) 3 from rfl) (by rfl) (by rfl) (by omega)) (by rfl) (some 20) (by rfl) (by kernel_rfl) (by kernel_rfl) (by kernel_rfl) (by kernel_rfl) ?_
    refine Rg.ev 9 (by rfl) (fun _ h => h) (Ev.move (show Oper.op _ = Op.move (Operand.tmp 1) from rfl) (by rfl)) (by rfl) (some 21) (by rfl) (by kernel_rfl) (by kernel_rfl) (by kernel_rfl) (by kernel_rfl) ?_
    refine Rg.ev 10 (by rfl) (fun _ h => h) (Ev.move (show Oper.op _ = Op.move (Operand.tmp 1) from rfl) (by rfl)) (by rfl) (some 22) (by rfl) (by kernel_rfl) (by kernel_rfl) (by kernel_rfl) (by kernel_rfl) ?_
    refine Rg.ev 11 (by rfl) (fun _ h => h) (Ev.addI (show Oper.op _ = Op.binOp BinOp.add 3 (Operand.tmp 22) (Operand.const (Value.int IntKind.i64 1)) 3 from rfl) (by rfl) (by rfl) (by omega)) (by rfl) (some 23) (by rfl) (by kernel_rfl) (by kernel_rfl) (by kernel_rfl) (by kernel_rfl) ?_
    refine Rg.ev 12 (by rfl) (fun _ h => h) (Ev.move (show Oper.op _ = Op.move (Operand.tmp 1) from rfl) (by rfl)) (by rfl) (some 24) (by rfl) (by kernel_rfl) (by kernel_rfl) (by kernel_rfl) (by kernel_rfl) ?_
    refine Rg.ev 13 (by rfl) (fun _ h => h) (Ev.move (show Oper.op _ = Op.move (Operand.tmp 0) from rfl) (by rfl)) (by rfl) (some 25) (by rfl) (by kernel_rfl) (by kernel_rfl) (by kernel_rfl) (by kernel_rfl) ?_
    refine Rg.ev 14 (by rfl) (fun _ h => h) (Ev.nilCheck (show Oper.op _ = Op.nilCheck (Operand.tmp 25) from rfl) (by rfl)) (by rfl) (some 26) (by rfl) (by kernel_rfl) (by kernel_rfl) (by kernel_rfl) (by kernel_rfl) ?_
    refine Rg.ev 15 (by rfl) (fun _ h => h) (Ev.fieldAddr (k := 0) (show Oper.op _ = Op.fieldAddr 101 (Operand.tmp 26) 0 from rfl) (by rfl) (by kernel_rfl) (by rfl)) (by rfl) (some 27) (by rfl) (by kernel_rfl) (by kernel_rfl) (by kernel_rfl) (by kernel_rfl) ?_
    refine Rg.ev 16 (by rfl) (fun _ h => h) (Ev.fieldAddr (k := 0) (show Oper.op _ = Op.fieldAddr 24 (Operand.tmp 27) 0 from rfl) (by rfl) (by kernel_rfl) (by rfl)) (by rfl) (some 28) (by rfl) (by kernel_rfl) (by kernel_rfl) (by kernel_rfl) (by kernel_rfl) ?_
    refine Rg.ev 17 (by rfl) (fun _ h => h) (Ev.loadB 0 (show Oper.op _ = Op.load 3 (Operand.tmp 28) from rfl) (by rfl) (by rfl) (by kernel_rfl) (by rfl)) (by rfl) (some 29) (by rfl) (by kernel_rfl) (by kernel_rfl) (by kernel_rfl) (by kernel_rfl) ?_
    refine Rg.ev 18 (by rfl) (fun _ h => h) (Ev.addI (show Oper.op _ = Op.binOp BinOp.add 3 (Operand.tmp 24) (Operand.tmp 29) 3 from rfl) (by rfl) (by rfl) (by omega)) (by rfl) (some 30) (by rfl) (by kernel_rfl) (by kernel_rfl) (by kernel_rfl) (by kernel_rfl) ?_
    refine Rg.ev 21 (by rfl) (fun _ h => h) (Ev.move (show Oper.op _ = Op.move (Operand.const (Value.int IntKind.i64 0)) from rfl) (by rfl)) (by rfl) (some 33) (by rfl) (by kernel_rfl) (by kernel_rfl) (by kernel_rfl) (by kernel_rfl) ?_
    refine Rg.does 19 (by rfl) (by kernel_rfl) (Does.lit (sz := 1) (show Oper.op _ = Op.buildSlice 22 5 #[(0, Operand.tmp 18), (1, Operand.tmp 20), (2, Operand.tmp 21), (3, Operand.tmp 23), (4, Operand.tmp 30)] from rfl) (by rfl) Try.underlying22 (by kernel_rfl) (by rfl) (by kernel_rfl)) (by rfl) (some 31) (by rfl) (fun _ _ h => h.tail_) ?_
    intro g1 _
    refine Rg.ev 20 (by rfl) (fun _ h => h) (Ev.len (show Oper.op _ = Op.call { callee := Callee.builtin Builtin.len, args := #[Operand.tmp 31], argTypes := #[22] } from rfl) (by rfl) Try.underlying22) (by rfl) (some 32) (by rfl) (by kernel_rfl) (by kernel_rfl) (by kernel_rfl) (by kernel_rfl) ?_
    refine Rg.done (by kernel_rfl) ?_ _
    refine Cd.block ?_
    refine Ent.nil 3 1 ?_
    refine Ent.see 1 (by rfl) (Ent.pick [0, 1, 2, 3] (by rfl) ?_)
    refine Cd.loop (ι := Nat × Option Addr × Nat) (fun j => [(0, .pointer (some ⟨G.g, 0, none⟩)), (1, .int .i64 c), (5, .slice j.2.1 (((candM m c).take j.1).filter (stepB m c)).length j.2.2), (31, .slice (some ⟨g1, 0, none⟩) 5 5), (32, .int .i64 5), (33, .int .i64 j.1)]) (fun j => [rowI j.2.1 j.2.2 (((candM m c).take j.1).filter (stepB m c)), rd (some ⟨g1, 0, none⟩) 5 1 (ints (candM m c)), G.b m, G.r m]) (fun j => j.1 ≤ 5) (fun j => 5 - j.1) ((0, none, 0)) (Nat.zero_le _) ?_ rfl ?_
    · (repeat (first | exact trivial | refine ⟨by rfl, ?_⟩))
    rintro ⟨k, oA, oc⟩ hk
    dsimp only at hk ⊢
    unfold GrS.b GrS.vals
    have hol : (((candM m c).take k).filter (stepB m c)).length ≤ 5 := Nat.le_trans (List.length_filter_le _ _) (by rw [List.length_take]; show min k 5 ≤ 5; omega)
    refine Cd.seq ?_
    refine Cd.region ?_
    refine Ls.ev (some 34) (Ev.lss (show Oper.op _ = Op.binOp BinOp.lss 3 (Operand.tmp 33) (Operand.tmp 32) 3 from rfl) (by rfl) (by rfl)) (by rfl) (by rfl) ?_
    refine Ls.nil ?_
    refine Cd.seq ?_
    refine Cd.cond _ (by rfl) (fun h2 => ?_) (fun h2 => ?_)
    · skip
      have hlt : k < 5 := by have := of_decide_eq_true h2; omega
      obtain ⟨x, hx⟩ := get_of_lt (show k < (candM m c).length from hlt)
      have hxs : (candM m c).take (k + 1) = (candM m c).take k ++ [x] := by rw [List.take_add_one, hx]; rfl
      have hstep : ((candM m c).take (k + 1)).filter (stepB m c) = ((candM m c).take k).filter (stepB m c) ++ (if stepB m c x = true then [x] else []) := by
        rw [hxs, List.filter_append]
        congr 1
        by_cases hs : stepB m c x = true
        · rw [List.filter_cons, if_pos hs, if_pos hs]; rfl
        · rw [List.filter_cons, if_neg hs, if_neg hs]; rfl
      refine Cd.skip ?_
      refine Cd.seq ?_
      refine Cd.block ?_
      refine Cd.seq ?_
      refine Cd.region ?_
      refine Ls.ev (some 35) (Ev.indexAt (sz := 1) (show Oper.op _ = Op.indexAddr 22 (Operand.tmp 31) (Operand.tmp 33) from rfl) (by rfl) (by rfl) Try.underlying22 (by kernel_rfl) (by omega)) (by rfl) (by rfl) ?_
      refine Ls.ev (some 36) (Ev.loadInt (show Oper.op _ = Op.load 3 (Operand.tmp 35) from rfl) (by rfl) (ReadsIn.rd 1 (by rfl)) (by kernel_rfl) (by assumption)) (by rfl) (by rfl) ?_
      refine Ls.ev (some 7) (Ev.assign (show Oper.op _ = Op.assign (Operand.tmp 36) from rfl) (by rfl)) (by rfl) (by rfl) ?_
      refine Ls.nil ?_
      refine Cd.seq ?_
      refine Cd.cut (ι := Unit) (fun _ => [(0, .pointer (some ⟨G.g, 0, none⟩)), (1, .int .i64 c), (5, .slice oA (((candM m c).take k).filter (stepB m c)).length oc), (7, .int .i64 x), (31, .slice (some ⟨g1, 0, none⟩) 5 5), (32, .int .i64 5), (33, .int .i64 k), (50, .bool (stepB m c x))]) (fun _ => [rowI oA oc (((candM m c).take k).filter (stepB m c)), rd (some ⟨g1, 0, none⟩) 5 1 (ints (candM m c)), G.b m, G.r m]) (fun _ => True) ?_ ?_
      · skip
        unfold GrS.b GrS.vals
        refine Cd.region ?_
        refine Ls.ev (some 37) (Ev.move (show Oper.op _ = Op.move (Operand.tmp 0) from rfl) (by rfl)) (by rfl) (by rfl) ?_
        refine Ls.ev (some 38) (Ev.move (show Oper.op _ = Op.move (Operand.tmp 7) from rfl) (by rfl)) (by rfl) (by rfl) ?_
        refine Ls.does (some 39) (Does.read (show Oper.op _ = Op.call { callee := Callee.value (Operand.func 57), args := #[Operand.tmp 37, Operand.tmp 38], argTypes := #[79, 3] } from rfl) Try.func57 (by kernel_rfl) (by kernel_rfl) (hf x) (by rfl) (by rfl) ⟨rblkIn 2 (by rfl), rmapIn 3 (by rfl), trivial⟩) (by rfl) (by rfl) ?_
        rintro _ -
        refine Ls.ev (some 40) (Ev.move (show Oper.op _ = Op.move (Operand.tmp 39) from rfl) (by rfl)) (by rfl) (by rfl) ?_
        refine Ent.split 40 (by rfl) (fun h3 => ?_) (fun h3 => ?_)
        · skip
          refine Ls.pass (some 41) (by rfl) (by rfl) ?_
          refine Ls.pass (some 42) (by rfl) (by rfl) ?_
          refine Ls.pass (some 43) (by rfl) (by rfl) ?_
          refine Ls.pass (some 44) (by rfl) (by rfl) ?_
          refine Ls.pass (some 45) (by rfl) (by rfl) ?_
          refine Ls.pass (some 46) (by rfl) (by rfl) ?_
          refine Ls.pass (some 47) (by rfl) (by rfl) ?_
          refine Ls.pass (some 48) (by rfl) (by rfl) ?_
          refine Ls.pass (some 49) (by rfl) (by rfl) ?_
          refine Ls.ev (some 50) (Ev.pickF (show Oper.op _ = Op.pick (Operand.tmp 40) (Operand.tmp 49) (Operand.const (Value.bool false)) from rfl) (by rfl) (by rfl)) (by rfl) (by rfl) ?_
          refine Ls.nil ?_
          refine Ent.inv (()) ?_ ?_ ?_
          · (try dsimp only); skip
          · (repeat (first | exact trivial | refine ⟨by rfl, ?_⟩ | refine ⟨by simp only [List.length_append, List.length_cons, List.length_nil]; rfl, ?_⟩ | refine ⟨by push_cast; rfl, ?_⟩ | refine ⟨by (show some (Value.bool _) = some (Value.bool _); unfold stepB; rw [h3]; rfl), ?_⟩))
          · rfl
        · skip
          refine Ls.ev (some 41) (Ev.move (show Oper.op _ = Op.move (Operand.tmp 7) from rfl) (by rfl)) (by rfl) (by rfl) ?_
          refine Ls.ev (some 42) (Ev.move (show Oper.op _ = Op.move (Operand.tmp 1) from rfl) (by rfl)) (by rfl) (by rfl) ?_
          refine Ls.ev (some 43) (Ev.eql (show Oper.op _ = Op.binOp BinOp.eql 3 (Operand.tmp 41) (Operand.tmp 42) 3 from rfl) (by rfl) (by rfl)) (by rfl) (by rfl) ?_
          refine Ls.ev (some 44) (Ev.move (show Oper.op _ = Op.move (Operand.tmp 43) from rfl) (by rfl)) (by rfl) (by rfl) ?_
          refine Ent.split 44 (by rfl) (fun h4 => ?_) (fun h4 => ?_)
          · skip
            refine Ls.ev (some 45) (Ev.move (show Oper.op _ = Op.move (Operand.tmp 0) from rfl) (by rfl)) (by rfl) (by rfl) ?_
            refine Ls.ev (some 46) (Ev.move (show Oper.op _ = Op.move (Operand.tmp 7) from rfl) (by rfl)) (by rfl) (by rfl) ?_
            refine Ls.ev (some 47) (Ev.move (show Oper.op _ = Op.move (Operand.tmp 1) from rfl) (by rfl)) (by rfl) (by rfl) ?_
            refine Ls.does (some 48) (Does.read (show Oper.op _ = Op.call { callee := Callee.value (Operand.func 67), args := #[Operand.tmp 45, Operand.tmp 46, Operand.tmp 47], argTypes := #[79, 3, 3] } from rfl) Try.func67 (by kernel_rfl) (by kernel_rfl) (hb x c) (by rfl) (by rfl) ⟨rblkIn 2 (by rfl), trivial⟩) (by rfl) (by rfl) ?_
            rintro _ -
            refine Ls.ev (some 49) (Ev.pickF (show Oper.op _ = Op.pick (Operand.tmp 44) (Operand.const (Value.bool true)) (Operand.tmp 48) from rfl) (by rfl) (by rfl)) (by rfl) (by rfl) ?_
            refine Ls.ev (some 50) (Ev.pickT (show Oper.op _ = Op.pick (Operand.tmp 40) (Operand.tmp 49) (Operand.const (Value.bool false)) from rfl) (by rfl) (by rfl)) (by rfl) (by rfl) ?_
            refine Ls.nil ?_
            refine Ent.inv (()) ?_ ?_ ?_
            · (try dsimp only); skip
            · (repeat (first | exact trivial | refine ⟨by rfl, ?_⟩ | refine ⟨by simp only [List.length_append, List.length_cons, List.length_nil]; rfl, ?_⟩ | refine ⟨by push_cast; rfl, ?_⟩ | refine ⟨by (show some (Value.bool _) = some (Value.bool _); unfold stepB; rw [h3, h4]; rfl), ?_⟩))
            · rfl
          · skip
            refine Ls.pass (some 45) (by rfl) (by rfl) ?_
            refine Ls.pass (some 46) (by rfl) (by rfl) ?_
            refine Ls.pass (some 47) (by rfl) (by rfl) ?_
            refine Ls.pass (some 48) (by rfl) (by rfl) ?_
            refine Ls.ev (some 49) (Ev.pickT (show Oper.op _ = Op.pick (Operand.tmp 44) (Operand.const (Value.bool true)) (Operand.tmp 48) from rfl) (by rfl) (by rfl)) (by rfl) (by rfl) ?_
            refine Ls.ev (some 50) (Ev.pickT (show Oper.op _ = Op.pick (Operand.tmp 40) (Operand.tmp 49) (Operand.const (Value.bool false)) from rfl) (by rfl) (by rfl)) (by rfl) (by rfl) ?_
            refine Ls.nil ?_
            refine Ent.inv (()) ?_ ?_ ?_
            · (try dsimp only); skip
            · (repeat (first | exact trivial | refine ⟨by rfl, ?_⟩ | refine ⟨by simp only [List.length_append, List.length_cons, List.length_nil]; rfl, ?_⟩ | refine ⟨by push_cast; rfl, ?_⟩ | refine ⟨by (show some (Value.bool _) = some (Value.bool _); unfold stepB; rw [h3, h4]; rfl), ?_⟩))
            · rfl
      skip
      rintro _ -
      unfold GrS.b GrS.vals
      refine Cd.cond _ (by rfl) (fun h5 => ?_) (fun h5 => ?_)
      · skip
        rw [if_pos h5] at hstep
        refine Cd.region ?_
        refine Ls.ev (some 51) (Ev.move (show Oper.op _ = Op.move (Operand.tmp 5) from rfl) (by rfl)) (by rfl) (by rfl) ?_
        refine Ls.ev (some 52) (Ev.move (show Oper.op _ = Op.move (Operand.tmp 7) from rfl) (by rfl)) (by rfl) (by rfl) ?_
        refine Ls.does (some 53) (Does.lit (sz := 1) (show Oper.op _ = Op.buildSlice 22 1 #[(0, Operand.tmp 52)] from rfl) (by rfl) Try.underlying22 (by kernel_rfl) (by rfl) (by kernel_rfl)) (by rfl) (by rfl) ?_
        intro g2 _
        refine Ls.does (some 54) (Does.app (xs := ints (((candM m c).take k).filter (stepB m c))) (news := ints [x]) 1 (show Oper.op _ = Op.call { callee := Callee.builtin Builtin.append, args := #[Operand.tmp 51, Operand.tmp 53], argTypes := #[22, 22] } from rfl) (by rfl) (by rfl) (by rfl) (ReadsIn.row 0 (by rfl)) elem_int (one_ints _) (by omega)) (by rfl) (by rfl) ?_
        intro q _
        refine Ls.ev (some 5) (Ev.assign (show Oper.op _ = Op.assign (Operand.tmp 54) from rfl) (by rfl)) (by rfl) (by rfl) ?_
        refine Ls.nil ?_
        refine Cd.region ?_
        refine Ls.ev (some 55) (Ev.addN (b := 1) (show Oper.op _ = Op.binOp BinOp.add 3 (Operand.tmp 33) (Operand.const (Value.int IntKind.i64 1)) 3 from rfl) (by rfl) (by rfl) (by omega)) (by rfl) (by rfl) ?_
        refine Ls.ev (some 33) (Ev.move (show Oper.op _ = Op.move (Operand.tmp 55) from rfl) (by rfl)) (by rfl) (by rfl) ?_
        refine Ls.nil ?_
        refine Ent.pick [1, 2, 3, 4] (by rfl) ?_
        refine Ent.inv ((k + 1, q.1, q.2)) ?_ ?_ ?_
        · (try dsimp only); exact ⟨by omega, by omega⟩
        · (repeat (first | exact trivial | refine ⟨by rfl, ?_⟩ | refine ⟨by simp only [List.length_append, List.length_cons, List.length_nil]; rfl, ?_⟩ | refine ⟨by push_cast; rfl, ?_⟩ | refine ⟨by (show some (Value.slice _ _ _) = some (Value.slice _ _ _); dsimp only; rw [hstep, List.length_append]; rfl), ?_⟩))
        · (show [_, _, _, _] = [_, _, _, _]; dsimp only [rowI]; rw [hstep, List.length_append, ints_append]; rfl)
      · skip
        rw [if_neg (by rw [h5]; decide), List.append_nil] at hstep
        refine Cd.skip ?_
        refine Cd.region ?_
        refine Ls.ev (some 55) (Ev.addN (b := 1) (show Oper.op _ = Op.binOp BinOp.add 3 (Operand.tmp 33) (Operand.const (Value.int IntKind.i64 1)) 3 from rfl) (by rfl) (by rfl) (by omega)) (by rfl) (by rfl) ?_
        refine Ls.ev (some 33) (Ev.move (show Oper.op _ = Op.move (Operand.tmp 55) from rfl) (by rfl)) (by rfl) (by rfl) ?_
        refine Ls.nil ?_
        refine Ent.inv ((k + 1, oA, oc)) ?_ ?_ ?_
        · (try dsimp only); exact ⟨by omega, by omega⟩
        · (repeat (first | exact trivial | refine ⟨by rfl, ?_⟩ | refine ⟨by simp only [List.length_append, List.length_cons, List.length_nil]; rfl, ?_⟩ | refine ⟨by push_cast; rfl, ?_⟩ | refine ⟨by (show some (Value.slice _ _ _) = some (Value.slice _ _ _); dsimp only; rw [hstep]), ?_⟩))
        · (show [_, _, _, _] = [_, _, _, _]; dsimp only [rowI]; rw [hstep])
    · skip
      have hk5 : k = 5 := by have := of_decide_eq_false h2; omega
      subst hk5
      have ht : (candM m c).take 5 = candM m c := rfl
      rw [ht] at hol ⊢
      generalize hfl : (candM m c).filter (stepB m c) = fl at hol ⊢
      refine Cd.exit ?_
      refine Cd.seq ?_
      refine Cd.region ?_
      refine Ls.ev (some 56) (Ev.move (show Oper.op _ = Op.move (Operand.tmp 5) from rfl) (by rfl)) (by rfl) (by rfl) ?_
      refine Ls.does (some 57) (Does.call [0] (show Oper.op _ = Op.call { callee := Callee.value (Operand.func 68), args := #[Operand.tmp 56], argTypes := #[22] } from rfl) Try.func68 (by kernel_rfl) (by kernel_rfl) (sort_sl oA oc fl (by omega)) (by rfl) (by rfl) (by rfl)) (by rfl) (by rfl) ?_
      rintro _ -
      have hsl := sortI_len fl
      rw [← hsl]
      refine Ls.nil ?_
      refine Cd.seq ?_
      refine Cd.region ?_
      refine Ls.ev (some 58) (Ev.move (show Oper.op _ = Op.move (Operand.tmp 5) from rfl) (by rfl)) (by rfl) (by rfl) ?_
      refine Ls.does (some 59) (Does.call [0] (show Oper.op _ = Op.call { callee := Callee.value (Operand.func 69), args := #[Operand.tmp 58], argTypes := #[22] } from rfl) Try.func69 (by kernel_rfl) (by kernel_rfl) (compact_sl oA oc (sortI fl) (by omega)) (by rfl) (by rfl) (by rfl)) (by rfl) (by rfl) ?_
      rintro _ -
      have hcl := compact_len (sortI fl)
      refine Ls.ev (some 4) (Ev.assign (show Oper.op _ = Op.assign (Operand.tmp 59) from rfl) (by rfl)) (by rfl) (by rfl) ?_
      refine Ls.nil ?_
      refine Cd.ret ?_
      refine Ent.ret ((oA, oc, Lib.compact (sortI fl))) (⟨by dsimp only; omega, fun x => by dsimp only; rw [compact_mem, sortI_mem]; exact ⟨fun hx => ⟨h, hx⟩, fun hx => hx.2⟩⟩) (Res.tmp (by rfl) (by rfl)) ?_ [0] (by rfl) ?_
      · rfl
      · rfl
omit hm in
theorem bes_cand {a b : Int} (h : besB m.w b a = true) : b ∈ candM m a := by
  unfold besB at h
  have h := of_decide_eq_true h
  have ea := Int.mul_ediv_add_emod a m.w
  have eb := Int.mul_ediv_add_emod b m.w
  unfold candM
  simp only [List.mem_cons, List.not_mem_nil, or_false]
  rcases h with ⟨h1, h2 | h2⟩ | ⟨h1, h2 | h2⟩
  · have : b / m.w = a / m.w + 1 := by omega
    rw [this, Int.mul_add, Int.mul_one] at eb
    omega
  · have : b / m.w = a / m.w - 1 := by omega
    rw [this, Int.mul_sub, Int.mul_one] at eb
    omega
  · have : b / m.w = a / m.w := by omega
    rw [this] at eb
    omega
  · have : b / m.w = a / m.w := by omega
    rw [this] at eb
    omega
omit hm in
theorem bes_symm (a b : Int) : besideM m a b = besideM m b a := by
  unfold besideM besB
  rw [Bool.and_comm (isM m a)]
  congr 1
  refine decide_eq_decide.2 ?_
  omega
theorem near_sl (a b : Int) : Fn Try.prog 58 #[.pointer (some ⟨G.g, 0, none⟩), .int .i64 a, .int .i64 b] [G.b m, G.r m] Unit (fun _ => .bool (nearM m a b)) (fun _ => []) (fun _ => True) := by
  refine Fn.enter Try.func58 rfl Try.ntmps58 (by rfl) ?_
  intro w0
  refine Cd.seq ?_
  refine Cd.region ?_
  refine Ls.ev (some 6) (Ev.assign (show Oper.op _ = Op.assign (Operand.const (Value.bool false)) from rfl) (by rfl)) (by rfl) (by rfl) ?_
  refine Ls.nil ?_
  refine Cd.seq ?_
  refine Cd.region ?_
  refine Ls.ev (some 7) (Ev.move (show Oper.op _ = Op.move (Operand.tmp 0) from rfl) (by rfl)) (by rfl) (by rfl) ?_
  refine Ls.ev (some 8) (Ev.move (show Oper.op _ = Op.move (Operand.tmp 1) from rfl) (by rfl)) (by rfl) (by rfl) ?_
  refine Ls.does (some 9) (Does.readN (show Oper.op _ = Op.call { callee := Callee.value (Operand.func 64), args := #[Operand.tmp 7, Operand.tmp 8], argTypes := #[79, 3] } from rfl) Try.func64 (by kernel_rfl) (by kernel_rfl) (next_sl G m hm a) (by rfl) (by rfl) ⟨rblkIn 0 (by rfl), rmapIn 1 (by rfl), trivial⟩ (fun _ => by rfl)) (by rfl) (by rfl) ?_
  rintro ⟨A, c, l⟩ ⟨hl, hmem⟩
  dsimp only at hl hmem ⊢
  refine Ls.ev (some 10) (Ev.move (show Oper.op _ = Op.move (Operand.tmp 2) from rfl) (by rfl)) (by rfl) (by rfl) ?_
  refine Ls.does (some 11) (Does.read (show Oper.op _ = Op.call { callee := Callee.value (Operand.func 63), args := #[Operand.tmp 9, Operand.tmp 10], argTypes := #[22, 3] } from rfl) Try.func63 (by kernel_rfl) (by kernel_rfl) (contains_sl A c l b (by omega)) (by rfl) (by rfl) ⟨ReadsIn.row 0 (by rfl), trivial⟩) (by rfl) (by rfl) ?_
  rintro _ -
  refine Ls.ev (some 6) (Ev.assign (show Oper.op _ = Op.assign (Operand.tmp 11) from rfl) (by rfl)) (by rfl) (by rfl) ?_
  refine Ls.nil ?_
  refine Cd.ret ?_
  refine Ent.ret (()) (trivial) (Res.tmp (by rfl) (by rfl)) ?_ [] (by rfl) ?_
  · show Value.bool (decide (b ∈ l)) = Value.bool (nearM m a b)
    congr 1
    rw [Bool.eq_iff_iff, decide_eq_true_eq, hmem, List.mem_filter]
    unfold stepB nearM
    rw [bes_symm m a b]
    simp only [Bool.and_eq_true, Bool.or_eq_true, decide_eq_true_eq]
    constructor
    · rintro ⟨h1, _, h2, h3⟩
      exact ⟨⟨h1, h2⟩, h3.imp (fun e => e.symm) id⟩
    · rintro ⟨⟨h1, h2⟩, h3⟩
      refine ⟨h1, ?_, h2, h3.imp (fun e => e.symm) id⟩
      rcases h3 with h3 | h3
      · subst h3
        simp [candM]
      · unfold besideM at h3
        simp only [Bool.and_eq_true] at h3
        exact bes_cand m h3.2
  · rfl
end
end Go.Proofs.Ytegjoabfoddadaa
