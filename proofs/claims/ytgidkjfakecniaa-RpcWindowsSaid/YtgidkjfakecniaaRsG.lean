/- the document's window, over pieces -/
import Derived.Test.YtgidkjfakecniaaRsE
namespace Go.Proofs.Ytgidkjfakecniaa
open Go.RowKit
theorem elem_seen : Elem Try.prog 77 85 7 72 := elem_of (by kernel_rfl)
def encS (p : Int × SeenD) : List Value := [.int .i64 p.1, .int .i64 p.2.id, .bool p.2.dn, .int .i64 p.2.code, .int .i64 p.2.ep, .int .i64 p.2.st, .slice p.2.A p.2.xs.length p.2.c]
theorem encS_len (p : Int × SeenD) : (encS p).length = 7 := rfl
theorem encS_one (p : Int × SeenD) : ∀ u ∈ encS p, u.oneCell' = true := by
  intro u hu
  simp only [encS, List.mem_cons, List.not_mem_nil, or_false] at hu
  rcases hu with h | h | h | h | h | h | h <;> subst h <;> rfl
/-- What the list says of a client. -/
def lkL : List (Int × SeenD) → Int → SeenD
  | [], _ => SeenD.zero
  | p :: r, q => if p.1 = q then p.2 else lkL r q
def loadL (l : List (Int × SeenD)) (q : Int) (s : SeenD) : List (Int × SeenD) := l.filter (fun p => decide (p.1 ≠ q)) ++ (if s.id < 1 then [] else [(q, if s.dn = true then s else newD s.id)])
theorem drop_of_get {α : Type} {l : List α} {k : Nat} {a : α} (h : l[k]? = some a) : l.drop k = a :: l.drop (k + 1) := by
  obtain ⟨hk, rfl⟩ := List.getElem?_eq_some_iff.1 h
  exact List.drop_eq_getElem_cons hk

theorem refLast_sl (A : Option Addr) (c : Nat) (l : List (Int × SeenD)) (q : Int) (hn : l.length ≤ 1000000) :
    Fn Try.prog 32 #[.slice A l.length c, .int .i64 q] [rd A l.length 7 (l.flatMap encS)] Unit (fun _ => .agg (encS (q, lkL l q)).toArray) (fun _ => []) (fun _ => True) := by
  refine Fn.enter Try.func32 rfl Try.ntmps32 (by rfl) ?_
  intro w0
  refine Cd.seq ?_
  refine Cd.region ?_
  refine Ls.does (some 4) (Does.alloc (cs := [.int .i64 0, .int .i64 0, .bool false, .int .i64 0, .int .i64 0, .int .i64 0, .slice none 0 0]) (show Oper.op _ = Op.alloc 85 from rfl) (ZeroIs.mk (.agg #[.int .i64 0, .int .i64 0, .bool false, .int .i64 0, .int .i64 0, .int .i64 0, .slice none 0 0]) (by kernel_rfl) (by rfl))) (by rfl) (by rfl) ?_
  intro g1 _
  refine Ls.nil ?_
  refine Cd.seq ?_
  refine Cd.seq ?_
  refine Cd.region ?_
  refine Ls.ev (some 5) (Ev.assign (show Oper.op _ = Op.assign (Operand.const (Value.int IntKind.i64 0)) from rfl) (by rfl)) (by rfl) (by rfl) ?_
  refine Ls.nil ?_
  refine Cd.block ?_
  refine Cd.loop (ι := Nat) (fun k => [(0, .slice A l.length c), (1, .int .i64 q), (4, .pointer (some ⟨g1, 0, none⟩)), (5, .int .i64 k)]) (fun _ => [blk g1 85 [.int .i64 0, .int .i64 0, .bool false, .int .i64 0, .int .i64 0, .int .i64 0, .slice none 0 0], rd A l.length 7 (l.flatMap encS)]) (fun k => k ≤ l.length ∧ lkL l q = lkL (l.drop k) q) (fun k => l.length - k) (0) (⟨Nat.zero_le _, rfl⟩) ?_ rfl ?_
  · (repeat (first | exact trivial | refine ⟨by rfl, ?_⟩))
  intro k ⟨hk, hlk⟩
  refine Cd.seq ?_
  refine Cd.seq ?_
  refine Cd.region ?_
  refine Ls.ev (some 6) (Ev.move (show Oper.op _ = Op.move (Operand.tmp 5) from rfl) (by rfl)) (by rfl) (by rfl) ?_
  refine Ls.ev (some 7) (Ev.move (show Oper.op _ = Op.move (Operand.tmp 0) from rfl) (by rfl)) (by rfl) (by rfl) ?_
  refine Ls.ev (some 8) (Ev.len (show Oper.op _ = Op.call { callee := Callee.builtin Builtin.len, args := #[Operand.tmp 7], argTypes := #[77] } from rfl) (by rfl) Try.underlying77) (by rfl) (by rfl) ?_
  refine Ls.ev (some 9) (Ev.lss (show Oper.op _ = Op.binOp BinOp.lss 3 (Operand.tmp 6) (Operand.tmp 8) 3 from rfl) (by rfl) (by rfl)) (by rfl) (by rfl) ?_
  refine Ls.nil ?_
  refine Cd.cond _ (by rfl) (fun h => ?_) (fun h => ?_)
  · skip
    have hlt : k < l.length := by have := of_decide_eq_true h; omega
    obtain ⟨p, hp⟩ := get_of_lt hlt
    rw [drop_of_get hp, lkL] at hlk
    refine Ent.rdSome 1 (by rfl) (by omega) (fun ax hax => ?_)
    subst hax
    refine Cd.skip ?_
    refine Cd.seq ?_
    refine Cd.block ?_
    refine Cd.seq ?_
    refine Cd.region ?_
    refine Ls.ev (some 12) (Ev.move (show Oper.op _ = Op.move (Operand.tmp 0) from rfl) (by rfl)) (by rfl) (by rfl) ?_
    refine Ls.ev (some 13) (Ev.move (show Oper.op _ = Op.move (Operand.tmp 5) from rfl) (by rfl)) (by rfl) (by rfl) ?_
    refine Ls.ev (some 14) (Ev.indexAt (sz := 7) (show Oper.op _ = Op.indexAddr 77 (Operand.tmp 12) (Operand.tmp 13) from rfl) (by rfl) (by rfl) Try.underlying77 (by kernel_rfl) (by omega)) (by rfl) (by rfl) ?_
    refine Ls.ev (some 15) (Ev.fieldAddrA (k := 0) (show Oper.op _ = Op.fieldAddr 85 (Operand.tmp 14) 0 from rfl) (by rfl) (by kernel_rfl)) (by rfl) (by rfl) ?_
    refine Ls.ev (some 16) (Ev.loadElF (show Oper.op _ = Op.load 3 (Operand.tmp 15) from rfl) (by rfl) (ReadsIn.rd 1 (by rfl)) (by kernel_rfl) (by intro _; rfl) (by assumption) (by rfl)) (by rfl) (by rfl) ?_
    refine Ls.ev (some 17) (Ev.move (show Oper.op _ = Op.move (Operand.tmp 1) from rfl) (by rfl)) (by rfl) (by rfl) ?_
    refine Ls.ev (some 18) (Ev.eql (show Oper.op _ = Op.binOp BinOp.eql 3 (Operand.tmp 16) (Operand.tmp 17) 3 from rfl) (by rfl) (by rfl)) (by rfl) (by rfl) ?_
    refine Ls.nil ?_
    refine Cd.cond _ (by rfl) (fun h2 => ?_) (fun h2 => ?_)
    · skip
      have h2 : p.1 = q := of_decide_eq_true h2
      rw [if_pos h2] at hlk
      refine Cd.seq ?_
      refine Cd.region ?_
      refine Ls.ev (some 19) (Ev.move (show Oper.op _ = Op.move (Operand.tmp 0) from rfl) (by rfl)) (by rfl) (by rfl) ?_
      refine Ls.ev (some 20) (Ev.move (show Oper.op _ = Op.move (Operand.tmp 5) from rfl) (by rfl)) (by rfl) (by rfl) ?_
      refine Ls.ev (some 21) (Ev.indexAt (sz := 7) (show Oper.op _ = Op.indexAddr 77 (Operand.tmp 19) (Operand.tmp 20) from rfl) (by rfl) (by rfl) Try.underlying77 (by kernel_rfl) (by omega)) (by rfl) (by rfl) ?_
      refine Ls.ev (some 22) (Ev.loadEl (show Oper.op _ = Op.load 85 (Operand.tmp 21) from rfl) (by rfl) (ReadsIn.rd 1 (by rfl)) (by kernel_rfl) (by intro _; rfl) (by assumption)) (by rfl) (by rfl) ?_
      refine Ls.does none (Does.store 0 (show Oper.op _ = Op.store 85 (Operand.tmp 4) (Operand.tmp 22) from rfl) (by rfl) (by rfl) (by rfl) (by kernel_rfl) (by rfl) (by kernel_rfl) (by rfl)) (by rfl) (by rfl) ?_
      intro _ _
      refine Ls.nil ?_
      refine Cd.ret ?_
      refine Ent.ret (()) (trivial) (Res.cell 0 (by rfl) (by rfl) (by rfl) (n := 7) (by kernel_rfl) (by rfl) (by rfl)) ?_ [] (by rfl) ?_
      · rw [hlk, ← h2]; rfl
      · rfl
    · skip
      have h2 : p.1 ≠ q := of_decide_eq_false h2
      rw [if_neg h2] at hlk
      refine Cd.skip ?_
      refine Cd.region ?_
      refine Ls.ev (some 10) (Ev.move (show Oper.op _ = Op.move (Operand.tmp 5) from rfl) (by rfl)) (by rfl) (by rfl) ?_
      refine Ls.ev (some 11) (Ev.addI (show Oper.op _ = Op.binOp BinOp.add 3 (Operand.tmp 10) (Operand.const (Value.int IntKind.i64 1)) 3 from rfl) (by rfl) (by rfl) (by omega)) (by rfl) (by rfl) ?_
      refine Ls.ev (some 5) (Ev.assign (show Oper.op _ = Op.assign (Operand.tmp 11) from rfl) (by rfl)) (by rfl) (by rfl) ?_
      refine Ls.nil ?_
      refine Ent.inv (k + 1) ?_ ?_ ?_
      · (try dsimp only); exact ⟨⟨by omega, hlk⟩, by omega⟩
      · (repeat (first | exact trivial | refine ⟨by rfl, ?_⟩ | refine ⟨by simp only [List.length_append, List.length_cons, List.length_nil]; rfl, ?_⟩ | refine ⟨by push_cast; rfl, ?_⟩))
      · rfl
  · skip
    have hlt : ¬ k < l.length := by have := of_decide_eq_false h; omega
    rw [List.drop_of_length_le (by omega), lkL] at hlk
    refine Cd.exit ?_
    refine Cd.seq ?_
    refine Cd.region ?_
    refine Ls.ev (some 23) (Ev.move (show Oper.op _ = Op.move (Operand.tmp 1) from rfl) (by rfl)) (by rfl) (by rfl) ?_
    refine Ls.ev (some 24) (Ev.buildP (pl := [(0, 1), (1, 1), (2, 1), (3, 4)]) (zs := [.int .i64 0, .int .i64 0, .bool false, .int .i64 0, .int .i64 0, .int .i64 0, .slice none 0 0]) (show Oper.op _ = Op.build 85 #[(0, Operand.tmp 23)] from rfl) (by rfl) (by kernel_rfl) (by rfl)) (by rfl) (by rfl) ?_
    refine Ls.does none (Does.store 0 (show Oper.op _ = Op.store 85 (Operand.tmp 4) (Operand.tmp 24) from rfl) (by rfl) (by rfl) (by rfl) (by kernel_rfl) (by rfl) (by kernel_rfl) (by rfl)) (by rfl) (by rfl) ?_
    intro _ _
    refine Ls.nil ?_
    refine Cd.ret ?_
    refine Ent.ret (()) (trivial) (Res.cell 0 (by rfl) (by rfl) (by rfl) (n := 7) (by kernel_rfl) (by rfl) (by rfl)) ?_ [] (by rfl) ?_
    · rw [hlk]; rfl
    · rfl

structure LoadI where
  k : Nat
  A : Option Addr
  c : Nat
  out : List (Int × SeenD)
set_option maxHeartbeats 1000000 in
theorem refLoad_sl (A : Option Addr) (c : Nat) (l : List (Int × SeenD)) (q : Int) (s : SeenD) (hn : l.length ≤ 1000000) :
    Fn Try.prog 31 #[.slice A l.length c, .agg (encS (q, s)).toArray] [rd A l.length 7 (l.flatMap encS)] (Option Addr × Nat) (fun p => .slice p.1 (loadL l q s).length p.2) (fun p => [row p.1 (loadL l q s).length p.2 85 7 ((loadL l q s).flatMap encS)]) (fun _ => True) := by
  refine Fn.enter Try.func31 rfl Try.ntmps31 (by rfl) ?_
  intro w0
  refine Cd.seq ?_
  refine Cd.region ?_
  refine Ls.does (some 3) (Does.box (show Oper.op _ = Op.box 85 (Operand.tmp 1) from rfl) (by rfl)) (by rfl) (by rfl) ?_
  intro g1 _
  refine Ls.ev (some 4) (Ev.assign (show Oper.op _ = Op.assign (Operand.const (Value.slice none 0 0)) from rfl) (by rfl)) (by rfl) (by rfl) ?_
  refine Ls.nil ?_
  refine Cd.seq ?_
  refine Cd.region ?_
  refine Ls.ev (some 5) (Ev.assign (show Oper.op _ = Op.assign (Operand.const (Value.slice none 0 0)) from rfl) (by rfl)) (by rfl) (by rfl) ?_
  refine Ls.nil ?_
  refine Cd.seq ?_
  refine Cd.seq ?_
  refine Cd.region ?_
  refine Ls.ev (some 6) (Ev.assign (show Oper.op _ = Op.assign (Operand.const (Value.int IntKind.i64 0)) from rfl) (by rfl)) (by rfl) (by rfl) ?_
  refine Ls.nil ?_
  refine Cd.block ?_
  refine Ent.nil 85 7 ?_
  refine Cd.loop (ι := LoadI) (fun j => [(0, .slice A l.length c), (3, .pointer (some ⟨g1, 0, none⟩)), (5, .slice j.A j.out.length j.c), (6, .int .i64 j.k)]) (fun j => [row j.A j.out.length j.c 85 7 (j.out.flatMap encS), blk g1 85 (encS (q, s)), rd A l.length 7 (l.flatMap encS)]) (fun j => j.k ≤ l.length ∧ j.out.length ≤ j.k ∧ l.filter (fun p => decide (p.1 ≠ q)) = j.out ++ (l.drop j.k).filter (fun p => decide (p.1 ≠ q))) (fun j => l.length - j.k) (⟨0, none, 0, []⟩) (⟨Nat.zero_le _, Nat.le_refl _, rfl⟩) ?_ rfl ?_
  · (repeat (first | exact trivial | refine ⟨by rfl, ?_⟩))
  rintro ⟨k, Ao, co, out⟩ ⟨hk, ho, hf⟩
  dsimp only at hk ho hf ⊢
  refine Cd.seq ?_
  refine Cd.seq ?_
  refine Cd.region ?_
  refine Ls.ev (some 7) (Ev.move (show Oper.op _ = Op.move (Operand.tmp 6) from rfl) (by rfl)) (by rfl) (by rfl) ?_
  refine Ls.ev (some 8) (Ev.move (show Oper.op _ = Op.move (Operand.tmp 0) from rfl) (by rfl)) (by rfl) (by rfl) ?_
  refine Ls.ev (some 9) (Ev.len (show Oper.op _ = Op.call { callee := Callee.builtin Builtin.len, args := #[Operand.tmp 8], argTypes := #[77] } from rfl) (by rfl) Try.underlying77) (by rfl) (by rfl) ?_
  refine Ls.ev (some 10) (Ev.lss (show Oper.op _ = Op.binOp BinOp.lss 3 (Operand.tmp 7) (Operand.tmp 9) 3 from rfl) (by rfl) (by rfl)) (by rfl) (by rfl) ?_
  refine Ls.nil ?_
  refine Cd.cond _ (by rfl) (fun h => ?_) (fun h => ?_)
  · skip
    have hlt : k < l.length := by have := of_decide_eq_true h; omega
    obtain ⟨p, hp⟩ := get_of_lt hlt
    rw [drop_of_get hp, List.filter_cons] at hf
    refine Ent.rdSome 2 (by rfl) (by omega) (fun ax hax => ?_)
    subst hax
    refine Cd.skip ?_
    refine Cd.seq ?_
    refine Cd.block ?_
    refine Cd.seq ?_
    refine Cd.draw [] (by kernel_rfl) ?_
    refine Rg.ev 0 (by rfl) (fun _ h => h) (Ev.move (show Oper.op _ = Op.move (Operand.tmp 0) from rfl) (by rfl)) (by rfl) (some 13) (by rfl) (by kernel_rfl) (by kernel_rfl) (by kernel_rfl) (by kernel_rfl) ?_
    refine Rg.ev 1 (by rfl) (fun _ h => h) (Ev.move (show Oper.op _ = Op.move (Operand.tmp 6) from rfl) (by rfl)) (by rfl) (some 14) (by rfl) (by kernel_rfl) (by kernel_rfl) (by kernel_rfl) (by kernel_rfl) ?_
    refine Rg.ev 2 (by rfl) (fun _ h => h) (Ev.indexAt (sz := 7) (show Oper.op _ = Op.indexAddr 77 (Operand.tmp 13) (Operand.tmp 14) from rfl) (by rfl) (by rfl) Try.underlying77 (by kernel_rfl) (by omega)) (by rfl) (some 15) (by rfl) (by kernel_rfl) (by kernel_rfl) (by kernel_rfl) (by kernel_rfl) ?_
    refine Rg.ev 3 (by rfl) (fun _ h => h) (Ev.fieldAddrA (k := 0) (show Oper.op _ = Op.fieldAddr 85 (Operand.tmp 15) 0 from rfl) (by rfl) (by kernel_rfl)) (by rfl) (some 16) (by rfl) (by kernel_rfl) (by kernel_rfl) (by kernel_rfl) (by kernel_rfl) ?_
    refine Rg.ev 4 (by rfl) (fun _ h => h) (Ev.loadElF (show Oper.op _ = Op.load 3 (Operand.tmp 16) from rfl) (by rfl) (ReadsIn.rd 2 (by rfl)) (by kernel_rfl) (by intro _; rfl) (by assumption) (by rfl)) (by rfl) (some 17) (by rfl) (by kernel_rfl) (by kernel_rfl) (by kernel_rfl) (by kernel_rfl) ?_
    refine Rg.ev 5 (by rfl) (fun _ h => h) (Ev.fieldAddr (k := 0) (show Oper.op _ = Op.fieldAddr 85 (Operand.tmp 3) 0 from rfl) (by rfl) (by kernel_rfl) (by rfl)) (by rfl) (some 18) (by rfl) (by kernel_rfl) (by kernel_rfl) (by kernel_rfl) (by kernel_rfl) ?_
    refine Rg.ev 6 (by rfl) (fun _ h => h) (Ev.load 1 (show Oper.op _ = Op.load 3 (Operand.tmp 18) from rfl) (by rfl) (by rfl) (by kernel_rfl) (by rfl)) (by rfl) (some 19) (by rfl) (by kernel_rfl) (by kernel_rfl) (by kernel_rfl) (by kernel_rfl) ?_
    refine Rg.ev 7 (by rfl) (fun _ h => h) (Ev.neq (show Oper.op _ = Op.binOp BinOp.neq 3 (Operand.tmp 17) (Operand.tmp 19) 3 from rfl) (by rfl) (by rfl)) (by rfl) (some 20) (by rfl) (by kernel_rfl) (by kernel_rfl) (by kernel_rfl) (by kernel_rfl) ?_
    refine Rg.done (by kernel_rfl) ?_ _
    refine Cd.cond _ (by rfl) (fun h2 => ?_) (fun h2 => ?_)
    · skip
      have h2 : p.1 ≠ q := of_decide_eq_true h2
      rw [if_pos (decide_eq_true h2)] at hf
      refine Cd.region ?_
      refine Ls.ev (some 21) (Ev.move (show Oper.op _ = Op.move (Operand.tmp 5) from rfl) (by rfl)) (by rfl) (by rfl) ?_
      refine Ls.ev (some 22) (Ev.move (show Oper.op _ = Op.move (Operand.tmp 0) from rfl) (by rfl)) (by rfl) (by rfl) ?_
      refine Ls.ev (some 23) (Ev.move (show Oper.op _ = Op.move (Operand.tmp 6) from rfl) (by rfl)) (by rfl) (by rfl) ?_
      refine Ls.ev (some 24) (Ev.indexAt (sz := 7) (show Oper.op _ = Op.indexAddr 77 (Operand.tmp 22) (Operand.tmp 23) from rfl) (by rfl) (by rfl) Try.underlying77 (by kernel_rfl) (by omega)) (by rfl) (by rfl) ?_
      refine Ls.ev (some 25) (Ev.loadEl (show Oper.op _ = Op.load 85 (Operand.tmp 24) from rfl) (by rfl) (ReadsIn.rd 2 (by rfl)) (by kernel_rfl) (by intro _; rfl) (by assumption)) (by rfl) (by rfl) ?_
      refine Ls.does (some 26) (Does.lit (sz := 7) (show Oper.op _ = Op.buildSlice 77 1 #[(0, Operand.tmp 25)] from rfl) (by rfl) Try.underlying77 (by kernel_rfl) (by rfl) (by kernel_rfl)) (by rfl) (by rfl) ?_
      intro g2 _
      refine Ls.does (some 27) (Does.app 1 (show Oper.op _ = Op.call { callee := Callee.builtin Builtin.append, args := #[Operand.tmp 21, Operand.tmp 26], argTypes := #[77, 77] } from rfl) (by rfl) (by rfl) (by rfl) (ReadsIn.row 0 (by rfl)) elem_seen (encS_one p) (by omega)) (by rfl) (by rfl) ?_
      intro r _
      refine Ls.ev (some 5) (Ev.assign (show Oper.op _ = Op.assign (Operand.tmp 27) from rfl) (by rfl)) (by rfl) (by rfl) ?_
      refine Ls.nil ?_
      refine Cd.region ?_
      refine Ls.ev (some 11) (Ev.move (show Oper.op _ = Op.move (Operand.tmp 6) from rfl) (by rfl)) (by rfl) (by rfl) ?_
      refine Ls.ev (some 12) (Ev.addI (show Oper.op _ = Op.binOp BinOp.add 3 (Operand.tmp 11) (Operand.const (Value.int IntKind.i64 1)) 3 from rfl) (by rfl) (by rfl) (by omega)) (by rfl) (by rfl) ?_
      refine Ls.ev (some 6) (Ev.assign (show Oper.op _ = Op.assign (Operand.tmp 12) from rfl) (by rfl)) (by rfl) (by rfl) ?_
      refine Ls.nil ?_
      refine Ent.pick [1, 2, 3] (by rfl) ?_
      refine Ent.inv (⟨k + 1, r.1, r.2, out ++ [p]⟩) ?_ ?_ ?_
      · (try dsimp only); exact ⟨⟨by omega, by simp; omega, by rw [hf]; simp⟩, by omega⟩
      · (repeat (first | exact trivial | refine ⟨by rfl, ?_⟩ | refine ⟨by simp only [List.length_append, List.length_cons, List.length_nil]; rfl, ?_⟩ | refine ⟨by push_cast; rfl, ?_⟩))
      · exact cons_eq (by rw [List.length_append, List.flatMap_append]; simp [catC, Value.cells]) rfl
    · skip
      have h2 : p.1 = q := by simpa using of_decide_eq_false h2
      rw [if_neg (by simpa using h2)] at hf
      refine Cd.skip ?_
      refine Cd.region ?_
      refine Ls.ev (some 11) (Ev.move (show Oper.op _ = Op.move (Operand.tmp 6) from rfl) (by rfl)) (by rfl) (by rfl) ?_
      refine Ls.ev (some 12) (Ev.addI (show Oper.op _ = Op.binOp BinOp.add 3 (Operand.tmp 11) (Operand.const (Value.int IntKind.i64 1)) 3 from rfl) (by rfl) (by rfl) (by omega)) (by rfl) (by rfl) ?_
      refine Ls.ev (some 6) (Ev.assign (show Oper.op _ = Op.assign (Operand.tmp 12) from rfl) (by rfl)) (by rfl) (by rfl) ?_
      refine Ls.nil ?_
      refine Ent.inv (⟨k + 1, Ao, co, out⟩) ?_ ?_ ?_
      · (try dsimp only); exact ⟨⟨by omega, by omega, hf⟩, by omega⟩
      · (repeat (first | exact trivial | refine ⟨by rfl, ?_⟩ | refine ⟨by simp only [List.length_append, List.length_cons, List.length_nil]; rfl, ?_⟩ | refine ⟨by push_cast; rfl, ?_⟩))
      · rfl
  · skip
    have hlt : ¬ k < l.length := by have := of_decide_eq_false h; omega
    rw [List.drop_of_length_le (by omega), List.filter_nil, List.append_nil] at hf
    refine Cd.exit ?_
    refine Cd.seq ?_
    refine Cd.seq ?_
    refine Cd.region ?_
    refine Ls.ev (some 28) (Ev.fieldAddr (k := 1) (show Oper.op _ = Op.fieldAddr 85 (Operand.tmp 3) 1 from rfl) (by rfl) (by kernel_rfl) (by rfl)) (by rfl) (by rfl) ?_
    refine Ls.ev (some 29) (Ev.load 1 (show Oper.op _ = Op.load 3 (Operand.tmp 28) from rfl) (by rfl) (by rfl) (by kernel_rfl) (by rfl)) (by rfl) (by rfl) ?_
    refine Ls.ev (some 30) (Ev.lss (show Oper.op _ = Op.binOp BinOp.lss 3 (Operand.tmp 29) (Operand.const (Value.int IntKind.i64 1)) 3 from rfl) (by rfl) (by rfl)) (by rfl) (by rfl) ?_
    refine Ls.nil ?_
    refine Cd.cond _ (by rfl) (fun h3 => ?_) (fun h3 => ?_)
    · skip
      have h3 : s.id < 1 := of_decide_eq_true h3
      have e : loadL l q s = out := by rw [loadL, if_pos h3, hf, List.append_nil]
      refine Cd.seq ?_
      refine Cd.region ?_
      refine Ls.ev (some 31) (Ev.move (show Oper.op _ = Op.move (Operand.tmp 5) from rfl) (by rfl)) (by rfl) (by rfl) ?_
      refine Ls.ev (some 4) (Ev.assign (show Oper.op _ = Op.assign (Operand.tmp 31) from rfl) (by rfl)) (by rfl) (by rfl) ?_
      refine Ls.nil ?_
      refine Cd.ret ?_
      refine Ent.ret ((Ao, co)) (trivial) (Res.tmp (by rfl) (by rfl)) ?_ [0] (by rfl) ?_
      · rw [e]
      · rw [e]; rfl
    · skip
      have h3 : ¬ s.id < 1 := of_decide_eq_false h3
      refine Cd.skip ?_
      refine Cd.seq ?_
      refine Cd.seq ?_
      refine Cd.region ?_
      refine Ls.ev (some 32) (Ev.fieldAddr (k := 2) (show Oper.op _ = Op.fieldAddr 85 (Operand.tmp 3) 2 from rfl) (by rfl) (by kernel_rfl) (by rfl)) (by rfl) (by rfl) ?_
      refine Ls.ev (some 33) (Ev.load 1 (show Oper.op _ = Op.load 4 (Operand.tmp 32) from rfl) (by rfl) (by rfl) (by kernel_rfl) (by rfl)) (by rfl) (by rfl) ?_
      refine Ls.ev (some 34) (Ev.not (show Oper.op _ = Op.unOp UnOp.not 4 (Operand.tmp 33) from rfl) (by rfl)) (by rfl) (by rfl) ?_
      refine Ls.nil ?_
      refine Cd.cond _ (by rfl) (fun h4 => ?_) (fun h4 => ?_)
      · skip
        have h4 : s.dn = false := by simpa using h4
        have e : loadL l q s = out ++ [(q, newD s.id)] := by rw [loadL, if_neg h3, hf, h4]; rfl
        refine Cd.region ?_
        refine Ls.ev (some 35) (Ev.buildP (pl := [(0, 1), (1, 1), (2, 2)]) (zs := [.int .i64 0, .int .i64 0, .int .i64 0, .slice none 0 0]) (show Oper.op _ = Op.build 39 #[] from rfl) (by rfl) (by kernel_rfl) (by rfl)) (by rfl) (by rfl) ?_
        refine Ls.ev (some 36) (Ev.fieldAddr (k := 3) (show Oper.op _ = Op.fieldAddr 85 (Operand.tmp 3) 3 from rfl) (by rfl) (by kernel_rfl) (by rfl)) (by rfl) (by rfl) ?_
        refine Ls.does none (Does.store 1 (show Oper.op _ = Op.store 39 (Operand.tmp 36) (Operand.tmp 35) from rfl) (by rfl) (by rfl) (by rfl) (by kernel_rfl) (by rfl) (by kernel_rfl) (by rfl)) (by rfl) (by rfl) ?_
        intro _ _
        refine Ls.nil ?_
        refine Cd.seq ?_
        refine Cd.region ?_
        refine Ls.ev (some 37) (Ev.move (show Oper.op _ = Op.move (Operand.tmp 5) from rfl) (by rfl)) (by rfl) (by rfl) ?_
        refine Ls.ev (some 38) (Ev.loads 1 (show Oper.op _ = Op.load 85 (Operand.tmp 3) from rfl) (by rfl) (by rfl) (n := 7) (by kernel_rfl) (by rfl) (by rfl)) (by rfl) (by rfl) ?_
        refine Ls.does (some 39) (Does.lit (sz := 7) (show Oper.op _ = Op.buildSlice 77 1 #[(0, Operand.tmp 38)] from rfl) (by rfl) Try.underlying77 (by kernel_rfl) (by rfl) (by kernel_rfl)) (by rfl) (by rfl) ?_
        intro g2 _
        refine Ls.does (some 40) (Does.app 1 (show Oper.op _ = Op.call { callee := Callee.builtin Builtin.append, args := #[Operand.tmp 37, Operand.tmp 39], argTypes := #[77, 77] } from rfl) (by rfl) (by rfl) (by rfl) (ReadsIn.row 0 (by rfl)) elem_seen (encS_one (q, ⟨s.id, s.dn, 0, 0, 0, none, 0, []⟩)) (by omega)) (by rfl) (by rfl) ?_
        intro r _
        refine Ls.ev (some 4) (Ev.assign (show Oper.op _ = Op.assign (Operand.tmp 40) from rfl) (by rfl)) (by rfl) (by rfl) ?_
        refine Ls.nil ?_
        refine Cd.ret ?_
        refine Ent.ret (r) (trivial) (Res.tmp (by rfl) (by rfl)) ?_ [1] (by rfl) ?_
        · rw [e, List.length_append]; rfl
        · rw [e, List.length_append, List.flatMap_append]
          refine cons_eq ?_ rfl
          have e2 : (⟨s.id, s.dn, 0, 0, 0, none, 0, []⟩ : SeenD) = newD s.id := by rw [h4]; rfl
          show row r.1 (out.length + 1) r.2 _ 7 (out.flatMap encS ++ encS (q, ⟨s.id, s.dn, 0, 0, 0, none, 0, []⟩)) = _
          rw [e2]
          simp
      · skip
        have h4 : s.dn = true := by simpa using h4
        have e : loadL l q s = out ++ [(q, s)] := by rw [loadL, if_neg h3, hf, h4]; rfl
        refine Cd.skip ?_
        refine Cd.seq ?_
        refine Cd.region ?_
        refine Ls.ev (some 37) (Ev.move (show Oper.op _ = Op.move (Operand.tmp 5) from rfl) (by rfl)) (by rfl) (by rfl) ?_
        refine Ls.ev (some 38) (Ev.loads 1 (show Oper.op _ = Op.load 85 (Operand.tmp 3) from rfl) (by rfl) (by rfl) (n := 7) (by kernel_rfl) (by rfl) (by rfl)) (by rfl) (by rfl) ?_
        refine Ls.does (some 39) (Does.lit (sz := 7) (show Oper.op _ = Op.buildSlice 77 1 #[(0, Operand.tmp 38)] from rfl) (by rfl) Try.underlying77 (by kernel_rfl) (by rfl) (by kernel_rfl)) (by rfl) (by rfl) ?_
        intro g2 _
        refine Ls.does (some 40) (Does.app 1 (show Oper.op _ = Op.call { callee := Callee.builtin Builtin.append, args := #[Operand.tmp 37, Operand.tmp 39], argTypes := #[77, 77] } from rfl) (by rfl) (by rfl) (by rfl) (ReadsIn.row 0 (by rfl)) elem_seen (encS_one (q, s)) (by omega)) (by rfl) (by rfl) ?_
        intro r _
        refine Ls.ev (some 4) (Ev.assign (show Oper.op _ = Op.assign (Operand.tmp 40) from rfl) (by rfl)) (by rfl) (by rfl) ?_
        refine Ls.nil ?_
        refine Cd.ret ?_
        refine Ent.ret (r) (trivial) (Res.tmp (by rfl) (by rfl)) ?_ [1] (by rfl) ?_
        · rw [e, List.length_append]; rfl
        · rw [e, List.length_append, List.flatMap_append]
          refine cons_eq ?_ rfl
          simp [catC, Value.cells]

theorem refSee_new (A : Option Addr) (c : Nat) (l : List (Int × SeenD)) (q id : Int) (hn : l.length ≤ 1000000) (h1 : (lkL l q).id < id) :
    Fn Try.prog 28 #[.slice A l.length c, .int .i64 q, .int .i64 id] [rd A l.length 7 (l.flatMap encS)] (Option Addr × Nat) (fun p => .tuple #[.slice p.1 (loadL l q (newD id)).length p.2, .int .i64 1, zrep]) (fun p => [row p.1 (loadL l q (newD id)).length p.2 85 7 ((loadL l q (newD id)).flatMap encS)]) (fun _ => True) := by
  refine Fn.enter Try.func28 rfl Try.ntmps28 (by rfl) ?_
  intro w0
  refine Cd.seq ?_
  refine Cd.region ?_
  refine Ls.ev (some 6) (Ev.assign (show Oper.op _ = Op.assign (Operand.const (Value.slice none 0 0)) from rfl) (by rfl)) (by rfl) (by rfl) ?_
  refine Ls.ev (some 7) (Ev.assign (show Oper.op _ = Op.assign (Operand.const (Value.int IntKind.i64 0)) from rfl) (by rfl)) (by rfl) (by rfl) ?_
  refine Ls.does (some 8) (Does.alloc (cs := [.int .i64 0, .int .i64 0, .int .i64 0, .slice none 0 0]) (show Oper.op _ = Op.alloc 39 from rfl) (ZeroIs.mk (.agg #[.int .i64 0, .int .i64 0, .int .i64 0, .slice none 0 0]) (by kernel_rfl) (by rfl))) (by rfl) (by rfl) ?_
  intro g1 _
  refine Ls.nil ?_
  refine Cd.seq ?_
  refine Cd.region ?_
  refine Ls.ev (some 10) (Ev.move (show Oper.op _ = Op.move (Operand.tmp 0) from rfl) (by rfl)) (by rfl) (by rfl) ?_
  refine Ls.ev (some 11) (Ev.move (show Oper.op _ = Op.move (Operand.tmp 1) from rfl) (by rfl)) (by rfl) (by rfl) ?_
  refine Ls.does (some 12) (Does.call [1, 1, 0] (show Oper.op _ = Op.call { callee := Callee.value (Operand.func 32), args := #[Operand.tmp 10, Operand.tmp 11], argTypes := #[77, 3] } from rfl) Try.func32 (by kernel_rfl) (by kernel_rfl) (refLast_sl A c l q hn) (by rfl) (by rfl) (by rfl)) (by rfl) (by rfl) ?_
  intro _ _
  refine Ls.does (some 9) (Does.alloc (cs := [.int .i64 0, .int .i64 0, .bool false, .int .i64 0, .int .i64 0, .int .i64 0, .slice none 0 0]) (show Oper.op _ = Op.alloc 85 from rfl) (ZeroIs.mk (.agg #[.int .i64 0, .int .i64 0, .bool false, .int .i64 0, .int .i64 0, .int .i64 0, .slice none 0 0]) (by kernel_rfl) (by rfl))) (by rfl) (by rfl) ?_
  intro g2 _
  refine Ls.does none (Does.store 0 (show Oper.op _ = Op.store 85 (Operand.tmp 9) (Operand.tmp 12) from rfl) (by rfl) (by rfl) (by rfl) (by kernel_rfl) (by rfl) (by kernel_rfl) (by rfl)) (by rfl) (by rfl) ?_
  intro _ _
  refine Ls.nil ?_
  refine Cd.seq ?_
  refine Cd.seq ?_
  refine Cd.region ?_
  refine Ls.ev (some 13) (Ev.move (show Oper.op _ = Op.move (Operand.tmp 2) from rfl) (by rfl)) (by rfl) (by rfl) ?_
  refine Ls.ev (some 14) (Ev.fieldAddr (k := 1) (show Oper.op _ = Op.fieldAddr 85 (Operand.tmp 9) 1 from rfl) (by rfl) (by kernel_rfl) (by rfl)) (by rfl) (by rfl) ?_
  refine Ls.ev (some 15) (Ev.load 0 (show Oper.op _ = Op.load 3 (Operand.tmp 14) from rfl) (by rfl) (by rfl) (by kernel_rfl) (by rfl)) (by rfl) (by rfl) ?_
  refine Ls.ev (some 16) (Ev.gtr (show Oper.op _ = Op.binOp BinOp.gtr 3 (Operand.tmp 13) (Operand.tmp 15) 3 from rfl) (by rfl) (by rfl)) (by rfl) (by rfl) ?_
  refine Ls.nil ?_
  refine Cd.cond_true (by rfl) (decide_eq_true h1) ?_
  refine Cd.seq ?_
  refine Cd.region ?_
  refine Ls.ev (some 17) (Ev.move (show Oper.op _ = Op.move (Operand.tmp 0) from rfl) (by rfl)) (by rfl) (by rfl) ?_
  refine Ls.ev (some 18) (Ev.move (show Oper.op _ = Op.move (Operand.tmp 1) from rfl) (by rfl)) (by rfl) (by rfl) ?_
  refine Ls.ev (some 19) (Ev.move (show Oper.op _ = Op.move (Operand.tmp 2) from rfl) (by rfl)) (by rfl) (by rfl) ?_
  refine Ls.ev (some 20) (Ev.buildP (pl := [(0, 1), (1, 1), (2, 1), (3, 4)]) (zs := [.int .i64 0, .int .i64 0, .bool false, .int .i64 0, .int .i64 0, .int .i64 0, .slice none 0 0]) (show Oper.op _ = Op.build 85 #[(0, Operand.tmp 18), (1, Operand.tmp 19)] from rfl) (by rfl) (by kernel_rfl) (by rfl)) (by rfl) (by rfl) ?_
  refine Ls.does (some 21) (Does.call [1, 2] (show Oper.op _ = Op.call { callee := Callee.value (Operand.func 31), args := #[Operand.tmp 17, Operand.tmp 20], argTypes := #[77, 85] } from rfl) Try.func31 (by kernel_rfl) (by kernel_rfl) (refLoad_sl A c l q (newD id) hn) (by rfl) (by rfl) (by rfl)) (by rfl) (by rfl) ?_
  intro p _
  refine Ls.ev (some 22) (Ev.buildP (pl := [(0, 1), (1, 1), (2, 2)]) (zs := [.int .i64 0, .int .i64 0, .int .i64 0, .slice none 0 0]) (show Oper.op _ = Op.build 39 #[] from rfl) (by rfl) (by kernel_rfl) (by rfl)) (by rfl) (by rfl) ?_
  refine Ls.ev (some 6) (Ev.assign (show Oper.op _ = Op.assign (Operand.tmp 21) from rfl) (by rfl)) (by rfl) (by rfl) ?_
  refine Ls.ev (some 7) (Ev.assign (show Oper.op _ = Op.assign (Operand.const (Value.int IntKind.i64 1)) from rfl) (by rfl)) (by rfl) (by rfl) ?_
  refine Ls.does none (Does.store 1 (show Oper.op _ = Op.store 39 (Operand.tmp 8) (Operand.tmp 22) from rfl) (by rfl) (by rfl) (by rfl) (by kernel_rfl) (by rfl) (by kernel_rfl) (by rfl)) (by rfl) (by rfl) ?_
  intro _ _
  refine Ls.nil ?_
  refine Cd.ret ?_
  refine Ent.ret (p) (trivial) (Res.tmp2_cell 1 (by rfl) (by rfl) (by rfl) (by rfl) (by rfl) (n := 4) (by kernel_rfl) (by rfl) (by rfl)) ?_ [0] (by rfl) ?_
  · rfl
  · rfl
theorem refSee_stale (A : Option Addr) (c : Nat) (l : List (Int × SeenD)) (q id : Int) (hn : l.length ≤ 1000000) (h1 : ¬ (lkL l q).id < id) (h2 : id < (lkL l q).id ∨ id < 1) :
    Fn Try.prog 28 #[.slice A l.length c, .int .i64 q, .int .i64 id] [rd A l.length 7 (l.flatMap encS)] Unit (fun _ => .tuple #[.slice A l.length c, .int .i64 4, zrep]) (fun _ => []) (fun _ => True) := by
  refine Fn.enter Try.func28 rfl Try.ntmps28 (by rfl) ?_
  intro w0
  refine Cd.seq ?_
  refine Cd.region ?_
  refine Ls.ev (some 6) (Ev.assign (show Oper.op _ = Op.assign (Operand.const (Value.slice none 0 0)) from rfl) (by rfl)) (by rfl) (by rfl) ?_
  refine Ls.ev (some 7) (Ev.assign (show Oper.op _ = Op.assign (Operand.const (Value.int IntKind.i64 0)) from rfl) (by rfl)) (by rfl) (by rfl) ?_
  refine Ls.does (some 8) (Does.alloc (cs := [.int .i64 0, .int .i64 0, .int .i64 0, .slice none 0 0]) (show Oper.op _ = Op.alloc 39 from rfl) (ZeroIs.mk (.agg #[.int .i64 0, .int .i64 0, .int .i64 0, .slice none 0 0]) (by kernel_rfl) (by rfl))) (by rfl) (by rfl) ?_
  intro g1 _
  refine Ls.nil ?_
  refine Cd.seq ?_
  refine Cd.region ?_
  refine Ls.ev (some 10) (Ev.move (show Oper.op _ = Op.move (Operand.tmp 0) from rfl) (by rfl)) (by rfl) (by rfl) ?_
  refine Ls.ev (some 11) (Ev.move (show Oper.op _ = Op.move (Operand.tmp 1) from rfl) (by rfl)) (by rfl) (by rfl) ?_
  refine Ls.does (some 12) (Does.call [1, 0] (show Oper.op _ = Op.call { callee := Callee.value (Operand.func 32), args := #[Operand.tmp 10, Operand.tmp 11], argTypes := #[77, 3] } from rfl) Try.func32 (by kernel_rfl) (by kernel_rfl) (refLast_sl A c l q hn) (by rfl) (by rfl) (by rfl)) (by rfl) (by rfl) ?_
  intro _ _
  refine Ls.does (some 9) (Does.alloc (cs := [.int .i64 0, .int .i64 0, .bool false, .int .i64 0, .int .i64 0, .int .i64 0, .slice none 0 0]) (show Oper.op _ = Op.alloc 85 from rfl) (ZeroIs.mk (.agg #[.int .i64 0, .int .i64 0, .bool false, .int .i64 0, .int .i64 0, .int .i64 0, .slice none 0 0]) (by kernel_rfl) (by rfl))) (by rfl) (by rfl) ?_
  intro g2 _
  refine Ls.does none (Does.store 0 (show Oper.op _ = Op.store 85 (Operand.tmp 9) (Operand.tmp 12) from rfl) (by rfl) (by rfl) (by rfl) (by kernel_rfl) (by rfl) (by kernel_rfl) (by rfl)) (by rfl) (by rfl) ?_
  intro _ _
  refine Ls.nil ?_
  refine Cd.seq ?_
  refine Cd.seq ?_
  refine Cd.region ?_
  refine Ls.ev (some 13) (Ev.move (show Oper.op _ = Op.move (Operand.tmp 2) from rfl) (by rfl)) (by rfl) (by rfl) ?_
  refine Ls.ev (some 14) (Ev.fieldAddr (k := 1) (show Oper.op _ = Op.fieldAddr 85 (Operand.tmp 9) 1 from rfl) (by rfl) (by kernel_rfl) (by rfl)) (by rfl) (by rfl) ?_
  refine Ls.ev (some 15) (Ev.load 0 (show Oper.op _ = Op.load 3 (Operand.tmp 14) from rfl) (by rfl) (by rfl) (by kernel_rfl) (by rfl)) (by rfl) (by rfl) ?_
  refine Ls.ev (some 16) (Ev.gtr (show Oper.op _ = Op.binOp BinOp.gtr 3 (Operand.tmp 13) (Operand.tmp 15) 3 from rfl) (by rfl) (by rfl)) (by rfl) (by rfl) ?_
  refine Ls.nil ?_
  refine Cd.cond_false (by rfl) (decide_eq_false h1) ?_
  refine Cd.skip ?_
  refine Cd.seq ?_
  refine Cd.seq ?_
  refine Cd.region ?_
  refine Ls.ev (some 23) (Ev.move (show Oper.op _ = Op.move (Operand.tmp 2) from rfl) (by rfl)) (by rfl) (by rfl) ?_
  refine Ls.ev (some 24) (Ev.fieldAddr (k := 1) (show Oper.op _ = Op.fieldAddr 85 (Operand.tmp 9) 1 from rfl) (by rfl) (by kernel_rfl) (by rfl)) (by rfl) (by rfl) ?_
  refine Ls.ev (some 25) (Ev.load 0 (show Oper.op _ = Op.load 3 (Operand.tmp 24) from rfl) (by rfl) (by rfl) (by kernel_rfl) (by rfl)) (by rfl) (by rfl) ?_
  refine Ls.ev (some 26) (Ev.lss (show Oper.op _ = Op.binOp BinOp.lss 3 (Operand.tmp 23) (Operand.tmp 25) 3 from rfl) (by rfl) (by rfl)) (by rfl) (by rfl) ?_
  refine Ls.ev (some 27) (Ev.move (show Oper.op _ = Op.move (Operand.tmp 26) from rfl) (by rfl)) (by rfl) (by rfl) ?_
  refine Ent.split 27 (by rfl) (fun h3 => ?_) (fun h3 => ?_)
  · skip
    have h3 : ¬ id < (lkL l q).id := of_decide_eq_false h3
    refine Ls.ev (some 28) (Ev.move (show Oper.op _ = Op.move (Operand.tmp 2) from rfl) (by rfl)) (by rfl) (by rfl) ?_
    refine Ls.ev (some 29) (Ev.lss (show Oper.op _ = Op.binOp BinOp.lss 3 (Operand.tmp 28) (Operand.const (Value.int IntKind.i64 1)) 3 from rfl) (by rfl) (by rfl)) (by rfl) (by rfl) ?_
    refine Ls.ev (some 30) (Ev.pickF (show Oper.op _ = Op.pick (Operand.tmp 27) (Operand.const (Value.bool true)) (Operand.tmp 29) from rfl) (by rfl) (by rfl)) (by rfl) (by rfl) ?_
    refine Ls.nil ?_
    refine Cd.cond_true (by rfl) (decide_eq_true (h2.resolve_left h3)) ?_
    refine Cd.seq ?_
    refine Cd.region ?_
    refine Ls.ev (some 31) (Ev.move (show Oper.op _ = Op.move (Operand.tmp 0) from rfl) (by rfl)) (by rfl) (by rfl) ?_
    refine Ls.ev (some 32) (Ev.buildP (pl := [(0, 1), (1, 1), (2, 2)]) (zs := [.int .i64 0, .int .i64 0, .int .i64 0, .slice none 0 0]) (show Oper.op _ = Op.build 39 #[] from rfl) (by rfl) (by kernel_rfl) (by rfl)) (by rfl) (by rfl) ?_
    refine Ls.ev (some 6) (Ev.assign (show Oper.op _ = Op.assign (Operand.tmp 31) from rfl) (by rfl)) (by rfl) (by rfl) ?_
    refine Ls.ev (some 7) (Ev.assign (show Oper.op _ = Op.assign (Operand.const (Value.int IntKind.i64 4)) from rfl) (by rfl)) (by rfl) (by rfl) ?_
    refine Ls.does none (Does.store 1 (show Oper.op _ = Op.store 39 (Operand.tmp 8) (Operand.tmp 32) from rfl) (by rfl) (by rfl) (by rfl) (by kernel_rfl) (by rfl) (by kernel_rfl) (by rfl)) (by rfl) (by rfl) ?_
    intro _ _
    refine Ls.nil ?_
    refine Cd.ret ?_
    refine Ent.ret (()) (trivial) (Res.tmp2_cell 1 (by rfl) (by rfl) (by rfl) (by rfl) (by rfl) (n := 4) (by kernel_rfl) (by rfl) (by rfl)) ?_ [] (by rfl) ?_
    · rfl
    · rfl
  skip
  refine Ls.pass (some 28) (by rfl) (by rfl) ?_
  refine Ls.pass (some 29) (by rfl) (by rfl) ?_
  refine Ls.ev (some 30) (Ev.pickT (show Oper.op _ = Op.pick (Operand.tmp 27) (Operand.const (Value.bool true)) (Operand.tmp 29) from rfl) (by rfl) (by rfl)) (by rfl) (by rfl) ?_
  refine Ls.nil ?_
  refine Cd.cond_true (by rfl) (rfl) ?_
  refine Cd.seq ?_
  refine Cd.region ?_
  refine Ls.ev (some 31) (Ev.move (show Oper.op _ = Op.move (Operand.tmp 0) from rfl) (by rfl)) (by rfl) (by rfl) ?_
  refine Ls.ev (some 32) (Ev.buildP (pl := [(0, 1), (1, 1), (2, 2)]) (zs := [.int .i64 0, .int .i64 0, .int .i64 0, .slice none 0 0]) (show Oper.op _ = Op.build 39 #[] from rfl) (by rfl) (by kernel_rfl) (by rfl)) (by rfl) (by rfl) ?_
  refine Ls.ev (some 6) (Ev.assign (show Oper.op _ = Op.assign (Operand.tmp 31) from rfl) (by rfl)) (by rfl) (by rfl) ?_
  refine Ls.ev (some 7) (Ev.assign (show Oper.op _ = Op.assign (Operand.const (Value.int IntKind.i64 4)) from rfl) (by rfl)) (by rfl) (by rfl) ?_
  refine Ls.does none (Does.store 1 (show Oper.op _ = Op.store 39 (Operand.tmp 8) (Operand.tmp 32) from rfl) (by rfl) (by rfl) (by rfl) (by kernel_rfl) (by rfl) (by kernel_rfl) (by rfl)) (by rfl) (by rfl) ?_
  intro _ _
  refine Ls.nil ?_
  refine Cd.ret ?_
  refine Ent.ret (()) (trivial) (Res.tmp2_cell 1 (by rfl) (by rfl) (by rfl) (by rfl) (by rfl) (n := 4) (by kernel_rfl) (by rfl) (by rfl)) ?_ [] (by rfl) ?_
  · rfl
  · rfl
theorem refSee_run (A : Option Addr) (c : Nat) (l : List (Int × SeenD)) (q id : Int) (hn : l.length ≤ 1000000) (h1 : ¬ (lkL l q).id < id) (h2 : id = (lkL l q).id) (h3 : ¬ id < 1) (h4 : (lkL l q).dn = false) :
    Fn Try.prog 28 #[.slice A l.length c, .int .i64 q, .int .i64 id] [rd A l.length 7 (l.flatMap encS)] Unit (fun _ => .tuple #[.slice A l.length c, .int .i64 3, zrep]) (fun _ => []) (fun _ => True) := by
  refine Fn.enter Try.func28 rfl Try.ntmps28 (by rfl) ?_
  intro w0
  refine Cd.seq ?_
  refine Cd.region ?_
  refine Ls.ev (some 6) (Ev.assign (show Oper.op _ = Op.assign (Operand.const (Value.slice none 0 0)) from rfl) (by rfl)) (by rfl) (by rfl) ?_
  refine Ls.ev (some 7) (Ev.assign (show Oper.op _ = Op.assign (Operand.const (Value.int IntKind.i64 0)) from rfl) (by rfl)) (by rfl) (by rfl) ?_
  refine Ls.does (some 8) (Does.alloc (cs := [.int .i64 0, .int .i64 0, .int .i64 0, .slice none 0 0]) (show Oper.op _ = Op.alloc 39 from rfl) (ZeroIs.mk (.agg #[.int .i64 0, .int .i64 0, .int .i64 0, .slice none 0 0]) (by kernel_rfl) (by rfl))) (by rfl) (by rfl) ?_
  intro g1 _
  refine Ls.nil ?_
  refine Cd.seq ?_
  refine Cd.region ?_
  refine Ls.ev (some 10) (Ev.move (show Oper.op _ = Op.move (Operand.tmp 0) from rfl) (by rfl)) (by rfl) (by rfl) ?_
  refine Ls.ev (some 11) (Ev.move (show Oper.op _ = Op.move (Operand.tmp 1) from rfl) (by rfl)) (by rfl) (by rfl) ?_
  refine Ls.does (some 12) (Does.call [1, 0] (show Oper.op _ = Op.call { callee := Callee.value (Operand.func 32), args := #[Operand.tmp 10, Operand.tmp 11], argTypes := #[77, 3] } from rfl) Try.func32 (by kernel_rfl) (by kernel_rfl) (refLast_sl A c l q hn) (by rfl) (by rfl) (by rfl)) (by rfl) (by rfl) ?_
  intro _ _
  refine Ls.does (some 9) (Does.alloc (cs := [.int .i64 0, .int .i64 0, .bool false, .int .i64 0, .int .i64 0, .int .i64 0, .slice none 0 0]) (show Oper.op _ = Op.alloc 85 from rfl) (ZeroIs.mk (.agg #[.int .i64 0, .int .i64 0, .bool false, .int .i64 0, .int .i64 0, .int .i64 0, .slice none 0 0]) (by kernel_rfl) (by rfl))) (by rfl) (by rfl) ?_
  intro g2 _
  refine Ls.does none (Does.store 0 (show Oper.op _ = Op.store 85 (Operand.tmp 9) (Operand.tmp 12) from rfl) (by rfl) (by rfl) (by rfl) (by kernel_rfl) (by rfl) (by kernel_rfl) (by rfl)) (by rfl) (by rfl) ?_
  intro _ _
  refine Ls.nil ?_
  refine Cd.seq ?_
  refine Cd.seq ?_
  refine Cd.region ?_
  refine Ls.ev (some 13) (Ev.move (show Oper.op _ = Op.move (Operand.tmp 2) from rfl) (by rfl)) (by rfl) (by rfl) ?_
  refine Ls.ev (some 14) (Ev.fieldAddr (k := 1) (show Oper.op _ = Op.fieldAddr 85 (Operand.tmp 9) 1 from rfl) (by rfl) (by kernel_rfl) (by rfl)) (by rfl) (by rfl) ?_
  refine Ls.ev (some 15) (Ev.load 0 (show Oper.op _ = Op.load 3 (Operand.tmp 14) from rfl) (by rfl) (by rfl) (by kernel_rfl) (by rfl)) (by rfl) (by rfl) ?_
  refine Ls.ev (some 16) (Ev.gtr (show Oper.op _ = Op.binOp BinOp.gtr 3 (Operand.tmp 13) (Operand.tmp 15) 3 from rfl) (by rfl) (by rfl)) (by rfl) (by rfl) ?_
  refine Ls.nil ?_
  refine Cd.cond_false (by rfl) (decide_eq_false h1) ?_
  refine Cd.skip ?_
  refine Cd.seq ?_
  refine Cd.seq ?_
  refine Cd.region ?_
  refine Ls.ev (some 23) (Ev.move (show Oper.op _ = Op.move (Operand.tmp 2) from rfl) (by rfl)) (by rfl) (by rfl) ?_
  refine Ls.ev (some 24) (Ev.fieldAddr (k := 1) (show Oper.op _ = Op.fieldAddr 85 (Operand.tmp 9) 1 from rfl) (by rfl) (by kernel_rfl) (by rfl)) (by rfl) (by rfl) ?_
  refine Ls.ev (some 25) (Ev.load 0 (show Oper.op _ = Op.load 3 (Operand.tmp 24) from rfl) (by rfl) (by rfl) (by kernel_rfl) (by rfl)) (by rfl) (by rfl) ?_
  refine Ls.ev (some 26) (Ev.lss (show Oper.op _ = Op.binOp BinOp.lss 3 (Operand.tmp 23) (Operand.tmp 25) 3 from rfl) (by rfl) (by rfl)) (by rfl) (by rfl) ?_
  refine Ls.ev (some 27) (Ev.move (show Oper.op _ = Op.move (Operand.tmp 26) from rfl) (by rfl)) (by rfl) (by rfl) ?_
  refine Ent.split 27 (by rfl) (fun h => ?_) (fun (h : decide (id < (lkL l q).id) = true) => absurd (of_decide_eq_true h) (by omega))
  refine Ls.ev (some 28) (Ev.move (show Oper.op _ = Op.move (Operand.tmp 2) from rfl) (by rfl)) (by rfl) (by rfl) ?_
  refine Ls.ev (some 29) (Ev.lss (show Oper.op _ = Op.binOp BinOp.lss 3 (Operand.tmp 28) (Operand.const (Value.int IntKind.i64 1)) 3 from rfl) (by rfl) (by rfl)) (by rfl) (by rfl) ?_
  refine Ls.ev (some 30) (Ev.pickF (show Oper.op _ = Op.pick (Operand.tmp 27) (Operand.const (Value.bool true)) (Operand.tmp 29) from rfl) (by rfl) (by rfl)) (by rfl) (by rfl) ?_
  refine Ls.nil ?_
  refine Cd.cond_false (by rfl) (decide_eq_false h3) ?_
  refine Cd.skip ?_
  refine Cd.seq ?_
  refine Cd.seq ?_
  refine Cd.region ?_
  refine Ls.ev (some 33) (Ev.fieldAddr (k := 2) (show Oper.op _ = Op.fieldAddr 85 (Operand.tmp 9) 2 from rfl) (by rfl) (by kernel_rfl) (by rfl)) (by rfl) (by rfl) ?_
  refine Ls.ev (some 34) (Ev.load 0 (show Oper.op _ = Op.load 4 (Operand.tmp 33) from rfl) (by rfl) (by rfl) (by kernel_rfl) (by rfl)) (by rfl) (by rfl) ?_
  refine Ls.ev (some 35) (Ev.not (show Oper.op _ = Op.unOp UnOp.not 4 (Operand.tmp 34) from rfl) (by rfl)) (by rfl) (by rfl) ?_
  refine Ls.nil ?_
  refine Cd.cond_true (by rfl) (by rw [h4]; rfl) ?_
  refine Cd.seq ?_
  refine Cd.region ?_
  refine Ls.ev (some 36) (Ev.move (show Oper.op _ = Op.move (Operand.tmp 0) from rfl) (by rfl)) (by rfl) (by rfl) ?_
  refine Ls.ev (some 37) (Ev.buildP (pl := [(0, 1), (1, 1), (2, 2)]) (zs := [.int .i64 0, .int .i64 0, .int .i64 0, .slice none 0 0]) (show Oper.op _ = Op.build 39 #[] from rfl) (by rfl) (by kernel_rfl) (by rfl)) (by rfl) (by rfl) ?_
  refine Ls.ev (some 6) (Ev.assign (show Oper.op _ = Op.assign (Operand.tmp 36) from rfl) (by rfl)) (by rfl) (by rfl) ?_
  refine Ls.ev (some 7) (Ev.assign (show Oper.op _ = Op.assign (Operand.const (Value.int IntKind.i64 3)) from rfl) (by rfl)) (by rfl) (by rfl) ?_
  refine Ls.does none (Does.store 1 (show Oper.op _ = Op.store 39 (Operand.tmp 8) (Operand.tmp 37) from rfl) (by rfl) (by rfl) (by rfl) (by kernel_rfl) (by rfl) (by kernel_rfl) (by rfl)) (by rfl) (by rfl) ?_
  intro _ _
  refine Ls.nil ?_
  refine Cd.ret ?_
  refine Ent.ret (()) (trivial) (Res.tmp2_cell 1 (by rfl) (by rfl) (by rfl) (by rfl) (by rfl) (n := 4) (by kernel_rfl) (by rfl) (by rfl)) ?_ [] (by rfl) ?_
  · rfl
  · rfl
theorem refSee_again (A : Option Addr) (c : Nat) (l : List (Int × SeenD)) (q id : Int) (hn : l.length ≤ 1000000) (h1 : ¬ (lkL l q).id < id) (h2 : id = (lkL l q).id) (h3 : ¬ id < 1) (h4 : (lkL l q).dn = true) :
    Fn Try.prog 28 #[.slice A l.length c, .int .i64 q, .int .i64 id] [rd A l.length 7 (l.flatMap encS)] Unit (fun _ => .tuple #[.slice A l.length c, .int .i64 2, (repV (lkL l q).code (lkL l q).ep (lkL l q).st (lkL l q).A (lkL l q).xs.length (lkL l q).c)]) (fun _ => []) (fun _ => True) := by
  refine Fn.enter Try.func28 rfl Try.ntmps28 (by rfl) ?_
  intro w0
  refine Cd.seq ?_
  refine Cd.region ?_
  refine Ls.ev (some 6) (Ev.assign (show Oper.op _ = Op.assign (Operand.const (Value.slice none 0 0)) from rfl) (by rfl)) (by rfl) (by rfl) ?_
  refine Ls.ev (some 7) (Ev.assign (show Oper.op _ = Op.assign (Operand.const (Value.int IntKind.i64 0)) from rfl) (by rfl)) (by rfl) (by rfl) ?_
  refine Ls.does (some 8) (Does.alloc (cs := [.int .i64 0, .int .i64 0, .int .i64 0, .slice none 0 0]) (show Oper.op _ = Op.alloc 39 from rfl) (ZeroIs.mk (.agg #[.int .i64 0, .int .i64 0, .int .i64 0, .slice none 0 0]) (by kernel_rfl) (by rfl))) (by rfl) (by rfl) ?_
  intro g1 _
  refine Ls.nil ?_
  refine Cd.seq ?_
  refine Cd.region ?_
  refine Ls.ev (some 10) (Ev.move (show Oper.op _ = Op.move (Operand.tmp 0) from rfl) (by rfl)) (by rfl) (by rfl) ?_
  refine Ls.ev (some 11) (Ev.move (show Oper.op _ = Op.move (Operand.tmp 1) from rfl) (by rfl)) (by rfl) (by rfl) ?_
  refine Ls.does (some 12) (Does.call [1, 0] (show Oper.op _ = Op.call { callee := Callee.value (Operand.func 32), args := #[Operand.tmp 10, Operand.tmp 11], argTypes := #[77, 3] } from rfl) Try.func32 (by kernel_rfl) (by kernel_rfl) (refLast_sl A c l q hn) (by rfl) (by rfl) (by rfl)) (by rfl) (by rfl) ?_
  intro _ _
  refine Ls.does (some 9) (Does.alloc (cs := [.int .i64 0, .int .i64 0, .bool false, .int .i64 0, .int .i64 0, .int .i64 0, .slice none 0 0]) (show Oper.op _ = Op.alloc 85 from rfl) (ZeroIs.mk (.agg #[.int .i64 0, .int .i64 0, .bool false, .int .i64 0, .int .i64 0, .int .i64 0, .slice none 0 0]) (by kernel_rfl) (by rfl))) (by rfl) (by rfl) ?_
  intro g2 _
  refine Ls.does none (Does.store 0 (show Oper.op _ = Op.store 85 (Operand.tmp 9) (Operand.tmp 12) from rfl) (by rfl) (by rfl) (by rfl) (by kernel_rfl) (by rfl) (by kernel_rfl) (by rfl)) (by rfl) (by rfl) ?_
  intro _ _
  refine Ls.nil ?_
  refine Cd.seq ?_
  refine Cd.seq ?_
  refine Cd.region ?_
  refine Ls.ev (some 13) (Ev.move (show Oper.op _ = Op.move (Operand.tmp 2) from rfl) (by rfl)) (by rfl) (by rfl) ?_
  refine Ls.ev (some 14) (Ev.fieldAddr (k := 1) (show Oper.op _ = Op.fieldAddr 85 (Operand.tmp 9) 1 from rfl) (by rfl) (by kernel_rfl) (by rfl)) (by rfl) (by rfl) ?_
  refine Ls.ev (some 15) (Ev.load 0 (show Oper.op _ = Op.load 3 (Operand.tmp 14) from rfl) (by rfl) (by rfl) (by kernel_rfl) (by rfl)) (by rfl) (by rfl) ?_
  refine Ls.ev (some 16) (Ev.gtr (show Oper.op _ = Op.binOp BinOp.gtr 3 (Operand.tmp 13) (Operand.tmp 15) 3 from rfl) (by rfl) (by rfl)) (by rfl) (by rfl) ?_
  refine Ls.nil ?_
  refine Cd.cond_false (by rfl) (decide_eq_false h1) ?_
  refine Cd.skip ?_
  refine Cd.seq ?_
  refine Cd.seq ?_
  refine Cd.region ?_
  refine Ls.ev (some 23) (Ev.move (show Oper.op _ = Op.move (Operand.tmp 2) from rfl) (by rfl)) (by rfl) (by rfl) ?_
  refine Ls.ev (some 24) (Ev.fieldAddr (k := 1) (show Oper.op _ = Op.fieldAddr 85 (Operand.tmp 9) 1 from rfl) (by rfl) (by kernel_rfl) (by rfl)) (by rfl) (by rfl) ?_
  refine Ls.ev (some 25) (Ev.load 0 (show Oper.op _ = Op.load 3 (Operand.tmp 24) from rfl) (by rfl) (by rfl) (by kernel_rfl) (by rfl)) (by rfl) (by rfl) ?_
  refine Ls.ev (some 26) (Ev.lss (show Oper.op _ = Op.binOp BinOp.lss 3 (Operand.tmp 23) (Operand.tmp 25) 3 from rfl) (by rfl) (by rfl)) (by rfl) (by rfl) ?_
  refine Ls.ev (some 27) (Ev.move (show Oper.op _ = Op.move (Operand.tmp 26) from rfl) (by rfl)) (by rfl) (by rfl) ?_
  refine Ent.split 27 (by rfl) (fun h => ?_) (fun (h : decide (id < (lkL l q).id) = true) => absurd (of_decide_eq_true h) (by omega))
  refine Ls.ev (some 28) (Ev.move (show Oper.op _ = Op.move (Operand.tmp 2) from rfl) (by rfl)) (by rfl) (by rfl) ?_
  refine Ls.ev (some 29) (Ev.lss (show Oper.op _ = Op.binOp BinOp.lss 3 (Operand.tmp 28) (Operand.const (Value.int IntKind.i64 1)) 3 from rfl) (by rfl) (by rfl)) (by rfl) (by rfl) ?_
  refine Ls.ev (some 30) (Ev.pickF (show Oper.op _ = Op.pick (Operand.tmp 27) (Operand.const (Value.bool true)) (Operand.tmp 29) from rfl) (by rfl) (by rfl)) (by rfl) (by rfl) ?_
  refine Ls.nil ?_
  refine Cd.cond_false (by rfl) (decide_eq_false h3) ?_
  refine Cd.skip ?_
  refine Cd.seq ?_
  refine Cd.seq ?_
  refine Cd.region ?_
  refine Ls.ev (some 33) (Ev.fieldAddr (k := 2) (show Oper.op _ = Op.fieldAddr 85 (Operand.tmp 9) 2 from rfl) (by rfl) (by kernel_rfl) (by rfl)) (by rfl) (by rfl) ?_
  refine Ls.ev (some 34) (Ev.load 0 (show Oper.op _ = Op.load 4 (Operand.tmp 33) from rfl) (by rfl) (by rfl) (by kernel_rfl) (by rfl)) (by rfl) (by rfl) ?_
  refine Ls.ev (some 35) (Ev.not (show Oper.op _ = Op.unOp UnOp.not 4 (Operand.tmp 34) from rfl) (by rfl)) (by rfl) (by rfl) ?_
  refine Ls.nil ?_
  refine Cd.cond_false (by rfl) (by rw [h4]; rfl) ?_
  refine Cd.skip ?_
  refine Cd.seq ?_
  refine Cd.draw [5] (by kernel_rfl) ?_
  refine Rg.ev 0 (by rfl) (fun _ h => h) (Ev.move (show Oper.op _ = Op.move (Operand.tmp 0) from rfl) (by rfl)) (by rfl) (some 38) (by rfl) (by kernel_rfl) (by kernel_rfl) (by kernel_rfl) (by kernel_rfl) ?_
  refine Rg.ev 1 (by rfl) (fun _ h => h) (Ev.fieldAddr (k := 3) (show Oper.op _ = Op.fieldAddr 85 (Operand.tmp 9) 3 from rfl) (by rfl) (by kernel_rfl) (by rfl)) (by rfl) (some 39) (by rfl) (by kernel_rfl) (by kernel_rfl) (by kernel_rfl) (by kernel_rfl) ?_
  refine Rg.ev 2 (by rfl) (fun _ h => h) (Ev.loads 0 (show Oper.op _ = Op.load 39 (Operand.tmp 39) from rfl) (by rfl) (by rfl) (n := 4) (by kernel_rfl) (by rfl) (by rfl)) (by rfl) (some 40) (by rfl) (by kernel_rfl) (by kernel_rfl) (by kernel_rfl) (by kernel_rfl) ?_
  refine Rg.ev 3 (by rfl) (fun _ h => h) (Ev.assign (show Oper.op _ = Op.assign (Operand.tmp 38) from rfl) (by rfl)) (by rfl) (some 6) (by rfl) (by kernel_rfl) (by kernel_rfl) (by kernel_rfl) (by kernel_rfl) ?_
  refine Rg.ev 4 (by rfl) (fun _ h => h) (Ev.assign (show Oper.op _ = Op.assign (Operand.const (Value.int IntKind.i64 2)) from rfl) (by rfl)) (by rfl) (some 7) (by rfl) (by kernel_rfl) (by kernel_rfl) (by kernel_rfl) (by kernel_rfl) ?_
  refine Rg.tail 5 [] (by rfl) (by kernel_rfl) (Does.store 1 (show Oper.op _ = Op.store 39 (Operand.tmp 8) (Operand.tmp 40) from rfl) (by rfl) (by rfl) (by rfl) (by kernel_rfl) (by rfl) (by kernel_rfl) (by rfl)) (by rfl) none (by rfl) (by kernel_rfl) (by kernel_rfl) ?_
  intro _ _
  refine Rg.done (by kernel_rfl) ?_ _
  refine Cd.ret ?_
  refine Ent.ret (()) (trivial) (Res.tmp2_cell 1 (by rfl) (by rfl) (by rfl) (by rfl) (by rfl) (n := 4) (by kernel_rfl) (by rfl) (by rfl)) ?_ [] (by rfl) ?_
  · rfl
  · rfl

theorem refAns_none (A : Option Addr) (c : Nat) (l : List (Int × SeenD)) (q id code ep st : Int) (B : Option Addr) (m d : Nat) (hn : l.length ≤ 1000000) (hb : id < 1) :
    Fn Try.prog 30 #[.slice A l.length c, .int .i64 q, .int .i64 id, repV code ep st B m d] [rd A l.length 7 (l.flatMap encS)] Unit (fun _ => .tuple #[.slice A l.length c, .int .i64 4]) (fun _ => []) (fun _ => True) := by
  refine Fn.enter Try.func30 rfl Try.ntmps30 (by rfl) ?_
  intro w0
  refine Cd.seq ?_
  refine Cd.region ?_
  refine Ls.does (some 7) (Does.box (show Oper.op _ = Op.box 39 (Operand.tmp 3) from rfl) (by rfl)) (by rfl) (by rfl) ?_
  intro g1 _
  refine Ls.ev (some 8) (Ev.assign (show Oper.op _ = Op.assign (Operand.const (Value.slice none 0 0)) from rfl) (by rfl)) (by rfl) (by rfl) ?_
  refine Ls.ev (some 9) (Ev.assign (show Oper.op _ = Op.assign (Operand.const (Value.int IntKind.i64 0)) from rfl) (by rfl)) (by rfl) (by rfl) ?_
  refine Ls.nil ?_
  refine Cd.seq ?_
  refine Cd.region ?_
  refine Ls.ev (some 11) (Ev.move (show Oper.op _ = Op.move (Operand.tmp 0) from rfl) (by rfl)) (by rfl) (by rfl) ?_
  refine Ls.ev (some 12) (Ev.move (show Oper.op _ = Op.move (Operand.tmp 1) from rfl) (by rfl)) (by rfl) (by rfl) ?_
  refine Ls.does (some 13) (Does.call [1, 0] (show Oper.op _ = Op.call { callee := Callee.value (Operand.func 32), args := #[Operand.tmp 11, Operand.tmp 12], argTypes := #[77, 3] } from rfl) Try.func32 (by kernel_rfl) (by kernel_rfl) (refLast_sl A c l q hn) (by rfl) (by rfl) (by rfl)) (by rfl) (by rfl) ?_
  intro _ _
  refine Ls.does (some 10) (Does.alloc (cs := [.int .i64 0, .int .i64 0, .bool false, .int .i64 0, .int .i64 0, .int .i64 0, .slice none 0 0]) (show Oper.op _ = Op.alloc 85 from rfl) (ZeroIs.mk (.agg #[.int .i64 0, .int .i64 0, .bool false, .int .i64 0, .int .i64 0, .int .i64 0, .slice none 0 0]) (by kernel_rfl) (by rfl))) (by rfl) (by rfl) ?_
  intro g2 _
  refine Ls.does none (Does.store 0 (show Oper.op _ = Op.store 85 (Operand.tmp 10) (Operand.tmp 13) from rfl) (by rfl) (by rfl) (by rfl) (by kernel_rfl) (by rfl) (by kernel_rfl) (by rfl)) (by rfl) (by rfl) ?_
  intro _ _
  refine Ls.nil ?_
  refine Cd.seq ?_
  refine Cd.seq ?_
  refine Cd.region ?_
  refine Ls.ev (some 14) (Ev.move (show Oper.op _ = Op.move (Operand.tmp 2) from rfl) (by rfl)) (by rfl) (by rfl) ?_
  refine Ls.ev (some 15) (Ev.lss (show Oper.op _ = Op.binOp BinOp.lss 3 (Operand.tmp 14) (Operand.const (Value.int IntKind.i64 1)) 3 from rfl) (by rfl) (by rfl)) (by rfl) (by rfl) ?_
  refine Ls.nil ?_
  refine Cd.cond_true (by rfl) (decide_eq_true hb) ?_
  refine Cd.seq ?_
  refine Cd.region ?_
  refine Ls.ev (some 16) (Ev.move (show Oper.op _ = Op.move (Operand.tmp 0) from rfl) (by rfl)) (by rfl) (by rfl) ?_
  refine Ls.ev (some 8) (Ev.assign (show Oper.op _ = Op.assign (Operand.tmp 16) from rfl) (by rfl)) (by rfl) (by rfl) ?_
  refine Ls.ev (some 9) (Ev.assign (show Oper.op _ = Op.assign (Operand.const (Value.int IntKind.i64 4)) from rfl) (by rfl)) (by rfl) (by rfl) ?_
  refine Ls.nil ?_
  refine Cd.ret ?_
  refine Ent.ret (()) (trivial) (Res.tmp2 (by rfl) (by rfl) (by rfl)) ?_ [] (by rfl) ?_
  · rfl
  · rfl
theorem refAns_stale (A : Option Addr) (c : Nat) (l : List (Int × SeenD)) (q id code ep st : Int) (B : Option Addr) (m d : Nat) (hn : l.length ≤ 1000000) (hb : (¬ id < 1) ∧ id ≠ (lkL l q).id) :
    Fn Try.prog 30 #[.slice A l.length c, .int .i64 q, .int .i64 id, repV code ep st B m d] [rd A l.length 7 (l.flatMap encS)] Unit (fun _ => .tuple #[.slice A l.length c, .int .i64 7]) (fun _ => []) (fun _ => True) := by
  refine Fn.enter Try.func30 rfl Try.ntmps30 (by rfl) ?_
  intro w0
  refine Cd.seq ?_
  refine Cd.region ?_
  refine Ls.does (some 7) (Does.box (show Oper.op _ = Op.box 39 (Operand.tmp 3) from rfl) (by rfl)) (by rfl) (by rfl) ?_
  intro g1 _
  refine Ls.ev (some 8) (Ev.assign (show Oper.op _ = Op.assign (Operand.const (Value.slice none 0 0)) from rfl) (by rfl)) (by rfl) (by rfl) ?_
  refine Ls.ev (some 9) (Ev.assign (show Oper.op _ = Op.assign (Operand.const (Value.int IntKind.i64 0)) from rfl) (by rfl)) (by rfl) (by rfl) ?_
  refine Ls.nil ?_
  refine Cd.seq ?_
  refine Cd.region ?_
  refine Ls.ev (some 11) (Ev.move (show Oper.op _ = Op.move (Operand.tmp 0) from rfl) (by rfl)) (by rfl) (by rfl) ?_
  refine Ls.ev (some 12) (Ev.move (show Oper.op _ = Op.move (Operand.tmp 1) from rfl) (by rfl)) (by rfl) (by rfl) ?_
  refine Ls.does (some 13) (Does.call [1, 0] (show Oper.op _ = Op.call { callee := Callee.value (Operand.func 32), args := #[Operand.tmp 11, Operand.tmp 12], argTypes := #[77, 3] } from rfl) Try.func32 (by kernel_rfl) (by kernel_rfl) (refLast_sl A c l q hn) (by rfl) (by rfl) (by rfl)) (by rfl) (by rfl) ?_
  intro _ _
  refine Ls.does (some 10) (Does.alloc (cs := [.int .i64 0, .int .i64 0, .bool false, .int .i64 0, .int .i64 0, .int .i64 0, .slice none 0 0]) (show Oper.op _ = Op.alloc 85 from rfl) (ZeroIs.mk (.agg #[.int .i64 0, .int .i64 0, .bool false, .int .i64 0, .int .i64 0, .int .i64 0, .slice none 0 0]) (by kernel_rfl) (by rfl))) (by rfl) (by rfl) ?_
  intro g2 _
  refine Ls.does none (Does.store 0 (show Oper.op _ = Op.store 85 (Operand.tmp 10) (Operand.tmp 13) from rfl) (by rfl) (by rfl) (by rfl) (by kernel_rfl) (by rfl) (by kernel_rfl) (by rfl)) (by rfl) (by rfl) ?_
  intro _ _
  refine Ls.nil ?_
  refine Cd.seq ?_
  refine Cd.seq ?_
  refine Cd.region ?_
  refine Ls.ev (some 14) (Ev.move (show Oper.op _ = Op.move (Operand.tmp 2) from rfl) (by rfl)) (by rfl) (by rfl) ?_
  refine Ls.ev (some 15) (Ev.lss (show Oper.op _ = Op.binOp BinOp.lss 3 (Operand.tmp 14) (Operand.const (Value.int IntKind.i64 1)) 3 from rfl) (by rfl) (by rfl)) (by rfl) (by rfl) ?_
  refine Ls.nil ?_
  refine Cd.cond_false (by rfl) (decide_eq_false hb.1) ?_
  refine Cd.skip ?_
  refine Cd.seq ?_
  refine Cd.seq ?_
  refine Cd.region ?_
  refine Ls.ev (some 17) (Ev.move (show Oper.op _ = Op.move (Operand.tmp 2) from rfl) (by rfl)) (by rfl) (by rfl) ?_
  refine Ls.ev (some 18) (Ev.fieldAddr (k := 1) (show Oper.op _ = Op.fieldAddr 85 (Operand.tmp 10) 1 from rfl) (by rfl) (by kernel_rfl) (by rfl)) (by rfl) (by rfl) ?_
  refine Ls.ev (some 19) (Ev.load 0 (show Oper.op _ = Op.load 3 (Operand.tmp 18) from rfl) (by rfl) (by rfl) (by kernel_rfl) (by rfl)) (by rfl) (by rfl) ?_
  refine Ls.ev (some 20) (Ev.neq (show Oper.op _ = Op.binOp BinOp.neq 3 (Operand.tmp 17) (Operand.tmp 19) 3 from rfl) (by rfl) (by rfl)) (by rfl) (by rfl) ?_
  refine Ls.nil ?_
  refine Cd.cond_true (by rfl) (decide_eq_true hb.2) ?_
  refine Cd.seq ?_
  refine Cd.region ?_
  refine Ls.ev (some 21) (Ev.move (show Oper.op _ = Op.move (Operand.tmp 0) from rfl) (by rfl)) (by rfl) (by rfl) ?_
  refine Ls.ev (some 8) (Ev.assign (show Oper.op _ = Op.assign (Operand.tmp 21) from rfl) (by rfl)) (by rfl) (by rfl) ?_
  refine Ls.ev (some 9) (Ev.assign (show Oper.op _ = Op.assign (Operand.const (Value.int IntKind.i64 7)) from rfl) (by rfl)) (by rfl) (by rfl) ?_
  refine Ls.nil ?_
  refine Cd.ret ?_
  refine Ent.ret (()) (trivial) (Res.tmp2 (by rfl) (by rfl) (by rfl)) ?_ [] (by rfl) ?_
  · rfl
  · rfl
theorem refAns_twice (A : Option Addr) (c : Nat) (l : List (Int × SeenD)) (q id code ep st : Int) (B : Option Addr) (m d : Nat) (hn : l.length ≤ 1000000) (hb : (¬ id < 1) ∧ id = (lkL l q).id ∧ (lkL l q).dn = true) :
    Fn Try.prog 30 #[.slice A l.length c, .int .i64 q, .int .i64 id, repV code ep st B m d] [rd A l.length 7 (l.flatMap encS)] Unit (fun _ => .tuple #[.slice A l.length c, .int .i64 2]) (fun _ => []) (fun _ => True) := by
  refine Fn.enter Try.func30 rfl Try.ntmps30 (by rfl) ?_
  intro w0
  refine Cd.seq ?_
  refine Cd.region ?_
  refine Ls.does (some 7) (Does.box (show Oper.op _ = Op.box 39 (Operand.tmp 3) from rfl) (by rfl)) (by rfl) (by rfl) ?_
  intro g1 _
  refine Ls.ev (some 8) (Ev.assign (show Oper.op _ = Op.assign (Operand.const (Value.slice none 0 0)) from rfl) (by rfl)) (by rfl) (by rfl) ?_
  refine Ls.ev (some 9) (Ev.assign (show Oper.op _ = Op.assign (Operand.const (Value.int IntKind.i64 0)) from rfl) (by rfl)) (by rfl) (by rfl) ?_
  refine Ls.nil ?_
  refine Cd.seq ?_
  refine Cd.region ?_
  refine Ls.ev (some 11) (Ev.move (show Oper.op _ = Op.move (Operand.tmp 0) from rfl) (by rfl)) (by rfl) (by rfl) ?_
  refine Ls.ev (some 12) (Ev.move (show Oper.op _ = Op.move (Operand.tmp 1) from rfl) (by rfl)) (by rfl) (by rfl) ?_
  refine Ls.does (some 13) (Does.call [1, 0] (show Oper.op _ = Op.call { callee := Callee.value (Operand.func 32), args := #[Operand.tmp 11, Operand.tmp 12], argTypes := #[77, 3] } from rfl) Try.func32 (by kernel_rfl) (by kernel_rfl) (refLast_sl A c l q hn) (by rfl) (by rfl) (by rfl)) (by rfl) (by rfl) ?_
  intro _ _
  refine Ls.does (some 10) (Does.alloc (cs := [.int .i64 0, .int .i64 0, .bool false, .int .i64 0, .int .i64 0, .int .i64 0, .slice none 0 0]) (show Oper.op _ = Op.alloc 85 from rfl) (ZeroIs.mk (.agg #[.int .i64 0, .int .i64 0, .bool false, .int .i64 0, .int .i64 0, .int .i64 0, .slice none 0 0]) (by kernel_rfl) (by rfl))) (by rfl) (by rfl) ?_
  intro g2 _
  refine Ls.does none (Does.store 0 (show Oper.op _ = Op.store 85 (Operand.tmp 10) (Operand.tmp 13) from rfl) (by rfl) (by rfl) (by rfl) (by kernel_rfl) (by rfl) (by kernel_rfl) (by rfl)) (by rfl) (by rfl) ?_
  intro _ _
  refine Ls.nil ?_
  refine Cd.seq ?_
  refine Cd.seq ?_
  refine Cd.region ?_
  refine Ls.ev (some 14) (Ev.move (show Oper.op _ = Op.move (Operand.tmp 2) from rfl) (by rfl)) (by rfl) (by rfl) ?_
  refine Ls.ev (some 15) (Ev.lss (show Oper.op _ = Op.binOp BinOp.lss 3 (Operand.tmp 14) (Operand.const (Value.int IntKind.i64 1)) 3 from rfl) (by rfl) (by rfl)) (by rfl) (by rfl) ?_
  refine Ls.nil ?_
  refine Cd.cond_false (by rfl) (decide_eq_false hb.1) ?_
  refine Cd.skip ?_
  refine Cd.seq ?_
  refine Cd.seq ?_
  refine Cd.region ?_
  refine Ls.ev (some 17) (Ev.move (show Oper.op _ = Op.move (Operand.tmp 2) from rfl) (by rfl)) (by rfl) (by rfl) ?_
  refine Ls.ev (some 18) (Ev.fieldAddr (k := 1) (show Oper.op _ = Op.fieldAddr 85 (Operand.tmp 10) 1 from rfl) (by rfl) (by kernel_rfl) (by rfl)) (by rfl) (by rfl) ?_
  refine Ls.ev (some 19) (Ev.load 0 (show Oper.op _ = Op.load 3 (Operand.tmp 18) from rfl) (by rfl) (by rfl) (by kernel_rfl) (by rfl)) (by rfl) (by rfl) ?_
  refine Ls.ev (some 20) (Ev.neq (show Oper.op _ = Op.binOp BinOp.neq 3 (Operand.tmp 17) (Operand.tmp 19) 3 from rfl) (by rfl) (by rfl)) (by rfl) (by rfl) ?_
  refine Ls.nil ?_
  refine Cd.cond_false (by rfl) (decide_eq_false (fun (h : id ≠ (lkL l q).id) => h hb.2.1)) ?_
  refine Cd.skip ?_
  refine Cd.seq ?_
  refine Cd.seq ?_
  refine Cd.region ?_
  refine Ls.ev (some 22) (Ev.fieldAddr (k := 2) (show Oper.op _ = Op.fieldAddr 85 (Operand.tmp 10) 2 from rfl) (by rfl) (by kernel_rfl) (by rfl)) (by rfl) (by rfl) ?_
  refine Ls.ev (some 23) (Ev.load 0 (show Oper.op _ = Op.load 4 (Operand.tmp 22) from rfl) (by rfl) (by rfl) (by kernel_rfl) (by rfl)) (by rfl) (by rfl) ?_
  refine Ls.nil ?_
  refine Cd.cond_true (by rfl) (hb.2.2) ?_
  refine Cd.seq ?_
  refine Cd.region ?_
  refine Ls.ev (some 24) (Ev.move (show Oper.op _ = Op.move (Operand.tmp 0) from rfl) (by rfl)) (by rfl) (by rfl) ?_
  refine Ls.ev (some 8) (Ev.assign (show Oper.op _ = Op.assign (Operand.tmp 24) from rfl) (by rfl)) (by rfl) (by rfl) ?_
  refine Ls.ev (some 9) (Ev.assign (show Oper.op _ = Op.assign (Operand.const (Value.int IntKind.i64 2)) from rfl) (by rfl)) (by rfl) (by rfl) ?_
  refine Ls.nil ?_
  refine Cd.ret ?_
  refine Ent.ret (()) (trivial) (Res.tmp2 (by rfl) (by rfl) (by rfl)) ?_ [] (by rfl) ?_
  · rfl
  · rfl
theorem refAns_ok (A : Option Addr) (c : Nat) (l : List (Int × SeenD)) (q id code ep st : Int) (B : Option Addr) (d : Nat) (xs : List Int) (hn : l.length ≤ 1000000) (h1 : ¬ id < 1) (h2 : id = (lkL l q).id) (h3 : (lkL l q).dn = false) :
    Fn Try.prog 30 #[.slice A l.length c, .int .i64 q, .int .i64 id, repV code ep st B xs.length d] [rd A l.length 7 (l.flatMap encS)] (Option Addr × Nat) (fun p => .tuple #[.slice p.1 (loadL l q ⟨id, true, code, ep, st, B, d, xs⟩).length p.2, .int .i64 0])
      (fun p => [row p.1 (loadL l q ⟨id, true, code, ep, st, B, d, xs⟩).length p.2 85 7 ((loadL l q ⟨id, true, code, ep, st, B, d, xs⟩).flatMap encS)]) (fun _ => True) := by
  refine Fn.enter Try.func30 rfl Try.ntmps30 (by rfl) ?_
  intro w0
  refine Cd.seq ?_
  refine Cd.region ?_
  refine Ls.does (some 7) (Does.box (show Oper.op _ = Op.box 39 (Operand.tmp 3) from rfl) (by rfl)) (by rfl) (by rfl) ?_
  intro g1 _
  refine Ls.ev (some 8) (Ev.assign (show Oper.op _ = Op.assign (Operand.const (Value.slice none 0 0)) from rfl) (by rfl)) (by rfl) (by rfl) ?_
  refine Ls.ev (some 9) (Ev.assign (show Oper.op _ = Op.assign (Operand.const (Value.int IntKind.i64 0)) from rfl) (by rfl)) (by rfl) (by rfl) ?_
  refine Ls.nil ?_
  refine Cd.seq ?_
  refine Cd.region ?_
  refine Ls.ev (some 11) (Ev.move (show Oper.op _ = Op.move (Operand.tmp 0) from rfl) (by rfl)) (by rfl) (by rfl) ?_
  refine Ls.ev (some 12) (Ev.move (show Oper.op _ = Op.move (Operand.tmp 1) from rfl) (by rfl)) (by rfl) (by rfl) ?_
  refine Ls.does (some 13) (Does.call [1, 1, 0] (show Oper.op _ = Op.call { callee := Callee.value (Operand.func 32), args := #[Operand.tmp 11, Operand.tmp 12], argTypes := #[77, 3] } from rfl) Try.func32 (by kernel_rfl) (by kernel_rfl) (refLast_sl A c l q hn) (by rfl) (by rfl) (by rfl)) (by rfl) (by rfl) ?_
  intro _ _
  refine Ls.does (some 10) (Does.alloc (cs := [.int .i64 0, .int .i64 0, .bool false, .int .i64 0, .int .i64 0, .int .i64 0, .slice none 0 0]) (show Oper.op _ = Op.alloc 85 from rfl) (ZeroIs.mk (.agg #[.int .i64 0, .int .i64 0, .bool false, .int .i64 0, .int .i64 0, .int .i64 0, .slice none 0 0]) (by kernel_rfl) (by rfl))) (by rfl) (by rfl) ?_
  intro g2 _
  refine Ls.does none (Does.store 0 (show Oper.op _ = Op.store 85 (Operand.tmp 10) (Operand.tmp 13) from rfl) (by rfl) (by rfl) (by rfl) (by kernel_rfl) (by rfl) (by kernel_rfl) (by rfl)) (by rfl) (by rfl) ?_
  intro _ _
  refine Ls.nil ?_
  refine Cd.seq ?_
  refine Cd.seq ?_
  refine Cd.region ?_
  refine Ls.ev (some 14) (Ev.move (show Oper.op _ = Op.move (Operand.tmp 2) from rfl) (by rfl)) (by rfl) (by rfl) ?_
  refine Ls.ev (some 15) (Ev.lss (show Oper.op _ = Op.binOp BinOp.lss 3 (Operand.tmp 14) (Operand.const (Value.int IntKind.i64 1)) 3 from rfl) (by rfl) (by rfl)) (by rfl) (by rfl) ?_
  refine Ls.nil ?_
  refine Cd.cond_false (by rfl) (decide_eq_false h1) ?_
  refine Cd.skip ?_
  refine Cd.seq ?_
  refine Cd.seq ?_
  refine Cd.region ?_
  refine Ls.ev (some 17) (Ev.move (show Oper.op _ = Op.move (Operand.tmp 2) from rfl) (by rfl)) (by rfl) (by rfl) ?_
  refine Ls.ev (some 18) (Ev.fieldAddr (k := 1) (show Oper.op _ = Op.fieldAddr 85 (Operand.tmp 10) 1 from rfl) (by rfl) (by kernel_rfl) (by rfl)) (by rfl) (by rfl) ?_
  refine Ls.ev (some 19) (Ev.load 0 (show Oper.op _ = Op.load 3 (Operand.tmp 18) from rfl) (by rfl) (by rfl) (by kernel_rfl) (by rfl)) (by rfl) (by rfl) ?_
  refine Ls.ev (some 20) (Ev.neq (show Oper.op _ = Op.binOp BinOp.neq 3 (Operand.tmp 17) (Operand.tmp 19) 3 from rfl) (by rfl) (by rfl)) (by rfl) (by rfl) ?_
  refine Ls.nil ?_
  refine Cd.cond_false (by rfl) (decide_eq_false (fun (h : id ≠ (lkL l q).id) => h h2)) ?_
  refine Cd.skip ?_
  refine Cd.seq ?_
  refine Cd.seq ?_
  refine Cd.region ?_
  refine Ls.ev (some 22) (Ev.fieldAddr (k := 2) (show Oper.op _ = Op.fieldAddr 85 (Operand.tmp 10) 2 from rfl) (by rfl) (by kernel_rfl) (by rfl)) (by rfl) (by rfl) ?_
  refine Ls.ev (some 23) (Ev.load 0 (show Oper.op _ = Op.load 4 (Operand.tmp 22) from rfl) (by rfl) (by rfl) (by kernel_rfl) (by rfl)) (by rfl) (by rfl) ?_
  refine Ls.nil ?_
  refine Cd.cond_false (by rfl) (h3) ?_
  refine Cd.skip ?_
  refine Cd.seq ?_
  refine Cd.region ?_
  refine Ls.ev (some 25) (Ev.move (show Oper.op _ = Op.move (Operand.tmp 0) from rfl) (by rfl)) (by rfl) (by rfl) ?_
  refine Ls.ev (some 26) (Ev.move (show Oper.op _ = Op.move (Operand.tmp 1) from rfl) (by rfl)) (by rfl) (by rfl) ?_
  refine Ls.ev (some 27) (Ev.move (show Oper.op _ = Op.move (Operand.tmp 2) from rfl) (by rfl)) (by rfl) (by rfl) ?_
  refine Ls.ev (some 28) (Ev.loads 2 (show Oper.op _ = Op.load 39 (Operand.tmp 7) from rfl) (by rfl) (by rfl) (n := 4) (by kernel_rfl) (by rfl) (by rfl)) (by rfl) (by rfl) ?_
  refine Ls.ev (some 29) (Ev.buildP (pl := [(0, 1), (1, 1), (2, 1), (3, 4)]) (zs := [.int .i64 0, .int .i64 0, .bool false, .int .i64 0, .int .i64 0, .int .i64 0, .slice none 0 0]) (show Oper.op _ = Op.build 85 #[(0, Operand.tmp 26), (1, Operand.tmp 27), (2, Operand.const (Value.bool true)), (3, Operand.tmp 28)] from rfl) (by rfl) (by kernel_rfl) (by rfl)) (by rfl) (by rfl) ?_
  refine Ls.does (some 30) (Does.call [1, 2] (show Oper.op _ = Op.call { callee := Callee.value (Operand.func 31), args := #[Operand.tmp 25, Operand.tmp 29], argTypes := #[77, 85] } from rfl) Try.func31 (by kernel_rfl) (by kernel_rfl) (refLoad_sl A c l q ⟨id, true, code, ep, st, B, d, xs⟩ hn) (by rfl) (by rfl) (by rfl)) (by rfl) (by rfl) ?_
  intro p _
  refine Ls.ev (some 8) (Ev.assign (show Oper.op _ = Op.assign (Operand.tmp 30) from rfl) (by rfl)) (by rfl) (by rfl) ?_
  refine Ls.ev (some 9) (Ev.assign (show Oper.op _ = Op.assign (Operand.const (Value.int IntKind.i64 0)) from rfl) (by rfl)) (by rfl) (by rfl) ?_
  refine Ls.nil ?_
  refine Cd.ret ?_
  refine Ent.ret (p) (trivial) (Res.tmp2 (by rfl) (by rfl) (by rfl)) ?_ [0] (by rfl) ?_
  · rfl
  · rfl
end Go.Proofs.Ytgidkjfakecniaa
