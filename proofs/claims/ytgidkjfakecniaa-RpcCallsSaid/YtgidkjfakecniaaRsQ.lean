/- the document's own copy of a message; two lists of messages that are the same -/
import Derived.Test.YtgidkjfakecniaaRsP
import Derived.Test.YtgidkjfakecniaaRsI
namespace Go.Proofs.Ytgidkjfakecniaa
open Go.RowKit
theorem one_strs (xs : List ByteArray) : ∀ u ∈ strs xs, u.oneCell' = true := fun u hu => by
  simp only [strs, List.mem_map] at hu
  obtain ⟨x, _, rfl⟩ := hu
  rfl
set_option maxHeartbeats 4000000 in
theorem own10_sl (fr to kd tn tl tc wr : Int) (tA : Option Addr) (tC : Nat) (tx : List ByteArray) (dA : Option Addr) (dC : Nat) (dx : List ByteArray) (yes : Bool) (id cv ce cs : Int) (cA : Option Addr) (cC : Nat) (cx : List Int) (rc re rs : Int) (rA : Option Addr) (rC : Nat) (rx : List Int)
    (h1 : tx.length ≤ 8796093022207) (h2 : dx.length ≤ 8796093022207) (h3 : cx.length ≤ 17592186044415) (h4 : rx.length ≤ 17592186044415) :
    Fn Try.prog 21 #[.agg (MsgA.enc ⟨fr, to, kd, ⟨tn, tl, tc⟩, ⟨wr, tA, tC, tx, dA, dC, dx⟩, yes, id, ⟨cv, ce, ⟨cs, cA, cC, cx⟩⟩, ⟨rc, re, ⟨rs, rA, rC, rx⟩⟩⟩).toArray] [rd tA tx.length 1 (strs tx), rd dA dx.length 1 (strs dx), rd cA cx.length 1 (ints cx), rd rA rx.length 1 (ints rx)] MsgA (fun M => .agg M.enc.toArray) (fun _ => []) (fun M => M.fr = fr ∧ M.to = to ∧ M.kind = kd ∧ M.iD = id) := by
  refine Fn.enter Try.func21 rfl Try.ntmps21 (by rfl) ?_
  intro w0
  refine Cd.seq ?_
  refine Cd.region ?_
  refine Ls.does (some 1) (Does.box (show Oper.op _ = Op.box 41 (Operand.tmp 0) from rfl) (by rfl)) (by rfl) (by rfl) ?_
  intro g1 _
  refine Ls.does (some 2) (Does.alloc (cs := [.int .i64 0, .int .i64 0, .int .i64 0, .int .i64 0, .int .i64 0, .int .i64 0, .int .i64 0, .slice none 0 0, .slice none 0 0, .bool false, .int .i64 0, .int .i64 0, .int .i64 0, .int .i64 0, .slice none 0 0, .int .i64 0, .int .i64 0, .int .i64 0, .slice none 0 0]) (show Oper.op _ = Op.alloc 41 from rfl) (ZeroIs.mk (.agg #[.int .i64 0, .int .i64 0, .int .i64 0, .int .i64 0, .int .i64 0, .int .i64 0, .int .i64 0, .slice none 0 0, .slice none 0 0, .bool false, .int .i64 0, .int .i64 0, .int .i64 0, .int .i64 0, .slice none 0 0, .int .i64 0, .int .i64 0, .int .i64 0, .slice none 0 0]) (by kernel_rfl) (by rfl))) (by rfl) (by rfl) ?_
  intro g2 _
  refine Ls.nil ?_
  refine Cd.seq ?_
  refine Cd.region ?_
  refine Ls.does (some 3) (Does.lit0 (sz := 1) (show Oper.op _ = Op.buildSlice 34 0 #[] from rfl) Try.underlying34 (by kernel_rfl)) (by rfl) (by rfl) ?_
  intro g3 _
  refine Ls.ev (some 4) (Ev.fieldAddr (k := 6) (show Oper.op _ = Op.fieldAddr 41 (Operand.tmp 1) 4 from rfl) (by rfl) (by kernel_rfl) (by rfl)) (by rfl) (by rfl) ?_
  refine Ls.ev (some 5) (Ev.fieldAddr (k := 1) (show Oper.op _ = Op.fieldAddr 36 (Operand.tmp 4) 1 from rfl) (by rfl) (by kernel_rfl) (by rfl)) (by rfl) (by rfl) ?_
  refine Ls.ev (some 6) (Ev.load 2 (show Oper.op _ = Op.load 34 (Operand.tmp 5) from rfl) (by rfl) (by rfl) (by kernel_rfl) (by rfl)) (by rfl) (by rfl) ?_
  refine Ent.restate [row (some ⟨g3, 0, none⟩) 0 0 9 1 [], blk g2 41 (msg 0 0 0 0 0 0 0 none 0 0), blk g1 41 [.int .i64 fr, .int .i64 to, .int .i64 kd, .int .i64 tn, .int .i64 tl, .int .i64 tc, .int .i64 wr, .slice tA tx.length tC, .slice dA dx.length dC, .bool yes, .int .i64 id, .int .i64 cv, .int .i64 ce, .int .i64 cs, .slice cA cx.length cC, .int .i64 rc, .int .i64 re, .int .i64 rs, .slice rA rx.length rC], rd tA tx.length 1 (strs tx), rd dA dx.length 1 (strs dx), rd cA cx.length 1 (ints cx), rd rA rx.length 1 (ints rx)] (by rfl) ?_
  refine Ls.does (some 7) (Does.app0 0 (show Oper.op _ = Op.call { callee := Callee.builtin Builtin.append, args := #[Operand.tmp 3, Operand.tmp 6], argTypes := #[34, 34] } from rfl) (by rfl) (by rfl) (by rfl) (ReadsIn.rd 3 (by rfl)) elem_str (one_strs tx) (by show tx.length * 16 ≤ _; omega)) (by rfl) (by rfl) ?_
  intro p1 _
  refine Ent.pick [1, 2, 3, 4, 5, 6] (by rfl) ?_
  refine Ls.ev (some 8) (Ev.fieldAddr (k := 6) (show Oper.op _ = Op.fieldAddr 41 (Operand.tmp 1) 4 from rfl) (by rfl) (by kernel_rfl) (by rfl)) (by rfl) (by rfl) ?_
  refine Ls.ev (some 9) (Ev.fieldAddr (k := 1) (show Oper.op _ = Op.fieldAddr 36 (Operand.tmp 8) 1 from rfl) (by rfl) (by kernel_rfl) (by rfl)) (by rfl) (by rfl) ?_
  refine Ls.does none (Does.store 1 (show Oper.op _ = Op.store 34 (Operand.tmp 9) (Operand.tmp 7) from rfl) (by rfl) (by rfl) (by rfl) (by kernel_rfl) (by rfl) (by kernel_rfl) (by rfl)) (by rfl) (by rfl) ?_
  intro _ _
  refine Ent.restate [blk g2 41 (msg 0 0 0 0 0 0 0 none 0 0), blk g1 41 [.int .i64 fr, .int .i64 to, .int .i64 kd, .int .i64 tn, .int .i64 tl, .int .i64 tc, .int .i64 wr, .slice p1.1 tx.length p1.2, .slice dA dx.length dC, .bool yes, .int .i64 id, .int .i64 cv, .int .i64 ce, .int .i64 cs, .slice cA cx.length cC, .int .i64 rc, .int .i64 re, .int .i64 rs, .slice rA rx.length rC], rd tA tx.length 1 (strs tx), rd dA dx.length 1 (strs dx), rd cA cx.length 1 (ints cx), rd rA rx.length 1 (ints rx)] (by rfl) ?_
  refine Ls.nil ?_
  refine Cd.seq ?_
  refine Cd.region ?_
  refine Ls.does (some 10) (Does.lit0 (sz := 1) (show Oper.op _ = Op.buildSlice 34 0 #[] from rfl) Try.underlying34 (by kernel_rfl)) (by rfl) (by rfl) ?_
  intro g4 _
  refine Ls.ev (some 11) (Ev.fieldAddr (k := 6) (show Oper.op _ = Op.fieldAddr 41 (Operand.tmp 1) 4 from rfl) (by rfl) (by kernel_rfl) (by rfl)) (by rfl) (by rfl) ?_
  refine Ls.ev (some 12) (Ev.fieldAddr (k := 2) (show Oper.op _ = Op.fieldAddr 36 (Operand.tmp 11) 2 from rfl) (by rfl) (by kernel_rfl) (by rfl)) (by rfl) (by rfl) ?_
  refine Ls.ev (some 13) (Ev.load 2 (show Oper.op _ = Op.load 34 (Operand.tmp 12) from rfl) (by rfl) (by rfl) (by kernel_rfl) (by rfl)) (by rfl) (by rfl) ?_
  refine Ent.restate [row (some ⟨g4, 0, none⟩) 0 0 9 1 [], blk g2 41 (msg 0 0 0 0 0 0 0 none 0 0), blk g1 41 [.int .i64 fr, .int .i64 to, .int .i64 kd, .int .i64 tn, .int .i64 tl, .int .i64 tc, .int .i64 wr, .slice p1.1 tx.length p1.2, .slice dA dx.length dC, .bool yes, .int .i64 id, .int .i64 cv, .int .i64 ce, .int .i64 cs, .slice cA cx.length cC, .int .i64 rc, .int .i64 re, .int .i64 rs, .slice rA rx.length rC], rd tA tx.length 1 (strs tx), rd dA dx.length 1 (strs dx), rd cA cx.length 1 (ints cx), rd rA rx.length 1 (ints rx)] (by rfl) ?_
  refine Ls.does (some 14) (Does.app0 0 (show Oper.op _ = Op.call { callee := Callee.builtin Builtin.append, args := #[Operand.tmp 10, Operand.tmp 13], argTypes := #[34, 34] } from rfl) (by rfl) (by rfl) (by rfl) (ReadsIn.rd 4 (by rfl)) elem_str (one_strs dx) (by show dx.length * 16 ≤ _; omega)) (by rfl) (by rfl) ?_
  intro p2 _
  refine Ent.pick [1, 2, 3, 4, 5, 6] (by rfl) ?_
  refine Ls.ev (some 15) (Ev.fieldAddr (k := 6) (show Oper.op _ = Op.fieldAddr 41 (Operand.tmp 1) 4 from rfl) (by rfl) (by kernel_rfl) (by rfl)) (by rfl) (by rfl) ?_
  refine Ls.ev (some 16) (Ev.fieldAddr (k := 2) (show Oper.op _ = Op.fieldAddr 36 (Operand.tmp 15) 2 from rfl) (by rfl) (by kernel_rfl) (by rfl)) (by rfl) (by rfl) ?_
  refine Ls.does none (Does.store 1 (show Oper.op _ = Op.store 34 (Operand.tmp 16) (Operand.tmp 14) from rfl) (by rfl) (by rfl) (by rfl) (by kernel_rfl) (by rfl) (by kernel_rfl) (by rfl)) (by rfl) (by rfl) ?_
  intro _ _
  refine Ent.restate [blk g2 41 (msg 0 0 0 0 0 0 0 none 0 0), blk g1 41 [.int .i64 fr, .int .i64 to, .int .i64 kd, .int .i64 tn, .int .i64 tl, .int .i64 tc, .int .i64 wr, .slice p1.1 tx.length p1.2, .slice p2.1 dx.length p2.2, .bool yes, .int .i64 id, .int .i64 cv, .int .i64 ce, .int .i64 cs, .slice cA cx.length cC, .int .i64 rc, .int .i64 re, .int .i64 rs, .slice rA rx.length rC], rd tA tx.length 1 (strs tx), rd dA dx.length 1 (strs dx), rd cA cx.length 1 (ints cx), rd rA rx.length 1 (ints rx)] (by rfl) ?_
  refine Ls.nil ?_
  refine Cd.seq ?_
  refine Cd.region ?_
  refine Ls.does (some 17) (Does.lit0 (sz := 1) (show Oper.op _ = Op.buildSlice 23 0 #[] from rfl) Try.underlying23 (by kernel_rfl)) (by rfl) (by rfl) ?_
  intro g5 _
  refine Ls.ev (some 18) (Ev.fieldAddr (k := 11) (show Oper.op _ = Op.fieldAddr 41 (Operand.tmp 1) 7 from rfl) (by rfl) (by kernel_rfl) (by rfl)) (by rfl) (by rfl) ?_
  refine Ls.ev (some 19) (Ev.fieldAddr (k := 2) (show Oper.op _ = Op.fieldAddr 27 (Operand.tmp 18) 2 from rfl) (by rfl) (by kernel_rfl) (by rfl)) (by rfl) (by rfl) ?_
  refine Ls.ev (some 20) (Ev.fieldAddr (k := 1) (show Oper.op _ = Op.fieldAddr 25 (Operand.tmp 19) 1 from rfl) (by rfl) (by kernel_rfl) (by rfl)) (by rfl) (by rfl) ?_
  refine Ls.ev (some 21) (Ev.load 2 (show Oper.op _ = Op.load 23 (Operand.tmp 20) from rfl) (by rfl) (by rfl) (by kernel_rfl) (by rfl)) (by rfl) (by rfl) ?_
  refine Ent.restate [row (some ⟨g5, 0, none⟩) 0 0 3 1 [], blk g2 41 (msg 0 0 0 0 0 0 0 none 0 0), blk g1 41 [.int .i64 fr, .int .i64 to, .int .i64 kd, .int .i64 tn, .int .i64 tl, .int .i64 tc, .int .i64 wr, .slice p1.1 tx.length p1.2, .slice p2.1 dx.length p2.2, .bool yes, .int .i64 id, .int .i64 cv, .int .i64 ce, .int .i64 cs, .slice cA cx.length cC, .int .i64 rc, .int .i64 re, .int .i64 rs, .slice rA rx.length rC], rd tA tx.length 1 (strs tx), rd dA dx.length 1 (strs dx), rd cA cx.length 1 (ints cx), rd rA rx.length 1 (ints rx)] (by rfl) ?_
  refine Ls.does (some 22) (Does.app0 0 (show Oper.op _ = Op.call { callee := Callee.builtin Builtin.append, args := #[Operand.tmp 17, Operand.tmp 21], argTypes := #[23, 23] } from rfl) (by rfl) (by rfl) (by rfl) (ReadsIn.rd 5 (by rfl)) elem_int (one_ints cx) (by show cx.length * 8 ≤ _; omega)) (by rfl) (by rfl) ?_
  intro p3 _
  refine Ent.pick [1, 2, 3, 4, 5, 6] (by rfl) ?_
  refine Ls.ev (some 23) (Ev.fieldAddr (k := 11) (show Oper.op _ = Op.fieldAddr 41 (Operand.tmp 1) 7 from rfl) (by rfl) (by kernel_rfl) (by rfl)) (by rfl) (by rfl) ?_
  refine Ls.ev (some 24) (Ev.fieldAddr (k := 2) (show Oper.op _ = Op.fieldAddr 27 (Operand.tmp 23) 2 from rfl) (by rfl) (by kernel_rfl) (by rfl)) (by rfl) (by rfl) ?_
  refine Ls.ev (some 25) (Ev.fieldAddr (k := 1) (show Oper.op _ = Op.fieldAddr 25 (Operand.tmp 24) 1 from rfl) (by rfl) (by kernel_rfl) (by rfl)) (by rfl) (by rfl) ?_
  refine Ls.does none (Does.store 1 (show Oper.op _ = Op.store 23 (Operand.tmp 25) (Operand.tmp 22) from rfl) (by rfl) (by rfl) (by rfl) (by kernel_rfl) (by rfl) (by kernel_rfl) (by rfl)) (by rfl) (by rfl) ?_
  intro _ _
  refine Ent.restate [blk g2 41 (msg 0 0 0 0 0 0 0 none 0 0), blk g1 41 [.int .i64 fr, .int .i64 to, .int .i64 kd, .int .i64 tn, .int .i64 tl, .int .i64 tc, .int .i64 wr, .slice p1.1 tx.length p1.2, .slice p2.1 dx.length p2.2, .bool yes, .int .i64 id, .int .i64 cv, .int .i64 ce, .int .i64 cs, .slice p3.1 cx.length p3.2, .int .i64 rc, .int .i64 re, .int .i64 rs, .slice rA rx.length rC], rd tA tx.length 1 (strs tx), rd dA dx.length 1 (strs dx), rd cA cx.length 1 (ints cx), rd rA rx.length 1 (ints rx)] (by rfl) ?_
  refine Ls.nil ?_
  refine Cd.seq ?_
  refine Cd.region ?_
  refine Ls.does (some 26) (Does.lit0 (sz := 1) (show Oper.op _ = Op.buildSlice 23 0 #[] from rfl) Try.underlying23 (by kernel_rfl)) (by rfl) (by rfl) ?_
  intro g6 _
  refine Ls.ev (some 27) (Ev.fieldAddr (k := 15) (show Oper.op _ = Op.fieldAddr 41 (Operand.tmp 1) 8 from rfl) (by rfl) (by kernel_rfl) (by rfl)) (by rfl) (by rfl) ?_
  refine Ls.ev (some 28) (Ev.fieldAddr (k := 2) (show Oper.op _ = Op.fieldAddr 39 (Operand.tmp 27) 2 from rfl) (by rfl) (by kernel_rfl) (by rfl)) (by rfl) (by rfl) ?_
  refine Ls.ev (some 29) (Ev.fieldAddr (k := 1) (show Oper.op _ = Op.fieldAddr 25 (Operand.tmp 28) 1 from rfl) (by rfl) (by kernel_rfl) (by rfl)) (by rfl) (by rfl) ?_
  refine Ls.ev (some 30) (Ev.load 2 (show Oper.op _ = Op.load 23 (Operand.tmp 29) from rfl) (by rfl) (by rfl) (by kernel_rfl) (by rfl)) (by rfl) (by rfl) ?_
  refine Ent.restate [row (some ⟨g6, 0, none⟩) 0 0 3 1 [], blk g2 41 (msg 0 0 0 0 0 0 0 none 0 0), blk g1 41 [.int .i64 fr, .int .i64 to, .int .i64 kd, .int .i64 tn, .int .i64 tl, .int .i64 tc, .int .i64 wr, .slice p1.1 tx.length p1.2, .slice p2.1 dx.length p2.2, .bool yes, .int .i64 id, .int .i64 cv, .int .i64 ce, .int .i64 cs, .slice p3.1 cx.length p3.2, .int .i64 rc, .int .i64 re, .int .i64 rs, .slice rA rx.length rC], rd tA tx.length 1 (strs tx), rd dA dx.length 1 (strs dx), rd cA cx.length 1 (ints cx), rd rA rx.length 1 (ints rx)] (by rfl) ?_
  refine Ls.does (some 31) (Does.app0 0 (show Oper.op _ = Op.call { callee := Callee.builtin Builtin.append, args := #[Operand.tmp 26, Operand.tmp 30], argTypes := #[23, 23] } from rfl) (by rfl) (by rfl) (by rfl) (ReadsIn.rd 6 (by rfl)) elem_int (one_ints rx) (by show rx.length * 8 ≤ _; omega)) (by rfl) (by rfl) ?_
  intro p4 _
  refine Ent.pick [1, 2, 3, 4, 5, 6] (by rfl) ?_
  refine Ls.ev (some 32) (Ev.fieldAddr (k := 15) (show Oper.op _ = Op.fieldAddr 41 (Operand.tmp 1) 8 from rfl) (by rfl) (by kernel_rfl) (by rfl)) (by rfl) (by rfl) ?_
  refine Ls.ev (some 33) (Ev.fieldAddr (k := 2) (show Oper.op _ = Op.fieldAddr 39 (Operand.tmp 32) 2 from rfl) (by rfl) (by kernel_rfl) (by rfl)) (by rfl) (by rfl) ?_
  refine Ls.ev (some 34) (Ev.fieldAddr (k := 1) (show Oper.op _ = Op.fieldAddr 25 (Operand.tmp 33) 1 from rfl) (by rfl) (by kernel_rfl) (by rfl)) (by rfl) (by rfl) ?_
  refine Ls.does none (Does.store 1 (show Oper.op _ = Op.store 23 (Operand.tmp 34) (Operand.tmp 31) from rfl) (by rfl) (by rfl) (by rfl) (by kernel_rfl) (by rfl) (by kernel_rfl) (by rfl)) (by rfl) (by rfl) ?_
  intro _ _
  refine Ent.restate [blk g2 41 (msg 0 0 0 0 0 0 0 none 0 0), blk g1 41 [.int .i64 fr, .int .i64 to, .int .i64 kd, .int .i64 tn, .int .i64 tl, .int .i64 tc, .int .i64 wr, .slice p1.1 tx.length p1.2, .slice p2.1 dx.length p2.2, .bool yes, .int .i64 id, .int .i64 cv, .int .i64 ce, .int .i64 cs, .slice p3.1 cx.length p3.2, .int .i64 rc, .int .i64 re, .int .i64 rs, .slice p4.1 rx.length p4.2], rd tA tx.length 1 (strs tx), rd dA dx.length 1 (strs dx), rd cA cx.length 1 (ints cx), rd rA rx.length 1 (ints rx)] (by rfl) ?_
  refine Ls.nil ?_
  refine Cd.seq ?_
  refine Cd.region ?_
  refine Ls.ev (some 35) (Ev.loads 1 (show Oper.op _ = Op.load 41 (Operand.tmp 1) from rfl) (by rfl) (by rfl) (n := 19) (by kernel_rfl) (by rfl) (by rfl)) (by rfl) (by rfl) ?_
  refine Ls.does none (Does.store 0 (show Oper.op _ = Op.store 41 (Operand.tmp 2) (Operand.tmp 35) from rfl) (by rfl) (by rfl) (by rfl) (by kernel_rfl) (by rfl) (by kernel_rfl) (by rfl)) (by rfl) (by rfl) ?_
  intro _ _
  refine Ls.nil ?_
  refine Cd.ret ?_
  refine Ent.ret ((MsgA.mk fr to kd ⟨tn, tl, tc⟩ ⟨wr, p1.1, p1.2, tx, p2.1, p2.2, dx⟩ yes id ⟨cv, ce, ⟨cs, p3.1, p3.2, cx⟩⟩ ⟨rc, re, ⟨rs, p4.1, p4.2, rx⟩⟩)) (⟨rfl, rfl, rfl, rfl⟩) (Res.cell 0 (by rfl) (by rfl) (by rfl) (n := 19) (by kernel_rfl) (by rfl) (by rfl)) ?_ [] (by rfl) ?_
  · rfl
  · rfl
theorem rep_get {α : Type} {n j : Nat} (a : α) (h : j < n) : (List.replicate n a)[j]? = some a := by simp [h]
set_option maxHeartbeats 4000000 in
theorem sameAll_sl (f0 to kd i0 vb ep st : Int) (D : Option Addr) (d : Nat) (xs : List Int) (hn : xs.length ≤ 17592186044415) (A B : Option Addr) (c e : Nat) (ms : List (Option Addr × Nat)) (hk : ms.length ≤ 1000) :
    Fn Try.prog 18 #[.slice A ms.length c, .slice B ms.length e] [rd A ms.length 19 (flatM f0 to kd i0 vb ep st xs.length ms), rd B ms.length 19 (flatM f0 to kd i0 vb ep st xs.length (List.replicate ms.length (D, d))), stars (ms.map fun q : Option Addr × Nat => rd q.1 xs.length 1 (ints xs)), rd D xs.length 1 (ints xs)] Unit (fun _ => .bool true) (fun _ => []) (fun _ => True) := by
  refine Fn.enter Try.func18 rfl Try.ntmps18 (by rfl) ?_
  intro w0
  skip
  refine Cd.seq ?_
  refine Cd.region ?_
  refine Ls.ev (some 4) (Ev.assign (show Oper.op _ = Op.assign (Operand.const (Value.bool false)) from rfl) (by rfl)) (by rfl) (by rfl) ?_
  refine Ls.nil ?_
  refine Cd.seq ?_
  refine Cd.seq ?_
  refine Cd.region ?_
  refine Ls.ev (some 6) (Ev.move (show Oper.op _ = Op.move (Operand.tmp 0) from rfl) (by rfl)) (by rfl) (by rfl) ?_
  refine Ls.ev (some 7) (Ev.len (show Oper.op _ = Op.call { callee := Callee.builtin Builtin.len, args := #[Operand.tmp 6], argTypes := #[46] } from rfl) (by rfl) Try.underlying46) (by rfl) (by rfl) ?_
  refine Ls.ev (some 8) (Ev.move (show Oper.op _ = Op.move (Operand.tmp 1) from rfl) (by rfl)) (by rfl) (by rfl) ?_
  refine Ls.ev (some 9) (Ev.len (show Oper.op _ = Op.call { callee := Callee.builtin Builtin.len, args := #[Operand.tmp 8], argTypes := #[46] } from rfl) (by rfl) Try.underlying46) (by rfl) (by rfl) ?_
  refine Ls.ev (some 10) (Ev.neq (show Oper.op _ = Op.binOp BinOp.neq 3 (Operand.tmp 7) (Operand.tmp 9) 3 from rfl) (by rfl) (by rfl)) (by rfl) (by rfl) ?_
  refine Ls.nil ?_
  refine Cd.cond_false (by rfl) (by simp) ?_
  refine Cd.skip ?_
  refine Cd.seq ?_
  refine Cd.seq ?_
  refine Cd.region ?_
  refine Ls.ev (some 11) (Ev.move (show Oper.op _ = Op.move (Operand.tmp 0) from rfl) (by rfl)) (by rfl) (by rfl) ?_
  refine Ls.ev (some 12) (Ev.len (show Oper.op _ = Op.call { callee := Callee.builtin Builtin.len, args := #[Operand.tmp 11], argTypes := #[46] } from rfl) (by rfl) Try.underlying46) (by rfl) (by rfl) ?_
  refine Ls.ev (some 13) (Ev.move (show Oper.op _ = Op.move (Operand.const (Value.int IntKind.i64 0)) from rfl) (by rfl)) (by rfl) (by rfl) ?_
  refine Ls.nil ?_
  refine Cd.block ?_
  refine Cd.loop (ι := Nat) (fun j => [(0, .slice A ms.length c), (1, .slice B ms.length e), (12, .int .i64 ms.length), (13, .int .i64 j)]) (fun _ => [rd A ms.length 19 (flatM f0 to kd i0 vb ep st xs.length ms), rd B ms.length 19 (flatM f0 to kd i0 vb ep st xs.length (List.replicate ms.length (D, d))), stars (ms.map fun q : Option Addr × Nat => rd q.1 xs.length 1 (ints xs)), rd D xs.length 1 (ints xs)]) (fun j => j ≤ ms.length) (fun j => ms.length - j) (0) (Nat.zero_le _) ?_ rfl ?_
  · (repeat (first | exact trivial | refine ⟨by rfl, ?_⟩))
  intro j hj
  refine Cd.seq ?_
  refine Cd.region ?_
  refine Ls.ev (some 14) (Ev.lss (show Oper.op _ = Op.binOp BinOp.lss 3 (Operand.tmp 13) (Operand.tmp 12) 3 from rfl) (by rfl) (by rfl)) (by rfl) (by rfl) ?_
  refine Ls.nil ?_
  refine Cd.seq ?_
  refine Cd.cond _ (by rfl) (fun h => ?_) (fun h => ?_)
  · skip
    have hlj : j < ms.length := by have := of_decide_eq_true h; omega
    obtain ⟨q', hq'⟩ := get_of_lt hlj
    have hr' := rep_get (D, d) hlj
    refine Ent.rdSome 0 (by rfl) (by omega) (fun ad had => ?_)
    subst had
    refine Ent.rdSome 1 (by rfl) (by omega) (fun bd hbd => ?_)
    subst hbd
    refine Ent.map (fun w h => h.stars_get (i := 2) rfl (List.mem_map_of_mem (List.mem_of_getElem? hq'))) ?_
    refine Cd.skip ?_
    refine Cd.seq ?_
    refine Cd.block ?_
    refine Cd.seq ?_
    refine Cd.region ?_
    refine Ls.ev (some 15) (Ev.move (show Oper.op _ = Op.move (Operand.tmp 13) from rfl) (by rfl)) (by rfl) (by rfl) ?_
    refine Ls.ev (some 5) (Ev.assign (show Oper.op _ = Op.assign (Operand.tmp 15) from rfl) (by rfl)) (by rfl) (by rfl) ?_
    refine Ls.nil ?_
    refine Cd.seq ?_
    refine Cd.draw [] (by kernel_rfl) ?_
    refine Rg.ev 0 (by rfl) (fun _ h => h) (Ev.move (show Oper.op _ = Op.move (Operand.tmp 0) from rfl) (by rfl)) (by rfl) (some 16) (by rfl) (by kernel_rfl) (by kernel_rfl) (by kernel_rfl) (by kernel_rfl) ?_
    refine Rg.ev 1 (by rfl) (fun _ h => h) (Ev.move (show Oper.op _ = Op.move (Operand.tmp 5) from rfl) (by rfl)) (by rfl) (some 17) (by rfl) (by kernel_rfl) (by kernel_rfl) (by kernel_rfl) (by kernel_rfl) ?_
    refine Rg.ev 2 (by rfl) (fun _ h => h) (Ev.indexAt (sz := 19) (show Oper.op _ = Op.indexAddr 46 (Operand.tmp 16) (Operand.tmp 17) from rfl) (by rfl) (by rfl) Try.underlying46 (by kernel_rfl) (by omega)) (by rfl) (some 18) (by rfl) (by kernel_rfl) (by kernel_rfl) (by kernel_rfl) (by kernel_rfl) ?_
    refine Rg.ev 3 (by rfl) (fun _ h => h) (Ev.loadEl (show Oper.op _ = Op.load 41 (Operand.tmp 18) from rfl) (by rfl) (ReadsIn.rd 1 (by rfl)) (by kernel_rfl) (by intro _; rfl) (by assumption)) (by rfl) (some 19) (by rfl) (by kernel_rfl) (by kernel_rfl) (by kernel_rfl) (by kernel_rfl) ?_
    refine Rg.ev 4 (by rfl) (fun _ h => h) (Ev.move (show Oper.op _ = Op.move (Operand.tmp 1) from rfl) (by rfl)) (by rfl) (some 20) (by rfl) (by kernel_rfl) (by kernel_rfl) (by kernel_rfl) (by kernel_rfl) ?_
    refine Rg.ev 5 (by rfl) (fun _ h => h) (Ev.move (show Oper.op _ = Op.move (Operand.tmp 5) from rfl) (by rfl)) (by rfl) (some 21) (by rfl) (by kernel_rfl) (by kernel_rfl) (by kernel_rfl) (by kernel_rfl) ?_
    refine Rg.ev 6 (by rfl) (fun _ h => h) (Ev.indexAt (sz := 19) (show Oper.op _ = Op.indexAddr 46 (Operand.tmp 20) (Operand.tmp 21) from rfl) (by rfl) (by rfl) Try.underlying46 (by kernel_rfl) (by omega)) (by rfl) (some 22) (by rfl) (by kernel_rfl) (by kernel_rfl) (by kernel_rfl) (by kernel_rfl) ?_
    refine Rg.ev 7 (by rfl) (fun _ h => h) (Ev.loadEl (show Oper.op _ = Op.load 41 (Operand.tmp 22) from rfl) (by rfl) (ReadsIn.rd 2 (by rfl)) (by kernel_rfl) (by intro _; rfl) (by assumption)) (by rfl) (some 23) (by rfl) (by kernel_rfl) (by kernel_rfl) (by kernel_rfl) (by kernel_rfl) ?_
    -- 8 ('Op.call', {'callee': ('Callee.value', ('Operand.func', 13)), 'args': [('Operand.tmp', 19), ('Operand.tmp', 23)], 'argTypes': [41, 41]})
    refine Rg.does 8 (by rfl) (by kernel_rfl) (Does.read (show Oper.op _ = Op.call { callee := Callee.value (Operand.func 13), args := #[Operand.tmp 19, Operand.tmp 23], argTypes := #[41, 41] } from rfl) Try.func13 (by kernel_rfl) (by kernel_rfl) (same_true f0 to kd i0 vb ep st q'.1 D q'.2 d xs hn) (by rfl) (by rfl) ⟨ReadsIn.rd 0 (by rfl), ReadsIn.rd 4 (by rfl), trivial⟩) (by rfl) (some 24) (by rfl) (fun _ _ h => h) ?_
    intro _ _
    refine Rg.ev 9 (by rfl) (fun _ h => h) (Ev.not (show Oper.op _ = Op.unOp UnOp.not 4 (Operand.tmp 24) from rfl) (by rfl)) (by rfl) (some 25) (by rfl) (by kernel_rfl) (by kernel_rfl) (by kernel_rfl) (by kernel_rfl) ?_
    refine Rg.done (by kernel_rfl) ?_ _
    refine Cd.cond_false (by rfl) (rfl) ?_
    refine Cd.skip ?_
    refine Cd.region ?_
    refine Ls.ev (some 26) (Ev.addI (show Oper.op _ = Op.binOp BinOp.add 3 (Operand.tmp 13) (Operand.const (Value.int IntKind.i64 1)) 3 from rfl) (by rfl) (by rfl) (by omega)) (by rfl) (by rfl) ?_
    refine Ls.ev (some 13) (Ev.move (show Oper.op _ = Op.move (Operand.tmp 26) from rfl) (by rfl)) (by rfl) (by rfl) ?_
    refine Ls.nil ?_
    refine Ent.pick [1, 2, 3, 4] (by rfl) ?_
    refine Ent.inv (j + 1) ?_ ?_ ?_
    · (try dsimp only); exact ⟨by omega, by omega⟩
    · (repeat (first | exact trivial | refine ⟨by rfl, ?_⟩ | refine ⟨by simp only [List.length_append, List.length_cons, List.length_nil]; rfl, ?_⟩ | refine ⟨by push_cast; rfl, ?_⟩))
    · rfl
  · skip
    refine Cd.exit ?_
    refine Cd.seq ?_
    refine Cd.region ?_
    refine Ls.ev (some 4) (Ev.assign (show Oper.op _ = Op.assign (Operand.const (Value.bool true)) from rfl) (by rfl)) (by rfl) (by rfl) ?_
    refine Ls.nil ?_
    refine Cd.ret ?_
    refine Ent.ret (()) (trivial) (Res.tmp (by rfl) (by rfl)) ?_ [] (by rfl) ?_
    · rfl
    · rfl
end Go.Proofs.Ytgidkjfakecniaa
