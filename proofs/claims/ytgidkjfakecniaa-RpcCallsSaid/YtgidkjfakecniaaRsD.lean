/- rpc over pieces: the window -/
import Derived.Test.YtgidkjfakecniaaRsB
import Derived.Test.YtgidkjfakecniaaRsC
import Derived.Test.YtgidkjfakecniaaSlM
namespace Go.Proofs.Ytgidkjfakecniaa
open Go.RowKit
/-- What a window keeps of a client. -/
structure SeenD where
  id : Int
  dn : Bool
  code : Int
  ep : Int
  st : Int
  A : Option Addr
  c : Nat
  xs : List Int
def SeenD.val (s : SeenD) : Value := .agg #[.int .i64 s.id, .bool s.dn, .int .i64 s.code, .int .i64 s.ep, .int .i64 s.st, .slice s.A s.xs.length s.c]
def SeenD.zero : SeenD := ⟨0, false, 0, 0, 0, none, 0, []⟩
/-- A reply's value. -/
def repV (code ep st : Int) (A : Option Addr) (n c : Nat) : Value := .agg #[.int .i64 code, .int .i64 ep, .int .i64 st, .slice A n c]
def winB (g b : Nat) : Chunk := blk g 97 [.map (some b)]
def winM (b n : Nat) (S : Int → SeenD) : Chunk := mapc Try.prog 3 b n SeenD.zero.val (fun x => (S x).val)
def winS (S : Int → SeenD) : Chunk := starf (fun x : Int => rd (S x).A (S x).xs.length 1 (ints (S x).xs))

theorem newWindow_sl : Fn Try.prog 22 #[] [] (Nat × Nat) (fun p => .pointer (some ⟨p.1, 0, none⟩)) (fun p => [winB p.1 p.2, winM p.2 0 (fun _ => SeenD.zero), winS (fun _ => SeenD.zero)]) (fun _ => True) := by
  refine Fn.enter Try.func22 rfl Try.ntmps22 (by rfl) ?_
  intro w0
  refine Cd.seq ?_
  refine Cd.region ?_
  refine Ls.ev (some 0) (Ev.assign (show Oper.op _ = Op.assign (Operand.const (Value.pointer none)) from rfl) (by rfl)) (by rfl) (by rfl) ?_
  refine Ls.nil ?_
  refine Cd.seq ?_
  refine Cd.region ?_
  refine Ls.does (some 1) (Does.mapNew 3 SeenD.zero.val (show Oper.op _ = Op.makeMap 95 none from rfl)) (by rfl) (by rfl) ?_
  intro b _
  refine Ls.ev (some 2) (Ev.buildP (pl := [(0, 1)]) (zs := [.map none]) (show Oper.op _ = Op.build 97 #[(0, Operand.tmp 1)] from rfl) (by rfl) (by kernel_rfl) (by rfl)) (by rfl) (by rfl) ?_
  refine Ls.does (some 3) (Does.box (show Oper.op _ = Op.box 97 (Operand.tmp 2) from rfl) (by rfl)) (by rfl) (by rfl) ?_
  intro g1 _
  refine Ls.ev (some 0) (Ev.assign (show Oper.op _ = Op.assign (Operand.tmp 3) from rfl) (by rfl)) (by rfl) (by rfl) ?_
  refine Ls.nil ?_
  refine Ent.map (fun w h => h.free (C := winS (fun _ => SeenD.zero)) rfl (by rintro k ⟨i, hn, _⟩; exact absurd hn (Nat.lt_irrefl 0)) (fun i => ⟨rfl, ⟨rfl, fun hn => absurd hn (Nat.lt_irrefl 0)⟩⟩)) ?_
  refine Cd.ret ?_
  refine Ent.ret ((g1, b)) (trivial) (Res.tmp (by rfl) (by rfl)) ?_ [1, 2, 0] (by rfl) ?_
  · rfl
  · rfl

theorem last_sl (g b n : Nat) (S : Int → SeenD) (q : Int) (hq : -9223372036854775808 ≤ q ∧ q ≤ 9223372036854775807) (hx : (S q).xs.length ≤ 17592186044415) :
    Fn Try.prog 26 #[.pointer (some ⟨g, 0, none⟩), .int .i64 q] [winB g b, winM b n S, winS S] (Option Addr × Nat) (fun p => .tuple #[.int .i64 (S q).id, .bool (S q).dn, repV (S q).code (S q).ep (S q).st p.1 (S q).xs.length p.2])
      (fun p => [winB g b, winM b n S, winS S, row p.1 (S q).xs.length p.2 3 1 (ints (S q).xs)]) (fun _ => True) := by
  refine Fn.enter Try.func26 rfl Try.ntmps26 (by rfl) ?_
  intro w0
  refine Cd.seq ?_
  refine Cd.region ?_
  refine Ls.ev (some 4) (Ev.assign (show Oper.op _ = Op.assign (Operand.const (Value.int IntKind.i64 0)) from rfl) (by rfl)) (by rfl) (by rfl) ?_
  refine Ls.ev (some 5) (Ev.assign (show Oper.op _ = Op.assign (Operand.const (Value.bool false)) from rfl) (by rfl)) (by rfl) (by rfl) ?_
  refine Ls.does (some 6) (Does.alloc (cs := [.int .i64 0, .int .i64 0, .int .i64 0, .slice none 0 0]) (show Oper.op _ = Op.alloc 39 from rfl) (ZeroIs.mk (.agg #[.int .i64 0, .int .i64 0, .int .i64 0, .slice none 0 0]) (by kernel_rfl) (by rfl))) (by rfl) (by rfl) ?_
  intro g1 _
  refine Ls.nil ?_
  refine Cd.seq ?_
  refine Cd.region ?_
  refine Ls.ev (some 8) (Ev.move (show Oper.op _ = Op.move (Operand.tmp 0) from rfl) (by rfl)) (by rfl) (by rfl) ?_
  refine Ls.ev (some 9) (Ev.nilCheck (show Oper.op _ = Op.nilCheck (Operand.tmp 8) from rfl) (by rfl)) (by rfl) (by rfl) ?_
  refine Ls.ev (some 10) (Ev.fieldAddr (k := 0) (show Oper.op _ = Op.fieldAddr 97 (Operand.tmp 9) 0 from rfl) (by rfl) (by kernel_rfl) (by rfl)) (by rfl) (by rfl) ?_
  refine Ls.ev (some 11) (Ev.load 1 (show Oper.op _ = Op.load 95 (Operand.tmp 10) from rfl) (by rfl) (by rfl) (by kernel_rfl) (by rfl)) (by rfl) (by rfl) ?_
  refine Ls.ev (some 12) (Ev.move (show Oper.op _ = Op.move (Operand.tmp 1) from rfl) (by rfl)) (by rfl) (by rfl) ?_
  refine Ls.ev (some 13) (Ev.look 2 (show Oper.op _ = Op.lookup 95 (Operand.tmp 11) (Operand.tmp 12) false from rfl) (by rfl) (by rfl) (by rfl) Try.underlying3 Try.underlying95 (zero_of (by kernel_rfl)) (by assumption)) (by rfl) (by rfl) ?_
  refine Ls.does (some 7) (Does.alloc (cs := [.int .i64 0, .bool false, .int .i64 0, .int .i64 0, .int .i64 0, .slice none 0 0]) (show Oper.op _ = Op.alloc 99 from rfl) (ZeroIs.mk (.agg #[.int .i64 0, .bool false, .int .i64 0, .int .i64 0, .int .i64 0, .slice none 0 0]) (by kernel_rfl) (by rfl))) (by rfl) (by rfl) ?_
  intro g2 _
  refine Ls.does none (Does.store 0 (show Oper.op _ = Op.store 99 (Operand.tmp 7) (Operand.tmp 13) from rfl) (by rfl) (by rfl) (by rfl) (by kernel_rfl) (by rfl) (by kernel_rfl) (by rfl)) (by rfl) (by rfl) ?_
  intro _ _
  refine Ls.nil ?_
  refine Cd.seq ?_
  refine Cd.region ?_
  refine Ls.ev (some 14) (Ev.fieldAddr (k := 2) (show Oper.op _ = Op.fieldAddr 99 (Operand.tmp 7) 2 from rfl) (by rfl) (by kernel_rfl) (by rfl)) (by rfl) (by rfl) ?_
  refine Ls.ev (some 15) (Ev.fieldAddr (k := 2) (show Oper.op _ = Op.fieldAddr 39 (Operand.tmp 14) 2 from rfl) (by rfl) (by kernel_rfl) (by rfl)) (by rfl) (by rfl) ?_
  refine Ls.ev (some 16) (Ev.loads 0 (show Oper.op _ = Op.load 25 (Operand.tmp 15) from rfl) (by rfl) (by rfl) (n := 2) (by kernel_rfl) (by rfl) (by rfl)) (by rfl) (by rfl) ?_
  refine Ent.map (fun w h => h.starf_get 4 q rfl) ?_
  refine Ls.does (some 17) (Does.call [0, 1, 2, 3, 4, 5] (show Oper.op _ = Op.call { callee := Callee.value (Operand.func 33), args := #[Operand.tmp 16], argTypes := #[25] } from rfl) Try.func33 (by kernel_rfl) (by kernel_rfl) (own_sl (S q).st (S q).A (S q).xs.length (S q).c (S q).xs hx) (by rfl) (by rfl) (by rfl)) (by rfl) (by rfl) ?_
  intro p _
  refine Ls.ev (some 18) (Ev.fieldAddr (k := 2) (show Oper.op _ = Op.fieldAddr 99 (Operand.tmp 7) 2 from rfl) (by rfl) (by kernel_rfl) (by rfl)) (by rfl) (by rfl) ?_
  refine Ls.ev (some 19) (Ev.fieldAddr (k := 2) (show Oper.op _ = Op.fieldAddr 39 (Operand.tmp 18) 2 from rfl) (by rfl) (by kernel_rfl) (by rfl)) (by rfl) (by rfl) ?_
  refine Ls.does none (Does.store 1 (show Oper.op _ = Op.store 25 (Operand.tmp 19) (Operand.tmp 17) from rfl) (by rfl) (by rfl) (by rfl) (by kernel_rfl) (by rfl) (by kernel_rfl) (by rfl)) (by rfl) (by rfl) ?_
  intro _ _
  refine Ls.nil ?_
  refine Cd.seq ?_
  refine Cd.draw [8] (by kernel_rfl) ?_
  refine Rg.ev 0 (by rfl) (fun _ h => h) (Ev.fieldAddr (k := 0) (show Oper.op _ = Op.fieldAddr 99 (Operand.tmp 7) 0 from rfl) (by rfl) (by kernel_rfl) (by rfl)) (by rfl) (some 20) (by rfl) (by kernel_rfl) (by kernel_rfl) (by kernel_rfl) (by kernel_rfl) ?_
  refine Rg.ev 1 (by rfl) (fun _ h => h) (Ev.load 1 (show Oper.op _ = Op.load 3 (Operand.tmp 20) from rfl) (by rfl) (by rfl) (by kernel_rfl) (by rfl)) (by rfl) (some 21) (by rfl) (by kernel_rfl) (by kernel_rfl) (by kernel_rfl) (by kernel_rfl) ?_
  refine Rg.ev 2 (by rfl) (fun _ h => h) (Ev.fieldAddr (k := 1) (show Oper.op _ = Op.fieldAddr 99 (Operand.tmp 7) 1 from rfl) (by rfl) (by kernel_rfl) (by rfl)) (by rfl) (some 22) (by rfl) (by kernel_rfl) (by kernel_rfl) (by kernel_rfl) (by kernel_rfl) ?_
  refine Rg.ev 3 (by rfl) (fun _ h => h) (Ev.load 1 (show Oper.op _ = Op.load 4 (Operand.tmp 22) from rfl) (by rfl) (by rfl) (by kernel_rfl) (by rfl)) (by rfl) (some 23) (by rfl) (by kernel_rfl) (by kernel_rfl) (by kernel_rfl) (by kernel_rfl) ?_
  refine Rg.ev 4 (by rfl) (fun _ h => h) (Ev.fieldAddr (k := 2) (show Oper.op _ = Op.fieldAddr 99 (Operand.tmp 7) 2 from rfl) (by rfl) (by kernel_rfl) (by rfl)) (by rfl) (some 24) (by rfl) (by kernel_rfl) (by kernel_rfl) (by kernel_rfl) (by kernel_rfl) ?_
  refine Rg.ev 5 (by rfl) (fun _ h => h) (Ev.loads 1 (show Oper.op _ = Op.load 39 (Operand.tmp 24) from rfl) (by rfl) (by rfl) (n := 4) (by kernel_rfl) (by rfl) (by rfl)) (by rfl) (some 25) (by rfl) (by kernel_rfl) (by kernel_rfl) (by kernel_rfl) (by kernel_rfl) ?_
  refine Rg.ev 6 (by rfl) (fun _ h => h) (Ev.assign (show Oper.op _ = Op.assign (Operand.tmp 21) from rfl) (by rfl)) (by rfl) (some 4) (by rfl) (by kernel_rfl) (by kernel_rfl) (by kernel_rfl) (by kernel_rfl) ?_
  refine Rg.ev 7 (by rfl) (fun _ h => h) (Ev.assign (show Oper.op _ = Op.assign (Operand.tmp 23) from rfl) (by rfl)) (by rfl) (some 5) (by rfl) (by kernel_rfl) (by kernel_rfl) (by kernel_rfl) (by kernel_rfl) ?_
  refine Rg.tail 8 [] (by rfl) (by kernel_rfl) (Does.store 2 (show Oper.op _ = Op.store 39 (Operand.tmp 6) (Operand.tmp 25) from rfl) (by rfl) (by rfl) (by rfl) (by kernel_rfl) (by rfl) (by kernel_rfl) (by rfl)) (by rfl) none (by rfl) (by kernel_rfl) (by kernel_rfl) ?_
  intro _ _
  refine Rg.done (by kernel_rfl) ?_ _
  refine Cd.ret ?_
  refine Ent.ret (p) (trivial) (Res.tmp2_cell 2 (by rfl) (by rfl) (by rfl) (by rfl) (by rfl) (n := 4) (by kernel_rfl) (by rfl) (by rfl)) ?_ [3, 4, 5, 0] (by rfl) ?_
  · rfl
  · rfl

def upd (S : Int → SeenD) (q : Int) (s : SeenD) : Int → SeenD := fun x => if x = q then s else S x
theorem winM_put (b n : Nat) (S : Int → SeenD) (q : Int) (s : SeenD) : mapc Try.prog 3 b n SeenD.zero.val (put (fun x => (S x).val) q s.val) = winM b n (upd S q s) := by
  unfold winM
  congr 1
  funext y
  unfold put upd
  split <;> rfl
theorem winS_put {Γ : Ctx} {H : List Chunk} {S : Int → SeenD} {w : World} (q : Int) (s : SeenD) (h : Sat Γ (rd s.A s.xs.length 1 (ints s.xs) :: winS S :: H) w) : Sat Γ (winS (upd S q s) :: H) w :=
  h.starf_put (C := rd s.A s.xs.length 1 (ints s.xs)) rfl (fun i => by
    by_cases e : i = q
    · right; simp [upd, e]
    · left; simp [upd, e])
/-- No list: it is read. -/
theorem Sat.rdNil {Γ : Ctx} {H : List Chunk} {w : World} (h : Sat Γ H w) : Sat Γ (rd none 0 1 (ints []) :: H) w :=
  h.free rfl (fun k hk => absurd hk.1 (Nat.lt_irrefl 0)) ⟨rfl, fun hn => absurd hn (Nat.lt_irrefl 0)⟩

theorem load_low (g b n : Nat) (S : Int → SeenD) (q id : Int) (dn : Bool) (code ep st : Int) (A : Option Addr) (m c : Nat) (hq : -9223372036854775808 ≤ q ∧ q ≤ 9223372036854775807) (hid : id < 1) :
    Fn Try.prog 23 #[.pointer (some ⟨g, 0, none⟩), .int .i64 q, .int .i64 id, .bool dn, repV code ep st A m c] [winB g b, winM b n S, winS S] Unit (fun _ => .tuple #[]) (fun _ => [winB g b, winM b n (upd S q SeenD.zero), winS (upd S q SeenD.zero)]) (fun _ => True) := by
  refine Fn.enter Try.func23 rfl Try.ntmps23 (by rfl) ?_
  intro w0
  refine Cd.seq ?_
  refine Cd.region ?_
  refine Ls.does (some 9) (Does.box (show Oper.op _ = Op.box 39 (Operand.tmp 4) from rfl) (by rfl)) (by rfl) (by rfl) ?_
  intro g1 _
  refine Ls.nil ?_
  refine Cd.seq ?_
  refine Cd.seq ?_
  refine Cd.region ?_
  refine Ls.ev (some 11) (Ev.move (show Oper.op _ = Op.move (Operand.tmp 2) from rfl) (by rfl)) (by rfl) (by rfl) ?_
  refine Ls.ev (some 12) (Ev.lss (show Oper.op _ = Op.binOp BinOp.lss 3 (Operand.tmp 11) (Operand.const (Value.int IntKind.i64 1)) 3 from rfl) (by rfl) (by rfl)) (by rfl) (by rfl) ?_
  refine Ls.nil ?_
  refine Cd.cond_true (by rfl) (decide_eq_true hid) ?_
  refine Cd.seq ?_
  refine Cd.region ?_
  refine Ls.ev (some 13) (Ev.move (show Oper.op _ = Op.move (Operand.tmp 0) from rfl) (by rfl)) (by rfl) (by rfl) ?_
  refine Ls.ev (some 14) (Ev.nilCheck (show Oper.op _ = Op.nilCheck (Operand.tmp 13) from rfl) (by rfl)) (by rfl) (by rfl) ?_
  refine Ls.ev (some 15) (Ev.fieldAddr (k := 0) (show Oper.op _ = Op.fieldAddr 97 (Operand.tmp 14) 0 from rfl) (by rfl) (by kernel_rfl) (by rfl)) (by rfl) (by rfl) ?_
  refine Ls.ev (some 16) (Ev.load 1 (show Oper.op _ = Op.load 95 (Operand.tmp 15) from rfl) (by rfl) (by rfl) (by kernel_rfl) (by rfl)) (by rfl) (by rfl) ?_
  refine Ls.ev (some 17) (Ev.move (show Oper.op _ = Op.move (Operand.tmp 1) from rfl) (by rfl)) (by rfl) (by rfl) ?_
  refine Ls.does none (Does.mapDel 2 (show Oper.op _ = Op.call { callee := Callee.builtin Builtin.delete, args := #[Operand.tmp 16, Operand.tmp 17], argTypes := #[95, 3] } from rfl) (by rfl) (by rfl) (by rfl) Try.underlying3 Try.underlying95 (by assumption)) (by rfl) (by rfl) ?_
  intro _ _
  refine Ls.nil ?_
  refine Ent.pick [3, 1, 2] (by rfl) (Ent.map (fun w h => winS_put q SeenD.zero h.rdNil) ?_)
  refine Cd.ret ?_
  refine Ent.ret (()) (trivial) (Res.nothing (by rfl)) ?_ [1, 2, 0] (by rfl) ?_
  · rfl
  · exact cons_eq rfl (cons_eq (winM_put b n S q SeenD.zero) rfl)

theorem load_no (g b n : Nat) (S : Int → SeenD) (q id : Int) (code ep st : Int) (A : Option Addr) (m c : Nat) (hq : -9223372036854775808 ≤ q ∧ q ≤ 9223372036854775807) (hid : ¬ id < 1) (hn : n < 1000000) :
    Fn Try.prog 23 #[.pointer (some ⟨g, 0, none⟩), .int .i64 q, .int .i64 id, .bool false, repV code ep st A m c] [winB g b, winM b n S, winS S] Unit (fun _ => .tuple #[]) (fun _ => [winB g b, winM b (n + 1) (upd S q ⟨id, false, 0, 0, 0, none, 0, []⟩), winS (upd S q ⟨id, false, 0, 0, 0, none, 0, []⟩)]) (fun _ => True) := by
  refine Fn.enter Try.func23 rfl Try.ntmps23 (by rfl) ?_
  intro w0
  refine Cd.seq ?_
  refine Cd.region ?_
  refine Ls.does (some 9) (Does.box (show Oper.op _ = Op.box 39 (Operand.tmp 4) from rfl) (by rfl)) (by rfl) (by rfl) ?_
  intro g1 _
  refine Ls.nil ?_
  refine Cd.seq ?_
  refine Cd.seq ?_
  refine Cd.region ?_
  refine Ls.ev (some 11) (Ev.move (show Oper.op _ = Op.move (Operand.tmp 2) from rfl) (by rfl)) (by rfl) (by rfl) ?_
  refine Ls.ev (some 12) (Ev.lss (show Oper.op _ = Op.binOp BinOp.lss 3 (Operand.tmp 11) (Operand.const (Value.int IntKind.i64 1)) 3 from rfl) (by rfl) (by rfl)) (by rfl) (by rfl) ?_
  refine Ls.nil ?_
  refine Cd.cond_false (by rfl) (decide_eq_false hid) ?_
  refine Cd.skip ?_
  refine Cd.seq ?_
  refine Cd.region ?_
  refine Ls.ev (some 18) (Ev.move (show Oper.op _ = Op.move (Operand.tmp 2) from rfl) (by rfl)) (by rfl) (by rfl) ?_
  refine Ls.ev (some 19) (Ev.move (show Oper.op _ = Op.move (Operand.tmp 3) from rfl) (by rfl)) (by rfl) (by rfl) ?_
  refine Ls.ev (some 20) (Ev.buildP (pl := [(0, 1), (1, 1), (2, 4)]) (zs := [.int .i64 0, .bool false, .int .i64 0, .int .i64 0, .int .i64 0, .slice none 0 0]) (show Oper.op _ = Op.build 99 #[(0, Operand.tmp 18), (1, Operand.tmp 19)] from rfl) (by rfl) (by kernel_rfl) (by rfl)) (by rfl) (by rfl) ?_
  refine Ls.does (some 10) (Does.alloc (cs := [.int .i64 0, .bool false, .int .i64 0, .int .i64 0, .int .i64 0, .slice none 0 0]) (show Oper.op _ = Op.alloc 99 from rfl) (ZeroIs.mk (.agg #[.int .i64 0, .bool false, .int .i64 0, .int .i64 0, .int .i64 0, .slice none 0 0]) (by kernel_rfl) (by rfl))) (by rfl) (by rfl) ?_
  intro g2 _
  refine Ls.does none (Does.store 0 (show Oper.op _ = Op.store 99 (Operand.tmp 10) (Operand.tmp 20) from rfl) (by rfl) (by rfl) (by rfl) (by kernel_rfl) (by rfl) (by kernel_rfl) (by rfl)) (by rfl) (by rfl) ?_
  intro _ _
  refine Ls.nil ?_
  refine Cd.seq ?_
  refine Cd.seq ?_
  refine Cd.region ?_
  refine Ls.ev (some 21) (Ev.move (show Oper.op _ = Op.move (Operand.tmp 3) from rfl) (by rfl)) (by rfl) (by rfl) ?_
  refine Ls.nil ?_
  refine Cd.cond_false (by rfl) (rfl) ?_
  refine Cd.skip ?_
  refine Cd.draw [6] (by kernel_rfl) ?_
  refine Rg.ev 0 (by rfl) (fun _ h => h) (Ev.move (show Oper.op _ = Op.move (Operand.tmp 0) from rfl) (by rfl)) (by rfl) (some 28) (by rfl) (by kernel_rfl) (by kernel_rfl) (by kernel_rfl) (by kernel_rfl) ?_
  refine Rg.ev 1 (by rfl) (fun _ h => h) (Ev.nilCheck (show Oper.op _ = Op.nilCheck (Operand.tmp 28) from rfl) (by rfl)) (by rfl) (some 29) (by rfl) (by kernel_rfl) (by kernel_rfl) (by kernel_rfl) (by kernel_rfl) ?_
  refine Rg.ev 2 (by rfl) (fun _ h => h) (Ev.fieldAddr (k := 0) (show Oper.op _ = Op.fieldAddr 97 (Operand.tmp 29) 0 from rfl) (by rfl) (by kernel_rfl) (by rfl)) (by rfl) (some 30) (by rfl) (by kernel_rfl) (by kernel_rfl) (by kernel_rfl) (by kernel_rfl) ?_
  refine Rg.ev 3 (by rfl) (fun _ h => h) (Ev.load 2 (show Oper.op _ = Op.load 95 (Operand.tmp 30) from rfl) (by rfl) (by rfl) (by kernel_rfl) (by rfl)) (by rfl) (some 31) (by rfl) (by kernel_rfl) (by kernel_rfl) (by kernel_rfl) (by kernel_rfl) ?_
  refine Rg.ev 4 (by rfl) (fun _ h => h) (Ev.move (show Oper.op _ = Op.move (Operand.tmp 1) from rfl) (by rfl)) (by rfl) (some 32) (by rfl) (by kernel_rfl) (by kernel_rfl) (by kernel_rfl) (by kernel_rfl) ?_
  refine Rg.ev 5 (by rfl) (fun _ h => h) (Ev.loads 0 (show Oper.op _ = Op.load 99 (Operand.tmp 10) from rfl) (by rfl) (by rfl) (n := 6) (by kernel_rfl) (by rfl) (by rfl)) (by rfl) (some 33) (by rfl) (by kernel_rfl) (by kernel_rfl) (by kernel_rfl) (by kernel_rfl) ?_
  refine Rg.tail 6 [] (by rfl) (by kernel_rfl) (Does.mapPut 3 (show Oper.op _ = Op.mapUpdate 95 (Operand.tmp 31) (Operand.tmp 32) (Operand.tmp 33) from rfl) (by rfl) (by rfl) (by rfl) (by rfl) Try.underlying3 Try.underlying95 (by omega) (by assumption)) (by rfl) none (by rfl) (by kernel_rfl) (by kernel_rfl) ?_
  intro _ _
  refine Rg.done (by kernel_rfl) ?_ _
  refine Ent.pick [4, 2, 3] (by rfl) (Ent.map (fun w h => winS_put q ⟨id, false, 0, 0, 0, none, 0, []⟩ h.rdNil) ?_)
  refine Ent.fin (()) (trivial) (Res.nothing (by rfl)) ?_ [1, 2, 0] (by rfl) ?_
  · rfl
  · exact cons_eq rfl (cons_eq (winM_put b (n + 1) S q ⟨id, false, 0, 0, 0, none, 0, []⟩) rfl)

theorem load_yes (g b n : Nat) (S : Int → SeenD) (q id : Int) (code ep st : Int) (A : Option Addr) (c : Nat) (xs : List Int) (hq : -9223372036854775808 ≤ q ∧ q ≤ 9223372036854775807) (hid : ¬ id < 1) (hn : n < 1000000) (hx : xs.length ≤ 17592186044415) :
    Fn Try.prog 23 #[.pointer (some ⟨g, 0, none⟩), .int .i64 q, .int .i64 id, .bool true, repV code ep st A xs.length c] [winB g b, winM b n S, winS S, rd A xs.length 1 (ints xs)] (Option Addr × Nat) (fun _ => .tuple #[])
      (fun p => [winB g b, winM b (n + 1) (upd S q ⟨id, true, code, ep, st, p.1, p.2, xs⟩), winS (upd S q ⟨id, true, code, ep, st, p.1, p.2, xs⟩)]) (fun _ => True) := by
  refine Fn.enter Try.func23 rfl Try.ntmps23 (by rfl) ?_
  intro w0
  refine Cd.seq ?_
  refine Cd.region ?_
  refine Ls.does (some 9) (Does.box (show Oper.op _ = Op.box 39 (Operand.tmp 4) from rfl) (by rfl)) (by rfl) (by rfl) ?_
  intro g1 _
  refine Ls.nil ?_
  refine Cd.seq ?_
  refine Cd.seq ?_
  refine Cd.region ?_
  refine Ls.ev (some 11) (Ev.move (show Oper.op _ = Op.move (Operand.tmp 2) from rfl) (by rfl)) (by rfl) (by rfl) ?_
  refine Ls.ev (some 12) (Ev.lss (show Oper.op _ = Op.binOp BinOp.lss 3 (Operand.tmp 11) (Operand.const (Value.int IntKind.i64 1)) 3 from rfl) (by rfl) (by rfl)) (by rfl) (by rfl) ?_
  refine Ls.nil ?_
  refine Cd.cond_false (by rfl) (decide_eq_false hid) ?_
  refine Cd.skip ?_
  refine Cd.seq ?_
  refine Cd.region ?_
  refine Ls.ev (some 18) (Ev.move (show Oper.op _ = Op.move (Operand.tmp 2) from rfl) (by rfl)) (by rfl) (by rfl) ?_
  refine Ls.ev (some 19) (Ev.move (show Oper.op _ = Op.move (Operand.tmp 3) from rfl) (by rfl)) (by rfl) (by rfl) ?_
  refine Ls.ev (some 20) (Ev.buildP (pl := [(0, 1), (1, 1), (2, 4)]) (zs := [.int .i64 0, .bool false, .int .i64 0, .int .i64 0, .int .i64 0, .slice none 0 0]) (show Oper.op _ = Op.build 99 #[(0, Operand.tmp 18), (1, Operand.tmp 19)] from rfl) (by rfl) (by kernel_rfl) (by rfl)) (by rfl) (by rfl) ?_
  refine Ls.does (some 10) (Does.alloc (cs := [.int .i64 0, .bool false, .int .i64 0, .int .i64 0, .int .i64 0, .slice none 0 0]) (show Oper.op _ = Op.alloc 99 from rfl) (ZeroIs.mk (.agg #[.int .i64 0, .bool false, .int .i64 0, .int .i64 0, .int .i64 0, .slice none 0 0]) (by kernel_rfl) (by rfl))) (by rfl) (by rfl) ?_
  intro g2 _
  refine Ls.does none (Does.store 0 (show Oper.op _ = Op.store 99 (Operand.tmp 10) (Operand.tmp 20) from rfl) (by rfl) (by rfl) (by rfl) (by kernel_rfl) (by rfl) (by kernel_rfl) (by rfl)) (by rfl) (by rfl) ?_
  intro _ _
  refine Ls.nil ?_
  refine Cd.seq ?_
  refine Cd.seq ?_
  refine Cd.region ?_
  refine Ls.ev (some 21) (Ev.move (show Oper.op _ = Op.move (Operand.tmp 3) from rfl) (by rfl)) (by rfl) (by rfl) ?_
  refine Ls.nil ?_
  refine Cd.cond_true (by rfl) (rfl) ?_
  refine Cd.seq ?_
  refine Cd.region ?_
  refine Ls.ev (some 22) (Ev.fieldAddr (k := 2) (show Oper.op _ = Op.fieldAddr 39 (Operand.tmp 9) 2 from rfl) (by rfl) (by kernel_rfl) (by rfl)) (by rfl) (by rfl) ?_
  refine Ls.ev (some 23) (Ev.loads 1 (show Oper.op _ = Op.load 25 (Operand.tmp 22) from rfl) (by rfl) (by rfl) (n := 2) (by kernel_rfl) (by rfl) (by rfl)) (by rfl) (by rfl) ?_
  refine Ls.does (some 24) (Does.call [5, 0, 1, 2, 3, 4] (show Oper.op _ = Op.call { callee := Callee.value (Operand.func 33), args := #[Operand.tmp 23], argTypes := #[25] } from rfl) Try.func33 (by kernel_rfl) (by kernel_rfl) (own_sl st A xs.length c xs hx) (by rfl) (by rfl) (by rfl)) (by rfl) (by rfl) ?_
  intro p _
  refine Ls.ev (some 25) (Ev.fieldAddr (k := 2) (show Oper.op _ = Op.fieldAddr 39 (Operand.tmp 9) 2 from rfl) (by rfl) (by kernel_rfl) (by rfl)) (by rfl) (by rfl) ?_
  refine Ls.does none (Does.store 2 (show Oper.op _ = Op.store 25 (Operand.tmp 25) (Operand.tmp 24) from rfl) (by rfl) (by rfl) (by rfl) (by kernel_rfl) (by rfl) (by kernel_rfl) (by rfl)) (by rfl) (by rfl) ?_
  intro _ _
  refine Ls.nil ?_
  refine Cd.region ?_
  refine Ls.ev (some 26) (Ev.loads 2 (show Oper.op _ = Op.load 39 (Operand.tmp 9) from rfl) (by rfl) (by rfl) (n := 4) (by kernel_rfl) (by rfl) (by rfl)) (by rfl) (by rfl) ?_
  refine Ls.ev (some 27) (Ev.fieldAddr (k := 2) (show Oper.op _ = Op.fieldAddr 99 (Operand.tmp 10) 2 from rfl) (by rfl) (by kernel_rfl) (by rfl)) (by rfl) (by rfl) ?_
  refine Ls.does none (Does.store 1 (show Oper.op _ = Op.store 39 (Operand.tmp 27) (Operand.tmp 26) from rfl) (by rfl) (by rfl) (by rfl) (by kernel_rfl) (by rfl) (by kernel_rfl) (by rfl)) (by rfl) (by rfl) ?_
  intro _ _
  refine Ls.nil ?_
  refine Cd.draw [6] (by kernel_rfl) ?_
  refine Rg.ev 0 (by rfl) (fun _ h => h) (Ev.move (show Oper.op _ = Op.move (Operand.tmp 0) from rfl) (by rfl)) (by rfl) (some 28) (by rfl) (by kernel_rfl) (by kernel_rfl) (by kernel_rfl) (by kernel_rfl) ?_
  refine Rg.ev 1 (by rfl) (fun _ h => h) (Ev.nilCheck (show Oper.op _ = Op.nilCheck (Operand.tmp 28) from rfl) (by rfl)) (by rfl) (some 29) (by rfl) (by kernel_rfl) (by kernel_rfl) (by kernel_rfl) (by kernel_rfl) ?_
  refine Rg.ev 2 (by rfl) (fun _ h => h) (Ev.fieldAddr (k := 0) (show Oper.op _ = Op.fieldAddr 97 (Operand.tmp 29) 0 from rfl) (by rfl) (by kernel_rfl) (by rfl)) (by rfl) (some 30) (by rfl) (by kernel_rfl) (by kernel_rfl) (by kernel_rfl) (by kernel_rfl) ?_
  refine Rg.ev 3 (by rfl) (fun _ h => h) (Ev.load 3 (show Oper.op _ = Op.load 95 (Operand.tmp 30) from rfl) (by rfl) (by rfl) (by kernel_rfl) (by rfl)) (by rfl) (some 31) (by rfl) (by kernel_rfl) (by kernel_rfl) (by kernel_rfl) (by kernel_rfl) ?_
  refine Rg.ev 4 (by rfl) (fun _ h => h) (Ev.move (show Oper.op _ = Op.move (Operand.tmp 1) from rfl) (by rfl)) (by rfl) (some 32) (by rfl) (by kernel_rfl) (by kernel_rfl) (by kernel_rfl) (by kernel_rfl) ?_
  refine Rg.ev 5 (by rfl) (fun _ h => h) (Ev.loads 1 (show Oper.op _ = Op.load 99 (Operand.tmp 10) from rfl) (by rfl) (by rfl) (n := 6) (by kernel_rfl) (by rfl) (by rfl)) (by rfl) (some 33) (by rfl) (by kernel_rfl) (by kernel_rfl) (by kernel_rfl) (by kernel_rfl) ?_
  refine Rg.tail 6 [] (by rfl) (by kernel_rfl) (Does.mapPut 4 (show Oper.op _ = Op.mapUpdate 95 (Operand.tmp 31) (Operand.tmp 32) (Operand.tmp 33) from rfl) (by rfl) (by rfl) (by rfl) (by rfl) Try.underlying3 Try.underlying95 (by omega) (by assumption)) (by rfl) none (by rfl) (by kernel_rfl) (by kernel_rfl) ?_
  intro _ _
  refine Rg.done (by kernel_rfl) ?_ _
  refine Ent.see 0 (by rfl) ?_
  refine Ent.pick [0, 5, 3, 4] (by rfl) (Ent.map (fun w h => winS_put q ⟨id, true, code, ep, st, p.1, p.2, xs⟩ h) ?_)
  refine Ent.fin (p) (trivial) (Res.nothing (by rfl)) ?_ [1, 2, 0] (by rfl) ?_
  · rfl
  · exact cons_eq rfl (cons_eq (winM_put b (n + 1) S q ⟨id, true, code, ep, st, p.1, p.2, xs⟩) rfl)
end Go.Proofs.Ytgidkjfakecniaa
