/- SstOwn: what is handed in stays and isn't kept; answers are new memory, and an iterator may be gone over twice and broken off. No condition beyond the statement's own. -/
import Derived.Test.YtnhcfhamcakfkaaMSstL3g
import Derived.Test.YtnhcfhamcakfkaaChecked
import Derived.Test.YtnhcfhamcakfkaaRows
namespace Go.Proofs.Ytnhcfhamcakfkaa
open Go.RowKit
def spare : Ety := ⟨⟨#[115, 112, 97, 114, 101]⟩, 0, false, ⟨#[]⟩⟩
theorem ents_len : ∀ l : List Ety, (l.flatMap Ety.enc).length = l.length * 4
  | [] => rfl
  | x :: l => by
    rw [List.flatMap_cons, List.length_append, ents_len l, List.length_cons]
    show 4 + l.length * 4 = _
    omega
def bang : Ety := ⟨⟨#[33]⟩, 0, false, ⟨#[]⟩⟩
theorem Ev.loadU8 {Γ : Ctx} {N : Frm} {P : Program} {E : Env} {H : List Chunk} {o : Oper} {x : Operand} {t n k : Nat} {ad : Addr} {xs : List UInt8} {u : UInt8} (ho : o.op = .load t x) (hx : E.ev x = some (.pointer (some (ad.add (k * 1))))) (hi : ReadsIn Γ H 1 (some ad) n (u8s xs)) (ht : one P t = true) (hu : xs[k]? = some u) : Ev Γ N P E H o (.int .u8 u.toNat) :=
  .loadOf ho hx fun w hs => by
    have hh : Reads w w.heap.size 1 (some ad) n (u8s xs) := hi w hs
    have hk : k < xs.length := (List.getElem?_eq_some_iff.1 hu).1
    have := hh.1
    exact run_loadVar_one ht (rd_cell hh (by rw [u8s_length] at this; omega) (by rw [Nat.mul_one, u8s_get, hu]; rfl))
theorem ReadsIn.preB {Γ : Ctx} {H : List Chunk} {A : Option Addr} {c : Nat} {l r : List UInt8} (i : Nat) (hi : H[i]? = some (rowB A c (l ++ r))) : ReadsIn Γ H 1 A l.length (u8s l) := fun w hs => by
  have ho : Own w 0 5 1 A (l ++ r).length c (u8s (l ++ r)) := hs.mem hi
  have := ho.reads.take (k := l.length) (by rw [List.length_append]; omega)
  rw [Nat.mul_one, u8s_append, List.take_left' (u8s_length l)] at this
  exact this
set_option maxHeartbeats 1000000 in
theorem own6_fn (W : World) (A : Option Addr) (c : Nat) (l : List Ety) (stop : Int) (hr : Reads W W.heap.size 4 A l.length (l.flatMap Ety.enc)) (hn : l.length ≤ 8796093022207) :
    Fn Try.prog 7 #[.slice A l.length c, .int .i64 stop] [argc W] Unit (fun _ => .bool true) (fun _ => []) (fun _ => True) := by
  have hgood := goodF_good l
  have hl84 := goodF_len l
  have hsrt := goodF_srt l
  refine Fn.enterM Try.func7 rfl Try.ntmps7 (by rfl) ?_
  intro w0
  refine Ent.arg 0 (by rfl) hr ?_
  skip
  refine Cd.seq ?_
  refine Cd.region ?_
  refine Ls.does (some 2) (Does.box (show Oper.op _ = Op.box 22 (Operand.tmp 0) from rfl) (by rfl)) (by rfl) (by rfl) ?_
  intro g1 _
  refine Ls.does (some 3) (Does.box (show Oper.op _ = Op.box 3 (Operand.tmp 1) from rfl) (by rfl)) (by rfl) (by rfl) ?_
  intro g2 _
  refine Ls.does (some 4) (Does.alloc (cs := [.bool false]) (show Oper.op _ = Op.alloc 4 from rfl) (ZeroIs.mk (.bool false) (by kernel_rfl) (by rfl))) (by rfl) (by rfl) ?_
  intro g3 _
  refine Ls.nil ?_
  refine Cd.seq ?_
  refine Cd.seq ?_
  refine Cd.region ?_
  refine Ls.does (some 23) (Does.read (show Oper.op _ = Op.call { callee := Callee.value (Operand.func 8), args := #[], argTypes := #[] } from rfl) Try.func8 (by kernel_rfl) (by kernel_rfl) (awake_sl) (by rfl) (by rfl) trivial) (by rfl) (by rfl) ?_
  rintro _ -
  refine Ls.ev (some 24) (Ev.not (show Oper.op _ = Op.unOp UnOp.not 4 (Operand.tmp 23) from rfl) (by rfl)) (by rfl) (by rfl) ?_
  refine Ls.nil ?_
  refine Cd.cond_false (by rfl) (rfl) ?_
  refine Cd.skip ?_
  refine Cd.seq ?_
  refine Cd.region ?_
  refine Ls.ev (some 25) (Ev.load 2 (show Oper.op _ = Op.load 22 (Operand.tmp 2) from rfl) (by rfl) (by rfl) (by kernel_rfl) (by rfl)) (by rfl) (by rfl) ?_
  refine Ls.does (some 26) (Does.readN (show Oper.op _ = Op.call { callee := Callee.value (Operand.func 20), args := #[Operand.tmp 25], argTypes := #[22] } from rfl) Try.func20 (by kernel_rfl) (by kernel_rfl) (goodL_sl A c l hn) (by rfl) (by rfl) ⟨ReadsIn.rd 3 (by rfl), trivial⟩ (fun _ => by rfl)) (by rfl) (by rfl) ?_
  revert hgood hl84 hsrt
  generalize goodF [] l = m
  intro hgood hl84 hsrt p hpc
  refine Ls.does none (Does.store 3 (show Oper.op _ = Op.store 22 (Operand.tmp 2) (Operand.tmp 26) from rfl) (by rfl) (by rfl) (by rfl) (by kernel_rfl) (by rfl) (by kernel_rfl) (by rfl)) (by rfl) (by rfl) ?_
  intro _ _
  refine Ls.nil ?_
  refine Cd.seq ?_
  refine Cd.seq ?_
  refine Cd.region ?_
  refine Ls.ev (some 27) (Ev.load 3 (show Oper.op _ = Op.load 22 (Operand.tmp 2) from rfl) (by rfl) (by rfl) (by kernel_rfl) (by rfl)) (by rfl) (by rfl) ?_
  refine Ls.ev (some 28) (Ev.len (show Oper.op _ = Op.call { callee := Callee.builtin Builtin.len, args := #[Operand.tmp 27], argTypes := #[22] } from rfl) (by rfl) Try.underlying22) (by rfl) (by rfl) ?_
  refine Ls.ev (some 29) (Ev.eql (show Oper.op _ = Op.binOp BinOp.eql 3 (Operand.tmp 28) (Operand.const (Value.int IntKind.i64 0)) 3 from rfl) (by rfl) (by rfl)) (by rfl) (by rfl) ?_
  refine Ls.nil ?_
  refine Cd.cond _ (by rfl) (fun h0 => ?_) (fun h0 => ?_)
  · skip
    refine Cd.seq ?_
    refine Cd.region ?_
    refine Ls.does none (Does.store 1 (show Oper.op _ = Op.store 4 (Operand.tmp 4) (Operand.const (Value.bool true)) from rfl) (by rfl) (by rfl) (by rfl) (by kernel_rfl) (by rfl) (by kernel_rfl) (by rfl)) (by rfl) (by rfl) ?_
    intro _ _
    refine Ls.nil ?_
    refine Cd.ret ?_
    refine Ent.retM [] (by rfl) (()) (trivial) (Res.cell1 1 (by rfl) (by rfl) (by rfl) (by kernel_rfl) (by rfl)) ?_ [] (by rfl) ?_
    · rfl
    · rfl
  · skip
    have hpos : 0 < m.length := by have := of_decide_eq_false h0; omega
    have he := hgood (fun e => by rw [e] at hpos; exact absurd hpos (by decide))
    have hg := good_of he
    have htl := tab_len he
    refine Ent.pick [0, 1, 2, 3] (by rfl) (Ent.see 0 (by rfl) (Ent.rdSome 0 (by rfl) hpos (fun ad had => ?_)))
    rw [had]
    refine Cd.skip ?_
    refine Cd.seq ?_
    refine Cd.region ?_
    refine Ls.does (some 30) (Does.lit0 (sz := 4) (show Oper.op _ = Op.buildSlice 22 0 #[] from rfl) Try.underlying22 (by kernel_rfl)) (by rfl) (by rfl) ?_
    intro g4 _
    refine Ls.ev (some 31) (Ev.load 4 (show Oper.op _ = Op.load 22 (Operand.tmp 2) from rfl) (by rfl) (by rfl) (by kernel_rfl) (by rfl)) (by rfl) (by rfl) ?_
    refine Ls.does (some 32) (Does.app0 (news := m.flatMap Ety.enc) 0 (show Oper.op _ = Op.call { callee := Callee.builtin Builtin.append, args := #[Operand.tmp 30, Operand.tmp 31], argTypes := #[22, 22] } from rfl) (by rfl) (by rfl) (by rfl) (ReadsIn.rd 1 (by rfl)) elem_ents (encs_one _) (by omega)) (by rfl) (by rfl) ?_
    intro r1 _
    refine Ls.ev (some 33) (Ev.buildP (pl := [(0, 1), (1, 1), (2, 1), (3, 1)]) (zs := [.string ⟨#[]⟩, .int .i64 0, .bool false, .string ⟨#[]⟩]) (show Oper.op _ = Op.build 42 #[(0, Operand.const (Value.string { data := #[115, 112, 97, 114, 101] }))] from rfl) (by rfl) (by kernel_rfl) (by rfl)) (by rfl) (by rfl) ?_
    refine Ls.does (some 34) (Does.lit (sz := 4) (show Oper.op _ = Op.buildSlice 22 1 #[(0, Operand.tmp 33)] from rfl) (by rfl) Try.underlying22 (by kernel_rfl) (by rfl) (by kernel_rfl)) (by rfl) (by rfl) ?_
    intro g5 _
    refine Ls.does (some 35) (Does.app (xs := m.flatMap Ety.enc) (news := spare.enc) 1 (show Oper.op _ = Op.call { callee := Callee.builtin Builtin.append, args := #[Operand.tmp 32, Operand.tmp 34], argTypes := #[22, 22] } from rfl) (by rfl) (by rfl) (by rfl) (ReadsIn.row 0 (by rfl)) elem_ents (enc_one _) (by omega)) (by rfl) (by rfl) ?_
    intro r _
    refine Ent.fact 1 (by rfl) (p := m.length + 1 ≤ r.2) (fun w hw => Own.le hw) (fun hrc => ?_)
    refine Ent.see 1 (by rfl) (Ent.rdSome 1 (by rfl) (Nat.succ_pos _) (fun rad hrd => ?_))
    rw [hrd]
    have hrm : m.flatMap Ety.enc ++ spare.enc = (m ++ [spare]).flatMap Ety.enc := by rw [List.flatMap_append, List.flatMap_singleton]
    rw [hrm]
    have hspg : (m ++ [spare])[m.length]? = some spare := by rw [List.getElem?_append_right (Nat.le_refl _), Nat.sub_self]; rfl
    refine Ls.ev (some 5) (Ev.assign (show Oper.op _ = Op.assign (Operand.tmp 35) from rfl) (by rfl)) (by rfl) (by rfl) ?_
    refine Ls.nil ?_
    refine Cd.seq ?_
    refine Cd.region ?_
    refine Ls.ev (some 37) (Ev.move (show Oper.op _ = Op.move (Operand.tmp 5) from rfl) (by rfl)) (by rfl) (by rfl) ?_
    refine Ls.ev (some 38) (Ev.load 5 (show Oper.op _ = Op.load 22 (Operand.tmp 2) from rfl) (by rfl) (by rfl) (by kernel_rfl) (by rfl)) (by rfl) (by rfl) ?_
    refine Ls.ev (some 39) (Ev.len (show Oper.op _ = Op.call { callee := Callee.builtin Builtin.len, args := #[Operand.tmp 38], argTypes := #[22] } from rfl) (by rfl) Try.underlying22) (by rfl) (by rfl) ?_
    refine Ls.ev (some 40) (Ev.sliceHn (sz := 4) (show Oper.op _ = Op.slice 22 (Operand.tmp 37) none (some (Operand.tmp 39)) none from rfl) (by rfl) (by rfl) Try.underlying22 (by kernel_rfl) (by omega)) (by rfl) (by rfl) ?_
    refine Ent.cut 1 0 m.length r.2 (by rfl) (by omega) ?_
    rw [flat_cut (enc := Ety.enc) (sz := 4) (fun _ => rfl), List.drop_zero, Nat.sub_zero, List.take_left, show cutA (some rad) r.2 0 4 = some rad by unfold cutA; split <;> rfl]
    refine Ls.does (some 41) (Does.readN (show Oper.op _ = Op.call { callee := Callee.value (Operand.func 10), args := #[Operand.tmp 40], argTypes := #[22] } from rfl) Try.func10 (by kernel_rfl) (by kernel_rfl) (build_sl (some rad) r.2 m (by omega) he) (by rfl) (by rfl) ⟨ReadsIn.rd 0 (by rfl), trivial⟩ (fun _ => by rfl)) (by rfl) (by rfl) ?_
    intro q _
    refine Ls.ev (some 36) (Ev.move (show Oper.op _ = Op.move (Operand.tmp 41) from rfl) (by rfl)) (by rfl) (by rfl) ?_
    refine Ls.ev (some 42) (Ev.extract (show Oper.op _ = Op.extract (Operand.tmp 36) 0 from rfl) (by rfl) (by rfl)) (by rfl) (by rfl) ?_
    refine Ls.ev (some 43) (Ev.extract (show Oper.op _ = Op.extract (Operand.tmp 36) 1 from rfl) (by rfl) (by rfl)) (by rfl) (by rfl) ?_
    refine Ls.ev (some 6) (Ev.assign (show Oper.op _ = Op.assign (Operand.tmp 42) from rfl) (by rfl)) (by rfl) (by rfl) ?_
    refine Ls.ev (some 7) (Ev.assign (show Oper.op _ = Op.assign (Operand.tmp 43) from rfl) (by rfl)) (by rfl) (by rfl) ?_
    refine Ls.nil ?_
    refine Cd.seq ?_
    refine Cd.region ?_
    refine Ls.does (some 44) (Does.lit0 (sz := 1) (show Oper.op _ = Op.buildSlice 25 0 #[] from rfl) Try.underlying25 (by kernel_rfl)) (by rfl) (by rfl) ?_
    intro g6 _
    refine Ls.ev (some 45) (Ev.move (show Oper.op _ = Op.move (Operand.tmp 6) from rfl) (by rfl)) (by rfl) (by rfl) ?_
    refine Ls.does (some 46) (Does.app0 (news := u8s (tabL m)) 0 (show Oper.op _ = Op.call { callee := Callee.builtin Builtin.append, args := #[Operand.tmp 44, Operand.tmp 45], argTypes := #[25, 25] } from rfl) (by rfl) (by rfl) (by rfl) (ReadsIn.row 1 (by rfl)) elem_u8 (u8s_one _) (by omega)) (by rfl) (by rfl) ?_
    intro qc _
    refine Ls.ev (some 8) (Ev.assign (show Oper.op _ = Op.assign (Operand.tmp 46) from rfl) (by rfl)) (by rfl) (by rfl) ?_
    refine Ls.nil ?_
    refine Cd.seq ?_
    refine Cd.region ?_
    refine Ls.does (some 47) (Does.lit0 (sz := 1) (show Oper.op _ = Op.buildSlice 25 0 #[] from rfl) Try.underlying25 (by kernel_rfl)) (by rfl) (by rfl) ?_
    intro g7 _
    refine Ls.ev (some 48) (Ev.move (show Oper.op _ = Op.move (Operand.tmp 6) from rfl) (by rfl)) (by rfl) (by rfl) ?_
    refine Ls.does (some 49) (Does.app0 (news := u8s (tabL m)) 0 (show Oper.op _ = Op.call { callee := Callee.builtin Builtin.append, args := #[Operand.tmp 47, Operand.tmp 48], argTypes := #[25, 25] } from rfl) (by rfl) (by rfl) (by rfl) (ReadsIn.row 2 (by rfl)) elem_u8 (u8s_one _) (by omega)) (by rfl) (by rfl) ?_
    intro q7 _
    refine Ls.does (some 50) (Does.lit (sz := 1) (show Oper.op _ = Op.buildSlice 25 1 #[(0, Operand.const (Value.int IntKind.u8 7))] from rfl) (by rfl) Try.underlying25 (by kernel_rfl) (by rfl) (by kernel_rfl)) (by rfl) (by rfl) ?_
    intro g8 _
    refine Ls.does (some 51) (Does.appB (l := tabL m) (m := [7]) 1 (show Oper.op _ = Op.call { callee := Callee.builtin Builtin.append, args := #[Operand.tmp 49, Operand.tmp 50], argTypes := #[25, 25] } from rfl) (by rfl) (by rfl) (by rfl) (ReadsIn.row 0 (by rfl)) (by show (tabL m).length + 1 ≤ _; omega)) (by rfl) (by rfl) ?_
    intro qi _
    have hil : (tabL m ++ [7]).length = (tabL m).length + 1 := List.length_append
    refine Ent.fact 1 (by rfl) (p := (tabL m ++ [7]).length ≤ qi.2) (fun w hw => Own.le hw) (fun hic => ?_)
    refine Ls.ev (some 9) (Ev.assign (show Oper.op _ = Op.assign (Operand.tmp 51) from rfl) (by rfl)) (by rfl) (by rfl) ?_
    refine Ls.nil ?_
    refine Cd.seq ?_
    refine Cd.region ?_
    refine Ls.ev (some 53) (Ev.move (show Oper.op _ = Op.move (Operand.tmp 9) from rfl) (by rfl)) (by rfl) (by rfl) ?_
    refine Ls.ev (some 54) (Ev.move (show Oper.op _ = Op.move (Operand.tmp 6) from rfl) (by rfl)) (by rfl) (by rfl) ?_
    refine Ls.ev (some 55) (Ev.len (show Oper.op _ = Op.call { callee := Callee.builtin Builtin.len, args := #[Operand.tmp 54], argTypes := #[25] } from rfl) (by rfl) Try.underlying25) (by rfl) (by rfl) ?_
    refine Ls.ev (some 56) (Ev.sliceHn (sz := 1) (show Oper.op _ = Op.slice 25 (Operand.tmp 53) none (some (Operand.tmp 55)) none from rfl) (by rfl) (by rfl) Try.underlying25 (by kernel_rfl) (by omega)) (by rfl) (by rfl) ?_
    refine Ls.does (some 57) (Does.readN (show Oper.op _ = Op.call { callee := Callee.value (Operand.func 13), args := #[Operand.tmp 56], argTypes := #[25] } from rfl) Try.func13 (by kernel_rfl) (by kernel_rfl) (parse_tab he qi.1 qi.2) (by rfl) (by rfl) ⟨ReadsIn.preB 1 (by rfl), trivial⟩ (fun _ => by rfl)) (by rfl) (by rfl) ?_
    intro t htc
    refine Ent.pick [5, 7, 10, 14, 12, 13, 11, 6, 0, 1, 2, 3, 8] (by rfl) (Ent.see 9 (by rfl) (Ent.see 10 (by rfl) (Ent.see 11 (by rfl) ?_)))
    refine Ls.ev (some 52) (Ev.move (show Oper.op _ = Op.move (Operand.tmp 57) from rfl) (by rfl)) (by rfl) (by rfl) ?_
    refine Ls.ev (some 58) (Ev.extract (show Oper.op _ = Op.extract (Operand.tmp 52) 0 from rfl) (by rfl) (by rfl)) (by rfl) (by rfl) ?_
    refine Ls.ev (some 59) (Ev.extract (show Oper.op _ = Op.extract (Operand.tmp 52) 1 from rfl) (by rfl) (by rfl)) (by rfl) (by rfl) ?_
    refine Ls.ev (some 10) (Ev.assign (show Oper.op _ = Op.assign (Operand.tmp 58) from rfl) (by rfl)) (by rfl) (by rfl) ?_
    refine Ls.ev (some 11) (Ev.assign (show Oper.op _ = Op.assign (Operand.tmp 59) from rfl) (by rfl)) (by rfl) (by rfl) ?_
    refine Ls.nil ?_
    refine Cd.seq ?_
    refine Cd.seq ?_
    refine Cd.draw [] (by kernel_rfl) ?_
    refine Rg.ev 0 (by rfl) (fun _ h => h) (Ev.move (show Oper.op _ = Op.move (Operand.tmp 7) from rfl) (by rfl)) (by rfl) (some 60) (by rfl) (by kernel_rfl) (by kernel_rfl) (by kernel_rfl) (by kernel_rfl) ?_
    refine Rg.ev 1 (by rfl) (fun _ h => h) (Ev.neq (show Oper.op _ = Op.binOp BinOp.neq 26 (Operand.tmp 60) (Operand.const (Value.int IntKind.i64 0)) 26 from rfl) (by rfl) (by rfl)) (by rfl) (some 61) (by rfl) (by kernel_rfl) (by kernel_rfl) (by kernel_rfl) (by kernel_rfl) ?_
    refine Rg.ev 2 (by rfl) (fun _ h => h) (Ev.move (show Oper.op _ = Op.move (Operand.tmp 61) from rfl) (by rfl)) (by rfl) (some 62) (by rfl) (by kernel_rfl) (by kernel_rfl) (by kernel_rfl) (by kernel_rfl) ?_
    refine Ent.known 62 false (by rfl) (by exact (rfl)) ?_
    refine Rg.ev 3 (by rfl) (fun _ h => h) (Ev.move (show Oper.op _ = Op.move (Operand.tmp 11) from rfl) (by rfl)) (by rfl) (some 63) (by rfl) (by kernel_rfl) (by kernel_rfl) (by kernel_rfl) (by kernel_rfl) ?_
    refine Rg.ev 4 (by rfl) (fun _ h => h) (Ev.neq (show Oper.op _ = Op.binOp BinOp.neq 26 (Operand.tmp 63) (Operand.const (Value.int IntKind.i64 0)) 26 from rfl) (by rfl) (by rfl)) (by rfl) (some 64) (by rfl) (by kernel_rfl) (by kernel_rfl) (by kernel_rfl) (by kernel_rfl) ?_
    refine Rg.ev 5 (by rfl) (fun _ h => h) (Ev.pickF (show Oper.op _ = Op.pick (Operand.tmp 62) (Operand.const (Value.bool true)) (Operand.tmp 64) from rfl) (by rfl) (by rfl)) (by rfl) (some 65) (by rfl) (by kernel_rfl) (by kernel_rfl) (by kernel_rfl) (by kernel_rfl) ?_
    refine Rg.ev 6 (by rfl) (fun _ h => h) (Ev.move (show Oper.op _ = Op.move (Operand.tmp 65) from rfl) (by rfl)) (by rfl) (some 66) (by rfl) (by kernel_rfl) (by kernel_rfl) (by kernel_rfl) (by kernel_rfl) ?_
    skip
    refine Ent.known 66 false (by rfl) (by exact (rfl)) ?_
    refine Rg.ev 7 (by rfl) (fun _ h => h) (Ev.move (show Oper.op _ = Op.move (Operand.tmp 10) from rfl) (by rfl)) (by rfl) (some 67) (by rfl) (by kernel_rfl) (by kernel_rfl) (by kernel_rfl) (by kernel_rfl) ?_
    refine Rg.ev 8 (by rfl) (fun _ h => h) (Ev.ptrNil (show Oper.op _ = Op.binOp BinOp.eql 32 (Operand.tmp 67) (Operand.const (Value.pointer none)) 32 from rfl) (by rfl) (by rfl) Try.underlying32) (by rfl) (some 68) (by rfl) (by kernel_rfl) (by kernel_rfl) (by kernel_rfl) (by kernel_rfl) ?_
    refine Rg.ev 9 (by rfl) (fun _ h => h) (Ev.pickF (show Oper.op _ = Op.pick (Operand.tmp 66) (Operand.const (Value.bool true)) (Operand.tmp 68) from rfl) (by rfl) (by rfl)) (by rfl) (some 69) (by rfl) (by kernel_rfl) (by kernel_rfl) (by kernel_rfl) (by kernel_rfl) ?_
    refine Rg.ev 10 (by rfl) (fun _ h => h) (Ev.move (show Oper.op _ = Op.move (Operand.tmp 69) from rfl) (by rfl)) (by rfl) (some 70) (by rfl) (by kernel_rfl) (by kernel_rfl) (by kernel_rfl) (by kernel_rfl) ?_
    skip
    skip
    skip
    have h7 : (tabL m ++ [7])[(tabL m).length]? = some 7 := by rw [List.getElem?_append_right (Nat.le_refl _), Nat.sub_self]; rfl
    refine Ent.rowSome 0 (by rfl) (by omega) (fun iad hiad => ?_)
    rw [hiad]
    refine Ent.known 70 false (by rfl) (by exact (rfl)) ?_
    refine Rg.ev 11 (by rfl) (fun _ h => h) (Ev.move (show Oper.op _ = Op.move (Operand.tmp 5) from rfl) (by rfl)) (by rfl) (some 71) (by rfl) (by kernel_rfl) (by kernel_rfl) (by kernel_rfl) (by kernel_rfl) ?_
    refine Rg.ev 12 (by rfl) (fun _ h => h) (Ev.load 3 (show Oper.op _ = Op.load 22 (Operand.tmp 2) from rfl) (by rfl) (by rfl) (by kernel_rfl) (by rfl)) (by rfl) (some 72) (by rfl) (by kernel_rfl) (by kernel_rfl) (by kernel_rfl) (by kernel_rfl) ?_
    refine Rg.ev 13 (by rfl) (fun _ h => h) (Ev.len (show Oper.op _ = Op.call { callee := Callee.builtin Builtin.len, args := #[Operand.tmp 72], argTypes := #[22] } from rfl) (by rfl) Try.underlying22) (by rfl) (some 73) (by rfl) (by kernel_rfl) (by kernel_rfl) (by kernel_rfl) (by kernel_rfl) ?_
    refine Rg.ev 14 (by rfl) (fun _ h => h) (Ev.indexAt (sz := 4) (show Oper.op _ = Op.indexAddr 22 (Operand.tmp 71) (Operand.tmp 73) from rfl) (by rfl) (by rfl) Try.underlying22 (by kernel_rfl) (by omega)) (by rfl) (some 74) (by rfl) (by kernel_rfl) (by kernel_rfl) (by kernel_rfl) (by kernel_rfl) ?_
    refine Rg.ev 15 (by rfl) (fun _ h => h) (Ev.fieldAddrE0 (k := 0) (show Oper.op _ = Op.fieldAddr 42 (Operand.tmp 74) 0 from rfl) (by rfl) (by kernel_rfl)) (by rfl) (some 75) (by rfl) (by kernel_rfl) (by kernel_rfl) (by kernel_rfl) (by kernel_rfl) ?_
    refine Rg.ev 16 (by rfl) (fun _ h => h) (Ev.loadElF (show Oper.op _ = Op.load 9 (Operand.tmp 75) from rfl) (by rfl) (ReadsIn.rd 2 (by rfl)) (by kernel_rfl) (by intro _; rfl) (by assumption) (by rfl)) (by rfl) (some 76) (by rfl) (by kernel_rfl) (by kernel_rfl) (by kernel_rfl) (by kernel_rfl) ?_
    refine Rg.ev 17 (by rfl) (fun _ h => h) (Ev.neqS (show Oper.op _ = Op.binOp BinOp.neq 9 (Operand.tmp 76) (Operand.const (Value.string { data := #[115, 112, 97, 114, 101] })) 9 from rfl) (by rfl) (by rfl)) (by rfl) (some 77) (by rfl) (by kernel_rfl) (by kernel_rfl) (by kernel_rfl) (by kernel_rfl) ?_
    refine Rg.ev 18 (by rfl) (fun _ h => h) (Ev.pickF (show Oper.op _ = Op.pick (Operand.tmp 70) (Operand.const (Value.bool true)) (Operand.tmp 77) from rfl) (by rfl) (by rfl)) (by rfl) (some 78) (by rfl) (by kernel_rfl) (by kernel_rfl) (by kernel_rfl) (by kernel_rfl) ?_
    refine Rg.ev 19 (by rfl) (fun _ h => h) (Ev.move (show Oper.op _ = Op.move (Operand.tmp 78) from rfl) (by rfl)) (by rfl) (some 79) (by rfl) (by kernel_rfl) (by kernel_rfl) (by kernel_rfl) (by kernel_rfl) ?_
    skip
    refine Ent.known 79 false (by rfl) (by exact (rfl)) ?_
    refine Rg.ev 20 (by rfl) (fun _ h => h) (Ev.move (show Oper.op _ = Op.move (Operand.tmp 9) from rfl) (by rfl)) (by rfl) (some 80) (by rfl) (by kernel_rfl) (by kernel_rfl) (by kernel_rfl) (by kernel_rfl) ?_
    refine Rg.ev 21 (by rfl) (fun _ h => h) (Ev.move (show Oper.op _ = Op.move (Operand.tmp 6) from rfl) (by rfl)) (by rfl) (some 81) (by rfl) (by kernel_rfl) (by kernel_rfl) (by kernel_rfl) (by kernel_rfl) ?_
    refine Rg.ev 22 (by rfl) (fun _ h => h) (Ev.len (show Oper.op _ = Op.call { callee := Callee.builtin Builtin.len, args := #[Operand.tmp 81], argTypes := #[25] } from rfl) (by rfl) Try.underlying25) (by rfl) (some 82) (by rfl) (by kernel_rfl) (by kernel_rfl) (by kernel_rfl) (by kernel_rfl) ?_
    refine Rg.ev 23 (by rfl) (fun _ h => h) (Ev.indexAt (sz := 1) (show Oper.op _ = Op.indexAddr 25 (Operand.tmp 80) (Operand.tmp 82) from rfl) (by rfl) (by rfl) Try.underlying25 (by kernel_rfl) (by omega)) (by rfl) (some 83) (by rfl) (by kernel_rfl) (by kernel_rfl) (by kernel_rfl) (by kernel_rfl) ?_
    refine Rg.ev 24 (by rfl) (fun _ h => h) (Ev.loadU8 (show Oper.op _ = Op.load 5 (Operand.tmp 83) from rfl) (by rfl) (ReadsIn.row 0 (by rfl)) (by kernel_rfl) (by assumption)) (by rfl) (some 84) (by rfl) (by kernel_rfl) (by kernel_rfl) (by kernel_rfl) (by kernel_rfl) ?_
    refine Rg.ev 25 (by rfl) (fun _ h => h) (Ev.neq (show Oper.op _ = Op.binOp BinOp.neq 5 (Operand.tmp 84) (Operand.const (Value.int IntKind.u8 7)) 5 from rfl) (by rfl) (by rfl)) (by rfl) (some 85) (by rfl) (by kernel_rfl) (by kernel_rfl) (by kernel_rfl) (by kernel_rfl) ?_
    refine Rg.ev 26 (by rfl) (fun _ h => h) (Ev.pickF (show Oper.op _ = Op.pick (Operand.tmp 79) (Operand.const (Value.bool true)) (Operand.tmp 85) from rfl) (by rfl) (by rfl)) (by rfl) (some 86) (by rfl) (by kernel_rfl) (by kernel_rfl) (by kernel_rfl) (by kernel_rfl) ?_
    refine Rg.ev 27 (by rfl) (fun _ h => h) (Ev.move (show Oper.op _ = Op.move (Operand.tmp 86) from rfl) (by rfl)) (by rfl) (some 87) (by rfl) (by kernel_rfl) (by kernel_rfl) (by kernel_rfl) (by kernel_rfl) ?_
    refine Ent.known 87 false (by rfl) (by exact (rfl)) ?_
    refine Rg.ev 28 (by rfl) (fun _ h => h) (Ev.move (show Oper.op _ = Op.move (Operand.tmp 9) from rfl) (by rfl)) (by rfl) (some 88) (by rfl) (by kernel_rfl) (by kernel_rfl) (by kernel_rfl) (by kernel_rfl) ?_
    refine Rg.ev 29 (by rfl) (fun _ h => h) (Ev.move (show Oper.op _ = Op.move (Operand.tmp 6) from rfl) (by rfl)) (by rfl) (some 89) (by rfl) (by kernel_rfl) (by kernel_rfl) (by kernel_rfl) (by kernel_rfl) ?_
    refine Rg.ev 30 (by rfl) (fun _ h => h) (Ev.len (show Oper.op _ = Op.call { callee := Callee.builtin Builtin.len, args := #[Operand.tmp 89], argTypes := #[25] } from rfl) (by rfl) Try.underlying25) (by rfl) (some 90) (by rfl) (by kernel_rfl) (by kernel_rfl) (by kernel_rfl) (by kernel_rfl) ?_
    refine Rg.ev 31 (by rfl) (fun _ h => h) (Ev.sliceHn (sz := 1) (show Oper.op _ = Op.slice 25 (Operand.tmp 88) none (some (Operand.tmp 90)) none from rfl) (by rfl) (by rfl) Try.underlying25 (by kernel_rfl) (by omega)) (by rfl) (some 91) (by rfl) (by kernel_rfl) (by kernel_rfl) (by kernel_rfl) (by kernel_rfl) ?_
    refine Rg.ev 32 (by rfl) (fun _ h => h) (Ev.textOf (show Oper.op _ = Op.convert 25 9 (Operand.tmp 91) from rfl) (by rfl) (ReadsIn.preB 0 (by rfl)) Try.underlying25 Try.underlying5 Try.underlying9) (by rfl) (some 92) (by rfl) (by kernel_rfl) (by kernel_rfl) (by kernel_rfl) (by kernel_rfl) ?_
    refine Rg.ev 33 (by rfl) (fun _ h => h) (Ev.move (show Oper.op _ = Op.move (Operand.tmp 6) from rfl) (by rfl)) (by rfl) (some 93) (by rfl) (by kernel_rfl) (by kernel_rfl) (by kernel_rfl) (by kernel_rfl) ?_
    refine Rg.ev 34 (by rfl) (fun _ h => h) (Ev.textOf (show Oper.op _ = Op.convert 25 9 (Operand.tmp 93) from rfl) (by rfl) (ReadsIn.row 1 (by rfl)) Try.underlying25 Try.underlying5 Try.underlying9) (by rfl) (some 94) (by rfl) (by kernel_rfl) (by kernel_rfl) (by kernel_rfl) (by kernel_rfl) ?_
    refine Rg.ev 35 (by rfl) (fun _ h => h) (Ev.neqS (show Oper.op _ = Op.binOp BinOp.neq 9 (Operand.tmp 92) (Operand.tmp 94) 9 from rfl) (by rfl) (by rfl)) (by rfl) (some 95) (by rfl) (by kernel_rfl) (by kernel_rfl) (by kernel_rfl) (by kernel_rfl) ?_
    refine Rg.ev 36 (by rfl) (fun _ h => h) (Ev.pickF (show Oper.op _ = Op.pick (Operand.tmp 87) (Operand.const (Value.bool true)) (Operand.tmp 95) from rfl) (by rfl) (by rfl)) (by rfl) (some 96) (by rfl) (by kernel_rfl) (by kernel_rfl) (by kernel_rfl) (by kernel_rfl) ?_
    refine Rg.done (by kernel_rfl) ?_ _
    refine Cd.cond_false (by rfl) (by simp) ?_
    refine Cd.skip ?_
    refine Cd.seq ?_
    refine Cd.seq ?_
    refine Cd.region ?_
    refine Ls.ev (some 97) (Ev.move (show Oper.op _ = Op.move (Operand.tmp 9) from rfl) (by rfl)) (by rfl) (by rfl) ?_
    refine Ls.ev (some 98) (Ev.len (show Oper.op _ = Op.call { callee := Callee.builtin Builtin.len, args := #[Operand.tmp 97], argTypes := #[25] } from rfl) (by rfl) Try.underlying25) (by rfl) (by rfl) ?_
    refine Ls.ev (some 99) (Ev.move (show Oper.op _ = Op.move (Operand.const (Value.int IntKind.i64 0)) from rfl) (by rfl)) (by rfl) (by rfl) ?_
    refine Ls.nil ?_
    refine Cd.block ?_
    refine Ent.rowSome 1 (by rfl) (by omega) (fun bad hbad => ?_)
    rw [hbad]
    refine Cd.loop (ι := Nat × List Value) (fun j => [(2, .pointer (some ⟨g1, 0, none⟩)), (3, .pointer (some ⟨g2, 0, none⟩)), (4, .pointer (some ⟨g3, 0, none⟩)), (5, .slice (some rad) (m.length + 1) r.2), (6, .slice (some bad) (tabL m).length q.2), (8, .slice qc.1 (tabL m).length qc.2), (10, .pointer (some ⟨t.g, 0, none⟩)), (9, .slice (some iad) (tabL m ++ [7]).length qi.2), (98, .int .i64 (tabL m ++ [7]).length), (99, .int .i64 j.1)]) (fun j => [row (some iad) (tabL m ++ [7]).length qi.2 5 1 j.2, rowB (some bad) q.2 (tabL m), rd (some rad) (m.length + 1) 4 ((m ++ [spare]).flatMap Ety.enc), blk g1 22 [.slice (some ad) m.length p.2], blk g3 4 [.bool false], blk g2 3 [.int .i64 stop], rdE (some ad) m, rowB qc.1 qc.2 (tabL m), blk t.g 75 (t.vals m 0), rd t.xA (bksE m).length 4 ((bksE m).flatMap Bk.enc), rdB t.fA (filL m), rdB t.bA (tabL m), rdE (some rad) m]) (fun j => j.1 ≤ (tabL m ++ [7]).length ∧ j.2.length = (tabL m ++ [7]).length) (fun j => (tabL m ++ [7]).length - j.1) ((0, u8s (tabL m ++ [7]))) (⟨Nat.zero_le _, u8s_length _⟩) ?_ rfl ?_
    · (repeat (first | exact trivial | refine ⟨by rfl, ?_⟩))
    rintro ⟨k, xs⟩ ⟨hk, hxl⟩
    dsimp only at hk hxl ⊢
    refine Cd.seq ?_
    refine Cd.region ?_
    refine Ls.ev (some 100) (Ev.lss (show Oper.op _ = Op.binOp BinOp.lss 3 (Operand.tmp 99) (Operand.tmp 98) 3 from rfl) (by rfl) (by rfl)) (by rfl) (by rfl) ?_
    refine Ls.nil ?_
    refine Cd.seq ?_
    refine Cd.cond _ (by rfl) (fun h1 => ?_) (fun h1 => ?_)
    · skip
      have hlt : k < (tabL m ++ [7]).length := by have := of_decide_eq_true h1; omega
      refine Cd.skip ?_
      refine Cd.seq ?_
      refine Cd.block ?_
      refine Cd.seq ?_
      refine Cd.region ?_
      refine Ls.ev (some 101) (Ev.move (show Oper.op _ = Op.move (Operand.tmp 99) from rfl) (by rfl)) (by rfl) (by rfl) ?_
      refine Ls.ev (some 12) (Ev.assign (show Oper.op _ = Op.assign (Operand.tmp 101) from rfl) (by rfl)) (by rfl) (by rfl) ?_
      refine Ls.nil ?_
      refine Cd.region ?_
      refine Ls.ev (some 102) (Ev.move (show Oper.op _ = Op.move (Operand.tmp 9) from rfl) (by rfl)) (by rfl) (by rfl) ?_
      refine Ls.ev (some 103) (Ev.move (show Oper.op _ = Op.move (Operand.tmp 12) from rfl) (by rfl)) (by rfl) (by rfl) ?_
      refine Ls.ev (some 104) (Ev.indexAt (sz := 1) (show Oper.op _ = Op.indexAddr 25 (Operand.tmp 102) (Operand.tmp 103) from rfl) (by rfl) (by rfl) Try.underlying25 (by kernel_rfl) (by omega)) (by rfl) (by rfl) ?_
      refine Ls.does none (Does.storeEl 0 (show Oper.op _ = Op.store 5 (Operand.tmp 104) (Operand.const (Value.int IntKind.u8 0)) from rfl) (by rfl) (by rfl) (by rfl) (by rfl) (by kernel_rfl) (by rfl) (by omega) (by rfl)) (by rfl) (by rfl) ?_
      intro _ _
      refine Ls.nil ?_
      refine Cd.region ?_
      refine Ls.ev (some 105) (Ev.addN (b := 1) (show Oper.op _ = Op.binOp BinOp.add 3 (Operand.tmp 99) (Operand.const (Value.int IntKind.i64 1)) 3 from rfl) (by rfl) (by rfl) (by omega)) (by rfl) (by rfl) ?_
      refine Ls.ev (some 99) (Ev.move (show Oper.op _ = Op.move (Operand.tmp 105) from rfl) (by rfl)) (by rfl) (by rfl) ?_
      refine Ls.nil ?_
      refine Ent.inv ((k + 1, xs.set k (.int .u8 0))) ?_ ?_ ?_
      · (try dsimp only); exact ⟨⟨by omega, by rw [List.length_set]; exact hxl⟩, by omega⟩
      · (repeat (first | exact trivial | refine ⟨by rfl, ?_⟩ | refine ⟨by simp only [List.length_append, List.length_cons, List.length_nil]; rfl, ?_⟩ | refine ⟨by push_cast; rfl, ?_⟩))
      · rfl
    · skip
      refine Cd.exit ?_
      refine Cd.seq ?_
      refine Cd.seq ?_
      refine Cd.region ?_
      refine Ls.ev (some 106) (Ev.move (show Oper.op _ = Op.move (Operand.tmp 6) from rfl) (by rfl)) (by rfl) (by rfl) ?_
      refine Ls.ev (some 107) (Ev.len (show Oper.op _ = Op.call { callee := Callee.builtin Builtin.len, args := #[Operand.tmp 106], argTypes := #[25] } from rfl) (by rfl) Try.underlying25) (by rfl) (by rfl) ?_
      refine Ls.ev (some 108) (Ev.move (show Oper.op _ = Op.move (Operand.const (Value.int IntKind.i64 0)) from rfl) (by rfl)) (by rfl) (by rfl) ?_
      refine Ls.nil ?_
      refine Cd.block ?_
      refine Ent.pick [1, 2, 3, 4, 5, 6, 7, 8, 9, 10, 11, 12] (by rfl) ?_
      refine Cd.loop (ι := Nat × List Value) (fun j => [(2, .pointer (some ⟨g1, 0, none⟩)), (3, .pointer (some ⟨g2, 0, none⟩)), (4, .pointer (some ⟨g3, 0, none⟩)), (5, .slice (some rad) (m.length + 1) r.2), (6, .slice (some bad) (tabL m).length q.2), (8, .slice qc.1 (tabL m).length qc.2), (10, .pointer (some ⟨t.g, 0, none⟩)), (107, .int .i64 (tabL m).length), (108, .int .i64 j.1)]) (fun j => [row (some bad) (tabL m).length q.2 5 1 j.2, rd (some rad) (m.length + 1) 4 ((m ++ [spare]).flatMap Ety.enc), blk g1 22 [.slice (some ad) m.length p.2], blk g3 4 [.bool false], blk g2 3 [.int .i64 stop], rdE (some ad) m, rowB qc.1 qc.2 (tabL m), blk t.g 75 (t.vals m 0), rd t.xA (bksE m).length 4 ((bksE m).flatMap Bk.enc), rdB t.fA (filL m), rdB t.bA (tabL m), rdE (some rad) m]) (fun j => j.1 ≤ (tabL m).length ∧ j.2.length = (tabL m).length) (fun j => (tabL m).length - j.1) ((0, u8s (tabL m))) (⟨Nat.zero_le _, u8s_length _⟩) ?_ rfl ?_
      · (repeat (first | exact trivial | refine ⟨by rfl, ?_⟩))
      rintro ⟨k2, ys⟩ ⟨hk2, hyl⟩
      dsimp only at hk2 hyl ⊢
      refine Cd.seq ?_
      refine Cd.region ?_
      refine Ls.ev (some 109) (Ev.lss (show Oper.op _ = Op.binOp BinOp.lss 3 (Operand.tmp 108) (Operand.tmp 107) 3 from rfl) (by rfl) (by rfl)) (by rfl) (by rfl) ?_
      refine Ls.nil ?_
      refine Cd.seq ?_
      refine Cd.cond _ (by rfl) (fun h2 => ?_) (fun h2 => ?_)
      · skip
        have hlt : k2 < (tabL m).length := by have := of_decide_eq_true h2; omega
        refine Cd.skip ?_
        refine Cd.seq ?_
        refine Cd.block ?_
        refine Cd.seq ?_
        refine Cd.region ?_
        refine Ls.ev (some 110) (Ev.move (show Oper.op _ = Op.move (Operand.tmp 108) from rfl) (by rfl)) (by rfl) (by rfl) ?_
        refine Ls.ev (some 13) (Ev.assign (show Oper.op _ = Op.assign (Operand.tmp 110) from rfl) (by rfl)) (by rfl) (by rfl) ?_
        refine Ls.nil ?_
        refine Cd.region ?_
        refine Ls.ev (some 111) (Ev.move (show Oper.op _ = Op.move (Operand.tmp 6) from rfl) (by rfl)) (by rfl) (by rfl) ?_
        refine Ls.ev (some 112) (Ev.move (show Oper.op _ = Op.move (Operand.tmp 13) from rfl) (by rfl)) (by rfl) (by rfl) ?_
        refine Ls.ev (some 113) (Ev.indexAt (sz := 1) (show Oper.op _ = Op.indexAddr 25 (Operand.tmp 111) (Operand.tmp 112) from rfl) (by rfl) (by rfl) Try.underlying25 (by kernel_rfl) (by omega)) (by rfl) (by rfl) ?_
        refine Ls.does none (Does.storeEl 0 (show Oper.op _ = Op.store 5 (Operand.tmp 113) (Operand.const (Value.int IntKind.u8 1)) from rfl) (by rfl) (by rfl) (by rfl) (by rfl) (by kernel_rfl) (by rfl) (by omega) (by rfl)) (by rfl) (by rfl) ?_
        intro _ _
        refine Ls.nil ?_
        refine Cd.region ?_
        refine Ls.ev (some 114) (Ev.addN (b := 1) (show Oper.op _ = Op.binOp BinOp.add 3 (Operand.tmp 108) (Operand.const (Value.int IntKind.i64 1)) 3 from rfl) (by rfl) (by rfl) (by omega)) (by rfl) (by rfl) ?_
        refine Ls.ev (some 108) (Ev.move (show Oper.op _ = Op.move (Operand.tmp 114) from rfl) (by rfl)) (by rfl) (by rfl) ?_
        refine Ls.nil ?_
        refine Ent.inv ((k2 + 1, ys.set k2 (.int .u8 1))) ?_ ?_ ?_
        · (try dsimp only); exact ⟨⟨by omega, by rw [List.length_set]; exact hyl⟩, by omega⟩
        · (repeat (first | exact trivial | refine ⟨by rfl, ?_⟩ | refine ⟨by simp only [List.length_append, List.length_cons, List.length_nil]; rfl, ?_⟩ | refine ⟨by push_cast; rfl, ?_⟩))
        · rfl
      · skip
        refine Cd.exit ?_
        refine Cd.seq ?_
        refine Cd.region ?_
        refine Ls.ev (some 115) (Ev.move (show Oper.op _ = Op.move (Operand.tmp 10) from rfl) (by rfl)) (by rfl) (by rfl) ?_
        refine Ent.pick [1, 2, 3, 4, 5, 6, 7, 8, 9, 10, 11] (by rfl) ?_
        refine Ls.does (some 116) (Does.readN (show Oper.op _ = Op.call { callee := Callee.value (Operand.func 16), args := #[Operand.tmp 115], argTypes := #[32] } from rfl) Try.func16 (by kernel_rfl) (by kernel_rfl) (all_tab he t 0 htc) (by rfl) (by rfl) ⟨blkIn 6 (by rfl), ReadsIn.rd 7 (by rfl), ReadsIn.rd 9 (by rfl), trivial⟩ (fun _ => by rfl)) (by rfl) (by rfl) ?_
        intro q2 _
        refine Ent.rowSome 0 (by rfl) (by omega) (fun od hod => ?_)
        rw [hod]
        refine Ls.ev (some 14) (Ev.assign (show Oper.op _ = Op.assign (Operand.tmp 116) from rfl) (by rfl)) (by rfl) (by rfl) ?_
        refine Ls.nil ?_
        refine Cd.seq ?_
        refine Cd.seq ?_
        refine Cd.region ?_
        refine Ls.ev (some 117) (Ev.move (show Oper.op _ = Op.move (Operand.tmp 14) from rfl) (by rfl)) (by rfl) (by rfl) ?_
        refine Ls.ev (some 118) (Ev.len (show Oper.op _ = Op.call { callee := Callee.builtin Builtin.len, args := #[Operand.tmp 117], argTypes := #[22] } from rfl) (by rfl) Try.underlying22) (by rfl) (by rfl) ?_
        refine Ls.ev (some 119) (Ev.move (show Oper.op _ = Op.move (Operand.const (Value.int IntKind.i64 0)) from rfl) (by rfl)) (by rfl) (by rfl) ?_
        refine Ls.nil ?_
        refine Cd.block ?_
        refine Cd.loop (ι := Nat × List Ety) (fun j => [(2, .pointer (some ⟨g1, 0, none⟩)), (3, .pointer (some ⟨g2, 0, none⟩)), (4, .pointer (some ⟨g3, 0, none⟩)), (5, .slice (some rad) (m.length + 1) r.2), (8, .slice qc.1 (tabL m).length qc.2), (10, .pointer (some ⟨t.g, 0, none⟩)), (14, .slice (some od) m.length q2.2), (118, .int .i64 m.length), (119, .int .i64 j.1)]) (fun j => [row (some od) m.length q2.2 42 4 (j.2.flatMap Ety.enc), rd (some rad) (m.length + 1) 4 ((m ++ [spare]).flatMap Ety.enc), blk g1 22 [.slice (some ad) m.length p.2], blk g3 4 [.bool false], blk g2 3 [.int .i64 stop], rdE (some ad) m, rowB qc.1 qc.2 (tabL m), blk t.g 75 (t.vals m 0), rd t.xA (bksE m).length 4 ((bksE m).flatMap Bk.enc), rdB t.fA (filL m), rdB t.bA (tabL m), rdE (some rad) m]) (fun j => j.1 ≤ m.length ∧ j.2.length = m.length) (fun j => m.length - j.1) ((0, m)) (⟨Nat.zero_le _, rfl⟩) ?_ rfl ?_
        · (repeat (first | exact trivial | refine ⟨by rfl, ?_⟩))
        rintro ⟨k3, zs⟩ ⟨hk3, hzl⟩
        dsimp only at hk3 hzl ⊢
        refine Cd.seq ?_
        refine Cd.region ?_
        refine Ls.ev (some 120) (Ev.lss (show Oper.op _ = Op.binOp BinOp.lss 3 (Operand.tmp 119) (Operand.tmp 118) 3 from rfl) (by rfl) (by rfl)) (by rfl) (by rfl) ?_
        refine Ls.nil ?_
        refine Cd.seq ?_
        refine Cd.cond _ (by rfl) (fun h3 => ?_) (fun h3 => ?_)
        · skip
          have hlt : k3 < m.length := by have := of_decide_eq_true h3; omega
          have hfl : (zs.flatMap Ety.enc).length = m.length * 4 := by rw [ents_len, hzl]
          refine Cd.skip ?_
          refine Cd.seq ?_
          refine Cd.block ?_
          refine Cd.seq ?_
          refine Cd.region ?_
          refine Ls.ev (some 121) (Ev.move (show Oper.op _ = Op.move (Operand.tmp 119) from rfl) (by rfl)) (by rfl) (by rfl) ?_
          refine Ls.ev (some 15) (Ev.assign (show Oper.op _ = Op.assign (Operand.tmp 121) from rfl) (by rfl)) (by rfl) (by rfl) ?_
          refine Ls.nil ?_
          refine Cd.region ?_
          refine Ls.ev (some 122) (Ev.move (show Oper.op _ = Op.move (Operand.tmp 14) from rfl) (by rfl)) (by rfl) (by rfl) ?_
          refine Ls.ev (some 123) (Ev.move (show Oper.op _ = Op.move (Operand.tmp 15) from rfl) (by rfl)) (by rfl) (by rfl) ?_
          refine Ls.ev (some 124) (Ev.buildP (pl := [(0, 1), (1, 1), (2, 1), (3, 1)]) (zs := [.string ⟨#[]⟩, .int .i64 0, .bool false, .string ⟨#[]⟩]) (show Oper.op _ = Op.build 42 #[] from rfl) (by rfl) (by kernel_rfl) (by rfl)) (by rfl) (by rfl) ?_
          refine Ls.ev (some 125) (Ev.indexAt (sz := 4) (show Oper.op _ = Op.indexAddr 22 (Operand.tmp 122) (Operand.tmp 123) from rfl) (by rfl) (by rfl) Try.underlying22 (by kernel_rfl) (by omega)) (by rfl) (by rfl) ?_
          refine Ls.does none (Does.storeRow (j := k3 * 4) 0 (show Oper.op _ = Op.store 42 (Operand.tmp 125) (Operand.tmp 124) from rfl) (by rfl) (by rfl) (by rfl) rfl (by kernel_rfl) (by rfl) (by show k3 * 4 + 4 ≤ _; omega) (by omega) (setR_enc (enc := Ety.enc) (sz := 4) (fun _ => rfl) zs k3 Ety.zero (by omega))) (by rfl) (by rfl) ?_
          rintro _ -
          refine Ls.nil ?_
          refine Cd.region ?_
          refine Ls.ev (some 126) (Ev.addN (b := 1) (show Oper.op _ = Op.binOp BinOp.add 3 (Operand.tmp 119) (Operand.const (Value.int IntKind.i64 1)) 3 from rfl) (by rfl) (by rfl) (by omega)) (by rfl) (by rfl) ?_
          refine Ls.ev (some 119) (Ev.move (show Oper.op _ = Op.move (Operand.tmp 126) from rfl) (by rfl)) (by rfl) (by rfl) ?_
          refine Ls.nil ?_
          refine Ent.inv ((k3 + 1, zs.set k3 Ety.zero)) ?_ ?_ ?_
          · (try dsimp only); exact ⟨⟨by omega, by rw [List.length_set]; exact hzl⟩, by omega⟩
          · (repeat (first | exact trivial | refine ⟨by rfl, ?_⟩ | refine ⟨by simp only [List.length_append, List.length_cons, List.length_nil]; rfl, ?_⟩ | refine ⟨by push_cast; rfl, ?_⟩))
          · rfl
        · skip
          have hk4 : k3 = m.length := by have := of_decide_eq_false h3; omega
          refine Cd.exit ?_
          refine Cd.seq ?_
          refine Cd.seq ?_
          refine Cd.region ?_
          refine Ls.ev (some 16) (Ev.assign (show Oper.op _ = Op.assign (Operand.const (Value.int IntKind.i64 0)) from rfl) (by rfl)) (by rfl) (by rfl) ?_
          refine Ls.nil ?_
          refine Cd.block ?_
          refine Cd.loop (ι := Nat × List Ety × Option Addr × Nat) (fun j => [(2, .pointer (some ⟨g1, 0, none⟩)), (3, .pointer (some ⟨g2, 0, none⟩)), (4, .pointer (some ⟨g3, 0, none⟩)), (5, .slice (some rad) (m.length + 1) r.2), (8, .slice qc.1 (tabL m).length qc.2), (10, .pointer (some ⟨t.g, 0, none⟩)), (14, .slice j.2.2.1 (m.length + j.1) j.2.2.2), (16, .int .i64 j.1)]) (fun j => [row j.2.2.1 (m.length + j.1) j.2.2.2 42 4 (j.2.1.flatMap Ety.enc), rd (some rad) (m.length + 1) 4 ((m ++ [spare]).flatMap Ety.enc), blk g1 22 [.slice (some ad) m.length p.2], blk g3 4 [.bool false], blk g2 3 [.int .i64 stop], rdE (some ad) m, rowB qc.1 qc.2 (tabL m), blk t.g 75 (t.vals m 0), rd t.xA (bksE m).length 4 ((bksE m).flatMap Bk.enc), rdB t.fA (filL m), rdB t.bA (tabL m), rdE (some rad) m]) (fun j => j.1 ≤ 20 ∧ j.2.1.length = m.length + j.1) (fun j => 20 - j.1) ((0, zs, some od, q2.2)) (⟨Nat.zero_le _, hzl⟩) ?_ rfl ?_
          · (repeat (first | exact trivial | refine ⟨by rfl, ?_⟩))
          rintro ⟨i, vs, vA, vc⟩ ⟨hi, hvl⟩
          dsimp only at hi hvl ⊢
          refine Cd.seq ?_
          refine Cd.seq ?_
          refine Cd.region ?_
          refine Ls.ev (some 127) (Ev.move (show Oper.op _ = Op.move (Operand.tmp 16) from rfl) (by rfl)) (by rfl) (by rfl) ?_
          refine Ls.ev (some 128) (Ev.lss (show Oper.op _ = Op.binOp BinOp.lss 3 (Operand.tmp 127) (Operand.const (Value.int IntKind.i64 20)) 3 from rfl) (by rfl) (by rfl)) (by rfl) (by rfl) ?_
          refine Ls.nil ?_
          refine Cd.cond _ (by rfl) (fun h5 => ?_) (fun h5 => ?_)
          · skip
            have hlt : i < 20 := by have := of_decide_eq_true h5; omega
            refine Cd.skip ?_
            refine Cd.seq ?_
            refine Cd.block ?_
            refine Cd.region ?_
            refine Ls.ev (some 131) (Ev.move (show Oper.op _ = Op.move (Operand.tmp 14) from rfl) (by rfl)) (by rfl) (by rfl) ?_
            refine Ls.ev (some 132) (Ev.buildP (pl := [(0, 1), (1, 1), (2, 1), (3, 1)]) (zs := [.string ⟨#[]⟩, .int .i64 0, .bool false, .string ⟨#[]⟩]) (show Oper.op _ = Op.build 42 #[(0, Operand.const (Value.string { data := #[33] }))] from rfl) (by rfl) (by kernel_rfl) (by rfl)) (by rfl) (by rfl) ?_
            refine Ls.does (some 133) (Does.lit (sz := 4) (show Oper.op _ = Op.buildSlice 22 1 #[(0, Operand.tmp 132)] from rfl) (by rfl) Try.underlying22 (by kernel_rfl) (by rfl) (by kernel_rfl)) (by rfl) (by rfl) ?_
            intro g9 _
            refine Ls.does (some 134) (Does.app (xs := vs.flatMap Ety.enc) (news := bang.enc) 1 (show Oper.op _ = Op.call { callee := Callee.builtin Builtin.append, args := #[Operand.tmp 131, Operand.tmp 133], argTypes := #[22, 22] } from rfl) (by rfl) (by rfl) (by rfl) (ReadsIn.row 0 (by rfl)) elem_ents (enc_one _) (by omega)) (by rfl) (by rfl) ?_
            intro v _
            refine Ls.ev (some 14) (Ev.assign (show Oper.op _ = Op.assign (Operand.tmp 134) from rfl) (by rfl)) (by rfl) (by rfl) ?_
            refine Ls.nil ?_
            refine Cd.region ?_
            refine Ls.ev (some 129) (Ev.move (show Oper.op _ = Op.move (Operand.tmp 16) from rfl) (by rfl)) (by rfl) (by rfl) ?_
            refine Ls.ev (some 130) (Ev.addN (b := 1) (show Oper.op _ = Op.binOp BinOp.add 3 (Operand.tmp 129) (Operand.const (Value.int IntKind.i64 1)) 3 from rfl) (by rfl) (by rfl) (by omega)) (by rfl) (by rfl) ?_
            refine Ls.ev (some 16) (Ev.assign (show Oper.op _ = Op.assign (Operand.tmp 130) from rfl) (by rfl)) (by rfl) (by rfl) ?_
            refine Ls.nil ?_
            refine Ent.pick [1, 2, 3, 4, 5, 6, 7, 8, 9, 10, 11, 12] (by rfl) ?_
            refine Ent.inv ((i + 1, vs ++ [bang], v)) ?_ ?_ ?_
            · (try dsimp only); exact ⟨⟨by omega, by rw [List.length_append, hvl]; rfl⟩, by omega⟩
            · (repeat (first | exact trivial | refine ⟨by rfl, ?_⟩ | refine ⟨by simp only [List.length_append, List.length_cons, List.length_nil]; rfl, ?_⟩ | refine ⟨by push_cast; rfl, ?_⟩))
            · (dsimp only; rw [show (vs ++ [bang]).flatMap Ety.enc = vs.flatMap Ety.enc ++ bang.enc by rw [List.flatMap_append, List.flatMap_singleton]]; rfl)
          · skip
            refine Cd.exit ?_
            refine Cd.seq ?_
            refine Cd.region ?_
            refine Ls.ev (some 135) (Ev.move (show Oper.op _ = Op.move (Operand.tmp 10) from rfl) (by rfl)) (by rfl) (by rfl) ?_
            refine Ent.pick [1, 2, 3, 4, 5, 6, 7, 8, 9, 10, 11] (by rfl) ?_
            refine Ls.does (some 136) (Does.readN (show Oper.op _ = Op.call { callee := Callee.value (Operand.func 26), args := #[Operand.tmp 135, Operand.const (Value.string { data := #[] })], argTypes := #[32, 9] } from rfl) Try.func26 (by kernel_rfl) (by kernel_rfl) (from_sl t ⟨#[]⟩) (by rfl) (by rfl) trivial (fun _ => by rfl)) (by rfl) (by rfl) ?_
            intro pr _
            have hfm : m.filter (fromE ⟨#[]⟩) = m := List.filter_eq_self.2 fun e _ => by
              have h0 : (⟨#[]⟩ : ByteArray).toList = [] := by rw [ByteArray.toList_eq]
              unfold fromE kl
              rw [h0]
              cases e.key.toList <;> rfl
            have hit := from_iter he t 0 ⟨#[]⟩ pr.1 pr.2 htc
            rw [hfm] at hit
            refine Ls.ev (some 17) (Ev.assign (show Oper.op _ = Op.assign (Operand.tmp 136) from rfl) (by rfl)) (by rfl) (by rfl) ?_
            refine Ls.nil ?_
            refine Cd.seq ?_
            refine Cd.seq ?_
            refine Cd.region ?_
            refine Ls.does (some 18) (Does.alloc (cs := [.int .i64 0]) (show Oper.op _ = Op.alloc 3 from rfl) (ZeroIs.mk (.int .i64 0) (by kernel_rfl) (by rfl))) (by rfl) (by rfl) ?_
            intro g9 _
            refine Ls.does none (Does.store 0 (show Oper.op _ = Op.store 3 (Operand.tmp 18) (Operand.const (Value.int IntKind.i64 0)) from rfl) (by rfl) (by rfl) (by rfl) (by kernel_rfl) (by rfl) (by kernel_rfl) (by rfl)) (by rfl) (by rfl) ?_
            intro _ _
            refine Ls.nil ?_
            refine Cd.block ?_
            refine Ent.marks0 ?_
            refine Ent.pick [0, 1, 6, 5, 7, 8, 2, 3, 10, 11, 13, 12, 4, 9, 14] (by rfl) ?_
            refine Cd.loopN (ι := Nat × Nat × List Nat) (fun j => frm 202 j.2.2) (fun j => [(2, .pointer (some ⟨g1, 0, none⟩)), (3, .pointer (some ⟨g2, 0, none⟩)), (4, .pointer (some ⟨g3, 0, none⟩)), (5, .slice (some rad) (m.length + 1) r.2), (8, .slice qc.1 (tabL m).length qc.2), (10, .pointer (some ⟨t.g, 0, none⟩)), (17, .func (.func 53) #[] #[.pointer (some ⟨pr.1, 0, none⟩), .pointer (some ⟨pr.2, 0, none⟩)]), (18, .pointer (some ⟨j.2.1, 0, none⟩))]) (fun j => [markz (j.2.2), blk j.2.1 3 [.int .i64 (j.1 : Nat)], blk g3 4 [.bool false], blk g1 22 [.slice (some ad) m.length p.2], blk g2 3 [.int .i64 stop], rdE (some ad) m, blk pr.1 32 [.pointer (some ⟨t.g, 0, none⟩)], blk pr.2 9 [.string ⟨#[]⟩], blk t.g 75 (t.vals m 0), rd t.xA (bksE m).length 4 ((bksE m).flatMap Bk.enc), rdB t.bA (tabL m), rdB t.fA (filL m), rd (some rad) (m.length + 1) 4 ((m ++ [spare]).flatMap Ety.enc), rowB qc.1 qc.2 (tabL m), rdE (some rad) m]) (fun j => j.1 ≤ 2) (fun j => 2 - j.1) ((0, g9, [])) (Nat.zero_le _) ?_ rfl rfl (fun _ => rfl) ?_
            · (repeat (first | exact trivial | refine ⟨by rfl, ?_⟩))
            rintro ⟨turn, gt, Ds⟩ htu
            dsimp only at htu ⊢
            refine Cd.seq ?_
            refine Cd.seq ?_
            refine Cd.region ?_
            refine Ls.ev (some 137) (Ev.load 1 (show Oper.op _ = Op.load 3 (Operand.tmp 18) from rfl) (by rfl) (by rfl) (by kernel_rfl) (by rfl)) (by rfl) (by rfl) ?_
            refine Ls.ev (some 138) (Ev.lss (show Oper.op _ = Op.binOp BinOp.lss 3 (Operand.tmp 137) (Operand.const (Value.int IntKind.i64 2)) 3 from rfl) (by rfl) (by rfl)) (by rfl) (by rfl) ?_
            refine Ls.nil ?_
            refine Cd.cond _ (by rfl) (fun hT => ?_) (fun hT => ?_)
            · skip
              have ht2 : turn < 2 := by have := of_decide_eq_true hT; omega
              refine Cd.skip ?_
              refine Cd.seq ?_
              refine Cd.block ?_
              refine Cd.seq ?_
              refine Cd.region ?_
              refine Ls.does (some 19) (Does.alloc (cs := [.int .i64 0]) (show Oper.op _ = Op.alloc 3 from rfl) (ZeroIs.mk (.int .i64 0) (by kernel_rfl) (by rfl))) (by rfl) (by rfl) ?_
              intro g10 _
              refine Ls.does none (Does.store 0 (show Oper.op _ = Op.store 3 (Operand.tmp 19) (Operand.const (Value.int IntKind.i64 0)) from rfl) (by rfl) (by rfl) (by rfl) (by kernel_rfl) (by rfl) (by kernel_rfl) (by rfl)) (by rfl) (by rfl) ?_
              intro _ _
              refine Ls.nil ?_
              refine Cd.seq ?_
              refine Cd.seq ?_
              refine Cd.region ?_
              refine Ls.ev (some 141) (Ev.move (show Oper.op _ = Op.move (Operand.tmp 17) from rfl) (by rfl)) (by rfl) (by rfl) ?_
              refine Ls.nil ?_
              refine Cd.cutN (ι := Nat × Nat) (fun k => frm 202 (k.2 :: Ds)) (fun k => [(2, .pointer (some ⟨g1, 0, none⟩)), (3, .pointer (some ⟨g2, 0, none⟩)), (4, .pointer (some ⟨g3, 0, none⟩)), (5, .slice (some rad) (m.length + 1) r.2), (8, .slice qc.1 (tabL m).length qc.2), (10, .pointer (some ⟨t.g, 0, none⟩)), (17, .func (.func 53) #[] #[.pointer (some ⟨pr.1, 0, none⟩), .pointer (some ⟨pr.2, 0, none⟩)]), (18, .pointer (some ⟨gt, 0, none⟩)), (19, .pointer (some ⟨g10, 0, none⟩))]) (fun k => [markz (k.2 :: Ds), blk g10 3 [.int .i64 (k.1 : Nat)], blk gt 3 [.int .i64 (turn : Nat)], blk g3 4 [.bool false], blk g1 22 [.slice (some ad) m.length p.2], blk g2 3 [.int .i64 stop], rdE (some ad) m, blk pr.1 32 [.pointer (some ⟨t.g, 0, none⟩)], blk pr.2 9 [.string ⟨#[]⟩], blk t.g 75 (t.vals m 0), rd t.xA (bksE m).length 4 ((bksE m).flatMap Bk.enc), rdB t.bA (tabL m), rdB t.fA (filL m), rd (some rad) (m.length + 1) 4 ((m ++ [spare]).flatMap Ety.enc), rowB qc.1 qc.2 (tabL m), rdE (some rad) m]) (fun k => k.1 ≤ m.length ∧ (k.1 = m.length ∨ turn = 0 ∧ (k.1 : Int) = stop)) ?_ ?_
              · skip
                refine Cd.block ?_
                refine Ent.pick [0, 2, 3, 4, 5, 6, 7, 8, 9, 10, 11, 12, 1, 13, 14, 15] (by rfl) ?_
                refine Cd.range (ι := Unit) (γ := Nat) (t.hit m 0 ⟨#[]⟩ pr.1 pr.2) ([rdE (some ad) m]) ([rdB t.fA (filL m), markz Ds, rd (some rad) (m.length + 1) 4 ((m ++ [spare]).flatMap Ety.enc), rowB qc.1 qc.2 (tabL m), rdE (some rad) m]) (fun (x : Ety) q => [(2, .pointer (some ⟨g1, 0, none⟩)), (3, .pointer (some ⟨g2, 0, none⟩)), (4, .pointer (some ⟨g3, 0, none⟩)), (18, .pointer (some ⟨gt, 0, none⟩)), (19, .pointer (some ⟨g10, 0, none⟩)), (20, .pointer (some ⟨q, 0, none⟩))]) (fun x q => [blk q 42 x.enc]) (fun pre _ => [blk g10 3 [.int .i64 (pre.length : Nat)], blk gt 3 [.int .i64 (turn : Nat)], blk g3 4 [.bool false], blk g1 22 [.slice (some ad) m.length p.2], blk g2 3 [.int .i64 stop]]) (fun pre _ => [blk g10 3 [.int .i64 (pre.length : Nat)], blk gt 3 [.int .i64 (turn : Nat)], blk g3 4 [.bool false], blk g1 22 [.slice (some ad) m.length p.2], blk g2 3 [.int .i64 stop]]) (fun pre _ => pre.length ≤ m.length) (fun c pre _ => c = .exit 10 ∧ turn = 0 ∧ (pre.length : Int) = stop) (()) (by rfl) (call_enter Try.func53 (by kernel_rfl) (by kernel_rfl)) (hit) (fun _ => by rfl) (by rfl) (Nat.zero_le _) ?_ (by rfl) (fun _ _ => by rfl) (fun _ _ => by rfl) ?_ ?_ ?_ ?_
                · rfl
                · intro lp x W
                  refine Cd.region ?_
                  refine Ls.does (some 20) (Does.alloc (cs := [.string ⟨#[]⟩, .int .i64 0, .bool false, .string ⟨#[]⟩]) (show Oper.op _ = Op.alloc 42 from rfl) (ZeroIs.mk (.agg #[.string ⟨#[]⟩, .int .i64 0, .bool false, .string ⟨#[]⟩]) (by kernel_rfl) (by rfl))) (by rfl) (by rfl) ?_
                  intro g11 _
                  refine Ls.does none (Does.store 0 (show Oper.op _ = Op.store 42 (Operand.tmp 20) (Operand.tmp 142) from rfl) (by rfl) (by rfl) (by rfl) (by kernel_rfl) (by rfl) (by kernel_rfl) (by rfl)) (by rfl) (by rfl) ?_
                  intro _ _
                  refine Ls.nil ?_
                  refine Ent.asg (g11) ?_ ?_
                  · (repeat (first | exact trivial | refine ⟨by rfl, ?_⟩ | refine ⟨by simp only [List.length_append, List.length_cons, List.length_nil]; rfl, ?_⟩ | refine ⟨by push_cast; rfl, ?_⟩))
                  · rfl
                · intro lp pre x i q W hi hx
                  skip
                  have hxl := (List.getElem?_eq_some_iff.1 hx).1
                  refine Cd.block ?_
                  refine Cd.seq ?_
                  refine Cd.seq ?_
                  refine Cd.draw [] (by kernel_rfl) ?_
                  refine Rg.ev 0 (by rfl) (fun _ h => h) (Ev.load 1 (show Oper.op _ = Op.load 3 (Operand.tmp 19) from rfl) (by rfl) (by rfl) (by kernel_rfl) (by rfl)) (by rfl) (some 143) (by rfl) (by kernel_rfl) (by kernel_rfl) (by kernel_rfl) (by kernel_rfl) ?_
                  refine Rg.ev 1 (by rfl) (fun _ h => h) (Ev.load 4 (show Oper.op _ = Op.load 22 (Operand.tmp 2) from rfl) (by rfl) (by rfl) (by kernel_rfl) (by rfl)) (by rfl) (some 144) (by rfl) (by kernel_rfl) (by kernel_rfl) (by kernel_rfl) (by kernel_rfl) ?_
                  refine Rg.ev 2 (by rfl) (fun _ h => h) (Ev.len (show Oper.op _ = Op.call { callee := Callee.builtin Builtin.len, args := #[Operand.tmp 144], argTypes := #[22] } from rfl) (by rfl) Try.underlying22) (by rfl) (some 145) (by rfl) (by kernel_rfl) (by kernel_rfl) (by kernel_rfl) (by kernel_rfl) ?_
                  refine Rg.ev 3 (by rfl) (fun _ h => h) (Ev.geq (show Oper.op _ = Op.binOp BinOp.geq 3 (Operand.tmp 143) (Operand.tmp 145) 3 from rfl) (by rfl) (by rfl)) (by rfl) (some 146) (by rfl) (by kernel_rfl) (by kernel_rfl) (by kernel_rfl) (by kernel_rfl) ?_
                  refine Rg.ev 4 (by rfl) (fun _ h => h) (Ev.move (show Oper.op _ = Op.move (Operand.tmp 146) from rfl) (by rfl)) (by rfl) (some 147) (by rfl) (by kernel_rfl) (by kernel_rfl) (by kernel_rfl) (by kernel_rfl) ?_
                  refine Ent.known 147 false (by rfl) (by exact (decide_eq_false (by omega))) ?_
                  refine Rg.ev 5 (by rfl) (fun _ h => h) (Ev.load 4 (show Oper.op _ = Op.load 22 (Operand.tmp 2) from rfl) (by rfl) (by rfl) (by kernel_rfl) (by rfl)) (by rfl) (some 148) (by rfl) (by kernel_rfl) (by kernel_rfl) (by kernel_rfl) (by kernel_rfl) ?_
                  refine Rg.ev 6 (by rfl) (fun _ h => h) (Ev.load 1 (show Oper.op _ = Op.load 3 (Operand.tmp 19) from rfl) (by rfl) (by rfl) (by kernel_rfl) (by rfl)) (by rfl) (some 149) (by rfl) (by kernel_rfl) (by kernel_rfl) (by kernel_rfl) (by kernel_rfl) ?_
                  refine Rg.ev 7 (by rfl) (fun _ h => h) (Ev.indexAt (sz := 4) (show Oper.op _ = Op.indexAddr 22 (Operand.tmp 148) (Operand.tmp 149) from rfl) (by rfl) (by rfl) Try.underlying22 (by kernel_rfl) (by omega)) (by rfl) (some 150) (by rfl) (by kernel_rfl) (by kernel_rfl) (by kernel_rfl) (by kernel_rfl) ?_
                  refine Rg.ev 8 (by rfl) (fun _ h => h) (Ev.loadEl (show Oper.op _ = Op.load 42 (Operand.tmp 150) from rfl) (by rfl) (ReadsIn.rd 6 (by rfl)) (by kernel_rfl) (by intro _; rfl) (by assumption)) (by rfl) (some 151) (by rfl) (by kernel_rfl) (by kernel_rfl) (by kernel_rfl) (by kernel_rfl) ?_
                  refine Rg.ev 9 (by rfl) (fun _ h => h) (Ev.loads 0 (show Oper.op _ = Op.load 42 (Operand.tmp 20) from rfl) (by rfl) (by rfl) (n := 4) (by kernel_rfl) (by rfl) (by rfl)) (by rfl) (some 152) (by rfl) (by kernel_rfl) (by kernel_rfl) (by kernel_rfl) (by kernel_rfl) ?_
                  skip
                  refine Rg.ev 10 (by rfl) (fun _ h => h) (Ev.neqE x x (show Oper.op _ = Op.binOp BinOp.neq 42 (Operand.tmp 151) (Operand.tmp 152) 42 from rfl) (by rfl) (by rfl)) (by rfl) (some 153) (by rfl) (by kernel_rfl) (by kernel_rfl) (by kernel_rfl) (by kernel_rfl) ?_
                  refine Rg.ev 11 (by rfl) (fun _ h => h) (Ev.pickF (show Oper.op _ = Op.pick (Operand.tmp 147) (Operand.const (Value.bool true)) (Operand.tmp 153) from rfl) (by rfl) (by rfl)) (by rfl) (some 154) (by rfl) (by kernel_rfl) (by kernel_rfl) (by kernel_rfl) (by kernel_rfl) ?_
                  refine Rg.done (by kernel_rfl) ?_ _
                  refine Cd.cond_false (by rfl) (by rw [decide_eq_true rfl]; rfl) ?_
                  refine Cd.skip ?_
                  refine Cd.seq ?_
                  refine Cd.region ?_
                  refine Ls.ev (some 155) (Ev.load 1 (show Oper.op _ = Op.load 3 (Operand.tmp 19) from rfl) (by rfl) (by rfl) (by kernel_rfl) (by rfl)) (by rfl) (by rfl) ?_
                  refine Ls.ev (some 156) (Ev.addN (b := 1) (show Oper.op _ = Op.binOp BinOp.add 3 (Operand.tmp 155) (Operand.const (Value.int IntKind.i64 1)) 3 from rfl) (by rfl) (by rfl) (by omega)) (by rfl) (by rfl) ?_
                  refine Ls.does none (Does.store 1 (show Oper.op _ = Op.store 3 (Operand.tmp 19) (Operand.tmp 156) from rfl) (by rfl) (by rfl) (by rfl) (by kernel_rfl) (by rfl) (by kernel_rfl) (by rfl)) (by rfl) (by rfl) ?_
                  intro _ _
                  refine Ls.nil ?_
                  refine Cd.seq ?_
                  refine Cd.region ?_
                  refine Ls.ev (some 157) (Ev.load 2 (show Oper.op _ = Op.load 3 (Operand.tmp 18) from rfl) (by rfl) (by rfl) (by kernel_rfl) (by rfl)) (by rfl) (by rfl) ?_
                  refine Ls.ev (some 158) (Ev.eql (show Oper.op _ = Op.binOp BinOp.eql 3 (Operand.tmp 157) (Operand.const (Value.int IntKind.i64 0)) 3 from rfl) (by rfl) (by rfl)) (by rfl) (by rfl) ?_
                  refine Ls.ev (some 159) (Ev.move (show Oper.op _ = Op.move (Operand.tmp 158) from rfl) (by rfl)) (by rfl) (by rfl) ?_
                  refine Ent.split 159 (by rfl) (fun h5 => ?_) (fun h5 => ?_)
                  · skip
                    refine Ls.pass (some 160) (by rfl) (by rfl) ?_
                    refine Ls.pass (some 161) (by rfl) (by rfl) ?_
                    refine Ls.pass (some 162) (by rfl) (by rfl) ?_
                    refine Ls.ev (some 163) (Ev.pickF (show Oper.op _ = Op.pick (Operand.tmp 159) (Operand.tmp 162) (Operand.const (Value.bool false)) from rfl) (by rfl) (by rfl)) (by rfl) (by rfl) ?_
                    refine Ls.nil ?_
                    skip
                    refine Cd.cond_false (by rfl) (rfl) ?_
                    refine Cd.skip ?_
                    refine Ent.some_ (()) ((by show (pre ++ [x]).length ≤ _; rw [List.length_append]; exact hxl)) [1, 2, 3, 4, 5, 6] (by rfl) ?_
                    · (show [_, _, _, _, _, _] = [blk g10 3 [.int .i64 ((pre ++ [x]).length : Nat)], _, _, _, _, _]; rw [List.length_append]; rfl)
                  · skip
                    refine Ls.ev (some 160) (Ev.load 1 (show Oper.op _ = Op.load 3 (Operand.tmp 19) from rfl) (by rfl) (by rfl) (by kernel_rfl) (by rfl)) (by rfl) (by rfl) ?_
                    refine Ls.ev (some 161) (Ev.load 5 (show Oper.op _ = Op.load 3 (Operand.tmp 3) from rfl) (by rfl) (by rfl) (by kernel_rfl) (by rfl)) (by rfl) (by rfl) ?_
                    refine Ls.ev (some 162) (Ev.eql (show Oper.op _ = Op.binOp BinOp.eql 3 (Operand.tmp 160) (Operand.tmp 161) 3 from rfl) (by rfl) (by rfl)) (by rfl) (by rfl) ?_
                    refine Ls.ev (some 163) (Ev.pickT (show Oper.op _ = Op.pick (Operand.tmp 159) (Operand.tmp 162) (Operand.const (Value.bool false)) from rfl) (by rfl) (by rfl)) (by rfl) (by rfl) ?_
                    refine Ls.nil ?_
                    refine Cd.cond _ (by rfl) (fun h6 => ?_) (fun h6 => ?_)
                    · skip
                      have ht0 := of_decide_eq_true h5
                      have hst := of_decide_eq_true h6
                      skip
                      refine Cd.exit ?_
                      refine Ent.some_ (()) (⟨rfl, by omega, by show ((pre ++ [x]).length : Int) = stop; rw [List.length_append]; exact hst⟩) [1, 2, 3, 4, 5, 6] (by rfl) ?_
                      · (show [_, _, _, _, _, _] = [blk g10 3 [.int .i64 ((pre ++ [x]).length : Nat)], _, _, _, _, _]; rw [List.length_append]; rfl)
                    · skip
                      refine Cd.skip ?_
                      refine Ent.some_ (()) ((by show (pre ++ [x]).length ≤ _; rw [List.length_append]; exact hxl)) [1, 2, 3, 4, 5, 6] (by rfl) ?_
                      · (show [_, _, _, _, _, _] = [blk g10 3 [.int .i64 ((pre ++ [x]).length : Nat)], _, _, _, _, _]; rw [List.length_append]; rfl)
                · intro D1 c pre j hpre hj
                  obtain ⟨rfl, ht0, hst⟩ := hj
                  refine Cd.exit ?_
                  refine Ent.pick [0, 13, 1, 2, 3, 4, 5, 6, 7, 8, 9, 10, 11, 12, 14, 15, 16] (by rfl) (Ent.marks ?_)
                  refine Ent.invN ((pre.length, D1)) ?_ ?_ ?_
                  · (try dsimp only); exact ⟨hpre.length_le, .inr ⟨ht0, hst⟩⟩
                  · (repeat (first | exact trivial | refine ⟨by rfl, ?_⟩ | refine ⟨by simp only [List.length_append, List.length_cons, List.length_nil]; rfl, ?_⟩ | refine ⟨by push_cast; rfl, ?_⟩))
                  · rfl
                · intro D1 j hj
                  skip
                  refine Ent.pick [0, 13, 1, 2, 3, 4, 5, 6, 7, 8, 9, 10, 11, 12, 14, 15, 16] (by rfl) (Ent.marks ?_)
                  refine Ent.invN ((m.length, D1)) ?_ ?_ ?_
                  · (try dsimp only); exact ⟨Nat.le_refl _, .inl rfl⟩
                  · (repeat (first | exact trivial | refine ⟨by rfl, ?_⟩ | refine ⟨by simp only [List.length_append, List.length_cons, List.length_nil]; rfl, ?_⟩ | refine ⟨by push_cast; rfl, ?_⟩))
                  · rfl
              skip
              rintro ⟨n, D⟩ ⟨hnm, hn⟩
              dsimp only at hnm hn ⊢
              refine Cd.seq ?_
              refine Cd.region ?_
              refine Ls.ev (some 164) (Ev.load 1 (show Oper.op _ = Op.load 3 (Operand.tmp 19) from rfl) (by rfl) (by rfl) (by kernel_rfl) (by rfl)) (by rfl) (by rfl) ?_
              refine Ls.ev (some 165) (Ev.load 4 (show Oper.op _ = Op.load 22 (Operand.tmp 2) from rfl) (by rfl) (by rfl) (by kernel_rfl) (by rfl)) (by rfl) (by rfl) ?_
              refine Ls.ev (some 166) (Ev.len (show Oper.op _ = Op.call { callee := Callee.builtin Builtin.len, args := #[Operand.tmp 165], argTypes := #[22] } from rfl) (by rfl) Try.underlying22) (by rfl) (by rfl) ?_
              refine Ls.ev (some 167) (Ev.neq (show Oper.op _ = Op.binOp BinOp.neq 3 (Operand.tmp 164) (Operand.tmp 166) 3 from rfl) (by rfl) (by rfl)) (by rfl) (by rfl) ?_
              refine Ls.ev (some 168) (Ev.move (show Oper.op _ = Op.move (Operand.tmp 167) from rfl) (by rfl)) (by rfl) (by rfl) ?_
              by_cases hnl : n = m.length
              · subst hnl
                skip
                refine Ent.known 168 false (by rfl) (by exact (by simp)) ?_
                refine Ls.pass (some 169) (by rfl) (by rfl) ?_
                refine Ls.pass (some 170) (by rfl) (by rfl) ?_
                refine Ls.pass (some 171) (by rfl) (by rfl) ?_
                refine Ls.pass (some 172) (by rfl) (by rfl) ?_
                refine Ls.pass (some 173) (by rfl) (by rfl) ?_
                refine Ls.pass (some 174) (by rfl) (by rfl) ?_
                refine Ls.pass (some 175) (by rfl) (by rfl) ?_
                refine Ls.ev (some 176) (Ev.pickF (show Oper.op _ = Op.pick (Operand.tmp 168) (Operand.tmp 175) (Operand.const (Value.bool false)) from rfl) (by rfl) (by rfl)) (by rfl) (by rfl) ?_
                refine Ls.nil ?_
                refine Cd.cond_false (by rfl) (rfl) ?_
                refine Cd.skip ?_
                refine Cd.seq ?_
                refine Cd.seq ?_
                refine Cd.region ?_
                refine Ls.ev (some 177) (Ev.load 2 (show Oper.op _ = Op.load 3 (Operand.tmp 18) from rfl) (by rfl) (by rfl) (by kernel_rfl) (by rfl)) (by rfl) (by rfl) ?_
                refine Ls.nil ?_
                refine Cd.region ?_
                refine Ls.does (some 18) (Does.alloc (cs := [.int .i64 0]) (show Oper.op _ = Op.alloc 3 from rfl) (ZeroIs.mk (.int .i64 0) (by kernel_rfl) (by rfl))) (by rfl) (by rfl) ?_
                intro g11 _
                refine Ls.does none (Does.store 0 (show Oper.op _ = Op.store 3 (Operand.tmp 18) (Operand.tmp 177) from rfl) (by rfl) (by rfl) (by rfl) (by kernel_rfl) (by rfl) (by kernel_rfl) (by rfl)) (by rfl) (by rfl) ?_
                intro _ _
                refine Ls.nil ?_
                refine Cd.region ?_
                refine Ls.ev (some 139) (Ev.load 0 (show Oper.op _ = Op.load 3 (Operand.tmp 18) from rfl) (by rfl) (by rfl) (by kernel_rfl) (by rfl)) (by rfl) (by rfl) ?_
                refine Ls.ev (some 140) (Ev.addN (b := 1) (show Oper.op _ = Op.binOp BinOp.add 3 (Operand.tmp 139) (Operand.const (Value.int IntKind.i64 1)) 3 from rfl) (by rfl) (by rfl) (by omega)) (by rfl) (by rfl) ?_
                refine Ls.does none (Does.store 0 (show Oper.op _ = Op.store 3 (Operand.tmp 18) (Operand.tmp 140) from rfl) (by rfl) (by rfl) (by rfl) (by kernel_rfl) (by rfl) (by kernel_rfl) (by rfl)) (by rfl) (by rfl) ?_
                intro _ _
                refine Ls.nil ?_
                refine Ent.pick [1, 0, 4, 5, 6, 7, 8, 9, 10, 11, 12, 13, 14, 15, 16] (by rfl) ?_
                refine Ent.invN ((turn + 1, g11, D :: Ds)) ?_ ?_ ?_
                · (try dsimp only); exact ⟨by omega, by omega⟩
                · (repeat (first | exact trivial | refine ⟨by rfl, ?_⟩ | refine ⟨by simp only [List.length_append, List.length_cons, List.length_nil]; rfl, ?_⟩ | refine ⟨by push_cast; rfl, ?_⟩))
                · rfl
              · obtain ⟨rfl, hst⟩ := hn.resolve_left hnl
                skip
                refine Ent.known 168 true (by rfl) (by exact (by simp; omega)) ?_
                refine Ls.ev (some 169) (Ev.load 2 (show Oper.op _ = Op.load 3 (Operand.tmp 18) from rfl) (by rfl) (by rfl) (by kernel_rfl) (by rfl)) (by rfl) (by rfl) ?_
                refine Ls.ev (some 170) (Ev.eql (show Oper.op _ = Op.binOp BinOp.eql 3 (Operand.tmp 169) (Operand.const (Value.int IntKind.i64 1)) 3 from rfl) (by rfl) (by rfl)) (by rfl) (by rfl) ?_
                refine Ls.ev (some 171) (Ev.move (show Oper.op _ = Op.move (Operand.tmp 170) from rfl) (by rfl)) (by rfl) (by rfl) ?_
                refine Ent.known 171 false (by rfl) (by exact (rfl)) ?_
                refine Ls.ev (some 172) (Ev.load 1 (show Oper.op _ = Op.load 3 (Operand.tmp 19) from rfl) (by rfl) (by rfl) (by kernel_rfl) (by rfl)) (by rfl) (by rfl) ?_
                refine Ls.ev (some 173) (Ev.load 5 (show Oper.op _ = Op.load 3 (Operand.tmp 3) from rfl) (by rfl) (by rfl) (by kernel_rfl) (by rfl)) (by rfl) (by rfl) ?_
                refine Ls.ev (some 174) (Ev.neq (show Oper.op _ = Op.binOp BinOp.neq 3 (Operand.tmp 172) (Operand.tmp 173) 3 from rfl) (by rfl) (by rfl)) (by rfl) (by rfl) ?_
                refine Ls.ev (some 175) (Ev.pickF (show Oper.op _ = Op.pick (Operand.tmp 171) (Operand.const (Value.bool true)) (Operand.tmp 174) from rfl) (by rfl) (by rfl)) (by rfl) (by rfl) ?_
                refine Ls.ev (some 176) (Ev.pickT (show Oper.op _ = Op.pick (Operand.tmp 168) (Operand.tmp 175) (Operand.const (Value.bool false)) from rfl) (by rfl) (by rfl)) (by rfl) (by rfl) ?_
                refine Ls.nil ?_
                skip
                refine Cd.cond_false (by rfl) (by simp [hst]) ?_
                refine Cd.skip ?_
                refine Cd.seq ?_
                refine Cd.seq ?_
                refine Cd.region ?_
                refine Ls.ev (some 177) (Ev.load 2 (show Oper.op _ = Op.load 3 (Operand.tmp 18) from rfl) (by rfl) (by rfl) (by kernel_rfl) (by rfl)) (by rfl) (by rfl) ?_
                refine Ls.nil ?_
                refine Cd.region ?_
                refine Ls.does (some 18) (Does.alloc (cs := [.int .i64 0]) (show Oper.op _ = Op.alloc 3 from rfl) (ZeroIs.mk (.int .i64 0) (by kernel_rfl) (by rfl))) (by rfl) (by rfl) ?_
                intro g11 _
                refine Ls.does none (Does.store 0 (show Oper.op _ = Op.store 3 (Operand.tmp 18) (Operand.tmp 177) from rfl) (by rfl) (by rfl) (by rfl) (by kernel_rfl) (by rfl) (by kernel_rfl) (by rfl)) (by rfl) (by rfl) ?_
                intro _ _
                refine Ls.nil ?_
                refine Cd.region ?_
                refine Ls.ev (some 139) (Ev.load 0 (show Oper.op _ = Op.load 3 (Operand.tmp 18) from rfl) (by rfl) (by rfl) (by kernel_rfl) (by rfl)) (by rfl) (by rfl) ?_
                refine Ls.ev (some 140) (Ev.addN (b := 1) (show Oper.op _ = Op.binOp BinOp.add 3 (Operand.tmp 139) (Operand.const (Value.int IntKind.i64 1)) 3 from rfl) (by rfl) (by rfl) (by omega)) (by rfl) (by rfl) ?_
                refine Ls.does none (Does.store 0 (show Oper.op _ = Op.store 3 (Operand.tmp 18) (Operand.tmp 140) from rfl) (by rfl) (by rfl) (by rfl) (by kernel_rfl) (by rfl) (by kernel_rfl) (by rfl)) (by rfl) (by rfl) ?_
                intro _ _
                refine Ls.nil ?_
                refine Ent.pick [1, 0, 4, 5, 6, 7, 8, 9, 10, 11, 12, 13, 14, 15, 16] (by rfl) ?_
                refine Ent.invN ((0 + 1, g11, D :: Ds)) ?_ ?_ ?_
                · (try dsimp only); exact ⟨by omega, by omega⟩
                · (repeat (first | exact trivial | refine ⟨by rfl, ?_⟩ | refine ⟨by simp only [List.length_append, List.length_cons, List.length_nil]; rfl, ?_⟩ | refine ⟨by push_cast; rfl, ?_⟩))
                · rfl
            · skip
              have ht2 : turn = 2 := by have := of_decide_eq_false hT; omega
              subst ht2
              refine Cd.exit ?_
              refine Cd.seq ?_
              refine Cd.region ?_
              refine Ls.ev (some 179) (Ev.load 3 (show Oper.op _ = Op.load 22 (Operand.tmp 2) from rfl) (by rfl) (by rfl) (by kernel_rfl) (by rfl)) (by rfl) (by rfl) ?_
              refine Ls.does (some 180) (Does.readN (show Oper.op _ = Op.call { callee := Callee.value (Operand.func 10), args := #[Operand.tmp 179], argTypes := #[22] } from rfl) Try.func10 (by kernel_rfl) (by kernel_rfl) (build_sl (some ad) p.2 m hpc he) (by rfl) (by rfl) ⟨ReadsIn.rd 5 (by rfl), trivial⟩ (fun _ => by rfl)) (by rfl) (by rfl) ?_
              intro q3 _
              refine Ls.ev (some 178) (Ev.move (show Oper.op _ = Op.move (Operand.tmp 180) from rfl) (by rfl)) (by rfl) (by rfl) ?_
              refine Ls.ev (some 181) (Ev.extract (show Oper.op _ = Op.extract (Operand.tmp 178) 0 from rfl) (by rfl) (by rfl)) (by rfl) (by rfl) ?_
              refine Ls.ev (some 182) (Ev.extract (show Oper.op _ = Op.extract (Operand.tmp 178) 1 from rfl) (by rfl) (by rfl)) (by rfl) (by rfl) ?_
              refine Ls.ev (some 21) (Ev.assign (show Oper.op _ = Op.assign (Operand.tmp 181) from rfl) (by rfl)) (by rfl) (by rfl) ?_
              refine Ls.ev (some 22) (Ev.assign (show Oper.op _ = Op.assign (Operand.tmp 182) from rfl) (by rfl)) (by rfl) (by rfl) ?_
              refine Ls.nil ?_
              refine Cd.seq ?_
              refine Ent.pick [4, 3, 0, 14, 6, 15, 9, 10, 11, 1] (by rfl) ?_
              refine Cd.draw [19] (by kernel_rfl) ?_
              refine Rg.ev 0 (by rfl) (fun _ h => h) (Ev.move (show Oper.op _ = Op.move (Operand.tmp 10) from rfl) (by rfl)) (by rfl) (some 183) (by rfl) (by kernel_rfl) (by kernel_rfl) (by kernel_rfl) (by kernel_rfl) ?_
              refine Rg.ev 2 (by rfl) (fun _ h => h) (Ev.load 0 (show Oper.op _ = Op.load 22 (Operand.tmp 2) from rfl) (by rfl) (by rfl) (by kernel_rfl) (by rfl)) (by rfl) (some 185) (by rfl) (by kernel_rfl) (by kernel_rfl) (by kernel_rfl) (by kernel_rfl) ?_
              refine Rg.does 1 (by rfl) (by kernel_rfl) (Does.readN (show Oper.op _ = Op.call { callee := Callee.value (Operand.func 16), args := #[Operand.tmp 183], argTypes := #[32] } from rfl) Try.func16 (by kernel_rfl) (by kernel_rfl) (all_tab he t 0 htc) (by rfl) (by rfl) ⟨blkIn 6 (by rfl), ReadsIn.rd 7 (by rfl), ReadsIn.rd 8 (by rfl), trivial⟩ (fun _ => by rfl)) (by rfl) (some 184) (by rfl) (fun _ _ h => h.tail_) ?_
              intro q4 _
              skip
              refine Rg.does 3 (by rfl) (by kernel_rfl) (Does.read (show Oper.op _ = Op.call { callee := Callee.value (Operand.func 15), args := #[Operand.tmp 184, Operand.tmp 185], argTypes := #[22, 22] } from rfl) Try.func15 (by kernel_rfl) (by kernel_rfl) (refSame_sl q4.1 (some ad) q4.2 p.2 m m (by omega)) (by rfl) (by rfl) ⟨ReadsIn.row 0 (by rfl), ReadsIn.rd 5 (by rfl), trivial⟩) (by rfl) (some 186) (by rfl) (by exact fun _ _ h => h) ?_
              rintro _ -
              refine Rg.ev 4 (by rfl) (fun _ h => h) (Ev.move (show Oper.op _ = Op.move (Operand.tmp 186) from rfl) (by rfl)) (by rfl) (some 187) (by rfl) (by kernel_rfl) (by kernel_rfl) (by kernel_rfl) (by kernel_rfl) ?_
              refine Ent.known 187 true (by rfl) (by exact (by rw [decide_eq_true rfl])) ?_
              refine Rg.ev 5 (by rfl) (fun _ h => h) (Ev.move (show Oper.op _ = Op.move (Operand.tmp 5) from rfl) (by rfl)) (by rfl) (some 188) (by rfl) (by kernel_rfl) (by kernel_rfl) (by kernel_rfl) (by kernel_rfl) ?_
              refine Rg.ev 6 (by rfl) (fun _ h => h) (Ev.load 1 (show Oper.op _ = Op.load 22 (Operand.tmp 2) from rfl) (by rfl) (by rfl) (by kernel_rfl) (by rfl)) (by rfl) (some 189) (by rfl) (by kernel_rfl) (by kernel_rfl) (by kernel_rfl) (by kernel_rfl) ?_
              refine Rg.ev 7 (by rfl) (fun _ h => h) (Ev.len (show Oper.op _ = Op.call { callee := Callee.builtin Builtin.len, args := #[Operand.tmp 189], argTypes := #[22] } from rfl) (by rfl) Try.underlying22) (by rfl) (some 190) (by rfl) (by kernel_rfl) (by kernel_rfl) (by kernel_rfl) (by kernel_rfl) ?_
              refine Rg.ev 8 (by rfl) (fun _ h => h) (Ev.sliceHn (sz := 4) (show Oper.op _ = Op.slice 22 (Operand.tmp 188) none (some (Operand.tmp 190)) none from rfl) (by rfl) (by rfl) Try.underlying22 (by kernel_rfl) (by omega)) (by rfl) (some 191) (by rfl) (by kernel_rfl) (by kernel_rfl) (by kernel_rfl) (by kernel_rfl) ?_
              refine Rg.ev 9 (by rfl) (fun _ h => h) (Ev.load 1 (show Oper.op _ = Op.load 22 (Operand.tmp 2) from rfl) (by rfl) (by rfl) (by kernel_rfl) (by rfl)) (by rfl) (some 192) (by rfl) (by kernel_rfl) (by kernel_rfl) (by kernel_rfl) (by kernel_rfl) ?_
              skip
              skip
              refine Rg.does 10 (by rfl) (by kernel_rfl) (Does.read (show Oper.op _ = Op.call { callee := Callee.value (Operand.func 15), args := #[Operand.tmp 191, Operand.tmp 192], argTypes := #[22, 22] } from rfl) Try.func15 (by kernel_rfl) (by kernel_rfl) (refSame_sl (some rad) (some ad) r.2 p.2 m m (by omega)) (by rfl) (by rfl) ⟨ReadsIn.rd 6 (by rfl), ReadsIn.rd 5 (by rfl), trivial⟩) (by rfl) (some 193) (by rfl) (by exact fun _ _ h => h) ?_
              rintro _ -
              refine Rg.ev 11 (by rfl) (fun _ h => h) (Ev.pickT (show Oper.op _ = Op.pick (Operand.tmp 187) (Operand.tmp 193) (Operand.const (Value.bool false)) from rfl) (by rfl) (by rfl)) (by rfl) (some 194) (by rfl) (by kernel_rfl) (by kernel_rfl) (by kernel_rfl) (by kernel_rfl) ?_
              refine Rg.ev 12 (by rfl) (fun _ h => h) (Ev.move (show Oper.op _ = Op.move (Operand.tmp 194) from rfl) (by rfl)) (by rfl) (some 195) (by rfl) (by kernel_rfl) (by kernel_rfl) (by kernel_rfl) (by kernel_rfl) ?_
              refine Ent.known 195 true (by rfl) (by exact (by rw [decide_eq_true rfl])) ?_
              refine Rg.ev 13 (by rfl) (fun _ h => h) (Ev.move (show Oper.op _ = Op.move (Operand.tmp 21) from rfl) (by rfl)) (by rfl) (some 196) (by rfl) (by kernel_rfl) (by kernel_rfl) (by kernel_rfl) (by kernel_rfl) ?_
              refine Rg.ev 14 (by rfl) (fun _ h => h) (Ev.textOf (show Oper.op _ = Op.convert 25 9 (Operand.tmp 196) from rfl) (by rfl) (ReadsIn.row 3 (by rfl)) Try.underlying25 Try.underlying5 Try.underlying9) (by rfl) (some 197) (by rfl) (by kernel_rfl) (by kernel_rfl) (by kernel_rfl) (by kernel_rfl) ?_
              refine Rg.ev 15 (by rfl) (fun _ h => h) (Ev.move (show Oper.op _ = Op.move (Operand.tmp 8) from rfl) (by rfl)) (by rfl) (some 198) (by rfl) (by kernel_rfl) (by kernel_rfl) (by kernel_rfl) (by kernel_rfl) ?_
              refine Rg.ev 16 (by rfl) (fun _ h => h) (Ev.textOf (show Oper.op _ = Op.convert 25 9 (Operand.tmp 198) from rfl) (by rfl) (ReadsIn.row 4 (by rfl)) Try.underlying25 Try.underlying5 Try.underlying9) (by rfl) (some 199) (by rfl) (by kernel_rfl) (by kernel_rfl) (by kernel_rfl) (by kernel_rfl) ?_
              refine Rg.ev 17 (by rfl) (fun _ h => h) (Ev.eqlS (show Oper.op _ = Op.binOp BinOp.eql 9 (Operand.tmp 197) (Operand.tmp 199) 9 from rfl) (by rfl) (by rfl)) (by rfl) (some 200) (by rfl) (by kernel_rfl) (by kernel_rfl) (by kernel_rfl) (by kernel_rfl) ?_
              refine Rg.ev 18 (by rfl) (fun _ h => h) (Ev.pickT (show Oper.op _ = Op.pick (Operand.tmp 195) (Operand.tmp 200) (Operand.const (Value.bool false)) from rfl) (by rfl) (by rfl)) (by rfl) (some 201) (by rfl) (by kernel_rfl) (by kernel_rfl) (by kernel_rfl) (by kernel_rfl) ?_
              refine Rg.tail 19 [] (by rfl) (by kernel_rfl) (Does.store 2 (show Oper.op _ = Op.store 4 (Operand.tmp 4) (Operand.tmp 201) from rfl) (by rfl) (by rfl) (by rfl) (by kernel_rfl) (by rfl) (by kernel_rfl) (by rfl)) (by rfl) none (by rfl) (by kernel_rfl) (by kernel_rfl) ?_
              intro _ _
              refine Rg.done (by kernel_rfl) ?_ _
              skip
              skip
              refine Cd.ret ?_
              refine Ent.pick [10, 2] (by rfl) ?_
              refine Ent.retX (Ds) (by rfl) (()) (trivial) (Res.cell1 0 (by rfl) (by rfl) (by rfl) (by kernel_rfl) (by rfl)) ?_ [] (by rfl) ?_
              · rw [decide_eq_true rfl]
              · rfl
set_option maxRecDepth 100000 in
theorem own6_vals (W : World) (args : Array Value) (hv : Vals Try.prog W [22, 3] args.toList) :
    Calls Try.prog 7 args W fun e W' => e = .returned (.bool true) ∧ Below W.heap.size W W' := by
  obtain ⟨v0, r0, e0, h0, v1, r1, rfl, h1, rfl⟩ := hv
  obtain rfl : args = #[v0, v1] := by cases args; simp_all
  obtain ⟨A, c, l, rfl, hr, _, hc, hn⟩ := val_ents h0
  obtain ⟨stop, rfl, _⟩ := val_int Try.underlying3 h1
  exact Fn.law (own6_fn W A c l stop hr (by omega))

set_option maxRecDepth 100000 in
theorem own6_lifted (os : Os) (started : os.Started) (H : Type) (enc : TypeId × Value → H) :
    ReturnsInHanded {} Try.checked os 7 .any (Rows.sstOwnSpec.pre6 enc Try.prog Try.f7 Rows.sstOwnRow.domain false) (Rows.sstOwnSpec.post enc Try.prog Try.f7 false true false false) :=
  lift_law (C := Try.checked) #[22, 3] (by kernel_rfl) (by kernel_rfl) started (by kernel_rfl) Try.func7
    (ChangeSpec.witness6 (enc := enc) (C := Try.checked) false ⟨#[], #[.slice none 0 0, .int .i64 0], []⟩ 8 (by kernel_rfl) (by kernel_rfl) (by kernel_rfl) (by kernel_rfl))
    Try.params7 (by kernel_rfl) rfl rfl Try.underlying4 (fun ds hl => match ds, hl with | [_, _], _ => rfl) (fun W args hv => own6_vals W args hv)

theorem own6_holds : Rows.SstOwnSaid :=
  OpenClaim.holds_of_wide 7 Try.f7 rfl rfl rfl rfl rfl rfl rfl ⟨rfl, rfl, rfl, rfl, rfl⟩ rfl rfl rfl rfl rfl (by kernel_rfl) Try.func7 (by kernel_rfl)
    (of_decide_eq_true (by kernel_rfl)) (by unfold Func.isWrapper; rw [if_neg (of_decide_eq_false (by kernel_rfl))]; exact ⟨rfl, rfl⟩)
    (fun os started H enc _ => own6_lifted os started H enc)
end Go.Proofs.Ytnhcfhamcakfkaa
