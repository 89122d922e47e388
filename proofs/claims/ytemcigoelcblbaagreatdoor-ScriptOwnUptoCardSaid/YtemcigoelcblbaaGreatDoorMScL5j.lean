/-
  Texts joined: ScV, ScW, ScX, ScY.
-/
import Derived.Test.YtemcigoelcblbaaGreatDoorMScL5i
/- the document over pieces: lists, words put -/
namespace Go.Proofs.YtemcigoelcblbaaGreatDoor
open Go.RowKit
theorem dlist_sl (t : List UInt8) (ht : t.length ≤ 1048576) : Fn Tryz.prog 59 #[.string (txt t)] [] ((Option Addr × Nat) × List Int) (fun p => .tuple #[.slice p.1.1 p.2.length p.1.2, .bool (listP t).isSome]) (fun p => [rowI p.1.1 p.1.2 p.2]) (fun p => ∀ v, listP t = some v → v = p.2) := by
  have hls := splitP_len 44 t
  refine Fn.enter Tryz.func59 rfl Tryz.ntmps59 (by rfl) ?_
  intro w0
  refine Ent.nil 3 1 ?_
  refine Cd.seq ?_
  refine Cd.region ?_
  refine Ls.ev (some 2) (Ev.assign (show Oper.op _ = Op.assign (Operand.const (Value.slice none 0 0)) from rfl) (by rfl)) (by rfl) (by rfl) ?_
  refine Ls.ev (some 3) (Ev.assign (show Oper.op _ = Op.assign (Operand.const (Value.bool false)) from rfl) (by rfl)) (by rfl) (by rfl) ?_
  refine Ls.nil ?_
  refine Cd.seq ?_
  refine Cd.seq ?_
  refine Cd.region ?_
  refine Ls.ev (some 9) (Ev.move (show Oper.op _ = Op.move (Operand.tmp 0) from rfl) (by rfl)) (by rfl) (by rfl) ?_
  refine Ls.ev (some 10) (Ev.eqlS (show Oper.op _ = Op.binOp BinOp.eql 9 (Operand.tmp 9) (Operand.const (Value.string { data := #[45] })) 9 from rfl) (by rfl) (by rfl)) (by rfl) (by rfl) ?_
  refine Ls.nil ?_
  refine Cd.cond _ (by rfl) (fun h1 => ?_) (fun h1 => ?_)
  · skip
    have h1 : t = [45] := txt_eq_iff.1 (of_decide_eq_true h1)
    have hl : listP t = some [] := by unfold listP; rw [if_pos h1]
    refine Cd.seq ?_
    refine Cd.region ?_
    refine Ls.ev (some 2) (Ev.assign (show Oper.op _ = Op.assign (Operand.const (Value.slice none 0 0)) from rfl) (by rfl)) (by rfl) (by rfl) ?_
    refine Ls.ev (some 3) (Ev.assign (show Oper.op _ = Op.assign (Operand.const (Value.bool true)) from rfl) (by rfl)) (by rfl) (by rfl) ?_
    refine Ls.nil ?_
    refine Cd.ret ?_
    refine Ent.ret (((none, 0), [])) ((fun v hv => by rw [hl] at hv; exact (Option.some.inj hv).symm)) (Res.tmp2 (by rfl) (by rfl) (by rfl)) ?_ [0] (by rfl) ?_
    · rw [hl]
      rfl
    · rfl
  skip
  have h1 : t ≠ [45] := fun e => (of_decide_eq_false h1) (congrArg txt e)
  have hl : listP t = numsP (splitP 44 t) := by unfold listP; rw [if_neg h1]
  refine Cd.skip ?_
  refine Cd.seq ?_
  refine Cd.region ?_
  refine Ls.ev (some 11) (Ev.move (show Oper.op _ = Op.move (Operand.tmp 0) from rfl) (by rfl)) (by rfl) (by rfl) ?_
  refine Ls.does (some 12) (Does.call [0] (show Oper.op _ = Op.call { callee := Callee.value (Operand.func 16), args := #[Operand.tmp 11, Operand.const (Value.int IntKind.u8 44)], argTypes := #[9, 5] } from rfl) Tryz.func16 (by kernel_rfl) (by kernel_rfl) (dwords_sl 44 t ht) (by rfl) (by rfl) (by rfl)) (by rfl) (by rfl) ?_
  rintro W -
  refine Ent.see 0 (by rfl) ?_
  refine Ls.ev (some 4) (Ev.assign (show Oper.op _ = Op.assign (Operand.tmp 12) from rfl) (by rfl)) (by rfl) (by rfl) ?_
  refine Ls.nil ?_
  refine Cd.seq ?_
  refine Cd.region ?_
  refine Ls.ev (some 5) (Ev.assign (show Oper.op _ = Op.assign (Operand.const (Value.slice none 0 0)) from rfl) (by rfl)) (by rfl) (by rfl) ?_
  refine Ls.nil ?_
  refine Cd.seq ?_
  refine Cd.seq ?_
  refine Cd.region ?_
  refine Ls.ev (some 6) (Ev.assign (show Oper.op _ = Op.assign (Operand.const (Value.int IntKind.i64 0)) from rfl) (by rfl)) (by rfl) (by rfl) ?_
  refine Ls.nil ?_
  refine Cd.block ?_
  refine Ent.pick [1, 0] (by rfl) ?_
  refine Cd.loop (ι := Nat × (Option Addr × Nat) × List Int) (fun p => [(4, .slice W.1 (splitP 44 t).length W.2), (5, .slice p.2.1.1 p.2.2.length p.2.1.2), (6, .int .i64 p.1)]) (fun p => [rowI p.2.1.1 p.2.1.2 p.2.2, rd W.1 (splitP 44 t).length 1 (txts (splitP 44 t))]) (fun p => p.1 ≤ (splitP 44 t).length ∧ p.2.2.length = p.1 ∧ listP t = (numsP ((splitP 44 t).drop p.1)).map (p.2.2 ++ ·)) (fun p => (splitP 44 t).length - p.1) ((0, (none, 0), [])) (⟨Nat.zero_le _, rfl, by rw [hl]; simp⟩) ?_ rfl ?_
  · (repeat (first | exact trivial | refine ⟨by rfl, ?_⟩))
  rintro ⟨k, q, a⟩ ⟨hk, hak, hst⟩
  dsimp only at hk hak hst ⊢
  refine Cd.seq ?_
  refine Cd.seq ?_
  refine Cd.region ?_
  refine Ls.ev (some 13) (Ev.move (show Oper.op _ = Op.move (Operand.tmp 6) from rfl) (by rfl)) (by rfl) (by rfl) ?_
  refine Ls.ev (some 14) (Ev.move (show Oper.op _ = Op.move (Operand.tmp 4) from rfl) (by rfl)) (by rfl) (by rfl) ?_
  refine Ls.ev (some 15) (Ev.len (show Oper.op _ = Op.call { callee := Callee.builtin Builtin.len, args := #[Operand.tmp 14], argTypes := #[54] } from rfl) (by rfl) Tryz.underlying54) (by rfl) (by rfl) ?_
  refine Ls.ev (some 16) (Ev.lss (show Oper.op _ = Op.binOp BinOp.lss 3 (Operand.tmp 13) (Operand.tmp 15) 3 from rfl) (by rfl) (by rfl)) (by rfl) (by rfl) ?_
  refine Ls.nil ?_
  refine Cd.cond _ (by rfl) (fun h2 => ?_) (fun h2 => ?_)
  · skip
    have hlt : k < (splitP 44 t).length := by have := of_decide_eq_true h2; omega
    obtain ⟨w, hw⟩ := get_of_lt hlt
    have hwm : ((splitP 44 t).map txt)[k]? = some (txt w) := by rw [List.getElem?_map, hw]; rfl
    have hwl := hls.2 w (List.mem_of_getElem? hw)
    rw [nums_step hw] at hst
    refine Ent.rdSome 1 (by rfl) (by omega) (fun ad had => ?_)
    obtain ⟨W1, W2⟩ := W
    dsimp only at had
    subst had
    refine Cd.skip ?_
    refine Cd.seq ?_
    refine Cd.block ?_
    refine Cd.seq ?_
    refine Cd.region ?_
    refine Ls.ev (some 20) (Ev.move (show Oper.op _ = Op.move (Operand.tmp 4) from rfl) (by rfl)) (by rfl) (by rfl) ?_
    refine Ls.ev (some 21) (Ev.move (show Oper.op _ = Op.move (Operand.tmp 6) from rfl) (by rfl)) (by rfl) (by rfl) ?_
    refine Ls.ev (some 22) (Ev.indexAt (sz := 1) (show Oper.op _ = Op.indexAddr 54 (Operand.tmp 20) (Operand.tmp 21) from rfl) (by rfl) (by rfl) Tryz.underlying54 (by kernel_rfl) (by omega)) (by rfl) (by rfl) ?_
    refine Ls.ev (some 23) (Ev.loadStr (show Oper.op _ = Op.load 9 (Operand.tmp 22) from rfl) (by rfl) (ReadsIn.rd 1 (by rfl)) (by kernel_rfl) (by assumption)) (by rfl) (by rfl) ?_
    refine Ls.does (some 24) (Does.read (show Oper.op _ = Op.call { callee := Callee.value (Operand.func 58), args := #[Operand.tmp 23], argTypes := #[9] } from rfl) Tryz.func58 (by kernel_rfl) (by kernel_rfl) (dnumber_sl w (by omega)) (by rfl) (by rfl) trivial) (by rfl) (by rfl) ?_
    rintro n hn
    refine Ls.ev (some 19) (Ev.move (show Oper.op _ = Op.move (Operand.tmp 24) from rfl) (by rfl)) (by rfl) (by rfl) ?_
    refine Ls.ev (some 25) (Ev.extract (show Oper.op _ = Op.extract (Operand.tmp 19) 0 from rfl) (by rfl) (by rfl)) (by rfl) (by rfl) ?_
    refine Ls.ev (some 26) (Ev.extract (show Oper.op _ = Op.extract (Operand.tmp 19) 1 from rfl) (by rfl) (by rfl)) (by rfl) (by rfl) ?_
    refine Ls.ev (some 7) (Ev.assign (show Oper.op _ = Op.assign (Operand.tmp 25) from rfl) (by rfl)) (by rfl) (by rfl) ?_
    refine Ls.ev (some 8) (Ev.assign (show Oper.op _ = Op.assign (Operand.tmp 26) from rfl) (by rfl)) (by rfl) (by rfl) ?_
    refine Ls.nil ?_
    refine Cd.seq ?_
    refine Cd.seq ?_
    refine Cd.region ?_
    refine Ls.ev (some 27) (Ev.move (show Oper.op _ = Op.move (Operand.tmp 8) from rfl) (by rfl)) (by rfl) (by rfl) ?_
    refine Ls.ev (some 28) (Ev.not (show Oper.op _ = Op.unOp UnOp.not 4 (Operand.tmp 27) from rfl) (by rfl)) (by rfl) (by rfl) ?_
    refine Ls.nil ?_
    refine Cd.cond _ (by rfl) (fun h3 => ?_) (fun h3 => ?_)
    · skip
      have h3 : numP w = none := by cases hh : numP w with | none => rfl | some v => rw [hh] at h3; cases h3
      have hln : listP t = none := by rw [hst, h3]; rfl
      refine Cd.seq ?_
      refine Cd.region ?_
      refine Ls.ev (some 2) (Ev.assign (show Oper.op _ = Op.assign (Operand.const (Value.slice none 0 0)) from rfl) (by rfl)) (by rfl) (by rfl) ?_
      refine Ls.ev (some 3) (Ev.assign (show Oper.op _ = Op.assign (Operand.const (Value.bool false)) from rfl) (by rfl)) (by rfl) (by rfl) ?_
      refine Ls.nil ?_
      refine Ent.nil 3 1 ?_
      refine Cd.ret ?_
      refine Ent.ret (((none, 0), [])) ((fun v hv => by rw [hln] at hv; cases hv)) (Res.tmp2 (by rfl) (by rfl) (by rfl)) ?_ [0] (by rfl) ?_
      · rw [hln]
        rfl
      · rfl
    · skip
      obtain ⟨v, hv⟩ : ∃ v, numP w = some v := by cases hh : numP w with | none => rw [hh] at h3; cases h3 | some v => exact ⟨v, rfl⟩
      obtain rfl := hn v hv
      have hst2 : listP t = (numsP ((splitP 44 t).drop (k + 1))).map ((a ++ [v]) ++ ·) := by
        rw [hst, hv]
        simp [Option.map_map, Function.comp_def]
      refine Cd.skip ?_
      refine Cd.region ?_
      refine Ls.ev (some 29) (Ev.move (show Oper.op _ = Op.move (Operand.tmp 5) from rfl) (by rfl)) (by rfl) (by rfl) ?_
      refine Ls.ev (some 30) (Ev.move (show Oper.op _ = Op.move (Operand.tmp 7) from rfl) (by rfl)) (by rfl) (by rfl) ?_
      refine Ls.does (some 31) (Does.lit (sz := 1) (show Oper.op _ = Op.buildSlice 29 1 #[(0, Operand.tmp 30)] from rfl) (by rfl) Tryz.underlying29 (by kernel_rfl) (by rfl) (by kernel_rfl)) (by rfl) (by rfl) ?_
      intro g1 _
      refine Ls.does (some 32) (Does.app (xs := ints a) (news := ints [v]) 1 (show Oper.op _ = Op.call { callee := Callee.builtin Builtin.append, args := #[Operand.tmp 29, Operand.tmp 31], argTypes := #[29, 29] } from rfl) (by rfl) (by rfl) (by rfl) (ReadsIn.row 0 (by rfl)) elem_int (one_ints _) (show (a.length + 1) * 8 ≤ 140737488355328 by omega)) (by rfl) (by rfl) ?_
      rintro q' -
      refine Ls.ev (some 5) (Ev.assign (show Oper.op _ = Op.assign (Operand.tmp 32) from rfl) (by rfl)) (by rfl) (by rfl) ?_
      refine Ls.nil ?_
      refine Cd.region ?_
      refine Ls.ev (some 17) (Ev.move (show Oper.op _ = Op.move (Operand.tmp 6) from rfl) (by rfl)) (by rfl) (by rfl) ?_
      refine Ls.ev (some 18) (Ev.addI (show Oper.op _ = Op.binOp BinOp.add 3 (Operand.tmp 17) (Operand.const (Value.int IntKind.i64 1)) 3 from rfl) (by rfl) (by rfl) (by omega)) (by rfl) (by rfl) ?_
      refine Ls.ev (some 6) (Ev.assign (show Oper.op _ = Op.assign (Operand.tmp 18) from rfl) (by rfl)) (by rfl) (by rfl) ?_
      refine Ls.nil ?_
      refine Ent.pick [1, 2] (by rfl) ?_
      refine Ent.inv ((k + 1, q', a ++ [v])) ?_ ?_ ?_
      · (try dsimp only); exact ⟨⟨hlt, by simp [hak], hst2⟩, by omega⟩
      · (repeat (first | exact trivial | refine ⟨by rfl, ?_⟩ | refine ⟨by simp only [List.length_append, List.length_cons, List.length_nil]; rfl, ?_⟩ | refine ⟨by push_cast; rfl, ?_⟩))
      · exact congrArg (fun C => [C, rd (some ad) (splitP 44 t).length 1 (txts (splitP 44 t))]) (row_add _ _ _ _).symm
  · skip
    have hkl : k = (splitP 44 t).length := by have := of_decide_eq_false h2; omega
    rw [hkl, List.drop_length] at hst
    have hst : listP t = some a := by rw [hst]; simp [numsP]
    refine Cd.exit ?_
    refine Cd.seq ?_
    refine Cd.region ?_
    refine Ls.ev (some 33) (Ev.move (show Oper.op _ = Op.move (Operand.tmp 5) from rfl) (by rfl)) (by rfl) (by rfl) ?_
    refine Ls.ev (some 2) (Ev.assign (show Oper.op _ = Op.assign (Operand.tmp 33) from rfl) (by rfl)) (by rfl) (by rfl) ?_
    refine Ls.ev (some 3) (Ev.assign (show Oper.op _ = Op.assign (Operand.const (Value.bool true)) from rfl) (by rfl)) (by rfl) (by rfl) ?_
    refine Ls.nil ?_
    refine Cd.ret ?_
    refine Ent.ret ((q, a)) ((fun v hv => by rw [hst] at hv; exact (Option.some.inj hv).symm)) (Res.tmp2 (by rfl) (by rfl) (by rfl)) ?_ [0] (by rfl) ?_
    · rw [hst]
      rfl
    · rfl
theorem dput_a (z : StS) (w : List UInt8) (hw : w.length ≤ 1048576) : Fn Tryz.prog 31 #[.agg z.enc.toArray, .int .u8 97, .string (txt w)] [z.wC, z.wK] StS (fun z' => .tuple #[.agg z'.enc.toArray, .bool (readW z.p .a w).isSome]) (fun z' => [z'.wC, z'.wK]) (fun z' => ∀ v, readW z.p .a w = some v → v = z'.p) := by
  have hrd : readW z.p .a w = (numP w).map fun n => z.p.putN n .a := rfl
  rw [hrd]
  refine Fn.enter Tryz.func31 rfl Tryz.ntmps31 (by rfl) ?_
  intro w0
  refine Cd.seq ?_
  refine Cd.region ?_
  refine Ls.does (some 3) (Does.box (show Oper.op _ = Op.box 43 (Operand.tmp 0) from rfl) (by rfl)) (by rfl) (by rfl) ?_
  intro g1 _
  refine Ls.does (some 6) (Does.alloc (cs := [.int .i64 0, .int .i64 0, .int .i64 0, .int .i64 0, .int .i64 0, .int .i64 0, .int .i64 0, .int .i64 0, .int .i64 0, .int .i64 0, .slice none 0 0, .slice none 0 0]) (show Oper.op _ = Op.alloc 43 from rfl) (ZeroIs.mk (.agg #[.int .i64 0, .int .i64 0, .int .i64 0, .int .i64 0, .int .i64 0, .int .i64 0, .int .i64 0, .int .i64 0, .int .i64 0, .int .i64 0, .slice none 0 0, .slice none 0 0]) (by kernel_rfl) (by rfl))) (by rfl) (by rfl) ?_
  intro g2 _
  refine Ls.ev (some 7) (Ev.assign (show Oper.op _ = Op.assign (Operand.const (Value.bool false)) from rfl) (by rfl)) (by rfl) (by rfl) ?_
  refine Ls.nil ?_
  refine Cd.seq ?_
  refine Cd.region ?_
  refine Ls.ev (some 11) (Ev.move (show Oper.op _ = Op.move (Operand.tmp 2) from rfl) (by rfl)) (by rfl) (by rfl) ?_
  refine Ls.does (some 12) (Does.read (show Oper.op _ = Op.call { callee := Callee.value (Operand.func 58), args := #[Operand.tmp 11], argTypes := #[9] } from rfl) Tryz.func58 (by kernel_rfl) (by kernel_rfl) (dnumber_sl w hw) (by rfl) (by rfl) trivial) (by rfl) (by rfl) ?_
  rintro n hn
  refine Ls.ev (some 10) (Ev.move (show Oper.op _ = Op.move (Operand.tmp 12) from rfl) (by rfl)) (by rfl) (by rfl) ?_
  refine Ls.ev (some 13) (Ev.extract (show Oper.op _ = Op.extract (Operand.tmp 10) 0 from rfl) (by rfl) (by rfl)) (by rfl) (by rfl) ?_
  refine Ls.ev (some 14) (Ev.extract (show Oper.op _ = Op.extract (Operand.tmp 10) 1 from rfl) (by rfl) (by rfl)) (by rfl) (by rfl) ?_
  refine Ls.ev (some 8) (Ev.assign (show Oper.op _ = Op.assign (Operand.tmp 13) from rfl) (by rfl)) (by rfl) (by rfl) ?_
  refine Ls.ev (some 9) (Ev.assign (show Oper.op _ = Op.assign (Operand.tmp 14) from rfl) (by rfl)) (by rfl) (by rfl) ?_
  refine Ls.nil ?_
  refine Cd.seq ?_
  refine Cd.seq ?_
  refine Cd.region ?_
  refine Ls.ev (some 15) (Ev.move (show Oper.op _ = Op.move (Operand.tmp 1) from rfl) (by rfl)) (by rfl) (by rfl) ?_
  refine Ls.nil ?_
  refine Cd.block ?_
  refine Cd.seq ?_
  refine Cd.region ?_
  refine Ls.ev (some 26) (Ev.eql (show Oper.op _ = Op.binOp BinOp.eql 5 (Operand.tmp 15) (Operand.const (Value.int IntKind.u8 97)) 5 from rfl) (by rfl) (by rfl)) (by rfl) (by rfl) ?_
  refine Ls.ev (some 25) (Ev.assign (show Oper.op _ = Op.assign (Operand.tmp 26) from rfl) (by rfl)) (by rfl) (by rfl) ?_
  refine Ls.nil ?_
  refine Cd.cond_true (by rfl) (rfl) ?_
  refine Cd.region ?_
  refine Ls.ev (some 27) (Ev.move (show Oper.op _ = Op.move (Operand.tmp 8) from rfl) (by rfl)) (by rfl) (by rfl) ?_
  refine Ls.ev (some 28) (Ev.fieldAddr (k := 1) (show Oper.op _ = Op.fieldAddr 43 (Operand.tmp 3) 1 from rfl) (by rfl) (by kernel_rfl) (by rfl)) (by rfl) (by rfl) ?_
  refine Ls.does none (Does.store 1 (show Oper.op _ = Op.store 3 (Operand.tmp 28) (Operand.tmp 27) from rfl) (by rfl) (by rfl) (by rfl) (by kernel_rfl) (by rfl) (by kernel_rfl) (by rfl)) (by rfl) (by rfl) ?_
  intro _ _
  refine Ls.nil ?_
  refine Cd.seq ?_
  refine Cd.region ?_
  refine Ls.ev (some 69) (Ev.loads 1 (show Oper.op _ = Op.load 43 (Operand.tmp 3) from rfl) (by rfl) (by rfl) (n := 12) (by kernel_rfl) (by rfl) (by rfl)) (by rfl) (by rfl) ?_
  refine Ls.ev (some 70) (Ev.move (show Oper.op _ = Op.move (Operand.tmp 9) from rfl) (by rfl)) (by rfl) (by rfl) ?_
  refine Ls.does none (Does.store 0 (show Oper.op _ = Op.store 43 (Operand.tmp 6) (Operand.tmp 69) from rfl) (by rfl) (by rfl) (by rfl) (by kernel_rfl) (by rfl) (by kernel_rfl) (by rfl)) (by rfl) (by rfl) ?_
  intro _ _
  refine Ls.ev (some 7) (Ev.assign (show Oper.op _ = Op.assign (Operand.tmp 70) from rfl) (by rfl)) (by rfl) (by rfl) ?_
  refine Ls.nil ?_
  refine Cd.ret ?_
  refine Ent.ret (z.putN n .a) ((fun v hv => by obtain ⟨m, hm, rfl⟩ := Option.map_eq_some_iff.1 hv; rw [hn m hm]; rfl)) (Res.cell_tmp 0 (by rfl) (by rfl) (by rfl) (n := 12) (by kernel_rfl) (by rfl) (by rfl) (by rfl)) ?_ [2, 3] (by rfl) ?_
  · rw [Option.isSome_map]
    rfl
  · rfl
theorem dput_b (z : StS) (w : List UInt8) (hw : w.length ≤ 1048576) : Fn Tryz.prog 31 #[.agg z.enc.toArray, .int .u8 98, .string (txt w)] [z.wC, z.wK] StS (fun z' => .tuple #[.agg z'.enc.toArray, .bool (readW z.p .b w).isSome]) (fun z' => [z'.wC, z'.wK]) (fun z' => ∀ v, readW z.p .b w = some v → v = z'.p) := by
  have hrd : readW z.p .b w = (numP w).map fun n => z.p.putN n .b := rfl
  rw [hrd]
  refine Fn.enter Tryz.func31 rfl Tryz.ntmps31 (by rfl) ?_
  intro w0
  refine Cd.seq ?_
  refine Cd.region ?_
  refine Ls.does (some 3) (Does.box (show Oper.op _ = Op.box 43 (Operand.tmp 0) from rfl) (by rfl)) (by rfl) (by rfl) ?_
  intro g1 _
  refine Ls.does (some 6) (Does.alloc (cs := [.int .i64 0, .int .i64 0, .int .i64 0, .int .i64 0, .int .i64 0, .int .i64 0, .int .i64 0, .int .i64 0, .int .i64 0, .int .i64 0, .slice none 0 0, .slice none 0 0]) (show Oper.op _ = Op.alloc 43 from rfl) (ZeroIs.mk (.agg #[.int .i64 0, .int .i64 0, .int .i64 0, .int .i64 0, .int .i64 0, .int .i64 0, .int .i64 0, .int .i64 0, .int .i64 0, .int .i64 0, .slice none 0 0, .slice none 0 0]) (by kernel_rfl) (by rfl))) (by rfl) (by rfl) ?_
  intro g2 _
  refine Ls.ev (some 7) (Ev.assign (show Oper.op _ = Op.assign (Operand.const (Value.bool false)) from rfl) (by rfl)) (by rfl) (by rfl) ?_
  refine Ls.nil ?_
  refine Cd.seq ?_
  refine Cd.region ?_
  refine Ls.ev (some 11) (Ev.move (show Oper.op _ = Op.move (Operand.tmp 2) from rfl) (by rfl)) (by rfl) (by rfl) ?_
  refine Ls.does (some 12) (Does.read (show Oper.op _ = Op.call { callee := Callee.value (Operand.func 58), args := #[Operand.tmp 11], argTypes := #[9] } from rfl) Tryz.func58 (by kernel_rfl) (by kernel_rfl) (dnumber_sl w hw) (by rfl) (by rfl) trivial) (by rfl) (by rfl) ?_
  rintro n hn
  refine Ls.ev (some 10) (Ev.move (show Oper.op _ = Op.move (Operand.tmp 12) from rfl) (by rfl)) (by rfl) (by rfl) ?_
  refine Ls.ev (some 13) (Ev.extract (show Oper.op _ = Op.extract (Operand.tmp 10) 0 from rfl) (by rfl) (by rfl)) (by rfl) (by rfl) ?_
  refine Ls.ev (some 14) (Ev.extract (show Oper.op _ = Op.extract (Operand.tmp 10) 1 from rfl) (by rfl) (by rfl)) (by rfl) (by rfl) ?_
  refine Ls.ev (some 8) (Ev.assign (show Oper.op _ = Op.assign (Operand.tmp 13) from rfl) (by rfl)) (by rfl) (by rfl) ?_
  refine Ls.ev (some 9) (Ev.assign (show Oper.op _ = Op.assign (Operand.tmp 14) from rfl) (by rfl)) (by rfl) (by rfl) ?_
  refine Ls.nil ?_
  refine Cd.seq ?_
  refine Cd.seq ?_
  refine Cd.region ?_
  refine Ls.ev (some 15) (Ev.move (show Oper.op _ = Op.move (Operand.tmp 1) from rfl) (by rfl)) (by rfl) (by rfl) ?_
  refine Ls.nil ?_
  refine Cd.block ?_
  refine Cd.seq ?_
  refine Cd.region ?_
  refine Ls.ev (some 26) (Ev.eql (show Oper.op _ = Op.binOp BinOp.eql 5 (Operand.tmp 15) (Operand.const (Value.int IntKind.u8 97)) 5 from rfl) (by rfl) (by rfl)) (by rfl) (by rfl) ?_
  refine Ls.ev (some 25) (Ev.assign (show Oper.op _ = Op.assign (Operand.tmp 26) from rfl) (by rfl)) (by rfl) (by rfl) ?_
  refine Ls.nil ?_
  refine Cd.cond_false (by rfl) (rfl) ?_
  refine Cd.seq ?_
  refine Cd.region ?_
  refine Ls.ev (some 30) (Ev.eql (show Oper.op _ = Op.binOp BinOp.eql 5 (Operand.tmp 15) (Operand.const (Value.int IntKind.u8 98)) 5 from rfl) (by rfl) (by rfl)) (by rfl) (by rfl) ?_
  refine Ls.ev (some 29) (Ev.assign (show Oper.op _ = Op.assign (Operand.tmp 30) from rfl) (by rfl)) (by rfl) (by rfl) ?_
  refine Ls.nil ?_
  refine Cd.cond_true (by rfl) (rfl) ?_
  refine Cd.region ?_
  refine Ls.ev (some 31) (Ev.move (show Oper.op _ = Op.move (Operand.tmp 8) from rfl) (by rfl)) (by rfl) (by rfl) ?_
  refine Ls.ev (some 32) (Ev.fieldAddr (k := 2) (show Oper.op _ = Op.fieldAddr 43 (Operand.tmp 3) 2 from rfl) (by rfl) (by kernel_rfl) (by rfl)) (by rfl) (by rfl) ?_
  refine Ls.does none (Does.store 1 (show Oper.op _ = Op.store 3 (Operand.tmp 32) (Operand.tmp 31) from rfl) (by rfl) (by rfl) (by rfl) (by kernel_rfl) (by rfl) (by kernel_rfl) (by rfl)) (by rfl) (by rfl) ?_
  intro _ _
  refine Ls.nil ?_
  refine Cd.seq ?_
  refine Cd.region ?_
  refine Ls.ev (some 69) (Ev.loads 1 (show Oper.op _ = Op.load 43 (Operand.tmp 3) from rfl) (by rfl) (by rfl) (n := 12) (by kernel_rfl) (by rfl) (by rfl)) (by rfl) (by rfl) ?_
  refine Ls.ev (some 70) (Ev.move (show Oper.op _ = Op.move (Operand.tmp 9) from rfl) (by rfl)) (by rfl) (by rfl) ?_
  refine Ls.does none (Does.store 0 (show Oper.op _ = Op.store 43 (Operand.tmp 6) (Operand.tmp 69) from rfl) (by rfl) (by rfl) (by rfl) (by kernel_rfl) (by rfl) (by kernel_rfl) (by rfl)) (by rfl) (by rfl) ?_
  intro _ _
  refine Ls.ev (some 7) (Ev.assign (show Oper.op _ = Op.assign (Operand.tmp 70) from rfl) (by rfl)) (by rfl) (by rfl) ?_
  refine Ls.nil ?_
  refine Cd.ret ?_
  refine Ent.ret (z.putN n .b) ((fun v hv => by obtain ⟨m, hm, rfl⟩ := Option.map_eq_some_iff.1 hv; rw [hn m hm]; rfl)) (Res.cell_tmp 0 (by rfl) (by rfl) (by rfl) (n := 12) (by kernel_rfl) (by rfl) (by rfl) (by rfl)) ?_ [2, 3] (by rfl) ?_
  · rw [Option.isSome_map]
    rfl
  · rfl
theorem dput_c (z : StS) (w : List UInt8) (hw : w.length ≤ 1048576) : Fn Tryz.prog 31 #[.agg z.enc.toArray, .int .u8 99, .string (txt w)] [z.wC, z.wK] StS (fun z' => .tuple #[.agg z'.enc.toArray, .bool (readW z.p .c w).isSome]) (fun z' => [z'.wC, z'.wK]) (fun z' => ∀ v, readW z.p .c w = some v → v = z'.p) := by
  have hrd : readW z.p .c w = (numP w).map fun n => z.p.putN n .c := rfl
  rw [hrd]
  refine Fn.enter Tryz.func31 rfl Tryz.ntmps31 (by rfl) ?_
  intro w0
  refine Cd.seq ?_
  refine Cd.region ?_
  refine Ls.does (some 3) (Does.box (show Oper.op _ = Op.box 43 (Operand.tmp 0) from rfl) (by rfl)) (by rfl) (by rfl) ?_
  intro g1 _
  refine Ls.does (some 6) (Does.alloc (cs := [.int .i64 0, .int .i64 0, .int .i64 0, .int .i64 0, .int .i64 0, .int .i64 0, .int .i64 0, .int .i64 0, .int .i64 0, .int .i64 0, .slice none 0 0, .slice none 0 0]) (show Oper.op _ = Op.alloc 43 from rfl) (ZeroIs.mk (.agg #[.int .i64 0, .int .i64 0, .int .i64 0, .int .i64 0, .int .i64 0, .int .i64 0, .int .i64 0, .int .i64 0, .int .i64 0, .int .i64 0, .slice none 0 0, .slice none 0 0]) (by kernel_rfl) (by rfl))) (by rfl) (by rfl) ?_
  intro g2 _
  refine Ls.ev (some 7) (Ev.assign (show Oper.op _ = Op.assign (Operand.const (Value.bool false)) from rfl) (by rfl)) (by rfl) (by rfl) ?_
  refine Ls.nil ?_
  refine Cd.seq ?_
  refine Cd.region ?_
  refine Ls.ev (some 11) (Ev.move (show Oper.op _ = Op.move (Operand.tmp 2) from rfl) (by rfl)) (by rfl) (by rfl) ?_
  refine Ls.does (some 12) (Does.read (show Oper.op _ = Op.call { callee := Callee.value (Operand.func 58), args := #[Operand.tmp 11], argTypes := #[9] } from rfl) Tryz.func58 (by kernel_rfl) (by kernel_rfl) (dnumber_sl w hw) (by rfl) (by rfl) trivial) (by rfl) (by rfl) ?_
  rintro n hn
  refine Ls.ev (some 10) (Ev.move (show Oper.op _ = Op.move (Operand.tmp 12) from rfl) (by rfl)) (by rfl) (by rfl) ?_
  refine Ls.ev (some 13) (Ev.extract (show Oper.op _ = Op.extract (Operand.tmp 10) 0 from rfl) (by rfl) (by rfl)) (by rfl) (by rfl) ?_
  refine Ls.ev (some 14) (Ev.extract (show Oper.op _ = Op.extract (Operand.tmp 10) 1 from rfl) (by rfl) (by rfl)) (by rfl) (by rfl) ?_
  refine Ls.ev (some 8) (Ev.assign (show Oper.op _ = Op.assign (Operand.tmp 13) from rfl) (by rfl)) (by rfl) (by rfl) ?_
  refine Ls.ev (some 9) (Ev.assign (show Oper.op _ = Op.assign (Operand.tmp 14) from rfl) (by rfl)) (by rfl) (by rfl) ?_
  refine Ls.nil ?_
  refine Cd.seq ?_
  refine Cd.seq ?_
  refine Cd.region ?_
  refine Ls.ev (some 15) (Ev.move (show Oper.op _ = Op.move (Operand.tmp 1) from rfl) (by rfl)) (by rfl) (by rfl) ?_
  refine Ls.nil ?_
  refine Cd.block ?_
  refine Cd.seq ?_
  refine Cd.region ?_
  refine Ls.ev (some 26) (Ev.eql (show Oper.op _ = Op.binOp BinOp.eql 5 (Operand.tmp 15) (Operand.const (Value.int IntKind.u8 97)) 5 from rfl) (by rfl) (by rfl)) (by rfl) (by rfl) ?_
  refine Ls.ev (some 25) (Ev.assign (show Oper.op _ = Op.assign (Operand.tmp 26) from rfl) (by rfl)) (by rfl) (by rfl) ?_
  refine Ls.nil ?_
  refine Cd.cond_false (by rfl) (rfl) ?_
  refine Cd.seq ?_
  refine Cd.region ?_
  refine Ls.ev (some 30) (Ev.eql (show Oper.op _ = Op.binOp BinOp.eql 5 (Operand.tmp 15) (Operand.const (Value.int IntKind.u8 98)) 5 from rfl) (by rfl) (by rfl)) (by rfl) (by rfl) ?_
  refine Ls.ev (some 29) (Ev.assign (show Oper.op _ = Op.assign (Operand.tmp 30) from rfl) (by rfl)) (by rfl) (by rfl) ?_
  refine Ls.nil ?_
  refine Cd.cond_false (by rfl) (rfl) ?_
  refine Cd.seq ?_
  refine Cd.region ?_
  refine Ls.ev (some 34) (Ev.eql (show Oper.op _ = Op.binOp BinOp.eql 5 (Operand.tmp 15) (Operand.const (Value.int IntKind.u8 99)) 5 from rfl) (by rfl) (by rfl)) (by rfl) (by rfl) ?_
  refine Ls.ev (some 33) (Ev.assign (show Oper.op _ = Op.assign (Operand.tmp 34) from rfl) (by rfl)) (by rfl) (by rfl) ?_
  refine Ls.nil ?_
  refine Cd.cond_true (by rfl) (rfl) ?_
  refine Cd.region ?_
  refine Ls.ev (some 35) (Ev.move (show Oper.op _ = Op.move (Operand.tmp 8) from rfl) (by rfl)) (by rfl) (by rfl) ?_
  refine Ls.ev (some 36) (Ev.fieldAddr (k := 3) (show Oper.op _ = Op.fieldAddr 43 (Operand.tmp 3) 3 from rfl) (by rfl) (by kernel_rfl) (by rfl)) (by rfl) (by rfl) ?_
  refine Ls.does none (Does.store 1 (show Oper.op _ = Op.store 3 (Operand.tmp 36) (Operand.tmp 35) from rfl) (by rfl) (by rfl) (by rfl) (by kernel_rfl) (by rfl) (by kernel_rfl) (by rfl)) (by rfl) (by rfl) ?_
  intro _ _
  refine Ls.nil ?_
  refine Cd.seq ?_
  refine Cd.region ?_
  refine Ls.ev (some 69) (Ev.loads 1 (show Oper.op _ = Op.load 43 (Operand.tmp 3) from rfl) (by rfl) (by rfl) (n := 12) (by kernel_rfl) (by rfl) (by rfl)) (by rfl) (by rfl) ?_
  refine Ls.ev (some 70) (Ev.move (show Oper.op _ = Op.move (Operand.tmp 9) from rfl) (by rfl)) (by rfl) (by rfl) ?_
  refine Ls.does none (Does.store 0 (show Oper.op _ = Op.store 43 (Operand.tmp 6) (Operand.tmp 69) from rfl) (by rfl) (by rfl) (by rfl) (by kernel_rfl) (by rfl) (by kernel_rfl) (by rfl)) (by rfl) (by rfl) ?_
  intro _ _
  refine Ls.ev (some 7) (Ev.assign (show Oper.op _ = Op.assign (Operand.tmp 70) from rfl) (by rfl)) (by rfl) (by rfl) ?_
  refine Ls.nil ?_
  refine Cd.ret ?_
  refine Ent.ret (z.putN n .c) ((fun v hv => by obtain ⟨m, hm, rfl⟩ := Option.map_eq_some_iff.1 hv; rw [hn m hm]; rfl)) (Res.cell_tmp 0 (by rfl) (by rfl) (by rfl) (n := 12) (by kernel_rfl) (by rfl) (by rfl) (by rfl)) ?_ [2, 3] (by rfl) ?_
  · rw [Option.isSome_map]
    rfl
  · rfl
theorem dput_x (z : StS) (w : List UInt8) (hw : w.length ≤ 1048576) : Fn Tryz.prog 31 #[.agg z.enc.toArray, .int .u8 120, .string (txt w)] [z.wC, z.wK] StS (fun z' => .tuple #[.agg z'.enc.toArray, .bool (readW z.p .x w).isSome]) (fun z' => [z'.wC, z'.wK]) (fun z' => ∀ v, readW z.p .x w = some v → v = z'.p) := by
  have hrd : readW z.p .x w = (numP w).map fun n => z.p.putN n .x := rfl
  rw [hrd]
  refine Fn.enter Tryz.func31 rfl Tryz.ntmps31 (by rfl) ?_
  intro w0
  refine Cd.seq ?_
  refine Cd.region ?_
  refine Ls.does (some 3) (Does.box (show Oper.op _ = Op.box 43 (Operand.tmp 0) from rfl) (by rfl)) (by rfl) (by rfl) ?_
  intro g1 _
  refine Ls.does (some 6) (Does.alloc (cs := [.int .i64 0, .int .i64 0, .int .i64 0, .int .i64 0, .int .i64 0, .int .i64 0, .int .i64 0, .int .i64 0, .int .i64 0, .int .i64 0, .slice none 0 0, .slice none 0 0]) (show Oper.op _ = Op.alloc 43 from rfl) (ZeroIs.mk (.agg #[.int .i64 0, .int .i64 0, .int .i64 0, .int .i64 0, .int .i64 0, .int .i64 0, .int .i64 0, .int .i64 0, .int .i64 0, .int .i64 0, .slice none 0 0, .slice none 0 0]) (by kernel_rfl) (by rfl))) (by rfl) (by rfl) ?_
  intro g2 _
  refine Ls.ev (some 7) (Ev.assign (show Oper.op _ = Op.assign (Operand.const (Value.bool false)) from rfl) (by rfl)) (by rfl) (by rfl) ?_
  refine Ls.nil ?_
  refine Cd.seq ?_
  refine Cd.region ?_
  refine Ls.ev (some 11) (Ev.move (show Oper.op _ = Op.move (Operand.tmp 2) from rfl) (by rfl)) (by rfl) (by rfl) ?_
  refine Ls.does (some 12) (Does.read (show Oper.op _ = Op.call { callee := Callee.value (Operand.func 58), args := #[Operand.tmp 11], argTypes := #[9] } from rfl) Tryz.func58 (by kernel_rfl) (by kernel_rfl) (dnumber_sl w hw) (by rfl) (by rfl) trivial) (by rfl) (by rfl) ?_
  rintro n hn
  refine Ls.ev (some 10) (Ev.move (show Oper.op _ = Op.move (Operand.tmp 12) from rfl) (by rfl)) (by rfl) (by rfl) ?_
  refine Ls.ev (some 13) (Ev.extract (show Oper.op _ = Op.extract (Operand.tmp 10) 0 from rfl) (by rfl) (by rfl)) (by rfl) (by rfl) ?_
  refine Ls.ev (some 14) (Ev.extract (show Oper.op _ = Op.extract (Operand.tmp 10) 1 from rfl) (by rfl) (by rfl)) (by rfl) (by rfl) ?_
  refine Ls.ev (some 8) (Ev.assign (show Oper.op _ = Op.assign (Operand.tmp 13) from rfl) (by rfl)) (by rfl) (by rfl) ?_
  refine Ls.ev (some 9) (Ev.assign (show Oper.op _ = Op.assign (Operand.tmp 14) from rfl) (by rfl)) (by rfl) (by rfl) ?_
  refine Ls.nil ?_
  refine Cd.seq ?_
  refine Cd.seq ?_
  refine Cd.region ?_
  refine Ls.ev (some 15) (Ev.move (show Oper.op _ = Op.move (Operand.tmp 1) from rfl) (by rfl)) (by rfl) (by rfl) ?_
  refine Ls.nil ?_
  refine Cd.block ?_
  refine Cd.seq ?_
  refine Cd.region ?_
  refine Ls.ev (some 26) (Ev.eql (show Oper.op _ = Op.binOp BinOp.eql 5 (Operand.tmp 15) (Operand.const (Value.int IntKind.u8 97)) 5 from rfl) (by rfl) (by rfl)) (by rfl) (by rfl) ?_
  refine Ls.ev (some 25) (Ev.assign (show Oper.op _ = Op.assign (Operand.tmp 26) from rfl) (by rfl)) (by rfl) (by rfl) ?_
  refine Ls.nil ?_
  refine Cd.cond_false (by rfl) (rfl) ?_
  refine Cd.seq ?_
  refine Cd.region ?_
  refine Ls.ev (some 30) (Ev.eql (show Oper.op _ = Op.binOp BinOp.eql 5 (Operand.tmp 15) (Operand.const (Value.int IntKind.u8 98)) 5 from rfl) (by rfl) (by rfl)) (by rfl) (by rfl) ?_
  refine Ls.ev (some 29) (Ev.assign (show Oper.op _ = Op.assign (Operand.tmp 30) from rfl) (by rfl)) (by rfl) (by rfl) ?_
  refine Ls.nil ?_
  refine Cd.cond_false (by rfl) (rfl) ?_
  refine Cd.seq ?_
  refine Cd.region ?_
  refine Ls.ev (some 34) (Ev.eql (show Oper.op _ = Op.binOp BinOp.eql 5 (Operand.tmp 15) (Operand.const (Value.int IntKind.u8 99)) 5 from rfl) (by rfl) (by rfl)) (by rfl) (by rfl) ?_
  refine Ls.ev (some 33) (Ev.assign (show Oper.op _ = Op.assign (Operand.tmp 34) from rfl) (by rfl)) (by rfl) (by rfl) ?_
  refine Ls.nil ?_
  refine Cd.cond_false (by rfl) (rfl) ?_
  refine Cd.seq ?_
  refine Cd.region ?_
  refine Ls.ev (some 38) (Ev.eql (show Oper.op _ = Op.binOp BinOp.eql 5 (Operand.tmp 15) (Operand.const (Value.int IntKind.u8 120)) 5 from rfl) (by rfl) (by rfl)) (by rfl) (by rfl) ?_
  refine Ls.ev (some 37) (Ev.assign (show Oper.op _ = Op.assign (Operand.tmp 38) from rfl) (by rfl)) (by rfl) (by rfl) ?_
  refine Ls.nil ?_
  refine Cd.cond_true (by rfl) (rfl) ?_
  refine Cd.region ?_
  refine Ls.ev (some 39) (Ev.move (show Oper.op _ = Op.move (Operand.tmp 8) from rfl) (by rfl)) (by rfl) (by rfl) ?_
  refine Ls.ev (some 40) (Ev.fieldAddr (k := 4) (show Oper.op _ = Op.fieldAddr 43 (Operand.tmp 3) 4 from rfl) (by rfl) (by kernel_rfl) (by rfl)) (by rfl) (by rfl) ?_
  refine Ls.ev (some 41) (Ev.fieldAddr (k := 1) (show Oper.op _ = Op.fieldAddr 41 (Operand.tmp 40) 1 from rfl) (by rfl) (by kernel_rfl) (by rfl)) (by rfl) (by rfl) ?_
  refine Ls.does none (Does.store 1 (show Oper.op _ = Op.store 3 (Operand.tmp 41) (Operand.tmp 39) from rfl) (by rfl) (by rfl) (by rfl) (by kernel_rfl) (by rfl) (by kernel_rfl) (by rfl)) (by rfl) (by rfl) ?_
  intro _ _
  refine Ls.nil ?_
  refine Cd.seq ?_
  refine Cd.region ?_
  refine Ls.ev (some 69) (Ev.loads 1 (show Oper.op _ = Op.load 43 (Operand.tmp 3) from rfl) (by rfl) (by rfl) (n := 12) (by kernel_rfl) (by rfl) (by rfl)) (by rfl) (by rfl) ?_
  refine Ls.ev (some 70) (Ev.move (show Oper.op _ = Op.move (Operand.tmp 9) from rfl) (by rfl)) (by rfl) (by rfl) ?_
  refine Ls.does none (Does.store 0 (show Oper.op _ = Op.store 43 (Operand.tmp 6) (Operand.tmp 69) from rfl) (by rfl) (by rfl) (by rfl) (by kernel_rfl) (by rfl) (by kernel_rfl) (by rfl)) (by rfl) (by rfl) ?_
  intro _ _
  refine Ls.ev (some 7) (Ev.assign (show Oper.op _ = Op.assign (Operand.tmp 70) from rfl) (by rfl)) (by rfl) (by rfl) ?_
  refine Ls.nil ?_
  refine Cd.ret ?_
  refine Ent.ret (z.putN n .x) ((fun v hv => by obtain ⟨m, hm, rfl⟩ := Option.map_eq_some_iff.1 hv; rw [hn m hm]; rfl)) (Res.cell_tmp 0 (by rfl) (by rfl) (by rfl) (n := 12) (by kernel_rfl) (by rfl) (by rfl) (by rfl)) ?_ [2, 3] (by rfl) ?_
  · rw [Option.isSome_map]
    rfl
  · rfl
theorem dput_y (z : StS) (w : List UInt8) (hw : w.length ≤ 1048576) : Fn Tryz.prog 31 #[.agg z.enc.toArray, .int .u8 121, .string (txt w)] [z.wC, z.wK] StS (fun z' => .tuple #[.agg z'.enc.toArray, .bool (readW z.p .y w).isSome]) (fun z' => [z'.wC, z'.wK]) (fun z' => ∀ v, readW z.p .y w = some v → v = z'.p) := by
  have hrd : readW z.p .y w = (numP w).map fun n => z.p.putN n .y := rfl
  rw [hrd]
  refine Fn.enter Tryz.func31 rfl Tryz.ntmps31 (by rfl) ?_
  intro w0
  refine Cd.seq ?_
  refine Cd.region ?_
  refine Ls.does (some 3) (Does.box (show Oper.op _ = Op.box 43 (Operand.tmp 0) from rfl) (by rfl)) (by rfl) (by rfl) ?_
  intro g1 _
  refine Ls.does (some 6) (Does.alloc (cs := [.int .i64 0, .int .i64 0, .int .i64 0, .int .i64 0, .int .i64 0, .int .i64 0, .int .i64 0, .int .i64 0, .int .i64 0, .int .i64 0, .slice none 0 0, .slice none 0 0]) (show Oper.op _ = Op.alloc 43 from rfl) (ZeroIs.mk (.agg #[.int .i64 0, .int .i64 0, .int .i64 0, .int .i64 0, .int .i64 0, .int .i64 0, .int .i64 0, .int .i64 0, .int .i64 0, .int .i64 0, .slice none 0 0, .slice none 0 0]) (by kernel_rfl) (by rfl))) (by rfl) (by rfl) ?_
  intro g2 _
  refine Ls.ev (some 7) (Ev.assign (show Oper.op _ = Op.assign (Operand.const (Value.bool false)) from rfl) (by rfl)) (by rfl) (by rfl) ?_
  refine Ls.nil ?_
  refine Cd.seq ?_
  refine Cd.region ?_
  refine Ls.ev (some 11) (Ev.move (show Oper.op _ = Op.move (Operand.tmp 2) from rfl) (by rfl)) (by rfl) (by rfl) ?_
  refine Ls.does (some 12) (Does.read (show Oper.op _ = Op.call { callee := Callee.value (Operand.func 58), args := #[Operand.tmp 11], argTypes := #[9] } from rfl) Tryz.func58 (by kernel_rfl) (by kernel_rfl) (dnumber_sl w hw) (by rfl) (by rfl) trivial) (by rfl) (by rfl) ?_
  rintro n hn
  refine Ls.ev (some 10) (Ev.move (show Oper.op _ = Op.move (Operand.tmp 12) from rfl) (by rfl)) (by rfl) (by rfl) ?_
  refine Ls.ev (some 13) (Ev.extract (show Oper.op _ = Op.extract (Operand.tmp 10) 0 from rfl) (by rfl) (by rfl)) (by rfl) (by rfl) ?_
  refine Ls.ev (some 14) (Ev.extract (show Oper.op _ = Op.extract (Operand.tmp 10) 1 from rfl) (by rfl) (by rfl)) (by rfl) (by rfl) ?_
  refine Ls.ev (some 8) (Ev.assign (show Oper.op _ = Op.assign (Operand.tmp 13) from rfl) (by rfl)) (by rfl) (by rfl) ?_
  refine Ls.ev (some 9) (Ev.assign (show Oper.op _ = Op.assign (Operand.tmp 14) from rfl) (by rfl)) (by rfl) (by rfl) ?_
  refine Ls.nil ?_
  refine Cd.seq ?_
  refine Cd.seq ?_
  refine Cd.region ?_
  refine Ls.ev (some 15) (Ev.move (show Oper.op _ = Op.move (Operand.tmp 1) from rfl) (by rfl)) (by rfl) (by rfl) ?_
  refine Ls.nil ?_
  refine Cd.block ?_
  refine Cd.seq ?_
  refine Cd.region ?_
  refine Ls.ev (some 26) (Ev.eql (show Oper.op _ = Op.binOp BinOp.eql 5 (Operand.tmp 15) (Operand.const (Value.int IntKind.u8 97)) 5 from rfl) (by rfl) (by rfl)) (by rfl) (by rfl) ?_
  refine Ls.ev (some 25) (Ev.assign (show Oper.op _ = Op.assign (Operand.tmp 26) from rfl) (by rfl)) (by rfl) (by rfl) ?_
  refine Ls.nil ?_
  refine Cd.cond_false (by rfl) (rfl) ?_
  refine Cd.seq ?_
  refine Cd.region ?_
  refine Ls.ev (some 30) (Ev.eql (show Oper.op _ = Op.binOp BinOp.eql 5 (Operand.tmp 15) (Operand.const (Value.int IntKind.u8 98)) 5 from rfl) (by rfl) (by rfl)) (by rfl) (by rfl) ?_
  refine Ls.ev (some 29) (Ev.assign (show Oper.op _ = Op.assign (Operand.tmp 30) from rfl) (by rfl)) (by rfl) (by rfl) ?_
  refine Ls.nil ?_
  refine Cd.cond_false (by rfl) (rfl) ?_
  refine Cd.seq ?_
  refine Cd.region ?_
  refine Ls.ev (some 34) (Ev.eql (show Oper.op _ = Op.binOp BinOp.eql 5 (Operand.tmp 15) (Operand.const (Value.int IntKind.u8 99)) 5 from rfl) (by rfl) (by rfl)) (by rfl) (by rfl) ?_
  refine Ls.ev (some 33) (Ev.assign (show Oper.op _ = Op.assign (Operand.tmp 34) from rfl) (by rfl)) (by rfl) (by rfl) ?_
  refine Ls.nil ?_
  refine Cd.cond_false (by rfl) (rfl) ?_
  refine Cd.seq ?_
  refine Cd.region ?_
  refine Ls.ev (some 38) (Ev.eql (show Oper.op _ = Op.binOp BinOp.eql 5 (Operand.tmp 15) (Operand.const (Value.int IntKind.u8 120)) 5 from rfl) (by rfl) (by rfl)) (by rfl) (by rfl) ?_
  refine Ls.ev (some 37) (Ev.assign (show Oper.op _ = Op.assign (Operand.tmp 38) from rfl) (by rfl)) (by rfl) (by rfl) ?_
  refine Ls.nil ?_
  refine Cd.cond_false (by rfl) (rfl) ?_
  refine Cd.seq ?_
  refine Cd.region ?_
  refine Ls.ev (some 43) (Ev.eql (show Oper.op _ = Op.binOp BinOp.eql 5 (Operand.tmp 15) (Operand.const (Value.int IntKind.u8 121)) 5 from rfl) (by rfl) (by rfl)) (by rfl) (by rfl) ?_
  refine Ls.ev (some 42) (Ev.assign (show Oper.op _ = Op.assign (Operand.tmp 43) from rfl) (by rfl)) (by rfl) (by rfl) ?_
  refine Ls.nil ?_
  refine Cd.cond_true (by rfl) (rfl) ?_
  refine Cd.region ?_
  refine Ls.ev (some 44) (Ev.move (show Oper.op _ = Op.move (Operand.tmp 8) from rfl) (by rfl)) (by rfl) (by rfl) ?_
  refine Ls.ev (some 45) (Ev.fieldAddr (k := 4) (show Oper.op _ = Op.fieldAddr 43 (Operand.tmp 3) 4 from rfl) (by rfl) (by kernel_rfl) (by rfl)) (by rfl) (by rfl) ?_
  refine Ls.ev (some 46) (Ev.fieldAddr (k := 2) (show Oper.op _ = Op.fieldAddr 41 (Operand.tmp 45) 2 from rfl) (by rfl) (by kernel_rfl) (by rfl)) (by rfl) (by rfl) ?_
  refine Ls.does none (Does.store 1 (show Oper.op _ = Op.store 3 (Operand.tmp 46) (Operand.tmp 44) from rfl) (by rfl) (by rfl) (by rfl) (by kernel_rfl) (by rfl) (by kernel_rfl) (by rfl)) (by rfl) (by rfl) ?_
  intro _ _
  refine Ls.nil ?_
  refine Cd.seq ?_
  refine Cd.region ?_
  refine Ls.ev (some 69) (Ev.loads 1 (show Oper.op _ = Op.load 43 (Operand.tmp 3) from rfl) (by rfl) (by rfl) (n := 12) (by kernel_rfl) (by rfl) (by rfl)) (by rfl) (by rfl) ?_
  refine Ls.ev (some 70) (Ev.move (show Oper.op _ = Op.move (Operand.tmp 9) from rfl) (by rfl)) (by rfl) (by rfl) ?_
  refine Ls.does none (Does.store 0 (show Oper.op _ = Op.store 43 (Operand.tmp 6) (Operand.tmp 69) from rfl) (by rfl) (by rfl) (by rfl) (by kernel_rfl) (by rfl) (by kernel_rfl) (by rfl)) (by rfl) (by rfl) ?_
  intro _ _
  refine Ls.ev (some 7) (Ev.assign (show Oper.op _ = Op.assign (Operand.tmp 70) from rfl) (by rfl)) (by rfl) (by rfl) ?_
  refine Ls.nil ?_
  refine Cd.ret ?_
  refine Ent.ret (z.putN n .y) ((fun v hv => by obtain ⟨m, hm, rfl⟩ := Option.map_eq_some_iff.1 hv; rw [hn m hm]; rfl)) (Res.cell_tmp 0 (by rfl) (by rfl) (by rfl) (n := 12) (by kernel_rfl) (by rfl) (by rfl) (by rfl)) ?_ [2, 3] (by rfl) ?_
  · rw [Option.isSome_map]
    rfl
  · rfl
theorem dput_e (z : StS) (w : List UInt8) (hw : w.length ≤ 1048576) : Fn Tryz.prog 31 #[.agg z.enc.toArray, .int .u8 101, .string (txt w)] [z.wC, z.wK] StS (fun z' => .tuple #[.agg z'.enc.toArray, .bool (readW z.p .e w).isSome]) (fun z' => [z'.wC, z'.wK]) (fun z' => ∀ v, readW z.p .e w = some v → v = z'.p) := by
  have hrd : readW z.p .e w = (numP w).map fun n => z.p.putN n .e := rfl
  rw [hrd]
  refine Fn.enter Tryz.func31 rfl Tryz.ntmps31 (by rfl) ?_
  intro w0
  refine Cd.seq ?_
  refine Cd.region ?_
  refine Ls.does (some 3) (Does.box (show Oper.op _ = Op.box 43 (Operand.tmp 0) from rfl) (by rfl)) (by rfl) (by rfl) ?_
  intro g1 _
  refine Ls.does (some 6) (Does.alloc (cs := [.int .i64 0, .int .i64 0, .int .i64 0, .int .i64 0, .int .i64 0, .int .i64 0, .int .i64 0, .int .i64 0, .int .i64 0, .int .i64 0, .slice none 0 0, .slice none 0 0]) (show Oper.op _ = Op.alloc 43 from rfl) (ZeroIs.mk (.agg #[.int .i64 0, .int .i64 0, .int .i64 0, .int .i64 0, .int .i64 0, .int .i64 0, .int .i64 0, .int .i64 0, .int .i64 0, .int .i64 0, .slice none 0 0, .slice none 0 0]) (by kernel_rfl) (by rfl))) (by rfl) (by rfl) ?_
  intro g2 _
  refine Ls.ev (some 7) (Ev.assign (show Oper.op _ = Op.assign (Operand.const (Value.bool false)) from rfl) (by rfl)) (by rfl) (by rfl) ?_
  refine Ls.nil ?_
  refine Cd.seq ?_
  refine Cd.region ?_
  refine Ls.ev (some 11) (Ev.move (show Oper.op _ = Op.move (Operand.tmp 2) from rfl) (by rfl)) (by rfl) (by rfl) ?_
  refine Ls.does (some 12) (Does.read (show Oper.op _ = Op.call { callee := Callee.value (Operand.func 58), args := #[Operand.tmp 11], argTypes := #[9] } from rfl) Tryz.func58 (by kernel_rfl) (by kernel_rfl) (dnumber_sl w hw) (by rfl) (by rfl) trivial) (by rfl) (by rfl) ?_
  rintro n hn
  refine Ls.ev (some 10) (Ev.move (show Oper.op _ = Op.move (Operand.tmp 12) from rfl) (by rfl)) (by rfl) (by rfl) ?_
  refine Ls.ev (some 13) (Ev.extract (show Oper.op _ = Op.extract (Operand.tmp 10) 0 from rfl) (by rfl) (by rfl)) (by rfl) (by rfl) ?_
  refine Ls.ev (some 14) (Ev.extract (show Oper.op _ = Op.extract (Operand.tmp 10) 1 from rfl) (by rfl) (by rfl)) (by rfl) (by rfl) ?_
  refine Ls.ev (some 8) (Ev.assign (show Oper.op _ = Op.assign (Operand.tmp 13) from rfl) (by rfl)) (by rfl) (by rfl) ?_
  refine Ls.ev (some 9) (Ev.assign (show Oper.op _ = Op.assign (Operand.tmp 14) from rfl) (by rfl)) (by rfl) (by rfl) ?_
  refine Ls.nil ?_
  refine Cd.seq ?_
  refine Cd.seq ?_
  refine Cd.region ?_
  refine Ls.ev (some 15) (Ev.move (show Oper.op _ = Op.move (Operand.tmp 1) from rfl) (by rfl)) (by rfl) (by rfl) ?_
  refine Ls.nil ?_
  refine Cd.block ?_
  refine Cd.seq ?_
  refine Cd.region ?_
  refine Ls.ev (some 26) (Ev.eql (show Oper.op _ = Op.binOp BinOp.eql 5 (Operand.tmp 15) (Operand.const (Value.int IntKind.u8 97)) 5 from rfl) (by rfl) (by rfl)) (by rfl) (by rfl) ?_
  refine Ls.ev (some 25) (Ev.assign (show Oper.op _ = Op.assign (Operand.tmp 26) from rfl) (by rfl)) (by rfl) (by rfl) ?_
  refine Ls.nil ?_
  refine Cd.cond_false (by rfl) (rfl) ?_
  refine Cd.seq ?_
  refine Cd.region ?_
  refine Ls.ev (some 30) (Ev.eql (show Oper.op _ = Op.binOp BinOp.eql 5 (Operand.tmp 15) (Operand.const (Value.int IntKind.u8 98)) 5 from rfl) (by rfl) (by rfl)) (by rfl) (by rfl) ?_
  refine Ls.ev (some 29) (Ev.assign (show Oper.op _ = Op.assign (Operand.tmp 30) from rfl) (by rfl)) (by rfl) (by rfl) ?_
  refine Ls.nil ?_
  refine Cd.cond_false (by rfl) (rfl) ?_
  refine Cd.seq ?_
  refine Cd.region ?_
  refine Ls.ev (some 34) (Ev.eql (show Oper.op _ = Op.binOp BinOp.eql 5 (Operand.tmp 15) (Operand.const (Value.int IntKind.u8 99)) 5 from rfl) (by rfl) (by rfl)) (by rfl) (by rfl) ?_
  refine Ls.ev (some 33) (Ev.assign (show Oper.op _ = Op.assign (Operand.tmp 34) from rfl) (by rfl)) (by rfl) (by rfl) ?_
  refine Ls.nil ?_
  refine Cd.cond_false (by rfl) (rfl) ?_
  refine Cd.seq ?_
  refine Cd.region ?_
  refine Ls.ev (some 38) (Ev.eql (show Oper.op _ = Op.binOp BinOp.eql 5 (Operand.tmp 15) (Operand.const (Value.int IntKind.u8 120)) 5 from rfl) (by rfl) (by rfl)) (by rfl) (by rfl) ?_
  refine Ls.ev (some 37) (Ev.assign (show Oper.op _ = Op.assign (Operand.tmp 38) from rfl) (by rfl)) (by rfl) (by rfl) ?_
  refine Ls.nil ?_
  refine Cd.cond_false (by rfl) (rfl) ?_
  refine Cd.seq ?_
  refine Cd.region ?_
  refine Ls.ev (some 43) (Ev.eql (show Oper.op _ = Op.binOp BinOp.eql 5 (Operand.tmp 15) (Operand.const (Value.int IntKind.u8 121)) 5 from rfl) (by rfl) (by rfl)) (by rfl) (by rfl) ?_
  refine Ls.ev (some 42) (Ev.assign (show Oper.op _ = Op.assign (Operand.tmp 43) from rfl) (by rfl)) (by rfl) (by rfl) ?_
  refine Ls.nil ?_
  refine Cd.cond_false (by rfl) (rfl) ?_
  refine Cd.seq ?_
  refine Cd.region ?_
  refine Ls.ev (some 48) (Ev.eql (show Oper.op _ = Op.binOp BinOp.eql 5 (Operand.tmp 15) (Operand.const (Value.int IntKind.u8 101)) 5 from rfl) (by rfl) (by rfl)) (by rfl) (by rfl) ?_
  refine Ls.ev (some 47) (Ev.assign (show Oper.op _ = Op.assign (Operand.tmp 48) from rfl) (by rfl)) (by rfl) (by rfl) ?_
  refine Ls.nil ?_
  refine Cd.cond_true (by rfl) (rfl) ?_
  refine Cd.region ?_
  refine Ls.ev (some 49) (Ev.move (show Oper.op _ = Op.move (Operand.tmp 8) from rfl) (by rfl)) (by rfl) (by rfl) ?_
  refine Ls.ev (some 50) (Ev.fieldAddr (k := 4) (show Oper.op _ = Op.fieldAddr 43 (Operand.tmp 3) 4 from rfl) (by rfl) (by kernel_rfl) (by rfl)) (by rfl) (by rfl) ?_
  refine Ls.ev (some 51) (Ev.fieldAddr (k := 3) (show Oper.op _ = Op.fieldAddr 41 (Operand.tmp 50) 3 from rfl) (by rfl) (by kernel_rfl) (by rfl)) (by rfl) (by rfl) ?_
  refine Ls.ev (some 52) (Ev.fieldAddr (k := 1) (show Oper.op _ = Op.fieldAddr 39 (Operand.tmp 51) 1 from rfl) (by rfl) (by kernel_rfl) (by rfl)) (by rfl) (by rfl) ?_
  refine Ls.does none (Does.store 1 (show Oper.op _ = Op.store 3 (Operand.tmp 52) (Operand.tmp 49) from rfl) (by rfl) (by rfl) (by rfl) (by kernel_rfl) (by rfl) (by kernel_rfl) (by rfl)) (by rfl) (by rfl) ?_
  intro _ _
  refine Ls.nil ?_
  refine Cd.seq ?_
  refine Cd.region ?_
  refine Ls.ev (some 69) (Ev.loads 1 (show Oper.op _ = Op.load 43 (Operand.tmp 3) from rfl) (by rfl) (by rfl) (n := 12) (by kernel_rfl) (by rfl) (by rfl)) (by rfl) (by rfl) ?_
  refine Ls.ev (some 70) (Ev.move (show Oper.op _ = Op.move (Operand.tmp 9) from rfl) (by rfl)) (by rfl) (by rfl) ?_
  refine Ls.does none (Does.store 0 (show Oper.op _ = Op.store 43 (Operand.tmp 6) (Operand.tmp 69) from rfl) (by rfl) (by rfl) (by rfl) (by kernel_rfl) (by rfl) (by kernel_rfl) (by rfl)) (by rfl) (by rfl) ?_
  intro _ _
  refine Ls.ev (some 7) (Ev.assign (show Oper.op _ = Op.assign (Operand.tmp 70) from rfl) (by rfl)) (by rfl) (by rfl) ?_
  refine Ls.nil ?_
  refine Cd.ret ?_
  refine Ent.ret (z.putN n .e) ((fun v hv => by obtain ⟨m, hm, rfl⟩ := Option.map_eq_some_iff.1 hv; rw [hn m hm]; rfl)) (Res.cell_tmp 0 (by rfl) (by rfl) (by rfl) (n := 12) (by kernel_rfl) (by rfl) (by rfl) (by rfl)) ?_ [2, 3] (by rfl) ?_
  · rw [Option.isSome_map]
    rfl
  · rfl
theorem dput_s (z : StS) (w : List UInt8) (hw : w.length ≤ 1048576) : Fn Tryz.prog 31 #[.agg z.enc.toArray, .int .u8 115, .string (txt w)] [z.wC, z.wK] StS (fun z' => .tuple #[.agg z'.enc.toArray, .bool (readW z.p .s w).isSome]) (fun z' => [z'.wC, z'.wK]) (fun z' => ∀ v, readW z.p .s w = some v → v = z'.p) := by
  have hrd : readW z.p .s w = (numP w).map fun n => z.p.putN n .s := rfl
  rw [hrd]
  refine Fn.enter Tryz.func31 rfl Tryz.ntmps31 (by rfl) ?_
  intro w0
  refine Cd.seq ?_
  refine Cd.region ?_
  refine Ls.does (some 3) (Does.box (show Oper.op _ = Op.box 43 (Operand.tmp 0) from rfl) (by rfl)) (by rfl) (by rfl) ?_
  intro g1 _
  refine Ls.does (some 6) (Does.alloc (cs := [.int .i64 0, .int .i64 0, .int .i64 0, .int .i64 0, .int .i64 0, .int .i64 0, .int .i64 0, .int .i64 0, .int .i64 0, .int .i64 0, .slice none 0 0, .slice none 0 0]) (show Oper.op _ = Op.alloc 43 from rfl) (ZeroIs.mk (.agg #[.int .i64 0, .int .i64 0, .int .i64 0, .int .i64 0, .int .i64 0, .int .i64 0, .int .i64 0, .int .i64 0, .int .i64 0, .int .i64 0, .slice none 0 0, .slice none 0 0]) (by kernel_rfl) (by rfl))) (by rfl) (by rfl) ?_
  intro g2 _
  refine Ls.ev (some 7) (Ev.assign (show Oper.op _ = Op.assign (Operand.const (Value.bool false)) from rfl) (by rfl)) (by rfl) (by rfl) ?_
  refine Ls.nil ?_
  refine Cd.seq ?_
  refine Cd.region ?_
  refine Ls.ev (some 11) (Ev.move (show Oper.op _ = Op.move (Operand.tmp 2) from rfl) (by rfl)) (by rfl) (by rfl) ?_
  refine Ls.does (some 12) (Does.read (show Oper.op _ = Op.call { callee := Callee.value (Operand.func 58), args := #[Operand.tmp 11], argTypes := #[9] } from rfl) Tryz.func58 (by kernel_rfl) (by kernel_rfl) (dnumber_sl w hw) (by rfl) (by rfl) trivial) (by rfl) (by rfl) ?_
  rintro n hn
  refine Ls.ev (some 10) (Ev.move (show Oper.op _ = Op.move (Operand.tmp 12) from rfl) (by rfl)) (by rfl) (by rfl) ?_
  refine Ls.ev (some 13) (Ev.extract (show Oper.op _ = Op.extract (Operand.tmp 10) 0 from rfl) (by rfl) (by rfl)) (by rfl) (by rfl) ?_
  refine Ls.ev (some 14) (Ev.extract (show Oper.op _ = Op.extract (Operand.tmp 10) 1 from rfl) (by rfl) (by rfl)) (by rfl) (by rfl) ?_
  refine Ls.ev (some 8) (Ev.assign (show Oper.op _ = Op.assign (Operand.tmp 13) from rfl) (by rfl)) (by rfl) (by rfl) ?_
  refine Ls.ev (some 9) (Ev.assign (show Oper.op _ = Op.assign (Operand.tmp 14) from rfl) (by rfl)) (by rfl) (by rfl) ?_
  refine Ls.nil ?_
  refine Cd.seq ?_
  refine Cd.seq ?_
  refine Cd.region ?_
  refine Ls.ev (some 15) (Ev.move (show Oper.op _ = Op.move (Operand.tmp 1) from rfl) (by rfl)) (by rfl) (by rfl) ?_
  refine Ls.nil ?_
  refine Cd.block ?_
  refine Cd.seq ?_
  refine Cd.region ?_
  refine Ls.ev (some 26) (Ev.eql (show Oper.op _ = Op.binOp BinOp.eql 5 (Operand.tmp 15) (Operand.const (Value.int IntKind.u8 97)) 5 from rfl) (by rfl) (by rfl)) (by rfl) (by rfl) ?_
  refine Ls.ev (some 25) (Ev.assign (show Oper.op _ = Op.assign (Operand.tmp 26) from rfl) (by rfl)) (by rfl) (by rfl) ?_
  refine Ls.nil ?_
  refine Cd.cond_false (by rfl) (rfl) ?_
  refine Cd.seq ?_
  refine Cd.region ?_
  refine Ls.ev (some 30) (Ev.eql (show Oper.op _ = Op.binOp BinOp.eql 5 (Operand.tmp 15) (Operand.const (Value.int IntKind.u8 98)) 5 from rfl) (by rfl) (by rfl)) (by rfl) (by rfl) ?_
  refine Ls.ev (some 29) (Ev.assign (show Oper.op _ = Op.assign (Operand.tmp 30) from rfl) (by rfl)) (by rfl) (by rfl) ?_
  refine Ls.nil ?_
  refine Cd.cond_false (by rfl) (rfl) ?_
  refine Cd.seq ?_
  refine Cd.region ?_
  refine Ls.ev (some 34) (Ev.eql (show Oper.op _ = Op.binOp BinOp.eql 5 (Operand.tmp 15) (Operand.const (Value.int IntKind.u8 99)) 5 from rfl) (by rfl) (by rfl)) (by rfl) (by rfl) ?_
  refine Ls.ev (some 33) (Ev.assign (show Oper.op _ = Op.assign (Operand.tmp 34) from rfl) (by rfl)) (by rfl) (by rfl) ?_
  refine Ls.nil ?_
  refine Cd.cond_false (by rfl) (rfl) ?_
  refine Cd.seq ?_
  refine Cd.region ?_
  refine Ls.ev (some 38) (Ev.eql (show Oper.op _ = Op.binOp BinOp.eql 5 (Operand.tmp 15) (Operand.const (Value.int IntKind.u8 120)) 5 from rfl) (by rfl) (by rfl)) (by rfl) (by rfl) ?_
  refine Ls.ev (some 37) (Ev.assign (show Oper.op _ = Op.assign (Operand.tmp 38) from rfl) (by rfl)) (by rfl) (by rfl) ?_
  refine Ls.nil ?_
  refine Cd.cond_false (by rfl) (rfl) ?_
  refine Cd.seq ?_
  refine Cd.region ?_
  refine Ls.ev (some 43) (Ev.eql (show Oper.op _ = Op.binOp BinOp.eql 5 (Operand.tmp 15) (Operand.const (Value.int IntKind.u8 121)) 5 from rfl) (by rfl) (by rfl)) (by rfl) (by rfl) ?_
  refine Ls.ev (some 42) (Ev.assign (show Oper.op _ = Op.assign (Operand.tmp 43) from rfl) (by rfl)) (by rfl) (by rfl) ?_
  refine Ls.nil ?_
  refine Cd.cond_false (by rfl) (rfl) ?_
  refine Cd.seq ?_
  refine Cd.region ?_
  refine Ls.ev (some 48) (Ev.eql (show Oper.op _ = Op.binOp BinOp.eql 5 (Operand.tmp 15) (Operand.const (Value.int IntKind.u8 101)) 5 from rfl) (by rfl) (by rfl)) (by rfl) (by rfl) ?_
  refine Ls.ev (some 47) (Ev.assign (show Oper.op _ = Op.assign (Operand.tmp 48) from rfl) (by rfl)) (by rfl) (by rfl) ?_
  refine Ls.nil ?_
  refine Cd.cond_false (by rfl) (rfl) ?_
  refine Cd.seq ?_
  refine Cd.region ?_
  refine Ls.ev (some 54) (Ev.eql (show Oper.op _ = Op.binOp BinOp.eql 5 (Operand.tmp 15) (Operand.const (Value.int IntKind.u8 115)) 5 from rfl) (by rfl) (by rfl)) (by rfl) (by rfl) ?_
  refine Ls.ev (some 53) (Ev.assign (show Oper.op _ = Op.assign (Operand.tmp 54) from rfl) (by rfl)) (by rfl) (by rfl) ?_
  refine Ls.nil ?_
  refine Cd.cond_true (by rfl) (rfl) ?_
  refine Cd.region ?_
  refine Ls.ev (some 55) (Ev.move (show Oper.op _ = Op.move (Operand.tmp 8) from rfl) (by rfl)) (by rfl) (by rfl) ?_
  refine Ls.ev (some 56) (Ev.fieldAddr (k := 4) (show Oper.op _ = Op.fieldAddr 43 (Operand.tmp 3) 4 from rfl) (by rfl) (by kernel_rfl) (by rfl)) (by rfl) (by rfl) ?_
  refine Ls.ev (some 57) (Ev.fieldAddr (k := 3) (show Oper.op _ = Op.fieldAddr 41 (Operand.tmp 56) 3 from rfl) (by rfl) (by kernel_rfl) (by rfl)) (by rfl) (by rfl) ?_
  refine Ls.ev (some 58) (Ev.fieldAddr (k := 2) (show Oper.op _ = Op.fieldAddr 39 (Operand.tmp 57) 2 from rfl) (by rfl) (by kernel_rfl) (by rfl)) (by rfl) (by rfl) ?_
  refine Ls.ev (some 59) (Ev.fieldAddr (k := 0) (show Oper.op _ = Op.fieldAddr 37 (Operand.tmp 58) 0 from rfl) (by rfl) (by kernel_rfl) (by rfl)) (by rfl) (by rfl) ?_
  refine Ls.does none (Does.store 1 (show Oper.op _ = Op.store 3 (Operand.tmp 59) (Operand.tmp 55) from rfl) (by rfl) (by rfl) (by rfl) (by kernel_rfl) (by rfl) (by kernel_rfl) (by rfl)) (by rfl) (by rfl) ?_
  intro _ _
  refine Ls.nil ?_
  refine Cd.seq ?_
  refine Cd.region ?_
  refine Ls.ev (some 69) (Ev.loads 1 (show Oper.op _ = Op.load 43 (Operand.tmp 3) from rfl) (by rfl) (by rfl) (n := 12) (by kernel_rfl) (by rfl) (by rfl)) (by rfl) (by rfl) ?_
  refine Ls.ev (some 70) (Ev.move (show Oper.op _ = Op.move (Operand.tmp 9) from rfl) (by rfl)) (by rfl) (by rfl) ?_
  refine Ls.does none (Does.store 0 (show Oper.op _ = Op.store 43 (Operand.tmp 6) (Operand.tmp 69) from rfl) (by rfl) (by rfl) (by rfl) (by kernel_rfl) (by rfl) (by kernel_rfl) (by rfl)) (by rfl) (by rfl) ?_
  intro _ _
  refine Ls.ev (some 7) (Ev.assign (show Oper.op _ = Op.assign (Operand.tmp 70) from rfl) (by rfl)) (by rfl) (by rfl) ?_
  refine Ls.nil ?_
  refine Cd.ret ?_
  refine Ent.ret (z.putN n .s) ((fun v hv => by obtain ⟨m, hm, rfl⟩ := Option.map_eq_some_iff.1 hv; rw [hn m hm]; rfl)) (Res.cell_tmp 0 (by rfl) (by rfl) (by rfl) (n := 12) (by kernel_rfl) (by rfl) (by rfl) (by rfl)) ?_ [2, 3] (by rfl) ?_
  · rw [Option.isSome_map]
    rfl
  · rfl
theorem dput_k (z : StS) (w : List UInt8) (hw : w.length ≤ 1048576) : Fn Tryz.prog 31 #[.agg z.enc.toArray, .int .u8 107, .string (txt w)] [z.wC, z.wK] StS (fun z' => .tuple #[.agg z'.enc.toArray, .bool (readW z.p .k w).isSome]) (fun z' => [z'.wC, z'.wK]) (fun z' => ∀ v, readW z.p .k w = some v → v = z'.p) := by
  have hrd : readW z.p .k w = (listP w).map fun n => z.p.putL n .k := rfl
  rw [hrd]
  refine Fn.enter Tryz.func31 rfl Tryz.ntmps31 (by rfl) ?_
  intro w0
  refine Cd.seq ?_
  refine Cd.region ?_
  refine Ls.does (some 3) (Does.box (show Oper.op _ = Op.box 43 (Operand.tmp 0) from rfl) (by rfl)) (by rfl) (by rfl) ?_
  intro g1 _
  refine Ls.does (some 6) (Does.alloc (cs := [.int .i64 0, .int .i64 0, .int .i64 0, .int .i64 0, .int .i64 0, .int .i64 0, .int .i64 0, .int .i64 0, .int .i64 0, .int .i64 0, .slice none 0 0, .slice none 0 0]) (show Oper.op _ = Op.alloc 43 from rfl) (ZeroIs.mk (.agg #[.int .i64 0, .int .i64 0, .int .i64 0, .int .i64 0, .int .i64 0, .int .i64 0, .int .i64 0, .int .i64 0, .int .i64 0, .int .i64 0, .slice none 0 0, .slice none 0 0]) (by kernel_rfl) (by rfl))) (by rfl) (by rfl) ?_
  intro g2 _
  refine Ls.ev (some 7) (Ev.assign (show Oper.op _ = Op.assign (Operand.const (Value.bool false)) from rfl) (by rfl)) (by rfl) (by rfl) ?_
  refine Ls.nil ?_
  refine Cd.seq ?_
  refine Cd.region ?_
  refine Ls.ev (some 11) (Ev.move (show Oper.op _ = Op.move (Operand.tmp 2) from rfl) (by rfl)) (by rfl) (by rfl) ?_
  refine Ls.does (some 12) (Does.read (show Oper.op _ = Op.call { callee := Callee.value (Operand.func 58), args := #[Operand.tmp 11], argTypes := #[9] } from rfl) Tryz.func58 (by kernel_rfl) (by kernel_rfl) (dnumber_sl w hw) (by rfl) (by rfl) trivial) (by rfl) (by rfl) ?_
  rintro n hn
  refine Ls.ev (some 10) (Ev.move (show Oper.op _ = Op.move (Operand.tmp 12) from rfl) (by rfl)) (by rfl) (by rfl) ?_
  refine Ls.ev (some 13) (Ev.extract (show Oper.op _ = Op.extract (Operand.tmp 10) 0 from rfl) (by rfl) (by rfl)) (by rfl) (by rfl) ?_
  refine Ls.ev (some 14) (Ev.extract (show Oper.op _ = Op.extract (Operand.tmp 10) 1 from rfl) (by rfl) (by rfl)) (by rfl) (by rfl) ?_
  refine Ls.ev (some 8) (Ev.assign (show Oper.op _ = Op.assign (Operand.tmp 13) from rfl) (by rfl)) (by rfl) (by rfl) ?_
  refine Ls.ev (some 9) (Ev.assign (show Oper.op _ = Op.assign (Operand.tmp 14) from rfl) (by rfl)) (by rfl) (by rfl) ?_
  refine Ls.nil ?_
  refine Cd.seq ?_
  refine Cd.seq ?_
  refine Cd.region ?_
  refine Ls.ev (some 15) (Ev.move (show Oper.op _ = Op.move (Operand.tmp 1) from rfl) (by rfl)) (by rfl) (by rfl) ?_
  refine Ls.nil ?_
  refine Cd.block ?_
  refine Cd.seq ?_
  refine Cd.region ?_
  refine Ls.ev (some 26) (Ev.eql (show Oper.op _ = Op.binOp BinOp.eql 5 (Operand.tmp 15) (Operand.const (Value.int IntKind.u8 97)) 5 from rfl) (by rfl) (by rfl)) (by rfl) (by rfl) ?_
  refine Ls.ev (some 25) (Ev.assign (show Oper.op _ = Op.assign (Operand.tmp 26) from rfl) (by rfl)) (by rfl) (by rfl) ?_
  refine Ls.nil ?_
  refine Cd.cond_false (by rfl) (rfl) ?_
  refine Cd.seq ?_
  refine Cd.region ?_
  refine Ls.ev (some 30) (Ev.eql (show Oper.op _ = Op.binOp BinOp.eql 5 (Operand.tmp 15) (Operand.const (Value.int IntKind.u8 98)) 5 from rfl) (by rfl) (by rfl)) (by rfl) (by rfl) ?_
  refine Ls.ev (some 29) (Ev.assign (show Oper.op _ = Op.assign (Operand.tmp 30) from rfl) (by rfl)) (by rfl) (by rfl) ?_
  refine Ls.nil ?_
  refine Cd.cond_false (by rfl) (rfl) ?_
  refine Cd.seq ?_
  refine Cd.region ?_
  refine Ls.ev (some 34) (Ev.eql (show Oper.op _ = Op.binOp BinOp.eql 5 (Operand.tmp 15) (Operand.const (Value.int IntKind.u8 99)) 5 from rfl) (by rfl) (by rfl)) (by rfl) (by rfl) ?_
  refine Ls.ev (some 33) (Ev.assign (show Oper.op _ = Op.assign (Operand.tmp 34) from rfl) (by rfl)) (by rfl) (by rfl) ?_
  refine Ls.nil ?_
  refine Cd.cond_false (by rfl) (rfl) ?_
  refine Cd.seq ?_
  refine Cd.region ?_
  refine Ls.ev (some 38) (Ev.eql (show Oper.op _ = Op.binOp BinOp.eql 5 (Operand.tmp 15) (Operand.const (Value.int IntKind.u8 120)) 5 from rfl) (by rfl) (by rfl)) (by rfl) (by rfl) ?_
  refine Ls.ev (some 37) (Ev.assign (show Oper.op _ = Op.assign (Operand.tmp 38) from rfl) (by rfl)) (by rfl) (by rfl) ?_
  refine Ls.nil ?_
  refine Cd.cond_false (by rfl) (rfl) ?_
  refine Cd.seq ?_
  refine Cd.region ?_
  refine Ls.ev (some 43) (Ev.eql (show Oper.op _ = Op.binOp BinOp.eql 5 (Operand.tmp 15) (Operand.const (Value.int IntKind.u8 121)) 5 from rfl) (by rfl) (by rfl)) (by rfl) (by rfl) ?_
  refine Ls.ev (some 42) (Ev.assign (show Oper.op _ = Op.assign (Operand.tmp 43) from rfl) (by rfl)) (by rfl) (by rfl) ?_
  refine Ls.nil ?_
  refine Cd.cond_false (by rfl) (rfl) ?_
  refine Cd.seq ?_
  refine Cd.region ?_
  refine Ls.ev (some 48) (Ev.eql (show Oper.op _ = Op.binOp BinOp.eql 5 (Operand.tmp 15) (Operand.const (Value.int IntKind.u8 101)) 5 from rfl) (by rfl) (by rfl)) (by rfl) (by rfl) ?_
  refine Ls.ev (some 47) (Ev.assign (show Oper.op _ = Op.assign (Operand.tmp 48) from rfl) (by rfl)) (by rfl) (by rfl) ?_
  refine Ls.nil ?_
  refine Cd.cond_false (by rfl) (rfl) ?_
  refine Cd.seq ?_
  refine Cd.region ?_
  refine Ls.ev (some 54) (Ev.eql (show Oper.op _ = Op.binOp BinOp.eql 5 (Operand.tmp 15) (Operand.const (Value.int IntKind.u8 115)) 5 from rfl) (by rfl) (by rfl)) (by rfl) (by rfl) ?_
  refine Ls.ev (some 53) (Ev.assign (show Oper.op _ = Op.assign (Operand.tmp 54) from rfl) (by rfl)) (by rfl) (by rfl) ?_
  refine Ls.nil ?_
  refine Cd.cond_false (by rfl) (rfl) ?_
  refine Cd.seq ?_
  refine Cd.region ?_
  refine Ls.ev (some 61) (Ev.eql (show Oper.op _ = Op.binOp BinOp.eql 5 (Operand.tmp 15) (Operand.const (Value.int IntKind.u8 107)) 5 from rfl) (by rfl) (by rfl)) (by rfl) (by rfl) ?_
  refine Ls.ev (some 60) (Ev.assign (show Oper.op _ = Op.assign (Operand.tmp 61) from rfl) (by rfl)) (by rfl) (by rfl) ?_
  refine Ls.nil ?_
  refine Cd.cond_true (by rfl) (rfl) ?_
  refine Cd.region ?_
  refine Ls.ev (some 63) (Ev.move (show Oper.op _ = Op.move (Operand.tmp 2) from rfl) (by rfl)) (by rfl) (by rfl) ?_
  refine Ls.does (some 64) (Does.call [0, 1, 2] (show Oper.op _ = Op.call { callee := Callee.value (Operand.func 59), args := #[Operand.tmp 63], argTypes := #[9] } from rfl) Tryz.func59 (by kernel_rfl) (by kernel_rfl) (dlist_sl w hw) (by rfl) (by rfl) (by rfl)) (by rfl) (by rfl) ?_
  rintro ⟨q, l⟩ hl
  dsimp only at hl
  refine Ls.ev (some 62) (Ev.move (show Oper.op _ = Op.move (Operand.tmp 64) from rfl) (by rfl)) (by rfl) (by rfl) ?_
  refine Ls.ev (some 65) (Ev.extract (show Oper.op _ = Op.extract (Operand.tmp 62) 0 from rfl) (by rfl) (by rfl)) (by rfl) (by rfl) ?_
  refine Ls.ev (some 66) (Ev.extract (show Oper.op _ = Op.extract (Operand.tmp 62) 1 from rfl) (by rfl) (by rfl)) (by rfl) (by rfl) ?_
  refine Ls.ev (some 67) (Ev.fieldAddr (k := 4) (show Oper.op _ = Op.fieldAddr 43 (Operand.tmp 3) 4 from rfl) (by rfl) (by kernel_rfl) (by rfl)) (by rfl) (by rfl) ?_
  refine Ls.ev (some 68) (Ev.fieldAddr (k := 7) (show Oper.op _ = Op.fieldAddr 41 (Operand.tmp 67) 4 from rfl) (by rfl) (by kernel_rfl) (by rfl)) (by rfl) (by rfl) ?_
  refine Ls.does none (Does.store 2 (show Oper.op _ = Op.store 29 (Operand.tmp 68) (Operand.tmp 65) from rfl) (by rfl) (by rfl) (by rfl) (by kernel_rfl) (by rfl) (by kernel_rfl) (by rfl)) (by rfl) (by rfl) ?_
  intro _ _
  refine Ls.ev (some 9) (Ev.assign (show Oper.op _ = Op.assign (Operand.tmp 66) from rfl) (by rfl)) (by rfl) (by rfl) ?_
  refine Ls.nil ?_
  refine Cd.seq ?_
  refine Cd.region ?_
  refine Ls.ev (some 69) (Ev.loads 2 (show Oper.op _ = Op.load 43 (Operand.tmp 3) from rfl) (by rfl) (by rfl) (n := 12) (by kernel_rfl) (by rfl) (by rfl)) (by rfl) (by rfl) ?_
  refine Ls.ev (some 70) (Ev.move (show Oper.op _ = Op.move (Operand.tmp 9) from rfl) (by rfl)) (by rfl) (by rfl) ?_
  refine Ls.does none (Does.store 1 (show Oper.op _ = Op.store 43 (Operand.tmp 6) (Operand.tmp 69) from rfl) (by rfl) (by rfl) (by rfl) (by kernel_rfl) (by rfl) (by kernel_rfl) (by rfl)) (by rfl) (by rfl) ?_
  intro _ _
  refine Ls.ev (some 7) (Ev.assign (show Oper.op _ = Op.assign (Operand.tmp 70) from rfl) (by rfl)) (by rfl) (by rfl) ?_
  refine Ls.nil ?_
  refine Cd.ret ?_
  refine Ent.ret (z.putL q l .k) ((fun v hv => by obtain ⟨m, hm, rfl⟩ := Option.map_eq_some_iff.1 hv; rw [hl m hm]; rfl)) (Res.cell_tmp 1 (by rfl) (by rfl) (by rfl) (n := 12) (by kernel_rfl) (by rfl) (by rfl) (by rfl)) ?_ [3, 0] (by rfl) ?_
  · rw [Option.isSome_map]
    rfl
  · rfl
theorem dput_r (z : StS) (w : List UInt8) (hw : w.length ≤ 1048576) : Fn Tryz.prog 31 #[.agg z.enc.toArray, .int .u8 114, .string (txt w)] [z.wC, z.wK] StS (fun z' => .tuple #[.agg z'.enc.toArray, .bool (readW z.p .r w).isSome]) (fun z' => [z'.wC, z'.wK]) (fun z' => ∀ v, readW z.p .r w = some v → v = z'.p) := by
  have hrd : readW z.p .r w = (listP w).map fun n => z.p.putL n .r := rfl
  rw [hrd]
  refine Fn.enter Tryz.func31 rfl Tryz.ntmps31 (by rfl) ?_
  intro w0
  refine Cd.seq ?_
  refine Cd.region ?_
  refine Ls.does (some 3) (Does.box (show Oper.op _ = Op.box 43 (Operand.tmp 0) from rfl) (by rfl)) (by rfl) (by rfl) ?_
  intro g1 _
  refine Ls.does (some 6) (Does.alloc (cs := [.int .i64 0, .int .i64 0, .int .i64 0, .int .i64 0, .int .i64 0, .int .i64 0, .int .i64 0, .int .i64 0, .int .i64 0, .int .i64 0, .slice none 0 0, .slice none 0 0]) (show Oper.op _ = Op.alloc 43 from rfl) (ZeroIs.mk (.agg #[.int .i64 0, .int .i64 0, .int .i64 0, .int .i64 0, .int .i64 0, .int .i64 0, .int .i64 0, .int .i64 0, .int .i64 0, .int .i64 0, .slice none 0 0, .slice none 0 0]) (by kernel_rfl) (by rfl))) (by rfl) (by rfl) ?_
  intro g2 _
  refine Ls.ev (some 7) (Ev.assign (show Oper.op _ = Op.assign (Operand.const (Value.bool false)) from rfl) (by rfl)) (by rfl) (by rfl) ?_
  refine Ls.nil ?_
  refine Cd.seq ?_
  refine Cd.region ?_
  refine Ls.ev (some 11) (Ev.move (show Oper.op _ = Op.move (Operand.tmp 2) from rfl) (by rfl)) (by rfl) (by rfl) ?_
  refine Ls.does (some 12) (Does.read (show Oper.op _ = Op.call { callee := Callee.value (Operand.func 58), args := #[Operand.tmp 11], argTypes := #[9] } from rfl) Tryz.func58 (by kernel_rfl) (by kernel_rfl) (dnumber_sl w hw) (by rfl) (by rfl) trivial) (by rfl) (by rfl) ?_
  rintro n hn
  refine Ls.ev (some 10) (Ev.move (show Oper.op _ = Op.move (Operand.tmp 12) from rfl) (by rfl)) (by rfl) (by rfl) ?_
  refine Ls.ev (some 13) (Ev.extract (show Oper.op _ = Op.extract (Operand.tmp 10) 0 from rfl) (by rfl) (by rfl)) (by rfl) (by rfl) ?_
  refine Ls.ev (some 14) (Ev.extract (show Oper.op _ = Op.extract (Operand.tmp 10) 1 from rfl) (by rfl) (by rfl)) (by rfl) (by rfl) ?_
  refine Ls.ev (some 8) (Ev.assign (show Oper.op _ = Op.assign (Operand.tmp 13) from rfl) (by rfl)) (by rfl) (by rfl) ?_
  refine Ls.ev (some 9) (Ev.assign (show Oper.op _ = Op.assign (Operand.tmp 14) from rfl) (by rfl)) (by rfl) (by rfl) ?_
  refine Ls.nil ?_
  refine Cd.seq ?_
  refine Cd.seq ?_
  refine Cd.region ?_
  refine Ls.ev (some 15) (Ev.move (show Oper.op _ = Op.move (Operand.tmp 1) from rfl) (by rfl)) (by rfl) (by rfl) ?_
  refine Ls.nil ?_
  refine Cd.block ?_
  refine Cd.seq ?_
  refine Cd.region ?_
  refine Ls.ev (some 26) (Ev.eql (show Oper.op _ = Op.binOp BinOp.eql 5 (Operand.tmp 15) (Operand.const (Value.int IntKind.u8 97)) 5 from rfl) (by rfl) (by rfl)) (by rfl) (by rfl) ?_
  refine Ls.ev (some 25) (Ev.assign (show Oper.op _ = Op.assign (Operand.tmp 26) from rfl) (by rfl)) (by rfl) (by rfl) ?_
  refine Ls.nil ?_
  refine Cd.cond_false (by rfl) (rfl) ?_
  refine Cd.seq ?_
  refine Cd.region ?_
  refine Ls.ev (some 30) (Ev.eql (show Oper.op _ = Op.binOp BinOp.eql 5 (Operand.tmp 15) (Operand.const (Value.int IntKind.u8 98)) 5 from rfl) (by rfl) (by rfl)) (by rfl) (by rfl) ?_
  refine Ls.ev (some 29) (Ev.assign (show Oper.op _ = Op.assign (Operand.tmp 30) from rfl) (by rfl)) (by rfl) (by rfl) ?_
  refine Ls.nil ?_
  refine Cd.cond_false (by rfl) (rfl) ?_
  refine Cd.seq ?_
  refine Cd.region ?_
  refine Ls.ev (some 34) (Ev.eql (show Oper.op _ = Op.binOp BinOp.eql 5 (Operand.tmp 15) (Operand.const (Value.int IntKind.u8 99)) 5 from rfl) (by rfl) (by rfl)) (by rfl) (by rfl) ?_
  refine Ls.ev (some 33) (Ev.assign (show Oper.op _ = Op.assign (Operand.tmp 34) from rfl) (by rfl)) (by rfl) (by rfl) ?_
  refine Ls.nil ?_
  refine Cd.cond_false (by rfl) (rfl) ?_
  refine Cd.seq ?_
  refine Cd.region ?_
  refine Ls.ev (some 38) (Ev.eql (show Oper.op _ = Op.binOp BinOp.eql 5 (Operand.tmp 15) (Operand.const (Value.int IntKind.u8 120)) 5 from rfl) (by rfl) (by rfl)) (by rfl) (by rfl) ?_
  refine Ls.ev (some 37) (Ev.assign (show Oper.op _ = Op.assign (Operand.tmp 38) from rfl) (by rfl)) (by rfl) (by rfl) ?_
  refine Ls.nil ?_
  refine Cd.cond_false (by rfl) (rfl) ?_
  refine Cd.seq ?_
  refine Cd.region ?_
  refine Ls.ev (some 43) (Ev.eql (show Oper.op _ = Op.binOp BinOp.eql 5 (Operand.tmp 15) (Operand.const (Value.int IntKind.u8 121)) 5 from rfl) (by rfl) (by rfl)) (by rfl) (by rfl) ?_
  refine Ls.ev (some 42) (Ev.assign (show Oper.op _ = Op.assign (Operand.tmp 43) from rfl) (by rfl)) (by rfl) (by rfl) ?_
  refine Ls.nil ?_
  refine Cd.cond_false (by rfl) (rfl) ?_
  refine Cd.seq ?_
  refine Cd.region ?_
  refine Ls.ev (some 48) (Ev.eql (show Oper.op _ = Op.binOp BinOp.eql 5 (Operand.tmp 15) (Operand.const (Value.int IntKind.u8 101)) 5 from rfl) (by rfl) (by rfl)) (by rfl) (by rfl) ?_
  refine Ls.ev (some 47) (Ev.assign (show Oper.op _ = Op.assign (Operand.tmp 48) from rfl) (by rfl)) (by rfl) (by rfl) ?_
  refine Ls.nil ?_
  refine Cd.cond_false (by rfl) (rfl) ?_
  refine Cd.seq ?_
  refine Cd.region ?_
  refine Ls.ev (some 54) (Ev.eql (show Oper.op _ = Op.binOp BinOp.eql 5 (Operand.tmp 15) (Operand.const (Value.int IntKind.u8 115)) 5 from rfl) (by rfl) (by rfl)) (by rfl) (by rfl) ?_
  refine Ls.ev (some 53) (Ev.assign (show Oper.op _ = Op.assign (Operand.tmp 54) from rfl) (by rfl)) (by rfl) (by rfl) ?_
  refine Ls.nil ?_
  refine Cd.cond_false (by rfl) (rfl) ?_
  refine Cd.seq ?_
  refine Cd.region ?_
  refine Ls.ev (some 61) (Ev.eql (show Oper.op _ = Op.binOp BinOp.eql 5 (Operand.tmp 15) (Operand.const (Value.int IntKind.u8 107)) 5 from rfl) (by rfl) (by rfl)) (by rfl) (by rfl) ?_
  refine Ls.ev (some 60) (Ev.assign (show Oper.op _ = Op.assign (Operand.tmp 61) from rfl) (by rfl)) (by rfl) (by rfl) ?_
  refine Ls.nil ?_
  refine Cd.cond_false (by rfl) (rfl) ?_
  refine Cd.region ?_
  refine Ls.ev (some 17) (Ev.move (show Oper.op _ = Op.move (Operand.tmp 2) from rfl) (by rfl)) (by rfl) (by rfl) ?_
  refine Ls.does (some 18) (Does.call [0, 1, 3] (show Oper.op _ = Op.call { callee := Callee.value (Operand.func 59), args := #[Operand.tmp 17], argTypes := #[9] } from rfl) Tryz.func59 (by kernel_rfl) (by kernel_rfl) (dlist_sl w hw) (by rfl) (by rfl) (by rfl)) (by rfl) (by rfl) ?_
  rintro ⟨q, l⟩ hl
  dsimp only at hl
  refine Ls.ev (some 16) (Ev.move (show Oper.op _ = Op.move (Operand.tmp 18) from rfl) (by rfl)) (by rfl) (by rfl) ?_
  refine Ls.ev (some 19) (Ev.extract (show Oper.op _ = Op.extract (Operand.tmp 16) 0 from rfl) (by rfl) (by rfl)) (by rfl) (by rfl) ?_
  refine Ls.ev (some 20) (Ev.extract (show Oper.op _ = Op.extract (Operand.tmp 16) 1 from rfl) (by rfl) (by rfl)) (by rfl) (by rfl) ?_
  refine Ls.ev (some 21) (Ev.fieldAddr (k := 4) (show Oper.op _ = Op.fieldAddr 43 (Operand.tmp 3) 4 from rfl) (by rfl) (by kernel_rfl) (by rfl)) (by rfl) (by rfl) ?_
  refine Ls.ev (some 22) (Ev.fieldAddr (k := 3) (show Oper.op _ = Op.fieldAddr 41 (Operand.tmp 21) 3 from rfl) (by rfl) (by kernel_rfl) (by rfl)) (by rfl) (by rfl) ?_
  refine Ls.ev (some 23) (Ev.fieldAddr (k := 2) (show Oper.op _ = Op.fieldAddr 39 (Operand.tmp 22) 2 from rfl) (by rfl) (by kernel_rfl) (by rfl)) (by rfl) (by rfl) ?_
  refine Ls.ev (some 24) (Ev.fieldAddr (k := 1) (show Oper.op _ = Op.fieldAddr 37 (Operand.tmp 23) 1 from rfl) (by rfl) (by kernel_rfl) (by rfl)) (by rfl) (by rfl) ?_
  refine Ls.does none (Does.store 2 (show Oper.op _ = Op.store 29 (Operand.tmp 24) (Operand.tmp 19) from rfl) (by rfl) (by rfl) (by rfl) (by kernel_rfl) (by rfl) (by kernel_rfl) (by rfl)) (by rfl) (by rfl) ?_
  intro _ _
  refine Ls.ev (some 9) (Ev.assign (show Oper.op _ = Op.assign (Operand.tmp 20) from rfl) (by rfl)) (by rfl) (by rfl) ?_
  refine Ls.nil ?_
  refine Cd.seq ?_
  refine Cd.region ?_
  refine Ls.ev (some 69) (Ev.loads 2 (show Oper.op _ = Op.load 43 (Operand.tmp 3) from rfl) (by rfl) (by rfl) (n := 12) (by kernel_rfl) (by rfl) (by rfl)) (by rfl) (by rfl) ?_
  refine Ls.ev (some 70) (Ev.move (show Oper.op _ = Op.move (Operand.tmp 9) from rfl) (by rfl)) (by rfl) (by rfl) ?_
  refine Ls.does none (Does.store 1 (show Oper.op _ = Op.store 43 (Operand.tmp 6) (Operand.tmp 69) from rfl) (by rfl) (by rfl) (by rfl) (by kernel_rfl) (by rfl) (by kernel_rfl) (by rfl)) (by rfl) (by rfl) ?_
  intro _ _
  refine Ls.ev (some 7) (Ev.assign (show Oper.op _ = Op.assign (Operand.tmp 70) from rfl) (by rfl)) (by rfl) (by rfl) ?_
  refine Ls.nil ?_
  refine Cd.ret ?_
  refine Ent.ret (z.putL q l .r) ((fun v hv => by obtain ⟨m, hm, rfl⟩ := Option.map_eq_some_iff.1 hv; rw [hl m hm]; rfl)) (Res.cell_tmp 1 (by rfl) (by rfl) (by rfl) (n := 12) (by kernel_rfl) (by rfl) (by rfl) (by rfl)) ?_ [0, 3] (by rfl) ?_
  · rw [Option.isSome_map]
    rfl
  · rfl
theorem dput_sl (κ : Wk) (z : StS) (w : List UInt8) (hw : w.length ≤ 1048576) : Fn Tryz.prog 31 #[.agg z.enc.toArray, .int .u8 (κ.byte.toNat : Int), .string (txt w)] [z.wC, z.wK] StS (fun z' => .tuple #[.agg z'.enc.toArray, .bool (readW z.p κ w).isSome]) (fun z' => [z'.wC, z'.wK]) (fun z' => ∀ v, readW z.p κ w = some v → v = z'.p) := by
  cases κ
  · exact dput_a z w hw
  · exact dput_b z w hw
  · exact dput_c z w hw
  · exact dput_x z w hw
  · exact dput_y z w hw
  · exact dput_e z w hw
  · exact dput_s z w hw
  · exact dput_r z w hw
  · exact dput_k z w hw
end Go.Proofs.YtemcigoelcblbaaGreatDoor
/- the document over pieces: its table -/
namespace Go.Proofs.YtemcigoelcblbaaGreatDoor
open Go.RowKit
set_option maxRecDepth 20000 in
set_option maxHeartbeats 4000000 in
theorem dcommand_sl (i : Nat) (c : CmdP) (hc : cmdsD[i]? = some c) : Fn Tryz.prog 30 #[.int .i64 i] [] Unit (fun _ => .tuple #[.string (txt c.name), .agg (stepV c.kind c.ik c.verb).toArray, .string (txt (c.ws.map Wk.byte))]) (fun _ => []) (fun _ => True) := by
  have hi : i < 23 := (List.getElem?_eq_some_iff.1 hc).1
  refine Fn.enter Tryz.func30 rfl Tryz.ntmps30 (by rfl) ?_
  intro w0
  refine Cd.seq ?_
  refine Cd.region ?_
  refine Ls.ev (some 2) (Ev.assign (show Oper.op _ = Op.assign (Operand.const (Value.string { data := #[] })) from rfl) (by rfl)) (by rfl) (by rfl) ?_
  refine Ls.does (some 3) (Does.alloc (cs := [.int .i64 0, .int .i64 0, .int .i64 0, .int .i64 0, .int .i64 0, .int .i64 0, .int .i64 0, .int .i64 0, .int .i64 0, .int .i64 0, .slice none 0 0, .slice none 0 0]) (show Oper.op _ = Op.alloc 43 from rfl) (ZeroIs.mk (.agg #[.int .i64 0, .int .i64 0, .int .i64 0, .int .i64 0, .int .i64 0, .int .i64 0, .int .i64 0, .int .i64 0, .int .i64 0, .int .i64 0, .slice none 0 0, .slice none 0 0]) (by kernel_rfl) (by rfl))) (by rfl) (by rfl) ?_
  intro g1 _
  refine Ls.ev (some 4) (Ev.assign (show Oper.op _ = Op.assign (Operand.const (Value.string { data := #[] })) from rfl) (by rfl)) (by rfl) (by rfl) ?_
  refine Ls.nil ?_
  refine Cd.seq ?_
  refine Cd.region ?_
  refine Ls.ev (some 9) (Ev.buildP (pl := [(0, 1), (1, 1), (2, 1), (3, 1), (4, 8)]) (zs := [.int .i64 0, .int .i64 0, .int .i64 0, .int .i64 0, .int .i64 0, .int .i64 0, .int .i64 0, .int .i64 0, .int .i64 0, .int .i64 0, .slice none 0 0, .slice none 0 0]) (show Oper.op _ = Op.build 43 #[(0, Operand.const (Value.int IntKind.i64 4))] from rfl) (by rfl) (by kernel_rfl) (by rfl)) (by rfl) (by rfl) ?_
  refine Ls.does (some 5) (Does.alloc (cs := [.int .i64 0, .int .i64 0, .int .i64 0, .int .i64 0, .int .i64 0, .int .i64 0, .int .i64 0, .int .i64 0, .int .i64 0, .int .i64 0, .slice none 0 0, .slice none 0 0]) (show Oper.op _ = Op.alloc 43 from rfl) (ZeroIs.mk (.agg #[.int .i64 0, .int .i64 0, .int .i64 0, .int .i64 0, .int .i64 0, .int .i64 0, .int .i64 0, .int .i64 0, .int .i64 0, .int .i64 0, .slice none 0 0, .slice none 0 0]) (by kernel_rfl) (by rfl))) (by rfl) (by rfl) ?_
  intro g2 _
  refine Ls.does none (Does.store 0 (show Oper.op _ = Op.store 43 (Operand.tmp 5) (Operand.tmp 9) from rfl) (by rfl) (by rfl) (by rfl) (by kernel_rfl) (by rfl) (by kernel_rfl) (by rfl)) (by rfl) (by rfl) ?_
  intro _ _
  refine Ls.nil ?_
  refine Cd.seq ?_
  refine Cd.region ?_
  refine Ls.ev (some 6) (Ev.assign (show Oper.op _ = Op.assign (Operand.const (Value.string { data := #[] })) from rfl) (by rfl)) (by rfl) (by rfl) ?_
  refine Ls.ev (some 7) (Ev.assign (show Oper.op _ = Op.assign (Operand.const (Value.string { data := #[120] })) from rfl) (by rfl)) (by rfl) (by rfl) ?_
  refine Ls.nil ?_
  refine Cd.seq ?_
  refine Cd.region ?_
  refine Ls.ev (some 8) (Ev.assign (show Oper.op _ = Op.assign (Operand.const (Value.int IntKind.i64 0)) from rfl) (by rfl)) (by rfl) (by rfl) ?_
  refine Ls.nil ?_
  refine Cd.seq ?_
  refine Cd.seq ?_
  refine Cd.region ?_
  refine Ls.ev (some 10) (Ev.move (show Oper.op _ = Op.move (Operand.tmp 0) from rfl) (by rfl)) (by rfl) (by rfl) ?_
  refine Ls.nil ?_
  refine Cd.block ?_
  refine Cd.seq ?_
  refine Cd.region ?_
  refine Ls.ev (some 12) (Ev.eql (show Oper.op _ = Op.binOp BinOp.eql 3 (Operand.tmp 10) (Operand.const (Value.int IntKind.i64 0)) 3 from rfl) (by rfl) (by rfl)) (by rfl) (by rfl) ?_
  refine Ls.ev (some 11) (Ev.assign (show Oper.op _ = Op.assign (Operand.tmp 12) from rfl) (by rfl)) (by rfl) (by rfl) ?_
  refine Ls.nil ?_
  refine Cd.cond _ (by rfl) (fun h0 => ?_) (fun h0 => ?_)
  · skip
    obtain rfl : i = 0 := by have := of_decide_eq_true h0; omega
    obtain rfl : (⟨[109, 97, 112], 1, 0, 0, [.a, .b, .c]⟩ : CmdP) = c := Option.some.inj hc
    refine Cd.seq ?_
    refine Cd.region ?_
    refine Ls.ev (some 13) (Ev.buildP (pl := [(0, 1), (1, 1), (2, 1), (3, 1), (4, 8)]) (zs := [.int .i64 0, .int .i64 0, .int .i64 0, .int .i64 0, .int .i64 0, .int .i64 0, .int .i64 0, .int .i64 0, .int .i64 0, .int .i64 0, .slice none 0 0, .slice none 0 0]) (show Oper.op _ = Op.build 43 #[(0, Operand.const (Value.int IntKind.i64 1))] from rfl) (by rfl) (by kernel_rfl) (by rfl)) (by rfl) (by rfl) ?_
    refine Ls.ev (some 2) (Ev.assign (show Oper.op _ = Op.assign (Operand.const (Value.string { data := #[109, 97, 112] })) from rfl) (by rfl)) (by rfl) (by rfl) ?_
    refine Ls.does none (Does.store 1 (show Oper.op _ = Op.store 43 (Operand.tmp 3) (Operand.tmp 13) from rfl) (by rfl) (by rfl) (by rfl) (by kernel_rfl) (by rfl) (by kernel_rfl) (by rfl)) (by rfl) (by rfl) ?_
    intro _ _
    refine Ls.ev (some 4) (Ev.assign (show Oper.op _ = Op.assign (Operand.const (Value.string { data := #[97, 98, 99] })) from rfl) (by rfl)) (by rfl) (by rfl) ?_
    refine Ls.nil ?_
    refine Cd.ret ?_
    refine Ent.ret (()) (trivial) (Res.tmp_cell_tmp 1 (by rfl) (by rfl) (by rfl) (by rfl) (n := 12) (by kernel_rfl) (by rfl) (by rfl) (by rfl)) ?_ [] (by rfl) ?_
    · rfl
    · rfl
  skip
  have h0 : i ≠ 0 := by have := of_decide_eq_false h0; omega
  refine Cd.seq ?_
  refine Cd.region ?_
  refine Ls.ev (some 15) (Ev.eql (show Oper.op _ = Op.binOp BinOp.eql 3 (Operand.tmp 10) (Operand.const (Value.int IntKind.i64 1)) 3 from rfl) (by rfl) (by rfl)) (by rfl) (by rfl) ?_
  refine Ls.ev (some 14) (Ev.assign (show Oper.op _ = Op.assign (Operand.tmp 15) from rfl) (by rfl)) (by rfl) (by rfl) ?_
  refine Ls.nil ?_
  refine Cd.cond _ (by rfl) (fun h1 => ?_) (fun h1 => ?_)
  · skip
    obtain rfl : i = 1 := by have := of_decide_eq_true h1; omega
    obtain rfl : (⟨[98, 108, 111, 99, 107], 2, 0, 0, [.a]⟩ : CmdP) = c := Option.some.inj hc
    refine Cd.seq ?_
    refine Cd.region ?_
    refine Ls.ev (some 16) (Ev.buildP (pl := [(0, 1), (1, 1), (2, 1), (3, 1), (4, 8)]) (zs := [.int .i64 0, .int .i64 0, .int .i64 0, .int .i64 0, .int .i64 0, .int .i64 0, .int .i64 0, .int .i64 0, .int .i64 0, .int .i64 0, .slice none 0 0, .slice none 0 0]) (show Oper.op _ = Op.build 43 #[(0, Operand.const (Value.int IntKind.i64 2))] from rfl) (by rfl) (by kernel_rfl) (by rfl)) (by rfl) (by rfl) ?_
    refine Ls.ev (some 2) (Ev.assign (show Oper.op _ = Op.assign (Operand.const (Value.string { data := #[98, 108, 111, 99, 107] })) from rfl) (by rfl)) (by rfl) (by rfl) ?_
    refine Ls.does none (Does.store 1 (show Oper.op _ = Op.store 43 (Operand.tmp 3) (Operand.tmp 16) from rfl) (by rfl) (by rfl) (by rfl) (by kernel_rfl) (by rfl) (by kernel_rfl) (by rfl)) (by rfl) (by rfl) ?_
    intro _ _
    refine Ls.ev (some 4) (Ev.assign (show Oper.op _ = Op.assign (Operand.const (Value.string { data := #[97] })) from rfl) (by rfl)) (by rfl) (by rfl) ?_
    refine Ls.nil ?_
    refine Cd.ret ?_
    refine Ent.ret (()) (trivial) (Res.tmp_cell_tmp 1 (by rfl) (by rfl) (by rfl) (by rfl) (n := 12) (by kernel_rfl) (by rfl) (by rfl) (by rfl)) ?_ [] (by rfl) ?_
    · rfl
    · rfl
  skip
  have h1 : i ≠ 1 := by have := of_decide_eq_false h1; omega
  refine Cd.seq ?_
  refine Cd.region ?_
  refine Ls.ev (some 18) (Ev.eql (show Oper.op _ = Op.binOp BinOp.eql 3 (Operand.tmp 10) (Operand.const (Value.int IntKind.i64 2)) 3 from rfl) (by rfl) (by rfl)) (by rfl) (by rfl) ?_
  refine Ls.ev (some 17) (Ev.assign (show Oper.op _ = Op.assign (Operand.tmp 18) from rfl) (by rfl)) (by rfl) (by rfl) ?_
  refine Ls.nil ?_
  refine Cd.cond _ (by rfl) (fun h2 => ?_) (fun h2 => ?_)
  · skip
    obtain rfl : i = 2 := by have := of_decide_eq_true h2; omega
    obtain rfl : (⟨[100, 111, 99, 107], 3, 0, 0, [.a]⟩ : CmdP) = c := Option.some.inj hc
    refine Cd.seq ?_
    refine Cd.region ?_
    refine Ls.ev (some 19) (Ev.buildP (pl := [(0, 1), (1, 1), (2, 1), (3, 1), (4, 8)]) (zs := [.int .i64 0, .int .i64 0, .int .i64 0, .int .i64 0, .int .i64 0, .int .i64 0, .int .i64 0, .int .i64 0, .int .i64 0, .int .i64 0, .slice none 0 0, .slice none 0 0]) (show Oper.op _ = Op.build 43 #[(0, Operand.const (Value.int IntKind.i64 3))] from rfl) (by rfl) (by kernel_rfl) (by rfl)) (by rfl) (by rfl) ?_
    refine Ls.ev (some 2) (Ev.assign (show Oper.op _ = Op.assign (Operand.const (Value.string { data := #[100, 111, 99, 107] })) from rfl) (by rfl)) (by rfl) (by rfl) ?_
    refine Ls.does none (Does.store 1 (show Oper.op _ = Op.store 43 (Operand.tmp 3) (Operand.tmp 19) from rfl) (by rfl) (by rfl) (by rfl) (by kernel_rfl) (by rfl) (by kernel_rfl) (by rfl)) (by rfl) (by rfl) ?_
    intro _ _
    refine Ls.ev (some 4) (Ev.assign (show Oper.op _ = Op.assign (Operand.const (Value.string { data := #[97] })) from rfl) (by rfl)) (by rfl) (by rfl) ?_
    refine Ls.nil ?_
    refine Cd.ret ?_
    refine Ent.ret (()) (trivial) (Res.tmp_cell_tmp 1 (by rfl) (by rfl) (by rfl) (by rfl) (n := 12) (by kernel_rfl) (by rfl) (by rfl) (by rfl)) ?_ [] (by rfl) ?_
    · rfl
    · rfl
  skip
  have h2 : i ≠ 2 := by have := of_decide_eq_false h2; omega
  refine Cd.seq ?_
  refine Cd.region ?_
  refine Ls.ev (some 21) (Ev.eql (show Oper.op _ = Op.binOp BinOp.eql 3 (Operand.tmp 10) (Operand.const (Value.int IntKind.i64 3)) 3 from rfl) (by rfl) (by rfl)) (by rfl) (by rfl) ?_
  refine Ls.ev (some 20) (Ev.assign (show Oper.op _ = Op.assign (Operand.tmp 21) from rfl) (by rfl)) (by rfl) (by rfl) ?_
  refine Ls.nil ?_
  refine Cd.cond _ (by rfl) (fun h3 => ?_) (fun h3 => ?_)
  · skip
    obtain rfl : i = 3 := by have := of_decide_eq_true h3; omega
    obtain rfl : (⟨[104, 105, 115, 116, 111, 114, 121], 5, 0, 0, []⟩ : CmdP) = c := Option.some.inj hc
    refine Cd.seq ?_
    refine Cd.region ?_
    refine Ls.ev (some 22) (Ev.buildP (pl := [(0, 1), (1, 1), (2, 1), (3, 1), (4, 8)]) (zs := [.int .i64 0, .int .i64 0, .int .i64 0, .int .i64 0, .int .i64 0, .int .i64 0, .int .i64 0, .int .i64 0, .int .i64 0, .int .i64 0, .slice none 0 0, .slice none 0 0]) (show Oper.op _ = Op.build 43 #[(0, Operand.const (Value.int IntKind.i64 5))] from rfl) (by rfl) (by kernel_rfl) (by rfl)) (by rfl) (by rfl) ?_
    refine Ls.ev (some 2) (Ev.assign (show Oper.op _ = Op.assign (Operand.const (Value.string { data := #[104, 105, 115, 116, 111, 114, 121] })) from rfl) (by rfl)) (by rfl) (by rfl) ?_
    refine Ls.does none (Does.store 1 (show Oper.op _ = Op.store 43 (Operand.tmp 3) (Operand.tmp 22) from rfl) (by rfl) (by rfl) (by rfl) (by kernel_rfl) (by rfl) (by kernel_rfl) (by rfl)) (by rfl) (by rfl) ?_
    intro _ _
    refine Ls.ev (some 4) (Ev.assign (show Oper.op _ = Op.assign (Operand.const (Value.string { data := #[] })) from rfl) (by rfl)) (by rfl) (by rfl) ?_
    refine Ls.nil ?_
    refine Cd.ret ?_
    refine Ent.ret (()) (trivial) (Res.tmp_cell_tmp 1 (by rfl) (by rfl) (by rfl) (by rfl) (n := 12) (by kernel_rfl) (by rfl) (by rfl) (by rfl)) ?_ [] (by rfl) ?_
    · rfl
    · rfl
  skip
  have h3 : i ≠ 3 := by have := of_decide_eq_false h3; omega
  refine Cd.seq ?_
  refine Cd.region ?_
  refine Ls.ev (some 24) (Ev.eql (show Oper.op _ = Op.binOp BinOp.eql 3 (Operand.tmp 10) (Operand.const (Value.int IntKind.i64 4)) 3 from rfl) (by rfl) (by rfl)) (by rfl) (by rfl) ?_
  refine Ls.ev (some 23) (Ev.assign (show Oper.op _ = Op.assign (Operand.tmp 24) from rfl) (by rfl)) (by rfl) (by rfl) ?_
  refine Ls.nil ?_
  refine Cd.cond _ (by rfl) (fun h4 => ?_) (fun h4 => ?_)
  · skip
    obtain rfl : i = 4 := by have := of_decide_eq_true h4; omega
    obtain rfl : (⟨[115, 116, 111, 114, 101, 100], 6, 0, 0, [.a, .k]⟩ : CmdP) = c := Option.some.inj hc
    refine Cd.seq ?_
    refine Cd.region ?_
    refine Ls.ev (some 25) (Ev.buildP (pl := [(0, 1), (1, 1), (2, 1), (3, 1), (4, 8)]) (zs := [.int .i64 0, .int .i64 0, .int .i64 0, .int .i64 0, .int .i64 0, .int .i64 0, .int .i64 0, .int .i64 0, .int .i64 0, .int .i64 0, .slice none 0 0, .slice none 0 0]) (show Oper.op _ = Op.build 43 #[(0, Operand.const (Value.int IntKind.i64 6))] from rfl) (by rfl) (by kernel_rfl) (by rfl)) (by rfl) (by rfl) ?_
    refine Ls.ev (some 2) (Ev.assign (show Oper.op _ = Op.assign (Operand.const (Value.string { data := #[115, 116, 111, 114, 101, 100] })) from rfl) (by rfl)) (by rfl) (by rfl) ?_
    refine Ls.does none (Does.store 1 (show Oper.op _ = Op.store 43 (Operand.tmp 3) (Operand.tmp 25) from rfl) (by rfl) (by rfl) (by rfl) (by kernel_rfl) (by rfl) (by kernel_rfl) (by rfl)) (by rfl) (by rfl) ?_
    intro _ _
    refine Ls.ev (some 4) (Ev.assign (show Oper.op _ = Op.assign (Operand.const (Value.string { data := #[97, 107] })) from rfl) (by rfl)) (by rfl) (by rfl) ?_
    refine Ls.nil ?_
    refine Cd.ret ?_
    refine Ent.ret (()) (trivial) (Res.tmp_cell_tmp 1 (by rfl) (by rfl) (by rfl) (by rfl) (n := 12) (by kernel_rfl) (by rfl) (by rfl) (by rfl)) ?_ [] (by rfl) ?_
    · rfl
    · rfl
  skip
  have h4 : i ≠ 4 := by have := of_decide_eq_false h4; omega
  refine Cd.seq ?_
  refine Cd.region ?_
  refine Ls.ev (some 27) (Ev.eql (show Oper.op _ = Op.binOp BinOp.eql 3 (Operand.tmp 10) (Operand.const (Value.int IntKind.i64 5)) 3 from rfl) (by rfl) (by rfl)) (by rfl) (by rfl) ?_
  refine Ls.ev (some 26) (Ev.assign (show Oper.op _ = Op.assign (Operand.tmp 27) from rfl) (by rfl)) (by rfl) (by rfl) ?_
  refine Ls.nil ?_
  refine Cd.cond _ (by rfl) (fun h5 => ?_) (fun h5 => ?_)
  · skip
    obtain rfl : i = 5 := by have := of_decide_eq_true h5; omega
    obtain rfl : (⟨[106, 117, 100, 103, 101], 7, 0, 0, []⟩ : CmdP) = c := Option.some.inj hc
    refine Cd.seq ?_
    refine Cd.region ?_
    refine Ls.ev (some 28) (Ev.buildP (pl := [(0, 1), (1, 1), (2, 1), (3, 1), (4, 8)]) (zs := [.int .i64 0, .int .i64 0, .int .i64 0, .int .i64 0, .int .i64 0, .int .i64 0, .int .i64 0, .int .i64 0, .int .i64 0, .int .i64 0, .slice none 0 0, .slice none 0 0]) (show Oper.op _ = Op.build 43 #[(0, Operand.const (Value.int IntKind.i64 7))] from rfl) (by rfl) (by kernel_rfl) (by rfl)) (by rfl) (by rfl) ?_
    refine Ls.ev (some 2) (Ev.assign (show Oper.op _ = Op.assign (Operand.const (Value.string { data := #[106, 117, 100, 103, 101] })) from rfl) (by rfl)) (by rfl) (by rfl) ?_
    refine Ls.does none (Does.store 1 (show Oper.op _ = Op.store 43 (Operand.tmp 3) (Operand.tmp 28) from rfl) (by rfl) (by rfl) (by rfl) (by kernel_rfl) (by rfl) (by kernel_rfl) (by rfl)) (by rfl) (by rfl) ?_
    intro _ _
    refine Ls.ev (some 4) (Ev.assign (show Oper.op _ = Op.assign (Operand.const (Value.string { data := #[] })) from rfl) (by rfl)) (by rfl) (by rfl) ?_
    refine Ls.nil ?_
    refine Cd.ret ?_
    refine Ent.ret (()) (trivial) (Res.tmp_cell_tmp 1 (by rfl) (by rfl) (by rfl) (by rfl) (n := 12) (by kernel_rfl) (by rfl) (by rfl) (by rfl)) ?_ [] (by rfl) ?_
    · rfl
    · rfl
  skip
  have h5 : i ≠ 5 := by have := of_decide_eq_false h5; omega
  refine Cd.seq ?_
  refine Cd.region ?_
  refine Ls.ev (some 30) (Ev.eql (show Oper.op _ = Op.binOp BinOp.eql 3 (Operand.tmp 10) (Operand.const (Value.int IntKind.i64 6)) 3 from rfl) (by rfl) (by rfl)) (by rfl) (by rfl) ?_
  refine Ls.ev (some 29) (Ev.assign (show Oper.op _ = Op.assign (Operand.tmp 30) from rfl) (by rfl)) (by rfl) (by rfl) ?_
  refine Ls.nil ?_
  refine Cd.cond _ (by rfl) (fun h6 => ?_) (fun h6 => ?_)
  · skip
    obtain rfl : i = 6 := by have := of_decide_eq_true h6; omega
    obtain rfl : (⟨[115, 101, 101, 110], 8, 0, 0, []⟩ : CmdP) = c := Option.some.inj hc
    refine Cd.seq ?_
    refine Cd.region ?_
    refine Ls.ev (some 31) (Ev.buildP (pl := [(0, 1), (1, 1), (2, 1), (3, 1), (4, 8)]) (zs := [.int .i64 0, .int .i64 0, .int .i64 0, .int .i64 0, .int .i64 0, .int .i64 0, .int .i64 0, .int .i64 0, .int .i64 0, .int .i64 0, .slice none 0 0, .slice none 0 0]) (show Oper.op _ = Op.build 43 #[(0, Operand.const (Value.int IntKind.i64 8))] from rfl) (by rfl) (by kernel_rfl) (by rfl)) (by rfl) (by rfl) ?_
    refine Ls.ev (some 2) (Ev.assign (show Oper.op _ = Op.assign (Operand.const (Value.string { data := #[115, 101, 101, 110] })) from rfl) (by rfl)) (by rfl) (by rfl) ?_
    refine Ls.does none (Does.store 1 (show Oper.op _ = Op.store 43 (Operand.tmp 3) (Operand.tmp 31) from rfl) (by rfl) (by rfl) (by rfl) (by kernel_rfl) (by rfl) (by kernel_rfl) (by rfl)) (by rfl) (by rfl) ?_
    intro _ _
    refine Ls.ev (some 4) (Ev.assign (show Oper.op _ = Op.assign (Operand.const (Value.string { data := #[] })) from rfl) (by rfl)) (by rfl) (by rfl) ?_
    refine Ls.nil ?_
    refine Cd.ret ?_
    refine Ent.ret (()) (trivial) (Res.tmp_cell_tmp 1 (by rfl) (by rfl) (by rfl) (by rfl) (n := 12) (by kernel_rfl) (by rfl) (by rfl) (by rfl)) ?_ [] (by rfl) ?_
    · rfl
    · rfl
  skip
  have h6 : i ≠ 6 := by have := of_decide_eq_false h6; omega
  refine Cd.seq ?_
  refine Cd.region ?_
  refine Ls.ev (some 33) (Ev.eql (show Oper.op _ = Op.binOp BinOp.eql 3 (Operand.tmp 10) (Operand.const (Value.int IntKind.i64 7)) 3 from rfl) (by rfl) (by rfl)) (by rfl) (by rfl) ?_
  refine Ls.ev (some 32) (Ev.assign (show Oper.op _ = Op.assign (Operand.tmp 33) from rfl) (by rfl)) (by rfl) (by rfl) ?_
  refine Ls.nil ?_
  refine Cd.cond _ (by rfl) (fun h7 => ?_) (fun h7 => ?_)
  · skip
    obtain rfl : i = 7 := by have := of_decide_eq_true h7; omega
    obtain rfl : (⟨[100, 101, 108, 105, 118, 101, 114], 4, 2, 0, [.x]⟩ : CmdP) = c := Option.some.inj hc
    refine Cd.region ?_
    refine Ls.ev (some 6) (Ev.assign (show Oper.op _ = Op.assign (Operand.const (Value.string { data := #[100, 101, 108, 105, 118, 101, 114] })) from rfl) (by rfl)) (by rfl) (by rfl) ?_
    refine Ls.ev (some 34) (Ev.fieldAddr (k := 4) (show Oper.op _ = Op.fieldAddr 43 (Operand.tmp 5) 4 from rfl) (by rfl) (by kernel_rfl) (by rfl)) (by rfl) (by rfl) ?_
    refine Ls.ev (some 35) (Ev.fieldAddr (k := 0) (show Oper.op _ = Op.fieldAddr 41 (Operand.tmp 34) 0 from rfl) (by rfl) (by kernel_rfl) (by rfl)) (by rfl) (by rfl) ?_
    refine Ls.does none (Does.store 0 (show Oper.op _ = Op.store 34 (Operand.tmp 35) (Operand.const (Value.int IntKind.i64 2)) from rfl) (by rfl) (by rfl) (by rfl) (by kernel_rfl) (by rfl) (by kernel_rfl) (by rfl)) (by rfl) (by rfl) ?_
    intro _ _
    refine Ls.nil ?_
    refine Cd.seq ?_
    refine Cd.seq ?_
    refine Cd.region ?_
    refine Ls.ev (some 84) (Ev.move (show Oper.op _ = Op.move (Operand.tmp 8) from rfl) (by rfl)) (by rfl) (by rfl) ?_
    refine Ls.ev (some 85) (Ev.gtr (show Oper.op _ = Op.binOp BinOp.gtr 3 (Operand.tmp 84) (Operand.const (Value.int IntKind.i64 0)) 3 from rfl) (by rfl) (by rfl)) (by rfl) (by rfl) ?_
    refine Ls.nil ?_
    refine Cd.cond_false (by rfl) (rfl) ?_
    refine Cd.skip ?_
    refine Cd.seq ?_
    refine Cd.draw [4] (by kernel_rfl) ?_
    refine Rg.ev 0 (by rfl) (fun _ h => h) (Ev.move (show Oper.op _ = Op.move (Operand.tmp 6) from rfl) (by rfl)) (by rfl) (some 92) (by rfl) (by kernel_rfl) (by kernel_rfl) (by kernel_rfl) (by kernel_rfl) ?_
    refine Rg.ev 1 (by rfl) (fun _ h => h) (Ev.loads 0 (show Oper.op _ = Op.load 43 (Operand.tmp 5) from rfl) (by rfl) (by rfl) (n := 12) (by kernel_rfl) (by rfl) (by rfl)) (by rfl) (some 93) (by rfl) (by kernel_rfl) (by kernel_rfl) (by kernel_rfl) (by kernel_rfl) ?_
    refine Rg.mv 2 (by rfl) (fun _ h => h) (show Oper.op _ = Op.move (Operand.tmp 7) from rfl) (by rfl) (by rfl) (some 94) (by rfl) (by kernel_rfl) (by kernel_rfl) (by kernel_rfl) (by kernel_rfl) ?_
    refine Rg.ev 3 (by rfl) (fun _ h => h) (Ev.assign (show Oper.op _ = Op.assign (Operand.tmp 92) from rfl) (by rfl)) (by rfl) (some 2) (by rfl) (by kernel_rfl) (by kernel_rfl) (by kernel_rfl) (by kernel_rfl) ?_
    refine Rg.tail 4 [] (by rfl) (by kernel_rfl) (Does.store 1 (show Oper.op _ = Op.store 43 (Operand.tmp 3) (Operand.tmp 93) from rfl) (by rfl) (by rfl) (by rfl) (by kernel_rfl) (by rfl) (by kernel_rfl) (by rfl)) (by rfl) none (by rfl) (by kernel_rfl) (by kernel_rfl) ?_
    intro _ _
    refine Rg.ev 5 (by rfl) (fun _ h => h) (Ev.assign (show Oper.op _ = Op.assign (Operand.tmp 94) from rfl) (by rfl)) (by rfl) (some 4) (by rfl) (by kernel_rfl) (by kernel_rfl) (by kernel_rfl) (by kernel_rfl) ?_
    refine Rg.done (by kernel_rfl) ?_ _
    refine Cd.ret ?_
    refine Ent.ret (()) (trivial) (Res.tmp_cell_tmp 1 (by rfl) (by rfl) (by rfl) (by rfl) (n := 12) (by kernel_rfl) (by rfl) (by rfl) (by rfl)) ?_ [] (by rfl) ?_
    · rfl
    · rfl
  skip
  have h7 : i ≠ 7 := by have := of_decide_eq_false h7; omega
  refine Cd.seq ?_
  refine Cd.region ?_
  refine Ls.ev (some 37) (Ev.eql (show Oper.op _ = Op.binOp BinOp.eql 3 (Operand.tmp 10) (Operand.const (Value.int IntKind.i64 8)) 3 from rfl) (by rfl) (by rfl)) (by rfl) (by rfl) ?_
  refine Ls.ev (some 36) (Ev.assign (show Oper.op _ = Op.assign (Operand.tmp 37) from rfl) (by rfl)) (by rfl) (by rfl) ?_
  refine Ls.nil ?_
  refine Cd.cond _ (by rfl) (fun h8 => ?_) (fun h8 => ?_)
  · skip
    obtain rfl : i = 8 := by have := of_decide_eq_true h8; omega
    obtain rfl : (⟨[100, 114, 111, 112], 4, 3, 0, [.x]⟩ : CmdP) = c := Option.some.inj hc
    refine Cd.region ?_
    refine Ls.ev (some 6) (Ev.assign (show Oper.op _ = Op.assign (Operand.const (Value.string { data := #[100, 114, 111, 112] })) from rfl) (by rfl)) (by rfl) (by rfl) ?_
    refine Ls.ev (some 38) (Ev.fieldAddr (k := 4) (show Oper.op _ = Op.fieldAddr 43 (Operand.tmp 5) 4 from rfl) (by rfl) (by kernel_rfl) (by rfl)) (by rfl) (by rfl) ?_
    refine Ls.ev (some 39) (Ev.fieldAddr (k := 0) (show Oper.op _ = Op.fieldAddr 41 (Operand.tmp 38) 0 from rfl) (by rfl) (by kernel_rfl) (by rfl)) (by rfl) (by rfl) ?_
    refine Ls.does none (Does.store 0 (show Oper.op _ = Op.store 34 (Operand.tmp 39) (Operand.const (Value.int IntKind.i64 3)) from rfl) (by rfl) (by rfl) (by rfl) (by kernel_rfl) (by rfl) (by kernel_rfl) (by rfl)) (by rfl) (by rfl) ?_
    intro _ _
    refine Ls.nil ?_
    refine Cd.seq ?_
    refine Cd.seq ?_
    refine Cd.region ?_
    refine Ls.ev (some 84) (Ev.move (show Oper.op _ = Op.move (Operand.tmp 8) from rfl) (by rfl)) (by rfl) (by rfl) ?_
    refine Ls.ev (some 85) (Ev.gtr (show Oper.op _ = Op.binOp BinOp.gtr 3 (Operand.tmp 84) (Operand.const (Value.int IntKind.i64 0)) 3 from rfl) (by rfl) (by rfl)) (by rfl) (by rfl) ?_
    refine Ls.nil ?_
    refine Cd.cond_false (by rfl) (rfl) ?_
    refine Cd.skip ?_
    refine Cd.seq ?_
    refine Cd.draw [4] (by kernel_rfl) ?_
    refine Rg.ev 0 (by rfl) (fun _ h => h) (Ev.move (show Oper.op _ = Op.move (Operand.tmp 6) from rfl) (by rfl)) (by rfl) (some 92) (by rfl) (by kernel_rfl) (by kernel_rfl) (by kernel_rfl) (by kernel_rfl) ?_
    refine Rg.ev 1 (by rfl) (fun _ h => h) (Ev.loads 0 (show Oper.op _ = Op.load 43 (Operand.tmp 5) from rfl) (by rfl) (by rfl) (n := 12) (by kernel_rfl) (by rfl) (by rfl)) (by rfl) (some 93) (by rfl) (by kernel_rfl) (by kernel_rfl) (by kernel_rfl) (by kernel_rfl) ?_
    refine Rg.mv 2 (by rfl) (fun _ h => h) (show Oper.op _ = Op.move (Operand.tmp 7) from rfl) (by rfl) (by rfl) (some 94) (by rfl) (by kernel_rfl) (by kernel_rfl) (by kernel_rfl) (by kernel_rfl) ?_
    refine Rg.ev 3 (by rfl) (fun _ h => h) (Ev.assign (show Oper.op _ = Op.assign (Operand.tmp 92) from rfl) (by rfl)) (by rfl) (some 2) (by rfl) (by kernel_rfl) (by kernel_rfl) (by kernel_rfl) (by kernel_rfl) ?_
    refine Rg.tail 4 [] (by rfl) (by kernel_rfl) (Does.store 1 (show Oper.op _ = Op.store 43 (Operand.tmp 3) (Operand.tmp 93) from rfl) (by rfl) (by rfl) (by rfl) (by kernel_rfl) (by rfl) (by kernel_rfl) (by rfl)) (by rfl) none (by rfl) (by kernel_rfl) (by kernel_rfl) ?_
    intro _ _
    refine Rg.ev 5 (by rfl) (fun _ h => h) (Ev.assign (show Oper.op _ = Op.assign (Operand.tmp 94) from rfl) (by rfl)) (by rfl) (some 4) (by rfl) (by kernel_rfl) (by kernel_rfl) (by kernel_rfl) (by kernel_rfl) ?_
    refine Rg.done (by kernel_rfl) ?_ _
    refine Cd.ret ?_
    refine Ent.ret (()) (trivial) (Res.tmp_cell_tmp 1 (by rfl) (by rfl) (by rfl) (by rfl) (n := 12) (by kernel_rfl) (by rfl) (by rfl) (by rfl)) ?_ [] (by rfl) ?_
    · rfl
    · rfl
  skip
  have h8 : i ≠ 8 := by have := of_decide_eq_false h8; omega
  refine Cd.seq ?_
  refine Cd.region ?_
  refine Ls.ev (some 41) (Ev.eql (show Oper.op _ = Op.binOp BinOp.eql 3 (Operand.tmp 10) (Operand.const (Value.int IntKind.i64 9)) 3 from rfl) (by rfl) (by rfl)) (by rfl) (by rfl) ?_
  refine Ls.ev (some 40) (Ev.assign (show Oper.op _ = Op.assign (Operand.tmp 41) from rfl) (by rfl)) (by rfl) (by rfl) ?_
  refine Ls.nil ?_
  refine Cd.cond _ (by rfl) (fun h9 => ?_) (fun h9 => ?_)
  · skip
    obtain rfl : i = 9 := by have := of_decide_eq_true h9; omega
    obtain rfl : (⟨[99, 111, 112, 121], 4, 4, 0, [.x]⟩ : CmdP) = c := Option.some.inj hc
    refine Cd.region ?_
    refine Ls.ev (some 6) (Ev.assign (show Oper.op _ = Op.assign (Operand.const (Value.string { data := #[99, 111, 112, 121] })) from rfl) (by rfl)) (by rfl) (by rfl) ?_
    refine Ls.ev (some 42) (Ev.fieldAddr (k := 4) (show Oper.op _ = Op.fieldAddr 43 (Operand.tmp 5) 4 from rfl) (by rfl) (by kernel_rfl) (by rfl)) (by rfl) (by rfl) ?_
    refine Ls.ev (some 43) (Ev.fieldAddr (k := 0) (show Oper.op _ = Op.fieldAddr 41 (Operand.tmp 42) 0 from rfl) (by rfl) (by kernel_rfl) (by rfl)) (by rfl) (by rfl) ?_
    refine Ls.does none (Does.store 0 (show Oper.op _ = Op.store 34 (Operand.tmp 43) (Operand.const (Value.int IntKind.i64 4)) from rfl) (by rfl) (by rfl) (by rfl) (by kernel_rfl) (by rfl) (by kernel_rfl) (by rfl)) (by rfl) (by rfl) ?_
    intro _ _
    refine Ls.nil ?_
    refine Cd.seq ?_
    refine Cd.seq ?_
    refine Cd.region ?_
    refine Ls.ev (some 84) (Ev.move (show Oper.op _ = Op.move (Operand.tmp 8) from rfl) (by rfl)) (by rfl) (by rfl) ?_
    refine Ls.ev (some 85) (Ev.gtr (show Oper.op _ = Op.binOp BinOp.gtr 3 (Operand.tmp 84) (Operand.const (Value.int IntKind.i64 0)) 3 from rfl) (by rfl) (by rfl)) (by rfl) (by rfl) ?_
    refine Ls.nil ?_
    refine Cd.cond_false (by rfl) (rfl) ?_
    refine Cd.skip ?_
    refine Cd.seq ?_
    refine Cd.draw [4] (by kernel_rfl) ?_
    refine Rg.ev 0 (by rfl) (fun _ h => h) (Ev.move (show Oper.op _ = Op.move (Operand.tmp 6) from rfl) (by rfl)) (by rfl) (some 92) (by rfl) (by kernel_rfl) (by kernel_rfl) (by kernel_rfl) (by kernel_rfl) ?_
    refine Rg.ev 1 (by rfl) (fun _ h => h) (Ev.loads 0 (show Oper.op _ = Op.load 43 (Operand.tmp 5) from rfl) (by rfl) (by rfl) (n := 12) (by kernel_rfl) (by rfl) (by rfl)) (by rfl) (some 93) (by rfl) (by kernel_rfl) (by kernel_rfl) (by kernel_rfl) (by kernel_rfl) ?_
    refine Rg.mv 2 (by rfl) (fun _ h => h) (show Oper.op _ = Op.move (Operand.tmp 7) from rfl) (by rfl) (by rfl) (some 94) (by rfl) (by kernel_rfl) (by kernel_rfl) (by kernel_rfl) (by kernel_rfl) ?_
    refine Rg.ev 3 (by rfl) (fun _ h => h) (Ev.assign (show Oper.op _ = Op.assign (Operand.tmp 92) from rfl) (by rfl)) (by rfl) (some 2) (by rfl) (by kernel_rfl) (by kernel_rfl) (by kernel_rfl) (by kernel_rfl) ?_
    refine Rg.tail 4 [] (by rfl) (by kernel_rfl) (Does.store 1 (show Oper.op _ = Op.store 43 (Operand.tmp 3) (Operand.tmp 93) from rfl) (by rfl) (by rfl) (by rfl) (by kernel_rfl) (by rfl) (by kernel_rfl) (by rfl)) (by rfl) none (by rfl) (by kernel_rfl) (by kernel_rfl) ?_
    intro _ _
    refine Rg.ev 5 (by rfl) (fun _ h => h) (Ev.assign (show Oper.op _ = Op.assign (Operand.tmp 94) from rfl) (by rfl)) (by rfl) (some 4) (by rfl) (by kernel_rfl) (by kernel_rfl) (by kernel_rfl) (by kernel_rfl) ?_
    refine Rg.done (by kernel_rfl) ?_ _
    refine Cd.ret ?_
    refine Ent.ret (()) (trivial) (Res.tmp_cell_tmp 1 (by rfl) (by rfl) (by rfl) (by rfl) (n := 12) (by kernel_rfl) (by rfl) (by rfl) (by rfl)) ?_ [] (by rfl) ?_
    · rfl
    · rfl
  skip
  have h9 : i ≠ 9 := by have := of_decide_eq_false h9; omega
  refine Cd.seq ?_
  refine Cd.region ?_
  refine Ls.ev (some 45) (Ev.eql (show Oper.op _ = Op.binOp BinOp.eql 3 (Operand.tmp 10) (Operand.const (Value.int IntKind.i64 10)) 3 from rfl) (by rfl) (by rfl)) (by rfl) (by rfl) ?_
  refine Ls.ev (some 44) (Ev.assign (show Oper.op _ = Op.assign (Operand.tmp 45) from rfl) (by rfl)) (by rfl) (by rfl) ?_
  refine Ls.nil ?_
  refine Cd.cond _ (by rfl) (fun h10 => ?_) (fun h10 => ?_)
  · skip
    obtain rfl : i = 10 := by have := of_decide_eq_true h10; omega
    obtain rfl : (⟨[116, 105, 99, 107], 4, 5, 0, [.x]⟩ : CmdP) = c := Option.some.inj hc
    refine Cd.region ?_
    refine Ls.ev (some 6) (Ev.assign (show Oper.op _ = Op.assign (Operand.const (Value.string { data := #[116, 105, 99, 107] })) from rfl) (by rfl)) (by rfl) (by rfl) ?_
    refine Ls.ev (some 46) (Ev.fieldAddr (k := 4) (show Oper.op _ = Op.fieldAddr 43 (Operand.tmp 5) 4 from rfl) (by rfl) (by kernel_rfl) (by rfl)) (by rfl) (by rfl) ?_
    refine Ls.ev (some 47) (Ev.fieldAddr (k := 0) (show Oper.op _ = Op.fieldAddr 41 (Operand.tmp 46) 0 from rfl) (by rfl) (by kernel_rfl) (by rfl)) (by rfl) (by rfl) ?_
    refine Ls.does none (Does.store 0 (show Oper.op _ = Op.store 34 (Operand.tmp 47) (Operand.const (Value.int IntKind.i64 5)) from rfl) (by rfl) (by rfl) (by rfl) (by kernel_rfl) (by rfl) (by kernel_rfl) (by rfl)) (by rfl) (by rfl) ?_
    intro _ _
    refine Ls.nil ?_
    refine Cd.seq ?_
    refine Cd.seq ?_
    refine Cd.region ?_
    refine Ls.ev (some 84) (Ev.move (show Oper.op _ = Op.move (Operand.tmp 8) from rfl) (by rfl)) (by rfl) (by rfl) ?_
    refine Ls.ev (some 85) (Ev.gtr (show Oper.op _ = Op.binOp BinOp.gtr 3 (Operand.tmp 84) (Operand.const (Value.int IntKind.i64 0)) 3 from rfl) (by rfl) (by rfl)) (by rfl) (by rfl) ?_
    refine Ls.nil ?_
    refine Cd.cond_false (by rfl) (rfl) ?_
    refine Cd.skip ?_
    refine Cd.seq ?_
    refine Cd.draw [4] (by kernel_rfl) ?_
    refine Rg.ev 0 (by rfl) (fun _ h => h) (Ev.move (show Oper.op _ = Op.move (Operand.tmp 6) from rfl) (by rfl)) (by rfl) (some 92) (by rfl) (by kernel_rfl) (by kernel_rfl) (by kernel_rfl) (by kernel_rfl) ?_
    refine Rg.ev 1 (by rfl) (fun _ h => h) (Ev.loads 0 (show Oper.op _ = Op.load 43 (Operand.tmp 5) from rfl) (by rfl) (by rfl) (n := 12) (by kernel_rfl) (by rfl) (by rfl)) (by rfl) (some 93) (by rfl) (by kernel_rfl) (by kernel_rfl) (by kernel_rfl) (by kernel_rfl) ?_
    refine Rg.mv 2 (by rfl) (fun _ h => h) (show Oper.op _ = Op.move (Operand.tmp 7) from rfl) (by rfl) (by rfl) (some 94) (by rfl) (by kernel_rfl) (by kernel_rfl) (by kernel_rfl) (by kernel_rfl) ?_
    refine Rg.ev 3 (by rfl) (fun _ h => h) (Ev.assign (show Oper.op _ = Op.assign (Operand.tmp 92) from rfl) (by rfl)) (by rfl) (some 2) (by rfl) (by kernel_rfl) (by kernel_rfl) (by kernel_rfl) (by kernel_rfl) ?_
    refine Rg.tail 4 [] (by rfl) (by kernel_rfl) (Does.store 1 (show Oper.op _ = Op.store 43 (Operand.tmp 3) (Operand.tmp 93) from rfl) (by rfl) (by rfl) (by rfl) (by kernel_rfl) (by rfl) (by kernel_rfl) (by rfl)) (by rfl) none (by rfl) (by kernel_rfl) (by kernel_rfl) ?_
    intro _ _
    refine Rg.ev 5 (by rfl) (fun _ h => h) (Ev.assign (show Oper.op _ = Op.assign (Operand.tmp 94) from rfl) (by rfl)) (by rfl) (some 4) (by rfl) (by kernel_rfl) (by kernel_rfl) (by kernel_rfl) (by kernel_rfl) ?_
    refine Rg.done (by kernel_rfl) ?_ _
    refine Cd.ret ?_
    refine Ent.ret (()) (trivial) (Res.tmp_cell_tmp 1 (by rfl) (by rfl) (by rfl) (by rfl) (n := 12) (by kernel_rfl) (by rfl) (by rfl) (by rfl)) ?_ [] (by rfl) ?_
    · rfl
    · rfl
  skip
  have h10 : i ≠ 10 := by have := of_decide_eq_false h10; omega
  refine Cd.seq ?_
  refine Cd.region ?_
  refine Ls.ev (some 49) (Ev.eql (show Oper.op _ = Op.binOp BinOp.eql 3 (Operand.tmp 10) (Operand.const (Value.int IntKind.i64 11)) 3 from rfl) (by rfl) (by rfl)) (by rfl) (by rfl) ?_
  refine Ls.ev (some 48) (Ev.assign (show Oper.op _ = Op.assign (Operand.tmp 49) from rfl) (by rfl)) (by rfl) (by rfl) ?_
  refine Ls.nil ?_
  refine Cd.cond _ (by rfl) (fun h11 => ?_) (fun h11 => ?_)
  · skip
    obtain rfl : i = 11 := by have := of_decide_eq_true h11; omega
    obtain rfl : (⟨[115, 116, 101, 112], 4, 6, 0, [.x]⟩ : CmdP) = c := Option.some.inj hc
    refine Cd.region ?_
    refine Ls.ev (some 6) (Ev.assign (show Oper.op _ = Op.assign (Operand.const (Value.string { data := #[115, 116, 101, 112] })) from rfl) (by rfl)) (by rfl) (by rfl) ?_
    refine Ls.ev (some 50) (Ev.fieldAddr (k := 4) (show Oper.op _ = Op.fieldAddr 43 (Operand.tmp 5) 4 from rfl) (by rfl) (by kernel_rfl) (by rfl)) (by rfl) (by rfl) ?_
    refine Ls.ev (some 51) (Ev.fieldAddr (k := 0) (show Oper.op _ = Op.fieldAddr 41 (Operand.tmp 50) 0 from rfl) (by rfl) (by kernel_rfl) (by rfl)) (by rfl) (by rfl) ?_
    refine Ls.does none (Does.store 0 (show Oper.op _ = Op.store 34 (Operand.tmp 51) (Operand.const (Value.int IntKind.i64 6)) from rfl) (by rfl) (by rfl) (by rfl) (by kernel_rfl) (by rfl) (by kernel_rfl) (by rfl)) (by rfl) (by rfl) ?_
    intro _ _
    refine Ls.nil ?_
    refine Cd.seq ?_
    refine Cd.seq ?_
    refine Cd.region ?_
    refine Ls.ev (some 84) (Ev.move (show Oper.op _ = Op.move (Operand.tmp 8) from rfl) (by rfl)) (by rfl) (by rfl) ?_
    refine Ls.ev (some 85) (Ev.gtr (show Oper.op _ = Op.binOp BinOp.gtr 3 (Operand.tmp 84) (Operand.const (Value.int IntKind.i64 0)) 3 from rfl) (by rfl) (by rfl)) (by rfl) (by rfl) ?_
    refine Ls.nil ?_
    refine Cd.cond_false (by rfl) (rfl) ?_
    refine Cd.skip ?_
    refine Cd.seq ?_
    refine Cd.draw [4] (by kernel_rfl) ?_
    refine Rg.ev 0 (by rfl) (fun _ h => h) (Ev.move (show Oper.op _ = Op.move (Operand.tmp 6) from rfl) (by rfl)) (by rfl) (some 92) (by rfl) (by kernel_rfl) (by kernel_rfl) (by kernel_rfl) (by kernel_rfl) ?_
    refine Rg.ev 1 (by rfl) (fun _ h => h) (Ev.loads 0 (show Oper.op _ = Op.load 43 (Operand.tmp 5) from rfl) (by rfl) (by rfl) (n := 12) (by kernel_rfl) (by rfl) (by rfl)) (by rfl) (some 93) (by rfl) (by kernel_rfl) (by kernel_rfl) (by kernel_rfl) (by kernel_rfl) ?_
    refine Rg.mv 2 (by rfl) (fun _ h => h) (show Oper.op _ = Op.move (Operand.tmp 7) from rfl) (by rfl) (by rfl) (some 94) (by rfl) (by kernel_rfl) (by kernel_rfl) (by kernel_rfl) (by kernel_rfl) ?_
    refine Rg.ev 3 (by rfl) (fun _ h => h) (Ev.assign (show Oper.op _ = Op.assign (Operand.tmp 92) from rfl) (by rfl)) (by rfl) (some 2) (by rfl) (by kernel_rfl) (by kernel_rfl) (by kernel_rfl) (by kernel_rfl) ?_
    refine Rg.tail 4 [] (by rfl) (by kernel_rfl) (Does.store 1 (show Oper.op _ = Op.store 43 (Operand.tmp 3) (Operand.tmp 93) from rfl) (by rfl) (by rfl) (by rfl) (by kernel_rfl) (by rfl) (by kernel_rfl) (by rfl)) (by rfl) none (by rfl) (by kernel_rfl) (by kernel_rfl) ?_
    intro _ _
    refine Rg.ev 5 (by rfl) (fun _ h => h) (Ev.assign (show Oper.op _ = Op.assign (Operand.tmp 94) from rfl) (by rfl)) (by rfl) (some 4) (by rfl) (by kernel_rfl) (by kernel_rfl) (by kernel_rfl) (by kernel_rfl) ?_
    refine Rg.done (by kernel_rfl) ?_ _
    refine Cd.ret ?_
    refine Ent.ret (()) (trivial) (Res.tmp_cell_tmp 1 (by rfl) (by rfl) (by rfl) (by rfl) (n := 12) (by kernel_rfl) (by rfl) (by rfl) (by rfl)) ?_ [] (by rfl) ?_
    · rfl
    · rfl
  skip
  have h11 : i ≠ 11 := by have := of_decide_eq_false h11; omega
  refine Cd.seq ?_
  refine Cd.region ?_
  refine Ls.ev (some 53) (Ev.eql (show Oper.op _ = Op.binOp BinOp.eql 3 (Operand.tmp 10) (Operand.const (Value.int IntKind.i64 12)) 3 from rfl) (by rfl) (by rfl)) (by rfl) (by rfl) ?_
  refine Ls.ev (some 52) (Ev.assign (show Oper.op _ = Op.assign (Operand.tmp 53) from rfl) (by rfl)) (by rfl) (by rfl) ?_
  refine Ls.nil ?_
  refine Cd.cond _ (by rfl) (fun h12 => ?_) (fun h12 => ?_)
  · skip
    obtain rfl : i = 12 := by have := of_decide_eq_true h12; omega
    obtain rfl : (⟨[97, 114, 109], 4, 7, 0, [.x, .y]⟩ : CmdP) = c := Option.some.inj hc
    refine Cd.region ?_
    refine Ls.ev (some 6) (Ev.assign (show Oper.op _ = Op.assign (Operand.const (Value.string { data := #[97, 114, 109] })) from rfl) (by rfl)) (by rfl) (by rfl) ?_
    refine Ls.ev (some 54) (Ev.fieldAddr (k := 4) (show Oper.op _ = Op.fieldAddr 43 (Operand.tmp 5) 4 from rfl) (by rfl) (by kernel_rfl) (by rfl)) (by rfl) (by rfl) ?_
    refine Ls.ev (some 55) (Ev.fieldAddr (k := 0) (show Oper.op _ = Op.fieldAddr 41 (Operand.tmp 54) 0 from rfl) (by rfl) (by kernel_rfl) (by rfl)) (by rfl) (by rfl) ?_
    refine Ls.does none (Does.store 0 (show Oper.op _ = Op.store 34 (Operand.tmp 55) (Operand.const (Value.int IntKind.i64 7)) from rfl) (by rfl) (by rfl) (by rfl) (by kernel_rfl) (by rfl) (by kernel_rfl) (by rfl)) (by rfl) (by rfl) ?_
    intro _ _
    refine Ls.ev (some 7) (Ev.assign (show Oper.op _ = Op.assign (Operand.const (Value.string { data := #[120, 121] })) from rfl) (by rfl)) (by rfl) (by rfl) ?_
    refine Ls.nil ?_
    refine Cd.seq ?_
    refine Cd.seq ?_
    refine Cd.region ?_
    refine Ls.ev (some 84) (Ev.move (show Oper.op _ = Op.move (Operand.tmp 8) from rfl) (by rfl)) (by rfl) (by rfl) ?_
    refine Ls.ev (some 85) (Ev.gtr (show Oper.op _ = Op.binOp BinOp.gtr 3 (Operand.tmp 84) (Operand.const (Value.int IntKind.i64 0)) 3 from rfl) (by rfl) (by rfl)) (by rfl) (by rfl) ?_
    refine Ls.nil ?_
    refine Cd.cond_false (by rfl) (rfl) ?_
    refine Cd.skip ?_
    refine Cd.seq ?_
    refine Cd.draw [4] (by kernel_rfl) ?_
    refine Rg.ev 0 (by rfl) (fun _ h => h) (Ev.move (show Oper.op _ = Op.move (Operand.tmp 6) from rfl) (by rfl)) (by rfl) (some 92) (by rfl) (by kernel_rfl) (by kernel_rfl) (by kernel_rfl) (by kernel_rfl) ?_
    refine Rg.ev 1 (by rfl) (fun _ h => h) (Ev.loads 0 (show Oper.op _ = Op.load 43 (Operand.tmp 5) from rfl) (by rfl) (by rfl) (n := 12) (by kernel_rfl) (by rfl) (by rfl)) (by rfl) (some 93) (by rfl) (by kernel_rfl) (by kernel_rfl) (by kernel_rfl) (by kernel_rfl) ?_
    refine Rg.mv 2 (by rfl) (fun _ h => h) (show Oper.op _ = Op.move (Operand.tmp 7) from rfl) (by rfl) (by rfl) (some 94) (by rfl) (by kernel_rfl) (by kernel_rfl) (by kernel_rfl) (by kernel_rfl) ?_
    refine Rg.ev 3 (by rfl) (fun _ h => h) (Ev.assign (show Oper.op _ = Op.assign (Operand.tmp 92) from rfl) (by rfl)) (by rfl) (some 2) (by rfl) (by kernel_rfl) (by kernel_rfl) (by kernel_rfl) (by kernel_rfl) ?_
    refine Rg.tail 4 [] (by rfl) (by kernel_rfl) (Does.store 1 (show Oper.op _ = Op.store 43 (Operand.tmp 3) (Operand.tmp 93) from rfl) (by rfl) (by rfl) (by rfl) (by kernel_rfl) (by rfl) (by kernel_rfl) (by rfl)) (by rfl) none (by rfl) (by kernel_rfl) (by kernel_rfl) ?_
    intro _ _
    refine Rg.ev 5 (by rfl) (fun _ h => h) (Ev.assign (show Oper.op _ = Op.assign (Operand.tmp 94) from rfl) (by rfl)) (by rfl) (some 4) (by rfl) (by kernel_rfl) (by kernel_rfl) (by kernel_rfl) (by kernel_rfl) ?_
    refine Rg.done (by kernel_rfl) ?_ _
    refine Cd.ret ?_
    refine Ent.ret (()) (trivial) (Res.tmp_cell_tmp 1 (by rfl) (by rfl) (by rfl) (by rfl) (n := 12) (by kernel_rfl) (by rfl) (by rfl) (by rfl)) ?_ [] (by rfl) ?_
    · rfl
    · rfl
  skip
  have h12 : i ≠ 12 := by have := of_decide_eq_false h12; omega
  refine Cd.seq ?_
  refine Cd.region ?_
  refine Ls.ev (some 57) (Ev.eql (show Oper.op _ = Op.binOp BinOp.eql 3 (Operand.tmp 10) (Operand.const (Value.int IntKind.i64 13)) 3 from rfl) (by rfl) (by rfl)) (by rfl) (by rfl) ?_
  refine Ls.ev (some 56) (Ev.assign (show Oper.op _ = Op.assign (Operand.tmp 57) from rfl) (by rfl)) (by rfl) (by rfl) ?_
  refine Ls.nil ?_
  refine Cd.cond _ (by rfl) (fun h13 => ?_) (fun h13 => ?_)
  · skip
    obtain rfl : i = 13 := by have := of_decide_eq_true h13; omega
    obtain rfl : (⟨[99, 114, 97, 115, 104], 4, 8, 0, [.x, .k]⟩ : CmdP) = c := Option.some.inj hc
    refine Cd.region ?_
    refine Ls.ev (some 6) (Ev.assign (show Oper.op _ = Op.assign (Operand.const (Value.string { data := #[99, 114, 97, 115, 104] })) from rfl) (by rfl)) (by rfl) (by rfl) ?_
    refine Ls.ev (some 58) (Ev.fieldAddr (k := 4) (show Oper.op _ = Op.fieldAddr 43 (Operand.tmp 5) 4 from rfl) (by rfl) (by kernel_rfl) (by rfl)) (by rfl) (by rfl) ?_
    refine Ls.ev (some 59) (Ev.fieldAddr (k := 0) (show Oper.op _ = Op.fieldAddr 41 (Operand.tmp 58) 0 from rfl) (by rfl) (by kernel_rfl) (by rfl)) (by rfl) (by rfl) ?_
    refine Ls.does none (Does.store 0 (show Oper.op _ = Op.store 34 (Operand.tmp 59) (Operand.const (Value.int IntKind.i64 8)) from rfl) (by rfl) (by rfl) (by rfl) (by kernel_rfl) (by rfl) (by kernel_rfl) (by rfl)) (by rfl) (by rfl) ?_
    intro _ _
    refine Ls.ev (some 7) (Ev.assign (show Oper.op _ = Op.assign (Operand.const (Value.string { data := #[120, 107] })) from rfl) (by rfl)) (by rfl) (by rfl) ?_
    refine Ls.nil ?_
    refine Cd.seq ?_
    refine Cd.seq ?_
    refine Cd.region ?_
    refine Ls.ev (some 84) (Ev.move (show Oper.op _ = Op.move (Operand.tmp 8) from rfl) (by rfl)) (by rfl) (by rfl) ?_
    refine Ls.ev (some 85) (Ev.gtr (show Oper.op _ = Op.binOp BinOp.gtr 3 (Operand.tmp 84) (Operand.const (Value.int IntKind.i64 0)) 3 from rfl) (by rfl) (by rfl)) (by rfl) (by rfl) ?_
    refine Ls.nil ?_
    refine Cd.cond_false (by rfl) (rfl) ?_
    refine Cd.skip ?_
    refine Cd.seq ?_
    refine Cd.draw [4] (by kernel_rfl) ?_
    refine Rg.ev 0 (by rfl) (fun _ h => h) (Ev.move (show Oper.op _ = Op.move (Operand.tmp 6) from rfl) (by rfl)) (by rfl) (some 92) (by rfl) (by kernel_rfl) (by kernel_rfl) (by kernel_rfl) (by kernel_rfl) ?_
    refine Rg.ev 1 (by rfl) (fun _ h => h) (Ev.loads 0 (show Oper.op _ = Op.load 43 (Operand.tmp 5) from rfl) (by rfl) (by rfl) (n := 12) (by kernel_rfl) (by rfl) (by rfl)) (by rfl) (some 93) (by rfl) (by kernel_rfl) (by kernel_rfl) (by kernel_rfl) (by kernel_rfl) ?_
    refine Rg.mv 2 (by rfl) (fun _ h => h) (show Oper.op _ = Op.move (Operand.tmp 7) from rfl) (by rfl) (by rfl) (some 94) (by rfl) (by kernel_rfl) (by kernel_rfl) (by kernel_rfl) (by kernel_rfl) ?_
    refine Rg.ev 3 (by rfl) (fun _ h => h) (Ev.assign (show Oper.op _ = Op.assign (Operand.tmp 92) from rfl) (by rfl)) (by rfl) (some 2) (by rfl) (by kernel_rfl) (by kernel_rfl) (by kernel_rfl) (by kernel_rfl) ?_
    refine Rg.tail 4 [] (by rfl) (by kernel_rfl) (Does.store 1 (show Oper.op _ = Op.store 43 (Operand.tmp 3) (Operand.tmp 93) from rfl) (by rfl) (by rfl) (by rfl) (by kernel_rfl) (by rfl) (by kernel_rfl) (by rfl)) (by rfl) none (by rfl) (by kernel_rfl) (by kernel_rfl) ?_
    intro _ _
    refine Rg.ev 5 (by rfl) (fun _ h => h) (Ev.assign (show Oper.op _ = Op.assign (Operand.tmp 94) from rfl) (by rfl)) (by rfl) (some 4) (by rfl) (by kernel_rfl) (by kernel_rfl) (by kernel_rfl) (by kernel_rfl) ?_
    refine Rg.done (by kernel_rfl) ?_ _
    refine Cd.ret ?_
    refine Ent.ret (()) (trivial) (Res.tmp_cell_tmp 1 (by rfl) (by rfl) (by rfl) (by rfl) (n := 12) (by kernel_rfl) (by rfl) (by rfl) (by rfl)) ?_ [] (by rfl) ?_
    · rfl
    · rfl
  skip
  have h13 : i ≠ 13 := by have := of_decide_eq_false h13; omega
  refine Cd.seq ?_
  refine Cd.region ?_
  refine Ls.ev (some 61) (Ev.eql (show Oper.op _ = Op.binOp BinOp.eql 3 (Operand.tmp 10) (Operand.const (Value.int IntKind.i64 14)) 3 from rfl) (by rfl) (by rfl)) (by rfl) (by rfl) ?_
  refine Ls.ev (some 60) (Ev.assign (show Oper.op _ = Op.assign (Operand.tmp 61) from rfl) (by rfl)) (by rfl) (by rfl) ?_
  refine Ls.nil ?_
  refine Cd.cond _ (by rfl) (fun h14 => ?_) (fun h14 => ?_)
  · skip
    obtain rfl : i = 14 := by have := of_decide_eq_true h14; omega
    obtain rfl : (⟨[115, 116, 97, 114, 116], 4, 9, 0, [.x, .k]⟩ : CmdP) = c := Option.some.inj hc
    refine Cd.region ?_
    refine Ls.ev (some 6) (Ev.assign (show Oper.op _ = Op.assign (Operand.const (Value.string { data := #[115, 116, 97, 114, 116] })) from rfl) (by rfl)) (by rfl) (by rfl) ?_
    refine Ls.ev (some 62) (Ev.fieldAddr (k := 4) (show Oper.op _ = Op.fieldAddr 43 (Operand.tmp 5) 4 from rfl) (by rfl) (by kernel_rfl) (by rfl)) (by rfl) (by rfl) ?_
    refine Ls.ev (some 63) (Ev.fieldAddr (k := 0) (show Oper.op _ = Op.fieldAddr 41 (Operand.tmp 62) 0 from rfl) (by rfl) (by kernel_rfl) (by rfl)) (by rfl) (by rfl) ?_
    refine Ls.does none (Does.store 0 (show Oper.op _ = Op.store 34 (Operand.tmp 63) (Operand.const (Value.int IntKind.i64 9)) from rfl) (by rfl) (by rfl) (by rfl) (by kernel_rfl) (by rfl) (by kernel_rfl) (by rfl)) (by rfl) (by rfl) ?_
    intro _ _
    refine Ls.ev (some 7) (Ev.assign (show Oper.op _ = Op.assign (Operand.const (Value.string { data := #[120, 107] })) from rfl) (by rfl)) (by rfl) (by rfl) ?_
    refine Ls.nil ?_
    refine Cd.seq ?_
    refine Cd.seq ?_
    refine Cd.region ?_
    refine Ls.ev (some 84) (Ev.move (show Oper.op _ = Op.move (Operand.tmp 8) from rfl) (by rfl)) (by rfl) (by rfl) ?_
    refine Ls.ev (some 85) (Ev.gtr (show Oper.op _ = Op.binOp BinOp.gtr 3 (Operand.tmp 84) (Operand.const (Value.int IntKind.i64 0)) 3 from rfl) (by rfl) (by rfl)) (by rfl) (by rfl) ?_
    refine Ls.nil ?_
    refine Cd.cond_false (by rfl) (rfl) ?_
    refine Cd.skip ?_
    refine Cd.seq ?_
    refine Cd.draw [4] (by kernel_rfl) ?_
    refine Rg.ev 0 (by rfl) (fun _ h => h) (Ev.move (show Oper.op _ = Op.move (Operand.tmp 6) from rfl) (by rfl)) (by rfl) (some 92) (by rfl) (by kernel_rfl) (by kernel_rfl) (by kernel_rfl) (by kernel_rfl) ?_
    refine Rg.ev 1 (by rfl) (fun _ h => h) (Ev.loads 0 (show Oper.op _ = Op.load 43 (Operand.tmp 5) from rfl) (by rfl) (by rfl) (n := 12) (by kernel_rfl) (by rfl) (by rfl)) (by rfl) (some 93) (by rfl) (by kernel_rfl) (by kernel_rfl) (by kernel_rfl) (by kernel_rfl) ?_
    refine Rg.mv 2 (by rfl) (fun _ h => h) (show Oper.op _ = Op.move (Operand.tmp 7) from rfl) (by rfl) (by rfl) (some 94) (by rfl) (by kernel_rfl) (by kernel_rfl) (by kernel_rfl) (by kernel_rfl) ?_
    refine Rg.ev 3 (by rfl) (fun _ h => h) (Ev.assign (show Oper.op _ = Op.assign (Operand.tmp 92) from rfl) (by rfl)) (by rfl) (some 2) (by rfl) (by kernel_rfl) (by kernel_rfl) (by kernel_rfl) (by kernel_rfl) ?_
    refine Rg.tail 4 [] (by rfl) (by kernel_rfl) (Does.store 1 (show Oper.op _ = Op.store 43 (Operand.tmp 3) (Operand.tmp 93) from rfl) (by rfl) (by rfl) (by rfl) (by kernel_rfl) (by rfl) (by kernel_rfl) (by rfl)) (by rfl) none (by rfl) (by kernel_rfl) (by kernel_rfl) ?_
    intro _ _
    refine Rg.ev 5 (by rfl) (fun _ h => h) (Ev.assign (show Oper.op _ = Op.assign (Operand.tmp 94) from rfl) (by rfl)) (by rfl) (some 4) (by rfl) (by kernel_rfl) (by kernel_rfl) (by kernel_rfl) (by kernel_rfl) ?_
    refine Rg.done (by kernel_rfl) ?_ _
    refine Cd.ret ?_
    refine Ent.ret (()) (trivial) (Res.tmp_cell_tmp 1 (by rfl) (by rfl) (by rfl) (by rfl) (n := 12) (by kernel_rfl) (by rfl) (by rfl) (by rfl)) ?_ [] (by rfl) ?_
    · rfl
    · rfl
  skip
  have h14 : i ≠ 14 := by have := of_decide_eq_false h14; omega
  refine Cd.seq ?_
  refine Cd.region ?_
  refine Ls.ev (some 65) (Ev.eql (show Oper.op _ = Op.binOp BinOp.eql 3 (Operand.tmp 10) (Operand.const (Value.int IntKind.i64 15)) 3 from rfl) (by rfl) (by rfl)) (by rfl) (by rfl) ?_
  refine Ls.ev (some 64) (Ev.assign (show Oper.op _ = Op.assign (Operand.tmp 65) from rfl) (by rfl)) (by rfl) (by rfl) ?_
  refine Ls.nil ?_
  refine Cd.cond _ (by rfl) (fun h15 => ?_) (fun h15 => ?_)
  · skip
    obtain rfl : i = 15 := by have := of_decide_eq_true h15; omega
    obtain rfl : (⟨[116, 97, 115, 107], 4, 10, 0, [.x, .y]⟩ : CmdP) = c := Option.some.inj hc
    refine Cd.region ?_
    refine Ls.ev (some 6) (Ev.assign (show Oper.op _ = Op.assign (Operand.const (Value.string { data := #[116, 97, 115, 107] })) from rfl) (by rfl)) (by rfl) (by rfl) ?_
    refine Ls.ev (some 66) (Ev.fieldAddr (k := 4) (show Oper.op _ = Op.fieldAddr 43 (Operand.tmp 5) 4 from rfl) (by rfl) (by kernel_rfl) (by rfl)) (by rfl) (by rfl) ?_
    refine Ls.ev (some 67) (Ev.fieldAddr (k := 0) (show Oper.op _ = Op.fieldAddr 41 (Operand.tmp 66) 0 from rfl) (by rfl) (by kernel_rfl) (by rfl)) (by rfl) (by rfl) ?_
    refine Ls.does none (Does.store 0 (show Oper.op _ = Op.store 34 (Operand.tmp 67) (Operand.const (Value.int IntKind.i64 10)) from rfl) (by rfl) (by rfl) (by rfl) (by kernel_rfl) (by rfl) (by kernel_rfl) (by rfl)) (by rfl) (by rfl) ?_
    intro _ _
    refine Ls.ev (some 7) (Ev.assign (show Oper.op _ = Op.assign (Operand.const (Value.string { data := #[120, 121] })) from rfl) (by rfl)) (by rfl) (by rfl) ?_
    refine Ls.nil ?_
    refine Cd.seq ?_
    refine Cd.seq ?_
    refine Cd.region ?_
    refine Ls.ev (some 84) (Ev.move (show Oper.op _ = Op.move (Operand.tmp 8) from rfl) (by rfl)) (by rfl) (by rfl) ?_
    refine Ls.ev (some 85) (Ev.gtr (show Oper.op _ = Op.binOp BinOp.gtr 3 (Operand.tmp 84) (Operand.const (Value.int IntKind.i64 0)) 3 from rfl) (by rfl) (by rfl)) (by rfl) (by rfl) ?_
    refine Ls.nil ?_
    refine Cd.cond_false (by rfl) (rfl) ?_
    refine Cd.skip ?_
    refine Cd.seq ?_
    refine Cd.draw [4] (by kernel_rfl) ?_
    refine Rg.ev 0 (by rfl) (fun _ h => h) (Ev.move (show Oper.op _ = Op.move (Operand.tmp 6) from rfl) (by rfl)) (by rfl) (some 92) (by rfl) (by kernel_rfl) (by kernel_rfl) (by kernel_rfl) (by kernel_rfl) ?_
    refine Rg.ev 1 (by rfl) (fun _ h => h) (Ev.loads 0 (show Oper.op _ = Op.load 43 (Operand.tmp 5) from rfl) (by rfl) (by rfl) (n := 12) (by kernel_rfl) (by rfl) (by rfl)) (by rfl) (some 93) (by rfl) (by kernel_rfl) (by kernel_rfl) (by kernel_rfl) (by kernel_rfl) ?_
    refine Rg.mv 2 (by rfl) (fun _ h => h) (show Oper.op _ = Op.move (Operand.tmp 7) from rfl) (by rfl) (by rfl) (some 94) (by rfl) (by kernel_rfl) (by kernel_rfl) (by kernel_rfl) (by kernel_rfl) ?_
    refine Rg.ev 3 (by rfl) (fun _ h => h) (Ev.assign (show Oper.op _ = Op.assign (Operand.tmp 92) from rfl) (by rfl)) (by rfl) (some 2) (by rfl) (by kernel_rfl) (by kernel_rfl) (by kernel_rfl) (by kernel_rfl) ?_
    refine Rg.tail 4 [] (by rfl) (by kernel_rfl) (Does.store 1 (show Oper.op _ = Op.store 43 (Operand.tmp 3) (Operand.tmp 93) from rfl) (by rfl) (by rfl) (by rfl) (by kernel_rfl) (by rfl) (by kernel_rfl) (by rfl)) (by rfl) none (by rfl) (by kernel_rfl) (by kernel_rfl) ?_
    intro _ _
    refine Rg.ev 5 (by rfl) (fun _ h => h) (Ev.assign (show Oper.op _ = Op.assign (Operand.tmp 94) from rfl) (by rfl)) (by rfl) (some 4) (by rfl) (by kernel_rfl) (by kernel_rfl) (by kernel_rfl) (by kernel_rfl) ?_
    refine Rg.done (by kernel_rfl) ?_ _
    refine Cd.ret ?_
    refine Ent.ret (()) (trivial) (Res.tmp_cell_tmp 1 (by rfl) (by rfl) (by rfl) (by rfl) (n := 12) (by kernel_rfl) (by rfl) (by rfl) (by rfl)) ?_ [] (by rfl) ?_
    · rfl
    · rfl
  skip
  have h15 : i ≠ 15 := by have := of_decide_eq_false h15; omega
  refine Cd.seq ?_
  refine Cd.region ?_
  refine Ls.ev (some 69) (Ev.eql (show Oper.op _ = Op.binOp BinOp.eql 3 (Operand.tmp 10) (Operand.const (Value.int IntKind.i64 16)) 3 from rfl) (by rfl) (by rfl)) (by rfl) (by rfl) ?_
  refine Ls.ev (some 68) (Ev.assign (show Oper.op _ = Op.assign (Operand.tmp 69) from rfl) (by rfl)) (by rfl) (by rfl) ?_
  refine Ls.nil ?_
  refine Cd.cond _ (by rfl) (fun h16 => ?_) (fun h16 => ?_)
  · skip
    obtain rfl : i = 16 := by have := of_decide_eq_true h16; omega
    obtain rfl : (⟨[112, 105, 108, 111, 116], 4, 11, 0, [.x]⟩ : CmdP) = c := Option.some.inj hc
    refine Cd.region ?_
    refine Ls.ev (some 6) (Ev.assign (show Oper.op _ = Op.assign (Operand.const (Value.string { data := #[112, 105, 108, 111, 116] })) from rfl) (by rfl)) (by rfl) (by rfl) ?_
    refine Ls.ev (some 70) (Ev.fieldAddr (k := 4) (show Oper.op _ = Op.fieldAddr 43 (Operand.tmp 5) 4 from rfl) (by rfl) (by kernel_rfl) (by rfl)) (by rfl) (by rfl) ?_
    refine Ls.ev (some 71) (Ev.fieldAddr (k := 0) (show Oper.op _ = Op.fieldAddr 41 (Operand.tmp 70) 0 from rfl) (by rfl) (by kernel_rfl) (by rfl)) (by rfl) (by rfl) ?_
    refine Ls.does none (Does.store 0 (show Oper.op _ = Op.store 34 (Operand.tmp 71) (Operand.const (Value.int IntKind.i64 11)) from rfl) (by rfl) (by rfl) (by rfl) (by kernel_rfl) (by rfl) (by kernel_rfl) (by rfl)) (by rfl) (by rfl) ?_
    intro _ _
    refine Ls.nil ?_
    refine Cd.seq ?_
    refine Cd.seq ?_
    refine Cd.region ?_
    refine Ls.ev (some 84) (Ev.move (show Oper.op _ = Op.move (Operand.tmp 8) from rfl) (by rfl)) (by rfl) (by rfl) ?_
    refine Ls.ev (some 85) (Ev.gtr (show Oper.op _ = Op.binOp BinOp.gtr 3 (Operand.tmp 84) (Operand.const (Value.int IntKind.i64 0)) 3 from rfl) (by rfl) (by rfl)) (by rfl) (by rfl) ?_
    refine Ls.nil ?_
    refine Cd.cond_false (by rfl) (rfl) ?_
    refine Cd.skip ?_
    refine Cd.seq ?_
    refine Cd.draw [4] (by kernel_rfl) ?_
    refine Rg.ev 0 (by rfl) (fun _ h => h) (Ev.move (show Oper.op _ = Op.move (Operand.tmp 6) from rfl) (by rfl)) (by rfl) (some 92) (by rfl) (by kernel_rfl) (by kernel_rfl) (by kernel_rfl) (by kernel_rfl) ?_
    refine Rg.ev 1 (by rfl) (fun _ h => h) (Ev.loads 0 (show Oper.op _ = Op.load 43 (Operand.tmp 5) from rfl) (by rfl) (by rfl) (n := 12) (by kernel_rfl) (by rfl) (by rfl)) (by rfl) (some 93) (by rfl) (by kernel_rfl) (by kernel_rfl) (by kernel_rfl) (by kernel_rfl) ?_
    refine Rg.mv 2 (by rfl) (fun _ h => h) (show Oper.op _ = Op.move (Operand.tmp 7) from rfl) (by rfl) (by rfl) (some 94) (by rfl) (by kernel_rfl) (by kernel_rfl) (by kernel_rfl) (by kernel_rfl) ?_
    refine Rg.ev 3 (by rfl) (fun _ h => h) (Ev.assign (show Oper.op _ = Op.assign (Operand.tmp 92) from rfl) (by rfl)) (by rfl) (some 2) (by rfl) (by kernel_rfl) (by kernel_rfl) (by kernel_rfl) (by kernel_rfl) ?_
    refine Rg.tail 4 [] (by rfl) (by kernel_rfl) (Does.store 1 (show Oper.op _ = Op.store 43 (Operand.tmp 3) (Operand.tmp 93) from rfl) (by rfl) (by rfl) (by rfl) (by kernel_rfl) (by rfl) (by kernel_rfl) (by rfl)) (by rfl) none (by rfl) (by kernel_rfl) (by kernel_rfl) ?_
    intro _ _
    refine Rg.ev 5 (by rfl) (fun _ h => h) (Ev.assign (show Oper.op _ = Op.assign (Operand.tmp 94) from rfl) (by rfl)) (by rfl) (some 4) (by rfl) (by kernel_rfl) (by kernel_rfl) (by kernel_rfl) (by kernel_rfl) ?_
    refine Rg.done (by kernel_rfl) ?_ _
    refine Cd.ret ?_
    refine Ent.ret (()) (trivial) (Res.tmp_cell_tmp 1 (by rfl) (by rfl) (by rfl) (by rfl) (n := 12) (by kernel_rfl) (by rfl) (by rfl) (by rfl)) ?_ [] (by rfl) ?_
    · rfl
    · rfl
  skip
  have h16 : i ≠ 16 := by have := of_decide_eq_false h16; omega
  refine Cd.seq ?_
  refine Cd.region ?_
  refine Ls.ev (some 73) (Ev.eql (show Oper.op _ = Op.binOp BinOp.eql 3 (Operand.tmp 10) (Operand.const (Value.int IntKind.i64 17)) 3 from rfl) (by rfl) (by rfl)) (by rfl) (by rfl) ?_
  refine Ls.ev (some 72) (Ev.assign (show Oper.op _ = Op.assign (Operand.tmp 73) from rfl) (by rfl)) (by rfl) (by rfl) ?_
  refine Ls.nil ?_
  refine Cd.cond _ (by rfl) (fun h17 => ?_) (fun h17 => ?_)
  · skip
    obtain rfl : i = 17 := by have := of_decide_eq_true h17; omega
    obtain rfl : (⟨[114, 101, 103, 105, 115, 116, 101, 114], 4, 1, 1, [.x]⟩ : CmdP) = c := Option.some.inj hc
    refine Cd.region ?_
    refine Ls.ev (some 6) (Ev.assign (show Oper.op _ = Op.assign (Operand.const (Value.string { data := #[114, 101, 103, 105, 115, 116, 101, 114] })) from rfl) (by rfl)) (by rfl) (by rfl) ?_
    refine Ls.ev (some 8) (Ev.assign (show Oper.op _ = Op.assign (Operand.const (Value.int IntKind.i64 1)) from rfl) (by rfl)) (by rfl) (by rfl) ?_
    refine Ls.nil ?_
    refine Cd.seq ?_
    refine Cd.seq ?_
    refine Cd.region ?_
    refine Ls.ev (some 84) (Ev.move (show Oper.op _ = Op.move (Operand.tmp 8) from rfl) (by rfl)) (by rfl) (by rfl) ?_
    refine Ls.ev (some 85) (Ev.gtr (show Oper.op _ = Op.binOp BinOp.gtr 3 (Operand.tmp 84) (Operand.const (Value.int IntKind.i64 0)) 3 from rfl) (by rfl) (by rfl)) (by rfl) (by rfl) ?_
    refine Ls.nil ?_
    refine Cd.cond_true (by rfl) (rfl) ?_
    refine Cd.seq ?_
    refine Cd.region ?_
    refine Ls.ev (some 86) (Ev.fieldAddr (k := 4) (show Oper.op _ = Op.fieldAddr 43 (Operand.tmp 5) 4 from rfl) (by rfl) (by kernel_rfl) (by rfl)) (by rfl) (by rfl) ?_
    refine Ls.ev (some 87) (Ev.fieldAddr (k := 0) (show Oper.op _ = Op.fieldAddr 41 (Operand.tmp 86) 0 from rfl) (by rfl) (by kernel_rfl) (by rfl)) (by rfl) (by rfl) ?_
    refine Ls.does none (Does.store 0 (show Oper.op _ = Op.store 34 (Operand.tmp 87) (Operand.const (Value.int IntKind.i64 1)) from rfl) (by rfl) (by rfl) (by rfl) (by kernel_rfl) (by rfl) (by kernel_rfl) (by rfl)) (by rfl) (by rfl) ?_
    intro _ _
    refine Ls.nil ?_
    refine Cd.region ?_
    refine Ls.ev (some 88) (Ev.move (show Oper.op _ = Op.move (Operand.tmp 8) from rfl) (by rfl)) (by rfl) (by rfl) ?_
    refine Ls.ev (some 89) (Ev.fieldAddr (k := 4) (show Oper.op _ = Op.fieldAddr 43 (Operand.tmp 5) 4 from rfl) (by rfl) (by kernel_rfl) (by rfl)) (by rfl) (by rfl) ?_
    refine Ls.ev (some 90) (Ev.fieldAddr (k := 3) (show Oper.op _ = Op.fieldAddr 41 (Operand.tmp 89) 3 from rfl) (by rfl) (by kernel_rfl) (by rfl)) (by rfl) (by rfl) ?_
    refine Ls.ev (some 91) (Ev.fieldAddr (k := 0) (show Oper.op _ = Op.fieldAddr 39 (Operand.tmp 90) 0 from rfl) (by rfl) (by kernel_rfl) (by rfl)) (by rfl) (by rfl) ?_
    refine Ls.does none (Does.store 0 (show Oper.op _ = Op.store 35 (Operand.tmp 91) (Operand.tmp 88) from rfl) (by rfl) (by rfl) (by rfl) (by kernel_rfl) (by rfl) (by kernel_rfl) (by rfl)) (by rfl) (by rfl) ?_
    intro _ _
    refine Ls.nil ?_
    refine Cd.seq ?_
    refine Cd.draw [4] (by kernel_rfl) ?_
    refine Rg.ev 0 (by rfl) (fun _ h => h) (Ev.move (show Oper.op _ = Op.move (Operand.tmp 6) from rfl) (by rfl)) (by rfl) (some 92) (by rfl) (by kernel_rfl) (by kernel_rfl) (by kernel_rfl) (by kernel_rfl) ?_
    refine Rg.ev 1 (by rfl) (fun _ h => h) (Ev.loads 0 (show Oper.op _ = Op.load 43 (Operand.tmp 5) from rfl) (by rfl) (by rfl) (n := 12) (by kernel_rfl) (by rfl) (by rfl)) (by rfl) (some 93) (by rfl) (by kernel_rfl) (by kernel_rfl) (by kernel_rfl) (by kernel_rfl) ?_
    refine Rg.mv 2 (by rfl) (fun _ h => h) (show Oper.op _ = Op.move (Operand.tmp 7) from rfl) (by rfl) (by rfl) (some 94) (by rfl) (by kernel_rfl) (by kernel_rfl) (by kernel_rfl) (by kernel_rfl) ?_
    refine Rg.ev 3 (by rfl) (fun _ h => h) (Ev.assign (show Oper.op _ = Op.assign (Operand.tmp 92) from rfl) (by rfl)) (by rfl) (some 2) (by rfl) (by kernel_rfl) (by kernel_rfl) (by kernel_rfl) (by kernel_rfl) ?_
    refine Rg.tail 4 [] (by rfl) (by kernel_rfl) (Does.store 1 (show Oper.op _ = Op.store 43 (Operand.tmp 3) (Operand.tmp 93) from rfl) (by rfl) (by rfl) (by rfl) (by kernel_rfl) (by rfl) (by kernel_rfl) (by rfl)) (by rfl) none (by rfl) (by kernel_rfl) (by kernel_rfl) ?_
    intro _ _
    refine Rg.ev 5 (by rfl) (fun _ h => h) (Ev.assign (show Oper.op _ = Op.assign (Operand.tmp 94) from rfl) (by rfl)) (by rfl) (some 4) (by rfl) (by kernel_rfl) (by kernel_rfl) (by kernel_rfl) (by kernel_rfl) ?_
    refine Rg.done (by kernel_rfl) ?_ _
    refine Cd.ret ?_
    refine Ent.ret (()) (trivial) (Res.tmp_cell_tmp 1 (by rfl) (by rfl) (by rfl) (by rfl) (n := 12) (by kernel_rfl) (by rfl) (by rfl) (by rfl)) ?_ [] (by rfl) ?_
    · rfl
    · rfl
  skip
  have h17 : i ≠ 17 := by have := of_decide_eq_false h17; omega
  refine Cd.seq ?_
  refine Cd.region ?_
  refine Ls.ev (some 75) (Ev.eql (show Oper.op _ = Op.binOp BinOp.eql 3 (Operand.tmp 10) (Operand.const (Value.int IntKind.i64 18)) 3 from rfl) (by rfl) (by rfl)) (by rfl) (by rfl) ?_
  refine Ls.ev (some 74) (Ev.assign (show Oper.op _ = Op.assign (Operand.tmp 75) from rfl) (by rfl)) (by rfl) (by rfl) ?_
  refine Ls.nil ?_
  refine Cd.cond _ (by rfl) (fun h18 => ?_) (fun h18 => ?_)
  · skip
    obtain rfl : i = 18 := by have := of_decide_eq_true h18; omega
    obtain rfl : (⟨[98, 101, 97, 116], 4, 1, 2, [.x, .e]⟩ : CmdP) = c := Option.some.inj hc
    refine Cd.region ?_
    refine Ls.ev (some 6) (Ev.assign (show Oper.op _ = Op.assign (Operand.const (Value.string { data := #[98, 101, 97, 116] })) from rfl) (by rfl)) (by rfl) (by rfl) ?_
    refine Ls.ev (some 8) (Ev.assign (show Oper.op _ = Op.assign (Operand.const (Value.int IntKind.i64 2)) from rfl) (by rfl)) (by rfl) (by rfl) ?_
    refine Ls.ev (some 7) (Ev.assign (show Oper.op _ = Op.assign (Operand.const (Value.string { data := #[120, 101] })) from rfl) (by rfl)) (by rfl) (by rfl) ?_
    refine Ls.nil ?_
    refine Cd.seq ?_
    refine Cd.seq ?_
    refine Cd.region ?_
    refine Ls.ev (some 84) (Ev.move (show Oper.op _ = Op.move (Operand.tmp 8) from rfl) (by rfl)) (by rfl) (by rfl) ?_
    refine Ls.ev (some 85) (Ev.gtr (show Oper.op _ = Op.binOp BinOp.gtr 3 (Operand.tmp 84) (Operand.const (Value.int IntKind.i64 0)) 3 from rfl) (by rfl) (by rfl)) (by rfl) (by rfl) ?_
    refine Ls.nil ?_
    refine Cd.cond_true (by rfl) (rfl) ?_
    refine Cd.seq ?_
    refine Cd.region ?_
    refine Ls.ev (some 86) (Ev.fieldAddr (k := 4) (show Oper.op _ = Op.fieldAddr 43 (Operand.tmp 5) 4 from rfl) (by rfl) (by kernel_rfl) (by rfl)) (by rfl) (by rfl) ?_
    refine Ls.ev (some 87) (Ev.fieldAddr (k := 0) (show Oper.op _ = Op.fieldAddr 41 (Operand.tmp 86) 0 from rfl) (by rfl) (by kernel_rfl) (by rfl)) (by rfl) (by rfl) ?_
    refine Ls.does none (Does.store 0 (show Oper.op _ = Op.store 34 (Operand.tmp 87) (Operand.const (Value.int IntKind.i64 1)) from rfl) (by rfl) (by rfl) (by rfl) (by kernel_rfl) (by rfl) (by kernel_rfl) (by rfl)) (by rfl) (by rfl) ?_
    intro _ _
    refine Ls.nil ?_
    refine Cd.region ?_
    refine Ls.ev (some 88) (Ev.move (show Oper.op _ = Op.move (Operand.tmp 8) from rfl) (by rfl)) (by rfl) (by rfl) ?_
    refine Ls.ev (some 89) (Ev.fieldAddr (k := 4) (show Oper.op _ = Op.fieldAddr 43 (Operand.tmp 5) 4 from rfl) (by rfl) (by kernel_rfl) (by rfl)) (by rfl) (by rfl) ?_
    refine Ls.ev (some 90) (Ev.fieldAddr (k := 3) (show Oper.op _ = Op.fieldAddr 41 (Operand.tmp 89) 3 from rfl) (by rfl) (by kernel_rfl) (by rfl)) (by rfl) (by rfl) ?_
    refine Ls.ev (some 91) (Ev.fieldAddr (k := 0) (show Oper.op _ = Op.fieldAddr 39 (Operand.tmp 90) 0 from rfl) (by rfl) (by kernel_rfl) (by rfl)) (by rfl) (by rfl) ?_
    refine Ls.does none (Does.store 0 (show Oper.op _ = Op.store 35 (Operand.tmp 91) (Operand.tmp 88) from rfl) (by rfl) (by rfl) (by rfl) (by kernel_rfl) (by rfl) (by kernel_rfl) (by rfl)) (by rfl) (by rfl) ?_
    intro _ _
    refine Ls.nil ?_
    refine Cd.seq ?_
    refine Cd.draw [4] (by kernel_rfl) ?_
    refine Rg.ev 0 (by rfl) (fun _ h => h) (Ev.move (show Oper.op _ = Op.move (Operand.tmp 6) from rfl) (by rfl)) (by rfl) (some 92) (by rfl) (by kernel_rfl) (by kernel_rfl) (by kernel_rfl) (by kernel_rfl) ?_
    refine Rg.ev 1 (by rfl) (fun _ h => h) (Ev.loads 0 (show Oper.op _ = Op.load 43 (Operand.tmp 5) from rfl) (by rfl) (by rfl) (n := 12) (by kernel_rfl) (by rfl) (by rfl)) (by rfl) (some 93) (by rfl) (by kernel_rfl) (by kernel_rfl) (by kernel_rfl) (by kernel_rfl) ?_
    refine Rg.mv 2 (by rfl) (fun _ h => h) (show Oper.op _ = Op.move (Operand.tmp 7) from rfl) (by rfl) (by rfl) (some 94) (by rfl) (by kernel_rfl) (by kernel_rfl) (by kernel_rfl) (by kernel_rfl) ?_
    refine Rg.ev 3 (by rfl) (fun _ h => h) (Ev.assign (show Oper.op _ = Op.assign (Operand.tmp 92) from rfl) (by rfl)) (by rfl) (some 2) (by rfl) (by kernel_rfl) (by kernel_rfl) (by kernel_rfl) (by kernel_rfl) ?_
    refine Rg.tail 4 [] (by rfl) (by kernel_rfl) (Does.store 1 (show Oper.op _ = Op.store 43 (Operand.tmp 3) (Operand.tmp 93) from rfl) (by rfl) (by rfl) (by rfl) (by kernel_rfl) (by rfl) (by kernel_rfl) (by rfl)) (by rfl) none (by rfl) (by kernel_rfl) (by kernel_rfl) ?_
    intro _ _
    refine Rg.ev 5 (by rfl) (fun _ h => h) (Ev.assign (show Oper.op _ = Op.assign (Operand.tmp 94) from rfl) (by rfl)) (by rfl) (some 4) (by rfl) (by kernel_rfl) (by kernel_rfl) (by kernel_rfl) (by kernel_rfl) ?_
    refine Rg.done (by kernel_rfl) ?_ _
    refine Cd.ret ?_
    refine Ent.ret (()) (trivial) (Res.tmp_cell_tmp 1 (by rfl) (by rfl) (by rfl) (by rfl) (n := 12) (by kernel_rfl) (by rfl) (by rfl) (by rfl)) ?_ [] (by rfl) ?_
    · rfl
    · rfl
  skip
  have h18 : i ≠ 18 := by have := of_decide_eq_false h18; omega
  refine Cd.seq ?_
  refine Cd.region ?_
  refine Ls.ev (some 77) (Ev.eql (show Oper.op _ = Op.binOp BinOp.eql 3 (Operand.tmp 10) (Operand.const (Value.int IntKind.i64 19)) 3 from rfl) (by rfl) (by rfl)) (by rfl) (by rfl) ?_
  refine Ls.ev (some 76) (Ev.assign (show Oper.op _ = Op.assign (Operand.tmp 77) from rfl) (by rfl)) (by rfl) (by rfl) ?_
  refine Ls.nil ?_
  refine Cd.cond _ (by rfl) (fun h19 => ?_) (fun h19 => ?_)
  · skip
    obtain rfl : i = 19 := by have := of_decide_eq_true h19; omega
    obtain rfl : (⟨[114, 101, 115, 101, 114, 118, 101], 4, 1, 3, [.x, .e, .s, .r]⟩ : CmdP) = c := Option.some.inj hc
    refine Cd.region ?_
    refine Ls.ev (some 6) (Ev.assign (show Oper.op _ = Op.assign (Operand.const (Value.string { data := #[114, 101, 115, 101, 114, 118, 101] })) from rfl) (by rfl)) (by rfl) (by rfl) ?_
    refine Ls.ev (some 8) (Ev.assign (show Oper.op _ = Op.assign (Operand.const (Value.int IntKind.i64 3)) from rfl) (by rfl)) (by rfl) (by rfl) ?_
    refine Ls.ev (some 7) (Ev.assign (show Oper.op _ = Op.assign (Operand.const (Value.string { data := #[120, 101, 115, 114] })) from rfl) (by rfl)) (by rfl) (by rfl) ?_
    refine Ls.nil ?_
    refine Cd.seq ?_
    refine Cd.seq ?_
    refine Cd.region ?_
    refine Ls.ev (some 84) (Ev.move (show Oper.op _ = Op.move (Operand.tmp 8) from rfl) (by rfl)) (by rfl) (by rfl) ?_
    refine Ls.ev (some 85) (Ev.gtr (show Oper.op _ = Op.binOp BinOp.gtr 3 (Operand.tmp 84) (Operand.const (Value.int IntKind.i64 0)) 3 from rfl) (by rfl) (by rfl)) (by rfl) (by rfl) ?_
    refine Ls.nil ?_
    refine Cd.cond_true (by rfl) (rfl) ?_
    refine Cd.seq ?_
    refine Cd.region ?_
    refine Ls.ev (some 86) (Ev.fieldAddr (k := 4) (show Oper.op _ = Op.fieldAddr 43 (Operand.tmp 5) 4 from rfl) (by rfl) (by kernel_rfl) (by rfl)) (by rfl) (by rfl) ?_
    refine Ls.ev (some 87) (Ev.fieldAddr (k := 0) (show Oper.op _ = Op.fieldAddr 41 (Operand.tmp 86) 0 from rfl) (by rfl) (by kernel_rfl) (by rfl)) (by rfl) (by rfl) ?_
    refine Ls.does none (Does.store 0 (show Oper.op _ = Op.store 34 (Operand.tmp 87) (Operand.const (Value.int IntKind.i64 1)) from rfl) (by rfl) (by rfl) (by rfl) (by kernel_rfl) (by rfl) (by kernel_rfl) (by rfl)) (by rfl) (by rfl) ?_
    intro _ _
    refine Ls.nil ?_
    refine Cd.region ?_
    refine Ls.ev (some 88) (Ev.move (show Oper.op _ = Op.move (Operand.tmp 8) from rfl) (by rfl)) (by rfl) (by rfl) ?_
    refine Ls.ev (some 89) (Ev.fieldAddr (k := 4) (show Oper.op _ = Op.fieldAddr 43 (Operand.tmp 5) 4 from rfl) (by rfl) (by kernel_rfl) (by rfl)) (by rfl) (by rfl) ?_
    refine Ls.ev (some 90) (Ev.fieldAddr (k := 3) (show Oper.op _ = Op.fieldAddr 41 (Operand.tmp 89) 3 from rfl) (by rfl) (by kernel_rfl) (by rfl)) (by rfl) (by rfl) ?_
    refine Ls.ev (some 91) (Ev.fieldAddr (k := 0) (show Oper.op _ = Op.fieldAddr 39 (Operand.tmp 90) 0 from rfl) (by rfl) (by kernel_rfl) (by rfl)) (by rfl) (by rfl) ?_
    refine Ls.does none (Does.store 0 (show Oper.op _ = Op.store 35 (Operand.tmp 91) (Operand.tmp 88) from rfl) (by rfl) (by rfl) (by rfl) (by kernel_rfl) (by rfl) (by kernel_rfl) (by rfl)) (by rfl) (by rfl) ?_
    intro _ _
    refine Ls.nil ?_
    refine Cd.seq ?_
    refine Cd.draw [4] (by kernel_rfl) ?_
    refine Rg.ev 0 (by rfl) (fun _ h => h) (Ev.move (show Oper.op _ = Op.move (Operand.tmp 6) from rfl) (by rfl)) (by rfl) (some 92) (by rfl) (by kernel_rfl) (by kernel_rfl) (by kernel_rfl) (by kernel_rfl) ?_
    refine Rg.ev 1 (by rfl) (fun _ h => h) (Ev.loads 0 (show Oper.op _ = Op.load 43 (Operand.tmp 5) from rfl) (by rfl) (by rfl) (n := 12) (by kernel_rfl) (by rfl) (by rfl)) (by rfl) (some 93) (by rfl) (by kernel_rfl) (by kernel_rfl) (by kernel_rfl) (by kernel_rfl) ?_
    refine Rg.mv 2 (by rfl) (fun _ h => h) (show Oper.op _ = Op.move (Operand.tmp 7) from rfl) (by rfl) (by rfl) (some 94) (by rfl) (by kernel_rfl) (by kernel_rfl) (by kernel_rfl) (by kernel_rfl) ?_
    refine Rg.ev 3 (by rfl) (fun _ h => h) (Ev.assign (show Oper.op _ = Op.assign (Operand.tmp 92) from rfl) (by rfl)) (by rfl) (some 2) (by rfl) (by kernel_rfl) (by kernel_rfl) (by kernel_rfl) (by kernel_rfl) ?_
    refine Rg.tail 4 [] (by rfl) (by kernel_rfl) (Does.store 1 (show Oper.op _ = Op.store 43 (Operand.tmp 3) (Operand.tmp 93) from rfl) (by rfl) (by rfl) (by rfl) (by kernel_rfl) (by rfl) (by kernel_rfl) (by rfl)) (by rfl) none (by rfl) (by kernel_rfl) (by kernel_rfl) ?_
    intro _ _
    refine Rg.ev 5 (by rfl) (fun _ h => h) (Ev.assign (show Oper.op _ = Op.assign (Operand.tmp 94) from rfl) (by rfl)) (by rfl) (some 4) (by rfl) (by kernel_rfl) (by kernel_rfl) (by kernel_rfl) (by kernel_rfl) ?_
    refine Rg.done (by kernel_rfl) ?_ _
    refine Cd.ret ?_
    refine Ent.ret (()) (trivial) (Res.tmp_cell_tmp 1 (by rfl) (by rfl) (by rfl) (by rfl) (n := 12) (by kernel_rfl) (by rfl) (by rfl) (by rfl)) ?_ [] (by rfl) ?_
    · rfl
    · rfl
  skip
  have h19 : i ≠ 19 := by have := of_decide_eq_false h19; omega
  refine Cd.seq ?_
  refine Cd.region ?_
  refine Ls.ev (some 79) (Ev.eql (show Oper.op _ = Op.binOp BinOp.eql 3 (Operand.tmp 10) (Operand.const (Value.int IntKind.i64 20)) 3 from rfl) (by rfl) (by rfl)) (by rfl) (by rfl) ?_
  refine Ls.ev (some 78) (Ev.assign (show Oper.op _ = Op.assign (Operand.tmp 79) from rfl) (by rfl)) (by rfl) (by rfl) ?_
  refine Ls.nil ?_
  refine Cd.cond _ (by rfl) (fun h20 => ?_) (fun h20 => ?_)
  · skip
    obtain rfl : i = 20 := by have := of_decide_eq_true h20; omega
    obtain rfl : (⟨[101, 120, 116, 101, 110, 100], 4, 1, 4, [.x, .e, .r]⟩ : CmdP) = c := Option.some.inj hc
    refine Cd.region ?_
    refine Ls.ev (some 6) (Ev.assign (show Oper.op _ = Op.assign (Operand.const (Value.string { data := #[101, 120, 116, 101, 110, 100] })) from rfl) (by rfl)) (by rfl) (by rfl) ?_
    refine Ls.ev (some 8) (Ev.assign (show Oper.op _ = Op.assign (Operand.const (Value.int IntKind.i64 4)) from rfl) (by rfl)) (by rfl) (by rfl) ?_
    refine Ls.ev (some 7) (Ev.assign (show Oper.op _ = Op.assign (Operand.const (Value.string { data := #[120, 101, 114] })) from rfl) (by rfl)) (by rfl) (by rfl) ?_
    refine Ls.nil ?_
    refine Cd.seq ?_
    refine Cd.seq ?_
    refine Cd.region ?_
    refine Ls.ev (some 84) (Ev.move (show Oper.op _ = Op.move (Operand.tmp 8) from rfl) (by rfl)) (by rfl) (by rfl) ?_
    refine Ls.ev (some 85) (Ev.gtr (show Oper.op _ = Op.binOp BinOp.gtr 3 (Operand.tmp 84) (Operand.const (Value.int IntKind.i64 0)) 3 from rfl) (by rfl) (by rfl)) (by rfl) (by rfl) ?_
    refine Ls.nil ?_
    refine Cd.cond_true (by rfl) (rfl) ?_
    refine Cd.seq ?_
    refine Cd.region ?_
    refine Ls.ev (some 86) (Ev.fieldAddr (k := 4) (show Oper.op _ = Op.fieldAddr 43 (Operand.tmp 5) 4 from rfl) (by rfl) (by kernel_rfl) (by rfl)) (by rfl) (by rfl) ?_
    refine Ls.ev (some 87) (Ev.fieldAddr (k := 0) (show Oper.op _ = Op.fieldAddr 41 (Operand.tmp 86) 0 from rfl) (by rfl) (by kernel_rfl) (by rfl)) (by rfl) (by rfl) ?_
    refine Ls.does none (Does.store 0 (show Oper.op _ = Op.store 34 (Operand.tmp 87) (Operand.const (Value.int IntKind.i64 1)) from rfl) (by rfl) (by rfl) (by rfl) (by kernel_rfl) (by rfl) (by kernel_rfl) (by rfl)) (by rfl) (by rfl) ?_
    intro _ _
    refine Ls.nil ?_
    refine Cd.region ?_
    refine Ls.ev (some 88) (Ev.move (show Oper.op _ = Op.move (Operand.tmp 8) from rfl) (by rfl)) (by rfl) (by rfl) ?_
    refine Ls.ev (some 89) (Ev.fieldAddr (k := 4) (show Oper.op _ = Op.fieldAddr 43 (Operand.tmp 5) 4 from rfl) (by rfl) (by kernel_rfl) (by rfl)) (by rfl) (by rfl) ?_
    refine Ls.ev (some 90) (Ev.fieldAddr (k := 3) (show Oper.op _ = Op.fieldAddr 41 (Operand.tmp 89) 3 from rfl) (by rfl) (by kernel_rfl) (by rfl)) (by rfl) (by rfl) ?_
    refine Ls.ev (some 91) (Ev.fieldAddr (k := 0) (show Oper.op _ = Op.fieldAddr 39 (Operand.tmp 90) 0 from rfl) (by rfl) (by kernel_rfl) (by rfl)) (by rfl) (by rfl) ?_
    refine Ls.does none (Does.store 0 (show Oper.op _ = Op.store 35 (Operand.tmp 91) (Operand.tmp 88) from rfl) (by rfl) (by rfl) (by rfl) (by kernel_rfl) (by rfl) (by kernel_rfl) (by rfl)) (by rfl) (by rfl) ?_
    intro _ _
    refine Ls.nil ?_
    refine Cd.seq ?_
    refine Cd.draw [4] (by kernel_rfl) ?_
    refine Rg.ev 0 (by rfl) (fun _ h => h) (Ev.move (show Oper.op _ = Op.move (Operand.tmp 6) from rfl) (by rfl)) (by rfl) (some 92) (by rfl) (by kernel_rfl) (by kernel_rfl) (by kernel_rfl) (by kernel_rfl) ?_
    refine Rg.ev 1 (by rfl) (fun _ h => h) (Ev.loads 0 (show Oper.op _ = Op.load 43 (Operand.tmp 5) from rfl) (by rfl) (by rfl) (n := 12) (by kernel_rfl) (by rfl) (by rfl)) (by rfl) (some 93) (by rfl) (by kernel_rfl) (by kernel_rfl) (by kernel_rfl) (by kernel_rfl) ?_
    refine Rg.mv 2 (by rfl) (fun _ h => h) (show Oper.op _ = Op.move (Operand.tmp 7) from rfl) (by rfl) (by rfl) (some 94) (by rfl) (by kernel_rfl) (by kernel_rfl) (by kernel_rfl) (by kernel_rfl) ?_
    refine Rg.ev 3 (by rfl) (fun _ h => h) (Ev.assign (show Oper.op _ = Op.assign (Operand.tmp 92) from rfl) (by rfl)) (by rfl) (some 2) (by rfl) (by kernel_rfl) (by kernel_rfl) (by kernel_rfl) (by kernel_rfl) ?_
    refine Rg.tail 4 [] (by rfl) (by kernel_rfl) (Does.store 1 (show Oper.op _ = Op.store 43 (Operand.tmp 3) (Operand.tmp 93) from rfl) (by rfl) (by rfl) (by rfl) (by kernel_rfl) (by rfl) (by kernel_rfl) (by rfl)) (by rfl) none (by rfl) (by kernel_rfl) (by kernel_rfl) ?_
    intro _ _
    refine Rg.ev 5 (by rfl) (fun _ h => h) (Ev.assign (show Oper.op _ = Op.assign (Operand.tmp 94) from rfl) (by rfl)) (by rfl) (some 4) (by rfl) (by kernel_rfl) (by kernel_rfl) (by kernel_rfl) (by kernel_rfl) ?_
    refine Rg.done (by kernel_rfl) ?_ _
    refine Cd.ret ?_
    refine Ent.ret (()) (trivial) (Res.tmp_cell_tmp 1 (by rfl) (by rfl) (by rfl) (by rfl) (n := 12) (by kernel_rfl) (by rfl) (by rfl) (by rfl)) ?_ [] (by rfl) ?_
    · rfl
    · rfl
  skip
  have h20 : i ≠ 20 := by have := of_decide_eq_false h20; omega
  refine Cd.seq ?_
  refine Cd.region ?_
  refine Ls.ev (some 81) (Ev.eql (show Oper.op _ = Op.binOp BinOp.eql 3 (Operand.tmp 10) (Operand.const (Value.int IntKind.i64 21)) 3 from rfl) (by rfl) (by rfl)) (by rfl) (by rfl) ?_
  refine Ls.ev (some 80) (Ev.assign (show Oper.op _ = Op.assign (Operand.tmp 81) from rfl) (by rfl)) (by rfl) (by rfl) ?_
  refine Ls.nil ?_
  refine Cd.cond _ (by rfl) (fun h21 => ?_) (fun h21 => ?_)
  · skip
    obtain rfl : i = 21 := by have := of_decide_eq_true h21; omega
    obtain rfl : (⟨[114, 101, 108, 101, 97, 115, 101], 4, 1, 5, [.x, .e]⟩ : CmdP) = c := Option.some.inj hc
    refine Cd.region ?_
    refine Ls.ev (some 6) (Ev.assign (show Oper.op _ = Op.assign (Operand.const (Value.string { data := #[114, 101, 108, 101, 97, 115, 101] })) from rfl) (by rfl)) (by rfl) (by rfl) ?_
    refine Ls.ev (some 8) (Ev.assign (show Oper.op _ = Op.assign (Operand.const (Value.int IntKind.i64 5)) from rfl) (by rfl)) (by rfl) (by rfl) ?_
    refine Ls.ev (some 7) (Ev.assign (show Oper.op _ = Op.assign (Operand.const (Value.string { data := #[120, 101] })) from rfl) (by rfl)) (by rfl) (by rfl) ?_
    refine Ls.nil ?_
    refine Cd.seq ?_
    refine Cd.seq ?_
    refine Cd.region ?_
    refine Ls.ev (some 84) (Ev.move (show Oper.op _ = Op.move (Operand.tmp 8) from rfl) (by rfl)) (by rfl) (by rfl) ?_
    refine Ls.ev (some 85) (Ev.gtr (show Oper.op _ = Op.binOp BinOp.gtr 3 (Operand.tmp 84) (Operand.const (Value.int IntKind.i64 0)) 3 from rfl) (by rfl) (by rfl)) (by rfl) (by rfl) ?_
    refine Ls.nil ?_
    refine Cd.cond_true (by rfl) (rfl) ?_
    refine Cd.seq ?_
    refine Cd.region ?_
    refine Ls.ev (some 86) (Ev.fieldAddr (k := 4) (show Oper.op _ = Op.fieldAddr 43 (Operand.tmp 5) 4 from rfl) (by rfl) (by kernel_rfl) (by rfl)) (by rfl) (by rfl) ?_
    refine Ls.ev (some 87) (Ev.fieldAddr (k := 0) (show Oper.op _ = Op.fieldAddr 41 (Operand.tmp 86) 0 from rfl) (by rfl) (by kernel_rfl) (by rfl)) (by rfl) (by rfl) ?_
    refine Ls.does none (Does.store 0 (show Oper.op _ = Op.store 34 (Operand.tmp 87) (Operand.const (Value.int IntKind.i64 1)) from rfl) (by rfl) (by rfl) (by rfl) (by kernel_rfl) (by rfl) (by kernel_rfl) (by rfl)) (by rfl) (by rfl) ?_
    intro _ _
    refine Ls.nil ?_
    refine Cd.region ?_
    refine Ls.ev (some 88) (Ev.move (show Oper.op _ = Op.move (Operand.tmp 8) from rfl) (by rfl)) (by rfl) (by rfl) ?_
    refine Ls.ev (some 89) (Ev.fieldAddr (k := 4) (show Oper.op _ = Op.fieldAddr 43 (Operand.tmp 5) 4 from rfl) (by rfl) (by kernel_rfl) (by rfl)) (by rfl) (by rfl) ?_
    refine Ls.ev (some 90) (Ev.fieldAddr (k := 3) (show Oper.op _ = Op.fieldAddr 41 (Operand.tmp 89) 3 from rfl) (by rfl) (by kernel_rfl) (by rfl)) (by rfl) (by rfl) ?_
    refine Ls.ev (some 91) (Ev.fieldAddr (k := 0) (show Oper.op _ = Op.fieldAddr 39 (Operand.tmp 90) 0 from rfl) (by rfl) (by kernel_rfl) (by rfl)) (by rfl) (by rfl) ?_
    refine Ls.does none (Does.store 0 (show Oper.op _ = Op.store 35 (Operand.tmp 91) (Operand.tmp 88) from rfl) (by rfl) (by rfl) (by rfl) (by kernel_rfl) (by rfl) (by kernel_rfl) (by rfl)) (by rfl) (by rfl) ?_
    intro _ _
    refine Ls.nil ?_
    refine Cd.seq ?_
    refine Cd.draw [4] (by kernel_rfl) ?_
    refine Rg.ev 0 (by rfl) (fun _ h => h) (Ev.move (show Oper.op _ = Op.move (Operand.tmp 6) from rfl) (by rfl)) (by rfl) (some 92) (by rfl) (by kernel_rfl) (by kernel_rfl) (by kernel_rfl) (by kernel_rfl) ?_
    refine Rg.ev 1 (by rfl) (fun _ h => h) (Ev.loads 0 (show Oper.op _ = Op.load 43 (Operand.tmp 5) from rfl) (by rfl) (by rfl) (n := 12) (by kernel_rfl) (by rfl) (by rfl)) (by rfl) (some 93) (by rfl) (by kernel_rfl) (by kernel_rfl) (by kernel_rfl) (by kernel_rfl) ?_
    refine Rg.mv 2 (by rfl) (fun _ h => h) (show Oper.op _ = Op.move (Operand.tmp 7) from rfl) (by rfl) (by rfl) (some 94) (by rfl) (by kernel_rfl) (by kernel_rfl) (by kernel_rfl) (by kernel_rfl) ?_
    refine Rg.ev 3 (by rfl) (fun _ h => h) (Ev.assign (show Oper.op _ = Op.assign (Operand.tmp 92) from rfl) (by rfl)) (by rfl) (some 2) (by rfl) (by kernel_rfl) (by kernel_rfl) (by kernel_rfl) (by kernel_rfl) ?_
    refine Rg.tail 4 [] (by rfl) (by kernel_rfl) (Does.store 1 (show Oper.op _ = Op.store 43 (Operand.tmp 3) (Operand.tmp 93) from rfl) (by rfl) (by rfl) (by rfl) (by kernel_rfl) (by rfl) (by kernel_rfl) (by rfl)) (by rfl) none (by rfl) (by kernel_rfl) (by kernel_rfl) ?_
    intro _ _
    refine Rg.ev 5 (by rfl) (fun _ h => h) (Ev.assign (show Oper.op _ = Op.assign (Operand.tmp 94) from rfl) (by rfl)) (by rfl) (some 4) (by rfl) (by kernel_rfl) (by kernel_rfl) (by kernel_rfl) (by kernel_rfl) ?_
    refine Rg.done (by kernel_rfl) ?_ _
    refine Cd.ret ?_
    refine Ent.ret (()) (trivial) (Res.tmp_cell_tmp 1 (by rfl) (by rfl) (by rfl) (by rfl) (n := 12) (by kernel_rfl) (by rfl) (by rfl) (by rfl)) ?_ [] (by rfl) ?_
    · rfl
    · rfl
  skip
  have h21 : i ≠ 21 := by have := of_decide_eq_false h21; omega
  refine Cd.seq ?_
  refine Cd.region ?_
  refine Ls.ev (some 83) (Ev.eql (show Oper.op _ = Op.binOp BinOp.eql 3 (Operand.tmp 10) (Operand.const (Value.int IntKind.i64 22)) 3 from rfl) (by rfl) (by rfl)) (by rfl) (by rfl) ?_
  refine Ls.ev (some 82) (Ev.assign (show Oper.op _ = Op.assign (Operand.tmp 83) from rfl) (by rfl)) (by rfl) (by rfl) ?_
  refine Ls.nil ?_
  refine Cd.cond _ (by rfl) (fun h22 => ?_) (fun h22 => ?_)
  · skip
    obtain rfl : i = 22 := by have := of_decide_eq_true h22; omega
    obtain rfl : (⟨[113, 117, 101, 114, 121], 4, 1, 6, [.x]⟩ : CmdP) = c := Option.some.inj hc
    refine Cd.region ?_
    refine Ls.ev (some 6) (Ev.assign (show Oper.op _ = Op.assign (Operand.const (Value.string { data := #[113, 117, 101, 114, 121] })) from rfl) (by rfl)) (by rfl) (by rfl) ?_
    refine Ls.ev (some 8) (Ev.assign (show Oper.op _ = Op.assign (Operand.const (Value.int IntKind.i64 6)) from rfl) (by rfl)) (by rfl) (by rfl) ?_
    refine Ls.nil ?_
    refine Cd.seq ?_
    refine Cd.seq ?_
    refine Cd.region ?_
    refine Ls.ev (some 84) (Ev.move (show Oper.op _ = Op.move (Operand.tmp 8) from rfl) (by rfl)) (by rfl) (by rfl) ?_
    refine Ls.ev (some 85) (Ev.gtr (show Oper.op _ = Op.binOp BinOp.gtr 3 (Operand.tmp 84) (Operand.const (Value.int IntKind.i64 0)) 3 from rfl) (by rfl) (by rfl)) (by rfl) (by rfl) ?_
    refine Ls.nil ?_
    refine Cd.cond_true (by rfl) (rfl) ?_
    refine Cd.seq ?_
    refine Cd.region ?_
    refine Ls.ev (some 86) (Ev.fieldAddr (k := 4) (show Oper.op _ = Op.fieldAddr 43 (Operand.tmp 5) 4 from rfl) (by rfl) (by kernel_rfl) (by rfl)) (by rfl) (by rfl) ?_
    refine Ls.ev (some 87) (Ev.fieldAddr (k := 0) (show Oper.op _ = Op.fieldAddr 41 (Operand.tmp 86) 0 from rfl) (by rfl) (by kernel_rfl) (by rfl)) (by rfl) (by rfl) ?_
    refine Ls.does none (Does.store 0 (show Oper.op _ = Op.store 34 (Operand.tmp 87) (Operand.const (Value.int IntKind.i64 1)) from rfl) (by rfl) (by rfl) (by rfl) (by kernel_rfl) (by rfl) (by kernel_rfl) (by rfl)) (by rfl) (by rfl) ?_
    intro _ _
    refine Ls.nil ?_
    refine Cd.region ?_
    refine Ls.ev (some 88) (Ev.move (show Oper.op _ = Op.move (Operand.tmp 8) from rfl) (by rfl)) (by rfl) (by rfl) ?_
    refine Ls.ev (some 89) (Ev.fieldAddr (k := 4) (show Oper.op _ = Op.fieldAddr 43 (Operand.tmp 5) 4 from rfl) (by rfl) (by kernel_rfl) (by rfl)) (by rfl) (by rfl) ?_
    refine Ls.ev (some 90) (Ev.fieldAddr (k := 3) (show Oper.op _ = Op.fieldAddr 41 (Operand.tmp 89) 3 from rfl) (by rfl) (by kernel_rfl) (by rfl)) (by rfl) (by rfl) ?_
    refine Ls.ev (some 91) (Ev.fieldAddr (k := 0) (show Oper.op _ = Op.fieldAddr 39 (Operand.tmp 90) 0 from rfl) (by rfl) (by kernel_rfl) (by rfl)) (by rfl) (by rfl) ?_
    refine Ls.does none (Does.store 0 (show Oper.op _ = Op.store 35 (Operand.tmp 91) (Operand.tmp 88) from rfl) (by rfl) (by rfl) (by rfl) (by kernel_rfl) (by rfl) (by kernel_rfl) (by rfl)) (by rfl) (by rfl) ?_
    intro _ _
    refine Ls.nil ?_
    refine Cd.seq ?_
    refine Cd.draw [4] (by kernel_rfl) ?_
    refine Rg.ev 0 (by rfl) (fun _ h => h) (Ev.move (show Oper.op _ = Op.move (Operand.tmp 6) from rfl) (by rfl)) (by rfl) (some 92) (by rfl) (by kernel_rfl) (by kernel_rfl) (by kernel_rfl) (by kernel_rfl) ?_
    refine Rg.ev 1 (by rfl) (fun _ h => h) (Ev.loads 0 (show Oper.op _ = Op.load 43 (Operand.tmp 5) from rfl) (by rfl) (by rfl) (n := 12) (by kernel_rfl) (by rfl) (by rfl)) (by rfl) (some 93) (by rfl) (by kernel_rfl) (by kernel_rfl) (by kernel_rfl) (by kernel_rfl) ?_
    refine Rg.mv 2 (by rfl) (fun _ h => h) (show Oper.op _ = Op.move (Operand.tmp 7) from rfl) (by rfl) (by rfl) (some 94) (by rfl) (by kernel_rfl) (by kernel_rfl) (by kernel_rfl) (by kernel_rfl) ?_
    refine Rg.ev 3 (by rfl) (fun _ h => h) (Ev.assign (show Oper.op _ = Op.assign (Operand.tmp 92) from rfl) (by rfl)) (by rfl) (some 2) (by rfl) (by kernel_rfl) (by kernel_rfl) (by kernel_rfl) (by kernel_rfl) ?_
    refine Rg.tail 4 [] (by rfl) (by kernel_rfl) (Does.store 1 (show Oper.op _ = Op.store 43 (Operand.tmp 3) (Operand.tmp 93) from rfl) (by rfl) (by rfl) (by rfl) (by kernel_rfl) (by rfl) (by kernel_rfl) (by rfl)) (by rfl) none (by rfl) (by kernel_rfl) (by kernel_rfl) ?_
    intro _ _
    refine Rg.ev 5 (by rfl) (fun _ h => h) (Ev.assign (show Oper.op _ = Op.assign (Operand.tmp 94) from rfl) (by rfl)) (by rfl) (some 4) (by rfl) (by kernel_rfl) (by kernel_rfl) (by kernel_rfl) (by kernel_rfl) ?_
    refine Rg.done (by kernel_rfl) ?_ _
    refine Cd.ret ?_
    refine Ent.ret (()) (trivial) (Res.tmp_cell_tmp 1 (by rfl) (by rfl) (by rfl) (by rfl) (n := 12) (by kernel_rfl) (by rfl) (by rfl) (by rfl)) ?_ [] (by rfl) ?_
    · rfl
    · rfl
  skip
  have h22 : i ≠ 22 := by have := of_decide_eq_false h22; omega
  omega
end Go.Proofs.YtemcigoelcblbaaGreatDoor
/- the document over pieces: a line read -/
namespace Go.Proofs.YtemcigoelcblbaaGreatDoor
open Go.RowKit
theorem lineD_skip {k : Nat} {c : CmdP} {nm : List UInt8} {r : List (List UInt8)} (h : cmdsD[k]? = some c) (hn : c.name ≠ nm) : lineW (cmdsD.drop k) (nm :: r) = lineW (cmdsD.drop (k + 1)) (nm :: r) := by
  obtain ⟨hk, rfl⟩ := List.getElem?_eq_some_iff.1 h
  simp only [lineW, findP]
  rw [List.drop_eq_getElem_cons hk, List.find?_cons, decide_eq_false hn]
theorem lineD_hit {k : Nat} {c : CmdP} {r : List (List UInt8)} (h : cmdsD[k]? = some c) : lineW (cmdsD.drop k) (c.name :: r) = cmdP c r := by
  obtain ⟨hk, rfl⟩ := List.getElem?_eq_some_iff.1 h
  simp only [lineW, findP]
  rw [List.drop_eq_getElem_cons hk, List.find?_cons, decide_eq_true rfl]
theorem lineD_end {ws : List (List UInt8)} {i : Nat} (h : ¬ (i < 23 ∧ 0 < ws.length)) (hi : i ≤ 23) : lineW (cmdsD.drop i) ws = (noSt, 240) := by
  cases ws with
  | nil => rfl
  | cons x r =>
    obtain rfl : i = 23 := by
      have : 0 < (x :: r).length := Nat.succ_pos _
      omega
    rfl
theorem cmdsD_ok : ∀ c ∈ cmdsD, c.ws.length ≤ 4 := by decide
theorem cmd_241 {c : CmdP} {r : List (List UInt8)} (h : r.length ≠ c.ws.length) : cmdP c r = (noSt, 241) := by unfold cmdP; rw [if_pos h]
theorem cmd_of {c : CmdP} {r : List (List UInt8)} (h : r.length = c.ws.length) : cmdP c r = match readsW c.step c.ws r with
  | none => (noSt, 241)
  | some z => (z, 0) := by unfold cmdP; rw [if_neg (fun e => e h)]; rfl
/-- Ahead of the word k. -/
def StD (c : CmdP) (r : List (List UInt8)) (k : Nat) (z : StP) (ok : Bool) : Prop := (ok = false ∧ cmdP c r = (noSt, 241)) ∨ (ok = true ∧ r.length = c.ws.length ∧ k ≤ c.ws.length ∧ readsW c.step c.ws r = readsW z (c.ws.drop k) (r.drop k))
theorem std_start {c : CmdP} {r : List (List UInt8)} {b : Bool} (h : b = decide (r.length = c.ws.length)) : StD c r 0 c.stepS.p b := by
  subst h
  by_cases hh : r.length = c.ws.length
  · exact .inr ⟨decide_eq_true hh, hh, Nat.zero_le _, rfl⟩
  · exact .inl ⟨decide_eq_false hh, cmd_241 hh⟩
theorem std_next {c : CmdP} {r : List (List UInt8)} {k : Nat} {z z' : StP} {κ : Wk} {w : List UInt8} (hrl : r.length = c.ws.length) (hk : k < c.ws.length) (hrs : readsW c.step c.ws r = (readW z κ w).bind fun y => readsW y (c.ws.drop (k + 1)) (r.drop (k + 1))) (hz : ∀ v, readW z κ w = some v → v = z') : StD c r (k + 1) z' (readW z κ w).isSome := by
  cases h : readW z κ w with
  | none => exact .inl ⟨rfl, by rw [cmd_of hrl, hrs, h]; rfl⟩
  | some v => exact .inr ⟨rfl, hrl, hk, by rw [hrs, h, ← hz v h]; rfl⟩
theorem lt_ok {k n : Nat} {b : Bool} (h : k < n) : b = decide (k < n ∧ b = true) := by
  cases b <;> simp [h]
set_option maxRecDepth 20000 in
set_option maxHeartbeats 2000000 in
theorem dline_sl (t : List UInt8) (ht : t.length ≤ 4611686018427387904) : Fn Tryz.prog 17 #[.string (txt t)] [] StS (fun z => .tuple #[.agg z.enc.toArray, .int .i64 (lineP t).2]) (fun z => [z.wC, z.wK]) (fun z => z.p = (lineP t).1) := by
  have hts : (txt t).size = t.length := rfl
  refine Fn.enter Tryz.func17 rfl Tryz.ntmps17 (by rfl) ?_
  intro w0
  refine Cd.seq ?_
  refine Cd.region ?_
  refine Ls.does (some 2) (Does.alloc (cs := [.int .i64 0, .int .i64 0, .int .i64 0, .int .i64 0, .int .i64 0, .int .i64 0, .int .i64 0, .int .i64 0, .int .i64 0, .int .i64 0, .slice none 0 0, .slice none 0 0]) (show Oper.op _ = Op.alloc 43 from rfl) (ZeroIs.mk (.agg #[.int .i64 0, .int .i64 0, .int .i64 0, .int .i64 0, .int .i64 0, .int .i64 0, .int .i64 0, .int .i64 0, .int .i64 0, .int .i64 0, .slice none 0 0, .slice none 0 0]) (by kernel_rfl) (by rfl))) (by rfl) (by rfl) ?_
  intro g1 _
  refine Ls.ev (some 3) (Ev.assign (show Oper.op _ = Op.assign (Operand.const (Value.int IntKind.i64 0)) from rfl) (by rfl)) (by rfl) (by rfl) ?_
  refine Ls.nil ?_
  refine Cd.seq ?_
  refine Cd.seq ?_
  refine Cd.region ?_
  refine Ls.ev (some 11) (Ev.move (show Oper.op _ = Op.move (Operand.tmp 0) from rfl) (by rfl)) (by rfl) (by rfl) ?_
  refine Ls.ev (some 12) (Ev.lenS (show Oper.op _ = Op.call { callee := Callee.builtin Builtin.len, args := #[Operand.tmp 11], argTypes := #[9] } from rfl) (by rfl) Tryz.underlying9) (by rfl) (by rfl) ?_
  refine Ls.ev (some 13) (Ev.gtr (show Oper.op _ = Op.binOp BinOp.gtr 3 (Operand.tmp 12) (Operand.const (Value.int IntKind.i64 1024)) 3 from rfl) (by rfl) (by rfl)) (by rfl) (by rfl) ?_
  refine Ls.nil ?_
  refine Cd.cond _ (by rfl) (fun h0 => ?_) (fun h0 => ?_)
  · skip
    have h0 : 1024 < t.length := by have := of_decide_eq_true h0; omega
    have hl : lineP t = (noSt, 3) := by unfold lineP; rw [if_pos h0]
    rw [hl]
    refine Cd.seq ?_
    refine Cd.region ?_
    refine Ls.ev (some 14) (Ev.buildP (pl := [(0, 1), (1, 1), (2, 1), (3, 1), (4, 8)]) (zs := [.int .i64 0, .int .i64 0, .int .i64 0, .int .i64 0, .int .i64 0, .int .i64 0, .int .i64 0, .int .i64 0, .int .i64 0, .int .i64 0, .slice none 0 0, .slice none 0 0]) (show Oper.op _ = Op.build 43 #[] from rfl) (by rfl) (by kernel_rfl) (by rfl)) (by rfl) (by rfl) ?_
    refine Ls.does none (Does.store 0 (show Oper.op _ = Op.store 43 (Operand.tmp 2) (Operand.tmp 14) from rfl) (by rfl) (by rfl) (by rfl) (by kernel_rfl) (by rfl) (by kernel_rfl) (by rfl)) (by rfl) (by rfl) ?_
    intro _ _
    refine Ls.ev (some 3) (Ev.assign (show Oper.op _ = Op.assign (Operand.const (Value.int IntKind.i64 3)) from rfl) (by rfl)) (by rfl) (by rfl) ?_
    refine Ls.nil ?_
    refine Ent.nil 3 1 ?_
    refine Ent.nil 3 1 ?_
    refine Ent.pick [2, 0, 1] (by rfl) ?_
    refine Cd.ret ?_
    refine Ent.ret (noStS) (rfl) (Res.cell_tmp 0 (by rfl) (by rfl) (by rfl) (n := 12) (by kernel_rfl) (by rfl) (by rfl) (by rfl)) ?_ [1, 2] (by rfl) ?_
    · rfl
    · rfl
  skip
  have h0 : ¬ 1024 < t.length := by have := of_decide_eq_false h0; omega
  have hl : lineP t = lineW (cmdsD.drop 0) (wordsP t) := by unfold lineP; rw [if_neg h0, ← line_D]; rfl
  have hwc := words_count t
  have hsc := (splitP_len 32 t).1
  rw [hl]
  refine Cd.skip ?_
  refine Cd.seq ?_
  refine Cd.region ?_
  refine Ls.ev (some 15) (Ev.move (show Oper.op _ = Op.move (Operand.tmp 0) from rfl) (by rfl)) (by rfl) (by rfl) ?_
  refine Ls.does (some 16) (Does.call [0] (show Oper.op _ = Op.call { callee := Callee.value (Operand.func 16), args := #[Operand.tmp 15, Operand.const (Value.int IntKind.u8 32)], argTypes := #[9, 5] } from rfl) Tryz.func16 (by kernel_rfl) (by kernel_rfl) (dwords_sl 32 t (by omega)) (by rfl) (by rfl) (by rfl)) (by rfl) (by rfl) ?_
  rintro W0 -
  refine Ent.see 0 (by rfl) ?_
  skip
  refine Ls.does (some 17) (Does.call [0, 1] (show Oper.op _ = Op.call { callee := Callee.value (Operand.func 29), args := #[Operand.tmp 16], argTypes := #[54] } from rfl) Tryz.func29 (by kernel_rfl) (by kernel_rfl) (dfilled_sl W0.1 W0.2 (splitP 32 t) (by omega)) (by rfl) (by rfl) (by rfl)) (by rfl) (by rfl) ?_
  rintro ⟨WA, cw⟩ -
  refine Ent.see 0 (by rfl) ?_
  refine Ls.ev (some 4) (Ev.assign (show Oper.op _ = Op.assign (Operand.tmp 17) from rfl) (by rfl)) (by rfl) (by rfl) ?_
  refine Ls.nil ?_
  refine Cd.seq ?_
  refine Cd.seq ?_
  refine Ent.norm ([(2, .pointer (some ⟨g1, 0, none⟩)), (3, .int .i64 0), (4, .slice WA (wordsP t).length cw)]) ([rd WA (wordsP t).length 1 (txts (wordsP t)), blk g1 43 noStS.enc]) (by repeat (first | exact trivial | refine ⟨by rfl, ?_⟩ | refine ⟨by simp only [List.length_append, List.length_cons, List.length_nil]; rfl, ?_⟩ | refine ⟨by push_cast; rfl, ?_⟩)) (by rfl) ?_
  refine Cd.region ?_
  refine Ls.ev (some 5) (Ev.assign (show Oper.op _ = Op.assign (Operand.const (Value.int IntKind.i64 0)) from rfl) (by rfl)) (by rfl) (by rfl) ?_
  refine Ls.nil ?_
  refine Cd.block ?_
  refine Cd.loop (ι := Nat) (fun k => [(2, .pointer (some ⟨g1, 0, none⟩)), (3, .int .i64 0), (4, .slice WA (wordsP t).length cw), (5, .int .i64 k)]) (fun _ => [rd WA (wordsP t).length 1 (txts (wordsP t)), blk g1 43 noStS.enc]) (fun k => k ≤ 23 ∧ lineW (cmdsD.drop 0) (wordsP t) = lineW (cmdsD.drop k) (wordsP t)) (fun k => 23 - k) (0) (⟨Nat.zero_le _, rfl⟩) ?_ rfl ?_
  · (repeat (first | exact trivial | refine ⟨by rfl, ?_⟩))
  rintro i ⟨hi, hst⟩
  rw [hst]
  refine Cd.seq ?_
  refine Cd.seq ?_
  refine Cd.cut (ι := Unit) (fun _ => [(2, .pointer (some ⟨g1, 0, none⟩)), (3, .int .i64 0), (4, .slice WA (wordsP t).length cw), (5, .int .i64 i), (24, .bool (decide (i < 23 ∧ 0 < (wordsP t).length)))]) (fun _ => [rd WA (wordsP t).length 1 (txts (wordsP t)), blk g1 43 noStS.enc]) (fun _ => True) ?_ ?_
  · skip
    refine Cd.region ?_
    refine Ls.ev (some 18) (Ev.move (show Oper.op _ = Op.move (Operand.tmp 5) from rfl) (by rfl)) (by rfl) (by rfl) ?_
    refine Ls.ev (some 19) (Ev.lss (show Oper.op _ = Op.binOp BinOp.lss 3 (Operand.tmp 18) (Operand.const (Value.int IntKind.i64 23)) 3 from rfl) (by rfl) (by rfl)) (by rfl) (by rfl) ?_
    refine Ls.ev (some 20) (Ev.move (show Oper.op _ = Op.move (Operand.tmp 19) from rfl) (by rfl)) (by rfl) (by rfl) ?_
    refine Ent.split 20 (by rfl) (fun hT1 => ?_) (fun hT1 => ?_)
    · first | have hT1 := of_decide_eq_false hT1 | have hT1 := of_not_decide_false hT1 | skip
      refine Ls.pass (some 21) (by rfl) (by rfl) ?_
      refine Ls.pass (some 22) (by rfl) (by rfl) ?_
      refine Ls.pass (some 23) (by rfl) (by rfl) ?_
      refine Ls.ev (some 24) (Ev.pickF (show Oper.op _ = Op.pick (Operand.tmp 20) (Operand.tmp 23) (Operand.const (Value.bool false)) from rfl) (by rfl) (by rfl)) (by rfl) (by rfl) ?_
      refine Ls.nil ?_
      refine Ent.inv () ?_ ?_ ?_
      · exact trivial
      · (repeat (first | exact trivial | refine ⟨by rfl, ?_⟩ | refine ⟨by simp only [List.length_append, List.length_cons, List.length_nil]; rfl, ?_⟩ | refine ⟨by push_cast; rfl, ?_⟩ | refine ⟨by (show some (Value.bool _) = some (Value.bool _); congr 2; (first | (refine (decide_eq_false ?_).symm; omega) | (refine decide_eq_decide.2 ?_; omega))), ?_⟩))
      · rfl
    · first | have hT1 := of_decide_eq_true hT1 | have hT1 := of_not_decide_true hT1 | skip
      refine Ls.ev (some 21) (Ev.move (show Oper.op _ = Op.move (Operand.tmp 4) from rfl) (by rfl)) (by rfl) (by rfl) ?_
      refine Ls.ev (some 22) (Ev.len (show Oper.op _ = Op.call { callee := Callee.builtin Builtin.len, args := #[Operand.tmp 21], argTypes := #[54] } from rfl) (by rfl) Tryz.underlying54) (by rfl) (by rfl) ?_
      refine Ls.ev (some 23) (Ev.gtr (show Oper.op _ = Op.binOp BinOp.gtr 3 (Operand.tmp 22) (Operand.const (Value.int IntKind.i64 0)) 3 from rfl) (by rfl) (by rfl)) (by rfl) (by rfl) ?_
      refine Ls.ev (some 24) (Ev.pickT (show Oper.op _ = Op.pick (Operand.tmp 20) (Operand.tmp 23) (Operand.const (Value.bool false)) from rfl) (by rfl) (by rfl)) (by rfl) (by rfl) ?_
      refine Ls.nil ?_
      refine Ent.inv () ?_ ?_ ?_
      · exact trivial
      · (repeat (first | exact trivial | refine ⟨by rfl, ?_⟩ | refine ⟨by simp only [List.length_append, List.length_cons, List.length_nil]; rfl, ?_⟩ | refine ⟨by push_cast; rfl, ?_⟩ | refine ⟨by (show some (Value.bool _) = some (Value.bool _); congr 2; (first | (refine (decide_eq_false ?_).symm; omega) | (refine decide_eq_decide.2 ?_; omega))), ?_⟩))
      · rfl
  skip
  rintro _ -
  refine Cd.cond _ (by rfl) (fun h1 => ?_) (fun h1 => ?_)
  · skip
    have h1 := of_decide_eq_true h1
    obtain ⟨c, hc⟩ := get_of_lt (show i < cmdsD.length from h1.1)
    have hw4 := cmdsD_ok c (List.mem_of_getElem? hc)
    obtain ⟨nm, r, hr⟩ : ∃ nm r, wordsP t = nm :: r := by
      cases hw : wordsP t with
      | nil => rw [hw] at h1; exact absurd h1.2 (Nat.lt_irrefl 0)
      | cons x r => exact ⟨x, r, rfl⟩
    have hlr : (wordsP t).length = r.length + 1 := by rw [hr]; rfl
    have hnt : ((wordsP t).map txt)[0]? = some (txt nm) := by rw [hr]; rfl
    refine Ent.rdSome 0 (by rfl) (by omega) (fun ad had => ?_)
    subst had
    refine Cd.skip ?_
    refine Cd.seq ?_
    refine Cd.block ?_
    refine Cd.seq ?_
    refine Cd.region ?_
    refine Ls.ev (some 28) (Ev.move (show Oper.op _ = Op.move (Operand.tmp 5) from rfl) (by rfl)) (by rfl) (by rfl) ?_
    refine Ls.does (some 29) (Does.read (show Oper.op _ = Op.call { callee := Callee.value (Operand.func 30), args := #[Operand.tmp 28], argTypes := #[3] } from rfl) Tryz.func30 (by kernel_rfl) (by kernel_rfl) (dcommand_sl i c hc) (by rfl) (by rfl) trivial) (by rfl) (by rfl) ?_
    rintro _ -
    skip
    refine Ls.ev (some 27) (Ev.move (show Oper.op _ = Op.move (Operand.tmp 29) from rfl) (by rfl)) (by rfl) (by rfl) ?_
    refine Ls.ev (some 30) (Ev.extract (show Oper.op _ = Op.extract (Operand.tmp 27) 0 from rfl) (by rfl) (by rfl)) (by rfl) (by rfl) ?_
    refine Ls.ev (some 31) (Ev.extract (show Oper.op _ = Op.extract (Operand.tmp 27) 1 from rfl) (by rfl) (by rfl)) (by rfl) (by rfl) ?_
    refine Ls.ev (some 32) (Ev.extract (show Oper.op _ = Op.extract (Operand.tmp 27) 2 from rfl) (by rfl) (by rfl)) (by rfl) (by rfl) ?_
    refine Ls.does (some 7) (Does.alloc (cs := [.int .i64 0, .int .i64 0, .int .i64 0, .int .i64 0, .int .i64 0, .int .i64 0, .int .i64 0, .int .i64 0, .int .i64 0, .int .i64 0, .slice none 0 0, .slice none 0 0]) (show Oper.op _ = Op.alloc 43 from rfl) (ZeroIs.mk (.agg #[.int .i64 0, .int .i64 0, .int .i64 0, .int .i64 0, .int .i64 0, .int .i64 0, .int .i64 0, .int .i64 0, .int .i64 0, .int .i64 0, .slice none 0 0, .slice none 0 0]) (by kernel_rfl) (by rfl))) (by rfl) (by rfl) ?_
    intro g2 _
    refine Ls.ev (some 6) (Ev.assign (show Oper.op _ = Op.assign (Operand.tmp 30) from rfl) (by rfl)) (by rfl) (by rfl) ?_
    refine Ls.does none (Does.store 0 (show Oper.op _ = Op.store 43 (Operand.tmp 7) (Operand.tmp 31) from rfl) (by rfl) (by rfl) (by rfl) (by kernel_rfl) (by rfl) (by kernel_rfl) (by rfl)) (by rfl) (by rfl) ?_
    intro _ _
    refine Ls.ev (some 8) (Ev.assign (show Oper.op _ = Op.assign (Operand.tmp 32) from rfl) (by rfl)) (by rfl) (by rfl) ?_
    refine Ls.nil ?_
    refine Cd.seq ?_
    refine Cd.seq ?_
    refine Cd.region ?_
    refine Ls.ev (some 33) (Ev.move (show Oper.op _ = Op.move (Operand.tmp 6) from rfl) (by rfl)) (by rfl) (by rfl) ?_
    refine Ls.ev (some 34) (Ev.move (show Oper.op _ = Op.move (Operand.tmp 4) from rfl) (by rfl)) (by rfl) (by rfl) ?_
    refine Ls.ev (some 35) (Ev.indexAt (k := 0) (sz := 1) (show Oper.op _ = Op.indexAddr 54 (Operand.tmp 34) (Operand.const (Value.int IntKind.i64 0)) from rfl) (by rfl) (by rfl) Tryz.underlying54 (by kernel_rfl) (by omega)) (by rfl) (by rfl) ?_
    refine Ls.ev (some 36) (Ev.loadStr (show Oper.op _ = Op.load 9 (Operand.tmp 35) from rfl) (by rfl) (ReadsIn.rd 1 (by rfl)) (by kernel_rfl) (by assumption)) (by rfl) (by rfl) ?_
    refine Ls.ev (some 37) (Ev.neqS (show Oper.op _ = Op.binOp BinOp.neq 9 (Operand.tmp 33) (Operand.tmp 36) 9 from rfl) (by rfl) (by rfl)) (by rfl) (by rfl) ?_
    refine Ls.nil ?_
    refine Cd.cond _ (by rfl) (fun h2 => ?_) (fun h2 => ?_)
    · skip
      have h2 : c.name ≠ nm := fun e => (of_decide_eq_true h2) (by rw [e])
      refine Cd.exit ?_
      refine Cd.region ?_
      refine Ls.ev (some 25) (Ev.move (show Oper.op _ = Op.move (Operand.tmp 5) from rfl) (by rfl)) (by rfl) (by rfl) ?_
      refine Ls.ev (some 26) (Ev.addN (b := 1) (show Oper.op _ = Op.binOp BinOp.add 3 (Operand.tmp 25) (Operand.const (Value.int IntKind.i64 1)) 3 from rfl) (by rfl) (by rfl) (by omega)) (by rfl) (by rfl) ?_
      refine Ls.ev (some 5) (Ev.assign (show Oper.op _ = Op.assign (Operand.tmp 26) from rfl) (by rfl)) (by rfl) (by rfl) ?_
      refine Ls.nil ?_
      refine Ent.pick [1, 2] (by rfl) ?_
      refine Ent.inv (i + 1) ?_ ?_ ?_
      · (try dsimp only); exact ⟨⟨by omega, by rw [hr]; exact lineD_skip hc h2⟩, by omega⟩
      · (repeat (first | exact trivial | refine ⟨by rfl, ?_⟩ | refine ⟨by simp only [List.length_append, List.length_cons, List.length_nil]; rfl, ?_⟩ | refine ⟨by push_cast; rfl, ?_⟩))
      · rfl
    skip
    have h2 : c.name = nm := txt_eq_iff.1 (Decidable.not_not.1 (of_decide_eq_false h2))
    have hcmd : lineW (cmdsD.drop i) (wordsP t) = cmdP c r := by rw [hr, ← h2]; exact lineD_hit hc
    rw [hcmd]
    refine Cd.skip ?_
    refine Cd.seq ?_
    refine Ent.norm ([(2, .pointer (some ⟨g1, 0, none⟩)), (4, .slice (some ad) (wordsP t).length cw), (7, .pointer (some ⟨g2, 0, none⟩)), (8, .string (txt (c.ws.map Wk.byte)))]) ([blk g2 43 c.stepS.enc, rd (some ad) (wordsP t).length 1 (txts (wordsP t)), blk g1 43 noStS.enc]) (by repeat (first | exact trivial | refine ⟨by rfl, ?_⟩ | refine ⟨by simp only [List.length_append, List.length_cons, List.length_nil]; rfl, ?_⟩ | refine ⟨by push_cast; rfl, ?_⟩)) (by rfl) ?_
    have hbs : (txt (c.ws.map Wk.byte)).size = c.ws.length := by rw [txt_size, List.length_map]
    skip
    refine Cd.region ?_
    refine Ls.ev (some 38) (Ev.move (show Oper.op _ = Op.move (Operand.tmp 4) from rfl) (by rfl)) (by rfl) (by rfl) ?_
    refine Ls.ev (some 39) (Ev.len (show Oper.op _ = Op.call { callee := Callee.builtin Builtin.len, args := #[Operand.tmp 38], argTypes := #[54] } from rfl) (by rfl) Tryz.underlying54) (by rfl) (by rfl) ?_
    refine Ls.ev (some 40) (Ev.move (show Oper.op _ = Op.move (Operand.tmp 8) from rfl) (by rfl)) (by rfl) (by rfl) ?_
    refine Ls.ev (some 41) (Ev.lenS (show Oper.op _ = Op.call { callee := Callee.builtin Builtin.len, args := #[Operand.tmp 40], argTypes := #[9] } from rfl) (by rfl) Tryz.underlying9) (by rfl) (by rfl) ?_
    refine Ls.ev (some 42) (Ev.addI (show Oper.op _ = Op.binOp BinOp.add 3 (Operand.tmp 41) (Operand.const (Value.int IntKind.i64 1)) 3 from rfl) (by rfl) (by rfl) (by omega)) (by rfl) (by rfl) ?_
    refine Ls.ev (some 43) (Ev.eql (show Oper.op _ = Op.binOp BinOp.eql 3 (Operand.tmp 39) (Operand.tmp 42) 3 from rfl) (by rfl) (by rfl)) (by rfl) (by rfl) ?_
    refine Ls.ev (some 9) (Ev.assign (show Oper.op _ = Op.assign (Operand.tmp 43) from rfl) (by rfl)) (by rfl) (by rfl) ?_
    refine Ls.nil ?_
    refine Cd.seq ?_
    refine Cd.seq ?_
    refine Cd.region ?_
    refine Ls.ev (some 10) (Ev.assign (show Oper.op _ = Op.assign (Operand.const (Value.int IntKind.i64 0)) from rfl) (by rfl)) (by rfl) (by rfl) ?_
    refine Ls.nil ?_
    refine Cd.block ?_
    refine Ent.nil 3 1 ?_
    refine Ent.nil 3 1 ?_
    refine Ent.pick [2, 3, 0, 1, 4] (by rfl) ?_
    refine Cd.loop (ι := Nat × StS × Bool) (fun p => [(2, .pointer (some ⟨g1, 0, none⟩)), (4, .slice (some ad) (wordsP t).length cw), (7, .pointer (some ⟨g2, 0, none⟩)), (8, .string (txt (c.ws.map Wk.byte))), (9, .bool p.2.2), (10, .int .i64 p.1)]) (fun p => [blk g2 43 p.2.1.enc, rd (some ad) (wordsP t).length 1 (txts (wordsP t)), p.2.1.wC, p.2.1.wK, blk g1 43 noStS.enc]) (fun p => p.1 ≤ c.ws.length ∧ StD c r p.1 p.2.1.p p.2.2) (fun p => c.ws.length - p.1) ((0, c.stepS, decide (((wordsP t).length : Int) = ((txt (c.ws.map Wk.byte)).size : Int) + 1))) (⟨Nat.zero_le _, std_start (by rw [hlr, hbs]; refine decide_eq_decide.2 ?_; omega)⟩) ?_ rfl ?_
    · (repeat (first | exact trivial | refine ⟨by rfl, ?_⟩))
    rintro ⟨k, z, ok⟩ ⟨hk, hs⟩
    dsimp only at hk hs ⊢
    refine Cd.seq ?_
    refine Cd.seq ?_
    refine Cd.cut (ι := Unit) (fun _ => [(2, .pointer (some ⟨g1, 0, none⟩)), (4, .slice (some ad) (wordsP t).length cw), (7, .pointer (some ⟨g2, 0, none⟩)), (8, .string (txt (c.ws.map Wk.byte))), (9, .bool ok), (10, .int .i64 k), (50, .bool (decide (k < c.ws.length ∧ ok = true)))]) (fun _ => [blk g2 43 z.enc, rd (some ad) (wordsP t).length 1 (txts (wordsP t)), z.wC, z.wK, blk g1 43 noStS.enc]) (fun _ => True) ?_ ?_
    · skip
      refine Cd.region ?_
      refine Ls.ev (some 44) (Ev.move (show Oper.op _ = Op.move (Operand.tmp 10) from rfl) (by rfl)) (by rfl) (by rfl) ?_
      refine Ls.ev (some 45) (Ev.move (show Oper.op _ = Op.move (Operand.tmp 8) from rfl) (by rfl)) (by rfl) (by rfl) ?_
      refine Ls.ev (some 46) (Ev.lenS (show Oper.op _ = Op.call { callee := Callee.builtin Builtin.len, args := #[Operand.tmp 45], argTypes := #[9] } from rfl) (by rfl) Tryz.underlying9) (by rfl) (by rfl) ?_
      refine Ls.ev (some 47) (Ev.lss (show Oper.op _ = Op.binOp BinOp.lss 3 (Operand.tmp 44) (Operand.tmp 46) 3 from rfl) (by rfl) (by rfl)) (by rfl) (by rfl) ?_
      refine Ls.ev (some 48) (Ev.move (show Oper.op _ = Op.move (Operand.tmp 47) from rfl) (by rfl)) (by rfl) (by rfl) ?_
      refine Ent.split 48 (by rfl) (fun hT1 => ?_) (fun hT1 => ?_)
      · first | have hT1 := of_decide_eq_false hT1 | have hT1 := of_not_decide_false hT1 | skip
        refine Ls.pass (some 49) (by rfl) (by rfl) ?_
        refine Ls.ev (some 50) (Ev.pickF (show Oper.op _ = Op.pick (Operand.tmp 48) (Operand.tmp 49) (Operand.const (Value.bool false)) from rfl) (by rfl) (by rfl)) (by rfl) (by rfl) ?_
        refine Ls.nil ?_
        refine Ent.inv () ?_ ?_ ?_
        · exact trivial
        · (repeat (first | exact trivial | refine ⟨by rfl, ?_⟩ | refine ⟨by simp only [List.length_append, List.length_cons, List.length_nil]; rfl, ?_⟩ | refine ⟨by push_cast; rfl, ?_⟩ | refine ⟨by (show some (Value.bool _) = some (Value.bool _); congr 2; (first | (refine (decide_eq_false ?_).symm; omega) | exact lt_ok (by omega))), ?_⟩))
        · rfl
      · first | have hT1 := of_decide_eq_true hT1 | have hT1 := of_not_decide_true hT1 | skip
        refine Ls.ev (some 49) (Ev.move (show Oper.op _ = Op.move (Operand.tmp 9) from rfl) (by rfl)) (by rfl) (by rfl) ?_
        refine Ls.ev (some 50) (Ev.pickT (show Oper.op _ = Op.pick (Operand.tmp 48) (Operand.tmp 49) (Operand.const (Value.bool false)) from rfl) (by rfl) (by rfl)) (by rfl) (by rfl) ?_
        refine Ls.nil ?_
        refine Ent.inv () ?_ ?_ ?_
        · exact trivial
        · (repeat (first | exact trivial | refine ⟨by rfl, ?_⟩ | refine ⟨by simp only [List.length_append, List.length_cons, List.length_nil]; rfl, ?_⟩ | refine ⟨by push_cast; rfl, ?_⟩ | refine ⟨by (show some (Value.bool _) = some (Value.bool _); congr 2; (first | (refine (decide_eq_false ?_).symm; omega) | exact lt_ok (by omega))), ?_⟩))
        · rfl
    skip
    rintro _ -
    refine Cd.cond _ (by rfl) (fun h3 => ?_) (fun h3 => ?_)
    · skip
      have h3 := of_decide_eq_true h3
      obtain ⟨_, hrl, _, hrs⟩ := hs.resolve_left (fun h => by rw [h.1] at h3; cases h3.2)
      obtain ⟨κ, hκ⟩ := get_of_lt h3.1
      obtain ⟨w, hw⟩ := get_of_lt (show k < r.length by omega)
      have hwt : ((wordsP t).map txt)[k + 1]? = some (txt w) := by rw [List.getElem?_map, hr, List.getElem?_cons_succ, hw]; rfl
      have hwl := (words_len (t := t) (by rw [hr]; exact List.mem_cons_of_mem _ (List.mem_of_getElem? hw))).1
      have hbk : (c.ws.map Wk.byte)[k]? = some κ.byte := by rw [List.getElem?_map, hκ]; rfl
      rw [reads_step hκ hw] at hrs
      skip
      skip
      refine Cd.skip ?_
      refine Cd.seq ?_
      refine Cd.block ?_
      refine Cd.drawS [0, 1] [13] (by kernel_rfl) ?_
      refine Rg.ev 0 (by rfl) (fun _ h => h.pick [0, 1] rfl) (Ev.loads 0 (show Oper.op _ = Op.load 43 (Operand.tmp 7) from rfl) (by rfl) (by rfl) (n := 12) (by kernel_rfl) (by rfl) (by rfl)) (by rfl) (some 54) (by rfl) (by kernel_rfl) (by kernel_rfl) (by kernel_rfl) (by kernel_rfl) ?_
      refine Rg.ev 1 (by rfl) (fun _ h => h.pick [0, 1] rfl) (Ev.move (show Oper.op _ = Op.move (Operand.tmp 8) from rfl) (by rfl)) (by rfl) (some 55) (by rfl) (by kernel_rfl) (by kernel_rfl) (by kernel_rfl) (by kernel_rfl) ?_
      refine Rg.ev 2 (by rfl) (fun _ h => h.pick [0, 1] rfl) (Ev.move (show Oper.op _ = Op.move (Operand.tmp 10) from rfl) (by rfl)) (by rfl) (some 56) (by rfl) (by kernel_rfl) (by kernel_rfl) (by kernel_rfl) (by kernel_rfl) ?_
      refine Rg.ev 4 (by rfl) (fun _ h => h.pick [0, 1] rfl) (Ev.move (show Oper.op _ = Op.move (Operand.tmp 4) from rfl) (by rfl)) (by rfl) (some 58) (by rfl) (by kernel_rfl) (by kernel_rfl) (by kernel_rfl) (by kernel_rfl) ?_
      refine Rg.ev 5 (by rfl) (fun _ h => h.pick [0, 1] rfl) (Ev.move (show Oper.op _ = Op.move (Operand.tmp 10) from rfl) (by rfl)) (by rfl) (some 59) (by rfl) (by kernel_rfl) (by kernel_rfl) (by kernel_rfl) (by kernel_rfl) ?_
      refine Rg.ev 6 (by rfl) (fun _ h => h.pick [0, 1] rfl) (Ev.addN (b := 1) (show Oper.op _ = Op.binOp BinOp.add 3 (Operand.tmp 59) (Operand.const (Value.int IntKind.i64 1)) 3 from rfl) (by rfl) (by rfl) (by omega)) (by rfl) (some 60) (by rfl) (by kernel_rfl) (by kernel_rfl) (by kernel_rfl) (by kernel_rfl) ?_
      refine Rg.ev 7 (by rfl) (fun _ h => h.pick [0, 1] rfl) (Ev.indexAt (sz := 1) (show Oper.op _ = Op.indexAddr 54 (Operand.tmp 58) (Operand.tmp 60) from rfl) (by rfl) (by rfl) Tryz.underlying54 (by kernel_rfl) (by omega)) (by rfl) (some 61) (by rfl) (by kernel_rfl) (by kernel_rfl) (by kernel_rfl) (by kernel_rfl) ?_
      refine Rg.ev 8 (by rfl) (fun _ h => h.pick [0, 1] rfl) (Ev.loadStr (show Oper.op _ = Op.load 9 (Operand.tmp 61) from rfl) (by rfl) (ReadsIn.rd 1 (by rfl)) (by kernel_rfl) (by assumption)) (by rfl) (some 62) (by rfl) (by kernel_rfl) (by kernel_rfl) (by kernel_rfl) (by kernel_rfl) ?_
      refine Rg.ev 3 (by rfl) (fun _ h => h.pick [0, 1] rfl) (Ev.indexT (show Oper.op _ = Op.index 9 (Operand.tmp 55) (Operand.tmp 56) from rfl) (by rfl) (by rfl) Tryz.underlying9 (by assumption)) (by rfl) (some 57) (by rfl) (by kernel_rfl) (by kernel_rfl) (by kernel_rfl) (by kernel_rfl) ?_
      skip
      refine Rg.keep 9 (by rfl) (by kernel_rfl) (Does.call [2, 3, 0, 1, 4] (show Oper.op _ = Op.call { callee := Callee.value (Operand.func 31), args := #[Operand.tmp 54, Operand.tmp 57, Operand.tmp 62], argTypes := #[43, 5, 9] } from rfl) Tryz.func31 (by kernel_rfl) (by kernel_rfl) (dput_sl κ z w (by omega)) (by rfl) (by rfl) (by rfl)) (by rfl) (some 63) (by rfl) (fun _ _ h => by have h2 := h.pick [2, 3] (by rfl); exact h2) ?_
      rintro z' hz'
      refine Rg.ev 10 (by rfl) (fun _ h => h.pick [2, 3] rfl) (Ev.move (show Oper.op _ = Op.move (Operand.tmp 63) from rfl) (by rfl)) (by rfl) (some 53) (by rfl) (by kernel_rfl) (by kernel_rfl) (by kernel_rfl) (by kernel_rfl) ?_
      refine Rg.ev 11 (by rfl) (fun _ h => h.pick [2, 3] rfl) (Ev.extract (show Oper.op _ = Op.extract (Operand.tmp 53) 0 from rfl) (by rfl) (by rfl)) (by rfl) (some 64) (by rfl) (by kernel_rfl) (by kernel_rfl) (by kernel_rfl) (by kernel_rfl) ?_
      refine Rg.pv 12 (by rfl) (fun _ h => h.pick [2, 3] rfl) (fun _ => Ev.extract (show Oper.op _ = Op.extract (Operand.tmp 53) 1 from rfl) (by rfl) (by rfl)) (by rfl) (some 65) (by rfl) (by kernel_rfl) (by kernel_rfl) (by kernel_rfl) (by kernel_rfl) ?_
      refine Rg.tail 13 [] (by rfl) (by kernel_rfl) (Does.store 2 (show Oper.op _ = Op.store 43 (Operand.tmp 7) (Operand.tmp 64) from rfl) (by rfl) (by rfl) (by rfl) (by kernel_rfl) (by rfl) (by kernel_rfl) (by rfl)) (by rfl) none (by rfl) (by kernel_rfl) (by kernel_rfl) ?_
      intro _ _
      refine Rg.ev 14 (by rfl) (fun _ h => h) (Ev.assign (show Oper.op _ = Op.assign (Operand.tmp 65) from rfl) (by rfl)) (by rfl) (some 9) (by rfl) (by kernel_rfl) (by kernel_rfl) (by kernel_rfl) (by kernel_rfl) ?_
      refine Rg.done (by kernel_rfl) ?_ _
      refine Cd.region ?_
      refine Ls.ev (some 51) (Ev.move (show Oper.op _ = Op.move (Operand.tmp 10) from rfl) (by rfl)) (by rfl) (by rfl) ?_
      refine Ls.ev (some 52) (Ev.addN (b := 1) (show Oper.op _ = Op.binOp BinOp.add 3 (Operand.tmp 51) (Operand.const (Value.int IntKind.i64 1)) 3 from rfl) (by rfl) (by rfl) (by omega)) (by rfl) (by rfl) ?_
      refine Ls.ev (some 10) (Ev.assign (show Oper.op _ = Op.assign (Operand.tmp 52) from rfl) (by rfl)) (by rfl) (by rfl) ?_
      refine Ls.nil ?_
      refine Ent.pick [2, 3, 0, 1, 4] (by rfl) ?_
      refine Ent.inv ((k + 1, z', (readW z.p κ w).isSome)) ?_ ?_ ?_
      · (try dsimp only); exact ⟨⟨h3.1, std_next hrl h3.1 hrs hz'⟩, by omega⟩
      · (repeat (first | exact trivial | refine ⟨by rfl, ?_⟩ | refine ⟨by simp only [List.length_append, List.length_cons, List.length_nil]; rfl, ?_⟩ | refine ⟨by push_cast; rfl, ?_⟩))
      · rfl
    skip
    have h3 := of_decide_eq_false h3
    refine Cd.exit ?_
    refine Cd.seq ?_
    refine Cd.seq ?_
    refine Cd.region ?_
    refine Ls.ev (some 66) (Ev.move (show Oper.op _ = Op.move (Operand.tmp 9) from rfl) (by rfl)) (by rfl) (by rfl) ?_
    refine Ls.ev (some 67) (Ev.not (show Oper.op _ = Op.unOp UnOp.not 4 (Operand.tmp 66) from rfl) (by rfl)) (by rfl) (by rfl) ?_
    refine Ls.nil ?_
    refine Cd.cond _ (by rfl) (fun h4 => ?_) (fun h4 => ?_)
    · skip
      have hok : ok = false := by simpa using h4
      have hcz : cmdP c r = (noSt, 241) := by
        rcases hs with ⟨_, h⟩ | ⟨h, _⟩
        · exact h
        · rw [hok] at h; cases h
      rw [hcz]
      refine Cd.seq ?_
      refine Cd.region ?_
      refine Ls.ev (some 68) (Ev.buildP (pl := [(0, 1), (1, 1), (2, 1), (3, 1), (4, 8)]) (zs := [.int .i64 0, .int .i64 0, .int .i64 0, .int .i64 0, .int .i64 0, .int .i64 0, .int .i64 0, .int .i64 0, .int .i64 0, .int .i64 0, .slice none 0 0, .slice none 0 0]) (show Oper.op _ = Op.build 43 #[] from rfl) (by rfl) (by kernel_rfl) (by rfl)) (by rfl) (by rfl) ?_
      refine Ls.does none (Does.store 4 (show Oper.op _ = Op.store 43 (Operand.tmp 2) (Operand.tmp 68) from rfl) (by rfl) (by rfl) (by rfl) (by kernel_rfl) (by rfl) (by kernel_rfl) (by rfl)) (by rfl) (by rfl) ?_
      intro _ _
      refine Ls.ev (some 3) (Ev.assign (show Oper.op _ = Op.assign (Operand.const (Value.int IntKind.i64 241)) from rfl) (by rfl)) (by rfl) (by rfl) ?_
      refine Ls.nil ?_
      refine Ent.nil 3 1 ?_
      refine Ent.nil 3 1 ?_
      refine Ent.pick [6, 0, 1] (by rfl) ?_
      refine Cd.ret ?_
      refine Ent.ret (noStS) (rfl) (Res.cell_tmp 0 (by rfl) (by rfl) (by rfl) (n := 12) (by kernel_rfl) (by rfl) (by rfl) (by rfl)) ?_ [1, 2] (by rfl) ?_
      · rfl
      · rfl
    · skip
      have hok : ok = true := by simpa using h4
      obtain ⟨_, hrl, hkl, hrs⟩ := hs.resolve_left (fun h => by rw [h.1] at hok; cases hok)
      have hkn : k = c.ws.length := by
        have : ¬ (k < c.ws.length) := fun h => h3 ⟨h, hok⟩
        omega
      have hcz : cmdP c r = (z.p, 0) := by
        rw [cmd_of hrl, hrs, hkn, List.drop_length]
        cases r.drop c.ws.length <;> rfl
      rw [hcz]
      refine Cd.skip ?_
      refine Cd.seq ?_
      refine Cd.region ?_
      refine Ls.ev (some 69) (Ev.loads 0 (show Oper.op _ = Op.load 43 (Operand.tmp 7) from rfl) (by rfl) (by rfl) (n := 12) (by kernel_rfl) (by rfl) (by rfl)) (by rfl) (by rfl) ?_
      refine Ls.does none (Does.store 4 (show Oper.op _ = Op.store 43 (Operand.tmp 2) (Operand.tmp 69) from rfl) (by rfl) (by rfl) (by rfl) (by kernel_rfl) (by rfl) (by kernel_rfl) (by rfl)) (by rfl) (by rfl) ?_
      intro _ _
      refine Ls.ev (some 3) (Ev.assign (show Oper.op _ = Op.assign (Operand.const (Value.int IntKind.i64 0)) from rfl) (by rfl)) (by rfl) (by rfl) ?_
      refine Ls.nil ?_
      refine Cd.ret ?_
      refine Ent.ret (z) (rfl) (Res.cell_tmp 4 (by rfl) (by rfl) (by rfl) (n := 12) (by kernel_rfl) (by rfl) (by rfl) (by rfl)) ?_ [2, 3] (by rfl) ?_
      · rfl
      · rfl
  · skip
    have h1 := of_decide_eq_false h1
    rw [lineD_end h1 hi]
    refine Cd.exit ?_
    refine Cd.seq ?_
    refine Cd.region ?_
    refine Ls.ev (some 70) (Ev.buildP (pl := [(0, 1), (1, 1), (2, 1), (3, 1), (4, 8)]) (zs := [.int .i64 0, .int .i64 0, .int .i64 0, .int .i64 0, .int .i64 0, .int .i64 0, .int .i64 0, .int .i64 0, .int .i64 0, .int .i64 0, .slice none 0 0, .slice none 0 0]) (show Oper.op _ = Op.build 43 #[] from rfl) (by rfl) (by kernel_rfl) (by rfl)) (by rfl) (by rfl) ?_
    refine Ls.does none (Does.store 1 (show Oper.op _ = Op.store 43 (Operand.tmp 2) (Operand.tmp 70) from rfl) (by rfl) (by rfl) (by rfl) (by kernel_rfl) (by rfl) (by kernel_rfl) (by rfl)) (by rfl) (by rfl) ?_
    intro _ _
    refine Ls.ev (some 3) (Ev.assign (show Oper.op _ = Op.assign (Operand.const (Value.int IntKind.i64 240)) from rfl) (by rfl)) (by rfl) (by rfl) ?_
    refine Ls.nil ?_
    refine Ent.nil 3 1 ?_
    refine Ent.nil 3 1 ?_
    refine Ent.pick [3, 0, 1] (by rfl) ?_
    refine Cd.ret ?_
    refine Ent.ret (noStS) (rfl) (Res.cell_tmp 0 (by rfl) (by rfl) (by rfl) (n := 12) (by kernel_rfl) (by rfl) (by rfl) (by rfl)) ?_ [1, 2] (by rfl) ?_
    · rfl
    · rfl
end Go.Proofs.YtemcigoelcblbaaGreatDoor
/- the walk of ScriptLines -/
namespace Go.Proofs.YtemcigoelcblbaaGreatDoor
open Go.RowKit
set_option maxRecDepth 20000 in
set_option maxHeartbeats 4000000 in
theorem dsame_sl (z y : StS) (h1 : z.keeps.length ≤ 17592186044415) (h2 : z.cells.length ≤ 17592186044415) : Fn Tryz.prog 9 #[.agg z.enc.toArray, .agg y.enc.toArray] [z.rC, z.rK, y.rC, y.rK] Unit (fun _ => .bool (decide (z.p = y.p))) (fun _ => []) (fun _ => True) := by
  rw [show decide (z.p = y.p) = decide (z.p.eqs y.p) from decide_eq_decide.2 StP.eqs_iff.symm]
  have hk := ints_sl z.K y.K z.kc y.kc z.keeps y.keeps h1
  have hc := sameCall_sl z.verb y.verb z.ep y.ep z.st y.st z.C y.C z.cc y.cc z.cells y.cells h2
  obtain ⟨z1, z2, z3, z4, z5, z6, z7, z8, z9, z10, zC, zcc, zcl, zK, zkc, zkl⟩ := z
  obtain ⟨y1, y2, y3, y4, y5, y6, y7, y8, y9, y10, yC, ycc, ycl, yK, ykc, ykl⟩ := y
  dsimp only [StS.enc, StS.p, StP.eqs, StS.rC, StS.rK] at hk hc ⊢
  refine Fn.enter Tryz.func9 rfl Tryz.ntmps9 (by rfl) ?_
  intro w0
  refine Cd.seq ?_
  refine Cd.region ?_
  refine Ls.does (some 2) (Does.box (show Oper.op _ = Op.box 43 (Operand.tmp 0) from rfl) (by rfl)) (by rfl) (by rfl) ?_
  intro g1 _
  refine Ls.does (some 3) (Does.box (show Oper.op _ = Op.box 43 (Operand.tmp 1) from rfl) (by rfl)) (by rfl) (by rfl) ?_
  intro g2 _
  refine Ls.ev (some 4) (Ev.assign (show Oper.op _ = Op.assign (Operand.const (Value.bool false)) from rfl) (by rfl)) (by rfl) (by rfl) ?_
  refine Ls.nil ?_
  refine Cd.seq ?_
  refine Cd.cut (ι := Unit) (fun _ => [(4, .bool (decide (z1 = y1 ∧ z2 = y2 ∧ z3 = y3 ∧ z4 = y4 ∧ z5 = y5 ∧ z6 = y6 ∧ z7 = y7 ∧ zkl = ykl ∧ z8 = y8 ∧ z9 = y9 ∧ z10 = y10 ∧ zcl = ycl)))]) (fun _ => []) (fun _ => True) ?_ ?_
  · skip
    refine Cd.region ?_
    refine Ls.ev (some 5) (Ev.fieldAddr (k := 0) (show Oper.op _ = Op.fieldAddr 43 (Operand.tmp 2) 0 from rfl) (by rfl) (by kernel_rfl) (by rfl)) (by rfl) (by rfl) ?_
    refine Ls.ev (some 6) (Ev.load 1 (show Oper.op _ = Op.load 3 (Operand.tmp 5) from rfl) (by rfl) (by rfl) (by kernel_rfl) (by rfl)) (by rfl) (by rfl) ?_
    refine Ls.ev (some 7) (Ev.fieldAddr (k := 0) (show Oper.op _ = Op.fieldAddr 43 (Operand.tmp 3) 0 from rfl) (by rfl) (by kernel_rfl) (by rfl)) (by rfl) (by rfl) ?_
    refine Ls.ev (some 8) (Ev.load 0 (show Oper.op _ = Op.load 3 (Operand.tmp 7) from rfl) (by rfl) (by rfl) (by kernel_rfl) (by rfl)) (by rfl) (by rfl) ?_
    refine Ls.ev (some 9) (Ev.eql (show Oper.op _ = Op.binOp BinOp.eql 3 (Operand.tmp 6) (Operand.tmp 8) 3 from rfl) (by rfl) (by rfl)) (by rfl) (by rfl) ?_
    refine Ls.ev (some 10) (Ev.move (show Oper.op _ = Op.move (Operand.tmp 9) from rfl) (by rfl)) (by rfl) (by rfl) ?_
    refine Ent.split 10 (by rfl) (fun hT1 => ?_) (fun hT1 => ?_)
    · first | have hT1 := of_decide_eq_false hT1 | have hT1 := of_not_decide_false hT1 | skip
      refine Ls.pass (some 11) (by rfl) (by rfl) ?_
      refine Ls.pass (some 12) (by rfl) (by rfl) ?_
      refine Ls.pass (some 13) (by rfl) (by rfl) ?_
      refine Ls.pass (some 14) (by rfl) (by rfl) ?_
      refine Ls.pass (some 15) (by rfl) (by rfl) ?_
      refine Ls.ev (some 16) (Ev.pickF (show Oper.op _ = Op.pick (Operand.tmp 10) (Operand.tmp 15) (Operand.const (Value.bool false)) from rfl) (by rfl) (by rfl)) (by rfl) (by rfl) ?_
      refine Ls.ev (some 17) (Ev.move (show Oper.op _ = Op.move (Operand.tmp 16) from rfl) (by rfl)) (by rfl) (by rfl) ?_
      refine Ls.pass (some 18) (by rfl) (by rfl) ?_
      refine Ls.pass (some 19) (by rfl) (by rfl) ?_
      refine Ls.pass (some 20) (by rfl) (by rfl) ?_
      refine Ls.pass (some 21) (by rfl) (by rfl) ?_
      refine Ls.pass (some 22) (by rfl) (by rfl) ?_
      refine Ls.ev (some 23) (Ev.pickF (show Oper.op _ = Op.pick (Operand.tmp 17) (Operand.tmp 22) (Operand.const (Value.bool false)) from rfl) (by rfl) (by rfl)) (by rfl) (by rfl) ?_
      refine Ls.ev (some 24) (Ev.move (show Oper.op _ = Op.move (Operand.tmp 23) from rfl) (by rfl)) (by rfl) (by rfl) ?_
      refine Ls.pass (some 25) (by rfl) (by rfl) ?_
      refine Ls.pass (some 26) (by rfl) (by rfl) ?_
      refine Ls.pass (some 27) (by rfl) (by rfl) ?_
      refine Ls.pass (some 28) (by rfl) (by rfl) ?_
      refine Ls.pass (some 29) (by rfl) (by rfl) ?_
      refine Ls.ev (some 30) (Ev.pickF (show Oper.op _ = Op.pick (Operand.tmp 24) (Operand.tmp 29) (Operand.const (Value.bool false)) from rfl) (by rfl) (by rfl)) (by rfl) (by rfl) ?_
      refine Ls.ev (some 31) (Ev.move (show Oper.op _ = Op.move (Operand.tmp 30) from rfl) (by rfl)) (by rfl) (by rfl) ?_
      refine Ls.pass (some 32) (by rfl) (by rfl) ?_
      refine Ls.pass (some 33) (by rfl) (by rfl) ?_
      refine Ls.pass (some 34) (by rfl) (by rfl) ?_
      refine Ls.pass (some 35) (by rfl) (by rfl) ?_
      refine Ls.pass (some 36) (by rfl) (by rfl) ?_
      refine Ls.pass (some 37) (by rfl) (by rfl) ?_
      refine Ls.pass (some 38) (by rfl) (by rfl) ?_
      refine Ls.ev (some 39) (Ev.pickF (show Oper.op _ = Op.pick (Operand.tmp 31) (Operand.tmp 38) (Operand.const (Value.bool false)) from rfl) (by rfl) (by rfl)) (by rfl) (by rfl) ?_
      refine Ls.ev (some 40) (Ev.move (show Oper.op _ = Op.move (Operand.tmp 39) from rfl) (by rfl)) (by rfl) (by rfl) ?_
      refine Ls.pass (some 41) (by rfl) (by rfl) ?_
      refine Ls.pass (some 42) (by rfl) (by rfl) ?_
      refine Ls.pass (some 43) (by rfl) (by rfl) ?_
      refine Ls.pass (some 44) (by rfl) (by rfl) ?_
      refine Ls.pass (some 45) (by rfl) (by rfl) ?_
      refine Ls.pass (some 46) (by rfl) (by rfl) ?_
      refine Ls.pass (some 47) (by rfl) (by rfl) ?_
      refine Ls.ev (some 48) (Ev.pickF (show Oper.op _ = Op.pick (Operand.tmp 40) (Operand.tmp 47) (Operand.const (Value.bool false)) from rfl) (by rfl) (by rfl)) (by rfl) (by rfl) ?_
      refine Ls.ev (some 49) (Ev.move (show Oper.op _ = Op.move (Operand.tmp 48) from rfl) (by rfl)) (by rfl) (by rfl) ?_
      refine Ls.pass (some 50) (by rfl) (by rfl) ?_
      refine Ls.pass (some 51) (by rfl) (by rfl) ?_
      refine Ls.pass (some 52) (by rfl) (by rfl) ?_
      refine Ls.pass (some 53) (by rfl) (by rfl) ?_
      refine Ls.pass (some 54) (by rfl) (by rfl) ?_
      refine Ls.pass (some 55) (by rfl) (by rfl) ?_
      refine Ls.pass (some 56) (by rfl) (by rfl) ?_
      refine Ls.ev (some 57) (Ev.pickF (show Oper.op _ = Op.pick (Operand.tmp 49) (Operand.tmp 56) (Operand.const (Value.bool false)) from rfl) (by rfl) (by rfl)) (by rfl) (by rfl) ?_
      refine Ls.ev (some 58) (Ev.move (show Oper.op _ = Op.move (Operand.tmp 57) from rfl) (by rfl)) (by rfl) (by rfl) ?_
      refine Ls.pass (some 59) (by rfl) (by rfl) ?_
      refine Ls.pass (some 60) (by rfl) (by rfl) ?_
      refine Ls.pass (some 61) (by rfl) (by rfl) ?_
      refine Ls.pass (some 62) (by rfl) (by rfl) ?_
      refine Ls.pass (some 63) (by rfl) (by rfl) ?_
      refine Ls.pass (some 64) (by rfl) (by rfl) ?_
      refine Ls.pass (some 65) (by rfl) (by rfl) ?_
      refine Ls.ev (some 66) (Ev.pickF (show Oper.op _ = Op.pick (Operand.tmp 58) (Operand.tmp 65) (Operand.const (Value.bool false)) from rfl) (by rfl) (by rfl)) (by rfl) (by rfl) ?_
      refine Ls.ev (some 67) (Ev.move (show Oper.op _ = Op.move (Operand.tmp 66) from rfl) (by rfl)) (by rfl) (by rfl) ?_
      refine Ls.pass (some 68) (by rfl) (by rfl) ?_
      refine Ls.pass (some 69) (by rfl) (by rfl) ?_
      refine Ls.pass (some 70) (by rfl) (by rfl) ?_
      refine Ls.pass (some 71) (by rfl) (by rfl) ?_
      refine Ls.pass (some 72) (by rfl) (by rfl) ?_
      refine Ls.pass (some 73) (by rfl) (by rfl) ?_
      refine Ls.pass (some 74) (by rfl) (by rfl) ?_
      refine Ls.ev (some 75) (Ev.pickF (show Oper.op _ = Op.pick (Operand.tmp 67) (Operand.tmp 74) (Operand.const (Value.bool false)) from rfl) (by rfl) (by rfl)) (by rfl) (by rfl) ?_
      refine Ls.ev (some 4) (Ev.assign (show Oper.op _ = Op.assign (Operand.tmp 75) from rfl) (by rfl)) (by rfl) (by rfl) ?_
      refine Ls.nil ?_
      refine Ent.pick [] (by rfl) ?_
      refine Ent.inv () ?_ ?_ ?_
      · exact trivial
      · (repeat (first | exact trivial | refine ⟨by rfl, ?_⟩ | refine ⟨by simp only [List.length_append, List.length_cons, List.length_nil]; rfl, ?_⟩ | refine ⟨by push_cast; rfl, ?_⟩ | refine ⟨by (show some (Value.bool _) = some (Value.bool _); congr 2; (first | (refine (decide_eq_false ?_).symm; simp_all; done) | (refine decide_eq_decide.2 ?_; simp_all; done))), ?_⟩))
      · rfl
    · first | have hT1 := of_decide_eq_true hT1 | have hT1 := of_not_decide_true hT1 | skip
      refine Ls.ev (some 11) (Ev.fieldAddr (k := 1) (show Oper.op _ = Op.fieldAddr 43 (Operand.tmp 2) 1 from rfl) (by rfl) (by kernel_rfl) (by rfl)) (by rfl) (by rfl) ?_
      refine Ls.ev (some 12) (Ev.load 1 (show Oper.op _ = Op.load 3 (Operand.tmp 11) from rfl) (by rfl) (by rfl) (by kernel_rfl) (by rfl)) (by rfl) (by rfl) ?_
      refine Ls.ev (some 13) (Ev.fieldAddr (k := 1) (show Oper.op _ = Op.fieldAddr 43 (Operand.tmp 3) 1 from rfl) (by rfl) (by kernel_rfl) (by rfl)) (by rfl) (by rfl) ?_
      refine Ls.ev (some 14) (Ev.load 0 (show Oper.op _ = Op.load 3 (Operand.tmp 13) from rfl) (by rfl) (by rfl) (by kernel_rfl) (by rfl)) (by rfl) (by rfl) ?_
      refine Ls.ev (some 15) (Ev.eql (show Oper.op _ = Op.binOp BinOp.eql 3 (Operand.tmp 12) (Operand.tmp 14) 3 from rfl) (by rfl) (by rfl)) (by rfl) (by rfl) ?_
      refine Ls.ev (some 16) (Ev.pickT (show Oper.op _ = Op.pick (Operand.tmp 10) (Operand.tmp 15) (Operand.const (Value.bool false)) from rfl) (by rfl) (by rfl)) (by rfl) (by rfl) ?_
      refine Ls.ev (some 17) (Ev.move (show Oper.op _ = Op.move (Operand.tmp 16) from rfl) (by rfl)) (by rfl) (by rfl) ?_
      refine Ent.split 17 (by rfl) (fun hT2 => ?_) (fun hT2 => ?_)
      · first | have hT2 := of_decide_eq_false hT2 | have hT2 := of_not_decide_false hT2 | skip
        refine Ls.pass (some 18) (by rfl) (by rfl) ?_
        refine Ls.pass (some 19) (by rfl) (by rfl) ?_
        refine Ls.pass (some 20) (by rfl) (by rfl) ?_
        refine Ls.pass (some 21) (by rfl) (by rfl) ?_
        refine Ls.pass (some 22) (by rfl) (by rfl) ?_
        refine Ls.ev (some 23) (Ev.pickF (show Oper.op _ = Op.pick (Operand.tmp 17) (Operand.tmp 22) (Operand.const (Value.bool false)) from rfl) (by rfl) (by rfl)) (by rfl) (by rfl) ?_
        refine Ls.ev (some 24) (Ev.move (show Oper.op _ = Op.move (Operand.tmp 23) from rfl) (by rfl)) (by rfl) (by rfl) ?_
        refine Ls.pass (some 25) (by rfl) (by rfl) ?_
        refine Ls.pass (some 26) (by rfl) (by rfl) ?_
        refine Ls.pass (some 27) (by rfl) (by rfl) ?_
        refine Ls.pass (some 28) (by rfl) (by rfl) ?_
        refine Ls.pass (some 29) (by rfl) (by rfl) ?_
        refine Ls.ev (some 30) (Ev.pickF (show Oper.op _ = Op.pick (Operand.tmp 24) (Operand.tmp 29) (Operand.const (Value.bool false)) from rfl) (by rfl) (by rfl)) (by rfl) (by rfl) ?_
        refine Ls.ev (some 31) (Ev.move (show Oper.op _ = Op.move (Operand.tmp 30) from rfl) (by rfl)) (by rfl) (by rfl) ?_
        refine Ls.pass (some 32) (by rfl) (by rfl) ?_
        refine Ls.pass (some 33) (by rfl) (by rfl) ?_
        refine Ls.pass (some 34) (by rfl) (by rfl) ?_
        refine Ls.pass (some 35) (by rfl) (by rfl) ?_
        refine Ls.pass (some 36) (by rfl) (by rfl) ?_
        refine Ls.pass (some 37) (by rfl) (by rfl) ?_
        refine Ls.pass (some 38) (by rfl) (by rfl) ?_
        refine Ls.ev (some 39) (Ev.pickF (show Oper.op _ = Op.pick (Operand.tmp 31) (Operand.tmp 38) (Operand.const (Value.bool false)) from rfl) (by rfl) (by rfl)) (by rfl) (by rfl) ?_
        refine Ls.ev (some 40) (Ev.move (show Oper.op _ = Op.move (Operand.tmp 39) from rfl) (by rfl)) (by rfl) (by rfl) ?_
        refine Ls.pass (some 41) (by rfl) (by rfl) ?_
        refine Ls.pass (some 42) (by rfl) (by rfl) ?_
        refine Ls.pass (some 43) (by rfl) (by rfl) ?_
        refine Ls.pass (some 44) (by rfl) (by rfl) ?_
        refine Ls.pass (some 45) (by rfl) (by rfl) ?_
        refine Ls.pass (some 46) (by rfl) (by rfl) ?_
        refine Ls.pass (some 47) (by rfl) (by rfl) ?_
        refine Ls.ev (some 48) (Ev.pickF (show Oper.op _ = Op.pick (Operand.tmp 40) (Operand.tmp 47) (Operand.const (Value.bool false)) from rfl) (by rfl) (by rfl)) (by rfl) (by rfl) ?_
        refine Ls.ev (some 49) (Ev.move (show Oper.op _ = Op.move (Operand.tmp 48) from rfl) (by rfl)) (by rfl) (by rfl) ?_
        refine Ls.pass (some 50) (by rfl) (by rfl) ?_
        refine Ls.pass (some 51) (by rfl) (by rfl) ?_
        refine Ls.pass (some 52) (by rfl) (by rfl) ?_
        refine Ls.pass (some 53) (by rfl) (by rfl) ?_
        refine Ls.pass (some 54) (by rfl) (by rfl) ?_
        refine Ls.pass (some 55) (by rfl) (by rfl) ?_
        refine Ls.pass (some 56) (by rfl) (by rfl) ?_
        refine Ls.ev (some 57) (Ev.pickF (show Oper.op _ = Op.pick (Operand.tmp 49) (Operand.tmp 56) (Operand.const (Value.bool false)) from rfl) (by rfl) (by rfl)) (by rfl) (by rfl) ?_
        refine Ls.ev (some 58) (Ev.move (show Oper.op _ = Op.move (Operand.tmp 57) from rfl) (by rfl)) (by rfl) (by rfl) ?_
        refine Ls.pass (some 59) (by rfl) (by rfl) ?_
        refine Ls.pass (some 60) (by rfl) (by rfl) ?_
        refine Ls.pass (some 61) (by rfl) (by rfl) ?_
        refine Ls.pass (some 62) (by rfl) (by rfl) ?_
        refine Ls.pass (some 63) (by rfl) (by rfl) ?_
        refine Ls.pass (some 64) (by rfl) (by rfl) ?_
        refine Ls.pass (some 65) (by rfl) (by rfl) ?_
        refine Ls.ev (some 66) (Ev.pickF (show Oper.op _ = Op.pick (Operand.tmp 58) (Operand.tmp 65) (Operand.const (Value.bool false)) from rfl) (by rfl) (by rfl)) (by rfl) (by rfl) ?_
        refine Ls.ev (some 67) (Ev.move (show Oper.op _ = Op.move (Operand.tmp 66) from rfl) (by rfl)) (by rfl) (by rfl) ?_
        refine Ls.pass (some 68) (by rfl) (by rfl) ?_
        refine Ls.pass (some 69) (by rfl) (by rfl) ?_
        refine Ls.pass (some 70) (by rfl) (by rfl) ?_
        refine Ls.pass (some 71) (by rfl) (by rfl) ?_
        refine Ls.pass (some 72) (by rfl) (by rfl) ?_
        refine Ls.pass (some 73) (by rfl) (by rfl) ?_
        refine Ls.pass (some 74) (by rfl) (by rfl) ?_
        refine Ls.ev (some 75) (Ev.pickF (show Oper.op _ = Op.pick (Operand.tmp 67) (Operand.tmp 74) (Operand.const (Value.bool false)) from rfl) (by rfl) (by rfl)) (by rfl) (by rfl) ?_
        refine Ls.ev (some 4) (Ev.assign (show Oper.op _ = Op.assign (Operand.tmp 75) from rfl) (by rfl)) (by rfl) (by rfl) ?_
        refine Ls.nil ?_
        refine Ent.pick [] (by rfl) ?_
        refine Ent.inv () ?_ ?_ ?_
        · exact trivial
        · (repeat (first | exact trivial | refine ⟨by rfl, ?_⟩ | refine ⟨by simp only [List.length_append, List.length_cons, List.length_nil]; rfl, ?_⟩ | refine ⟨by push_cast; rfl, ?_⟩ | refine ⟨by (show some (Value.bool _) = some (Value.bool _); congr 2; (first | (refine (decide_eq_false ?_).symm; simp_all; done) | (refine decide_eq_decide.2 ?_; simp_all; done))), ?_⟩))
        · rfl
      · first | have hT2 := of_decide_eq_true hT2 | have hT2 := of_not_decide_true hT2 | skip
        refine Ls.ev (some 18) (Ev.fieldAddr (k := 2) (show Oper.op _ = Op.fieldAddr 43 (Operand.tmp 2) 2 from rfl) (by rfl) (by kernel_rfl) (by rfl)) (by rfl) (by rfl) ?_
        refine Ls.ev (some 19) (Ev.load 1 (show Oper.op _ = Op.load 3 (Operand.tmp 18) from rfl) (by rfl) (by rfl) (by kernel_rfl) (by rfl)) (by rfl) (by rfl) ?_
        refine Ls.ev (some 20) (Ev.fieldAddr (k := 2) (show Oper.op _ = Op.fieldAddr 43 (Operand.tmp 3) 2 from rfl) (by rfl) (by kernel_rfl) (by rfl)) (by rfl) (by rfl) ?_
        refine Ls.ev (some 21) (Ev.load 0 (show Oper.op _ = Op.load 3 (Operand.tmp 20) from rfl) (by rfl) (by rfl) (by kernel_rfl) (by rfl)) (by rfl) (by rfl) ?_
        refine Ls.ev (some 22) (Ev.eql (show Oper.op _ = Op.binOp BinOp.eql 3 (Operand.tmp 19) (Operand.tmp 21) 3 from rfl) (by rfl) (by rfl)) (by rfl) (by rfl) ?_
        refine Ls.ev (some 23) (Ev.pickT (show Oper.op _ = Op.pick (Operand.tmp 17) (Operand.tmp 22) (Operand.const (Value.bool false)) from rfl) (by rfl) (by rfl)) (by rfl) (by rfl) ?_
        refine Ls.ev (some 24) (Ev.move (show Oper.op _ = Op.move (Operand.tmp 23) from rfl) (by rfl)) (by rfl) (by rfl) ?_
        refine Ent.split 24 (by rfl) (fun hT3 => ?_) (fun hT3 => ?_)
        · first | have hT3 := of_decide_eq_false hT3 | have hT3 := of_not_decide_false hT3 | skip
          refine Ls.pass (some 25) (by rfl) (by rfl) ?_
          refine Ls.pass (some 26) (by rfl) (by rfl) ?_
          refine Ls.pass (some 27) (by rfl) (by rfl) ?_
          refine Ls.pass (some 28) (by rfl) (by rfl) ?_
          refine Ls.pass (some 29) (by rfl) (by rfl) ?_
          refine Ls.ev (some 30) (Ev.pickF (show Oper.op _ = Op.pick (Operand.tmp 24) (Operand.tmp 29) (Operand.const (Value.bool false)) from rfl) (by rfl) (by rfl)) (by rfl) (by rfl) ?_
          refine Ls.ev (some 31) (Ev.move (show Oper.op _ = Op.move (Operand.tmp 30) from rfl) (by rfl)) (by rfl) (by rfl) ?_
          refine Ls.pass (some 32) (by rfl) (by rfl) ?_
          refine Ls.pass (some 33) (by rfl) (by rfl) ?_
          refine Ls.pass (some 34) (by rfl) (by rfl) ?_
          refine Ls.pass (some 35) (by rfl) (by rfl) ?_
          refine Ls.pass (some 36) (by rfl) (by rfl) ?_
          refine Ls.pass (some 37) (by rfl) (by rfl) ?_
          refine Ls.pass (some 38) (by rfl) (by rfl) ?_
          refine Ls.ev (some 39) (Ev.pickF (show Oper.op _ = Op.pick (Operand.tmp 31) (Operand.tmp 38) (Operand.const (Value.bool false)) from rfl) (by rfl) (by rfl)) (by rfl) (by rfl) ?_
          refine Ls.ev (some 40) (Ev.move (show Oper.op _ = Op.move (Operand.tmp 39) from rfl) (by rfl)) (by rfl) (by rfl) ?_
          refine Ls.pass (some 41) (by rfl) (by rfl) ?_
          refine Ls.pass (some 42) (by rfl) (by rfl) ?_
          refine Ls.pass (some 43) (by rfl) (by rfl) ?_
          refine Ls.pass (some 44) (by rfl) (by rfl) ?_
          refine Ls.pass (some 45) (by rfl) (by rfl) ?_
          refine Ls.pass (some 46) (by rfl) (by rfl) ?_
          refine Ls.pass (some 47) (by rfl) (by rfl) ?_
          refine Ls.ev (some 48) (Ev.pickF (show Oper.op _ = Op.pick (Operand.tmp 40) (Operand.tmp 47) (Operand.const (Value.bool false)) from rfl) (by rfl) (by rfl)) (by rfl) (by rfl) ?_
          refine Ls.ev (some 49) (Ev.move (show Oper.op _ = Op.move (Operand.tmp 48) from rfl) (by rfl)) (by rfl) (by rfl) ?_
          refine Ls.pass (some 50) (by rfl) (by rfl) ?_
          refine Ls.pass (some 51) (by rfl) (by rfl) ?_
          refine Ls.pass (some 52) (by rfl) (by rfl) ?_
          refine Ls.pass (some 53) (by rfl) (by rfl) ?_
          refine Ls.pass (some 54) (by rfl) (by rfl) ?_
          refine Ls.pass (some 55) (by rfl) (by rfl) ?_
          refine Ls.pass (some 56) (by rfl) (by rfl) ?_
          refine Ls.ev (some 57) (Ev.pickF (show Oper.op _ = Op.pick (Operand.tmp 49) (Operand.tmp 56) (Operand.const (Value.bool false)) from rfl) (by rfl) (by rfl)) (by rfl) (by rfl) ?_
          refine Ls.ev (some 58) (Ev.move (show Oper.op _ = Op.move (Operand.tmp 57) from rfl) (by rfl)) (by rfl) (by rfl) ?_
          refine Ls.pass (some 59) (by rfl) (by rfl) ?_
          refine Ls.pass (some 60) (by rfl) (by rfl) ?_
          refine Ls.pass (some 61) (by rfl) (by rfl) ?_
          refine Ls.pass (some 62) (by rfl) (by rfl) ?_
          refine Ls.pass (some 63) (by rfl) (by rfl) ?_
          refine Ls.pass (some 64) (by rfl) (by rfl) ?_
          refine Ls.pass (some 65) (by rfl) (by rfl) ?_
          refine Ls.ev (some 66) (Ev.pickF (show Oper.op _ = Op.pick (Operand.tmp 58) (Operand.tmp 65) (Operand.const (Value.bool false)) from rfl) (by rfl) (by rfl)) (by rfl) (by rfl) ?_
          refine Ls.ev (some 67) (Ev.move (show Oper.op _ = Op.move (Operand.tmp 66) from rfl) (by rfl)) (by rfl) (by rfl) ?_
          refine Ls.pass (some 68) (by rfl) (by rfl) ?_
          refine Ls.pass (some 69) (by rfl) (by rfl) ?_
          refine Ls.pass (some 70) (by rfl) (by rfl) ?_
          refine Ls.pass (some 71) (by rfl) (by rfl) ?_
          refine Ls.pass (some 72) (by rfl) (by rfl) ?_
          refine Ls.pass (some 73) (by rfl) (by rfl) ?_
          refine Ls.pass (some 74) (by rfl) (by rfl) ?_
          refine Ls.ev (some 75) (Ev.pickF (show Oper.op _ = Op.pick (Operand.tmp 67) (Operand.tmp 74) (Operand.const (Value.bool false)) from rfl) (by rfl) (by rfl)) (by rfl) (by rfl) ?_
          refine Ls.ev (some 4) (Ev.assign (show Oper.op _ = Op.assign (Operand.tmp 75) from rfl) (by rfl)) (by rfl) (by rfl) ?_
          refine Ls.nil ?_
          refine Ent.pick [] (by rfl) ?_
          refine Ent.inv () ?_ ?_ ?_
          · exact trivial
          · (repeat (first | exact trivial | refine ⟨by rfl, ?_⟩ | refine ⟨by simp only [List.length_append, List.length_cons, List.length_nil]; rfl, ?_⟩ | refine ⟨by push_cast; rfl, ?_⟩ | refine ⟨by (show some (Value.bool _) = some (Value.bool _); congr 2; (first | (refine (decide_eq_false ?_).symm; simp_all; done) | (refine decide_eq_decide.2 ?_; simp_all; done))), ?_⟩))
          · rfl
        · first | have hT3 := of_decide_eq_true hT3 | have hT3 := of_not_decide_true hT3 | skip
          refine Ls.ev (some 25) (Ev.fieldAddr (k := 3) (show Oper.op _ = Op.fieldAddr 43 (Operand.tmp 2) 3 from rfl) (by rfl) (by kernel_rfl) (by rfl)) (by rfl) (by rfl) ?_
          refine Ls.ev (some 26) (Ev.load 1 (show Oper.op _ = Op.load 3 (Operand.tmp 25) from rfl) (by rfl) (by rfl) (by kernel_rfl) (by rfl)) (by rfl) (by rfl) ?_
          refine Ls.ev (some 27) (Ev.fieldAddr (k := 3) (show Oper.op _ = Op.fieldAddr 43 (Operand.tmp 3) 3 from rfl) (by rfl) (by kernel_rfl) (by rfl)) (by rfl) (by rfl) ?_
          refine Ls.ev (some 28) (Ev.load 0 (show Oper.op _ = Op.load 3 (Operand.tmp 27) from rfl) (by rfl) (by rfl) (by kernel_rfl) (by rfl)) (by rfl) (by rfl) ?_
          refine Ls.ev (some 29) (Ev.eql (show Oper.op _ = Op.binOp BinOp.eql 3 (Operand.tmp 26) (Operand.tmp 28) 3 from rfl) (by rfl) (by rfl)) (by rfl) (by rfl) ?_
          refine Ls.ev (some 30) (Ev.pickT (show Oper.op _ = Op.pick (Operand.tmp 24) (Operand.tmp 29) (Operand.const (Value.bool false)) from rfl) (by rfl) (by rfl)) (by rfl) (by rfl) ?_
          refine Ls.ev (some 31) (Ev.move (show Oper.op _ = Op.move (Operand.tmp 30) from rfl) (by rfl)) (by rfl) (by rfl) ?_
          refine Ent.split 31 (by rfl) (fun hT4 => ?_) (fun hT4 => ?_)
          · first | have hT4 := of_decide_eq_false hT4 | have hT4 := of_not_decide_false hT4 | skip
            refine Ls.pass (some 32) (by rfl) (by rfl) ?_
            refine Ls.pass (some 33) (by rfl) (by rfl) ?_
            refine Ls.pass (some 34) (by rfl) (by rfl) ?_
            refine Ls.pass (some 35) (by rfl) (by rfl) ?_
            refine Ls.pass (some 36) (by rfl) (by rfl) ?_
            refine Ls.pass (some 37) (by rfl) (by rfl) ?_
            refine Ls.pass (some 38) (by rfl) (by rfl) ?_
            refine Ls.ev (some 39) (Ev.pickF (show Oper.op _ = Op.pick (Operand.tmp 31) (Operand.tmp 38) (Operand.const (Value.bool false)) from rfl) (by rfl) (by rfl)) (by rfl) (by rfl) ?_
            refine Ls.ev (some 40) (Ev.move (show Oper.op _ = Op.move (Operand.tmp 39) from rfl) (by rfl)) (by rfl) (by rfl) ?_
            refine Ls.pass (some 41) (by rfl) (by rfl) ?_
            refine Ls.pass (some 42) (by rfl) (by rfl) ?_
            refine Ls.pass (some 43) (by rfl) (by rfl) ?_
            refine Ls.pass (some 44) (by rfl) (by rfl) ?_
            refine Ls.pass (some 45) (by rfl) (by rfl) ?_
            refine Ls.pass (some 46) (by rfl) (by rfl) ?_
            refine Ls.pass (some 47) (by rfl) (by rfl) ?_
            refine Ls.ev (some 48) (Ev.pickF (show Oper.op _ = Op.pick (Operand.tmp 40) (Operand.tmp 47) (Operand.const (Value.bool false)) from rfl) (by rfl) (by rfl)) (by rfl) (by rfl) ?_
            refine Ls.ev (some 49) (Ev.move (show Oper.op _ = Op.move (Operand.tmp 48) from rfl) (by rfl)) (by rfl) (by rfl) ?_
            refine Ls.pass (some 50) (by rfl) (by rfl) ?_
            refine Ls.pass (some 51) (by rfl) (by rfl) ?_
            refine Ls.pass (some 52) (by rfl) (by rfl) ?_
            refine Ls.pass (some 53) (by rfl) (by rfl) ?_
            refine Ls.pass (some 54) (by rfl) (by rfl) ?_
            refine Ls.pass (some 55) (by rfl) (by rfl) ?_
            refine Ls.pass (some 56) (by rfl) (by rfl) ?_
            refine Ls.ev (some 57) (Ev.pickF (show Oper.op _ = Op.pick (Operand.tmp 49) (Operand.tmp 56) (Operand.const (Value.bool false)) from rfl) (by rfl) (by rfl)) (by rfl) (by rfl) ?_
            refine Ls.ev (some 58) (Ev.move (show Oper.op _ = Op.move (Operand.tmp 57) from rfl) (by rfl)) (by rfl) (by rfl) ?_
            refine Ls.pass (some 59) (by rfl) (by rfl) ?_
            refine Ls.pass (some 60) (by rfl) (by rfl) ?_
            refine Ls.pass (some 61) (by rfl) (by rfl) ?_
            refine Ls.pass (some 62) (by rfl) (by rfl) ?_
            refine Ls.pass (some 63) (by rfl) (by rfl) ?_
            refine Ls.pass (some 64) (by rfl) (by rfl) ?_
            refine Ls.pass (some 65) (by rfl) (by rfl) ?_
            refine Ls.ev (some 66) (Ev.pickF (show Oper.op _ = Op.pick (Operand.tmp 58) (Operand.tmp 65) (Operand.const (Value.bool false)) from rfl) (by rfl) (by rfl)) (by rfl) (by rfl) ?_
            refine Ls.ev (some 67) (Ev.move (show Oper.op _ = Op.move (Operand.tmp 66) from rfl) (by rfl)) (by rfl) (by rfl) ?_
            refine Ls.pass (some 68) (by rfl) (by rfl) ?_
            refine Ls.pass (some 69) (by rfl) (by rfl) ?_
            refine Ls.pass (some 70) (by rfl) (by rfl) ?_
            refine Ls.pass (some 71) (by rfl) (by rfl) ?_
            refine Ls.pass (some 72) (by rfl) (by rfl) ?_
            refine Ls.pass (some 73) (by rfl) (by rfl) ?_
            refine Ls.pass (some 74) (by rfl) (by rfl) ?_
            refine Ls.ev (some 75) (Ev.pickF (show Oper.op _ = Op.pick (Operand.tmp 67) (Operand.tmp 74) (Operand.const (Value.bool false)) from rfl) (by rfl) (by rfl)) (by rfl) (by rfl) ?_
            refine Ls.ev (some 4) (Ev.assign (show Oper.op _ = Op.assign (Operand.tmp 75) from rfl) (by rfl)) (by rfl) (by rfl) ?_
            refine Ls.nil ?_
            refine Ent.pick [] (by rfl) ?_
            refine Ent.inv () ?_ ?_ ?_
            · exact trivial
            · (repeat (first | exact trivial | refine ⟨by rfl, ?_⟩ | refine ⟨by simp only [List.length_append, List.length_cons, List.length_nil]; rfl, ?_⟩ | refine ⟨by push_cast; rfl, ?_⟩ | refine ⟨by (show some (Value.bool _) = some (Value.bool _); congr 2; (first | (refine (decide_eq_false ?_).symm; simp_all; done) | (refine decide_eq_decide.2 ?_; simp_all; done))), ?_⟩))
            · rfl
          · first | have hT4 := of_decide_eq_true hT4 | have hT4 := of_not_decide_true hT4 | skip
            refine Ls.ev (some 32) (Ev.fieldAddr (k := 4) (show Oper.op _ = Op.fieldAddr 43 (Operand.tmp 2) 4 from rfl) (by rfl) (by kernel_rfl) (by rfl)) (by rfl) (by rfl) ?_
            refine Ls.ev (some 33) (Ev.fieldAddr (k := 0) (show Oper.op _ = Op.fieldAddr 41 (Operand.tmp 32) 0 from rfl) (by rfl) (by kernel_rfl) (by rfl)) (by rfl) (by rfl) ?_
            refine Ls.ev (some 34) (Ev.load 1 (show Oper.op _ = Op.load 34 (Operand.tmp 33) from rfl) (by rfl) (by rfl) (by kernel_rfl) (by rfl)) (by rfl) (by rfl) ?_
            refine Ls.ev (some 35) (Ev.fieldAddr (k := 4) (show Oper.op _ = Op.fieldAddr 43 (Operand.tmp 3) 4 from rfl) (by rfl) (by kernel_rfl) (by rfl)) (by rfl) (by rfl) ?_
            refine Ls.ev (some 36) (Ev.fieldAddr (k := 0) (show Oper.op _ = Op.fieldAddr 41 (Operand.tmp 35) 0 from rfl) (by rfl) (by kernel_rfl) (by rfl)) (by rfl) (by rfl) ?_
            refine Ls.ev (some 37) (Ev.load 0 (show Oper.op _ = Op.load 34 (Operand.tmp 36) from rfl) (by rfl) (by rfl) (by kernel_rfl) (by rfl)) (by rfl) (by rfl) ?_
            refine Ls.ev (some 38) (Ev.eql (show Oper.op _ = Op.binOp BinOp.eql 34 (Operand.tmp 34) (Operand.tmp 37) 34 from rfl) (by rfl) (by rfl)) (by rfl) (by rfl) ?_
            refine Ls.ev (some 39) (Ev.pickT (show Oper.op _ = Op.pick (Operand.tmp 31) (Operand.tmp 38) (Operand.const (Value.bool false)) from rfl) (by rfl) (by rfl)) (by rfl) (by rfl) ?_
            refine Ls.ev (some 40) (Ev.move (show Oper.op _ = Op.move (Operand.tmp 39) from rfl) (by rfl)) (by rfl) (by rfl) ?_
            refine Ent.split 40 (by rfl) (fun hT5 => ?_) (fun hT5 => ?_)
            · first | have hT5 := of_decide_eq_false hT5 | have hT5 := of_not_decide_false hT5 | skip
              refine Ls.pass (some 41) (by rfl) (by rfl) ?_
              refine Ls.pass (some 42) (by rfl) (by rfl) ?_
              refine Ls.pass (some 43) (by rfl) (by rfl) ?_
              refine Ls.pass (some 44) (by rfl) (by rfl) ?_
              refine Ls.pass (some 45) (by rfl) (by rfl) ?_
              refine Ls.pass (some 46) (by rfl) (by rfl) ?_
              refine Ls.pass (some 47) (by rfl) (by rfl) ?_
              refine Ls.ev (some 48) (Ev.pickF (show Oper.op _ = Op.pick (Operand.tmp 40) (Operand.tmp 47) (Operand.const (Value.bool false)) from rfl) (by rfl) (by rfl)) (by rfl) (by rfl) ?_
              refine Ls.ev (some 49) (Ev.move (show Oper.op _ = Op.move (Operand.tmp 48) from rfl) (by rfl)) (by rfl) (by rfl) ?_
              refine Ls.pass (some 50) (by rfl) (by rfl) ?_
              refine Ls.pass (some 51) (by rfl) (by rfl) ?_
              refine Ls.pass (some 52) (by rfl) (by rfl) ?_
              refine Ls.pass (some 53) (by rfl) (by rfl) ?_
              refine Ls.pass (some 54) (by rfl) (by rfl) ?_
              refine Ls.pass (some 55) (by rfl) (by rfl) ?_
              refine Ls.pass (some 56) (by rfl) (by rfl) ?_
              refine Ls.ev (some 57) (Ev.pickF (show Oper.op _ = Op.pick (Operand.tmp 49) (Operand.tmp 56) (Operand.const (Value.bool false)) from rfl) (by rfl) (by rfl)) (by rfl) (by rfl) ?_
              refine Ls.ev (some 58) (Ev.move (show Oper.op _ = Op.move (Operand.tmp 57) from rfl) (by rfl)) (by rfl) (by rfl) ?_
              refine Ls.pass (some 59) (by rfl) (by rfl) ?_
              refine Ls.pass (some 60) (by rfl) (by rfl) ?_
              refine Ls.pass (some 61) (by rfl) (by rfl) ?_
              refine Ls.pass (some 62) (by rfl) (by rfl) ?_
              refine Ls.pass (some 63) (by rfl) (by rfl) ?_
              refine Ls.pass (some 64) (by rfl) (by rfl) ?_
              refine Ls.pass (some 65) (by rfl) (by rfl) ?_
              refine Ls.ev (some 66) (Ev.pickF (show Oper.op _ = Op.pick (Operand.tmp 58) (Operand.tmp 65) (Operand.const (Value.bool false)) from rfl) (by rfl) (by rfl)) (by rfl) (by rfl) ?_
              refine Ls.ev (some 67) (Ev.move (show Oper.op _ = Op.move (Operand.tmp 66) from rfl) (by rfl)) (by rfl) (by rfl) ?_
              refine Ls.pass (some 68) (by rfl) (by rfl) ?_
              refine Ls.pass (some 69) (by rfl) (by rfl) ?_
              refine Ls.pass (some 70) (by rfl) (by rfl) ?_
              refine Ls.pass (some 71) (by rfl) (by rfl) ?_
              refine Ls.pass (some 72) (by rfl) (by rfl) ?_
              refine Ls.pass (some 73) (by rfl) (by rfl) ?_
              refine Ls.pass (some 74) (by rfl) (by rfl) ?_
              refine Ls.ev (some 75) (Ev.pickF (show Oper.op _ = Op.pick (Operand.tmp 67) (Operand.tmp 74) (Operand.const (Value.bool false)) from rfl) (by rfl) (by rfl)) (by rfl) (by rfl) ?_
              refine Ls.ev (some 4) (Ev.assign (show Oper.op _ = Op.assign (Operand.tmp 75) from rfl) (by rfl)) (by rfl) (by rfl) ?_
              refine Ls.nil ?_
              refine Ent.pick [] (by rfl) ?_
              refine Ent.inv () ?_ ?_ ?_
              · exact trivial
              · (repeat (first | exact trivial | refine ⟨by rfl, ?_⟩ | refine ⟨by simp only [List.length_append, List.length_cons, List.length_nil]; rfl, ?_⟩ | refine ⟨by push_cast; rfl, ?_⟩ | refine ⟨by (show some (Value.bool _) = some (Value.bool _); congr 2; (first | (refine (decide_eq_false ?_).symm; simp_all; done) | (refine decide_eq_decide.2 ?_; simp_all; done))), ?_⟩))
              · rfl
            · first | have hT5 := of_decide_eq_true hT5 | have hT5 := of_not_decide_true hT5 | skip
              refine Ls.ev (some 41) (Ev.fieldAddr (k := 4) (show Oper.op _ = Op.fieldAddr 43 (Operand.tmp 2) 4 from rfl) (by rfl) (by kernel_rfl) (by rfl)) (by rfl) (by rfl) ?_
              refine Ls.ev (some 42) (Ev.fieldAddr (k := 1) (show Oper.op _ = Op.fieldAddr 41 (Operand.tmp 41) 1 from rfl) (by rfl) (by kernel_rfl) (by rfl)) (by rfl) (by rfl) ?_
              refine Ls.ev (some 43) (Ev.load 1 (show Oper.op _ = Op.load 3 (Operand.tmp 42) from rfl) (by rfl) (by rfl) (by kernel_rfl) (by rfl)) (by rfl) (by rfl) ?_
              refine Ls.ev (some 44) (Ev.fieldAddr (k := 4) (show Oper.op _ = Op.fieldAddr 43 (Operand.tmp 3) 4 from rfl) (by rfl) (by kernel_rfl) (by rfl)) (by rfl) (by rfl) ?_
              refine Ls.ev (some 45) (Ev.fieldAddr (k := 1) (show Oper.op _ = Op.fieldAddr 41 (Operand.tmp 44) 1 from rfl) (by rfl) (by kernel_rfl) (by rfl)) (by rfl) (by rfl) ?_
              refine Ls.ev (some 46) (Ev.load 0 (show Oper.op _ = Op.load 3 (Operand.tmp 45) from rfl) (by rfl) (by rfl) (by kernel_rfl) (by rfl)) (by rfl) (by rfl) ?_
              refine Ls.ev (some 47) (Ev.eql (show Oper.op _ = Op.binOp BinOp.eql 3 (Operand.tmp 43) (Operand.tmp 46) 3 from rfl) (by rfl) (by rfl)) (by rfl) (by rfl) ?_
              refine Ls.ev (some 48) (Ev.pickT (show Oper.op _ = Op.pick (Operand.tmp 40) (Operand.tmp 47) (Operand.const (Value.bool false)) from rfl) (by rfl) (by rfl)) (by rfl) (by rfl) ?_
              refine Ls.ev (some 49) (Ev.move (show Oper.op _ = Op.move (Operand.tmp 48) from rfl) (by rfl)) (by rfl) (by rfl) ?_
              refine Ent.split 49 (by rfl) (fun hT6 => ?_) (fun hT6 => ?_)
              · first | have hT6 := of_decide_eq_false hT6 | have hT6 := of_not_decide_false hT6 | skip
                refine Ls.pass (some 50) (by rfl) (by rfl) ?_
                refine Ls.pass (some 51) (by rfl) (by rfl) ?_
                refine Ls.pass (some 52) (by rfl) (by rfl) ?_
                refine Ls.pass (some 53) (by rfl) (by rfl) ?_
                refine Ls.pass (some 54) (by rfl) (by rfl) ?_
                refine Ls.pass (some 55) (by rfl) (by rfl) ?_
                refine Ls.pass (some 56) (by rfl) (by rfl) ?_
                refine Ls.ev (some 57) (Ev.pickF (show Oper.op _ = Op.pick (Operand.tmp 49) (Operand.tmp 56) (Operand.const (Value.bool false)) from rfl) (by rfl) (by rfl)) (by rfl) (by rfl) ?_
                refine Ls.ev (some 58) (Ev.move (show Oper.op _ = Op.move (Operand.tmp 57) from rfl) (by rfl)) (by rfl) (by rfl) ?_
                refine Ls.pass (some 59) (by rfl) (by rfl) ?_
                refine Ls.pass (some 60) (by rfl) (by rfl) ?_
                refine Ls.pass (some 61) (by rfl) (by rfl) ?_
                refine Ls.pass (some 62) (by rfl) (by rfl) ?_
                refine Ls.pass (some 63) (by rfl) (by rfl) ?_
                refine Ls.pass (some 64) (by rfl) (by rfl) ?_
                refine Ls.pass (some 65) (by rfl) (by rfl) ?_
                refine Ls.ev (some 66) (Ev.pickF (show Oper.op _ = Op.pick (Operand.tmp 58) (Operand.tmp 65) (Operand.const (Value.bool false)) from rfl) (by rfl) (by rfl)) (by rfl) (by rfl) ?_
                refine Ls.ev (some 67) (Ev.move (show Oper.op _ = Op.move (Operand.tmp 66) from rfl) (by rfl)) (by rfl) (by rfl) ?_
                refine Ls.pass (some 68) (by rfl) (by rfl) ?_
                refine Ls.pass (some 69) (by rfl) (by rfl) ?_
                refine Ls.pass (some 70) (by rfl) (by rfl) ?_
                refine Ls.pass (some 71) (by rfl) (by rfl) ?_
                refine Ls.pass (some 72) (by rfl) (by rfl) ?_
                refine Ls.pass (some 73) (by rfl) (by rfl) ?_
                refine Ls.pass (some 74) (by rfl) (by rfl) ?_
                refine Ls.ev (some 75) (Ev.pickF (show Oper.op _ = Op.pick (Operand.tmp 67) (Operand.tmp 74) (Operand.const (Value.bool false)) from rfl) (by rfl) (by rfl)) (by rfl) (by rfl) ?_
                refine Ls.ev (some 4) (Ev.assign (show Oper.op _ = Op.assign (Operand.tmp 75) from rfl) (by rfl)) (by rfl) (by rfl) ?_
                refine Ls.nil ?_
                refine Ent.pick [] (by rfl) ?_
                refine Ent.inv () ?_ ?_ ?_
                · exact trivial
                · (repeat (first | exact trivial | refine ⟨by rfl, ?_⟩ | refine ⟨by simp only [List.length_append, List.length_cons, List.length_nil]; rfl, ?_⟩ | refine ⟨by push_cast; rfl, ?_⟩ | refine ⟨by (show some (Value.bool _) = some (Value.bool _); congr 2; (first | (refine (decide_eq_false ?_).symm; simp_all; done) | (refine decide_eq_decide.2 ?_; simp_all; done))), ?_⟩))
                · rfl
              · first | have hT6 := of_decide_eq_true hT6 | have hT6 := of_not_decide_true hT6 | skip
                refine Ls.ev (some 50) (Ev.fieldAddr (k := 4) (show Oper.op _ = Op.fieldAddr 43 (Operand.tmp 2) 4 from rfl) (by rfl) (by kernel_rfl) (by rfl)) (by rfl) (by rfl) ?_
                refine Ls.ev (some 51) (Ev.fieldAddr (k := 2) (show Oper.op _ = Op.fieldAddr 41 (Operand.tmp 50) 2 from rfl) (by rfl) (by kernel_rfl) (by rfl)) (by rfl) (by rfl) ?_
                refine Ls.ev (some 52) (Ev.load 1 (show Oper.op _ = Op.load 3 (Operand.tmp 51) from rfl) (by rfl) (by rfl) (by kernel_rfl) (by rfl)) (by rfl) (by rfl) ?_
                refine Ls.ev (some 53) (Ev.fieldAddr (k := 4) (show Oper.op _ = Op.fieldAddr 43 (Operand.tmp 3) 4 from rfl) (by rfl) (by kernel_rfl) (by rfl)) (by rfl) (by rfl) ?_
                refine Ls.ev (some 54) (Ev.fieldAddr (k := 2) (show Oper.op _ = Op.fieldAddr 41 (Operand.tmp 53) 2 from rfl) (by rfl) (by kernel_rfl) (by rfl)) (by rfl) (by rfl) ?_
                refine Ls.ev (some 55) (Ev.load 0 (show Oper.op _ = Op.load 3 (Operand.tmp 54) from rfl) (by rfl) (by rfl) (by kernel_rfl) (by rfl)) (by rfl) (by rfl) ?_
                refine Ls.ev (some 56) (Ev.eql (show Oper.op _ = Op.binOp BinOp.eql 3 (Operand.tmp 52) (Operand.tmp 55) 3 from rfl) (by rfl) (by rfl)) (by rfl) (by rfl) ?_
                refine Ls.ev (some 57) (Ev.pickT (show Oper.op _ = Op.pick (Operand.tmp 49) (Operand.tmp 56) (Operand.const (Value.bool false)) from rfl) (by rfl) (by rfl)) (by rfl) (by rfl) ?_
                refine Ls.ev (some 58) (Ev.move (show Oper.op _ = Op.move (Operand.tmp 57) from rfl) (by rfl)) (by rfl) (by rfl) ?_
                refine Ent.split 58 (by rfl) (fun hT7 => ?_) (fun hT7 => ?_)
                · first | have hT7 := of_decide_eq_false hT7 | have hT7 := of_not_decide_false hT7 | skip
                  refine Ls.pass (some 59) (by rfl) (by rfl) ?_
                  refine Ls.pass (some 60) (by rfl) (by rfl) ?_
                  refine Ls.pass (some 61) (by rfl) (by rfl) ?_
                  refine Ls.pass (some 62) (by rfl) (by rfl) ?_
                  refine Ls.pass (some 63) (by rfl) (by rfl) ?_
                  refine Ls.pass (some 64) (by rfl) (by rfl) ?_
                  refine Ls.pass (some 65) (by rfl) (by rfl) ?_
                  refine Ls.ev (some 66) (Ev.pickF (show Oper.op _ = Op.pick (Operand.tmp 58) (Operand.tmp 65) (Operand.const (Value.bool false)) from rfl) (by rfl) (by rfl)) (by rfl) (by rfl) ?_
                  refine Ls.ev (some 67) (Ev.move (show Oper.op _ = Op.move (Operand.tmp 66) from rfl) (by rfl)) (by rfl) (by rfl) ?_
                  refine Ls.pass (some 68) (by rfl) (by rfl) ?_
                  refine Ls.pass (some 69) (by rfl) (by rfl) ?_
                  refine Ls.pass (some 70) (by rfl) (by rfl) ?_
                  refine Ls.pass (some 71) (by rfl) (by rfl) ?_
                  refine Ls.pass (some 72) (by rfl) (by rfl) ?_
                  refine Ls.pass (some 73) (by rfl) (by rfl) ?_
                  refine Ls.pass (some 74) (by rfl) (by rfl) ?_
                  refine Ls.ev (some 75) (Ev.pickF (show Oper.op _ = Op.pick (Operand.tmp 67) (Operand.tmp 74) (Operand.const (Value.bool false)) from rfl) (by rfl) (by rfl)) (by rfl) (by rfl) ?_
                  refine Ls.ev (some 4) (Ev.assign (show Oper.op _ = Op.assign (Operand.tmp 75) from rfl) (by rfl)) (by rfl) (by rfl) ?_
                  refine Ls.nil ?_
                  refine Ent.pick [] (by rfl) ?_
                  refine Ent.inv () ?_ ?_ ?_
                  · exact trivial
                  · (repeat (first | exact trivial | refine ⟨by rfl, ?_⟩ | refine ⟨by simp only [List.length_append, List.length_cons, List.length_nil]; rfl, ?_⟩ | refine ⟨by push_cast; rfl, ?_⟩ | refine ⟨by (show some (Value.bool _) = some (Value.bool _); congr 2; (first | (refine (decide_eq_false ?_).symm; simp_all; done) | (refine decide_eq_decide.2 ?_; simp_all; done))), ?_⟩))
                  · rfl
                · first | have hT7 := of_decide_eq_true hT7 | have hT7 := of_not_decide_true hT7 | skip
                  refine Ls.ev (some 59) (Ev.fieldAddr (k := 4) (show Oper.op _ = Op.fieldAddr 43 (Operand.tmp 2) 4 from rfl) (by rfl) (by kernel_rfl) (by rfl)) (by rfl) (by rfl) ?_
                  refine Ls.ev (some 60) (Ev.fieldAddr (k := 7) (show Oper.op _ = Op.fieldAddr 41 (Operand.tmp 59) 4 from rfl) (by rfl) (by kernel_rfl) (by rfl)) (by rfl) (by rfl) ?_
                  refine Ls.ev (some 61) (Ev.load 1 (show Oper.op _ = Op.load 29 (Operand.tmp 60) from rfl) (by rfl) (by rfl) (by kernel_rfl) (by rfl)) (by rfl) (by rfl) ?_
                  refine Ls.ev (some 62) (Ev.fieldAddr (k := 4) (show Oper.op _ = Op.fieldAddr 43 (Operand.tmp 3) 4 from rfl) (by rfl) (by kernel_rfl) (by rfl)) (by rfl) (by rfl) ?_
                  refine Ls.ev (some 63) (Ev.fieldAddr (k := 7) (show Oper.op _ = Op.fieldAddr 41 (Operand.tmp 62) 4 from rfl) (by rfl) (by kernel_rfl) (by rfl)) (by rfl) (by rfl) ?_
                  refine Ls.ev (some 64) (Ev.load 0 (show Oper.op _ = Op.load 29 (Operand.tmp 63) from rfl) (by rfl) (by rfl) (by kernel_rfl) (by rfl)) (by rfl) (by rfl) ?_
                  refine Ls.does (some 65) (Does.read (show Oper.op _ = Op.call { callee := Callee.value (Operand.func 18), args := #[Operand.tmp 61, Operand.tmp 64], argTypes := #[29, 29] } from rfl) Tryz.func18 (by kernel_rfl) (by kernel_rfl) (hk) (by rfl) (by rfl) ⟨ReadsIn.rd 3 (by rfl), ReadsIn.rd 5 (by rfl), trivial⟩) (by rfl) (by rfl) ?_
                  rintro _ -
                  refine Ls.ev (some 66) (Ev.pickT (show Oper.op _ = Op.pick (Operand.tmp 58) (Operand.tmp 65) (Operand.const (Value.bool false)) from rfl) (by rfl) (by rfl)) (by rfl) (by rfl) ?_
                  refine Ls.ev (some 67) (Ev.move (show Oper.op _ = Op.move (Operand.tmp 66) from rfl) (by rfl)) (by rfl) (by rfl) ?_
                  refine Ent.split 67 (by rfl) (fun hT8 => ?_) (fun hT8 => ?_)
                  · first | have hT8 := of_decide_eq_false hT8 | have hT8 := of_not_decide_false hT8 | skip
                    refine Ls.pass (some 68) (by rfl) (by rfl) ?_
                    refine Ls.pass (some 69) (by rfl) (by rfl) ?_
                    refine Ls.pass (some 70) (by rfl) (by rfl) ?_
                    refine Ls.pass (some 71) (by rfl) (by rfl) ?_
                    refine Ls.pass (some 72) (by rfl) (by rfl) ?_
                    refine Ls.pass (some 73) (by rfl) (by rfl) ?_
                    refine Ls.pass (some 74) (by rfl) (by rfl) ?_
                    refine Ls.ev (some 75) (Ev.pickF (show Oper.op _ = Op.pick (Operand.tmp 67) (Operand.tmp 74) (Operand.const (Value.bool false)) from rfl) (by rfl) (by rfl)) (by rfl) (by rfl) ?_
                    refine Ls.ev (some 4) (Ev.assign (show Oper.op _ = Op.assign (Operand.tmp 75) from rfl) (by rfl)) (by rfl) (by rfl) ?_
                    refine Ls.nil ?_
                    refine Ent.pick [] (by rfl) ?_
                    refine Ent.inv () ?_ ?_ ?_
                    · exact trivial
                    · (repeat (first | exact trivial | refine ⟨by rfl, ?_⟩ | refine ⟨by simp only [List.length_append, List.length_cons, List.length_nil]; rfl, ?_⟩ | refine ⟨by push_cast; rfl, ?_⟩ | refine ⟨by (show some (Value.bool _) = some (Value.bool _); congr 2; (first | (refine (decide_eq_false ?_).symm; simp_all; done) | (refine decide_eq_decide.2 ?_; simp_all; done))), ?_⟩))
                    · rfl
                  · first | have hT8 := of_decide_eq_true hT8 | have hT8 := of_not_decide_true hT8 | skip
                    refine Ls.ev (some 68) (Ev.fieldAddr (k := 4) (show Oper.op _ = Op.fieldAddr 43 (Operand.tmp 2) 4 from rfl) (by rfl) (by kernel_rfl) (by rfl)) (by rfl) (by rfl) ?_
                    refine Ls.ev (some 69) (Ev.fieldAddr (k := 3) (show Oper.op _ = Op.fieldAddr 41 (Operand.tmp 68) 3 from rfl) (by rfl) (by kernel_rfl) (by rfl)) (by rfl) (by rfl) ?_
                    refine Ls.ev (some 70) (Ev.loads 1 (show Oper.op _ = Op.load 39 (Operand.tmp 69) from rfl) (by rfl) (by rfl) (n := 4) (by kernel_rfl) (by rfl) (by rfl)) (by rfl) (by rfl) ?_
                    refine Ls.ev (some 71) (Ev.fieldAddr (k := 4) (show Oper.op _ = Op.fieldAddr 43 (Operand.tmp 3) 4 from rfl) (by rfl) (by kernel_rfl) (by rfl)) (by rfl) (by rfl) ?_
                    refine Ls.ev (some 72) (Ev.fieldAddr (k := 3) (show Oper.op _ = Op.fieldAddr 41 (Operand.tmp 71) 3 from rfl) (by rfl) (by kernel_rfl) (by rfl)) (by rfl) (by rfl) ?_
                    refine Ls.ev (some 73) (Ev.loads 0 (show Oper.op _ = Op.load 39 (Operand.tmp 72) from rfl) (by rfl) (by rfl) (n := 4) (by kernel_rfl) (by rfl) (by rfl)) (by rfl) (by rfl) ?_
                    refine Ls.does (some 74) (Does.read (show Oper.op _ = Op.call { callee := Callee.value (Operand.func 19), args := #[Operand.tmp 70, Operand.tmp 73], argTypes := #[39, 39] } from rfl) Tryz.func19 (by kernel_rfl) (by kernel_rfl) (hc) (by rfl) (by rfl) ⟨ReadsIn.rd 2 (by rfl), ReadsIn.rd 4 (by rfl), trivial⟩) (by rfl) (by rfl) ?_
                    rintro _ -
                    refine Ls.ev (some 75) (Ev.pickT (show Oper.op _ = Op.pick (Operand.tmp 67) (Operand.tmp 74) (Operand.const (Value.bool false)) from rfl) (by rfl) (by rfl)) (by rfl) (by rfl) ?_
                    refine Ls.ev (some 4) (Ev.assign (show Oper.op _ = Op.assign (Operand.tmp 75) from rfl) (by rfl)) (by rfl) (by rfl) ?_
                    refine Ls.nil ?_
                    refine Ent.pick [] (by rfl) ?_
                    refine Ent.inv () ?_ ?_ ?_
                    · exact trivial
                    · (repeat (first | exact trivial | refine ⟨by rfl, ?_⟩ | refine ⟨by simp only [List.length_append, List.length_cons, List.length_nil]; rfl, ?_⟩ | refine ⟨by push_cast; rfl, ?_⟩ | refine ⟨by (show some (Value.bool _) = some (Value.bool _); congr 2; (first | (refine (decide_eq_false ?_).symm; simp_all; done) | (refine decide_eq_decide.2 ?_; simp_all; done))), ?_⟩))
                    · rfl
  skip
  rintro _ -
  skip
  refine Cd.ret ?_
  refine Ent.ret (()) (trivial) (Res.tmp (by rfl) (by rfl)) ?_ [] (by rfl) ?_
  · rfl
  · rfl
theorem line_lens {t : List UInt8} {z : StS} (h : z.p = (lineP t).1) : z.keeps.length ≤ 1024 ∧ z.cells.length ≤ 1024 := by
  have := line_lists t
  rw [← h] at this
  have h2 : z.cells.length + z.keeps.length ≤ 1024 := this
  omega
end Go.Proofs.YtemcigoelcblbaaGreatDoor
