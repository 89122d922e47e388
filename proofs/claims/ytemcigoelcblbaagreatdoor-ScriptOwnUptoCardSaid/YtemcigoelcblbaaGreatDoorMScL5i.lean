/-
  Texts joined: ScJ, ScK, ScL, ScN, ScR, ScS, ScU.
-/
import Derived.Test.YtemcigoelcblbaaGreatDoorMScL5e
import Derived.Test.YtemcigoelcblbaaGreatDoorMScL5f
import Derived.Test.YtemcigoelcblbaaGreatDoorMScL5h
/- a line read -/
namespace Go.Proofs.YtemcigoelcblbaaGreatDoor
open Go.RowKit
def cmdE (c : CmdP) (A : Option Addr) : List Value := [.string (txt c.name)] ++ stepV c.kind c.ik c.verb ++ [.slice A c.ws.length c.ws.length]
def CmdP.stepS (c : CmdP) : StS := ⟨c.kind, 0, 0, 0, c.ik, 0, 0, c.verb, 0, 0, none, 0, [], none, 0, []⟩
theorem stepS_p (c : CmdP) : c.stepS.p = c.step := rfl
theorem stepS_enc (c : CmdP) : c.stepS.enc = stepV c.kind c.ik c.verb := rfl
theorem stepS_nil (c : CmdP) (κ : Wk) : c.stepS.nil κ := by cases κ <;> rfl
theorem cmdEnc_len (p : CmdP × Option Addr) : (cmdEnc p).length = 14 := rfl
theorem cmds_ok : ∀ c ∈ cmdsP, c.ws.Nodup ∧ c.ws.length ≤ 4 := by decide
theorem cmdsA_get {As : Nat → Option Addr} {k : Nat} {c : CmdP} (h : cmdsP[k]? = some c) : (cmdsA As)[k]? = some (c, As k) := by
  unfold cmdsA
  rw [List.getElem?_map, List.getElem?_zipIdx, h]
  simp
theorem lineW_skip {k : Nat} {c : CmdP} {ws : List (List UInt8)} (h : cmdsP[k]? = some c) (hn : ¬ ws.head? = some c.name) : lineW (cmdsP.drop k) ws = lineW (cmdsP.drop (k + 1)) ws := by
  obtain ⟨hk, rfl⟩ := List.getElem?_eq_some_iff.1 h
  cases ws with
  | nil => rfl
  | cons nm r =>
    have hne : ¬ cmdsP[k].name = nm := fun e => hn (by rw [e]; rfl)
    simp only [lineW, findP]
    rw [List.drop_eq_getElem_cons hk, List.find?_cons, decide_eq_false hne]
theorem lineW_hit {k : Nat} {c : CmdP} {r : List (List UInt8)} (h : cmdsP[k]? = some c) : lineW (cmdsP.drop k) (c.name :: r) = cmdP c r := by
  obtain ⟨hk, rfl⟩ := List.getElem?_eq_some_iff.1 h
  simp only [lineW, findP]
  rw [List.drop_eq_getElem_cons hk, List.find?_cons, decide_eq_true rfl]
theorem lineW_end {ws : List (List UInt8)} : lineW (cmdsP.drop 23) ws = (noSt, 240) := by
  cases ws <;> rfl
theorem reads_step {z : StP} {ks : List Wk} {ws : List (List UInt8)} {j : Nat} {κ : Wk} {w : List UInt8} (hk : ks[j]? = some κ) (hw : ws[j]? = some w) : readsW z (ks.drop j) (ws.drop j) = (readW z κ w).bind fun z' => readsW z' (ks.drop (j + 1)) (ws.drop (j + 1)) := by
  obtain ⟨h1, rfl⟩ := List.getElem?_eq_some_iff.1 hk
  obtain ⟨h2, rfl⟩ := List.getElem?_eq_some_iff.1 hw
  rw [List.drop_eq_getElem_cons h1, List.drop_eq_getElem_cons h2]
  rfl
theorem head_ne {l : List (List UInt8)} {nm x : List UInt8} (h : l.head? = some nm) : decide (txt nm ≠ txt x) = decide (¬ l.head? = some x) := by
  rw [h]
  refine decide_eq_decide.2 ?_
  rw [ne_eq, txt_eq_iff]
  simp
theorem nodup_next {l : List Wk} {j : Nat} {κ κ' : Wk} (h : l.Nodup) (hj : l[j]? = some κ) (hm : κ' ∈ l.drop (j + 1)) : κ' ≠ κ := by
  rintro rfl
  obtain ⟨hlt, e⟩ := List.getElem?_eq_some_iff.1 hj
  have h2 : (l.drop j).Nodup := h.sublist (List.drop_sublist j l)
  rw [List.drop_eq_getElem_cons hlt, e] at h2
  exact (List.nodup_cons.1 h2).1 hm
abbrev outS : StS := noStS
set_option maxRecDepth 20000 in
set_option maxHeartbeats 2000000 in
theorem line_sl (t : List UInt8) (ht : t.length ≤ 4611686018427387904) : Fn Tryz.prog 13 #[.string (txt t)] [laidC] StS (fun z => .tuple #[.agg z.enc.toArray, .int .i64 (lineP t).2]) (fun z => [z.wC, z.wK]) (fun z => z.p = (lineP t).1) := by
  have hts : (txt t).size = t.length := rfl
  refine Fn.enter Tryz.func13 rfl Tryz.ntmps13 (by rfl) ?_
  intro w0
  refine Cd.seq ?_
  refine Cd.region ?_
  refine Ls.does (some 2) (Does.alloc (cs := [.int .i64 0, .int .i64 0, .int .i64 0, .int .i64 0, .int .i64 0, .int .i64 0, .int .i64 0, .int .i64 0, .int .i64 0, .int .i64 0, .slice none 0 0, .slice none 0 0]) (show Oper.op _ = Op.alloc 47 from rfl) (ZeroIs.mk (.agg #[.int .i64 0, .int .i64 0, .int .i64 0, .int .i64 0, .int .i64 0, .int .i64 0, .int .i64 0, .int .i64 0, .int .i64 0, .int .i64 0, .slice none 0 0, .slice none 0 0]) (by kernel_rfl) (by rfl))) (by rfl) (by rfl) ?_
  intro g1 _
  refine Ls.ev (some 3) (Ev.assign (show Oper.op _ = Op.assign (Operand.const (Value.int IntKind.i64 0)) from rfl) (by rfl)) (by rfl) (by rfl) ?_
  refine Ls.nil ?_
  refine Cd.seq ?_
  refine Cd.seq ?_
  refine Cd.region ?_
  refine Ls.ev (some 10) (Ev.move (show Oper.op _ = Op.move (Operand.tmp 0) from rfl) (by rfl)) (by rfl) (by rfl) ?_
  refine Ls.ev (some 11) (Ev.lenS (show Oper.op _ = Op.call { callee := Callee.builtin Builtin.len, args := #[Operand.tmp 10], argTypes := #[9] } from rfl) (by rfl) Tryz.underlying9) (by rfl) (by rfl) ?_
  refine Ls.ev (some 12) (Ev.gtr (show Oper.op _ = Op.binOp BinOp.gtr 3 (Operand.tmp 11) (Operand.const (Value.int IntKind.i64 1024)) 3 from rfl) (by rfl) (by rfl)) (by rfl) (by rfl) ?_
  refine Ls.nil ?_
  refine Cd.cond _ (by rfl) (fun h0 => ?_) (fun h0 => ?_)
  · skip
    have h0 : 1024 < t.length := by have := of_decide_eq_true h0; omega
    have hl : lineP t = (noSt, 3) := by unfold lineP; rw [if_pos h0]
    rw [hl]
    refine Cd.seq ?_
    refine Cd.region ?_
    refine Ls.ev (some 13) (Ev.buildP (pl := [(0, 1), (1, 1), (2, 1), (3, 1), (4, 8)]) (zs := [.int .i64 0, .int .i64 0, .int .i64 0, .int .i64 0, .int .i64 0, .int .i64 0, .int .i64 0, .int .i64 0, .int .i64 0, .int .i64 0, .slice none 0 0, .slice none 0 0]) (show Oper.op _ = Op.build 47 #[] from rfl) (by rfl) (by kernel_rfl) (by rfl)) (by rfl) (by rfl) ?_
    refine Ls.does none (Does.store 0 (show Oper.op _ = Op.store 47 (Operand.tmp 2) (Operand.tmp 13) from rfl) (by rfl) (by rfl) (by rfl) (by kernel_rfl) (by rfl) (by kernel_rfl) (by rfl)) (by rfl) (by rfl) ?_
    intro _ _
    refine Ls.ev (some 3) (Ev.assign (show Oper.op _ = Op.assign (Operand.const (Value.int IntKind.i64 3)) from rfl) (by rfl)) (by rfl) (by rfl) ?_
    refine Ls.nil ?_
    refine Ent.nil 3 1 ?_
    refine Ent.nil 3 1 ?_
    refine Ent.pick [2, 0, 1] (by rfl) ?_
    refine Cd.ret ?_
    refine Ent.ret (noStS) (rfl) (Res.cell_tmp 0 (by rfl) (by rfl) (by rfl) (n := 12) (by kernel_rfl) (by rfl) (by rfl) (by rfl)) ?_ [1, 2] (by rfl) ?_
    · rfl
    · rfl
  skip
  have h0 : ¬ 1024 < t.length := by have := of_decide_eq_false h0; omega
  have hl : lineP t = lineW (cmdsP.drop 0) (wordsP t) := by unfold lineP; rw [if_neg h0]; rfl
  have hwc := words_count t
  rw [hl]
  refine Cd.skip ?_
  refine Cd.seq ?_
  refine Cd.region ?_
  refine Ls.ev (some 14) (Ev.move (show Oper.op _ = Op.move (Operand.tmp 0) from rfl) (by rfl)) (by rfl) (by rfl) ?_
  refine Ls.does (some 15) (Does.call [1, 0, 1] (show Oper.op _ = Op.call { callee := Callee.value (Operand.func 23), args := #[Operand.tmp 14], argTypes := #[9] } from rfl) Tryz.func23 (by kernel_rfl) (by kernel_rfl) (words_sl t (by omega)) (by rfl) (by rfl) (by rfl)) (by rfl) (by rfl) ?_
  rintro ⟨gw, cw⟩ -
  refine Ent.see 0 (by rfl) ?_
  refine Ls.ev (some 4) (Ev.assign (show Oper.op _ = Op.assign (Operand.tmp 15) from rfl) (by rfl)) (by rfl) (by rfl) ?_
  refine Ls.nil ?_
  refine Cd.seq ?_
  refine Cd.seq ?_
  refine Cd.region ?_
  refine Ls.does (some 16) (Does.call [0, 1, 2] (show Oper.op _ = Op.call { callee := Callee.value (Operand.func 20), args := #[], argTypes := #[] } from rfl) Tryz.func20 (by kernel_rfl) (by kernel_rfl) (commands_sl) (by rfl) (by rfl) (by rfl)) (by rfl) (by rfl) ?_
  rintro ⟨gc, As, wb⟩ -
  refine Ls.ev (some 17) (Ev.len (show Oper.op _ = Op.call { callee := Callee.builtin Builtin.len, args := #[Operand.tmp 16], argTypes := #[62] } from rfl) (by rfl) Tryz.underlying62) (by rfl) (by rfl) ?_
  refine Ls.ev (some 18) (Ev.move (show Oper.op _ = Op.move (Operand.const (Value.int IntKind.i64 0)) from rfl) (by rfl)) (by rfl) (by rfl) ?_
  refine Ls.nil ?_
  refine Cd.block ?_
  refine Ent.pick [4, 3, 0, 1, 2, 5] (by rfl) ?_
  refine Cd.loop (ι := Nat) (fun k => [(2, .pointer (some ⟨g1, 0, none⟩)), (3, .int .i64 0), (4, .slice (some ⟨gw, 0, none⟩) (wordsP t).length cw), (16, .slice (some ⟨gc, 0, none⟩) 23 23), (17, .int .i64 ((23 : Nat) : Int)), (18, .int .i64 k)]) (fun _ => [blk g1 47 noStS.enc, rd (some ⟨gw, 0, none⟩) (wordsP t).length 1 (txts (wordsP t)), cmdR gc As, cmdF wb As, boxF wb, laidC]) (fun k => k ≤ 23 ∧ lineW (cmdsP.drop 0) (wordsP t) = lineW (cmdsP.drop k) (wordsP t)) (fun k => 23 - k) (0) (⟨Nat.zero_le _, rfl⟩) ?_ rfl ?_
  · (repeat (first | exact trivial | refine ⟨by rfl, ?_⟩))
  rintro k ⟨hk, hst⟩
  rw [hst]
  refine Cd.seq ?_
  refine Cd.region ?_
  refine Ls.ev (some 19) (Ev.lss (show Oper.op _ = Op.binOp BinOp.lss 3 (Operand.tmp 18) (Operand.tmp 17) 3 from rfl) (by rfl) (by rfl)) (by rfl) (by rfl) ?_
  refine Ls.nil ?_
  refine Cd.seq ?_
  refine Cd.cond _ (by rfl) (fun h1 => ?_) (fun h1 => ?_)
  · skip
    have hlt : k < 23 := by have := of_decide_eq_true h1; omega
    obtain ⟨c, hc⟩ := get_of_lt (show k < cmdsP.length from hlt)
    have hcA := cmdsA_get (As := As) hc
    obtain ⟨hnd, hw4⟩ := cmds_ok c (List.mem_of_getElem? hc)
    have hgd : cmdsP.getD k ⟨[], 0, 0, 0, []⟩ = c := by rw [List.getD_eq_getElem?_getD, hc]; rfl
    refine Cd.skip ?_
    refine Cd.seq ?_
    refine Cd.block ?_
    refine Cd.seq ?_
    refine Cd.region ?_
    refine Ls.ev (some 20) (Ev.indexAt (sz := 14) (show Oper.op _ = Op.indexAddr 62 (Operand.tmp 16) (Operand.tmp 18) from rfl) (by rfl) (by rfl) Tryz.underlying62 (by kernel_rfl) (by omega)) (by rfl) (by rfl) ?_
    refine Ls.ev (some 21) (Ev.loadEl (show Oper.op _ = Op.load 66 (Operand.tmp 20) from rfl) (by rfl) (ReadsIn.rd 2 (by rfl)) (by kernel_rfl) (by intro _; rfl) (by assumption)) (by rfl) (by rfl) ?_
    refine Ls.does (some 6) (Does.alloc (cs := [.string ⟨#[]⟩, .int .i64 0, .int .i64 0, .int .i64 0, .int .i64 0, .int .i64 0, .int .i64 0, .int .i64 0, .int .i64 0, .int .i64 0, .int .i64 0, .slice none 0 0, .slice none 0 0, .slice none 0 0]) (show Oper.op _ = Op.alloc 66 from rfl) (ZeroIs.mk (.agg #[.string ⟨#[]⟩, .int .i64 0, .int .i64 0, .int .i64 0, .int .i64 0, .int .i64 0, .int .i64 0, .int .i64 0, .int .i64 0, .int .i64 0, .int .i64 0, .slice none 0 0, .slice none 0 0, .slice none 0 0]) (by kernel_rfl) (by rfl))) (by rfl) (by rfl) ?_
    intro g2 _
    refine Ls.does none (Does.store 0 (show Oper.op _ = Op.store 66 (Operand.tmp 6) (Operand.tmp 21) from rfl) (by rfl) (by rfl) (by rfl) (by kernel_rfl) (by rfl) (by kernel_rfl) (by rfl)) (by rfl) (by rfl) ?_
    intro _ _
    refine Ls.nil ?_
    refine Cd.seq ?_
    refine Cd.seq ?_
    refine Ent.norm ([(2, .pointer (some ⟨g1, 0, none⟩)), (3, .int .i64 0), (4, .slice (some ⟨gw, 0, none⟩) (wordsP t).length cw), (16, .slice (some ⟨gc, 0, none⟩) 23 23), (17, .int .i64 ((23 : Nat) : Int)), (18, .int .i64 k), (6, .pointer (some ⟨g2, 0, none⟩))]) ([blk g2 66 (cmdE c (As k)), blk g1 47 noStS.enc, rd (some ⟨gw, 0, none⟩) (wordsP t).length 1 (txts (wordsP t)), cmdR gc As, cmdF wb As, boxF wb, laidC]) (by repeat (first | exact trivial | refine ⟨by rfl, ?_⟩ | refine ⟨by simp only [List.length_append, List.length_cons, List.length_nil]; rfl, ?_⟩ | refine ⟨by push_cast; rfl, ?_⟩)) (by rfl) ?_
    refine Cd.cut (ι := Unit) (fun _ => [(2, .pointer (some ⟨g1, 0, none⟩)), (3, .int .i64 0), (4, .slice (some ⟨gw, 0, none⟩) (wordsP t).length cw), (16, .slice (some ⟨gc, 0, none⟩) 23 23), (17, .int .i64 ((23 : Nat) : Int)), (18, .int .i64 k), (6, .pointer (some ⟨g2, 0, none⟩)), (32, .bool (decide (¬ (wordsP t).head? = some c.name)))]) (fun _ => [blk g2 66 (cmdE c (As k)), blk g1 47 noStS.enc, rd (some ⟨gw, 0, none⟩) (wordsP t).length 1 (txts (wordsP t)), cmdR gc As, cmdF wb As, boxF wb, laidC]) (fun _ => True) ?_ ?_
    · skip
      refine Cd.draw [] (by kernel_rfl) ?_
      refine Rg.ev 0 (by rfl) (fun _ h => h) (Ev.move (show Oper.op _ = Op.move (Operand.tmp 4) from rfl) (by rfl)) (by rfl) (some 22) (by rfl) (by kernel_rfl) (by kernel_rfl) (by kernel_rfl) (by kernel_rfl) ?_
      refine Rg.ev 1 (by rfl) (fun _ h => h) (Ev.len (show Oper.op _ = Op.call { callee := Callee.builtin Builtin.len, args := #[Operand.tmp 22], argTypes := #[54] } from rfl) (by rfl) Tryz.underlying54) (by rfl) (some 23) (by rfl) (by kernel_rfl) (by kernel_rfl) (by kernel_rfl) (by kernel_rfl) ?_
      refine Rg.ev 2 (by rfl) (fun _ h => h) (Ev.eql (show Oper.op _ = Op.binOp BinOp.eql 3 (Operand.tmp 23) (Operand.const (Value.int IntKind.i64 0)) 3 from rfl) (by rfl) (by rfl)) (by rfl) (some 24) (by rfl) (by kernel_rfl) (by kernel_rfl) (by kernel_rfl) (by kernel_rfl) ?_
      refine Rg.ev 3 (by rfl) (fun _ h => h) (Ev.move (show Oper.op _ = Op.move (Operand.tmp 24) from rfl) (by rfl)) (by rfl) (some 25) (by rfl) (by kernel_rfl) (by kernel_rfl) (by kernel_rfl) (by kernel_rfl) ?_
      refine Ent.split 25 (by rfl) (fun c1 => ?_) (fun c1 => ?_)
      · skip
        have c1 : ¬ (wordsP t).length = 0 := by have := of_decide_eq_false c1; omega
        obtain ⟨nm, hnm⟩ := get_of_lt (show 0 < (wordsP t).length by omega)
        have hnt : ((wordsP t).map txt)[0]? = some (txt nm) := by rw [List.getElem?_map, hnm]; rfl
        have hhd : (wordsP t).head? = some nm := by rw [List.head?_eq_getElem?]; exact hnm
        skip
        refine Rg.ev 4 (by rfl) (fun _ h => h) (Ev.move (show Oper.op _ = Op.move (Operand.tmp 4) from rfl) (by rfl)) (by rfl) (some 26) (by rfl) (by kernel_rfl) (by kernel_rfl) (by kernel_rfl) (by kernel_rfl) ?_
        refine Rg.ev 5 (by rfl) (fun _ h => h) (Ev.indexAt (k := 0) (sz := 1) (show Oper.op _ = Op.indexAddr 54 (Operand.tmp 26) (Operand.const (Value.int IntKind.i64 0)) from rfl) (by rfl) (by rfl) Tryz.underlying54 (by kernel_rfl) (by omega)) (by rfl) (some 27) (by rfl) (by kernel_rfl) (by kernel_rfl) (by kernel_rfl) (by kernel_rfl) ?_
        refine Rg.ev 6 (by rfl) (fun _ h => h) (Ev.loadStr (show Oper.op _ = Op.load 9 (Operand.tmp 27) from rfl) (by rfl) (ReadsIn.rd 2 (by rfl)) (by kernel_rfl) (by assumption)) (by rfl) (some 28) (by rfl) (by kernel_rfl) (by kernel_rfl) (by kernel_rfl) (by kernel_rfl) ?_
        refine Rg.ev 7 (by rfl) (fun _ h => h) (Ev.fieldAddr (k := 0) (show Oper.op _ = Op.fieldAddr 66 (Operand.tmp 6) 0 from rfl) (by rfl) (by kernel_rfl) (by rfl)) (by rfl) (some 29) (by rfl) (by kernel_rfl) (by kernel_rfl) (by kernel_rfl) (by kernel_rfl) ?_
        refine Rg.ev 8 (by rfl) (fun _ h => h) (Ev.load 0 (show Oper.op _ = Op.load 9 (Operand.tmp 29) from rfl) (by rfl) (by rfl) (by kernel_rfl) (by rfl)) (by rfl) (some 30) (by rfl) (by kernel_rfl) (by kernel_rfl) (by kernel_rfl) (by kernel_rfl) ?_
        refine Rg.ev 9 (by rfl) (fun _ h => h) (Ev.neqS (show Oper.op _ = Op.binOp BinOp.neq 9 (Operand.tmp 28) (Operand.tmp 30) 9 from rfl) (by rfl) (by rfl)) (by rfl) (some 31) (by rfl) (by kernel_rfl) (by kernel_rfl) (by kernel_rfl) (by kernel_rfl) ?_
        refine Rg.ev 10 (by rfl) (fun _ h => h) (Ev.pickF (show Oper.op _ = Op.pick (Operand.tmp 25) (Operand.const (Value.bool true)) (Operand.tmp 31) from rfl) (by rfl) (by rfl)) (by rfl) (some 32) (by rfl) (by kernel_rfl) (by kernel_rfl) (by kernel_rfl) (by kernel_rfl) ?_
        refine Rg.done (by kernel_rfl) ?_ _
        refine Ent.inv (()) ?_ ?_ ?_
        · (try dsimp only); skip
        · (repeat (first | exact trivial | refine ⟨by rfl, ?_⟩ | refine ⟨by simp only [List.length_append, List.length_cons, List.length_nil]; rfl, ?_⟩ | refine ⟨by push_cast; rfl, ?_⟩ | refine ⟨by exact congrArg (fun b => some (Value.bool b)) (head_ne hhd), ?_⟩))
        · rfl
      · skip
        have c1 : (wordsP t).length = 0 := by have := of_decide_eq_true c1; omega
        have hhd : (wordsP t).head? = none := by rw [List.eq_nil_of_length_eq_zero c1]; rfl
        refine Rg.pass 4 (by rfl) (fun _ h => h) (by rfl) (some 26) (by rfl) (by kernel_rfl) (by kernel_rfl) (by kernel_rfl) (by kernel_rfl) ?_
        refine Rg.pass 5 (by rfl) (fun _ h => h) (by rfl) (some 27) (by rfl) (by kernel_rfl) (by kernel_rfl) (by kernel_rfl) (by kernel_rfl) ?_
        refine Rg.pass 6 (by rfl) (fun _ h => h) (by rfl) (some 28) (by rfl) (by kernel_rfl) (by kernel_rfl) (by kernel_rfl) (by kernel_rfl) ?_
        refine Rg.pass 7 (by rfl) (fun _ h => h) (by rfl) (some 29) (by rfl) (by kernel_rfl) (by kernel_rfl) (by kernel_rfl) (by kernel_rfl) ?_
        refine Rg.pass 8 (by rfl) (fun _ h => h) (by rfl) (some 30) (by rfl) (by kernel_rfl) (by kernel_rfl) (by kernel_rfl) (by kernel_rfl) ?_
        refine Rg.pass 9 (by rfl) (fun _ h => h) (by rfl) (some 31) (by rfl) (by kernel_rfl) (by kernel_rfl) (by kernel_rfl) (by kernel_rfl) ?_
        refine Rg.ev 10 (by rfl) (fun _ h => h) (Ev.pickT (show Oper.op _ = Op.pick (Operand.tmp 25) (Operand.const (Value.bool true)) (Operand.tmp 31) from rfl) (by rfl) (by rfl)) (by rfl) (some 32) (by rfl) (by kernel_rfl) (by kernel_rfl) (by kernel_rfl) (by kernel_rfl) ?_
        refine Rg.done (by kernel_rfl) ?_ _
        skip
        refine Ent.inv (()) ?_ ?_ ?_
        · (try dsimp only); skip
        · (repeat (first | exact trivial | refine ⟨by rfl, ?_⟩ | refine ⟨by simp only [List.length_append, List.length_cons, List.length_nil]; rfl, ?_⟩ | refine ⟨by push_cast; rfl, ?_⟩ | refine ⟨by exact congrArg (fun b => some (Value.bool b)) (decide_eq_true (by rw [hhd]; exact fun e => by cases e)).symm, ?_⟩))
        · rfl
    skip
    rintro _ -
    refine Cd.cond _ (by rfl) (fun h2 => ?_) (fun h2 => ?_)
    · skip
      refine Cd.exit ?_
      refine Cd.region ?_
      refine Ls.ev (some 63) (Ev.addN (b := 1) (show Oper.op _ = Op.binOp BinOp.add 3 (Operand.tmp 18) (Operand.const (Value.int IntKind.i64 1)) 3 from rfl) (by rfl) (by rfl) (by omega)) (by rfl) (by rfl) ?_
      refine Ls.ev (some 18) (Ev.move (show Oper.op _ = Op.move (Operand.tmp 63) from rfl) (by rfl)) (by rfl) (by rfl) ?_
      refine Ls.nil ?_
      refine Ent.pick [1, 2, 3, 4, 5, 6] (by rfl) ?_
      refine Ent.inv (k + 1) ?_ ?_ ?_
      · (try dsimp only); exact ⟨⟨hlt, lineW_skip hc (of_decide_eq_true h2)⟩, by omega⟩
      · (repeat (first | exact trivial | refine ⟨by rfl, ?_⟩ | refine ⟨by simp only [List.length_append, List.length_cons, List.length_nil]; rfl, ?_⟩ | refine ⟨by push_cast; rfl, ?_⟩))
      · rfl
    skip
    have h2 : (wordsP t).head? = some c.name := Decidable.not_not.1 (of_decide_eq_false h2)
    obtain ⟨r, hr⟩ : ∃ r, wordsP t = c.name :: r := by
      cases hw : wordsP t with
      | nil => rw [hw] at h2; cases h2
      | cons x r => rw [hw] at h2; exact ⟨r, by rw [Option.some.inj h2]⟩
    have hlr : (wordsP t).length = r.length + 1 := by rw [hr]; rfl
    have hcmd : lineW (cmdsP.drop k) (wordsP t) = cmdP c r := by rw [hr]; exact lineW_hit hc
    rw [hcmd]
    skip
    refine Cd.skip ?_
    refine Cd.seq ?_
    refine Cd.seq ?_
    refine Cd.region ?_
    refine Ls.ev (some 33) (Ev.move (show Oper.op _ = Op.move (Operand.tmp 4) from rfl) (by rfl)) (by rfl) (by rfl) ?_
    refine Ls.ev (some 34) (Ev.len (show Oper.op _ = Op.call { callee := Callee.builtin Builtin.len, args := #[Operand.tmp 33], argTypes := #[54] } from rfl) (by rfl) Tryz.underlying54) (by rfl) (by rfl) ?_
    refine Ls.ev (some 35) (Ev.fieldAddr (k := 13) (show Oper.op _ = Op.fieldAddr 66 (Operand.tmp 6) 2 from rfl) (by rfl) (by kernel_rfl) (by rfl)) (by rfl) (by rfl) ?_
    refine Ls.ev (some 36) (Ev.load 0 (show Oper.op _ = Op.load 64 (Operand.tmp 35) from rfl) (by rfl) (by rfl) (by kernel_rfl) (by rfl)) (by rfl) (by rfl) ?_
    refine Ls.ev (some 37) (Ev.len (show Oper.op _ = Op.call { callee := Callee.builtin Builtin.len, args := #[Operand.tmp 36], argTypes := #[64] } from rfl) (by rfl) Tryz.underlying64) (by rfl) (by rfl) ?_
    refine Ls.ev (some 38) (Ev.addI (show Oper.op _ = Op.binOp BinOp.add 3 (Operand.tmp 37) (Operand.const (Value.int IntKind.i64 1)) 3 from rfl) (by rfl) (by rfl) (by omega)) (by rfl) (by rfl) ?_
    refine Ls.ev (some 39) (Ev.neq (show Oper.op _ = Op.binOp BinOp.neq 3 (Operand.tmp 34) (Operand.tmp 38) 3 from rfl) (by rfl) (by rfl)) (by rfl) (by rfl) ?_
    refine Ls.nil ?_
    refine Cd.cond _ (by rfl) (fun h3 => ?_) (fun h3 => ?_)
    · skip
      have h3 : r.length ≠ c.ws.length := by have := of_decide_eq_true h3; omega
      have hcr : cmdP c r = (noSt, 241) := by unfold cmdP; rw [if_pos h3]
      rw [hcr]
      refine Cd.seq ?_
      refine Cd.region ?_
      refine Ls.ev (some 40) (Ev.buildP (pl := [(0, 1), (1, 1), (2, 1), (3, 1), (4, 8)]) (zs := [.int .i64 0, .int .i64 0, .int .i64 0, .int .i64 0, .int .i64 0, .int .i64 0, .int .i64 0, .int .i64 0, .int .i64 0, .int .i64 0, .slice none 0 0, .slice none 0 0]) (show Oper.op _ = Op.build 47 #[] from rfl) (by rfl) (by kernel_rfl) (by rfl)) (by rfl) (by rfl) ?_
      refine Ls.does none (Does.store 1 (show Oper.op _ = Op.store 47 (Operand.tmp 2) (Operand.tmp 40) from rfl) (by rfl) (by rfl) (by rfl) (by kernel_rfl) (by rfl) (by kernel_rfl) (by rfl)) (by rfl) (by rfl) ?_
      intro _ _
      refine Ls.ev (some 3) (Ev.assign (show Oper.op _ = Op.assign (Operand.const (Value.int IntKind.i64 241)) from rfl) (by rfl)) (by rfl) (by rfl) ?_
      refine Ls.nil ?_
      refine Ent.nil 3 1 ?_
      refine Ent.nil 3 1 ?_
      refine Ent.pick [3, 0, 1] (by rfl) ?_
      refine Cd.ret ?_
      refine Ent.ret (noStS) (rfl) (Res.cell_tmp 0 (by rfl) (by rfl) (by rfl) (n := 12) (by kernel_rfl) (by rfl) (by rfl) (by rfl)) ?_ [1, 2] (by rfl) ?_
      · rfl
      · rfl
    skip
    have h3 : r.length = c.ws.length := by have := of_decide_eq_false h3; omega
    have hcr : cmdP c r = match readsW c.step c.ws r with
      | none => (noSt, 241)
      | some z => (z, 0) := by unfold cmdP; rw [if_neg (fun h => h h3)]; rfl
    refine Cd.skip ?_
    refine Cd.seq ?_
    refine Cd.region ?_
    refine Ls.ev (some 41) (Ev.fieldAddr (k := 1) (show Oper.op _ = Op.fieldAddr 66 (Operand.tmp 6) 1 from rfl) (by rfl) (by kernel_rfl) (by rfl)) (by rfl) (by rfl) ?_
    refine Ls.ev (some 42) (Ev.loads 0 (show Oper.op _ = Op.load 47 (Operand.tmp 41) from rfl) (by rfl) (by rfl) (n := 12) (by kernel_rfl) (by rfl) (by rfl)) (by rfl) (by rfl) ?_
    refine Ls.does (some 7) (Does.alloc (cs := [.int .i64 0, .int .i64 0, .int .i64 0, .int .i64 0, .int .i64 0, .int .i64 0, .int .i64 0, .int .i64 0, .int .i64 0, .int .i64 0, .slice none 0 0, .slice none 0 0]) (show Oper.op _ = Op.alloc 47 from rfl) (ZeroIs.mk (.agg #[.int .i64 0, .int .i64 0, .int .i64 0, .int .i64 0, .int .i64 0, .int .i64 0, .int .i64 0, .int .i64 0, .int .i64 0, .int .i64 0, .slice none 0 0, .slice none 0 0]) (by kernel_rfl) (by rfl))) (by rfl) (by rfl) ?_
    intro g3 _
    refine Ls.does none (Does.store 0 (show Oper.op _ = Op.store 47 (Operand.tmp 7) (Operand.tmp 42) from rfl) (by rfl) (by rfl) (by rfl) (by kernel_rfl) (by rfl) (by kernel_rfl) (by rfl)) (by rfl) (by rfl) ?_
    intro _ _
    refine Ls.nil ?_
    refine Cd.seq ?_
    refine Cd.seq ?_
    refine Ent.norm ([(2, .pointer (some ⟨g1, 0, none⟩)), (4, .slice (some ⟨gw, 0, none⟩) (wordsP t).length cw), (6, .pointer (some ⟨g2, 0, none⟩)), (7, .pointer (some ⟨g3, 0, none⟩))]) ([blk g3 47 c.stepS.enc, blk g2 66 (cmdE c (As k)), blk g1 47 noStS.enc, rd (some ⟨gw, 0, none⟩) (wordsP t).length 1 (txts (wordsP t)), cmdR gc As, cmdF wb As, boxF wb, laidC]) (by repeat (first | exact trivial | refine ⟨by rfl, ?_⟩ | refine ⟨by simp only [List.length_append, List.length_cons, List.length_nil]; rfl, ?_⟩ | refine ⟨by push_cast; rfl, ?_⟩)) (by rfl) ?_
    refine Cd.region ?_
    refine Ls.ev (some 43) (Ev.fieldAddr (k := 13) (show Oper.op _ = Op.fieldAddr 66 (Operand.tmp 6) 2 from rfl) (by rfl) (by kernel_rfl) (by rfl)) (by rfl) (by rfl) ?_
    refine Ls.ev (some 44) (Ev.load 1 (show Oper.op _ = Op.load 64 (Operand.tmp 43) from rfl) (by rfl) (by rfl) (by kernel_rfl) (by rfl)) (by rfl) (by rfl) ?_
    refine Ls.ev (some 45) (Ev.len (show Oper.op _ = Op.call { callee := Callee.builtin Builtin.len, args := #[Operand.tmp 44], argTypes := #[64] } from rfl) (by rfl) Tryz.underlying64) (by rfl) (by rfl) ?_
    refine Ls.ev (some 46) (Ev.move (show Oper.op _ = Op.move (Operand.const (Value.int IntKind.i64 0)) from rfl) (by rfl)) (by rfl) (by rfl) ?_
    refine Ls.nil ?_
    refine Cd.block ?_
    refine Ent.map (fun w hs => hs.starf_get 5 k rfl) ?_
    show Ent _ _ _ (cmdW wb (cmdsP.getD k ⟨[], 0, 0, 0, []⟩) (As k) :: _) _
    rw [hgd]
    obtain ⟨A, hA⟩ : ∃ A, A = As k := ⟨_, rfl⟩
    rw [← hA]
    refine Ent.nil 3 1 ?_
    refine Ent.nil 3 1 ?_
    refine Ent.pick [3, 0, 1, 5, 6, 2, 9, 10] (by rfl) ?_
    refine Cd.loop (ι := Nat × StS) (fun p => [(2, .pointer (some ⟨g1, 0, none⟩)), (4, .slice (some ⟨gw, 0, none⟩) (wordsP t).length cw), (7, .pointer (some ⟨g3, 0, none⟩)), (44, .slice A c.ws.length c.ws.length), (45, .int .i64 c.ws.length), (46, .int .i64 p.1)]) (fun p => [blk g3 47 p.2.enc, p.2.wC, p.2.wK, blk g1 47 noStS.enc, rd (some ⟨gw, 0, none⟩) (wordsP t).length 1 (txts (wordsP t)), rd A c.ws.length 2 (c.ws.flatMap fun κ => κ.word (wb κ)), boxF wb, laidC]) (fun p => p.1 ≤ c.ws.length ∧ readsW c.step c.ws r = readsW p.2.p (c.ws.drop p.1) (r.drop p.1) ∧ (∀ κ ∈ c.ws.drop p.1, κ.num = false → p.2.nil κ)) (fun p => c.ws.length - p.1) ((0, c.stepS)) (⟨Nat.zero_le _, rfl, fun κ _ _ => stepS_nil c κ⟩) ?_ rfl ?_
    · (repeat (first | exact trivial | refine ⟨by rfl, ?_⟩))
    rintro ⟨j, z⟩ ⟨hj, hrs, hnil⟩
    dsimp only at hj hrs hnil ⊢
    refine Cd.seq ?_
    refine Cd.region ?_
    refine Ls.ev (some 47) (Ev.lss (show Oper.op _ = Op.binOp BinOp.lss 3 (Operand.tmp 46) (Operand.tmp 45) 3 from rfl) (by rfl) (by rfl)) (by rfl) (by rfl) ?_
    refine Ls.nil ?_
    refine Cd.seq ?_
    refine Cd.cond _ (by rfl) (fun h4 => ?_) (fun h4 => ?_)
    · skip
      have hjl : j < c.ws.length := by have := of_decide_eq_true h4; omega
      obtain ⟨κ, hκ⟩ := get_of_lt hjl
      obtain ⟨w, hw⟩ := get_of_lt (show j < r.length by omega)
      have hwt : ((wordsP t).map txt)[j + 1]? = some (txt w) := by rw [List.getElem?_map, hr, List.getElem?_cons_succ, hw]; rfl
      have hwl := (words_len (t := t) (by rw [hr]; exact List.mem_cons_of_mem _ (List.mem_of_getElem? hw))).1
      rw [reads_step hκ hw] at hrs
      have hz : κ.num = false → z.nil κ := hnil κ (by rw [List.drop_eq_getElem_cons hjl]; have := List.getElem?_eq_some_iff.1 hκ; obtain ⟨_, e⟩ := this; rw [e]; exact List.mem_cons_self)
      refine Ent.rdSome 5 (by rfl) (by omega) (fun ad had => ?_)
      subst had
      skip
      refine Cd.skip ?_
      refine Cd.seq ?_
      refine Cd.block ?_
      refine Cd.seq ?_
      refine Cd.region ?_
      refine Ls.ev (some 48) (Ev.move (show Oper.op _ = Op.move (Operand.tmp 46) from rfl) (by rfl)) (by rfl) (by rfl) ?_
      refine Ls.ev (some 49) (Ev.indexAt (sz := 2) (show Oper.op _ = Op.indexAddr 64 (Operand.tmp 44) (Operand.tmp 46) from rfl) (by rfl) (by rfl) Tryz.underlying64 (by kernel_rfl) (by omega)) (by rfl) (by rfl) ?_
      refine Ls.ev (some 50) (Ev.loadEl (show Oper.op _ = Op.load 69 (Operand.tmp 49) from rfl) (by rfl) (ReadsIn.rd 5 (by rfl)) (by kernel_rfl) (by intro _; rfl) (by assumption)) (by rfl) (by rfl) ?_
      refine Ls.does (some 9) (Does.alloc (cs := [.nilFunc, .nilFunc]) (show Oper.op _ = Op.alloc 69 from rfl) (ZeroIs.mk (.agg #[.nilFunc, .nilFunc]) (by kernel_rfl) (by rfl))) (by rfl) (by rfl) ?_
      intro g4 _
      refine Ls.ev (some 8) (Ev.assign (show Oper.op _ = Op.assign (Operand.tmp 48) from rfl) (by rfl)) (by rfl) (by rfl) ?_
      refine Ls.does none (Does.store 0 (show Oper.op _ = Op.store 69 (Operand.tmp 9) (Operand.tmp 50) from rfl) (by rfl) (by rfl) (by rfl) (by kernel_rfl) (by rfl) (by kernel_rfl) (by rfl)) (by rfl) (by rfl) ?_
      intro _ _
      refine Ls.nil ?_
      refine Cd.seq ?_
      skip
      skip
      refine Ent.map (fun w hs => hs.starf_get 7 κ rfl) ?_
      show Ent _ _ _ (κ.box (wb κ) :: _) _
      skip
      refine Cd.draw [7] (by kernel_rfl) ?_
      refine Rg.ev 0 (by rfl) (fun _ h => h) (Ev.fieldAddr (k := 0) (show Oper.op _ = Op.fieldAddr 69 (Operand.tmp 9) 0 from rfl) (by rfl) (by kernel_rfl) (by rfl)) (by rfl) (some 51) (by rfl) (by kernel_rfl) (by kernel_rfl) (by kernel_rfl) (by kernel_rfl) ?_
      refine Rg.ev 1 (by rfl) (fun _ h => h) (Ev.load 1 (show Oper.op _ = Op.load 67 (Operand.tmp 51) from rfl) (by rfl) (by rfl) (by kernel_rfl) (by rfl)) (by rfl) (some 52) (by rfl) (by kernel_rfl) (by kernel_rfl) (by kernel_rfl) (by kernel_rfl) ?_
      refine Rg.ev 2 (by rfl) (fun _ h => h) (Ev.move (show Oper.op _ = Op.move (Operand.tmp 4) from rfl) (by rfl)) (by rfl) (some 53) (by rfl) (by kernel_rfl) (by kernel_rfl) (by kernel_rfl) (by kernel_rfl) ?_
      refine Rg.ev 3 (by rfl) (fun _ h => h) (Ev.move (show Oper.op _ = Op.move (Operand.tmp 8) from rfl) (by rfl)) (by rfl) (some 54) (by rfl) (by kernel_rfl) (by kernel_rfl) (by kernel_rfl) (by kernel_rfl) ?_
      refine Rg.ev 4 (by rfl) (fun _ h => h) (Ev.addN (b := 1) (show Oper.op _ = Op.binOp BinOp.add 3 (Operand.tmp 54) (Operand.const (Value.int IntKind.i64 1)) 3 from rfl) (by rfl) (by rfl) (by omega)) (by rfl) (some 55) (by rfl) (by kernel_rfl) (by kernel_rfl) (by kernel_rfl) (by kernel_rfl) ?_
      refine Rg.ev 5 (by rfl) (fun _ h => h) (Ev.indexAt (sz := 1) (show Oper.op _ = Op.indexAddr 54 (Operand.tmp 53) (Operand.tmp 55) from rfl) (by rfl) (by rfl) Tryz.underlying54 (by kernel_rfl) (by omega)) (by rfl) (some 56) (by rfl) (by kernel_rfl) (by kernel_rfl) (by kernel_rfl) (by kernel_rfl) ?_
      refine Rg.ev 6 (by rfl) (fun _ h => h) (Ev.loadStr (show Oper.op _ = Op.load 9 (Operand.tmp 56) from rfl) (by rfl) (ReadsIn.rd 6 (by rfl)) (by kernel_rfl) (by assumption)) (by rfl) (some 57) (by rfl) (by kernel_rfl) (by kernel_rfl) (by kernel_rfl) (by kernel_rfl) ?_
      refine Rg.tail 7 [] (by rfl) (by kernel_rfl) (Does.callV [2, 3, 4, 0, 9, 5, 6, 7, 8, 9] (show Oper.op _ = Op.call { callee := Callee.value (Operand.tmp 52), args := #[Operand.tmp 7, Operand.tmp 57], argTypes := #[73, 9] } from rfl) (by rfl) (readW_fnv κ g3 (wb κ) z hz w (by omega)) (by rfl) (by rfl) (by rfl)) (by rfl) (some 58) (by rfl) (by kernel_rfl) (by kernel_rfl) ?_
      rintro z' ⟨hz1, hz2⟩
      refine Rg.ev 8 (by rfl) (fun _ h => h) (Ev.not (show Oper.op _ = Op.unOp UnOp.not 4 (Operand.tmp 58) from rfl) (by rfl)) (by rfl) (some 59) (by rfl) (by kernel_rfl) (by kernel_rfl) (by kernel_rfl) (by kernel_rfl) ?_
      refine Rg.done (by kernel_rfl) ?_ _
      refine Cd.cond _ (by rfl) (fun h5 => ?_) (fun h5 => ?_)
      · skip
        have h5 : readW z.p κ w = none := by cases hh : readW z.p κ w with | none => rfl | some v => rw [hh] at h5; cases h5
        rw [h5] at hrs
        have hcz : cmdP c r = (noSt, 241) := by rw [hcr, hrs]; rfl
        rw [hcz]
        refine Cd.seq ?_
        refine Cd.region ?_
        refine Ls.ev (some 60) (Ev.buildP (pl := [(0, 1), (1, 1), (2, 1), (3, 1), (4, 8)]) (zs := [.int .i64 0, .int .i64 0, .int .i64 0, .int .i64 0, .int .i64 0, .int .i64 0, .int .i64 0, .int .i64 0, .int .i64 0, .int .i64 0, .slice none 0 0, .slice none 0 0]) (show Oper.op _ = Op.build 47 #[] from rfl) (by rfl) (by kernel_rfl) (by rfl)) (by rfl) (by rfl) ?_
        refine Ls.does none (Does.store 3 (show Oper.op _ = Op.store 47 (Operand.tmp 2) (Operand.tmp 60) from rfl) (by rfl) (by rfl) (by rfl) (by kernel_rfl) (by rfl) (by kernel_rfl) (by rfl)) (by rfl) (by rfl) ?_
        intro _ _
        refine Ls.ev (some 3) (Ev.assign (show Oper.op _ = Op.assign (Operand.const (Value.int IntKind.i64 241)) from rfl) (by rfl)) (by rfl) (by rfl) ?_
        refine Ls.nil ?_
        refine Ent.nil 3 1 ?_
        refine Ent.nil 3 1 ?_
        refine Ent.pick [5, 0, 1] (by rfl) ?_
        refine Cd.ret ?_
        refine Ent.ret (noStS) (rfl) (Res.cell_tmp 0 (by rfl) (by rfl) (by rfl) (n := 12) (by kernel_rfl) (by rfl) (by rfl) (by rfl)) ?_ [1, 2] (by rfl) ?_
        · rfl
        · rfl
      · skip
        obtain ⟨v, hv⟩ : ∃ v, readW z.p κ w = some v := by cases hh : readW z.p κ w with | none => rw [hh] at h5; cases h5 | some v => exact ⟨v, rfl⟩
        obtain rfl := hz1 v hv
        rw [hv] at hrs
        refine Cd.skip ?_
        refine Cd.region ?_
        refine Ls.ev (some 61) (Ev.addN (b := 1) (show Oper.op _ = Op.binOp BinOp.add 3 (Operand.tmp 46) (Operand.const (Value.int IntKind.i64 1)) 3 from rfl) (by rfl) (by rfl) (by omega)) (by rfl) (by rfl) ?_
        refine Ls.ev (some 46) (Ev.move (show Oper.op _ = Op.move (Operand.tmp 61) from rfl) (by rfl)) (by rfl) (by rfl) ?_
        refine Ls.nil ?_
        refine Ent.inv ((j + 1, z')) ?_ ?_ ?_
        · (try dsimp only); exact ⟨⟨hjl, hrs, fun κ' hκ' hn => hz2 κ' (nodup_next hnd hκ hκ') (hnil κ' (by rw [List.drop_eq_getElem_cons hjl]; exact List.mem_cons_of_mem _ hκ') hn)⟩, by omega⟩
        · (repeat (first | exact trivial | refine ⟨by rfl, ?_⟩ | refine ⟨by simp only [List.length_append, List.length_cons, List.length_nil]; rfl, ?_⟩ | refine ⟨by push_cast; rfl, ?_⟩))
        · rfl
    · skip
      have hjn : j = c.ws.length := by have := of_decide_eq_false h4; omega
      subst hjn
      have hrz : readsW c.step c.ws r = some z.p := by rw [hrs, List.drop_length]; cases r.drop c.ws.length <;> rfl
      have hcz : cmdP c r = (z.p, 0) := by rw [hcr, hrz]
      rw [hcz]
      refine Cd.exit ?_
      refine Cd.seq ?_
      refine Cd.region ?_
      refine Ls.ev (some 62) (Ev.loads 0 (show Oper.op _ = Op.load 47 (Operand.tmp 7) from rfl) (by rfl) (by rfl) (n := 12) (by kernel_rfl) (by rfl) (by rfl)) (by rfl) (by rfl) ?_
      refine Ls.does none (Does.store 3 (show Oper.op _ = Op.store 47 (Operand.tmp 2) (Operand.tmp 62) from rfl) (by rfl) (by rfl) (by rfl) (by kernel_rfl) (by rfl) (by kernel_rfl) (by rfl)) (by rfl) (by rfl) ?_
      intro _ _
      refine Ls.ev (some 3) (Ev.assign (show Oper.op _ = Op.assign (Operand.const (Value.int IntKind.i64 0)) from rfl) (by rfl)) (by rfl) (by rfl) ?_
      refine Ls.nil ?_
      refine Cd.ret ?_
      refine Ent.ret (z) (rfl) (Res.cell_tmp 3 (by rfl) (by rfl) (by rfl) (n := 12) (by kernel_rfl) (by rfl) (by rfl) (by rfl)) ?_ [1, 2] (by rfl) ?_
      · rfl
      · rfl
  · skip
    have hk23 : k = 23 := by have := of_decide_eq_false h1; omega
    subst hk23
    rw [lineW_end]
    refine Cd.exit ?_
    refine Cd.seq ?_
    refine Cd.region ?_
    refine Ls.ev (some 64) (Ev.buildP (pl := [(0, 1), (1, 1), (2, 1), (3, 1), (4, 8)]) (zs := [.int .i64 0, .int .i64 0, .int .i64 0, .int .i64 0, .int .i64 0, .int .i64 0, .int .i64 0, .int .i64 0, .int .i64 0, .int .i64 0, .slice none 0 0, .slice none 0 0]) (show Oper.op _ = Op.build 47 #[] from rfl) (by rfl) (by kernel_rfl) (by rfl)) (by rfl) (by rfl) ?_
    refine Ls.does none (Does.store 0 (show Oper.op _ = Op.store 47 (Operand.tmp 2) (Operand.tmp 64) from rfl) (by rfl) (by rfl) (by rfl) (by kernel_rfl) (by rfl) (by kernel_rfl) (by rfl)) (by rfl) (by rfl) ?_
    intro _ _
    refine Ls.ev (some 3) (Ev.assign (show Oper.op _ = Op.assign (Operand.const (Value.int IntKind.i64 240)) from rfl) (by rfl)) (by rfl) (by rfl) ?_
    refine Ls.nil ?_
    refine Ent.nil 3 1 ?_
    refine Ent.nil 3 1 ?_
    refine Ent.pick [2, 0, 1] (by rfl) ?_
    refine Cd.ret ?_
    refine Ent.ret (noStS) (rfl) (Res.cell_tmp 0 (by rfl) (by rfl) (by rfl) (n := 12) (by kernel_rfl) (by rfl) (by rfl) (by rfl)) ?_ [1, 2] (by rfl) ?_
    · rfl
    · rfl
end Go.Proofs.YtemcigoelcblbaaGreatDoor
/- steps compared, cut, turned -/
namespace Go.Proofs.YtemcigoelcblbaaGreatDoor
open Go.RowKit
def StP.eqs (z y : StP) : Prop := z.kind = y.kind ∧ z.a = y.a ∧ z.b = y.b ∧ z.c = y.c ∧ z.ik = y.ik ∧ z.x = y.x ∧ z.y = y.y ∧ z.keeps = y.keeps ∧ z.verb = y.verb ∧ z.ep = y.ep ∧ z.st = y.st ∧ z.cells = y.cells
instance (z y : StP) : Decidable (z.eqs y) := by unfold StP.eqs; infer_instance
theorem StP.eqs_iff {z y : StP} : z.eqs y ↔ z = y := by
  unfold StP.eqs
  cases z
  cases y
  simp only [StP.mk.injEq]
  constructor
  · rintro ⟨h1, h2, h3, h4, h5, h6, h7, h8, h9, h10, h11, h12⟩
    exact ⟨h1, h2, h3, h4, h5, h6, h7, h9, h10, h11, h12, h8⟩
  · rintro ⟨h1, h2, h3, h4, h5, h6, h7, h9, h10, h11, h12, h8⟩
    exact ⟨h1, h2, h3, h4, h5, h6, h7, h8, h9, h10, h11, h12⟩
set_option maxRecDepth 20000 in
set_option maxHeartbeats 4000000 in
theorem same_sl (z y : StS) (h1 : z.keeps.length ≤ 17592186044415) (h2 : z.cells.length ≤ 17592186044415) : Fn Tryz.prog 22 #[.agg z.enc.toArray, .agg y.enc.toArray] [z.rC, z.rK, y.rC, y.rK] Unit (fun _ => .bool (decide (z.p = y.p))) (fun _ => []) (fun _ => True) := by
  rw [show decide (z.p = y.p) = decide (z.p.eqs y.p) from decide_eq_decide.2 StP.eqs_iff.symm]
  have hk := equalI_sl z.K y.K z.kc y.kc z.keeps y.keeps h1
  have hc := equalI_sl z.C y.C z.cc y.cc z.cells y.cells h2
  obtain ⟨z1, z2, z3, z4, z5, z6, z7, z8, z9, z10, zC, zcc, zcl, zK, zkc, zkl⟩ := z
  obtain ⟨y1, y2, y3, y4, y5, y6, y7, y8, y9, y10, yC, ycc, ycl, yK, ykc, ykl⟩ := y
  dsimp only [StS.enc, StS.p, StP.eqs, StS.rC, StS.rK] at hk hc ⊢
  refine Fn.enter Tryz.func22 rfl Tryz.ntmps22 (by rfl) ?_
  intro w0
  refine Cd.seq ?_
  refine Cd.region ?_
  refine Ls.does (some 2) (Does.box (show Oper.op _ = Op.box 47 (Operand.tmp 0) from rfl) (by rfl)) (by rfl) (by rfl) ?_
  intro g1 _
  refine Ls.does (some 3) (Does.box (show Oper.op _ = Op.box 47 (Operand.tmp 1) from rfl) (by rfl)) (by rfl) (by rfl) ?_
  intro g2 _
  refine Ls.ev (some 4) (Ev.assign (show Oper.op _ = Op.assign (Operand.const (Value.bool false)) from rfl) (by rfl)) (by rfl) (by rfl) ?_
  refine Ls.nil ?_
  refine Cd.seq ?_
  skip
  refine Cd.draw [7] (by kernel_rfl) ?_
  refine Rg.ev 0 (by rfl) (fun _ h => h) (Ev.fieldAddr (k := 4) (show Oper.op _ = Op.fieldAddr 47 (Operand.tmp 2) 4 from rfl) (by rfl) (by kernel_rfl) (by rfl)) (by rfl) (some 7) (by rfl) (by kernel_rfl) (by kernel_rfl) (by kernel_rfl) (by kernel_rfl) ?_
  refine Rg.ev 1 (by rfl) (fun _ h => h) (Ev.loads 1 (show Oper.op _ = Op.load 41 (Operand.tmp 7) from rfl) (by rfl) (by rfl) (n := 8) (by kernel_rfl) (by rfl) (by rfl)) (by rfl) (some 8) (by rfl) (by kernel_rfl) (by kernel_rfl) (by kernel_rfl) (by kernel_rfl) ?_
  refine Rg.ev 2 (by rfl) (fun _ h => h) (Ev.fieldAddr (k := 4) (show Oper.op _ = Op.fieldAddr 47 (Operand.tmp 3) 4 from rfl) (by rfl) (by kernel_rfl) (by rfl)) (by rfl) (some 9) (by rfl) (by kernel_rfl) (by kernel_rfl) (by kernel_rfl) (by kernel_rfl) ?_
  refine Rg.ev 3 (by rfl) (fun _ h => h) (Ev.loads 0 (show Oper.op _ = Op.load 41 (Operand.tmp 9) from rfl) (by rfl) (by rfl) (n := 8) (by kernel_rfl) (by rfl) (by rfl)) (by rfl) (some 10) (by rfl) (by kernel_rfl) (by kernel_rfl) (by kernel_rfl) (by kernel_rfl) ?_
  skip
  refine Rg.float1 5 (ι := Nat) (some 6) (fun g => .pointer (some ⟨g, 0, none⟩)) (fun g => blk g 41 [.int .i64 0, .int .i64 0, .int .i64 0, .int .i64 0, .int .i64 0, .int .i64 0, .slice none 0 0, .slice none 0 0]) ?_
  skip
  skip
  refine RgF.does 4 (by rfl) (by rfl) (.inr (by kernel_rfl)) (by kernel_rfl) (Does.alloc (cs := [.int .i64 0, .int .i64 0, .int .i64 0, .int .i64 0, .int .i64 0, .int .i64 0, .slice none 0 0, .slice none 0 0]) (show Oper.op _ = Op.alloc 41 from rfl) (ZeroIs.mk (.agg #[.int .i64 0, .int .i64 0, .int .i64 0, .int .i64 0, .int .i64 0, .int .i64 0, .slice none 0 0, .slice none 0 0]) (by kernel_rfl) (by rfl))) (by rfl) (some 6) (by rfl) (fun _ => by repeat (first | exact trivial | refine ⟨by rfl, ?_⟩ | refine ⟨by simp only [List.length_append, List.length_cons, List.length_nil]; rfl, ?_⟩ | refine ⟨by push_cast; rfl, ?_⟩)) (by exact fun _ _ h => h.last) (by exact fun _ _ h => h.pick [0, 1, 2, 3, 4, 5] (by rfl)) (Does.alloc (cs := [.int .i64 0, .int .i64 0, .int .i64 0, .int .i64 0, .int .i64 0, .int .i64 0, .slice none 0 0, .slice none 0 0]) (show Oper.op _ = Op.alloc 41 from rfl) (ZeroIs.mk (.agg #[.int .i64 0, .int .i64 0, .int .i64 0, .int .i64 0, .int .i64 0, .int .i64 0, .slice none 0 0, .slice none 0 0]) (by kernel_rfl) (by rfl))) (by rfl) (some 5) (by rfl) (by exact fun _ _ h => h.pick [1, 2, 3, 4, 5, 6] (by rfl)) (fun _ => Does.alloc (cs := [.int .i64 0, .int .i64 0, .int .i64 0, .int .i64 0, .int .i64 0, .int .i64 0, .slice none 0 0, .slice none 0 0]) (show Oper.op _ = Op.alloc 41 from rfl) (ZeroIs.mk (.agg #[.int .i64 0, .int .i64 0, .int .i64 0, .int .i64 0, .int .i64 0, .int .i64 0, .slice none 0 0, .slice none 0 0]) (by kernel_rfl) (by rfl))) (fun _ => by rfl) (by exact fun _ _ _ h => h.pick [1, 2, 3, 4, 5, 6] (by rfl)) ?_
  rintro gx -
  refine RgF.land (by rfl) (by kernel_rfl) (Does.alloc (cs := [.int .i64 0, .int .i64 0, .int .i64 0, .int .i64 0, .int .i64 0, .int .i64 0, .slice none 0 0, .slice none 0 0]) (show Oper.op _ = Op.alloc 41 from rfl) (ZeroIs.mk (.agg #[.int .i64 0, .int .i64 0, .int .i64 0, .int .i64 0, .int .i64 0, .int .i64 0, .slice none 0 0, .slice none 0 0]) (by kernel_rfl) (by rfl))) (by rfl) (some 6) (by rfl) (fun _ => by repeat (first | exact trivial | refine ⟨by rfl, ?_⟩ | refine ⟨by simp only [List.length_append, List.length_cons, List.length_nil]; rfl, ?_⟩ | refine ⟨by push_cast; rfl, ?_⟩)) (by exact fun _ _ h => h.last) (by exact fun _ _ h => h.pick [1, 2, 3, 4, 5, 6] (by rfl)) ?_
  intro g3
  refine Rg.one 6 (by kernel_rfl) ?_; refine RgO.does 6 (by rfl) (Does.store 0 (show Oper.op _ = Op.store 41 (Operand.tmp 5) (Operand.tmp 8) from rfl) (by rfl) (by rfl) (by rfl) (by kernel_rfl) (by rfl) (by kernel_rfl) (by rfl)) (by rfl) none (by rfl) (by exact fun _ _ h => h.pick [1, 2, 3, 4, 5, 6] (by rfl)) ?_
  intro _ _
  refine Rg.one 7 (by kernel_rfl) ?_; refine RgO.tail 7 (by rfl) (Does.store 7 (show Oper.op _ = Op.store 41 (Operand.tmp 6) (Operand.tmp 10) from rfl) (by rfl) (by rfl) (by rfl) (by kernel_rfl) (by rfl) (by kernel_rfl) (by rfl)) (by rfl) none (by rfl) (by kernel_rfl) (by kernel_rfl) ?_
  intro _ _
  refine Rg.done (by kernel_rfl) ?_ _
  refine Cd.seq ?_
  refine Ent.pick [0, 7, 2, 1, 3, 4, 5, 6] (by rfl) ?_
  refine Ent.norm ([(2, .pointer (some ⟨g1, 0, none⟩)), (3, .pointer (some ⟨g2, 0, none⟩)), (5, .pointer (some ⟨gx, 0, none⟩)), (6, .pointer (some ⟨g3, 0, none⟩))]) ([blk gx 41 [.int .i64 z5, .int .i64 z6, .int .i64 z7, .int .i64 z8, .int .i64 z9, .int .i64 z10, .slice zC zcl.length zcc, .slice zK zkl.length zkc], blk g3 41 [.int .i64 y5, .int .i64 y6, .int .i64 y7, .int .i64 y8, .int .i64 y9, .int .i64 y10, .slice yC ycl.length ycc, .slice yK ykl.length ykc], blk g1 47 [.int .i64 z1, .int .i64 z2, .int .i64 z3, .int .i64 z4, .int .i64 z5, .int .i64 z6, .int .i64 z7, .int .i64 z8, .int .i64 z9, .int .i64 z10, .slice zC zcl.length zcc, .slice zK zkl.length zkc], blk g2 47 [.int .i64 y1, .int .i64 y2, .int .i64 y3, .int .i64 y4, .int .i64 y5, .int .i64 y6, .int .i64 y7, .int .i64 y8, .int .i64 y9, .int .i64 y10, .slice yC ycl.length ycc, .slice yK ykl.length ykc], rdI zC zcl, rdI zK zkl, rdI yC ycl, rdI yK ykl]) (by repeat (first | exact trivial | refine ⟨by rfl, ?_⟩ | refine ⟨by simp only [List.length_append, List.length_cons, List.length_nil]; rfl, ?_⟩ | refine ⟨by push_cast; rfl, ?_⟩)) (by rfl) ?_
  refine Cd.cut (ι := Unit) (fun _ => [(4, .bool (decide (z1 = y1 ∧ z2 = y2 ∧ z3 = y3 ∧ z4 = y4 ∧ z5 = y5 ∧ z6 = y6 ∧ z7 = y7 ∧ zkl = ykl ∧ z8 = y8 ∧ z9 = y9 ∧ z10 = y10 ∧ zcl = ycl)))]) (fun _ => []) (fun _ => True) ?_ ?_
  · skip
    refine Cd.region ?_
    refine Ls.ev (some 11) (Ev.fieldAddr (k := 0) (show Oper.op _ = Op.fieldAddr 47 (Operand.tmp 2) 0 from rfl) (by rfl) (by kernel_rfl) (by rfl)) (by rfl) (by rfl) ?_
    refine Ls.ev (some 12) (Ev.load 2 (show Oper.op _ = Op.load 45 (Operand.tmp 11) from rfl) (by rfl) (by rfl) (by kernel_rfl) (by rfl)) (by rfl) (by rfl) ?_
    refine Ls.ev (some 13) (Ev.fieldAddr (k := 0) (show Oper.op _ = Op.fieldAddr 47 (Operand.tmp 3) 0 from rfl) (by rfl) (by kernel_rfl) (by rfl)) (by rfl) (by rfl) ?_
    refine Ls.ev (some 14) (Ev.load 3 (show Oper.op _ = Op.load 45 (Operand.tmp 13) from rfl) (by rfl) (by rfl) (by kernel_rfl) (by rfl)) (by rfl) (by rfl) ?_
    refine Ls.ev (some 15) (Ev.eql (show Oper.op _ = Op.binOp BinOp.eql 45 (Operand.tmp 12) (Operand.tmp 14) 45 from rfl) (by rfl) (by rfl)) (by rfl) (by rfl) ?_
    refine Ls.ev (some 16) (Ev.move (show Oper.op _ = Op.move (Operand.tmp 15) from rfl) (by rfl)) (by rfl) (by rfl) ?_
    refine Ent.split 16 (by rfl) (fun hT1 => ?_) (fun hT1 => ?_)
    · first | have hT1 := of_decide_eq_false hT1 | have hT1 := of_not_decide_false hT1 | skip
      refine Ls.pass (some 17) (by rfl) (by rfl) ?_
      refine Ls.pass (some 18) (by rfl) (by rfl) ?_
      refine Ls.pass (some 19) (by rfl) (by rfl) ?_
      refine Ls.pass (some 20) (by rfl) (by rfl) ?_
      refine Ls.pass (some 21) (by rfl) (by rfl) ?_
      refine Ls.ev (some 22) (Ev.pickF (show Oper.op _ = Op.pick (Operand.tmp 16) (Operand.tmp 21) (Operand.const (Value.bool false)) from rfl) (by rfl) (by rfl)) (by rfl) (by rfl) ?_
      refine Ls.ev (some 23) (Ev.move (show Oper.op _ = Op.move (Operand.tmp 22) from rfl) (by rfl)) (by rfl) (by rfl) ?_
      refine Ls.pass (some 24) (by rfl) (by rfl) ?_
      refine Ls.pass (some 25) (by rfl) (by rfl) ?_
      refine Ls.pass (some 26) (by rfl) (by rfl) ?_
      refine Ls.pass (some 27) (by rfl) (by rfl) ?_
      refine Ls.pass (some 28) (by rfl) (by rfl) ?_
      refine Ls.ev (some 29) (Ev.pickF (show Oper.op _ = Op.pick (Operand.tmp 23) (Operand.tmp 28) (Operand.const (Value.bool false)) from rfl) (by rfl) (by rfl)) (by rfl) (by rfl) ?_
      refine Ls.ev (some 30) (Ev.move (show Oper.op _ = Op.move (Operand.tmp 29) from rfl) (by rfl)) (by rfl) (by rfl) ?_
      refine Ls.pass (some 31) (by rfl) (by rfl) ?_
      refine Ls.pass (some 32) (by rfl) (by rfl) ?_
      refine Ls.pass (some 33) (by rfl) (by rfl) ?_
      refine Ls.pass (some 34) (by rfl) (by rfl) ?_
      refine Ls.pass (some 35) (by rfl) (by rfl) ?_
      refine Ls.ev (some 36) (Ev.pickF (show Oper.op _ = Op.pick (Operand.tmp 30) (Operand.tmp 35) (Operand.const (Value.bool false)) from rfl) (by rfl) (by rfl)) (by rfl) (by rfl) ?_
      refine Ls.ev (some 37) (Ev.move (show Oper.op _ = Op.move (Operand.tmp 36) from rfl) (by rfl)) (by rfl) (by rfl) ?_
      refine Ls.pass (some 38) (by rfl) (by rfl) ?_
      refine Ls.pass (some 39) (by rfl) (by rfl) ?_
      refine Ls.pass (some 40) (by rfl) (by rfl) ?_
      refine Ls.pass (some 41) (by rfl) (by rfl) ?_
      refine Ls.pass (some 42) (by rfl) (by rfl) ?_
      refine Ls.ev (some 43) (Ev.pickF (show Oper.op _ = Op.pick (Operand.tmp 37) (Operand.tmp 42) (Operand.const (Value.bool false)) from rfl) (by rfl) (by rfl)) (by rfl) (by rfl) ?_
      refine Ls.ev (some 44) (Ev.move (show Oper.op _ = Op.move (Operand.tmp 43) from rfl) (by rfl)) (by rfl) (by rfl) ?_
      refine Ls.pass (some 45) (by rfl) (by rfl) ?_
      refine Ls.pass (some 46) (by rfl) (by rfl) ?_
      refine Ls.pass (some 47) (by rfl) (by rfl) ?_
      refine Ls.pass (some 48) (by rfl) (by rfl) ?_
      refine Ls.pass (some 49) (by rfl) (by rfl) ?_
      refine Ls.ev (some 50) (Ev.pickF (show Oper.op _ = Op.pick (Operand.tmp 44) (Operand.tmp 49) (Operand.const (Value.bool false)) from rfl) (by rfl) (by rfl)) (by rfl) (by rfl) ?_
      refine Ls.ev (some 51) (Ev.move (show Oper.op _ = Op.move (Operand.tmp 50) from rfl) (by rfl)) (by rfl) (by rfl) ?_
      refine Ls.pass (some 52) (by rfl) (by rfl) ?_
      refine Ls.pass (some 53) (by rfl) (by rfl) ?_
      refine Ls.pass (some 54) (by rfl) (by rfl) ?_
      refine Ls.pass (some 55) (by rfl) (by rfl) ?_
      refine Ls.pass (some 56) (by rfl) (by rfl) ?_
      refine Ls.ev (some 57) (Ev.pickF (show Oper.op _ = Op.pick (Operand.tmp 51) (Operand.tmp 56) (Operand.const (Value.bool false)) from rfl) (by rfl) (by rfl)) (by rfl) (by rfl) ?_
      refine Ls.ev (some 58) (Ev.move (show Oper.op _ = Op.move (Operand.tmp 57) from rfl) (by rfl)) (by rfl) (by rfl) ?_
      refine Ls.pass (some 59) (by rfl) (by rfl) ?_
      refine Ls.pass (some 60) (by rfl) (by rfl) ?_
      refine Ls.pass (some 61) (by rfl) (by rfl) ?_
      refine Ls.pass (some 62) (by rfl) (by rfl) ?_
      refine Ls.pass (some 63) (by rfl) (by rfl) ?_
      refine Ls.ev (some 64) (Ev.pickF (show Oper.op _ = Op.pick (Operand.tmp 58) (Operand.tmp 63) (Operand.const (Value.bool false)) from rfl) (by rfl) (by rfl)) (by rfl) (by rfl) ?_
      refine Ls.ev (some 65) (Ev.move (show Oper.op _ = Op.move (Operand.tmp 64) from rfl) (by rfl)) (by rfl) (by rfl) ?_
      refine Ls.pass (some 66) (by rfl) (by rfl) ?_
      refine Ls.pass (some 67) (by rfl) (by rfl) ?_
      refine Ls.pass (some 68) (by rfl) (by rfl) ?_
      refine Ls.pass (some 69) (by rfl) (by rfl) ?_
      refine Ls.pass (some 70) (by rfl) (by rfl) ?_
      refine Ls.pass (some 71) (by rfl) (by rfl) ?_
      refine Ls.pass (some 72) (by rfl) (by rfl) ?_
      refine Ls.ev (some 73) (Ev.pickF (show Oper.op _ = Op.pick (Operand.tmp 65) (Operand.tmp 72) (Operand.const (Value.bool false)) from rfl) (by rfl) (by rfl)) (by rfl) (by rfl) ?_
      refine Ls.ev (some 74) (Ev.move (show Oper.op _ = Op.move (Operand.tmp 73) from rfl) (by rfl)) (by rfl) (by rfl) ?_
      refine Ls.pass (some 75) (by rfl) (by rfl) ?_
      refine Ls.pass (some 76) (by rfl) (by rfl) ?_
      refine Ls.pass (some 77) (by rfl) (by rfl) ?_
      refine Ls.pass (some 78) (by rfl) (by rfl) ?_
      refine Ls.pass (some 79) (by rfl) (by rfl) ?_
      refine Ls.pass (some 80) (by rfl) (by rfl) ?_
      refine Ls.pass (some 81) (by rfl) (by rfl) ?_
      refine Ls.ev (some 82) (Ev.pickF (show Oper.op _ = Op.pick (Operand.tmp 74) (Operand.tmp 81) (Operand.const (Value.bool false)) from rfl) (by rfl) (by rfl)) (by rfl) (by rfl) ?_
      refine Ls.ev (some 83) (Ev.move (show Oper.op _ = Op.move (Operand.tmp 82) from rfl) (by rfl)) (by rfl) (by rfl) ?_
      refine Ls.pass (some 84) (by rfl) (by rfl) ?_
      refine Ls.pass (some 85) (by rfl) (by rfl) ?_
      refine Ls.pass (some 86) (by rfl) (by rfl) ?_
      refine Ls.pass (some 87) (by rfl) (by rfl) ?_
      refine Ls.pass (some 88) (by rfl) (by rfl) ?_
      refine Ls.pass (some 89) (by rfl) (by rfl) ?_
      refine Ls.pass (some 90) (by rfl) (by rfl) ?_
      refine Ls.pass (some 91) (by rfl) (by rfl) ?_
      refine Ls.pass (some 92) (by rfl) (by rfl) ?_
      refine Ls.ev (some 93) (Ev.pickF (show Oper.op _ = Op.pick (Operand.tmp 83) (Operand.tmp 92) (Operand.const (Value.bool false)) from rfl) (by rfl) (by rfl)) (by rfl) (by rfl) ?_
      refine Ls.ev (some 94) (Ev.move (show Oper.op _ = Op.move (Operand.tmp 93) from rfl) (by rfl)) (by rfl) (by rfl) ?_
      refine Ls.pass (some 95) (by rfl) (by rfl) ?_
      refine Ls.pass (some 96) (by rfl) (by rfl) ?_
      refine Ls.pass (some 97) (by rfl) (by rfl) ?_
      refine Ls.pass (some 98) (by rfl) (by rfl) ?_
      refine Ls.pass (some 99) (by rfl) (by rfl) ?_
      refine Ls.pass (some 100) (by rfl) (by rfl) ?_
      refine Ls.pass (some 101) (by rfl) (by rfl) ?_
      refine Ls.pass (some 102) (by rfl) (by rfl) ?_
      refine Ls.pass (some 103) (by rfl) (by rfl) ?_
      refine Ls.ev (some 104) (Ev.pickF (show Oper.op _ = Op.pick (Operand.tmp 94) (Operand.tmp 103) (Operand.const (Value.bool false)) from rfl) (by rfl) (by rfl)) (by rfl) (by rfl) ?_
      refine Ls.ev (some 4) (Ev.assign (show Oper.op _ = Op.assign (Operand.tmp 104) from rfl) (by rfl)) (by rfl) (by rfl) ?_
      refine Ls.nil ?_
      refine Ent.pick [] (by rfl) ?_
      refine Ent.inv () ?_ ?_ ?_
      · exact trivial
      · (repeat (first | exact trivial | refine ⟨by rfl, ?_⟩ | refine ⟨by simp only [List.length_append, List.length_cons, List.length_nil]; rfl, ?_⟩ | refine ⟨by push_cast; rfl, ?_⟩ | refine ⟨by (show some (Value.bool _) = some (Value.bool _); congr 2; (first | (refine (decide_eq_false ?_).symm; simp_all; done) | (refine decide_eq_decide.2 ?_; simp_all; done))), ?_⟩))
      · rfl
    · first | have hT1 := of_decide_eq_true hT1 | have hT1 := of_not_decide_true hT1 | skip
      refine Ls.ev (some 17) (Ev.fieldAddr (k := 1) (show Oper.op _ = Op.fieldAddr 47 (Operand.tmp 2) 1 from rfl) (by rfl) (by kernel_rfl) (by rfl)) (by rfl) (by rfl) ?_
      refine Ls.ev (some 18) (Ev.load 2 (show Oper.op _ = Op.load 3 (Operand.tmp 17) from rfl) (by rfl) (by rfl) (by kernel_rfl) (by rfl)) (by rfl) (by rfl) ?_
      refine Ls.ev (some 19) (Ev.fieldAddr (k := 1) (show Oper.op _ = Op.fieldAddr 47 (Operand.tmp 3) 1 from rfl) (by rfl) (by kernel_rfl) (by rfl)) (by rfl) (by rfl) ?_
      refine Ls.ev (some 20) (Ev.load 3 (show Oper.op _ = Op.load 3 (Operand.tmp 19) from rfl) (by rfl) (by rfl) (by kernel_rfl) (by rfl)) (by rfl) (by rfl) ?_
      refine Ls.ev (some 21) (Ev.eql (show Oper.op _ = Op.binOp BinOp.eql 3 (Operand.tmp 18) (Operand.tmp 20) 3 from rfl) (by rfl) (by rfl)) (by rfl) (by rfl) ?_
      refine Ls.ev (some 22) (Ev.pickT (show Oper.op _ = Op.pick (Operand.tmp 16) (Operand.tmp 21) (Operand.const (Value.bool false)) from rfl) (by rfl) (by rfl)) (by rfl) (by rfl) ?_
      refine Ls.ev (some 23) (Ev.move (show Oper.op _ = Op.move (Operand.tmp 22) from rfl) (by rfl)) (by rfl) (by rfl) ?_
      refine Ent.split 23 (by rfl) (fun hT2 => ?_) (fun hT2 => ?_)
      · first | have hT2 := of_decide_eq_false hT2 | have hT2 := of_not_decide_false hT2 | skip
        refine Ls.pass (some 24) (by rfl) (by rfl) ?_
        refine Ls.pass (some 25) (by rfl) (by rfl) ?_
        refine Ls.pass (some 26) (by rfl) (by rfl) ?_
        refine Ls.pass (some 27) (by rfl) (by rfl) ?_
        refine Ls.pass (some 28) (by rfl) (by rfl) ?_
        refine Ls.ev (some 29) (Ev.pickF (show Oper.op _ = Op.pick (Operand.tmp 23) (Operand.tmp 28) (Operand.const (Value.bool false)) from rfl) (by rfl) (by rfl)) (by rfl) (by rfl) ?_
        refine Ls.ev (some 30) (Ev.move (show Oper.op _ = Op.move (Operand.tmp 29) from rfl) (by rfl)) (by rfl) (by rfl) ?_
        refine Ls.pass (some 31) (by rfl) (by rfl) ?_
        refine Ls.pass (some 32) (by rfl) (by rfl) ?_
        refine Ls.pass (some 33) (by rfl) (by rfl) ?_
        refine Ls.pass (some 34) (by rfl) (by rfl) ?_
        refine Ls.pass (some 35) (by rfl) (by rfl) ?_
        refine Ls.ev (some 36) (Ev.pickF (show Oper.op _ = Op.pick (Operand.tmp 30) (Operand.tmp 35) (Operand.const (Value.bool false)) from rfl) (by rfl) (by rfl)) (by rfl) (by rfl) ?_
        refine Ls.ev (some 37) (Ev.move (show Oper.op _ = Op.move (Operand.tmp 36) from rfl) (by rfl)) (by rfl) (by rfl) ?_
        refine Ls.pass (some 38) (by rfl) (by rfl) ?_
        refine Ls.pass (some 39) (by rfl) (by rfl) ?_
        refine Ls.pass (some 40) (by rfl) (by rfl) ?_
        refine Ls.pass (some 41) (by rfl) (by rfl) ?_
        refine Ls.pass (some 42) (by rfl) (by rfl) ?_
        refine Ls.ev (some 43) (Ev.pickF (show Oper.op _ = Op.pick (Operand.tmp 37) (Operand.tmp 42) (Operand.const (Value.bool false)) from rfl) (by rfl) (by rfl)) (by rfl) (by rfl) ?_
        refine Ls.ev (some 44) (Ev.move (show Oper.op _ = Op.move (Operand.tmp 43) from rfl) (by rfl)) (by rfl) (by rfl) ?_
        refine Ls.pass (some 45) (by rfl) (by rfl) ?_
        refine Ls.pass (some 46) (by rfl) (by rfl) ?_
        refine Ls.pass (some 47) (by rfl) (by rfl) ?_
        refine Ls.pass (some 48) (by rfl) (by rfl) ?_
        refine Ls.pass (some 49) (by rfl) (by rfl) ?_
        refine Ls.ev (some 50) (Ev.pickF (show Oper.op _ = Op.pick (Operand.tmp 44) (Operand.tmp 49) (Operand.const (Value.bool false)) from rfl) (by rfl) (by rfl)) (by rfl) (by rfl) ?_
        refine Ls.ev (some 51) (Ev.move (show Oper.op _ = Op.move (Operand.tmp 50) from rfl) (by rfl)) (by rfl) (by rfl) ?_
        refine Ls.pass (some 52) (by rfl) (by rfl) ?_
        refine Ls.pass (some 53) (by rfl) (by rfl) ?_
        refine Ls.pass (some 54) (by rfl) (by rfl) ?_
        refine Ls.pass (some 55) (by rfl) (by rfl) ?_
        refine Ls.pass (some 56) (by rfl) (by rfl) ?_
        refine Ls.ev (some 57) (Ev.pickF (show Oper.op _ = Op.pick (Operand.tmp 51) (Operand.tmp 56) (Operand.const (Value.bool false)) from rfl) (by rfl) (by rfl)) (by rfl) (by rfl) ?_
        refine Ls.ev (some 58) (Ev.move (show Oper.op _ = Op.move (Operand.tmp 57) from rfl) (by rfl)) (by rfl) (by rfl) ?_
        refine Ls.pass (some 59) (by rfl) (by rfl) ?_
        refine Ls.pass (some 60) (by rfl) (by rfl) ?_
        refine Ls.pass (some 61) (by rfl) (by rfl) ?_
        refine Ls.pass (some 62) (by rfl) (by rfl) ?_
        refine Ls.pass (some 63) (by rfl) (by rfl) ?_
        refine Ls.ev (some 64) (Ev.pickF (show Oper.op _ = Op.pick (Operand.tmp 58) (Operand.tmp 63) (Operand.const (Value.bool false)) from rfl) (by rfl) (by rfl)) (by rfl) (by rfl) ?_
        refine Ls.ev (some 65) (Ev.move (show Oper.op _ = Op.move (Operand.tmp 64) from rfl) (by rfl)) (by rfl) (by rfl) ?_
        refine Ls.pass (some 66) (by rfl) (by rfl) ?_
        refine Ls.pass (some 67) (by rfl) (by rfl) ?_
        refine Ls.pass (some 68) (by rfl) (by rfl) ?_
        refine Ls.pass (some 69) (by rfl) (by rfl) ?_
        refine Ls.pass (some 70) (by rfl) (by rfl) ?_
        refine Ls.pass (some 71) (by rfl) (by rfl) ?_
        refine Ls.pass (some 72) (by rfl) (by rfl) ?_
        refine Ls.ev (some 73) (Ev.pickF (show Oper.op _ = Op.pick (Operand.tmp 65) (Operand.tmp 72) (Operand.const (Value.bool false)) from rfl) (by rfl) (by rfl)) (by rfl) (by rfl) ?_
        refine Ls.ev (some 74) (Ev.move (show Oper.op _ = Op.move (Operand.tmp 73) from rfl) (by rfl)) (by rfl) (by rfl) ?_
        refine Ls.pass (some 75) (by rfl) (by rfl) ?_
        refine Ls.pass (some 76) (by rfl) (by rfl) ?_
        refine Ls.pass (some 77) (by rfl) (by rfl) ?_
        refine Ls.pass (some 78) (by rfl) (by rfl) ?_
        refine Ls.pass (some 79) (by rfl) (by rfl) ?_
        refine Ls.pass (some 80) (by rfl) (by rfl) ?_
        refine Ls.pass (some 81) (by rfl) (by rfl) ?_
        refine Ls.ev (some 82) (Ev.pickF (show Oper.op _ = Op.pick (Operand.tmp 74) (Operand.tmp 81) (Operand.const (Value.bool false)) from rfl) (by rfl) (by rfl)) (by rfl) (by rfl) ?_
        refine Ls.ev (some 83) (Ev.move (show Oper.op _ = Op.move (Operand.tmp 82) from rfl) (by rfl)) (by rfl) (by rfl) ?_
        refine Ls.pass (some 84) (by rfl) (by rfl) ?_
        refine Ls.pass (some 85) (by rfl) (by rfl) ?_
        refine Ls.pass (some 86) (by rfl) (by rfl) ?_
        refine Ls.pass (some 87) (by rfl) (by rfl) ?_
        refine Ls.pass (some 88) (by rfl) (by rfl) ?_
        refine Ls.pass (some 89) (by rfl) (by rfl) ?_
        refine Ls.pass (some 90) (by rfl) (by rfl) ?_
        refine Ls.pass (some 91) (by rfl) (by rfl) ?_
        refine Ls.pass (some 92) (by rfl) (by rfl) ?_
        refine Ls.ev (some 93) (Ev.pickF (show Oper.op _ = Op.pick (Operand.tmp 83) (Operand.tmp 92) (Operand.const (Value.bool false)) from rfl) (by rfl) (by rfl)) (by rfl) (by rfl) ?_
        refine Ls.ev (some 94) (Ev.move (show Oper.op _ = Op.move (Operand.tmp 93) from rfl) (by rfl)) (by rfl) (by rfl) ?_
        refine Ls.pass (some 95) (by rfl) (by rfl) ?_
        refine Ls.pass (some 96) (by rfl) (by rfl) ?_
        refine Ls.pass (some 97) (by rfl) (by rfl) ?_
        refine Ls.pass (some 98) (by rfl) (by rfl) ?_
        refine Ls.pass (some 99) (by rfl) (by rfl) ?_
        refine Ls.pass (some 100) (by rfl) (by rfl) ?_
        refine Ls.pass (some 101) (by rfl) (by rfl) ?_
        refine Ls.pass (some 102) (by rfl) (by rfl) ?_
        refine Ls.pass (some 103) (by rfl) (by rfl) ?_
        refine Ls.ev (some 104) (Ev.pickF (show Oper.op _ = Op.pick (Operand.tmp 94) (Operand.tmp 103) (Operand.const (Value.bool false)) from rfl) (by rfl) (by rfl)) (by rfl) (by rfl) ?_
        refine Ls.ev (some 4) (Ev.assign (show Oper.op _ = Op.assign (Operand.tmp 104) from rfl) (by rfl)) (by rfl) (by rfl) ?_
        refine Ls.nil ?_
        refine Ent.pick [] (by rfl) ?_
        refine Ent.inv () ?_ ?_ ?_
        · exact trivial
        · (repeat (first | exact trivial | refine ⟨by rfl, ?_⟩ | refine ⟨by simp only [List.length_append, List.length_cons, List.length_nil]; rfl, ?_⟩ | refine ⟨by push_cast; rfl, ?_⟩ | refine ⟨by (show some (Value.bool _) = some (Value.bool _); congr 2; (first | (refine (decide_eq_false ?_).symm; simp_all; done) | (refine decide_eq_decide.2 ?_; simp_all; done))), ?_⟩))
        · rfl
      · first | have hT2 := of_decide_eq_true hT2 | have hT2 := of_not_decide_true hT2 | skip
        refine Ls.ev (some 24) (Ev.fieldAddr (k := 2) (show Oper.op _ = Op.fieldAddr 47 (Operand.tmp 2) 2 from rfl) (by rfl) (by kernel_rfl) (by rfl)) (by rfl) (by rfl) ?_
        refine Ls.ev (some 25) (Ev.load 2 (show Oper.op _ = Op.load 3 (Operand.tmp 24) from rfl) (by rfl) (by rfl) (by kernel_rfl) (by rfl)) (by rfl) (by rfl) ?_
        refine Ls.ev (some 26) (Ev.fieldAddr (k := 2) (show Oper.op _ = Op.fieldAddr 47 (Operand.tmp 3) 2 from rfl) (by rfl) (by kernel_rfl) (by rfl)) (by rfl) (by rfl) ?_
        refine Ls.ev (some 27) (Ev.load 3 (show Oper.op _ = Op.load 3 (Operand.tmp 26) from rfl) (by rfl) (by rfl) (by kernel_rfl) (by rfl)) (by rfl) (by rfl) ?_
        refine Ls.ev (some 28) (Ev.eql (show Oper.op _ = Op.binOp BinOp.eql 3 (Operand.tmp 25) (Operand.tmp 27) 3 from rfl) (by rfl) (by rfl)) (by rfl) (by rfl) ?_
        refine Ls.ev (some 29) (Ev.pickT (show Oper.op _ = Op.pick (Operand.tmp 23) (Operand.tmp 28) (Operand.const (Value.bool false)) from rfl) (by rfl) (by rfl)) (by rfl) (by rfl) ?_
        refine Ls.ev (some 30) (Ev.move (show Oper.op _ = Op.move (Operand.tmp 29) from rfl) (by rfl)) (by rfl) (by rfl) ?_
        refine Ent.split 30 (by rfl) (fun hT3 => ?_) (fun hT3 => ?_)
        · first | have hT3 := of_decide_eq_false hT3 | have hT3 := of_not_decide_false hT3 | skip
          refine Ls.pass (some 31) (by rfl) (by rfl) ?_
          refine Ls.pass (some 32) (by rfl) (by rfl) ?_
          refine Ls.pass (some 33) (by rfl) (by rfl) ?_
          refine Ls.pass (some 34) (by rfl) (by rfl) ?_
          refine Ls.pass (some 35) (by rfl) (by rfl) ?_
          refine Ls.ev (some 36) (Ev.pickF (show Oper.op _ = Op.pick (Operand.tmp 30) (Operand.tmp 35) (Operand.const (Value.bool false)) from rfl) (by rfl) (by rfl)) (by rfl) (by rfl) ?_
          refine Ls.ev (some 37) (Ev.move (show Oper.op _ = Op.move (Operand.tmp 36) from rfl) (by rfl)) (by rfl) (by rfl) ?_
          refine Ls.pass (some 38) (by rfl) (by rfl) ?_
          refine Ls.pass (some 39) (by rfl) (by rfl) ?_
          refine Ls.pass (some 40) (by rfl) (by rfl) ?_
          refine Ls.pass (some 41) (by rfl) (by rfl) ?_
          refine Ls.pass (some 42) (by rfl) (by rfl) ?_
          refine Ls.ev (some 43) (Ev.pickF (show Oper.op _ = Op.pick (Operand.tmp 37) (Operand.tmp 42) (Operand.const (Value.bool false)) from rfl) (by rfl) (by rfl)) (by rfl) (by rfl) ?_
          refine Ls.ev (some 44) (Ev.move (show Oper.op _ = Op.move (Operand.tmp 43) from rfl) (by rfl)) (by rfl) (by rfl) ?_
          refine Ls.pass (some 45) (by rfl) (by rfl) ?_
          refine Ls.pass (some 46) (by rfl) (by rfl) ?_
          refine Ls.pass (some 47) (by rfl) (by rfl) ?_
          refine Ls.pass (some 48) (by rfl) (by rfl) ?_
          refine Ls.pass (some 49) (by rfl) (by rfl) ?_
          refine Ls.ev (some 50) (Ev.pickF (show Oper.op _ = Op.pick (Operand.tmp 44) (Operand.tmp 49) (Operand.const (Value.bool false)) from rfl) (by rfl) (by rfl)) (by rfl) (by rfl) ?_
          refine Ls.ev (some 51) (Ev.move (show Oper.op _ = Op.move (Operand.tmp 50) from rfl) (by rfl)) (by rfl) (by rfl) ?_
          refine Ls.pass (some 52) (by rfl) (by rfl) ?_
          refine Ls.pass (some 53) (by rfl) (by rfl) ?_
          refine Ls.pass (some 54) (by rfl) (by rfl) ?_
          refine Ls.pass (some 55) (by rfl) (by rfl) ?_
          refine Ls.pass (some 56) (by rfl) (by rfl) ?_
          refine Ls.ev (some 57) (Ev.pickF (show Oper.op _ = Op.pick (Operand.tmp 51) (Operand.tmp 56) (Operand.const (Value.bool false)) from rfl) (by rfl) (by rfl)) (by rfl) (by rfl) ?_
          refine Ls.ev (some 58) (Ev.move (show Oper.op _ = Op.move (Operand.tmp 57) from rfl) (by rfl)) (by rfl) (by rfl) ?_
          refine Ls.pass (some 59) (by rfl) (by rfl) ?_
          refine Ls.pass (some 60) (by rfl) (by rfl) ?_
          refine Ls.pass (some 61) (by rfl) (by rfl) ?_
          refine Ls.pass (some 62) (by rfl) (by rfl) ?_
          refine Ls.pass (some 63) (by rfl) (by rfl) ?_
          refine Ls.ev (some 64) (Ev.pickF (show Oper.op _ = Op.pick (Operand.tmp 58) (Operand.tmp 63) (Operand.const (Value.bool false)) from rfl) (by rfl) (by rfl)) (by rfl) (by rfl) ?_
          refine Ls.ev (some 65) (Ev.move (show Oper.op _ = Op.move (Operand.tmp 64) from rfl) (by rfl)) (by rfl) (by rfl) ?_
          refine Ls.pass (some 66) (by rfl) (by rfl) ?_
          refine Ls.pass (some 67) (by rfl) (by rfl) ?_
          refine Ls.pass (some 68) (by rfl) (by rfl) ?_
          refine Ls.pass (some 69) (by rfl) (by rfl) ?_
          refine Ls.pass (some 70) (by rfl) (by rfl) ?_
          refine Ls.pass (some 71) (by rfl) (by rfl) ?_
          refine Ls.pass (some 72) (by rfl) (by rfl) ?_
          refine Ls.ev (some 73) (Ev.pickF (show Oper.op _ = Op.pick (Operand.tmp 65) (Operand.tmp 72) (Operand.const (Value.bool false)) from rfl) (by rfl) (by rfl)) (by rfl) (by rfl) ?_
          refine Ls.ev (some 74) (Ev.move (show Oper.op _ = Op.move (Operand.tmp 73) from rfl) (by rfl)) (by rfl) (by rfl) ?_
          refine Ls.pass (some 75) (by rfl) (by rfl) ?_
          refine Ls.pass (some 76) (by rfl) (by rfl) ?_
          refine Ls.pass (some 77) (by rfl) (by rfl) ?_
          refine Ls.pass (some 78) (by rfl) (by rfl) ?_
          refine Ls.pass (some 79) (by rfl) (by rfl) ?_
          refine Ls.pass (some 80) (by rfl) (by rfl) ?_
          refine Ls.pass (some 81) (by rfl) (by rfl) ?_
          refine Ls.ev (some 82) (Ev.pickF (show Oper.op _ = Op.pick (Operand.tmp 74) (Operand.tmp 81) (Operand.const (Value.bool false)) from rfl) (by rfl) (by rfl)) (by rfl) (by rfl) ?_
          refine Ls.ev (some 83) (Ev.move (show Oper.op _ = Op.move (Operand.tmp 82) from rfl) (by rfl)) (by rfl) (by rfl) ?_
          refine Ls.pass (some 84) (by rfl) (by rfl) ?_
          refine Ls.pass (some 85) (by rfl) (by rfl) ?_
          refine Ls.pass (some 86) (by rfl) (by rfl) ?_
          refine Ls.pass (some 87) (by rfl) (by rfl) ?_
          refine Ls.pass (some 88) (by rfl) (by rfl) ?_
          refine Ls.pass (some 89) (by rfl) (by rfl) ?_
          refine Ls.pass (some 90) (by rfl) (by rfl) ?_
          refine Ls.pass (some 91) (by rfl) (by rfl) ?_
          refine Ls.pass (some 92) (by rfl) (by rfl) ?_
          refine Ls.ev (some 93) (Ev.pickF (show Oper.op _ = Op.pick (Operand.tmp 83) (Operand.tmp 92) (Operand.const (Value.bool false)) from rfl) (by rfl) (by rfl)) (by rfl) (by rfl) ?_
          refine Ls.ev (some 94) (Ev.move (show Oper.op _ = Op.move (Operand.tmp 93) from rfl) (by rfl)) (by rfl) (by rfl) ?_
          refine Ls.pass (some 95) (by rfl) (by rfl) ?_
          refine Ls.pass (some 96) (by rfl) (by rfl) ?_
          refine Ls.pass (some 97) (by rfl) (by rfl) ?_
          refine Ls.pass (some 98) (by rfl) (by rfl) ?_
          refine Ls.pass (some 99) (by rfl) (by rfl) ?_
          refine Ls.pass (some 100) (by rfl) (by rfl) ?_
          refine Ls.pass (some 101) (by rfl) (by rfl) ?_
          refine Ls.pass (some 102) (by rfl) (by rfl) ?_
          refine Ls.pass (some 103) (by rfl) (by rfl) ?_
          refine Ls.ev (some 104) (Ev.pickF (show Oper.op _ = Op.pick (Operand.tmp 94) (Operand.tmp 103) (Operand.const (Value.bool false)) from rfl) (by rfl) (by rfl)) (by rfl) (by rfl) ?_
          refine Ls.ev (some 4) (Ev.assign (show Oper.op _ = Op.assign (Operand.tmp 104) from rfl) (by rfl)) (by rfl) (by rfl) ?_
          refine Ls.nil ?_
          refine Ent.pick [] (by rfl) ?_
          refine Ent.inv () ?_ ?_ ?_
          · exact trivial
          · (repeat (first | exact trivial | refine ⟨by rfl, ?_⟩ | refine ⟨by simp only [List.length_append, List.length_cons, List.length_nil]; rfl, ?_⟩ | refine ⟨by push_cast; rfl, ?_⟩ | refine ⟨by (show some (Value.bool _) = some (Value.bool _); congr 2; (first | (refine (decide_eq_false ?_).symm; simp_all; done) | (refine decide_eq_decide.2 ?_; simp_all; done))), ?_⟩))
          · rfl
        · first | have hT3 := of_decide_eq_true hT3 | have hT3 := of_not_decide_true hT3 | skip
          refine Ls.ev (some 31) (Ev.fieldAddr (k := 3) (show Oper.op _ = Op.fieldAddr 47 (Operand.tmp 2) 3 from rfl) (by rfl) (by kernel_rfl) (by rfl)) (by rfl) (by rfl) ?_
          refine Ls.ev (some 32) (Ev.load 2 (show Oper.op _ = Op.load 3 (Operand.tmp 31) from rfl) (by rfl) (by rfl) (by kernel_rfl) (by rfl)) (by rfl) (by rfl) ?_
          refine Ls.ev (some 33) (Ev.fieldAddr (k := 3) (show Oper.op _ = Op.fieldAddr 47 (Operand.tmp 3) 3 from rfl) (by rfl) (by kernel_rfl) (by rfl)) (by rfl) (by rfl) ?_
          refine Ls.ev (some 34) (Ev.load 3 (show Oper.op _ = Op.load 3 (Operand.tmp 33) from rfl) (by rfl) (by rfl) (by kernel_rfl) (by rfl)) (by rfl) (by rfl) ?_
          refine Ls.ev (some 35) (Ev.eql (show Oper.op _ = Op.binOp BinOp.eql 3 (Operand.tmp 32) (Operand.tmp 34) 3 from rfl) (by rfl) (by rfl)) (by rfl) (by rfl) ?_
          refine Ls.ev (some 36) (Ev.pickT (show Oper.op _ = Op.pick (Operand.tmp 30) (Operand.tmp 35) (Operand.const (Value.bool false)) from rfl) (by rfl) (by rfl)) (by rfl) (by rfl) ?_
          refine Ls.ev (some 37) (Ev.move (show Oper.op _ = Op.move (Operand.tmp 36) from rfl) (by rfl)) (by rfl) (by rfl) ?_
          refine Ent.split 37 (by rfl) (fun hT4 => ?_) (fun hT4 => ?_)
          · first | have hT4 := of_decide_eq_false hT4 | have hT4 := of_not_decide_false hT4 | skip
            refine Ls.pass (some 38) (by rfl) (by rfl) ?_
            refine Ls.pass (some 39) (by rfl) (by rfl) ?_
            refine Ls.pass (some 40) (by rfl) (by rfl) ?_
            refine Ls.pass (some 41) (by rfl) (by rfl) ?_
            refine Ls.pass (some 42) (by rfl) (by rfl) ?_
            refine Ls.ev (some 43) (Ev.pickF (show Oper.op _ = Op.pick (Operand.tmp 37) (Operand.tmp 42) (Operand.const (Value.bool false)) from rfl) (by rfl) (by rfl)) (by rfl) (by rfl) ?_
            refine Ls.ev (some 44) (Ev.move (show Oper.op _ = Op.move (Operand.tmp 43) from rfl) (by rfl)) (by rfl) (by rfl) ?_
            refine Ls.pass (some 45) (by rfl) (by rfl) ?_
            refine Ls.pass (some 46) (by rfl) (by rfl) ?_
            refine Ls.pass (some 47) (by rfl) (by rfl) ?_
            refine Ls.pass (some 48) (by rfl) (by rfl) ?_
            refine Ls.pass (some 49) (by rfl) (by rfl) ?_
            refine Ls.ev (some 50) (Ev.pickF (show Oper.op _ = Op.pick (Operand.tmp 44) (Operand.tmp 49) (Operand.const (Value.bool false)) from rfl) (by rfl) (by rfl)) (by rfl) (by rfl) ?_
            refine Ls.ev (some 51) (Ev.move (show Oper.op _ = Op.move (Operand.tmp 50) from rfl) (by rfl)) (by rfl) (by rfl) ?_
            refine Ls.pass (some 52) (by rfl) (by rfl) ?_
            refine Ls.pass (some 53) (by rfl) (by rfl) ?_
            refine Ls.pass (some 54) (by rfl) (by rfl) ?_
            refine Ls.pass (some 55) (by rfl) (by rfl) ?_
            refine Ls.pass (some 56) (by rfl) (by rfl) ?_
            refine Ls.ev (some 57) (Ev.pickF (show Oper.op _ = Op.pick (Operand.tmp 51) (Operand.tmp 56) (Operand.const (Value.bool false)) from rfl) (by rfl) (by rfl)) (by rfl) (by rfl) ?_
            refine Ls.ev (some 58) (Ev.move (show Oper.op _ = Op.move (Operand.tmp 57) from rfl) (by rfl)) (by rfl) (by rfl) ?_
            refine Ls.pass (some 59) (by rfl) (by rfl) ?_
            refine Ls.pass (some 60) (by rfl) (by rfl) ?_
            refine Ls.pass (some 61) (by rfl) (by rfl) ?_
            refine Ls.pass (some 62) (by rfl) (by rfl) ?_
            refine Ls.pass (some 63) (by rfl) (by rfl) ?_
            refine Ls.ev (some 64) (Ev.pickF (show Oper.op _ = Op.pick (Operand.tmp 58) (Operand.tmp 63) (Operand.const (Value.bool false)) from rfl) (by rfl) (by rfl)) (by rfl) (by rfl) ?_
            refine Ls.ev (some 65) (Ev.move (show Oper.op _ = Op.move (Operand.tmp 64) from rfl) (by rfl)) (by rfl) (by rfl) ?_
            refine Ls.pass (some 66) (by rfl) (by rfl) ?_
            refine Ls.pass (some 67) (by rfl) (by rfl) ?_
            refine Ls.pass (some 68) (by rfl) (by rfl) ?_
            refine Ls.pass (some 69) (by rfl) (by rfl) ?_
            refine Ls.pass (some 70) (by rfl) (by rfl) ?_
            refine Ls.pass (some 71) (by rfl) (by rfl) ?_
            refine Ls.pass (some 72) (by rfl) (by rfl) ?_
            refine Ls.ev (some 73) (Ev.pickF (show Oper.op _ = Op.pick (Operand.tmp 65) (Operand.tmp 72) (Operand.const (Value.bool false)) from rfl) (by rfl) (by rfl)) (by rfl) (by rfl) ?_
            refine Ls.ev (some 74) (Ev.move (show Oper.op _ = Op.move (Operand.tmp 73) from rfl) (by rfl)) (by rfl) (by rfl) ?_
            refine Ls.pass (some 75) (by rfl) (by rfl) ?_
            refine Ls.pass (some 76) (by rfl) (by rfl) ?_
            refine Ls.pass (some 77) (by rfl) (by rfl) ?_
            refine Ls.pass (some 78) (by rfl) (by rfl) ?_
            refine Ls.pass (some 79) (by rfl) (by rfl) ?_
            refine Ls.pass (some 80) (by rfl) (by rfl) ?_
            refine Ls.pass (some 81) (by rfl) (by rfl) ?_
            refine Ls.ev (some 82) (Ev.pickF (show Oper.op _ = Op.pick (Operand.tmp 74) (Operand.tmp 81) (Operand.const (Value.bool false)) from rfl) (by rfl) (by rfl)) (by rfl) (by rfl) ?_
            refine Ls.ev (some 83) (Ev.move (show Oper.op _ = Op.move (Operand.tmp 82) from rfl) (by rfl)) (by rfl) (by rfl) ?_
            refine Ls.pass (some 84) (by rfl) (by rfl) ?_
            refine Ls.pass (some 85) (by rfl) (by rfl) ?_
            refine Ls.pass (some 86) (by rfl) (by rfl) ?_
            refine Ls.pass (some 87) (by rfl) (by rfl) ?_
            refine Ls.pass (some 88) (by rfl) (by rfl) ?_
            refine Ls.pass (some 89) (by rfl) (by rfl) ?_
            refine Ls.pass (some 90) (by rfl) (by rfl) ?_
            refine Ls.pass (some 91) (by rfl) (by rfl) ?_
            refine Ls.pass (some 92) (by rfl) (by rfl) ?_
            refine Ls.ev (some 93) (Ev.pickF (show Oper.op _ = Op.pick (Operand.tmp 83) (Operand.tmp 92) (Operand.const (Value.bool false)) from rfl) (by rfl) (by rfl)) (by rfl) (by rfl) ?_
            refine Ls.ev (some 94) (Ev.move (show Oper.op _ = Op.move (Operand.tmp 93) from rfl) (by rfl)) (by rfl) (by rfl) ?_
            refine Ls.pass (some 95) (by rfl) (by rfl) ?_
            refine Ls.pass (some 96) (by rfl) (by rfl) ?_
            refine Ls.pass (some 97) (by rfl) (by rfl) ?_
            refine Ls.pass (some 98) (by rfl) (by rfl) ?_
            refine Ls.pass (some 99) (by rfl) (by rfl) ?_
            refine Ls.pass (some 100) (by rfl) (by rfl) ?_
            refine Ls.pass (some 101) (by rfl) (by rfl) ?_
            refine Ls.pass (some 102) (by rfl) (by rfl) ?_
            refine Ls.pass (some 103) (by rfl) (by rfl) ?_
            refine Ls.ev (some 104) (Ev.pickF (show Oper.op _ = Op.pick (Operand.tmp 94) (Operand.tmp 103) (Operand.const (Value.bool false)) from rfl) (by rfl) (by rfl)) (by rfl) (by rfl) ?_
            refine Ls.ev (some 4) (Ev.assign (show Oper.op _ = Op.assign (Operand.tmp 104) from rfl) (by rfl)) (by rfl) (by rfl) ?_
            refine Ls.nil ?_
            refine Ent.pick [] (by rfl) ?_
            refine Ent.inv () ?_ ?_ ?_
            · exact trivial
            · (repeat (first | exact trivial | refine ⟨by rfl, ?_⟩ | refine ⟨by simp only [List.length_append, List.length_cons, List.length_nil]; rfl, ?_⟩ | refine ⟨by push_cast; rfl, ?_⟩ | refine ⟨by (show some (Value.bool _) = some (Value.bool _); congr 2; (first | (refine (decide_eq_false ?_).symm; simp_all; done) | (refine decide_eq_decide.2 ?_; simp_all; done))), ?_⟩))
            · rfl
          · first | have hT4 := of_decide_eq_true hT4 | have hT4 := of_not_decide_true hT4 | skip
            refine Ls.ev (some 38) (Ev.fieldAddr (k := 0) (show Oper.op _ = Op.fieldAddr 41 (Operand.tmp 5) 0 from rfl) (by rfl) (by kernel_rfl) (by rfl)) (by rfl) (by rfl) ?_
            refine Ls.ev (some 39) (Ev.load 0 (show Oper.op _ = Op.load 34 (Operand.tmp 38) from rfl) (by rfl) (by rfl) (by kernel_rfl) (by rfl)) (by rfl) (by rfl) ?_
            refine Ls.ev (some 40) (Ev.fieldAddr (k := 0) (show Oper.op _ = Op.fieldAddr 41 (Operand.tmp 6) 0 from rfl) (by rfl) (by kernel_rfl) (by rfl)) (by rfl) (by rfl) ?_
            refine Ls.ev (some 41) (Ev.load 1 (show Oper.op _ = Op.load 34 (Operand.tmp 40) from rfl) (by rfl) (by rfl) (by kernel_rfl) (by rfl)) (by rfl) (by rfl) ?_
            refine Ls.ev (some 42) (Ev.eql (show Oper.op _ = Op.binOp BinOp.eql 34 (Operand.tmp 39) (Operand.tmp 41) 34 from rfl) (by rfl) (by rfl)) (by rfl) (by rfl) ?_
            refine Ls.ev (some 43) (Ev.pickT (show Oper.op _ = Op.pick (Operand.tmp 37) (Operand.tmp 42) (Operand.const (Value.bool false)) from rfl) (by rfl) (by rfl)) (by rfl) (by rfl) ?_
            refine Ls.ev (some 44) (Ev.move (show Oper.op _ = Op.move (Operand.tmp 43) from rfl) (by rfl)) (by rfl) (by rfl) ?_
            refine Ent.split 44 (by rfl) (fun hT5 => ?_) (fun hT5 => ?_)
            · first | have hT5 := of_decide_eq_false hT5 | have hT5 := of_not_decide_false hT5 | skip
              refine Ls.pass (some 45) (by rfl) (by rfl) ?_
              refine Ls.pass (some 46) (by rfl) (by rfl) ?_
              refine Ls.pass (some 47) (by rfl) (by rfl) ?_
              refine Ls.pass (some 48) (by rfl) (by rfl) ?_
              refine Ls.pass (some 49) (by rfl) (by rfl) ?_
              refine Ls.ev (some 50) (Ev.pickF (show Oper.op _ = Op.pick (Operand.tmp 44) (Operand.tmp 49) (Operand.const (Value.bool false)) from rfl) (by rfl) (by rfl)) (by rfl) (by rfl) ?_
              refine Ls.ev (some 51) (Ev.move (show Oper.op _ = Op.move (Operand.tmp 50) from rfl) (by rfl)) (by rfl) (by rfl) ?_
              refine Ls.pass (some 52) (by rfl) (by rfl) ?_
              refine Ls.pass (some 53) (by rfl) (by rfl) ?_
              refine Ls.pass (some 54) (by rfl) (by rfl) ?_
              refine Ls.pass (some 55) (by rfl) (by rfl) ?_
              refine Ls.pass (some 56) (by rfl) (by rfl) ?_
              refine Ls.ev (some 57) (Ev.pickF (show Oper.op _ = Op.pick (Operand.tmp 51) (Operand.tmp 56) (Operand.const (Value.bool false)) from rfl) (by rfl) (by rfl)) (by rfl) (by rfl) ?_
              refine Ls.ev (some 58) (Ev.move (show Oper.op _ = Op.move (Operand.tmp 57) from rfl) (by rfl)) (by rfl) (by rfl) ?_
              refine Ls.pass (some 59) (by rfl) (by rfl) ?_
              refine Ls.pass (some 60) (by rfl) (by rfl) ?_
              refine Ls.pass (some 61) (by rfl) (by rfl) ?_
              refine Ls.pass (some 62) (by rfl) (by rfl) ?_
              refine Ls.pass (some 63) (by rfl) (by rfl) ?_
              refine Ls.ev (some 64) (Ev.pickF (show Oper.op _ = Op.pick (Operand.tmp 58) (Operand.tmp 63) (Operand.const (Value.bool false)) from rfl) (by rfl) (by rfl)) (by rfl) (by rfl) ?_
              refine Ls.ev (some 65) (Ev.move (show Oper.op _ = Op.move (Operand.tmp 64) from rfl) (by rfl)) (by rfl) (by rfl) ?_
              refine Ls.pass (some 66) (by rfl) (by rfl) ?_
              refine Ls.pass (some 67) (by rfl) (by rfl) ?_
              refine Ls.pass (some 68) (by rfl) (by rfl) ?_
              refine Ls.pass (some 69) (by rfl) (by rfl) ?_
              refine Ls.pass (some 70) (by rfl) (by rfl) ?_
              refine Ls.pass (some 71) (by rfl) (by rfl) ?_
              refine Ls.pass (some 72) (by rfl) (by rfl) ?_
              refine Ls.ev (some 73) (Ev.pickF (show Oper.op _ = Op.pick (Operand.tmp 65) (Operand.tmp 72) (Operand.const (Value.bool false)) from rfl) (by rfl) (by rfl)) (by rfl) (by rfl) ?_
              refine Ls.ev (some 74) (Ev.move (show Oper.op _ = Op.move (Operand.tmp 73) from rfl) (by rfl)) (by rfl) (by rfl) ?_
              refine Ls.pass (some 75) (by rfl) (by rfl) ?_
              refine Ls.pass (some 76) (by rfl) (by rfl) ?_
              refine Ls.pass (some 77) (by rfl) (by rfl) ?_
              refine Ls.pass (some 78) (by rfl) (by rfl) ?_
              refine Ls.pass (some 79) (by rfl) (by rfl) ?_
              refine Ls.pass (some 80) (by rfl) (by rfl) ?_
              refine Ls.pass (some 81) (by rfl) (by rfl) ?_
              refine Ls.ev (some 82) (Ev.pickF (show Oper.op _ = Op.pick (Operand.tmp 74) (Operand.tmp 81) (Operand.const (Value.bool false)) from rfl) (by rfl) (by rfl)) (by rfl) (by rfl) ?_
              refine Ls.ev (some 83) (Ev.move (show Oper.op _ = Op.move (Operand.tmp 82) from rfl) (by rfl)) (by rfl) (by rfl) ?_
              refine Ls.pass (some 84) (by rfl) (by rfl) ?_
              refine Ls.pass (some 85) (by rfl) (by rfl) ?_
              refine Ls.pass (some 86) (by rfl) (by rfl) ?_
              refine Ls.pass (some 87) (by rfl) (by rfl) ?_
              refine Ls.pass (some 88) (by rfl) (by rfl) ?_
              refine Ls.pass (some 89) (by rfl) (by rfl) ?_
              refine Ls.pass (some 90) (by rfl) (by rfl) ?_
              refine Ls.pass (some 91) (by rfl) (by rfl) ?_
              refine Ls.pass (some 92) (by rfl) (by rfl) ?_
              refine Ls.ev (some 93) (Ev.pickF (show Oper.op _ = Op.pick (Operand.tmp 83) (Operand.tmp 92) (Operand.const (Value.bool false)) from rfl) (by rfl) (by rfl)) (by rfl) (by rfl) ?_
              refine Ls.ev (some 94) (Ev.move (show Oper.op _ = Op.move (Operand.tmp 93) from rfl) (by rfl)) (by rfl) (by rfl) ?_
              refine Ls.pass (some 95) (by rfl) (by rfl) ?_
              refine Ls.pass (some 96) (by rfl) (by rfl) ?_
              refine Ls.pass (some 97) (by rfl) (by rfl) ?_
              refine Ls.pass (some 98) (by rfl) (by rfl) ?_
              refine Ls.pass (some 99) (by rfl) (by rfl) ?_
              refine Ls.pass (some 100) (by rfl) (by rfl) ?_
              refine Ls.pass (some 101) (by rfl) (by rfl) ?_
              refine Ls.pass (some 102) (by rfl) (by rfl) ?_
              refine Ls.pass (some 103) (by rfl) (by rfl) ?_
              refine Ls.ev (some 104) (Ev.pickF (show Oper.op _ = Op.pick (Operand.tmp 94) (Operand.tmp 103) (Operand.const (Value.bool false)) from rfl) (by rfl) (by rfl)) (by rfl) (by rfl) ?_
              refine Ls.ev (some 4) (Ev.assign (show Oper.op _ = Op.assign (Operand.tmp 104) from rfl) (by rfl)) (by rfl) (by rfl) ?_
              refine Ls.nil ?_
              refine Ent.pick [] (by rfl) ?_
              refine Ent.inv () ?_ ?_ ?_
              · exact trivial
              · (repeat (first | exact trivial | refine ⟨by rfl, ?_⟩ | refine ⟨by simp only [List.length_append, List.length_cons, List.length_nil]; rfl, ?_⟩ | refine ⟨by push_cast; rfl, ?_⟩ | refine ⟨by (show some (Value.bool _) = some (Value.bool _); congr 2; (first | (refine (decide_eq_false ?_).symm; simp_all; done) | (refine decide_eq_decide.2 ?_; simp_all; done))), ?_⟩))
              · rfl
            · first | have hT5 := of_decide_eq_true hT5 | have hT5 := of_not_decide_true hT5 | skip
              refine Ls.ev (some 45) (Ev.fieldAddr (k := 1) (show Oper.op _ = Op.fieldAddr 41 (Operand.tmp 5) 1 from rfl) (by rfl) (by kernel_rfl) (by rfl)) (by rfl) (by rfl) ?_
              refine Ls.ev (some 46) (Ev.load 0 (show Oper.op _ = Op.load 3 (Operand.tmp 45) from rfl) (by rfl) (by rfl) (by kernel_rfl) (by rfl)) (by rfl) (by rfl) ?_
              refine Ls.ev (some 47) (Ev.fieldAddr (k := 1) (show Oper.op _ = Op.fieldAddr 41 (Operand.tmp 6) 1 from rfl) (by rfl) (by kernel_rfl) (by rfl)) (by rfl) (by rfl) ?_
              refine Ls.ev (some 48) (Ev.load 1 (show Oper.op _ = Op.load 3 (Operand.tmp 47) from rfl) (by rfl) (by rfl) (by kernel_rfl) (by rfl)) (by rfl) (by rfl) ?_
              refine Ls.ev (some 49) (Ev.eql (show Oper.op _ = Op.binOp BinOp.eql 3 (Operand.tmp 46) (Operand.tmp 48) 3 from rfl) (by rfl) (by rfl)) (by rfl) (by rfl) ?_
              refine Ls.ev (some 50) (Ev.pickT (show Oper.op _ = Op.pick (Operand.tmp 44) (Operand.tmp 49) (Operand.const (Value.bool false)) from rfl) (by rfl) (by rfl)) (by rfl) (by rfl) ?_
              refine Ls.ev (some 51) (Ev.move (show Oper.op _ = Op.move (Operand.tmp 50) from rfl) (by rfl)) (by rfl) (by rfl) ?_
              refine Ent.split 51 (by rfl) (fun hT6 => ?_) (fun hT6 => ?_)
              · first | have hT6 := of_decide_eq_false hT6 | have hT6 := of_not_decide_false hT6 | skip
                refine Ls.pass (some 52) (by rfl) (by rfl) ?_
                refine Ls.pass (some 53) (by rfl) (by rfl) ?_
                refine Ls.pass (some 54) (by rfl) (by rfl) ?_
                refine Ls.pass (some 55) (by rfl) (by rfl) ?_
                refine Ls.pass (some 56) (by rfl) (by rfl) ?_
                refine Ls.ev (some 57) (Ev.pickF (show Oper.op _ = Op.pick (Operand.tmp 51) (Operand.tmp 56) (Operand.const (Value.bool false)) from rfl) (by rfl) (by rfl)) (by rfl) (by rfl) ?_
                refine Ls.ev (some 58) (Ev.move (show Oper.op _ = Op.move (Operand.tmp 57) from rfl) (by rfl)) (by rfl) (by rfl) ?_
                refine Ls.pass (some 59) (by rfl) (by rfl) ?_
                refine Ls.pass (some 60) (by rfl) (by rfl) ?_
                refine Ls.pass (some 61) (by rfl) (by rfl) ?_
                refine Ls.pass (some 62) (by rfl) (by rfl) ?_
                refine Ls.pass (some 63) (by rfl) (by rfl) ?_
                refine Ls.ev (some 64) (Ev.pickF (show Oper.op _ = Op.pick (Operand.tmp 58) (Operand.tmp 63) (Operand.const (Value.bool false)) from rfl) (by rfl) (by rfl)) (by rfl) (by rfl) ?_
                refine Ls.ev (some 65) (Ev.move (show Oper.op _ = Op.move (Operand.tmp 64) from rfl) (by rfl)) (by rfl) (by rfl) ?_
                refine Ls.pass (some 66) (by rfl) (by rfl) ?_
                refine Ls.pass (some 67) (by rfl) (by rfl) ?_
                refine Ls.pass (some 68) (by rfl) (by rfl) ?_
                refine Ls.pass (some 69) (by rfl) (by rfl) ?_
                refine Ls.pass (some 70) (by rfl) (by rfl) ?_
                refine Ls.pass (some 71) (by rfl) (by rfl) ?_
                refine Ls.pass (some 72) (by rfl) (by rfl) ?_
                refine Ls.ev (some 73) (Ev.pickF (show Oper.op _ = Op.pick (Operand.tmp 65) (Operand.tmp 72) (Operand.const (Value.bool false)) from rfl) (by rfl) (by rfl)) (by rfl) (by rfl) ?_
                refine Ls.ev (some 74) (Ev.move (show Oper.op _ = Op.move (Operand.tmp 73) from rfl) (by rfl)) (by rfl) (by rfl) ?_
                refine Ls.pass (some 75) (by rfl) (by rfl) ?_
                refine Ls.pass (some 76) (by rfl) (by rfl) ?_
                refine Ls.pass (some 77) (by rfl) (by rfl) ?_
                refine Ls.pass (some 78) (by rfl) (by rfl) ?_
                refine Ls.pass (some 79) (by rfl) (by rfl) ?_
                refine Ls.pass (some 80) (by rfl) (by rfl) ?_
                refine Ls.pass (some 81) (by rfl) (by rfl) ?_
                refine Ls.ev (some 82) (Ev.pickF (show Oper.op _ = Op.pick (Operand.tmp 74) (Operand.tmp 81) (Operand.const (Value.bool false)) from rfl) (by rfl) (by rfl)) (by rfl) (by rfl) ?_
                refine Ls.ev (some 83) (Ev.move (show Oper.op _ = Op.move (Operand.tmp 82) from rfl) (by rfl)) (by rfl) (by rfl) ?_
                refine Ls.pass (some 84) (by rfl) (by rfl) ?_
                refine Ls.pass (some 85) (by rfl) (by rfl) ?_
                refine Ls.pass (some 86) (by rfl) (by rfl) ?_
                refine Ls.pass (some 87) (by rfl) (by rfl) ?_
                refine Ls.pass (some 88) (by rfl) (by rfl) ?_
                refine Ls.pass (some 89) (by rfl) (by rfl) ?_
                refine Ls.pass (some 90) (by rfl) (by rfl) ?_
                refine Ls.pass (some 91) (by rfl) (by rfl) ?_
                refine Ls.pass (some 92) (by rfl) (by rfl) ?_
                refine Ls.ev (some 93) (Ev.pickF (show Oper.op _ = Op.pick (Operand.tmp 83) (Operand.tmp 92) (Operand.const (Value.bool false)) from rfl) (by rfl) (by rfl)) (by rfl) (by rfl) ?_
                refine Ls.ev (some 94) (Ev.move (show Oper.op _ = Op.move (Operand.tmp 93) from rfl) (by rfl)) (by rfl) (by rfl) ?_
                refine Ls.pass (some 95) (by rfl) (by rfl) ?_
                refine Ls.pass (some 96) (by rfl) (by rfl) ?_
                refine Ls.pass (some 97) (by rfl) (by rfl) ?_
                refine Ls.pass (some 98) (by rfl) (by rfl) ?_
                refine Ls.pass (some 99) (by rfl) (by rfl) ?_
                refine Ls.pass (some 100) (by rfl) (by rfl) ?_
                refine Ls.pass (some 101) (by rfl) (by rfl) ?_
                refine Ls.pass (some 102) (by rfl) (by rfl) ?_
                refine Ls.pass (some 103) (by rfl) (by rfl) ?_
                refine Ls.ev (some 104) (Ev.pickF (show Oper.op _ = Op.pick (Operand.tmp 94) (Operand.tmp 103) (Operand.const (Value.bool false)) from rfl) (by rfl) (by rfl)) (by rfl) (by rfl) ?_
                refine Ls.ev (some 4) (Ev.assign (show Oper.op _ = Op.assign (Operand.tmp 104) from rfl) (by rfl)) (by rfl) (by rfl) ?_
                refine Ls.nil ?_
                refine Ent.pick [] (by rfl) ?_
                refine Ent.inv () ?_ ?_ ?_
                · exact trivial
                · (repeat (first | exact trivial | refine ⟨by rfl, ?_⟩ | refine ⟨by simp only [List.length_append, List.length_cons, List.length_nil]; rfl, ?_⟩ | refine ⟨by push_cast; rfl, ?_⟩ | refine ⟨by (show some (Value.bool _) = some (Value.bool _); congr 2; (first | (refine (decide_eq_false ?_).symm; simp_all; done) | (refine decide_eq_decide.2 ?_; simp_all; done))), ?_⟩))
                · rfl
              · first | have hT6 := of_decide_eq_true hT6 | have hT6 := of_not_decide_true hT6 | skip
                refine Ls.ev (some 52) (Ev.fieldAddr (k := 2) (show Oper.op _ = Op.fieldAddr 41 (Operand.tmp 5) 2 from rfl) (by rfl) (by kernel_rfl) (by rfl)) (by rfl) (by rfl) ?_
                refine Ls.ev (some 53) (Ev.load 0 (show Oper.op _ = Op.load 3 (Operand.tmp 52) from rfl) (by rfl) (by rfl) (by kernel_rfl) (by rfl)) (by rfl) (by rfl) ?_
                refine Ls.ev (some 54) (Ev.fieldAddr (k := 2) (show Oper.op _ = Op.fieldAddr 41 (Operand.tmp 6) 2 from rfl) (by rfl) (by kernel_rfl) (by rfl)) (by rfl) (by rfl) ?_
                refine Ls.ev (some 55) (Ev.load 1 (show Oper.op _ = Op.load 3 (Operand.tmp 54) from rfl) (by rfl) (by rfl) (by kernel_rfl) (by rfl)) (by rfl) (by rfl) ?_
                refine Ls.ev (some 56) (Ev.eql (show Oper.op _ = Op.binOp BinOp.eql 3 (Operand.tmp 53) (Operand.tmp 55) 3 from rfl) (by rfl) (by rfl)) (by rfl) (by rfl) ?_
                refine Ls.ev (some 57) (Ev.pickT (show Oper.op _ = Op.pick (Operand.tmp 51) (Operand.tmp 56) (Operand.const (Value.bool false)) from rfl) (by rfl) (by rfl)) (by rfl) (by rfl) ?_
                refine Ls.ev (some 58) (Ev.move (show Oper.op _ = Op.move (Operand.tmp 57) from rfl) (by rfl)) (by rfl) (by rfl) ?_
                refine Ent.split 58 (by rfl) (fun hT7 => ?_) (fun hT7 => ?_)
                · first | have hT7 := of_decide_eq_false hT7 | have hT7 := of_not_decide_false hT7 | skip
                  refine Ls.pass (some 59) (by rfl) (by rfl) ?_
                  refine Ls.pass (some 60) (by rfl) (by rfl) ?_
                  refine Ls.pass (some 61) (by rfl) (by rfl) ?_
                  refine Ls.pass (some 62) (by rfl) (by rfl) ?_
                  refine Ls.pass (some 63) (by rfl) (by rfl) ?_
                  refine Ls.ev (some 64) (Ev.pickF (show Oper.op _ = Op.pick (Operand.tmp 58) (Operand.tmp 63) (Operand.const (Value.bool false)) from rfl) (by rfl) (by rfl)) (by rfl) (by rfl) ?_
                  refine Ls.ev (some 65) (Ev.move (show Oper.op _ = Op.move (Operand.tmp 64) from rfl) (by rfl)) (by rfl) (by rfl) ?_
                  refine Ls.pass (some 66) (by rfl) (by rfl) ?_
                  refine Ls.pass (some 67) (by rfl) (by rfl) ?_
                  refine Ls.pass (some 68) (by rfl) (by rfl) ?_
                  refine Ls.pass (some 69) (by rfl) (by rfl) ?_
                  refine Ls.pass (some 70) (by rfl) (by rfl) ?_
                  refine Ls.pass (some 71) (by rfl) (by rfl) ?_
                  refine Ls.pass (some 72) (by rfl) (by rfl) ?_
                  refine Ls.ev (some 73) (Ev.pickF (show Oper.op _ = Op.pick (Operand.tmp 65) (Operand.tmp 72) (Operand.const (Value.bool false)) from rfl) (by rfl) (by rfl)) (by rfl) (by rfl) ?_
                  refine Ls.ev (some 74) (Ev.move (show Oper.op _ = Op.move (Operand.tmp 73) from rfl) (by rfl)) (by rfl) (by rfl) ?_
                  refine Ls.pass (some 75) (by rfl) (by rfl) ?_
                  refine Ls.pass (some 76) (by rfl) (by rfl) ?_
                  refine Ls.pass (some 77) (by rfl) (by rfl) ?_
                  refine Ls.pass (some 78) (by rfl) (by rfl) ?_
                  refine Ls.pass (some 79) (by rfl) (by rfl) ?_
                  refine Ls.pass (some 80) (by rfl) (by rfl) ?_
                  refine Ls.pass (some 81) (by rfl) (by rfl) ?_
                  refine Ls.ev (some 82) (Ev.pickF (show Oper.op _ = Op.pick (Operand.tmp 74) (Operand.tmp 81) (Operand.const (Value.bool false)) from rfl) (by rfl) (by rfl)) (by rfl) (by rfl) ?_
                  refine Ls.ev (some 83) (Ev.move (show Oper.op _ = Op.move (Operand.tmp 82) from rfl) (by rfl)) (by rfl) (by rfl) ?_
                  refine Ls.pass (some 84) (by rfl) (by rfl) ?_
                  refine Ls.pass (some 85) (by rfl) (by rfl) ?_
                  refine Ls.pass (some 86) (by rfl) (by rfl) ?_
                  refine Ls.pass (some 87) (by rfl) (by rfl) ?_
                  refine Ls.pass (some 88) (by rfl) (by rfl) ?_
                  refine Ls.pass (some 89) (by rfl) (by rfl) ?_
                  refine Ls.pass (some 90) (by rfl) (by rfl) ?_
                  refine Ls.pass (some 91) (by rfl) (by rfl) ?_
                  refine Ls.pass (some 92) (by rfl) (by rfl) ?_
                  refine Ls.ev (some 93) (Ev.pickF (show Oper.op _ = Op.pick (Operand.tmp 83) (Operand.tmp 92) (Operand.const (Value.bool false)) from rfl) (by rfl) (by rfl)) (by rfl) (by rfl) ?_
                  refine Ls.ev (some 94) (Ev.move (show Oper.op _ = Op.move (Operand.tmp 93) from rfl) (by rfl)) (by rfl) (by rfl) ?_
                  refine Ls.pass (some 95) (by rfl) (by rfl) ?_
                  refine Ls.pass (some 96) (by rfl) (by rfl) ?_
                  refine Ls.pass (some 97) (by rfl) (by rfl) ?_
                  refine Ls.pass (some 98) (by rfl) (by rfl) ?_
                  refine Ls.pass (some 99) (by rfl) (by rfl) ?_
                  refine Ls.pass (some 100) (by rfl) (by rfl) ?_
                  refine Ls.pass (some 101) (by rfl) (by rfl) ?_
                  refine Ls.pass (some 102) (by rfl) (by rfl) ?_
                  refine Ls.pass (some 103) (by rfl) (by rfl) ?_
                  refine Ls.ev (some 104) (Ev.pickF (show Oper.op _ = Op.pick (Operand.tmp 94) (Operand.tmp 103) (Operand.const (Value.bool false)) from rfl) (by rfl) (by rfl)) (by rfl) (by rfl) ?_
                  refine Ls.ev (some 4) (Ev.assign (show Oper.op _ = Op.assign (Operand.tmp 104) from rfl) (by rfl)) (by rfl) (by rfl) ?_
                  refine Ls.nil ?_
                  refine Ent.pick [] (by rfl) ?_
                  refine Ent.inv () ?_ ?_ ?_
                  · exact trivial
                  · (repeat (first | exact trivial | refine ⟨by rfl, ?_⟩ | refine ⟨by simp only [List.length_append, List.length_cons, List.length_nil]; rfl, ?_⟩ | refine ⟨by push_cast; rfl, ?_⟩ | refine ⟨by (show some (Value.bool _) = some (Value.bool _); congr 2; (first | (refine (decide_eq_false ?_).symm; simp_all; done) | (refine decide_eq_decide.2 ?_; simp_all; done))), ?_⟩))
                  · rfl
                · first | have hT7 := of_decide_eq_true hT7 | have hT7 := of_not_decide_true hT7 | skip
                  refine Ls.ev (some 59) (Ev.fieldAddr (k := 7) (show Oper.op _ = Op.fieldAddr 41 (Operand.tmp 5) 4 from rfl) (by rfl) (by kernel_rfl) (by rfl)) (by rfl) (by rfl) ?_
                  refine Ls.ev (some 60) (Ev.load 0 (show Oper.op _ = Op.load 29 (Operand.tmp 59) from rfl) (by rfl) (by rfl) (by kernel_rfl) (by rfl)) (by rfl) (by rfl) ?_
                  refine Ls.ev (some 61) (Ev.fieldAddr (k := 7) (show Oper.op _ = Op.fieldAddr 41 (Operand.tmp 6) 4 from rfl) (by rfl) (by kernel_rfl) (by rfl)) (by rfl) (by rfl) ?_
                  refine Ls.ev (some 62) (Ev.load 1 (show Oper.op _ = Op.load 29 (Operand.tmp 61) from rfl) (by rfl) (by rfl) (by kernel_rfl) (by rfl)) (by rfl) (by rfl) ?_
                  refine Ls.does (some 63) (Does.read (show Oper.op _ = Op.call { callee := Callee.value (Operand.func 49), args := #[Operand.tmp 60, Operand.tmp 62], argTypes := #[29, 29] } from rfl) Tryz.func49 (by kernel_rfl) (by kernel_rfl) (hk) (by rfl) (by rfl) ⟨ReadsIn.rd 5 (by rfl), ReadsIn.rd 7 (by rfl), trivial⟩) (by rfl) (by rfl) ?_
                  rintro _ -
                  refine Ls.ev (some 64) (Ev.pickT (show Oper.op _ = Op.pick (Operand.tmp 58) (Operand.tmp 63) (Operand.const (Value.bool false)) from rfl) (by rfl) (by rfl)) (by rfl) (by rfl) ?_
                  refine Ls.ev (some 65) (Ev.move (show Oper.op _ = Op.move (Operand.tmp 64) from rfl) (by rfl)) (by rfl) (by rfl) ?_
                  refine Ent.split 65 (by rfl) (fun hT8 => ?_) (fun hT8 => ?_)
                  · first | have hT8 := of_decide_eq_false hT8 | have hT8 := of_not_decide_false hT8 | skip
                    refine Ls.pass (some 66) (by rfl) (by rfl) ?_
                    refine Ls.pass (some 67) (by rfl) (by rfl) ?_
                    refine Ls.pass (some 68) (by rfl) (by rfl) ?_
                    refine Ls.pass (some 69) (by rfl) (by rfl) ?_
                    refine Ls.pass (some 70) (by rfl) (by rfl) ?_
                    refine Ls.pass (some 71) (by rfl) (by rfl) ?_
                    refine Ls.pass (some 72) (by rfl) (by rfl) ?_
                    refine Ls.ev (some 73) (Ev.pickF (show Oper.op _ = Op.pick (Operand.tmp 65) (Operand.tmp 72) (Operand.const (Value.bool false)) from rfl) (by rfl) (by rfl)) (by rfl) (by rfl) ?_
                    refine Ls.ev (some 74) (Ev.move (show Oper.op _ = Op.move (Operand.tmp 73) from rfl) (by rfl)) (by rfl) (by rfl) ?_
                    refine Ls.pass (some 75) (by rfl) (by rfl) ?_
                    refine Ls.pass (some 76) (by rfl) (by rfl) ?_
                    refine Ls.pass (some 77) (by rfl) (by rfl) ?_
                    refine Ls.pass (some 78) (by rfl) (by rfl) ?_
                    refine Ls.pass (some 79) (by rfl) (by rfl) ?_
                    refine Ls.pass (some 80) (by rfl) (by rfl) ?_
                    refine Ls.pass (some 81) (by rfl) (by rfl) ?_
                    refine Ls.ev (some 82) (Ev.pickF (show Oper.op _ = Op.pick (Operand.tmp 74) (Operand.tmp 81) (Operand.const (Value.bool false)) from rfl) (by rfl) (by rfl)) (by rfl) (by rfl) ?_
                    refine Ls.ev (some 83) (Ev.move (show Oper.op _ = Op.move (Operand.tmp 82) from rfl) (by rfl)) (by rfl) (by rfl) ?_
                    refine Ls.pass (some 84) (by rfl) (by rfl) ?_
                    refine Ls.pass (some 85) (by rfl) (by rfl) ?_
                    refine Ls.pass (some 86) (by rfl) (by rfl) ?_
                    refine Ls.pass (some 87) (by rfl) (by rfl) ?_
                    refine Ls.pass (some 88) (by rfl) (by rfl) ?_
                    refine Ls.pass (some 89) (by rfl) (by rfl) ?_
                    refine Ls.pass (some 90) (by rfl) (by rfl) ?_
                    refine Ls.pass (some 91) (by rfl) (by rfl) ?_
                    refine Ls.pass (some 92) (by rfl) (by rfl) ?_
                    refine Ls.ev (some 93) (Ev.pickF (show Oper.op _ = Op.pick (Operand.tmp 83) (Operand.tmp 92) (Operand.const (Value.bool false)) from rfl) (by rfl) (by rfl)) (by rfl) (by rfl) ?_
                    refine Ls.ev (some 94) (Ev.move (show Oper.op _ = Op.move (Operand.tmp 93) from rfl) (by rfl)) (by rfl) (by rfl) ?_
                    refine Ls.pass (some 95) (by rfl) (by rfl) ?_
                    refine Ls.pass (some 96) (by rfl) (by rfl) ?_
                    refine Ls.pass (some 97) (by rfl) (by rfl) ?_
                    refine Ls.pass (some 98) (by rfl) (by rfl) ?_
                    refine Ls.pass (some 99) (by rfl) (by rfl) ?_
                    refine Ls.pass (some 100) (by rfl) (by rfl) ?_
                    refine Ls.pass (some 101) (by rfl) (by rfl) ?_
                    refine Ls.pass (some 102) (by rfl) (by rfl) ?_
                    refine Ls.pass (some 103) (by rfl) (by rfl) ?_
                    refine Ls.ev (some 104) (Ev.pickF (show Oper.op _ = Op.pick (Operand.tmp 94) (Operand.tmp 103) (Operand.const (Value.bool false)) from rfl) (by rfl) (by rfl)) (by rfl) (by rfl) ?_
                    refine Ls.ev (some 4) (Ev.assign (show Oper.op _ = Op.assign (Operand.tmp 104) from rfl) (by rfl)) (by rfl) (by rfl) ?_
                    refine Ls.nil ?_
                    refine Ent.pick [] (by rfl) ?_
                    refine Ent.inv () ?_ ?_ ?_
                    · exact trivial
                    · (repeat (first | exact trivial | refine ⟨by rfl, ?_⟩ | refine ⟨by simp only [List.length_append, List.length_cons, List.length_nil]; rfl, ?_⟩ | refine ⟨by push_cast; rfl, ?_⟩ | refine ⟨by (show some (Value.bool _) = some (Value.bool _); congr 2; (first | (refine (decide_eq_false ?_).symm; simp_all; done) | (refine decide_eq_decide.2 ?_; simp_all; done))), ?_⟩))
                    · rfl
                  · first | have hT8 := of_decide_eq_true hT8 | have hT8 := of_not_decide_true hT8 | skip
                    refine Ls.ev (some 66) (Ev.fieldAddr (k := 3) (show Oper.op _ = Op.fieldAddr 41 (Operand.tmp 5) 3 from rfl) (by rfl) (by kernel_rfl) (by rfl)) (by rfl) (by rfl) ?_
                    refine Ls.ev (some 67) (Ev.fieldAddr (k := 0) (show Oper.op _ = Op.fieldAddr 39 (Operand.tmp 66) 0 from rfl) (by rfl) (by kernel_rfl) (by rfl)) (by rfl) (by rfl) ?_
                    refine Ls.ev (some 68) (Ev.load 0 (show Oper.op _ = Op.load 35 (Operand.tmp 67) from rfl) (by rfl) (by rfl) (by kernel_rfl) (by rfl)) (by rfl) (by rfl) ?_
                    refine Ls.ev (some 69) (Ev.fieldAddr (k := 3) (show Oper.op _ = Op.fieldAddr 41 (Operand.tmp 6) 3 from rfl) (by rfl) (by kernel_rfl) (by rfl)) (by rfl) (by rfl) ?_
                    refine Ls.ev (some 70) (Ev.fieldAddr (k := 0) (show Oper.op _ = Op.fieldAddr 39 (Operand.tmp 69) 0 from rfl) (by rfl) (by kernel_rfl) (by rfl)) (by rfl) (by rfl) ?_
                    refine Ls.ev (some 71) (Ev.load 1 (show Oper.op _ = Op.load 35 (Operand.tmp 70) from rfl) (by rfl) (by rfl) (by kernel_rfl) (by rfl)) (by rfl) (by rfl) ?_
                    refine Ls.ev (some 72) (Ev.eql (show Oper.op _ = Op.binOp BinOp.eql 35 (Operand.tmp 68) (Operand.tmp 71) 35 from rfl) (by rfl) (by rfl)) (by rfl) (by rfl) ?_
                    refine Ls.ev (some 73) (Ev.pickT (show Oper.op _ = Op.pick (Operand.tmp 65) (Operand.tmp 72) (Operand.const (Value.bool false)) from rfl) (by rfl) (by rfl)) (by rfl) (by rfl) ?_
                    refine Ls.ev (some 74) (Ev.move (show Oper.op _ = Op.move (Operand.tmp 73) from rfl) (by rfl)) (by rfl) (by rfl) ?_
                    refine Ent.split 74 (by rfl) (fun hT9 => ?_) (fun hT9 => ?_)
                    · first | have hT9 := of_decide_eq_false hT9 | have hT9 := of_not_decide_false hT9 | skip
                      refine Ls.pass (some 75) (by rfl) (by rfl) ?_
                      refine Ls.pass (some 76) (by rfl) (by rfl) ?_
                      refine Ls.pass (some 77) (by rfl) (by rfl) ?_
                      refine Ls.pass (some 78) (by rfl) (by rfl) ?_
                      refine Ls.pass (some 79) (by rfl) (by rfl) ?_
                      refine Ls.pass (some 80) (by rfl) (by rfl) ?_
                      refine Ls.pass (some 81) (by rfl) (by rfl) ?_
                      refine Ls.ev (some 82) (Ev.pickF (show Oper.op _ = Op.pick (Operand.tmp 74) (Operand.tmp 81) (Operand.const (Value.bool false)) from rfl) (by rfl) (by rfl)) (by rfl) (by rfl) ?_
                      refine Ls.ev (some 83) (Ev.move (show Oper.op _ = Op.move (Operand.tmp 82) from rfl) (by rfl)) (by rfl) (by rfl) ?_
                      refine Ls.pass (some 84) (by rfl) (by rfl) ?_
                      refine Ls.pass (some 85) (by rfl) (by rfl) ?_
                      refine Ls.pass (some 86) (by rfl) (by rfl) ?_
                      refine Ls.pass (some 87) (by rfl) (by rfl) ?_
                      refine Ls.pass (some 88) (by rfl) (by rfl) ?_
                      refine Ls.pass (some 89) (by rfl) (by rfl) ?_
                      refine Ls.pass (some 90) (by rfl) (by rfl) ?_
                      refine Ls.pass (some 91) (by rfl) (by rfl) ?_
                      refine Ls.pass (some 92) (by rfl) (by rfl) ?_
                      refine Ls.ev (some 93) (Ev.pickF (show Oper.op _ = Op.pick (Operand.tmp 83) (Operand.tmp 92) (Operand.const (Value.bool false)) from rfl) (by rfl) (by rfl)) (by rfl) (by rfl) ?_
                      refine Ls.ev (some 94) (Ev.move (show Oper.op _ = Op.move (Operand.tmp 93) from rfl) (by rfl)) (by rfl) (by rfl) ?_
                      refine Ls.pass (some 95) (by rfl) (by rfl) ?_
                      refine Ls.pass (some 96) (by rfl) (by rfl) ?_
                      refine Ls.pass (some 97) (by rfl) (by rfl) ?_
                      refine Ls.pass (some 98) (by rfl) (by rfl) ?_
                      refine Ls.pass (some 99) (by rfl) (by rfl) ?_
                      refine Ls.pass (some 100) (by rfl) (by rfl) ?_
                      refine Ls.pass (some 101) (by rfl) (by rfl) ?_
                      refine Ls.pass (some 102) (by rfl) (by rfl) ?_
                      refine Ls.pass (some 103) (by rfl) (by rfl) ?_
                      refine Ls.ev (some 104) (Ev.pickF (show Oper.op _ = Op.pick (Operand.tmp 94) (Operand.tmp 103) (Operand.const (Value.bool false)) from rfl) (by rfl) (by rfl)) (by rfl) (by rfl) ?_
                      refine Ls.ev (some 4) (Ev.assign (show Oper.op _ = Op.assign (Operand.tmp 104) from rfl) (by rfl)) (by rfl) (by rfl) ?_
                      refine Ls.nil ?_
                      refine Ent.pick [] (by rfl) ?_
                      refine Ent.inv () ?_ ?_ ?_
                      · exact trivial
                      · (repeat (first | exact trivial | refine ⟨by rfl, ?_⟩ | refine ⟨by simp only [List.length_append, List.length_cons, List.length_nil]; rfl, ?_⟩ | refine ⟨by push_cast; rfl, ?_⟩ | refine ⟨by (show some (Value.bool _) = some (Value.bool _); congr 2; (first | (refine (decide_eq_false ?_).symm; simp_all; done) | (refine decide_eq_decide.2 ?_; simp_all; done))), ?_⟩))
                      · rfl
                    · first | have hT9 := of_decide_eq_true hT9 | have hT9 := of_not_decide_true hT9 | skip
                      refine Ls.ev (some 75) (Ev.fieldAddr (k := 3) (show Oper.op _ = Op.fieldAddr 41 (Operand.tmp 5) 3 from rfl) (by rfl) (by kernel_rfl) (by rfl)) (by rfl) (by rfl) ?_
                      refine Ls.ev (some 76) (Ev.fieldAddr (k := 1) (show Oper.op _ = Op.fieldAddr 39 (Operand.tmp 75) 1 from rfl) (by rfl) (by kernel_rfl) (by rfl)) (by rfl) (by rfl) ?_
                      refine Ls.ev (some 77) (Ev.load 0 (show Oper.op _ = Op.load 3 (Operand.tmp 76) from rfl) (by rfl) (by rfl) (by kernel_rfl) (by rfl)) (by rfl) (by rfl) ?_
                      refine Ls.ev (some 78) (Ev.fieldAddr (k := 3) (show Oper.op _ = Op.fieldAddr 41 (Operand.tmp 6) 3 from rfl) (by rfl) (by kernel_rfl) (by rfl)) (by rfl) (by rfl) ?_
                      refine Ls.ev (some 79) (Ev.fieldAddr (k := 1) (show Oper.op _ = Op.fieldAddr 39 (Operand.tmp 78) 1 from rfl) (by rfl) (by kernel_rfl) (by rfl)) (by rfl) (by rfl) ?_
                      refine Ls.ev (some 80) (Ev.load 1 (show Oper.op _ = Op.load 3 (Operand.tmp 79) from rfl) (by rfl) (by rfl) (by kernel_rfl) (by rfl)) (by rfl) (by rfl) ?_
                      refine Ls.ev (some 81) (Ev.eql (show Oper.op _ = Op.binOp BinOp.eql 3 (Operand.tmp 77) (Operand.tmp 80) 3 from rfl) (by rfl) (by rfl)) (by rfl) (by rfl) ?_
                      refine Ls.ev (some 82) (Ev.pickT (show Oper.op _ = Op.pick (Operand.tmp 74) (Operand.tmp 81) (Operand.const (Value.bool false)) from rfl) (by rfl) (by rfl)) (by rfl) (by rfl) ?_
                      refine Ls.ev (some 83) (Ev.move (show Oper.op _ = Op.move (Operand.tmp 82) from rfl) (by rfl)) (by rfl) (by rfl) ?_
                      refine Ent.split 83 (by rfl) (fun hT10 => ?_) (fun hT10 => ?_)
                      · first | have hT10 := of_decide_eq_false hT10 | have hT10 := of_not_decide_false hT10 | skip
                        refine Ls.pass (some 84) (by rfl) (by rfl) ?_
                        refine Ls.pass (some 85) (by rfl) (by rfl) ?_
                        refine Ls.pass (some 86) (by rfl) (by rfl) ?_
                        refine Ls.pass (some 87) (by rfl) (by rfl) ?_
                        refine Ls.pass (some 88) (by rfl) (by rfl) ?_
                        refine Ls.pass (some 89) (by rfl) (by rfl) ?_
                        refine Ls.pass (some 90) (by rfl) (by rfl) ?_
                        refine Ls.pass (some 91) (by rfl) (by rfl) ?_
                        refine Ls.pass (some 92) (by rfl) (by rfl) ?_
                        refine Ls.ev (some 93) (Ev.pickF (show Oper.op _ = Op.pick (Operand.tmp 83) (Operand.tmp 92) (Operand.const (Value.bool false)) from rfl) (by rfl) (by rfl)) (by rfl) (by rfl) ?_
                        refine Ls.ev (some 94) (Ev.move (show Oper.op _ = Op.move (Operand.tmp 93) from rfl) (by rfl)) (by rfl) (by rfl) ?_
                        refine Ls.pass (some 95) (by rfl) (by rfl) ?_
                        refine Ls.pass (some 96) (by rfl) (by rfl) ?_
                        refine Ls.pass (some 97) (by rfl) (by rfl) ?_
                        refine Ls.pass (some 98) (by rfl) (by rfl) ?_
                        refine Ls.pass (some 99) (by rfl) (by rfl) ?_
                        refine Ls.pass (some 100) (by rfl) (by rfl) ?_
                        refine Ls.pass (some 101) (by rfl) (by rfl) ?_
                        refine Ls.pass (some 102) (by rfl) (by rfl) ?_
                        refine Ls.pass (some 103) (by rfl) (by rfl) ?_
                        refine Ls.ev (some 104) (Ev.pickF (show Oper.op _ = Op.pick (Operand.tmp 94) (Operand.tmp 103) (Operand.const (Value.bool false)) from rfl) (by rfl) (by rfl)) (by rfl) (by rfl) ?_
                        refine Ls.ev (some 4) (Ev.assign (show Oper.op _ = Op.assign (Operand.tmp 104) from rfl) (by rfl)) (by rfl) (by rfl) ?_
                        refine Ls.nil ?_
                        refine Ent.pick [] (by rfl) ?_
                        refine Ent.inv () ?_ ?_ ?_
                        · exact trivial
                        · (repeat (first | exact trivial | refine ⟨by rfl, ?_⟩ | refine ⟨by simp only [List.length_append, List.length_cons, List.length_nil]; rfl, ?_⟩ | refine ⟨by push_cast; rfl, ?_⟩ | refine ⟨by (show some (Value.bool _) = some (Value.bool _); congr 2; (first | (refine (decide_eq_false ?_).symm; simp_all; done) | (refine decide_eq_decide.2 ?_; simp_all; done))), ?_⟩))
                        · rfl
                      · first | have hT10 := of_decide_eq_true hT10 | have hT10 := of_not_decide_true hT10 | skip
                        refine Ls.ev (some 84) (Ev.fieldAddr (k := 3) (show Oper.op _ = Op.fieldAddr 41 (Operand.tmp 5) 3 from rfl) (by rfl) (by kernel_rfl) (by rfl)) (by rfl) (by rfl) ?_
                        refine Ls.ev (some 85) (Ev.fieldAddr (k := 2) (show Oper.op _ = Op.fieldAddr 39 (Operand.tmp 84) 2 from rfl) (by rfl) (by kernel_rfl) (by rfl)) (by rfl) (by rfl) ?_
                        refine Ls.ev (some 86) (Ev.fieldAddr (k := 0) (show Oper.op _ = Op.fieldAddr 37 (Operand.tmp 85) 0 from rfl) (by rfl) (by kernel_rfl) (by rfl)) (by rfl) (by rfl) ?_
                        refine Ls.ev (some 87) (Ev.load 0 (show Oper.op _ = Op.load 3 (Operand.tmp 86) from rfl) (by rfl) (by rfl) (by kernel_rfl) (by rfl)) (by rfl) (by rfl) ?_
                        refine Ls.ev (some 88) (Ev.fieldAddr (k := 3) (show Oper.op _ = Op.fieldAddr 41 (Operand.tmp 6) 3 from rfl) (by rfl) (by kernel_rfl) (by rfl)) (by rfl) (by rfl) ?_
                        refine Ls.ev (some 89) (Ev.fieldAddr (k := 2) (show Oper.op _ = Op.fieldAddr 39 (Operand.tmp 88) 2 from rfl) (by rfl) (by kernel_rfl) (by rfl)) (by rfl) (by rfl) ?_
                        refine Ls.ev (some 90) (Ev.fieldAddr (k := 0) (show Oper.op _ = Op.fieldAddr 37 (Operand.tmp 89) 0 from rfl) (by rfl) (by kernel_rfl) (by rfl)) (by rfl) (by rfl) ?_
                        refine Ls.ev (some 91) (Ev.load 1 (show Oper.op _ = Op.load 3 (Operand.tmp 90) from rfl) (by rfl) (by rfl) (by kernel_rfl) (by rfl)) (by rfl) (by rfl) ?_
                        refine Ls.ev (some 92) (Ev.eql (show Oper.op _ = Op.binOp BinOp.eql 3 (Operand.tmp 87) (Operand.tmp 91) 3 from rfl) (by rfl) (by rfl)) (by rfl) (by rfl) ?_
                        refine Ls.ev (some 93) (Ev.pickT (show Oper.op _ = Op.pick (Operand.tmp 83) (Operand.tmp 92) (Operand.const (Value.bool false)) from rfl) (by rfl) (by rfl)) (by rfl) (by rfl) ?_
                        refine Ls.ev (some 94) (Ev.move (show Oper.op _ = Op.move (Operand.tmp 93) from rfl) (by rfl)) (by rfl) (by rfl) ?_
                        refine Ent.split 94 (by rfl) (fun hT11 => ?_) (fun hT11 => ?_)
                        · first | have hT11 := of_decide_eq_false hT11 | have hT11 := of_not_decide_false hT11 | skip
                          refine Ls.pass (some 95) (by rfl) (by rfl) ?_
                          refine Ls.pass (some 96) (by rfl) (by rfl) ?_
                          refine Ls.pass (some 97) (by rfl) (by rfl) ?_
                          refine Ls.pass (some 98) (by rfl) (by rfl) ?_
                          refine Ls.pass (some 99) (by rfl) (by rfl) ?_
                          refine Ls.pass (some 100) (by rfl) (by rfl) ?_
                          refine Ls.pass (some 101) (by rfl) (by rfl) ?_
                          refine Ls.pass (some 102) (by rfl) (by rfl) ?_
                          refine Ls.pass (some 103) (by rfl) (by rfl) ?_
                          refine Ls.ev (some 104) (Ev.pickF (show Oper.op _ = Op.pick (Operand.tmp 94) (Operand.tmp 103) (Operand.const (Value.bool false)) from rfl) (by rfl) (by rfl)) (by rfl) (by rfl) ?_
                          refine Ls.ev (some 4) (Ev.assign (show Oper.op _ = Op.assign (Operand.tmp 104) from rfl) (by rfl)) (by rfl) (by rfl) ?_
                          refine Ls.nil ?_
                          refine Ent.pick [] (by rfl) ?_
                          refine Ent.inv () ?_ ?_ ?_
                          · exact trivial
                          · (repeat (first | exact trivial | refine ⟨by rfl, ?_⟩ | refine ⟨by simp only [List.length_append, List.length_cons, List.length_nil]; rfl, ?_⟩ | refine ⟨by push_cast; rfl, ?_⟩ | refine ⟨by (show some (Value.bool _) = some (Value.bool _); congr 2; (first | (refine (decide_eq_false ?_).symm; simp_all; done) | (refine decide_eq_decide.2 ?_; simp_all; done))), ?_⟩))
                          · rfl
                        · first | have hT11 := of_decide_eq_true hT11 | have hT11 := of_not_decide_true hT11 | skip
                          refine Ls.ev (some 95) (Ev.fieldAddr (k := 3) (show Oper.op _ = Op.fieldAddr 41 (Operand.tmp 5) 3 from rfl) (by rfl) (by kernel_rfl) (by rfl)) (by rfl) (by rfl) ?_
                          refine Ls.ev (some 96) (Ev.fieldAddr (k := 2) (show Oper.op _ = Op.fieldAddr 39 (Operand.tmp 95) 2 from rfl) (by rfl) (by kernel_rfl) (by rfl)) (by rfl) (by rfl) ?_
                          refine Ls.ev (some 97) (Ev.fieldAddr (k := 1) (show Oper.op _ = Op.fieldAddr 37 (Operand.tmp 96) 1 from rfl) (by rfl) (by kernel_rfl) (by rfl)) (by rfl) (by rfl) ?_
                          refine Ls.ev (some 98) (Ev.load 0 (show Oper.op _ = Op.load 29 (Operand.tmp 97) from rfl) (by rfl) (by rfl) (by kernel_rfl) (by rfl)) (by rfl) (by rfl) ?_
                          refine Ls.ev (some 99) (Ev.fieldAddr (k := 3) (show Oper.op _ = Op.fieldAddr 41 (Operand.tmp 6) 3 from rfl) (by rfl) (by kernel_rfl) (by rfl)) (by rfl) (by rfl) ?_
                          refine Ls.ev (some 100) (Ev.fieldAddr (k := 2) (show Oper.op _ = Op.fieldAddr 39 (Operand.tmp 99) 2 from rfl) (by rfl) (by kernel_rfl) (by rfl)) (by rfl) (by rfl) ?_
                          refine Ls.ev (some 101) (Ev.fieldAddr (k := 1) (show Oper.op _ = Op.fieldAddr 37 (Operand.tmp 100) 1 from rfl) (by rfl) (by kernel_rfl) (by rfl)) (by rfl) (by rfl) ?_
                          refine Ls.ev (some 102) (Ev.load 1 (show Oper.op _ = Op.load 29 (Operand.tmp 101) from rfl) (by rfl) (by rfl) (by kernel_rfl) (by rfl)) (by rfl) (by rfl) ?_
                          refine Ls.does (some 103) (Does.read (show Oper.op _ = Op.call { callee := Callee.value (Operand.func 49), args := #[Operand.tmp 98, Operand.tmp 102], argTypes := #[29, 29] } from rfl) Tryz.func49 (by kernel_rfl) (by kernel_rfl) (hc) (by rfl) (by rfl) ⟨ReadsIn.rd 4 (by rfl), ReadsIn.rd 6 (by rfl), trivial⟩) (by rfl) (by rfl) ?_
                          rintro _ -
                          refine Ls.ev (some 104) (Ev.pickT (show Oper.op _ = Op.pick (Operand.tmp 94) (Operand.tmp 103) (Operand.const (Value.bool false)) from rfl) (by rfl) (by rfl)) (by rfl) (by rfl) ?_
                          refine Ls.ev (some 4) (Ev.assign (show Oper.op _ = Op.assign (Operand.tmp 104) from rfl) (by rfl)) (by rfl) (by rfl) ?_
                          refine Ls.nil ?_
                          refine Ent.pick [] (by rfl) ?_
                          refine Ent.inv () ?_ ?_ ?_
                          · exact trivial
                          · (repeat (first | exact trivial | refine ⟨by rfl, ?_⟩ | refine ⟨by simp only [List.length_append, List.length_cons, List.length_nil]; rfl, ?_⟩ | refine ⟨by push_cast; rfl, ?_⟩ | refine ⟨by (show some (Value.bool _) = some (Value.bool _); congr 2; (first | (refine (decide_eq_false ?_).symm; simp_all; done) | (refine decide_eq_decide.2 ?_; simp_all; done))), ?_⟩))
                          · rfl
  skip
  rintro _ -
  skip
  refine Cd.ret ?_
  refine Ent.ret (()) (trivial) (Res.tmp (by rfl) (by rfl)) ?_ [] (by rfl) ?_
  · rfl
  · rfl
theorem take_min (t : List UInt8) (n : Nat) : t.take (min n t.length) = t.take n := by
  rcases Nat.le_total n t.length with h | h
  · rw [Nat.min_eq_left h]
  · rw [Nat.min_eq_right h, List.take_length, List.take_of_length_le h]
theorem cut_sl (t : List UInt8) (ht : t.length ≤ 4611686018427387904) : Fn Tryz.prog 6 #[.string (txt t)] [] Unit (fun _ => .string (txt (t.take 3000))) (fun _ => []) (fun _ => True) := by
  have hts : (txt t).size = t.length := rfl
  refine Fn.enter Tryz.func6 rfl Tryz.ntmps6 (by rfl) ?_
  intro w0
  refine Cd.seq ?_
  refine Cd.region ?_
  refine Ls.ev (some 2) (Ev.assign (show Oper.op _ = Op.assign (Operand.const (Value.string { data := #[] })) from rfl) (by rfl)) (by rfl) (by rfl) ?_
  refine Ls.nil ?_
  refine Cd.seq ?_
  refine Cd.region ?_
  refine Ls.ev (some 3) (Ev.move (show Oper.op _ = Op.move (Operand.tmp 0) from rfl) (by rfl)) (by rfl) (by rfl) ?_
  refine Ls.ev (some 4) (Ev.move (show Oper.op _ = Op.move (Operand.tmp 0) from rfl) (by rfl)) (by rfl) (by rfl) ?_
  refine Ls.ev (some 5) (Ev.lenS (show Oper.op _ = Op.call { callee := Callee.builtin Builtin.len, args := #[Operand.tmp 4], argTypes := #[9] } from rfl) (by rfl) Tryz.underlying9) (by rfl) (by rfl) ?_
  refine Ls.ev (some 6) (Ev.to (Ev.min (show Oper.op _ = Op.call { callee := Callee.builtin Builtin.min, args := #[Operand.tmp 5, Operand.const (Value.int IntKind.i64 3000)], argTypes := #[3, 3] } from rfl) (by rfl) (by rfl)) (show Value.int .i64 (if (3000 : Int) < (txt t).size then 3000 else (txt t).size) = Value.int .i64 ((min 3000 t.length : Nat) : Int) by rw [hts]; congr 1; split <;> omega)) (by rfl) (by rfl) ?_
  refine Ls.ev (some 7) (Ev.sliceHT (show Oper.op _ = Op.slice 9 (Operand.tmp 3) none (some (Operand.tmp 6)) none from rfl) (by rfl) (by rfl) Tryz.underlying9 (Nat.min_le_right _ _)) (by rfl) (by rfl) ?_
  refine Ls.ev (some 2) (Ev.assign (show Oper.op _ = Op.assign (Operand.tmp 7) from rfl) (by rfl)) (by rfl) (by rfl) ?_
  refine Ls.nil ?_
  refine Cd.ret ?_
  refine Ent.ret (()) (trivial) (Res.tmp (by rfl) (by rfl)) ?_ [] (by rfl) ?_
  · rw [take_min]
  · rfl
theorem ref_sl (z : StS) : Fn Tryz.prog 10 #[.agg z.enc.toArray] [] Unit (fun _ => .agg z.enc.toArray) (fun _ => []) (fun _ => True) := by
  refine Fn.enter Tryz.func10 rfl Tryz.ntmps10 (by rfl) ?_
  intro w0
  refine Cd.seq ?_
  refine Cd.region ?_
  refine Ls.does (some 1) (Does.box (show Oper.op _ = Op.box 47 (Operand.tmp 0) from rfl) (by rfl)) (by rfl) (by rfl) ?_
  intro g1 _
  refine Ls.does (some 2) (Does.alloc (cs := [.int .i64 0, .int .i64 0, .int .i64 0, .int .i64 0, .int .i64 0, .int .i64 0, .int .i64 0, .int .i64 0, .int .i64 0, .int .i64 0, .slice none 0 0, .slice none 0 0]) (show Oper.op _ = Op.alloc 43 from rfl) (ZeroIs.mk (.agg #[.int .i64 0, .int .i64 0, .int .i64 0, .int .i64 0, .int .i64 0, .int .i64 0, .int .i64 0, .int .i64 0, .int .i64 0, .int .i64 0, .slice none 0 0, .slice none 0 0]) (by kernel_rfl) (by rfl))) (by rfl) (by rfl) ?_
  intro g2 _
  refine Ls.nil ?_
  refine Cd.seq ?_
  refine Cd.region ?_
  refine Ls.ev (some 3) (Ev.fieldAddr (k := 0) (show Oper.op _ = Op.fieldAddr 47 (Operand.tmp 1) 0 from rfl) (by rfl) (by kernel_rfl) (by rfl)) (by rfl) (by rfl) ?_
  refine Ls.ev (some 4) (Ev.load 1 (show Oper.op _ = Op.load 45 (Operand.tmp 3) from rfl) (by rfl) (by rfl) (by kernel_rfl) (by rfl)) (by rfl) (by rfl) ?_
  refine Ls.ev (some 5) (Ev.fieldAddr (k := 1) (show Oper.op _ = Op.fieldAddr 47 (Operand.tmp 1) 1 from rfl) (by rfl) (by kernel_rfl) (by rfl)) (by rfl) (by rfl) ?_
  refine Ls.ev (some 6) (Ev.load 1 (show Oper.op _ = Op.load 3 (Operand.tmp 5) from rfl) (by rfl) (by rfl) (by kernel_rfl) (by rfl)) (by rfl) (by rfl) ?_
  refine Ls.ev (some 7) (Ev.fieldAddr (k := 2) (show Oper.op _ = Op.fieldAddr 47 (Operand.tmp 1) 2 from rfl) (by rfl) (by kernel_rfl) (by rfl)) (by rfl) (by rfl) ?_
  refine Ls.ev (some 8) (Ev.load 1 (show Oper.op _ = Op.load 3 (Operand.tmp 7) from rfl) (by rfl) (by rfl) (by kernel_rfl) (by rfl)) (by rfl) (by rfl) ?_
  refine Ls.ev (some 9) (Ev.fieldAddr (k := 3) (show Oper.op _ = Op.fieldAddr 47 (Operand.tmp 1) 3 from rfl) (by rfl) (by kernel_rfl) (by rfl)) (by rfl) (by rfl) ?_
  refine Ls.ev (some 10) (Ev.load 1 (show Oper.op _ = Op.load 3 (Operand.tmp 9) from rfl) (by rfl) (by rfl) (by kernel_rfl) (by rfl)) (by rfl) (by rfl) ?_
  refine Ls.ev (some 11) (Ev.fieldAddr (k := 4) (show Oper.op _ = Op.fieldAddr 47 (Operand.tmp 1) 4 from rfl) (by rfl) (by kernel_rfl) (by rfl)) (by rfl) (by rfl) ?_
  refine Ls.ev (some 12) (Ev.loads 1 (show Oper.op _ = Op.load 41 (Operand.tmp 11) from rfl) (by rfl) (by rfl) (n := 8) (by kernel_rfl) (by rfl) (by rfl)) (by rfl) (by rfl) ?_
  refine Ls.ev (some 13) (Ev.buildP (pl := [(0, 1), (1, 1), (2, 1), (3, 1), (4, 8)]) (zs := [.int .i64 0, .int .i64 0, .int .i64 0, .int .i64 0, .int .i64 0, .int .i64 0, .int .i64 0, .int .i64 0, .int .i64 0, .int .i64 0, .slice none 0 0, .slice none 0 0]) (show Oper.op _ = Op.build 43 #[(0, Operand.tmp 4), (1, Operand.tmp 6), (2, Operand.tmp 8), (3, Operand.tmp 10), (4, Operand.tmp 12)] from rfl) (by rfl) (by kernel_rfl) (by rfl)) (by rfl) (by rfl) ?_
  refine Ls.does none (Does.store 0 (show Oper.op _ = Op.store 43 (Operand.tmp 2) (Operand.tmp 13) from rfl) (by rfl) (by rfl) (by rfl) (by kernel_rfl) (by rfl) (by kernel_rfl) (by rfl)) (by rfl) (by rfl) ?_
  intro _ _
  refine Ls.nil ?_
  refine Cd.ret ?_
  refine Ent.ret (()) (trivial) (Res.cell 0 (by rfl) (by rfl) (by rfl) (n := 12) (by kernel_rfl) (by rfl) (by rfl)) ?_ [] (by rfl) ?_
  · rfl
  · rfl
end Go.Proofs.YtemcigoelcblbaaGreatDoor
/- a step written -/
namespace Go.Proofs.YtemcigoelcblbaaGreatDoor
open Go.RowKit
def textP (c : CmdP) (z : StP) : List UInt8 := Lib.join (c.name :: c.ws.map (writeW z)) [32]
def keyB (c : CmdP) (z : StP) : Prop := c.kind = z.kind ∧ c.ik = z.ik ∧ c.verb = z.verb
instance (c : CmdP) (z : StP) : Decidable (keyB c z) := by unfold keyB; infer_instance
def printF : List CmdP → StP → List UInt8
  | [], _ => []
  | c :: l, z => if keyB c z ∧ (lineP (textP c z)).2 = 0 ∧ (lineP (textP c z)).1 = z then textP c z else printF l z
/-- The line of a step, or nothing. -/
def printP (z : StP) : List UInt8 := printF cmdsP z
theorem print_step {k : Nat} {c : CmdP} (h : cmdsP[k]? = some c) (z : StP) : printF (cmdsP.drop k) z = if keyB c z ∧ (lineP (textP c z)).2 = 0 ∧ (lineP (textP c z)).1 = z then textP c z else printF (cmdsP.drop (k + 1)) z := by
  obtain ⟨hk, rfl⟩ := List.getElem?_eq_some_iff.1 h
  rw [List.drop_eq_getElem_cons hk]
  rfl
theorem itoa_le {n : Int} (h : in64 n) : (Lib.itoa n).length ≤ 21 := Lib.itoa_length_le n h.1 h.2
theorem writeW_len {z : StS} (hz : z.Ok) (κ : Wk) : (writeW z.p κ).length ≤ 23068673 := by
  unfold writeW
  split
  · have := itoa_le (hz.num κ)
    omega
  · unfold listL
    split
    · simp
    · have h1 := join_len 44 ((z.p.getL κ).map Lib.itoa) 21 (fun x hx => by
        obtain ⟨n, hn, rfl⟩ := List.mem_map.1 hx
        exact itoa_le (hz.lst κ n hn))
      rw [List.length_map] at h1
      have := hz.len κ
      omega
theorem names_len : ∀ c ∈ cmdsP, c.name.length ≤ 8 := by decide
theorem text_len {z : StS} (hz : z.Ok) {c : CmdP} (hc : c ∈ cmdsP) : (textP c z.p).length ≤ 140737488355328 := by
  have h1 := join_len 32 (c.name :: c.ws.map (writeW z.p)) 23068673 (fun x hx => by
    rcases List.mem_cons.1 hx with rfl | hx
    · have := names_len c hc
      omega
    · obtain ⟨κ, _, rfl⟩ := List.mem_map.1 hx
      exact writeW_len hz κ)
  have h2 := (cmds_ok c hc).2
  rw [List.length_cons, List.length_map] at h1
  unfold textP
  omega
set_option maxRecDepth 20000 in
set_option maxHeartbeats 2000000 in
theorem print_sl (z : StS) (hz : z.Ok) : Fn Tryz.prog 12 #[.agg z.enc.toArray] [z.rC, z.rK, laidC] Unit (fun _ => .string (txt (printP z.p))) (fun _ => []) (fun _ => True) := by
  have hpp : printP z.p = printF (cmdsP.drop 0) z.p := rfl
  rw [hpp]
  refine Fn.enter Tryz.func12 rfl Tryz.ntmps12 (by rfl) ?_
  intro w0
  refine Cd.seq ?_
  refine Cd.region ?_
  refine Ls.does (some 1) (Does.box (show Oper.op _ = Op.box 47 (Operand.tmp 0) from rfl) (by rfl)) (by rfl) (by rfl) ?_
  intro g1 _
  refine Ls.ev (some 2) (Ev.assign (show Oper.op _ = Op.assign (Operand.const (Value.string { data := #[] })) from rfl) (by rfl)) (by rfl) (by rfl) ?_
  refine Ls.nil ?_
  refine Cd.seq ?_
  refine Cd.seq ?_
  refine Cd.region ?_
  refine Ls.does (some 11) (Does.call [0, 1, 2, 3] (show Oper.op _ = Op.call { callee := Callee.value (Operand.func 20), args := #[], argTypes := #[] } from rfl) Tryz.func20 (by kernel_rfl) (by kernel_rfl) (commands_sl) (by rfl) (by rfl) (by rfl)) (by rfl) (by rfl) ?_
  rintro ⟨gc, As, wb⟩ -
  refine Ls.ev (some 12) (Ev.len (show Oper.op _ = Op.call { callee := Callee.builtin Builtin.len, args := #[Operand.tmp 11], argTypes := #[62] } from rfl) (by rfl) Tryz.underlying62) (by rfl) (by rfl) ?_
  refine Ls.ev (some 13) (Ev.move (show Oper.op _ = Op.move (Operand.const (Value.int IntKind.i64 0)) from rfl) (by rfl)) (by rfl) (by rfl) ?_
  refine Ls.nil ?_
  refine Cd.block ?_
  refine Ent.pick [3, 4, 5, 0, 1, 2, 6] (by rfl) ?_
  refine Cd.loop (ι := Nat) (fun k => [(1, .pointer (some ⟨g1, 0, none⟩)), (11, .slice (some ⟨gc, 0, none⟩) 23 23), (12, .int .i64 ((23 : Nat) : Int)), (13, .int .i64 k)]) (fun _ => [blk g1 47 z.enc, z.rC, z.rK, cmdR gc As, cmdF wb As, boxF wb, laidC]) (fun k => k ≤ 23 ∧ printF (cmdsP.drop 0) z.p = printF (cmdsP.drop k) z.p) (fun k => 23 - k) (0) (⟨Nat.zero_le _, rfl⟩) ?_ rfl ?_
  · (repeat (first | exact trivial | refine ⟨by rfl, ?_⟩))
  rintro k ⟨hk, hst⟩
  rw [hst]
  refine Cd.seq ?_
  refine Cd.region ?_
  refine Ls.ev (some 14) (Ev.lss (show Oper.op _ = Op.binOp BinOp.lss 3 (Operand.tmp 13) (Operand.tmp 12) 3 from rfl) (by rfl) (by rfl)) (by rfl) (by rfl) ?_
  refine Ls.nil ?_
  refine Cd.seq ?_
  refine Cd.cond _ (by rfl) (fun h1 => ?_) (fun h1 => ?_)
  · skip
    have hlt : k < 23 := by have := of_decide_eq_true h1; omega
    obtain ⟨c, hc⟩ := get_of_lt (show k < cmdsP.length from hlt)
    have hcA := cmdsA_get (As := As) hc
    have hcm := List.mem_of_getElem? hc
    obtain ⟨hnd, hw4⟩ := cmds_ok c hcm
    have hgd : cmdsP.getD k ⟨[], 0, 0, 0, []⟩ = c := by rw [List.getD_eq_getElem?_getD, hc]; rfl
    have hstep := print_step hc z.p
    have hcut := text_len hz hcm
    refine Cd.skip ?_
    refine Cd.seq ?_
    refine Cd.block ?_
    refine Cd.seq ?_
    refine Cd.region ?_
    refine Ls.ev (some 15) (Ev.indexAt (sz := 14) (show Oper.op _ = Op.indexAddr 62 (Operand.tmp 11) (Operand.tmp 13) from rfl) (by rfl) (by rfl) Tryz.underlying62 (by kernel_rfl) (by omega)) (by rfl) (by rfl) ?_
    refine Ls.ev (some 16) (Ev.loadEl (show Oper.op _ = Op.load 66 (Operand.tmp 15) from rfl) (by rfl) (ReadsIn.rd 3 (by rfl)) (by kernel_rfl) (by intro _; rfl) (by assumption)) (by rfl) (by rfl) ?_
    refine Ls.does (some 4) (Does.alloc (cs := [.string ⟨#[]⟩, .int .i64 0, .int .i64 0, .int .i64 0, .int .i64 0, .int .i64 0, .int .i64 0, .int .i64 0, .int .i64 0, .int .i64 0, .int .i64 0, .slice none 0 0, .slice none 0 0, .slice none 0 0]) (show Oper.op _ = Op.alloc 66 from rfl) (ZeroIs.mk (.agg #[.string ⟨#[]⟩, .int .i64 0, .int .i64 0, .int .i64 0, .int .i64 0, .int .i64 0, .int .i64 0, .int .i64 0, .int .i64 0, .int .i64 0, .int .i64 0, .slice none 0 0, .slice none 0 0, .slice none 0 0]) (by kernel_rfl) (by rfl))) (by rfl) (by rfl) ?_
    intro g2 _
    refine Ls.does none (Does.store 0 (show Oper.op _ = Op.store 66 (Operand.tmp 4) (Operand.tmp 16) from rfl) (by rfl) (by rfl) (by rfl) (by kernel_rfl) (by rfl) (by kernel_rfl) (by rfl)) (by rfl) (by rfl) ?_
    intro _ _
    refine Ls.nil ?_
    refine Cd.seq ?_
    refine Cd.seq ?_
    refine Ent.norm ([(1, .pointer (some ⟨g1, 0, none⟩)), (11, .slice (some ⟨gc, 0, none⟩) 23 23), (12, .int .i64 ((23 : Nat) : Int)), (13, .int .i64 k), (4, .pointer (some ⟨g2, 0, none⟩))]) ([blk g2 66 (cmdE c (As k)), blk g1 47 z.enc, z.rC, z.rK, cmdR gc As, cmdF wb As, boxF wb, laidC]) (by repeat (first | exact trivial | refine ⟨by rfl, ?_⟩ | refine ⟨by simp only [List.length_append, List.length_cons, List.length_nil]; rfl, ?_⟩ | refine ⟨by push_cast; rfl, ?_⟩)) (by rfl) ?_
    refine Cd.cut (ι := Unit) (fun _ => [(1, .pointer (some ⟨g1, 0, none⟩)), (11, .slice (some ⟨gc, 0, none⟩) 23 23), (12, .int .i64 ((23 : Nat) : Int)), (13, .int .i64 k), (4, .pointer (some ⟨g2, 0, none⟩)), (44, .bool (decide (¬ (c.kind = z.kind ∧ c.ik = z.ik ∧ c.verb = z.verb))))]) (fun _ => [blk g2 66 (cmdE c (As k)), blk g1 47 z.enc, z.rC, z.rK, cmdR gc As, cmdF wb As, boxF wb, laidC]) (fun _ => True) ?_ ?_
    · skip
      refine Cd.region ?_
      refine Ls.ev (some 17) (Ev.fieldAddr (k := 1) (show Oper.op _ = Op.fieldAddr 66 (Operand.tmp 4) 1 from rfl) (by rfl) (by kernel_rfl) (by rfl)) (by rfl) (by rfl) ?_
      refine Ls.ev (some 18) (Ev.fieldAddr (k := 0) (show Oper.op _ = Op.fieldAddr 47 (Operand.tmp 17) 0 from rfl) (by rfl) (by kernel_rfl) (by rfl)) (by rfl) (by rfl) ?_
      refine Ls.ev (some 19) (Ev.load 0 (show Oper.op _ = Op.load 45 (Operand.tmp 18) from rfl) (by rfl) (by rfl) (by kernel_rfl) (by rfl)) (by rfl) (by rfl) ?_
      refine Ls.ev (some 20) (Ev.fieldAddr (k := 0) (show Oper.op _ = Op.fieldAddr 47 (Operand.tmp 1) 0 from rfl) (by rfl) (by kernel_rfl) (by rfl)) (by rfl) (by rfl) ?_
      refine Ls.ev (some 21) (Ev.load 1 (show Oper.op _ = Op.load 45 (Operand.tmp 20) from rfl) (by rfl) (by rfl) (by kernel_rfl) (by rfl)) (by rfl) (by rfl) ?_
      refine Ls.ev (some 22) (Ev.neq (show Oper.op _ = Op.binOp BinOp.neq 45 (Operand.tmp 19) (Operand.tmp 21) 45 from rfl) (by rfl) (by rfl)) (by rfl) (by rfl) ?_
      refine Ls.ev (some 23) (Ev.move (show Oper.op _ = Op.move (Operand.tmp 22) from rfl) (by rfl)) (by rfl) (by rfl) ?_
      refine Ent.split 23 (by rfl) (fun hT1 => ?_) (fun hT1 => ?_)
      · first | have hT1 := of_decide_eq_false hT1 | have hT1 := of_not_decide_false hT1 | skip
        refine Ls.ev (some 24) (Ev.fieldAddr (k := 1) (show Oper.op _ = Op.fieldAddr 66 (Operand.tmp 4) 1 from rfl) (by rfl) (by kernel_rfl) (by rfl)) (by rfl) (by rfl) ?_
        refine Ls.ev (some 25) (Ev.fieldAddr (k := 4) (show Oper.op _ = Op.fieldAddr 47 (Operand.tmp 24) 4 from rfl) (by rfl) (by kernel_rfl) (by rfl)) (by rfl) (by rfl) ?_
        refine Ls.ev (some 26) (Ev.fieldAddr (k := 0) (show Oper.op _ = Op.fieldAddr 41 (Operand.tmp 25) 0 from rfl) (by rfl) (by kernel_rfl) (by rfl)) (by rfl) (by rfl) ?_
        refine Ls.ev (some 27) (Ev.load 0 (show Oper.op _ = Op.load 34 (Operand.tmp 26) from rfl) (by rfl) (by rfl) (by kernel_rfl) (by rfl)) (by rfl) (by rfl) ?_
        refine Ls.ev (some 28) (Ev.fieldAddr (k := 4) (show Oper.op _ = Op.fieldAddr 47 (Operand.tmp 1) 4 from rfl) (by rfl) (by kernel_rfl) (by rfl)) (by rfl) (by rfl) ?_
        refine Ls.ev (some 29) (Ev.fieldAddr (k := 0) (show Oper.op _ = Op.fieldAddr 41 (Operand.tmp 28) 0 from rfl) (by rfl) (by kernel_rfl) (by rfl)) (by rfl) (by rfl) ?_
        refine Ls.ev (some 30) (Ev.load 1 (show Oper.op _ = Op.load 34 (Operand.tmp 29) from rfl) (by rfl) (by rfl) (by kernel_rfl) (by rfl)) (by rfl) (by rfl) ?_
        refine Ls.ev (some 31) (Ev.neq (show Oper.op _ = Op.binOp BinOp.neq 34 (Operand.tmp 27) (Operand.tmp 30) 34 from rfl) (by rfl) (by rfl)) (by rfl) (by rfl) ?_
        refine Ls.ev (some 32) (Ev.pickF (show Oper.op _ = Op.pick (Operand.tmp 23) (Operand.const (Value.bool true)) (Operand.tmp 31) from rfl) (by rfl) (by rfl)) (by rfl) (by rfl) ?_
        refine Ls.ev (some 33) (Ev.move (show Oper.op _ = Op.move (Operand.tmp 32) from rfl) (by rfl)) (by rfl) (by rfl) ?_
        refine Ent.split 33 (by rfl) (fun hT2 => ?_) (fun hT2 => ?_)
        · first | have hT2 := of_decide_eq_false hT2 | have hT2 := of_not_decide_false hT2 | skip
          refine Ls.ev (some 34) (Ev.fieldAddr (k := 1) (show Oper.op _ = Op.fieldAddr 66 (Operand.tmp 4) 1 from rfl) (by rfl) (by kernel_rfl) (by rfl)) (by rfl) (by rfl) ?_
          refine Ls.ev (some 35) (Ev.fieldAddr (k := 4) (show Oper.op _ = Op.fieldAddr 47 (Operand.tmp 34) 4 from rfl) (by rfl) (by kernel_rfl) (by rfl)) (by rfl) (by rfl) ?_
          refine Ls.ev (some 36) (Ev.fieldAddr (k := 3) (show Oper.op _ = Op.fieldAddr 41 (Operand.tmp 35) 3 from rfl) (by rfl) (by kernel_rfl) (by rfl)) (by rfl) (by rfl) ?_
          refine Ls.ev (some 37) (Ev.fieldAddr (k := 0) (show Oper.op _ = Op.fieldAddr 39 (Operand.tmp 36) 0 from rfl) (by rfl) (by kernel_rfl) (by rfl)) (by rfl) (by rfl) ?_
          refine Ls.ev (some 38) (Ev.load 0 (show Oper.op _ = Op.load 35 (Operand.tmp 37) from rfl) (by rfl) (by rfl) (by kernel_rfl) (by rfl)) (by rfl) (by rfl) ?_
          refine Ls.ev (some 39) (Ev.fieldAddr (k := 4) (show Oper.op _ = Op.fieldAddr 47 (Operand.tmp 1) 4 from rfl) (by rfl) (by kernel_rfl) (by rfl)) (by rfl) (by rfl) ?_
          refine Ls.ev (some 40) (Ev.fieldAddr (k := 3) (show Oper.op _ = Op.fieldAddr 41 (Operand.tmp 39) 3 from rfl) (by rfl) (by kernel_rfl) (by rfl)) (by rfl) (by rfl) ?_
          refine Ls.ev (some 41) (Ev.fieldAddr (k := 0) (show Oper.op _ = Op.fieldAddr 39 (Operand.tmp 40) 0 from rfl) (by rfl) (by kernel_rfl) (by rfl)) (by rfl) (by rfl) ?_
          refine Ls.ev (some 42) (Ev.load 1 (show Oper.op _ = Op.load 35 (Operand.tmp 41) from rfl) (by rfl) (by rfl) (by kernel_rfl) (by rfl)) (by rfl) (by rfl) ?_
          refine Ls.ev (some 43) (Ev.neq (show Oper.op _ = Op.binOp BinOp.neq 35 (Operand.tmp 38) (Operand.tmp 42) 35 from rfl) (by rfl) (by rfl)) (by rfl) (by rfl) ?_
          refine Ls.ev (some 44) (Ev.pickF (show Oper.op _ = Op.pick (Operand.tmp 33) (Operand.const (Value.bool true)) (Operand.tmp 43) from rfl) (by rfl) (by rfl)) (by rfl) (by rfl) ?_
          refine Ls.nil ?_
          refine Ent.inv () ?_ ?_ ?_
          · exact trivial
          · (repeat (first | exact trivial | refine ⟨by rfl, ?_⟩ | refine ⟨by simp only [List.length_append, List.length_cons, List.length_nil]; rfl, ?_⟩ | refine ⟨by push_cast; rfl, ?_⟩ | refine ⟨by (show some (Value.bool _) = some (Value.bool _); congr 2; (first | (refine (decide_eq_true ?_).symm; simp_all; done) | (refine decide_eq_decide.2 ?_; simp_all; done))), ?_⟩))
          · rfl
        · first | have hT2 := of_decide_eq_true hT2 | have hT2 := of_not_decide_true hT2 | skip
          refine Ls.pass (some 34) (by rfl) (by rfl) ?_
          refine Ls.pass (some 35) (by rfl) (by rfl) ?_
          refine Ls.pass (some 36) (by rfl) (by rfl) ?_
          refine Ls.pass (some 37) (by rfl) (by rfl) ?_
          refine Ls.pass (some 38) (by rfl) (by rfl) ?_
          refine Ls.pass (some 39) (by rfl) (by rfl) ?_
          refine Ls.pass (some 40) (by rfl) (by rfl) ?_
          refine Ls.pass (some 41) (by rfl) (by rfl) ?_
          refine Ls.pass (some 42) (by rfl) (by rfl) ?_
          refine Ls.pass (some 43) (by rfl) (by rfl) ?_
          refine Ls.ev (some 44) (Ev.pickT (show Oper.op _ = Op.pick (Operand.tmp 33) (Operand.const (Value.bool true)) (Operand.tmp 43) from rfl) (by rfl) (by rfl)) (by rfl) (by rfl) ?_
          refine Ls.nil ?_
          refine Ent.inv () ?_ ?_ ?_
          · exact trivial
          · (repeat (first | exact trivial | refine ⟨by rfl, ?_⟩ | refine ⟨by simp only [List.length_append, List.length_cons, List.length_nil]; rfl, ?_⟩ | refine ⟨by push_cast; rfl, ?_⟩ | refine ⟨by (show some (Value.bool _) = some (Value.bool _); congr 2; (first | (refine (decide_eq_true ?_).symm; simp_all; done) | (refine decide_eq_decide.2 ?_; simp_all; done))), ?_⟩))
          · rfl
      · first | have hT1 := of_decide_eq_true hT1 | have hT1 := of_not_decide_true hT1 | skip
        refine Ls.pass (some 24) (by rfl) (by rfl) ?_
        refine Ls.pass (some 25) (by rfl) (by rfl) ?_
        refine Ls.pass (some 26) (by rfl) (by rfl) ?_
        refine Ls.pass (some 27) (by rfl) (by rfl) ?_
        refine Ls.pass (some 28) (by rfl) (by rfl) ?_
        refine Ls.pass (some 29) (by rfl) (by rfl) ?_
        refine Ls.pass (some 30) (by rfl) (by rfl) ?_
        refine Ls.pass (some 31) (by rfl) (by rfl) ?_
        refine Ls.ev (some 32) (Ev.pickT (show Oper.op _ = Op.pick (Operand.tmp 23) (Operand.const (Value.bool true)) (Operand.tmp 31) from rfl) (by rfl) (by rfl)) (by rfl) (by rfl) ?_
        refine Ls.ev (some 33) (Ev.move (show Oper.op _ = Op.move (Operand.tmp 32) from rfl) (by rfl)) (by rfl) (by rfl) ?_
        refine Ls.pass (some 34) (by rfl) (by rfl) ?_
        refine Ls.pass (some 35) (by rfl) (by rfl) ?_
        refine Ls.pass (some 36) (by rfl) (by rfl) ?_
        refine Ls.pass (some 37) (by rfl) (by rfl) ?_
        refine Ls.pass (some 38) (by rfl) (by rfl) ?_
        refine Ls.pass (some 39) (by rfl) (by rfl) ?_
        refine Ls.pass (some 40) (by rfl) (by rfl) ?_
        refine Ls.pass (some 41) (by rfl) (by rfl) ?_
        refine Ls.pass (some 42) (by rfl) (by rfl) ?_
        refine Ls.pass (some 43) (by rfl) (by rfl) ?_
        refine Ls.ev (some 44) (Ev.pickT (show Oper.op _ = Op.pick (Operand.tmp 33) (Operand.const (Value.bool true)) (Operand.tmp 43) from rfl) (by rfl) (by rfl)) (by rfl) (by rfl) ?_
        refine Ls.nil ?_
        refine Ent.inv () ?_ ?_ ?_
        · exact trivial
        · (repeat (first | exact trivial | refine ⟨by rfl, ?_⟩ | refine ⟨by simp only [List.length_append, List.length_cons, List.length_nil]; rfl, ?_⟩ | refine ⟨by push_cast; rfl, ?_⟩ | refine ⟨by (show some (Value.bool _) = some (Value.bool _); congr 2; (first | (refine (decide_eq_true ?_).symm; simp_all; done) | (refine decide_eq_decide.2 ?_; simp_all; done))), ?_⟩))
        · rfl
    skip
    rintro _ -
    refine Cd.cond _ (by rfl) (fun h2 => ?_) (fun h2 => ?_)
    · skip
      have h2 : ¬ keyB c z.p := of_decide_eq_true h2
      rw [if_neg (fun h => h2 h.1)] at hstep
      refine Cd.exit ?_
      refine Cd.region ?_
      refine Ls.ev (some 78) (Ev.addI (show Oper.op _ = Op.binOp BinOp.add 3 (Operand.tmp 13) (Operand.const (Value.int IntKind.i64 1)) 3 from rfl) (by rfl) (by rfl) (by omega)) (by rfl) (by rfl) ?_
      refine Ls.ev (some 13) (Ev.move (show Oper.op _ = Op.move (Operand.tmp 78) from rfl) (by rfl)) (by rfl) (by rfl) ?_
      refine Ls.nil ?_
      refine Ent.pick [1, 2, 3, 4, 5, 6, 7] (by rfl) ?_
      refine Ent.inv (k + 1) ?_ ?_ ?_
      · (try dsimp only); exact ⟨⟨hlt, hstep⟩, by omega⟩
      · (repeat (first | exact trivial | refine ⟨by rfl, ?_⟩ | refine ⟨by simp only [List.length_append, List.length_cons, List.length_nil]; rfl, ?_⟩ | refine ⟨by push_cast; rfl, ?_⟩))
      · rfl
    skip
    have h2 : keyB c z.p := Decidable.not_not.1 (of_decide_eq_false h2)
    refine Cd.skip ?_
    refine Cd.seq ?_
    refine Cd.region ?_
    refine Ls.ev (some 45) (Ev.fieldAddr (k := 0) (show Oper.op _ = Op.fieldAddr 66 (Operand.tmp 4) 0 from rfl) (by rfl) (by kernel_rfl) (by rfl)) (by rfl) (by rfl) ?_
    refine Ls.ev (some 46) (Ev.load 0 (show Oper.op _ = Op.load 9 (Operand.tmp 45) from rfl) (by rfl) (by rfl) (by kernel_rfl) (by rfl)) (by rfl) (by rfl) ?_
    refine Ls.does (some 47) (Does.lit (sz := 1) (show Oper.op _ = Op.buildSlice 54 1 #[(0, Operand.tmp 46)] from rfl) (by rfl) Tryz.underlying54 (by kernel_rfl) (by rfl) (by kernel_rfl)) (by rfl) (by rfl) ?_
    intro g3 _
    refine Ls.ev (some 5) (Ev.assign (show Oper.op _ = Op.assign (Operand.tmp 47) from rfl) (by rfl)) (by rfl) (by rfl) ?_
    refine Ls.nil ?_
    refine Cd.seq ?_
    refine Cd.seq ?_
    refine Ent.map (fun w hs => hs.starf_get 6 k rfl) ?_
    show Ent _ _ _ (cmdW wb (cmdsP.getD k ⟨[], 0, 0, 0, []⟩) (As k) :: _) _
    rw [hgd]
    obtain ⟨A, hA⟩ : ∃ A, A = As k := ⟨_, rfl⟩
    rw [← hA]
    refine Ent.pick [2, 1, 3, 4, 5, 0, 8, 9, 6, 7] (by rfl) ?_
    refine Ent.norm ([(1, .pointer (some ⟨g1, 0, none⟩)), (11, .slice (some ⟨gc, 0, none⟩) 23 23), (12, .int .i64 ((23 : Nat) : Int)), (13, .int .i64 k), (4, .pointer (some ⟨g2, 0, none⟩)), (5, .slice (some ⟨g3, 0, none⟩) 1 1)]) ([blk g2 66 (cmdE c A), row (some ⟨g3, 0, none⟩) 1 1 9 1 (txts [c.name]), blk g1 47 z.enc, z.rC, z.rK, cmdW wb c A, boxF wb, laidC, cmdR gc As, cmdF wb As]) (by repeat (first | exact trivial | refine ⟨by rfl, ?_⟩ | refine ⟨by simp only [List.length_append, List.length_cons, List.length_nil]; rfl, ?_⟩ | refine ⟨by push_cast; rfl, ?_⟩)) (by rw [hA]; rfl) ?_
    refine Cd.region ?_
    refine Ls.ev (some 48) (Ev.fieldAddr (k := 13) (show Oper.op _ = Op.fieldAddr 66 (Operand.tmp 4) 2 from rfl) (by rfl) (by kernel_rfl) (by rfl)) (by rfl) (by rfl) ?_
    refine Ls.ev (some 49) (Ev.load 0 (show Oper.op _ = Op.load 64 (Operand.tmp 48) from rfl) (by rfl) (by rfl) (by kernel_rfl) (by rfl)) (by rfl) (by rfl) ?_
    refine Ls.ev (some 50) (Ev.len (show Oper.op _ = Op.call { callee := Callee.builtin Builtin.len, args := #[Operand.tmp 49], argTypes := #[64] } from rfl) (by rfl) Tryz.underlying64) (by rfl) (by rfl) ?_
    refine Ls.ev (some 51) (Ev.move (show Oper.op _ = Op.move (Operand.const (Value.int IntKind.i64 0)) from rfl) (by rfl)) (by rfl) (by rfl) ?_
    refine Ls.nil ?_
    refine Cd.block ?_
    refine Ent.pick [1, 2, 3, 4, 5, 6, 7, 8, 9] (by rfl) ?_
    refine Cd.loop (ι := Nat × (Option Addr × Nat)) (fun p => [(1, .pointer (some ⟨g1, 0, none⟩)), (11, .slice (some ⟨gc, 0, none⟩) 23 23), (12, .int .i64 ((23 : Nat) : Int)), (13, .int .i64 k), (5, .slice p.2.1 (p.1 + 1) p.2.2), (49, .slice A c.ws.length c.ws.length), (50, .int .i64 c.ws.length), (51, .int .i64 p.1)]) (fun p => [row p.2.1 (p.1 + 1) p.2.2 9 1 (txts (c.name :: (c.ws.take p.1).map (writeW z.p))), blk g1 47 z.enc, z.rC, z.rK, rd A c.ws.length 2 (c.ws.flatMap fun κ => κ.word (wb κ)), boxF wb, laidC, cmdR gc As, cmdF wb As]) (fun p => p.1 ≤ c.ws.length) (fun p => c.ws.length - p.1) ((0, (some ⟨g3, 0, none⟩, 1))) (Nat.zero_le _) ?_ rfl ?_
    · (repeat (first | exact trivial | refine ⟨by rfl, ?_⟩))
    rintro ⟨j, q⟩ hj
    dsimp only at hj ⊢
    refine Cd.seq ?_
    refine Cd.region ?_
    refine Ls.ev (some 52) (Ev.lss (show Oper.op _ = Op.binOp BinOp.lss 3 (Operand.tmp 51) (Operand.tmp 50) 3 from rfl) (by rfl) (by rfl)) (by rfl) (by rfl) ?_
    refine Ls.nil ?_
    refine Cd.seq ?_
    refine Cd.cond _ (by rfl) (fun h3 => ?_) (fun h3 => ?_)
    · skip
      have hjl : j < c.ws.length := by have := of_decide_eq_true h3; omega
      obtain ⟨κ, hκ⟩ := get_of_lt hjl
      refine Ent.rdSome 4 (by rfl) (by omega) (fun ad had => ?_)
      obtain ⟨A', hA'⟩ : ∃ A', A' = A := ⟨_, rfl⟩
      subst had
      skip
      refine Cd.skip ?_
      refine Cd.seq ?_
      refine Cd.block ?_
      refine Cd.seq ?_
      refine Cd.region ?_
      refine Ls.ev (some 53) (Ev.indexAt (sz := 2) (show Oper.op _ = Op.indexAddr 64 (Operand.tmp 49) (Operand.tmp 51) from rfl) (by rfl) (by rfl) Tryz.underlying64 (by kernel_rfl) (by omega)) (by rfl) (by rfl) ?_
      refine Ls.ev (some 54) (Ev.loadEl (show Oper.op _ = Op.load 69 (Operand.tmp 53) from rfl) (by rfl) (ReadsIn.rd 4 (by rfl)) (by kernel_rfl) (by intro _; rfl) (by assumption)) (by rfl) (by rfl) ?_
      refine Ls.does (some 7) (Does.alloc (cs := [.nilFunc, .nilFunc]) (show Oper.op _ = Op.alloc 69 from rfl) (ZeroIs.mk (.agg #[.nilFunc, .nilFunc]) (by kernel_rfl) (by rfl))) (by rfl) (by rfl) ?_
      intro g4 _
      refine Ls.does none (Does.store 0 (show Oper.op _ = Op.store 69 (Operand.tmp 7) (Operand.tmp 54) from rfl) (by rfl) (by rfl) (by rfl) (by kernel_rfl) (by rfl) (by kernel_rfl) (by rfl)) (by rfl) (by rfl) ?_
      intro _ _
      refine Ls.nil ?_
      skip
      refine Ent.map (fun w hs => hs.starf_get 6 κ rfl) ?_
      show Ent _ _ _ (κ.box (wb κ) :: _) _
      refine Cd.regionI ?_
      refine Li.ev (some 55) (Ev.move (show Oper.op _ = Op.move (Operand.tmp 5) from rfl) (by rfl)) (by rfl) (by rfl) ?_
      refine Li.ev (some 56) (Ev.fieldAddr (k := 1) (show Oper.op _ = Op.fieldAddr 69 (Operand.tmp 7) 1 from rfl) (by rfl) (by kernel_rfl) (by rfl)) (by rfl) (by rfl) ?_
      refine Li.ev (some 57) (Ev.load 1 (show Oper.op _ = Op.load 50 (Operand.tmp 56) from rfl) (by rfl) (by rfl) (by kernel_rfl) (by rfl)) (by rfl) (by rfl) ?_
      refine Li.ev (some 58) (Ev.loads 3 (show Oper.op _ = Op.load 47 (Operand.tmp 1) from rfl) (by rfl) (by rfl) (n := 12) (by kernel_rfl) (by rfl) (by rfl)) (by rfl) (by rfl) ?_
      refine Li.does (some 59) (Does.readV (show Oper.op _ = Op.call { callee := Callee.value (Operand.tmp 57), args := #[Operand.tmp 58], argTypes := #[47] } from rfl) (by rfl) (writeW_fnv κ (wb κ) z hz) (by rfl) (by rfl) ⟨ReadsIn.rd 4 (by rfl), ReadsIn.rd 5 (by rfl), anyIn 0 (by rfl), anyIn 8 (by rfl), trivial⟩) (by rfl) (by rfl) ?_
      rintro _ -
      refine Li.does (some 60) (Does.lit (sz := 1) (show Oper.op _ = Op.buildSlice 54 1 #[(0, Operand.tmp 59)] from rfl) (by rfl) Tryz.underlying54 (by kernel_rfl) (by rfl) (by kernel_rfl)) (by rfl) (by rfl) ?_
      intro g5 _
      refine Li.does (some 61) (Does.app (xs := txts (c.name :: (c.ws.take j).map (writeW z.p))) (news := txts [writeW z.p κ]) 3 (show Oper.op _ = Op.call { callee := Callee.builtin Builtin.append, args := #[Operand.tmp 55, Operand.tmp 60], argTypes := #[54, 54] } from rfl) (by rfl) (by rfl) (by rfl) (ReadsIn.row 0 (by rfl)) elem_str (one_strs _) (show (j + 1 + 1) * 16 ≤ 140737488355328 by omega)) (by rfl) (by rfl) ?_
      rintro q' -
      refine Li.ev (some 5) (Ev.assign (show Oper.op _ = Op.assign (Operand.tmp 61) from rfl) (by rfl)) (by rfl) (by rfl) ?_
      refine Li.nil ?_
      refine Cd.region ?_
      refine Ls.ev (some 62) (Ev.addI (show Oper.op _ = Op.binOp BinOp.add 3 (Operand.tmp 51) (Operand.const (Value.int IntKind.i64 1)) 3 from rfl) (by rfl) (by rfl) (by omega)) (by rfl) (by rfl) ?_
      refine Ls.ev (some 51) (Ev.move (show Oper.op _ = Op.move (Operand.tmp 62) from rfl) (by rfl)) (by rfl) (by rfl) ?_
      refine Ls.nil ?_
      refine Ent.pick [3, 4, 5, 6, 7, 8, 9, 10, 11] (by rfl) ?_
      refine Ent.inv ((j + 1, q')) ?_ ?_ ?_
      · (try dsimp only); exact ⟨hjl, by omega⟩
      · (repeat (first | exact trivial | refine ⟨by rfl, ?_⟩ | refine ⟨by simp only [List.length_append, List.length_cons, List.length_nil]; rfl, ?_⟩ | refine ⟨by push_cast; rfl, ?_⟩))
      · (show [_, _, _, _, _, _, _, _, _] = [_, _, _, _, _, _, _, _, _]; dsimp only; rw [List.take_add_one, hκ, List.map_append]; exact congrArg (fun C => [C, blk g1 47 z.enc, z.rC, z.rK, rd (some ad) c.ws.length 2 (c.ws.flatMap fun κ => κ.word (wb κ)), boxF wb, laidC, cmdR gc As, cmdF wb As]) (row_addT _ _ _ (c.name :: (c.ws.take j).map (writeW z.p)) _).symm)
    skip
    have hjn : j = c.ws.length := by have := of_decide_eq_false h3; omega
    subst hjn
    rw [List.take_length]
    refine Ent.fact 0 (by rfl) (p := ∃ g, q.1 = some ⟨g, 0, none⟩ ∧ c.ws.length + 1 ≤ q.2) (fun w hw => own_some hw (Nat.succ_pos _)) ?_
    rintro ⟨gq, hgq, hqc⟩
    obtain ⟨q1, q2⟩ := q
    dsimp only at hgq hqc
    subst hgq
    refine Ent.see 0 (by rfl) ?_
    have hjn := join_sl 32 gq q2 (c.name :: c.ws.map (writeW z.p)) (by rw [List.length_cons, List.length_map]; exact hqc) (by rw [List.length_cons, List.length_map]; omega) hcut
    rw [List.length_cons, List.length_map] at hjn
    change Fn _ _ _ _ _ (fun _ => .string (txt (textP c z.p))) _ _ at hjn
    generalize hT : textP c z.p = T at hjn hstep hcut
    refine Cd.exit ?_
    refine Cd.seq ?_
    refine Cd.region ?_
    refine Ls.ev (some 63) (Ev.move (show Oper.op _ = Op.move (Operand.tmp 5) from rfl) (by rfl)) (by rfl) (by rfl) ?_
    refine Ls.does (some 64) (Does.read (show Oper.op _ = Op.call { callee := Callee.value (Operand.func 21), args := #[Operand.tmp 63, Operand.const (Value.string { data := #[32] })], argTypes := #[54, 9] } from rfl) Tryz.func21 (by kernel_rfl) (by kernel_rfl) (hjn) (by rfl) (by rfl) ⟨ReadsIn.rd 0 (by rfl), trivial⟩) (by rfl) (by rfl) ?_
    rintro _ -
    refine Ls.ev (some 8) (Ev.assign (show Oper.op _ = Op.assign (Operand.tmp 64) from rfl) (by rfl)) (by rfl) (by rfl) ?_
    refine Ls.nil ?_
    refine Cd.seq ?_
    refine Cd.region ?_
    refine Ls.ev (some 66) (Ev.move (show Oper.op _ = Op.move (Operand.tmp 8) from rfl) (by rfl)) (by rfl) (by rfl) ?_
    refine Ls.does (some 67) (Does.call [6, 1, 2, 3, 7, 8, 5, 6] (show Oper.op _ = Op.call { callee := Callee.value (Operand.func 13), args := #[Operand.tmp 66], argTypes := #[9] } from rfl) Tryz.func13 (by kernel_rfl) (by kernel_rfl) (line_sl T (by omega)) (by rfl) (by rfl) (by rfl)) (by rfl) (by rfl) ?_
    rintro z' hz'
    refine Ent.see 0 (by rfl) ?_
    refine Ent.see 1 (by rfl) ?_
    have hll := line_lists T
    rw [← hz'] at hll
    have hl1 : z'.cells.length + z'.keeps.length ≤ 1024 := hll
    refine Ls.ev (some 65) (Ev.move (show Oper.op _ = Op.move (Operand.tmp 67) from rfl) (by rfl)) (by rfl) (by rfl) ?_
    refine Ls.ev (some 68) (Ev.extract (show Oper.op _ = Op.extract (Operand.tmp 65) 0 from rfl) (by rfl) (by rfl)) (by rfl) (by rfl) ?_
    refine Ls.ev (some 69) (Ev.extract (show Oper.op _ = Op.extract (Operand.tmp 65) 1 from rfl) (by rfl) (by rfl)) (by rfl) (by rfl) ?_
    refine Ls.does (some 9) (Does.alloc (cs := [.int .i64 0, .int .i64 0, .int .i64 0, .int .i64 0, .int .i64 0, .int .i64 0, .int .i64 0, .int .i64 0, .int .i64 0, .int .i64 0, .slice none 0 0, .slice none 0 0]) (show Oper.op _ = Op.alloc 47 from rfl) (ZeroIs.mk (.agg #[.int .i64 0, .int .i64 0, .int .i64 0, .int .i64 0, .int .i64 0, .int .i64 0, .int .i64 0, .int .i64 0, .int .i64 0, .int .i64 0, .slice none 0 0, .slice none 0 0]) (by kernel_rfl) (by rfl))) (by rfl) (by rfl) ?_
    intro g4 _
    refine Ls.does none (Does.store 0 (show Oper.op _ = Op.store 47 (Operand.tmp 9) (Operand.tmp 68) from rfl) (by rfl) (by rfl) (by rfl) (by kernel_rfl) (by rfl) (by kernel_rfl) (by rfl)) (by rfl) (by rfl) ?_
    intro _ _
    refine Ls.ev (some 10) (Ev.assign (show Oper.op _ = Op.assign (Operand.tmp 69) from rfl) (by rfl)) (by rfl) (by rfl) ?_
    refine Ls.nil ?_
    refine Cd.seq ?_
    refine Ent.norm ([(1, .pointer (some ⟨g1, 0, none⟩)), (11, .slice (some ⟨gc, 0, none⟩) 23 23), (12, .int .i64 ((23 : Nat) : Int)), (13, .int .i64 k), (8, .string (txt T)), (9, .pointer (some ⟨g4, 0, none⟩)), (10, .int .i64 (lineP T).2)]) ([blk g4 47 z'.enc, z'.rC, z'.rK, blk g1 47 z.enc, z.rC, z.rK, cmdR gc As, cmdF wb As, boxF wb, laidC]) (by repeat (first | exact trivial | refine ⟨by rfl, ?_⟩ | refine ⟨by simp only [List.length_append, List.length_cons, List.length_nil]; rfl, ?_⟩ | refine ⟨by push_cast; rfl, ?_⟩)) (by rfl) ?_
    refine Cd.cut (ι := Unit) (fun _ => [(1, .pointer (some ⟨g1, 0, none⟩)), (11, .slice (some ⟨gc, 0, none⟩) 23 23), (12, .int .i64 ((23 : Nat) : Int)), (13, .int .i64 k), (8, .string (txt T)), (76, .bool (decide ((lineP T).2 = 0 ∧ z'.p = z.p)))]) (fun _ => [blk g4 47 z'.enc, z'.rC, z'.rK, blk g1 47 z.enc, z.rC, z.rK, cmdR gc As, cmdF wb As, boxF wb, laidC]) (fun _ => True) ?_ ?_
    · skip
      refine Cd.region ?_
      refine Ls.ev (some 70) (Ev.move (show Oper.op _ = Op.move (Operand.tmp 10) from rfl) (by rfl)) (by rfl) (by rfl) ?_
      refine Ls.ev (some 71) (Ev.eql (show Oper.op _ = Op.binOp BinOp.eql 32 (Operand.tmp 70) (Operand.const (Value.int IntKind.i64 0)) 32 from rfl) (by rfl) (by rfl)) (by rfl) (by rfl) ?_
      refine Ls.ev (some 72) (Ev.move (show Oper.op _ = Op.move (Operand.tmp 71) from rfl) (by rfl)) (by rfl) (by rfl) ?_
      refine Ent.split 72 (by rfl) (fun hT1 => ?_) (fun hT1 => ?_)
      · first | have hT1 := of_decide_eq_false hT1 | have hT1 := of_not_decide_false hT1 | skip
        refine Ls.pass (some 73) (by rfl) (by rfl) ?_
        refine Ls.pass (some 74) (by rfl) (by rfl) ?_
        refine Ls.pass (some 75) (by rfl) (by rfl) ?_
        refine Ls.ev (some 76) (Ev.pickF (show Oper.op _ = Op.pick (Operand.tmp 72) (Operand.tmp 75) (Operand.const (Value.bool false)) from rfl) (by rfl) (by rfl)) (by rfl) (by rfl) ?_
        refine Ls.nil ?_
        refine Ent.inv () ?_ ?_ ?_
        · exact trivial
        · (repeat (first | exact trivial | refine ⟨by rfl, ?_⟩ | refine ⟨by simp only [List.length_append, List.length_cons, List.length_nil]; rfl, ?_⟩ | refine ⟨by push_cast; rfl, ?_⟩ | refine ⟨by (show some (Value.bool _) = some (Value.bool _); congr 2; (first | (refine (decide_eq_false ?_).symm; simp_all; done) | (refine decide_eq_decide.2 ?_; simp_all; done))), ?_⟩))
        · rfl
      · first | have hT1 := of_decide_eq_true hT1 | have hT1 := of_not_decide_true hT1 | skip
        refine Ls.ev (some 73) (Ev.loads 0 (show Oper.op _ = Op.load 47 (Operand.tmp 9) from rfl) (by rfl) (by rfl) (n := 12) (by kernel_rfl) (by rfl) (by rfl)) (by rfl) (by rfl) ?_
        refine Ls.ev (some 74) (Ev.loads 3 (show Oper.op _ = Op.load 47 (Operand.tmp 1) from rfl) (by rfl) (by rfl) (n := 12) (by kernel_rfl) (by rfl) (by rfl)) (by rfl) (by rfl) ?_
        refine Ls.does (some 75) (Does.read (show Oper.op _ = Op.call { callee := Callee.value (Operand.func 22), args := #[Operand.tmp 73, Operand.tmp 74], argTypes := #[47, 47] } from rfl) Tryz.func22 (by kernel_rfl) (by kernel_rfl) (same_sl z' z (by omega) (by omega)) (by rfl) (by rfl) ⟨ReadsIn.rd 1 (by rfl), ReadsIn.rd 2 (by rfl), ReadsIn.rd 4 (by rfl), ReadsIn.rd 5 (by rfl), trivial⟩) (by rfl) (by rfl) ?_
        rintro _ -
        refine Ls.ev (some 76) (Ev.pickT (show Oper.op _ = Op.pick (Operand.tmp 72) (Operand.tmp 75) (Operand.const (Value.bool false)) from rfl) (by rfl) (by rfl)) (by rfl) (by rfl) ?_
        refine Ls.nil ?_
        refine Ent.inv () ?_ ?_ ?_
        · exact trivial
        · (repeat (first | exact trivial | refine ⟨by rfl, ?_⟩ | refine ⟨by simp only [List.length_append, List.length_cons, List.length_nil]; rfl, ?_⟩ | refine ⟨by push_cast; rfl, ?_⟩ | refine ⟨by (show some (Value.bool _) = some (Value.bool _); congr 2; (first | (refine (decide_eq_false ?_).symm; simp_all; done) | (refine decide_eq_decide.2 ?_; simp_all; done))), ?_⟩))
        · rfl
    skip
    rintro _ -
    rw [hz']
    refine Cd.cond _ (by rfl) (fun h4 => ?_) (fun h4 => ?_)
    · skip
      have h4 := of_decide_eq_true h4
      rw [if_pos ⟨h2, h4.1, h4.2⟩] at hstep
      rw [hstep]
      refine Cd.seq ?_
      refine Cd.region ?_
      refine Ls.ev (some 77) (Ev.move (show Oper.op _ = Op.move (Operand.tmp 8) from rfl) (by rfl)) (by rfl) (by rfl) ?_
      refine Ls.ev (some 2) (Ev.assign (show Oper.op _ = Op.assign (Operand.tmp 77) from rfl) (by rfl)) (by rfl) (by rfl) ?_
      refine Ls.nil ?_
      refine Cd.ret ?_
      refine Ent.ret (()) (trivial) (Res.tmp (by rfl) (by rfl)) ?_ [] (by rfl) ?_
      · rfl
      · rfl
    · skip
      have h4 := of_decide_eq_false h4
      rw [if_neg (fun h => h4 ⟨h.2.1, h.2.2⟩)] at hstep
      refine Cd.skip ?_
      refine Cd.region ?_
      refine Ls.ev (some 78) (Ev.addI (show Oper.op _ = Op.binOp BinOp.add 3 (Operand.tmp 13) (Operand.const (Value.int IntKind.i64 1)) 3 from rfl) (by rfl) (by rfl) (by omega)) (by rfl) (by rfl) ?_
      refine Ls.ev (some 13) (Ev.move (show Oper.op _ = Op.move (Operand.tmp 78) from rfl) (by rfl)) (by rfl) (by rfl) ?_
      refine Ls.nil ?_
      refine Ent.pick [3, 4, 5, 6, 7, 8, 9] (by rfl) ?_
      refine Ent.inv (k + 1) ?_ ?_ ?_
      · (try dsimp only); exact ⟨⟨hlt, hstep⟩, by omega⟩
      · (repeat (first | exact trivial | refine ⟨by rfl, ?_⟩ | refine ⟨by simp only [List.length_append, List.length_cons, List.length_nil]; rfl, ?_⟩ | refine ⟨by push_cast; rfl, ?_⟩))
      · rfl
  · skip
    have hk23 : k = 23 := by have := of_decide_eq_false h1; omega
    subst hk23
    refine Cd.exit ?_
    refine Cd.seq ?_
    refine Cd.region ?_
    refine Ls.ev (some 2) (Ev.assign (show Oper.op _ = Op.assign (Operand.const (Value.string { data := #[] })) from rfl) (by rfl)) (by rfl) (by rfl) ?_
    refine Ls.nil ?_
    refine Cd.ret ?_
    refine Ent.ret (()) (trivial) (Res.tmp (by rfl) (by rfl)) ?_ [] (by rfl) ?_
    · rfl
    · rfl
end Go.Proofs.YtemcigoelcblbaaGreatDoor
/- the statements' awake -/
namespace Go.Proofs.YtemcigoelcblbaaGreatDoor
open Go.RowKit
def awT : List UInt8 := [114, 101, 115, 101, 114, 118, 101, 32, 48, 32, 49, 32, 32, 53, 32, 49, 44, 50, 44, 50, 32]
def awP : List UInt8 := [114, 101, 115, 101, 114, 118, 101, 32, 48, 32, 49, 32, 53, 32, 49, 44, 50, 44, 50]
def awZ : StP := ⟨4, 0, 0, 0, 1, 0, 0, 3, 1, 5, [1, 2, 2], []⟩
theorem aw_line : lineP awT = (awZ, 0) := by kernel_rfl
theorem aw_print : printP awZ = awP := by kernel_rfl
theorem aw_num (κ : Wk) : in64 (awZ.getN κ) := by cases κ <;> decide
theorem aw_len (κ : Wk) : (awZ.getL κ).length ≤ 1048576 := by cases κ <;> decide
theorem aw_lst (κ : Wk) : ∀ n ∈ awZ.getL κ, in64 n := by cases κ <;> decide
theorem awake_sl : Fn Tryz.prog 5 #[] [laidC] Unit (fun _ => .bool true) (fun _ => []) (fun _ => True) := by
  refine Fn.enter Tryz.func5 rfl Tryz.ntmps5 (by rfl) ?_
  intro w0
  refine Cd.seq ?_
  refine Cd.region ?_
  refine Ls.ev (some 0) (Ev.assign (show Oper.op _ = Op.assign (Operand.const (Value.bool false)) from rfl) (by rfl)) (by rfl) (by rfl) ?_
  refine Ls.nil ?_
  refine Cd.seq ?_
  refine Cd.region ?_
  refine Ls.does (some 4) (Does.call [0, 0] (show Oper.op _ = Op.call { callee := Callee.value (Operand.func 13), args := #[Operand.const (Value.string { data := #[114, 101, 115, 101, 114, 118, 101, 32, 48, 32, 49, 32, 32, 53, 32, 49, 44, 50, 44, 50, 32] })], argTypes := #[9] } from rfl) Tryz.func13 (by kernel_rfl) (by kernel_rfl) (line_sl awT (by decide)) (by rfl) (by rfl) (by rfl)) (by rfl) (by rfl) ?_
  rintro z hz
  rw [aw_line] at hz ⊢
  obtain ⟨z1, z2, z3, z4, z5, z6, z7, z8, z9, z10, zC, zcc, zcl, zK, zkc, zkl⟩ := z
  simp only [StS.p, awZ, StP.mk.injEq] at hz
  obtain ⟨rfl, rfl, rfl, rfl, rfl, rfl, rfl, rfl, rfl, rfl, rfl, rfl⟩ := hz
  have hok : StS.Ok ⟨4, 0, 0, 0, 1, 0, 0, 3, 1, 5, zC, zcc, [1, 2, 2], zK, zkc, []⟩ := ⟨aw_num, aw_len, aw_lst⟩
  have hpr := print_sl _ hok
  rw [show StS.p ⟨4, 0, 0, 0, 1, 0, 0, 3, 1, 5, zC, zcc, [1, 2, 2], zK, zkc, []⟩ = awZ from rfl, aw_print] at hpr
  refine Ent.see 0 (by rfl) ?_
  refine Ent.see 1 (by rfl) ?_
  refine Ls.ev (some 3) (Ev.move (show Oper.op _ = Op.move (Operand.tmp 4) from rfl) (by rfl)) (by rfl) (by rfl) ?_
  refine Ls.ev (some 5) (Ev.extract (show Oper.op _ = Op.extract (Operand.tmp 3) 0 from rfl) (by rfl) (by rfl)) (by rfl) (by rfl) ?_
  refine Ls.ev (some 6) (Ev.extract (show Oper.op _ = Op.extract (Operand.tmp 3) 1 from rfl) (by rfl) (by rfl)) (by rfl) (by rfl) ?_
  refine Ls.does (some 1) (Does.alloc (cs := [.int .i64 0, .int .i64 0, .int .i64 0, .int .i64 0, .int .i64 0, .int .i64 0, .int .i64 0, .int .i64 0, .int .i64 0, .int .i64 0, .slice none 0 0, .slice none 0 0]) (show Oper.op _ = Op.alloc 47 from rfl) (ZeroIs.mk (.agg #[.int .i64 0, .int .i64 0, .int .i64 0, .int .i64 0, .int .i64 0, .int .i64 0, .int .i64 0, .int .i64 0, .int .i64 0, .int .i64 0, .slice none 0 0, .slice none 0 0]) (by kernel_rfl) (by rfl))) (by rfl) (by rfl) ?_
  intro g1 _
  refine Ls.does none (Does.store 0 (show Oper.op _ = Op.store 47 (Operand.tmp 1) (Operand.tmp 5) from rfl) (by rfl) (by rfl) (by rfl) (by kernel_rfl) (by rfl) (by kernel_rfl) (by rfl)) (by rfl) (by rfl) ?_
  intro _ _
  refine Ls.ev (some 2) (Ev.assign (show Oper.op _ = Op.assign (Operand.tmp 6) from rfl) (by rfl)) (by rfl) (by rfl) ?_
  refine Ls.nil ?_
  refine Cd.seq ?_
  refine Cd.region ?_
  refine Ls.ev (some 7) (Ev.move (show Oper.op _ = Op.move (Operand.tmp 2) from rfl) (by rfl)) (by rfl) (by rfl) ?_
  refine Ls.ev (some 8) (Ev.eql (show Oper.op _ = Op.binOp BinOp.eql 32 (Operand.tmp 7) (Operand.const (Value.int IntKind.i64 0)) 32 from rfl) (by rfl) (by rfl)) (by rfl) (by rfl) ?_
  refine Ls.ev (some 9) (Ev.move (show Oper.op _ = Op.move (Operand.tmp 8) from rfl) (by rfl)) (by rfl) (by rfl) ?_
  refine Ls.ev (some 10) (Ev.fieldAddr (k := 0) (show Oper.op _ = Op.fieldAddr 47 (Operand.tmp 1) 0 from rfl) (by rfl) (by kernel_rfl) (by rfl)) (by rfl) (by rfl) ?_
  refine Ls.ev (some 11) (Ev.load 0 (show Oper.op _ = Op.load 45 (Operand.tmp 10) from rfl) (by rfl) (by rfl) (by kernel_rfl) (by rfl)) (by rfl) (by rfl) ?_
  refine Ls.ev (some 12) (Ev.eql (show Oper.op _ = Op.binOp BinOp.eql 45 (Operand.tmp 11) (Operand.const (Value.int IntKind.i64 4)) 45 from rfl) (by rfl) (by rfl)) (by rfl) (by rfl) ?_
  refine Ls.ev (some 13) (Ev.pickT (show Oper.op _ = Op.pick (Operand.tmp 9) (Operand.tmp 12) (Operand.const (Value.bool false)) from rfl) (by rfl) (by rfl)) (by rfl) (by rfl) ?_
  refine Ls.ev (some 14) (Ev.move (show Oper.op _ = Op.move (Operand.tmp 13) from rfl) (by rfl)) (by rfl) (by rfl) ?_
  refine Ls.ev (some 15) (Ev.fieldAddr (k := 4) (show Oper.op _ = Op.fieldAddr 47 (Operand.tmp 1) 4 from rfl) (by rfl) (by kernel_rfl) (by rfl)) (by rfl) (by rfl) ?_
  refine Ls.ev (some 16) (Ev.fieldAddr (k := 0) (show Oper.op _ = Op.fieldAddr 41 (Operand.tmp 15) 0 from rfl) (by rfl) (by kernel_rfl) (by rfl)) (by rfl) (by rfl) ?_
  refine Ls.ev (some 17) (Ev.load 0 (show Oper.op _ = Op.load 34 (Operand.tmp 16) from rfl) (by rfl) (by rfl) (by kernel_rfl) (by rfl)) (by rfl) (by rfl) ?_
  refine Ls.ev (some 18) (Ev.eql (show Oper.op _ = Op.binOp BinOp.eql 34 (Operand.tmp 17) (Operand.const (Value.int IntKind.i64 1)) 34 from rfl) (by rfl) (by rfl)) (by rfl) (by rfl) ?_
  refine Ls.ev (some 19) (Ev.pickT (show Oper.op _ = Op.pick (Operand.tmp 14) (Operand.tmp 18) (Operand.const (Value.bool false)) from rfl) (by rfl) (by rfl)) (by rfl) (by rfl) ?_
  refine Ls.ev (some 20) (Ev.move (show Oper.op _ = Op.move (Operand.tmp 19) from rfl) (by rfl)) (by rfl) (by rfl) ?_
  refine Ls.ev (some 21) (Ev.fieldAddr (k := 4) (show Oper.op _ = Op.fieldAddr 47 (Operand.tmp 1) 4 from rfl) (by rfl) (by kernel_rfl) (by rfl)) (by rfl) (by rfl) ?_
  refine Ls.ev (some 22) (Ev.fieldAddr (k := 3) (show Oper.op _ = Op.fieldAddr 41 (Operand.tmp 21) 3 from rfl) (by rfl) (by kernel_rfl) (by rfl)) (by rfl) (by rfl) ?_
  refine Ls.ev (some 23) (Ev.fieldAddr (k := 0) (show Oper.op _ = Op.fieldAddr 39 (Operand.tmp 22) 0 from rfl) (by rfl) (by kernel_rfl) (by rfl)) (by rfl) (by rfl) ?_
  refine Ls.ev (some 24) (Ev.load 0 (show Oper.op _ = Op.load 35 (Operand.tmp 23) from rfl) (by rfl) (by rfl) (by kernel_rfl) (by rfl)) (by rfl) (by rfl) ?_
  refine Ls.ev (some 25) (Ev.eql (show Oper.op _ = Op.binOp BinOp.eql 35 (Operand.tmp 24) (Operand.const (Value.int IntKind.i64 3)) 35 from rfl) (by rfl) (by rfl)) (by rfl) (by rfl) ?_
  refine Ls.ev (some 26) (Ev.pickT (show Oper.op _ = Op.pick (Operand.tmp 20) (Operand.tmp 25) (Operand.const (Value.bool false)) from rfl) (by rfl) (by rfl)) (by rfl) (by rfl) ?_
  refine Ls.ev (some 27) (Ev.move (show Oper.op _ = Op.move (Operand.tmp 26) from rfl) (by rfl)) (by rfl) (by rfl) ?_
  refine Ls.ev (some 28) (Ev.fieldAddr (k := 4) (show Oper.op _ = Op.fieldAddr 47 (Operand.tmp 1) 4 from rfl) (by rfl) (by kernel_rfl) (by rfl)) (by rfl) (by rfl) ?_
  refine Ls.ev (some 29) (Ev.fieldAddr (k := 3) (show Oper.op _ = Op.fieldAddr 41 (Operand.tmp 28) 3 from rfl) (by rfl) (by kernel_rfl) (by rfl)) (by rfl) (by rfl) ?_
  refine Ls.ev (some 30) (Ev.fieldAddr (k := 2) (show Oper.op _ = Op.fieldAddr 39 (Operand.tmp 29) 2 from rfl) (by rfl) (by kernel_rfl) (by rfl)) (by rfl) (by rfl) ?_
  refine Ls.ev (some 31) (Ev.fieldAddr (k := 1) (show Oper.op _ = Op.fieldAddr 37 (Operand.tmp 30) 1 from rfl) (by rfl) (by kernel_rfl) (by rfl)) (by rfl) (by rfl) ?_
  refine Ls.ev (some 32) (Ev.load 0 (show Oper.op _ = Op.load 29 (Operand.tmp 31) from rfl) (by rfl) (by rfl) (by kernel_rfl) (by rfl)) (by rfl) (by rfl) ?_
  refine Ls.ev (some 33) (Ev.len (show Oper.op _ = Op.call { callee := Callee.builtin Builtin.len, args := #[Operand.tmp 32], argTypes := #[29] } from rfl) (by rfl) Tryz.underlying29) (by rfl) (by rfl) ?_
  refine Ls.ev (some 34) (Ev.eql (show Oper.op _ = Op.binOp BinOp.eql 3 (Operand.tmp 33) (Operand.const (Value.int IntKind.i64 3)) 3 from rfl) (by rfl) (by rfl)) (by rfl) (by rfl) ?_
  refine Ls.ev (some 35) (Ev.pickT (show Oper.op _ = Op.pick (Operand.tmp 27) (Operand.tmp 34) (Operand.const (Value.bool false)) from rfl) (by rfl) (by rfl)) (by rfl) (by rfl) ?_
  refine Ls.ev (some 36) (Ev.move (show Oper.op _ = Op.move (Operand.tmp 35) from rfl) (by rfl)) (by rfl) (by rfl) ?_
  refine Ls.ev (some 37) (Ev.loads 0 (show Oper.op _ = Op.load 47 (Operand.tmp 1) from rfl) (by rfl) (by rfl) (n := 12) (by kernel_rfl) (by rfl) (by rfl)) (by rfl) (by rfl) ?_
  refine Ls.does (some 38) (Does.read (show Oper.op _ = Op.call { callee := Callee.value (Operand.func 12), args := #[Operand.tmp 37], argTypes := #[47] } from rfl) Tryz.func12 (by kernel_rfl) (by kernel_rfl) (hpr) (by rfl) (by rfl) ⟨ReadsIn.rd 1 (by rfl), ReadsIn.rd 2 (by rfl), anyIn 3 (by rfl), trivial⟩) (by rfl) (by rfl) ?_
  rintro _ -
  refine Ls.ev (some 39) (Ev.eqlS (show Oper.op _ = Op.binOp BinOp.eql 9 (Operand.tmp 38) (Operand.const (Value.string { data := #[114, 101, 115, 101, 114, 118, 101, 32, 48, 32, 49, 32, 53, 32, 49, 44, 50, 44, 50] })) 9 from rfl) (by rfl) (by rfl)) (by rfl) (by rfl) ?_
  refine Ls.ev (some 40) (Ev.pickT (show Oper.op _ = Op.pick (Operand.tmp 36) (Operand.tmp 39) (Operand.const (Value.bool false)) from rfl) (by rfl) (by rfl)) (by rfl) (by rfl) ?_
  refine Ls.ev (some 0) (Ev.assign (show Oper.op _ = Op.assign (Operand.tmp 40) from rfl) (by rfl)) (by rfl) (by rfl) ?_
  refine Ls.nil ?_
  refine Cd.ret ?_
  refine Ent.ret (()) (trivial) (Res.tmp (by rfl) (by rfl)) ?_ [] (by rfl) ?_
  · exact congrArg Value.bool (decide_eq_true rfl)
  · rfl
end Go.Proofs.YtemcigoelcblbaaGreatDoor
/- the document over pieces: numbers in digits, words -/
namespace Go.Proofs.YtemcigoelcblbaaGreatDoor
open Go.RowKit
theorem wrapI {n : Int} (h : in64 n) : IntKind.i64.wrap n = n := by
  rw [IntKind.wrap_i64]
  omega
theorem txt_app (a b : List UInt8) : txt a ++ txt b = txt (a ++ b) := by
  apply ByteArray.ext
  rw [ByteArray.data_append]
  exact List.append_toArray _ _
theorem txt_size (l : List UInt8) : (txt l).size = l.length := rfl
def digZ (m : Nat) : List UInt8 := if m = 0 then [] else Lib.decDigits m
theorem digZ_step {m : Nat} (h : m ≠ 0) : digZ m = digZ (m / 10) ++ [UInt8.ofNat (48 + m % 10)] := by
  unfold digZ
  rw [if_neg h, Lib.decDigits]
  split
  · rename_i h10
    rw [if_pos (by omega), List.nil_append, Nat.mod_eq_of_lt h10]
  · rw [if_neg (by omega)]
theorem digZ_len (m : Nat) (h : m < 18446744073709551616) : (digZ m).length ≤ 20 := by
  unfold digZ
  split
  · simp
  · rw [Lib.decDigits_length]
    exact Lib.nDigits_le20 m h
theorem u8nat {m : Nat} (h : m < 256) : (UInt8.ofNat m).toNat = m := by simp; omega
theorem dig_wrap (k : Nat) : IntKind.u8.wrap (48 + ((k % 10 : Nat) : Int)) = ((UInt8.ofNat (48 + k % 10)).toNat : Int) := by
  rw [u8nat (by omega)]
  have : (48 + ((k % 10 : Nat) : Int)) = ((48 + k % 10 : Nat) : Int) := by omega
  rw [this]
  generalize hm : 48 + k % 10 = m
  have h : m < 256 := by omega
  clear hm this
  unfold IntKind.wrap
  simp [IntKind.bits, IntKind.signed]
  omega
theorem digits_sl (n : Int) (hn : in64 n) : Fn Tryz.prog 74 #[.int .i64 n] [] Unit (fun _ => .string (txt (Lib.itoa n))) (fun _ => []) (fun _ => True) := by
  refine Fn.enter Tryz.func74 rfl Tryz.ntmps74 (by rfl) ?_
  intro w0
  refine Cd.seq ?_
  refine Cd.region ?_
  refine Ls.ev (some 2) (Ev.assign (show Oper.op _ = Op.assign (Operand.const (Value.string { data := #[] })) from rfl) (by rfl)) (by rfl) (by rfl) ?_
  refine Ls.nil ?_
  refine Cd.seq ?_
  refine Cd.seq ?_
  refine Cd.region ?_
  refine Ls.ev (some 6) (Ev.move (show Oper.op _ = Op.move (Operand.tmp 0) from rfl) (by rfl)) (by rfl) (by rfl) ?_
  refine Ls.ev (some 7) (Ev.eql (show Oper.op _ = Op.binOp BinOp.eql 3 (Operand.tmp 6) (Operand.const (Value.int IntKind.i64 0)) 3 from rfl) (by rfl) (by rfl)) (by rfl) (by rfl) ?_
  refine Ls.nil ?_
  refine Cd.cond _ (by rfl) (fun h2 => ?_) (fun h2 => ?_)
  · skip
    have h2 : n = 0 := of_decide_eq_true h2
    subst h2
    refine Cd.seq ?_
    refine Cd.region ?_
    refine Ls.ev (some 2) (Ev.assign (show Oper.op _ = Op.assign (Operand.const (Value.string { data := #[48] })) from rfl) (by rfl)) (by rfl) (by rfl) ?_
    refine Ls.nil ?_
    refine Cd.ret ?_
    refine Ent.ret (()) (trivial) (Res.tmp (by rfl) (by rfl)) ?_ [] (by rfl) ?_
    · exact congrArg (fun l => Value.string (txt l)) (show [48] = Lib.itoa 0 by kernel_rfl)
    · rfl
  skip
  have h2 : n ≠ 0 := of_decide_eq_false h2
  have hdl := digZ_len n.natAbs (by omega)
  refine Cd.skip ?_
  refine Cd.seq ?_
  refine Cd.region ?_
  refine Ls.ev (some 3) (Ev.assign (show Oper.op _ = Op.assign (Operand.const (Value.string { data := #[] })) from rfl) (by rfl)) (by rfl) (by rfl) ?_
  refine Ls.nil ?_
  refine Cd.seq ?_
  refine Cd.seq ?_
  refine Cd.region ?_
  refine Ls.ev (some 8) (Ev.move (show Oper.op _ = Op.move (Operand.tmp 0) from rfl) (by rfl)) (by rfl) (by rfl) ?_
  refine Ls.ev (some 4) (Ev.assign (show Oper.op _ = Op.assign (Operand.tmp 8) from rfl) (by rfl)) (by rfl) (by rfl) ?_
  refine Ls.nil ?_
  refine Cd.block ?_
  refine Cd.loop (ι := Int × List UInt8) (fun j => [(0, .int .i64 n), (3, .string (txt j.2)), (4, .int .i64 j.1)]) (fun _ => []) (fun j => in64 j.1 ∧ digZ n.natAbs = digZ j.1.natAbs ++ j.2) (fun j => j.1.natAbs) ((n, [])) (⟨hn, by simp⟩) ?_ rfl ?_
  · (repeat (first | exact trivial | refine ⟨by rfl, ?_⟩))
  rintro ⟨k, a⟩ ⟨hk, hdg⟩
  dsimp only at hk hdg ⊢
  have hal : a.length ≤ 20 := by
    have := congrArg List.length hdg
    rw [List.length_append] at this
    omega
  refine Cd.seq ?_
  refine Cd.seq ?_
  refine Cd.region ?_
  refine Ls.ev (some 9) (Ev.move (show Oper.op _ = Op.move (Operand.tmp 4) from rfl) (by rfl)) (by rfl) (by rfl) ?_
  refine Ls.ev (some 10) (Ev.neq (show Oper.op _ = Op.binOp BinOp.neq 3 (Operand.tmp 9) (Operand.const (Value.int IntKind.i64 0)) 3 from rfl) (by rfl) (by rfl)) (by rfl) (by rfl) ?_
  refine Ls.nil ?_
  refine Cd.cond _ (by rfl) (fun h3 => ?_) (fun h3 => ?_)
  · skip
    have h3 : k ≠ 0 := of_decide_eq_true h3
    have hm : (k.tmod 10).natAbs = k.natAbs % 10 := Int.natAbs_tmod k 10
    have hq : (k.tdiv 10).natAbs = k.natAbs / 10 := Int.natAbs_tdiv k 10
    refine Cd.skip ?_
    refine Cd.seq ?_
    refine Cd.block ?_
    refine Cd.seq ?_
    refine Cd.region ?_
    refine Ls.ev (some 13) (Ev.move (show Oper.op _ = Op.move (Operand.tmp 4) from rfl) (by rfl)) (by rfl) (by rfl) ?_
    refine Ls.ev (some 14) (Ev.rem (show Oper.op _ = Op.binOp BinOp.rem 3 (Operand.tmp 13) (Operand.const (Value.int IntKind.i64 10)) 3 from rfl) (by rfl) (by rfl) (by decide)) (by rfl) (by rfl) ?_
    refine Ls.ev (some 5) (Ev.assign (show Oper.op _ = Op.assign (Operand.tmp 14) from rfl) (by rfl)) (by rfl) (by rfl) ?_
    refine Ls.nil ?_
    refine Cd.seq ?_
    refine Cd.seq ?_
    refine Cd.region ?_
    refine Ls.ev (some 15) (Ev.move (show Oper.op _ = Op.move (Operand.tmp 5) from rfl) (by rfl)) (by rfl) (by rfl) ?_
    refine Ls.ev (some 16) (Ev.lss (show Oper.op _ = Op.binOp BinOp.lss 3 (Operand.tmp 15) (Operand.const (Value.int IntKind.i64 0)) 3 from rfl) (by rfl) (by rfl)) (by rfl) (by rfl) ?_
    refine Ls.nil ?_
    refine Cd.cut (ι := Unit) (fun _ => [(0, .int .i64 n), (3, .string (txt a)), (4, .int .i64 k), (5, .int .i64 ((k.natAbs % 10 : Nat) : Int))]) (fun _ => []) (fun _ => True) ?_ ?_
    · skip
      refine Cd.cond _ (by rfl) (fun h4 => ?_) (fun h4 => ?_)
      · skip
        have h4 := of_decide_eq_true h4
        refine Cd.region ?_
        refine Ls.ev (some 17) (Ev.move (show Oper.op _ = Op.move (Operand.tmp 5) from rfl) (by rfl)) (by rfl) (by rfl) ?_
        refine Ls.ev (some 18) (Ev.to (Ev.neg (show Oper.op _ = Op.unOp UnOp.neg 3 (Operand.tmp 17) from rfl) (by rfl)) (show Value.int .i64 (IntKind.i64.wrap (-(k.tmod 10))) = Value.int .i64 ((k.natAbs % 10 : Nat) : Int) by rw [wrapI (by omega)]; congr 1; omega)) (by rfl) (by rfl) ?_
        refine Ls.ev (some 5) (Ev.assign (show Oper.op _ = Op.assign (Operand.tmp 18) from rfl) (by rfl)) (by rfl) (by rfl) ?_
        refine Ls.nil ?_
        refine Ent.inv (()) ?_ ?_ ?_
        · (try dsimp only); skip
        · (repeat (first | exact trivial | refine ⟨by rfl, ?_⟩ | refine ⟨by simp only [List.length_append, List.length_cons, List.length_nil]; rfl, ?_⟩ | refine ⟨by push_cast; rfl, ?_⟩))
        · rfl
      · skip
        have h4 := of_decide_eq_false h4
        refine Cd.skip ?_
        refine Ent.inv (()) ?_ ?_ ?_
        · (try dsimp only); skip
        · (repeat (first | exact trivial | refine ⟨by rfl, ?_⟩ | refine ⟨by simp only [List.length_append, List.length_cons, List.length_nil]; rfl, ?_⟩ | refine ⟨by push_cast; rfl, ?_⟩ | refine ⟨by (show some (Value.int .i64 (k.tmod 10)) = some (Value.int .i64 ((k.natAbs % 10 : Nat) : Int)); congr 2; omega), ?_⟩))
        · rfl
    skip
    rintro _ -
    skip
    refine Cd.region ?_
    refine Ls.ev (some 19) (Ev.move (show Oper.op _ = Op.move (Operand.tmp 5) from rfl) (by rfl)) (by rfl) (by rfl) ?_
    refine Ls.ev (some 20) (Ev.addI (show Oper.op _ = Op.binOp BinOp.add 3 (Operand.const (Value.int IntKind.i64 48)) (Operand.tmp 19) 3 from rfl) (by rfl) (by rfl) (by omega)) (by rfl) (by rfl) ?_
    refine Ls.ev (some 21) (Ev.convW (m := ((UInt8.ofNat (48 + k.natAbs % 10)).toNat : Int)) (show Oper.op _ = Op.convert 3 5 (Operand.tmp 20) from rfl) (by rfl) (by kernel_rfl) Tryz.underlying5 (dig_wrap k.natAbs)) (by rfl) (by rfl) ?_
    refine Ls.does (some 22) (Does.lit (sz := 1) (show Oper.op _ = Op.buildSlice 97 1 #[(0, Operand.tmp 21)] from rfl) (by rfl) Tryz.underlying97 (by kernel_rfl) (by rfl) (by kernel_rfl)) (by rfl) (by rfl) ?_
    intro g1 _
    refine Ls.ev (some 23) (Ev.textOf (l := [UInt8.ofNat (48 + k.natAbs % 10)]) (show Oper.op _ = Op.convert 97 9 (Operand.tmp 22) from rfl) (by rfl) (ReadsIn.row 0 (by rfl)) Tryz.underlying97 Tryz.underlying5 Tryz.underlying9) (by rfl) (by rfl) ?_
    refine Ls.ev (some 24) (Ev.move (show Oper.op _ = Op.move (Operand.tmp 3) from rfl) (by rfl)) (by rfl) (by rfl) ?_
    refine Ls.ev (some 25) (Ev.to (Ev.addS (show Oper.op _ = Op.binOp BinOp.add 9 (Operand.tmp 23) (Operand.tmp 24) 9 from rfl) (by rfl) (by rfl) (by rw [txt_size, txt_size]; simp only [List.length_cons, List.length_nil]; omega)) (congrArg Value.string (txt_app _ _))) (by rfl) (by rfl) ?_
    refine Ls.ev (some 3) (Ev.assign (show Oper.op _ = Op.assign (Operand.tmp 25) from rfl) (by rfl)) (by rfl) (by rfl) ?_
    refine Ls.nil ?_
    refine Cd.region ?_
    refine Ls.ev (some 11) (Ev.move (show Oper.op _ = Op.move (Operand.tmp 4) from rfl) (by rfl)) (by rfl) (by rfl) ?_
    refine Ls.ev (some 12) (Ev.to (Ev.quo (show Oper.op _ = Op.binOp BinOp.quo 3 (Operand.tmp 11) (Operand.const (Value.int IntKind.i64 10)) 3 from rfl) (by rfl) (by rfl) (by decide)) (show Value.int .i64 (IntKind.i64.wrap (k.tdiv 10)) = Value.int .i64 (k.tdiv 10) by rw [wrapI (by omega)])) (by rfl) (by rfl) ?_
    refine Ls.ev (some 4) (Ev.assign (show Oper.op _ = Op.assign (Operand.tmp 12) from rfl) (by rfl)) (by rfl) (by rfl) ?_
    refine Ls.nil ?_
    refine Ent.pick [] (by rfl) ?_
    refine Ent.inv ((k.tdiv 10, UInt8.ofNat (48 + k.natAbs % 10) :: a)) ?_ ?_ ?_
    · (try dsimp only); exact ⟨⟨by omega, by rw [hdg, digZ_step (m := k.natAbs) (by omega), hq, List.append_assoc]; rfl⟩, by rw [hq]; exact Nat.div_lt_self (by omega) (by decide)⟩
    · (repeat (first | exact trivial | refine ⟨by rfl, ?_⟩ | refine ⟨by simp only [List.length_append, List.length_cons, List.length_nil]; rfl, ?_⟩ | refine ⟨by push_cast; rfl, ?_⟩))
    · rfl
  · skip
    have h3 : k = 0 := by have := of_decide_eq_false h3; omega
    subst h3
    have hda : Lib.decDigits n.natAbs = a := by
      unfold digZ at hdg
      rw [if_neg (by omega)] at hdg
      simpa using hdg
    refine Cd.exit ?_
    refine Cd.seq ?_
    refine Cd.seq ?_
    refine Cd.region ?_
    refine Ls.ev (some 26) (Ev.move (show Oper.op _ = Op.move (Operand.tmp 0) from rfl) (by rfl)) (by rfl) (by rfl) ?_
    refine Ls.ev (some 27) (Ev.lss (show Oper.op _ = Op.binOp BinOp.lss 3 (Operand.tmp 26) (Operand.const (Value.int IntKind.i64 0)) 3 from rfl) (by rfl) (by rfl)) (by rfl) (by rfl) ?_
    refine Ls.nil ?_
    refine Cd.cond _ (by rfl) (fun h4 => ?_) (fun h4 => ?_)
    · skip
      have h4 := of_decide_eq_true h4
      refine Cd.seq ?_
      refine Cd.region ?_
      refine Ls.ev (some 28) (Ev.move (show Oper.op _ = Op.move (Operand.tmp 3) from rfl) (by rfl)) (by rfl) (by rfl) ?_
      refine Ls.ev (some 29) (Ev.to (Ev.addS (show Oper.op _ = Op.binOp BinOp.add 9 (Operand.const (Value.string { data := #[45] })) (Operand.tmp 28) 9 from rfl) (by rfl) (by rfl) (by rw [txt_size]; show 1 + a.length ≤ _; omega)) (congrArg Value.string (txt_app [45] a))) (by rfl) (by rfl) ?_
      refine Ls.ev (some 2) (Ev.assign (show Oper.op _ = Op.assign (Operand.tmp 29) from rfl) (by rfl)) (by rfl) (by rfl) ?_
      refine Ls.nil ?_
      refine Cd.ret ?_
      refine Ent.ret (()) (trivial) (Res.tmp (by rfl) (by rfl)) ?_ [] (by rfl) ?_
      · unfold Lib.itoa
        rw [if_pos h4, hda]
        rfl
      · rfl
    · skip
      have h4 := of_decide_eq_false h4
      refine Cd.skip ?_
      refine Cd.seq ?_
      refine Cd.region ?_
      refine Ls.ev (some 30) (Ev.move (show Oper.op _ = Op.move (Operand.tmp 3) from rfl) (by rfl)) (by rfl) (by rfl) ?_
      refine Ls.ev (some 2) (Ev.assign (show Oper.op _ = Op.assign (Operand.tmp 30) from rfl) (by rfl)) (by rfl) (by rfl) ?_
      refine Ls.nil ?_
      refine Cd.ret ?_
      refine Ent.ret (()) (trivial) (Res.tmp (by rfl) (by rfl)) ?_ [] (by rfl) ?_
      · unfold Lib.itoa
        rw [if_neg h4, show n.toNat = n.natAbs by omega, hda]
      · rfl
end Go.Proofs.YtemcigoelcblbaaGreatDoor
/- the document over pieces: a text in words -/
namespace Go.Proofs.YtemcigoelcblbaaGreatDoor
open Go.RowKit
def addH (w : List UInt8) : List (List UInt8) → List (List UInt8)
  | [] => [w]
  | h :: r => (w ++ h) :: r
theorem addH_nil {l : List (List UInt8)} (h : l ≠ []) : addH [] l = l := by
  cases l with
  | nil => exact absurd rfl h
  | cons x r => rfl
theorem split_other {c x : UInt8} {t : List UInt8} {i : Nat} (hx : t[i]? = some x) (hn : x ≠ c) (w : List UInt8) : addH w (splitP c (t.drop i)) = addH (w ++ [x]) (splitP c (t.drop (i + 1))) := by
  obtain ⟨hi, rfl⟩ := List.getElem?_eq_some_iff.1 hx
  rw [List.drop_eq_getElem_cons hi, splitP, if_neg hn]
  cases hs : splitP c (t.drop (i + 1)) with
  | nil => exact absurd hs (splitP_ne _ _)
  | cons h r => simp [addH]
theorem split_same {c : UInt8} {t : List UInt8} {i : Nat} (hx : t[i]? = some c) (w : List UInt8) : addH w (splitP c (t.drop i)) = w :: addH [] (splitP c (t.drop (i + 1))) := by
  obtain ⟨hi, e⟩ := List.getElem?_eq_some_iff.1 hx
  rw [List.drop_eq_getElem_cons hi, e, splitP, if_pos rfl, addH_nil (splitP_ne _ _)]
  simp [addH]
theorem split_end {c : UInt8} {t : List UInt8} {i : Nat} (hi : t.length ≤ i) (w : List UInt8) : addH w (splitP c (t.drop i)) = [w] := by
  rw [List.drop_eq_nil_of_le hi]
  simp [splitP, addH]
theorem one_at {t : List UInt8} {i : Nat} {x : UInt8} (h : t[i]? = some x) : (t.take (i + 1)).drop i = [x] := by
  obtain ⟨hi, rfl⟩ := List.getElem?_eq_some_iff.1 h
  rw [List.drop_take, List.drop_eq_getElem_cons hi, show i + 1 - i = 1 by omega]
  rfl
theorem u8_ne {t : List UInt8} {i : Nat} {x c : UInt8} (hx : t[i]? = some x) : decide ((x.toNat : Int) ≠ (c.toNat : Int)) = decide (¬ (t[i]? = none ∨ t[i]? = some c)) := by
  refine decide_eq_decide.2 ?_
  rw [hx]
  constructor
  · rintro h (e | e)
    · cases e
    · exact h (by rw [Option.some.inj e])
  · intro h e
    exact h (.inr (congrArg some (UInt8.toNat_inj.1 (by omega))))
theorem words_next {c : UInt8} {t w : List UInt8} {i : Nat} {a : List (List UInt8)} (hi : i ≤ t.length) (hst : splitP c t = a ++ addH w (splitP c (t.drop i))) (h : t[i]? = none ∨ t[i]? = some c) : (i + 1 ≤ t.length ∧ splitP c t = (a ++ [w]) ++ addH [] (splitP c (t.drop (i + 1)))) ∨ (i + 1 = t.length + 1 ∧ splitP c t = a ++ [w]) := by
  rcases h with h | h
  · have := List.getElem?_eq_none_iff.1 h
    exact .inr ⟨by omega, by rw [hst, split_end this]⟩
  · have := (List.getElem?_eq_some_iff.1 h).1
    exact .inl ⟨by omega, by rw [hst, split_same h]; simp⟩
theorem row_nT (A : Option Addr) (n m c : Nat) (a : List (List UInt8)) (w : List UInt8) (h : m = n + 1) : row A m c 9 1 (txts (a ++ [w])) = row A (n + 1) c 9 1 (txts a ++ txts [w]) := by
  subst h
  exact row_addT A n c a w
theorem dwords_sl (c : UInt8) (t : List UInt8) (ht : t.length ≤ 1048576) : Fn Tryz.prog 16 #[.string (txt t), .int .u8 (c.toNat : Int)] [] (Option Addr × Nat) (fun p => .slice p.1 (splitP c t).length p.2) (fun p => [row p.1 (splitP c t).length p.2 9 1 (txts (splitP c t))]) (fun _ => True) := by
  have hts : (txt t).size = t.length := rfl
  have hlen := (splitP_len c t).1
  refine Fn.enter Tryz.func16 rfl Tryz.ntmps16 (by rfl) ?_
  intro w0
  refine Cd.seq ?_
  refine Cd.region ?_
  refine Ls.ev (some 4) (Ev.assign (show Oper.op _ = Op.assign (Operand.const (Value.slice none 0 0)) from rfl) (by rfl)) (by rfl) (by rfl) ?_
  refine Ls.nil ?_
  refine Cd.seq ?_
  refine Cd.region ?_
  refine Ls.ev (some 5) (Ev.assign (show Oper.op _ = Op.assign (Operand.const (Value.slice none 0 0)) from rfl) (by rfl)) (by rfl) (by rfl) ?_
  refine Ls.nil ?_
  refine Cd.seq ?_
  refine Cd.region ?_
  refine Ls.ev (some 6) (Ev.assign (show Oper.op _ = Op.assign (Operand.const (Value.string { data := #[] })) from rfl) (by rfl)) (by rfl) (by rfl) ?_
  refine Ls.nil ?_
  refine Cd.seq ?_
  refine Cd.seq ?_
  refine Cd.region ?_
  refine Ls.ev (some 7) (Ev.assign (show Oper.op _ = Op.assign (Operand.const (Value.int IntKind.i64 0)) from rfl) (by rfl)) (by rfl) (by rfl) ?_
  refine Ls.nil ?_
  refine Cd.block ?_
  refine Ent.nil 9 1 ?_
  refine Cd.loop (ι := Nat × (Option Addr × Nat) × List (List UInt8) × List UInt8) (fun p => [(0, .string (txt t)), (1, .int .u8 (c.toNat : Int)), (5, .slice p.2.1.1 p.2.2.1.length p.2.1.2), (6, .string (txt p.2.2.2)), (7, .int .i64 p.1)]) (fun p => [row p.2.1.1 p.2.2.1.length p.2.1.2 9 1 (txts p.2.2.1)]) (fun p => p.2.2.1.length ≤ p.1 ∧ p.2.2.2.length ≤ p.1 ∧ ((p.1 ≤ t.length ∧ splitP c t = p.2.2.1 ++ addH p.2.2.2 (splitP c (t.drop p.1))) ∨ (p.1 = t.length + 1 ∧ splitP c t = p.2.2.1))) (fun p => t.length + 1 - p.1) ((0, (none, 0), [], [])) (⟨Nat.le_refl _, Nat.le_refl _, .inl ⟨Nat.zero_le _, by rw [List.nil_append, List.drop_zero]; exact (addH_nil (splitP_ne c t)).symm⟩⟩) ?_ rfl ?_
  · (repeat (first | exact trivial | refine ⟨by rfl, ?_⟩))
  rintro ⟨i, q, a, w⟩ ⟨ha, hw, hst⟩
  dsimp only at ha hw hst ⊢
  refine Cd.seq ?_
  refine Cd.seq ?_
  refine Cd.region ?_
  refine Ls.ev (some 8) (Ev.move (show Oper.op _ = Op.move (Operand.tmp 7) from rfl) (by rfl)) (by rfl) (by rfl) ?_
  refine Ls.ev (some 9) (Ev.move (show Oper.op _ = Op.move (Operand.tmp 0) from rfl) (by rfl)) (by rfl) (by rfl) ?_
  refine Ls.ev (some 10) (Ev.lenS (show Oper.op _ = Op.call { callee := Callee.builtin Builtin.len, args := #[Operand.tmp 9], argTypes := #[9] } from rfl) (by rfl) Tryz.underlying9) (by rfl) (by rfl) ?_
  refine Ls.ev (some 11) (Ev.leq (show Oper.op _ = Op.binOp BinOp.leq 3 (Operand.tmp 8) (Operand.tmp 10) 3 from rfl) (by rfl) (by rfl)) (by rfl) (by rfl) ?_
  refine Ls.nil ?_
  refine Cd.cond _ (by rfl) (fun h1 => ?_) (fun h1 => ?_)
  · skip
    have h1 : i ≤ t.length := by have := of_decide_eq_true h1; omega
    have hst : splitP c t = a ++ addH w (splitP c (t.drop i)) := by
      rcases hst with ⟨_, h⟩ | ⟨h, _⟩
      · exact h
      · omega
    refine Cd.skip ?_
    refine Cd.seq ?_
    refine Cd.block ?_
    refine Cd.seq ?_
    refine Cd.seq ?_
    refine Ent.norm ([(0, .string (txt t)), (1, .int .u8 (c.toNat : Int)), (5, .slice q.1 a.length q.2), (6, .string (txt w)), (7, .int .i64 i)]) ([row q.1 a.length q.2 9 1 (txts a)]) (by repeat (first | exact trivial | refine ⟨by rfl, ?_⟩ | refine ⟨by simp only [List.length_append, List.length_cons, List.length_nil]; rfl, ?_⟩ | refine ⟨by push_cast; rfl, ?_⟩)) (by rfl) ?_
    refine Cd.cut (ι := Unit) (fun _ => [(0, .string (txt t)), (1, .int .u8 (c.toNat : Int)), (5, .slice q.1 a.length q.2), (6, .string (txt w)), (7, .int .i64 i), (24, .bool (decide (¬ (t[i]? = none ∨ t[i]? = some c))))]) (fun _ => [row q.1 a.length q.2 9 1 (txts a)]) (fun _ => True) ?_ ?_
    · skip
      refine Cd.region ?_
      refine Ls.ev (some 14) (Ev.move (show Oper.op _ = Op.move (Operand.tmp 7) from rfl) (by rfl)) (by rfl) (by rfl) ?_
      refine Ls.ev (some 15) (Ev.move (show Oper.op _ = Op.move (Operand.tmp 0) from rfl) (by rfl)) (by rfl) (by rfl) ?_
      refine Ls.ev (some 16) (Ev.lenS (show Oper.op _ = Op.call { callee := Callee.builtin Builtin.len, args := #[Operand.tmp 15], argTypes := #[9] } from rfl) (by rfl) Tryz.underlying9) (by rfl) (by rfl) ?_
      refine Ls.ev (some 17) (Ev.lss (show Oper.op _ = Op.binOp BinOp.lss 3 (Operand.tmp 14) (Operand.tmp 16) 3 from rfl) (by rfl) (by rfl)) (by rfl) (by rfl) ?_
      refine Ls.ev (some 18) (Ev.move (show Oper.op _ = Op.move (Operand.tmp 17) from rfl) (by rfl)) (by rfl) (by rfl) ?_
      refine Ent.split 18 (by rfl) (fun c1 => ?_) (fun c1 => ?_)
      · skip
        have c1 : t[i]? = none := List.getElem?_eq_none (by have := of_decide_eq_false c1; omega)
        refine Ls.pass (some 19) (by rfl) (by rfl) ?_
        refine Ls.pass (some 20) (by rfl) (by rfl) ?_
        refine Ls.pass (some 21) (by rfl) (by rfl) ?_
        refine Ls.pass (some 22) (by rfl) (by rfl) ?_
        refine Ls.pass (some 23) (by rfl) (by rfl) ?_
        refine Ls.ev (some 24) (Ev.pickF (show Oper.op _ = Op.pick (Operand.tmp 18) (Operand.tmp 23) (Operand.const (Value.bool false)) from rfl) (by rfl) (by rfl)) (by rfl) (by rfl) ?_
        refine Ls.nil ?_
        skip
        refine Ent.inv (()) ?_ ?_ ?_
        · (try dsimp only); skip
        · (repeat (first | exact trivial | refine ⟨by rfl, ?_⟩ | refine ⟨by simp only [List.length_append, List.length_cons, List.length_nil]; rfl, ?_⟩ | refine ⟨by push_cast; rfl, ?_⟩ | refine ⟨by exact congrArg (fun b => some (Value.bool b)) (decide_eq_false (fun h => h (.inl c1))).symm, ?_⟩))
        · rfl
      · skip
        obtain ⟨x, hx⟩ := get_of_lt (show i < t.length by have := of_decide_eq_true c1; omega)
        refine Ls.ev (some 19) (Ev.move (show Oper.op _ = Op.move (Operand.tmp 0) from rfl) (by rfl)) (by rfl) (by rfl) ?_
        refine Ls.ev (some 20) (Ev.move (show Oper.op _ = Op.move (Operand.tmp 7) from rfl) (by rfl)) (by rfl) (by rfl) ?_
        refine Ls.ev (some 21) (Ev.indexT (show Oper.op _ = Op.index 9 (Operand.tmp 19) (Operand.tmp 20) from rfl) (by rfl) (by rfl) Tryz.underlying9 hx) (by rfl) (by rfl) ?_
        refine Ls.ev (some 22) (Ev.move (show Oper.op _ = Op.move (Operand.tmp 1) from rfl) (by rfl)) (by rfl) (by rfl) ?_
        refine Ls.ev (some 23) (Ev.neq (show Oper.op _ = Op.binOp BinOp.neq 5 (Operand.tmp 21) (Operand.tmp 22) 5 from rfl) (by rfl) (by rfl)) (by rfl) (by rfl) ?_
        refine Ls.ev (some 24) (Ev.pickT (show Oper.op _ = Op.pick (Operand.tmp 18) (Operand.tmp 23) (Operand.const (Value.bool false)) from rfl) (by rfl) (by rfl)) (by rfl) (by rfl) ?_
        refine Ls.nil ?_
        refine Ent.inv (()) ?_ ?_ ?_
        · (try dsimp only); skip
        · (repeat (first | exact trivial | refine ⟨by rfl, ?_⟩ | refine ⟨by simp only [List.length_append, List.length_cons, List.length_nil]; rfl, ?_⟩ | refine ⟨by push_cast; rfl, ?_⟩ | refine ⟨by exact congrArg (fun b => some (Value.bool b)) (u8_ne hx), ?_⟩))
        · rfl
    skip
    rintro _ -
    refine Cd.cond _ (by rfl) (fun h2 => ?_) (fun h2 => ?_)
    · skip
      have h2 := of_decide_eq_true h2
      obtain ⟨x, hx⟩ : ∃ x, t[i]? = some x := by
        cases hh : t[i]? with
        | none => exact absurd (.inl hh) h2
        | some x => exact ⟨x, rfl⟩
      have hi := (List.getElem?_eq_some_iff.1 hx).1
      rw [split_other hx (fun e => h2 (.inr (by rw [hx, e])))] at hst
      skip
      refine Cd.seq ?_
      refine Cd.region ?_
      refine Ls.ev (some 25) (Ev.move (show Oper.op _ = Op.move (Operand.tmp 6) from rfl) (by rfl)) (by rfl) (by rfl) ?_
      refine Ls.ev (some 26) (Ev.move (show Oper.op _ = Op.move (Operand.tmp 0) from rfl) (by rfl)) (by rfl) (by rfl) ?_
      refine Ls.ev (some 27) (Ev.move (show Oper.op _ = Op.move (Operand.tmp 7) from rfl) (by rfl)) (by rfl) (by rfl) ?_
      refine Ls.ev (some 28) (Ev.move (show Oper.op _ = Op.move (Operand.tmp 7) from rfl) (by rfl)) (by rfl) (by rfl) ?_
      refine Ls.ev (some 29) (Ev.addN (b := 1) (show Oper.op _ = Op.binOp BinOp.add 3 (Operand.tmp 28) (Operand.const (Value.int IntKind.i64 1)) 3 from rfl) (by rfl) (by rfl) (by omega)) (by rfl) (by rfl) ?_
      refine Ls.ev (some 30) (Ev.to (Ev.sliceLHT (show Oper.op _ = Op.slice 9 (Operand.tmp 26) (some (Operand.tmp 27)) (some (Operand.tmp 29)) none from rfl) (by rfl) (by rfl) (by rfl) Tryz.underlying9 (Nat.le_succ i) (by omega)) (congrArg (fun l => Value.string (txt l)) (one_at hx))) (by rfl) (by rfl) ?_
      refine Ls.ev (some 31) (Ev.to (Ev.addS (show Oper.op _ = Op.binOp BinOp.add 9 (Operand.tmp 25) (Operand.tmp 30) 9 from rfl) (by rfl) (by rfl) (by rw [txt_size, txt_size]; simp only [List.length_cons, List.length_nil]; omega)) (congrArg Value.string (txt_app _ _))) (by rfl) (by rfl) ?_
      refine Ls.ev (some 6) (Ev.assign (show Oper.op _ = Op.assign (Operand.tmp 31) from rfl) (by rfl)) (by rfl) (by rfl) ?_
      refine Ls.nil ?_
      refine Cd.exit ?_
      refine Cd.region ?_
      refine Ls.ev (some 12) (Ev.move (show Oper.op _ = Op.move (Operand.tmp 7) from rfl) (by rfl)) (by rfl) (by rfl) ?_
      refine Ls.ev (some 13) (Ev.addN (b := 1) (show Oper.op _ = Op.binOp BinOp.add 3 (Operand.tmp 12) (Operand.const (Value.int IntKind.i64 1)) 3 from rfl) (by rfl) (by rfl) (by omega)) (by rfl) (by rfl) ?_
      refine Ls.ev (some 7) (Ev.assign (show Oper.op _ = Op.assign (Operand.tmp 13) from rfl) (by rfl)) (by rfl) (by rfl) ?_
      refine Ls.nil ?_
      refine Ent.inv ((i + 1, q, a, w ++ [x])) ?_ ?_ ?_
      · (try dsimp only); exact ⟨⟨by omega, by simp; omega, .inl ⟨by omega, hst⟩⟩, by omega⟩
      · (repeat (first | exact trivial | refine ⟨by rfl, ?_⟩ | refine ⟨by simp only [List.length_append, List.length_cons, List.length_nil]; rfl, ?_⟩ | refine ⟨by push_cast; rfl, ?_⟩))
      · rfl
    · skip
      have h2 := Decidable.not_not.1 (of_decide_eq_false h2)
      skip
      refine Cd.skip ?_
      refine Cd.seq ?_
      refine Cd.region ?_
      refine Ls.ev (some 32) (Ev.move (show Oper.op _ = Op.move (Operand.tmp 5) from rfl) (by rfl)) (by rfl) (by rfl) ?_
      refine Ls.ev (some 33) (Ev.move (show Oper.op _ = Op.move (Operand.tmp 6) from rfl) (by rfl)) (by rfl) (by rfl) ?_
      refine Ls.does (some 34) (Does.lit (sz := 1) (show Oper.op _ = Op.buildSlice 54 1 #[(0, Operand.tmp 33)] from rfl) (by rfl) Tryz.underlying54 (by kernel_rfl) (by rfl) (by kernel_rfl)) (by rfl) (by rfl) ?_
      intro g1 _
      refine Ls.does (some 35) (Does.app (xs := txts a) (news := txts [w]) 1 (show Oper.op _ = Op.call { callee := Callee.builtin Builtin.append, args := #[Operand.tmp 32, Operand.tmp 34], argTypes := #[54, 54] } from rfl) (by rfl) (by rfl) (by rfl) (ReadsIn.row 0 (by rfl)) elem_str (one_strs _) (show (a.length + 1) * 16 ≤ 140737488355328 by omega)) (by rfl) (by rfl) ?_
      rintro q' -
      refine Ls.ev (some 5) (Ev.assign (show Oper.op _ = Op.assign (Operand.tmp 35) from rfl) (by rfl)) (by rfl) (by rfl) ?_
      refine Ls.nil ?_
      refine Cd.region ?_
      refine Ls.ev (some 6) (Ev.assign (show Oper.op _ = Op.assign (Operand.const (Value.string { data := #[] })) from rfl) (by rfl)) (by rfl) (by rfl) ?_
      refine Ls.nil ?_
      refine Cd.region ?_
      refine Ls.ev (some 12) (Ev.move (show Oper.op _ = Op.move (Operand.tmp 7) from rfl) (by rfl)) (by rfl) (by rfl) ?_
      refine Ls.ev (some 13) (Ev.addN (b := 1) (show Oper.op _ = Op.binOp BinOp.add 3 (Operand.tmp 12) (Operand.const (Value.int IntKind.i64 1)) 3 from rfl) (by rfl) (by rfl) (by omega)) (by rfl) (by rfl) ?_
      refine Ls.ev (some 7) (Ev.assign (show Oper.op _ = Op.assign (Operand.tmp 13) from rfl) (by rfl)) (by rfl) (by rfl) ?_
      refine Ls.nil ?_
      refine Ent.pick [1] (by rfl) ?_
      refine Ent.inv ((i + 1, q', a ++ [w], [])) ?_ ?_ ?_
      · (try dsimp only); exact ⟨⟨by simp; omega, Nat.zero_le _, words_next h1 hst h2⟩, by omega⟩
      · (repeat (first | exact trivial | refine ⟨by rfl, ?_⟩ | refine ⟨by simp only [List.length_append, List.length_cons, List.length_nil]; rfl, ?_⟩ | refine ⟨by push_cast; rfl, ?_⟩))
      · exact congrArg (fun C => [C]) (row_nT q'.1 a.length (a ++ [w]).length q'.2 a w (by simp)).symm
  · skip
    have h1 := of_decide_eq_false h1
    have hst : splitP c t = a := by
      rcases hst with ⟨h, _⟩ | ⟨_, h⟩
      · omega
      · exact h
    rw [hst]
    refine Cd.exit ?_
    refine Cd.seq ?_
    refine Cd.region ?_
    refine Ls.ev (some 36) (Ev.move (show Oper.op _ = Op.move (Operand.tmp 5) from rfl) (by rfl)) (by rfl) (by rfl) ?_
    refine Ls.ev (some 4) (Ev.assign (show Oper.op _ = Op.assign (Operand.tmp 36) from rfl) (by rfl)) (by rfl) (by rfl) ?_
    refine Ls.nil ?_
    refine Cd.ret ?_
    refine Ent.ret (q) (trivial) (Res.tmp (by rfl) (by rfl)) ?_ [0] (by rfl) ?_
    · rfl
    · rfl
theorem dfilled_sl (A : Option Addr) (c : Nat) (l : List (List UInt8)) (hl : l.length ≤ 1048577) : Fn Tryz.prog 29 #[.slice A l.length c] [rd A l.length 1 (txts l)] (Option Addr × Nat) (fun p => .slice p.1 (l.filter fun w => decide (w ≠ [])).length p.2) (fun p => [row p.1 (l.filter fun w => decide (w ≠ [])).length p.2 9 1 (txts (l.filter fun w => decide (w ≠ [])))]) (fun _ => True) := by
  refine Fn.enter Tryz.func29 rfl Tryz.ntmps29 (by rfl) ?_
  intro w0
  refine Cd.seq ?_
  refine Cd.region ?_
  refine Ls.ev (some 2) (Ev.assign (show Oper.op _ = Op.assign (Operand.const (Value.slice none 0 0)) from rfl) (by rfl)) (by rfl) (by rfl) ?_
  refine Ls.nil ?_
  refine Cd.seq ?_
  refine Cd.region ?_
  refine Ls.ev (some 3) (Ev.assign (show Oper.op _ = Op.assign (Operand.const (Value.slice none 0 0)) from rfl) (by rfl)) (by rfl) (by rfl) ?_
  refine Ls.nil ?_
  refine Cd.seq ?_
  refine Cd.seq ?_
  refine Cd.region ?_
  refine Ls.ev (some 4) (Ev.assign (show Oper.op _ = Op.assign (Operand.const (Value.int IntKind.i64 0)) from rfl) (by rfl)) (by rfl) (by rfl) ?_
  refine Ls.nil ?_
  refine Cd.block ?_
  refine Ent.nil 9 1 ?_
  refine Cd.loop (ι := Nat × (Option Addr × Nat) × List (List UInt8)) (fun p => [(0, .slice A l.length c), (3, .slice p.2.1.1 p.2.2.length p.2.1.2), (4, .int .i64 p.1)]) (fun p => [row p.2.1.1 p.2.2.length p.2.1.2 9 1 (txts p.2.2), rd A l.length 1 (txts l)]) (fun p => p.1 ≤ l.length ∧ p.2.2.length ≤ p.1 ∧ p.2.2 = (l.take p.1).filter (fun w => decide (w ≠ []))) (fun p => l.length - p.1) ((0, (none, 0), [])) (⟨Nat.zero_le _, Nat.le_refl _, rfl⟩) ?_ rfl ?_
  · (repeat (first | exact trivial | refine ⟨by rfl, ?_⟩))
  rintro ⟨i, q, a⟩ ⟨hi, ha, hst⟩
  dsimp only at hi ha hst ⊢
  refine Cd.seq ?_
  refine Cd.seq ?_
  refine Cd.region ?_
  refine Ls.ev (some 5) (Ev.move (show Oper.op _ = Op.move (Operand.tmp 4) from rfl) (by rfl)) (by rfl) (by rfl) ?_
  refine Ls.ev (some 6) (Ev.move (show Oper.op _ = Op.move (Operand.tmp 0) from rfl) (by rfl)) (by rfl) (by rfl) ?_
  refine Ls.ev (some 7) (Ev.len (show Oper.op _ = Op.call { callee := Callee.builtin Builtin.len, args := #[Operand.tmp 6], argTypes := #[54] } from rfl) (by rfl) Tryz.underlying54) (by rfl) (by rfl) ?_
  refine Ls.ev (some 8) (Ev.lss (show Oper.op _ = Op.binOp BinOp.lss 3 (Operand.tmp 5) (Operand.tmp 7) 3 from rfl) (by rfl) (by rfl)) (by rfl) (by rfl) ?_
  refine Ls.nil ?_
  refine Cd.cond _ (by rfl) (fun h1 => ?_) (fun h1 => ?_)
  · skip
    have hlt : i < l.length := by have := of_decide_eq_true h1; omega
    obtain ⟨w, hw⟩ := get_of_lt hlt
    have hwt : (l.map txt)[i]? = some (txt w) := by rw [List.getElem?_map, hw]; rfl
    refine Ent.rdSome 1 (by rfl) (by omega) (fun ad had => ?_)
    subst had
    refine Cd.skip ?_
    refine Cd.seq ?_
    refine Cd.block ?_
    refine Cd.seq ?_
    refine Cd.region ?_
    refine Ls.ev (some 11) (Ev.move (show Oper.op _ = Op.move (Operand.tmp 0) from rfl) (by rfl)) (by rfl) (by rfl) ?_
    refine Ls.ev (some 12) (Ev.move (show Oper.op _ = Op.move (Operand.tmp 4) from rfl) (by rfl)) (by rfl) (by rfl) ?_
    refine Ls.ev (some 13) (Ev.indexAt (sz := 1) (show Oper.op _ = Op.indexAddr 54 (Operand.tmp 11) (Operand.tmp 12) from rfl) (by rfl) (by rfl) Tryz.underlying54 (by kernel_rfl) (by omega)) (by rfl) (by rfl) ?_
    refine Ls.ev (some 14) (Ev.loadStr (show Oper.op _ = Op.load 9 (Operand.tmp 13) from rfl) (by rfl) (ReadsIn.rd 1 (by rfl)) (by kernel_rfl) (by assumption)) (by rfl) (by rfl) ?_
    refine Ls.ev (some 15) (Ev.neqS (show Oper.op _ = Op.binOp BinOp.neq 9 (Operand.tmp 14) (Operand.const (Value.string { data := #[] })) 9 from rfl) (by rfl) (by rfl)) (by rfl) (by rfl) ?_
    refine Ls.nil ?_
    refine Cd.cond _ (by rfl) (fun h2 => ?_) (fun h2 => ?_)
    · skip
      have h2 : w ≠ [] := fun e => (of_decide_eq_true h2) (by rw [e]; rfl)
      refine Cd.region ?_
      refine Ls.ev (some 16) (Ev.move (show Oper.op _ = Op.move (Operand.tmp 3) from rfl) (by rfl)) (by rfl) (by rfl) ?_
      refine Ls.ev (some 17) (Ev.move (show Oper.op _ = Op.move (Operand.tmp 0) from rfl) (by rfl)) (by rfl) (by rfl) ?_
      refine Ls.ev (some 18) (Ev.move (show Oper.op _ = Op.move (Operand.tmp 4) from rfl) (by rfl)) (by rfl) (by rfl) ?_
      refine Ls.ev (some 19) (Ev.indexAt (sz := 1) (show Oper.op _ = Op.indexAddr 54 (Operand.tmp 17) (Operand.tmp 18) from rfl) (by rfl) (by rfl) Tryz.underlying54 (by kernel_rfl) (by omega)) (by rfl) (by rfl) ?_
      refine Ls.ev (some 20) (Ev.loadStr (show Oper.op _ = Op.load 9 (Operand.tmp 19) from rfl) (by rfl) (ReadsIn.rd 1 (by rfl)) (by kernel_rfl) (by assumption)) (by rfl) (by rfl) ?_
      refine Ls.does (some 21) (Does.lit (sz := 1) (show Oper.op _ = Op.buildSlice 54 1 #[(0, Operand.tmp 20)] from rfl) (by rfl) Tryz.underlying54 (by kernel_rfl) (by rfl) (by kernel_rfl)) (by rfl) (by rfl) ?_
      intro g1 _
      refine Ls.does (some 22) (Does.app (xs := txts a) (news := txts [w]) 1 (show Oper.op _ = Op.call { callee := Callee.builtin Builtin.append, args := #[Operand.tmp 16, Operand.tmp 21], argTypes := #[54, 54] } from rfl) (by rfl) (by rfl) (by rfl) (ReadsIn.row 0 (by rfl)) elem_str (one_strs _) (show (a.length + 1) * 16 ≤ 140737488355328 by omega)) (by rfl) (by rfl) ?_
      rintro q' -
      refine Ls.ev (some 3) (Ev.assign (show Oper.op _ = Op.assign (Operand.tmp 22) from rfl) (by rfl)) (by rfl) (by rfl) ?_
      refine Ls.nil ?_
      refine Cd.region ?_
      refine Ls.ev (some 9) (Ev.move (show Oper.op _ = Op.move (Operand.tmp 4) from rfl) (by rfl)) (by rfl) (by rfl) ?_
      refine Ls.ev (some 10) (Ev.addI (show Oper.op _ = Op.binOp BinOp.add 3 (Operand.tmp 9) (Operand.const (Value.int IntKind.i64 1)) 3 from rfl) (by rfl) (by rfl) (by omega)) (by rfl) (by rfl) ?_
      refine Ls.ev (some 4) (Ev.assign (show Oper.op _ = Op.assign (Operand.tmp 10) from rfl) (by rfl)) (by rfl) (by rfl) ?_
      refine Ls.nil ?_
      refine Ent.pick [1, 2] (by rfl) ?_
      refine Ent.inv ((i + 1, q', a ++ [w])) ?_ ?_ ?_
      · (try dsimp only); exact ⟨⟨hlt, by simp; omega, by rw [List.take_add_one, hw, List.filter_append, hst]; simp [h2]⟩, by omega⟩
      · (repeat (first | exact trivial | refine ⟨by rfl, ?_⟩ | refine ⟨by simp only [List.length_append, List.length_cons, List.length_nil]; rfl, ?_⟩ | refine ⟨by push_cast; rfl, ?_⟩))
      · exact congrArg (fun C => [C, rd (some ad) l.length 1 (txts l)]) (row_nT q'.1 a.length (a ++ [w]).length q'.2 a w (by simp)).symm
    · skip
      have h2 : w = [] := by
        have := of_decide_eq_false h2
        exact txt_eq_iff.1 (Decidable.not_not.1 this)
      refine Cd.skip ?_
      refine Cd.region ?_
      refine Ls.ev (some 9) (Ev.move (show Oper.op _ = Op.move (Operand.tmp 4) from rfl) (by rfl)) (by rfl) (by rfl) ?_
      refine Ls.ev (some 10) (Ev.addI (show Oper.op _ = Op.binOp BinOp.add 3 (Operand.tmp 9) (Operand.const (Value.int IntKind.i64 1)) 3 from rfl) (by rfl) (by rfl) (by omega)) (by rfl) (by rfl) ?_
      refine Ls.ev (some 4) (Ev.assign (show Oper.op _ = Op.assign (Operand.tmp 10) from rfl) (by rfl)) (by rfl) (by rfl) ?_
      refine Ls.nil ?_
      refine Ent.inv ((i + 1, q, a)) ?_ ?_ ?_
      · (try dsimp only); exact ⟨⟨hlt, by omega, by rw [List.take_add_one, hw, List.filter_append, hst]; simp [h2]⟩, by omega⟩
      · (repeat (first | exact trivial | refine ⟨by rfl, ?_⟩ | refine ⟨by simp only [List.length_append, List.length_cons, List.length_nil]; rfl, ?_⟩ | refine ⟨by push_cast; rfl, ?_⟩))
      · rfl
  · skip
    have hil : i = l.length := by have := of_decide_eq_false h1; omega
    subst hil
    rw [List.take_length] at hst
    subst hst
    refine Cd.exit ?_
    refine Cd.seq ?_
    refine Cd.region ?_
    refine Ls.ev (some 23) (Ev.move (show Oper.op _ = Op.move (Operand.tmp 3) from rfl) (by rfl)) (by rfl) (by rfl) ?_
    refine Ls.ev (some 2) (Ev.assign (show Oper.op _ = Op.assign (Operand.tmp 23) from rfl) (by rfl)) (by rfl) (by rfl) ?_
    refine Ls.nil ?_
    refine Cd.ret ?_
    refine Ent.ret (q) (trivial) (Res.tmp (by rfl) (by rfl)) ?_ [0] (by rfl) ?_
    · rfl
    · rfl
end Go.Proofs.YtemcigoelcblbaaGreatDoor
/- the document over pieces: numbers and lists read and written -/
namespace Go.Proofs.YtemcigoelcblbaaGreatDoor
open Go.RowKit
theorem u8_eq {x c : UInt8} : ((x.toNat : Int) = (c.toNat : Int)) ↔ x = c := ⟨fun h => UInt8.toNat_inj.1 (by omega), fun h => by rw [h]⟩
/-- The digits among the first i bytes. -/
def bodyTo (w : List UInt8) (i : Nat) : List UInt8 := (w.take i).drop (if negB w then 1 else 0)
theorem body_skip {w : List UInt8} (h : negB w = true) : bodyTo w 1 = bodyTo w 0 := by
  unfold bodyTo
  rw [h]
  cases w <;> rfl
theorem body_step {w : List UInt8} {i : Nat} {x : UInt8} (hx : w[i]? = some x) (h : ¬ (i = 0 ∧ negB w = true)) : bodyTo w (i + 1) = bodyTo w i ++ [x] := by
  unfold bodyTo
  have hi := (List.getElem?_eq_some_iff.1 hx).1
  rw [List.take_add_one, hx]
  split
  · rename_i hn
    rw [List.drop_append_of_le_length (by rw [List.length_take]; have : i ≠ 0 := fun e => h ⟨e, hn⟩; omega)]
    rfl
  · rfl
theorem body_all (w : List UInt8) : bodyTo w w.length = bodyB w := by
  unfold bodyTo bodyB
  rw [List.take_length]
theorem body_mem {w : List UInt8} {i : Nat} {x : UInt8} (hx : w[i]? = some x) (h : ¬ (i = 0 ∧ negB w = true)) : x ∈ bodyB w := by
  have hi := (List.getElem?_eq_some_iff.1 hx).1
  unfold bodyB
  refine List.mem_of_getElem? (i := i - (if negB w then 1 else 0)) ?_
  rw [List.getElem?_drop, ← hx]
  congr 1
  split
  · rename_i hn
    have : i ≠ 0 := fun e => h ⟨e, hn⟩
    omega
  · omega
theorem head_get {w : List UInt8} {x : UInt8} (h : w[0]? = some x) : decide ((x.toNat : Int) = 45) = negB w := by
  unfold negB
  rw [List.head?_eq_getElem?, h]
  refine decide_eq_decide.2 ?_
  rw [Option.some_inj]
  exact u8_eq (c := 45)
theorem zero_neg {i : Nat} {b : Bool} (h : i = 0) : b = decide (i = 0 ∧ b = true) := by
  subst h
  cases b <;> rfl
theorem u8_dig {x : UInt8} (h : 48 ≤ x.toNat) : IntKind.u8.wrap ((x.toNat : Int) - 48) = (x.toNat : Int) - 48 := by
  have h2 : x.toNat < 256 := x.toNat_lt
  generalize x.toNat = m at h h2
  unfold IntKind.wrap
  simp [IntKind.bits, IntKind.signed]
  omega
theorem dnumber_sl (w : List UInt8) (hw : w.length ≤ 1048576) : Fn Tryz.prog 58 #[.string (txt w)] [] Int (fun n => .tuple #[.int .i64 n, .bool (numP w).isSome]) (fun _ => []) (fun n => ∀ v, numP w = some v → v = n) := by
  have hws : (txt w).size = w.length := rfl
  refine Fn.enter Tryz.func58 rfl Tryz.ntmps58 (by rfl) ?_
  intro w0
  refine Cd.seq ?_
  refine Cd.region ?_
  refine Ls.ev (some 2) (Ev.assign (show Oper.op _ = Op.assign (Operand.const (Value.int IntKind.i64 0)) from rfl) (by rfl)) (by rfl) (by rfl) ?_
  refine Ls.ev (some 3) (Ev.assign (show Oper.op _ = Op.assign (Operand.const (Value.bool false)) from rfl) (by rfl)) (by rfl) (by rfl) ?_
  refine Ls.nil ?_
  refine Cd.seq ?_
  refine Cd.region ?_
  refine Ls.ev (some 4) (Ev.assign (show Oper.op _ = Op.assign (Operand.const (Value.int IntKind.i64 0)) from rfl) (by rfl)) (by rfl) (by rfl) ?_
  refine Ls.nil ?_
  refine Cd.seq ?_
  refine Cd.cut (ι := Unit) (fun _ => [(0, .string (txt w)), (4, .int .i64 0), (5, .bool (negB w))]) (fun _ => []) (fun _ => True) ?_ ?_
  · skip
    refine Cd.region ?_
    refine Ls.ev (some 8) (Ev.move (show Oper.op _ = Op.move (Operand.tmp 0) from rfl) (by rfl)) (by rfl) (by rfl) ?_
    refine Ls.ev (some 9) (Ev.lenS (show Oper.op _ = Op.call { callee := Callee.builtin Builtin.len, args := #[Operand.tmp 8], argTypes := #[9] } from rfl) (by rfl) Tryz.underlying9) (by rfl) (by rfl) ?_
    refine Ls.ev (some 10) (Ev.gtr (show Oper.op _ = Op.binOp BinOp.gtr 3 (Operand.tmp 9) (Operand.const (Value.int IntKind.i64 0)) 3 from rfl) (by rfl) (by rfl)) (by rfl) (by rfl) ?_
    refine Ls.ev (some 11) (Ev.move (show Oper.op _ = Op.move (Operand.tmp 10) from rfl) (by rfl)) (by rfl) (by rfl) ?_
    refine Ent.split 11 (by rfl) (fun c1 => ?_) (fun c1 => ?_)
    · skip
      have c1 : w = [] := List.eq_nil_of_length_eq_zero (by have := of_decide_eq_false c1; omega)
      refine Ls.pass (some 12) (by rfl) (by rfl) ?_
      refine Ls.pass (some 13) (by rfl) (by rfl) ?_
      refine Ls.pass (some 14) (by rfl) (by rfl) ?_
      refine Ls.ev (some 15) (Ev.pickF (show Oper.op _ = Op.pick (Operand.tmp 11) (Operand.tmp 14) (Operand.const (Value.bool false)) from rfl) (by rfl) (by rfl)) (by rfl) (by rfl) ?_
      refine Ls.ev (some 5) (Ev.assign (show Oper.op _ = Op.assign (Operand.tmp 15) from rfl) (by rfl)) (by rfl) (by rfl) ?_
      refine Ls.nil ?_
      skip
      refine Ent.inv (()) ?_ ?_ ?_
      · (try dsimp only); skip
      · (repeat (first | exact trivial | refine ⟨by rfl, ?_⟩ | refine ⟨by simp only [List.length_append, List.length_cons, List.length_nil]; rfl, ?_⟩ | refine ⟨by push_cast; rfl, ?_⟩ | refine ⟨by (rw [c1]; rfl), ?_⟩))
      · rfl
    · skip
      obtain ⟨x, hx⟩ := get_of_lt (show 0 < w.length by have := of_decide_eq_true c1; omega)
      refine Ls.ev (some 12) (Ev.move (show Oper.op _ = Op.move (Operand.tmp 0) from rfl) (by rfl)) (by rfl) (by rfl) ?_
      refine Ls.ev (some 13) (Ev.indexT (k := 0) (show Oper.op _ = Op.index 9 (Operand.tmp 12) (Operand.const (Value.int IntKind.i64 0)) from rfl) (by rfl) (by rfl) Tryz.underlying9 (by assumption)) (by rfl) (by rfl) ?_
      refine Ls.ev (some 14) (Ev.eql (show Oper.op _ = Op.binOp BinOp.eql 5 (Operand.tmp 13) (Operand.const (Value.int IntKind.u8 45)) 5 from rfl) (by rfl) (by rfl)) (by rfl) (by rfl) ?_
      refine Ls.ev (some 15) (Ev.pickT (show Oper.op _ = Op.pick (Operand.tmp 11) (Operand.tmp 14) (Operand.const (Value.bool false)) from rfl) (by rfl) (by rfl)) (by rfl) (by rfl) ?_
      refine Ls.ev (some 5) (Ev.assign (show Oper.op _ = Op.assign (Operand.tmp 15) from rfl) (by rfl)) (by rfl) (by rfl) ?_
      refine Ls.nil ?_
      refine Ent.inv (()) ?_ ?_ ?_
      · (try dsimp only); skip
      · (repeat (first | exact trivial | refine ⟨by rfl, ?_⟩ | refine ⟨by simp only [List.length_append, List.length_cons, List.length_nil]; rfl, ?_⟩ | refine ⟨by push_cast; rfl, ?_⟩ | refine ⟨by exact congrArg (fun b => some (Value.bool b)) (head_get hx), ?_⟩))
      · rfl
  skip
  rintro _ -
  refine Cd.seq ?_
  refine Cd.seq ?_
  refine Cd.region ?_
  refine Ls.ev (some 6) (Ev.assign (show Oper.op _ = Op.assign (Operand.const (Value.int IntKind.i64 0)) from rfl) (by rfl)) (by rfl) (by rfl) ?_
  refine Ls.nil ?_
  refine Cd.block ?_
  refine Cd.loop (ι := Nat × Int) (fun p => [(0, .string (txt w)), (4, .int .i64 p.2), (5, .bool (negB w)), (6, .int .i64 p.1)]) (fun _ => []) (fun p => p.1 ≤ w.length ∧ p.2 = docN (negB w) (bodyTo w p.1)) (fun p => w.length - p.1) ((0, 0)) (⟨Nat.zero_le _, by unfold bodyTo; simp [docN]⟩) ?_ rfl ?_
  · (repeat (first | exact trivial | refine ⟨by rfl, ?_⟩))
  rintro ⟨i, n⟩ ⟨hi, hn⟩
  dsimp only at hi hn ⊢
  refine Cd.seq ?_
  refine Cd.seq ?_
  refine Cd.region ?_
  refine Ls.ev (some 16) (Ev.move (show Oper.op _ = Op.move (Operand.tmp 6) from rfl) (by rfl)) (by rfl) (by rfl) ?_
  refine Ls.ev (some 17) (Ev.move (show Oper.op _ = Op.move (Operand.tmp 0) from rfl) (by rfl)) (by rfl) (by rfl) ?_
  refine Ls.ev (some 18) (Ev.lenS (show Oper.op _ = Op.call { callee := Callee.builtin Builtin.len, args := #[Operand.tmp 17], argTypes := #[9] } from rfl) (by rfl) Tryz.underlying9) (by rfl) (by rfl) ?_
  refine Ls.ev (some 19) (Ev.lss (show Oper.op _ = Op.binOp BinOp.lss 3 (Operand.tmp 16) (Operand.tmp 18) 3 from rfl) (by rfl) (by rfl)) (by rfl) (by rfl) ?_
  refine Ls.nil ?_
  refine Cd.cond _ (by rfl) (fun h1 => ?_) (fun h1 => ?_)
  · skip
    obtain ⟨x, hx⟩ := get_of_lt (show i < w.length by have := of_decide_eq_true h1; omega)
    have hlt := (List.getElem?_eq_some_iff.1 hx).1
    refine Cd.skip ?_
    refine Cd.seq ?_
    refine Cd.block ?_
    refine Cd.seq ?_
    refine Cd.seq ?_
    refine Ent.norm ([(0, .string (txt w)), (4, .int .i64 n), (5, .bool (negB w)), (6, .int .i64 i)]) ([]) (by repeat (first | exact trivial | refine ⟨by rfl, ?_⟩ | refine ⟨by simp only [List.length_append, List.length_cons, List.length_nil]; rfl, ?_⟩ | refine ⟨by push_cast; rfl, ?_⟩)) (by rfl) ?_
    refine Cd.cut (ι := Unit) (fun _ => [(0, .string (txt w)), (4, .int .i64 n), (5, .bool (negB w)), (6, .int .i64 i), (26, .bool (decide (i = 0 ∧ negB w = true)))]) (fun _ => []) (fun _ => True) ?_ ?_
    · skip
      refine Cd.region ?_
      refine Ls.ev (some 22) (Ev.move (show Oper.op _ = Op.move (Operand.tmp 6) from rfl) (by rfl)) (by rfl) (by rfl) ?_
      refine Ls.ev (some 23) (Ev.eql (show Oper.op _ = Op.binOp BinOp.eql 3 (Operand.tmp 22) (Operand.const (Value.int IntKind.i64 0)) 3 from rfl) (by rfl) (by rfl)) (by rfl) (by rfl) ?_
      refine Ls.ev (some 24) (Ev.move (show Oper.op _ = Op.move (Operand.tmp 23) from rfl) (by rfl)) (by rfl) (by rfl) ?_
      refine Ent.split 24 (by rfl) (fun hT1 => ?_) (fun hT1 => ?_)
      · first | have hT1 := of_decide_eq_false hT1 | have hT1 := of_not_decide_false hT1 | skip
        refine Ls.pass (some 25) (by rfl) (by rfl) ?_
        refine Ls.ev (some 26) (Ev.pickF (show Oper.op _ = Op.pick (Operand.tmp 24) (Operand.tmp 25) (Operand.const (Value.bool false)) from rfl) (by rfl) (by rfl)) (by rfl) (by rfl) ?_
        refine Ls.nil ?_
        refine Ent.inv () ?_ ?_ ?_
        · exact trivial
        · (repeat (first | exact trivial | refine ⟨by rfl, ?_⟩ | refine ⟨by simp only [List.length_append, List.length_cons, List.length_nil]; rfl, ?_⟩ | refine ⟨by push_cast; rfl, ?_⟩ | refine ⟨by (show some (Value.bool _) = some (Value.bool _); congr 2; (first | (refine (decide_eq_false ?_).symm; omega) | exact zero_neg (by omega))), ?_⟩))
        · rfl
      · first | have hT1 := of_decide_eq_true hT1 | have hT1 := of_not_decide_true hT1 | skip
        refine Ls.ev (some 25) (Ev.move (show Oper.op _ = Op.move (Operand.tmp 5) from rfl) (by rfl)) (by rfl) (by rfl) ?_
        refine Ls.ev (some 26) (Ev.pickT (show Oper.op _ = Op.pick (Operand.tmp 24) (Operand.tmp 25) (Operand.const (Value.bool false)) from rfl) (by rfl) (by rfl)) (by rfl) (by rfl) ?_
        refine Ls.nil ?_
        refine Ent.inv () ?_ ?_ ?_
        · exact trivial
        · (repeat (first | exact trivial | refine ⟨by rfl, ?_⟩ | refine ⟨by simp only [List.length_append, List.length_cons, List.length_nil]; rfl, ?_⟩ | refine ⟨by push_cast; rfl, ?_⟩ | refine ⟨by (show some (Value.bool _) = some (Value.bool _); congr 2; (first | (refine (decide_eq_false ?_).symm; omega) | exact zero_neg (by omega))), ?_⟩))
        · rfl
    skip
    rintro _ -
    refine Cd.cond _ (by rfl) (fun h2 => ?_) (fun h2 => ?_)
    · skip
      have h2 := of_decide_eq_true h2
      skip
      refine Cd.exit ?_
      refine Cd.region ?_
      refine Ls.ev (some 20) (Ev.move (show Oper.op _ = Op.move (Operand.tmp 6) from rfl) (by rfl)) (by rfl) (by rfl) ?_
      refine Ls.ev (some 21) (Ev.addN (b := 1) (show Oper.op _ = Op.binOp BinOp.add 3 (Operand.tmp 20) (Operand.const (Value.int IntKind.i64 1)) 3 from rfl) (by rfl) (by rfl) (by omega)) (by rfl) (by rfl) ?_
      refine Ls.ev (some 6) (Ev.assign (show Oper.op _ = Op.assign (Operand.tmp 21) from rfl) (by rfl)) (by rfl) (by rfl) ?_
      refine Ls.nil ?_
      refine Ent.inv ((i + 1, n)) ?_ ?_ ?_
      · (try dsimp only); exact ⟨⟨by omega, by rw [hn, h2.1]; exact congrArg _ (body_skip h2.2).symm⟩, by omega⟩
      · (repeat (first | exact trivial | refine ⟨by rfl, ?_⟩ | refine ⟨by simp only [List.length_append, List.length_cons, List.length_nil]; rfl, ?_⟩ | refine ⟨by push_cast; rfl, ?_⟩))
      · rfl
    skip
    have h2 := of_decide_eq_false h2
    refine Cd.skip ?_
    refine Cd.seq ?_
    refine Cd.seq ?_
    refine Ent.norm ([(0, .string (txt w)), (4, .int .i64 n), (5, .bool (negB w)), (6, .int .i64 i)]) ([]) (by repeat (first | exact trivial | refine ⟨by rfl, ?_⟩ | refine ⟨by simp only [List.length_append, List.length_cons, List.length_nil]; rfl, ?_⟩ | refine ⟨by push_cast; rfl, ?_⟩)) (by rfl) ?_
    refine Cd.cut (ι := Unit) (fun _ => [(0, .string (txt w)), (4, .int .i64 n), (5, .bool (negB w)), (6, .int .i64 i), (40, .bool (decide (x.toNat < 48 ∨ 57 < x.toNat ∨ 20 < i)))]) (fun _ => []) (fun _ => True) ?_ ?_
    · skip
      refine Cd.region ?_
      refine Ls.ev (some 27) (Ev.move (show Oper.op _ = Op.move (Operand.tmp 0) from rfl) (by rfl)) (by rfl) (by rfl) ?_
      refine Ls.ev (some 28) (Ev.move (show Oper.op _ = Op.move (Operand.tmp 6) from rfl) (by rfl)) (by rfl) (by rfl) ?_
      refine Ls.ev (some 29) (Ev.indexT (show Oper.op _ = Op.index 9 (Operand.tmp 27) (Operand.tmp 28) from rfl) (by rfl) (by rfl) Tryz.underlying9 (by assumption)) (by rfl) (by rfl) ?_
      refine Ls.ev (some 30) (Ev.lss (show Oper.op _ = Op.binOp BinOp.lss 5 (Operand.tmp 29) (Operand.const (Value.int IntKind.u8 48)) 5 from rfl) (by rfl) (by rfl)) (by rfl) (by rfl) ?_
      refine Ls.ev (some 31) (Ev.move (show Oper.op _ = Op.move (Operand.tmp 30) from rfl) (by rfl)) (by rfl) (by rfl) ?_
      refine Ent.split 31 (by rfl) (fun hT1 => ?_) (fun hT1 => ?_)
      · first | have hT1 := of_decide_eq_false hT1 | have hT1 := of_not_decide_false hT1 | skip
        refine Ls.ev (some 32) (Ev.move (show Oper.op _ = Op.move (Operand.tmp 0) from rfl) (by rfl)) (by rfl) (by rfl) ?_
        refine Ls.ev (some 33) (Ev.move (show Oper.op _ = Op.move (Operand.tmp 6) from rfl) (by rfl)) (by rfl) (by rfl) ?_
        refine Ls.ev (some 34) (Ev.indexT (show Oper.op _ = Op.index 9 (Operand.tmp 32) (Operand.tmp 33) from rfl) (by rfl) (by rfl) Tryz.underlying9 (by assumption)) (by rfl) (by rfl) ?_
        refine Ls.ev (some 35) (Ev.gtr (show Oper.op _ = Op.binOp BinOp.gtr 5 (Operand.tmp 34) (Operand.const (Value.int IntKind.u8 57)) 5 from rfl) (by rfl) (by rfl)) (by rfl) (by rfl) ?_
        refine Ls.ev (some 36) (Ev.pickF (show Oper.op _ = Op.pick (Operand.tmp 31) (Operand.const (Value.bool true)) (Operand.tmp 35) from rfl) (by rfl) (by rfl)) (by rfl) (by rfl) ?_
        refine Ls.ev (some 37) (Ev.move (show Oper.op _ = Op.move (Operand.tmp 36) from rfl) (by rfl)) (by rfl) (by rfl) ?_
        refine Ent.split 37 (by rfl) (fun hT2 => ?_) (fun hT2 => ?_)
        · first | have hT2 := of_decide_eq_false hT2 | have hT2 := of_not_decide_false hT2 | skip
          refine Ls.ev (some 38) (Ev.move (show Oper.op _ = Op.move (Operand.tmp 6) from rfl) (by rfl)) (by rfl) (by rfl) ?_
          refine Ls.ev (some 39) (Ev.gtr (show Oper.op _ = Op.binOp BinOp.gtr 3 (Operand.tmp 38) (Operand.const (Value.int IntKind.i64 20)) 3 from rfl) (by rfl) (by rfl)) (by rfl) (by rfl) ?_
          refine Ls.ev (some 40) (Ev.pickF (show Oper.op _ = Op.pick (Operand.tmp 37) (Operand.const (Value.bool true)) (Operand.tmp 39) from rfl) (by rfl) (by rfl)) (by rfl) (by rfl) ?_
          refine Ls.nil ?_
          refine Ent.inv () ?_ ?_ ?_
          · exact trivial
          · (repeat (first | exact trivial | refine ⟨by rfl, ?_⟩ | refine ⟨by simp only [List.length_append, List.length_cons, List.length_nil]; rfl, ?_⟩ | refine ⟨by push_cast; rfl, ?_⟩ | refine ⟨by (show some (Value.bool _) = some (Value.bool _); congr 2; (first | (refine (decide_eq_true ?_).symm; omega) | (refine decide_eq_decide.2 ?_; omega))), ?_⟩))
          · rfl
        · first | have hT2 := of_decide_eq_true hT2 | have hT2 := of_not_decide_true hT2 | skip
          refine Ls.pass (some 38) (by rfl) (by rfl) ?_
          refine Ls.pass (some 39) (by rfl) (by rfl) ?_
          refine Ls.ev (some 40) (Ev.pickT (show Oper.op _ = Op.pick (Operand.tmp 37) (Operand.const (Value.bool true)) (Operand.tmp 39) from rfl) (by rfl) (by rfl)) (by rfl) (by rfl) ?_
          refine Ls.nil ?_
          refine Ent.inv () ?_ ?_ ?_
          · exact trivial
          · (repeat (first | exact trivial | refine ⟨by rfl, ?_⟩ | refine ⟨by simp only [List.length_append, List.length_cons, List.length_nil]; rfl, ?_⟩ | refine ⟨by push_cast; rfl, ?_⟩ | refine ⟨by (show some (Value.bool _) = some (Value.bool _); congr 2; (first | (refine (decide_eq_true ?_).symm; omega) | (refine decide_eq_decide.2 ?_; omega))), ?_⟩))
          · rfl
      · first | have hT1 := of_decide_eq_true hT1 | have hT1 := of_not_decide_true hT1 | skip
        refine Ls.pass (some 32) (by rfl) (by rfl) ?_
        refine Ls.pass (some 33) (by rfl) (by rfl) ?_
        refine Ls.pass (some 34) (by rfl) (by rfl) ?_
        refine Ls.pass (some 35) (by rfl) (by rfl) ?_
        refine Ls.ev (some 36) (Ev.pickT (show Oper.op _ = Op.pick (Operand.tmp 31) (Operand.const (Value.bool true)) (Operand.tmp 35) from rfl) (by rfl) (by rfl)) (by rfl) (by rfl) ?_
        refine Ls.ev (some 37) (Ev.move (show Oper.op _ = Op.move (Operand.tmp 36) from rfl) (by rfl)) (by rfl) (by rfl) ?_
        refine Ls.pass (some 38) (by rfl) (by rfl) ?_
        refine Ls.pass (some 39) (by rfl) (by rfl) ?_
        refine Ls.ev (some 40) (Ev.pickT (show Oper.op _ = Op.pick (Operand.tmp 37) (Operand.const (Value.bool true)) (Operand.tmp 39) from rfl) (by rfl) (by rfl)) (by rfl) (by rfl) ?_
        refine Ls.nil ?_
        refine Ent.inv () ?_ ?_ ?_
        · exact trivial
        · (repeat (first | exact trivial | refine ⟨by rfl, ?_⟩ | refine ⟨by simp only [List.length_append, List.length_cons, List.length_nil]; rfl, ?_⟩ | refine ⟨by push_cast; rfl, ?_⟩ | refine ⟨by (show some (Value.bool _) = some (Value.bool _); congr 2; (first | (refine (decide_eq_true ?_).symm; omega) | (refine decide_eq_decide.2 ?_; omega))), ?_⟩))
        · rfl
    skip
    rintro _ -
    refine Cd.cond _ (by rfl) (fun h3 => ?_) (fun h3 => ?_)
    · skip
      have h3 := of_decide_eq_true h3
      have hno : numP w = none := by
        cases hh : numP w with
        | none => rfl
        | some v =>
          obtain ⟨_, hb, hl⟩ := num_body hh
          have := hb x (body_mem hx h2)
          omega
      refine Cd.seq ?_
      refine Cd.region ?_
      refine Ls.ev (some 2) (Ev.assign (show Oper.op _ = Op.assign (Operand.const (Value.int IntKind.i64 0)) from rfl) (by rfl)) (by rfl) (by rfl) ?_
      refine Ls.ev (some 3) (Ev.assign (show Oper.op _ = Op.assign (Operand.const (Value.bool false)) from rfl) (by rfl)) (by rfl) (by rfl) ?_
      refine Ls.nil ?_
      refine Cd.ret ?_
      refine Ent.ret (0) ((fun v hv => by rw [hno] at hv; cases hv)) (Res.tmp2 (by rfl) (by rfl) (by rfl)) ?_ [] (by rfl) ?_
      · rw [hno]
        rfl
      · rfl
    skip
    have h3 := of_decide_eq_false h3
    have hx2 : x.toNat < 256 := x.toNat_lt
    refine Cd.skip ?_
    refine Cd.seq ?_
    refine Ent.norm ([(0, .string (txt w)), (4, .int .i64 n), (5, .bool (negB w)), (6, .int .i64 i)]) ([]) (by repeat (first | exact trivial | refine ⟨by rfl, ?_⟩ | refine ⟨by simp only [List.length_append, List.length_cons, List.length_nil]; rfl, ?_⟩ | refine ⟨by push_cast; rfl, ?_⟩)) (by rfl) ?_
    refine Cd.region ?_
    refine Ls.ev (some 41) (Ev.move (show Oper.op _ = Op.move (Operand.tmp 0) from rfl) (by rfl)) (by rfl) (by rfl) ?_
    refine Ls.ev (some 42) (Ev.move (show Oper.op _ = Op.move (Operand.tmp 6) from rfl) (by rfl)) (by rfl) (by rfl) ?_
    refine Ls.ev (some 43) (Ev.indexT (show Oper.op _ = Op.index 9 (Operand.tmp 41) (Operand.tmp 42) from rfl) (by rfl) (by rfl) Tryz.underlying9 (by assumption)) (by rfl) (by rfl) ?_
    refine Ls.ev (some 44) (Ev.to (Ev.sub (show Oper.op _ = Op.binOp BinOp.sub 5 (Operand.tmp 43) (Operand.const (Value.int IntKind.u8 48)) 5 from rfl) (by rfl) (by rfl)) (show Value.int .u8 (IntKind.u8.wrap ((x.toNat : Int) - 48)) = Value.int .u8 ((x.toNat : Int) - 48) by rw [u8_dig (by omega)])) (by rfl) (by rfl) ?_
    refine Ls.ev (some 45) (Ev.convW (m := (x.toNat : Int) - 48) (show Oper.op _ = Op.convert 5 3 (Operand.tmp 44) from rfl) (by rfl) (by kernel_rfl) Tryz.underlying3 (wrapJ (by omega))) (by rfl) (by rfl) ?_
    refine Ls.ev (some 7) (Ev.assign (show Oper.op _ = Op.assign (Operand.tmp 45) from rfl) (by rfl)) (by rfl) (by rfl) ?_
    refine Ls.nil ?_
    refine Cd.seq ?_
    refine Cd.seq ?_
    refine Cd.region ?_
    refine Ls.ev (some 46) (Ev.move (show Oper.op _ = Op.move (Operand.tmp 5) from rfl) (by rfl)) (by rfl) (by rfl) ?_
    refine Ls.nil ?_
    refine Cd.cut (ι := Unit) (fun _ => [(0, .string (txt w)), (4, .int .i64 n), (5, .bool (negB w)), (6, .int .i64 i), (7, .int .i64 (if negB w then -((x.toNat : Int) - 48) else (x.toNat : Int) - 48))]) (fun _ => []) (fun _ => True) ?_ ?_
    · skip
      refine Cd.cond _ (by rfl) (fun h4 => ?_) (fun h4 => ?_)
      · skip
        refine Cd.region ?_
        refine Ls.ev (some 47) (Ev.move (show Oper.op _ = Op.move (Operand.tmp 7) from rfl) (by rfl)) (by rfl) (by rfl) ?_
        refine Ls.ev (some 48) (Ev.to (Ev.neg (show Oper.op _ = Op.unOp UnOp.neg 3 (Operand.tmp 47) from rfl) (by rfl)) (show Value.int .i64 (IntKind.i64.wrap (-((x.toNat : Int) - 48))) = Value.int .i64 (-((x.toNat : Int) - 48)) by rw [wrapJ (by omega)])) (by rfl) (by rfl) ?_
        refine Ls.ev (some 7) (Ev.assign (show Oper.op _ = Op.assign (Operand.tmp 48) from rfl) (by rfl)) (by rfl) (by rfl) ?_
        refine Ls.nil ?_
        refine Ent.inv (()) ?_ ?_ ?_
        · (try dsimp only); skip
        · (repeat (first | exact trivial | refine ⟨by rfl, ?_⟩ | refine ⟨by simp only [List.length_append, List.length_cons, List.length_nil]; rfl, ?_⟩ | refine ⟨by push_cast; rfl, ?_⟩ | refine ⟨by rw [if_pos h4]; rfl, ?_⟩))
        · rfl
      · skip
        refine Cd.skip ?_
        refine Ent.inv (()) ?_ ?_ ?_
        · (try dsimp only); skip
        · (repeat (first | exact trivial | refine ⟨by rfl, ?_⟩ | refine ⟨by simp only [List.length_append, List.length_cons, List.length_nil]; rfl, ?_⟩ | refine ⟨by push_cast; rfl, ?_⟩ | refine ⟨by rw [if_neg (by rw [h4]; decide)]; rfl, ?_⟩))
        · rfl
    skip
    rintro _ -
    refine Cd.region ?_
    refine Ls.ev (some 49) (Ev.move (show Oper.op _ = Op.move (Operand.tmp 4) from rfl) (by rfl)) (by rfl) (by rfl) ?_
    refine Ls.ev (some 50) (Ev.mul (show Oper.op _ = Op.binOp BinOp.mul 3 (Operand.const (Value.int IntKind.i64 10)) (Operand.tmp 49) 3 from rfl) (by rfl) (by rfl)) (by rfl) (by rfl) ?_
    refine Ls.ev (some 51) (Ev.move (show Oper.op _ = Op.move (Operand.tmp 7) from rfl) (by rfl)) (by rfl) (by rfl) ?_
    refine Ls.ev (some 52) (Ev.add (show Oper.op _ = Op.binOp BinOp.add 3 (Operand.tmp 50) (Operand.tmp 51) 3 from rfl) (by rfl) (by rfl)) (by rfl) (by rfl) ?_
    skip
    refine Ls.ev (some 4) (Ev.assign (show Oper.op _ = Op.assign (Operand.tmp 52) from rfl) (by rfl)) (by rfl) (by rfl) ?_
    refine Ls.nil ?_
    refine Cd.region ?_
    refine Ls.ev (some 20) (Ev.move (show Oper.op _ = Op.move (Operand.tmp 6) from rfl) (by rfl)) (by rfl) (by rfl) ?_
    refine Ls.ev (some 21) (Ev.addN (b := 1) (show Oper.op _ = Op.binOp BinOp.add 3 (Operand.tmp 20) (Operand.const (Value.int IntKind.i64 1)) 3 from rfl) (by rfl) (by rfl) (by omega)) (by rfl) (by rfl) ?_
    refine Ls.ev (some 6) (Ev.assign (show Oper.op _ = Op.assign (Operand.tmp 21) from rfl) (by rfl)) (by rfl) (by rfl) ?_
    refine Ls.nil ?_
    refine Ent.inv ((i + 1, stepN (negB w) n x)) ?_ ?_ ?_
    · (try dsimp only); exact ⟨⟨by omega, by rw [body_step hx h2, hn]; simp [docN, List.foldl_append]⟩, by omega⟩
    · (repeat (first | exact trivial | refine ⟨by rfl, ?_⟩ | refine ⟨by simp only [List.length_append, List.length_cons, List.length_nil]; rfl, ?_⟩ | refine ⟨by push_cast; rfl, ?_⟩))
    · rfl
  · skip
    have hil : i = w.length := by have := of_decide_eq_false h1; omega
    subst hil
    rw [body_all] at hn
    subst hn
    refine Cd.exit ?_
    refine Cd.seq ?_
    refine Cd.region ?_
    refine Ls.ev (some 53) (Ev.move (show Oper.op _ = Op.move (Operand.tmp 4) from rfl) (by rfl)) (by rfl) (by rfl) ?_
    refine Ls.ev (some 54) (Ev.move (show Oper.op _ = Op.move (Operand.tmp 4) from rfl) (by rfl)) (by rfl) (by rfl) ?_
    refine Ls.does (some 55) (Does.read (show Oper.op _ = Op.call { callee := Callee.value (Operand.func 74), args := #[Operand.tmp 54], argTypes := #[3] } from rfl) Tryz.func74 (by kernel_rfl) (by kernel_rfl) (digits_sl (docN (negB w) (bodyB w)) (docN_in _ _)) (by rfl) (by rfl) trivial) (by rfl) (by rfl) ?_
    rintro _ -
    refine Ls.ev (some 56) (Ev.move (show Oper.op _ = Op.move (Operand.tmp 0) from rfl) (by rfl)) (by rfl) (by rfl) ?_
    refine Ls.ev (some 57) (Ev.eqlS (show Oper.op _ = Op.binOp BinOp.eql 9 (Operand.tmp 55) (Operand.tmp 56) 9 from rfl) (by rfl) (by rfl)) (by rfl) (by rfl) ?_
    refine Ls.ev (some 2) (Ev.assign (show Oper.op _ = Op.assign (Operand.tmp 53) from rfl) (by rfl)) (by rfl) (by rfl) ?_
    refine Ls.ev (some 3) (Ev.assign (show Oper.op _ = Op.assign (Operand.tmp 57) from rfl) (by rfl)) (by rfl) (by rfl) ?_
    refine Ls.nil ?_
    refine Cd.ret ?_
    refine Ent.ret (docN (negB w) (bodyB w)) ((fun v hv => (num_body hv).1.symm)) (Res.tmp2 (by rfl) (by rfl) (by rfl)) ?_ [] (by rfl) ?_
    · rw [← doc_num, decide_eq_decide.2 txt_eq_iff]
    · rfl
end Go.Proofs.YtemcigoelcblbaaGreatDoor
