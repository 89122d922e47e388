/-
  Texts joined: DcJ, DcK, DcL, DcM, DcN.
-/
import Derived.Test.YtegjoabfoddadaaMJdL1j
/- the document over pieces: a call done -/
namespace Go.Proofs.Ytegjoabfoddadaa
open Go.RowKit
theorem dIs19_sl (r : Int) : Fn Try.prog 29 #[.int .i64 r] [] Unit (fun _ => .bool (isR r)) (fun _ => []) (fun _ => True) := by
  have hd : isR r = decide (0 ≤ r ∧ r < 16) := by unfold isR; rw [Bool.decide_and]
  rw [hd]
  refine Fn.enter Try.func29 rfl Try.ntmps29 (by rfl) ?_
  intro w0
  refine Cd.seq ?_
  refine Cd.region ?_
  refine Ls.ev (some 2) (Ev.assign (show Oper.op _ = Op.assign (Operand.const (Value.bool false)) from rfl) (by rfl)) (by rfl) (by rfl) ?_
  refine Ls.nil ?_
  refine Cd.seq ?_
  refine Cd.region ?_
  refine Ls.ev (some 3) (Ev.move (show Oper.op _ = Op.move (Operand.tmp 0) from rfl) (by rfl)) (by rfl) (by rfl) ?_
  refine Ls.ev (some 4) (Ev.geq (show Oper.op _ = Op.binOp BinOp.geq 3 (Operand.tmp 3) (Operand.const (Value.int IntKind.i64 0)) 3 from rfl) (by rfl) (by rfl)) (by rfl) (by rfl) ?_
  refine Ls.ev (some 5) (Ev.move (show Oper.op _ = Op.move (Operand.tmp 4) from rfl) (by rfl)) (by rfl) (by rfl) ?_
  refine Ent.split 5 (by rfl) (fun h => ?_) (fun h => ?_)
  · skip
    refine Ls.pass (some 6) (by rfl) (by rfl) ?_
    refine Ls.pass (some 7) (by rfl) (by rfl) ?_
    refine Ls.ev (some 8) (Ev.pickF (show Oper.op _ = Op.pick (Operand.tmp 5) (Operand.tmp 7) (Operand.const (Value.bool false)) from rfl) (by rfl) (by rfl)) (by rfl) (by rfl) ?_
    refine Ls.ev (some 2) (Ev.assign (show Oper.op _ = Op.assign (Operand.tmp 8) from rfl) (by rfl)) (by rfl) (by rfl) ?_
    refine Ls.nil ?_
    refine Cd.ret ?_
    refine Ent.ret (()) (trivial) (Res.tmp (by rfl) (by rfl)) ?_ [] (by rfl) ?_
    · rw [decide_eq_false (fun e => (of_decide_eq_false h) e.1)]
    · rfl
  · skip
    refine Ls.ev (some 6) (Ev.move (show Oper.op _ = Op.move (Operand.tmp 0) from rfl) (by rfl)) (by rfl) (by rfl) ?_
    refine Ls.ev (some 7) (Ev.lss (show Oper.op _ = Op.binOp BinOp.lss 3 (Operand.tmp 6) (Operand.const (Value.int IntKind.i64 16)) 3 from rfl) (by rfl) (by rfl)) (by rfl) (by rfl) ?_
    refine Ls.ev (some 8) (Ev.pickT (show Oper.op _ = Op.pick (Operand.tmp 5) (Operand.tmp 7) (Operand.const (Value.bool false)) from rfl) (by rfl) (by rfl)) (by rfl) (by rfl) ?_
    refine Ls.ev (some 2) (Ev.assign (show Oper.op _ = Op.assign (Operand.tmp 8) from rfl) (by rfl)) (by rfl) (by rfl) ?_
    refine Ls.nil ?_
    refine Cd.ret ?_
    refine Ent.ret (()) (trivial) (Res.tmp (by rfl) (by rfl)) ?_ [] (by rfl) ?_
    · rw [show decide (0 ≤ r ∧ r < 16) = decide (r < 16) from decide_eq_decide.2 (and_iff_right (of_decide_eq_true h))]
    · rfl
theorem set_same {α : Type} {l : List α} {k : Nat} {z : α} (h : l[k]? = some z) : l.set k z = l := by
  apply List.ext_getElem?
  intro j
  rw [List.getElem?_set]
  split
  · rename_i e
    subst e
    rw [h, if_pos (List.getElem?_eq_some_iff.1 h).1]
  · rfl
theorem set_fam (l : List RtS) (k : Nat) (x : RtS) (j : Nat) : ((l.set k x).getD j noS).rd = (l.getD j noS).rd ∨ ((l.set k x).getD j noS).rd = x.rd := by
  rw [List.getD_eq_getElem?_getD, List.getD_eq_getElem?_getD, List.getElem?_set]
  split
  · rename_i e
    subst e
    split
    · exact .inr rfl
    · rename_i h
      rw [List.getElem?_eq_none (by omega)]
      exact .inl rfl
  · exact .inl rfl
theorem applyR_of {m : MapP} {b : BkP} {r : Int} {c : CallP} {tick e : Int} {now : RtP} (he : b.ep r = e) (hn : cutR (b.rt r) tick = now) : applyR m b r c tick =
    (if isR r = false ∨ c.verb < 1 ∨ 6 < c.verb then (b, refusedP 1)
    else if c.verb = 1 then ({ b with eps := b.eps.set r.toNat (e + 1) }, ⟨0, e + 1, now⟩)
    else if e = 0 then (b, refusedP 4)
    else if c.verb = 6 then (b, ⟨0, e, now⟩)
    else if e ≠ c.epoch then (b, refusedP 190)
    else if c.verb = 2 then (b, ⟨0, e, noR⟩)
    else if c.verb = 3 then
      (if checkR m c.route ≠ 0 then (b, refusedP (checkR m c.route)) else if c.route.start < tick then (b, refusedP 7) else if 0 < now.cells.length then (b, refusedP 2)
       else if confR b r c.route tick 16 0 then (b, refusedP 140) else (b.setRt r c.route, ⟨0, e, c.route⟩))
    else if now.cells.length = 0 then (b, refusedP 4)
    else if c.verb = 5 then (b.setRt r noR, ⟨0, e, noR⟩)
    else
      (if checkR m ⟨now.start, now.cells ++ c.route.cells⟩ ≠ 0 then (b, refusedP (checkR m ⟨now.start, now.cells ++ c.route.cells⟩))
       else if confR b r ⟨now.start, now.cells ++ c.route.cells⟩ tick 16 0 then (b, refusedP 140)
       else (b.setRt r ⟨now.start, now.cells ++ c.route.cells⟩, ⟨0, e, ⟨now.start, now.cells ++ c.route.cells⟩⟩))) := by
  subst he hn
  rfl
theorem with_p {q : BkD} {eps : List Int} {rts : List RtS} {y y' : RepP} (h1 : q.eps = eps) (h2 : q.rts = rts) (hy : y = y') : (q.p, y) = ((⟨eps, rts.map RtS.p⟩ : BkP), y') := by
  subst h1 h2 hy
  rfl
theorem with_p2 {B q : BkD} {k : Nat} {e : Int} {x : RtS} {y y' : RepP} (he : B.eps[k]? = some e) (h1 : q.eps = B.eps.set k e) (h2 : q.rts = B.rts.set k x) (hy : y = y') : (q.p, y) = (B.p.setRt k x.p, y') := by
  subst hy
  unfold BkP.setRt BkD.p
  rw [h1, h2, set_same he, List.map_set, Int.toNat_natCast]
theorem Sat.rdNil {Γ : Ctx} {H : List Chunk} {w : World} (h : Sat Γ H w) : Sat Γ (noS.rd :: H) w := by
  exact h.free rfl (fun k hk => absurd hk.1 (Nat.lt_irrefl 0)) ⟨rfl, fun hn => absurd hn (Nat.lt_irrefl 0)⟩
section
variable (m : MapP) (hm : goodM m = true) (A : Option Addr) (ac : Nat) (hl : m.bl.length ≤ 17592186044415)
include hm hl
set_option maxRecDepth 20000 in
theorem dApply_sl (B : BkD) (hb : BkOk m B.p) (hE : ∀ k, 0 ≤ B.eps.getD k 0 ∧ B.eps.getD k 0 ≤ 1000000) (r : Int) (c : CallS) (tick : Int) (hc : c.rt.l.length ≤ 100) :
    Fn Try.prog 21 #[.agg (mapV m A ac).toArray, .agg B.val.toArray, .int .i64 r, .agg c.enc.toArray, .int .i64 tick] [rdI A m.bl, B.re, B.rr, B.fam, c.rt.rd] (BkD × RepS) (fun q => .tuple #[.agg q.1.val.toArray, .agg q.2.enc.toArray]) (fun q => [q.1.re, q.1.rr, q.1.fam, q.2.rt.rd]) (fun q => (q.1.p, q.2.p) = applyR m B.p r c.p tick) := by
  have hw := wh_le hm
  have hn : B.rts.length = 16 := by have := hb.rts; unfold BkD.p at this; rwa [List.length_map] at this
  have he : B.eps.length = 16 := hb.eps
  have hcut := fun k => planOk_cut hm (hb.ok k) tick
  have hlen := rt_len hb
  simp only [B.p_rt] at hcut hlen
  have hck := dCheck_sl m hw A ac hl
  have hcf := dConf_sl m hm B hb
  have hwi := dWith_sl B he hn
  obtain ⟨⟨E, ec, eps, R, rc, rts⟩, hBB⟩ : ∃ B', B' = B := ⟨B, rfl⟩
  subst hBB
  obtain ⟨⟨v, ep, rt⟩, hcc⟩ : ∃ c', c' = c := ⟨c, rfl⟩
  subst hcc
  obtain ⟨s, D, d, l⟩ := rt
  dsimp only [CallS.enc, mapV, BkD.val, BkD.re, BkD.rr, BkD.fam] at hck hc hn he hE hcut hlen hcf hwi ⊢
  refine Fn.enter Try.func21 rfl Try.ntmps21 (by rfl) ?_
  intro w0
  refine Cd.seq ?_
  refine Cd.region ?_
  refine Ls.does (some 5) (Does.box (show Oper.op _ = Op.box 24 (Operand.tmp 0) from rfl) (by rfl)) (by rfl) (by rfl) ?_
  intro g1 _
  refine Ls.does (some 6) (Does.box (show Oper.op _ = Op.box 61 (Operand.tmp 1) from rfl) (by rfl)) (by rfl) (by rfl) ?_
  intro g2 _
  refine Ls.does (some 8) (Does.box (show Oper.op _ = Op.box 43 (Operand.tmp 3) from rfl) (by rfl)) (by rfl) (by rfl) ?_
  intro g3 _
  refine Ls.does (some 10) (Does.alloc (cs := [.slice none 0 0, .slice none 0 0]) (show Oper.op _ = Op.alloc 61 from rfl) (ZeroIs.mk (.agg #[.slice none 0 0, .slice none 0 0]) (by kernel_rfl) (by rfl))) (by rfl) (by rfl) ?_
  intro g4 _
  refine Ls.does (some 11) (Does.alloc (cs := [.int .i64 0, .int .i64 0, .int .i64 0, .slice none 0 0]) (show Oper.op _ = Op.alloc 45 from rfl) (ZeroIs.mk (.agg #[.int .i64 0, .int .i64 0, .int .i64 0, .slice none 0 0]) (by kernel_rfl) (by rfl))) (by rfl) (by rfl) ?_
  intro g5 _
  refine Ls.nil ?_
  refine Cd.seq ?_
  refine Cd.region ?_
  refine Ls.ev (some 18) (Ev.fieldAddr (k := 0) (show Oper.op _ = Op.fieldAddr 43 (Operand.tmp 8) 0 from rfl) (by rfl) (by kernel_rfl) (by rfl)) (by rfl) (by rfl) ?_
  refine Ls.ev (some 19) (Ev.load 2 (show Oper.op _ = Op.load 39 (Operand.tmp 18) from rfl) (by rfl) (by rfl) (by kernel_rfl) (by rfl)) (by rfl) (by rfl) ?_
  refine Ls.ev (some 12) (Ev.assign (show Oper.op _ = Op.assign (Operand.tmp 19) from rfl) (by rfl)) (by rfl) (by rfl) ?_
  refine Ls.nil ?_
  refine Cd.seq ?_
  refine Cd.seq ?_
  refine Cd.region ?_
  refine Ls.ev (some 20) (Ev.move (show Oper.op _ = Op.move (Operand.tmp 2) from rfl) (by rfl)) (by rfl) (by rfl) ?_
  refine Ls.does (some 21) (Does.read (show Oper.op _ = Op.call { callee := Callee.value (Operand.func 29), args := #[Operand.tmp 20], argTypes := #[3] } from rfl) Try.func29 (by kernel_rfl) (by kernel_rfl) (dIs19_sl r) (by rfl) (by rfl) trivial) (by rfl) (by rfl) ?_
  rintro _ -
  refine Ls.ev (some 22) (Ev.not (show Oper.op _ = Op.unOp UnOp.not 4 (Operand.tmp 21) from rfl) (by rfl)) (by rfl) (by rfl) ?_
  refine Ls.ev (some 23) (Ev.move (show Oper.op _ = Op.move (Operand.tmp 22) from rfl) (by rfl)) (by rfl) (by rfl) ?_
  refine Ent.split 23 (by rfl) (fun h1 => ?_) (fun h1 => ?_)
  · skip
    have h1 : isR r = true := by simpa using h1
    refine Ls.ev (some 24) (Ev.move (show Oper.op _ = Op.move (Operand.tmp 12) from rfl) (by rfl)) (by rfl) (by rfl) ?_
    refine Ls.ev (some 25) (Ev.lss (show Oper.op _ = Op.binOp BinOp.lss 3 (Operand.tmp 24) (Operand.const (Value.int IntKind.i64 1)) 3 from rfl) (by rfl) (by rfl)) (by rfl) (by rfl) ?_
    refine Ls.ev (some 26) (Ev.pickF (show Oper.op _ = Op.pick (Operand.tmp 23) (Operand.const (Value.bool true)) (Operand.tmp 25) from rfl) (by rfl) (by rfl)) (by rfl) (by rfl) ?_
    refine Ls.ev (some 27) (Ev.move (show Oper.op _ = Op.move (Operand.tmp 26) from rfl) (by rfl)) (by rfl) (by rfl) ?_
    refine Ent.split 27 (by rfl) (fun h2 => ?_) (fun h2 => ?_)
    · skip
      refine Ls.ev (some 28) (Ev.move (show Oper.op _ = Op.move (Operand.tmp 12) from rfl) (by rfl)) (by rfl) (by rfl) ?_
      refine Ls.ev (some 29) (Ev.gtr (show Oper.op _ = Op.binOp BinOp.gtr 3 (Operand.tmp 28) (Operand.const (Value.int IntKind.i64 6)) 3 from rfl) (by rfl) (by rfl)) (by rfl) (by rfl) ?_
      refine Ls.ev (some 30) (Ev.pickF (show Oper.op _ = Op.pick (Operand.tmp 27) (Operand.const (Value.bool true)) (Operand.tmp 29) from rfl) (by rfl) (by rfl)) (by rfl) (by rfl) ?_
      refine Ls.nil ?_
      refine Cd.cond _ (by rfl) (fun h3 => ?_) (fun h3 => ?_)
      · skip
        refine Cd.seq ?_
        refine Cd.region ?_
        refine Ls.ev (some 31) (Ev.loads 3 (show Oper.op _ = Op.load 61 (Operand.tmp 6) from rfl) (by rfl) (by rfl) (n := 2) (by kernel_rfl) (by rfl) (by rfl)) (by rfl) (by rfl) ?_
        refine Ls.ev (some 32) (Ev.buildP (pl := [(0, 1), (1, 1), (2, 2)]) (zs := [.int .i64 0, .int .i64 0, .int .i64 0, .slice none 0 0]) (show Oper.op _ = Op.build 45 #[(0, Operand.const (Value.int IntKind.i64 1))] from rfl) (by rfl) (by kernel_rfl) (by rfl)) (by rfl) (by rfl) ?_
        refine Ls.does none (Does.store 1 (show Oper.op _ = Op.store 61 (Operand.tmp 10) (Operand.tmp 31) from rfl) (by rfl) (by rfl) (by rfl) (by kernel_rfl) (by rfl) (by kernel_rfl) (by rfl)) (by rfl) (by rfl) ?_
        intro _ _
        refine Ls.does none (Does.store 0 (show Oper.op _ = Op.store 45 (Operand.tmp 11) (Operand.tmp 32) from rfl) (by rfl) (by rfl) (by rfl) (by kernel_rfl) (by rfl) (by kernel_rfl) (by rfl)) (by rfl) (by rfl) ?_
        intro _ _
        refine Ls.nil ?_
        refine Ent.map (fun w hs => hs.rdNil) ?_
        refine Cd.ret ?_
        refine Ent.ret (((⟨E, ec, eps, R, rc, rts⟩ : BkD), refS 1)) (by unfold applyR; rw [if_pos (.inr (.inr (of_decide_eq_true h3)))]; rfl) (Res.cell2 2 1 (by rfl) (by rfl) (by rfl) (by rfl) (by rfl) (n := 2) (n' := 4) (by kernel_rfl) (by kernel_rfl) (by rfl) (by rfl) (by rfl) (by rfl)) ?_ [7, 8, 9, 0] (by rfl) ?_
        · rfl
        · rfl
      · skip
        have h2 := of_decide_eq_false h2
        have h3 := of_decide_eq_false h3
        obtain ⟨k, rfl⟩ : ∃ k : Nat, r = k := ⟨r.toNat, by unfold isR at h1; simp at h1; omega⟩
        have hk : k < 16 := by unfold isR at h1; simp at h1; omega
        obtain ⟨e, hee⟩ : ∃ e, e = eps.getD k 0 := ⟨_, rfl⟩
        have hke : eps[k]? = some e := by rw [hee, List.getD_eq_getElem?_getD, List.getElem?_eq_getElem (by omega)]; rfl
        obtain ⟨z, hzz⟩ : ∃ z, z = rts.getD k noS := ⟨_, rfl⟩
        have hkz : rts[k]? = some z := by rw [hzz]; exact BkD.get ⟨E, ec, eps, R, rc, rts⟩ (by show k < rts.length; omega)
        have hez := hE k
        have hlz := hlen k
        have hcz := hcut k
        rw [← hee] at hez
        rw [← hzz] at hlz hcz
        have hbe : (⟨E, ec, eps, R, rc, rts⟩ : BkD).p.ep k = e := by rw [hee]; rfl
        have hbr : (⟨E, ec, eps, R, rc, rts⟩ : BkD).p.rt k = z.p := by rw [hzz]; exact BkD.p_rt ⟨E, ec, eps, R, rc, rts⟩ k
        refine Ent.rdSome 6 (by rfl) (by omega) (fun ad had => ?_)
        refine Ent.rdSome 7 (by rfl) (by omega) (fun bd hbd => ?_)
        subst had hbd
        refine Ent.map (fun w hs => hs.starf_get 8 k rfl) ?_
        show Ent _ _ _ ((rts.getD k noS).rd :: _) _
        rw [← hzz]
        refine Ent.pick [1, 2, 3, 4, 5, 7, 8, 6, 9, 10, 0] (by rfl) ?_
        refine Cd.skip ?_
        refine Cd.seq ?_
        refine Cd.region ?_
        refine Ls.ev (some 33) (Ev.fieldAddr (k := 0) (show Oper.op _ = Op.fieldAddr 61 (Operand.tmp 6) 0 from rfl) (by rfl) (by kernel_rfl) (by rfl)) (by rfl) (by rfl) ?_
        refine Ls.ev (some 34) (Ev.load 3 (show Oper.op _ = Op.load 22 (Operand.tmp 33) from rfl) (by rfl) (by rfl) (by kernel_rfl) (by rfl)) (by rfl) (by rfl) ?_
        refine Ls.ev (some 35) (Ev.move (show Oper.op _ = Op.move (Operand.tmp 2) from rfl) (by rfl)) (by rfl) (by rfl) ?_
        refine Ls.ev (some 36) (Ev.indexAt (sz := 1) (show Oper.op _ = Op.indexAddr 22 (Operand.tmp 34) (Operand.tmp 35) from rfl) (by rfl) (by rfl) Try.underlying22 (by kernel_rfl) (by omega)) (by rfl) (by rfl) ?_
        refine Ls.ev (some 37) (Ev.loadInt (show Oper.op _ = Op.load 3 (Operand.tmp 36) from rfl) (by rfl) (ReadsIn.rd 5 (by rfl)) (by kernel_rfl) (by assumption)) (by rfl) (by rfl) ?_
        refine Ls.ev (some 13) (Ev.assign (show Oper.op _ = Op.assign (Operand.tmp 37) from rfl) (by rfl)) (by rfl) (by rfl) ?_
        refine Ls.nil ?_
        refine Cd.seq ?_
        refine Cd.region ?_
        refine Ls.ev (some 38) (Ev.fieldAddr (k := 1) (show Oper.op _ = Op.fieldAddr 61 (Operand.tmp 6) 1 from rfl) (by rfl) (by kernel_rfl) (by rfl)) (by rfl) (by rfl) ?_
        refine Ls.ev (some 39) (Ev.load 3 (show Oper.op _ = Op.load 59 (Operand.tmp 38) from rfl) (by rfl) (by rfl) (by kernel_rfl) (by rfl)) (by rfl) (by rfl) ?_
        refine Ls.ev (some 40) (Ev.move (show Oper.op _ = Op.move (Operand.tmp 2) from rfl) (by rfl)) (by rfl) (by rfl) ?_
        refine Ls.ev (some 41) (Ev.indexAt (sz := 2) (show Oper.op _ = Op.indexAddr 59 (Operand.tmp 39) (Operand.tmp 40) from rfl) (by rfl) (by rfl) Try.underlying59 (by kernel_rfl) (by omega)) (by rfl) (by rfl) ?_
        refine Ls.ev (some 42) (Ev.loadEl (show Oper.op _ = Op.load 41 (Operand.tmp 41) from rfl) (by rfl) (ReadsIn.rd 6 (by rfl)) (by kernel_rfl) (by intro _; rfl) (by assumption)) (by rfl) (by rfl) ?_
        refine Ls.ev (some 43) (Ev.move (show Oper.op _ = Op.move (Operand.tmp 4) from rfl) (by rfl)) (by rfl) (by rfl) ?_
        refine Ls.does (some 44) (Does.readN (show Oper.op _ = Op.call { callee := Callee.value (Operand.func 31), args := #[Operand.tmp 42, Operand.tmp 43], argTypes := #[41, 3] } from rfl) Try.func31 (by kernel_rfl) (by kernel_rfl) (dCut_sl z (by have : z.l.length ≤ 24 := hlz; omega) tick) (by rfl) (by rfl) ⟨ReadsIn.rd 10 (by rfl), trivial⟩ (fun _ => by rfl)) (by rfl) (by rfl) ?_
        rintro n hnc
        rw [← hnc] at hcz
        have hln : n.l.length ≤ 24 := (planR_iff.1 hcz.1).1
        have hA := applyR_of (m := m) (c := ⟨v, ep, ⟨s, l⟩⟩) hbe ((congrArg (fun r => cutR r tick) hbr).trans hnc.symm)
        dsimp only at hA
        rw [if_neg (by rw [h1]; simp; omega)] at hA
        refine Ent.see 0 (by rfl) ?_
        refine Ls.does (some 14) (Does.alloc (cs := [.int .i64 0, .slice none 0 0]) (show Oper.op _ = Op.alloc 41 from rfl) (ZeroIs.mk (.agg #[.int .i64 0, .slice none 0 0]) (by kernel_rfl) (by rfl))) (by rfl) (by rfl) ?_
        intro g6 _
        refine Ls.does none (Does.store 0 (show Oper.op _ = Op.store 41 (Operand.tmp 14) (Operand.tmp 44) from rfl) (by rfl) (by rfl) (by rfl) (by kernel_rfl) (by rfl) (by kernel_rfl) (by rfl)) (by rfl) (by rfl) ?_
        intro _ _
        refine Ls.nil ?_
        refine Cd.seq ?_
        refine Cd.seq ?_
        refine Ent.pick [0, 2, 3, 4, 5, 7, 8, 6, 1, 9, 10, 11, 12] (by rfl) ?_
        refine Ent.norm ([(2, .int .i64 k), (4, .int .i64 tick), (5, .pointer (some ⟨g1, 0, none⟩)), (6, .pointer (some ⟨g2, 0, none⟩)), (8, .pointer (some ⟨g3, 0, none⟩)), (10, .pointer (some ⟨g4, 0, none⟩)), (11, .pointer (some ⟨g5, 0, none⟩)), (12, .int .i64 v), (13, .int .i64 e), (14, .pointer (some ⟨g6, 0, none⟩))]) ([blk g6 41 n.enc, blk g5 45 [.int .i64 0, .int .i64 0, .int .i64 0, .slice none 0 0], blk g4 61 [.slice none 0 0, .slice none 0 0], blk g3 43 [.int .i64 v, .int .i64 ep, .int .i64 s, .slice D l.length d], blk g2 61 [.slice (some ad) eps.length ec, .slice (some bd) rts.length rc], rdI (some ad) eps, rd (some bd) rts.length 2 (rts.flatMap RtS.enc), blk g1 24 [.int .i64 m.w, .int .i64 m.h, .int .i64 m.sh, .slice A m.bl.length ac], n.rd, rdI A m.bl, starf fun k : Nat => (rts.getD k noS).rd, rdI D l, z.rd]) (by repeat (first | exact trivial | refine ⟨by rfl, ?_⟩ | refine ⟨by simp only [List.length_append, List.length_cons, List.length_nil]; rfl, ?_⟩ | refine ⟨by push_cast; rfl, ?_⟩)) (by rfl) ?_
        refine Cd.region ?_
        refine Ls.ev (some 45) (Ev.move (show Oper.op _ = Op.move (Operand.tmp 12) from rfl) (by rfl)) (by rfl) (by rfl) ?_
        refine Ls.ev (some 46) (Ev.eql (show Oper.op _ = Op.binOp BinOp.eql 3 (Operand.tmp 45) (Operand.const (Value.int IntKind.i64 1)) 3 from rfl) (by rfl) (by rfl)) (by rfl) (by rfl) ?_
        refine Ls.nil ?_
        refine Cd.cond _ (by rfl) (fun h4 => ?_) (fun h4 => ?_)
        · skip
          rw [if_pos (of_decide_eq_true h4)] at hA
          skip
          refine Cd.seq ?_
          refine Cd.drawS [0, 4, 5, 6] [15] (by kernel_rfl) ?_
          refine Rg.ev 0 (by rfl) (fun _ h => h.pick [0, 4, 5, 6] rfl) (Ev.loads 1 (show Oper.op _ = Op.load 61 (Operand.tmp 6) from rfl) (by rfl) (by rfl) (n := 2) (by kernel_rfl) (by rfl) (by rfl)) (by rfl) (some 47) (by rfl) (by kernel_rfl) (by kernel_rfl) (by kernel_rfl) (by kernel_rfl) ?_
          refine Rg.ev 1 (by rfl) (fun _ h => h.pick [0, 4, 5, 6] rfl) (Ev.move (show Oper.op _ = Op.move (Operand.tmp 2) from rfl) (by rfl)) (by rfl) (some 48) (by rfl) (by kernel_rfl) (by kernel_rfl) (by kernel_rfl) (by kernel_rfl) ?_
          refine Rg.ev 2 (by rfl) (fun _ h => h.pick [0, 4, 5, 6] rfl) (Ev.move (show Oper.op _ = Op.move (Operand.tmp 13) from rfl) (by rfl)) (by rfl) (some 49) (by rfl) (by kernel_rfl) (by kernel_rfl) (by kernel_rfl) (by kernel_rfl) ?_
          refine Rg.ev 3 (by rfl) (fun _ h => h.pick [0, 4, 5, 6] rfl) (Ev.addI (show Oper.op _ = Op.binOp BinOp.add 3 (Operand.tmp 49) (Operand.const (Value.int IntKind.i64 1)) 3 from rfl) (by rfl) (by rfl) (by omega)) (by rfl) (some 50) (by rfl) (by kernel_rfl) (by kernel_rfl) (by kernel_rfl) (by kernel_rfl) ?_
          refine Rg.ev 4 (by rfl) (fun _ h => h.pick [0, 4, 5, 6] rfl) (Ev.fieldAddr (k := 1) (show Oper.op _ = Op.fieldAddr 61 (Operand.tmp 6) 1 from rfl) (by rfl) (by kernel_rfl) (by rfl)) (by rfl) (some 51) (by rfl) (by kernel_rfl) (by kernel_rfl) (by kernel_rfl) (by kernel_rfl) ?_
          refine Rg.ev 5 (by rfl) (fun _ h => h.pick [0, 4, 5, 6] rfl) (Ev.load 1 (show Oper.op _ = Op.load 59 (Operand.tmp 51) from rfl) (by rfl) (by rfl) (by kernel_rfl) (by rfl)) (by rfl) (some 52) (by rfl) (by kernel_rfl) (by kernel_rfl) (by kernel_rfl) (by kernel_rfl) ?_
          refine Rg.ev 6 (by rfl) (fun _ h => h.pick [0, 4, 5, 6] rfl) (Ev.move (show Oper.op _ = Op.move (Operand.tmp 2) from rfl) (by rfl)) (by rfl) (some 53) (by rfl) (by kernel_rfl) (by kernel_rfl) (by kernel_rfl) (by kernel_rfl) ?_
          refine Rg.ev 7 (by rfl) (fun _ h => h.pick [0, 4, 5, 6] rfl) (Ev.indexAt (sz := 2) (show Oper.op _ = Op.indexAddr 59 (Operand.tmp 52) (Operand.tmp 53) from rfl) (by rfl) (by rfl) Try.underlying59 (by kernel_rfl) (by omega)) (by rfl) (some 54) (by rfl) (by kernel_rfl) (by kernel_rfl) (by kernel_rfl) (by kernel_rfl) ?_
          refine Rg.ev 8 (by rfl) (fun _ h => h.pick [0, 4, 5, 6] rfl) (Ev.loadEl (show Oper.op _ = Op.load 41 (Operand.tmp 54) from rfl) (by rfl) (ReadsIn.rd 3 (by rfl)) (by kernel_rfl) (by intro _; rfl) (by assumption)) (by rfl) (some 55) (by rfl) (by kernel_rfl) (by kernel_rfl) (by kernel_rfl) (by kernel_rfl) ?_
          refine Rg.ev 10 (by rfl) (fun _ h => h.pick [0, 4, 5, 6] rfl) (Ev.move (show Oper.op _ = Op.move (Operand.tmp 13) from rfl) (by rfl)) (by rfl) (some 57) (by rfl) (by kernel_rfl) (by kernel_rfl) (by kernel_rfl) (by kernel_rfl) ?_
          refine Rg.ev 11 (by rfl) (fun _ h => h.pick [0, 4, 5, 6] rfl) (Ev.addI (show Oper.op _ = Op.binOp BinOp.add 3 (Operand.tmp 57) (Operand.const (Value.int IntKind.i64 1)) 3 from rfl) (by rfl) (by rfl) (by omega)) (by rfl) (some 58) (by rfl) (by kernel_rfl) (by kernel_rfl) (by kernel_rfl) (by kernel_rfl) ?_
          refine Rg.ev 12 (by rfl) (fun _ h => h.pick [0, 4, 5, 6] rfl) (Ev.loads 0 (show Oper.op _ = Op.load 41 (Operand.tmp 14) from rfl) (by rfl) (by rfl) (n := 2) (by kernel_rfl) (by rfl) (by rfl)) (by rfl) (some 59) (by rfl) (by kernel_rfl) (by kernel_rfl) (by kernel_rfl) (by kernel_rfl) ?_
          refine Rg.ev 13 (by rfl) (fun _ h => h.pick [0, 4, 5, 6] rfl) (Ev.buildP (pl := [(0, 1), (1, 1), (2, 2)]) (zs := [.int .i64 0, .int .i64 0, .int .i64 0, .slice none 0 0]) (show Oper.op _ = Op.build 45 #[(1, Operand.tmp 58), (2, Operand.tmp 59)] from rfl) (by rfl) (by kernel_rfl) (by rfl)) (by rfl) (some 60) (by rfl) (by kernel_rfl) (by kernel_rfl) (by kernel_rfl) (by kernel_rfl) ?_
          skip
          refine Rg.keep 9 (by rfl) (by kernel_rfl) (Does.readN (show Oper.op _ = Op.call { callee := Callee.value (Operand.func 32), args := #[Operand.tmp 47, Operand.tmp 48, Operand.tmp 50, Operand.tmp 55], argTypes := #[61, 3, 3, 41] } from rfl) Try.func32 (by kernel_rfl) (by kernel_rfl) (hwi k hk (e + 1) z) (by rfl) (by rfl) ⟨ReadsIn.rd 5 (by rfl), ReadsIn.rd 6 (by rfl), trivial⟩ (fun _ => by rfl)) (by rfl) (some 56) (by rfl) (fun _ _ h => by have h2 := h.pick [2, 6, 7, 8] (by rfl); exact h2) ?_
          rintro q ⟨hq1, hq2⟩
          refine Rg.keep 14 (by rfl) (by kernel_rfl) (Does.store 4 (show Oper.op _ = Op.store 61 (Operand.tmp 10) (Operand.tmp 56) from rfl) (by rfl) (by rfl) (by rfl) (by kernel_rfl) (by rfl) (by kernel_rfl) (by rfl)) (by rfl) none (by rfl) (fun _ _ h => by have h2 := h.pick [2, 6, 7, 8] (by rfl); exact h2) ?_
          intro _ _
          refine Rg.tail 15 [] (by rfl) (by kernel_rfl) (Does.store 3 (show Oper.op _ = Op.store 45 (Operand.tmp 11) (Operand.tmp 60) from rfl) (by rfl) (by rfl) (by rfl) (by kernel_rfl) (by rfl) (by kernel_rfl) (by rfl)) (by rfl) none (by rfl) (by kernel_rfl) (by kernel_rfl) ?_
          intro _ _
          refine Rg.done (by kernel_rfl) ?_ _
          refine Ent.see 0 (by rfl) ?_
          refine Ent.see 1 (by rfl) ?_
          refine Ent.pick [14, 12, 4, 3, 0, 1, 10] (by rfl) ?_
          refine Ent.map (fun w hs => Sat.starf_put (F := fun k : Nat => (rts.getD k noS).rd) (G := fun j : Nat => (q.rts.getD j noS).rd) (C := z.rd) rfl (fun j => by rw [hq2]; exact set_fam rts k z j) hs) ?_
          refine Cd.ret ?_
          refine Ent.ret ((q, (⟨0, e + 1, n⟩ : RepS))) (by rw [show (⟨v, ep, ⟨s, D, d, l⟩⟩ : CallS).p = ⟨v, ep, ⟨s, l⟩⟩ from rfl, hA]; exact with_p hq1 (hq2.trans (set_same hkz)) rfl) (Res.cell2 1 2 (by rfl) (by rfl) (by rfl) (by rfl) (by rfl) (n := 2) (n' := 4) (by kernel_rfl) (by kernel_rfl) (by rfl) (by rfl) (by rfl) (by rfl)) ?_ [3, 4, 0, 5] (by rfl) ?_
          · rfl
          · rfl
        · skip
          rw [if_neg (of_decide_eq_false h4)] at hA
          refine Cd.skip ?_
          refine Cd.seq ?_
          refine Cd.seq ?_
          refine Cd.region ?_
          refine Ls.ev (some 61) (Ev.move (show Oper.op _ = Op.move (Operand.tmp 13) from rfl) (by rfl)) (by rfl) (by rfl) ?_
          refine Ls.ev (some 62) (Ev.eql (show Oper.op _ = Op.binOp BinOp.eql 3 (Operand.tmp 61) (Operand.const (Value.int IntKind.i64 0)) 3 from rfl) (by rfl) (by rfl)) (by rfl) (by rfl) ?_
          refine Ls.nil ?_
          refine Cd.cond _ (by rfl) (fun h5 => ?_) (fun h5 => ?_)
          · skip
            rw [if_pos (of_decide_eq_true h5)] at hA
            refine Cd.seq ?_
            refine Cd.region ?_
            refine Ls.ev (some 63) (Ev.loads 4 (show Oper.op _ = Op.load 61 (Operand.tmp 6) from rfl) (by rfl) (by rfl) (n := 2) (by kernel_rfl) (by rfl) (by rfl)) (by rfl) (by rfl) ?_
            refine Ls.ev (some 64) (Ev.buildP (pl := [(0, 1), (1, 1), (2, 2)]) (zs := [.int .i64 0, .int .i64 0, .int .i64 0, .slice none 0 0]) (show Oper.op _ = Op.build 45 #[(0, Operand.const (Value.int IntKind.i64 4))] from rfl) (by rfl) (by kernel_rfl) (by rfl)) (by rfl) (by rfl) ?_
            refine Ls.does none (Does.store 2 (show Oper.op _ = Op.store 61 (Operand.tmp 10) (Operand.tmp 63) from rfl) (by rfl) (by rfl) (by rfl) (by kernel_rfl) (by rfl) (by kernel_rfl) (by rfl)) (by rfl) (by rfl) ?_
            intro _ _
            refine Ls.does none (Does.store 1 (show Oper.op _ = Op.store 45 (Operand.tmp 11) (Operand.tmp 64) from rfl) (by rfl) (by rfl) (by rfl) (by kernel_rfl) (by rfl) (by kernel_rfl) (by rfl)) (by rfl) (by rfl) ?_
            intro _ _
            refine Ls.nil ?_
            refine Ent.map (fun w hs => hs.rdNil) ?_
            refine Cd.ret ?_
            refine Ent.ret (((⟨some ad, ec, eps, some bd, rc, rts⟩ : BkD), refS 4)) (hA.symm) (Res.cell2 3 2 (by rfl) (by rfl) (by rfl) (by rfl) (by rfl) (n := 2) (n' := 4) (by kernel_rfl) (by kernel_rfl) (by rfl) (by rfl) (by rfl) (by rfl)) ?_ [6, 7, 11, 0] (by rfl) ?_
            · rfl
            · rfl
          · skip
            rw [if_neg (of_decide_eq_false h5)] at hA
            refine Cd.skip ?_
            refine Cd.seq ?_
            refine Cd.seq ?_
            refine Cd.region ?_
            refine Ls.ev (some 65) (Ev.move (show Oper.op _ = Op.move (Operand.tmp 12) from rfl) (by rfl)) (by rfl) (by rfl) ?_
            refine Ls.ev (some 66) (Ev.eql (show Oper.op _ = Op.binOp BinOp.eql 3 (Operand.tmp 65) (Operand.const (Value.int IntKind.i64 6)) 3 from rfl) (by rfl) (by rfl)) (by rfl) (by rfl) ?_
            refine Ls.nil ?_
            refine Cd.cond _ (by rfl) (fun h6 => ?_) (fun h6 => ?_)
            · skip
              rw [if_pos (of_decide_eq_true h6)] at hA
              skip
              refine Cd.seq ?_
              refine Cd.drawS [0, 4] [5] (by kernel_rfl) ?_
              refine Rg.ev 0 (by rfl) (fun _ h => h.pick [0, 4] rfl) (Ev.loads 1 (show Oper.op _ = Op.load 61 (Operand.tmp 6) from rfl) (by rfl) (by rfl) (n := 2) (by kernel_rfl) (by rfl) (by rfl)) (by rfl) (some 67) (by rfl) (by kernel_rfl) (by kernel_rfl) (by kernel_rfl) (by kernel_rfl) ?_
              refine Rg.ev 1 (by rfl) (fun _ h => h.pick [0, 4] rfl) (Ev.move (show Oper.op _ = Op.move (Operand.tmp 13) from rfl) (by rfl)) (by rfl) (some 68) (by rfl) (by kernel_rfl) (by kernel_rfl) (by kernel_rfl) (by kernel_rfl) ?_
              refine Rg.ev 2 (by rfl) (fun _ h => h.pick [0, 4] rfl) (Ev.loads 0 (show Oper.op _ = Op.load 41 (Operand.tmp 14) from rfl) (by rfl) (by rfl) (n := 2) (by kernel_rfl) (by rfl) (by rfl)) (by rfl) (some 69) (by rfl) (by kernel_rfl) (by kernel_rfl) (by kernel_rfl) (by kernel_rfl) ?_
              refine Rg.ev 3 (by rfl) (fun _ h => h.pick [0, 4] rfl) (Ev.buildP (pl := [(0, 1), (1, 1), (2, 2)]) (zs := [.int .i64 0, .int .i64 0, .int .i64 0, .slice none 0 0]) (show Oper.op _ = Op.build 45 #[(1, Operand.tmp 68), (2, Operand.tmp 69)] from rfl) (by rfl) (by kernel_rfl) (by rfl)) (by rfl) (some 70) (by rfl) (by kernel_rfl) (by kernel_rfl) (by kernel_rfl) (by kernel_rfl) ?_
              refine Rg.keep 4 (by rfl) (by kernel_rfl) (Does.store 2 (show Oper.op _ = Op.store 61 (Operand.tmp 10) (Operand.tmp 67) from rfl) (by rfl) (by rfl) (by rfl) (by kernel_rfl) (by rfl) (by kernel_rfl) (by rfl)) (by rfl) none (by rfl) (fun _ _ h => by have h2 := h.pick [0, 4] (by rfl); exact h2) ?_
              intro _ _
              refine Rg.tail 5 [] (by rfl) (by kernel_rfl) (Does.store 1 (show Oper.op _ = Op.store 45 (Operand.tmp 11) (Operand.tmp 70) from rfl) (by rfl) (by rfl) (by rfl) (by kernel_rfl) (by rfl) (by kernel_rfl) (by rfl)) (by rfl) none (by rfl) (by kernel_rfl) (by kernel_rfl) ?_
              intro _ _
              refine Rg.done (by kernel_rfl) ?_ _
              refine Cd.ret ?_
              refine Ent.ret (((⟨some ad, ec, eps, some bd, rc, rts⟩ : BkD), (⟨0, e, n⟩ : RepS))) (hA.symm) (Res.cell2 2 1 (by rfl) (by rfl) (by rfl) (by rfl) (by rfl) (n := 2) (n' := 4) (by kernel_rfl) (by kernel_rfl) (by rfl) (by rfl) (by rfl) (by rfl)) ?_ [5, 6, 10, 8] (by rfl) ?_
              · rfl
              · rfl
            · skip
              rw [if_neg (of_decide_eq_false h6)] at hA
              refine Cd.skip ?_
              refine Cd.seq ?_
              refine Cd.seq ?_
              refine Cd.region ?_
              refine Ls.ev (some 71) (Ev.move (show Oper.op _ = Op.move (Operand.tmp 13) from rfl) (by rfl)) (by rfl) (by rfl) ?_
              refine Ls.ev (some 72) (Ev.fieldAddr (k := 1) (show Oper.op _ = Op.fieldAddr 43 (Operand.tmp 8) 1 from rfl) (by rfl) (by kernel_rfl) (by rfl)) (by rfl) (by rfl) ?_
              refine Ls.ev (some 73) (Ev.load 3 (show Oper.op _ = Op.load 3 (Operand.tmp 72) from rfl) (by rfl) (by rfl) (by kernel_rfl) (by rfl)) (by rfl) (by rfl) ?_
              refine Ls.ev (some 74) (Ev.neq (show Oper.op _ = Op.binOp BinOp.neq 3 (Operand.tmp 71) (Operand.tmp 73) 3 from rfl) (by rfl) (by rfl)) (by rfl) (by rfl) ?_
              refine Ls.nil ?_
              refine Cd.cond _ (by rfl) (fun h7 => ?_) (fun h7 => ?_)
              · skip
                rw [if_pos (of_decide_eq_true h7)] at hA
                refine Cd.seq ?_
                refine Cd.region ?_
                refine Ls.ev (some 75) (Ev.loads 4 (show Oper.op _ = Op.load 61 (Operand.tmp 6) from rfl) (by rfl) (by rfl) (n := 2) (by kernel_rfl) (by rfl) (by rfl)) (by rfl) (by rfl) ?_
                refine Ls.ev (some 76) (Ev.buildP (pl := [(0, 1), (1, 1), (2, 2)]) (zs := [.int .i64 0, .int .i64 0, .int .i64 0, .slice none 0 0]) (show Oper.op _ = Op.build 45 #[(0, Operand.const (Value.int IntKind.i64 190))] from rfl) (by rfl) (by kernel_rfl) (by rfl)) (by rfl) (by rfl) ?_
                refine Ls.does none (Does.store 2 (show Oper.op _ = Op.store 61 (Operand.tmp 10) (Operand.tmp 75) from rfl) (by rfl) (by rfl) (by rfl) (by kernel_rfl) (by rfl) (by kernel_rfl) (by rfl)) (by rfl) (by rfl) ?_
                intro _ _
                refine Ls.does none (Does.store 1 (show Oper.op _ = Op.store 45 (Operand.tmp 11) (Operand.tmp 76) from rfl) (by rfl) (by rfl) (by rfl) (by kernel_rfl) (by rfl) (by kernel_rfl) (by rfl)) (by rfl) (by rfl) ?_
                intro _ _
                refine Ls.nil ?_
                refine Ent.map (fun w hs => hs.rdNil) ?_
                refine Cd.ret ?_
                refine Ent.ret (((⟨some ad, ec, eps, some bd, rc, rts⟩ : BkD), refS 190)) (hA.symm) (Res.cell2 3 2 (by rfl) (by rfl) (by rfl) (by rfl) (by rfl) (n := 2) (n' := 4) (by kernel_rfl) (by kernel_rfl) (by rfl) (by rfl) (by rfl) (by rfl)) ?_ [6, 7, 11, 0] (by rfl) ?_
                · rfl
                · rfl
              · skip
                rw [if_neg (of_decide_eq_false h7)] at hA
                refine Cd.skip ?_
                refine Cd.seq ?_
                refine Cd.seq ?_
                refine Cd.region ?_
                refine Ls.ev (some 77) (Ev.move (show Oper.op _ = Op.move (Operand.tmp 12) from rfl) (by rfl)) (by rfl) (by rfl) ?_
                refine Ls.ev (some 78) (Ev.eql (show Oper.op _ = Op.binOp BinOp.eql 3 (Operand.tmp 77) (Operand.const (Value.int IntKind.i64 2)) 3 from rfl) (by rfl) (by rfl)) (by rfl) (by rfl) ?_
                refine Ls.nil ?_
                refine Cd.cond _ (by rfl) (fun h8 => ?_) (fun h8 => ?_)
                · skip
                  rw [if_pos (of_decide_eq_true h8)] at hA
                  refine Cd.seq ?_
                  refine Cd.region ?_
                  refine Ls.ev (some 79) (Ev.loads 4 (show Oper.op _ = Op.load 61 (Operand.tmp 6) from rfl) (by rfl) (by rfl) (n := 2) (by kernel_rfl) (by rfl) (by rfl)) (by rfl) (by rfl) ?_
                  refine Ls.ev (some 80) (Ev.move (show Oper.op _ = Op.move (Operand.tmp 13) from rfl) (by rfl)) (by rfl) (by rfl) ?_
                  refine Ls.ev (some 81) (Ev.buildP (pl := [(0, 1), (1, 1), (2, 2)]) (zs := [.int .i64 0, .int .i64 0, .int .i64 0, .slice none 0 0]) (show Oper.op _ = Op.build 45 #[(1, Operand.tmp 80)] from rfl) (by rfl) (by kernel_rfl) (by rfl)) (by rfl) (by rfl) ?_
                  refine Ls.does none (Does.store 2 (show Oper.op _ = Op.store 61 (Operand.tmp 10) (Operand.tmp 79) from rfl) (by rfl) (by rfl) (by rfl) (by kernel_rfl) (by rfl) (by kernel_rfl) (by rfl)) (by rfl) (by rfl) ?_
                  intro _ _
                  refine Ls.does none (Does.store 1 (show Oper.op _ = Op.store 45 (Operand.tmp 11) (Operand.tmp 81) from rfl) (by rfl) (by rfl) (by rfl) (by kernel_rfl) (by rfl) (by kernel_rfl) (by rfl)) (by rfl) (by rfl) ?_
                  intro _ _
                  refine Ls.nil ?_
                  refine Ent.map (fun w hs => hs.rdNil) ?_
                  refine Cd.ret ?_
                  refine Ent.ret (((⟨some ad, ec, eps, some bd, rc, rts⟩ : BkD), (⟨0, e, noS⟩ : RepS))) (hA.symm) (Res.cell2 3 2 (by rfl) (by rfl) (by rfl) (by rfl) (by rfl) (n := 2) (n' := 4) (by kernel_rfl) (by kernel_rfl) (by rfl) (by rfl) (by rfl) (by rfl)) ?_ [6, 7, 11, 0] (by rfl) ?_
                  · rfl
                  · rfl
                · skip
                  rw [if_neg (of_decide_eq_false h8)] at hA
                  refine Cd.skip ?_
                  refine Cd.seq ?_
                  refine Cd.region ?_
                  refine Ls.ev (some 82) (Ev.fieldAddr (k := 2) (show Oper.op _ = Op.fieldAddr 43 (Operand.tmp 8) 2 from rfl) (by rfl) (by kernel_rfl) (by rfl)) (by rfl) (by rfl) ?_
                  refine Ls.ev (some 83) (Ev.loads 3 (show Oper.op _ = Op.load 41 (Operand.tmp 82) from rfl) (by rfl) (by rfl) (n := 2) (by kernel_rfl) (by rfl) (by rfl)) (by rfl) (by rfl) ?_
                  refine Ls.does (some 15) (Does.alloc (cs := [.int .i64 0, .slice none 0 0]) (show Oper.op _ = Op.alloc 41 from rfl) (ZeroIs.mk (.agg #[.int .i64 0, .slice none 0 0]) (by kernel_rfl) (by rfl))) (by rfl) (by rfl) ?_
                  intro g7 _
                  refine Ls.does none (Does.store 0 (show Oper.op _ = Op.store 41 (Operand.tmp 15) (Operand.tmp 83) from rfl) (by rfl) (by rfl) (by rfl) (by kernel_rfl) (by rfl) (by kernel_rfl) (by rfl)) (by rfl) (by rfl) ?_
                  intro _ _
                  refine Ls.nil ?_
                  refine Cd.seq ?_
                  refine Cd.seq ?_
                  refine Ent.pick [0, 1, 2, 3, 4, 5, 8, 6, 7, 9, 10, 11, 12] (by rfl) ?_
                  refine Ent.norm ([(2, .int .i64 k), (4, .int .i64 tick), (5, .pointer (some ⟨g1, 0, none⟩)), (6, .pointer (some ⟨g2, 0, none⟩)), (8, .pointer (some ⟨g3, 0, none⟩)), (10, .pointer (some ⟨g4, 0, none⟩)), (11, .pointer (some ⟨g5, 0, none⟩)), (12, .int .i64 v), (13, .int .i64 e), (14, .pointer (some ⟨g6, 0, none⟩)), (15, .pointer (some ⟨g7, 0, none⟩))]) ([blk g7 41 [.int .i64 s, .slice D l.length d], blk g6 41 n.enc, blk g5 45 [.int .i64 0, .int .i64 0, .int .i64 0, .slice none 0 0], blk g4 61 [.slice none 0 0, .slice none 0 0], blk g3 43 [.int .i64 v, .int .i64 ep, .int .i64 s, .slice D l.length d], blk g2 61 [.slice (some ad) eps.length ec, .slice (some bd) rts.length rc], blk g1 24 [.int .i64 m.w, .int .i64 m.h, .int .i64 m.sh, .slice A m.bl.length ac], rdI (some ad) eps, rd (some bd) rts.length 2 (rts.flatMap RtS.enc), n.rd, rdI A m.bl, starf fun k : Nat => (rts.getD k noS).rd, rdI D l]) (by repeat (first | exact trivial | refine ⟨by rfl, ?_⟩ | refine ⟨by simp only [List.length_append, List.length_cons, List.length_nil]; rfl, ?_⟩ | refine ⟨by push_cast; rfl, ?_⟩)) (by rfl) ?_
                  refine Cd.region ?_
                  refine Ls.ev (some 84) (Ev.move (show Oper.op _ = Op.move (Operand.tmp 12) from rfl) (by rfl)) (by rfl) (by rfl) ?_
                  refine Ls.ev (some 85) (Ev.eql (show Oper.op _ = Op.binOp BinOp.eql 3 (Operand.tmp 84) (Operand.const (Value.int IntKind.i64 3)) 3 from rfl) (by rfl) (by rfl)) (by rfl) (by rfl) ?_
                  refine Ls.nil ?_
                  refine Cd.cut (ι := RtS) (fun x => [(2, .int .i64 k), (4, .int .i64 tick), (5, .pointer (some ⟨g1, 0, none⟩)), (6, .pointer (some ⟨g2, 0, none⟩)), (8, .pointer (some ⟨g3, 0, none⟩)), (10, .pointer (some ⟨g4, 0, none⟩)), (11, .pointer (some ⟨g5, 0, none⟩)), (12, .int .i64 v), (13, .int .i64 e), (14, .pointer (some ⟨g6, 0, none⟩)), (15, .pointer (some ⟨g7, 0, none⟩))]) (fun x => [blk g7 41 x.enc, blk g6 41 n.enc, blk g5 45 [.int .i64 0, .int .i64 0, .int .i64 0, .slice none 0 0], blk g4 61 [.slice none 0 0, .slice none 0 0], blk g3 43 [.int .i64 v, .int .i64 ep, .int .i64 s, .slice D l.length d], blk g2 61 [.slice (some ad) eps.length ec, .slice (some bd) rts.length rc], blk g1 24 [.int .i64 m.w, .int .i64 m.h, .int .i64 m.sh, .slice A m.bl.length ac], rdI (some ad) eps, rd (some bd) rts.length 2 (rts.flatMap RtS.enc), n.rd, rdI A m.bl, starf fun k : Nat => (rts.getD k noS).rd, x.rd]) (fun x => checkR m x.p = 0 ∧ applyR m (⟨some ad, ec, eps, some bd, rc, rts⟩ : BkD).p k ⟨v, ep, ⟨s, l⟩⟩ tick = (if confR (⟨some ad, ec, eps, some bd, rc, rts⟩ : BkD).p k x.p tick 16 0 then ((⟨some ad, ec, eps, some bd, rc, rts⟩ : BkD).p, refusedP 140) else ((⟨some ad, ec, eps, some bd, rc, rts⟩ : BkD).p.setRt k x.p, ⟨0, e, x.p⟩))) ?_ ?_
                  · skip
                    refine Cd.cond _ (by rfl) (fun h9 => ?_) (fun h9 => ?_)
                    · skip
                      rw [if_pos (of_decide_eq_true h9)] at hA
                      refine Cd.seq ?_
                      refine Cd.region ?_
                      refine Ls.ev (some 86) (Ev.loads 6 (show Oper.op _ = Op.load 24 (Operand.tmp 5) from rfl) (by rfl) (by rfl) (n := 4) (by kernel_rfl) (by rfl) (by rfl)) (by rfl) (by rfl) ?_
                      refine Ls.ev (some 87) (Ev.loads 0 (show Oper.op _ = Op.load 41 (Operand.tmp 15) from rfl) (by rfl) (by rfl) (n := 2) (by kernel_rfl) (by rfl) (by rfl)) (by rfl) (by rfl) ?_
                      refine Ls.does (some 88) (Does.read (show Oper.op _ = Op.call { callee := Callee.value (Operand.func 33), args := #[Operand.tmp 86, Operand.tmp 87], argTypes := #[24, 41] } from rfl) Try.func33 (by kernel_rfl) (by kernel_rfl) (hck ⟨s, D, d, l⟩ (show l.length ≤ 1048576 by omega)) (by rfl) (by rfl) ⟨ReadsIn.rd 10 (by rfl), ReadsIn.rd 12 (by rfl), trivial⟩) (by rfl) (by rfl) ?_
                      rintro _ -
                      refine Ls.ev (some 16) (Ev.assign (show Oper.op _ = Op.assign (Operand.tmp 88) from rfl) (by rfl)) (by rfl) (by rfl) ?_
                      refine Ls.nil ?_
                      refine Cd.seq ?_
                      refine Cd.seq ?_
                      refine Cd.region ?_
                      refine Ls.ev (some 89) (Ev.move (show Oper.op _ = Op.move (Operand.tmp 16) from rfl) (by rfl)) (by rfl) (by rfl) ?_
                      refine Ls.ev (some 90) (Ev.eql (show Oper.op _ = Op.binOp BinOp.eql 3 (Operand.tmp 89) (Operand.const (Value.int IntKind.i64 0)) 3 from rfl) (by rfl) (by rfl)) (by rfl) (by rfl) ?_
                      refine Ls.ev (some 91) (Ev.move (show Oper.op _ = Op.move (Operand.tmp 90) from rfl) (by rfl)) (by rfl) (by rfl) ?_
                      refine Ent.split 91 (by rfl) (fun h10 => ?_) (fun h10 => ?_)
                      · skip
                        have h10' : checkR m ⟨s, l⟩ ≠ 0 := of_decide_eq_false h10
                        rw [if_pos h10'] at hA
                        refine Ls.pass (some 92) (by rfl) (by rfl) ?_
                        refine Ls.pass (some 93) (by rfl) (by rfl) ?_
                        refine Ls.pass (some 94) (by rfl) (by rfl) ?_
                        refine Ls.pass (some 95) (by rfl) (by rfl) ?_
                        refine Ls.ev (some 96) (Ev.pickF (show Oper.op _ = Op.pick (Operand.tmp 91) (Operand.tmp 95) (Operand.const (Value.bool false)) from rfl) (by rfl) (by rfl)) (by rfl) (by rfl) ?_
                        refine Ls.nil ?_
                        skip
                        refine Cd.cond_false (by rfl) (rfl) ?_
                        refine Cd.skip ?_
                        refine Cd.seq ?_
                        refine Cd.seq ?_
                        refine Cd.region ?_
                        refine Ls.ev (some 97) (Ev.move (show Oper.op _ = Op.move (Operand.tmp 16) from rfl) (by rfl)) (by rfl) (by rfl) ?_
                        refine Ls.ev (some 98) (Ev.eql (show Oper.op _ = Op.binOp BinOp.eql 3 (Operand.tmp 97) (Operand.const (Value.int IntKind.i64 0)) 3 from rfl) (by rfl) (by rfl)) (by rfl) (by rfl) ?_
                        refine Ls.ev (some 99) (Ev.move (show Oper.op _ = Op.move (Operand.tmp 98) from rfl) (by rfl)) (by rfl) (by rfl) ?_
                        refine Ent.known 99 false (by rfl) (by exact (h10)) ?_
                        refine Ls.pass (some 100) (by rfl) (by rfl) ?_
                        refine Ls.pass (some 101) (by rfl) (by rfl) ?_
                        refine Ls.pass (some 102) (by rfl) (by rfl) ?_
                        refine Ls.pass (some 103) (by rfl) (by rfl) ?_
                        refine Ls.ev (some 104) (Ev.pickF (show Oper.op _ = Op.pick (Operand.tmp 99) (Operand.tmp 103) (Operand.const (Value.bool false)) from rfl) (by rfl) (by rfl)) (by rfl) (by rfl) ?_
                        refine Ls.nil ?_
                        skip
                        skip
                        refine Cd.cond_false (by rfl) (rfl) ?_
                        refine Cd.skip ?_
                        refine Cd.seq ?_
                        refine Cd.region ?_
                        refine Ls.ev (some 105) (Ev.move (show Oper.op _ = Op.move (Operand.tmp 16) from rfl) (by rfl)) (by rfl) (by rfl) ?_
                        refine Ls.ev (some 106) (Ev.neq (show Oper.op _ = Op.binOp BinOp.neq 3 (Operand.tmp 105) (Operand.const (Value.int IntKind.i64 0)) 3 from rfl) (by rfl) (by rfl)) (by rfl) (by rfl) ?_
                        refine Ls.nil ?_
                        refine Cd.cond_true (by rfl) (decide_eq_true h10') ?_
                        refine Cd.seq ?_
                        refine Cd.region ?_
                        refine Ls.ev (some 107) (Ev.loads 5 (show Oper.op _ = Op.load 61 (Operand.tmp 6) from rfl) (by rfl) (by rfl) (n := 2) (by kernel_rfl) (by rfl) (by rfl)) (by rfl) (by rfl) ?_
                        refine Ls.ev (some 108) (Ev.move (show Oper.op _ = Op.move (Operand.tmp 16) from rfl) (by rfl)) (by rfl) (by rfl) ?_
                        refine Ls.ev (some 109) (Ev.buildP (pl := [(0, 1), (1, 1), (2, 2)]) (zs := [.int .i64 0, .int .i64 0, .int .i64 0, .slice none 0 0]) (show Oper.op _ = Op.build 45 #[(0, Operand.tmp 108)] from rfl) (by rfl) (by kernel_rfl) (by rfl)) (by rfl) (by rfl) ?_
                        refine Ls.does none (Does.store 3 (show Oper.op _ = Op.store 61 (Operand.tmp 10) (Operand.tmp 107) from rfl) (by rfl) (by rfl) (by rfl) (by kernel_rfl) (by rfl) (by kernel_rfl) (by rfl)) (by rfl) (by rfl) ?_
                        intro _ _
                        refine Ls.does none (Does.store 2 (show Oper.op _ = Op.store 45 (Operand.tmp 11) (Operand.tmp 109) from rfl) (by rfl) (by rfl) (by rfl) (by kernel_rfl) (by rfl) (by kernel_rfl) (by rfl)) (by rfl) (by rfl) ?_
                        intro _ _
                        refine Ls.nil ?_
                        refine Ent.map (fun w hs => hs.rdNil) ?_
                        refine Cd.ret ?_
                        refine Ent.ret (((⟨some ad, ec, eps, some bd, rc, rts⟩ : BkD), refS (checkR m ⟨s, l⟩))) (hA.symm) (Res.cell2 4 3 (by rfl) (by rfl) (by rfl) (by rfl) (by rfl) (n := 2) (n' := 4) (by kernel_rfl) (by kernel_rfl) (by rfl) (by rfl) (by rfl) (by rfl)) ?_ [8, 9, 12, 0] (by rfl) ?_
                        · rfl
                        · rfl
                      · skip
                        have h10' : checkR m ⟨s, l⟩ = 0 := of_decide_eq_true h10
                        rw [if_neg (show ¬ checkR m ⟨s, l⟩ ≠ 0 from fun e => e h10')] at hA
                        refine Ls.ev (some 92) (Ev.fieldAddr (k := 0) (show Oper.op _ = Op.fieldAddr 41 (Operand.tmp 15) 0 from rfl) (by rfl) (by kernel_rfl) (by rfl)) (by rfl) (by rfl) ?_
                        refine Ls.ev (some 93) (Ev.load 0 (show Oper.op _ = Op.load 3 (Operand.tmp 92) from rfl) (by rfl) (by rfl) (by kernel_rfl) (by rfl)) (by rfl) (by rfl) ?_
                        refine Ls.ev (some 94) (Ev.move (show Oper.op _ = Op.move (Operand.tmp 4) from rfl) (by rfl)) (by rfl) (by rfl) ?_
                        refine Ls.ev (some 95) (Ev.lss (show Oper.op _ = Op.binOp BinOp.lss 3 (Operand.tmp 93) (Operand.tmp 94) 3 from rfl) (by rfl) (by rfl)) (by rfl) (by rfl) ?_
                        refine Ls.ev (some 96) (Ev.pickT (show Oper.op _ = Op.pick (Operand.tmp 91) (Operand.tmp 95) (Operand.const (Value.bool false)) from rfl) (by rfl) (by rfl)) (by rfl) (by rfl) ?_
                        refine Ls.nil ?_
                        refine Cd.cond _ (by rfl) (fun h11 => ?_) (fun h11 => ?_)
                        · skip
                          rw [if_pos (show s < tick from of_decide_eq_true h11)] at hA
                          refine Cd.region ?_
                          refine Ls.ev (some 16) (Ev.assign (show Oper.op _ = Op.assign (Operand.const (Value.int IntKind.i64 7)) from rfl) (by rfl)) (by rfl) (by rfl) ?_
                          refine Ls.nil ?_
                          refine Cd.seq ?_
                          refine Cd.seq ?_
                          refine Cd.region ?_
                          refine Ls.ev (some 97) (Ev.move (show Oper.op _ = Op.move (Operand.tmp 16) from rfl) (by rfl)) (by rfl) (by rfl) ?_
                          refine Ls.ev (some 98) (Ev.eql (show Oper.op _ = Op.binOp BinOp.eql 3 (Operand.tmp 97) (Operand.const (Value.int IntKind.i64 0)) 3 from rfl) (by rfl) (by rfl)) (by rfl) (by rfl) ?_
                          refine Ls.ev (some 99) (Ev.move (show Oper.op _ = Op.move (Operand.tmp 98) from rfl) (by rfl)) (by rfl) (by rfl) ?_
                          refine Ent.known 99 false (by rfl) (by exact (decide_eq_false (by omega))) ?_
                          refine Ls.pass (some 100) (by rfl) (by rfl) ?_
                          refine Ls.pass (some 101) (by rfl) (by rfl) ?_
                          refine Ls.pass (some 102) (by rfl) (by rfl) ?_
                          refine Ls.pass (some 103) (by rfl) (by rfl) ?_
                          refine Ls.ev (some 104) (Ev.pickF (show Oper.op _ = Op.pick (Operand.tmp 99) (Operand.tmp 103) (Operand.const (Value.bool false)) from rfl) (by rfl) (by rfl)) (by rfl) (by rfl) ?_
                          refine Ls.nil ?_
                          skip
                          skip
                          refine Cd.cond_false (by rfl) (rfl) ?_
                          refine Cd.skip ?_
                          refine Cd.seq ?_
                          refine Cd.region ?_
                          refine Ls.ev (some 105) (Ev.move (show Oper.op _ = Op.move (Operand.tmp 16) from rfl) (by rfl)) (by rfl) (by rfl) ?_
                          refine Ls.ev (some 106) (Ev.neq (show Oper.op _ = Op.binOp BinOp.neq 3 (Operand.tmp 105) (Operand.const (Value.int IntKind.i64 0)) 3 from rfl) (by rfl) (by rfl)) (by rfl) (by rfl) ?_
                          refine Ls.nil ?_
                          refine Cd.cond_true (by rfl) (decide_eq_true (by omega)) ?_
                          refine Cd.seq ?_
                          refine Cd.region ?_
                          refine Ls.ev (some 107) (Ev.loads 5 (show Oper.op _ = Op.load 61 (Operand.tmp 6) from rfl) (by rfl) (by rfl) (n := 2) (by kernel_rfl) (by rfl) (by rfl)) (by rfl) (by rfl) ?_
                          refine Ls.ev (some 108) (Ev.move (show Oper.op _ = Op.move (Operand.tmp 16) from rfl) (by rfl)) (by rfl) (by rfl) ?_
                          refine Ls.ev (some 109) (Ev.buildP (pl := [(0, 1), (1, 1), (2, 2)]) (zs := [.int .i64 0, .int .i64 0, .int .i64 0, .slice none 0 0]) (show Oper.op _ = Op.build 45 #[(0, Operand.tmp 108)] from rfl) (by rfl) (by kernel_rfl) (by rfl)) (by rfl) (by rfl) ?_
                          refine Ls.does none (Does.store 3 (show Oper.op _ = Op.store 61 (Operand.tmp 10) (Operand.tmp 107) from rfl) (by rfl) (by rfl) (by rfl) (by kernel_rfl) (by rfl) (by kernel_rfl) (by rfl)) (by rfl) (by rfl) ?_
                          intro _ _
                          refine Ls.does none (Does.store 2 (show Oper.op _ = Op.store 45 (Operand.tmp 11) (Operand.tmp 109) from rfl) (by rfl) (by rfl) (by rfl) (by kernel_rfl) (by rfl) (by kernel_rfl) (by rfl)) (by rfl) (by rfl) ?_
                          intro _ _
                          refine Ls.nil ?_
                          refine Ent.map (fun w hs => hs.rdNil) ?_
                          refine Cd.ret ?_
                          refine Ent.ret (((⟨some ad, ec, eps, some bd, rc, rts⟩ : BkD), refS 7)) (hA.symm) (Res.cell2 4 3 (by rfl) (by rfl) (by rfl) (by rfl) (by rfl) (n := 2) (n' := 4) (by kernel_rfl) (by kernel_rfl) (by rfl) (by rfl) (by rfl) (by rfl)) ?_ [8, 9, 12, 0] (by rfl) ?_
                          · rfl
                          · rfl
                        · skip
                          rw [if_neg (show ¬ s < tick from of_decide_eq_false h11)] at hA
                          refine Cd.skip ?_
                          refine Cd.seq ?_
                          refine Cd.seq ?_
                          refine Cd.region ?_
                          refine Ls.ev (some 97) (Ev.move (show Oper.op _ = Op.move (Operand.tmp 16) from rfl) (by rfl)) (by rfl) (by rfl) ?_
                          refine Ls.ev (some 98) (Ev.eql (show Oper.op _ = Op.binOp BinOp.eql 3 (Operand.tmp 97) (Operand.const (Value.int IntKind.i64 0)) 3 from rfl) (by rfl) (by rfl)) (by rfl) (by rfl) ?_
                          refine Ls.ev (some 99) (Ev.move (show Oper.op _ = Op.move (Operand.tmp 98) from rfl) (by rfl)) (by rfl) (by rfl) ?_
                          refine Ent.known 99 true (by rfl) (by exact (h10)) ?_
                          refine Ls.ev (some 100) (Ev.fieldAddr (k := 1) (show Oper.op _ = Op.fieldAddr 41 (Operand.tmp 14) 1 from rfl) (by rfl) (by kernel_rfl) (by rfl)) (by rfl) (by rfl) ?_
                          refine Ls.ev (some 101) (Ev.load 1 (show Oper.op _ = Op.load 22 (Operand.tmp 100) from rfl) (by rfl) (by rfl) (by kernel_rfl) (by rfl)) (by rfl) (by rfl) ?_
                          refine Ls.ev (some 102) (Ev.len (show Oper.op _ = Op.call { callee := Callee.builtin Builtin.len, args := #[Operand.tmp 101], argTypes := #[22] } from rfl) (by rfl) Try.underlying22) (by rfl) (by rfl) ?_
                          refine Ls.ev (some 103) (Ev.gtr (show Oper.op _ = Op.binOp BinOp.gtr 3 (Operand.tmp 102) (Operand.const (Value.int IntKind.i64 0)) 3 from rfl) (by rfl) (by rfl)) (by rfl) (by rfl) ?_
                          refine Ls.ev (some 104) (Ev.pickT (show Oper.op _ = Op.pick (Operand.tmp 99) (Operand.tmp 103) (Operand.const (Value.bool false)) from rfl) (by rfl) (by rfl)) (by rfl) (by rfl) ?_
                          refine Ls.nil ?_
                          skip
                          refine Cd.cond _ (by rfl) (fun h12 => ?_) (fun h12 => ?_)
                          · skip
                            have h12' : 0 < n.l.length := by have := of_decide_eq_true h12; omega
                            rw [if_pos (show 0 < n.p.cells.length from h12')] at hA
                            refine Cd.region ?_
                            refine Ls.ev (some 16) (Ev.assign (show Oper.op _ = Op.assign (Operand.const (Value.int IntKind.i64 2)) from rfl) (by rfl)) (by rfl) (by rfl) ?_
                            refine Ls.nil ?_
                            refine Cd.seq ?_
                            refine Cd.region ?_
                            refine Ls.ev (some 105) (Ev.move (show Oper.op _ = Op.move (Operand.tmp 16) from rfl) (by rfl)) (by rfl) (by rfl) ?_
                            refine Ls.ev (some 106) (Ev.neq (show Oper.op _ = Op.binOp BinOp.neq 3 (Operand.tmp 105) (Operand.const (Value.int IntKind.i64 0)) 3 from rfl) (by rfl) (by rfl)) (by rfl) (by rfl) ?_
                            refine Ls.nil ?_
                            refine Cd.cond_true (by rfl) (decide_eq_true (by omega)) ?_
                            refine Cd.seq ?_
                            refine Cd.region ?_
                            refine Ls.ev (some 107) (Ev.loads 5 (show Oper.op _ = Op.load 61 (Operand.tmp 6) from rfl) (by rfl) (by rfl) (n := 2) (by kernel_rfl) (by rfl) (by rfl)) (by rfl) (by rfl) ?_
                            refine Ls.ev (some 108) (Ev.move (show Oper.op _ = Op.move (Operand.tmp 16) from rfl) (by rfl)) (by rfl) (by rfl) ?_
                            refine Ls.ev (some 109) (Ev.buildP (pl := [(0, 1), (1, 1), (2, 2)]) (zs := [.int .i64 0, .int .i64 0, .int .i64 0, .slice none 0 0]) (show Oper.op _ = Op.build 45 #[(0, Operand.tmp 108)] from rfl) (by rfl) (by kernel_rfl) (by rfl)) (by rfl) (by rfl) ?_
                            refine Ls.does none (Does.store 3 (show Oper.op _ = Op.store 61 (Operand.tmp 10) (Operand.tmp 107) from rfl) (by rfl) (by rfl) (by rfl) (by kernel_rfl) (by rfl) (by kernel_rfl) (by rfl)) (by rfl) (by rfl) ?_
                            intro _ _
                            refine Ls.does none (Does.store 2 (show Oper.op _ = Op.store 45 (Operand.tmp 11) (Operand.tmp 109) from rfl) (by rfl) (by rfl) (by rfl) (by kernel_rfl) (by rfl) (by kernel_rfl) (by rfl)) (by rfl) (by rfl) ?_
                            intro _ _
                            refine Ls.nil ?_
                            refine Ent.map (fun w hs => hs.rdNil) ?_
                            refine Cd.ret ?_
                            refine Ent.ret (((⟨some ad, ec, eps, some bd, rc, rts⟩ : BkD), refS 2)) (hA.symm) (Res.cell2 4 3 (by rfl) (by rfl) (by rfl) (by rfl) (by rfl) (n := 2) (n' := 4) (by kernel_rfl) (by kernel_rfl) (by rfl) (by rfl) (by rfl) (by rfl)) ?_ [8, 9, 12, 0] (by rfl) ?_
                            · rfl
                            · rfl
                          · skip
                            have h12' : ¬ 0 < n.l.length := by have := of_decide_eq_false h12; omega
                            rw [if_neg (show ¬ 0 < n.p.cells.length from h12')] at hA
                            refine Cd.skip ?_
                            refine Cd.seq ?_
                            refine Cd.region ?_
                            refine Ls.ev (some 105) (Ev.move (show Oper.op _ = Op.move (Operand.tmp 16) from rfl) (by rfl)) (by rfl) (by rfl) ?_
                            refine Ls.ev (some 106) (Ev.neq (show Oper.op _ = Op.binOp BinOp.neq 3 (Operand.tmp 105) (Operand.const (Value.int IntKind.i64 0)) 3 from rfl) (by rfl) (by rfl)) (by rfl) (by rfl) ?_
                            refine Ls.nil ?_
                            refine Cd.cond_false (by rfl) (decide_eq_false (show ¬ checkR m ⟨s, l⟩ ≠ 0 from fun e => e h10')) ?_
                            refine Cd.skip ?_
                            refine Ent.inv ((⟨s, D, d, l⟩ : RtS)) ?_ ?_ ?_
                            · (try dsimp only); exact ⟨h10', hA⟩
                            · (repeat (first | exact trivial | refine ⟨by rfl, ?_⟩ | refine ⟨by simp only [List.length_append, List.length_cons, List.length_nil]; rfl, ?_⟩ | refine ⟨by push_cast; rfl, ?_⟩))
                            · rfl
                    · skip
                      rw [if_neg (of_decide_eq_false h9)] at hA
                      refine Cd.seq ?_
                      refine Cd.seq ?_
                      refine Cd.region ?_
                      refine Ls.ev (some 110) (Ev.fieldAddr (k := 1) (show Oper.op _ = Op.fieldAddr 41 (Operand.tmp 14) 1 from rfl) (by rfl) (by kernel_rfl) (by rfl)) (by rfl) (by rfl) ?_
                      refine Ls.ev (some 111) (Ev.load 1 (show Oper.op _ = Op.load 22 (Operand.tmp 110) from rfl) (by rfl) (by rfl) (by kernel_rfl) (by rfl)) (by rfl) (by rfl) ?_
                      refine Ls.ev (some 112) (Ev.len (show Oper.op _ = Op.call { callee := Callee.builtin Builtin.len, args := #[Operand.tmp 111], argTypes := #[22] } from rfl) (by rfl) Try.underlying22) (by rfl) (by rfl) ?_
                      refine Ls.ev (some 113) (Ev.eql (show Oper.op _ = Op.binOp BinOp.eql 3 (Operand.tmp 112) (Operand.const (Value.int IntKind.i64 0)) 3 from rfl) (by rfl) (by rfl)) (by rfl) (by rfl) ?_
                      refine Ls.nil ?_
                      refine Cd.cond _ (by rfl) (fun h10 => ?_) (fun h10 => ?_)
                      · skip
                        have h10' : n.l.length = 0 := by have := of_decide_eq_true h10; omega
                        rw [if_pos (show n.p.cells.length = 0 from h10')] at hA
                        refine Cd.seq ?_
                        refine Cd.region ?_
                        refine Ls.ev (some 114) (Ev.loads 5 (show Oper.op _ = Op.load 61 (Operand.tmp 6) from rfl) (by rfl) (by rfl) (n := 2) (by kernel_rfl) (by rfl) (by rfl)) (by rfl) (by rfl) ?_
                        refine Ls.ev (some 115) (Ev.buildP (pl := [(0, 1), (1, 1), (2, 2)]) (zs := [.int .i64 0, .int .i64 0, .int .i64 0, .slice none 0 0]) (show Oper.op _ = Op.build 45 #[(0, Operand.const (Value.int IntKind.i64 4))] from rfl) (by rfl) (by kernel_rfl) (by rfl)) (by rfl) (by rfl) ?_
                        refine Ls.does none (Does.store 3 (show Oper.op _ = Op.store 61 (Operand.tmp 10) (Operand.tmp 114) from rfl) (by rfl) (by rfl) (by rfl) (by kernel_rfl) (by rfl) (by kernel_rfl) (by rfl)) (by rfl) (by rfl) ?_
                        intro _ _
                        refine Ls.does none (Does.store 2 (show Oper.op _ = Op.store 45 (Operand.tmp 11) (Operand.tmp 115) from rfl) (by rfl) (by rfl) (by rfl) (by kernel_rfl) (by rfl) (by kernel_rfl) (by rfl)) (by rfl) (by rfl) ?_
                        intro _ _
                        refine Ls.nil ?_
                        refine Ent.map (fun w hs => hs.rdNil) ?_
                        refine Cd.ret ?_
                        refine Ent.ret (((⟨some ad, ec, eps, some bd, rc, rts⟩ : BkD), refS 4)) (hA.symm) (Res.cell2 4 3 (by rfl) (by rfl) (by rfl) (by rfl) (by rfl) (n := 2) (n' := 4) (by kernel_rfl) (by kernel_rfl) (by rfl) (by rfl) (by rfl) (by rfl)) ?_ [8, 9, 12, 0] (by rfl) ?_
                        · rfl
                        · rfl
                      · skip
                        have h10' : ¬ n.l.length = 0 := by have := of_decide_eq_false h10; omega
                        rw [if_neg (show ¬ n.p.cells.length = 0 from h10')] at hA
                        refine Cd.skip ?_
                        refine Cd.seq ?_
                        refine Cd.seq ?_
                        refine Cd.region ?_
                        refine Ls.ev (some 116) (Ev.move (show Oper.op _ = Op.move (Operand.tmp 12) from rfl) (by rfl)) (by rfl) (by rfl) ?_
                        refine Ls.ev (some 117) (Ev.eql (show Oper.op _ = Op.binOp BinOp.eql 3 (Operand.tmp 116) (Operand.const (Value.int IntKind.i64 5)) 3 from rfl) (by rfl) (by rfl)) (by rfl) (by rfl) ?_
                        refine Ls.nil ?_
                        refine Cd.cond _ (by rfl) (fun h11 => ?_) (fun h11 => ?_)
                        · skip
                          rw [if_pos (of_decide_eq_true h11)] at hA
                          refine Cd.seq ?_
                          refine Cd.region ?_
                          refine Ls.ev (some 118) (Ev.loads 5 (show Oper.op _ = Op.load 61 (Operand.tmp 6) from rfl) (by rfl) (by rfl) (n := 2) (by kernel_rfl) (by rfl) (by rfl)) (by rfl) (by rfl) ?_
                          refine Ls.ev (some 119) (Ev.move (show Oper.op _ = Op.move (Operand.tmp 2) from rfl) (by rfl)) (by rfl) (by rfl) ?_
                          refine Ls.ev (some 120) (Ev.move (show Oper.op _ = Op.move (Operand.tmp 13) from rfl) (by rfl)) (by rfl) (by rfl) ?_
                          refine Ls.ev (some 121) (Ev.buildP (pl := [(0, 1), (1, 1)]) (zs := [.int .i64 0, .slice none 0 0]) (show Oper.op _ = Op.build 41 #[] from rfl) (by rfl) (by kernel_rfl) (by rfl)) (by rfl) (by rfl) ?_
                          refine Ls.does (some 122) (Does.readN (show Oper.op _ = Op.call { callee := Callee.value (Operand.func 32), args := #[Operand.tmp 118, Operand.tmp 119, Operand.tmp 120, Operand.tmp 121], argTypes := #[61, 3, 3, 41] } from rfl) Try.func32 (by kernel_rfl) (by kernel_rfl) (hwi k hk e noS) (by rfl) (by rfl) ⟨ReadsIn.rd 7 (by rfl), ReadsIn.rd 8 (by rfl), trivial⟩ (fun _ => by rfl)) (by rfl) (by rfl) ?_
                          rintro q ⟨hq1, hq2⟩
                          refine Ls.ev (some 123) (Ev.move (show Oper.op _ = Op.move (Operand.tmp 13) from rfl) (by rfl)) (by rfl) (by rfl) ?_
                          refine Ls.ev (some 124) (Ev.buildP (pl := [(0, 1), (1, 1), (2, 2)]) (zs := [.int .i64 0, .int .i64 0, .int .i64 0, .slice none 0 0]) (show Oper.op _ = Op.build 45 #[(1, Operand.tmp 123)] from rfl) (by rfl) (by kernel_rfl) (by rfl)) (by rfl) (by rfl) ?_
                          refine Ls.does none (Does.store 5 (show Oper.op _ = Op.store 61 (Operand.tmp 10) (Operand.tmp 122) from rfl) (by rfl) (by rfl) (by rfl) (by kernel_rfl) (by rfl) (by kernel_rfl) (by rfl)) (by rfl) (by rfl) ?_
                          intro _ _
                          refine Ls.does none (Does.store 4 (show Oper.op _ = Op.store 45 (Operand.tmp 11) (Operand.tmp 124) from rfl) (by rfl) (by rfl) (by rfl) (by kernel_rfl) (by rfl) (by kernel_rfl) (by rfl)) (by rfl) (by rfl) ?_
                          intro _ _
                          refine Ls.nil ?_
                          refine Ent.see 0 (by rfl) ?_
                          refine Ent.see 1 (by rfl) ?_
                          refine Ent.map (fun w hs => hs.rdNil) ?_
                          refine Ent.pick [0, 14, 6, 5, 1, 2] (by rfl) ?_
                          refine Ent.map (fun w hs => Sat.starf_put (F := fun k : Nat => (rts.getD k noS).rd) (G := fun j : Nat => (q.rts.getD j noS).rd) (C := noS.rd) rfl (fun j => by rw [hq2]; exact set_fam rts k noS j) hs) ?_
                          refine Ent.map (fun w hs => hs.rdNil) ?_
                          refine Cd.ret ?_
                          refine Ent.ret ((q, (⟨0, e, noS⟩ : RepS))) (by rw [show (⟨v, ep, ⟨s, D, d, l⟩⟩ : CallS).p = ⟨v, ep, ⟨s, l⟩⟩ from rfl, hA]; exact with_p2 (B := ⟨some ad, ec, eps, some bd, rc, rts⟩) hke hq1 hq2 rfl) (Res.cell2 2 3 (by rfl) (by rfl) (by rfl) (by rfl) (by rfl) (n := 2) (n' := 4) (by kernel_rfl) (by kernel_rfl) (by rfl) (by rfl) (by rfl) (by rfl)) ?_ [4, 5, 1, 0] (by rfl) ?_
                          · rfl
                          · rfl
                        · skip
                          rw [if_neg (of_decide_eq_false h11)] at hA
                          skip
                          refine Cd.skip ?_
                          refine Cd.seq ?_
                          refine Cd.drawS [1, 4] [11] (by kernel_rfl) ?_
                          refine Rg.ev 0 (by rfl) (fun _ h => h.pick [1, 4] rfl) (Ev.fieldAddr (k := 0) (show Oper.op _ = Op.fieldAddr 41 (Operand.tmp 14) 0 from rfl) (by rfl) (by kernel_rfl) (by rfl)) (by rfl) (some 125) (by rfl) (by kernel_rfl) (by kernel_rfl) (by kernel_rfl) (by kernel_rfl) ?_
                          refine Rg.ev 1 (by rfl) (fun _ h => h.pick [1, 4] rfl) (Ev.load 0 (show Oper.op _ = Op.load 3 (Operand.tmp 125) from rfl) (by rfl) (by rfl) (by kernel_rfl) (by rfl)) (by rfl) (some 126) (by rfl) (by kernel_rfl) (by kernel_rfl) (by kernel_rfl) (by kernel_rfl) ?_
                          refine Rg.ev 3 (by rfl) (fun _ h => h.pick [1, 4] rfl) (Ev.fieldAddr (k := 1) (show Oper.op _ = Op.fieldAddr 41 (Operand.tmp 14) 1 from rfl) (by rfl) (by kernel_rfl) (by rfl)) (by rfl) (some 128) (by rfl) (by kernel_rfl) (by kernel_rfl) (by kernel_rfl) (by kernel_rfl) ?_
                          refine Rg.ev 4 (by rfl) (fun _ h => h.pick [1, 4] rfl) (Ev.load 0 (show Oper.op _ = Op.load 22 (Operand.tmp 128) from rfl) (by rfl) (by rfl) (by kernel_rfl) (by rfl)) (by rfl) (some 129) (by rfl) (by kernel_rfl) (by kernel_rfl) (by kernel_rfl) (by kernel_rfl) ?_
                          refine Rg.ev 6 (by rfl) (fun _ h => h.pick [1, 4] rfl) (Ev.fieldAddr (k := 2) (show Oper.op _ = Op.fieldAddr 43 (Operand.tmp 8) 2 from rfl) (by rfl) (by kernel_rfl) (by rfl)) (by rfl) (some 131) (by rfl) (by kernel_rfl) (by kernel_rfl) (by kernel_rfl) (by kernel_rfl) ?_
                          refine Rg.ev 7 (by rfl) (fun _ h => h.pick [1, 4] rfl) (Ev.fieldAddr (k := 1) (show Oper.op _ = Op.fieldAddr 41 (Operand.tmp 131) 1 from rfl) (by rfl) (by kernel_rfl) (by rfl)) (by rfl) (some 132) (by rfl) (by kernel_rfl) (by kernel_rfl) (by kernel_rfl) (by kernel_rfl) ?_
                          refine Rg.ev 8 (by rfl) (fun _ h => h.pick [1, 4] rfl) (Ev.load 1 (show Oper.op _ = Op.load 22 (Operand.tmp 132) from rfl) (by rfl) (by rfl) (by kernel_rfl) (by rfl)) (by rfl) (some 133) (by rfl) (by kernel_rfl) (by kernel_rfl) (by kernel_rfl) (by kernel_rfl) ?_
                          skip
                          refine Rg.keep 2 (by rfl) (by kernel_rfl) (Does.lit0 (sz := 1) (show Oper.op _ = Op.buildSlice 22 0 #[] from rfl) Try.underlying22 (by kernel_rfl)) (by rfl) (some 127) (by rfl) (fun _ _ h => by have h2 := h.pick [2, 5] (by rfl); exact h2) ?_
                          intro g8 _
                          refine Rg.keep 5 (by rfl) (by kernel_rfl) (Does.app0 (news := ints n.l) 0 (show Oper.op _ = Op.call { callee := Callee.builtin Builtin.append, args := #[Operand.tmp 127, Operand.tmp 129], argTypes := #[22, 22] } from rfl) (by rfl) (by rfl) (by rfl) (ReadsIn.rd 10 (by rfl)) elem_int (one_ints _) (by omega)) (by rfl) (some 130) (by rfl) (fun _ _ h => by have h2 := h.pick [2, 5] (by rfl); exact h2) ?_
                          rintro q1 -
                          skip
                          refine Rg.keep 9 (by rfl) (by kernel_rfl) (Does.app (xs := ints n.l) (news := ints l) 0 (show Oper.op _ = Op.call { callee := Callee.builtin Builtin.append, args := #[Operand.tmp 130, Operand.tmp 133], argTypes := #[22, 22] } from rfl) (by rfl) (by rfl) (by rfl) (ReadsIn.rd 13 (by rfl)) elem_int (one_ints _) (by omega)) (by rfl) (some 134) (by rfl) (fun _ _ h => by have h2 := h.pick [2, 5] (by rfl); exact h2) ?_
                          rintro q2 -
                          refine Rg.ev 10 (by rfl) (fun _ h => h.pick [2, 5] rfl) (Ev.buildP (pl := [(0, 1), (1, 1)]) (zs := [.int .i64 0, .slice none 0 0]) (show Oper.op _ = Op.build 41 #[(0, Operand.tmp 126), (1, Operand.tmp 134)] from rfl) (by rfl) (by kernel_rfl) (by rfl)) (by rfl) (some 135) (by rfl) (by kernel_rfl) (by kernel_rfl) (by kernel_rfl) (by kernel_rfl) ?_
                          refine Rg.tail 11 [] (by rfl) (by kernel_rfl) (Does.store 1 (show Oper.op _ = Op.store 41 (Operand.tmp 15) (Operand.tmp 135) from rfl) (by rfl) (by rfl) (by rfl) (by kernel_rfl) (by rfl) (by kernel_rfl) (by rfl)) (by rfl) none (by rfl) (by kernel_rfl) (by kernel_rfl) ?_
                          intro _ _
                          refine Rg.done (by kernel_rfl) ?_ _
                          refine Cd.seq ?_
                          refine Ent.see 0 (by rfl) ?_
                          refine Ent.pick [1, 2, 3, 4, 5, 6, 7, 8, 9, 10, 11, 12, 0] (by rfl) ?_
                          refine Ent.norm ([(2, .int .i64 k), (4, .int .i64 tick), (5, .pointer (some ⟨g1, 0, none⟩)), (6, .pointer (some ⟨g2, 0, none⟩)), (8, .pointer (some ⟨g3, 0, none⟩)), (10, .pointer (some ⟨g4, 0, none⟩)), (11, .pointer (some ⟨g5, 0, none⟩)), (12, .int .i64 v), (13, .int .i64 e), (14, .pointer (some ⟨g6, 0, none⟩)), (15, .pointer (some ⟨g7, 0, none⟩))]) ([blk g7 41 (⟨n.s, q2.1, q2.2, n.l ++ l⟩ : RtS).enc, blk g6 41 n.enc, blk g5 45 [.int .i64 0, .int .i64 0, .int .i64 0, .slice none 0 0], blk g4 61 [.slice none 0 0, .slice none 0 0], blk g3 43 [.int .i64 v, .int .i64 ep, .int .i64 s, .slice D l.length d], blk g2 61 [.slice (some ad) eps.length ec, .slice (some bd) rts.length rc], blk g1 24 [.int .i64 m.w, .int .i64 m.h, .int .i64 m.sh, .slice A m.bl.length ac], rdI (some ad) eps, rd (some bd) rts.length 2 (rts.flatMap RtS.enc), n.rd, rdI A m.bl, starf fun k : Nat => (rts.getD k noS).rd, (⟨n.s, q2.1, q2.2, n.l ++ l⟩ : RtS).rd]) (by repeat (first | exact trivial | refine ⟨by rfl, ?_⟩ | refine ⟨by simp only [List.length_append, List.length_cons, List.length_nil]; rfl, ?_⟩ | refine ⟨by push_cast; rfl, ?_⟩)) (by dsimp only [RtS.enc, RtS.rd]; rw [List.length_append, show ints (n.l ++ l) = ints n.l ++ ints l from List.map_append]; rfl) ?_
                          refine Cd.region ?_
                          refine Ls.ev (some 136) (Ev.loads 6 (show Oper.op _ = Op.load 24 (Operand.tmp 5) from rfl) (by rfl) (by rfl) (n := 4) (by kernel_rfl) (by rfl) (by rfl)) (by rfl) (by rfl) ?_
                          refine Ls.ev (some 137) (Ev.loads 0 (show Oper.op _ = Op.load 41 (Operand.tmp 15) from rfl) (by rfl) (by rfl) (n := 2) (by kernel_rfl) (by rfl) (by rfl)) (by rfl) (by rfl) ?_
                          refine Ls.does (some 138) (Does.read (show Oper.op _ = Op.call { callee := Callee.value (Operand.func 33), args := #[Operand.tmp 136, Operand.tmp 137], argTypes := #[24, 41] } from rfl) Try.func33 (by kernel_rfl) (by kernel_rfl) (hck (⟨n.s, q2.1, q2.2, n.l ++ l⟩ : RtS) (by show (n.l ++ l).length ≤ 1048576; rw [List.length_append]; omega)) (by rfl) (by rfl) ⟨ReadsIn.rd 10 (by rfl), ReadsIn.rd 12 (by rfl), trivial⟩) (by rfl) (by rfl) ?_
                          rintro _ -
                          refine Ls.ev (some 17) (Ev.assign (show Oper.op _ = Op.assign (Operand.tmp 138) from rfl) (by rfl)) (by rfl) (by rfl) ?_
                          refine Ls.nil ?_
                          refine Cd.seq ?_
                          refine Cd.region ?_
                          refine Ls.ev (some 139) (Ev.move (show Oper.op _ = Op.move (Operand.tmp 17) from rfl) (by rfl)) (by rfl) (by rfl) ?_
                          refine Ls.ev (some 140) (Ev.neq (show Oper.op _ = Op.binOp BinOp.neq 3 (Operand.tmp 139) (Operand.const (Value.int IntKind.i64 0)) 3 from rfl) (by rfl) (by rfl)) (by rfl) (by rfl) ?_
                          refine Ls.nil ?_
                          refine Cd.cond _ (by rfl) (fun h12 => ?_) (fun h12 => ?_)
                          · skip
                            have h12' : checkR m ⟨n.p.start, n.p.cells ++ l⟩ ≠ 0 := of_decide_eq_true h12
                            rw [if_pos h12'] at hA
                            refine Cd.seq ?_
                            refine Cd.region ?_
                            refine Ls.ev (some 141) (Ev.loads 5 (show Oper.op _ = Op.load 61 (Operand.tmp 6) from rfl) (by rfl) (by rfl) (n := 2) (by kernel_rfl) (by rfl) (by rfl)) (by rfl) (by rfl) ?_
                            refine Ls.ev (some 142) (Ev.move (show Oper.op _ = Op.move (Operand.tmp 17) from rfl) (by rfl)) (by rfl) (by rfl) ?_
                            refine Ls.ev (some 143) (Ev.buildP (pl := [(0, 1), (1, 1), (2, 2)]) (zs := [.int .i64 0, .int .i64 0, .int .i64 0, .slice none 0 0]) (show Oper.op _ = Op.build 45 #[(0, Operand.tmp 142)] from rfl) (by rfl) (by kernel_rfl) (by rfl)) (by rfl) (by rfl) ?_
                            refine Ls.does none (Does.store 3 (show Oper.op _ = Op.store 61 (Operand.tmp 10) (Operand.tmp 141) from rfl) (by rfl) (by rfl) (by rfl) (by kernel_rfl) (by rfl) (by kernel_rfl) (by rfl)) (by rfl) (by rfl) ?_
                            intro _ _
                            refine Ls.does none (Does.store 2 (show Oper.op _ = Op.store 45 (Operand.tmp 11) (Operand.tmp 143) from rfl) (by rfl) (by rfl) (by rfl) (by kernel_rfl) (by rfl) (by kernel_rfl) (by rfl)) (by rfl) (by rfl) ?_
                            intro _ _
                            refine Ls.nil ?_
                            refine Ent.map (fun w hs => hs.rdNil) ?_
                            refine Cd.ret ?_
                            refine Ent.ret (((⟨some ad, ec, eps, some bd, rc, rts⟩ : BkD), refS (checkR m ⟨n.p.start, n.p.cells ++ l⟩))) (hA.symm) (Res.cell2 4 3 (by rfl) (by rfl) (by rfl) (by rfl) (by rfl) (n := 2) (n' := 4) (by kernel_rfl) (by kernel_rfl) (by rfl) (by rfl) (by rfl) (by rfl)) ?_ [8, 9, 12, 0] (by rfl) ?_
                            · rfl
                            · rfl
                          · skip
                            have h12' : ¬ checkR m ⟨n.p.start, n.p.cells ++ l⟩ ≠ 0 := of_decide_eq_false h12
                            rw [if_neg h12'] at hA
                            refine Cd.skip ?_
                            refine Ent.inv ((⟨n.s, q2.1, q2.2, n.l ++ l⟩ : RtS)) ?_ ?_ ?_
                            · (try dsimp only); exact ⟨Decidable.not_not.1 h12', hA⟩
                            · (repeat (first | exact trivial | refine ⟨by rfl, ?_⟩ | refine ⟨by simp only [List.length_append, List.length_cons, List.length_nil]; rfl, ?_⟩ | refine ⟨by push_cast; rfl, ?_⟩))
                            · rfl
                  skip
                  rintro x ⟨hx0, hA⟩
                  refine Cd.seq ?_
                  refine Cd.seq ?_
                  refine Cd.region ?_
                  refine Ls.ev (some 144) (Ev.loads 5 (show Oper.op _ = Op.load 61 (Operand.tmp 6) from rfl) (by rfl) (by rfl) (n := 2) (by kernel_rfl) (by rfl) (by rfl)) (by rfl) (by rfl) ?_
                  refine Ls.ev (some 145) (Ev.move (show Oper.op _ = Op.move (Operand.tmp 2) from rfl) (by rfl)) (by rfl) (by rfl) ?_
                  refine Ls.ev (some 146) (Ev.loads 0 (show Oper.op _ = Op.load 41 (Operand.tmp 15) from rfl) (by rfl) (by rfl) (n := 2) (by kernel_rfl) (by rfl) (by rfl)) (by rfl) (by rfl) ?_
                  refine Ls.ev (some 147) (Ev.move (show Oper.op _ = Op.move (Operand.tmp 4) from rfl) (by rfl)) (by rfl) (by rfl) ?_
                  refine Ls.does (some 148) (Does.read (show Oper.op _ = Op.call { callee := Callee.value (Operand.func 34), args := #[Operand.tmp 144, Operand.tmp 145, Operand.tmp 146, Operand.tmp 147], argTypes := #[61, 3, 41, 3] } from rfl) Try.func34 (by kernel_rfl) (by kernel_rfl) (hcf k x (planOk_check hm hx0) tick) (by rfl) (by rfl) ⟨ReadsIn.rd 8 (by rfl), anyIn 11 (by rfl), ReadsIn.rd 12 (by rfl), trivial⟩) (by rfl) (by rfl) ?_
                  rintro _ -
                  refine Ls.nil ?_
                  refine Cd.cond _ (by rfl) (fun h13 => ?_) (fun h13 => ?_)
                  · skip
                    rw [if_pos h13] at hA
                    refine Cd.seq ?_
                    refine Cd.region ?_
                    refine Ls.ev (some 149) (Ev.loads 5 (show Oper.op _ = Op.load 61 (Operand.tmp 6) from rfl) (by rfl) (by rfl) (n := 2) (by kernel_rfl) (by rfl) (by rfl)) (by rfl) (by rfl) ?_
                    refine Ls.ev (some 150) (Ev.buildP (pl := [(0, 1), (1, 1), (2, 2)]) (zs := [.int .i64 0, .int .i64 0, .int .i64 0, .slice none 0 0]) (show Oper.op _ = Op.build 45 #[(0, Operand.const (Value.int IntKind.i64 140))] from rfl) (by rfl) (by kernel_rfl) (by rfl)) (by rfl) (by rfl) ?_
                    refine Ls.does none (Does.store 3 (show Oper.op _ = Op.store 61 (Operand.tmp 10) (Operand.tmp 149) from rfl) (by rfl) (by rfl) (by rfl) (by kernel_rfl) (by rfl) (by kernel_rfl) (by rfl)) (by rfl) (by rfl) ?_
                    intro _ _
                    refine Ls.does none (Does.store 2 (show Oper.op _ = Op.store 45 (Operand.tmp 11) (Operand.tmp 150) from rfl) (by rfl) (by rfl) (by rfl) (by kernel_rfl) (by rfl) (by kernel_rfl) (by rfl)) (by rfl) (by rfl) ?_
                    intro _ _
                    refine Ls.nil ?_
                    refine Ent.map (fun w hs => hs.rdNil) ?_
                    refine Cd.ret ?_
                    refine Ent.ret (((⟨some ad, ec, eps, some bd, rc, rts⟩ : BkD), refS 140)) (hA.symm) (Res.cell2 4 3 (by rfl) (by rfl) (by rfl) (by rfl) (by rfl) (n := 2) (n' := 4) (by kernel_rfl) (by kernel_rfl) (by rfl) (by rfl) (by rfl) (by rfl)) ?_ [8, 9, 12, 0] (by rfl) ?_
                    · rfl
                    · rfl
                  · skip
                    rw [if_neg (by rw [h13]; decide)] at hA
                    skip
                    refine Cd.skip ?_
                    refine Cd.seq ?_
                    refine Cd.drawS [0, 5, 7, 8] [9] (by kernel_rfl) ?_
                    refine Rg.ev 0 (by rfl) (fun _ h => h.pick [0, 5, 7, 8] rfl) (Ev.loads 1 (show Oper.op _ = Op.load 61 (Operand.tmp 6) from rfl) (by rfl) (by rfl) (n := 2) (by kernel_rfl) (by rfl) (by rfl)) (by rfl) (some 151) (by rfl) (by kernel_rfl) (by kernel_rfl) (by kernel_rfl) (by kernel_rfl) ?_
                    refine Rg.ev 1 (by rfl) (fun _ h => h.pick [0, 5, 7, 8] rfl) (Ev.move (show Oper.op _ = Op.move (Operand.tmp 2) from rfl) (by rfl)) (by rfl) (some 152) (by rfl) (by kernel_rfl) (by kernel_rfl) (by kernel_rfl) (by kernel_rfl) ?_
                    refine Rg.ev 2 (by rfl) (fun _ h => h.pick [0, 5, 7, 8] rfl) (Ev.move (show Oper.op _ = Op.move (Operand.tmp 13) from rfl) (by rfl)) (by rfl) (some 153) (by rfl) (by kernel_rfl) (by kernel_rfl) (by kernel_rfl) (by kernel_rfl) ?_
                    refine Rg.ev 3 (by rfl) (fun _ h => h.pick [0, 5, 7, 8] rfl) (Ev.loads 0 (show Oper.op _ = Op.load 41 (Operand.tmp 15) from rfl) (by rfl) (by rfl) (n := 2) (by kernel_rfl) (by rfl) (by rfl)) (by rfl) (some 154) (by rfl) (by kernel_rfl) (by kernel_rfl) (by kernel_rfl) (by kernel_rfl) ?_
                    refine Rg.ev 5 (by rfl) (fun _ h => h.pick [0, 5, 7, 8] rfl) (Ev.move (show Oper.op _ = Op.move (Operand.tmp 13) from rfl) (by rfl)) (by rfl) (some 156) (by rfl) (by kernel_rfl) (by kernel_rfl) (by kernel_rfl) (by kernel_rfl) ?_
                    refine Rg.ev 6 (by rfl) (fun _ h => h.pick [0, 5, 7, 8] rfl) (Ev.loads 0 (show Oper.op _ = Op.load 41 (Operand.tmp 15) from rfl) (by rfl) (by rfl) (n := 2) (by kernel_rfl) (by rfl) (by rfl)) (by rfl) (some 157) (by rfl) (by kernel_rfl) (by kernel_rfl) (by kernel_rfl) (by kernel_rfl) ?_
                    refine Rg.ev 7 (by rfl) (fun _ h => h.pick [0, 5, 7, 8] rfl) (Ev.buildP (pl := [(0, 1), (1, 1), (2, 2)]) (zs := [.int .i64 0, .int .i64 0, .int .i64 0, .slice none 0 0]) (show Oper.op _ = Op.build 45 #[(1, Operand.tmp 156), (2, Operand.tmp 157)] from rfl) (by rfl) (by kernel_rfl) (by rfl)) (by rfl) (some 158) (by rfl) (by kernel_rfl) (by kernel_rfl) (by kernel_rfl) (by kernel_rfl) ?_
                    skip
                    refine Rg.keep 4 (by rfl) (by kernel_rfl) (Does.readN (show Oper.op _ = Op.call { callee := Callee.value (Operand.func 32), args := #[Operand.tmp 151, Operand.tmp 152, Operand.tmp 153, Operand.tmp 154], argTypes := #[61, 3, 3, 41] } from rfl) Try.func32 (by kernel_rfl) (by kernel_rfl) (hwi k hk e x) (by rfl) (by rfl) ⟨ReadsIn.rd 7 (by rfl), ReadsIn.rd 8 (by rfl), trivial⟩ (fun _ => by rfl)) (by rfl) (some 155) (by rfl) (fun _ _ h => by have h2 := h.pick [2, 7, 9, 10] (by rfl); exact h2) ?_
                    rintro q ⟨hq1, hq2⟩
                    refine Rg.keep 8 (by rfl) (by kernel_rfl) (Does.store 5 (show Oper.op _ = Op.store 61 (Operand.tmp 10) (Operand.tmp 155) from rfl) (by rfl) (by rfl) (by rfl) (by kernel_rfl) (by rfl) (by kernel_rfl) (by rfl)) (by rfl) none (by rfl) (fun _ _ h => by have h2 := h.pick [2, 7, 9, 10] (by rfl); exact h2) ?_
                    intro _ _
                    refine Rg.tail 9 [] (by rfl) (by kernel_rfl) (Does.store 4 (show Oper.op _ = Op.store 45 (Operand.tmp 11) (Operand.tmp 158) from rfl) (by rfl) (by rfl) (by rfl) (by kernel_rfl) (by rfl) (by kernel_rfl) (by rfl)) (by rfl) none (by rfl) (by kernel_rfl) (by kernel_rfl) ?_
                    intro _ _
                    refine Rg.done (by kernel_rfl) ?_ _
                    refine Ent.see 0 (by rfl) ?_
                    refine Ent.see 1 (by rfl) ?_
                    refine Ent.pick [14, 13, 5, 4, 0, 1, 14] (by rfl) ?_
                    refine Ent.map (fun w hs => Sat.starf_put (F := fun k : Nat => (rts.getD k noS).rd) (G := fun j : Nat => (q.rts.getD j noS).rd) (C := x.rd) rfl (fun j => by rw [hq2]; exact set_fam rts k x j) hs) ?_
                    refine Cd.ret ?_
                    refine Ent.ret ((q, (⟨0, e, x⟩ : RepS))) (by rw [show (⟨v, ep, ⟨s, D, d, l⟩⟩ : CallS).p = ⟨v, ep, ⟨s, l⟩⟩ from rfl, hA]; exact with_p2 (B := ⟨some ad, ec, eps, some bd, rc, rts⟩) hke hq1 hq2 rfl) (Res.cell2 1 2 (by rfl) (by rfl) (by rfl) (by rfl) (by rfl) (n := 2) (n' := 4) (by kernel_rfl) (by kernel_rfl) (by rfl) (by rfl) (by rfl) (by rfl)) ?_ [3, 4, 0, 5] (by rfl) ?_
                    · rfl
                    · rfl
    · skip
      refine Ls.pass (some 28) (by rfl) (by rfl) ?_
      refine Ls.pass (some 29) (by rfl) (by rfl) ?_
      refine Ls.ev (some 30) (Ev.pickT (show Oper.op _ = Op.pick (Operand.tmp 27) (Operand.const (Value.bool true)) (Operand.tmp 29) from rfl) (by rfl) (by rfl)) (by rfl) (by rfl) ?_
      refine Ls.nil ?_
      skip
      refine Cd.cond_true (by rfl) (rfl) ?_
      refine Cd.seq ?_
      refine Cd.region ?_
      refine Ls.ev (some 31) (Ev.loads 3 (show Oper.op _ = Op.load 61 (Operand.tmp 6) from rfl) (by rfl) (by rfl) (n := 2) (by kernel_rfl) (by rfl) (by rfl)) (by rfl) (by rfl) ?_
      refine Ls.ev (some 32) (Ev.buildP (pl := [(0, 1), (1, 1), (2, 2)]) (zs := [.int .i64 0, .int .i64 0, .int .i64 0, .slice none 0 0]) (show Oper.op _ = Op.build 45 #[(0, Operand.const (Value.int IntKind.i64 1))] from rfl) (by rfl) (by kernel_rfl) (by rfl)) (by rfl) (by rfl) ?_
      refine Ls.does none (Does.store 1 (show Oper.op _ = Op.store 61 (Operand.tmp 10) (Operand.tmp 31) from rfl) (by rfl) (by rfl) (by rfl) (by kernel_rfl) (by rfl) (by kernel_rfl) (by rfl)) (by rfl) (by rfl) ?_
      intro _ _
      refine Ls.does none (Does.store 0 (show Oper.op _ = Op.store 45 (Operand.tmp 11) (Operand.tmp 32) from rfl) (by rfl) (by rfl) (by rfl) (by kernel_rfl) (by rfl) (by kernel_rfl) (by rfl)) (by rfl) (by rfl) ?_
      intro _ _
      refine Ls.nil ?_
      refine Ent.map (fun w hs => hs.rdNil) ?_
      refine Cd.ret ?_
      refine Ent.ret (((⟨E, ec, eps, R, rc, rts⟩ : BkD), refS 1)) (by unfold applyR; rw [if_pos (.inr (.inl (of_decide_eq_true h2)))]; rfl) (Res.cell2 2 1 (by rfl) (by rfl) (by rfl) (by rfl) (by rfl) (n := 2) (n' := 4) (by kernel_rfl) (by kernel_rfl) (by rfl) (by rfl) (by rfl) (by rfl)) ?_ [7, 8, 9, 0] (by rfl) ?_
      · rfl
      · rfl
  · skip
    refine Ls.pass (some 24) (by rfl) (by rfl) ?_
    refine Ls.pass (some 25) (by rfl) (by rfl) ?_
    refine Ls.ev (some 26) (Ev.pickT (show Oper.op _ = Op.pick (Operand.tmp 23) (Operand.const (Value.bool true)) (Operand.tmp 25) from rfl) (by rfl) (by rfl)) (by rfl) (by rfl) ?_
    refine Ls.ev (some 27) (Ev.move (show Oper.op _ = Op.move (Operand.tmp 26) from rfl) (by rfl)) (by rfl) (by rfl) ?_
    refine Ls.pass (some 28) (by rfl) (by rfl) ?_
    refine Ls.pass (some 29) (by rfl) (by rfl) ?_
    refine Ls.ev (some 30) (Ev.pickT (show Oper.op _ = Op.pick (Operand.tmp 27) (Operand.const (Value.bool true)) (Operand.tmp 29) from rfl) (by rfl) (by rfl)) (by rfl) (by rfl) ?_
    refine Ls.nil ?_
    skip
    refine Cd.cond_true (by rfl) (rfl) ?_
    refine Cd.seq ?_
    refine Cd.region ?_
    refine Ls.ev (some 31) (Ev.loads 3 (show Oper.op _ = Op.load 61 (Operand.tmp 6) from rfl) (by rfl) (by rfl) (n := 2) (by kernel_rfl) (by rfl) (by rfl)) (by rfl) (by rfl) ?_
    refine Ls.ev (some 32) (Ev.buildP (pl := [(0, 1), (1, 1), (2, 2)]) (zs := [.int .i64 0, .int .i64 0, .int .i64 0, .slice none 0 0]) (show Oper.op _ = Op.build 45 #[(0, Operand.const (Value.int IntKind.i64 1))] from rfl) (by rfl) (by kernel_rfl) (by rfl)) (by rfl) (by rfl) ?_
    refine Ls.does none (Does.store 1 (show Oper.op _ = Op.store 61 (Operand.tmp 10) (Operand.tmp 31) from rfl) (by rfl) (by rfl) (by rfl) (by kernel_rfl) (by rfl) (by kernel_rfl) (by rfl)) (by rfl) (by rfl) ?_
    intro _ _
    refine Ls.does none (Does.store 0 (show Oper.op _ = Op.store 45 (Operand.tmp 11) (Operand.tmp 32) from rfl) (by rfl) (by rfl) (by rfl) (by kernel_rfl) (by rfl) (by kernel_rfl) (by rfl)) (by rfl) (by rfl) ?_
    intro _ _
    refine Ls.nil ?_
    refine Ent.map (fun w hs => hs.rdNil) ?_
    refine Cd.ret ?_
    refine Ent.ret (((⟨E, ec, eps, R, rc, rts⟩ : BkD), refS 1)) (by unfold applyR; rw [if_pos (.inl (by simpa using h1))]; rfl) (Res.cell2 2 1 (by rfl) (by rfl) (by rfl) (by rfl) (by rfl) (n := 2) (n' := 4) (by kernel_rfl) (by kernel_rfl) (by rfl) (by rfl) (by rfl) (by rfl)) ?_ [7, 8, 9, 0] (by rfl) ?_
    · rfl
    · rfl
end
end Go.Proofs.Ytegjoabfoddadaa
/- the document's judge over pieces: last, Call -/
namespace Go.Proofs.Ytegjoabfoddadaa
open Go.RowKit
theorem lastS_step {l : List EvS} {j : Nat} {x : EvS} (h : l[j]? = some x) (k r d : Int) : lastF (l.map EvS.p) k r d (j + 1) = if x.kind = k ∧ x.robot = r ∧ (d = 0 ∨ x.id = d) then (j : Int) else lastF (l.map EvS.p) k r d j := by
  rw [lastF, List.getElem?_map, h]
  rfl
theorem callS_step {l : List EvS} {j : Nat} {x : EvS} (h : l[j]? = some x) (r d : Int) : callF (l.map EvS.p) r d (j + 1) = if x.kind = 1 ∧ x.robot = r ∧ x.id = d then some x.call.p else callF (l.map EvS.p) r d j := by
  rw [callF, List.getElem?_map, h]
  rfl
section
variable (l : List EvS) (hl : l.length ≤ 100000) (hx : ∀ x ∈ l, x.Ok) (EA : Option Addr) (ec n : Nat) (hn : n ≤ l.length)
include hl hn
set_option maxRecDepth 20000 in
theorem dLast_sl (kk r d : Int) : Fn Try.prog 30 #[.slice EA l.length ec, .int .i64 n, .int .i64 kk, .int .i64 r, .int .i64 d] [evR EA l] Unit (fun _ => .int .i64 (lastF (l.map EvS.p) kk r d n)) (fun _ => []) (fun _ => True) := by
  refine Fn.enter Try.func30 rfl Try.ntmps30 (by rfl) ?_
  intro w0
  refine Cd.seq ?_
  refine Cd.region ?_
  refine Ls.ev (some 10) (Ev.assign (show Oper.op _ = Op.assign (Operand.const (Value.int IntKind.i64 0)) from rfl) (by rfl)) (by rfl) (by rfl) ?_
  refine Ls.nil ?_
  refine Cd.seq ?_
  refine Cd.seq ?_
  refine Cd.region ?_
  refine Ls.ev (some 12) (Ev.move (show Oper.op _ = Op.move (Operand.tmp 1) from rfl) (by rfl)) (by rfl) (by rfl) ?_
  refine Ls.ev (some 13) (Ev.subI (show Oper.op _ = Op.binOp BinOp.sub 3 (Operand.tmp 12) (Operand.const (Value.int IntKind.i64 1)) 3 from rfl) (by rfl) (by rfl) (by omega)) (by rfl) (by rfl) ?_
  refine Ls.ev (some 11) (Ev.assign (show Oper.op _ = Op.assign (Operand.tmp 13) from rfl) (by rfl)) (by rfl) (by rfl) ?_
  refine Ls.nil ?_
  refine Cd.block ?_
  refine Cd.loop (ι := Nat) (fun k => [(0, .slice EA l.length ec), (2, .int .i64 kk), (3, .int .i64 r), (4, .int .i64 d), (11, .int .i64 ((k : Int) - 1))]) (fun _ => [evR EA l]) (fun k => k ≤ n ∧ lastF (l.map EvS.p) kk r d n = lastF (l.map EvS.p) kk r d k) (fun k => k) (n) (⟨Nat.le_refl _, rfl⟩) ?_ rfl ?_
  · (repeat (first | exact trivial | refine ⟨by rfl, ?_⟩))
  rintro k ⟨hk, hst⟩
  rw [hst]
  refine Cd.seq ?_
  refine Cd.seq ?_
  refine Cd.region ?_
  refine Ls.ev (some 14) (Ev.move (show Oper.op _ = Op.move (Operand.tmp 11) from rfl) (by rfl)) (by rfl) (by rfl) ?_
  refine Ls.ev (some 15) (Ev.geq (show Oper.op _ = Op.binOp BinOp.geq 3 (Operand.tmp 14) (Operand.const (Value.int IntKind.i64 0)) 3 from rfl) (by rfl) (by rfl)) (by rfl) (by rfl) ?_
  refine Ls.nil ?_
  refine Cd.cond _ (by rfl) (fun h1 => ?_) (fun h1 => ?_)
  · skip
    have h1 := of_decide_eq_true h1
    obtain ⟨j, rfl⟩ : ∃ j, k = j + 1 := ⟨k - 1, by omega⟩
    obtain ⟨x, hxj⟩ := get_of_lt (show j < l.length by omega)
    have hls := lastS_step hxj kk r d
    refine Ent.norm ([(0, .slice EA l.length ec), (2, .int .i64 kk), (3, .int .i64 r), (4, .int .i64 d), (11, .int .i64 j)]) ([evR EA l]) (by repeat (first | refine ⟨by show some (Value.int .i64 _) = some (Value.int .i64 _); congr 2; omega, ?_⟩ | exact trivial | refine ⟨by rfl, ?_⟩ | refine ⟨by simp only [List.length_append, List.length_cons, List.length_nil]; rfl, ?_⟩ | refine ⟨by push_cast; rfl, ?_⟩)) (by rfl) ?_
    refine Ent.rdSome 0 (by rfl) (by omega) (fun ad had => ?_)
    subst had
    skip
    refine Cd.skip ?_
    refine Cd.seq ?_
    refine Cd.block ?_
    refine Cd.seq ?_
    refine Cd.cut (ι := Unit) (fun _ => [(0, .slice (some ad) l.length ec), (2, .int .i64 kk), (3, .int .i64 r), (4, .int .i64 d), (11, .int .i64 j), (46, .bool (decide (x.kind = kk ∧ x.robot = r ∧ (d = 0 ∨ x.id = d))))]) (fun _ => [evR (some ad) l]) (fun _ => True) ?_ ?_
    · skip
      refine Cd.region ?_
      refine Ls.ev (some 18) (Ev.move (show Oper.op _ = Op.move (Operand.tmp 0) from rfl) (by rfl)) (by rfl) (by rfl) ?_
      refine Ls.ev (some 19) (Ev.move (show Oper.op _ = Op.move (Operand.tmp 11) from rfl) (by rfl)) (by rfl) (by rfl) ?_
      refine Ls.ev (some 20) (Ev.indexAt (sz := 12) (show Oper.op _ = Op.indexAddr 25 (Operand.tmp 18) (Operand.tmp 19) from rfl) (by rfl) (by rfl) Try.underlying25 (by kernel_rfl) (by omega)) (by rfl) (by rfl) ?_
      refine Ls.ev (some 21) (Ev.fieldAddrE0 (k := 0) (show Oper.op _ = Op.fieldAddr 47 (Operand.tmp 20) 0 from rfl) (by rfl) (by kernel_rfl)) (by rfl) (by rfl) ?_
      refine Ls.ev (some 22) (Ev.loadElF (show Oper.op _ = Op.load 38 (Operand.tmp 21) from rfl) (by rfl) (ReadsIn.rd 0 (by rfl)) (by kernel_rfl) (by intro _; rfl) (by assumption) (by rfl)) (by rfl) (by rfl) ?_
      refine Ls.ev (some 23) (Ev.move (show Oper.op _ = Op.move (Operand.tmp 2) from rfl) (by rfl)) (by rfl) (by rfl) ?_
      refine Ls.ev (some 24) (Ev.eql (show Oper.op _ = Op.binOp BinOp.eql 3 (Operand.tmp 22) (Operand.tmp 23) 3 from rfl) (by rfl) (by rfl)) (by rfl) (by rfl) ?_
      refine Ls.ev (some 25) (Ev.move (show Oper.op _ = Op.move (Operand.tmp 24) from rfl) (by rfl)) (by rfl) (by rfl) ?_
      refine Ent.split 25 (by rfl) (fun hT1 => ?_) (fun hT1 => ?_)
      · first | have hT1 := of_decide_eq_false hT1 | have hT1 := of_not_decide_false hT1 | skip
        refine Ls.pass (some 26) (by rfl) (by rfl) ?_
        refine Ls.pass (some 27) (by rfl) (by rfl) ?_
        refine Ls.pass (some 28) (by rfl) (by rfl) ?_
        refine Ls.pass (some 29) (by rfl) (by rfl) ?_
        refine Ls.pass (some 30) (by rfl) (by rfl) ?_
        refine Ls.pass (some 31) (by rfl) (by rfl) ?_
        refine Ls.pass (some 32) (by rfl) (by rfl) ?_
        refine Ls.ev (some 33) (Ev.pickF (show Oper.op _ = Op.pick (Operand.tmp 25) (Operand.tmp 32) (Operand.const (Value.bool false)) from rfl) (by rfl) (by rfl)) (by rfl) (by rfl) ?_
        refine Ls.ev (some 34) (Ev.move (show Oper.op _ = Op.move (Operand.tmp 33) from rfl) (by rfl)) (by rfl) (by rfl) ?_
        refine Ls.pass (some 35) (by rfl) (by rfl) ?_
        refine Ls.pass (some 36) (by rfl) (by rfl) ?_
        refine Ls.pass (some 37) (by rfl) (by rfl) ?_
        refine Ls.pass (some 38) (by rfl) (by rfl) ?_
        refine Ls.pass (some 39) (by rfl) (by rfl) ?_
        refine Ls.pass (some 40) (by rfl) (by rfl) ?_
        refine Ls.pass (some 41) (by rfl) (by rfl) ?_
        refine Ls.pass (some 42) (by rfl) (by rfl) ?_
        refine Ls.pass (some 43) (by rfl) (by rfl) ?_
        refine Ls.pass (some 44) (by rfl) (by rfl) ?_
        refine Ls.pass (some 45) (by rfl) (by rfl) ?_
        refine Ls.ev (some 46) (Ev.pickF (show Oper.op _ = Op.pick (Operand.tmp 34) (Operand.tmp 45) (Operand.const (Value.bool false)) from rfl) (by rfl) (by rfl)) (by rfl) (by rfl) ?_
        refine Ls.nil ?_
        refine Ent.pick [0] (by rfl) ?_
        refine Ent.inv () ?_ ?_ ?_
        · exact trivial
        · (repeat (first | exact trivial | refine ⟨by rfl, ?_⟩ | refine ⟨by simp only [List.length_append, List.length_cons, List.length_nil]; rfl, ?_⟩ | refine ⟨by push_cast; rfl, ?_⟩ | refine ⟨by (show some (Value.bool _) = some (Value.bool _); congr 2; (first | rfl | (refine (decide_eq_false ?_).symm; simp_all) | (refine (decide_eq_true ?_).symm; simp_all) | (refine decide_eq_decide.2 ?_; simp_all))), ?_⟩))
        · rfl
      · first | have hT1 := of_decide_eq_true hT1 | have hT1 := of_not_decide_true hT1 | skip
        refine Ls.ev (some 26) (Ev.move (show Oper.op _ = Op.move (Operand.tmp 0) from rfl) (by rfl)) (by rfl) (by rfl) ?_
        refine Ls.ev (some 27) (Ev.move (show Oper.op _ = Op.move (Operand.tmp 11) from rfl) (by rfl)) (by rfl) (by rfl) ?_
        refine Ls.ev (some 28) (Ev.indexAt (sz := 12) (show Oper.op _ = Op.indexAddr 25 (Operand.tmp 26) (Operand.tmp 27) from rfl) (by rfl) (by rfl) Try.underlying25 (by kernel_rfl) (by omega)) (by rfl) (by rfl) ?_
        refine Ls.ev (some 29) (Ev.fieldAddrE0 (k := 1) (show Oper.op _ = Op.fieldAddr 47 (Operand.tmp 28) 1 from rfl) (by rfl) (by kernel_rfl)) (by rfl) (by rfl) ?_
        refine Ls.ev (some 30) (Ev.loadElF (show Oper.op _ = Op.load 3 (Operand.tmp 29) from rfl) (by rfl) (ReadsIn.rd 0 (by rfl)) (by kernel_rfl) (by intro _; rfl) (by assumption) (by rfl)) (by rfl) (by rfl) ?_
        refine Ls.ev (some 31) (Ev.move (show Oper.op _ = Op.move (Operand.tmp 3) from rfl) (by rfl)) (by rfl) (by rfl) ?_
        refine Ls.ev (some 32) (Ev.eql (show Oper.op _ = Op.binOp BinOp.eql 3 (Operand.tmp 30) (Operand.tmp 31) 3 from rfl) (by rfl) (by rfl)) (by rfl) (by rfl) ?_
        refine Ls.ev (some 33) (Ev.pickT (show Oper.op _ = Op.pick (Operand.tmp 25) (Operand.tmp 32) (Operand.const (Value.bool false)) from rfl) (by rfl) (by rfl)) (by rfl) (by rfl) ?_
        refine Ls.ev (some 34) (Ev.move (show Oper.op _ = Op.move (Operand.tmp 33) from rfl) (by rfl)) (by rfl) (by rfl) ?_
        refine Ent.split 34 (by rfl) (fun hT2 => ?_) (fun hT2 => ?_)
        · first | have hT2 := of_decide_eq_false hT2 | have hT2 := of_not_decide_false hT2 | skip
          refine Ls.pass (some 35) (by rfl) (by rfl) ?_
          refine Ls.pass (some 36) (by rfl) (by rfl) ?_
          refine Ls.pass (some 37) (by rfl) (by rfl) ?_
          refine Ls.pass (some 38) (by rfl) (by rfl) ?_
          refine Ls.pass (some 39) (by rfl) (by rfl) ?_
          refine Ls.pass (some 40) (by rfl) (by rfl) ?_
          refine Ls.pass (some 41) (by rfl) (by rfl) ?_
          refine Ls.pass (some 42) (by rfl) (by rfl) ?_
          refine Ls.pass (some 43) (by rfl) (by rfl) ?_
          refine Ls.pass (some 44) (by rfl) (by rfl) ?_
          refine Ls.pass (some 45) (by rfl) (by rfl) ?_
          refine Ls.ev (some 46) (Ev.pickF (show Oper.op _ = Op.pick (Operand.tmp 34) (Operand.tmp 45) (Operand.const (Value.bool false)) from rfl) (by rfl) (by rfl)) (by rfl) (by rfl) ?_
          refine Ls.nil ?_
          refine Ent.pick [0] (by rfl) ?_
          refine Ent.inv () ?_ ?_ ?_
          · exact trivial
          · (repeat (first | exact trivial | refine ⟨by rfl, ?_⟩ | refine ⟨by simp only [List.length_append, List.length_cons, List.length_nil]; rfl, ?_⟩ | refine ⟨by push_cast; rfl, ?_⟩ | refine ⟨by (show some (Value.bool _) = some (Value.bool _); congr 2; (first | rfl | (refine (decide_eq_false ?_).symm; simp_all) | (refine (decide_eq_true ?_).symm; simp_all) | (refine decide_eq_decide.2 ?_; simp_all))), ?_⟩))
          · rfl
        · first | have hT2 := of_decide_eq_true hT2 | have hT2 := of_not_decide_true hT2 | skip
          refine Ls.ev (some 35) (Ev.move (show Oper.op _ = Op.move (Operand.tmp 4) from rfl) (by rfl)) (by rfl) (by rfl) ?_
          refine Ls.ev (some 36) (Ev.eql (show Oper.op _ = Op.binOp BinOp.eql 3 (Operand.tmp 35) (Operand.const (Value.int IntKind.i64 0)) 3 from rfl) (by rfl) (by rfl)) (by rfl) (by rfl) ?_
          refine Ls.ev (some 37) (Ev.move (show Oper.op _ = Op.move (Operand.tmp 36) from rfl) (by rfl)) (by rfl) (by rfl) ?_
          refine Ent.split 37 (by rfl) (fun hT3 => ?_) (fun hT3 => ?_)
          · first | have hT3 := of_decide_eq_false hT3 | have hT3 := of_not_decide_false hT3 | skip
            refine Ls.ev (some 38) (Ev.move (show Oper.op _ = Op.move (Operand.tmp 0) from rfl) (by rfl)) (by rfl) (by rfl) ?_
            refine Ls.ev (some 39) (Ev.move (show Oper.op _ = Op.move (Operand.tmp 11) from rfl) (by rfl)) (by rfl) (by rfl) ?_
            refine Ls.ev (some 40) (Ev.indexAt (sz := 12) (show Oper.op _ = Op.indexAddr 25 (Operand.tmp 38) (Operand.tmp 39) from rfl) (by rfl) (by rfl) Try.underlying25 (by kernel_rfl) (by omega)) (by rfl) (by rfl) ?_
            refine Ls.ev (some 41) (Ev.fieldAddrE0 (k := 2) (show Oper.op _ = Op.fieldAddr 47 (Operand.tmp 40) 2 from rfl) (by rfl) (by kernel_rfl)) (by rfl) (by rfl) ?_
            refine Ls.ev (some 42) (Ev.loadElF (show Oper.op _ = Op.load 3 (Operand.tmp 41) from rfl) (by rfl) (ReadsIn.rd 0 (by rfl)) (by kernel_rfl) (by intro _; rfl) (by assumption) (by rfl)) (by rfl) (by rfl) ?_
            refine Ls.ev (some 43) (Ev.move (show Oper.op _ = Op.move (Operand.tmp 4) from rfl) (by rfl)) (by rfl) (by rfl) ?_
            refine Ls.ev (some 44) (Ev.eql (show Oper.op _ = Op.binOp BinOp.eql 3 (Operand.tmp 42) (Operand.tmp 43) 3 from rfl) (by rfl) (by rfl)) (by rfl) (by rfl) ?_
            refine Ls.ev (some 45) (Ev.pickF (show Oper.op _ = Op.pick (Operand.tmp 37) (Operand.const (Value.bool true)) (Operand.tmp 44) from rfl) (by rfl) (by rfl)) (by rfl) (by rfl) ?_
            refine Ls.ev (some 46) (Ev.pickT (show Oper.op _ = Op.pick (Operand.tmp 34) (Operand.tmp 45) (Operand.const (Value.bool false)) from rfl) (by rfl) (by rfl)) (by rfl) (by rfl) ?_
            refine Ls.nil ?_
            refine Ent.pick [0] (by rfl) ?_
            refine Ent.inv () ?_ ?_ ?_
            · exact trivial
            · (repeat (first | exact trivial | refine ⟨by rfl, ?_⟩ | refine ⟨by simp only [List.length_append, List.length_cons, List.length_nil]; rfl, ?_⟩ | refine ⟨by push_cast; rfl, ?_⟩ | refine ⟨by (show some (Value.bool _) = some (Value.bool _); congr 2; (first | rfl | (refine (decide_eq_false ?_).symm; simp_all) | (refine (decide_eq_true ?_).symm; simp_all) | (refine decide_eq_decide.2 ?_; simp_all))), ?_⟩))
            · rfl
          · first | have hT3 := of_decide_eq_true hT3 | have hT3 := of_not_decide_true hT3 | skip
            refine Ls.pass (some 38) (by rfl) (by rfl) ?_
            refine Ls.pass (some 39) (by rfl) (by rfl) ?_
            refine Ls.pass (some 40) (by rfl) (by rfl) ?_
            refine Ls.pass (some 41) (by rfl) (by rfl) ?_
            refine Ls.pass (some 42) (by rfl) (by rfl) ?_
            refine Ls.pass (some 43) (by rfl) (by rfl) ?_
            refine Ls.pass (some 44) (by rfl) (by rfl) ?_
            refine Ls.ev (some 45) (Ev.pickT (show Oper.op _ = Op.pick (Operand.tmp 37) (Operand.const (Value.bool true)) (Operand.tmp 44) from rfl) (by rfl) (by rfl)) (by rfl) (by rfl) ?_
            refine Ls.ev (some 46) (Ev.pickT (show Oper.op _ = Op.pick (Operand.tmp 34) (Operand.tmp 45) (Operand.const (Value.bool false)) from rfl) (by rfl) (by rfl)) (by rfl) (by rfl) ?_
            refine Ls.nil ?_
            refine Ent.pick [0] (by rfl) ?_
            refine Ent.inv () ?_ ?_ ?_
            · exact trivial
            · (repeat (first | exact trivial | refine ⟨by rfl, ?_⟩ | refine ⟨by simp only [List.length_append, List.length_cons, List.length_nil]; rfl, ?_⟩ | refine ⟨by push_cast; rfl, ?_⟩ | refine ⟨by (show some (Value.bool _) = some (Value.bool _); congr 2; (first | rfl | (refine (decide_eq_false ?_).symm; simp_all) | (refine (decide_eq_true ?_).symm; simp_all) | (refine decide_eq_decide.2 ?_; simp_all))), ?_⟩))
            · rfl
    skip
    rintro _ -
    refine Cd.cond _ (by rfl) (fun h2 => ?_) (fun h2 => ?_)
    · skip
      rw [if_pos (of_decide_eq_true h2)] at hls
      rw [hls]
      refine Cd.seq ?_
      refine Cd.region ?_
      refine Ls.ev (some 47) (Ev.move (show Oper.op _ = Op.move (Operand.tmp 11) from rfl) (by rfl)) (by rfl) (by rfl) ?_
      refine Ls.ev (some 10) (Ev.assign (show Oper.op _ = Op.assign (Operand.tmp 47) from rfl) (by rfl)) (by rfl) (by rfl) ?_
      refine Ls.nil ?_
      refine Cd.ret ?_
      refine Ent.ret (()) (trivial) (Res.tmp (by rfl) (by rfl)) ?_ [] (by rfl) ?_
      · rfl
      · rfl
    · skip
      rw [if_neg (of_decide_eq_false h2)] at hls
      rw [hls]
      refine Cd.skip ?_
      refine Cd.region ?_
      refine Ls.ev (some 16) (Ev.move (show Oper.op _ = Op.move (Operand.tmp 11) from rfl) (by rfl)) (by rfl) (by rfl) ?_
      refine Ls.ev (some 17) (Ev.subI (show Oper.op _ = Op.binOp BinOp.sub 3 (Operand.tmp 16) (Operand.const (Value.int IntKind.i64 1)) 3 from rfl) (by rfl) (by rfl) (by omega)) (by rfl) (by rfl) ?_
      refine Ls.ev (some 11) (Ev.assign (show Oper.op _ = Op.assign (Operand.tmp 17) from rfl) (by rfl)) (by rfl) (by rfl) ?_
      refine Ls.nil ?_
      refine Ent.inv (j) ?_ ?_ ?_
      · (try dsimp only); exact ⟨⟨by omega, rfl⟩, by omega⟩
      · (repeat (first | exact trivial | refine ⟨by rfl, ?_⟩ | refine ⟨by simp only [List.length_append, List.length_cons, List.length_nil]; rfl, ?_⟩ | refine ⟨by push_cast; rfl, ?_⟩))
      · rfl
  · skip
    have hk0 : k = 0 := by have := of_decide_eq_false h1; omega
    subst hk0
    refine Cd.exit ?_
    refine Cd.seq ?_
    refine Cd.region ?_
    refine Ls.ev (some 10) (Ev.assign (show Oper.op _ = Op.assign (Operand.const (Value.int IntKind.i64 (-1))) from rfl) (by rfl)) (by rfl) (by rfl) ?_
    refine Ls.nil ?_
    refine Cd.ret ?_
    refine Ent.ret (()) (trivial) (Res.tmp (by rfl) (by rfl)) ?_ [] (by rfl) ?_
    · rfl
    · rfl
include hx
set_option maxRecDepth 20000 in
theorem dCall_sl (r d : Int) : Fn Try.prog 20 #[.slice EA l.length ec, .int .i64 n, .int .i64 r, .int .i64 d] [evR EA l, evC l] (Option CallS) (fun c => .tuple #[.agg (c.getD noC).enc.toArray, .bool c.isSome]) (fun c => [(c.getD noC).rt.rd]) (fun c => c.map CallS.p = callF (l.map EvS.p) r d n ∧ (c.getD noC).rt.l.length ≤ 100) := by
  refine Fn.enter Try.func20 rfl Try.ntmps20 (by rfl) ?_
  intro w0
  refine Cd.seq ?_
  refine Cd.region ?_
  refine Ls.does (some 8) (Does.alloc (cs := [.int .i64 0, .int .i64 0, .int .i64 0, .slice none 0 0]) (show Oper.op _ = Op.alloc 43 from rfl) (ZeroIs.mk (.agg #[.int .i64 0, .int .i64 0, .int .i64 0, .slice none 0 0]) (by kernel_rfl) (by rfl))) (by rfl) (by rfl) ?_
  intro g1 _
  refine Ls.ev (some 9) (Ev.assign (show Oper.op _ = Op.assign (Operand.const (Value.bool false)) from rfl) (by rfl)) (by rfl) (by rfl) ?_
  refine Ls.nil ?_
  refine Cd.seq ?_
  refine Cd.seq ?_
  refine Cd.region ?_
  refine Ls.ev (some 11) (Ev.move (show Oper.op _ = Op.move (Operand.tmp 1) from rfl) (by rfl)) (by rfl) (by rfl) ?_
  refine Ls.ev (some 12) (Ev.subI (show Oper.op _ = Op.binOp BinOp.sub 3 (Operand.tmp 11) (Operand.const (Value.int IntKind.i64 1)) 3 from rfl) (by rfl) (by rfl) (by omega)) (by rfl) (by rfl) ?_
  refine Ls.ev (some 10) (Ev.assign (show Oper.op _ = Op.assign (Operand.tmp 12) from rfl) (by rfl)) (by rfl) (by rfl) ?_
  refine Ls.nil ?_
  refine Cd.block ?_
  refine Cd.loop (ι := Nat) (fun k => [(0, .slice EA l.length ec), (2, .int .i64 r), (3, .int .i64 d), (8, .pointer (some ⟨g1, 0, none⟩)), (10, .int .i64 ((k : Int) - 1))]) (fun _ => [blk g1 43 noC.enc, evR EA l, evC l]) (fun k => k ≤ n ∧ callF (l.map EvS.p) r d n = callF (l.map EvS.p) r d k) (fun k => k) (n) (⟨Nat.le_refl _, rfl⟩) ?_ rfl ?_
  · (repeat (first | exact trivial | refine ⟨by rfl, ?_⟩))
  rintro k ⟨hk, hst⟩
  rw [hst]
  refine Cd.seq ?_
  refine Cd.seq ?_
  refine Cd.region ?_
  refine Ls.ev (some 13) (Ev.move (show Oper.op _ = Op.move (Operand.tmp 10) from rfl) (by rfl)) (by rfl) (by rfl) ?_
  refine Ls.ev (some 14) (Ev.geq (show Oper.op _ = Op.binOp BinOp.geq 3 (Operand.tmp 13) (Operand.const (Value.int IntKind.i64 0)) 3 from rfl) (by rfl) (by rfl)) (by rfl) (by rfl) ?_
  refine Ls.nil ?_
  refine Cd.cond _ (by rfl) (fun h1 => ?_) (fun h1 => ?_)
  · skip
    have h1 := of_decide_eq_true h1
    obtain ⟨j, rfl⟩ : ∃ j, k = j + 1 := ⟨k - 1, by omega⟩
    obtain ⟨x, hxj⟩ := get_of_lt (show j < l.length by omega)
    have hls := callS_step hxj r d
    refine Ent.norm ([(0, .slice EA l.length ec), (2, .int .i64 r), (3, .int .i64 d), (8, .pointer (some ⟨g1, 0, none⟩)), (10, .int .i64 j)]) ([blk g1 43 noC.enc, evR EA l, evC l]) (by repeat (first | refine ⟨by show some (Value.int .i64 _) = some (Value.int .i64 _); congr 2; omega, ?_⟩ | exact trivial | refine ⟨by rfl, ?_⟩ | refine ⟨by simp only [List.length_append, List.length_cons, List.length_nil]; rfl, ?_⟩ | refine ⟨by push_cast; rfl, ?_⟩)) (by rfl) ?_
    refine Ent.rdSome 1 (by rfl) (by omega) (fun ad had => ?_)
    subst had
    skip
    refine Cd.skip ?_
    refine Cd.seq ?_
    refine Cd.block ?_
    refine Cd.seq ?_
    refine Cd.cut (ι := Unit) (fun _ => [(0, .slice (some ad) l.length ec), (2, .int .i64 r), (3, .int .i64 d), (8, .pointer (some ⟨g1, 0, none⟩)), (10, .int .i64 j), (40, .bool (decide (x.kind = 1 ∧ x.robot = r ∧ x.id = d)))]) (fun _ => [blk g1 43 noC.enc, evR (some ad) l, evC l]) (fun _ => True) ?_ ?_
    · skip
      refine Cd.region ?_
      refine Ls.ev (some 17) (Ev.move (show Oper.op _ = Op.move (Operand.tmp 0) from rfl) (by rfl)) (by rfl) (by rfl) ?_
      refine Ls.ev (some 18) (Ev.move (show Oper.op _ = Op.move (Operand.tmp 10) from rfl) (by rfl)) (by rfl) (by rfl) ?_
      refine Ls.ev (some 19) (Ev.indexAt (sz := 12) (show Oper.op _ = Op.indexAddr 25 (Operand.tmp 17) (Operand.tmp 18) from rfl) (by rfl) (by rfl) Try.underlying25 (by kernel_rfl) (by omega)) (by rfl) (by rfl) ?_
      refine Ls.ev (some 20) (Ev.fieldAddrE0 (k := 0) (show Oper.op _ = Op.fieldAddr 47 (Operand.tmp 19) 0 from rfl) (by rfl) (by kernel_rfl)) (by rfl) (by rfl) ?_
      refine Ls.ev (some 21) (Ev.loadElF (show Oper.op _ = Op.load 38 (Operand.tmp 20) from rfl) (by rfl) (ReadsIn.rd 1 (by rfl)) (by kernel_rfl) (by intro _; rfl) (by assumption) (by rfl)) (by rfl) (by rfl) ?_
      refine Ls.ev (some 22) (Ev.eql (show Oper.op _ = Op.binOp BinOp.eql 3 (Operand.tmp 21) (Operand.const (Value.int IntKind.i64 1)) 3 from rfl) (by rfl) (by rfl)) (by rfl) (by rfl) ?_
      refine Ls.ev (some 23) (Ev.move (show Oper.op _ = Op.move (Operand.tmp 22) from rfl) (by rfl)) (by rfl) (by rfl) ?_
      refine Ent.split 23 (by rfl) (fun hT1 => ?_) (fun hT1 => ?_)
      · first | have hT1 := of_decide_eq_false hT1 | have hT1 := of_not_decide_false hT1 | skip
        refine Ls.pass (some 24) (by rfl) (by rfl) ?_
        refine Ls.pass (some 25) (by rfl) (by rfl) ?_
        refine Ls.pass (some 26) (by rfl) (by rfl) ?_
        refine Ls.pass (some 27) (by rfl) (by rfl) ?_
        refine Ls.pass (some 28) (by rfl) (by rfl) ?_
        refine Ls.pass (some 29) (by rfl) (by rfl) ?_
        refine Ls.pass (some 30) (by rfl) (by rfl) ?_
        refine Ls.ev (some 31) (Ev.pickF (show Oper.op _ = Op.pick (Operand.tmp 23) (Operand.tmp 30) (Operand.const (Value.bool false)) from rfl) (by rfl) (by rfl)) (by rfl) (by rfl) ?_
        refine Ls.ev (some 32) (Ev.move (show Oper.op _ = Op.move (Operand.tmp 31) from rfl) (by rfl)) (by rfl) (by rfl) ?_
        refine Ls.pass (some 33) (by rfl) (by rfl) ?_
        refine Ls.pass (some 34) (by rfl) (by rfl) ?_
        refine Ls.pass (some 35) (by rfl) (by rfl) ?_
        refine Ls.pass (some 36) (by rfl) (by rfl) ?_
        refine Ls.pass (some 37) (by rfl) (by rfl) ?_
        refine Ls.pass (some 38) (by rfl) (by rfl) ?_
        refine Ls.pass (some 39) (by rfl) (by rfl) ?_
        refine Ls.ev (some 40) (Ev.pickF (show Oper.op _ = Op.pick (Operand.tmp 32) (Operand.tmp 39) (Operand.const (Value.bool false)) from rfl) (by rfl) (by rfl)) (by rfl) (by rfl) ?_
        refine Ls.nil ?_
        refine Ent.pick [0, 1, 2] (by rfl) ?_
        refine Ent.inv () ?_ ?_ ?_
        · exact trivial
        · (repeat (first | exact trivial | refine ⟨by rfl, ?_⟩ | refine ⟨by simp only [List.length_append, List.length_cons, List.length_nil]; rfl, ?_⟩ | refine ⟨by push_cast; rfl, ?_⟩ | refine ⟨by (show some (Value.bool _) = some (Value.bool _); congr 2; (first | rfl | (refine (decide_eq_false ?_).symm; simp_all) | (refine (decide_eq_true ?_).symm; simp_all) | (refine decide_eq_decide.2 ?_; simp_all))), ?_⟩))
        · rfl
      · first | have hT1 := of_decide_eq_true hT1 | have hT1 := of_not_decide_true hT1 | skip
        refine Ls.ev (some 24) (Ev.move (show Oper.op _ = Op.move (Operand.tmp 0) from rfl) (by rfl)) (by rfl) (by rfl) ?_
        refine Ls.ev (some 25) (Ev.move (show Oper.op _ = Op.move (Operand.tmp 10) from rfl) (by rfl)) (by rfl) (by rfl) ?_
        refine Ls.ev (some 26) (Ev.indexAt (sz := 12) (show Oper.op _ = Op.indexAddr 25 (Operand.tmp 24) (Operand.tmp 25) from rfl) (by rfl) (by rfl) Try.underlying25 (by kernel_rfl) (by omega)) (by rfl) (by rfl) ?_
        refine Ls.ev (some 27) (Ev.fieldAddrE0 (k := 1) (show Oper.op _ = Op.fieldAddr 47 (Operand.tmp 26) 1 from rfl) (by rfl) (by kernel_rfl)) (by rfl) (by rfl) ?_
        refine Ls.ev (some 28) (Ev.loadElF (show Oper.op _ = Op.load 3 (Operand.tmp 27) from rfl) (by rfl) (ReadsIn.rd 1 (by rfl)) (by kernel_rfl) (by intro _; rfl) (by assumption) (by rfl)) (by rfl) (by rfl) ?_
        refine Ls.ev (some 29) (Ev.move (show Oper.op _ = Op.move (Operand.tmp 2) from rfl) (by rfl)) (by rfl) (by rfl) ?_
        refine Ls.ev (some 30) (Ev.eql (show Oper.op _ = Op.binOp BinOp.eql 3 (Operand.tmp 28) (Operand.tmp 29) 3 from rfl) (by rfl) (by rfl)) (by rfl) (by rfl) ?_
        refine Ls.ev (some 31) (Ev.pickT (show Oper.op _ = Op.pick (Operand.tmp 23) (Operand.tmp 30) (Operand.const (Value.bool false)) from rfl) (by rfl) (by rfl)) (by rfl) (by rfl) ?_
        refine Ls.ev (some 32) (Ev.move (show Oper.op _ = Op.move (Operand.tmp 31) from rfl) (by rfl)) (by rfl) (by rfl) ?_
        refine Ent.split 32 (by rfl) (fun hT2 => ?_) (fun hT2 => ?_)
        · first | have hT2 := of_decide_eq_false hT2 | have hT2 := of_not_decide_false hT2 | skip
          refine Ls.pass (some 33) (by rfl) (by rfl) ?_
          refine Ls.pass (some 34) (by rfl) (by rfl) ?_
          refine Ls.pass (some 35) (by rfl) (by rfl) ?_
          refine Ls.pass (some 36) (by rfl) (by rfl) ?_
          refine Ls.pass (some 37) (by rfl) (by rfl) ?_
          refine Ls.pass (some 38) (by rfl) (by rfl) ?_
          refine Ls.pass (some 39) (by rfl) (by rfl) ?_
          refine Ls.ev (some 40) (Ev.pickF (show Oper.op _ = Op.pick (Operand.tmp 32) (Operand.tmp 39) (Operand.const (Value.bool false)) from rfl) (by rfl) (by rfl)) (by rfl) (by rfl) ?_
          refine Ls.nil ?_
          refine Ent.pick [0, 1, 2] (by rfl) ?_
          refine Ent.inv () ?_ ?_ ?_
          · exact trivial
          · (repeat (first | exact trivial | refine ⟨by rfl, ?_⟩ | refine ⟨by simp only [List.length_append, List.length_cons, List.length_nil]; rfl, ?_⟩ | refine ⟨by push_cast; rfl, ?_⟩ | refine ⟨by (show some (Value.bool _) = some (Value.bool _); congr 2; (first | rfl | (refine (decide_eq_false ?_).symm; simp_all) | (refine (decide_eq_true ?_).symm; simp_all) | (refine decide_eq_decide.2 ?_; simp_all))), ?_⟩))
          · rfl
        · first | have hT2 := of_decide_eq_true hT2 | have hT2 := of_not_decide_true hT2 | skip
          refine Ls.ev (some 33) (Ev.move (show Oper.op _ = Op.move (Operand.tmp 0) from rfl) (by rfl)) (by rfl) (by rfl) ?_
          refine Ls.ev (some 34) (Ev.move (show Oper.op _ = Op.move (Operand.tmp 10) from rfl) (by rfl)) (by rfl) (by rfl) ?_
          refine Ls.ev (some 35) (Ev.indexAt (sz := 12) (show Oper.op _ = Op.indexAddr 25 (Operand.tmp 33) (Operand.tmp 34) from rfl) (by rfl) (by rfl) Try.underlying25 (by kernel_rfl) (by omega)) (by rfl) (by rfl) ?_
          refine Ls.ev (some 36) (Ev.fieldAddrE0 (k := 2) (show Oper.op _ = Op.fieldAddr 47 (Operand.tmp 35) 2 from rfl) (by rfl) (by kernel_rfl)) (by rfl) (by rfl) ?_
          refine Ls.ev (some 37) (Ev.loadElF (show Oper.op _ = Op.load 3 (Operand.tmp 36) from rfl) (by rfl) (ReadsIn.rd 1 (by rfl)) (by kernel_rfl) (by intro _; rfl) (by assumption) (by rfl)) (by rfl) (by rfl) ?_
          refine Ls.ev (some 38) (Ev.move (show Oper.op _ = Op.move (Operand.tmp 3) from rfl) (by rfl)) (by rfl) (by rfl) ?_
          refine Ls.ev (some 39) (Ev.eql (show Oper.op _ = Op.binOp BinOp.eql 3 (Operand.tmp 37) (Operand.tmp 38) 3 from rfl) (by rfl) (by rfl)) (by rfl) (by rfl) ?_
          refine Ls.ev (some 40) (Ev.pickT (show Oper.op _ = Op.pick (Operand.tmp 32) (Operand.tmp 39) (Operand.const (Value.bool false)) from rfl) (by rfl) (by rfl)) (by rfl) (by rfl) ?_
          refine Ls.nil ?_
          refine Ent.pick [0, 1, 2] (by rfl) ?_
          refine Ent.inv () ?_ ?_ ?_
          · exact trivial
          · (repeat (first | exact trivial | refine ⟨by rfl, ?_⟩ | refine ⟨by simp only [List.length_append, List.length_cons, List.length_nil]; rfl, ?_⟩ | refine ⟨by push_cast; rfl, ?_⟩ | refine ⟨by (show some (Value.bool _) = some (Value.bool _); congr 2; (first | rfl | (refine (decide_eq_false ?_).symm; simp_all) | (refine (decide_eq_true ?_).symm; simp_all) | (refine decide_eq_decide.2 ?_; simp_all))), ?_⟩))
          · rfl
    skip
    rintro _ -
    refine Cd.cond _ (by rfl) (fun h2 => ?_) (fun h2 => ?_)
    · skip
      rw [if_pos (of_decide_eq_true h2)] at hls
      rw [hls]
      refine Ent.map (fun w hs => hs.starf_get 2 j rfl) ?_
      show Ent _ _ _ ((l.getD j noE).call.rt.rd :: _) _
      rw [show l.getD j noE = x by rw [List.getD_eq_getElem?_getD, hxj]; rfl]
      refine Ent.pick [1, 2, 0] (by rfl) ?_
      refine Cd.seq ?_
      refine Cd.region ?_
      refine Ls.ev (some 41) (Ev.move (show Oper.op _ = Op.move (Operand.tmp 0) from rfl) (by rfl)) (by rfl) (by rfl) ?_
      refine Ls.ev (some 42) (Ev.move (show Oper.op _ = Op.move (Operand.tmp 10) from rfl) (by rfl)) (by rfl) (by rfl) ?_
      refine Ls.ev (some 43) (Ev.indexAt (sz := 12) (show Oper.op _ = Op.indexAddr 25 (Operand.tmp 41) (Operand.tmp 42) from rfl) (by rfl) (by rfl) Try.underlying25 (by kernel_rfl) (by omega)) (by rfl) (by rfl) ?_
      refine Ls.ev (some 44) (Ev.fieldAddrE0 (k := 4) (show Oper.op _ = Op.fieldAddr 47 (Operand.tmp 43) 4 from rfl) (by rfl) (by kernel_rfl)) (by rfl) (by rfl) ?_
      refine Ls.ev (some 45) (Ev.loadElS (m := 4) (show Oper.op _ = Op.load 43 (Operand.tmp 44) from rfl) (by rfl) (ReadsIn.rd 1 (by rfl)) (by kernel_rfl) (by intro _; rfl) (by assumption) (by rfl) (by rfl)) (by rfl) (by rfl) ?_
      refine Ls.does none (Does.store 0 (show Oper.op _ = Op.store 43 (Operand.tmp 8) (Operand.tmp 45) from rfl) (by rfl) (by rfl) (by rfl) (by kernel_rfl) (by rfl) (by kernel_rfl) (by rfl)) (by rfl) (by rfl) ?_
      intro _ _
      refine Ls.ev (some 9) (Ev.assign (show Oper.op _ = Op.assign (Operand.const (Value.bool true)) from rfl) (by rfl)) (by rfl) (by rfl) ?_
      refine Ls.nil ?_
      refine Cd.ret ?_
      refine Ent.ret ((some x.call)) (⟨rfl, (hx x (List.mem_of_getElem? hxj)).call.1⟩) (Res.cell_tmp 0 (by rfl) (by rfl) (by rfl) (n := 4) (by kernel_rfl) (by rfl) (by rfl) (by rfl)) ?_ [2] (by rfl) ?_
      · rfl
      · rfl
    · skip
      rw [if_neg (of_decide_eq_false h2)] at hls
      rw [hls]
      refine Cd.skip ?_
      refine Cd.region ?_
      refine Ls.ev (some 15) (Ev.move (show Oper.op _ = Op.move (Operand.tmp 10) from rfl) (by rfl)) (by rfl) (by rfl) ?_
      refine Ls.ev (some 16) (Ev.subI (show Oper.op _ = Op.binOp BinOp.sub 3 (Operand.tmp 15) (Operand.const (Value.int IntKind.i64 1)) 3 from rfl) (by rfl) (by rfl) (by omega)) (by rfl) (by rfl) ?_
      refine Ls.ev (some 10) (Ev.assign (show Oper.op _ = Op.assign (Operand.tmp 16) from rfl) (by rfl)) (by rfl) (by rfl) ?_
      refine Ls.nil ?_
      refine Ent.inv (j) ?_ ?_ ?_
      · (try dsimp only); exact ⟨⟨by omega, rfl⟩, by omega⟩
      · (repeat (first | exact trivial | refine ⟨by rfl, ?_⟩ | refine ⟨by simp only [List.length_append, List.length_cons, List.length_nil]; rfl, ?_⟩ | refine ⟨by push_cast; rfl, ?_⟩))
      · rfl
  · skip
    have hk0 : k = 0 := by have := of_decide_eq_false h1; omega
    subst hk0
    refine Cd.exit ?_
    refine Cd.seq ?_
    refine Cd.region ?_
    refine Ls.ev (some 46) (Ev.buildP (pl := [(0, 1), (1, 1), (2, 2)]) (zs := [.int .i64 0, .int .i64 0, .int .i64 0, .slice none 0 0]) (show Oper.op _ = Op.build 43 #[] from rfl) (by rfl) (by kernel_rfl) (by rfl)) (by rfl) (by rfl) ?_
    refine Ls.does none (Does.store 0 (show Oper.op _ = Op.store 43 (Operand.tmp 8) (Operand.tmp 46) from rfl) (by rfl) (by rfl) (by rfl) (by kernel_rfl) (by rfl) (by kernel_rfl) (by rfl)) (by rfl) (by rfl) ?_
    intro _ _
    refine Ls.ev (some 9) (Ev.assign (show Oper.op _ = Op.assign (Operand.const (Value.bool false)) from rfl) (by rfl)) (by rfl) (by rfl) ?_
    refine Ls.nil ?_
    refine Ent.map (fun w hs => hs.rdNil) ?_
    refine Cd.ret ?_
    refine Ent.ret ((none : Option CallS)) (⟨rfl, Nat.zero_le _⟩) (Res.cell_tmp 1 (by rfl) (by rfl) (by rfl) (n := 4) (by kernel_rfl) (by rfl) (by rfl) (by rfl)) ?_ [0] (by rfl) ?_
    · rfl
    · rfl
end
end Go.Proofs.Ytegjoabfoddadaa
/- the document's judge over pieces: replies held against each other, the rule in parts -/
namespace Go.Proofs.Ytegjoabfoddadaa
open Go.RowKit
theorem dSame_sl (a b : RepS) (ha : a.rt.l.length ≤ 200) : Fn Try.prog 13 #[.agg a.enc.toArray, .agg b.enc.toArray] [a.rt.rd, b.rt.rd] Unit (fun _ => .bool (decide (a.p = b.p))) (fun _ => []) (fun _ => True) := by
  obtain ⟨c1, e1, ⟨s1, A1, r1, l1⟩⟩ := a
  obtain ⟨c2, e2, ⟨s2, A2, r2, l2⟩⟩ := b
  have h := sameReply_sl c1 c2 e1 e2 s1 s2 A1 A2 r1 r2 l1 l2 (show l1.length ≤ 17592186044415 from by have : l1.length ≤ 200 := ha; omega)
  rwa [show decide (c1 = c2 ∧ e1 = e2 ∧ s1 = s2 ∧ l1 = l2) = decide ((⟨c1, e1, ⟨s1, A1, r1, l1⟩⟩ : RepS).p = (⟨c2, e2, ⟨s2, A2, r2, l2⟩⟩ : RepS).p) from decide_eq_decide.2 (by unfold RepS.p RtS.p; simp)] at h
theorem ruleR_of {m : MapP} {l : List EvP} {i : Nat} {b : BkP} {x : EvP} {g d u : Int} {c : Option CallS}
    (hg : (if 0 ≤ lastF l 1 x.robot 0 i then ((l[(lastF l 1 x.robot 0 i).toNat]?).map EvP.id).getD 0 else 0) = g) (hc : c.map CallS.p = callF l x.robot x.id i)
    (hd : (if c.isSome then lastF l 3 x.robot x.id i else -1) = d) (hu : lastF l 2 x.robot x.id i = u) : ruleR m l i b x =
    (if (x.kind < 1 ∨ 4 < x.kind) ∨ (x.kind < 4 ∧ isR x.robot = false) then 1
     else if x.kind = 1 then (if x.id ≤ g then 2 else 0)
     else if x.kind = 2 then
      (if c.isSome = false ∨ x.id ≠ g ∨ 0 ≤ u then 5
       else if (x.reply.code = 0 ∧ (d < 0 ∨ (l[(max d 0).toNat]?).map EvP.reply ≠ some x.reply)) ∨ (x.reply.code ≠ 0 ∧ 0 ≤ d) then 6 else 0)
     else if x.kind = 3 then
      (if c.isSome = false ∨ 0 ≤ d then 3
       else if x.reply.code ≠ 0 ∨ (applyR m b x.robot (c.getD noC).p x.tick).2 ≠ x.reply then 4 else 0)
     else (if (l.take i).any (fun y => decide (y.kind = 4 ∧ x.tick < y.tick)) then 1 else 0)) := by
  have h1 : (callF l x.robot x.id i).isSome = c.isSome := by rw [← hc]; cases c <;> rfl
  have h2 : (callF l x.robot x.id i = none) = (c.isSome = false) := by rw [← hc]; cases c <;> simp
  have h3 : ((callF l x.robot x.id i).getD ⟨0, 0, noR⟩) = (c.getD noC).p := by rw [← hc]; cases c <;> rfl
  unfold ruleR
  simp only [h1, h2, h3, hg, hd, hu]
/-- Epochs grow by one at most. -/
def EpB (b : BkP) (n : Int) : Prop := ∀ k, 0 ≤ b.eps.getD k 0 ∧ b.eps.getD k 0 ≤ n
theorem EpB.more {b : BkP} {n n' : Int} (h : EpB b n) (hn : n ≤ n') : EpB b n' := fun k => ⟨(h k).1, Int.le_trans (h k).2 hn⟩
theorem ite_ind {α : Type} {P : α → Prop} {c : Prop} [Decidable c] {a b : α} (h1 : P a) (h2 : P b) : P (if c then a else b) := by
  split
  · exact h1
  · exact h2
theorem applyR_ep {m : MapP} {b : BkP} {n : Int} (h : EpB b n) (r : Int) (c : CallP) (t : Int) : EpB (applyR m b r c t).1 (n + 1) := by
  have h1 := h.more (show n ≤ n + 1 by omega)
  have hs : ∀ x, EpB (b.setRt r x) (n + 1) := fun x => h1
  unfold applyR
  (repeat' (refine ite_ind (P := fun q : BkP × RepP => EpB q.1 (n + 1)) ?_ ?_)) <;> first | exact h1 | exact hs _ | skip
  intro k
  show 0 ≤ (b.eps.set r.toNat (b.ep r + 1)).getD k 0 ∧ (b.eps.set r.toNat (b.ep r + 1)).getD k 0 ≤ n + 1
  rw [List.getD_eq_getElem?_getD, List.getElem?_set]
  have h0 := h r.toNat
  split
  · split
    · show 0 ≤ b.ep r + 1 ∧ b.ep r + 1 ≤ n + 1
      unfold BkP.ep
      omega
    · simp
      have := h 0
      omega
  · rw [← List.getD_eq_getElem?_getD]
    exact h1 k
end Go.Proofs.Ytegjoabfoddadaa
/- the document's judge over pieces: the rule that an event breaks -/
namespace Go.Proofs.Ytegjoabfoddadaa
open Go.RowKit
theorem ruleS_of {m : MapP} {l : List EvS} {i : Nat} {b : BkP} {x y : EvS} {g d u : Int} {c : Option CallS}
    (hg : (if 0 ≤ lastF (l.map EvS.p) 1 x.robot 0 i then (((l.map EvS.p)[(lastF (l.map EvS.p) 1 x.robot 0 i).toNat]?).map EvP.id).getD 0 else 0) = g) (hc : c.map CallS.p = callF (l.map EvS.p) x.robot x.id i)
    (hd : (if c.isSome then lastF (l.map EvS.p) 3 x.robot x.id i else -1) = d) (hu : lastF (l.map EvS.p) 2 x.robot x.id i = u) (hy : l[(max d 0).toNat]? = some y) : ruleR m (l.map EvS.p) i b x.p =
    (if (x.kind < 1 ∨ 4 < x.kind) ∨ (x.kind < 4 ∧ isR x.robot = false) then 1
     else if x.kind = 1 then (if x.id ≤ g then 2 else 0)
     else if x.kind = 2 then
      (if c.isSome = false ∨ x.id ≠ g ∨ 0 ≤ u then 5
       else if (x.reply.code = 0 ∧ (d < 0 ∨ y.reply.p ≠ x.reply.p)) ∨ (x.reply.code ≠ 0 ∧ 0 ≤ d) then 6 else 0)
     else if x.kind = 3 then
      (if c.isSome = false ∨ 0 ≤ d then 3
       else if x.reply.code ≠ 0 ∨ (applyR m b x.robot (c.getD noC).p x.tick).2 ≠ x.reply.p then 4 else 0)
     else (if (l.take i).any (fun y => decide (y.kind = 4 ∧ x.tick < y.tick)) then 1 else 0)) := by
  have h := ruleR_of (m := m) (b := b) (x := x.p) hg hc hd hu
  have h1 : (((l.map EvS.p)[(max d 0).toNat]?).map EvP.reply ≠ some x.p.reply) = (y.reply.p ≠ x.reply.p) := by
    rw [List.getElem?_map, hy]
    show (some y.reply.p ≠ some x.reply.p) = _
    simp
  have h2 : ((l.map EvS.p).take i).any (fun y => decide (y.kind = 4 ∧ x.p.tick < y.tick)) = (l.take i).any (fun y => decide (y.kind = 4 ∧ x.tick < y.tick)) := by
    rw [← List.map_take, List.any_map]
    rfl
  simp only [h1, h2] at h
  exact h
theorem lastF_ge (l : List EvP) (kind robot id : Int) : ∀ n, -1 ≤ lastF l kind robot id n
  | 0 => Int.le_refl _
  | n + 1 => by
    have := lastF_ge l kind robot id n
    rw [lastF]
    repeat' split
    all_goals omega
section
variable {a d : Int} {P Q : Prop} [Decidable P] [Decidable Q]
theorem rpl_a (h : ¬ a = 0) : decide (0 ≤ d) = decide ((a = 0 ∧ (d < 0 ∨ ¬ P)) ∨ (a ≠ 0 ∧ 0 ≤ d)) := decide_eq_decide.2 (by constructor; exact fun e => .inr ⟨h, e⟩; exact fun e => e.elim (fun e => absurd e.1 h) (·.2))
theorem rpl_b (h : a = 0) (hd : ¬ d < 0) : (!decide P) = decide ((a = 0 ∧ (d < 0 ∨ ¬ P)) ∨ (a ≠ 0 ∧ 0 ≤ d)) := by rw [← decide_not]; exact decide_eq_decide.2 (by constructor; exact fun e => .inl ⟨h, .inr e⟩; exact fun e => e.elim (fun e => e.2.elim (fun e => absurd e hd) id) (fun e => absurd h e.1))
theorem rpl_c (h : a = 0) (hd : d < 0) : true = decide ((a = 0 ∧ (d < 0 ∨ ¬ P)) ∨ (a ≠ 0 ∧ 0 ≤ d)) := (decide_eq_true (.inl ⟨h, .inl hd⟩)).symm
end
theorem any_takeS {l : List EvS} {i : Nat} {x : EvS} (hx : l[i]? = some x) (f : EvS → Bool) : (l.take (i + 1)).any f = ((l.take i).any f || f x) := by
  rw [List.take_add_one, hx, List.any_append]
  simp
theorem any_mono {l : List EvS} {i j : Nat} {f : EvS → Bool} (h : i ≤ j) (hi : (l.take i).any f = true) : (l.take j).any f = true := by
  obtain ⟨y, h1, h2⟩ := List.any_eq_true.1 hi
  exact List.any_eq_true.2 ⟨y, (List.take_subset_take_left l h) h1, h2⟩
section
variable (m : MapP) (hm : goodM m = true) (A : Option Addr) (ac : Nat) (hml : m.bl.length ≤ 17592186044415) (l : List EvS) (hl : l.length ≤ 100000) (hx : ∀ x ∈ l, x.Ok) (EA : Option Addr) (ec : Nat)
include hm hml hl hx
set_option maxRecDepth 20000 in
set_option maxHeartbeats 2000000 in
theorem dRule_sl (B : BkD) (hb : BkOk m B.p) (hE : EpB B.p 1000000) (k : Nat) (x : EvS) (hxk : l[k]? = some x) :
    Fn Try.prog 19 #[.agg (mapV m A ac).toArray, .slice EA l.length ec, .int .i64 k, .agg B.val.toArray] [rdI A m.bl, evR EA l, evC l, evD l, B.re, B.rr, B.fam] Unit (fun _ => .int .i64 (ruleR m (l.map EvS.p) k B.p x.p)) (fun _ => []) (fun _ => True) := by
  have hlt : k < l.length := (List.getElem?_eq_some_iff.1 hxk).1
  have hkl : k ≤ l.length := by omega
  have hxo := hx x (List.mem_of_getElem? hxk)
  have hgd : l.getD k noE = x := by rw [List.getD_eq_getElem?_getD, hxk]; rfl
  have hap := dApply_sl m hm A ac hml B hb hE x.robot
  refine Fn.enter Try.func19 rfl Try.ntmps19 (by rfl) ?_
  intro w0
  refine Cd.seq ?_
  refine Cd.region ?_
  refine Ls.does (some 4) (Does.box (show Oper.op _ = Op.box 24 (Operand.tmp 0) from rfl) (by rfl)) (by rfl) (by rfl) ?_
  intro g1 _
  refine Ls.does (some 7) (Does.box (show Oper.op _ = Op.box 61 (Operand.tmp 3) from rfl) (by rfl)) (by rfl) (by rfl) ?_
  intro g2 _
  refine Ls.ev (some 8) (Ev.assign (show Oper.op _ = Op.assign (Operand.const (Value.int IntKind.i64 0)) from rfl) (by rfl)) (by rfl) (by rfl) ?_
  refine Ls.nil ?_
  refine Cd.seq ?_
  refine Ent.rdSome 3 (by rfl) (by omega) (fun ad had => ?_)
  subst had
  refine Cd.region ?_
  refine Ls.ev (some 19) (Ev.move (show Oper.op _ = Op.move (Operand.tmp 1) from rfl) (by rfl)) (by rfl) (by rfl) ?_
  refine Ls.ev (some 20) (Ev.move (show Oper.op _ = Op.move (Operand.tmp 2) from rfl) (by rfl)) (by rfl) (by rfl) ?_
  refine Ls.ev (some 21) (Ev.indexAt (sz := 12) (show Oper.op _ = Op.indexAddr 25 (Operand.tmp 19) (Operand.tmp 20) from rfl) (by rfl) (by rfl) Try.underlying25 (by kernel_rfl) (by omega)) (by rfl) (by rfl) ?_
  refine Ls.ev (some 22) (Ev.loadEl (show Oper.op _ = Op.load 47 (Operand.tmp 21) from rfl) (by rfl) (ReadsIn.rd 3 (by rfl)) (by kernel_rfl) (by intro _; rfl) (by assumption)) (by rfl) (by rfl) ?_
  refine Ls.does (some 9) (Does.alloc (cs := [.int .i64 0, .int .i64 0, .int .i64 0, .int .i64 0, .int .i64 0, .int .i64 0, .int .i64 0, .slice none 0 0, .int .i64 0, .int .i64 0, .int .i64 0, .slice none 0 0]) (show Oper.op _ = Op.alloc 47 from rfl) (ZeroIs.mk (.agg #[.int .i64 0, .int .i64 0, .int .i64 0, .int .i64 0, .int .i64 0, .int .i64 0, .int .i64 0, .slice none 0 0, .int .i64 0, .int .i64 0, .int .i64 0, .slice none 0 0]) (by kernel_rfl) (by rfl))) (by rfl) (by rfl) ?_
  intro g3 _
  refine Ls.does none (Does.store 0 (show Oper.op _ = Op.store 47 (Operand.tmp 9) (Operand.tmp 22) from rfl) (by rfl) (by rfl) (by rfl) (by kernel_rfl) (by rfl) (by kernel_rfl) (by rfl)) (by rfl) (by rfl) ?_
  intro _ _
  refine Ls.nil ?_
  refine Cd.seq ?_
  refine Cd.seq ?_
  refine Ent.norm ([(1, .slice (some ad) l.length ec), (2, .int .i64 k), (4, .pointer (some ⟨g1, 0, none⟩)), (7, .pointer (some ⟨g2, 0, none⟩)), (9, .pointer (some ⟨g3, 0, none⟩))]) ([blk g3 47 x.enc, blk g2 61 B.val, blk g1 24 (mapV m A ac), rdI A m.bl, evR (some ad) l, evC l, evD l, B.re, B.rr, B.fam]) (by repeat (first | exact trivial | refine ⟨by rfl, ?_⟩ | refine ⟨by simp only [List.length_append, List.length_cons, List.length_nil]; rfl, ?_⟩ | refine ⟨by push_cast; rfl, ?_⟩)) (by rfl) ?_
  refine Cd.cut (ι := Unit) (fun _ => [(1, .slice (some ad) l.length ec), (2, .int .i64 k), (4, .pointer (some ⟨g1, 0, none⟩)), (7, .pointer (some ⟨g2, 0, none⟩)), (9, .pointer (some ⟨g3, 0, none⟩)), (41, .bool (decide ((x.kind < 1 ∨ 4 < x.kind) ∨ (x.kind < 4 ∧ isR x.robot = false))))]) (fun _ => [blk g3 47 x.enc, blk g2 61 B.val, blk g1 24 (mapV m A ac), rdI A m.bl, evR (some ad) l, evC l, evD l, B.re, B.rr, B.fam]) (fun _ => True) ?_ ?_
  · skip
    refine Cd.region ?_
    refine Ls.ev (some 23) (Ev.fieldAddr (k := 0) (show Oper.op _ = Op.fieldAddr 47 (Operand.tmp 9) 0 from rfl) (by rfl) (by kernel_rfl) (by rfl)) (by rfl) (by rfl) ?_
    refine Ls.ev (some 24) (Ev.load 0 (show Oper.op _ = Op.load 38 (Operand.tmp 23) from rfl) (by rfl) (by rfl) (by kernel_rfl) (by rfl)) (by rfl) (by rfl) ?_
    refine Ls.ev (some 25) (Ev.lss (show Oper.op _ = Op.binOp BinOp.lss 38 (Operand.tmp 24) (Operand.const (Value.int IntKind.i64 1)) 38 from rfl) (by rfl) (by rfl)) (by rfl) (by rfl) ?_
    refine Ls.ev (some 26) (Ev.move (show Oper.op _ = Op.move (Operand.tmp 25) from rfl) (by rfl)) (by rfl) (by rfl) ?_
    refine Ent.split 26 (by rfl) (fun hT1 => ?_) (fun hT1 => ?_)
    · first | have hT1 := of_decide_eq_false hT1 | have hT1 := of_not_decide_false hT1 | skip
      refine Ls.ev (some 27) (Ev.fieldAddr (k := 0) (show Oper.op _ = Op.fieldAddr 47 (Operand.tmp 9) 0 from rfl) (by rfl) (by kernel_rfl) (by rfl)) (by rfl) (by rfl) ?_
      refine Ls.ev (some 28) (Ev.load 0 (show Oper.op _ = Op.load 38 (Operand.tmp 27) from rfl) (by rfl) (by rfl) (by kernel_rfl) (by rfl)) (by rfl) (by rfl) ?_
      refine Ls.ev (some 29) (Ev.gtr (show Oper.op _ = Op.binOp BinOp.gtr 38 (Operand.tmp 28) (Operand.const (Value.int IntKind.i64 4)) 38 from rfl) (by rfl) (by rfl)) (by rfl) (by rfl) ?_
      refine Ls.ev (some 30) (Ev.pickF (show Oper.op _ = Op.pick (Operand.tmp 26) (Operand.const (Value.bool true)) (Operand.tmp 29) from rfl) (by rfl) (by rfl)) (by rfl) (by rfl) ?_
      refine Ls.ev (some 31) (Ev.move (show Oper.op _ = Op.move (Operand.tmp 30) from rfl) (by rfl)) (by rfl) (by rfl) ?_
      refine Ent.split 31 (by rfl) (fun hT2 => ?_) (fun hT2 => ?_)
      · first | have hT2 := of_decide_eq_false hT2 | have hT2 := of_not_decide_false hT2 | skip
        refine Ls.ev (some 32) (Ev.fieldAddr (k := 0) (show Oper.op _ = Op.fieldAddr 47 (Operand.tmp 9) 0 from rfl) (by rfl) (by kernel_rfl) (by rfl)) (by rfl) (by rfl) ?_
        refine Ls.ev (some 33) (Ev.load 0 (show Oper.op _ = Op.load 38 (Operand.tmp 32) from rfl) (by rfl) (by rfl) (by kernel_rfl) (by rfl)) (by rfl) (by rfl) ?_
        refine Ls.ev (some 34) (Ev.lss (show Oper.op _ = Op.binOp BinOp.lss 38 (Operand.tmp 33) (Operand.const (Value.int IntKind.i64 4)) 38 from rfl) (by rfl) (by rfl)) (by rfl) (by rfl) ?_
        refine Ls.ev (some 35) (Ev.move (show Oper.op _ = Op.move (Operand.tmp 34) from rfl) (by rfl)) (by rfl) (by rfl) ?_
        refine Ent.split 35 (by rfl) (fun hT3 => ?_) (fun hT3 => ?_)
        · first | have hT3 := of_decide_eq_false hT3 | have hT3 := of_not_decide_false hT3 | skip
          refine Ls.pass (some 36) (by rfl) (by rfl) ?_
          refine Ls.pass (some 37) (by rfl) (by rfl) ?_
          refine Ls.pass (some 38) (by rfl) (by rfl) ?_
          refine Ls.pass (some 39) (by rfl) (by rfl) ?_
          refine Ls.ev (some 40) (Ev.pickF (show Oper.op _ = Op.pick (Operand.tmp 35) (Operand.tmp 39) (Operand.const (Value.bool false)) from rfl) (by rfl) (by rfl)) (by rfl) (by rfl) ?_
          refine Ls.ev (some 41) (Ev.pickF (show Oper.op _ = Op.pick (Operand.tmp 31) (Operand.const (Value.bool true)) (Operand.tmp 40) from rfl) (by rfl) (by rfl)) (by rfl) (by rfl) ?_
          refine Ls.nil ?_
          refine Ent.inv () ?_ ?_ ?_
          · exact trivial
          · (repeat (first | exact trivial | refine ⟨by rfl, ?_⟩ | refine ⟨by simp only [List.length_append, List.length_cons, List.length_nil]; rfl, ?_⟩ | refine ⟨by push_cast; rfl, ?_⟩ | refine ⟨by (show some (Value.bool _) = some (Value.bool _); congr 2; (first | rfl | (refine (decide_eq_false ?_).symm; rintro ((h | h) | ⟨h, h2⟩) <;> first | omega | (exfalso; simp_all; done)) | (refine (decide_eq_true ?_).symm; omega) | (cases hR : isR x.robot <;> simp <;> omega))), ?_⟩))
          · rfl
        · first | have hT3 := of_decide_eq_true hT3 | have hT3 := of_not_decide_true hT3 | skip
          refine Ls.ev (some 36) (Ev.fieldAddr (k := 1) (show Oper.op _ = Op.fieldAddr 47 (Operand.tmp 9) 1 from rfl) (by rfl) (by kernel_rfl) (by rfl)) (by rfl) (by rfl) ?_
          refine Ls.ev (some 37) (Ev.load 0 (show Oper.op _ = Op.load 3 (Operand.tmp 36) from rfl) (by rfl) (by rfl) (by kernel_rfl) (by rfl)) (by rfl) (by rfl) ?_
          refine Ls.does (some 38) (Does.read (show Oper.op _ = Op.call { callee := Callee.value (Operand.func 29), args := #[Operand.tmp 37], argTypes := #[3] } from rfl) Try.func29 (by kernel_rfl) (by kernel_rfl) (dIs19_sl x.robot) (by rfl) (by rfl) trivial) (by rfl) (by rfl) ?_
          rintro _ -
          refine Ls.ev (some 39) (Ev.not (show Oper.op _ = Op.unOp UnOp.not 4 (Operand.tmp 38) from rfl) (by rfl)) (by rfl) (by rfl) ?_
          refine Ls.ev (some 40) (Ev.pickT (show Oper.op _ = Op.pick (Operand.tmp 35) (Operand.tmp 39) (Operand.const (Value.bool false)) from rfl) (by rfl) (by rfl)) (by rfl) (by rfl) ?_
          refine Ls.ev (some 41) (Ev.pickF (show Oper.op _ = Op.pick (Operand.tmp 31) (Operand.const (Value.bool true)) (Operand.tmp 40) from rfl) (by rfl) (by rfl)) (by rfl) (by rfl) ?_
          refine Ls.nil ?_
          refine Ent.inv () ?_ ?_ ?_
          · exact trivial
          · (repeat (first | exact trivial | refine ⟨by rfl, ?_⟩ | refine ⟨by simp only [List.length_append, List.length_cons, List.length_nil]; rfl, ?_⟩ | refine ⟨by push_cast; rfl, ?_⟩ | refine ⟨by (show some (Value.bool _) = some (Value.bool _); congr 2; (first | rfl | (refine (decide_eq_false ?_).symm; rintro ((h | h) | ⟨h, h2⟩) <;> first | omega | (exfalso; simp_all; done)) | (refine (decide_eq_true ?_).symm; omega) | (cases hR : isR x.robot <;> simp <;> omega))), ?_⟩))
          · rfl
      · first | have hT2 := of_decide_eq_true hT2 | have hT2 := of_not_decide_true hT2 | skip
        refine Ls.pass (some 32) (by rfl) (by rfl) ?_
        refine Ls.pass (some 33) (by rfl) (by rfl) ?_
        refine Ls.pass (some 34) (by rfl) (by rfl) ?_
        refine Ls.pass (some 35) (by rfl) (by rfl) ?_
        refine Ls.pass (some 36) (by rfl) (by rfl) ?_
        refine Ls.pass (some 37) (by rfl) (by rfl) ?_
        refine Ls.pass (some 38) (by rfl) (by rfl) ?_
        refine Ls.pass (some 39) (by rfl) (by rfl) ?_
        refine Ls.pass (some 40) (by rfl) (by rfl) ?_
        refine Ls.ev (some 41) (Ev.pickT (show Oper.op _ = Op.pick (Operand.tmp 31) (Operand.const (Value.bool true)) (Operand.tmp 40) from rfl) (by rfl) (by rfl)) (by rfl) (by rfl) ?_
        refine Ls.nil ?_
        refine Ent.inv () ?_ ?_ ?_
        · exact trivial
        · (repeat (first | exact trivial | refine ⟨by rfl, ?_⟩ | refine ⟨by simp only [List.length_append, List.length_cons, List.length_nil]; rfl, ?_⟩ | refine ⟨by push_cast; rfl, ?_⟩ | refine ⟨by (show some (Value.bool _) = some (Value.bool _); congr 2; (first | rfl | (refine (decide_eq_false ?_).symm; rintro ((h | h) | ⟨h, h2⟩) <;> first | omega | (exfalso; simp_all; done)) | (refine (decide_eq_true ?_).symm; omega) | (cases hR : isR x.robot <;> simp <;> omega))), ?_⟩))
        · rfl
    · first | have hT1 := of_decide_eq_true hT1 | have hT1 := of_not_decide_true hT1 | skip
      refine Ls.pass (some 27) (by rfl) (by rfl) ?_
      refine Ls.pass (some 28) (by rfl) (by rfl) ?_
      refine Ls.pass (some 29) (by rfl) (by rfl) ?_
      refine Ls.ev (some 30) (Ev.pickT (show Oper.op _ = Op.pick (Operand.tmp 26) (Operand.const (Value.bool true)) (Operand.tmp 29) from rfl) (by rfl) (by rfl)) (by rfl) (by rfl) ?_
      refine Ls.ev (some 31) (Ev.move (show Oper.op _ = Op.move (Operand.tmp 30) from rfl) (by rfl)) (by rfl) (by rfl) ?_
      refine Ls.pass (some 32) (by rfl) (by rfl) ?_
      refine Ls.pass (some 33) (by rfl) (by rfl) ?_
      refine Ls.pass (some 34) (by rfl) (by rfl) ?_
      refine Ls.pass (some 35) (by rfl) (by rfl) ?_
      refine Ls.pass (some 36) (by rfl) (by rfl) ?_
      refine Ls.pass (some 37) (by rfl) (by rfl) ?_
      refine Ls.pass (some 38) (by rfl) (by rfl) ?_
      refine Ls.pass (some 39) (by rfl) (by rfl) ?_
      refine Ls.pass (some 40) (by rfl) (by rfl) ?_
      refine Ls.ev (some 41) (Ev.pickT (show Oper.op _ = Op.pick (Operand.tmp 31) (Operand.const (Value.bool true)) (Operand.tmp 40) from rfl) (by rfl) (by rfl)) (by rfl) (by rfl) ?_
      refine Ls.nil ?_
      refine Ent.inv () ?_ ?_ ?_
      · exact trivial
      · (repeat (first | exact trivial | refine ⟨by rfl, ?_⟩ | refine ⟨by simp only [List.length_append, List.length_cons, List.length_nil]; rfl, ?_⟩ | refine ⟨by push_cast; rfl, ?_⟩ | refine ⟨by (show some (Value.bool _) = some (Value.bool _); congr 2; (first | rfl | (refine (decide_eq_false ?_).symm; rintro ((h | h) | ⟨h, h2⟩) <;> first | omega | (exfalso; simp_all; done)) | (refine (decide_eq_true ?_).symm; omega) | (cases hR : isR x.robot <;> simp <;> omega))), ?_⟩))
      · rfl
  skip
  rintro _ -
  refine Cd.cond _ (by rfl) (fun h0 => ?_) (fun h0 => ?_)
  · skip
    rw [show ruleR m (l.map EvS.p) k B.p x.p = 1 from if_pos (of_decide_eq_true h0)]
    refine Cd.seq ?_
    refine Cd.region ?_
    refine Ls.ev (some 8) (Ev.assign (show Oper.op _ = Op.assign (Operand.const (Value.int IntKind.i64 1)) from rfl) (by rfl)) (by rfl) (by rfl) ?_
    refine Ls.nil ?_
    refine Cd.ret ?_
    refine Ent.ret (()) (trivial) (Res.tmp (by rfl) (by rfl)) ?_ [] (by rfl) ?_
    · rfl
    · rfl
  skip
  have h0 := of_decide_eq_false h0
  refine Cd.skip ?_
  refine Cd.seq ?_
  refine Cd.region ?_
  refine Ls.ev (some 42) (Ev.move (show Oper.op _ = Op.move (Operand.tmp 1) from rfl) (by rfl)) (by rfl) (by rfl) ?_
  refine Ls.ev (some 43) (Ev.move (show Oper.op _ = Op.move (Operand.tmp 2) from rfl) (by rfl)) (by rfl) (by rfl) ?_
  refine Ls.ev (some 44) (Ev.fieldAddr (k := 1) (show Oper.op _ = Op.fieldAddr 47 (Operand.tmp 9) 1 from rfl) (by rfl) (by kernel_rfl) (by rfl)) (by rfl) (by rfl) ?_
  refine Ls.ev (some 45) (Ev.load 0 (show Oper.op _ = Op.load 3 (Operand.tmp 44) from rfl) (by rfl) (by rfl) (by kernel_rfl) (by rfl)) (by rfl) (by rfl) ?_
  refine Ls.does (some 46) (Does.read (show Oper.op _ = Op.call { callee := Callee.value (Operand.func 30), args := #[Operand.tmp 42, Operand.tmp 43, Operand.const (Value.int IntKind.i64 1), Operand.tmp 45, Operand.const (Value.int IntKind.i64 0)], argTypes := #[25, 3, 3, 3, 3] } from rfl) Try.func30 (by kernel_rfl) (by kernel_rfl) (dLast_sl l hl (some ad) ec k hkl 1 x.robot 0) (by rfl) (by rfl) ⟨ReadsIn.rd 4 (by rfl), trivial⟩) (by rfl) (by rfl) ?_
  rintro _ -
  obtain ⟨a, ha⟩ : ∃ a, a = lastF (l.map EvS.p) 1 x.robot 0 k := ⟨_, rfl⟩
  have hab := lastF_lt (l.map EvS.p) 1 x.robot 0 k
  rw [← ha] at hab
  rw [← ha]
  refine Ls.ev (some 10) (Ev.assign (show Oper.op _ = Op.assign (Operand.tmp 46) from rfl) (by rfl)) (by rfl) (by rfl) ?_
  refine Ls.nil ?_
  refine Cd.seq ?_
  refine Cd.region ?_
  refine Ls.ev (some 11) (Ev.assign (show Oper.op _ = Op.assign (Operand.const (Value.int IntKind.i64 0)) from rfl) (by rfl)) (by rfl) (by rfl) ?_
  refine Ls.nil ?_
  refine Cd.seq ?_
  refine Cd.seq ?_
  refine Ent.norm ([(1, .slice (some ad) l.length ec), (2, .int .i64 k), (4, .pointer (some ⟨g1, 0, none⟩)), (7, .pointer (some ⟨g2, 0, none⟩)), (9, .pointer (some ⟨g3, 0, none⟩)), (10, .int .i64 a), (11, .int .i64 0)]) ([blk g3 47 x.enc, blk g2 61 B.val, blk g1 24 (mapV m A ac), rdI A m.bl, evR (some ad) l, evC l, evD l, B.re, B.rr, B.fam]) (by repeat (first | exact trivial | refine ⟨by rfl, ?_⟩ | refine ⟨by simp only [List.length_append, List.length_cons, List.length_nil]; rfl, ?_⟩ | refine ⟨by push_cast; rfl, ?_⟩)) (by rfl) ?_
  refine Cd.region ?_
  refine Ls.ev (some 47) (Ev.move (show Oper.op _ = Op.move (Operand.tmp 10) from rfl) (by rfl)) (by rfl) (by rfl) ?_
  refine Ls.ev (some 48) (Ev.geq (show Oper.op _ = Op.binOp BinOp.geq 3 (Operand.tmp 47) (Operand.const (Value.int IntKind.i64 0)) 3 from rfl) (by rfl) (by rfl)) (by rfl) (by rfl) ?_
  refine Ls.nil ?_
  refine Cd.cut (ι := Int) (fun g => [(1, .slice (some ad) l.length ec), (2, .int .i64 k), (4, .pointer (some ⟨g1, 0, none⟩)), (7, .pointer (some ⟨g2, 0, none⟩)), (9, .pointer (some ⟨g3, 0, none⟩)), (11, .int .i64 g)]) (fun _ => [blk g3 47 x.enc, blk g2 61 B.val, blk g1 24 (mapV m A ac), rdI A m.bl, evR (some ad) l, evC l, evD l, B.re, B.rr, B.fam]) (fun g => (if 0 ≤ a then (((l.map EvS.p)[a.toNat]?).map EvP.id).getD 0 else 0) = g) ?_ ?_
  · skip
    refine Cd.cond _ (by rfl) (fun h1 => ?_) (fun h1 => ?_)
    · skip
      have h1 := of_decide_eq_true h1
      rw [if_pos h1]
      obtain ⟨j, rfl⟩ : ∃ j : Nat, a = j := ⟨a.toNat, by omega⟩
      obtain ⟨z, hzj⟩ := get_of_lt (show j < l.length by omega)
      rw [Int.toNat_natCast, List.getElem?_map, hzj]
      skip
      refine Cd.region ?_
      refine Ls.ev (some 49) (Ev.move (show Oper.op _ = Op.move (Operand.tmp 1) from rfl) (by rfl)) (by rfl) (by rfl) ?_
      refine Ls.ev (some 50) (Ev.move (show Oper.op _ = Op.move (Operand.tmp 10) from rfl) (by rfl)) (by rfl) (by rfl) ?_
      refine Ls.ev (some 51) (Ev.indexAt (sz := 12) (show Oper.op _ = Op.indexAddr 25 (Operand.tmp 49) (Operand.tmp 50) from rfl) (by rfl) (by rfl) Try.underlying25 (by kernel_rfl) (by omega)) (by rfl) (by rfl) ?_
      refine Ls.ev (some 52) (Ev.fieldAddrE0 (k := 2) (show Oper.op _ = Op.fieldAddr 47 (Operand.tmp 51) 2 from rfl) (by rfl) (by kernel_rfl)) (by rfl) (by rfl) ?_
      refine Ls.ev (some 53) (Ev.loadElF (show Oper.op _ = Op.load 3 (Operand.tmp 52) from rfl) (by rfl) (ReadsIn.rd 4 (by rfl)) (by kernel_rfl) (by intro _; rfl) (by assumption) (by rfl)) (by rfl) (by rfl) ?_
      refine Ls.ev (some 11) (Ev.assign (show Oper.op _ = Op.assign (Operand.tmp 53) from rfl) (by rfl)) (by rfl) (by rfl) ?_
      refine Ls.nil ?_
      refine Ent.inv (z.id) ?_ ?_ ?_
      · (try dsimp only); rfl
      · (repeat (first | exact trivial | refine ⟨by rfl, ?_⟩ | refine ⟨by simp only [List.length_append, List.length_cons, List.length_nil]; rfl, ?_⟩ | refine ⟨by push_cast; rfl, ?_⟩))
      · rfl
    · skip
      rw [if_neg (of_decide_eq_false h1)]
      refine Cd.skip ?_
      refine Ent.inv (0) ?_ ?_ ?_
      · (try dsimp only); skip
      · (repeat (first | exact trivial | refine ⟨by rfl, ?_⟩ | refine ⟨by simp only [List.length_append, List.length_cons, List.length_nil]; rfl, ?_⟩ | refine ⟨by push_cast; rfl, ?_⟩))
      · rfl
  skip
  rintro g hg
  subst ha
  skip
  refine Cd.seq ?_
  refine Cd.region ?_
  refine Ls.ev (some 55) (Ev.move (show Oper.op _ = Op.move (Operand.tmp 1) from rfl) (by rfl)) (by rfl) (by rfl) ?_
  refine Ls.ev (some 56) (Ev.move (show Oper.op _ = Op.move (Operand.tmp 2) from rfl) (by rfl)) (by rfl) (by rfl) ?_
  refine Ls.ev (some 57) (Ev.fieldAddr (k := 1) (show Oper.op _ = Op.fieldAddr 47 (Operand.tmp 9) 1 from rfl) (by rfl) (by kernel_rfl) (by rfl)) (by rfl) (by rfl) ?_
  refine Ls.ev (some 58) (Ev.load 0 (show Oper.op _ = Op.load 3 (Operand.tmp 57) from rfl) (by rfl) (by rfl) (by kernel_rfl) (by rfl)) (by rfl) (by rfl) ?_
  refine Ls.ev (some 59) (Ev.fieldAddr (k := 2) (show Oper.op _ = Op.fieldAddr 47 (Operand.tmp 9) 2 from rfl) (by rfl) (by kernel_rfl) (by rfl)) (by rfl) (by rfl) ?_
  refine Ls.ev (some 60) (Ev.load 0 (show Oper.op _ = Op.load 3 (Operand.tmp 59) from rfl) (by rfl) (by rfl) (by kernel_rfl) (by rfl)) (by rfl) (by rfl) ?_
  refine Ls.does (some 61) (Does.call [4, 5, 0, 1, 2, 3, 4, 5, 6, 7, 8, 9] (show Oper.op _ = Op.call { callee := Callee.value (Operand.func 20), args := #[Operand.tmp 55, Operand.tmp 56, Operand.tmp 58, Operand.tmp 60], argTypes := #[25, 3, 3, 3] } from rfl) Try.func20 (by kernel_rfl) (by kernel_rfl) (dCall_sl l hl hx (some ad) ec k hkl x.robot x.id) (by rfl) (by rfl) (by rfl)) (by rfl) (by rfl) ?_
  rintro c ⟨hc, hcl⟩
  refine Ls.ev (some 54) (Ev.move (show Oper.op _ = Op.move (Operand.tmp 61) from rfl) (by rfl)) (by rfl) (by rfl) ?_
  refine Ls.ev (some 62) (Ev.extract (show Oper.op _ = Op.extract (Operand.tmp 54) 0 from rfl) (by rfl) (by rfl)) (by rfl) (by rfl) ?_
  refine Ls.ev (some 63) (Ev.extract (show Oper.op _ = Op.extract (Operand.tmp 54) 1 from rfl) (by rfl) (by rfl)) (by rfl) (by rfl) ?_
  refine Ls.does (some 12) (Does.alloc (cs := [.int .i64 0, .int .i64 0, .int .i64 0, .slice none 0 0]) (show Oper.op _ = Op.alloc 43 from rfl) (ZeroIs.mk (.agg #[.int .i64 0, .int .i64 0, .int .i64 0, .slice none 0 0]) (by kernel_rfl) (by rfl))) (by rfl) (by rfl) ?_
  intro g4 _
  refine Ls.does none (Does.store 0 (show Oper.op _ = Op.store 43 (Operand.tmp 12) (Operand.tmp 62) from rfl) (by rfl) (by rfl) (by rfl) (by kernel_rfl) (by rfl) (by kernel_rfl) (by rfl)) (by rfl) (by rfl) ?_
  intro _ _
  refine Ls.ev (some 13) (Ev.assign (show Oper.op _ = Op.assign (Operand.tmp 63) from rfl) (by rfl)) (by rfl) (by rfl) ?_
  refine Ls.nil ?_
  refine Cd.seq ?_
  refine Cd.region ?_
  refine Ls.ev (some 14) (Ev.assign (show Oper.op _ = Op.assign (Operand.const (Value.int IntKind.i64 (-1))) from rfl) (by rfl)) (by rfl) (by rfl) ?_
  refine Ls.nil ?_
  refine Cd.seq ?_
  refine Cd.seq ?_
  refine Ent.norm ([(1, .slice (some ad) l.length ec), (2, .int .i64 k), (4, .pointer (some ⟨g1, 0, none⟩)), (7, .pointer (some ⟨g2, 0, none⟩)), (9, .pointer (some ⟨g3, 0, none⟩)), (11, .int .i64 g), (12, .pointer (some ⟨g4, 0, none⟩)), (13, .bool c.isSome), (14, .int .i64 (-1))]) ([blk g4 43 (c.getD noC).enc, (c.getD noC).rt.rd, blk g3 47 x.enc, blk g2 61 B.val, blk g1 24 (mapV m A ac), rdI A m.bl, evR (some ad) l, evC l, evD l, B.re, B.rr, B.fam]) (by repeat (first | exact trivial | refine ⟨by rfl, ?_⟩ | refine ⟨by simp only [List.length_append, List.length_cons, List.length_nil]; rfl, ?_⟩ | refine ⟨by push_cast; rfl, ?_⟩)) (by rfl) ?_
  refine Cd.region ?_
  refine Ls.ev (some 64) (Ev.move (show Oper.op _ = Op.move (Operand.tmp 13) from rfl) (by rfl)) (by rfl) (by rfl) ?_
  refine Ls.nil ?_
  refine Cd.cut (ι := Int) (fun d => [(1, .slice (some ad) l.length ec), (2, .int .i64 k), (4, .pointer (some ⟨g1, 0, none⟩)), (7, .pointer (some ⟨g2, 0, none⟩)), (9, .pointer (some ⟨g3, 0, none⟩)), (11, .int .i64 g), (12, .pointer (some ⟨g4, 0, none⟩)), (13, .bool c.isSome), (14, .int .i64 d)]) (fun _ => [blk g4 43 (c.getD noC).enc, (c.getD noC).rt.rd, blk g3 47 x.enc, blk g2 61 B.val, blk g1 24 (mapV m A ac), rdI A m.bl, evR (some ad) l, evC l, evD l, B.re, B.rr, B.fam]) (fun d => (if c.isSome then lastF (l.map EvS.p) 3 x.robot x.id k else -1) = d) ?_ ?_
  · skip
    refine Cd.cond _ (by rfl) (fun h1 => ?_) (fun h1 => ?_)
    · skip
      rw [if_pos h1]
      refine Cd.region ?_
      refine Ls.ev (some 65) (Ev.move (show Oper.op _ = Op.move (Operand.tmp 1) from rfl) (by rfl)) (by rfl) (by rfl) ?_
      refine Ls.ev (some 66) (Ev.move (show Oper.op _ = Op.move (Operand.tmp 2) from rfl) (by rfl)) (by rfl) (by rfl) ?_
      refine Ls.ev (some 67) (Ev.fieldAddr (k := 1) (show Oper.op _ = Op.fieldAddr 47 (Operand.tmp 9) 1 from rfl) (by rfl) (by kernel_rfl) (by rfl)) (by rfl) (by rfl) ?_
      refine Ls.ev (some 68) (Ev.load 2 (show Oper.op _ = Op.load 3 (Operand.tmp 67) from rfl) (by rfl) (by rfl) (by kernel_rfl) (by rfl)) (by rfl) (by rfl) ?_
      refine Ls.ev (some 69) (Ev.fieldAddr (k := 2) (show Oper.op _ = Op.fieldAddr 47 (Operand.tmp 9) 2 from rfl) (by rfl) (by kernel_rfl) (by rfl)) (by rfl) (by rfl) ?_
      refine Ls.ev (some 70) (Ev.load 2 (show Oper.op _ = Op.load 3 (Operand.tmp 69) from rfl) (by rfl) (by rfl) (by kernel_rfl) (by rfl)) (by rfl) (by rfl) ?_
      refine Ls.does (some 71) (Does.read (show Oper.op _ = Op.call { callee := Callee.value (Operand.func 30), args := #[Operand.tmp 65, Operand.tmp 66, Operand.const (Value.int IntKind.i64 3), Operand.tmp 68, Operand.tmp 70], argTypes := #[25, 3, 3, 3, 3] } from rfl) Try.func30 (by kernel_rfl) (by kernel_rfl) (dLast_sl l hl (some ad) ec k hkl 3 x.robot x.id) (by rfl) (by rfl) ⟨ReadsIn.rd 6 (by rfl), trivial⟩) (by rfl) (by rfl) ?_
      rintro _ -
      refine Ls.ev (some 14) (Ev.assign (show Oper.op _ = Op.assign (Operand.tmp 71) from rfl) (by rfl)) (by rfl) (by rfl) ?_
      refine Ls.nil ?_
      refine Ent.inv (lastF (l.map EvS.p) 3 x.robot x.id k) ?_ ?_ ?_
      · (try dsimp only); skip
      · (repeat (first | exact trivial | refine ⟨by rfl, ?_⟩ | refine ⟨by simp only [List.length_append, List.length_cons, List.length_nil]; rfl, ?_⟩ | refine ⟨by push_cast; rfl, ?_⟩))
      · rfl
    · skip
      rw [if_neg (by rw [h1]; decide)]
      refine Cd.skip ?_
      refine Ent.inv ((-1)) ?_ ?_ ?_
      · (try dsimp only); skip
      · (repeat (first | exact trivial | refine ⟨by rfl, ?_⟩ | refine ⟨by simp only [List.length_append, List.length_cons, List.length_nil]; rfl, ?_⟩ | refine ⟨by push_cast; rfl, ?_⟩))
      · rfl
  skip
  rintro d hd
  have hdb : -1 ≤ d ∧ d < k := by
    have h3 := lastF_lt (l.map EvS.p) 3 x.robot x.id k
    have h4 := lastF_ge (l.map EvS.p) 3 x.robot x.id k
    rw [← hd]
    split <;> omega
  obtain ⟨y, hy⟩ := get_of_lt (show (max d 0).toNat < l.length by omega)
  have hR := ruleS_of (m := m) (b := B.p) hg hc hd rfl hy
  rw [if_neg h0] at hR
  refine Cd.seq ?_
  refine Cd.seq ?_
  refine Cd.region ?_
  refine Ls.ev (some 72) (Ev.fieldAddr (k := 0) (show Oper.op _ = Op.fieldAddr 47 (Operand.tmp 9) 0 from rfl) (by rfl) (by kernel_rfl) (by rfl)) (by rfl) (by rfl) ?_
  refine Ls.ev (some 73) (Ev.load 2 (show Oper.op _ = Op.load 38 (Operand.tmp 72) from rfl) (by rfl) (by rfl) (by kernel_rfl) (by rfl)) (by rfl) (by rfl) ?_
  refine Ls.nil ?_
  refine Cd.block ?_
  refine Cd.seq ?_
  refine Cd.region ?_
  refine Ls.ev (some 75) (Ev.eql (show Oper.op _ = Op.binOp BinOp.eql 3 (Operand.tmp 73) (Operand.const (Value.int IntKind.i64 1)) 3 from rfl) (by rfl) (by rfl)) (by rfl) (by rfl) ?_
  refine Ls.ev (some 74) (Ev.assign (show Oper.op _ = Op.assign (Operand.tmp 75) from rfl) (by rfl)) (by rfl) (by rfl) ?_
  refine Ls.nil ?_
  refine Cd.cond _ (by rfl) (fun k1 => ?_) (fun k1 => ?_)
  · skip
    have k1 := of_decide_eq_true k1
    rw [if_pos k1] at hR
    refine Cd.seq ?_
    refine Cd.region ?_
    refine Ls.ev (some 76) (Ev.fieldAddr (k := 2) (show Oper.op _ = Op.fieldAddr 47 (Operand.tmp 9) 2 from rfl) (by rfl) (by kernel_rfl) (by rfl)) (by rfl) (by rfl) ?_
    refine Ls.ev (some 77) (Ev.load 2 (show Oper.op _ = Op.load 3 (Operand.tmp 76) from rfl) (by rfl) (by rfl) (by kernel_rfl) (by rfl)) (by rfl) (by rfl) ?_
    refine Ls.ev (some 78) (Ev.move (show Oper.op _ = Op.move (Operand.tmp 11) from rfl) (by rfl)) (by rfl) (by rfl) ?_
    refine Ls.ev (some 79) (Ev.leq (show Oper.op _ = Op.binOp BinOp.leq 3 (Operand.tmp 77) (Operand.tmp 78) 3 from rfl) (by rfl) (by rfl)) (by rfl) (by rfl) ?_
    refine Ls.nil ?_
    refine Cd.cond _ (by rfl) (fun h1 => ?_) (fun h1 => ?_)
    · skip
      rw [if_pos (of_decide_eq_true h1)] at hR
      rw [hR]
      refine Cd.seq ?_
      refine Cd.region ?_
      refine Ls.ev (some 8) (Ev.assign (show Oper.op _ = Op.assign (Operand.const (Value.int IntKind.i64 2)) from rfl) (by rfl)) (by rfl) (by rfl) ?_
      refine Ls.nil ?_
      refine Cd.ret ?_
      refine Ent.ret (()) (trivial) (Res.tmp (by rfl) (by rfl)) ?_ [] (by rfl) ?_
      · rfl
      · rfl
    · skip
      rw [if_neg (of_decide_eq_false h1)] at hR
      rw [hR]
      refine Cd.skip ?_
      refine Cd.seq ?_
      refine Cd.region ?_
      refine Ls.ev (some 8) (Ev.assign (show Oper.op _ = Op.assign (Operand.const (Value.int IntKind.i64 0)) from rfl) (by rfl)) (by rfl) (by rfl) ?_
      refine Ls.nil ?_
      refine Cd.ret ?_
      refine Ent.ret (()) (trivial) (Res.tmp (by rfl) (by rfl)) ?_ [] (by rfl) ?_
      · rfl
      · rfl
  skip
  have k1 := of_decide_eq_false k1
  rw [if_neg k1] at hR
  refine Cd.seq ?_
  refine Cd.region ?_
  refine Ls.ev (some 81) (Ev.eql (show Oper.op _ = Op.binOp BinOp.eql 3 (Operand.tmp 73) (Operand.const (Value.int IntKind.i64 2)) 3 from rfl) (by rfl) (by rfl)) (by rfl) (by rfl) ?_
  refine Ls.ev (some 80) (Ev.assign (show Oper.op _ = Op.assign (Operand.tmp 81) from rfl) (by rfl)) (by rfl) (by rfl) ?_
  refine Ls.nil ?_
  refine Cd.cond _ (by rfl) (fun k2 => ?_) (fun k2 => ?_)
  · skip
    have k2 := of_decide_eq_true k2
    rw [if_pos k2] at hR
    refine Cd.seq ?_
    refine Cd.seq ?_
    refine Ent.norm ([(1, .slice (some ad) l.length ec), (2, .int .i64 k), (4, .pointer (some ⟨g1, 0, none⟩)), (7, .pointer (some ⟨g2, 0, none⟩)), (9, .pointer (some ⟨g3, 0, none⟩)), (11, .int .i64 g), (12, .pointer (some ⟨g4, 0, none⟩)), (13, .bool c.isSome), (14, .int .i64 d)]) ([blk g4 43 (c.getD noC).enc, (c.getD noC).rt.rd, blk g3 47 x.enc, blk g2 61 B.val, blk g1 24 (mapV m A ac), rdI A m.bl, evR (some ad) l, evC l, evD l, B.re, B.rr, B.fam]) (by repeat (first | exact trivial | refine ⟨by rfl, ?_⟩ | refine ⟨by simp only [List.length_append, List.length_cons, List.length_nil]; rfl, ?_⟩ | refine ⟨by push_cast; rfl, ?_⟩)) (by rfl) ?_
    refine Cd.cut (ι := Unit) (fun _ => [(1, .slice (some ad) l.length ec), (2, .int .i64 k), (4, .pointer (some ⟨g1, 0, none⟩)), (7, .pointer (some ⟨g2, 0, none⟩)), (9, .pointer (some ⟨g3, 0, none⟩)), (11, .int .i64 g), (12, .pointer (some ⟨g4, 0, none⟩)), (13, .bool c.isSome), (14, .int .i64 d), (99, .bool (decide (c.isSome = false ∨ x.id ≠ g ∨ 0 ≤ lastF (l.map EvS.p) 2 x.robot x.id k)))]) (fun _ => [blk g4 43 (c.getD noC).enc, (c.getD noC).rt.rd, blk g3 47 x.enc, blk g2 61 B.val, blk g1 24 (mapV m A ac), rdI A m.bl, evR (some ad) l, evC l, evD l, B.re, B.rr, B.fam]) (fun _ => True) ?_ ?_
    · skip
      refine Cd.region ?_
      refine Ls.ev (some 82) (Ev.move (show Oper.op _ = Op.move (Operand.tmp 13) from rfl) (by rfl)) (by rfl) (by rfl) ?_
      refine Ls.ev (some 83) (Ev.not (show Oper.op _ = Op.unOp UnOp.not 4 (Operand.tmp 82) from rfl) (by rfl)) (by rfl) (by rfl) ?_
      refine Ls.ev (some 84) (Ev.move (show Oper.op _ = Op.move (Operand.tmp 83) from rfl) (by rfl)) (by rfl) (by rfl) ?_
      refine Ent.split 84 (by rfl) (fun hT1 => ?_) (fun hT1 => ?_)
      · first | have hT1 := of_decide_eq_false hT1 | have hT1 := of_not_decide_false hT1 | skip
        refine Ls.ev (some 85) (Ev.fieldAddr (k := 2) (show Oper.op _ = Op.fieldAddr 47 (Operand.tmp 9) 2 from rfl) (by rfl) (by kernel_rfl) (by rfl)) (by rfl) (by rfl) ?_
        refine Ls.ev (some 86) (Ev.load 2 (show Oper.op _ = Op.load 3 (Operand.tmp 85) from rfl) (by rfl) (by rfl) (by kernel_rfl) (by rfl)) (by rfl) (by rfl) ?_
        refine Ls.ev (some 87) (Ev.move (show Oper.op _ = Op.move (Operand.tmp 11) from rfl) (by rfl)) (by rfl) (by rfl) ?_
        refine Ls.ev (some 88) (Ev.neq (show Oper.op _ = Op.binOp BinOp.neq 3 (Operand.tmp 86) (Operand.tmp 87) 3 from rfl) (by rfl) (by rfl)) (by rfl) (by rfl) ?_
        refine Ls.ev (some 89) (Ev.pickF (show Oper.op _ = Op.pick (Operand.tmp 84) (Operand.const (Value.bool true)) (Operand.tmp 88) from rfl) (by rfl) (by rfl)) (by rfl) (by rfl) ?_
        refine Ls.ev (some 90) (Ev.move (show Oper.op _ = Op.move (Operand.tmp 89) from rfl) (by rfl)) (by rfl) (by rfl) ?_
        refine Ent.split 90 (by rfl) (fun hT2 => ?_) (fun hT2 => ?_)
        · first | have hT2 := of_decide_eq_false hT2 | have hT2 := of_not_decide_false hT2 | skip
          refine Ls.ev (some 91) (Ev.move (show Oper.op _ = Op.move (Operand.tmp 1) from rfl) (by rfl)) (by rfl) (by rfl) ?_
          refine Ls.ev (some 92) (Ev.move (show Oper.op _ = Op.move (Operand.tmp 2) from rfl) (by rfl)) (by rfl) (by rfl) ?_
          refine Ls.ev (some 93) (Ev.fieldAddr (k := 1) (show Oper.op _ = Op.fieldAddr 47 (Operand.tmp 9) 1 from rfl) (by rfl) (by kernel_rfl) (by rfl)) (by rfl) (by rfl) ?_
          refine Ls.ev (some 94) (Ev.load 2 (show Oper.op _ = Op.load 3 (Operand.tmp 93) from rfl) (by rfl) (by rfl) (by kernel_rfl) (by rfl)) (by rfl) (by rfl) ?_
          refine Ls.ev (some 95) (Ev.fieldAddr (k := 2) (show Oper.op _ = Op.fieldAddr 47 (Operand.tmp 9) 2 from rfl) (by rfl) (by kernel_rfl) (by rfl)) (by rfl) (by rfl) ?_
          refine Ls.ev (some 96) (Ev.load 2 (show Oper.op _ = Op.load 3 (Operand.tmp 95) from rfl) (by rfl) (by rfl) (by kernel_rfl) (by rfl)) (by rfl) (by rfl) ?_
          refine Ls.does (some 97) (Does.read (show Oper.op _ = Op.call { callee := Callee.value (Operand.func 30), args := #[Operand.tmp 91, Operand.tmp 92, Operand.const (Value.int IntKind.i64 2), Operand.tmp 94, Operand.tmp 96], argTypes := #[25, 3, 3, 3, 3] } from rfl) Try.func30 (by kernel_rfl) (by kernel_rfl) (dLast_sl l hl (some ad) ec k hkl 2 x.robot x.id) (by rfl) (by rfl) ⟨ReadsIn.rd 6 (by rfl), trivial⟩) (by rfl) (by rfl) ?_
          rintro _ -
          refine Ls.ev (some 98) (Ev.geq (show Oper.op _ = Op.binOp BinOp.geq 3 (Operand.tmp 97) (Operand.const (Value.int IntKind.i64 0)) 3 from rfl) (by rfl) (by rfl)) (by rfl) (by rfl) ?_
          refine Ls.ev (some 99) (Ev.pickF (show Oper.op _ = Op.pick (Operand.tmp 90) (Operand.const (Value.bool true)) (Operand.tmp 98) from rfl) (by rfl) (by rfl)) (by rfl) (by rfl) ?_
          refine Ls.nil ?_
          refine Ent.inv () ?_ ?_ ?_
          · exact trivial
          · (repeat (first | exact trivial | refine ⟨by rfl, ?_⟩ | refine ⟨by simp only [List.length_append, List.length_cons, List.length_nil]; rfl, ?_⟩ | refine ⟨by push_cast; rfl, ?_⟩ | refine ⟨by (show some (Value.bool _) = some (Value.bool _); congr 2; (first | rfl | (cases hcs : c.isSome <;> simp_all <;> done) | (refine (decide_eq_true ?_).symm; simp_all; done) | (refine (decide_eq_false ?_).symm; simp_all; done) | (refine decide_eq_decide.2 ?_; simp_all; done))), ?_⟩))
          · rfl
        · first | have hT2 := of_decide_eq_true hT2 | have hT2 := of_not_decide_true hT2 | skip
          refine Ls.pass (some 91) (by rfl) (by rfl) ?_
          refine Ls.pass (some 92) (by rfl) (by rfl) ?_
          refine Ls.pass (some 93) (by rfl) (by rfl) ?_
          refine Ls.pass (some 94) (by rfl) (by rfl) ?_
          refine Ls.pass (some 95) (by rfl) (by rfl) ?_
          refine Ls.pass (some 96) (by rfl) (by rfl) ?_
          refine Ls.pass (some 97) (by rfl) (by rfl) ?_
          refine Ls.pass (some 98) (by rfl) (by rfl) ?_
          refine Ls.ev (some 99) (Ev.pickT (show Oper.op _ = Op.pick (Operand.tmp 90) (Operand.const (Value.bool true)) (Operand.tmp 98) from rfl) (by rfl) (by rfl)) (by rfl) (by rfl) ?_
          refine Ls.nil ?_
          refine Ent.inv () ?_ ?_ ?_
          · exact trivial
          · (repeat (first | exact trivial | refine ⟨by rfl, ?_⟩ | refine ⟨by simp only [List.length_append, List.length_cons, List.length_nil]; rfl, ?_⟩ | refine ⟨by push_cast; rfl, ?_⟩ | refine ⟨by (show some (Value.bool _) = some (Value.bool _); congr 2; (first | rfl | (cases hcs : c.isSome <;> simp_all <;> done) | (refine (decide_eq_true ?_).symm; simp_all; done) | (refine (decide_eq_false ?_).symm; simp_all; done) | (refine decide_eq_decide.2 ?_; simp_all; done))), ?_⟩))
          · rfl
      · first | have hT1 := of_decide_eq_true hT1 | have hT1 := of_not_decide_true hT1 | skip
        refine Ls.pass (some 85) (by rfl) (by rfl) ?_
        refine Ls.pass (some 86) (by rfl) (by rfl) ?_
        refine Ls.pass (some 87) (by rfl) (by rfl) ?_
        refine Ls.pass (some 88) (by rfl) (by rfl) ?_
        refine Ls.ev (some 89) (Ev.pickT (show Oper.op _ = Op.pick (Operand.tmp 84) (Operand.const (Value.bool true)) (Operand.tmp 88) from rfl) (by rfl) (by rfl)) (by rfl) (by rfl) ?_
        refine Ls.ev (some 90) (Ev.move (show Oper.op _ = Op.move (Operand.tmp 89) from rfl) (by rfl)) (by rfl) (by rfl) ?_
        refine Ls.pass (some 91) (by rfl) (by rfl) ?_
        refine Ls.pass (some 92) (by rfl) (by rfl) ?_
        refine Ls.pass (some 93) (by rfl) (by rfl) ?_
        refine Ls.pass (some 94) (by rfl) (by rfl) ?_
        refine Ls.pass (some 95) (by rfl) (by rfl) ?_
        refine Ls.pass (some 96) (by rfl) (by rfl) ?_
        refine Ls.pass (some 97) (by rfl) (by rfl) ?_
        refine Ls.pass (some 98) (by rfl) (by rfl) ?_
        refine Ls.ev (some 99) (Ev.pickT (show Oper.op _ = Op.pick (Operand.tmp 90) (Operand.const (Value.bool true)) (Operand.tmp 98) from rfl) (by rfl) (by rfl)) (by rfl) (by rfl) ?_
        refine Ls.nil ?_
        refine Ent.inv () ?_ ?_ ?_
        · exact trivial
        · (repeat (first | exact trivial | refine ⟨by rfl, ?_⟩ | refine ⟨by simp only [List.length_append, List.length_cons, List.length_nil]; rfl, ?_⟩ | refine ⟨by push_cast; rfl, ?_⟩ | refine ⟨by (show some (Value.bool _) = some (Value.bool _); congr 2; (first | rfl | (cases hcs : c.isSome <;> simp_all <;> done) | (refine (decide_eq_true ?_).symm; simp_all; done) | (refine (decide_eq_false ?_).symm; simp_all; done) | (refine decide_eq_decide.2 ?_; simp_all; done))), ?_⟩))
        · rfl
    skip
    rintro _ -
    refine Cd.cond _ (by rfl) (fun h2 => ?_) (fun h2 => ?_)
    · skip
      rw [if_pos (of_decide_eq_true h2)] at hR
      rw [hR]
      refine Cd.seq ?_
      refine Cd.region ?_
      refine Ls.ev (some 8) (Ev.assign (show Oper.op _ = Op.assign (Operand.const (Value.int IntKind.i64 5)) from rfl) (by rfl)) (by rfl) (by rfl) ?_
      refine Ls.nil ?_
      refine Cd.ret ?_
      refine Ent.ret (()) (trivial) (Res.tmp (by rfl) (by rfl)) ?_ [] (by rfl) ?_
      · rfl
      · rfl
    skip
    rw [if_neg (of_decide_eq_false h2)] at hR
    refine Ent.map (fun w hs => hs.starf_get 8 k rfl) ?_
    show Ent _ _ _ ((l.getD k noE).reply.rt.rd :: _) _
    rw [hgd]
    refine Ent.map (fun w hs => hs.starf_get 9 (max d 0).toNat rfl) ?_
    show Ent _ _ _ ((l.getD (max d 0).toNat noE).reply.rt.rd :: _) _
    rw [show l.getD (max d 0).toNat noE = y by rw [List.getD_eq_getElem?_getD, hy]; rfl]
    refine Ent.pick [4, 8, 0, 1] (by rfl) ?_
    refine Cd.skip ?_
    refine Cd.seq ?_
    refine Cd.region ?_
    refine Ls.ev (some 100) (Ev.fieldAddr (k := 8) (show Oper.op _ = Op.fieldAddr 47 (Operand.tmp 9) 5 from rfl) (by rfl) (by kernel_rfl) (by rfl)) (by rfl) (by rfl) ?_
    refine Ls.ev (some 101) (Ev.fieldAddr (k := 0) (show Oper.op _ = Op.fieldAddr 45 (Operand.tmp 100) 0 from rfl) (by rfl) (by kernel_rfl) (by rfl)) (by rfl) (by rfl) ?_
    refine Ls.ev (some 102) (Ev.load 0 (show Oper.op _ = Op.load 30 (Operand.tmp 101) from rfl) (by rfl) (by rfl) (by kernel_rfl) (by rfl)) (by rfl) (by rfl) ?_
    refine Ls.ev (some 103) (Ev.eql (show Oper.op _ = Op.binOp BinOp.eql 3 (Operand.tmp 102) (Operand.const (Value.int IntKind.i64 0)) 3 from rfl) (by rfl) (by rfl)) (by rfl) (by rfl) ?_
    refine Ls.ev (some 15) (Ev.assign (show Oper.op _ = Op.assign (Operand.tmp 103) from rfl) (by rfl)) (by rfl) (by rfl) ?_
    refine Ls.nil ?_
    refine Cd.seq ?_
    refine Ent.norm ([(1, .slice (some ad) l.length ec), (9, .pointer (some ⟨g3, 0, none⟩)), (14, .int .i64 d), (15, .bool (decide (x.reply.code = 0)))]) ([blk g3 47 x.enc, evR (some ad) l, y.reply.rt.rd, x.reply.rt.rd]) (by repeat (first | exact trivial | refine ⟨by rfl, ?_⟩ | refine ⟨by simp only [List.length_append, List.length_cons, List.length_nil]; rfl, ?_⟩ | refine ⟨by push_cast; rfl, ?_⟩)) (by rfl) ?_
    refine Cd.cut (ι := Unit) (fun _ => [(128, .bool (decide ((x.reply.code = 0 ∧ (d < 0 ∨ y.reply.p ≠ x.reply.p)) ∨ (x.reply.code ≠ 0 ∧ 0 ≤ d))))]) (fun _ => [blk g3 47 x.enc, evR (some ad) l, y.reply.rt.rd, x.reply.rt.rd]) (fun _ => True) ?_ ?_
    · skip
      refine Cd.draw [] (by kernel_rfl) ?_
      refine Rg.ev 0 (by rfl) (fun _ h => h) (Ev.move (show Oper.op _ = Op.move (Operand.tmp 15) from rfl) (by rfl)) (by rfl) (some 104) (by rfl) (by kernel_rfl) (by kernel_rfl) (by kernel_rfl) (by kernel_rfl) ?_
      refine Rg.ev 1 (by rfl) (fun _ h => h) (Ev.move (show Oper.op _ = Op.move (Operand.tmp 104) from rfl) (by rfl)) (by rfl) (some 105) (by rfl) (by kernel_rfl) (by kernel_rfl) (by kernel_rfl) (by kernel_rfl) ?_
      refine Ent.split 105 (by rfl) (fun c1 => ?_) (fun c1 => ?_)
      · skip
        refine Rg.pass 2 (by rfl) (fun _ h => h) (by rfl) (some 106) (by rfl) (by kernel_rfl) (by kernel_rfl) (by kernel_rfl) (by kernel_rfl) ?_
        refine Rg.pass 3 (by rfl) (fun _ h => h) (by rfl) (some 107) (by rfl) (by kernel_rfl) (by kernel_rfl) (by kernel_rfl) (by kernel_rfl) ?_
        refine Rg.pass 4 (by rfl) (fun _ h => h) (by rfl) (some 108) (by rfl) (by kernel_rfl) (by kernel_rfl) (by kernel_rfl) (by kernel_rfl) ?_
        refine Rg.pass 5 (by rfl) (fun _ h => h) (by rfl) (some 109) (by rfl) (by kernel_rfl) (by kernel_rfl) (by kernel_rfl) (by kernel_rfl) ?_
        refine Rg.pass 6 (by rfl) (fun _ h => h) (by rfl) (some 110) (by rfl) (by kernel_rfl) (by kernel_rfl) (by kernel_rfl) (by kernel_rfl) ?_
        refine Rg.pass 7 (by rfl) (fun _ h => h) (by rfl) (some 111) (by rfl) (by kernel_rfl) (by kernel_rfl) (by kernel_rfl) (by kernel_rfl) ?_
        refine Rg.pass 8 (by rfl) (fun _ h => h) (by rfl) (some 112) (by rfl) (by kernel_rfl) (by kernel_rfl) (by kernel_rfl) (by kernel_rfl) ?_
        refine Rg.pass 9 (by rfl) (fun _ h => h) (by rfl) (some 113) (by rfl) (by kernel_rfl) (by kernel_rfl) (by kernel_rfl) (by kernel_rfl) ?_
        refine Rg.pass 10 (by rfl) (fun _ h => h) (by rfl) (some 114) (by rfl) (by kernel_rfl) (by kernel_rfl) (by kernel_rfl) (by kernel_rfl) ?_
        refine Rg.pass 11 (by rfl) (fun _ h => h) (by rfl) (some 115) (by rfl) (by kernel_rfl) (by kernel_rfl) (by kernel_rfl) (by kernel_rfl) ?_
        refine Rg.pass 12 (by rfl) (fun _ h => h) (by rfl) (some 116) (by rfl) (by kernel_rfl) (by kernel_rfl) (by kernel_rfl) (by kernel_rfl) ?_
        refine Rg.pass 13 (by rfl) (fun _ h => h) (by rfl) (some 117) (by rfl) (by kernel_rfl) (by kernel_rfl) (by kernel_rfl) (by kernel_rfl) ?_
        refine Rg.pass 14 (by rfl) (fun _ h => h) (by rfl) (some 118) (by rfl) (by kernel_rfl) (by kernel_rfl) (by kernel_rfl) (by kernel_rfl) ?_
        refine Rg.pass 15 (by rfl) (fun _ h => h) (by rfl) (some 119) (by rfl) (by kernel_rfl) (by kernel_rfl) (by kernel_rfl) (by kernel_rfl) ?_
        refine Rg.ev 16 (by rfl) (fun _ h => h) (Ev.pickF (show Oper.op _ = Op.pick (Operand.tmp 105) (Operand.tmp 119) (Operand.const (Value.bool false)) from rfl) (by rfl) (by rfl)) (by rfl) (some 120) (by rfl) (by kernel_rfl) (by kernel_rfl) (by kernel_rfl) (by kernel_rfl) ?_
        refine Rg.ev 17 (by rfl) (fun _ h => h) (Ev.move (show Oper.op _ = Op.move (Operand.tmp 120) from rfl) (by rfl)) (by rfl) (some 121) (by rfl) (by kernel_rfl) (by kernel_rfl) (by kernel_rfl) (by kernel_rfl) ?_
        refine Rg.ev 18 (by rfl) (fun _ h => h) (Ev.move (show Oper.op _ = Op.move (Operand.tmp 15) from rfl) (by rfl)) (by rfl) (some 122) (by rfl) (by kernel_rfl) (by kernel_rfl) (by kernel_rfl) (by kernel_rfl) ?_
        refine Rg.ev 19 (by rfl) (fun _ h => h) (Ev.not (show Oper.op _ = Op.unOp UnOp.not 4 (Operand.tmp 122) from rfl) (by rfl)) (by rfl) (some 123) (by rfl) (by kernel_rfl) (by kernel_rfl) (by kernel_rfl) (by kernel_rfl) ?_
        refine Rg.ev 20 (by rfl) (fun _ h => h) (Ev.move (show Oper.op _ = Op.move (Operand.tmp 123) from rfl) (by rfl)) (by rfl) (some 124) (by rfl) (by kernel_rfl) (by kernel_rfl) (by kernel_rfl) (by kernel_rfl) ?_
        refine Ent.split 124 (by rfl) (fun c2 => ?_) (fun c2 => ?_)
        · skip
          exact absurd (of_decide_eq_false c1) (by simpa using c2)
        · skip
          refine Rg.ev 21 (by rfl) (fun _ h => h) (Ev.move (show Oper.op _ = Op.move (Operand.tmp 14) from rfl) (by rfl)) (by rfl) (some 125) (by rfl) (by kernel_rfl) (by kernel_rfl) (by kernel_rfl) (by kernel_rfl) ?_
          refine Rg.ev 22 (by rfl) (fun _ h => h) (Ev.geq (show Oper.op _ = Op.binOp BinOp.geq 3 (Operand.tmp 125) (Operand.const (Value.int IntKind.i64 0)) 3 from rfl) (by rfl) (by rfl)) (by rfl) (some 126) (by rfl) (by kernel_rfl) (by kernel_rfl) (by kernel_rfl) (by kernel_rfl) ?_
          refine Rg.ev 23 (by rfl) (fun _ h => h) (Ev.pickT (show Oper.op _ = Op.pick (Operand.tmp 124) (Operand.tmp 126) (Operand.const (Value.bool false)) from rfl) (by rfl) (by rfl)) (by rfl) (some 127) (by rfl) (by kernel_rfl) (by kernel_rfl) (by kernel_rfl) (by kernel_rfl) ?_
          refine Rg.ev 24 (by rfl) (fun _ h => h) (Ev.pickF (show Oper.op _ = Op.pick (Operand.tmp 121) (Operand.const (Value.bool true)) (Operand.tmp 127) from rfl) (by rfl) (by rfl)) (by rfl) (some 128) (by rfl) (by kernel_rfl) (by kernel_rfl) (by kernel_rfl) (by kernel_rfl) ?_
          refine Rg.done (by kernel_rfl) ?_ _
          refine Ent.inv (()) ?_ ?_ ?_
          · (try dsimp only); skip
          · (repeat (first | exact trivial | refine ⟨by rfl, ?_⟩ | refine ⟨by simp only [List.length_append, List.length_cons, List.length_nil]; rfl, ?_⟩ | refine ⟨by push_cast; rfl, ?_⟩ | refine ⟨by exact congrArg (fun b => some (Value.bool b)) (rpl_a (of_decide_eq_false c1)), ?_⟩))
          · rfl
      · skip
        refine Rg.ev 2 (by rfl) (fun _ h => h) (Ev.move (show Oper.op _ = Op.move (Operand.tmp 14) from rfl) (by rfl)) (by rfl) (some 106) (by rfl) (by kernel_rfl) (by kernel_rfl) (by kernel_rfl) (by kernel_rfl) ?_
        refine Rg.ev 3 (by rfl) (fun _ h => h) (Ev.lss (show Oper.op _ = Op.binOp BinOp.lss 3 (Operand.tmp 106) (Operand.const (Value.int IntKind.i64 0)) 3 from rfl) (by rfl) (by rfl)) (by rfl) (some 107) (by rfl) (by kernel_rfl) (by kernel_rfl) (by kernel_rfl) (by kernel_rfl) ?_
        refine Rg.ev 4 (by rfl) (fun _ h => h) (Ev.move (show Oper.op _ = Op.move (Operand.tmp 107) from rfl) (by rfl)) (by rfl) (some 108) (by rfl) (by kernel_rfl) (by kernel_rfl) (by kernel_rfl) (by kernel_rfl) ?_
        refine Ent.split 108 (by rfl) (fun c3 => ?_) (fun c3 => ?_)
        · skip
          have c1 := of_decide_eq_true c1
          have c3 := of_decide_eq_false c3
          obtain ⟨n, rfl⟩ : ∃ n : Nat, d = n := ⟨d.toNat, by omega⟩
          have hnl : n < l.length := by omega
          rw [show (max (n : Int) 0).toNat = n by omega] at hy
          refine Rg.ev 5 (by rfl) (fun _ h => h) (Ev.move (show Oper.op _ = Op.move (Operand.tmp 1) from rfl) (by rfl)) (by rfl) (some 109) (by rfl) (by kernel_rfl) (by kernel_rfl) (by kernel_rfl) (by kernel_rfl) ?_
          refine Rg.ev 6 (by rfl) (fun _ h => h) (Ev.move (show Oper.op _ = Op.move (Operand.tmp 14) from rfl) (by rfl)) (by rfl) (some 110) (by rfl) (by kernel_rfl) (by kernel_rfl) (by kernel_rfl) (by kernel_rfl) ?_
          refine Rg.ev 7 (by rfl) (fun _ h => h) (Ev.to (Ev.max (show Oper.op _ = Op.call { callee := Callee.builtin Builtin.max, args := #[Operand.tmp 110, Operand.const (Value.int IntKind.i64 0)], argTypes := #[3, 3] } from rfl) (by rfl) (by rfl)) (show Value.int .i64 (if (n : Int) < 0 then 0 else (n : Int)) = Value.int .i64 (n : Int) by rw [if_neg (by omega)])) (by rfl) (some 111) (by rfl) (by kernel_rfl) (by kernel_rfl) (by kernel_rfl) (by kernel_rfl) ?_
          skip
          refine Rg.ev 8 (by rfl) (fun _ h => h) (Ev.indexAt (sz := 12) (show Oper.op _ = Op.indexAddr 25 (Operand.tmp 109) (Operand.tmp 111) from rfl) (by rfl) (by rfl) Try.underlying25 (by kernel_rfl) (by omega)) (by rfl) (some 112) (by rfl) (by kernel_rfl) (by kernel_rfl) (by kernel_rfl) (by kernel_rfl) ?_
          refine Rg.ev 9 (by rfl) (fun _ h => h) (Ev.fieldAddrE0 (k := 8) (show Oper.op _ = Op.fieldAddr 47 (Operand.tmp 112) 5 from rfl) (by rfl) (by kernel_rfl)) (by rfl) (some 113) (by rfl) (by kernel_rfl) (by kernel_rfl) (by kernel_rfl) (by kernel_rfl) ?_
          refine Rg.ev 10 (by rfl) (fun _ h => h) (Ev.loadElS (m := 4) (show Oper.op _ = Op.load 45 (Operand.tmp 113) from rfl) (by rfl) (ReadsIn.rd 1 (by rfl)) (by kernel_rfl) (by intro _; rfl) (by assumption) (by rfl) (by rfl)) (by rfl) (some 114) (by rfl) (by kernel_rfl) (by kernel_rfl) (by kernel_rfl) (by kernel_rfl) ?_
          refine Rg.ev 11 (by rfl) (fun _ h => h) (Ev.fieldAddr (k := 8) (show Oper.op _ = Op.fieldAddr 47 (Operand.tmp 9) 5 from rfl) (by rfl) (by kernel_rfl) (by rfl)) (by rfl) (some 115) (by rfl) (by kernel_rfl) (by kernel_rfl) (by kernel_rfl) (by kernel_rfl) ?_
          refine Rg.ev 12 (by rfl) (fun _ h => h) (Ev.loads 0 (show Oper.op _ = Op.load 45 (Operand.tmp 115) from rfl) (by rfl) (by rfl) (n := 4) (by kernel_rfl) (by rfl) (by rfl)) (by rfl) (some 116) (by rfl) (by kernel_rfl) (by kernel_rfl) (by kernel_rfl) (by kernel_rfl) ?_
          refine Rg.does 13 (by rfl) (by kernel_rfl) (Does.read (show Oper.op _ = Op.call { callee := Callee.value (Operand.func 13), args := #[Operand.tmp 114, Operand.tmp 116], argTypes := #[45, 45] } from rfl) Try.func13 (by kernel_rfl) (by kernel_rfl) (dSame_sl y.reply x.reply (by have := (hx y (List.mem_of_getElem? hy)).reply; omega)) (by rfl) (by rfl) ⟨ReadsIn.rd 2 (by rfl), ReadsIn.rd 3 (by rfl), trivial⟩) (by rfl) (some 117) (by rfl) (by exact fun _ _ h => h) ?_
          rintro _ -
          refine Rg.ev 14 (by rfl) (fun _ h => h) (Ev.not (show Oper.op _ = Op.unOp UnOp.not 4 (Operand.tmp 117) from rfl) (by rfl)) (by rfl) (some 118) (by rfl) (by kernel_rfl) (by kernel_rfl) (by kernel_rfl) (by kernel_rfl) ?_
          refine Rg.ev 15 (by rfl) (fun _ h => h) (Ev.pickF (show Oper.op _ = Op.pick (Operand.tmp 108) (Operand.const (Value.bool true)) (Operand.tmp 118) from rfl) (by rfl) (by rfl)) (by rfl) (some 119) (by rfl) (by kernel_rfl) (by kernel_rfl) (by kernel_rfl) (by kernel_rfl) ?_
          refine Rg.ev 16 (by rfl) (fun _ h => h) (Ev.pickT (show Oper.op _ = Op.pick (Operand.tmp 105) (Operand.tmp 119) (Operand.const (Value.bool false)) from rfl) (by rfl) (by rfl)) (by rfl) (some 120) (by rfl) (by kernel_rfl) (by kernel_rfl) (by kernel_rfl) (by kernel_rfl) ?_
          refine Rg.ev 17 (by rfl) (fun _ h => h) (Ev.move (show Oper.op _ = Op.move (Operand.tmp 120) from rfl) (by rfl)) (by rfl) (some 121) (by rfl) (by kernel_rfl) (by kernel_rfl) (by kernel_rfl) (by kernel_rfl) ?_
          refine Ent.split 121 (by rfl) (fun c4 => ?_) (fun c4 => ?_)
          · skip
            refine Rg.ev 18 (by rfl) (fun _ h => h) (Ev.move (show Oper.op _ = Op.move (Operand.tmp 15) from rfl) (by rfl)) (by rfl) (some 122) (by rfl) (by kernel_rfl) (by kernel_rfl) (by kernel_rfl) (by kernel_rfl) ?_
            refine Rg.ev 19 (by rfl) (fun _ h => h) (Ev.not (show Oper.op _ = Op.unOp UnOp.not 4 (Operand.tmp 122) from rfl) (by rfl)) (by rfl) (some 123) (by rfl) (by kernel_rfl) (by kernel_rfl) (by kernel_rfl) (by kernel_rfl) ?_
            refine Rg.ev 20 (by rfl) (fun _ h => h) (Ev.move (show Oper.op _ = Op.move (Operand.tmp 123) from rfl) (by rfl)) (by rfl) (some 124) (by rfl) (by kernel_rfl) (by kernel_rfl) (by kernel_rfl) (by kernel_rfl) ?_
            refine Ent.split 124 (by rfl) (fun c5 => ?_) (fun c5 => ?_)
            · skip
              refine Rg.pass 21 (by rfl) (fun _ h => h) (by rfl) (some 125) (by rfl) (by kernel_rfl) (by kernel_rfl) (by kernel_rfl) (by kernel_rfl) ?_
              refine Rg.pass 22 (by rfl) (fun _ h => h) (by rfl) (some 126) (by rfl) (by kernel_rfl) (by kernel_rfl) (by kernel_rfl) (by kernel_rfl) ?_
              refine Rg.ev 23 (by rfl) (fun _ h => h) (Ev.pickF (show Oper.op _ = Op.pick (Operand.tmp 124) (Operand.tmp 126) (Operand.const (Value.bool false)) from rfl) (by rfl) (by rfl)) (by rfl) (some 127) (by rfl) (by kernel_rfl) (by kernel_rfl) (by kernel_rfl) (by kernel_rfl) ?_
              refine Rg.ev 24 (by rfl) (fun _ h => h) (Ev.pickF (show Oper.op _ = Op.pick (Operand.tmp 121) (Operand.const (Value.bool true)) (Operand.tmp 127) from rfl) (by rfl) (by rfl)) (by rfl) (some 128) (by rfl) (by kernel_rfl) (by kernel_rfl) (by kernel_rfl) (by kernel_rfl) ?_
              refine Rg.done (by kernel_rfl) ?_ _
              refine Ent.inv (()) ?_ ?_ ?_
              · (try dsimp only); skip
              · (repeat (first | exact trivial | refine ⟨by rfl, ?_⟩ | refine ⟨by simp only [List.length_append, List.length_cons, List.length_nil]; rfl, ?_⟩ | refine ⟨by push_cast; rfl, ?_⟩ | refine ⟨by exact congrArg (fun b => some (Value.bool b)) (c4.symm.trans (rpl_b c1 c3)), ?_⟩))
              · rfl
            · skip
              exact absurd c1 (by simpa using c5)
          · skip
            refine Rg.pass 18 (by rfl) (fun _ h => h) (by rfl) (some 122) (by rfl) (by kernel_rfl) (by kernel_rfl) (by kernel_rfl) (by kernel_rfl) ?_
            refine Rg.pass 19 (by rfl) (fun _ h => h) (by rfl) (some 123) (by rfl) (by kernel_rfl) (by kernel_rfl) (by kernel_rfl) (by kernel_rfl) ?_
            refine Rg.pass 20 (by rfl) (fun _ h => h) (by rfl) (some 124) (by rfl) (by kernel_rfl) (by kernel_rfl) (by kernel_rfl) (by kernel_rfl) ?_
            refine Rg.pass 21 (by rfl) (fun _ h => h) (by rfl) (some 125) (by rfl) (by kernel_rfl) (by kernel_rfl) (by kernel_rfl) (by kernel_rfl) ?_
            refine Rg.pass 22 (by rfl) (fun _ h => h) (by rfl) (some 126) (by rfl) (by kernel_rfl) (by kernel_rfl) (by kernel_rfl) (by kernel_rfl) ?_
            refine Rg.pass 23 (by rfl) (fun _ h => h) (by rfl) (some 127) (by rfl) (by kernel_rfl) (by kernel_rfl) (by kernel_rfl) (by kernel_rfl) ?_
            refine Rg.ev 24 (by rfl) (fun _ h => h) (Ev.pickT (show Oper.op _ = Op.pick (Operand.tmp 121) (Operand.const (Value.bool true)) (Operand.tmp 127) from rfl) (by rfl) (by rfl)) (by rfl) (some 128) (by rfl) (by kernel_rfl) (by kernel_rfl) (by kernel_rfl) (by kernel_rfl) ?_
            refine Rg.done (by kernel_rfl) ?_ _
            refine Ent.inv (()) ?_ ?_ ?_
            · (try dsimp only); skip
            · (repeat (first | exact trivial | refine ⟨by rfl, ?_⟩ | refine ⟨by simp only [List.length_append, List.length_cons, List.length_nil]; rfl, ?_⟩ | refine ⟨by push_cast; rfl, ?_⟩ | refine ⟨by exact congrArg (fun b => some (Value.bool b)) (c4.symm.trans (rpl_b c1 c3)), ?_⟩))
            · rfl
        · skip
          refine Rg.pass 5 (by rfl) (fun _ h => h) (by rfl) (some 109) (by rfl) (by kernel_rfl) (by kernel_rfl) (by kernel_rfl) (by kernel_rfl) ?_
          refine Rg.pass 6 (by rfl) (fun _ h => h) (by rfl) (some 110) (by rfl) (by kernel_rfl) (by kernel_rfl) (by kernel_rfl) (by kernel_rfl) ?_
          refine Rg.pass 7 (by rfl) (fun _ h => h) (by rfl) (some 111) (by rfl) (by kernel_rfl) (by kernel_rfl) (by kernel_rfl) (by kernel_rfl) ?_
          refine Rg.pass 8 (by rfl) (fun _ h => h) (by rfl) (some 112) (by rfl) (by kernel_rfl) (by kernel_rfl) (by kernel_rfl) (by kernel_rfl) ?_
          refine Rg.pass 9 (by rfl) (fun _ h => h) (by rfl) (some 113) (by rfl) (by kernel_rfl) (by kernel_rfl) (by kernel_rfl) (by kernel_rfl) ?_
          refine Rg.pass 10 (by rfl) (fun _ h => h) (by rfl) (some 114) (by rfl) (by kernel_rfl) (by kernel_rfl) (by kernel_rfl) (by kernel_rfl) ?_
          refine Rg.pass 11 (by rfl) (fun _ h => h) (by rfl) (some 115) (by rfl) (by kernel_rfl) (by kernel_rfl) (by kernel_rfl) (by kernel_rfl) ?_
          refine Rg.pass 12 (by rfl) (fun _ h => h) (by rfl) (some 116) (by rfl) (by kernel_rfl) (by kernel_rfl) (by kernel_rfl) (by kernel_rfl) ?_
          refine Rg.pass 13 (by rfl) (fun _ h => h) (by rfl) (some 117) (by rfl) (by kernel_rfl) (by kernel_rfl) (by kernel_rfl) (by kernel_rfl) ?_
          refine Rg.pass 14 (by rfl) (fun _ h => h) (by rfl) (some 118) (by rfl) (by kernel_rfl) (by kernel_rfl) (by kernel_rfl) (by kernel_rfl) ?_
          refine Rg.ev 15 (by rfl) (fun _ h => h) (Ev.pickT (show Oper.op _ = Op.pick (Operand.tmp 108) (Operand.const (Value.bool true)) (Operand.tmp 118) from rfl) (by rfl) (by rfl)) (by rfl) (some 119) (by rfl) (by kernel_rfl) (by kernel_rfl) (by kernel_rfl) (by kernel_rfl) ?_
          refine Rg.ev 16 (by rfl) (fun _ h => h) (Ev.pickT (show Oper.op _ = Op.pick (Operand.tmp 105) (Operand.tmp 119) (Operand.const (Value.bool false)) from rfl) (by rfl) (by rfl)) (by rfl) (some 120) (by rfl) (by kernel_rfl) (by kernel_rfl) (by kernel_rfl) (by kernel_rfl) ?_
          refine Rg.ev 17 (by rfl) (fun _ h => h) (Ev.move (show Oper.op _ = Op.move (Operand.tmp 120) from rfl) (by rfl)) (by rfl) (some 121) (by rfl) (by kernel_rfl) (by kernel_rfl) (by kernel_rfl) (by kernel_rfl) ?_
          refine Rg.pass 18 (by rfl) (fun _ h => h) (by rfl) (some 122) (by rfl) (by kernel_rfl) (by kernel_rfl) (by kernel_rfl) (by kernel_rfl) ?_
          refine Rg.pass 19 (by rfl) (fun _ h => h) (by rfl) (some 123) (by rfl) (by kernel_rfl) (by kernel_rfl) (by kernel_rfl) (by kernel_rfl) ?_
          refine Rg.pass 20 (by rfl) (fun _ h => h) (by rfl) (some 124) (by rfl) (by kernel_rfl) (by kernel_rfl) (by kernel_rfl) (by kernel_rfl) ?_
          refine Rg.pass 21 (by rfl) (fun _ h => h) (by rfl) (some 125) (by rfl) (by kernel_rfl) (by kernel_rfl) (by kernel_rfl) (by kernel_rfl) ?_
          refine Rg.pass 22 (by rfl) (fun _ h => h) (by rfl) (some 126) (by rfl) (by kernel_rfl) (by kernel_rfl) (by kernel_rfl) (by kernel_rfl) ?_
          refine Rg.pass 23 (by rfl) (fun _ h => h) (by rfl) (some 127) (by rfl) (by kernel_rfl) (by kernel_rfl) (by kernel_rfl) (by kernel_rfl) ?_
          refine Rg.ev 24 (by rfl) (fun _ h => h) (Ev.pickT (show Oper.op _ = Op.pick (Operand.tmp 121) (Operand.const (Value.bool true)) (Operand.tmp 127) from rfl) (by rfl) (by rfl)) (by rfl) (some 128) (by rfl) (by kernel_rfl) (by kernel_rfl) (by kernel_rfl) (by kernel_rfl) ?_
          refine Rg.done (by kernel_rfl) ?_ _
          skip
          refine Ent.inv (()) ?_ ?_ ?_
          · (try dsimp only); skip
          · (repeat (first | exact trivial | refine ⟨by rfl, ?_⟩ | refine ⟨by simp only [List.length_append, List.length_cons, List.length_nil]; rfl, ?_⟩ | refine ⟨by push_cast; rfl, ?_⟩ | refine ⟨by exact congrArg (fun b => some (Value.bool b)) (rpl_c (of_decide_eq_true c1) (of_decide_eq_true c3)), ?_⟩))
          · rfl
    skip
    rintro _ -
    refine Cd.cond _ (by rfl) (fun h3 => ?_) (fun h3 => ?_)
    · skip
      rw [if_pos (of_decide_eq_true h3)] at hR
      rw [hR]
      refine Cd.seq ?_
      refine Cd.region ?_
      refine Ls.ev (some 8) (Ev.assign (show Oper.op _ = Op.assign (Operand.const (Value.int IntKind.i64 6)) from rfl) (by rfl)) (by rfl) (by rfl) ?_
      refine Ls.nil ?_
      refine Cd.ret ?_
      refine Ent.ret (()) (trivial) (Res.tmp (by rfl) (by rfl)) ?_ [] (by rfl) ?_
      · rfl
      · rfl
    · skip
      rw [if_neg (of_decide_eq_false h3)] at hR
      rw [hR]
      refine Cd.skip ?_
      refine Cd.seq ?_
      refine Cd.region ?_
      refine Ls.ev (some 8) (Ev.assign (show Oper.op _ = Op.assign (Operand.const (Value.int IntKind.i64 0)) from rfl) (by rfl)) (by rfl) (by rfl) ?_
      refine Ls.nil ?_
      refine Cd.ret ?_
      refine Ent.ret (()) (trivial) (Res.tmp (by rfl) (by rfl)) ?_ [] (by rfl) ?_
      · rfl
      · rfl
  skip
  have k2 := of_decide_eq_false k2
  rw [if_neg k2] at hR
  refine Cd.seq ?_
  refine Cd.region ?_
  refine Ls.ev (some 130) (Ev.eql (show Oper.op _ = Op.binOp BinOp.eql 3 (Operand.tmp 73) (Operand.const (Value.int IntKind.i64 3)) 3 from rfl) (by rfl) (by rfl)) (by rfl) (by rfl) ?_
  refine Ls.ev (some 129) (Ev.assign (show Oper.op _ = Op.assign (Operand.tmp 130) from rfl) (by rfl)) (by rfl) (by rfl) ?_
  refine Ls.nil ?_
  refine Cd.cond _ (by rfl) (fun k3 => ?_) (fun k3 => ?_)
  · skip
    have k3 := of_decide_eq_true k3
    rw [if_pos k3] at hR
    refine Cd.seq ?_
    refine Cd.seq ?_
    refine Ent.norm ([(1, .slice (some ad) l.length ec), (2, .int .i64 k), (4, .pointer (some ⟨g1, 0, none⟩)), (7, .pointer (some ⟨g2, 0, none⟩)), (9, .pointer (some ⟨g3, 0, none⟩)), (11, .int .i64 g), (12, .pointer (some ⟨g4, 0, none⟩)), (13, .bool c.isSome), (14, .int .i64 d)]) ([blk g4 43 (c.getD noC).enc, (c.getD noC).rt.rd, blk g3 47 x.enc, blk g2 61 B.val, blk g1 24 (mapV m A ac), rdI A m.bl, evR (some ad) l, evC l, evD l, B.re, B.rr, B.fam]) (by repeat (first | exact trivial | refine ⟨by rfl, ?_⟩ | refine ⟨by simp only [List.length_append, List.length_cons, List.length_nil]; rfl, ?_⟩ | refine ⟨by push_cast; rfl, ?_⟩)) (by rfl) ?_
    refine Cd.cut (ι := Unit) (fun _ => [(1, .slice (some ad) l.length ec), (2, .int .i64 k), (4, .pointer (some ⟨g1, 0, none⟩)), (7, .pointer (some ⟨g2, 0, none⟩)), (9, .pointer (some ⟨g3, 0, none⟩)), (11, .int .i64 g), (12, .pointer (some ⟨g4, 0, none⟩)), (13, .bool c.isSome), (136, .bool (decide (c.isSome = false ∨ 0 ≤ d)))]) (fun _ => [blk g4 43 (c.getD noC).enc, (c.getD noC).rt.rd, blk g3 47 x.enc, blk g2 61 B.val, blk g1 24 (mapV m A ac), rdI A m.bl, evR (some ad) l, evC l, evD l, B.re, B.rr, B.fam]) (fun _ => True) ?_ ?_
    · skip
      refine Cd.region ?_
      refine Ls.ev (some 131) (Ev.move (show Oper.op _ = Op.move (Operand.tmp 13) from rfl) (by rfl)) (by rfl) (by rfl) ?_
      refine Ls.ev (some 132) (Ev.not (show Oper.op _ = Op.unOp UnOp.not 4 (Operand.tmp 131) from rfl) (by rfl)) (by rfl) (by rfl) ?_
      refine Ls.ev (some 133) (Ev.move (show Oper.op _ = Op.move (Operand.tmp 132) from rfl) (by rfl)) (by rfl) (by rfl) ?_
      refine Ent.split 133 (by rfl) (fun hT1 => ?_) (fun hT1 => ?_)
      · first | have hT1 := of_decide_eq_false hT1 | have hT1 := of_not_decide_false hT1 | skip
        refine Ls.ev (some 134) (Ev.move (show Oper.op _ = Op.move (Operand.tmp 14) from rfl) (by rfl)) (by rfl) (by rfl) ?_
        refine Ls.ev (some 135) (Ev.geq (show Oper.op _ = Op.binOp BinOp.geq 3 (Operand.tmp 134) (Operand.const (Value.int IntKind.i64 0)) 3 from rfl) (by rfl) (by rfl)) (by rfl) (by rfl) ?_
        refine Ls.ev (some 136) (Ev.pickF (show Oper.op _ = Op.pick (Operand.tmp 133) (Operand.const (Value.bool true)) (Operand.tmp 135) from rfl) (by rfl) (by rfl)) (by rfl) (by rfl) ?_
        refine Ls.nil ?_
        refine Ent.inv () ?_ ?_ ?_
        · exact trivial
        · (repeat (first | exact trivial | refine ⟨by rfl, ?_⟩ | refine ⟨by simp only [List.length_append, List.length_cons, List.length_nil]; rfl, ?_⟩ | refine ⟨by push_cast; rfl, ?_⟩ | refine ⟨by (show some (Value.bool _) = some (Value.bool _); congr 2; (first | rfl | (cases hcs : c.isSome <;> simp_all <;> done) | (refine (decide_eq_true ?_).symm; simp_all; done) | (refine (decide_eq_false ?_).symm; simp_all; done) | (refine decide_eq_decide.2 ?_; simp_all; done))), ?_⟩))
        · rfl
      · first | have hT1 := of_decide_eq_true hT1 | have hT1 := of_not_decide_true hT1 | skip
        refine Ls.pass (some 134) (by rfl) (by rfl) ?_
        refine Ls.pass (some 135) (by rfl) (by rfl) ?_
        refine Ls.ev (some 136) (Ev.pickT (show Oper.op _ = Op.pick (Operand.tmp 133) (Operand.const (Value.bool true)) (Operand.tmp 135) from rfl) (by rfl) (by rfl)) (by rfl) (by rfl) ?_
        refine Ls.nil ?_
        refine Ent.inv () ?_ ?_ ?_
        · exact trivial
        · (repeat (first | exact trivial | refine ⟨by rfl, ?_⟩ | refine ⟨by simp only [List.length_append, List.length_cons, List.length_nil]; rfl, ?_⟩ | refine ⟨by push_cast; rfl, ?_⟩ | refine ⟨by (show some (Value.bool _) = some (Value.bool _); congr 2; (first | rfl | (cases hcs : c.isSome <;> simp_all <;> done) | (refine (decide_eq_true ?_).symm; simp_all; done) | (refine (decide_eq_false ?_).symm; simp_all; done) | (refine decide_eq_decide.2 ?_; simp_all; done))), ?_⟩))
        · rfl
    skip
    rintro _ -
    refine Cd.cond _ (by rfl) (fun h2 => ?_) (fun h2 => ?_)
    · skip
      rw [if_pos (of_decide_eq_true h2)] at hR
      rw [hR]
      refine Cd.seq ?_
      refine Cd.region ?_
      refine Ls.ev (some 8) (Ev.assign (show Oper.op _ = Op.assign (Operand.const (Value.int IntKind.i64 3)) from rfl) (by rfl)) (by rfl) (by rfl) ?_
      refine Ls.nil ?_
      refine Cd.ret ?_
      refine Ent.ret (()) (trivial) (Res.tmp (by rfl) (by rfl)) ?_ [] (by rfl) ?_
      · rfl
      · rfl
    skip
    rw [if_neg (of_decide_eq_false h2)] at hR
    refine Ent.map (fun w hs => hs.starf_get 8 k rfl) ?_
    show Ent _ _ _ ((l.getD k noE).reply.rt.rd :: _) _
    rw [hgd]
    refine Cd.skip ?_
    refine Cd.seq ?_
    refine Cd.region ?_
    refine Ls.ev (some 138) (Ev.loads 5 (show Oper.op _ = Op.load 24 (Operand.tmp 4) from rfl) (by rfl) (by rfl) (n := 4) (by kernel_rfl) (by rfl) (by rfl)) (by rfl) (by rfl) ?_
    refine Ls.ev (some 139) (Ev.loads 4 (show Oper.op _ = Op.load 61 (Operand.tmp 7) from rfl) (by rfl) (by rfl) (n := 2) (by kernel_rfl) (by rfl) (by rfl)) (by rfl) (by rfl) ?_
    refine Ls.ev (some 140) (Ev.fieldAddr (k := 1) (show Oper.op _ = Op.fieldAddr 47 (Operand.tmp 9) 1 from rfl) (by rfl) (by kernel_rfl) (by rfl)) (by rfl) (by rfl) ?_
    refine Ls.ev (some 141) (Ev.load 3 (show Oper.op _ = Op.load 3 (Operand.tmp 140) from rfl) (by rfl) (by rfl) (by kernel_rfl) (by rfl)) (by rfl) (by rfl) ?_
    refine Ls.ev (some 142) (Ev.loads 1 (show Oper.op _ = Op.load 43 (Operand.tmp 12) from rfl) (by rfl) (by rfl) (n := 4) (by kernel_rfl) (by rfl) (by rfl)) (by rfl) (by rfl) ?_
    refine Ls.ev (some 143) (Ev.fieldAddr (k := 3) (show Oper.op _ = Op.fieldAddr 47 (Operand.tmp 9) 3 from rfl) (by rfl) (by kernel_rfl) (by rfl)) (by rfl) (by rfl) ?_
    refine Ls.ev (some 144) (Ev.load 3 (show Oper.op _ = Op.load 3 (Operand.tmp 143) from rfl) (by rfl) (by rfl) (by kernel_rfl) (by rfl)) (by rfl) (by rfl) ?_
    refine Ls.does (some 145) (Does.call [6, 10, 11, 12, 2, 3, 0] (show Oper.op _ = Op.call { callee := Callee.value (Operand.func 21), args := #[Operand.tmp 138, Operand.tmp 139, Operand.tmp 141, Operand.tmp 142, Operand.tmp 144], argTypes := #[24, 61, 3, 43, 3] } from rfl) Try.func21 (by kernel_rfl) (by kernel_rfl) (hap (c.getD noC) x.tick hcl) (by rfl) (by rfl) (by rfl)) (by rfl) (by rfl) ?_
    rintro ⟨q, rp⟩ hq
    dsimp only at hq
    have hql : rp.rt.l.length ≤ 200 := by
      have h6 := apply_len (m := m) (b := B.p) (r := x.robot) (c := (c.getD noC).p) (t := x.tick)
      rw [apply_eq hm hb, ← hq] at h6
      have h7 : rp.p.route.cells.length = rp.rt.l.length := rfl
      have h8 : (c.getD noC).p.route.cells.length = (c.getD noC).rt.l.length := rfl
      dsimp only at h6
      omega
    rw [← hq] at hR
    dsimp only at hR
    refine Ls.ev (some 137) (Ev.move (show Oper.op _ = Op.move (Operand.tmp 145) from rfl) (by rfl)) (by rfl) (by rfl) ?_
    refine Ls.ev (some 146) (Ev.extract (show Oper.op _ = Op.extract (Operand.tmp 137) 0 from rfl) (by rfl) (by rfl)) (by rfl) (by rfl) ?_
    refine Ls.ev (some 147) (Ev.extract (show Oper.op _ = Op.extract (Operand.tmp 137) 1 from rfl) (by rfl) (by rfl)) (by rfl) (by rfl) ?_
    refine Ls.does (some 16) (Does.alloc (cs := [.slice none 0 0, .slice none 0 0]) (show Oper.op _ = Op.alloc 61 from rfl) (ZeroIs.mk (.agg #[.slice none 0 0, .slice none 0 0]) (by kernel_rfl) (by rfl))) (by rfl) (by rfl) ?_
    intro g5 _
    refine Ls.does (some 17) (Does.alloc (cs := [.int .i64 0, .int .i64 0, .int .i64 0, .slice none 0 0]) (show Oper.op _ = Op.alloc 45 from rfl) (ZeroIs.mk (.agg #[.int .i64 0, .int .i64 0, .int .i64 0, .slice none 0 0]) (by kernel_rfl) (by rfl))) (by rfl) (by rfl) ?_
    intro g6 _
    refine Ls.does none (Does.store 1 (show Oper.op _ = Op.store 61 (Operand.tmp 16) (Operand.tmp 146) from rfl) (by rfl) (by rfl) (by rfl) (by kernel_rfl) (by rfl) (by kernel_rfl) (by rfl)) (by rfl) (by rfl) ?_
    intro _ _
    refine Ls.does none (Does.store 0 (show Oper.op _ = Op.store 45 (Operand.tmp 17) (Operand.tmp 147) from rfl) (by rfl) (by rfl) (by rfl) (by kernel_rfl) (by rfl) (by kernel_rfl) (by rfl)) (by rfl) (by rfl) ?_
    intro _ _
    refine Ls.nil ?_
    refine Cd.seq ?_
    refine Ent.pick [0, 6, 5, 7] (by rfl) ?_
    refine Ent.norm ([(9, .pointer (some ⟨g3, 0, none⟩)), (17, .pointer (some ⟨g6, 0, none⟩))]) ([blk g6 45 rp.enc, blk g3 47 x.enc, rp.rt.rd, x.reply.rt.rd]) (by repeat (first | exact trivial | refine ⟨by rfl, ?_⟩ | refine ⟨by simp only [List.length_append, List.length_cons, List.length_nil]; rfl, ?_⟩ | refine ⟨by push_cast; rfl, ?_⟩)) (by rfl) ?_
    refine Cd.cut (ι := Unit) (fun _ => [(158, .bool (decide (x.reply.code ≠ 0 ∨ rp.p ≠ x.reply.p)))]) (fun _ => [blk g6 45 rp.enc, blk g3 47 x.enc, rp.rt.rd, x.reply.rt.rd]) (fun _ => True) ?_ ?_
    · skip
      refine Cd.region ?_
      refine Ls.ev (some 148) (Ev.fieldAddr (k := 8) (show Oper.op _ = Op.fieldAddr 47 (Operand.tmp 9) 5 from rfl) (by rfl) (by kernel_rfl) (by rfl)) (by rfl) (by rfl) ?_
      refine Ls.ev (some 149) (Ev.fieldAddr (k := 0) (show Oper.op _ = Op.fieldAddr 45 (Operand.tmp 148) 0 from rfl) (by rfl) (by kernel_rfl) (by rfl)) (by rfl) (by rfl) ?_
      refine Ls.ev (some 150) (Ev.load 1 (show Oper.op _ = Op.load 30 (Operand.tmp 149) from rfl) (by rfl) (by rfl) (by kernel_rfl) (by rfl)) (by rfl) (by rfl) ?_
      refine Ls.ev (some 151) (Ev.neq (show Oper.op _ = Op.binOp BinOp.neq 3 (Operand.tmp 150) (Operand.const (Value.int IntKind.i64 0)) 3 from rfl) (by rfl) (by rfl)) (by rfl) (by rfl) ?_
      refine Ls.ev (some 152) (Ev.move (show Oper.op _ = Op.move (Operand.tmp 151) from rfl) (by rfl)) (by rfl) (by rfl) ?_
      refine Ent.split 152 (by rfl) (fun h5 => ?_) (fun h5 => ?_)
      · skip
        have h5 := of_decide_eq_false h5
        refine Ls.ev (some 153) (Ev.loads 0 (show Oper.op _ = Op.load 45 (Operand.tmp 17) from rfl) (by rfl) (by rfl) (n := 4) (by kernel_rfl) (by rfl) (by rfl)) (by rfl) (by rfl) ?_
        refine Ls.ev (some 154) (Ev.fieldAddr (k := 8) (show Oper.op _ = Op.fieldAddr 47 (Operand.tmp 9) 5 from rfl) (by rfl) (by kernel_rfl) (by rfl)) (by rfl) (by rfl) ?_
        refine Ls.ev (some 155) (Ev.loads 1 (show Oper.op _ = Op.load 45 (Operand.tmp 154) from rfl) (by rfl) (by rfl) (n := 4) (by kernel_rfl) (by rfl) (by rfl)) (by rfl) (by rfl) ?_
        refine Ls.does (some 156) (Does.read (show Oper.op _ = Op.call { callee := Callee.value (Operand.func 13), args := #[Operand.tmp 153, Operand.tmp 155], argTypes := #[45, 45] } from rfl) Try.func13 (by kernel_rfl) (by kernel_rfl) (dSame_sl rp x.reply hql) (by rfl) (by rfl) ⟨ReadsIn.rd 2 (by rfl), ReadsIn.rd 3 (by rfl), trivial⟩) (by rfl) (by rfl) ?_
        rintro _ -
        refine Ls.ev (some 157) (Ev.not (show Oper.op _ = Op.unOp UnOp.not 4 (Operand.tmp 156) from rfl) (by rfl)) (by rfl) (by rfl) ?_
        refine Ls.ev (some 158) (Ev.pickF (show Oper.op _ = Op.pick (Operand.tmp 152) (Operand.const (Value.bool true)) (Operand.tmp 157) from rfl) (by rfl) (by rfl)) (by rfl) (by rfl) ?_
        refine Ls.nil ?_
        refine Ent.inv (()) ?_ ?_ ?_
        · (try dsimp only); skip
        · (repeat (first | exact trivial | refine ⟨by rfl, ?_⟩ | refine ⟨by simp only [List.length_append, List.length_cons, List.length_nil]; rfl, ?_⟩ | refine ⟨by push_cast; rfl, ?_⟩ | refine ⟨by (show some (Value.bool _) = some (Value.bool _); rw [← decide_not, show decide (x.reply.code ≠ 0 ∨ rp.p ≠ x.reply.p) = decide (¬ rp.p = x.reply.p) from decide_eq_decide.2 (or_iff_right h5)]), ?_⟩))
        · rfl
      · skip
        refine Ls.pass (some 153) (by rfl) (by rfl) ?_
        refine Ls.pass (some 154) (by rfl) (by rfl) ?_
        refine Ls.pass (some 155) (by rfl) (by rfl) ?_
        refine Ls.pass (some 156) (by rfl) (by rfl) ?_
        refine Ls.pass (some 157) (by rfl) (by rfl) ?_
        refine Ls.ev (some 158) (Ev.pickT (show Oper.op _ = Op.pick (Operand.tmp 152) (Operand.const (Value.bool true)) (Operand.tmp 157) from rfl) (by rfl) (by rfl)) (by rfl) (by rfl) ?_
        refine Ls.nil ?_
        refine Ent.inv (()) ?_ ?_ ?_
        · (try dsimp only); skip
        · (repeat (first | exact trivial | refine ⟨by rfl, ?_⟩ | refine ⟨by simp only [List.length_append, List.length_cons, List.length_nil]; rfl, ?_⟩ | refine ⟨by push_cast; rfl, ?_⟩ | refine ⟨by (show some (Value.bool _) = some (Value.bool _); rw [show decide (x.reply.code ≠ 0 ∨ rp.p ≠ x.reply.p) = true from decide_eq_true (.inl (of_decide_eq_true h5))]), ?_⟩))
        · rfl
    skip
    rintro _ -
    refine Cd.cond _ (by rfl) (fun h3 => ?_) (fun h3 => ?_)
    · skip
      rw [if_pos (of_decide_eq_true h3)] at hR
      rw [hR]
      refine Cd.seq ?_
      refine Cd.region ?_
      refine Ls.ev (some 8) (Ev.assign (show Oper.op _ = Op.assign (Operand.const (Value.int IntKind.i64 4)) from rfl) (by rfl)) (by rfl) (by rfl) ?_
      refine Ls.nil ?_
      refine Cd.ret ?_
      refine Ent.ret (()) (trivial) (Res.tmp (by rfl) (by rfl)) ?_ [] (by rfl) ?_
      · rfl
      · rfl
    · skip
      rw [if_neg (of_decide_eq_false h3)] at hR
      rw [hR]
      refine Cd.skip ?_
      refine Cd.seq ?_
      refine Cd.region ?_
      refine Ls.ev (some 8) (Ev.assign (show Oper.op _ = Op.assign (Operand.const (Value.int IntKind.i64 0)) from rfl) (by rfl)) (by rfl) (by rfl) ?_
      refine Ls.nil ?_
      refine Cd.ret ?_
      refine Ent.ret (()) (trivial) (Res.tmp (by rfl) (by rfl)) ?_ [] (by rfl) ?_
      · rfl
      · rfl
  skip
  have k3 := of_decide_eq_false k3
  rw [if_neg k3] at hR
  have k4 : x.kind = 4 := by omega
  refine Cd.seq ?_
  refine Cd.region ?_
  refine Ls.ev (some 160) (Ev.eql (show Oper.op _ = Op.binOp BinOp.eql 3 (Operand.tmp 73) (Operand.const (Value.int IntKind.i64 4)) 3 from rfl) (by rfl) (by rfl)) (by rfl) (by rfl) ?_
  refine Ls.ev (some 159) (Ev.assign (show Oper.op _ = Op.assign (Operand.tmp 160) from rfl) (by rfl)) (by rfl) (by rfl) ?_
  refine Ls.nil ?_
  refine Cd.cond_true (by rfl) (decide_eq_true k4) ?_
  refine Cd.seq ?_
  refine Ent.norm ([(1, .slice (some ad) l.length ec), (2, .int .i64 k), (9, .pointer (some ⟨g3, 0, none⟩))]) ([blk g4 43 (c.getD noC).enc, (c.getD noC).rt.rd, blk g3 47 x.enc, blk g2 61 B.val, blk g1 24 (mapV m A ac), rdI A m.bl, evR (some ad) l, evC l, evD l, B.re, B.rr, B.fam]) (by repeat (first | exact trivial | refine ⟨by rfl, ?_⟩ | refine ⟨by simp only [List.length_append, List.length_cons, List.length_nil]; rfl, ?_⟩ | refine ⟨by push_cast; rfl, ?_⟩)) (by rfl) ?_
  refine Ent.pick [2, 6] (by rfl) ?_
  refine Cd.region ?_
  refine Ls.ev (some 18) (Ev.assign (show Oper.op _ = Op.assign (Operand.const (Value.int IntKind.i64 0)) from rfl) (by rfl)) (by rfl) (by rfl) ?_
  refine Ls.nil ?_
  refine Cd.block ?_
  refine Cd.loop (ι := Nat) (fun j => [(1, .slice (some ad) l.length ec), (2, .int .i64 k), (9, .pointer (some ⟨g3, 0, none⟩)), (18, .int .i64 j)]) (fun _ => [blk g3 47 x.enc, evR (some ad) l]) (fun j => j ≤ k ∧ (l.take j).any (fun y => decide (y.kind = 4 ∧ x.tick < y.tick)) = false) (fun j => k - j) (0) (⟨Nat.zero_le _, rfl⟩) ?_ rfl ?_
  · (repeat (first | exact trivial | refine ⟨by rfl, ?_⟩))
  rintro j ⟨hj, hja⟩
  refine Cd.seq ?_
  refine Cd.seq ?_
  refine Cd.region ?_
  refine Ls.ev (some 161) (Ev.move (show Oper.op _ = Op.move (Operand.tmp 18) from rfl) (by rfl)) (by rfl) (by rfl) ?_
  refine Ls.ev (some 162) (Ev.move (show Oper.op _ = Op.move (Operand.tmp 2) from rfl) (by rfl)) (by rfl) (by rfl) ?_
  refine Ls.ev (some 163) (Ev.lss (show Oper.op _ = Op.binOp BinOp.lss 3 (Operand.tmp 161) (Operand.tmp 162) 3 from rfl) (by rfl) (by rfl)) (by rfl) (by rfl) ?_
  refine Ls.nil ?_
  refine Cd.cond _ (by rfl) (fun h1 => ?_) (fun h1 => ?_)
  · skip
    have h1 := of_decide_eq_true h1
    obtain ⟨z, hzj⟩ := get_of_lt (show j < l.length by omega)
    have hja' := any_takeS hzj (fun y => decide (y.kind = 4 ∧ x.tick < y.tick))
    rw [hja, Bool.false_or] at hja'
    skip
    refine Cd.skip ?_
    refine Cd.seq ?_
    refine Cd.block ?_
    refine Cd.seq ?_
    refine Cd.cut (ι := Unit) (fun _ => [(1, .slice (some ad) l.length ec), (2, .int .i64 k), (9, .pointer (some ⟨g3, 0, none⟩)), (18, .int .i64 j), (181, .bool (decide (z.kind = 4 ∧ x.tick < z.tick)))]) (fun _ => [blk g3 47 x.enc, evR (some ad) l]) (fun _ => True) ?_ ?_
    · skip
      refine Cd.draw [] (by kernel_rfl) ?_
      refine Rg.ev 0 (by rfl) (fun _ h => h) (Ev.move (show Oper.op _ = Op.move (Operand.tmp 1) from rfl) (by rfl)) (by rfl) (some 166) (by rfl) (by kernel_rfl) (by kernel_rfl) (by kernel_rfl) (by kernel_rfl) ?_
      refine Rg.ev 1 (by rfl) (fun _ h => h) (Ev.move (show Oper.op _ = Op.move (Operand.tmp 18) from rfl) (by rfl)) (by rfl) (some 167) (by rfl) (by kernel_rfl) (by kernel_rfl) (by kernel_rfl) (by kernel_rfl) ?_
      refine Rg.ev 2 (by rfl) (fun _ h => h) (Ev.indexAt (sz := 12) (show Oper.op _ = Op.indexAddr 25 (Operand.tmp 166) (Operand.tmp 167) from rfl) (by rfl) (by rfl) Try.underlying25 (by kernel_rfl) (by omega)) (by rfl) (some 168) (by rfl) (by kernel_rfl) (by kernel_rfl) (by kernel_rfl) (by kernel_rfl) ?_
      refine Rg.ev 3 (by rfl) (fun _ h => h) (Ev.fieldAddrE0 (k := 0) (show Oper.op _ = Op.fieldAddr 47 (Operand.tmp 168) 0 from rfl) (by rfl) (by kernel_rfl)) (by rfl) (some 169) (by rfl) (by kernel_rfl) (by kernel_rfl) (by kernel_rfl) (by kernel_rfl) ?_
      refine Rg.ev 4 (by rfl) (fun _ h => h) (Ev.loadElF (show Oper.op _ = Op.load 38 (Operand.tmp 169) from rfl) (by rfl) (ReadsIn.rd 1 (by rfl)) (by kernel_rfl) (by intro _; rfl) (by assumption) (by rfl)) (by rfl) (some 170) (by rfl) (by kernel_rfl) (by kernel_rfl) (by kernel_rfl) (by kernel_rfl) ?_
      refine Rg.ev 5 (by rfl) (fun _ h => h) (Ev.eql (show Oper.op _ = Op.binOp BinOp.eql 3 (Operand.tmp 170) (Operand.const (Value.int IntKind.i64 4)) 3 from rfl) (by rfl) (by rfl)) (by rfl) (some 171) (by rfl) (by kernel_rfl) (by kernel_rfl) (by kernel_rfl) (by kernel_rfl) ?_
      refine Rg.ev 6 (by rfl) (fun _ h => h) (Ev.move (show Oper.op _ = Op.move (Operand.tmp 171) from rfl) (by rfl)) (by rfl) (some 172) (by rfl) (by kernel_rfl) (by kernel_rfl) (by kernel_rfl) (by kernel_rfl) ?_
      refine Ent.split 172 (by rfl) (fun hT1 => ?_) (fun hT1 => ?_)
      · first | have hT1 := of_decide_eq_false hT1 | have hT1 := of_not_decide_false hT1 | skip
        refine Rg.pass 7 (by rfl) (fun _ h => h) (by rfl) (some 173) (by rfl) (by kernel_rfl) (by kernel_rfl) (by kernel_rfl) (by kernel_rfl) ?_
        refine Rg.pass 8 (by rfl) (fun _ h => h) (by rfl) (some 174) (by rfl) (by kernel_rfl) (by kernel_rfl) (by kernel_rfl) (by kernel_rfl) ?_
        refine Rg.pass 9 (by rfl) (fun _ h => h) (by rfl) (some 175) (by rfl) (by kernel_rfl) (by kernel_rfl) (by kernel_rfl) (by kernel_rfl) ?_
        refine Rg.pass 10 (by rfl) (fun _ h => h) (by rfl) (some 176) (by rfl) (by kernel_rfl) (by kernel_rfl) (by kernel_rfl) (by kernel_rfl) ?_
        refine Rg.pass 11 (by rfl) (fun _ h => h) (by rfl) (some 177) (by rfl) (by kernel_rfl) (by kernel_rfl) (by kernel_rfl) (by kernel_rfl) ?_
        refine Rg.pass 12 (by rfl) (fun _ h => h) (by rfl) (some 178) (by rfl) (by kernel_rfl) (by kernel_rfl) (by kernel_rfl) (by kernel_rfl) ?_
        refine Rg.pass 13 (by rfl) (fun _ h => h) (by rfl) (some 179) (by rfl) (by kernel_rfl) (by kernel_rfl) (by kernel_rfl) (by kernel_rfl) ?_
        refine Rg.pass 14 (by rfl) (fun _ h => h) (by rfl) (some 180) (by rfl) (by kernel_rfl) (by kernel_rfl) (by kernel_rfl) (by kernel_rfl) ?_
        refine Rg.ev 15 (by rfl) (fun _ h => h) (Ev.pickF (show Oper.op _ = Op.pick (Operand.tmp 172) (Operand.tmp 180) (Operand.const (Value.bool false)) from rfl) (by rfl) (by rfl)) (by rfl) (some 181) (by rfl) (by kernel_rfl) (by kernel_rfl) (by kernel_rfl) (by kernel_rfl) ?_
        refine Rg.done (by kernel_rfl) ?_ _
        refine Ent.pick [0, 1] (by rfl) ?_
        refine Ent.inv () ?_ ?_ ?_
        · exact trivial
        · (repeat (first | exact trivial | refine ⟨by rfl, ?_⟩ | refine ⟨by simp only [List.length_append, List.length_cons, List.length_nil]; rfl, ?_⟩ | refine ⟨by push_cast; rfl, ?_⟩ | refine ⟨by (show some (Value.bool _) = some (Value.bool _); congr 2; (first | rfl | (refine (decide_eq_false ?_).symm; simp_all; done) | (refine (decide_eq_true ?_).symm; simp_all; done) | (refine decide_eq_decide.2 ?_; simp_all; done))), ?_⟩))
        · rfl
      · first | have hT1 := of_decide_eq_true hT1 | have hT1 := of_not_decide_true hT1 | skip
        refine Rg.ev 7 (by rfl) (fun _ h => h) (Ev.move (show Oper.op _ = Op.move (Operand.tmp 1) from rfl) (by rfl)) (by rfl) (some 173) (by rfl) (by kernel_rfl) (by kernel_rfl) (by kernel_rfl) (by kernel_rfl) ?_
        refine Rg.ev 8 (by rfl) (fun _ h => h) (Ev.move (show Oper.op _ = Op.move (Operand.tmp 18) from rfl) (by rfl)) (by rfl) (some 174) (by rfl) (by kernel_rfl) (by kernel_rfl) (by kernel_rfl) (by kernel_rfl) ?_
        refine Rg.ev 9 (by rfl) (fun _ h => h) (Ev.indexAt (sz := 12) (show Oper.op _ = Op.indexAddr 25 (Operand.tmp 173) (Operand.tmp 174) from rfl) (by rfl) (by rfl) Try.underlying25 (by kernel_rfl) (by omega)) (by rfl) (some 175) (by rfl) (by kernel_rfl) (by kernel_rfl) (by kernel_rfl) (by kernel_rfl) ?_
        refine Rg.ev 10 (by rfl) (fun _ h => h) (Ev.fieldAddrE0 (k := 3) (show Oper.op _ = Op.fieldAddr 47 (Operand.tmp 175) 3 from rfl) (by rfl) (by kernel_rfl)) (by rfl) (some 176) (by rfl) (by kernel_rfl) (by kernel_rfl) (by kernel_rfl) (by kernel_rfl) ?_
        refine Rg.ev 11 (by rfl) (fun _ h => h) (Ev.loadElF (show Oper.op _ = Op.load 3 (Operand.tmp 176) from rfl) (by rfl) (ReadsIn.rd 1 (by rfl)) (by kernel_rfl) (by intro _; rfl) (by assumption) (by rfl)) (by rfl) (some 177) (by rfl) (by kernel_rfl) (by kernel_rfl) (by kernel_rfl) (by kernel_rfl) ?_
        refine Rg.ev 12 (by rfl) (fun _ h => h) (Ev.fieldAddr (k := 3) (show Oper.op _ = Op.fieldAddr 47 (Operand.tmp 9) 3 from rfl) (by rfl) (by kernel_rfl) (by rfl)) (by rfl) (some 178) (by rfl) (by kernel_rfl) (by kernel_rfl) (by kernel_rfl) (by kernel_rfl) ?_
        refine Rg.ev 13 (by rfl) (fun _ h => h) (Ev.load 0 (show Oper.op _ = Op.load 3 (Operand.tmp 178) from rfl) (by rfl) (by rfl) (by kernel_rfl) (by rfl)) (by rfl) (some 179) (by rfl) (by kernel_rfl) (by kernel_rfl) (by kernel_rfl) (by kernel_rfl) ?_
        refine Rg.ev 14 (by rfl) (fun _ h => h) (Ev.gtr (show Oper.op _ = Op.binOp BinOp.gtr 3 (Operand.tmp 177) (Operand.tmp 179) 3 from rfl) (by rfl) (by rfl)) (by rfl) (some 180) (by rfl) (by kernel_rfl) (by kernel_rfl) (by kernel_rfl) (by kernel_rfl) ?_
        refine Rg.ev 15 (by rfl) (fun _ h => h) (Ev.pickT (show Oper.op _ = Op.pick (Operand.tmp 172) (Operand.tmp 180) (Operand.const (Value.bool false)) from rfl) (by rfl) (by rfl)) (by rfl) (some 181) (by rfl) (by kernel_rfl) (by kernel_rfl) (by kernel_rfl) (by kernel_rfl) ?_
        refine Rg.done (by kernel_rfl) ?_ _
        refine Ent.pick [0, 1] (by rfl) ?_
        refine Ent.inv () ?_ ?_ ?_
        · exact trivial
        · (repeat (first | exact trivial | refine ⟨by rfl, ?_⟩ | refine ⟨by simp only [List.length_append, List.length_cons, List.length_nil]; rfl, ?_⟩ | refine ⟨by push_cast; rfl, ?_⟩ | refine ⟨by (show some (Value.bool _) = some (Value.bool _); congr 2; (first | rfl | (refine (decide_eq_false ?_).symm; simp_all; done) | (refine (decide_eq_true ?_).symm; simp_all; done) | (refine decide_eq_decide.2 ?_; simp_all; done))), ?_⟩))
        · rfl
    skip
    rintro _ -
    refine Cd.cond _ (by rfl) (fun h2 => ?_) (fun h2 => ?_)
    · skip
      rw [if_pos (any_mono (show j + 1 ≤ k by omega) (hja'.trans h2))] at hR
      rw [hR]
      refine Cd.seq ?_
      refine Cd.region ?_
      refine Ls.ev (some 8) (Ev.assign (show Oper.op _ = Op.assign (Operand.const (Value.int IntKind.i64 1)) from rfl) (by rfl)) (by rfl) (by rfl) ?_
      refine Ls.nil ?_
      refine Cd.ret ?_
      refine Ent.ret (()) (trivial) (Res.tmp (by rfl) (by rfl)) ?_ [] (by rfl) ?_
      · rfl
      · rfl
    · skip
      refine Cd.skip ?_
      refine Cd.region ?_
      refine Ls.ev (some 164) (Ev.move (show Oper.op _ = Op.move (Operand.tmp 18) from rfl) (by rfl)) (by rfl) (by rfl) ?_
      refine Ls.ev (some 165) (Ev.addI (show Oper.op _ = Op.binOp BinOp.add 3 (Operand.tmp 164) (Operand.const (Value.int IntKind.i64 1)) 3 from rfl) (by rfl) (by rfl) (by omega)) (by rfl) (by rfl) ?_
      refine Ls.ev (some 18) (Ev.assign (show Oper.op _ = Op.assign (Operand.tmp 165) from rfl) (by rfl)) (by rfl) (by rfl) ?_
      refine Ls.nil ?_
      refine Ent.inv ((j + 1)) ?_ ?_ ?_
      · (try dsimp only); exact ⟨⟨by omega, hja'.trans h2⟩, by omega⟩
      · (repeat (first | exact trivial | refine ⟨by rfl, ?_⟩ | refine ⟨by simp only [List.length_append, List.length_cons, List.length_nil]; rfl, ?_⟩ | refine ⟨by push_cast; rfl, ?_⟩))
      · rfl
  · skip
    have hjk : j = k := by have := of_decide_eq_false h1; omega
    subst hjk
    rw [if_neg (by rw [hja]; decide)] at hR
    rw [hR]
    refine Cd.exit ?_
    refine Cd.seq ?_
    refine Cd.region ?_
    refine Ls.ev (some 8) (Ev.assign (show Oper.op _ = Op.assign (Operand.const (Value.int IntKind.i64 0)) from rfl) (by rfl)) (by rfl) (by rfl) ?_
    refine Ls.nil ?_
    refine Cd.ret ?_
    refine Ent.ret (()) (trivial) (Res.tmp (by rfl) (by rfl)) ?_ [] (by rfl) ?_
    · rfl
    · rfl
end
end Go.Proofs.Ytegjoabfoddadaa
/- the document's judge over pieces: Check -/
namespace Go.Proofs.Ytegjoabfoddadaa
open Go.RowKit
theorem goR_step {m : MapP} {b : BkP} {l : List EvS} {k : Nat} {x : EvS} (h : l[k]? = some x) : goR m (l.map EvS.p) b k ((l.drop k).map EvS.p) = if ruleR m (l.map EvS.p) k b x.p ≠ 0 then ((k : Int), ruleR m (l.map EvS.p) k b x.p) else goR m (l.map EvS.p) (bookR m (l.map EvS.p) k b x.p) (k + 1) ((l.drop (k + 1)).map EvS.p) := by
  obtain ⟨hk, rfl⟩ := List.getElem?_eq_some_iff.1 h
  rw [List.drop_eq_getElem_cons hk]
  rfl
theorem callG {c : Option CallS} {L : List EvP} {r d : Int} {k : Nat} (hc : c.map CallS.p = callF L r d k) : ((callF L r d k).getD ⟨0, 0, noR⟩) = (c.getD noC).p := by rw [← hc]; cases c <;> rfl
theorem newD_p {D : BkD} (h : D.eps = List.replicate 16 0 ∧ D.rts = List.replicate 16 noS) : D.p = newB := by
  unfold BkD.p
  rw [h.1, h.2]
  simp
  rfl
theorem newD_no {D : BkD} (h : D.eps = List.replicate 16 0 ∧ D.rts = List.replicate 16 noS) (k : Nat) : (D.rts.getD k noS).rd = noS.rd := by
  rw [h.2, List.getD_eq_getElem?_getD, List.getElem?_replicate]
  split <;> rfl
theorem newB_ep : EpB newB (0 : Nat) := fun k => by
  show 0 ≤ (List.replicate 16 (0 : Int)).getD k 0 ∧ (List.replicate 16 (0 : Int)).getD k 0 ≤ ((0 : Nat) : Int)
  rw [List.getD_eq_getElem?_getD, List.getElem?_replicate]
  split <;> simp
section
variable (m : MapP) (hm : goodM m = true) (A : Option Addr) (ac : Nat) (hml : m.bl.length ≤ 17592186044415) (l : List EvS) (hl : l.length ≤ 100000) (hx : ∀ x ∈ l, x.Ok) (EA : Option Addr) (ec : Nat)
include hm hml hl hx
set_option maxRecDepth 20000 in
set_option maxHeartbeats 2000000 in
theorem dCheck23_sl : Fn Try.prog 10 #[.agg (mapV m A ac).toArray, .slice EA l.length ec] [rdI A m.bl, evR EA l, evC l, evD l] Unit (fun _ => .tuple #[.int .i64 (refCheckP m (l.map EvS.p)).1, .int .i64 (refCheckP m (l.map EvS.p)).2]) (fun _ => []) (fun _ => True) := by
  refine Fn.enter Try.func10 rfl Try.ntmps10 (by rfl) ?_
  intro w0
  refine Cd.seq ?_
  refine Cd.region ?_
  refine Ls.does (some 2) (Does.box (show Oper.op _ = Op.box 24 (Operand.tmp 0) from rfl) (by rfl)) (by rfl) (by rfl) ?_
  intro g1 _
  refine Ls.ev (some 4) (Ev.assign (show Oper.op _ = Op.assign (Operand.const (Value.int IntKind.i64 0)) from rfl) (by rfl)) (by rfl) (by rfl) ?_
  refine Ls.ev (some 5) (Ev.assign (show Oper.op _ = Op.assign (Operand.const (Value.int IntKind.i64 0)) from rfl) (by rfl)) (by rfl) (by rfl) ?_
  refine Ls.nil ?_
  refine Cd.seq ?_
  refine Cd.region ?_
  refine Ls.does (some 11) (Does.call [0, 1, 2, 3, 4] (show Oper.op _ = Op.call { callee := Callee.value (Operand.func 18), args := #[], argTypes := #[] } from rfl) Try.func18 (by kernel_rfl) (by kernel_rfl) (dNew20_sl) (by rfl) (by rfl) (by rfl)) (by rfl) (by rfl) ?_
  rintro D hD
  refine Ls.does (some 6) (Does.alloc (cs := [.slice none 0 0, .slice none 0 0]) (show Oper.op _ = Op.alloc 61 from rfl) (ZeroIs.mk (.agg #[.slice none 0 0, .slice none 0 0]) (by kernel_rfl) (by rfl))) (by rfl) (by rfl) ?_
  intro g2 _
  refine Ls.does none (Does.store 0 (show Oper.op _ = Op.store 61 (Operand.tmp 6) (Operand.tmp 11) from rfl) (by rfl) (by rfl) (by rfl) (by kernel_rfl) (by rfl) (by kernel_rfl) (by rfl)) (by rfl) (by rfl) ?_
  intro _ _
  refine Ls.nil ?_
  refine Cd.seq ?_
  refine Cd.seq ?_
  refine Cd.region ?_
  refine Ls.ev (some 7) (Ev.assign (show Oper.op _ = Op.assign (Operand.const (Value.int IntKind.i64 0)) from rfl) (by rfl)) (by rfl) (by rfl) ?_
  refine Ls.nil ?_
  refine Cd.block ?_
  refine Ent.map (fun w hs => Sat.starf_no (F := fun k : Nat => (D.rts.getD k noS).rd) (newD_no hD) hs) ?_
  refine Ent.see 2 (by rfl) ?_
  refine Ent.see 3 (by rfl) ?_
  refine Ent.pick [1, 4, 5, 6, 7, 8, 2, 3, 0] (by rfl) ?_
  refine Cd.loop (ι := BkD × Nat) (fun p => [(1, .slice EA l.length ec), (2, .pointer (some ⟨g1, 0, none⟩)), (4, .int .i64 0), (5, .int .i64 0), (6, .pointer (some ⟨g2, 0, none⟩)), (7, .int .i64 p.2)]) (fun p => [blk g2 61 p.1.val, blk g1 24 (mapV m A ac), rdI A m.bl, evR EA l, evC l, evD l, p.1.re, p.1.rr, p.1.fam]) (fun p => p.2 ≤ l.length ∧ BkOk m p.1.p ∧ EpB p.1.p p.2 ∧ refCheckP m (l.map EvS.p) = goR m (l.map EvS.p) p.1.p p.2 ((l.drop p.2).map EvS.p)) (fun p => l.length - p.2) ((D, 0)) (⟨Nat.zero_le _, by rw [newD_p hD]; exact newB_ok m, by rw [newD_p hD]; exact newB_ep, by rw [newD_p hD]; rfl⟩) ?_ rfl ?_
  · (repeat (first | exact trivial | refine ⟨by rfl, ?_⟩))
  rintro ⟨B, k⟩ ⟨hk, hB, hE, hch⟩
  dsimp only at hk hB hE hch
  refine Cd.seq ?_
  refine Cd.seq ?_
  refine Cd.region ?_
  refine Ls.ev (some 12) (Ev.move (show Oper.op _ = Op.move (Operand.tmp 7) from rfl) (by rfl)) (by rfl) (by rfl) ?_
  refine Ls.ev (some 13) (Ev.move (show Oper.op _ = Op.move (Operand.tmp 1) from rfl) (by rfl)) (by rfl) (by rfl) ?_
  refine Ls.ev (some 14) (Ev.len (show Oper.op _ = Op.call { callee := Callee.builtin Builtin.len, args := #[Operand.tmp 13], argTypes := #[25] } from rfl) (by rfl) Try.underlying25) (by rfl) (by rfl) ?_
  refine Ls.ev (some 15) (Ev.lss (show Oper.op _ = Op.binOp BinOp.lss 3 (Operand.tmp 12) (Operand.tmp 14) 3 from rfl) (by rfl) (by rfl)) (by rfl) (by rfl) ?_
  refine Ls.nil ?_
  refine Cd.cond _ (by rfl) (fun h => ?_) (fun h => ?_)
  · skip
    have hlt : k < l.length := by have := of_decide_eq_true h; omega
    obtain ⟨x, hxk⟩ := get_of_lt hlt
    have hxo := hx x (List.mem_of_getElem? hxk)
    have hst := goR_step (m := m) (b := B.p) hxk
    rw [← hch] at hst
    have hE' : EpB B.p 1000000 := hE.more (by omega)
    refine Ent.rdSome 3 (by rfl) (by omega) (fun ad had => ?_)
    subst had
    refine Cd.skip ?_
    refine Cd.seq ?_
    refine Cd.block ?_
    refine Cd.seq ?_
    refine Cd.seq ?_
    refine Cd.region ?_
    refine Ls.ev (some 18) (Ev.loads 1 (show Oper.op _ = Op.load 24 (Operand.tmp 2) from rfl) (by rfl) (by rfl) (n := 4) (by kernel_rfl) (by rfl) (by rfl)) (by rfl) (by rfl) ?_
    refine Ls.ev (some 19) (Ev.move (show Oper.op _ = Op.move (Operand.tmp 1) from rfl) (by rfl)) (by rfl) (by rfl) ?_
    refine Ls.ev (some 20) (Ev.move (show Oper.op _ = Op.move (Operand.tmp 7) from rfl) (by rfl)) (by rfl) (by rfl) ?_
    refine Ls.ev (some 21) (Ev.loads 0 (show Oper.op _ = Op.load 61 (Operand.tmp 6) from rfl) (by rfl) (by rfl) (n := 2) (by kernel_rfl) (by rfl) (by rfl)) (by rfl) (by rfl) ?_
    refine Ls.does (some 22) (Does.read (show Oper.op _ = Op.call { callee := Callee.value (Operand.func 19), args := #[Operand.tmp 18, Operand.tmp 19, Operand.tmp 20, Operand.tmp 21], argTypes := #[24, 25, 3, 61] } from rfl) Try.func19 (by kernel_rfl) (by kernel_rfl) (dRule_sl m hm A ac hml l hl hx (some ad) ec B hB hE' k x hxk) (by rfl) (by rfl) ⟨ReadsIn.rd 2 (by rfl), ReadsIn.rd 3 (by rfl), anyIn 4 (by rfl), anyIn 5 (by rfl), ReadsIn.rd 6 (by rfl), ReadsIn.rd 7 (by rfl), anyIn 8 (by rfl), trivial⟩) (by rfl) (by rfl) ?_
    rintro _ -
    refine Ls.ev (some 8) (Ev.assign (show Oper.op _ = Op.assign (Operand.tmp 22) from rfl) (by rfl)) (by rfl) (by rfl) ?_
    refine Ls.nil ?_
    refine Cd.seq ?_
    refine Cd.region ?_
    refine Ls.ev (some 23) (Ev.move (show Oper.op _ = Op.move (Operand.tmp 8) from rfl) (by rfl)) (by rfl) (by rfl) ?_
    refine Ls.ev (some 24) (Ev.neq (show Oper.op _ = Op.binOp BinOp.neq 3 (Operand.tmp 23) (Operand.const (Value.int IntKind.i64 0)) 3 from rfl) (by rfl) (by rfl)) (by rfl) (by rfl) ?_
    refine Ls.nil ?_
    refine Cd.cond _ (by rfl) (fun h2 => ?_) (fun h2 => ?_)
    · skip
      rw [if_pos (of_decide_eq_true h2)] at hst
      rw [hst]
      refine Cd.seq ?_
      refine Cd.region ?_
      refine Ls.ev (some 25) (Ev.move (show Oper.op _ = Op.move (Operand.tmp 7) from rfl) (by rfl)) (by rfl) (by rfl) ?_
      refine Ls.ev (some 26) (Ev.move (show Oper.op _ = Op.move (Operand.tmp 8) from rfl) (by rfl)) (by rfl) (by rfl) ?_
      refine Ls.ev (some 4) (Ev.assign (show Oper.op _ = Op.assign (Operand.tmp 25) from rfl) (by rfl)) (by rfl) (by rfl) ?_
      refine Ls.ev (some 5) (Ev.assign (show Oper.op _ = Op.assign (Operand.tmp 26) from rfl) (by rfl)) (by rfl) (by rfl) ?_
      refine Ls.nil ?_
      refine Cd.ret ?_
      refine Ent.ret (()) (trivial) (Res.tmp2 (by rfl) (by rfl) (by rfl)) ?_ [] (by rfl) ?_
      · rfl
      · rfl
    skip
    rw [if_neg (of_decide_eq_false h2)] at hst
    skip
    refine Cd.skip ?_
    refine Cd.seq ?_
    refine Cd.region ?_
    refine Ls.ev (some 27) (Ev.move (show Oper.op _ = Op.move (Operand.tmp 1) from rfl) (by rfl)) (by rfl) (by rfl) ?_
    refine Ls.ev (some 28) (Ev.move (show Oper.op _ = Op.move (Operand.tmp 7) from rfl) (by rfl)) (by rfl) (by rfl) ?_
    refine Ls.ev (some 29) (Ev.indexAt (sz := 12) (show Oper.op _ = Op.indexAddr 25 (Operand.tmp 27) (Operand.tmp 28) from rfl) (by rfl) (by rfl) Try.underlying25 (by kernel_rfl) (by omega)) (by rfl) (by rfl) ?_
    refine Ls.ev (some 30) (Ev.fieldAddrE0 (k := 0) (show Oper.op _ = Op.fieldAddr 47 (Operand.tmp 29) 0 from rfl) (by rfl) (by kernel_rfl)) (by rfl) (by rfl) ?_
    refine Ls.ev (some 31) (Ev.loadElF (show Oper.op _ = Op.load 38 (Operand.tmp 30) from rfl) (by rfl) (ReadsIn.rd 3 (by rfl)) (by kernel_rfl) (by intro _; rfl) (by assumption) (by rfl)) (by rfl) (by rfl) ?_
    refine Ls.ev (some 32) (Ev.eql (show Oper.op _ = Op.binOp BinOp.eql 3 (Operand.tmp 31) (Operand.const (Value.int IntKind.i64 3)) 3 from rfl) (by rfl) (by rfl)) (by rfl) (by rfl) ?_
    refine Ls.nil ?_
    refine Cd.cond _ (by rfl) (fun h3 => ?_) (fun h3 => ?_)
    · skip
      have h3 := of_decide_eq_true h3
      rw [show bookR m (l.map EvS.p) k B.p x.p = (applyR m B.p x.robot ((callF (l.map EvS.p) x.robot x.id k).getD ⟨0, 0, noR⟩) x.tick).1 from if_pos h3] at hst
      refine Cd.seq ?_
      refine Ent.pick [3, 4, 0, 1, 2, 5, 6, 7, 8] (by rfl) ?_
      refine Ent.norm ([(1, .slice (some ad) l.length ec), (2, .pointer (some ⟨g1, 0, none⟩)), (4, .int .i64 0), (5, .int .i64 0), (6, .pointer (some ⟨g2, 0, none⟩)), (7, .int .i64 k)]) ([evR (some ad) l, evC l, blk g2 61 B.val, blk g1 24 (mapV m A ac), rdI A m.bl, evD l, B.re, B.rr, B.fam]) (by repeat (first | exact trivial | refine ⟨by rfl, ?_⟩ | refine ⟨by simp only [List.length_append, List.length_cons, List.length_nil]; rfl, ?_⟩ | refine ⟨by push_cast; rfl, ?_⟩)) (by rfl) ?_
      skip
      refine Cd.drawS [0] [17] (by kernel_rfl) ?_
      refine Rg.ev 0 (by rfl) (fun _ h => h.pick [0] rfl) (Ev.move (show Oper.op _ = Op.move (Operand.tmp 1) from rfl) (by rfl)) (by rfl) (some 34) (by rfl) (by kernel_rfl) (by kernel_rfl) (by kernel_rfl) (by kernel_rfl) ?_
      refine Rg.ev 1 (by rfl) (fun _ h => h.pick [0] rfl) (Ev.move (show Oper.op _ = Op.move (Operand.tmp 7) from rfl) (by rfl)) (by rfl) (some 35) (by rfl) (by kernel_rfl) (by kernel_rfl) (by kernel_rfl) (by kernel_rfl) ?_
      refine Rg.ev 2 (by rfl) (fun _ h => h.pick [0] rfl) (Ev.move (show Oper.op _ = Op.move (Operand.tmp 1) from rfl) (by rfl)) (by rfl) (some 36) (by rfl) (by kernel_rfl) (by kernel_rfl) (by kernel_rfl) (by kernel_rfl) ?_
      refine Rg.ev 3 (by rfl) (fun _ h => h.pick [0] rfl) (Ev.move (show Oper.op _ = Op.move (Operand.tmp 7) from rfl) (by rfl)) (by rfl) (some 37) (by rfl) (by kernel_rfl) (by kernel_rfl) (by kernel_rfl) (by kernel_rfl) ?_
      refine Rg.ev 4 (by rfl) (fun _ h => h.pick [0] rfl) (Ev.indexAt (sz := 12) (show Oper.op _ = Op.indexAddr 25 (Operand.tmp 36) (Operand.tmp 37) from rfl) (by rfl) (by rfl) Try.underlying25 (by kernel_rfl) (by omega)) (by rfl) (some 38) (by rfl) (by kernel_rfl) (by kernel_rfl) (by kernel_rfl) (by kernel_rfl) ?_
      refine Rg.ev 5 (by rfl) (fun _ h => h.pick [0] rfl) (Ev.fieldAddrE0 (k := 1) (show Oper.op _ = Op.fieldAddr 47 (Operand.tmp 38) 1 from rfl) (by rfl) (by kernel_rfl)) (by rfl) (some 39) (by rfl) (by kernel_rfl) (by kernel_rfl) (by kernel_rfl) (by kernel_rfl) ?_
      refine Rg.ev 6 (by rfl) (fun _ h => h.pick [0] rfl) (Ev.loadElF (show Oper.op _ = Op.load 3 (Operand.tmp 39) from rfl) (by rfl) (ReadsIn.rd 0 (by rfl)) (by kernel_rfl) (by intro _; rfl) (by assumption) (by rfl)) (by rfl) (some 40) (by rfl) (by kernel_rfl) (by kernel_rfl) (by kernel_rfl) (by kernel_rfl) ?_
      refine Rg.ev 7 (by rfl) (fun _ h => h.pick [0] rfl) (Ev.move (show Oper.op _ = Op.move (Operand.tmp 1) from rfl) (by rfl)) (by rfl) (some 41) (by rfl) (by kernel_rfl) (by kernel_rfl) (by kernel_rfl) (by kernel_rfl) ?_
      refine Rg.ev 8 (by rfl) (fun _ h => h.pick [0] rfl) (Ev.move (show Oper.op _ = Op.move (Operand.tmp 7) from rfl) (by rfl)) (by rfl) (some 42) (by rfl) (by kernel_rfl) (by kernel_rfl) (by kernel_rfl) (by kernel_rfl) ?_
      refine Rg.ev 9 (by rfl) (fun _ h => h.pick [0] rfl) (Ev.indexAt (sz := 12) (show Oper.op _ = Op.indexAddr 25 (Operand.tmp 41) (Operand.tmp 42) from rfl) (by rfl) (by rfl) Try.underlying25 (by kernel_rfl) (by omega)) (by rfl) (some 43) (by rfl) (by kernel_rfl) (by kernel_rfl) (by kernel_rfl) (by kernel_rfl) ?_
      refine Rg.ev 10 (by rfl) (fun _ h => h.pick [0] rfl) (Ev.fieldAddrE0 (k := 2) (show Oper.op _ = Op.fieldAddr 47 (Operand.tmp 43) 2 from rfl) (by rfl) (by kernel_rfl)) (by rfl) (some 44) (by rfl) (by kernel_rfl) (by kernel_rfl) (by kernel_rfl) (by kernel_rfl) ?_
      refine Rg.ev 11 (by rfl) (fun _ h => h.pick [0] rfl) (Ev.loadElF (show Oper.op _ = Op.load 3 (Operand.tmp 44) from rfl) (by rfl) (ReadsIn.rd 0 (by rfl)) (by kernel_rfl) (by intro _; rfl) (by assumption) (by rfl)) (by rfl) (some 45) (by rfl) (by kernel_rfl) (by kernel_rfl) (by kernel_rfl) (by kernel_rfl) ?_
      skip
      refine Rg.float1 16 (ι := Nat) (some 9) (fun g => .pointer (some ⟨g, 0, none⟩)) (fun g => blk g 43 noC.enc) ?_
      skip
      skip
      refine RgF.does 12 (by rfl) (by rfl) (.inr (by kernel_rfl)) (by kernel_rfl) (Does.alloc (cs := noC.enc) (show Oper.op _ = Op.alloc 43 from rfl) (ZeroIs.mk (.agg noC.enc.toArray) (by kernel_rfl) (by rfl))) (by rfl) (some 9) (by rfl) (fun _ => by repeat (first | exact trivial | refine ⟨by rfl, ?_⟩ | refine ⟨by simp only [List.length_append, List.length_cons, List.length_nil]; rfl, ?_⟩ | refine ⟨by push_cast; rfl, ?_⟩)) (by exact fun _ _ h => h.last) (by exact fun _ _ h => h.pick [0] (by rfl)) (Does.call [0, 1, 0, 1, 2, 3, 4, 5, 6, 7, 8] (show Oper.op _ = Op.call { callee := Callee.value (Operand.func 20), args := #[Operand.tmp 34, Operand.tmp 35, Operand.tmp 40, Operand.tmp 45], argTypes := #[25, 3, 3, 3] } from rfl) Try.func20 (by kernel_rfl) (by kernel_rfl) (dCall_sl l hl hx (some ad) ec k hk x.robot x.id) (by rfl) (by rfl) (by rfl)) (by rfl) (some 46) (by rfl) (by exact fun _ _ h => h.pick [1] (by rfl)) (fun _ => Does.call [0, 1, 0, 1, 2, 3, 4, 5, 6, 7, 8, 9] (show Oper.op _ = Op.call { callee := Callee.value (Operand.func 20), args := #[Operand.tmp 34, Operand.tmp 35, Operand.tmp 40, Operand.tmp 45], argTypes := #[25, 3, 3, 3] } from rfl) Try.func20 (by kernel_rfl) (by kernel_rfl) (dCall_sl l hl hx (some ad) ec k hk x.robot x.id) (by rfl) (by rfl) (by rfl)) (fun _ => by rfl) (by exact fun _ _ _ h => h.pick [1] (by rfl)) ?_
      rintro c ⟨hc, hcl⟩
      refine RgF.ev 13 (by rfl) (by exact fun _ h => h.pick [1] (by rfl)) (by exact fun _ _ h => h.pick [1] (by rfl)) (Ev.move (show Oper.op _ = Op.move (Operand.tmp 46) from rfl) (by rfl)) (fun _ => Ev.move (show Oper.op _ = Op.move (Operand.tmp 46) from rfl) (by rfl)) (by rfl) (fun _ => by rfl) (some 33) (by rfl) (by kernel_rfl) (by kernel_rfl) (by kernel_rfl) (by kernel_rfl) ?_
      refine RgF.ev 14 (by rfl) (by exact fun _ h => h.pick [1] (by rfl)) (by exact fun _ _ h => h.pick [1] (by rfl)) (Ev.extract (show Oper.op _ = Op.extract (Operand.tmp 33) 0 from rfl) (by rfl) (by rfl)) (fun _ => Ev.extract (show Oper.op _ = Op.extract (Operand.tmp 33) 0 from rfl) (by rfl) (by rfl)) (by rfl) (fun _ => by rfl) (some 47) (by rfl) (by kernel_rfl) (by kernel_rfl) (by kernel_rfl) (by kernel_rfl) ?_
      refine RgF.pv 15 (by rfl) (by exact fun _ h => h.pick [1] (by rfl)) (by exact fun _ _ h => h.pick [1] (by rfl)) (fun _ => Ev.extract (show Oper.op _ = Op.extract (Operand.tmp 33) 1 from rfl) (by rfl) (by rfl)) (fun _ _ => Ev.extract (show Oper.op _ = Op.extract (Operand.tmp 33) 1 from rfl) (by rfl) (by rfl)) (by rfl) (fun _ => by rfl) (some 48) (by rfl) (by kernel_rfl) (by kernel_rfl) (by kernel_rfl) (by kernel_rfl) ?_
      refine RgF.land (by rfl) (by kernel_rfl) (Does.alloc (cs := noC.enc) (show Oper.op _ = Op.alloc 43 from rfl) (ZeroIs.mk (.agg noC.enc.toArray) (by kernel_rfl) (by rfl))) (by rfl) (some 9) (by rfl) (fun _ => by repeat (first | exact trivial | refine ⟨by rfl, ?_⟩ | refine ⟨by simp only [List.length_append, List.length_cons, List.length_nil]; rfl, ?_⟩ | refine ⟨by push_cast; rfl, ?_⟩)) (by exact fun _ _ h => h.last) (by exact fun _ _ h => h.pick [1] (by rfl)) ?_
      intro g3
      skip
      refine Rg.one 17 (by kernel_rfl) ?_; refine RgO.tail 17 (by rfl) (Does.store 10 (show Oper.op _ = Op.store 43 (Operand.tmp 9) (Operand.tmp 47) from rfl) (by rfl) (by rfl) (by rfl) (by kernel_rfl) (by rfl) (by kernel_rfl) (by rfl)) (by rfl) none (by rfl) (by kernel_rfl) (by kernel_rfl) ?_
      intro _ _
      skip
      refine Rg.ev 18 (by rfl) (fun _ h => h.pick [] (by rfl)) (Ev.assign (show Oper.op _ = Op.assign (Operand.tmp 48) from rfl) (by rfl)) (by rfl) (some 10) (by rfl) (by kernel_rfl) (by kernel_rfl) (by kernel_rfl) (by kernel_rfl) ?_
      refine Rg.done (by kernel_rfl) ?_ _
      refine Ent.pick [1, 4, 3, 10, 5, 7, 8, 9, 0, 2, 6] (by rfl) ?_
      refine Ent.norm ([(1, .slice (some ad) l.length ec), (2, .pointer (some ⟨g1, 0, none⟩)), (4, .int .i64 0), (5, .int .i64 0), (6, .pointer (some ⟨g2, 0, none⟩)), (7, .int .i64 k), (9, .pointer (some ⟨g3, 0, none⟩))]) ([evR (some ad) l, blk g1 24 (mapV m A ac), blk g2 61 B.val, blk g3 43 (c.getD noC).enc, rdI A m.bl, B.re, B.rr, B.fam, (c.getD noC).rt.rd, evC l, evD l]) (by repeat (first | exact trivial | refine ⟨by rfl, ?_⟩ | refine ⟨by simp only [List.length_append, List.length_cons, List.length_nil]; rfl, ?_⟩ | refine ⟨by push_cast; rfl, ?_⟩)) (by rfl) ?_
      refine Cd.draw [17] (by kernel_rfl) ?_
      refine Rg.ev 0 (by rfl) (fun _ h => h) (Ev.loads 1 (show Oper.op _ = Op.load 24 (Operand.tmp 2) from rfl) (by rfl) (by rfl) (n := 4) (by kernel_rfl) (by rfl) (by rfl)) (by rfl) (some 50) (by rfl) (by kernel_rfl) (by kernel_rfl) (by kernel_rfl) (by kernel_rfl) ?_
      refine Rg.ev 1 (by rfl) (fun _ h => h) (Ev.loads 2 (show Oper.op _ = Op.load 61 (Operand.tmp 6) from rfl) (by rfl) (by rfl) (n := 2) (by kernel_rfl) (by rfl) (by rfl)) (by rfl) (some 51) (by rfl) (by kernel_rfl) (by kernel_rfl) (by kernel_rfl) (by kernel_rfl) ?_
      refine Rg.ev 2 (by rfl) (fun _ h => h) (Ev.move (show Oper.op _ = Op.move (Operand.tmp 1) from rfl) (by rfl)) (by rfl) (some 52) (by rfl) (by kernel_rfl) (by kernel_rfl) (by kernel_rfl) (by kernel_rfl) ?_
      refine Rg.ev 3 (by rfl) (fun _ h => h) (Ev.move (show Oper.op _ = Op.move (Operand.tmp 7) from rfl) (by rfl)) (by rfl) (some 53) (by rfl) (by kernel_rfl) (by kernel_rfl) (by kernel_rfl) (by kernel_rfl) ?_
      refine Rg.ev 4 (by rfl) (fun _ h => h) (Ev.indexAt (sz := 12) (show Oper.op _ = Op.indexAddr 25 (Operand.tmp 52) (Operand.tmp 53) from rfl) (by rfl) (by rfl) Try.underlying25 (by kernel_rfl) (by omega)) (by rfl) (some 54) (by rfl) (by kernel_rfl) (by kernel_rfl) (by kernel_rfl) (by kernel_rfl) ?_
      refine Rg.ev 5 (by rfl) (fun _ h => h) (Ev.fieldAddrE0 (k := 1) (show Oper.op _ = Op.fieldAddr 47 (Operand.tmp 54) 1 from rfl) (by rfl) (by kernel_rfl)) (by rfl) (some 55) (by rfl) (by kernel_rfl) (by kernel_rfl) (by kernel_rfl) (by kernel_rfl) ?_
      refine Rg.ev 6 (by rfl) (fun _ h => h) (Ev.loadElF (show Oper.op _ = Op.load 3 (Operand.tmp 55) from rfl) (by rfl) (ReadsIn.rd 0 (by rfl)) (by kernel_rfl) (by intro _; rfl) (by assumption) (by rfl)) (by rfl) (some 56) (by rfl) (by kernel_rfl) (by kernel_rfl) (by kernel_rfl) (by kernel_rfl) ?_
      refine Rg.ev 7 (by rfl) (fun _ h => h) (Ev.loads 3 (show Oper.op _ = Op.load 43 (Operand.tmp 9) from rfl) (by rfl) (by rfl) (n := 4) (by kernel_rfl) (by rfl) (by rfl)) (by rfl) (some 57) (by rfl) (by kernel_rfl) (by kernel_rfl) (by kernel_rfl) (by kernel_rfl) ?_
      refine Rg.ev 8 (by rfl) (fun _ h => h) (Ev.move (show Oper.op _ = Op.move (Operand.tmp 1) from rfl) (by rfl)) (by rfl) (some 58) (by rfl) (by kernel_rfl) (by kernel_rfl) (by kernel_rfl) (by kernel_rfl) ?_
      refine Rg.ev 9 (by rfl) (fun _ h => h) (Ev.move (show Oper.op _ = Op.move (Operand.tmp 7) from rfl) (by rfl)) (by rfl) (some 59) (by rfl) (by kernel_rfl) (by kernel_rfl) (by kernel_rfl) (by kernel_rfl) ?_
      refine Rg.ev 10 (by rfl) (fun _ h => h) (Ev.indexAt (sz := 12) (show Oper.op _ = Op.indexAddr 25 (Operand.tmp 58) (Operand.tmp 59) from rfl) (by rfl) (by rfl) Try.underlying25 (by kernel_rfl) (by omega)) (by rfl) (some 60) (by rfl) (by kernel_rfl) (by kernel_rfl) (by kernel_rfl) (by kernel_rfl) ?_
      refine Rg.ev 11 (by rfl) (fun _ h => h) (Ev.fieldAddrE0 (k := 3) (show Oper.op _ = Op.fieldAddr 47 (Operand.tmp 60) 3 from rfl) (by rfl) (by kernel_rfl)) (by rfl) (some 61) (by rfl) (by kernel_rfl) (by kernel_rfl) (by kernel_rfl) (by kernel_rfl) ?_
      refine Rg.ev 12 (by rfl) (fun _ h => h) (Ev.loadElF (show Oper.op _ = Op.load 3 (Operand.tmp 61) from rfl) (by rfl) (ReadsIn.rd 0 (by rfl)) (by kernel_rfl) (by intro _; rfl) (by assumption) (by rfl)) (by rfl) (some 62) (by rfl) (by kernel_rfl) (by kernel_rfl) (by kernel_rfl) (by kernel_rfl) ?_
      refine Rg.does 13 (by rfl) (by kernel_rfl) (Does.call [4, 5, 6, 7, 8, 0, 1, 2, 3, 4, 5, 6, 7, 8, 9, 10] (show Oper.op _ = Op.call { callee := Callee.value (Operand.func 21), args := #[Operand.tmp 50, Operand.tmp 51, Operand.tmp 56, Operand.tmp 57, Operand.tmp 62], argTypes := #[24, 61, 3, 43, 3] } from rfl) Try.func21 (by kernel_rfl) (by kernel_rfl) (dApply_sl m hm A ac hml B hB hE' x.robot (c.getD noC) x.tick hcl) (by rfl) (by rfl) (by rfl)) (by rfl) (some 63) (by rfl) (by exact fun _ _ h => h.pick [4, 5, 6, 7, 8, 9, 10, 11, 12, 13, 14] (by rfl)) ?_
      rintro ⟨q, rp⟩ hq
      dsimp only at hq
      rw [callG hc, ← hq] at hst
      dsimp only at hst
      have hqB : BkOk m q.p := by
        have := apply_ok (m := m) hB x.robot (c.getD noC).p x.tick
        rw [apply_eq hm hB, ← hq] at this
        exact this
      have hqE : EpB q.p (k + 1 : Nat) := by
        have := applyR_ep (m := m) hE x.robot (c.getD noC).p x.tick
        rw [← hq] at this
        exact this
      refine Rg.ev 14 (by rfl) (fun _ h => h) (Ev.move (show Oper.op _ = Op.move (Operand.tmp 63) from rfl) (by rfl)) (by rfl) (some 49) (by rfl) (by kernel_rfl) (by kernel_rfl) (by kernel_rfl) (by kernel_rfl) ?_
      refine Rg.ev 15 (by rfl) (fun _ h => h) (Ev.extract (show Oper.op _ = Op.extract (Operand.tmp 49) 0 from rfl) (by rfl) (by rfl)) (by rfl) (some 64) (by rfl) (by kernel_rfl) (by kernel_rfl) (by kernel_rfl) (by kernel_rfl) ?_
      refine Rg.pv 16 (by rfl) (fun _ h => h) (fun _ => Ev.extract (show Oper.op _ = Op.extract (Operand.tmp 49) 1 from rfl) (by rfl) (by rfl)) (by rfl) (some 65) (by rfl) (by kernel_rfl) (by kernel_rfl) (by kernel_rfl) (by kernel_rfl) ?_
      refine Rg.tail 17 [] (by rfl) (by kernel_rfl) (Does.store 6 (show Oper.op _ = Op.store 61 (Operand.tmp 6) (Operand.tmp 64) from rfl) (by rfl) (by rfl) (by rfl) (by kernel_rfl) (by rfl) (by kernel_rfl) (by rfl)) (by rfl) none (by rfl) (by kernel_rfl) (by kernel_rfl) ?_
      intro _ _
      refine Rg.done (by kernel_rfl) ?_ _
      refine Cd.region ?_
      refine Ls.ev (some 16) (Ev.move (show Oper.op _ = Op.move (Operand.tmp 7) from rfl) (by rfl)) (by rfl) (by rfl) ?_
      refine Ls.ev (some 17) (Ev.addI (show Oper.op _ = Op.binOp BinOp.add 3 (Operand.tmp 16) (Operand.const (Value.int IntKind.i64 1)) 3 from rfl) (by rfl) (by rfl) (by omega)) (by rfl) (by rfl) ?_
      refine Ls.ev (some 7) (Ev.assign (show Oper.op _ = Op.assign (Operand.tmp 17) from rfl) (by rfl)) (by rfl) (by rfl) ?_
      refine Ls.nil ?_
      refine Ent.pick [6, 5, 8, 4, 13, 14, 0, 1, 2] (by rfl) ?_
      refine Ent.inv ((q, k + 1)) ?_ ?_ ?_
      · (try dsimp only); exact ⟨⟨hlt, hqB, hqE, hst⟩, by omega⟩
      · (repeat (first | exact trivial | refine ⟨by rfl, ?_⟩ | refine ⟨by simp only [List.length_append, List.length_cons, List.length_nil]; rfl, ?_⟩ | refine ⟨by push_cast; rfl, ?_⟩))
      · rfl
    · skip
      rw [show bookR m (l.map EvS.p) k B.p x.p = B.p from if_neg (of_decide_eq_false h3)] at hst
      refine Cd.skip ?_
      refine Cd.region ?_
      refine Ls.ev (some 16) (Ev.move (show Oper.op _ = Op.move (Operand.tmp 7) from rfl) (by rfl)) (by rfl) (by rfl) ?_
      refine Ls.ev (some 17) (Ev.addI (show Oper.op _ = Op.binOp BinOp.add 3 (Operand.tmp 16) (Operand.const (Value.int IntKind.i64 1)) 3 from rfl) (by rfl) (by rfl) (by omega)) (by rfl) (by rfl) ?_
      refine Ls.ev (some 7) (Ev.assign (show Oper.op _ = Op.assign (Operand.tmp 17) from rfl) (by rfl)) (by rfl) (by rfl) ?_
      refine Ls.nil ?_
      refine Ent.inv ((B, k + 1)) ?_ ?_ ?_
      · (try dsimp only); exact ⟨⟨hlt, hB, hE.more (by omega), hst⟩, by omega⟩
      · (repeat (first | exact trivial | refine ⟨by rfl, ?_⟩ | refine ⟨by simp only [List.length_append, List.length_cons, List.length_nil]; rfl, ?_⟩ | refine ⟨by push_cast; rfl, ?_⟩))
      · rfl
  · skip
    have hk2 : l.length ≤ k := by have := of_decide_eq_false h; omega
    rw [List.drop_eq_nil_of_le hk2] at hch
    rw [hch]
    refine Cd.exit ?_
    refine Cd.seq ?_
    refine Cd.region ?_
    refine Ls.ev (some 4) (Ev.assign (show Oper.op _ = Op.assign (Operand.const (Value.int IntKind.i64 0)) from rfl) (by rfl)) (by rfl) (by rfl) ?_
    refine Ls.ev (some 5) (Ev.assign (show Oper.op _ = Op.assign (Operand.const (Value.int IntKind.i64 0)) from rfl) (by rfl)) (by rfl) (by rfl) ?_
    refine Ls.nil ?_
    refine Cd.ret ?_
    refine Ent.ret (()) (trivial) (Res.tmp2 (by rfl) (by rfl) (by rfl)) ?_ [] (by rfl) ?_
    · rfl
    · rfl
end
end Go.Proofs.Ytegjoabfoddadaa
