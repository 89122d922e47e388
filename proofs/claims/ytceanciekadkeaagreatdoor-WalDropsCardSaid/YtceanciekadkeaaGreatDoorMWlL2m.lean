/-
  Texts joined: WlOA, WlDA, WlDB, WlLd.
-/
import Derived.Test.YtceanciekadkeaaGreatDoorMWlL2a
import Derived.Test.YtceanciekadkeaaGreatDoorMWlL2i
import Derived.Test.YtceanciekadkeaaGreatDoorMWlL2l
import Derived.Deep.DeepHandedRow
import Derived.Stop.LaidErr
import Derived.Shelf.Vars
import Derived.MakeChecks
/- WalOwn: the walk -/
namespace Go.Proofs.YtceanciekadkeaaGreatDoor
open Go.RowKit
section
variable {Γ : Ctx} {H : List Chunk} {w : World} {α : Type} {F : α → Chunk}
/-- One out of a family of one's own, and back. -/
theorem one_open (hF : ∀ z, (F z).excl = true) {a b : List α} {z : α} (h : Sat Γ (starx ((a ++ z :: b).map F) :: H) w) : Sat Γ (F z :: starx ((a ++ b).map F) :: H) w := by
  have h1 := Sat.starx_open h
  have h2 : Sat Γ (((a ++ b).map F) ++ (F z :: H)) w := h1.perm (by
    rw [List.map_append, List.map_cons, List.map_append, List.append_assoc, List.append_assoc]
    refine List.Perm.append_left _ ?_
    exact (List.perm_append_comm_assoc [F z] (b.map F) H))
  have h3 := Sat.starx_close (fun C hC => by obtain ⟨_, _, rfl⟩ := List.mem_map.1 hC; exact hF _) h2
  exact h3.perm (List.Perm.swap _ _ _)
theorem one_shut (hF : ∀ z, (F z).excl = true) {a b : List α} {z : α} (h : Sat Γ (F z :: starx ((a ++ b).map F) :: H) w) : Sat Γ (starx ((a ++ z :: b).map F) :: H) w := by
  have h2 := Sat.starx_open (h.perm (List.Perm.swap _ _ _))
  refine Sat.starx_close (fun C hC => by obtain ⟨_, _, rfl⟩ := List.mem_map.1 hC; exact hF _) (h2.perm ?_)
  rw [List.map_append, List.map_append, List.map_cons, List.append_assoc, List.append_assoc]
  refine List.Perm.append_left _ ?_
  exact (List.perm_append_comm_assoc (b.map F) [F z] H)
theorem pay_open {a b : List ByS} {z : ByS} (h : Sat Γ (payX (a ++ z :: b) :: H) w) : Sat Γ (z.R :: payX (a ++ b) :: H) w := one_open (F := ByS.R) (fun _ => rfl) h
theorem pay_shut {a b : List ByS} {z : ByS} (h : Sat Γ (z.R :: payX (a ++ b) :: H) w) : Sat Γ (payX (a ++ z :: b) :: H) w := one_shut (F := ByS.R) (fun _ => rfl) h
theorem pay_new {b : List ByS} {z : ByS} (h : Sat Γ (z.R :: payX b :: H) w) : Sat Γ (payX (b ++ [z]) :: H) w := pay_shut (a := b) (b := []) (by rw [List.append_nil]; exact h)
end
theorem lapp_own {D : DrS} {P : DrP} (h : Drv D P) (g : Nat) (L : LgP) (hL : L.seg ≤ 1000000) (A : Option Addr) (n c c' : Nat) (p : List UInt8) (xs : List Value) (hp : p.length ≤ n) (hx : xs.take p.length = u8s p) : Fn Tryz.prog 11 #[ptrV g, .slice A p.length c'] [lgB g D.d L, D.B, D.M, D.F, laidC, row A n c 5 1 xs] DrS (fun _ => .int .i64 (appL P L p).2.2) (fun D' => [lgB g D.d (appL P L p).2.1, D'.B, D'.M, D'.F, row A n c 5 1 xs]) (fun D' => Drv D' (appL P L p).1 ∧ D'.d = D.d ∧ D'.m = D.m) :=
  Fn.lend (Hp := [lgB g D.d L, D.B, D.M, D.F, laidC]) (r := rdB A p) (R := row A n c 5 1 xs) (lappend_sl h g L hL A c' p) (fun D' _ C hC => by
    simp only [List.mem_cons, List.not_mem_nil, or_false] at hC
    rcases hC with rfl | rfl | rfl | rfl <;> rfl) rfl rfl (fun w hw => by
    have := (Own.reads hw).take (k := p.length) hp
    rw [Nat.mul_one, hx] at this
    exact this) (fun k hk => hk.2)
theorem u8s_set (l : List UInt8) (k : Nat) (x : UInt8) : (u8s l).set k (.int .u8 x.toNat) = u8s (l.set k x) := by
  unfold u8s
  rw [← List.map_set]
def ByS.ok (W : World) (s : ByS) : Prop := Reads W W.heap.size 1 s.A s.l.length (u8s s.l) ∧ s.l.length ≤ s.c ∧ s.l.length ≤ 140737488351232
theorem cel_bys {w : World} {n : Nat} {cs : List Value} (h : Cel Tryz.prog w n 30 cs) : ∃ s : ByS, cs = [s.v] ∧ s.ok w := by
  rcases cel_slice Tryz.underlying30 h with rfl | ⟨a2, len2, cap2, rfl, hl2, hm2, hb2, hc2⟩
  · exact ⟨⟨none, 0, []⟩, rfl, ⟨Reads.none_, Nat.le_refl 0, by show (0 : Nat) ≤ 140737488351232; omega⟩⟩
  · obtain ⟨l, hr⟩ := bytes_of w a2 len2 cap2 hl2 hc2
    rw [bytes_u8] at hb2
    unfold reachBytes at hb2
    have hll := hr.len_
    subst hll
    exact ⟨⟨some a2, cap2, l⟩, rfl, hr, hl2, by show l.length ≤ _; omega⟩
theorem cells_bys : Tryz.prog.cellsOf 30 = 1 := by kernel_rfl
theorem bytes_bys : Tryz.prog.bytesOf 30 = 24 := by kernel_rfl
set_option maxRecDepth 100000 in
theorem val_pay {W : World} {v : Value} (h : Val Tryz.prog W 22 v) : ∃ A c S, v = .slice A (List.length S) c ∧ Reads W W.heap.size 1 A S.length (S.map ByS.v) ∧ (∀ s ∈ S, ByS.ok W s) ∧ S.length ≤ c ∧ c ≤ 5864062014634 := by
  obtain ⟨n, h⟩ := @val_cel Tryz.prog W 22 30 v Tryz.underlying22 h
  obtain ⟨A, c, S, e, hr, hq, hc, hb⟩ := cel_slice1 (f := ByS.v) (Q := ByS.ok W) Tryz.underlying22 cells_bys (fun n cs h => cel_bys h) h
  rw [bytes_bys] at hb
  unfold reachBytes at hb
  exact ⟨A, c, S, by simpa using e, hr, hq, hc, by omega⟩
theorem mid_get {a b : List ByS} {z : ByS} {i : Nat} (h : a.length = i) : (a ++ z :: b)[i]? = some z := by
  rw [List.getElem?_append_right (by omega), h, Nat.sub_self]
  rfl
theorem mid_set {a b : List ByS} {z y : ByS} {i : Nat} (h : a.length = i) : ((a ++ z :: b).map ByS.v).set i y.v = (a ++ y :: b).map ByS.v := by
  rw [List.map_append, List.map_append, List.map_cons, List.map_cons, List.set_append_right _ _ (by rw [List.length_map]; omega), List.length_map, h, Nat.sub_self]
  rfl
theorem mid_far {a b : List ByS} {z y : ByS} {i j : Nat} (h : a.length = i) (hj : i < j) : (a ++ z :: b)[j]? = (a ++ y :: b)[j]? := by
  rw [List.getElem?_append_right (by omega), List.getElem?_append_right (by omega)]
  obtain ⟨e, he⟩ : ∃ e, j - a.length = e + 1 := ⟨j - a.length - 1, by omega⟩
  rw [he]
  rfl
theorem own3_sl (W : World) (A : Option Addr) (c : Nat) (S : List ByS) (hr : Reads W W.heap.size 1 A S.length (S.map ByS.v)) (hok : ∀ s ∈ S, ByS.ok W s) (hn : S.length ≤ 5864062014634) : Fn Tryz.prog 3 #[.slice A S.length c] [argc W, laidC] Unit (fun _ => .bool true) (fun _ => []) (fun _ => True) := by
  obtain ⟨m, hm⟩ : ∃ m, m = min S.length 20 := ⟨_, rfl⟩
  obtain ⟨ps, hps⟩ : ∃ ps, ps = S.map fun s => cutP s.l := ⟨_, rfl⟩
  have hpl : ps.length = S.length := by rw [hps, List.length_map]
  refine Fn.enter Tryz.func3 rfl Tryz.ntmps3 (by rfl) ?_
  intro w0
  refine Ent.arg 0 (by rfl) hr ?_
  refine Cd.seq ?_
  refine Cd.region ?_
  refine Ls.ev (some 2) (Ev.assign (show Oper.op _ = Op.assign (Operand.const (Value.bool false)) from rfl) (by rfl)) (by rfl) (by rfl) ?_
  refine Ls.nil ?_
  refine Cd.seq ?_
  refine Cd.region ?_
  refine Ls.does (some 21) (Does.call [0, 1, 2] (show Oper.op _ = Op.call { callee := Callee.value (Operand.func 7), args := #[], argTypes := #[] } from rfl) Tryz.func7 (by kernel_rfl) (by kernel_rfl) (new_sl) (by rfl) (by rfl) (by rfl)) (by rfl) (by rfl) ?_
  rintro D0 hD0
  refine Ls.ev (some 3) (Ev.assign (show Oper.op _ = Op.assign (Operand.tmp 21) from rfl) (by rfl)) (by rfl) (by rfl) ?_
  refine Ls.nil ?_
  refine Cd.seq ?_
  refine Cd.seq ?_
  refine Cd.region ?_
  refine Ls.does (some 22) (Does.read (show Oper.op _ = Op.call { callee := Callee.value (Operand.func 8), args := #[], argTypes := #[] } from rfl) Tryz.func8 (by kernel_rfl) (by kernel_rfl) (awake_sl) (by rfl) (by rfl) ⟨laidIn 5 (by rfl), trivial⟩) (by rfl) (by rfl) ?_
  rintro _ -
  refine Ls.ev (some 23) (Ev.not (show Oper.op _ = Op.unOp UnOp.not 4 (Operand.tmp 22) from rfl) (by rfl)) (by rfl) (by rfl) ?_
  refine Ls.ev (some 24) (Ev.move (show Oper.op _ = Op.move (Operand.tmp 23) from rfl) (by rfl)) (by rfl) (by rfl) ?_
  refine Ent.known 24 false (by rfl) (by exact (rfl)) ?_
  refine Ls.ev (some 25) (Ev.move (show Oper.op _ = Op.move (Operand.tmp 3) from rfl) (by rfl)) (by rfl) (by rfl) ?_
  refine Ls.ev (some 26) (Ev.ptrNil (show Oper.op _ = Op.binOp BinOp.eql 23 (Operand.tmp 25) (Operand.const (Value.pointer none)) 23 from rfl) (by rfl) (by rfl) Tryz.underlying23) (by rfl) (by rfl) ?_
  refine Ls.ev (some 27) (Ev.pickF (show Oper.op _ = Op.pick (Operand.tmp 24) (Operand.const (Value.bool true)) (Operand.tmp 26) from rfl) (by rfl) (by rfl)) (by rfl) (by rfl) ?_
  refine Ls.nil ?_
  skip
  refine Cd.cond_false (by rfl) (rfl) ?_
  refine Cd.skip ?_
  refine Cd.seq ?_
  refine Cd.region ?_
  refine Ls.ev (some 29) (Ev.move (show Oper.op _ = Op.move (Operand.tmp 3) from rfl) (by rfl)) (by rfl) (by rfl) ?_
  refine Ls.does (some 30) (Does.readN (show Oper.op _ = Op.call { callee := Callee.value (Operand.func 9), args := #[Operand.tmp 29, Operand.const (Value.int IntKind.i64 1)], argTypes := #[23, 3] } from rfl) Tryz.func9 (by kernel_rfl) (by kernel_rfl) (open_sl hD0 1 (by omega) (by omega)) (by rfl) (by rfl) ⟨blkIn 0 (by rfl), mapIn 1 (by rfl), filIn 2 (by rfl), laidIn 5 (by rfl), trivial⟩ (fun _ => by rfl)) (by rfl) (by rfl) ?_
  rintro ⟨g, ⟨_, _⟩, _⟩ -
  dsimp only
  refine Ls.ev (some 28) (Ev.move (show Oper.op _ = Op.move (Operand.tmp 30) from rfl) (by rfl)) (by rfl) (by rfl) ?_
  refine Ls.ev (some 31) (Ev.extract (show Oper.op _ = Op.extract (Operand.tmp 28) 0 from rfl) (by rfl) (by rfl)) (by rfl) (by rfl) ?_
  refine Ls.ev (some 32) (Ev.extract (show Oper.op _ = Op.extract (Operand.tmp 28) 1 from rfl) (by rfl) (by rfl)) (by rfl) (by rfl) ?_
  refine Ls.ev (some 33) (Ev.extract (show Oper.op _ = Op.extract (Operand.tmp 28) 2 from rfl) (by rfl) (by rfl)) (by rfl) (by rfl) ?_
  refine Ls.ev (some 4) (Ev.assign (show Oper.op _ = Op.assign (Operand.tmp 31) from rfl) (by rfl)) (by rfl) (by rfl) ?_
  refine Ls.ev (some 5) (Ev.assign (show Oper.op _ = Op.assign (Operand.tmp 32) from rfl) (by rfl)) (by rfl) (by rfl) ?_
  refine Ls.ev (some 6) (Ev.assign (show Oper.op _ = Op.assign (Operand.tmp 33) from rfl) (by rfl)) (by rfl) (by rfl) ?_
  refine Ls.nil ?_
  refine Cd.seq ?_
  refine Cd.seq ?_
  refine Cd.region ?_
  refine Ls.ev (some 34) (Ev.move (show Oper.op _ = Op.move (Operand.tmp 4) from rfl) (by rfl)) (by rfl) (by rfl) ?_
  refine Ls.ev (some 35) (Ev.ptrNil (show Oper.op _ = Op.binOp BinOp.eql 26 (Operand.tmp 34) (Operand.const (Value.pointer none)) 26 from rfl) (by rfl) (by rfl) Tryz.underlying26) (by rfl) (by rfl) ?_
  refine Ls.ev (some 36) (Ev.move (show Oper.op _ = Op.move (Operand.tmp 35) from rfl) (by rfl)) (by rfl) (by rfl) ?_
  refine Ent.known 36 false (by rfl) (by exact (rfl)) ?_
  refine Ls.ev (some 37) (Ev.move (show Oper.op _ = Op.move (Operand.tmp 6) from rfl) (by rfl)) (by rfl) (by rfl) ?_
  refine Ls.ev (some 38) (Ev.neq (show Oper.op _ = Op.binOp BinOp.neq 27 (Operand.tmp 37) (Operand.const (Value.int IntKind.i64 0)) 27 from rfl) (by rfl) (by rfl)) (by rfl) (by rfl) ?_
  refine Ls.ev (some 39) (Ev.pickF (show Oper.op _ = Op.pick (Operand.tmp 36) (Operand.const (Value.bool true)) (Operand.tmp 38) from rfl) (by rfl) (by rfl)) (by rfl) (by rfl) ?_
  refine Ls.nil ?_
  skip
  refine Cd.cond_false (by rfl) (decide_eq_false (show ¬ ((0 : Int) ≠ 0) from fun h => h rfl)) ?_
  refine Cd.skip ?_
  refine Cd.seq ?_
  refine Cd.region ?_
  refine Ls.ev (some 7) (Ev.assign (show Oper.op _ = Op.assign (Operand.const (Value.slice none 0 0)) from rfl) (by rfl)) (by rfl) (by rfl) ?_
  refine Ls.nil ?_
  refine Cd.seq ?_
  refine Cd.seq ?_
  refine Cd.region ?_
  refine Ls.ev (some 8) (Ev.assign (show Oper.op _ = Op.assign (Operand.const (Value.int IntKind.i64 0)) from rfl) (by rfl)) (by rfl) (by rfl) ?_
  refine Ls.nil ?_
  refine Cd.block ?_
  refine Ent.nil 30 1 ?_
  refine Ent.map (fun w hs => hs.starx_nil) ?_
  refine Ent.pick [1, 0, 2, 5, 6, 7, 8, 9, 10] (by rfl) ?_
  have hf0 : Fed DrP.new ⟨DrP.new.seg 1, false⟩ [] := Fed.start
  refine Cd.loop (ι := Nat × (Option Addr × Nat × List ByS) × DrS × DrP × LgP) (fun p => [(0, .slice A S.length c), (3, ptrV D0.d), (4, ptrV g), (7, .slice p.2.1.1 p.2.1.2.2.length p.2.1.2.1), (8, .int .i64 p.1)]) (fun p => [payW p.2.1.1 p.2.1.2.1 p.2.1.2.2, payX p.2.1.2.2, lgB g D0.d p.2.2.2.2, p.2.2.1.B, p.2.2.1.M, p.2.2.1.F, rdV A S, argc W, laidC]) (fun p => p.1 ≤ m ∧ p.2.1.2.2.map ByS.l = ps.take p.1 ∧ Drv p.2.2.1 p.2.2.2.1 ∧ p.2.2.1.d = D0.d ∧ Fed p.2.2.2.1 p.2.2.2.2 (ps.take p.1)) (fun p => m - p.1) ((0, (none, 0, []), D0, DrP.new, ⟨DrP.new.seg 1, false⟩)) (⟨Nat.zero_le _, rfl, hD0, rfl, hf0⟩) ?_ rfl ?_
  · (repeat (first | exact trivial | refine ⟨by rfl, ?_⟩))
  rintro ⟨k, ⟨wA, wc, U⟩, D, P, L⟩ ⟨hk, hU, hD, hd, hF⟩
  dsimp only at hk hU hD hd hF ⊢
  have hUl : U.length = k := by
    have := congrArg List.length hU
    rw [List.length_map, List.length_take] at this
    omega
  refine Cd.seq ?_
  refine Cd.seq ?_
  refine Cd.cut (ι := Unit) (fun _ => [(0, .slice A S.length c), (3, ptrV D0.d), (4, ptrV g), (7, .slice wA U.length wc), (8, .int .i64 k), (47, .bool (decide (k < m)))]) (fun _ => [payW wA wc U, payX U, lgB g D0.d L, D.B, D.M, D.F, rdV A S, argc W, laidC]) (fun _ => True) ?_ ?_
  · skip
    refine Cd.region ?_
    refine Ls.ev (some 40) (Ev.move (show Oper.op _ = Op.move (Operand.tmp 8) from rfl) (by rfl)) (by rfl) (by rfl) ?_
    refine Ls.ev (some 41) (Ev.move (show Oper.op _ = Op.move (Operand.tmp 0) from rfl) (by rfl)) (by rfl) (by rfl) ?_
    refine Ls.ev (some 42) (Ev.len (show Oper.op _ = Op.call { callee := Callee.builtin Builtin.len, args := #[Operand.tmp 41], argTypes := #[22] } from rfl) (by rfl) Tryz.underlying22) (by rfl) (by rfl) ?_
    refine Ls.ev (some 43) (Ev.lss (show Oper.op _ = Op.binOp BinOp.lss 3 (Operand.tmp 40) (Operand.tmp 42) 3 from rfl) (by rfl) (by rfl)) (by rfl) (by rfl) ?_
    refine Ls.ev (some 44) (Ev.move (show Oper.op _ = Op.move (Operand.tmp 43) from rfl) (by rfl)) (by rfl) (by rfl) ?_
    refine Ent.split 44 (by rfl) (fun hT1 => ?_) (fun hT1 => ?_)
    · first | have hT1 := of_decide_eq_false hT1 | have hT1 := of_not_decide_false hT1 | skip
      refine Ls.pass (some 45) (by rfl) (by rfl) ?_
      refine Ls.pass (some 46) (by rfl) (by rfl) ?_
      refine Ls.ev (some 47) (Ev.pickF (show Oper.op _ = Op.pick (Operand.tmp 44) (Operand.tmp 46) (Operand.const (Value.bool false)) from rfl) (by rfl) (by rfl)) (by rfl) (by rfl) ?_
      refine Ls.nil ?_
      refine Ent.inv () ?_ ?_ ?_
      · exact trivial
      · (repeat (first | exact trivial | refine ⟨by rfl, ?_⟩ | refine ⟨by simp only [List.length_append, List.length_cons, List.length_nil]; rfl, ?_⟩ | refine ⟨by push_cast; rfl, ?_⟩ | refine ⟨by (show some (Value.bool _) = some (Value.bool _); congr 2; (first | exact (decide_eq_decide.2 (by omega)) | exact (decide_eq_false (by omega)).symm | exact (decide_eq_true (by omega)).symm | exact decide_eq_true (by omega) | exact decide_eq_false (by omega))), ?_⟩))
      · rfl
    · first | have hT1 := of_decide_eq_true hT1 | have hT1 := of_not_decide_true hT1 | skip
      refine Ls.ev (some 45) (Ev.move (show Oper.op _ = Op.move (Operand.tmp 8) from rfl) (by rfl)) (by rfl) (by rfl) ?_
      refine Ls.ev (some 46) (Ev.lss (show Oper.op _ = Op.binOp BinOp.lss 3 (Operand.tmp 45) (Operand.const (Value.int IntKind.i64 20)) 3 from rfl) (by rfl) (by rfl)) (by rfl) (by rfl) ?_
      refine Ls.ev (some 47) (Ev.pickT (show Oper.op _ = Op.pick (Operand.tmp 44) (Operand.tmp 46) (Operand.const (Value.bool false)) from rfl) (by rfl) (by rfl)) (by rfl) (by rfl) ?_
      refine Ls.nil ?_
      refine Ent.inv () ?_ ?_ ?_
      · exact trivial
      · (repeat (first | exact trivial | refine ⟨by rfl, ?_⟩ | refine ⟨by simp only [List.length_append, List.length_cons, List.length_nil]; rfl, ?_⟩ | refine ⟨by push_cast; rfl, ?_⟩ | refine ⟨by (show some (Value.bool _) = some (Value.bool _); congr 2; (first | exact (decide_eq_decide.2 (by omega)) | exact (decide_eq_false (by omega)).symm | exact (decide_eq_true (by omega)).symm | exact decide_eq_true (by omega) | exact decide_eq_false (by omega))), ?_⟩))
      · rfl
  skip
  rintro _ -
  refine Cd.cond _ (by rfl) (fun h2 => ?_) (fun h2 => ?_)
  · skip
    have hlt : k < m := of_decide_eq_true h2
    obtain ⟨s, hs⟩ := get_of_lt (show k < S.length by omega)
    have hoks := hok s (List.mem_of_getElem? hs)
    have hps1 : ps.take (k + 1) = ps.take k ++ [cutP s.l] := by
      rw [List.take_add_one, hps, List.getElem?_map, hs]
      rfl
    have hcl := cutP_len s.l
    refine Ent.rdSome 6 (by rfl) (by omega) (fun ad had => ?_)
    subst had
    refine Ent.arg 7 (by rfl) hoks.1 ?_
    refine Cd.skip ?_
    refine Cd.seq ?_
    refine Cd.block ?_
    refine Cd.seq ?_
    refine Cd.region ?_
    refine Ls.ev (some 50) (Ev.move (show Oper.op _ = Op.move (Operand.tmp 0) from rfl) (by rfl)) (by rfl) (by rfl) ?_
    refine Ls.ev (some 51) (Ev.move (show Oper.op _ = Op.move (Operand.tmp 8) from rfl) (by rfl)) (by rfl) (by rfl) ?_
    refine Ls.ev (some 52) (Ev.indexAt (sz := 1) (show Oper.op _ = Op.indexAddr 22 (Operand.tmp 50) (Operand.tmp 51) from rfl) (by rfl) (by rfl) Tryz.underlying22 (by kernel_rfl) (by omega)) (by rfl) (by rfl) ?_
    refine Ls.ev (some 53) (Ev.loadV (show Oper.op _ = Op.load 30 (Operand.tmp 52) from rfl) (by rfl) (ReadsIn.rd 7 (by rfl)) (by kernel_rfl) hs) (by rfl) (by rfl) ?_
    skip
    refine Ls.does (some 54) (Does.readN (show Oper.op _ = Op.call { callee := Callee.value (Operand.func 10), args := #[Operand.tmp 53], argTypes := #[30] } from rfl) Tryz.func10 (by kernel_rfl) (by kernel_rfl) (cutb_sl s.A s.c s.l hoks.2.1) (by rfl) (by rfl) ⟨ReadsIn.rd 0 (by rfl), trivial⟩ (fun _ => by rfl)) (by rfl) (by rfl) ?_
    rintro ⟨rA, rc⟩ -
    refine Ls.does (some 55) (Does.lit (sz := 1) (show Oper.op _ = Op.buildSlice 30 1 #[(0, Operand.const (Value.int IntKind.u8 77))] from rfl) (by rfl) Tryz.underlying30 (by kernel_rfl) (by rfl) (by kernel_rfl)) (by rfl) (by rfl) ?_
    intro g1 _
    refine Ls.does (some 56) (Does.app (xs := u8s (cutP s.l)) (news := u8s [77]) 1 (show Oper.op _ = Op.call { callee := Callee.builtin Builtin.append, args := #[Operand.tmp 54, Operand.tmp 55], argTypes := #[30, 30] } from rfl) (by rfl) (by rfl) (by rfl) (ReadsIn.row 0 (by rfl)) elem_b (u8s_one _) (show ((cutP s.l).length + 1) * 1 ≤ 140737488355328 by omega)) (by rfl) (by rfl) ?_
    rintro ⟨qA, qc⟩ -
    dsimp only
    refine Ent.fact 1 (by rfl) (p := (cutP s.l).length + 1 ≤ qc) (fun w hw => Own.le hw) (fun hqc => ?_)
    skip
    refine Ls.ev (some 9) (Ev.assign (show Oper.op _ = Op.assign (Operand.tmp 56) from rfl) (by rfl)) (by rfl) (by rfl) ?_
    refine Ls.nil ?_
    refine Cd.seq ?_
    refine Cd.region ?_
    refine Ls.ev (some 57) (Ev.move (show Oper.op _ = Op.move (Operand.tmp 9) from rfl) (by rfl)) (by rfl) (by rfl) ?_
    refine Ls.ev (some 58) (Ev.move (show Oper.op _ = Op.move (Operand.tmp 9) from rfl) (by rfl)) (by rfl) (by rfl) ?_
    refine Ls.ev (some 59) (Ev.len (show Oper.op _ = Op.call { callee := Callee.builtin Builtin.len, args := #[Operand.tmp 58], argTypes := #[30] } from rfl) (by rfl) Tryz.underlying30) (by rfl) (by rfl) ?_
    refine Ls.ev (some 60) (Ev.subN (b := 1) (show Oper.op _ = Op.binOp BinOp.sub 3 (Operand.tmp 59) (Operand.const (Value.int IntKind.i64 1)) 3 from rfl) (by rfl) (by rfl) (by omega)) (by rfl) (by rfl) ?_
    refine Ls.ev (some 61) (Ev.sliceHn (h := (cutP s.l).length) (sz := 1) (show Oper.op _ = Op.slice 30 (Operand.tmp 57) none (some (Operand.tmp 60)) none from rfl) (by rfl) (by rfl) Tryz.underlying30 (by kernel_rfl) (by omega)) (by rfl) (by rfl) ?_
    refine Ls.ev (some 10) (Ev.assign (show Oper.op _ = Op.assign (Operand.tmp 61) from rfl) (by rfl)) (by rfl) (by rfl) ?_
    refine Ls.nil ?_
    refine Cd.seq ?_
    refine Cd.region ?_
    refine Ls.ev (some 62) (Ev.move (show Oper.op _ = Op.move (Operand.tmp 7) from rfl) (by rfl)) (by rfl) (by rfl) ?_
    refine Ls.ev (some 63) (Ev.move (show Oper.op _ = Op.move (Operand.tmp 0) from rfl) (by rfl)) (by rfl) (by rfl) ?_
    refine Ls.ev (some 64) (Ev.move (show Oper.op _ = Op.move (Operand.tmp 8) from rfl) (by rfl)) (by rfl) (by rfl) ?_
    refine Ls.ev (some 65) (Ev.indexAt (sz := 1) (show Oper.op _ = Op.indexAddr 22 (Operand.tmp 63) (Operand.tmp 64) from rfl) (by rfl) (by rfl) Tryz.underlying22 (by kernel_rfl) (by omega)) (by rfl) (by rfl) ?_
    refine Ls.ev (some 66) (Ev.loadV (show Oper.op _ = Op.load 30 (Operand.tmp 65) from rfl) (by rfl) (ReadsIn.rd 9 (by rfl)) (by kernel_rfl) hs) (by rfl) (by rfl) ?_
    skip
    refine Ls.does (some 67) (Does.readN (show Oper.op _ = Op.call { callee := Callee.value (Operand.func 10), args := #[Operand.tmp 66], argTypes := #[30] } from rfl) Tryz.func10 (by kernel_rfl) (by kernel_rfl) (cutb_sl s.A s.c s.l hoks.2.1) (by rfl) (by rfl) ⟨ReadsIn.rd 2 (by rfl), trivial⟩ (fun _ => by rfl)) (by rfl) (by rfl) ?_
    rintro ⟨vA, vc⟩ -
    refine Ls.does (some 68) (Does.lit (sz := 1) (show Oper.op _ = Op.buildSlice 22 1 #[(0, Operand.tmp 67)] from rfl) (by rfl) Tryz.underlying22 (by kernel_rfl) (by rfl) (by kernel_rfl)) (by rfl) (by rfl) ?_
    intro g2 _
    refine Ls.does (some 69) (Does.app (xs := U.map ByS.v) (news := [ByS.v ⟨vA, vc, cutP s.l⟩]) 5 (show Oper.op _ = Op.call { callee := Callee.builtin Builtin.append, args := #[Operand.tmp 62, Operand.tmp 68], argTypes := #[22, 22] } from rfl) (by rfl) (by rfl) (by rfl) (ReadsIn.row 0 (by rfl)) elem_pay (one_pay [⟨vA, vc, cutP s.l⟩]) (show (U.length + 1) * 24 ≤ 140737488355328 by omega)) (by rfl) (by rfl) ?_
    rintro ⟨xA, xc⟩ -
    dsimp only
    skip
    refine Ls.ev (some 7) (Ev.assign (show Oper.op _ = Op.assign (Operand.tmp 69) from rfl) (by rfl)) (by rfl) (by rfl) ?_
    refine Ls.nil ?_
    refine Cd.seq ?_
    refine Cd.seq ?_
    refine Cd.draw [2] (by kernel_rfl) ?_
    refine Rg.ev 0 (by rfl) (fun _ h => h) (Ev.move (show Oper.op _ = Op.move (Operand.tmp 4) from rfl) (by rfl)) (by rfl) (some 70) (by rfl) (by kernel_rfl) (by kernel_rfl) (by kernel_rfl) (by kernel_rfl) ?_
    refine Rg.ev 1 (by rfl) (fun _ h => h) (Ev.move (show Oper.op _ = Op.move (Operand.tmp 10) from rfl) (by rfl)) (by rfl) (some 71) (by rfl) (by kernel_rfl) (by kernel_rfl) (by kernel_rfl) (by kernel_rfl) ?_
    refine Ent.pick [1, 6, 5, 7, 8, 9, 10, 13, 3, 11, 12] (by rfl) ?_
    refine Ent.map (fun w hs => pay_new (z := ⟨vA, vc, cutP s.l⟩) (b := U) hs) ?_
    have hroom : row qA ((cutP s.l).length + 1) qc 5 1 (u8s (cutP s.l) ++ u8s [77]) = rowB qA qc (cutP s.l ++ [77]) := by
      dsimp only [rowB]
      rw [List.length_append, u8s_append]
      rfl
    have hwant : row xA (U.length + 1) xc 30 1 (U.map ByS.v ++ [ByS.v ⟨vA, vc, cutP s.l⟩]) = payW xA xc (U ++ [⟨vA, vc, cutP s.l⟩]) := by
      dsimp only [payW]
      rw [List.length_append, List.map_append]
      rfl
    rw [hroom, hwant]
    obtain ⟨hcode, hF2⟩ := hF.app (p := cutP s.l) (by rw [List.length_take]; omega) (by omega)
    have hsg := hF.seg
    have hap := lapp_own hD g L (by rw [List.length_take] at hsg; omega) qA (cutP s.l ++ [77]).length qc qc (cutP s.l) (u8s (cutP s.l ++ [77])) (by rw [List.length_append]; omega) (by
      have := u8s_length (cutP s.l)
      rw [u8s_append, List.take_append_of_le_length (by omega), List.take_of_length_le (by omega)])
    rw [hd] at hap
    refine Rg.tail 2 [] (by rfl) (by kernel_rfl) (Does.call [2, 3, 4, 5, 6, 7, 1, 0, 8, 9, 6] (show Oper.op _ = Op.call { callee := Callee.value (Operand.func 11), args := #[Operand.tmp 70, Operand.tmp 71], argTypes := #[26, 30] } from rfl) Tryz.func11 (by kernel_rfl) (by kernel_rfl) (hap) (by rfl) (by rfl) (by rfl)) (by rfl) (some 72) (by rfl) (by kernel_rfl) (by kernel_rfl) ?_
    rintro D1 ⟨hD1, hd1, -⟩
    rw [hcode]
    have hz : (U ++ [(⟨vA, vc, cutP s.l⟩ : ByS)])[k]? = some ⟨vA, vc, cutP s.l⟩ := by
      rw [List.getElem?_append_right (by omega), hUl, Nat.sub_self]
      rfl
    have h77 : (cutP s.l ++ [77])[(cutP s.l).length]? = some 77 := by
      rw [List.getElem?_append_right (by omega), Nat.sub_self]
      rfl
    refine Ent.rowSome 5 (by rfl) (by simp) (fun xd hxd => ?_)
    obtain rfl : xA = some xd := hxd
    refine Ent.rowSome 4 (by rfl) (by simp) (fun qd hqd => ?_)
    obtain rfl : qA = some qd := hqd
    refine Rg.ev 3 (by rfl) (fun _ h => h) (Ev.neq (show Oper.op _ = Op.binOp BinOp.neq 27 (Operand.tmp 72) (Operand.const (Value.int IntKind.i64 0)) 27 from rfl) (by rfl) (by rfl)) (by rfl) (some 73) (by rfl) (by kernel_rfl) (by kernel_rfl) (by kernel_rfl) (by kernel_rfl) ?_
    refine Rg.ev 4 (by rfl) (fun _ h => h) (Ev.move (show Oper.op _ = Op.move (Operand.tmp 73) from rfl) (by rfl)) (by rfl) (some 74) (by rfl) (by kernel_rfl) (by kernel_rfl) (by kernel_rfl) (by kernel_rfl) ?_
    refine Ent.known 74 false (by rfl) (by exact (decide_eq_false (show ¬ ((0 : Int) ≠ 0) from fun h => h rfl))) ?_
    refine Rg.ev 5 (by rfl) (fun _ h => h) (Ev.move (show Oper.op _ = Op.move (Operand.tmp 10) from rfl) (by rfl)) (by rfl) (some 75) (by rfl) (by kernel_rfl) (by kernel_rfl) (by kernel_rfl) (by kernel_rfl) ?_
    refine Rg.ev 6 (by rfl) (fun _ h => h) (Ev.textOf (show Oper.op _ = Op.convert 30 9 (Operand.tmp 75) from rfl) (by rfl) (ReadsIn.preB 4 (by rfl)) Tryz.underlying30 Tryz.underlying5 Tryz.underlying9) (by rfl) (some 76) (by rfl) (by kernel_rfl) (by kernel_rfl) (by kernel_rfl) (by kernel_rfl) ?_
    refine Rg.ev 7 (by rfl) (fun _ h => h) (Ev.move (show Oper.op _ = Op.move (Operand.tmp 7) from rfl) (by rfl)) (by rfl) (some 77) (by rfl) (by kernel_rfl) (by kernel_rfl) (by kernel_rfl) (by kernel_rfl) ?_
    refine Rg.ev 8 (by rfl) (fun _ h => h) (Ev.move (show Oper.op _ = Op.move (Operand.tmp 8) from rfl) (by rfl)) (by rfl) (some 78) (by rfl) (by kernel_rfl) (by kernel_rfl) (by kernel_rfl) (by kernel_rfl) ?_
    refine Rg.ev 9 (by rfl) (fun _ h => h) (Ev.indexAt (k := k) (sz := 1) (show Oper.op _ = Op.indexAddr 22 (Operand.tmp 77) (Operand.tmp 78) from rfl) (by rfl) (by rfl) Tryz.underlying22 (by kernel_rfl) (by omega)) (by rfl) (some 79) (by rfl) (by kernel_rfl) (by kernel_rfl) (by kernel_rfl) (by kernel_rfl) ?_
    refine Rg.ev 10 (by rfl) (fun _ h => h) (Ev.loadV (show Oper.op _ = Op.load 30 (Operand.tmp 79) from rfl) (by rfl) (ReadsIn.row 5 (by rfl)) (by kernel_rfl) hz) (by rfl) (some 80) (by rfl) (by kernel_rfl) (by kernel_rfl) (by kernel_rfl) (by kernel_rfl) ?_
    refine Rg.ev 11 (by rfl) (fun _ h => h) (Ev.textOf (l := cutP s.l) (show Oper.op _ = Op.convert 30 9 (Operand.tmp 80) from rfl) (by rfl) (fun w hs => (payIn 6 rfl w hs (ByS.r ⟨vA, vc, cutP s.l⟩) (List.mem_map_of_mem (List.mem_append_right _ (List.mem_singleton.2 rfl)))).2) Tryz.underlying30 Tryz.underlying5 Tryz.underlying9) (by rfl) (some 81) (by rfl) (by kernel_rfl) (by kernel_rfl) (by kernel_rfl) (by kernel_rfl) ?_
    refine Rg.ev 12 (by rfl) (fun _ h => h) (Ev.neqS (show Oper.op _ = Op.binOp BinOp.neq 9 (Operand.tmp 76) (Operand.tmp 81) 9 from rfl) (by rfl) (by rfl)) (by rfl) (some 82) (by rfl) (by kernel_rfl) (by kernel_rfl) (by kernel_rfl) (by kernel_rfl) ?_
    refine Rg.ev 13 (by rfl) (fun _ h => h) (Ev.pickF (show Oper.op _ = Op.pick (Operand.tmp 74) (Operand.const (Value.bool true)) (Operand.tmp 82) from rfl) (by rfl) (by rfl)) (by rfl) (some 83) (by rfl) (by kernel_rfl) (by kernel_rfl) (by kernel_rfl) (by kernel_rfl) ?_
    refine Rg.ev 14 (by rfl) (fun _ h => h) (Ev.move (show Oper.op _ = Op.move (Operand.tmp 83) from rfl) (by rfl)) (by rfl) (some 84) (by rfl) (by kernel_rfl) (by kernel_rfl) (by kernel_rfl) (by kernel_rfl) ?_
    refine Ent.known 84 false (by rfl) (by exact (decide_eq_false (show ¬ (txt (cutP s.l) ≠ txt (cutP s.l)) from fun h => h rfl))) ?_
    refine Rg.ev 15 (by rfl) (fun _ h => h) (Ev.move (show Oper.op _ = Op.move (Operand.tmp 9) from rfl) (by rfl)) (by rfl) (some 85) (by rfl) (by kernel_rfl) (by kernel_rfl) (by kernel_rfl) (by kernel_rfl) ?_
    refine Rg.ev 16 (by rfl) (fun _ h => h) (Ev.move (show Oper.op _ = Op.move (Operand.tmp 10) from rfl) (by rfl)) (by rfl) (some 86) (by rfl) (by kernel_rfl) (by kernel_rfl) (by kernel_rfl) (by kernel_rfl) ?_
    refine Rg.ev 17 (by rfl) (fun _ h => h) (Ev.len (show Oper.op _ = Op.call { callee := Callee.builtin Builtin.len, args := #[Operand.tmp 86], argTypes := #[30] } from rfl) (by rfl) Tryz.underlying30) (by rfl) (some 87) (by rfl) (by kernel_rfl) (by kernel_rfl) (by kernel_rfl) (by kernel_rfl) ?_
    refine Rg.ev 18 (by rfl) (fun _ h => h) (Ev.indexAt (k := (cutP s.l).length) (sz := 1) (show Oper.op _ = Op.indexAddr 30 (Operand.tmp 85) (Operand.tmp 87) from rfl) (by rfl) (by rfl) Tryz.underlying30 (by kernel_rfl) (by simp)) (by rfl) (some 88) (by rfl) (by kernel_rfl) (by kernel_rfl) (by kernel_rfl) (by kernel_rfl) ?_
    refine Rg.ev 19 (by rfl) (fun _ h => h) (Ev.loadU8 (show Oper.op _ = Op.load 5 (Operand.tmp 88) from rfl) (by rfl) (ReadsIn.row 4 (by rfl)) (by kernel_rfl) h77) (by rfl) (some 89) (by rfl) (by kernel_rfl) (by kernel_rfl) (by kernel_rfl) (by kernel_rfl) ?_
    refine Rg.ev 20 (by rfl) (fun _ h => h) (Ev.neq (show Oper.op _ = Op.binOp BinOp.neq 5 (Operand.tmp 89) (Operand.const (Value.int IntKind.u8 77)) 5 from rfl) (by rfl) (by rfl)) (by rfl) (some 90) (by rfl) (by kernel_rfl) (by kernel_rfl) (by kernel_rfl) (by kernel_rfl) ?_
    refine Rg.ev 21 (by rfl) (fun _ h => h) (Ev.pickF (show Oper.op _ = Op.pick (Operand.tmp 84) (Operand.const (Value.bool true)) (Operand.tmp 90) from rfl) (by rfl) (by rfl)) (by rfl) (some 91) (by rfl) (by kernel_rfl) (by kernel_rfl) (by kernel_rfl) (by kernel_rfl) ?_
    refine Rg.done (by kernel_rfl) ?_ _
    refine Cd.cond_false (by rfl) (decide_eq_false (show ¬ (((77 : UInt8).toNat : Int) ≠ 77) from fun h => h rfl)) ?_
    refine Cd.skip ?_
    refine Cd.seq ?_
    refine Cd.region ?_
    refine Ls.ev (some 92) (Ev.move (show Oper.op _ = Op.move (Operand.tmp 9) from rfl) (by rfl)) (by rfl) (by rfl) ?_
    refine Ls.ev (some 93) (Ev.len (show Oper.op _ = Op.call { callee := Callee.builtin Builtin.len, args := #[Operand.tmp 92], argTypes := #[30] } from rfl) (by rfl) Tryz.underlying30) (by rfl) (by rfl) ?_
    refine Ls.ev (some 94) (Ev.move (show Oper.op _ = Op.move (Operand.const (Value.int IntKind.i64 0)) from rfl) (by rfl)) (by rfl) (by rfl) ?_
    refine Ls.nil ?_
    refine Cd.block ?_
    obtain ⟨rn, hrn⟩ : ∃ rn, rn = (cutP s.l).length + 1 := ⟨_, rfl⟩
    have hln : (cutP s.l ++ [77]).length = rn := by rw [List.length_append, hrn]; rfl
    rw [hln, ← hrn]
    have hx0 : (u8s (cutP s.l ++ [77])).length = rn := by rw [u8s_length, hln]
    generalize u8s (cutP s.l ++ [77]) = xs0 at hx0 ⊢
    refine Cd.loop (ι := Nat × List Value) (fun p => [(0, .slice (some ad) S.length c), (3, ptrV D0.d), (4, ptrV g), (7, .slice (some xd) (U.length + 1) xc), (8, .int .i64 k), (9, .slice (some qd) rn qc), (93, .int .i64 rn), (94, .int .i64 p.1)]) (fun p => [lgB g D0.d (appL P L (cutP s.l)).2.1, D1.B, D1.M, D1.F, row (some qd) rn qc 5 1 p.2, payW (some xd) xc (U ++ [⟨vA, vc, cutP s.l⟩]), payX (U ++ [⟨vA, vc, cutP s.l⟩]), rdV (some ad) S, argc W, laidC]) (fun p => p.1 ≤ rn ∧ p.2.length = rn) (fun p => rn - p.1) ((0, xs0)) (⟨Nat.zero_le _, hx0⟩) ?_ rfl ?_
    · (repeat (first | exact trivial | refine ⟨by rfl, ?_⟩))
    rintro ⟨j, xs⟩ ⟨hj, hxs⟩
    dsimp only at hj hxs ⊢
    refine Cd.seq ?_
    refine Cd.region ?_
    refine Ls.ev (some 95) (Ev.lss (show Oper.op _ = Op.binOp BinOp.lss 3 (Operand.tmp 94) (Operand.tmp 93) 3 from rfl) (by rfl) (by rfl)) (by rfl) (by rfl) ?_
    refine Ls.nil ?_
    refine Cd.seq ?_
    refine Cd.cond _ (by rfl) (fun h3 => ?_) (fun h3 => ?_)
    · skip
      have hjl : j < rn := by have := of_decide_eq_true h3; omega
      refine Cd.skip ?_
      refine Cd.seq ?_
      refine Cd.block ?_
      refine Cd.seq ?_
      refine Cd.region ?_
      refine Ls.ev (some 96) (Ev.move (show Oper.op _ = Op.move (Operand.tmp 94) from rfl) (by rfl)) (by rfl) (by rfl) ?_
      refine Ls.ev (some 11) (Ev.assign (show Oper.op _ = Op.assign (Operand.tmp 96) from rfl) (by rfl)) (by rfl) (by rfl) ?_
      refine Ls.nil ?_
      refine Cd.region ?_
      refine Ls.ev (some 97) (Ev.move (show Oper.op _ = Op.move (Operand.tmp 9) from rfl) (by rfl)) (by rfl) (by rfl) ?_
      refine Ls.ev (some 98) (Ev.move (show Oper.op _ = Op.move (Operand.tmp 11) from rfl) (by rfl)) (by rfl) (by rfl) ?_
      refine Ls.ev (some 99) (Ev.indexAt (sz := 1) (show Oper.op _ = Op.indexAddr 30 (Operand.tmp 97) (Operand.tmp 98) from rfl) (by rfl) (by rfl) Tryz.underlying30 (by kernel_rfl) (by omega)) (by rfl) (by rfl) ?_
      refine Ls.does none (Does.storeEl 4 (show Oper.op _ = Op.store 5 (Operand.tmp 99) (Operand.const (Value.int IntKind.u8 0)) from rfl) (by rfl) (by rfl) (by rfl) (by rfl) (by kernel_rfl) (by rfl) (by omega) (by rfl)) (by rfl) (by rfl) ?_
      intro _ _
      refine Ls.nil ?_
      refine Cd.region ?_
      refine Ls.ev (some 100) (Ev.addN (b := 1) (show Oper.op _ = Op.binOp BinOp.add 3 (Operand.tmp 94) (Operand.const (Value.int IntKind.i64 1)) 3 from rfl) (by rfl) (by rfl) (by omega)) (by rfl) (by rfl) ?_
      refine Ls.ev (some 94) (Ev.move (show Oper.op _ = Op.move (Operand.tmp 100) from rfl) (by rfl)) (by rfl) (by rfl) ?_
      refine Ls.nil ?_
      refine Ent.inv ((j + 1, xs.set j (.int .u8 0))) ?_ ?_ ?_
      · (try dsimp only); exact ⟨⟨hjl, by rw [List.length_set]; exact hxs⟩, by omega⟩
      · (repeat (first | exact trivial | refine ⟨by rfl, ?_⟩ | refine ⟨by simp only [List.length_append, List.length_cons, List.length_nil]; rfl, ?_⟩ | refine ⟨by push_cast; rfl, ?_⟩))
      · rfl
    · skip
      refine Cd.exit ?_
      refine Cd.region ?_
      refine Ls.ev (some 48) (Ev.move (show Oper.op _ = Op.move (Operand.tmp 8) from rfl) (by rfl)) (by rfl) (by rfl) ?_
      refine Ls.ev (some 49) (Ev.addN (b := 1) (show Oper.op _ = Op.binOp BinOp.add 3 (Operand.tmp 48) (Operand.const (Value.int IntKind.i64 1)) 3 from rfl) (by rfl) (by rfl) (by omega)) (by rfl) (by rfl) ?_
      refine Ls.ev (some 8) (Ev.assign (show Oper.op _ = Op.assign (Operand.tmp 49) from rfl) (by rfl)) (by rfl) (by rfl) ?_
      refine Ls.nil ?_
      refine Ent.pick [5, 6, 0, 1, 2, 3, 7, 8, 9] (by rfl) ?_
      refine Ent.inv ((k + 1, (some xd, xc, U ++ [⟨vA, vc, cutP s.l⟩]), D1, (appL P L (cutP s.l)).1, (appL P L (cutP s.l)).2.1)) ?_ ?_ ?_
      · (try dsimp only); exact ⟨⟨hlt, by rw [List.map_append, hU, hps1]; rfl, hD1, hd1, by rw [hps1]; exact hF2⟩, by omega⟩
      · (repeat (first | exact trivial | refine ⟨by rfl, ?_⟩ | refine ⟨by simp only [List.length_append, List.length_cons, List.length_nil]; rfl, ?_⟩ | refine ⟨by push_cast; rfl, ?_⟩ | refine ⟨by (show some (Value.slice _ _ _) = some (Value.slice _ _ _); rw [List.length_append]; rfl), ?_⟩))
      · rfl
  · skip
    have hkm : k = m := by have := of_decide_eq_false h2; omega
    have hpay := hF.pay (by rw [List.length_take]; omega)
    have hpt : D.ptr = ptrV D0.d := by rw [DrS.ptr, hd]
    have ho := open_sl hD 1 (by omega) (by omega)
    rw [hpt, hpay] at ho
    refine Cd.exit ?_
    refine Cd.seq ?_
    refine Cd.region ?_
    refine Ls.ev (some 102) (Ev.move (show Oper.op _ = Op.move (Operand.tmp 3) from rfl) (by rfl)) (by rfl) (by rfl) ?_
    refine Ls.does (some 103) (Does.readN (show Oper.op _ = Op.call { callee := Callee.value (Operand.func 9), args := #[Operand.tmp 102, Operand.const (Value.int IntKind.i64 1)], argTypes := #[23, 3] } from rfl) Tryz.func9 (by kernel_rfl) (by kernel_rfl) (ho) (by rfl) (by rfl) ⟨blkIn 3 (by rfl), mapIn 4 (by rfl), filIn 5 (by rfl), laidIn 8 (by rfl), trivial⟩ (fun _ => by rfl)) (by rfl) (by rfl) ?_
    rintro ⟨g2, ⟨pA, pc⟩, Sp⟩ hSp
    dsimp only at hSp ⊢
    refine Ent.pick [1, 2, 3, 4, 5, 6, 7, 8, 11] (by rfl) ?_
    refine Ls.ev (some 101) (Ev.move (show Oper.op _ = Op.move (Operand.tmp 103) from rfl) (by rfl)) (by rfl) (by rfl) ?_
    refine Ls.ev (some 104) (Ev.extract (show Oper.op _ = Op.extract (Operand.tmp 101) 0 from rfl) (by rfl) (by rfl)) (by rfl) (by rfl) ?_
    refine Ls.ev (some 105) (Ev.extract (show Oper.op _ = Op.extract (Operand.tmp 101) 1 from rfl) (by rfl) (by rfl)) (by rfl) (by rfl) ?_
    refine Ls.ev (some 106) (Ev.extract (show Oper.op _ = Op.extract (Operand.tmp 101) 2 from rfl) (by rfl) (by rfl)) (by rfl) (by rfl) ?_
    refine Ls.ev (some 12) (Ev.assign (show Oper.op _ = Op.assign (Operand.tmp 104) from rfl) (by rfl)) (by rfl) (by rfl) ?_
    refine Ls.ev (some 13) (Ev.assign (show Oper.op _ = Op.assign (Operand.tmp 105) from rfl) (by rfl)) (by rfl) (by rfl) ?_
    refine Ls.ev (some 14) (Ev.assign (show Oper.op _ = Op.assign (Operand.tmp 106) from rfl) (by rfl)) (by rfl) (by rfl) ?_
    refine Ls.nil ?_
    refine Cd.seq ?_
    refine Cd.region ?_
    refine Ls.ev (some 108) (Ev.move (show Oper.op _ = Op.move (Operand.tmp 3) from rfl) (by rfl)) (by rfl) (by rfl) ?_
    refine Ls.does (some 109) (Does.readN (show Oper.op _ = Op.call { callee := Callee.value (Operand.func 9), args := #[Operand.tmp 108, Operand.const (Value.int IntKind.i64 1)], argTypes := #[23, 3] } from rfl) Tryz.func9 (by kernel_rfl) (by kernel_rfl) (ho) (by rfl) (by rfl) ⟨blkIn 5 (by rfl), mapIn 6 (by rfl), filIn 7 (by rfl), laidIn 8 (by rfl), trivial⟩ (fun _ => by rfl)) (by rfl) (by rfl) ?_
    rintro ⟨g3, ⟨qA, qc⟩, Sq⟩ hSq
    dsimp only at hSq ⊢
    refine Ent.pick [3, 4, 1, 2, 5, 6] (by rfl) ?_
    refine Ls.ev (some 107) (Ev.move (show Oper.op _ = Op.move (Operand.tmp 109) from rfl) (by rfl)) (by rfl) (by rfl) ?_
    refine Ls.ev (some 110) (Ev.extract (show Oper.op _ = Op.extract (Operand.tmp 107) 0 from rfl) (by rfl) (by rfl)) (by rfl) (by rfl) ?_
    refine Ls.ev (some 111) (Ev.extract (show Oper.op _ = Op.extract (Operand.tmp 107) 1 from rfl) (by rfl) (by rfl)) (by rfl) (by rfl) ?_
    refine Ls.ev (some 112) (Ev.extract (show Oper.op _ = Op.extract (Operand.tmp 107) 2 from rfl) (by rfl) (by rfl)) (by rfl) (by rfl) ?_
    refine Ls.ev (some 15) (Ev.assign (show Oper.op _ = Op.assign (Operand.tmp 110) from rfl) (by rfl)) (by rfl) (by rfl) ?_
    refine Ls.ev (some 16) (Ev.assign (show Oper.op _ = Op.assign (Operand.tmp 111) from rfl) (by rfl)) (by rfl) (by rfl) ?_
    refine Ls.ev (some 17) (Ev.assign (show Oper.op _ = Op.assign (Operand.tmp 112) from rfl) (by rfl)) (by rfl) (by rfl) ?_
    refine Ls.nil ?_
    refine Cd.seq ?_
    refine Cd.seq ?_
    refine Cd.region ?_
    refine Ls.ev (some 113) (Ev.move (show Oper.op _ = Op.move (Operand.tmp 13) from rfl) (by rfl)) (by rfl) (by rfl) ?_
    refine Ls.ev (some 114) (Ev.len (show Oper.op _ = Op.call { callee := Callee.builtin Builtin.len, args := #[Operand.tmp 113], argTypes := #[22] } from rfl) (by rfl) Tryz.underlying22) (by rfl) (by rfl) ?_
    refine Ls.ev (some 115) (Ev.move (show Oper.op _ = Op.move (Operand.const (Value.int IntKind.i64 0)) from rfl) (by rfl)) (by rfl) (by rfl) ?_
    refine Ls.nil ?_
    refine Cd.block ?_
    have hSpl : Sp.length ≤ 20 := by
      have := congrArg List.length hSp
      rw [List.length_map, List.length_take] at this
      omega
    have hsh : ∀ s ∈ Sp, s.l.length ≤ 700 := fun s hs => by
      have : s.l ∈ ps.take k := hSp ▸ List.mem_map_of_mem hs
      have := List.mem_of_mem_take this
      rw [hps] at this
      obtain ⟨t, _, ht⟩ := List.mem_map.1 this
      rw [← ht]
      exact cutP_len _
    refine Cd.loop (ι := Nat × List ByS) (fun p => [(7, .slice wA U.length wc), (13, .slice pA Sp.length pc), (16, .slice qA Sq.length qc), (114, .int .i64 Sp.length), (115, .int .i64 p.1)]) (fun p => [row pA Sp.length pc 30 1 (p.2.map ByS.v), payX p.2, payW qA qc Sq, payX Sq, payW wA wc U, payX U]) (fun p => p.1 ≤ Sp.length ∧ p.2.length = Sp.length ∧ ∀ j s, p.1 ≤ j → p.2[j]? = some s → s.l.length ≤ 700) (fun p => Sp.length - p.1) ((0, Sp)) (⟨Nat.zero_le _, rfl, fun j s _ hs => hsh s (List.mem_of_getElem? hs)⟩) ?_ rfl ?_
    · (repeat (first | exact trivial | refine ⟨by rfl, ?_⟩))
    rintro ⟨i, T⟩ ⟨hi, hT, hTl⟩
    dsimp only at hi hT hTl ⊢
    refine Cd.seq ?_
    refine Cd.region ?_
    refine Ls.ev (some 116) (Ev.lss (show Oper.op _ = Op.binOp BinOp.lss 3 (Operand.tmp 115) (Operand.tmp 114) 3 from rfl) (by rfl) (by rfl)) (by rfl) (by rfl) ?_
    refine Ls.nil ?_
    refine Cd.seq ?_
    refine Cd.cond _ (by rfl) (fun h4 => ?_) (fun h4 => ?_)
    · skip
      have hil : i < Sp.length := by have := of_decide_eq_true h4; omega
      obtain ⟨z, hz⟩ := get_of_lt (show i < T.length by omega)
      have hzl := hTl i z (Nat.le_refl _) hz
      obtain ⟨a, b, hab, hal⟩ : ∃ a b, T = a ++ z :: b ∧ a.length = i := by
        refine ⟨T.take i, T.drop (i + 1), ?_, by rw [List.length_take]; omega⟩
        have h1 := List.take_append_drop i T
        rw [List.drop_eq_getElem_cons (show i < T.length by omega)] at h1
        have h2 : T[i]'(show i < T.length by omega) = z := by
          rw [List.getElem?_eq_getElem (show i < T.length by omega)] at hz
          exact Option.some.inj hz
        rw [h2] at h1
        exact h1.symm
      subst hab
      obtain ⟨zA, zc, zl⟩ := z
      dsimp only at hzl
      have hTi := hT
      refine Ent.pick [1, 0, 2, 3, 4, 5] (by rfl) ?_
      refine Ent.map (fun w hs => pay_open hs) ?_
      refine Ent.rowSome 2 (by rfl) (by omega) (fun pd hpd => ?_)
      subst hpd
      refine Cd.skip ?_
      refine Cd.seq ?_
      refine Cd.block ?_
      refine Cd.seq ?_
      refine Cd.region ?_
      refine Ls.ev (some 117) (Ev.move (show Oper.op _ = Op.move (Operand.tmp 115) from rfl) (by rfl)) (by rfl) (by rfl) ?_
      refine Ls.ev (some 18) (Ev.assign (show Oper.op _ = Op.assign (Operand.tmp 117) from rfl) (by rfl)) (by rfl) (by rfl) ?_
      refine Ls.nil ?_
      refine Cd.seq ?_
      refine Cd.seq ?_
      refine Cd.region ?_
      refine Ls.ev (some 118) (Ev.move (show Oper.op _ = Op.move (Operand.tmp 13) from rfl) (by rfl)) (by rfl) (by rfl) ?_
      refine Ls.ev (some 119) (Ev.move (show Oper.op _ = Op.move (Operand.tmp 18) from rfl) (by rfl)) (by rfl) (by rfl) ?_
      refine Ls.ev (some 120) (Ev.indexAt (sz := 1) (show Oper.op _ = Op.indexAddr 22 (Operand.tmp 118) (Operand.tmp 119) from rfl) (by rfl) (by rfl) Tryz.underlying22 (by kernel_rfl) (by omega)) (by rfl) (by rfl) ?_
      refine Ls.ev (some 121) (Ev.loadV (show Oper.op _ = Op.load 30 (Operand.tmp 120) from rfl) (by rfl) (ReadsIn.row 2 (by rfl)) (by kernel_rfl) (mid_get hal)) (by rfl) (by rfl) ?_
      refine Ls.ev (some 122) (Ev.len (show Oper.op _ = Op.call { callee := Callee.builtin Builtin.len, args := #[Operand.tmp 121], argTypes := #[30] } from rfl) (by rfl) Tryz.underlying30) (by rfl) (by rfl) ?_
      refine Ls.ev (some 123) (Ev.move (show Oper.op _ = Op.move (Operand.const (Value.int IntKind.i64 0)) from rfl) (by rfl)) (by rfl) (by rfl) ?_
      refine Ls.nil ?_
      refine Cd.block ?_
      refine Cd.loop (ι := Nat × List UInt8) (fun p => [(7, .slice wA U.length wc), (13, .slice (some pd) Sp.length pc), (16, .slice qA Sq.length qc), (18, .int .i64 i), (114, .int .i64 Sp.length), (115, .int .i64 i), (122, .int .i64 zl.length), (123, .int .i64 p.1)]) (fun p => [row zA zl.length zc 5 1 (u8s p.2), payX (a ++ b), row (some pd) Sp.length pc 30 1 ((a ++ ⟨zA, zc, zl⟩ :: b).map ByS.v), payW qA qc Sq, payX Sq, payW wA wc U, payX U]) (fun p => p.1 ≤ zl.length ∧ p.2.length = zl.length) (fun p => zl.length - p.1) ((0, zl)) (⟨Nat.zero_le _, rfl⟩) ?_ rfl ?_
      · (repeat (first | exact trivial | refine ⟨by rfl, ?_⟩))
      rintro ⟨j, l⟩ ⟨hj, hl⟩
      dsimp only at hj hl ⊢
      refine Cd.seq ?_
      refine Cd.region ?_
      refine Ls.ev (some 124) (Ev.lss (show Oper.op _ = Op.binOp BinOp.lss 3 (Operand.tmp 123) (Operand.tmp 122) 3 from rfl) (by rfl) (by rfl)) (by rfl) (by rfl) ?_
      refine Ls.nil ?_
      refine Cd.seq ?_
      refine Cd.cond _ (by rfl) (fun h5 => ?_) (fun h5 => ?_)
      · skip
        have hjl : j < zl.length := by have := of_decide_eq_true h5; omega
        refine Ent.rowSome 0 (by rfl) (by omega) (fun zd hzd => ?_)
        subst hzd
        refine Cd.skip ?_
        refine Cd.seq ?_
        refine Cd.block ?_
        refine Cd.seq ?_
        refine Cd.region ?_
        refine Ls.ev (some 125) (Ev.move (show Oper.op _ = Op.move (Operand.tmp 123) from rfl) (by rfl)) (by rfl) (by rfl) ?_
        refine Ls.ev (some 19) (Ev.assign (show Oper.op _ = Op.assign (Operand.tmp 125) from rfl) (by rfl)) (by rfl) (by rfl) ?_
        refine Ls.nil ?_
        refine Cd.region ?_
        refine Ls.ev (some 126) (Ev.move (show Oper.op _ = Op.move (Operand.tmp 13) from rfl) (by rfl)) (by rfl) (by rfl) ?_
        refine Ls.ev (some 127) (Ev.move (show Oper.op _ = Op.move (Operand.tmp 18) from rfl) (by rfl)) (by rfl) (by rfl) ?_
        refine Ls.ev (some 128) (Ev.indexAt (sz := 1) (show Oper.op _ = Op.indexAddr 22 (Operand.tmp 126) (Operand.tmp 127) from rfl) (by rfl) (by rfl) Tryz.underlying22 (by kernel_rfl) (by omega)) (by rfl) (by rfl) ?_
        refine Ls.ev (some 129) (Ev.loadV (show Oper.op _ = Op.load 30 (Operand.tmp 128) from rfl) (by rfl) (ReadsIn.row 2 (by rfl)) (by kernel_rfl) (mid_get hal)) (by rfl) (by rfl) ?_
        refine Ls.ev (some 130) (Ev.move (show Oper.op _ = Op.move (Operand.tmp 19) from rfl) (by rfl)) (by rfl) (by rfl) ?_
        refine Ls.ev (some 131) (Ev.indexAt (sz := 1) (show Oper.op _ = Op.indexAddr 30 (Operand.tmp 129) (Operand.tmp 130) from rfl) (by rfl) (by rfl) Tryz.underlying30 (by kernel_rfl) (by omega)) (by rfl) (by rfl) ?_
        refine Ls.does none (Does.storeEl (k := j) 0 (show Oper.op _ = Op.store 5 (Operand.tmp 131) (Operand.const (Value.int IntKind.u8 9)) from rfl) (by rfl) (by rfl) (by rfl) rfl (by kernel_rfl) rfl hjl (u8s_set l j 9)) (by rfl) (by rfl) ?_
        rintro _ -
        refine Ls.nil ?_
        refine Cd.region ?_
        refine Ls.ev (some 132) (Ev.addN (b := 1) (show Oper.op _ = Op.binOp BinOp.add 3 (Operand.tmp 123) (Operand.const (Value.int IntKind.i64 1)) 3 from rfl) (by rfl) (by rfl) (by omega)) (by rfl) (by rfl) ?_
        refine Ls.ev (some 123) (Ev.move (show Oper.op _ = Op.move (Operand.tmp 132) from rfl) (by rfl)) (by rfl) (by rfl) ?_
        refine Ls.nil ?_
        refine Ent.inv ((j + 1, l.set j 9)) ?_ ?_ ?_
        · (try dsimp only); exact ⟨⟨hjl, by rw [List.length_set]; exact hl⟩, by omega⟩
        · (repeat (first | exact trivial | refine ⟨by rfl, ?_⟩ | refine ⟨by simp only [List.length_append, List.length_cons, List.length_nil]; rfl, ?_⟩ | refine ⟨by push_cast; rfl, ?_⟩))
        · rfl
      · skip
        refine Cd.exit ?_
        refine Cd.seq ?_
        refine Cd.region ?_
        refine Ls.ev (some 20) (Ev.assign (show Oper.op _ = Op.assign (Operand.const (Value.int IntKind.i64 0)) from rfl) (by rfl)) (by rfl) (by rfl) ?_
        refine Ls.nil ?_
        refine Cd.block ?_
        have hv : (a ++ (⟨zA, zc, zl⟩ : ByS) :: b).map ByS.v = (a ++ (⟨zA, zc, l⟩ : ByS) :: b).map ByS.v := by
          rw [List.map_append, List.map_append, List.map_cons, List.map_cons]
          dsimp only [ByS.v]
          rw [hl]
        rw [hv, ← hl]
        refine Cd.loop (ι := Nat × Option Addr × Nat × List UInt8) (fun p => [(7, .slice wA U.length wc), (13, .slice (some pd) Sp.length pc), (16, .slice qA Sq.length qc), (18, .int .i64 i), (20, .int .i64 p.1), (114, .int .i64 Sp.length), (115, .int .i64 i)]) (fun p => [row p.2.1 p.2.2.2.length p.2.2.1 5 1 (u8s p.2.2.2), payX (a ++ b), row (some pd) Sp.length pc 30 1 ((a ++ ⟨p.2.1, p.2.2.1, p.2.2.2⟩ :: b).map ByS.v), payW qA qc Sq, payX Sq, payW wA wc U, payX U]) (fun p => p.1 ≤ 20 ∧ p.2.2.2.length ≤ 700 + p.1) (fun p => 20 - p.1) ((0, zA, zc, l)) (⟨Nat.zero_le _, by show l.length ≤ 700; omega⟩) ?_ rfl ?_
        · (repeat (first | exact trivial | refine ⟨by rfl, ?_⟩))
        rintro ⟨e, yA, yc, y⟩ ⟨he, hy⟩
        dsimp only at he hy ⊢
        refine Cd.seq ?_
        refine Cd.seq ?_
        refine Cd.region ?_
        refine Ls.ev (some 133) (Ev.move (show Oper.op _ = Op.move (Operand.tmp 20) from rfl) (by rfl)) (by rfl) (by rfl) ?_
        refine Ls.ev (some 134) (Ev.lss (show Oper.op _ = Op.binOp BinOp.lss 3 (Operand.tmp 133) (Operand.const (Value.int IntKind.i64 20)) 3 from rfl) (by rfl) (by rfl)) (by rfl) (by rfl) ?_
        refine Ls.nil ?_
        refine Cd.cond _ (by rfl) (fun h6 => ?_) (fun h6 => ?_)
        · skip
          have he2 : e < 20 := by have := of_decide_eq_true h6; omega
          refine Cd.skip ?_
          refine Cd.seq ?_
          refine Cd.block ?_
          refine Cd.region ?_
          refine Ls.ev (some 137) (Ev.move (show Oper.op _ = Op.move (Operand.tmp 13) from rfl) (by rfl)) (by rfl) (by rfl) ?_
          refine Ls.ev (some 138) (Ev.move (show Oper.op _ = Op.move (Operand.tmp 18) from rfl) (by rfl)) (by rfl) (by rfl) ?_
          refine Ls.ev (some 139) (Ev.move (show Oper.op _ = Op.move (Operand.tmp 13) from rfl) (by rfl)) (by rfl) (by rfl) ?_
          refine Ls.ev (some 140) (Ev.move (show Oper.op _ = Op.move (Operand.tmp 18) from rfl) (by rfl)) (by rfl) (by rfl) ?_
          refine Ls.ev (some 141) (Ev.indexAt (sz := 1) (show Oper.op _ = Op.indexAddr 22 (Operand.tmp 139) (Operand.tmp 140) from rfl) (by rfl) (by rfl) Tryz.underlying22 (by kernel_rfl) (by omega)) (by rfl) (by rfl) ?_
          refine Ls.ev (some 142) (Ev.loadV (show Oper.op _ = Op.load 30 (Operand.tmp 141) from rfl) (by rfl) (ReadsIn.row 2 (by rfl)) (by kernel_rfl) (mid_get hal)) (by rfl) (by rfl) ?_
          refine Ls.does (some 143) (Does.lit (sz := 1) (show Oper.op _ = Op.buildSlice 30 1 #[(0, Operand.const (Value.int IntKind.u8 8))] from rfl) (by rfl) Tryz.underlying30 (by kernel_rfl) (by rfl) (by kernel_rfl)) (by rfl) (by rfl) ?_
          intro g1 _
          refine Ls.does (some 144) (Does.app (xs := u8s y) (news := u8s [8]) 1 (show Oper.op _ = Op.call { callee := Callee.builtin Builtin.append, args := #[Operand.tmp 142, Operand.tmp 143], argTypes := #[30, 30] } from rfl) (by rfl) (by rfl) (by rfl) (ReadsIn.row 0 (by rfl)) elem_b (u8s_one _) (show (y.length + 1) * 1 ≤ 140737488355328 by omega)) (by rfl) (by rfl) ?_
          rintro ⟨nA, nc⟩ -
          dsimp only
          have hrow : row nA (y.length + 1) nc 5 1 (u8s y ++ u8s [8]) = rowB nA nc (y ++ [8]) := by
            dsimp only [rowB]
            rw [List.length_append, u8s_append]
            rfl
          rw [hrow]
          refine Ls.ev (some 145) (Ev.indexAt (sz := 1) (show Oper.op _ = Op.indexAddr 22 (Operand.tmp 137) (Operand.tmp 138) from rfl) (by rfl) (by rfl) Tryz.underlying22 (by kernel_rfl) (by omega)) (by rfl) (by rfl) ?_
          refine Ls.does none (Does.storeEl (k := i) (xs' := (a ++ ⟨nA, nc, y ++ [8]⟩ :: b).map ByS.v) 3 (show Oper.op _ = Op.store 30 (Operand.tmp 145) (Operand.tmp 144) from rfl) (by rfl) (by rfl) (by rfl) rfl (by kernel_rfl) rfl hil (by
            have h1 := mid_set (b := b) (z := ⟨yA, yc, y⟩) (y := ⟨nA, nc, y ++ [8]⟩) hal
            rw [← h1]
            show List.set _ _ (Value.slice nA (y.length + 1) nc) = List.set _ _ (Value.slice nA (y ++ [8]).length nc)
            rw [List.length_append]
            rfl)) (by rfl) (by rfl) ?_
          rintro _ -
          refine Ls.nil ?_
          refine Cd.region ?_
          refine Ls.ev (some 135) (Ev.move (show Oper.op _ = Op.move (Operand.tmp 20) from rfl) (by rfl)) (by rfl) (by rfl) ?_
          refine Ls.ev (some 136) (Ev.addN (b := 1) (show Oper.op _ = Op.binOp BinOp.add 3 (Operand.tmp 135) (Operand.const (Value.int IntKind.i64 1)) 3 from rfl) (by rfl) (by rfl) (by omega)) (by rfl) (by rfl) ?_
          refine Ls.ev (some 20) (Ev.assign (show Oper.op _ = Op.assign (Operand.tmp 136) from rfl) (by rfl)) (by rfl) (by rfl) ?_
          refine Ls.nil ?_
          refine Ent.pick [1, 2, 3, 4, 5, 6, 7] (by rfl) ?_
          refine Ent.inv ((e + 1, nA, nc, y ++ [8])) ?_ ?_ ?_
          · (try dsimp only); exact ⟨⟨he2, by rw [List.length_append, List.length_singleton]; omega⟩, by omega⟩
          · (repeat (first | exact trivial | refine ⟨by rfl, ?_⟩ | refine ⟨by simp only [List.length_append, List.length_cons, List.length_nil]; rfl, ?_⟩ | refine ⟨by push_cast; rfl, ?_⟩))
          · rfl
        · skip
          refine Cd.exit ?_
          refine Cd.region ?_
          refine Ls.ev (some 146) (Ev.addN (b := 1) (show Oper.op _ = Op.binOp BinOp.add 3 (Operand.tmp 115) (Operand.const (Value.int IntKind.i64 1)) 3 from rfl) (by rfl) (by rfl) (by omega)) (by rfl) (by rfl) ?_
          refine Ls.ev (some 115) (Ev.move (show Oper.op _ = Op.move (Operand.tmp 146) from rfl) (by rfl)) (by rfl) (by rfl) ?_
          refine Ls.nil ?_
          refine Ent.map (fun w hs => pay_shut (a := a) (b := b) (z := ⟨yA, yc, y⟩) hs) ?_
          refine Ent.pick [1, 0, 2, 3, 4, 5] (by rfl) ?_
          refine Ent.inv ((i + 1, a ++ ⟨yA, yc, y⟩ :: b)) ?_ ?_ ?_
          · (try dsimp only); exact ⟨⟨hil, by simpa using hT, fun j s hj hs => hTl j s (by omega) (by rw [← hs]; exact mid_far hal (by omega))⟩, by omega⟩
          · (repeat (first | exact trivial | refine ⟨by rfl, ?_⟩ | refine ⟨by simp only [List.length_append, List.length_cons, List.length_nil]; rfl, ?_⟩ | refine ⟨by push_cast; rfl, ?_⟩))
          · rfl
    · skip
      refine Cd.exit ?_
      refine Cd.seq ?_
      refine Cd.region ?_
      refine Ls.ev (some 147) (Ev.move (show Oper.op _ = Op.move (Operand.tmp 16) from rfl) (by rfl)) (by rfl) (by rfl) ?_
      refine Ls.ev (some 148) (Ev.move (show Oper.op _ = Op.move (Operand.tmp 7) from rfl) (by rfl)) (by rfl) (by rfl) ?_
      refine Ls.does (some 149) (Does.read (show Oper.op _ = Op.call { callee := Callee.value (Operand.func 12), args := #[Operand.tmp 147, Operand.tmp 148], argTypes := #[22, 22] } from rfl) Tryz.func12 (by kernel_rfl) (by kernel_rfl) (same_sl qA wA qc wc Sq U (by have := congrArg List.length hSq; rw [List.length_map, List.length_take] at this; omega) (by omega)) (by rfl) (by rfl) ⟨ReadsIn.row 2 (by rfl), payIn 3 (by rfl), ReadsIn.row 4 (by rfl), payIn 5 (by rfl), trivial⟩) (by rfl) (by rfl) ?_
      rintro _ -
      rw [show Sq.map ByS.l = U.map ByS.l from hSq.trans hU.symm, decide_eq_true rfl]
      refine Ls.ev (some 2) (Ev.assign (show Oper.op _ = Op.assign (Operand.tmp 149) from rfl) (by rfl)) (by rfl) (by rfl) ?_
      refine Ls.nil ?_
      refine Cd.ret ?_
      refine Ent.ret (()) (trivial) (Res.tmp (by rfl) (by rfl)) ?_ [] (by rfl) ?_
      · rfl
      · rfl
end Go.Proofs.YtceanciekadkeaaGreatDoor
/- walks: a log's Drop -/
namespace Go.Proofs.YtceanciekadkeaaGreatDoor
open Go.RowKit
theorem drop_sl {D : DrS} {P : DrP} (h : Drv D P) (g : Nat) (L : LgP) (hL : L.seg ≤ 1000000) (before : Int) : Fn Tryz.prog 20 #[ptrV g, .int .i64 before] [lgB g D.d L, D.B, D.M, D.F, laidC] DrS (fun _ => .int .i64 (dropL P L before).2.2) (fun D' => [lgB g D.d (dropL P L before).2.1, D'.B, D'.M, D'.F]) (fun D' => Drv D' (dropL P L before).1 ∧ D'.d = D.d ∧ D'.m = D.m) := by
  obtain ⟨s, b⟩ := L
  unfold dropL
  cases b
  rotate_left
  · rw [if_pos rfl]
    refine Fn.enter Tryz.func20 rfl Tryz.ntmps20 (by rfl) ?_
    intro w0
    refine Cd.seq ?_
    refine Cd.region ?_
    refine Ls.ev (some 4) (Ev.assign (show Oper.op _ = Op.assign (Operand.const (Value.int IntKind.i64 0)) from rfl) (by rfl)) (by rfl) (by rfl) ?_
    refine Ls.nil ?_
    refine Cd.seq ?_
    refine Cd.seq ?_
    refine Cd.region ?_
    refine Ls.ev (some 8) (Ev.move (show Oper.op _ = Op.move (Operand.tmp 0) from rfl) (by rfl)) (by rfl) (by rfl) ?_
    refine Ls.ev (some 9) (Ev.nilCheck (show Oper.op _ = Op.nilCheck (Operand.tmp 8) from rfl) (by rfl)) (by rfl) (by rfl) ?_
    refine Ls.ev (some 10) (Ev.fieldAddr (k := 2) (show Oper.op _ = Op.fieldAddr 70 (Operand.tmp 9) 2 from rfl) (by rfl) (by kernel_rfl) (by rfl)) (by rfl) (by rfl) ?_
    refine Ls.ev (some 11) (Ev.load 0 (show Oper.op _ = Op.load 4 (Operand.tmp 10) from rfl) (by rfl) (by rfl) (by kernel_rfl) (by rfl)) (by rfl) (by rfl) ?_
    refine Ls.nil ?_
    refine Cd.cond_true (by rfl) (rfl) ?_
    refine Cd.seq ?_
    refine Cd.region ?_
    refine Ls.ev (some 4) (Ev.assign (show Oper.op _ = Op.assign (Operand.const (Value.int IntKind.i64 6)) from rfl) (by rfl)) (by rfl) (by rfl) ?_
    refine Ls.nil ?_
    refine Cd.ret ?_
    refine Ent.ret (D) (⟨h, rfl, rfl⟩) (Res.tmp (by rfl) (by rfl)) ?_ [0, 1, 2, 3] (by rfl) ?_
    · rfl
    · rfl
  dsimp only
  rw [if_neg (by decide)]
  have hsg := segs_sl h
  have hln : (segsP P).length ≤ 256 := by
    have := segsN_len (P.fs.map FiP.nm)
    rw [List.length_map] at this
    have h2 := h.ok.len
    show (segsN _).length ≤ _
    omega
  have hmem : ∀ n ∈ segsP P, n ≤ 999999 := fun n hn => (segsN_mem hn).2.1
  generalize segsP P = ns at hsg hln hmem ⊢
  refine Fn.enter Tryz.func20 rfl Tryz.ntmps20 (by rfl) ?_
  intro w0
  refine Cd.seq ?_
  refine Cd.region ?_
  refine Ls.ev (some 4) (Ev.assign (show Oper.op _ = Op.assign (Operand.const (Value.int IntKind.i64 0)) from rfl) (by rfl)) (by rfl) (by rfl) ?_
  refine Ls.nil ?_
  refine Cd.seq ?_
  refine Cd.seq ?_
  refine Cd.region ?_
  refine Ls.ev (some 8) (Ev.move (show Oper.op _ = Op.move (Operand.tmp 0) from rfl) (by rfl)) (by rfl) (by rfl) ?_
  refine Ls.ev (some 9) (Ev.nilCheck (show Oper.op _ = Op.nilCheck (Operand.tmp 8) from rfl) (by rfl)) (by rfl) (by rfl) ?_
  refine Ls.ev (some 10) (Ev.fieldAddr (k := 2) (show Oper.op _ = Op.fieldAddr 70 (Operand.tmp 9) 2 from rfl) (by rfl) (by kernel_rfl) (by rfl)) (by rfl) (by rfl) ?_
  refine Ls.ev (some 11) (Ev.load 0 (show Oper.op _ = Op.load 4 (Operand.tmp 10) from rfl) (by rfl) (by rfl) (by kernel_rfl) (by rfl)) (by rfl) (by rfl) ?_
  refine Ls.nil ?_
  refine Cd.cond_false (by rfl) (rfl) ?_
  refine Cd.skip ?_
  refine Cd.seq ?_
  refine Cd.seq ?_
  refine Cd.region ?_
  refine Ls.ev (some 12) (Ev.move (show Oper.op _ = Op.move (Operand.tmp 0) from rfl) (by rfl)) (by rfl) (by rfl) ?_
  refine Ls.ev (some 13) (Ev.nilCheck (show Oper.op _ = Op.nilCheck (Operand.tmp 12) from rfl) (by rfl)) (by rfl) (by rfl) ?_
  refine Ls.ev (some 14) (Ev.fieldAddr (k := 0) (show Oper.op _ = Op.fieldAddr 70 (Operand.tmp 13) 0 from rfl) (by rfl) (by kernel_rfl) (by rfl)) (by rfl) (by rfl) ?_
  refine Ls.ev (some 15) (Ev.load 0 (show Oper.op _ = Op.load 23 (Operand.tmp 14) from rfl) (by rfl) (by rfl) (by kernel_rfl) (by rfl)) (by rfl) (by rfl) ?_
  refine Ls.does (some 16) (Does.readN (show Oper.op _ = Op.call { callee := Callee.value (Operand.func 26), args := #[Operand.tmp 15], argTypes := #[23] } from rfl) Tryz.func26 (by kernel_rfl) (by kernel_rfl) (hsg) (by rfl) (by rfl) ⟨blkIn 1 (by rfl), mapIn 2 (by rfl), laidIn 4 (by rfl), trivial⟩ (fun _ => by rfl)) (by rfl) (by rfl) ?_
  rintro ⟨sA, sc⟩ -
  refine Ent.see 0 (by rfl) ?_
  refine Ent.pick [1, 2, 3, 4, 0, 5] (by rfl) ?_
  skip
  refine Ls.ev (some 17) (Ev.len (show Oper.op _ = Op.call { callee := Callee.builtin Builtin.len, args := #[Operand.tmp 16], argTypes := #[35] } from rfl) (by rfl) Tryz.underlying35) (by rfl) (by rfl) ?_
  refine Ls.ev (some 18) (Ev.move (show Oper.op _ = Op.move (Operand.const (Value.int IntKind.i64 0)) from rfl) (by rfl)) (by rfl) (by rfl) ?_
  refine Ls.nil ?_
  refine Cd.block ?_
  refine Cd.loop (ι := Nat × DrS × DrP) (fun p => [(0, ptrV g), (1, .int .i64 before), (16, .slice sA ns.length sc), (17, .int .i64 ns.length), (18, .int .i64 p.1)]) (fun p => [lgB g D.d ⟨s, false⟩, p.2.1.B, p.2.1.M, p.2.1.F, rd sA ns.length 1 (nats ns), laidC]) (fun p => p.1 ≤ ns.length ∧ Drv p.2.1 p.2.2 ∧ p.2.1.d = D.d ∧ p.2.1.m = D.m ∧ dropF before (ns.drop p.1) p.2.2 ⟨s, false⟩ = dropF before ns P ⟨s, false⟩) (fun p => ns.length - p.1) ((0, D, P)) (⟨Nat.zero_le _, h, rfl, rfl, rfl⟩) ?_ rfl ?_
  · (repeat (first | exact trivial | refine ⟨by rfl, ?_⟩))
  rintro ⟨k, E, Q⟩ ⟨hk, hE, hEd, hEm, hdr⟩
  dsimp only at hk hE hEd hEm hdr ⊢
  refine Cd.seq ?_
  refine Cd.region ?_
  refine Ls.ev (some 19) (Ev.lss (show Oper.op _ = Op.binOp BinOp.lss 3 (Operand.tmp 18) (Operand.tmp 17) 3 from rfl) (by rfl) (by rfl)) (by rfl) (by rfl) ?_
  refine Ls.nil ?_
  refine Cd.seq ?_
  refine Cd.cond _ (by rfl) (fun h2 => ?_) (fun h2 => ?_)
  · skip
    have hlt : k < ns.length := by have := of_decide_eq_true h2; omega
    obtain ⟨n, hn⟩ := get_of_lt hlt
    have hn2 := hmem n (List.mem_of_getElem? hn)
    have hdk : ns.drop k = n :: ns.drop (k + 1) := by
      rw [List.drop_eq_getElem_cons hlt]
      congr 1
      rw [List.getElem?_eq_getElem hlt] at hn
      exact Option.some.inj hn
    rw [hdk, dropF] at hdr
    dsimp only at hdr
    refine Ent.rdSome 4 (by rfl) (by omega) (fun ad had => ?_)
    subst had
    refine Cd.skip ?_
    refine Cd.seq ?_
    refine Cd.block ?_
    refine Cd.seq ?_
    refine Cd.region ?_
    refine Ls.ev (some 20) (Ev.indexAt (sz := 1) (show Oper.op _ = Op.indexAddr 35 (Operand.tmp 16) (Operand.tmp 18) from rfl) (by rfl) (by rfl) Tryz.underlying35 (by kernel_rfl) (by omega)) (by rfl) (by rfl) ?_
    refine Ls.ev (some 21) (Ev.loadNat (show Oper.op _ = Op.load 3 (Operand.tmp 20) from rfl) (by rfl) (ReadsIn.rd 4 (by rfl)) (by kernel_rfl) hn) (by rfl) (by rfl) ?_
    refine Ls.ev (some 6) (Ev.assign (show Oper.op _ = Op.assign (Operand.tmp 21) from rfl) (by rfl)) (by rfl) (by rfl) ?_
    refine Ls.nil ?_
    refine Cd.seq ?_
    refine Cd.seq ?_
    refine Cd.cut (ι := Unit) (fun _ => [(0, ptrV g), (1, .int .i64 before), (6, .int .i64 n), (16, .slice (some ad) ns.length sc), (17, .int .i64 ns.length), (18, .int .i64 k), (32, .bool (decide (before ≤ (n : Int) ∨ n = s)))]) (fun _ => [lgB g D.d ⟨s, false⟩, E.B, E.M, E.F, rd (some ad) ns.length 1 (nats ns), laidC]) (fun _ => True) ?_ ?_
    · skip
      refine Cd.region ?_
      refine Ls.ev (some 22) (Ev.move (show Oper.op _ = Op.move (Operand.tmp 6) from rfl) (by rfl)) (by rfl) (by rfl) ?_
      refine Ls.ev (some 23) (Ev.move (show Oper.op _ = Op.move (Operand.tmp 1) from rfl) (by rfl)) (by rfl) (by rfl) ?_
      refine Ls.ev (some 24) (Ev.geq (show Oper.op _ = Op.binOp BinOp.geq 3 (Operand.tmp 22) (Operand.tmp 23) 3 from rfl) (by rfl) (by rfl)) (by rfl) (by rfl) ?_
      refine Ls.ev (some 25) (Ev.move (show Oper.op _ = Op.move (Operand.tmp 24) from rfl) (by rfl)) (by rfl) (by rfl) ?_
      refine Ent.split 25 (by rfl) (fun hT1 => ?_) (fun hT1 => ?_)
      · first | have hT1 := of_decide_eq_false hT1 | have hT1 := of_not_decide_false hT1 | skip
        refine Ls.ev (some 26) (Ev.move (show Oper.op _ = Op.move (Operand.tmp 6) from rfl) (by rfl)) (by rfl) (by rfl) ?_
        refine Ls.ev (some 27) (Ev.move (show Oper.op _ = Op.move (Operand.tmp 0) from rfl) (by rfl)) (by rfl) (by rfl) ?_
        refine Ls.ev (some 28) (Ev.nilCheck (show Oper.op _ = Op.nilCheck (Operand.tmp 27) from rfl) (by rfl)) (by rfl) (by rfl) ?_
        refine Ls.ev (some 29) (Ev.fieldAddr (k := 1) (show Oper.op _ = Op.fieldAddr 70 (Operand.tmp 28) 1 from rfl) (by rfl) (by kernel_rfl) (by rfl)) (by rfl) (by rfl) ?_
        refine Ls.ev (some 30) (Ev.load 0 (show Oper.op _ = Op.load 3 (Operand.tmp 29) from rfl) (by rfl) (by rfl) (by kernel_rfl) (by rfl)) (by rfl) (by rfl) ?_
        refine Ls.ev (some 31) (Ev.eql (show Oper.op _ = Op.binOp BinOp.eql 3 (Operand.tmp 26) (Operand.tmp 30) 3 from rfl) (by rfl) (by rfl)) (by rfl) (by rfl) ?_
        refine Ls.ev (some 32) (Ev.pickF (show Oper.op _ = Op.pick (Operand.tmp 25) (Operand.const (Value.bool true)) (Operand.tmp 31) from rfl) (by rfl) (by rfl)) (by rfl) (by rfl) ?_
        refine Ls.nil ?_
        refine Ent.inv () ?_ ?_ ?_
        · exact trivial
        · (repeat (first | exact trivial | refine ⟨by rfl, ?_⟩ | refine ⟨by simp only [List.length_append, List.length_cons, List.length_nil]; rfl, ?_⟩ | refine ⟨by push_cast; rfl, ?_⟩ | refine ⟨by (show some (Value.bool _) = some (Value.bool _); congr 2; (first | exact (decide_eq_decide.2 (by (try dsimp only); omega)) | exact (decide_eq_false (by (try dsimp only); omega)).symm | exact (decide_eq_true (by (try dsimp only); omega)).symm | exact decide_eq_true (by (try dsimp only); omega) | exact decide_eq_false (by (try dsimp only); omega))), ?_⟩))
        · rfl
      · first | have hT1 := of_decide_eq_true hT1 | have hT1 := of_not_decide_true hT1 | skip
        refine Ls.pass (some 26) (by rfl) (by rfl) ?_
        refine Ls.pass (some 27) (by rfl) (by rfl) ?_
        refine Ls.pass (some 28) (by rfl) (by rfl) ?_
        refine Ls.pass (some 29) (by rfl) (by rfl) ?_
        refine Ls.pass (some 30) (by rfl) (by rfl) ?_
        refine Ls.pass (some 31) (by rfl) (by rfl) ?_
        refine Ls.ev (some 32) (Ev.pickT (show Oper.op _ = Op.pick (Operand.tmp 25) (Operand.const (Value.bool true)) (Operand.tmp 31) from rfl) (by rfl) (by rfl)) (by rfl) (by rfl) ?_
        refine Ls.nil ?_
        refine Ent.inv () ?_ ?_ ?_
        · exact trivial
        · (repeat (first | exact trivial | refine ⟨by rfl, ?_⟩ | refine ⟨by simp only [List.length_append, List.length_cons, List.length_nil]; rfl, ?_⟩ | refine ⟨by push_cast; rfl, ?_⟩ | refine ⟨by (show some (Value.bool _) = some (Value.bool _); congr 2; (first | exact (decide_eq_decide.2 (by (try dsimp only); omega)) | exact (decide_eq_false (by (try dsimp only); omega)).symm | exact (decide_eq_true (by (try dsimp only); omega)).symm | exact decide_eq_true (by (try dsimp only); omega) | exact decide_eq_false (by (try dsimp only); omega))), ?_⟩))
        · rfl
    skip
    rintro _ -
    by_cases hc : before ≤ (n : Int) ∨ n = s
    · skip
      rw [if_pos hc] at hdr
      refine Cd.cond_true (by rfl) (decide_eq_true hc) ?_
      refine Cd.exit ?_
      refine Cd.region ?_
      refine Ls.ev (some 45) (Ev.addN (b := 1) (show Oper.op _ = Op.binOp BinOp.add 3 (Operand.tmp 18) (Operand.const (Value.int IntKind.i64 1)) 3 from rfl) (by rfl) (by rfl) (by omega)) (by rfl) (by rfl) ?_
      refine Ls.ev (some 18) (Ev.move (show Oper.op _ = Op.move (Operand.tmp 45) from rfl) (by rfl)) (by rfl) (by rfl) ?_
      refine Ls.nil ?_
      refine Ent.inv ((k + 1, E, Q)) ?_ ?_ ?_
      · (try dsimp only); exact ⟨⟨hlt, hE, hEd, hEm, hdr⟩, by omega⟩
      · (repeat (first | exact trivial | refine ⟨by rfl, ?_⟩ | refine ⟨by simp only [List.length_append, List.length_cons, List.length_nil]; rfl, ?_⟩ | refine ⟨by push_cast; rfl, ?_⟩))
      · rfl
    · skip
      rw [if_neg hc] at hdr
      refine Cd.cond_false (by rfl) (decide_eq_false hc) ?_
      skip
      refine Cd.skip ?_
      refine Cd.seq ?_
      refine Cd.draw [7] (by kernel_rfl) ?_
      refine Rg.mv 0 (by rfl) (fun _ h => h) (show Oper.op _ = Op.move (Operand.tmp 0) from rfl) (by rfl) (by rfl) (some 33) (by rfl) (by kernel_rfl) (by kernel_rfl) (by kernel_rfl) (by kernel_rfl) ?_
      refine Rg.ev 1 (by rfl) (fun _ h => h) (Ev.move (show Oper.op _ = Op.move (Operand.tmp 0) from rfl) (by rfl)) (by rfl) (some 34) (by rfl) (by kernel_rfl) (by kernel_rfl) (by kernel_rfl) (by kernel_rfl) ?_
      refine Rg.ev 2 (by rfl) (fun _ h => h) (Ev.nilCheck (show Oper.op _ = Op.nilCheck (Operand.tmp 34) from rfl) (by rfl)) (by rfl) (some 35) (by rfl) (by kernel_rfl) (by kernel_rfl) (by kernel_rfl) (by kernel_rfl) ?_
      refine Rg.ev 3 (by rfl) (fun _ h => h) (Ev.fieldAddr (k := 0) (show Oper.op _ = Op.fieldAddr 70 (Operand.tmp 35) 0 from rfl) (by rfl) (by kernel_rfl) (by rfl)) (by rfl) (some 36) (by rfl) (by kernel_rfl) (by kernel_rfl) (by kernel_rfl) (by kernel_rfl) ?_
      refine Rg.ev 4 (by rfl) (fun _ h => h) (Ev.load 0 (show Oper.op _ = Op.load 23 (Operand.tmp 36) from rfl) (by rfl) (by rfl) (by kernel_rfl) (by rfl)) (by rfl) (some 37) (by rfl) (by kernel_rfl) (by kernel_rfl) (by kernel_rfl) (by kernel_rfl) ?_
      refine Rg.ev 5 (by rfl) (fun _ h => h) (Ev.move (show Oper.op _ = Op.move (Operand.tmp 6) from rfl) (by rfl)) (by rfl) (some 38) (by rfl) (by kernel_rfl) (by kernel_rfl) (by kernel_rfl) (by kernel_rfl) ?_
      refine Rg.does 6 (by rfl) (by kernel_rfl) (Does.read (show Oper.op _ = Op.call { callee := Callee.value (Operand.func 28), args := #[Operand.tmp 38], argTypes := #[3] } from rfl) Tryz.func28 (by kernel_rfl) (by kernel_rfl) (name_sl n hn2) (by rfl) (by rfl) ⟨laidIn 5 (by rfl), trivial⟩) (by rfl) (some 39) (by rfl) (by exact fun _ _ h => h) ?_
      rintro _ -
      skip
      have hdl := delete_sl hE (nameP n) (nameP_good n)
      rw [DrS.ptr, hEd, hEm] at hdl
      refine Rg.tail 7 [8] (by rfl) (by kernel_rfl) (Does.call [1, 2, 3, 0, 4, 5] (show Oper.op _ = Op.call { callee := Callee.value (Operand.func 53), args := #[Operand.tmp 37, Operand.tmp 39], argTypes := #[23, 9] } from rfl) Tryz.func53 (by kernel_rfl) (by kernel_rfl) (hdl) (by rfl) (by rfl) (by rfl)) (by rfl) (some 40) (by rfl) (by kernel_rfl) (by kernel_rfl) ?_
      rintro E1 ⟨hE1, hd1, hm1⟩
      skip
      refine Rg.tail 8 [] (by rfl) (by kernel_rfl) (Does.call [3, 0, 1, 2, 4, 5] (show Oper.op _ = Op.call { callee := Callee.value (Operand.func 33), args := #[Operand.tmp 33, Operand.tmp 40], argTypes := #[26, 27] } from rfl) Tryz.func33 (by kernel_rfl) (by kernel_rfl) (done_sl g D.d ⟨s, false⟩ (Q.delete (nameP n)).2) (by rfl) (by rfl) (by rfl)) (by rfl) (some 41) (by rfl) (by kernel_rfl) (by kernel_rfl) ?_
      rintro _ -
      refine Rg.ev 9 (by rfl) (fun _ h => h) (Ev.assign (show Oper.op _ = Op.assign (Operand.tmp 41) from rfl) (by rfl)) (by rfl) (some 7) (by rfl) (by kernel_rfl) (by kernel_rfl) (by kernel_rfl) (by kernel_rfl) ?_
      refine Rg.done (by kernel_rfl) ?_ _
      refine Cd.seq ?_
      refine Cd.region ?_
      refine Ls.ev (some 42) (Ev.move (show Oper.op _ = Op.move (Operand.tmp 7) from rfl) (by rfl)) (by rfl) (by rfl) ?_
      refine Ls.ev (some 43) (Ev.neq (show Oper.op _ = Op.binOp BinOp.neq 27 (Operand.tmp 42) (Operand.const (Value.int IntKind.i64 0)) 27 from rfl) (by rfl) (by rfl)) (by rfl) (by rfl) ?_
      refine Ls.nil ?_
      generalize Q.delete (nameP n) = r at hE1 hdr ⊢
      obtain ⟨Q1, e⟩ := r
      dsimp only at hE1 hdr ⊢
      by_cases he : e = 0
      · skip
        subst he
        rw [if_neg (fun h => h rfl)] at hdr
        refine Cd.cond_false (by rfl) (decide_eq_false (show ¬ ((0 : Int) ≠ 0) from fun h => h rfl)) ?_
        refine Cd.skip ?_
        refine Cd.region ?_
        refine Ls.ev (some 45) (Ev.addN (b := 1) (show Oper.op _ = Op.binOp BinOp.add 3 (Operand.tmp 18) (Operand.const (Value.int IntKind.i64 1)) 3 from rfl) (by rfl) (by rfl) (by omega)) (by rfl) (by rfl) ?_
        refine Ls.ev (some 18) (Ev.move (show Oper.op _ = Op.move (Operand.tmp 45) from rfl) (by rfl)) (by rfl) (by rfl) ?_
        refine Ls.nil ?_
        refine Ent.inv ((k + 1, E1, Q1)) ?_ ?_ ?_
        · (try dsimp only); exact ⟨⟨hlt, hE1, hd1, hm1, hdr⟩, by omega⟩
        · (repeat (first | exact trivial | refine ⟨by rfl, ?_⟩ | refine ⟨by simp only [List.length_append, List.length_cons, List.length_nil]; rfl, ?_⟩ | refine ⟨by push_cast; rfl, ?_⟩))
        · rfl
      · skip
        rw [if_pos he] at hdr
        rw [← hdr]
        refine Cd.cond_true (by rfl) (decide_eq_true he) ?_
        refine Cd.seq ?_
        refine Cd.region ?_
        refine Ls.ev (some 44) (Ev.move (show Oper.op _ = Op.move (Operand.tmp 7) from rfl) (by rfl)) (by rfl) (by rfl) ?_
        refine Ls.ev (some 4) (Ev.assign (show Oper.op _ = Op.assign (Operand.tmp 44) from rfl) (by rfl)) (by rfl) (by rfl) ?_
        refine Ls.nil ?_
        refine Cd.ret ?_
        refine Ent.ret (E1) (⟨hE1, hd1, hm1⟩) (Res.tmp (by rfl) (by rfl)) ?_ [0, 1, 2, 3] (by rfl) ?_
        · rfl
        · rfl
  · skip
    have hge : ns.length ≤ k := by have := of_decide_eq_false h2; omega
    rw [List.drop_of_length_le hge, dropF] at hdr
    rw [← hdr]
    refine Cd.exit ?_
    refine Cd.seq ?_
    refine Cd.region ?_
    refine Ls.ev (some 4) (Ev.assign (show Oper.op _ = Op.assign (Operand.const (Value.int IntKind.i64 0)) from rfl) (by rfl)) (by rfl) (by rfl) ?_
    refine Ls.nil ?_
    refine Cd.ret ?_
    refine Ent.ret (E) (⟨hE, hEd, hEm⟩) (Res.tmp (by rfl) (by rfl)) ?_ [0, 1, 2, 3] (by rfl) ?_
    · rfl
    · rfl
end Go.Proofs.YtceanciekadkeaaGreatDoor
/- WalDrops: the walk -/
namespace Go.Proofs.YtceanciekadkeaaGreatDoor
open Go.RowKit
/-- A log that was fed, and where what is. -/
def FedA (P : DrP) (L : LgP) (qs : List (List UInt8)) (ats : List Nat) : Prop := ∃ C G k, Liv P L [] 1 C G k ∧ allP C G = qs ∧ ats = atsC 1 C ++ List.replicate G.length L.seg ∧ C.length ≤ qs.length ∧ L.dead = false ∧ P.left = none
theorem FedA.start : FedA DrP.new ⟨DrP.new.seg 1, false⟩ [] [] :=
  ⟨[], [], 0, Liv.open_ (P := DrP.new) (N := 0) DrP.new_ok (fun _ h => absurd h List.not_mem_nil) (by omega) (fun _ h => absurd h List.not_mem_nil), rfl, rfl, Nat.le_refl _, rfl, rfl⟩
theorem FedA.seg {P : DrP} {L : LgP} {qs : List (List UInt8)} {ats : List Nat} (h : FedA P L qs ats) : 1 ≤ L.seg ∧ L.seg ≤ qs.length + 1 ∧ ats.length = qs.length := by
  obtain ⟨C, G, k, h1, h2, h3, h4, _⟩ := h
  have := h1.seg
  refine ⟨by omega, by omega, ?_⟩
  rw [h3, ← h2, List.length_append, List.length_append, atsC_len, List.length_replicate]
theorem FedA.app {P : DrP} {L : LgP} {qs : List (List UInt8)} {ats : List Nat} {p : List UInt8} (h : FedA P L qs ats) (hq : qs.length ≤ 200) (hp : p.length ≤ 4000) : (appL P L p).2.2 = 0 ∧ FedA (appL P L p).1 (appL P L p).2.1 (qs ++ [p]) (ats ++ [(appL P L p).2.1.seg]) := by
  have hsg := h.seg
  obtain ⟨C, G, k, h1, h2, h3, h4, h5, h6⟩ := h
  have hsl : (sealL p).length ≤ 4110 := sealL_len p (by omega)
  have hs1 := h1.seg
  obtain ⟨C', G', k', k1, k2, _, k4 | k4⟩ := h1.app (p := p) (by omega) h5 (by omega) (by rw [List.length_nil]; omega) hsl
  · obtain ⟨a, b, c, d, e⟩ := k4
    have hs2 := k1.seg
    refine ⟨a, C', G', k', k1, by rw [b, h2], ?_, by rw [List.length_append, List.length_singleton]; omega, c, d h6⟩
    rw [h3]
    rcases e with ⟨rfl, rfl⟩ | ⟨rfl, rfl⟩
    · rw [hs2, ← hs1, List.append_assoc, List.length_append, List.length_singleton, List.replicate_succ']
    · rw [atsC_snoc, hs2, ← hs1, List.length_singleton]
      rfl
  · exact absurd h6 k4.2.2.2
theorem keptL_step {keep : Nat → Bool} {qs : List (List UInt8)} {ats : List Nat} {i : Nat} {p : List UInt8} {a : Nat} (hl : ats.length = qs.length) (hp : qs[i]? = some p) (ha : ats[i]? = some a) : keptL keep (qs.take (i + 1)) (ats.take (i + 1)) = keptL keep (qs.take i) (ats.take i) ++ if keep a then [p] else [] := by
  rw [List.take_add_one, List.take_add_one, hp, ha]
  show keptL keep (_ ++ [p]) (_ ++ [a]) = _
  rw [keptL_append (by rw [List.length_take, List.length_take, hl])]
  congr 1
  exact keptL_rep keep a [p]
set_option maxHeartbeats 1000000 in
theorem drops_sl (W : World) (A : Option Addr) (c : Nat) (S : List ByS) (hr : Reads W W.heap.size 1 A S.length (S.map ByS.v)) (hok : ∀ s ∈ S, ByS.ok W s) (hn : S.length ≤ 5864062014634) (before : Int) : Fn Tryz.prog 5 #[.slice A S.length c, .int .i64 before] [argc W, laidC] Unit (fun _ => .bool true) (fun _ => []) (fun _ => True) := by
  obtain ⟨m, hm⟩ : ∃ m, m = min S.length 20 := ⟨_, rfl⟩
  obtain ⟨ps, hps⟩ : ∃ ps, ps = S.map fun s => cutP s.l := ⟨_, rfl⟩
  have hpl : ps.length = S.length := by rw [hps, List.length_map]
  refine Fn.enter Tryz.func5 rfl Tryz.ntmps5 (by rfl) ?_
  intro w0
  refine Ent.arg 0 (by rfl) hr ?_
  refine Cd.seq ?_
  refine Cd.region ?_
  refine Ls.ev (some 4) (Ev.assign (show Oper.op _ = Op.assign (Operand.const (Value.bool false)) from rfl) (by rfl)) (by rfl) (by rfl) ?_
  refine Ls.nil ?_
  refine Cd.seq ?_
  refine Cd.region ?_
  refine Ls.does (some 16) (Does.call [0, 1, 2] (show Oper.op _ = Op.call { callee := Callee.value (Operand.func 7), args := #[], argTypes := #[] } from rfl) Tryz.func7 (by kernel_rfl) (by kernel_rfl) (new_sl) (by rfl) (by rfl) (by rfl)) (by rfl) (by rfl) ?_
  rintro D0 hD0
  refine Ls.ev (some 5) (Ev.assign (show Oper.op _ = Op.assign (Operand.tmp 16) from rfl) (by rfl)) (by rfl) (by rfl) ?_
  refine Ls.nil ?_
  refine Cd.seq ?_
  refine Cd.seq ?_
  refine Cd.region ?_
  refine Ls.does (some 17) (Does.read (show Oper.op _ = Op.call { callee := Callee.value (Operand.func 8), args := #[], argTypes := #[] } from rfl) Tryz.func8 (by kernel_rfl) (by kernel_rfl) (awake_sl) (by rfl) (by rfl) ⟨laidIn 5 (by rfl), trivial⟩) (by rfl) (by rfl) ?_
  rintro _ -
  refine Ls.ev (some 18) (Ev.not (show Oper.op _ = Op.unOp UnOp.not 4 (Operand.tmp 17) from rfl) (by rfl)) (by rfl) (by rfl) ?_
  refine Ls.ev (some 19) (Ev.move (show Oper.op _ = Op.move (Operand.tmp 18) from rfl) (by rfl)) (by rfl) (by rfl) ?_
  refine Ent.known 19 false (by rfl) (by exact (rfl)) ?_
  refine Ls.ev (some 20) (Ev.move (show Oper.op _ = Op.move (Operand.tmp 5) from rfl) (by rfl)) (by rfl) (by rfl) ?_
  refine Ls.ev (some 21) (Ev.ptrNil (show Oper.op _ = Op.binOp BinOp.eql 23 (Operand.tmp 20) (Operand.const (Value.pointer none)) 23 from rfl) (by rfl) (by rfl) Tryz.underlying23) (by rfl) (by rfl) ?_
  refine Ls.ev (some 22) (Ev.pickF (show Oper.op _ = Op.pick (Operand.tmp 19) (Operand.const (Value.bool true)) (Operand.tmp 21) from rfl) (by rfl) (by rfl)) (by rfl) (by rfl) ?_
  refine Ls.nil ?_
  skip
  refine Cd.cond_false (by rfl) (rfl) ?_
  refine Cd.skip ?_
  refine Cd.seq ?_
  refine Cd.region ?_
  refine Ls.ev (some 24) (Ev.move (show Oper.op _ = Op.move (Operand.tmp 5) from rfl) (by rfl)) (by rfl) (by rfl) ?_
  refine Ls.does (some 25) (Does.readN (show Oper.op _ = Op.call { callee := Callee.value (Operand.func 9), args := #[Operand.tmp 24, Operand.const (Value.int IntKind.i64 1)], argTypes := #[23, 3] } from rfl) Tryz.func9 (by kernel_rfl) (by kernel_rfl) (open_sl hD0 1 (by omega) (by omega)) (by rfl) (by rfl) ⟨blkIn 0 (by rfl), mapIn 1 (by rfl), filIn 2 (by rfl), laidIn 5 (by rfl), trivial⟩ (fun _ => by rfl)) (by rfl) (by rfl) ?_
  rintro ⟨g, ⟨_, _⟩, _⟩ -
  dsimp only
  refine Ls.ev (some 23) (Ev.move (show Oper.op _ = Op.move (Operand.tmp 25) from rfl) (by rfl)) (by rfl) (by rfl) ?_
  refine Ls.ev (some 26) (Ev.extract (show Oper.op _ = Op.extract (Operand.tmp 23) 0 from rfl) (by rfl) (by rfl)) (by rfl) (by rfl) ?_
  refine Ls.ev (some 27) (Ev.extract (show Oper.op _ = Op.extract (Operand.tmp 23) 1 from rfl) (by rfl) (by rfl)) (by rfl) (by rfl) ?_
  refine Ls.ev (some 28) (Ev.extract (show Oper.op _ = Op.extract (Operand.tmp 23) 2 from rfl) (by rfl) (by rfl)) (by rfl) (by rfl) ?_
  refine Ls.ev (some 6) (Ev.assign (show Oper.op _ = Op.assign (Operand.tmp 26) from rfl) (by rfl)) (by rfl) (by rfl) ?_
  refine Ls.ev (some 7) (Ev.assign (show Oper.op _ = Op.assign (Operand.tmp 27) from rfl) (by rfl)) (by rfl) (by rfl) ?_
  refine Ls.ev (some 8) (Ev.assign (show Oper.op _ = Op.assign (Operand.tmp 28) from rfl) (by rfl)) (by rfl) (by rfl) ?_
  refine Ls.nil ?_
  refine Cd.seq ?_
  refine Cd.seq ?_
  refine Cd.region ?_
  refine Ls.ev (some 29) (Ev.move (show Oper.op _ = Op.move (Operand.tmp 6) from rfl) (by rfl)) (by rfl) (by rfl) ?_
  refine Ls.ev (some 30) (Ev.ptrNil (show Oper.op _ = Op.binOp BinOp.eql 26 (Operand.tmp 29) (Operand.const (Value.pointer none)) 26 from rfl) (by rfl) (by rfl) Tryz.underlying26) (by rfl) (by rfl) ?_
  refine Ls.ev (some 31) (Ev.move (show Oper.op _ = Op.move (Operand.tmp 30) from rfl) (by rfl)) (by rfl) (by rfl) ?_
  refine Ent.known 31 false (by rfl) (by exact (rfl)) ?_
  refine Ls.ev (some 32) (Ev.move (show Oper.op _ = Op.move (Operand.tmp 8) from rfl) (by rfl)) (by rfl) (by rfl) ?_
  refine Ls.ev (some 33) (Ev.neq (show Oper.op _ = Op.binOp BinOp.neq 27 (Operand.tmp 32) (Operand.const (Value.int IntKind.i64 0)) 27 from rfl) (by rfl) (by rfl)) (by rfl) (by rfl) ?_
  refine Ls.ev (some 34) (Ev.pickF (show Oper.op _ = Op.pick (Operand.tmp 31) (Operand.const (Value.bool true)) (Operand.tmp 33) from rfl) (by rfl) (by rfl)) (by rfl) (by rfl) ?_
  refine Ls.nil ?_
  skip
  refine Cd.cond_false (by rfl) (decide_eq_false (show ¬ ((0 : Int) ≠ 0) from fun h => h rfl)) ?_
  refine Cd.skip ?_
  refine Cd.seq ?_
  refine Cd.region ?_
  refine Ls.ev (some 9) (Ev.assign (show Oper.op _ = Op.assign (Operand.const (Value.slice none 0 0)) from rfl) (by rfl)) (by rfl) (by rfl) ?_
  refine Ls.nil ?_
  refine Cd.seq ?_
  refine Cd.seq ?_
  refine Cd.region ?_
  refine Ls.ev (some 10) (Ev.assign (show Oper.op _ = Op.assign (Operand.const (Value.int IntKind.i64 0)) from rfl) (by rfl)) (by rfl) (by rfl) ?_
  refine Ls.nil ?_
  refine Cd.block ?_
  refine Ent.nil 3 1 ?_
  refine Ent.pick [0, 1, 4, 5, 6, 7, 8, 9] (by rfl) ?_
  refine Cd.loop (ι := Nat × (Option Addr × Nat × List Nat) × DrS × DrP × LgP) (fun p => [(0, .slice A S.length c), (1, .int .i64 before), (5, ptrV D0.d), (6, ptrV g), (9, .slice p.2.1.1 p.2.1.2.2.length p.2.1.2.1), (10, .int .i64 p.1)]) (fun p => [row p.2.1.1 p.2.1.2.2.length p.2.1.2.1 3 1 (nats p.2.1.2.2), lgB g D0.d p.2.2.2.2, p.2.2.1.B, p.2.2.1.M, p.2.2.1.F, rdV A S, argc W, laidC]) (fun p => p.1 ≤ m ∧ Drv p.2.2.1 p.2.2.2.1 ∧ p.2.2.1.d = D0.d ∧ FedA p.2.2.2.1 p.2.2.2.2 (ps.take p.1) p.2.1.2.2) (fun p => m - p.1) ((0, (none, 0, []), D0, DrP.new, ⟨DrP.new.seg 1, false⟩)) (⟨Nat.zero_le _, hD0, rfl, FedA.start⟩) ?_ rfl ?_
  · (repeat (first | exact trivial | refine ⟨by rfl, ?_⟩))
  rintro ⟨k, ⟨aA, ac, ats⟩, D, P, L⟩ ⟨hk, hD, hd, hF⟩
  dsimp only at hk hD hd hF ⊢
  have hseg := hF.seg
  rw [List.length_take] at hseg
  refine Cd.seq ?_
  refine Cd.seq ?_
  refine Cd.cut (ι := Unit) (fun _ => [(0, .slice A S.length c), (1, .int .i64 before), (5, ptrV D0.d), (6, ptrV g), (9, .slice aA ats.length ac), (10, .int .i64 k), (42, .bool (decide (k < m)))]) (fun _ => [row aA ats.length ac 3 1 (nats ats), lgB g D0.d L, D.B, D.M, D.F, rdV A S, argc W, laidC]) (fun _ => True) ?_ ?_
  · skip
    refine Cd.region ?_
    refine Ls.ev (some 35) (Ev.move (show Oper.op _ = Op.move (Operand.tmp 10) from rfl) (by rfl)) (by rfl) (by rfl) ?_
    refine Ls.ev (some 36) (Ev.move (show Oper.op _ = Op.move (Operand.tmp 0) from rfl) (by rfl)) (by rfl) (by rfl) ?_
    refine Ls.ev (some 37) (Ev.len (show Oper.op _ = Op.call { callee := Callee.builtin Builtin.len, args := #[Operand.tmp 36], argTypes := #[22] } from rfl) (by rfl) Tryz.underlying22) (by rfl) (by rfl) ?_
    refine Ls.ev (some 38) (Ev.lss (show Oper.op _ = Op.binOp BinOp.lss 3 (Operand.tmp 35) (Operand.tmp 37) 3 from rfl) (by rfl) (by rfl)) (by rfl) (by rfl) ?_
    refine Ls.ev (some 39) (Ev.move (show Oper.op _ = Op.move (Operand.tmp 38) from rfl) (by rfl)) (by rfl) (by rfl) ?_
    refine Ent.split 39 (by rfl) (fun hT1 => ?_) (fun hT1 => ?_)
    · first | have hT1 := of_decide_eq_false hT1 | have hT1 := of_not_decide_false hT1 | skip
      refine Ls.pass (some 40) (by rfl) (by rfl) ?_
      refine Ls.pass (some 41) (by rfl) (by rfl) ?_
      refine Ls.ev (some 42) (Ev.pickF (show Oper.op _ = Op.pick (Operand.tmp 39) (Operand.tmp 41) (Operand.const (Value.bool false)) from rfl) (by rfl) (by rfl)) (by rfl) (by rfl) ?_
      refine Ls.nil ?_
      refine Ent.inv () ?_ ?_ ?_
      · exact trivial
      · (repeat (first | exact trivial | refine ⟨by rfl, ?_⟩ | refine ⟨by simp only [List.length_append, List.length_cons, List.length_nil]; rfl, ?_⟩ | refine ⟨by push_cast; rfl, ?_⟩ | refine ⟨by (show some (Value.bool _) = some (Value.bool _); congr 2; (first | exact (decide_eq_decide.2 (by omega)) | exact (decide_eq_false (by omega)).symm | exact (decide_eq_true (by omega)).symm | exact decide_eq_true (by omega) | exact decide_eq_false (by omega))), ?_⟩))
      · rfl
    · first | have hT1 := of_decide_eq_true hT1 | have hT1 := of_not_decide_true hT1 | skip
      refine Ls.ev (some 40) (Ev.move (show Oper.op _ = Op.move (Operand.tmp 10) from rfl) (by rfl)) (by rfl) (by rfl) ?_
      refine Ls.ev (some 41) (Ev.lss (show Oper.op _ = Op.binOp BinOp.lss 3 (Operand.tmp 40) (Operand.const (Value.int IntKind.i64 20)) 3 from rfl) (by rfl) (by rfl)) (by rfl) (by rfl) ?_
      refine Ls.ev (some 42) (Ev.pickT (show Oper.op _ = Op.pick (Operand.tmp 39) (Operand.tmp 41) (Operand.const (Value.bool false)) from rfl) (by rfl) (by rfl)) (by rfl) (by rfl) ?_
      refine Ls.nil ?_
      refine Ent.inv () ?_ ?_ ?_
      · exact trivial
      · (repeat (first | exact trivial | refine ⟨by rfl, ?_⟩ | refine ⟨by simp only [List.length_append, List.length_cons, List.length_nil]; rfl, ?_⟩ | refine ⟨by push_cast; rfl, ?_⟩ | refine ⟨by (show some (Value.bool _) = some (Value.bool _); congr 2; (first | exact (decide_eq_decide.2 (by omega)) | exact (decide_eq_false (by omega)).symm | exact (decide_eq_true (by omega)).symm | exact decide_eq_true (by omega) | exact decide_eq_false (by omega))), ?_⟩))
      · rfl
  skip
  rintro _ -
  refine Cd.cond _ (by rfl) (fun h2 => ?_) (fun h2 => ?_)
  · skip
    have hlt : k < m := of_decide_eq_true h2
    obtain ⟨s, hs⟩ := get_of_lt (show k < S.length by omega)
    have hoks := hok s (List.mem_of_getElem? hs)
    have hps1 : ps.take (k + 1) = ps.take k ++ [cutP s.l] := by
      rw [List.take_add_one, hps, List.getElem?_map, hs]
      rfl
    have hcl := cutP_len s.l
    refine Ent.rdSome 5 (by rfl) (by omega) (fun ad had => ?_)
    subst had
    refine Ent.arg 6 (by rfl) hoks.1 ?_
    refine Cd.skip ?_
    refine Cd.seq ?_
    refine Cd.block ?_
    refine Cd.seq ?_
    refine Cd.seq ?_
    refine Cd.region ?_
    refine Ls.ev (some 45) (Ev.move (show Oper.op _ = Op.move (Operand.tmp 6) from rfl) (by rfl)) (by rfl) (by rfl) ?_
    refine Ls.ev (some 46) (Ev.move (show Oper.op _ = Op.move (Operand.tmp 0) from rfl) (by rfl)) (by rfl) (by rfl) ?_
    refine Ls.ev (some 47) (Ev.move (show Oper.op _ = Op.move (Operand.tmp 10) from rfl) (by rfl)) (by rfl) (by rfl) ?_
    refine Ls.ev (some 48) (Ev.indexAt (sz := 1) (show Oper.op _ = Op.indexAddr 22 (Operand.tmp 46) (Operand.tmp 47) from rfl) (by rfl) (by rfl) Tryz.underlying22 (by kernel_rfl) (by omega)) (by rfl) (by rfl) ?_
    refine Ls.ev (some 49) (Ev.loadV (show Oper.op _ = Op.load 30 (Operand.tmp 48) from rfl) (by rfl) (ReadsIn.rd 6 (by rfl)) (by kernel_rfl) hs) (by rfl) (by rfl) ?_
    skip
    refine Ls.does (some 50) (Does.readN (show Oper.op _ = Op.call { callee := Callee.value (Operand.func 10), args := #[Operand.tmp 49], argTypes := #[30] } from rfl) Tryz.func10 (by kernel_rfl) (by kernel_rfl) (cutb_sl s.A s.c s.l hoks.2.1) (by rfl) (by rfl) ⟨ReadsIn.rd 0 (by rfl), trivial⟩ (fun _ => by rfl)) (by rfl) (by rfl) ?_
    rintro ⟨rA, rc⟩ -
    dsimp only
    refine Ent.see 0 (by rfl) ?_
    obtain ⟨hcode, hF2⟩ := hF.app (p := cutP s.l) (by rw [List.length_take]; omega) (by omega)
    have hap := lappend_sl hD g L (by omega) rA rc (cutP s.l)
    rw [hd] at hap
    refine Ls.does (some 51) (Does.call [3, 4, 5, 6, 9, 0, 2, 7, 8, 9] (show Oper.op _ = Op.call { callee := Callee.value (Operand.func 11), args := #[Operand.tmp 45, Operand.tmp 50], argTypes := #[26, 30] } from rfl) Tryz.func11 (by kernel_rfl) (by kernel_rfl) (hap) (by rfl) (by rfl) (by rfl)) (by rfl) (by rfl) ?_
    rintro D1 ⟨hD1, hd1, -⟩
    rw [hcode]
    refine Ls.ev (some 52) (Ev.neq (show Oper.op _ = Op.binOp BinOp.neq 27 (Operand.tmp 51) (Operand.const (Value.int IntKind.i64 0)) 27 from rfl) (by rfl) (by rfl)) (by rfl) (by rfl) ?_
    refine Ls.nil ?_
    refine Cd.cond_false (by rfl) (decide_eq_false (show ¬ ((0 : Int) ≠ 0) from fun h => h rfl)) ?_
    refine Cd.skip ?_
    refine Cd.region ?_
    refine Ls.ev (some 53) (Ev.move (show Oper.op _ = Op.move (Operand.tmp 9) from rfl) (by rfl)) (by rfl) (by rfl) ?_
    refine Ls.ev (some 54) (Ev.move (show Oper.op _ = Op.move (Operand.tmp 6) from rfl) (by rfl)) (by rfl) (by rfl) ?_
    refine Ls.does (some 55) (Does.read (show Oper.op _ = Op.call { callee := Callee.value (Operand.func 19), args := #[Operand.tmp 54], argTypes := #[26] } from rfl) Tryz.func19 (by kernel_rfl) (by kernel_rfl) (segment_sl g D0.d (appL P L (cutP s.l)).2.1) (by rfl) (by rfl) ⟨blkIn 0 (by rfl), trivial⟩) (by rfl) (by rfl) ?_
    rintro _ -
    refine Ls.does (some 56) (Does.lit (sz := 1) (show Oper.op _ = Op.buildSlice 35 1 #[(0, Operand.tmp 55)] from rfl) (by rfl) Tryz.underlying35 (by kernel_rfl) (by rfl) (by kernel_rfl)) (by rfl) (by rfl) ?_
    intro g1 _
    refine Ls.does (some 57) (Does.app (xs := nats ats) (news := nats [(appL P L (cutP s.l)).2.1.seg]) 5 (show Oper.op _ = Op.call { callee := Callee.builtin Builtin.append, args := #[Operand.tmp 53, Operand.tmp 56], argTypes := #[35, 35] } from rfl) (by rfl) (by rfl) (by rfl) (ReadsIn.row 0 (by rfl)) elem_int (one_nats _) (show (ats.length + 1) * 8 ≤ 140737488355328 by omega)) (by rfl) (by rfl) ?_
    rintro ⟨xA, xc⟩ -
    dsimp only
    refine Ls.ev (some 9) (Ev.assign (show Oper.op _ = Op.assign (Operand.tmp 57) from rfl) (by rfl)) (by rfl) (by rfl) ?_
    refine Ls.nil ?_
    refine Cd.region ?_
    refine Ls.ev (some 43) (Ev.move (show Oper.op _ = Op.move (Operand.tmp 10) from rfl) (by rfl)) (by rfl) (by rfl) ?_
    refine Ls.ev (some 44) (Ev.addI (show Oper.op _ = Op.binOp BinOp.add 3 (Operand.tmp 43) (Operand.const (Value.int IntKind.i64 1)) 3 from rfl) (by rfl) (by rfl) (by omega)) (by rfl) (by rfl) ?_
    refine Ls.ev (some 10) (Ev.assign (show Oper.op _ = Op.assign (Operand.tmp 44) from rfl) (by rfl)) (by rfl) (by rfl) ?_
    refine Ls.nil ?_
    refine Ent.pick [5, 1, 2, 3, 4, 6, 7, 8] (by rfl) ?_
    refine Ent.inv ((k + 1, (xA, xc, ats ++ [(appL P L (cutP s.l)).2.1.seg]), D1, (appL P L (cutP s.l)).1, (appL P L (cutP s.l)).2.1)) ?_ ?_ ?_
    · (try dsimp only); exact ⟨⟨hlt, hD1, hd1, by rw [hps1]; exact hF2⟩, by omega⟩
    · (repeat (first | exact trivial | refine ⟨by rfl, ?_⟩ | refine ⟨by simp only [List.length_append, List.length_cons, List.length_nil]; rfl, ?_⟩ | refine ⟨by push_cast; rfl, ?_⟩ | refine ⟨by (show some (Value.slice _ _ _) = some (Value.slice _ _ _); rw [List.length_append]; rfl), ?_⟩))
    · (show [_, _, _, _, _, _, _, _] = [_, _, _, _, _, _, _, _]; dsimp only; rw [List.length_append, nats_append]; rfl)
  · skip
    have hkm : k = m := by have := of_decide_eq_false h2; omega
    refine Cd.exit ?_
    refine Cd.seq ?_
    refine Cd.region ?_
    refine Ls.ev (some 58) (Ev.move (show Oper.op _ = Op.move (Operand.tmp 6) from rfl) (by rfl)) (by rfl) (by rfl) ?_
    refine Ls.does (some 59) (Does.read (show Oper.op _ = Op.call { callee := Callee.value (Operand.func 19), args := #[Operand.tmp 58], argTypes := #[26] } from rfl) Tryz.func19 (by kernel_rfl) (by kernel_rfl) (segment_sl g D0.d L) (by rfl) (by rfl) ⟨blkIn 1 (by rfl), trivial⟩) (by rfl) (by rfl) ?_
    rintro _ -
    refine Ls.ev (some 11) (Ev.assign (show Oper.op _ = Op.assign (Operand.tmp 59) from rfl) (by rfl)) (by rfl) (by rfl) ?_
    refine Ls.nil ?_
    refine Cd.seq ?_
    refine Cd.seq ?_
    refine Cd.region ?_
    refine Ls.ev (some 60) (Ev.move (show Oper.op _ = Op.move (Operand.tmp 6) from rfl) (by rfl)) (by rfl) (by rfl) ?_
    refine Ls.ev (some 61) (Ev.move (show Oper.op _ = Op.move (Operand.tmp 1) from rfl) (by rfl)) (by rfl) (by rfl) ?_
    have hdr := drop_sl hD g L (by omega) before
    rw [hd] at hdr
    obtain ⟨C, G, kk, hL, hal, hats, hCl, hdead, hleft⟩ := hF
    obtain ⟨P2, he, hok2, hpay⟩ := hL.drop (by omega) hdead hleft before
    rw [he] at hdr
    dsimp only at hdr
    refine Ls.does (some 62) (Does.call [1, 2, 3, 4, 7, 0, 5, 6, 7] (show Oper.op _ = Op.call { callee := Callee.value (Operand.func 20), args := #[Operand.tmp 60, Operand.tmp 61], argTypes := #[26, 3] } from rfl) Tryz.func20 (by kernel_rfl) (by kernel_rfl) (hdr) (by rfl) (by rfl) (by rfl)) (by rfl) (by rfl) ?_
    rintro D2 ⟨hD2, hd2, -⟩
    refine Ls.ev (some 63) (Ev.neq (show Oper.op _ = Op.binOp BinOp.neq 27 (Operand.tmp 62) (Operand.const (Value.int IntKind.i64 0)) 27 from rfl) (by rfl) (by rfl)) (by rfl) (by rfl) ?_
    refine Ls.ev (some 64) (Ev.move (show Oper.op _ = Op.move (Operand.tmp 63) from rfl) (by rfl)) (by rfl) (by rfl) ?_
    refine Ent.known 64 false (by rfl) (by exact (decide_eq_false (show ¬ ((0 : Int) ≠ 0) from fun h => h rfl))) ?_
    refine Ls.ev (some 65) (Ev.move (show Oper.op _ = Op.move (Operand.tmp 6) from rfl) (by rfl)) (by rfl) (by rfl) ?_
    skip
    refine Ls.does (some 66) (Does.read (show Oper.op _ = Op.call { callee := Callee.value (Operand.func 19), args := #[Operand.tmp 65], argTypes := #[26] } from rfl) Tryz.func19 (by kernel_rfl) (by kernel_rfl) (segment_sl g D0.d L) (by rfl) (by rfl) ⟨blkIn 0 (by rfl), trivial⟩) (by rfl) (by rfl) ?_
    rintro _ -
    refine Ls.ev (some 67) (Ev.move (show Oper.op _ = Op.move (Operand.tmp 11) from rfl) (by rfl)) (by rfl) (by rfl) ?_
    refine Ls.ev (some 68) (Ev.neq (show Oper.op _ = Op.binOp BinOp.neq 3 (Operand.tmp 66) (Operand.tmp 67) 3 from rfl) (by rfl) (by rfl)) (by rfl) (by rfl) ?_
    refine Ls.ev (some 69) (Ev.pickF (show Oper.op _ = Op.pick (Operand.tmp 64) (Operand.const (Value.bool true)) (Operand.tmp 68) from rfl) (by rfl) (by rfl)) (by rfl) (by rfl) ?_
    refine Ls.nil ?_
    refine Cd.cond_false (by rfl) (decide_eq_false (show ¬ ((L.seg : Int) ≠ (L.seg : Int)) from fun h => h rfl)) ?_
    have ho := open_sl hD2 1 (by omega) (by omega)
    rw [DrS.ptr, hd2, hpay, hal, ← hats] at ho
    refine Cd.skip ?_
    refine Cd.seq ?_
    refine Cd.region ?_
    refine Ls.ev (some 71) (Ev.move (show Oper.op _ = Op.move (Operand.tmp 5) from rfl) (by rfl)) (by rfl) (by rfl) ?_
    refine Ls.does (some 72) (Does.readN (show Oper.op _ = Op.call { callee := Callee.value (Operand.func 9), args := #[Operand.tmp 71, Operand.const (Value.int IntKind.i64 1)], argTypes := #[23, 3] } from rfl) Tryz.func9 (by kernel_rfl) (by kernel_rfl) (ho) (by rfl) (by rfl) ⟨blkIn 1 (by rfl), mapIn 2 (by rfl), filIn 3 (by rfl), laidIn 7 (by rfl), trivial⟩ (fun _ => by rfl)) (by rfl) (by rfl) ?_
    rintro ⟨g2, ⟨pA, pc⟩, Sp⟩ hSp
    dsimp only at hSp ⊢
    refine Ent.pick [1, 2, 7, 8, 9] (by rfl) ?_
    refine Ls.ev (some 70) (Ev.move (show Oper.op _ = Op.move (Operand.tmp 72) from rfl) (by rfl)) (by rfl) (by rfl) ?_
    refine Ls.ev (some 73) (Ev.extract (show Oper.op _ = Op.extract (Operand.tmp 70) 0 from rfl) (by rfl) (by rfl)) (by rfl) (by rfl) ?_
    refine Ls.ev (some 74) (Ev.extract (show Oper.op _ = Op.extract (Operand.tmp 70) 1 from rfl) (by rfl) (by rfl)) (by rfl) (by rfl) ?_
    refine Ls.ev (some 75) (Ev.extract (show Oper.op _ = Op.extract (Operand.tmp 70) 2 from rfl) (by rfl) (by rfl)) (by rfl) (by rfl) ?_
    refine Ls.ev (some 12) (Ev.assign (show Oper.op _ = Op.assign (Operand.tmp 73) from rfl) (by rfl)) (by rfl) (by rfl) ?_
    refine Ls.ev (some 13) (Ev.assign (show Oper.op _ = Op.assign (Operand.tmp 74) from rfl) (by rfl)) (by rfl) (by rfl) ?_
    refine Ls.ev (some 8) (Ev.assign (show Oper.op _ = Op.assign (Operand.tmp 75) from rfl) (by rfl)) (by rfl) (by rfl) ?_
    refine Ls.nil ?_
    refine Cd.seq ?_
    refine Cd.region ?_
    refine Ls.ev (some 14) (Ev.assign (show Oper.op _ = Op.assign (Operand.const (Value.slice none 0 0)) from rfl) (by rfl)) (by rfl) (by rfl) ?_
    refine Ls.nil ?_
    refine Cd.seq ?_
    refine Cd.seq ?_
    refine Cd.region ?_
    refine Ls.ev (some 76) (Ev.move (show Oper.op _ = Op.move (Operand.tmp 9) from rfl) (by rfl)) (by rfl) (by rfl) ?_
    refine Ls.ev (some 77) (Ev.len (show Oper.op _ = Op.call { callee := Callee.builtin Builtin.len, args := #[Operand.tmp 76], argTypes := #[35] } from rfl) (by rfl) Tryz.underlying35) (by rfl) (by rfl) ?_
    refine Ls.ev (some 78) (Ev.move (show Oper.op _ = Op.move (Operand.const (Value.int IntKind.i64 0)) from rfl) (by rfl)) (by rfl) (by rfl) ?_
    refine Ls.nil ?_
    refine Cd.block ?_
    refine Ent.nil 30 1 ?_
    refine Ent.map (fun w hs => hs.starx_nil) ?_
    refine Ent.pick [1, 0, 2, 3, 4, 5, 6] (by rfl) ?_
    have hatl : ats.length = (ps.take k).length := by rw [List.length_take]; omega
    have hkeep : ∀ a : Nat, (decide (before ≤ (a : Int)) || decide (a = L.seg)) = decide (before ≤ (a : Int) ∨ a = L.seg) := fun a => (Bool.decide_or _ _).symm
    refine Cd.loop (ι := Nat × (Option Addr × Nat × List ByS)) (fun p => [(0, .slice A S.length c), (1, .int .i64 before), (8, .int .i64 0), (9, .slice aA ats.length ac), (11, .int .i64 L.seg), (13, .slice pA Sp.length pc), (14, .slice p.2.1 p.2.2.2.length p.2.2.1), (77, .int .i64 ats.length), (78, .int .i64 p.1)]) (fun p => [payW p.2.1 p.2.2.1 p.2.2.2, payX p.2.2.2, payW pA pc Sp, payX Sp, row aA ats.length ac 3 1 (nats ats), rdV A S, argc W]) (fun p => p.1 ≤ ats.length ∧ p.2.2.2.length ≤ p.1 ∧ p.2.2.2.map ByS.l = keptL (fun n => decide (before ≤ (n : Int)) || decide (n = L.seg)) ((ps.take k).take p.1) (ats.take p.1)) (fun p => ats.length - p.1) ((0, (none, 0, []))) (⟨Nat.zero_le _, Nat.le_refl _, rfl⟩) ?_ rfl ?_
    · (repeat (first | exact trivial | refine ⟨by rfl, ?_⟩))
    rintro ⟨i, wA, wc, U⟩ ⟨hi, hUl, hU⟩
    dsimp only at hi hUl hU ⊢
    refine Cd.seq ?_
    refine Cd.region ?_
    refine Ls.ev (some 79) (Ev.lss (show Oper.op _ = Op.binOp BinOp.lss 3 (Operand.tmp 78) (Operand.tmp 77) 3 from rfl) (by rfl) (by rfl)) (by rfl) (by rfl) ?_
    refine Ls.nil ?_
    refine Cd.seq ?_
    refine Cd.cond _ (by rfl) (fun h3 => ?_) (fun h3 => ?_)
    · skip
      have hil : i < ats.length := by have := of_decide_eq_true h3; omega
      obtain ⟨a, ha⟩ := get_of_lt hil
      obtain ⟨s, hs⟩ := get_of_lt (show i < S.length by omega)
      have hoks := hok s (List.mem_of_getElem? hs)
      have hpi : (ps.take k)[i]? = some (cutP s.l) := by
        rw [List.getElem?_take, if_pos (by omega), hps, List.getElem?_map, hs]
        rfl
      have hst := keptL_step (keep := fun n => decide (before ≤ (n : Int)) || decide (n = L.seg)) hatl hpi ha
      rw [← hU] at hst
      rw [hkeep] at hst
      refine Ent.rowSome 4 (by rfl) (by omega) (fun ad had => ?_)
      obtain rfl : aA = some ad := had
      refine Cd.skip ?_
      refine Cd.seq ?_
      refine Cd.block ?_
      refine Cd.seq ?_
      refine Cd.region ?_
      refine Ls.ev (some 80) (Ev.move (show Oper.op _ = Op.move (Operand.tmp 78) from rfl) (by rfl)) (by rfl) (by rfl) ?_
      refine Ls.ev (some 15) (Ev.assign (show Oper.op _ = Op.assign (Operand.tmp 80) from rfl) (by rfl)) (by rfl) (by rfl) ?_
      refine Ls.nil ?_
      refine Cd.seq ?_
      refine Cd.cut (ι := Unit) (fun _ => [(0, .slice A S.length c), (1, .int .i64 before), (8, .int .i64 0), (9, .slice (some ad) ats.length ac), (11, .int .i64 L.seg), (13, .slice pA Sp.length pc), (14, .slice wA U.length wc), (15, .int .i64 i), (77, .int .i64 ats.length), (78, .int .i64 i), (94, .bool (decide (before ≤ (a : Int) ∨ a = L.seg)))]) (fun _ => [payW wA wc U, payX U, payW pA pc Sp, payX Sp, row (some ad) ats.length ac 3 1 (nats ats), rdV A S, argc W]) (fun _ => True) ?_ ?_
      · skip
        refine Cd.region ?_
        refine Ls.ev (some 81) (Ev.move (show Oper.op _ = Op.move (Operand.tmp 9) from rfl) (by rfl)) (by rfl) (by rfl) ?_
        refine Ls.ev (some 82) (Ev.move (show Oper.op _ = Op.move (Operand.tmp 15) from rfl) (by rfl)) (by rfl) (by rfl) ?_
        refine Ls.ev (some 83) (Ev.indexAt (sz := 1) (show Oper.op _ = Op.indexAddr 35 (Operand.tmp 81) (Operand.tmp 82) from rfl) (by rfl) (by rfl) Tryz.underlying35 (by kernel_rfl) (by omega)) (by rfl) (by rfl) ?_
        refine Ls.ev (some 84) (Ev.loadNat (show Oper.op _ = Op.load 3 (Operand.tmp 83) from rfl) (by rfl) (ReadsIn.row 4 (by rfl)) (by kernel_rfl) ha) (by rfl) (by rfl) ?_
        refine Ls.ev (some 85) (Ev.move (show Oper.op _ = Op.move (Operand.tmp 1) from rfl) (by rfl)) (by rfl) (by rfl) ?_
        refine Ls.ev (some 86) (Ev.geq (show Oper.op _ = Op.binOp BinOp.geq 3 (Operand.tmp 84) (Operand.tmp 85) 3 from rfl) (by rfl) (by rfl)) (by rfl) (by rfl) ?_
        refine Ls.ev (some 87) (Ev.move (show Oper.op _ = Op.move (Operand.tmp 86) from rfl) (by rfl)) (by rfl) (by rfl) ?_
        by_cases hb : before ≤ (a : Int)
        · skip
          refine Ent.known 87 true (by rfl) (by exact (decide_eq_true hb)) ?_
          refine Ls.pass (some 88) (by rfl) (by rfl) ?_
          refine Ls.pass (some 89) (by rfl) (by rfl) ?_
          refine Ls.pass (some 90) (by rfl) (by rfl) ?_
          refine Ls.pass (some 91) (by rfl) (by rfl) ?_
          refine Ls.pass (some 92) (by rfl) (by rfl) ?_
          refine Ls.pass (some 93) (by rfl) (by rfl) ?_
          refine Ls.ev (some 94) (Ev.pickT (show Oper.op _ = Op.pick (Operand.tmp 87) (Operand.const (Value.bool true)) (Operand.tmp 93) from rfl) (by rfl) (by rfl)) (by rfl) (by rfl) ?_
          refine Ls.nil ?_
          skip
          refine Ent.inv (()) ?_ ?_ ?_
          · (try dsimp only); skip
          · (repeat (first | exact trivial | refine ⟨by rfl, ?_⟩ | refine ⟨by simp only [List.length_append, List.length_cons, List.length_nil]; rfl, ?_⟩ | refine ⟨by push_cast; rfl, ?_⟩ | refine ⟨by (show some (Value.bool _) = some (Value.bool _); congr 2; exact (decide_eq_true (.inl hb)).symm), ?_⟩))
          · rfl
        · skip
          skip
          refine Ent.known 87 false (by rfl) (by exact (decide_eq_false hb)) ?_
          refine Ls.ev (some 88) (Ev.move (show Oper.op _ = Op.move (Operand.tmp 9) from rfl) (by rfl)) (by rfl) (by rfl) ?_
          refine Ls.ev (some 89) (Ev.move (show Oper.op _ = Op.move (Operand.tmp 15) from rfl) (by rfl)) (by rfl) (by rfl) ?_
          refine Ls.ev (some 90) (Ev.indexAt (sz := 1) (show Oper.op _ = Op.indexAddr 35 (Operand.tmp 88) (Operand.tmp 89) from rfl) (by rfl) (by rfl) Tryz.underlying35 (by kernel_rfl) (by omega)) (by rfl) (by rfl) ?_
          refine Ls.ev (some 91) (Ev.loadNat (show Oper.op _ = Op.load 3 (Operand.tmp 90) from rfl) (by rfl) (ReadsIn.row 4 (by rfl)) (by kernel_rfl) ha) (by rfl) (by rfl) ?_
          refine Ls.ev (some 92) (Ev.move (show Oper.op _ = Op.move (Operand.tmp 11) from rfl) (by rfl)) (by rfl) (by rfl) ?_
          refine Ls.ev (some 93) (Ev.eql (show Oper.op _ = Op.binOp BinOp.eql 3 (Operand.tmp 91) (Operand.tmp 92) 3 from rfl) (by rfl) (by rfl)) (by rfl) (by rfl) ?_
          refine Ls.ev (some 94) (Ev.pickF (show Oper.op _ = Op.pick (Operand.tmp 87) (Operand.const (Value.bool true)) (Operand.tmp 93) from rfl) (by rfl) (by rfl)) (by rfl) (by rfl) ?_
          refine Ls.nil ?_
          refine Ent.inv (()) ?_ ?_ ?_
          · (try dsimp only); skip
          · (repeat (first | exact trivial | refine ⟨by rfl, ?_⟩ | refine ⟨by simp only [List.length_append, List.length_cons, List.length_nil]; rfl, ?_⟩ | refine ⟨by push_cast; rfl, ?_⟩ | refine ⟨by (show some (Value.bool _) = some (Value.bool _); congr 2; exact decide_eq_decide.2 (by omega)), ?_⟩))
          · rfl
      skip
      rintro _ -
      by_cases hk2 : before ≤ (a : Int) ∨ a = L.seg
      · skip
        rw [decide_eq_true hk2, if_pos rfl] at hst
        refine Cd.cond_true (by rfl) (decide_eq_true hk2) ?_
        refine Ent.rdSome 5 (by rfl) (by omega) (fun sd hsd => ?_)
        subst hsd
        refine Ent.arg 6 (by rfl) hoks.1 ?_
        refine Cd.region ?_
        refine Ls.ev (some 95) (Ev.move (show Oper.op _ = Op.move (Operand.tmp 14) from rfl) (by rfl)) (by rfl) (by rfl) ?_
        refine Ls.ev (some 96) (Ev.move (show Oper.op _ = Op.move (Operand.tmp 0) from rfl) (by rfl)) (by rfl) (by rfl) ?_
        refine Ls.ev (some 97) (Ev.move (show Oper.op _ = Op.move (Operand.tmp 15) from rfl) (by rfl)) (by rfl) (by rfl) ?_
        refine Ls.ev (some 98) (Ev.indexAt (sz := 1) (show Oper.op _ = Op.indexAddr 22 (Operand.tmp 96) (Operand.tmp 97) from rfl) (by rfl) (by rfl) Tryz.underlying22 (by kernel_rfl) (by omega)) (by rfl) (by rfl) ?_
        refine Ls.ev (some 99) (Ev.loadV (show Oper.op _ = Op.load 30 (Operand.tmp 98) from rfl) (by rfl) (ReadsIn.rd 6 (by rfl)) (by kernel_rfl) hs) (by rfl) (by rfl) ?_
        skip
        refine Ls.does (some 100) (Does.readN (show Oper.op _ = Op.call { callee := Callee.value (Operand.func 10), args := #[Operand.tmp 99], argTypes := #[30] } from rfl) Tryz.func10 (by kernel_rfl) (by kernel_rfl) (cutb_sl s.A s.c s.l hoks.2.1) (by rfl) (by rfl) ⟨ReadsIn.rd 0 (by rfl), trivial⟩ (fun _ => by rfl)) (by rfl) (by rfl) ?_
        rintro ⟨vA, vc⟩ -
        refine Ls.does (some 101) (Does.lit (sz := 1) (show Oper.op _ = Op.buildSlice 22 1 #[(0, Operand.tmp 100)] from rfl) (by rfl) Tryz.underlying22 (by kernel_rfl) (by rfl) (by kernel_rfl)) (by rfl) (by rfl) ?_
        intro g1 _
        refine Ls.does (some 102) (Does.app (xs := U.map ByS.v) (news := [ByS.v ⟨vA, vc, cutP s.l⟩]) 3 (show Oper.op _ = Op.call { callee := Callee.builtin Builtin.append, args := #[Operand.tmp 95, Operand.tmp 101], argTypes := #[22, 22] } from rfl) (by rfl) (by rfl) (by rfl) (ReadsIn.row 0 (by rfl)) elem_pay (one_pay [⟨vA, vc, cutP s.l⟩]) (show (U.length + 1) * 24 ≤ 140737488355328 by omega)) (by rfl) (by rfl) ?_
        rintro ⟨xA, xc⟩ -
        dsimp only
        refine Ls.ev (some 14) (Ev.assign (show Oper.op _ = Op.assign (Operand.tmp 102) from rfl) (by rfl)) (by rfl) (by rfl) ?_
        refine Ls.nil ?_
        refine Cd.region ?_
        refine Ls.ev (some 103) (Ev.addI (show Oper.op _ = Op.binOp BinOp.add 3 (Operand.tmp 78) (Operand.const (Value.int IntKind.i64 1)) 3 from rfl) (by rfl) (by rfl) (by omega)) (by rfl) (by rfl) ?_
        refine Ls.ev (some 78) (Ev.move (show Oper.op _ = Op.move (Operand.tmp 103) from rfl) (by rfl)) (by rfl) (by rfl) ?_
        refine Ls.nil ?_
        refine Ent.pick [1, 4, 3, 5, 6, 7, 8, 9] (by rfl) ?_
        refine Ent.map (fun w hs => pay_new (z := ⟨vA, vc, cutP s.l⟩) (b := U) hs) ?_
        refine Ent.pick [1, 0, 2, 3, 4, 5, 6] (by rfl) ?_
        refine Ent.inv ((i + 1, xA, xc, U ++ [⟨vA, vc, cutP s.l⟩])) ?_ ?_ ?_
        · (try dsimp only); exact ⟨⟨hil, by rw [List.length_append, List.length_singleton]; omega, by rw [hst, List.map_append]; rfl⟩, by omega⟩
        · (repeat (first | exact trivial | refine ⟨by rfl, ?_⟩ | refine ⟨by simp only [List.length_append, List.length_cons, List.length_nil]; rfl, ?_⟩ | refine ⟨by push_cast; rfl, ?_⟩ | refine ⟨by (show some (Value.slice _ _ _) = some (Value.slice _ _ _); rw [List.length_append]; rfl), ?_⟩))
        · (show [_, _, _, _, _, _, _] = [_, _, _, _, _, _, _]; dsimp only [payW]; rw [List.length_append, List.map_append]; rfl)
      · skip
        rw [decide_eq_false hk2, if_neg (by decide), List.append_nil] at hst
        refine Cd.cond_false (by rfl) (decide_eq_false hk2) ?_
        refine Cd.skip ?_
        refine Cd.region ?_
        refine Ls.ev (some 103) (Ev.addI (show Oper.op _ = Op.binOp BinOp.add 3 (Operand.tmp 78) (Operand.const (Value.int IntKind.i64 1)) 3 from rfl) (by rfl) (by rfl) (by omega)) (by rfl) (by rfl) ?_
        refine Ls.ev (some 78) (Ev.move (show Oper.op _ = Op.move (Operand.tmp 103) from rfl) (by rfl)) (by rfl) (by rfl) ?_
        refine Ls.nil ?_
        refine Ent.inv ((i + 1, wA, wc, U)) ?_ ?_ ?_
        · (try dsimp only); exact ⟨⟨hil, by omega, hst.symm⟩, by omega⟩
        · (repeat (first | exact trivial | refine ⟨by rfl, ?_⟩ | refine ⟨by simp only [List.length_append, List.length_cons, List.length_nil]; rfl, ?_⟩ | refine ⟨by push_cast; rfl, ?_⟩))
        · rfl
    · skip
      have hge : ats.length ≤ i := by have := of_decide_eq_false h3; omega
      rw [List.take_of_length_le hge, List.take_of_length_le (by omega)] at hU
      refine Cd.exit ?_
      refine Cd.seq ?_
      refine Cd.region ?_
      refine Ls.ev (some 104) (Ev.move (show Oper.op _ = Op.move (Operand.tmp 8) from rfl) (by rfl)) (by rfl) (by rfl) ?_
      refine Ls.ev (some 105) (Ev.eql (show Oper.op _ = Op.binOp BinOp.eql 27 (Operand.tmp 104) (Operand.const (Value.int IntKind.i64 0)) 27 from rfl) (by rfl) (by rfl)) (by rfl) (by rfl) ?_
      refine Ls.ev (some 106) (Ev.move (show Oper.op _ = Op.move (Operand.tmp 105) from rfl) (by rfl)) (by rfl) (by rfl) ?_
      refine Ent.known 106 true (by rfl) (by exact (decide_eq_true (show (0 : Int) = 0 from rfl))) ?_
      refine Ls.ev (some 107) (Ev.move (show Oper.op _ = Op.move (Operand.tmp 13) from rfl) (by rfl)) (by rfl) (by rfl) ?_
      refine Ls.ev (some 108) (Ev.move (show Oper.op _ = Op.move (Operand.tmp 14) from rfl) (by rfl)) (by rfl) (by rfl) ?_
      refine Ls.does (some 109) (Does.read (show Oper.op _ = Op.call { callee := Callee.value (Operand.func 12), args := #[Operand.tmp 107, Operand.tmp 108], argTypes := #[22, 22] } from rfl) Tryz.func12 (by kernel_rfl) (by kernel_rfl) (same_sl pA wA pc wc Sp U (by
        have h1 := congrArg List.length (hSp.trans hU.symm)
        rw [List.length_map, List.length_map] at h1
        omega) (by omega)) (by rfl) (by rfl) ⟨ReadsIn.row 2 (by rfl), payIn 3 (by rfl), ReadsIn.row 0 (by rfl), payIn 1 (by rfl), trivial⟩) (by rfl) (by rfl) ?_
      rintro _ -
      rw [show Sp.map ByS.l = U.map ByS.l from hSp.trans hU.symm]
      refine Ls.ev (some 110) (Ev.pickT (show Oper.op _ = Op.pick (Operand.tmp 106) (Operand.tmp 109) (Operand.const (Value.bool false)) from rfl) (by rfl) (by rfl)) (by rfl) (by rfl) ?_
      refine Ls.ev (some 4) (Ev.assign (show Oper.op _ = Op.assign (Operand.tmp 110) from rfl) (by rfl)) (by rfl) (by rfl) ?_
      refine Ls.nil ?_
      refine Cd.ret ?_
      refine Ent.ret (()) (trivial) (Res.tmp (by rfl) (by rfl)) ?_ [] (by rfl) ?_
      · rw [decide_eq_true rfl]
      · rfl
end Go.Proofs.YtceanciekadkeaaGreatDoor
/- A law over laid variables: the row's step, once for all. -/
namespace Go.Proofs.YtceanciekadkeaaGreatDoor
open Go.ChangeShapes Go.WideShapes Go.ChangeAt Go.RowKit

/-- A law that answers true and writes nothing that was there, over laid variables: its row's step, in either form. -/
theorem lift_laid {C : Checked} {os : Os} {f : FuncId} {fn : Func} {s : ChangeSpec} {sp : OpenSpec} {H : Type} {enc : TypeId × Value → H} {conds : List PathCond} {tb : TypeId} {F : Stop.Interp} {laid : List (String × DataW Unit)} (ts : Array TypeId)
    (hbare : sp.bare.plain.varTypes C.prog = []) (hat : (sp.at F) = s)
    (own : ownKnob C.prog.godebug = none) (lo : laidOutB C.prog = true) (started : os.Started) (noInit : C.prog.inits.idxOf? f = none) (hfn : C.prog.funcs[f]? = some fn)
    (witness : ∃ (w : World) (tape : Tape) (i : Input), w.os = os ∧ (w.forCall tape i).Shaped C.prog ∧ i.vars = [] ∧ Input.okWide C.prog (w.forCall tape i) .any w.heap.size f i ∧
      sp.preRow enc C.prog fn conds false laid (w.forCall tape i).memory i.args ∧ ({} : Assume).holds C.prog (lone (Frame.enter C.prog f i.args .normal) [] (w.forCall tape i)))
    (hts : fn.params = ts) (hrow : rowed C.prog ts.toList = true) (hvars : s.vars = []) (hvars2 : sp.vars = []) (hres : fn.resultTypes = #[tb]) (hb : C.prog.underlying tb = some .bool)
    (hs : ∀ ds : List (DataW H), ds.length = ts.toList.length → s.fn H ds = { results := [.lit (.bool true)], args := ds })
    (walk : ∀ (W : World) (args : Array Value) (ds : List (DataW H)) (p : List MemPlace), laidMetH C.prog laid W → W.ShapedOpen C.prog → Vals C.prog W ts.toList args.toList →
      DataW.TrodAll enc C.prog W 0 (fun _ => true) true ts.toList args.toList ds p → (∀ k, sp.cond = some k → k H ds = true) →
      Calls C.prog f args W fun e W' => e = .returned (.bool true) ∧ Below W.heap.size W W') :
    ReturnsInHanded {} C os f .any (sp.preRow enc C.prog fn conds false laid) ((sp.at F).post enc C.prog fn false true false false) := by
  refine returnsInHanded_of_row own started noInit hfn witness ?_
  intro W base args ds gs before hval hW _ hk hsz hL hsh _
  subst hts
  rw [hvars2] at hW
  have hW' : DataW.Whole enc C.prog fn.params.toList s.vars false W args.toList ds gs before := by rw [hvars]; exact hW
  have hW2 := hW'
  obtain ⟨p, q, hA, hV, rfl, _, _⟩ := hW2
  rw [hvars] at hV
  obtain ⟨rfl, rfl⟩ := trodVars_none hV
  rw [hbare, List.append_nil, List.append_nil] at hsz
  have hv := vals_of_trodAll (fun j t v hj hj' => hval j t v (by simpa using hj) (by simpa using hj')) hA (fun n hn => by simpa using List.all_eq_true.1 hsz n hn)
  refine (walk W args ds p hL hsh hv hA (fun k h => by simpa using hk k h)).mono fun e W' ⟨he, bel⟩ => ?_
  subst he
  have hfn' : s.fn H (ds ++ []) = { results := [.lit (.bool true)], args := ds } := by
    rw [List.append_nil]
    exact hs ds (trodAll_length hA).1
  have key : s.post enc C.prog fn false true false false W args (.bool true) W' := by
    refine ⟨ds, [], p ++ [], [], p, [], hW', ?_, ?_, ?_, bel.frame _, fun h => by cases h⟩
    · rw [hfn', hres]
      exact trodAll_mk1 (shut_bool hb true)
    · rw [hfn']
      exact trodAll_below lo bel hrow hA
    · rw [hfn', hvars]
      rfl
  rw [hat]
  exact ⟨_, rfl, key⟩

/-- Pieces that are all read alone. -/
theorem sat0_ro {H : List Chunk} {w : World} (hx : ∀ D ∈ H, D.excl = false) (hh : ∀ D ∈ H, D.holds w) : Sat0 H w :=
  ⟨hh, List.pairwise_iff_getElem.2 fun i j hi hj _ he => by
    rw [hx _ (List.getElem_mem hi), hx _ (List.getElem_mem hj)] at he
    rcases he with he | he <;> cases he⟩
theorem Fn.lawR {P : Program} {f : FuncId} {args : Array Value} {W : World} {H : List Chunk} (hx : ∀ D ∈ H, D.excl = false) (hh : ∀ D ∈ H, D.holds W)
    (h : Fn P f args H Unit (fun _ => .bool true) (fun _ => []) (fun _ => True)) : Calls P f args W fun e w' => e = .returned (.bool true) ∧ Below W.heap.size W w' :=
  (h W (sat0_ro hx hh)).mono fun e w' ⟨_, _, he, hs⟩ => ⟨he, hs.upd.to_below (Nat.le_refl _) fun k _ ⟨D, hD, hd, _⟩ => by rw [hx D hD] at hd; cases hd⟩

/-- A variable that the row lists as an error holds some error. -/
theorem iface_of_head {P : Program} {W : World} {n nm : String} {d : DataW Unit} {r : List (String × DataW Unit)} {g : Nat} {ti : TypeId} {ms : Array (String × TypeId)} (h : laidMet P ((n, .iface nm d) :: r) W)
    (hg : P.globalNamed n = some g) (ht : (P.globals[g]?).map (·.type) = some ti) (hi : P.underlying ti = some (.interface ms)) : ∃ tp p, W.var? P n = some #[.iface tp p] := by
  obtain ⟨ps, ⟨g0, t0, cs0, f0, p0, q0, hg0, ht0, hv0, hd0, _, _⟩, _, _⟩ := h
  obtain rfl := Option.some.inj (hg.symm.trans hg0)
  obtain rfl := Option.some.inj (ht.symm.trans ht0)
  obtain ⟨_, u, v, e, _, _⟩ := iface_of_trod hi hd0
  obtain ⟨l0⟩ := cs0
  subst e
  exact ⟨u, v, hv0⟩

def lawsLaid : List (String × DataW Unit) := [("math/bits.deBruijn32tab", Rows.laid_math_bits_deBruijn32tab), ("math/bits.deBruijn64tab", Rows.laid_math_bits_deBruijn64tab), ("internal/strconv.uint64pow10", Rows.laid_internal_strconv_uint64pow10), ("strconv.ErrRange", Rows.laid_strconv_ErrRange), ("strconv.ErrSyntax", Rows.laid_strconv_ErrSyntax)]
theorem pow10_data : (Rows.laid_internal_strconv_uint64pow10 : DataW Unit) = Lib.tabData .u64 Lib.pow10Tab := by kernel_rfl
theorem laidH_of_row {W : World} (h : laidMetH Tryz.prog lawsLaid W) (_ : W.ShapedOpen Tryz.prog) : laidH W := by
  rw [MakeChecks.laidMetH_plain _ _ _ (by kernel_rfl)] at h
  have h2 : laidMet Tryz.prog (("internal/strconv.uint64pow10", Lib.tabData .u64 Lib.pow10Tab) :: lawsLaid.drop 3) W := by
    rw [← pow10_data]
    exact h.tail.tail
  refine ⟨?_, ?_, ?_⟩
  · exact Lib.tabIs_of_head gT (by kernel_rfl) Tryz.underlying179 Tryz.underlying109 (by kernel_rfl) (by kernel_rfl) h2
  · exact iface_of_head h.tail.tail.tail.tail gS (by kernel_rfl) Tryz.underlying121
  · exact iface_of_head h.tail.tail.tail gR (by kernel_rfl) Tryz.underlying121

/-! ### one start that fits -/
/-- The cells of a table, as the row lists it. -/
def flatD : Nat → DataW Unit → List Value
  | 0, _ => []
  | _ + 1, .lit (.int k m) => [.int k m]
  | n + 1, .agg ps => ps.flatMap (flatD n)
  | _ + 1, _ => []
noncomputable def low : Nat := (World.holding Tryz.prog default ⟨#[], #[], []⟩).heap.size
def putG_ (cs : List Value) : Obj → Obj
  | .cells _ t frozen => .cells cs.toArray t frozen
  | o => o
noncomputable def laidWorld (os : Os) : World :=
  let w0 := World.holding Tryz.prog os ⟨#[.cells #[.string (txt [118, 97, 108, 117, 101, 32, 111, 117, 116, 32, 111, 102, 32, 114, 97, 110, 103, 101])] 191, .cells #[.string (txt [105, 110, 118, 97, 108, 105, 100, 32, 115, 121, 110, 116, 97, 120])] 191], #[], []⟩
  { w0 with heap := ((((w0.heap.modify 4 (putG_ (flatD 3 Rows.laid_math_bits_deBruijn32tab))).modify 5 (putG_ (flatD 3 Rows.laid_math_bits_deBruijn64tab))).modify 2 (putG_ (flatD 3 Rows.laid_internal_strconv_uint64pow10))).modify 1 (putG_ [.iface 189 (.pointer (some ⟨low, 0, none⟩))])).modify 0 (putG_ [.iface 189 (.pointer (some ⟨low + 1, 0, none⟩))]) }
theorem laid_met (os : Os) (args : Array Value) : laidMet Tryz.prog lawsLaid ((laidWorld os).forCall (fun _ _ => 0) ⟨#[], args, []⟩).memory :=
  laidMet_of_run' 8 (by kernel_rfl) (by kernel_rfl)
theorem laid_metH (os : Os) (args : Array Value) : laidMetH Tryz.prog lawsLaid ((laidWorld os).forCall (fun _ _ => 0) ⟨#[], args, []⟩).memory := by
  rw [MakeChecks.laidMetH_plain _ _ _ (by kernel_rfl)]
  exact laid_met os args
theorem own_none : ownKnob Tryz.prog.godebug = none := by kernel_rfl
theorem laid_outB : laidOutB Tryz.prog = true := by kernel_rfl
end Go.Proofs.YtceanciekadkeaaGreatDoor
