/-
  Texts joined: WlOA, WlCP, DvE, WlCA, WlCB, WlCC, WlLd.
-/
import Derived.Test.YtceanciekadkeaaGreatDoorMWlL3a
import Derived.Test.YtceanciekadkeaaGreatDoorMWlL3h
import Derived.Test.YtceanciekadkeaaGreatDoorMWlL3k
import Derived.Deep.DeepHandedRow
import Derived.Stop.LaidErr
import Derived.Shelf.Vars
import Derived.MakeChecks
/- WalOwn: the walk -/
namespace Go.Proofs.YtceanciekadkeaaGreatDoor
open Go.RowKit
section
variable {Γ : Ctx} {H : List Chunk} {w : World} {α : Type} {F : α → Chunk}
/-- One out of a family of one's own, and back. -/
theorem one_open (hF : ∀ z, (F z).excl = true) {a b : List α} {z : α} (h : Sat Γ (starx ((a ++ z :: b).map F) :: H) w) : Sat Γ (F z :: starx ((a ++ b).map F) :: H) w := by
  have h1 := Sat.starx_open h
  have h2 : Sat Γ (((a ++ b).map F) ++ (F z :: H)) w := h1.perm (by
    rw [List.map_append, List.map_cons, List.map_append, List.append_assoc, List.append_assoc]
    refine List.Perm.append_left _ ?_
    exact (List.perm_append_comm_assoc [F z] (b.map F) H))
  have h3 := Sat.starx_close (fun C hC => by obtain ⟨_, _, rfl⟩ := List.mem_map.1 hC; exact hF _) h2
  exact h3.perm (List.Perm.swap _ _ _)
theorem one_shut (hF : ∀ z, (F z).excl = true) {a b : List α} {z : α} (h : Sat Γ (F z :: starx ((a ++ b).map F) :: H) w) : Sat Γ (starx ((a ++ z :: b).map F) :: H) w := by
  have h2 := Sat.starx_open (h.perm (List.Perm.swap _ _ _))
  refine Sat.starx_close (fun C hC => by obtain ⟨_, _, rfl⟩ := List.mem_map.1 hC; exact hF _) (h2.perm ?_)
  rw [List.map_append, List.map_append, List.map_cons, List.append_assoc, List.append_assoc]
  refine List.Perm.append_left _ ?_
  exact (List.perm_append_comm_assoc (b.map F) [F z] H)
theorem pay_open {a b : List ByS} {z : ByS} (h : Sat Γ (payX (a ++ z :: b) :: H) w) : Sat Γ (z.R :: payX (a ++ b) :: H) w := one_open (F := ByS.R) (fun _ => rfl) h
theorem pay_shut {a b : List ByS} {z : ByS} (h : Sat Γ (z.R :: payX (a ++ b) :: H) w) : Sat Γ (payX (a ++ z :: b) :: H) w := one_shut (F := ByS.R) (fun _ => rfl) h
theorem pay_new {b : List ByS} {z : ByS} (h : Sat Γ (z.R :: payX b :: H) w) : Sat Γ (payX (b ++ [z]) :: H) w := pay_shut (a := b) (b := []) (by rw [List.append_nil]; exact h)
end
theorem lapp_own {D : DrS} {P : DrP} (h : Drv D P) (g : Nat) (L : LgP) (hL : L.seg ≤ 1000000) (A : Option Addr) (n c c' : Nat) (p : List UInt8) (xs : List Value) (hp : p.length ≤ n) (hx : xs.take p.length = u8s p) : Fn Tryz.prog 11 #[ptrV g, .slice A p.length c'] [lgB g D.d L, D.B, D.M, D.F, laidC, row A n c 5 1 xs] DrS (fun _ => .int .i64 (appL P L p).2.2) (fun D' => [lgB g D.d (appL P L p).2.1, D'.B, D'.M, D'.F, row A n c 5 1 xs]) (fun D' => Drv D' (appL P L p).1 ∧ D'.d = D.d ∧ D'.m = D.m) :=
  Fn.lend (Hp := [lgB g D.d L, D.B, D.M, D.F, laidC]) (r := rdB A p) (R := row A n c 5 1 xs) (lappend_sl h g L hL A c' p) (fun D' _ C hC => by
    simp only [List.mem_cons, List.not_mem_nil, or_false] at hC
    rcases hC with rfl | rfl | rfl | rfl <;> rfl) rfl rfl (fun w hw => by
    have := (Own.reads hw).take (k := p.length) hp
    rw [Nat.mul_one, hx] at this
    exact this) (fun k hk => hk.2)
theorem u8s_set (l : List UInt8) (k : Nat) (x : UInt8) : (u8s l).set k (.int .u8 x.toNat) = u8s (l.set k x) := by
  unfold u8s
  rw [← List.map_set]
def ByS.ok (W : World) (s : ByS) : Prop := Reads W W.heap.size 1 s.A s.l.length (u8s s.l) ∧ s.l.length ≤ s.c ∧ s.l.length ≤ 140737488351232
theorem cel_bys {w : World} {n : Nat} {cs : List Value} (h : Cel Tryz.prog w n 30 cs) : ∃ s : ByS, cs = [s.v] ∧ s.ok w := by
  rcases cel_slice Tryz.underlying30 h with rfl | ⟨a2, len2, cap2, rfl, hl2, hm2, hb2, hc2⟩
  · exact ⟨⟨none, 0, []⟩, rfl, ⟨Reads.none_, Nat.le_refl 0, by show (0 : Nat) ≤ 140737488351232; omega⟩⟩
  · obtain ⟨l, hr⟩ := bytes_of w a2 len2 cap2 hl2 hc2
    rw [bytes_u8] at hb2
    unfold reachBytes at hb2
    have hll := hr.len_
    subst hll
    exact ⟨⟨some a2, cap2, l⟩, rfl, hr, hl2, by show l.length ≤ _; omega⟩
theorem cells_bys : Tryz.prog.cellsOf 30 = 1 := by kernel_rfl
theorem bytes_bys : Tryz.prog.bytesOf 30 = 24 := by kernel_rfl
set_option maxRecDepth 100000 in
theorem val_pay {W : World} {v : Value} (h : Val Tryz.prog W 22 v) : ∃ A c S, v = .slice A (List.length S) c ∧ Reads W W.heap.size 1 A S.length (S.map ByS.v) ∧ (∀ s ∈ S, ByS.ok W s) ∧ S.length ≤ c ∧ c ≤ 5864062014634 := by
  obtain ⟨n, h⟩ := @val_cel Tryz.prog W 22 30 v Tryz.underlying22 h
  obtain ⟨A, c, S, e, hr, hq, hc, hb⟩ := cel_slice1 (f := ByS.v) (Q := ByS.ok W) Tryz.underlying22 cells_bys (fun n cs h => cel_bys h) h
  rw [bytes_bys] at hb
  unfold reachBytes at hb
  exact ⟨A, c, S, by simpa using e, hr, hq, hc, by omega⟩
theorem mid_get {a b : List ByS} {z : ByS} {i : Nat} (h : a.length = i) : (a ++ z :: b)[i]? = some z := by
  rw [List.getElem?_append_right (by omega), h, Nat.sub_self]
  rfl
theorem mid_set {a b : List ByS} {z y : ByS} {i : Nat} (h : a.length = i) : ((a ++ z :: b).map ByS.v).set i y.v = (a ++ y :: b).map ByS.v := by
  rw [List.map_append, List.map_append, List.map_cons, List.map_cons, List.set_append_right _ _ (by rw [List.length_map]; omega), List.length_map, h, Nat.sub_self]
  rfl
theorem mid_far {a b : List ByS} {z y : ByS} {i j : Nat} (h : a.length = i) (hj : i < j) : (a ++ z :: b)[j]? = (a ++ y :: b)[j]? := by
  rw [List.getElem?_append_right (by omega), List.getElem?_append_right (by omega)]
  obtain ⟨e, he⟩ : ∃ e, j - a.length = e + 1 := ⟨j - a.length - 1, by omega⟩
  rw [he]
  rfl
theorem own3_sl (W : World) (A : Option Addr) (c : Nat) (S : List ByS) (hr : Reads W W.heap.size 1 A S.length (S.map ByS.v)) (hok : ∀ s ∈ S, ByS.ok W s) (hn : S.length ≤ 5864062014634) : Fn Tryz.prog 3 #[.slice A S.length c] [argc W, laidC] Unit (fun _ => .bool true) (fun _ => []) (fun _ => True) := by
  obtain ⟨m, hm⟩ : ∃ m, m = min S.length 20 := ⟨_, rfl⟩
  obtain ⟨ps, hps⟩ : ∃ ps, ps = S.map fun s => cutP s.l := ⟨_, rfl⟩
  have hpl : ps.length = S.length := by rw [hps, List.length_map]
  refine Fn.enter Tryz.func3 rfl Tryz.ntmps3 (by rfl) ?_
  intro w0
  refine Ent.arg 0 (by rfl) hr ?_
  refine Cd.seq ?_
  refine Cd.region ?_
  refine Ls.ev (some 2) (Ev.assign (show Oper.op _ = Op.assign (Operand.const (Value.bool false)) from rfl) (by rfl)) (by rfl) (by rfl) ?_
  refine Ls.nil ?_
  refine Cd.seq ?_
  refine Cd.region ?_
  refine Ls.does (some 21) (Does.call [0, 1, 2] (show Oper.op _ = Op.call { callee := Callee.value (Operand.func 7), args := #[], argTypes := #[] } from rfl) Tryz.func7 (by kernel_rfl) (by kernel_rfl) (new_sl) (by rfl) (by rfl) (by rfl)) (by rfl) (by rfl) ?_
  rintro D0 hD0
  refine Ls.ev (some 3) (Ev.assign (show Oper.op _ = Op.assign (Operand.tmp 21) from rfl) (by rfl)) (by rfl) (by rfl) ?_
  refine Ls.nil ?_
  refine Cd.seq ?_
  refine Cd.seq ?_
  refine Cd.region ?_
  refine Ls.does (some 22) (Does.read (show Oper.op _ = Op.call { callee := Callee.value (Operand.func 8), args := #[], argTypes := #[] } from rfl) Tryz.func8 (by kernel_rfl) (by kernel_rfl) (awake_sl) (by rfl) (by rfl) ⟨laidIn 5 (by rfl), trivial⟩) (by rfl) (by rfl) ?_
  rintro _ -
  refine Ls.ev (some 23) (Ev.not (show Oper.op _ = Op.unOp UnOp.not 4 (Operand.tmp 22) from rfl) (by rfl)) (by rfl) (by rfl) ?_
  refine Ls.ev (some 24) (Ev.move (show Oper.op _ = Op.move (Operand.tmp 23) from rfl) (by rfl)) (by rfl) (by rfl) ?_
  refine Ent.known 24 false (by rfl) (by exact (rfl)) ?_
  refine Ls.ev (some 25) (Ev.move (show Oper.op _ = Op.move (Operand.tmp 3) from rfl) (by rfl)) (by rfl) (by rfl) ?_
  refine Ls.ev (some 26) (Ev.ptrNil (show Oper.op _ = Op.binOp BinOp.eql 23 (Operand.tmp 25) (Operand.const (Value.pointer none)) 23 from rfl) (by rfl) (by rfl) Tryz.underlying23) (by rfl) (by rfl) ?_
  refine Ls.ev (some 27) (Ev.pickF (show Oper.op _ = Op.pick (Operand.tmp 24) (Operand.const (Value.bool true)) (Operand.tmp 26) from rfl) (by rfl) (by rfl)) (by rfl) (by rfl) ?_
  refine Ls.nil ?_
  skip
  refine Cd.cond_false (by rfl) (rfl) ?_
  refine Cd.skip ?_
  refine Cd.seq ?_
  refine Cd.region ?_
  refine Ls.ev (some 29) (Ev.move (show Oper.op _ = Op.move (Operand.tmp 3) from rfl) (by rfl)) (by rfl) (by rfl) ?_
  refine Ls.does (some 30) (Does.readN (show Oper.op _ = Op.call { callee := Callee.value (Operand.func 9), args := #[Operand.tmp 29, Operand.const (Value.int IntKind.i64 1)], argTypes := #[23, 3] } from rfl) Tryz.func9 (by kernel_rfl) (by kernel_rfl) (open_sl hD0 1 (by omega) (by omega)) (by rfl) (by rfl) ⟨blkIn 0 (by rfl), mapIn 1 (by rfl), filIn 2 (by rfl), laidIn 5 (by rfl), trivial⟩ (fun _ => by rfl)) (by rfl) (by rfl) ?_
  rintro ⟨g, ⟨_, _⟩, _⟩ -
  dsimp only
  refine Ls.ev (some 28) (Ev.move (show Oper.op _ = Op.move (Operand.tmp 30) from rfl) (by rfl)) (by rfl) (by rfl) ?_
  refine Ls.ev (some 31) (Ev.extract (show Oper.op _ = Op.extract (Operand.tmp 28) 0 from rfl) (by rfl) (by rfl)) (by rfl) (by rfl) ?_
  refine Ls.ev (some 32) (Ev.extract (show Oper.op _ = Op.extract (Operand.tmp 28) 1 from rfl) (by rfl) (by rfl)) (by rfl) (by rfl) ?_
  refine Ls.ev (some 33) (Ev.extract (show Oper.op _ = Op.extract (Operand.tmp 28) 2 from rfl) (by rfl) (by rfl)) (by rfl) (by rfl) ?_
  refine Ls.ev (some 4) (Ev.assign (show Oper.op _ = Op.assign (Operand.tmp 31) from rfl) (by rfl)) (by rfl) (by rfl) ?_
  refine Ls.ev (some 5) (Ev.assign (show Oper.op _ = Op.assign (Operand.tmp 32) from rfl) (by rfl)) (by rfl) (by rfl) ?_
  refine Ls.ev (some 6) (Ev.assign (show Oper.op _ = Op.assign (Operand.tmp 33) from rfl) (by rfl)) (by rfl) (by rfl) ?_
  refine Ls.nil ?_
  refine Cd.seq ?_
  refine Cd.seq ?_
  refine Cd.region ?_
  refine Ls.ev (some 34) (Ev.move (show Oper.op _ = Op.move (Operand.tmp 4) from rfl) (by rfl)) (by rfl) (by rfl) ?_
  refine Ls.ev (some 35) (Ev.ptrNil (show Oper.op _ = Op.binOp BinOp.eql 26 (Operand.tmp 34) (Operand.const (Value.pointer none)) 26 from rfl) (by rfl) (by rfl) Tryz.underlying26) (by rfl) (by rfl) ?_
  refine Ls.ev (some 36) (Ev.move (show Oper.op _ = Op.move (Operand.tmp 35) from rfl) (by rfl)) (by rfl) (by rfl) ?_
  refine Ent.known 36 false (by rfl) (by exact (rfl)) ?_
  refine Ls.ev (some 37) (Ev.move (show Oper.op _ = Op.move (Operand.tmp 6) from rfl) (by rfl)) (by rfl) (by rfl) ?_
  refine Ls.ev (some 38) (Ev.neq (show Oper.op _ = Op.binOp BinOp.neq 27 (Operand.tmp 37) (Operand.const (Value.int IntKind.i64 0)) 27 from rfl) (by rfl) (by rfl)) (by rfl) (by rfl) ?_
  refine Ls.ev (some 39) (Ev.pickF (show Oper.op _ = Op.pick (Operand.tmp 36) (Operand.const (Value.bool true)) (Operand.tmp 38) from rfl) (by rfl) (by rfl)) (by rfl) (by rfl) ?_
  refine Ls.nil ?_
  skip
  refine Cd.cond_false (by rfl) (decide_eq_false (show ¬ ((0 : Int) ≠ 0) from fun h => h rfl)) ?_
  refine Cd.skip ?_
  refine Cd.seq ?_
  refine Cd.region ?_
  refine Ls.ev (some 7) (Ev.assign (show Oper.op _ = Op.assign (Operand.const (Value.slice none 0 0)) from rfl) (by rfl)) (by rfl) (by rfl) ?_
  refine Ls.nil ?_
  refine Cd.seq ?_
  refine Cd.seq ?_
  refine Cd.region ?_
  refine Ls.ev (some 8) (Ev.assign (show Oper.op _ = Op.assign (Operand.const (Value.int IntKind.i64 0)) from rfl) (by rfl)) (by rfl) (by rfl) ?_
  refine Ls.nil ?_
  refine Cd.block ?_
  refine Ent.nil 30 1 ?_
  refine Ent.map (fun w hs => hs.starx_nil) ?_
  refine Ent.pick [1, 0, 2, 5, 6, 7, 8, 9, 10] (by rfl) ?_
  have hf0 : Fed DrP.new ⟨DrP.new.seg 1, false⟩ [] := Fed.start
  refine Cd.loop (ι := Nat × (Option Addr × Nat × List ByS) × DrS × DrP × LgP) (fun p => [(0, .slice A S.length c), (3, ptrV D0.d), (4, ptrV g), (7, .slice p.2.1.1 p.2.1.2.2.length p.2.1.2.1), (8, .int .i64 p.1)]) (fun p => [payW p.2.1.1 p.2.1.2.1 p.2.1.2.2, payX p.2.1.2.2, lgB g D0.d p.2.2.2.2, p.2.2.1.B, p.2.2.1.M, p.2.2.1.F, rdV A S, argc W, laidC]) (fun p => p.1 ≤ m ∧ p.2.1.2.2.map ByS.l = ps.take p.1 ∧ Drv p.2.2.1 p.2.2.2.1 ∧ p.2.2.1.d = D0.d ∧ Fed p.2.2.2.1 p.2.2.2.2 (ps.take p.1)) (fun p => m - p.1) ((0, (none, 0, []), D0, DrP.new, ⟨DrP.new.seg 1, false⟩)) (⟨Nat.zero_le _, rfl, hD0, rfl, hf0⟩) ?_ rfl ?_
  · (repeat (first | exact trivial | refine ⟨by rfl, ?_⟩))
  rintro ⟨k, ⟨wA, wc, U⟩, D, P, L⟩ ⟨hk, hU, hD, hd, hF⟩
  dsimp only at hk hU hD hd hF ⊢
  have hUl : U.length = k := by
    have := congrArg List.length hU
    rw [List.length_map, List.length_take] at this
    omega
  refine Cd.seq ?_
  refine Cd.seq ?_
  refine Cd.cut (ι := Unit) (fun _ => [(0, .slice A S.length c), (3, ptrV D0.d), (4, ptrV g), (7, .slice wA U.length wc), (8, .int .i64 k), (47, .bool (decide (k < m)))]) (fun _ => [payW wA wc U, payX U, lgB g D0.d L, D.B, D.M, D.F, rdV A S, argc W, laidC]) (fun _ => True) ?_ ?_
  · skip
    refine Cd.region ?_
    refine Ls.ev (some 40) (Ev.move (show Oper.op _ = Op.move (Operand.tmp 8) from rfl) (by rfl)) (by rfl) (by rfl) ?_
    refine Ls.ev (some 41) (Ev.move (show Oper.op _ = Op.move (Operand.tmp 0) from rfl) (by rfl)) (by rfl) (by rfl) ?_
    refine Ls.ev (some 42) (Ev.len (show Oper.op _ = Op.call { callee := Callee.builtin Builtin.len, args := #[Operand.tmp 41], argTypes := #[22] } from rfl) (by rfl) Tryz.underlying22) (by rfl) (by rfl) ?_
    refine Ls.ev (some 43) (Ev.lss (show Oper.op _ = Op.binOp BinOp.lss 3 (Operand.tmp 40) (Operand.tmp 42) 3 from rfl) (by rfl) (by rfl)) (by rfl) (by rfl) ?_
    refine Ls.ev (some 44) (Ev.move (show Oper.op _ = Op.move (Operand.tmp 43) from rfl) (by rfl)) (by rfl) (by rfl) ?_
    refine Ent.split 44 (by rfl) (fun hT1 => ?_) (fun hT1 => ?_)
    · first | have hT1 := of_decide_eq_false hT1 | have hT1 := of_not_decide_false hT1 | skip
      refine Ls.pass (some 45) (by rfl) (by rfl) ?_
      refine Ls.pass (some 46) (by rfl) (by rfl) ?_
      refine Ls.ev (some 47) (Ev.pickF (show Oper.op _ = Op.pick (Operand.tmp 44) (Operand.tmp 46) (Operand.const (Value.bool false)) from rfl) (by rfl) (by rfl)) (by rfl) (by rfl) ?_
      refine Ls.nil ?_
      refine Ent.inv () ?_ ?_ ?_
      · exact trivial
      · (repeat (first | exact trivial | refine ⟨by rfl, ?_⟩ | refine ⟨by simp only [List.length_append, List.length_cons, List.length_nil]; rfl, ?_⟩ | refine ⟨by push_cast; rfl, ?_⟩ | refine ⟨by (show some (Value.bool _) = some (Value.bool _); congr 2; (first | exact (decide_eq_decide.2 (by omega)) | exact (decide_eq_false (by omega)).symm | exact (decide_eq_true (by omega)).symm | exact decide_eq_true (by omega) | exact decide_eq_false (by omega))), ?_⟩))
      · rfl
    · first | have hT1 := of_decide_eq_true hT1 | have hT1 := of_not_decide_true hT1 | skip
      refine Ls.ev (some 45) (Ev.move (show Oper.op _ = Op.move (Operand.tmp 8) from rfl) (by rfl)) (by rfl) (by rfl) ?_
      refine Ls.ev (some 46) (Ev.lss (show Oper.op _ = Op.binOp BinOp.lss 3 (Operand.tmp 45) (Operand.const (Value.int IntKind.i64 20)) 3 from rfl) (by rfl) (by rfl)) (by rfl) (by rfl) ?_
      refine Ls.ev (some 47) (Ev.pickT (show Oper.op _ = Op.pick (Operand.tmp 44) (Operand.tmp 46) (Operand.const (Value.bool false)) from rfl) (by rfl) (by rfl)) (by rfl) (by rfl) ?_
      refine Ls.nil ?_
      refine Ent.inv () ?_ ?_ ?_
      · exact trivial
      · (repeat (first | exact trivial | refine ⟨by rfl, ?_⟩ | refine ⟨by simp only [List.length_append, List.length_cons, List.length_nil]; rfl, ?_⟩ | refine ⟨by push_cast; rfl, ?_⟩ | refine ⟨by (show some (Value.bool _) = some (Value.bool _); congr 2; (first | exact (decide_eq_decide.2 (by omega)) | exact (decide_eq_false (by omega)).symm | exact (decide_eq_true (by omega)).symm | exact decide_eq_true (by omega) | exact decide_eq_false (by omega))), ?_⟩))
      · rfl
  skip
  rintro _ -
  refine Cd.cond _ (by rfl) (fun h2 => ?_) (fun h2 => ?_)
  · skip
    have hlt : k < m := of_decide_eq_true h2
    obtain ⟨s, hs⟩ := get_of_lt (show k < S.length by omega)
    have hoks := hok s (List.mem_of_getElem? hs)
    have hps1 : ps.take (k + 1) = ps.take k ++ [cutP s.l] := by
      rw [List.take_add_one, hps, List.getElem?_map, hs]
      rfl
    have hcl := cutP_len s.l
    refine Ent.rdSome 6 (by rfl) (by omega) (fun ad had => ?_)
    subst had
    refine Ent.arg 7 (by rfl) hoks.1 ?_
    refine Cd.skip ?_
    refine Cd.seq ?_
    refine Cd.block ?_
    refine Cd.seq ?_
    refine Cd.region ?_
    refine Ls.ev (some 50) (Ev.move (show Oper.op _ = Op.move (Operand.tmp 0) from rfl) (by rfl)) (by rfl) (by rfl) ?_
    refine Ls.ev (some 51) (Ev.move (show Oper.op _ = Op.move (Operand.tmp 8) from rfl) (by rfl)) (by rfl) (by rfl) ?_
    refine Ls.ev (some 52) (Ev.indexAt (sz := 1) (show Oper.op _ = Op.indexAddr 22 (Operand.tmp 50) (Operand.tmp 51) from rfl) (by rfl) (by rfl) Tryz.underlying22 (by kernel_rfl) (by omega)) (by rfl) (by rfl) ?_
    refine Ls.ev (some 53) (Ev.loadV (show Oper.op _ = Op.load 30 (Operand.tmp 52) from rfl) (by rfl) (ReadsIn.rd 7 (by rfl)) (by kernel_rfl) hs) (by rfl) (by rfl) ?_
    skip
    refine Ls.does (some 54) (Does.readN (show Oper.op _ = Op.call { callee := Callee.value (Operand.func 10), args := #[Operand.tmp 53], argTypes := #[30] } from rfl) Tryz.func10 (by kernel_rfl) (by kernel_rfl) (cutb_sl s.A s.c s.l hoks.2.1) (by rfl) (by rfl) ⟨ReadsIn.rd 0 (by rfl), trivial⟩ (fun _ => by rfl)) (by rfl) (by rfl) ?_
    rintro ⟨rA, rc⟩ -
    refine Ls.does (some 55) (Does.lit (sz := 1) (show Oper.op _ = Op.buildSlice 30 1 #[(0, Operand.const (Value.int IntKind.u8 77))] from rfl) (by rfl) Tryz.underlying30 (by kernel_rfl) (by rfl) (by kernel_rfl)) (by rfl) (by rfl) ?_
    intro g1 _
    refine Ls.does (some 56) (Does.app (xs := u8s (cutP s.l)) (news := u8s [77]) 1 (show Oper.op _ = Op.call { callee := Callee.builtin Builtin.append, args := #[Operand.tmp 54, Operand.tmp 55], argTypes := #[30, 30] } from rfl) (by rfl) (by rfl) (by rfl) (ReadsIn.row 0 (by rfl)) elem_b (u8s_one _) (show ((cutP s.l).length + 1) * 1 ≤ 140737488355328 by omega)) (by rfl) (by rfl) ?_
    rintro ⟨qA, qc⟩ -
    dsimp only
    refine Ent.fact 1 (by rfl) (p := (cutP s.l).length + 1 ≤ qc) (fun w hw => Own.le hw) (fun hqc => ?_)
    skip
    refine Ls.ev (some 9) (Ev.assign (show Oper.op _ = Op.assign (Operand.tmp 56) from rfl) (by rfl)) (by rfl) (by rfl) ?_
    refine Ls.nil ?_
    refine Cd.seq ?_
    refine Cd.region ?_
    refine Ls.ev (some 57) (Ev.move (show Oper.op _ = Op.move (Operand.tmp 9) from rfl) (by rfl)) (by rfl) (by rfl) ?_
    refine Ls.ev (some 58) (Ev.move (show Oper.op _ = Op.move (Operand.tmp 9) from rfl) (by rfl)) (by rfl) (by rfl) ?_
    refine Ls.ev (some 59) (Ev.len (show Oper.op _ = Op.call { callee := Callee.builtin Builtin.len, args := #[Operand.tmp 58], argTypes := #[30] } from rfl) (by rfl) Tryz.underlying30) (by rfl) (by rfl) ?_
    refine Ls.ev (some 60) (Ev.subN (b := 1) (show Oper.op _ = Op.binOp BinOp.sub 3 (Operand.tmp 59) (Operand.const (Value.int IntKind.i64 1)) 3 from rfl) (by rfl) (by rfl) (by omega)) (by rfl) (by rfl) ?_
    refine Ls.ev (some 61) (Ev.sliceHn (h := (cutP s.l).length) (sz := 1) (show Oper.op _ = Op.slice 30 (Operand.tmp 57) none (some (Operand.tmp 60)) none from rfl) (by rfl) (by rfl) Tryz.underlying30 (by kernel_rfl) (by omega)) (by rfl) (by rfl) ?_
    refine Ls.ev (some 10) (Ev.assign (show Oper.op _ = Op.assign (Operand.tmp 61) from rfl) (by rfl)) (by rfl) (by rfl) ?_
    refine Ls.nil ?_
    refine Cd.seq ?_
    refine Cd.region ?_
    refine Ls.ev (some 62) (Ev.move (show Oper.op _ = Op.move (Operand.tmp 7) from rfl) (by rfl)) (by rfl) (by rfl) ?_
    refine Ls.ev (some 63) (Ev.move (show Oper.op _ = Op.move (Operand.tmp 0) from rfl) (by rfl)) (by rfl) (by rfl) ?_
    refine Ls.ev (some 64) (Ev.move (show Oper.op _ = Op.move (Operand.tmp 8) from rfl) (by rfl)) (by rfl) (by rfl) ?_
    refine Ls.ev (some 65) (Ev.indexAt (sz := 1) (show Oper.op _ = Op.indexAddr 22 (Operand.tmp 63) (Operand.tmp 64) from rfl) (by rfl) (by rfl) Tryz.underlying22 (by kernel_rfl) (by omega)) (by rfl) (by rfl) ?_
    refine Ls.ev (some 66) (Ev.loadV (show Oper.op _ = Op.load 30 (Operand.tmp 65) from rfl) (by rfl) (ReadsIn.rd 9 (by rfl)) (by kernel_rfl) hs) (by rfl) (by rfl) ?_
    skip
    refine Ls.does (some 67) (Does.readN (show Oper.op _ = Op.call { callee := Callee.value (Operand.func 10), args := #[Operand.tmp 66], argTypes := #[30] } from rfl) Tryz.func10 (by kernel_rfl) (by kernel_rfl) (cutb_sl s.A s.c s.l hoks.2.1) (by rfl) (by rfl) ⟨ReadsIn.rd 2 (by rfl), trivial⟩ (fun _ => by rfl)) (by rfl) (by rfl) ?_
    rintro ⟨vA, vc⟩ -
    refine Ls.does (some 68) (Does.lit (sz := 1) (show Oper.op _ = Op.buildSlice 22 1 #[(0, Operand.tmp 67)] from rfl) (by rfl) Tryz.underlying22 (by kernel_rfl) (by rfl) (by kernel_rfl)) (by rfl) (by rfl) ?_
    intro g2 _
    refine Ls.does (some 69) (Does.app (xs := U.map ByS.v) (news := [ByS.v ⟨vA, vc, cutP s.l⟩]) 5 (show Oper.op _ = Op.call { callee := Callee.builtin Builtin.append, args := #[Operand.tmp 62, Operand.tmp 68], argTypes := #[22, 22] } from rfl) (by rfl) (by rfl) (by rfl) (ReadsIn.row 0 (by rfl)) elem_pay (one_pay [⟨vA, vc, cutP s.l⟩]) (show (U.length + 1) * 24 ≤ 140737488355328 by omega)) (by rfl) (by rfl) ?_
    rintro ⟨xA, xc⟩ -
    dsimp only
    skip
    refine Ls.ev (some 7) (Ev.assign (show Oper.op _ = Op.assign (Operand.tmp 69) from rfl) (by rfl)) (by rfl) (by rfl) ?_
    refine Ls.nil ?_
    refine Cd.seq ?_
    refine Cd.seq ?_
    refine Cd.draw [2] (by kernel_rfl) ?_
    refine Rg.ev 0 (by rfl) (fun _ h => h) (Ev.move (show Oper.op _ = Op.move (Operand.tmp 4) from rfl) (by rfl)) (by rfl) (some 70) (by rfl) (by kernel_rfl) (by kernel_rfl) (by kernel_rfl) (by kernel_rfl) ?_
    refine Rg.ev 1 (by rfl) (fun _ h => h) (Ev.move (show Oper.op _ = Op.move (Operand.tmp 10) from rfl) (by rfl)) (by rfl) (some 71) (by rfl) (by kernel_rfl) (by kernel_rfl) (by kernel_rfl) (by kernel_rfl) ?_
    refine Ent.pick [1, 6, 5, 7, 8, 9, 10, 13, 3, 11, 12] (by rfl) ?_
    refine Ent.map (fun w hs => pay_new (z := ⟨vA, vc, cutP s.l⟩) (b := U) hs) ?_
    have hroom : row qA ((cutP s.l).length + 1) qc 5 1 (u8s (cutP s.l) ++ u8s [77]) = rowB qA qc (cutP s.l ++ [77]) := by
      dsimp only [rowB]
      rw [List.length_append, u8s_append]
      rfl
    have hwant : row xA (U.length + 1) xc 30 1 (U.map ByS.v ++ [ByS.v ⟨vA, vc, cutP s.l⟩]) = payW xA xc (U ++ [⟨vA, vc, cutP s.l⟩]) := by
      dsimp only [payW]
      rw [List.length_append, List.map_append]
      rfl
    rw [hroom, hwant]
    obtain ⟨hcode, hF2⟩ := hF.app (p := cutP s.l) (by rw [List.length_take]; omega) (by omega)
    have hsg := hF.seg
    have hap := lapp_own hD g L (by rw [List.length_take] at hsg; omega) qA (cutP s.l ++ [77]).length qc qc (cutP s.l) (u8s (cutP s.l ++ [77])) (by rw [List.length_append]; omega) (by
      have := u8s_length (cutP s.l)
      rw [u8s_append, List.take_append_of_le_length (by omega), List.take_of_length_le (by omega)])
    rw [hd] at hap
    refine Rg.tail 2 [] (by rfl) (by kernel_rfl) (Does.call [2, 3, 4, 5, 6, 7, 1, 0, 8, 9, 6] (show Oper.op _ = Op.call { callee := Callee.value (Operand.func 11), args := #[Operand.tmp 70, Operand.tmp 71], argTypes := #[26, 30] } from rfl) Tryz.func11 (by kernel_rfl) (by kernel_rfl) (hap) (by rfl) (by rfl) (by rfl)) (by rfl) (some 72) (by rfl) (by kernel_rfl) (by kernel_rfl) ?_
    rintro D1 ⟨hD1, hd1, -⟩
    rw [hcode]
    have hz : (U ++ [(⟨vA, vc, cutP s.l⟩ : ByS)])[k]? = some ⟨vA, vc, cutP s.l⟩ := by
      rw [List.getElem?_append_right (by omega), hUl, Nat.sub_self]
      rfl
    have h77 : (cutP s.l ++ [77])[(cutP s.l).length]? = some 77 := by
      rw [List.getElem?_append_right (by omega), Nat.sub_self]
      rfl
    refine Ent.rowSome 5 (by rfl) (by simp) (fun xd hxd => ?_)
    obtain rfl : xA = some xd := hxd
    refine Ent.rowSome 4 (by rfl) (by simp) (fun qd hqd => ?_)
    obtain rfl : qA = some qd := hqd
    refine Rg.ev 3 (by rfl) (fun _ h => h) (Ev.neq (show Oper.op _ = Op.binOp BinOp.neq 27 (Operand.tmp 72) (Operand.const (Value.int IntKind.i64 0)) 27 from rfl) (by rfl) (by rfl)) (by rfl) (some 73) (by rfl) (by kernel_rfl) (by kernel_rfl) (by kernel_rfl) (by kernel_rfl) ?_
    refine Rg.ev 4 (by rfl) (fun _ h => h) (Ev.move (show Oper.op _ = Op.move (Operand.tmp 73) from rfl) (by rfl)) (by rfl) (some 74) (by rfl) (by kernel_rfl) (by kernel_rfl) (by kernel_rfl) (by kernel_rfl) ?_
    refine Ent.known 74 false (by rfl) (by exact (decide_eq_false (show ¬ ((0 : Int) ≠ 0) from fun h => h rfl))) ?_
    refine Rg.ev 5 (by rfl) (fun _ h => h) (Ev.move (show Oper.op _ = Op.move (Operand.tmp 10) from rfl) (by rfl)) (by rfl) (some 75) (by rfl) (by kernel_rfl) (by kernel_rfl) (by kernel_rfl) (by kernel_rfl) ?_
    refine Rg.ev 6 (by rfl) (fun _ h => h) (Ev.textOf (show Oper.op _ = Op.convert 30 9 (Operand.tmp 75) from rfl) (by rfl) (ReadsIn.preB 4 (by rfl)) Tryz.underlying30 Tryz.underlying5 Tryz.underlying9) (by rfl) (some 76) (by rfl) (by kernel_rfl) (by kernel_rfl) (by kernel_rfl) (by kernel_rfl) ?_
    refine Rg.ev 7 (by rfl) (fun _ h => h) (Ev.move (show Oper.op _ = Op.move (Operand.tmp 7) from rfl) (by rfl)) (by rfl) (some 77) (by rfl) (by kernel_rfl) (by kernel_rfl) (by kernel_rfl) (by kernel_rfl) ?_
    refine Rg.ev 8 (by rfl) (fun _ h => h) (Ev.move (show Oper.op _ = Op.move (Operand.tmp 8) from rfl) (by rfl)) (by rfl) (some 78) (by rfl) (by kernel_rfl) (by kernel_rfl) (by kernel_rfl) (by kernel_rfl) ?_
    refine Rg.ev 9 (by rfl) (fun _ h => h) (Ev.indexAt (k := k) (sz := 1) (show Oper.op _ = Op.indexAddr 22 (Operand.tmp 77) (Operand.tmp 78) from rfl) (by rfl) (by rfl) Tryz.underlying22 (by kernel_rfl) (by omega)) (by rfl) (some 79) (by rfl) (by kernel_rfl) (by kernel_rfl) (by kernel_rfl) (by kernel_rfl) ?_
    refine Rg.ev 10 (by rfl) (fun _ h => h) (Ev.loadV (show Oper.op _ = Op.load 30 (Operand.tmp 79) from rfl) (by rfl) (ReadsIn.row 5 (by rfl)) (by kernel_rfl) hz) (by rfl) (some 80) (by rfl) (by kernel_rfl) (by kernel_rfl) (by kernel_rfl) (by kernel_rfl) ?_
    refine Rg.ev 11 (by rfl) (fun _ h => h) (Ev.textOf (l := cutP s.l) (show Oper.op _ = Op.convert 30 9 (Operand.tmp 80) from rfl) (by rfl) (fun w hs => (payIn 6 rfl w hs (ByS.r ⟨vA, vc, cutP s.l⟩) (List.mem_map_of_mem (List.mem_append_right _ (List.mem_singleton.2 rfl)))).2) Tryz.underlying30 Tryz.underlying5 Tryz.underlying9) (by rfl) (some 81) (by rfl) (by kernel_rfl) (by kernel_rfl) (by kernel_rfl) (by kernel_rfl) ?_
    refine Rg.ev 12 (by rfl) (fun _ h => h) (Ev.neqS (show Oper.op _ = Op.binOp BinOp.neq 9 (Operand.tmp 76) (Operand.tmp 81) 9 from rfl) (by rfl) (by rfl)) (by rfl) (some 82) (by rfl) (by kernel_rfl) (by kernel_rfl) (by kernel_rfl) (by kernel_rfl) ?_
    refine Rg.ev 13 (by rfl) (fun _ h => h) (Ev.pickF (show Oper.op _ = Op.pick (Operand.tmp 74) (Operand.const (Value.bool true)) (Operand.tmp 82) from rfl) (by rfl) (by rfl)) (by rfl) (some 83) (by rfl) (by kernel_rfl) (by kernel_rfl) (by kernel_rfl) (by kernel_rfl) ?_
    refine Rg.ev 14 (by rfl) (fun _ h => h) (Ev.move (show Oper.op _ = Op.move (Operand.tmp 83) from rfl) (by rfl)) (by rfl) (some 84) (by rfl) (by kernel_rfl) (by kernel_rfl) (by kernel_rfl) (by kernel_rfl) ?_
    refine Ent.known 84 false (by rfl) (by exact (decide_eq_false (show ¬ (txt (cutP s.l) ≠ txt (cutP s.l)) from fun h => h rfl))) ?_
    refine Rg.ev 15 (by rfl) (fun _ h => h) (Ev.move (show Oper.op _ = Op.move (Operand.tmp 9) from rfl) (by rfl)) (by rfl) (some 85) (by rfl) (by kernel_rfl) (by kernel_rfl) (by kernel_rfl) (by kernel_rfl) ?_
    refine Rg.ev 16 (by rfl) (fun _ h => h) (Ev.move (show Oper.op _ = Op.move (Operand.tmp 10) from rfl) (by rfl)) (by rfl) (some 86) (by rfl) (by kernel_rfl) (by kernel_rfl) (by kernel_rfl) (by kernel_rfl) ?_
    refine Rg.ev 17 (by rfl) (fun _ h => h) (Ev.len (show Oper.op _ = Op.call { callee := Callee.builtin Builtin.len, args := #[Operand.tmp 86], argTypes := #[30] } from rfl) (by rfl) Tryz.underlying30) (by rfl) (some 87) (by rfl) (by kernel_rfl) (by kernel_rfl) (by kernel_rfl) (by kernel_rfl) ?_
    refine Rg.ev 18 (by rfl) (fun _ h => h) (Ev.indexAt (k := (cutP s.l).length) (sz := 1) (show Oper.op _ = Op.indexAddr 30 (Operand.tmp 85) (Operand.tmp 87) from rfl) (by rfl) (by rfl) Tryz.underlying30 (by kernel_rfl) (by simp)) (by rfl) (some 88) (by rfl) (by kernel_rfl) (by kernel_rfl) (by kernel_rfl) (by kernel_rfl) ?_
    refine Rg.ev 19 (by rfl) (fun _ h => h) (Ev.loadU8 (show Oper.op _ = Op.load 5 (Operand.tmp 88) from rfl) (by rfl) (ReadsIn.row 4 (by rfl)) (by kernel_rfl) h77) (by rfl) (some 89) (by rfl) (by kernel_rfl) (by kernel_rfl) (by kernel_rfl) (by kernel_rfl) ?_
    refine Rg.ev 20 (by rfl) (fun _ h => h) (Ev.neq (show Oper.op _ = Op.binOp BinOp.neq 5 (Operand.tmp 89) (Operand.const (Value.int IntKind.u8 77)) 5 from rfl) (by rfl) (by rfl)) (by rfl) (some 90) (by rfl) (by kernel_rfl) (by kernel_rfl) (by kernel_rfl) (by kernel_rfl) ?_
    refine Rg.ev 21 (by rfl) (fun _ h => h) (Ev.pickF (show Oper.op _ = Op.pick (Operand.tmp 84) (Operand.const (Value.bool true)) (Operand.tmp 90) from rfl) (by rfl) (by rfl)) (by rfl) (some 91) (by rfl) (by kernel_rfl) (by kernel_rfl) (by kernel_rfl) (by kernel_rfl) ?_
    refine Rg.done (by kernel_rfl) ?_ _
    refine Cd.cond_false (by rfl) (decide_eq_false (show ¬ (((77 : UInt8).toNat : Int) ≠ 77) from fun h => h rfl)) ?_
    refine Cd.skip ?_
    refine Cd.seq ?_
    refine Cd.region ?_
    refine Ls.ev (some 92) (Ev.move (show Oper.op _ = Op.move (Operand.tmp 9) from rfl) (by rfl)) (by rfl) (by rfl) ?_
    refine Ls.ev (some 93) (Ev.len (show Oper.op _ = Op.call { callee := Callee.builtin Builtin.len, args := #[Operand.tmp 92], argTypes := #[30] } from rfl) (by rfl) Tryz.underlying30) (by rfl) (by rfl) ?_
    refine Ls.ev (some 94) (Ev.move (show Oper.op _ = Op.move (Operand.const (Value.int IntKind.i64 0)) from rfl) (by rfl)) (by rfl) (by rfl) ?_
    refine Ls.nil ?_
    refine Cd.block ?_
    obtain ⟨rn, hrn⟩ : ∃ rn, rn = (cutP s.l).length + 1 := ⟨_, rfl⟩
    have hln : (cutP s.l ++ [77]).length = rn := by rw [List.length_append, hrn]; rfl
    rw [hln, ← hrn]
    have hx0 : (u8s (cutP s.l ++ [77])).length = rn := by rw [u8s_length, hln]
    generalize u8s (cutP s.l ++ [77]) = xs0 at hx0 ⊢
    refine Cd.loop (ι := Nat × List Value) (fun p => [(0, .slice (some ad) S.length c), (3, ptrV D0.d), (4, ptrV g), (7, .slice (some xd) (U.length + 1) xc), (8, .int .i64 k), (9, .slice (some qd) rn qc), (93, .int .i64 rn), (94, .int .i64 p.1)]) (fun p => [lgB g D0.d (appL P L (cutP s.l)).2.1, D1.B, D1.M, D1.F, row (some qd) rn qc 5 1 p.2, payW (some xd) xc (U ++ [⟨vA, vc, cutP s.l⟩]), payX (U ++ [⟨vA, vc, cutP s.l⟩]), rdV (some ad) S, argc W, laidC]) (fun p => p.1 ≤ rn ∧ p.2.length = rn) (fun p => rn - p.1) ((0, xs0)) (⟨Nat.zero_le _, hx0⟩) ?_ rfl ?_
    · (repeat (first | exact trivial | refine ⟨by rfl, ?_⟩))
    rintro ⟨j, xs⟩ ⟨hj, hxs⟩
    dsimp only at hj hxs ⊢
    refine Cd.seq ?_
    refine Cd.region ?_
    refine Ls.ev (some 95) (Ev.lss (show Oper.op _ = Op.binOp BinOp.lss 3 (Operand.tmp 94) (Operand.tmp 93) 3 from rfl) (by rfl) (by rfl)) (by rfl) (by rfl) ?_
    refine Ls.nil ?_
    refine Cd.seq ?_
    refine Cd.cond _ (by rfl) (fun h3 => ?_) (fun h3 => ?_)
    · skip
      have hjl : j < rn := by have := of_decide_eq_true h3; omega
      refine Cd.skip ?_
      refine Cd.seq ?_
      refine Cd.block ?_
      refine Cd.seq ?_
      refine Cd.region ?_
      refine Ls.ev (some 96) (Ev.move (show Oper.op _ = Op.move (Operand.tmp 94) from rfl) (by rfl)) (by rfl) (by rfl) ?_
      refine Ls.ev (some 11) (Ev.assign (show Oper.op _ = Op.assign (Operand.tmp 96) from rfl) (by rfl)) (by rfl) (by rfl) ?_
      refine Ls.nil ?_
      refine Cd.region ?_
      refine Ls.ev (some 97) (Ev.move (show Oper.op _ = Op.move (Operand.tmp 9) from rfl) (by rfl)) (by rfl) (by rfl) ?_
      refine Ls.ev (some 98) (Ev.move (show Oper.op _ = Op.move (Operand.tmp 11) from rfl) (by rfl)) (by rfl) (by rfl) ?_
      refine Ls.ev (some 99) (Ev.indexAt (sz := 1) (show Oper.op _ = Op.indexAddr 30 (Operand.tmp 97) (Operand.tmp 98) from rfl) (by rfl) (by rfl) Tryz.underlying30 (by kernel_rfl) (by omega)) (by rfl) (by rfl) ?_
      refine Ls.does none (Does.storeEl 4 (show Oper.op _ = Op.store 5 (Operand.tmp 99) (Operand.const (Value.int IntKind.u8 0)) from rfl) (by rfl) (by rfl) (by rfl) (by rfl) (by kernel_rfl) (by rfl) (by omega) (by rfl)) (by rfl) (by rfl) ?_
      intro _ _
      refine Ls.nil ?_
      refine Cd.region ?_
      refine Ls.ev (some 100) (Ev.addN (b := 1) (show Oper.op _ = Op.binOp BinOp.add 3 (Operand.tmp 94) (Operand.const (Value.int IntKind.i64 1)) 3 from rfl) (by rfl) (by rfl) (by omega)) (by rfl) (by rfl) ?_
      refine Ls.ev (some 94) (Ev.move (show Oper.op _ = Op.move (Operand.tmp 100) from rfl) (by rfl)) (by rfl) (by rfl) ?_
      refine Ls.nil ?_
      refine Ent.inv ((j + 1, xs.set j (.int .u8 0))) ?_ ?_ ?_
      · (try dsimp only); exact ⟨⟨hjl, by rw [List.length_set]; exact hxs⟩, by omega⟩
      · (repeat (first | exact trivial | refine ⟨by rfl, ?_⟩ | refine ⟨by simp only [List.length_append, List.length_cons, List.length_nil]; rfl, ?_⟩ | refine ⟨by push_cast; rfl, ?_⟩))
      · rfl
    · skip
      refine Cd.exit ?_
      refine Cd.region ?_
      refine Ls.ev (some 48) (Ev.move (show Oper.op _ = Op.move (Operand.tmp 8) from rfl) (by rfl)) (by rfl) (by rfl) ?_
      refine Ls.ev (some 49) (Ev.addN (b := 1) (show Oper.op _ = Op.binOp BinOp.add 3 (Operand.tmp 48) (Operand.const (Value.int IntKind.i64 1)) 3 from rfl) (by rfl) (by rfl) (by omega)) (by rfl) (by rfl) ?_
      refine Ls.ev (some 8) (Ev.assign (show Oper.op _ = Op.assign (Operand.tmp 49) from rfl) (by rfl)) (by rfl) (by rfl) ?_
      refine Ls.nil ?_
      refine Ent.pick [5, 6, 0, 1, 2, 3, 7, 8, 9] (by rfl) ?_
      refine Ent.inv ((k + 1, (some xd, xc, U ++ [⟨vA, vc, cutP s.l⟩]), D1, (appL P L (cutP s.l)).1, (appL P L (cutP s.l)).2.1)) ?_ ?_ ?_
      · (try dsimp only); exact ⟨⟨hlt, by rw [List.map_append, hU, hps1]; rfl, hD1, hd1, by rw [hps1]; exact hF2⟩, by omega⟩
      · (repeat (first | exact trivial | refine ⟨by rfl, ?_⟩ | refine ⟨by simp only [List.length_append, List.length_cons, List.length_nil]; rfl, ?_⟩ | refine ⟨by push_cast; rfl, ?_⟩ | refine ⟨by (show some (Value.slice _ _ _) = some (Value.slice _ _ _); rw [List.length_append]; rfl), ?_⟩))
      · rfl
  · skip
    have hkm : k = m := by have := of_decide_eq_false h2; omega
    have hpay := hF.pay (by rw [List.length_take]; omega)
    have hpt : D.ptr = ptrV D0.d := by rw [DrS.ptr, hd]
    have ho := open_sl hD 1 (by omega) (by omega)
    rw [hpt, hpay] at ho
    refine Cd.exit ?_
    refine Cd.seq ?_
    refine Cd.region ?_
    refine Ls.ev (some 102) (Ev.move (show Oper.op _ = Op.move (Operand.tmp 3) from rfl) (by rfl)) (by rfl) (by rfl) ?_
    refine Ls.does (some 103) (Does.readN (show Oper.op _ = Op.call { callee := Callee.value (Operand.func 9), args := #[Operand.tmp 102, Operand.const (Value.int IntKind.i64 1)], argTypes := #[23, 3] } from rfl) Tryz.func9 (by kernel_rfl) (by kernel_rfl) (ho) (by rfl) (by rfl) ⟨blkIn 3 (by rfl), mapIn 4 (by rfl), filIn 5 (by rfl), laidIn 8 (by rfl), trivial⟩ (fun _ => by rfl)) (by rfl) (by rfl) ?_
    rintro ⟨g2, ⟨pA, pc⟩, Sp⟩ hSp
    dsimp only at hSp ⊢
    refine Ent.pick [1, 2, 3, 4, 5, 6, 7, 8, 11] (by rfl) ?_
    refine Ls.ev (some 101) (Ev.move (show Oper.op _ = Op.move (Operand.tmp 103) from rfl) (by rfl)) (by rfl) (by rfl) ?_
    refine Ls.ev (some 104) (Ev.extract (show Oper.op _ = Op.extract (Operand.tmp 101) 0 from rfl) (by rfl) (by rfl)) (by rfl) (by rfl) ?_
    refine Ls.ev (some 105) (Ev.extract (show Oper.op _ = Op.extract (Operand.tmp 101) 1 from rfl) (by rfl) (by rfl)) (by rfl) (by rfl) ?_
    refine Ls.ev (some 106) (Ev.extract (show Oper.op _ = Op.extract (Operand.tmp 101) 2 from rfl) (by rfl) (by rfl)) (by rfl) (by rfl) ?_
    refine Ls.ev (some 12) (Ev.assign (show Oper.op _ = Op.assign (Operand.tmp 104) from rfl) (by rfl)) (by rfl) (by rfl) ?_
    refine Ls.ev (some 13) (Ev.assign (show Oper.op _ = Op.assign (Operand.tmp 105) from rfl) (by rfl)) (by rfl) (by rfl) ?_
    refine Ls.ev (some 14) (Ev.assign (show Oper.op _ = Op.assign (Operand.tmp 106) from rfl) (by rfl)) (by rfl) (by rfl) ?_
    refine Ls.nil ?_
    refine Cd.seq ?_
    refine Cd.region ?_
    refine Ls.ev (some 108) (Ev.move (show Oper.op _ = Op.move (Operand.tmp 3) from rfl) (by rfl)) (by rfl) (by rfl) ?_
    refine Ls.does (some 109) (Does.readN (show Oper.op _ = Op.call { callee := Callee.value (Operand.func 9), args := #[Operand.tmp 108, Operand.const (Value.int IntKind.i64 1)], argTypes := #[23, 3] } from rfl) Tryz.func9 (by kernel_rfl) (by kernel_rfl) (ho) (by rfl) (by rfl) ⟨blkIn 5 (by rfl), mapIn 6 (by rfl), filIn 7 (by rfl), laidIn 8 (by rfl), trivial⟩ (fun _ => by rfl)) (by rfl) (by rfl) ?_
    rintro ⟨g3, ⟨qA, qc⟩, Sq⟩ hSq
    dsimp only at hSq ⊢
    refine Ent.pick [3, 4, 1, 2, 5, 6] (by rfl) ?_
    refine Ls.ev (some 107) (Ev.move (show Oper.op _ = Op.move (Operand.tmp 109) from rfl) (by rfl)) (by rfl) (by rfl) ?_
    refine Ls.ev (some 110) (Ev.extract (show Oper.op _ = Op.extract (Operand.tmp 107) 0 from rfl) (by rfl) (by rfl)) (by rfl) (by rfl) ?_
    refine Ls.ev (some 111) (Ev.extract (show Oper.op _ = Op.extract (Operand.tmp 107) 1 from rfl) (by rfl) (by rfl)) (by rfl) (by rfl) ?_
    refine Ls.ev (some 112) (Ev.extract (show Oper.op _ = Op.extract (Operand.tmp 107) 2 from rfl) (by rfl) (by rfl)) (by rfl) (by rfl) ?_
    refine Ls.ev (some 15) (Ev.assign (show Oper.op _ = Op.assign (Operand.tmp 110) from rfl) (by rfl)) (by rfl) (by rfl) ?_
    refine Ls.ev (some 16) (Ev.assign (show Oper.op _ = Op.assign (Operand.tmp 111) from rfl) (by rfl)) (by rfl) (by rfl) ?_
    refine Ls.ev (some 17) (Ev.assign (show Oper.op _ = Op.assign (Operand.tmp 112) from rfl) (by rfl)) (by rfl) (by rfl) ?_
    refine Ls.nil ?_
    refine Cd.seq ?_
    refine Cd.seq ?_
    refine Cd.region ?_
    refine Ls.ev (some 113) (Ev.move (show Oper.op _ = Op.move (Operand.tmp 13) from rfl) (by rfl)) (by rfl) (by rfl) ?_
    refine Ls.ev (some 114) (Ev.len (show Oper.op _ = Op.call { callee := Callee.builtin Builtin.len, args := #[Operand.tmp 113], argTypes := #[22] } from rfl) (by rfl) Tryz.underlying22) (by rfl) (by rfl) ?_
    refine Ls.ev (some 115) (Ev.move (show Oper.op _ = Op.move (Operand.const (Value.int IntKind.i64 0)) from rfl) (by rfl)) (by rfl) (by rfl) ?_
    refine Ls.nil ?_
    refine Cd.block ?_
    have hSpl : Sp.length ≤ 20 := by
      have := congrArg List.length hSp
      rw [List.length_map, List.length_take] at this
      omega
    have hsh : ∀ s ∈ Sp, s.l.length ≤ 700 := fun s hs => by
      have : s.l ∈ ps.take k := hSp ▸ List.mem_map_of_mem hs
      have := List.mem_of_mem_take this
      rw [hps] at this
      obtain ⟨t, _, ht⟩ := List.mem_map.1 this
      rw [← ht]
      exact cutP_len _
    refine Cd.loop (ι := Nat × List ByS) (fun p => [(7, .slice wA U.length wc), (13, .slice pA Sp.length pc), (16, .slice qA Sq.length qc), (114, .int .i64 Sp.length), (115, .int .i64 p.1)]) (fun p => [row pA Sp.length pc 30 1 (p.2.map ByS.v), payX p.2, payW qA qc Sq, payX Sq, payW wA wc U, payX U]) (fun p => p.1 ≤ Sp.length ∧ p.2.length = Sp.length ∧ ∀ j s, p.1 ≤ j → p.2[j]? = some s → s.l.length ≤ 700) (fun p => Sp.length - p.1) ((0, Sp)) (⟨Nat.zero_le _, rfl, fun j s _ hs => hsh s (List.mem_of_getElem? hs)⟩) ?_ rfl ?_
    · (repeat (first | exact trivial | refine ⟨by rfl, ?_⟩))
    rintro ⟨i, T⟩ ⟨hi, hT, hTl⟩
    dsimp only at hi hT hTl ⊢
    refine Cd.seq ?_
    refine Cd.region ?_
    refine Ls.ev (some 116) (Ev.lss (show Oper.op _ = Op.binOp BinOp.lss 3 (Operand.tmp 115) (Operand.tmp 114) 3 from rfl) (by rfl) (by rfl)) (by rfl) (by rfl) ?_
    refine Ls.nil ?_
    refine Cd.seq ?_
    refine Cd.cond _ (by rfl) (fun h4 => ?_) (fun h4 => ?_)
    · skip
      have hil : i < Sp.length := by have := of_decide_eq_true h4; omega
      obtain ⟨z, hz⟩ := get_of_lt (show i < T.length by omega)
      have hzl := hTl i z (Nat.le_refl _) hz
      obtain ⟨a, b, hab, hal⟩ : ∃ a b, T = a ++ z :: b ∧ a.length = i := by
        refine ⟨T.take i, T.drop (i + 1), ?_, by rw [List.length_take]; omega⟩
        have h1 := List.take_append_drop i T
        rw [List.drop_eq_getElem_cons (show i < T.length by omega)] at h1
        have h2 : T[i]'(show i < T.length by omega) = z := by
          rw [List.getElem?_eq_getElem (show i < T.length by omega)] at hz
          exact Option.some.inj hz
        rw [h2] at h1
        exact h1.symm
      subst hab
      obtain ⟨zA, zc, zl⟩ := z
      dsimp only at hzl
      have hTi := hT
      refine Ent.pick [1, 0, 2, 3, 4, 5] (by rfl) ?_
      refine Ent.map (fun w hs => pay_open hs) ?_
      refine Ent.rowSome 2 (by rfl) (by omega) (fun pd hpd => ?_)
      subst hpd
      refine Cd.skip ?_
      refine Cd.seq ?_
      refine Cd.block ?_
      refine Cd.seq ?_
      refine Cd.region ?_
      refine Ls.ev (some 117) (Ev.move (show Oper.op _ = Op.move (Operand.tmp 115) from rfl) (by rfl)) (by rfl) (by rfl) ?_
      refine Ls.ev (some 18) (Ev.assign (show Oper.op _ = Op.assign (Operand.tmp 117) from rfl) (by rfl)) (by rfl) (by rfl) ?_
      refine Ls.nil ?_
      refine Cd.seq ?_
      refine Cd.seq ?_
      refine Cd.region ?_
      refine Ls.ev (some 118) (Ev.move (show Oper.op _ = Op.move (Operand.tmp 13) from rfl) (by rfl)) (by rfl) (by rfl) ?_
      refine Ls.ev (some 119) (Ev.move (show Oper.op _ = Op.move (Operand.tmp 18) from rfl) (by rfl)) (by rfl) (by rfl) ?_
      refine Ls.ev (some 120) (Ev.indexAt (sz := 1) (show Oper.op _ = Op.indexAddr 22 (Operand.tmp 118) (Operand.tmp 119) from rfl) (by rfl) (by rfl) Tryz.underlying22 (by kernel_rfl) (by omega)) (by rfl) (by rfl) ?_
      refine Ls.ev (some 121) (Ev.loadV (show Oper.op _ = Op.load 30 (Operand.tmp 120) from rfl) (by rfl) (ReadsIn.row 2 (by rfl)) (by kernel_rfl) (mid_get hal)) (by rfl) (by rfl) ?_
      refine Ls.ev (some 122) (Ev.len (show Oper.op _ = Op.call { callee := Callee.builtin Builtin.len, args := #[Operand.tmp 121], argTypes := #[30] } from rfl) (by rfl) Tryz.underlying30) (by rfl) (by rfl) ?_
      refine Ls.ev (some 123) (Ev.move (show Oper.op _ = Op.move (Operand.const (Value.int IntKind.i64 0)) from rfl) (by rfl)) (by rfl) (by rfl) ?_
      refine Ls.nil ?_
      refine Cd.block ?_
      refine Cd.loop (ι := Nat × List UInt8) (fun p => [(7, .slice wA U.length wc), (13, .slice (some pd) Sp.length pc), (16, .slice qA Sq.length qc), (18, .int .i64 i), (114, .int .i64 Sp.length), (115, .int .i64 i), (122, .int .i64 zl.length), (123, .int .i64 p.1)]) (fun p => [row zA zl.length zc 5 1 (u8s p.2), payX (a ++ b), row (some pd) Sp.length pc 30 1 ((a ++ ⟨zA, zc, zl⟩ :: b).map ByS.v), payW qA qc Sq, payX Sq, payW wA wc U, payX U]) (fun p => p.1 ≤ zl.length ∧ p.2.length = zl.length) (fun p => zl.length - p.1) ((0, zl)) (⟨Nat.zero_le _, rfl⟩) ?_ rfl ?_
      · (repeat (first | exact trivial | refine ⟨by rfl, ?_⟩))
      rintro ⟨j, l⟩ ⟨hj, hl⟩
      dsimp only at hj hl ⊢
      refine Cd.seq ?_
      refine Cd.region ?_
      refine Ls.ev (some 124) (Ev.lss (show Oper.op _ = Op.binOp BinOp.lss 3 (Operand.tmp 123) (Operand.tmp 122) 3 from rfl) (by rfl) (by rfl)) (by rfl) (by rfl) ?_
      refine Ls.nil ?_
      refine Cd.seq ?_
      refine Cd.cond _ (by rfl) (fun h5 => ?_) (fun h5 => ?_)
      · skip
        have hjl : j < zl.length := by have := of_decide_eq_true h5; omega
        refine Ent.rowSome 0 (by rfl) (by omega) (fun zd hzd => ?_)
        subst hzd
        refine Cd.skip ?_
        refine Cd.seq ?_
        refine Cd.block ?_
        refine Cd.seq ?_
        refine Cd.region ?_
        refine Ls.ev (some 125) (Ev.move (show Oper.op _ = Op.move (Operand.tmp 123) from rfl) (by rfl)) (by rfl) (by rfl) ?_
        refine Ls.ev (some 19) (Ev.assign (show Oper.op _ = Op.assign (Operand.tmp 125) from rfl) (by rfl)) (by rfl) (by rfl) ?_
        refine Ls.nil ?_
        refine Cd.region ?_
        refine Ls.ev (some 126) (Ev.move (show Oper.op _ = Op.move (Operand.tmp 13) from rfl) (by rfl)) (by rfl) (by rfl) ?_
        refine Ls.ev (some 127) (Ev.move (show Oper.op _ = Op.move (Operand.tmp 18) from rfl) (by rfl)) (by rfl) (by rfl) ?_
        refine Ls.ev (some 128) (Ev.indexAt (sz := 1) (show Oper.op _ = Op.indexAddr 22 (Operand.tmp 126) (Operand.tmp 127) from rfl) (by rfl) (by rfl) Tryz.underlying22 (by kernel_rfl) (by omega)) (by rfl) (by rfl) ?_
        refine Ls.ev (some 129) (Ev.loadV (show Oper.op _ = Op.load 30 (Operand.tmp 128) from rfl) (by rfl) (ReadsIn.row 2 (by rfl)) (by kernel_rfl) (mid_get hal)) (by rfl) (by rfl) ?_
        refine Ls.ev (some 130) (Ev.move (show Oper.op _ = Op.move (Operand.tmp 19) from rfl) (by rfl)) (by rfl) (by rfl) ?_
        refine Ls.ev (some 131) (Ev.indexAt (sz := 1) (show Oper.op _ = Op.indexAddr 30 (Operand.tmp 129) (Operand.tmp 130) from rfl) (by rfl) (by rfl) Tryz.underlying30 (by kernel_rfl) (by omega)) (by rfl) (by rfl) ?_
        refine Ls.does none (Does.storeEl (k := j) 0 (show Oper.op _ = Op.store 5 (Operand.tmp 131) (Operand.const (Value.int IntKind.u8 9)) from rfl) (by rfl) (by rfl) (by rfl) rfl (by kernel_rfl) rfl hjl (u8s_set l j 9)) (by rfl) (by rfl) ?_
        rintro _ -
        refine Ls.nil ?_
        refine Cd.region ?_
        refine Ls.ev (some 132) (Ev.addN (b := 1) (show Oper.op _ = Op.binOp BinOp.add 3 (Operand.tmp 123) (Operand.const (Value.int IntKind.i64 1)) 3 from rfl) (by rfl) (by rfl) (by omega)) (by rfl) (by rfl) ?_
        refine Ls.ev (some 123) (Ev.move (show Oper.op _ = Op.move (Operand.tmp 132) from rfl) (by rfl)) (by rfl) (by rfl) ?_
        refine Ls.nil ?_
        refine Ent.inv ((j + 1, l.set j 9)) ?_ ?_ ?_
        · (try dsimp only); exact ⟨⟨hjl, by rw [List.length_set]; exact hl⟩, by omega⟩
        · (repeat (first | exact trivial | refine ⟨by rfl, ?_⟩ | refine ⟨by simp only [List.length_append, List.length_cons, List.length_nil]; rfl, ?_⟩ | refine ⟨by push_cast; rfl, ?_⟩))
        · rfl
      · skip
        refine Cd.exit ?_
        refine Cd.seq ?_
        refine Cd.region ?_
        refine Ls.ev (some 20) (Ev.assign (show Oper.op _ = Op.assign (Operand.const (Value.int IntKind.i64 0)) from rfl) (by rfl)) (by rfl) (by rfl) ?_
        refine Ls.nil ?_
        refine Cd.block ?_
        have hv : (a ++ (⟨zA, zc, zl⟩ : ByS) :: b).map ByS.v = (a ++ (⟨zA, zc, l⟩ : ByS) :: b).map ByS.v := by
          rw [List.map_append, List.map_append, List.map_cons, List.map_cons]
          dsimp only [ByS.v]
          rw [hl]
        rw [hv, ← hl]
        refine Cd.loop (ι := Nat × Option Addr × Nat × List UInt8) (fun p => [(7, .slice wA U.length wc), (13, .slice (some pd) Sp.length pc), (16, .slice qA Sq.length qc), (18, .int .i64 i), (20, .int .i64 p.1), (114, .int .i64 Sp.length), (115, .int .i64 i)]) (fun p => [row p.2.1 p.2.2.2.length p.2.2.1 5 1 (u8s p.2.2.2), payX (a ++ b), row (some pd) Sp.length pc 30 1 ((a ++ ⟨p.2.1, p.2.2.1, p.2.2.2⟩ :: b).map ByS.v), payW qA qc Sq, payX Sq, payW wA wc U, payX U]) (fun p => p.1 ≤ 20 ∧ p.2.2.2.length ≤ 700 + p.1) (fun p => 20 - p.1) ((0, zA, zc, l)) (⟨Nat.zero_le _, by show l.length ≤ 700; omega⟩) ?_ rfl ?_
        · (repeat (first | exact trivial | refine ⟨by rfl, ?_⟩))
        rintro ⟨e, yA, yc, y⟩ ⟨he, hy⟩
        dsimp only at he hy ⊢
        refine Cd.seq ?_
        refine Cd.seq ?_
        refine Cd.region ?_
        refine Ls.ev (some 133) (Ev.move (show Oper.op _ = Op.move (Operand.tmp 20) from rfl) (by rfl)) (by rfl) (by rfl) ?_
        refine Ls.ev (some 134) (Ev.lss (show Oper.op _ = Op.binOp BinOp.lss 3 (Operand.tmp 133) (Operand.const (Value.int IntKind.i64 20)) 3 from rfl) (by rfl) (by rfl)) (by rfl) (by rfl) ?_
        refine Ls.nil ?_
        refine Cd.cond _ (by rfl) (fun h6 => ?_) (fun h6 => ?_)
        · skip
          have he2 : e < 20 := by have := of_decide_eq_true h6; omega
          refine Cd.skip ?_
          refine Cd.seq ?_
          refine Cd.block ?_
          refine Cd.region ?_
          refine Ls.ev (some 137) (Ev.move (show Oper.op _ = Op.move (Operand.tmp 13) from rfl) (by rfl)) (by rfl) (by rfl) ?_
          refine Ls.ev (some 138) (Ev.move (show Oper.op _ = Op.move (Operand.tmp 18) from rfl) (by rfl)) (by rfl) (by rfl) ?_
          refine Ls.ev (some 139) (Ev.move (show Oper.op _ = Op.move (Operand.tmp 13) from rfl) (by rfl)) (by rfl) (by rfl) ?_
          refine Ls.ev (some 140) (Ev.move (show Oper.op _ = Op.move (Operand.tmp 18) from rfl) (by rfl)) (by rfl) (by rfl) ?_
          refine Ls.ev (some 141) (Ev.indexAt (sz := 1) (show Oper.op _ = Op.indexAddr 22 (Operand.tmp 139) (Operand.tmp 140) from rfl) (by rfl) (by rfl) Tryz.underlying22 (by kernel_rfl) (by omega)) (by rfl) (by rfl) ?_
          refine Ls.ev (some 142) (Ev.loadV (show Oper.op _ = Op.load 30 (Operand.tmp 141) from rfl) (by rfl) (ReadsIn.row 2 (by rfl)) (by kernel_rfl) (mid_get hal)) (by rfl) (by rfl) ?_
          refine Ls.does (some 143) (Does.lit (sz := 1) (show Oper.op _ = Op.buildSlice 30 1 #[(0, Operand.const (Value.int IntKind.u8 8))] from rfl) (by rfl) Tryz.underlying30 (by kernel_rfl) (by rfl) (by kernel_rfl)) (by rfl) (by rfl) ?_
          intro g1 _
          refine Ls.does (some 144) (Does.app (xs := u8s y) (news := u8s [8]) 1 (show Oper.op _ = Op.call { callee := Callee.builtin Builtin.append, args := #[Operand.tmp 142, Operand.tmp 143], argTypes := #[30, 30] } from rfl) (by rfl) (by rfl) (by rfl) (ReadsIn.row 0 (by rfl)) elem_b (u8s_one _) (show (y.length + 1) * 1 ≤ 140737488355328 by omega)) (by rfl) (by rfl) ?_
          rintro ⟨nA, nc⟩ -
          dsimp only
          have hrow : row nA (y.length + 1) nc 5 1 (u8s y ++ u8s [8]) = rowB nA nc (y ++ [8]) := by
            dsimp only [rowB]
            rw [List.length_append, u8s_append]
            rfl
          rw [hrow]
          refine Ls.ev (some 145) (Ev.indexAt (sz := 1) (show Oper.op _ = Op.indexAddr 22 (Operand.tmp 137) (Operand.tmp 138) from rfl) (by rfl) (by rfl) Tryz.underlying22 (by kernel_rfl) (by omega)) (by rfl) (by rfl) ?_
          refine Ls.does none (Does.storeEl (k := i) (xs' := (a ++ ⟨nA, nc, y ++ [8]⟩ :: b).map ByS.v) 3 (show Oper.op _ = Op.store 30 (Operand.tmp 145) (Operand.tmp 144) from rfl) (by rfl) (by rfl) (by rfl) rfl (by kernel_rfl) rfl hil (by
            have h1 := mid_set (b := b) (z := ⟨yA, yc, y⟩) (y := ⟨nA, nc, y ++ [8]⟩) hal
            rw [← h1]
            show List.set _ _ (Value.slice nA (y.length + 1) nc) = List.set _ _ (Value.slice nA (y ++ [8]).length nc)
            rw [List.length_append]
            rfl)) (by rfl) (by rfl) ?_
          rintro _ -
          refine Ls.nil ?_
          refine Cd.region ?_
          refine Ls.ev (some 135) (Ev.move (show Oper.op _ = Op.move (Operand.tmp 20) from rfl) (by rfl)) (by rfl) (by rfl) ?_
          refine Ls.ev (some 136) (Ev.addN (b := 1) (show Oper.op _ = Op.binOp BinOp.add 3 (Operand.tmp 135) (Operand.const (Value.int IntKind.i64 1)) 3 from rfl) (by rfl) (by rfl) (by omega)) (by rfl) (by rfl) ?_
          refine Ls.ev (some 20) (Ev.assign (show Oper.op _ = Op.assign (Operand.tmp 136) from rfl) (by rfl)) (by rfl) (by rfl) ?_
          refine Ls.nil ?_
          refine Ent.pick [1, 2, 3, 4, 5, 6, 7] (by rfl) ?_
          refine Ent.inv ((e + 1, nA, nc, y ++ [8])) ?_ ?_ ?_
          · (try dsimp only); exact ⟨⟨he2, by rw [List.length_append, List.length_singleton]; omega⟩, by omega⟩
          · (repeat (first | exact trivial | refine ⟨by rfl, ?_⟩ | refine ⟨by simp only [List.length_append, List.length_cons, List.length_nil]; rfl, ?_⟩ | refine ⟨by push_cast; rfl, ?_⟩))
          · rfl
        · skip
          refine Cd.exit ?_
          refine Cd.region ?_
          refine Ls.ev (some 146) (Ev.addN (b := 1) (show Oper.op _ = Op.binOp BinOp.add 3 (Operand.tmp 115) (Operand.const (Value.int IntKind.i64 1)) 3 from rfl) (by rfl) (by rfl) (by omega)) (by rfl) (by rfl) ?_
          refine Ls.ev (some 115) (Ev.move (show Oper.op _ = Op.move (Operand.tmp 146) from rfl) (by rfl)) (by rfl) (by rfl) ?_
          refine Ls.nil ?_
          refine Ent.map (fun w hs => pay_shut (a := a) (b := b) (z := ⟨yA, yc, y⟩) hs) ?_
          refine Ent.pick [1, 0, 2, 3, 4, 5] (by rfl) ?_
          refine Ent.inv ((i + 1, a ++ ⟨yA, yc, y⟩ :: b)) ?_ ?_ ?_
          · (try dsimp only); exact ⟨⟨hil, by simpa using hT, fun j s hj hs => hTl j s (by omega) (by rw [← hs]; exact mid_far hal (by omega))⟩, by omega⟩
          · (repeat (first | exact trivial | refine ⟨by rfl, ?_⟩ | refine ⟨by simp only [List.length_append, List.length_cons, List.length_nil]; rfl, ?_⟩ | refine ⟨by push_cast; rfl, ?_⟩))
          · rfl
    · skip
      refine Cd.exit ?_
      refine Cd.seq ?_
      refine Cd.region ?_
      refine Ls.ev (some 147) (Ev.move (show Oper.op _ = Op.move (Operand.tmp 16) from rfl) (by rfl)) (by rfl) (by rfl) ?_
      refine Ls.ev (some 148) (Ev.move (show Oper.op _ = Op.move (Operand.tmp 7) from rfl) (by rfl)) (by rfl) (by rfl) ?_
      refine Ls.does (some 149) (Does.read (show Oper.op _ = Op.call { callee := Callee.value (Operand.func 12), args := #[Operand.tmp 147, Operand.tmp 148], argTypes := #[22, 22] } from rfl) Tryz.func12 (by kernel_rfl) (by kernel_rfl) (same_sl qA wA qc wc Sq U (by have := congrArg List.length hSq; rw [List.length_map, List.length_take] at this; omega) (by omega)) (by rfl) (by rfl) ⟨ReadsIn.row 2 (by rfl), payIn 3 (by rfl), ReadsIn.row 4 (by rfl), payIn 5 (by rfl), trivial⟩) (by rfl) (by rfl) ?_
      rintro _ -
      rw [show Sq.map ByS.l = U.map ByS.l from hSq.trans hU.symm, decide_eq_true rfl]
      refine Ls.ev (some 2) (Ev.assign (show Oper.op _ = Op.assign (Operand.tmp 149) from rfl) (by rfl)) (by rfl) (by rfl) ?_
      refine Ls.nil ?_
      refine Cd.ret ?_
      refine Ent.ret (()) (trivial) (Res.tmp (by rfl) (by rfl)) ?_ [] (by rfl) ?_
      · rfl
      · rfl
end Go.Proofs.YtceanciekadkeaaGreatDoor
/- lives and losses of power, plain -/
namespace Go.Proofs.YtceanciekadkeaaGreatDoor
/-- In the midst of a life: what was begun, how much of it is safe. -/
structure LfI (P : DrP) (L : LgP) (B : List FiP) (s0 : Nat) (lim : Prop) (done : List (List UInt8)) (safe n : Nat) : Prop where
  liv : ∃ C G k, Liv P L B s0 C G k ∧ C.length ≤ n ∧ safe ≤ C.flatten.length + k ∧ (L.dead = true → allP C G <+: done) ∧ (L.dead = false → allP C G = done)
  lim : ¬ lim → P.left = none
  alive : P.left = none → L.dead = false
  s0 : s0 ≤ 1000
  b : B.length ≤ 200
theorem DrP.put_left (P : DrP) (f : FiP) : (P.put f).left = P.left := rfl
theorem step_left {P : DrP} (h : P.left ≠ none) : P.step.left ≠ none := by
  show P.left.map _ ≠ none
  cases hl : P.left with
  | none => exact absurd hl h
  | some n => simp
theorem dsync_left {P : DrP} {q : List UInt8} (h : P.left ≠ none) : (P.sync q).1.left ≠ none := by
  unfold DrP.sync
  cases P.find q with
  | none => exact h
  | some f =>
    dsimp only
    split
    · exact h
    · exact step_left h
theorem dappend_left {P : DrP} {q l : List UInt8} (h : P.left ≠ none) : (P.append q l).1.left ≠ none := by
  unfold DrP.append
  split
  · exact h
  · split
    · exact h
    · split
      · exact h
      · cases P.find q <;> exact step_left h
theorem syncL_left {P : DrP} {L : LgP} (h : P.left ≠ none) : (syncL P L).1.left ≠ none := by
  unfold syncL
  split
  · exact h
  · split
    · exact h
    · exact dsync_left h
theorem rollL_left {P : DrP} {L : LgP} (h : P.left ≠ none) : (rollL P L).1.left ≠ none := by
  unfold rollL
  split <;> exact syncL_left h
theorem putL_left {P : DrP} {L : LgP} {b : List UInt8} (h : P.left ≠ none) : (putL P L b).1.left ≠ none := by
  unfold putL
  split
  · exact h
  · exact dappend_left h
theorem appL_left {P : DrP} {L : LgP} {p : List UInt8} (h : P.left ≠ none) : (appL P L p).1.left ≠ none := by
  unfold appL
  split
  · exact h
  · split
    · exact h
    · split
      · split
        · exact rollL_left h
        · exact putL_left (rollL_left h)
      · exact putL_left h
section
variable {P : DrP} {L : LgP} {B : List FiP} {s0 : Nat} {lim : Prop} {done : List (List UInt8)} {safe n : Nat}
theorem LfI.seg (h : LfI P L B s0 lim done safe n) : L.seg ≤ 1000 + n := by
  obtain ⟨C, G, k, h1, h2, _⟩ := h.liv
  have := h1.seg
  have := h.s0
  omega
theorem LfI.app (h : LfI P L B s0 lim done safe n) (hn : n ≤ 40) {p : List UInt8} (hp : p.length ≤ 4000) :
    ((appL P L p).2.2 = 0 ∧ L.dead = false ∧ (appL P L p).2.1.dead = false ∧ LfI (appL P L p).1 (appL P L p).2.1 B s0 lim (done ++ [p]) safe (n + 1)) ∨
    ((appL P L p).2.2 = 6 ∧ lim ∧ (appL P L p).2.1.dead = true ∧ LfI (appL P L p).1 (appL P L p).2.1 B s0 lim (if L.dead then done else done ++ [p]) safe (n + 1)) := by
  have hsg := h.seg
  obtain ⟨C, G, k, h1, h2, h3, h4, h5⟩ := h.liv
  have hsl : (sealL p).length ≤ 4110 := sealL_len p (by omega)
  have hb := h.b
  have hs0 := h.s0
  cases hd : L.dead with
  | true =>
    right
    have he : appL P L p = (P, L, 6) := by
      unfold appL
      rw [if_neg (by omega), if_pos hd]
    rw [he]
    refine ⟨rfl, Classical.byContradiction fun hl => ?_, hd, ⟨C, G, k, h1, by omega, h3, h4, fun e => by rw [hd] at e; cases e⟩, h.lim, h.alive, hs0, hb⟩
    have := h.alive (h.lim hl)
    rw [hd] at this
    cases this
  | false =>
    obtain ⟨C', G', k', k1, k2, k3, k4 | k4⟩ := h1.app (p := p) (by omega) hd (by omega) (by omega) hsl
    · left
      obtain ⟨a, b, c, d, _⟩ := k4
      refine ⟨a, rfl, c, ⟨C', G', k', k1, by omega, by omega, fun e => (by rw [c] at e; cases e), fun _ => by rw [b, h5 hd]⟩, fun hl => d (h.lim hl), fun _ => c, hs0, hb⟩
    · right
      obtain ⟨a, b, c, d⟩ := k4
      refine ⟨a, Classical.byContradiction fun hl => d (h.lim hl), c, ⟨C', G', k', k1, by omega, by omega, fun _ => ?_, fun e => by rw [c] at e; cases e⟩, ?_, ?_, hs0, hb⟩
      · rw [b, h5 hd]
        exact List.prefix_append _ _
      · exact fun hl => absurd (h.lim hl) d
      · intro hl
        exfalso
        have hleft : P.left ≠ none → (appL P L p).1.left ≠ none := appL_left
        exact hleft d hl
theorem LfI.sync (h : LfI P L B s0 lim done safe n) (hn : n ≤ 40) :
    ((syncL P L).2.2 = 0 ∧ L.dead = false ∧ (syncL P L).2.1.dead = false ∧ LfI (syncL P L).1 (syncL P L).2.1 B s0 lim done done.length n) ∨
    ((syncL P L).2.2 = 6 ∧ (syncL P L).2.1.dead = true ∧ LfI (syncL P L).1 (syncL P L).2.1 B s0 lim done safe n) := by
  have hsg := h.seg
  obtain ⟨C, G, k, h1, h2, h3, h4, h5⟩ := h.liv
  cases hd : L.dead with
  | true =>
    right
    have he : syncL P L = (P, L, 6) := by
      unfold syncL
      rw [if_pos hd]
    rw [he]
    exact ⟨rfl, hd, h⟩
  | false =>
    rcases h1.sync_ (by omega) hd with ⟨a, b, c, d⟩ | ⟨a, b, c, d⟩
    · left
      refine ⟨a, rfl, by rw [c]; exact hd, ⟨C, G, G.length, b, h2, ?_, fun e => (by rw [c, hd] at e; cases e), fun _ => h5 hd⟩, fun hl => d (h.lim hl), fun _ => by rw [c]; exact hd, h.s0, h.b⟩
      rw [← h5 hd, List.length_append]
      exact Nat.le_refl _
    · right
      refine ⟨a, c, ⟨C, G, k, b, h2, h3, fun _ => by rw [h5 hd]; exact List.prefix_refl _, fun e => by rw [c] at e; cases e⟩, fun hl => absurd (h.lim hl) d, fun hl => absurd hl (syncL_left d), h.s0, h.b⟩
theorem LfI.start {N : Nat} (hok : P.Ok) (hs : SegsTo P N) (hN : N ≤ 900) (hy : ∀ f ∈ P.fs, f.sy = f.b.length) (hl : P.fs.length ≤ 200) (hlim : ¬ lim → P.left = none) : LfI P ⟨P.seg 1, false⟩ P.fs (P.seg 1) lim [] 0 0 := by
  have h1 := (seg_le hs (by omega)).1
  exact ⟨⟨[], [], 0, Liv.open_ hok hs (by omega) hy, Nat.le_refl _, Nat.le_refl _, fun _ => List.prefix_refl _, fun _ => rfl⟩, hlim, fun _ => rfl, by omega, hl⟩
/-- What is found behind a loss of power. -/
theorem LfI.crash (h : LfI P L B s0 lim done safe n) (hn : n ≤ 40) (ks : List Int) : ∃ q, (P.crash ks).pay 1 = scanB B ++ q ∧ q <+: done ∧ safe ≤ q.length ∧ SegsTo (P.crash ks) (s0 + n) ∧ (∀ f ∈ (P.crash ks).fs, f.sy = f.b.length) ∧ (P.crash ks).fs.length ≤ B.length + n + 1 := by
  have hsg := h.seg
  obtain ⟨C, G, k, h1, h2, h3, h4, h5⟩ := h.liv
  obtain ⟨j, j1, j2, j3, j4, j5, j6⟩ := h1.crash (by omega) ks
  have hs := h1.seg
  refine ⟨C.flatten ++ G.take j, j3, ?_, ?_, fun f hf => ?_, j5, by omega⟩
  · have hp : (C.flatten ++ G.take j) <+: allP C G := by
      refine (List.prefix_append_right_inj _).2 ?_
      exact List.take_prefix _ _
    cases hd : L.dead with
    | true => exact hp.trans (h4 hd)
    | false => rw [← h5 hd]; exact hp
  · rw [List.length_append, List.length_take]
    have := h1.k
    omega
  · obtain ⟨m, m1, m2, m3⟩ := j4 f hf
    exact ⟨m, m1, by omega, m3⟩
theorem flat_len {α β : Type} {f : α → List β} {K : Nat} : ∀ {l : List α}, (∀ x ∈ l, (f x).length ≤ K) → (l.flatMap f).length ≤ K * l.length
  | [], _ => by simp
  | x :: l, h => by
    rw [List.flatMap_cons, List.length_append, List.length_cons, Nat.mul_add]
    have h1 := h x List.mem_cons_self
    have h2 := flat_len (l := l) (fun y hy => h y (List.mem_cons_of_mem _ hy))
    omega
theorem pay_len (h : P.Ok) (fr : Nat) : (P.pay fr).length ≤ 15360000 := by
  unfold DrP.pay payN
  have h1 : ((segsP P).flatMap fun n => if fr ≤ n then P.segB n else []).length ≤ 60000 * (segsP P).length := flat_len fun n _ => by
    split
    · unfold DrP.segB DrP.bytes
      have : ∀ b : List UInt8, b.length ≤ 262144 → (scanF b).1.length ≤ 60000 := fun b hb => by
        have := scanF_size b
        omega
      cases hf : P.find (nameP n) with
      | none => exact this [] (Nat.zero_le _)
      | some f => exact this f.b (h.size f (findG_some hf).1)
    · simp
  have h2 : (segsP P).length ≤ 256 := by
    have := segsN_len (P.fs.map FiP.nm)
    rw [List.length_map] at this
    have := h.len
    show (segsN _).length ≤ _
    omega
  have h3 : 60000 * (segsP P).length ≤ 60000 * 256 := Nat.mul_le_mul_left _ h2
  exact Nat.le_trans h1 h3
end
end Go.Proofs.YtceanciekadkeaaGreatDoor
/- drives: a loss of power -/
namespace Go.Proofs.YtceanciekadkeaaGreatDoor
open Go.RowKit
/-- How many files have something loose. -/
def usedF (l : List FiP) : Nat := (l.filter fun f => decide (f.sy < f.b.length)).length
theorem crashF_snoc (f : FiP) : ∀ (a : List FiP) (ks : List Int), crashF (a ++ [f]) ks = crashF a ks ++ crashF [f] (ks.drop (usedF a))
  | [], ks => rfl
  | g :: a, ks => by
    rw [List.cons_append, crashF, crashF]
    unfold usedF
    rw [List.filter_cons]
    by_cases h : g.sy < g.b.length
    · rw [if_pos h, if_pos h, if_pos (decide_eq_true h), crashF_snoc f a ks.tail, List.length_cons, List.cons_append]
      congr 3
      cases ks with
      | nil => simp
      | cons x ks => rfl
    · rw [if_neg h, if_neg h, if_neg (by simpa using h), crashF_snoc f a ks]
      rfl
theorem usedF_snoc (f : FiP) (a : List FiP) : usedF (a ++ [f]) = usedF a + if f.sy < f.b.length then 1 else 0 := by
  unfold usedF
  rw [List.filter_append, List.length_append]
  congr 1
  by_cases h : f.sy < f.b.length <;> simp [h]
/-- How much of a file stays. -/
def keepN (f : FiP) (ks : List Int) : Nat := if f.sy < f.b.length then f.sy + min (ks.headD 0).toNat (f.b.length - f.sy) else f.b.length
theorem crash_one (f : FiP) (ks : List Int) : crashF [f] ks = [⟨f.nm, f.b.take (keepN f ks), keepN f ks⟩] := by
  unfold crashF keepN
  split
  · rfl
  · rw [List.take_length]
    rfl
theorem keepN_le (f : FiP) (ks : List Int) : keepN f ks ≤ f.b.length := by
  unfold keepN
  split <;> omega
theorem putG_last {α : Type} {nm : α → List UInt8} {f : α} : ∀ {l : List α}, (∀ x ∈ l, nm x < nm f) → putG nm f l = l ++ [f]
  | [], _ => rfl
  | y :: l, h => by
    rw [putG, if_pos (h y List.mem_cons_self), putG_last (fun x hx => h x (List.mem_cons_of_mem _ hx))]
    rfl
theorem crash_new {P : DrP} (h : P.Ok) {k : Nat} {f : FiP} (hf : P.fs[k]? = some f) (ks : List Int) : ∀ x ∈ crashF (P.fs.take k) ks, x.nm < f.nm := fun x hx => by
  obtain ⟨y, hy, e, _⟩ := crashF_mem hx
  rw [e]
  have hr := h.rise
  obtain ⟨hk, rfl⟩ := List.getElem?_eq_some_iff.1 hf
  have h1 : P.fs = P.fs.take k ++ P.fs[k] :: P.fs.drop (k + 1) := by
    rw [← List.drop_eq_getElem_cons hk, List.take_append_drop]
  unfold Rise at hr
  rw [h1, List.pairwise_append] at hr
  exact hr.2.2 y hy P.fs[k] List.mem_cons_self
theorem crash_step {P : DrP} (h : P.Ok) {k : Nat} {f : FiP} (hf : P.fs[k]? = some f) (ks : List Int) : (⟨crashF (P.fs.take k) ks, 0, none⟩ : DrP).put ⟨f.nm, f.b.take (keepN f (ks.drop (usedF (P.fs.take k)))), keepN f (ks.drop (usedF (P.fs.take k)))⟩ = ⟨crashF (P.fs.take (k + 1)) ks, 0, none⟩ := by
  unfold DrP.put
  congr 1
  rw [List.take_add_one, hf]
  show _ = crashF (P.fs.take k ++ [f]) ks
  rw [crashF_snoc, crash_one]
  exact putG_last (nm := FiP.nm) (crash_new h hf ks)
theorem crash_ok {P : DrP} (h : P.Ok) (ks : List Int) (k : Nat) : (⟨crashF (P.fs.take k) ks, 0, none⟩ : DrP).Ok := by
  have : ({ P with fs := P.fs.take k } : DrP).Ok := ⟨List.Pairwise.sublist (List.take_sublist _ _) h.rise, fun f hf => h.good f (List.mem_of_mem_take hf), by show (P.fs.take k).length ≤ _; rw [List.length_take]; have := h.len; omega, fun f hf => h.size f (List.mem_of_mem_take hf), fun f hf => h.sync f (List.mem_of_mem_take hf), h.left⟩
  exact this.crash ks
theorem drop_head {ks : List Int} {n : Nat} : (ks.drop n).headD 0 = (ks[n]?).getD 0 := by
  rw [List.headD_eq_head?_getD, List.head?_drop]
theorem fil_cap {fs : List FiS} {w : World} (h : (filX fs).holds w) : ∀ f ∈ fs, f.b.length ≤ f.c := fun f hf => by
  have : f.R.holds w := h.1 f.R (List.mem_flatMap.2 ⟨f, hf, List.mem_cons_of_mem _ List.mem_cons_self⟩)
  exact Own.le this
set_option maxHeartbeats 1000000 in
theorem crash_sl {D : DrS} {P : DrP} (h : Drv D P) (hcap : ∀ f ∈ D.fs, f.b.length ≤ f.c) (A : Option Addr) (c : Nat) (ks : List Int) : Fn Tryz.prog 23 #[D.ptr, .slice A ks.length c] [D.rB, D.rM, D.rF, rd A ks.length 1 (ints ks)] DrS DrS.ptr (fun D' => [D'.B, D'.M, D'.F]) (fun D' => Drv D' (P.crash ks)) := by
  have hln := h.ok.len
  obtain ⟨ns, hns⟩ : ∃ ns, ns = P.fs.map FiP.nm := ⟨_, rfl⟩
  have hnl : P.fs.length = ns.length := by rw [hns, List.length_map]
  have hc := names_sl h
  rw [hnl, ← hns] at hc
  refine Fn.enter Tryz.func23 rfl Tryz.ntmps23 (by rfl) ?_
  intro w0
  skip
  refine Cd.seq ?_
  refine Cd.region ?_
  refine Ls.ev (some 4) (Ev.assign (show Oper.op _ = Op.assign (Operand.const (Value.pointer none)) from rfl) (by rfl)) (by rfl) (by rfl) ?_
  refine Ls.nil ?_
  refine Cd.seq ?_
  refine Cd.region ?_
  refine Ls.does (some 12) (Does.call [0, 1, 2, 3] (show Oper.op _ = Op.call { callee := Callee.value (Operand.func 7), args := #[], argTypes := #[] } from rfl) Tryz.func7 (by kernel_rfl) (by kernel_rfl) (new_sl) (by rfl) (by rfl) (by rfl)) (by rfl) (by rfl) ?_
  rintro X0 hX0
  refine Ls.ev (some 5) (Ev.assign (show Oper.op _ = Op.assign (Operand.tmp 12) from rfl) (by rfl)) (by rfl) (by rfl) ?_
  refine Ls.nil ?_
  refine Cd.seq ?_
  refine Cd.region ?_
  refine Ls.ev (some 6) (Ev.assign (show Oper.op _ = Op.assign (Operand.const (Value.int IntKind.i64 0)) from rfl) (by rfl)) (by rfl) (by rfl) ?_
  refine Ls.nil ?_
  refine Cd.seq ?_
  refine Cd.seq ?_
  refine Cd.region ?_
  refine Ls.ev (some 13) (Ev.move (show Oper.op _ = Op.move (Operand.tmp 0) from rfl) (by rfl)) (by rfl) (by rfl) ?_
  refine Ls.does (some 14) (Does.readN (show Oper.op _ = Op.call { callee := Callee.value (Operand.func 44), args := #[Operand.tmp 13], argTypes := #[23] } from rfl) Tryz.func44 (by kernel_rfl) (by kernel_rfl) (hc) (by rfl) (by rfl) ⟨rblkIn 3 (by rfl), rmapIn_ 4 (by rfl), trivial⟩ (fun _ => by rfl)) (by rfl) (by rfl) ?_
  rintro ⟨nA, nc⟩ -
  refine Ent.see 0 (by rfl) ?_
  refine Ent.pick [1, 2, 3, 4, 5, 6, 7, 0] (by rfl) ?_
  skip
  refine Ls.ev (some 15) (Ev.len (show Oper.op _ = Op.call { callee := Callee.builtin Builtin.len, args := #[Operand.tmp 14], argTypes := #[36] } from rfl) (by rfl) Tryz.underlying36) (by rfl) (by rfl) ?_
  refine Ls.ev (some 16) (Ev.move (show Oper.op _ = Op.move (Operand.const (Value.int IntKind.i64 0)) from rfl) (by rfl)) (by rfl) (by rfl) ?_
  refine Ls.nil ?_
  refine Cd.block ?_
  refine Cd.loop (ι := Nat × DrS) (fun p => [(0, D.ptr), (1, .slice A ks.length c), (5, .pointer (some ⟨X0.d, 0, none⟩)), (6, .int .i64 (usedF (P.fs.take p.1))), (14, .slice nA ns.length nc), (15, .int .i64 ns.length), (16, .int .i64 p.1)]) (fun p => [p.2.B, p.2.M, p.2.F, D.rB, D.rM, D.rF, rd A ks.length 1 (ints ks), rd nA ns.length 1 (txts ns)]) (fun p => p.1 ≤ ns.length ∧ Drv p.2 ⟨crashF (P.fs.take p.1) ks, 0, none⟩ ∧ p.2.d = X0.d) (fun p => ns.length - p.1) ((0, X0)) (⟨Nat.zero_le _, hX0, rfl⟩) ?_ rfl ?_
  · (repeat (first | exact trivial | refine ⟨by rfl, ?_⟩))
  rintro ⟨k, X⟩ ⟨hk, hX, hXd⟩
  dsimp only at hk hX hXd ⊢
  refine Cd.seq ?_
  refine Cd.region ?_
  refine Ls.ev (some 17) (Ev.lss (show Oper.op _ = Op.binOp BinOp.lss 3 (Operand.tmp 16) (Operand.tmp 15) 3 from rfl) (by rfl) (by rfl)) (by rfl) (by rfl) ?_
  refine Ls.nil ?_
  refine Cd.seq ?_
  refine Cd.cond _ (by rfl) (fun h2 => ?_) (fun h2 => ?_)
  · skip
    have hlt : k < ns.length := by have := of_decide_eq_true h2; omega
    obtain ⟨f, hf⟩ := get_of_lt (show k < P.fs.length by omega)
    have hfm := List.mem_of_getElem? hf
    have hq : ns[k]? = some f.nm := by rw [hns, List.getElem?_map, hf]; rfl
    have hqt : (ns.map txt)[k]? = some (txt f.nm) := by rw [List.getElem?_map, hq]; rfl
    obtain ⟨x, hx, rfl⟩ := h.hit (findG_mem h.ok.rise hfm)
    have hp := ptr_hit hx
    have hgood := h.ok.good _ hfm
    have hqn := hgood.len
    have hst := crash_step h.ok hf ks
    have hxb := h.ok.size _ hfm
    have hxs := h.ok.sync _ hfm
    have hxb' : x.b.length ≤ 262144 := hxb
    have hxs' : x.sy ≤ x.b.length := hxs
    have hus : usedF (P.fs.take k) ≤ 256 := by
      unfold usedF
      have h1 := List.length_filter_le (fun f : FiP => decide (f.sy < f.b.length)) (P.fs.take k)
      rw [List.length_take] at h1
      omega
    refine Ent.rdSome 7 (by rfl) (by omega) (fun ad had => ?_)
    subst had
    refine Ent.map (fun w hs => filGet 5 rfl (findG_some hx).1 hs) ?_
    refine Ent.pick [0, 1, 2, 5, 9, 8, 3, 4, 6, 7] (by rfl) ?_
    refine Cd.skip ?_
    refine Cd.seq ?_
    refine Cd.block ?_
    refine Cd.seq ?_
    refine Cd.region ?_
    refine Ls.ev (some 18) (Ev.indexAt (sz := 1) (show Oper.op _ = Op.indexAddr 36 (Operand.tmp 14) (Operand.tmp 16) from rfl) (by rfl) (by rfl) Tryz.underlying36 (by kernel_rfl) (by omega)) (by rfl) (by rfl) ?_
    refine Ls.ev (some 19) (Ev.loadStr (show Oper.op _ = Op.load 9 (Operand.tmp 18) from rfl) (by rfl) (ReadsIn.rd 4 (by rfl)) (by kernel_rfl) (by assumption)) (by rfl) (by rfl) ?_
    refine Ls.ev (some 8) (Ev.assign (show Oper.op _ = Op.assign (Operand.tmp 19) from rfl) (by rfl)) (by rfl) (by rfl) ?_
    refine Ls.nil ?_
    refine Cd.seq ?_
    refine Cd.region ?_
    refine Ls.ev (some 20) (Ev.move (show Oper.op _ = Op.move (Operand.tmp 0) from rfl) (by rfl)) (by rfl) (by rfl) ?_
    refine Ls.ev (some 21) (Ev.nilCheck (show Oper.op _ = Op.nilCheck (Operand.tmp 20) from rfl) (by rfl)) (by rfl) (by rfl) ?_
    refine Ls.ev (some 22) (Ev.fieldAddr (k := 0) (show Oper.op _ = Op.fieldAddr 67 (Operand.tmp 21) 0 from rfl) (by rfl) (by kernel_rfl) (by rfl)) (by rfl) (by rfl) ?_
    refine Ls.ev (some 23) (Ev.loadB 3 (show Oper.op _ = Op.load 65 (Operand.tmp 22) from rfl) (by rfl) (by rfl) (by kernel_rfl) (by rfl)) (by rfl) (by rfl) ?_
    refine Ls.ev (some 24) (Ev.move (show Oper.op _ = Op.move (Operand.tmp 8) from rfl) (by rfl)) (by rfl) (by rfl) ?_
    refine Ls.ev (some 25) (Ev.to (Ev.lookT (rmapIn_ 8 (by rfl)) (show Oper.op _ = Op.lookup 65 (Operand.tmp 23) (Operand.tmp 24) false from rfl) (by rfl) (by rfl) Tryz.underlying9 Tryz.underlying65 (zero_of (by kernel_rfl)) (by unfold maxLen; omega)) hp) (by rfl) (by rfl) ?_
    refine Ls.ev (some 9) (Ev.assign (show Oper.op _ = Op.assign (Operand.tmp 25) from rfl) (by rfl)) (by rfl) (by rfl) ?_
    refine Ls.nil ?_
    refine Cd.seq ?_
    refine Cd.region ?_
    refine Ls.ev (some 26) (Ev.move (show Oper.op _ = Op.move (Operand.tmp 9) from rfl) (by rfl)) (by rfl) (by rfl) ?_
    refine Ls.ev (some 27) (Ev.nilCheck (show Oper.op _ = Op.nilCheck (Operand.tmp 26) from rfl) (by rfl)) (by rfl) (by rfl) ?_
    refine Ls.ev (some 28) (Ev.fieldAddr (k := 0) (show Oper.op _ = Op.fieldAddr 84 (Operand.tmp 27) 0 from rfl) (by rfl) (by kernel_rfl) (by rfl)) (by rfl) (by rfl) ?_
    refine Ls.ev (some 29) (Ev.loadB 0 (show Oper.op _ = Op.load 30 (Operand.tmp 28) from rfl) (by rfl) (by rfl) (by kernel_rfl) (by rfl)) (by rfl) (by rfl) ?_
    refine Ls.ev (some 30) (Ev.len (show Oper.op _ = Op.call { callee := Callee.builtin Builtin.len, args := #[Operand.tmp 29], argTypes := #[30] } from rfl) (by rfl) Tryz.underlying30) (by rfl) (by rfl) ?_
    refine Ls.ev (some 10) (Ev.assign (show Oper.op _ = Op.assign (Operand.tmp 30) from rfl) (by rfl)) (by rfl) (by rfl) ?_
    refine Ls.nil ?_
    refine Cd.seq ?_
    refine Cd.seq ?_
    refine Cd.region ?_
    refine Ls.ev (some 31) (Ev.move (show Oper.op _ = Op.move (Operand.tmp 9) from rfl) (by rfl)) (by rfl) (by rfl) ?_
    refine Ls.ev (some 32) (Ev.nilCheck (show Oper.op _ = Op.nilCheck (Operand.tmp 31) from rfl) (by rfl)) (by rfl) (by rfl) ?_
    refine Ls.ev (some 33) (Ev.fieldAddr (k := 1) (show Oper.op _ = Op.fieldAddr 84 (Operand.tmp 32) 1 from rfl) (by rfl) (by kernel_rfl) (by rfl)) (by rfl) (by rfl) ?_
    refine Ls.ev (some 34) (Ev.loadB 0 (show Oper.op _ = Op.load 3 (Operand.tmp 33) from rfl) (by rfl) (by rfl) (by kernel_rfl) (by rfl)) (by rfl) (by rfl) ?_
    refine Ls.ev (some 35) (Ev.move (show Oper.op _ = Op.move (Operand.tmp 10) from rfl) (by rfl)) (by rfl) (by rfl) ?_
    refine Ls.ev (some 36) (Ev.lss (show Oper.op _ = Op.binOp BinOp.lss 3 (Operand.tmp 34) (Operand.tmp 35) 3 from rfl) (by rfl) (by rfl)) (by rfl) (by rfl) ?_
    refine Ls.nil ?_
    have hup : usedF (P.fs.take (k + 1)) = usedF (P.fs.take k) + if x.p.sy < x.p.b.length then 1 else 0 := by
      rw [List.take_add_one, hf]
      exact usedF_snoc x.p _
    have hkn := keepN_le x.p (ks.drop (usedF (P.fs.take k)))
    have hkd : keepN x.p (ks.drop (usedF (P.fs.take k))) = if x.p.sy < x.p.b.length then x.p.sy + min ((ks[usedF (P.fs.take k)]?).getD 0).toNat (x.p.b.length - x.p.sy) else x.p.b.length := by
      unfold keepN
      rw [drop_head]
    generalize keepN x.p (ks.drop (usedF (P.fs.take k))) = kn at hst hkn hkd
    generalize usedF (P.fs.take k) = u at hst hkd hup hus ⊢
    obtain ⟨u', hu'⟩ : ∃ u', u' = usedF (P.fs.take (k + 1)) := ⟨_, rfl⟩
    rw [← hu'] at hup
    refine Cd.cut (ι := Unit) (fun _ => [(0, D.ptr), (1, .slice A ks.length c), (5, .pointer (some ⟨X0.d, 0, none⟩)), (6, .int .i64 u'), (8, .string (txt x.p.nm)), (9, .pointer (some ⟨x.g, 0, none⟩)), (10, .int .i64 kn), (14, .slice (some ad) ns.length nc), (15, .int .i64 ns.length), (16, .int .i64 k)]) (fun _ => [x.rB, x.rR, X.B, D.rB, rd (some ad) ns.length 1 (txts ns), rd A ks.length 1 (ints ks), X.M, X.F, D.rM, D.rF]) (fun _ => True) ?_ ?_
    · skip
      by_cases hl : x.p.sy < x.p.b.length
      · skip
        rw [if_pos hl] at hkd hup
        subst hkd
        rw [hup]
        refine Cd.cond_true (by rfl) (decide_eq_true (show (x.p.sy : Int) < (x.p.b.length : Int) by omega)) ?_
        refine Cd.seq ?_
        refine Cd.region ?_
        refine Ls.ev (some 11) (Ev.assign (show Oper.op _ = Op.assign (Operand.const (Value.int IntKind.i64 0)) from rfl) (by rfl)) (by rfl) (by rfl) ?_
        refine Ls.nil ?_
        refine Cd.seq ?_
        refine Cd.seq ?_
        refine Cd.region ?_
        refine Ls.ev (some 37) (Ev.move (show Oper.op _ = Op.move (Operand.tmp 6) from rfl) (by rfl)) (by rfl) (by rfl) ?_
        refine Ls.ev (some 38) (Ev.move (show Oper.op _ = Op.move (Operand.tmp 1) from rfl) (by rfl)) (by rfl) (by rfl) ?_
        refine Ls.ev (some 39) (Ev.len (show Oper.op _ = Op.call { callee := Callee.builtin Builtin.len, args := #[Operand.tmp 38], argTypes := #[35] } from rfl) (by rfl) Tryz.underlying35) (by rfl) (by rfl) ?_
        refine Ls.ev (some 40) (Ev.lss (show Oper.op _ = Op.binOp BinOp.lss 3 (Operand.tmp 37) (Operand.tmp 39) 3 from rfl) (by rfl) (by rfl)) (by rfl) (by rfl) ?_
        refine Ls.nil ?_
        by_cases hu2 : u < ks.length
        · skip
          obtain ⟨kv, hkv⟩ := get_of_lt hu2
          have hkv2 : (ks[u]?).getD 0 = kv := by rw [hkv]; rfl
          rw [hkv2]
          refine Cd.cond_true (by rfl) (decide_eq_true (show (u : Int) < (ks.length : Int) by omega)) ?_
          refine Ent.rdSome 5 (by rfl) (by omega) (fun kd hkd2 => ?_)
          obtain rfl : A = some kd := hkd2
          refine Cd.region ?_
          refine Ls.ev (some 41) (Ev.move (show Oper.op _ = Op.move (Operand.tmp 1) from rfl) (by rfl)) (by rfl) (by rfl) ?_
          refine Ls.ev (some 42) (Ev.move (show Oper.op _ = Op.move (Operand.tmp 6) from rfl) (by rfl)) (by rfl) (by rfl) ?_
          refine Ls.ev (some 43) (Ev.indexAt (sz := 1) (show Oper.op _ = Op.indexAddr 35 (Operand.tmp 41) (Operand.tmp 42) from rfl) (by rfl) (by rfl) Tryz.underlying35 (by kernel_rfl) (by omega)) (by rfl) (by rfl) ?_
          refine Ls.ev (some 44) (Ev.loadInt (show Oper.op _ = Op.load 3 (Operand.tmp 43) from rfl) (by rfl) (ReadsIn.rd 5 (by rfl)) (by kernel_rfl) (by assumption)) (by rfl) (by rfl) ?_
          refine Ls.ev (some 45) (Ev.max (show Oper.op _ = Op.call { callee := Callee.builtin Builtin.max, args := #[Operand.const (Value.int IntKind.i64 0), Operand.tmp 44], argTypes := #[3, 3] } from rfl) (by rfl) (by rfl)) (by rfl) (by rfl) ?_
          rw [show (if (0 : Int) < kv then kv else 0) = ((kv.toNat : Nat) : Int) by split <;> omega]
          skip
          refine Ls.ev (some 11) (Ev.assign (show Oper.op _ = Op.assign (Operand.tmp 45) from rfl) (by rfl)) (by rfl) (by rfl) ?_
          refine Ls.nil ?_
          refine Cd.seq ?_
          refine Cd.region ?_
          refine Ls.ev (some 46) (Ev.move (show Oper.op _ = Op.move (Operand.tmp 6) from rfl) (by rfl)) (by rfl) (by rfl) ?_
          refine Ls.ev (some 47) (Ev.addN (b := 1) (show Oper.op _ = Op.binOp BinOp.add 3 (Operand.tmp 46) (Operand.const (Value.int IntKind.i64 1)) 3 from rfl) (by rfl) (by rfl) (by omega)) (by rfl) (by rfl) ?_
          refine Ls.ev (some 6) (Ev.assign (show Oper.op _ = Op.assign (Operand.tmp 47) from rfl) (by rfl)) (by rfl) (by rfl) ?_
          refine Ls.nil ?_
          refine Cd.draw [] (by kernel_rfl) ?_
          refine Rg.ev 0 (by rfl) (fun _ h => h) (Ev.move (show Oper.op _ = Op.move (Operand.tmp 9) from rfl) (by rfl)) (by rfl) (some 48) (by rfl) (by kernel_rfl) (by kernel_rfl) (by kernel_rfl) (by kernel_rfl) ?_
          refine Rg.ev 1 (by rfl) (fun _ h => h) (Ev.nilCheck (show Oper.op _ = Op.nilCheck (Operand.tmp 48) from rfl) (by rfl)) (by rfl) (some 49) (by rfl) (by kernel_rfl) (by kernel_rfl) (by kernel_rfl) (by kernel_rfl) ?_
          refine Rg.ev 2 (by rfl) (fun _ h => h) (Ev.fieldAddr (k := 1) (show Oper.op _ = Op.fieldAddr 84 (Operand.tmp 49) 1 from rfl) (by rfl) (by kernel_rfl) (by rfl)) (by rfl) (some 50) (by rfl) (by kernel_rfl) (by kernel_rfl) (by kernel_rfl) (by kernel_rfl) ?_
          refine Rg.ev 3 (by rfl) (fun _ h => h) (Ev.loadB 0 (show Oper.op _ = Op.load 3 (Operand.tmp 50) from rfl) (by rfl) (by rfl) (by kernel_rfl) (by rfl)) (by rfl) (some 51) (by rfl) (by kernel_rfl) (by kernel_rfl) (by kernel_rfl) (by kernel_rfl) ?_
          refine Rg.ev 4 (by rfl) (fun _ h => h) (Ev.move (show Oper.op _ = Op.move (Operand.tmp 11) from rfl) (by rfl)) (by rfl) (some 52) (by rfl) (by kernel_rfl) (by kernel_rfl) (by kernel_rfl) (by kernel_rfl) ?_
          refine Rg.ev 5 (by rfl) (fun _ h => h) (Ev.move (show Oper.op _ = Op.move (Operand.tmp 10) from rfl) (by rfl)) (by rfl) (some 53) (by rfl) (by kernel_rfl) (by kernel_rfl) (by kernel_rfl) (by kernel_rfl) ?_
          refine Rg.ev 6 (by rfl) (fun _ h => h) (Ev.move (show Oper.op _ = Op.move (Operand.tmp 9) from rfl) (by rfl)) (by rfl) (some 54) (by rfl) (by kernel_rfl) (by kernel_rfl) (by kernel_rfl) (by kernel_rfl) ?_
          refine Rg.ev 7 (by rfl) (fun _ h => h) (Ev.nilCheck (show Oper.op _ = Op.nilCheck (Operand.tmp 54) from rfl) (by rfl)) (by rfl) (some 55) (by rfl) (by kernel_rfl) (by kernel_rfl) (by kernel_rfl) (by kernel_rfl) ?_
          refine Rg.ev 8 (by rfl) (fun _ h => h) (Ev.fieldAddr (k := 1) (show Oper.op _ = Op.fieldAddr 84 (Operand.tmp 55) 1 from rfl) (by rfl) (by kernel_rfl) (by rfl)) (by rfl) (some 56) (by rfl) (by kernel_rfl) (by kernel_rfl) (by kernel_rfl) (by kernel_rfl) ?_
          refine Rg.ev 9 (by rfl) (fun _ h => h) (Ev.loadB 0 (show Oper.op _ = Op.load 3 (Operand.tmp 56) from rfl) (by rfl) (by rfl) (by kernel_rfl) (by rfl)) (by rfl) (some 57) (by rfl) (by kernel_rfl) (by kernel_rfl) (by kernel_rfl) (by kernel_rfl) ?_
          refine Rg.ev 10 (by rfl) (fun _ h => h) (Ev.subN (show Oper.op _ = Op.binOp BinOp.sub 3 (Operand.tmp 53) (Operand.tmp 57) 3 from rfl) (by rfl) (by rfl) (by omega)) (by rfl) (some 58) (by rfl) (by kernel_rfl) (by kernel_rfl) (by kernel_rfl) (by kernel_rfl) ?_
          refine Rg.ev 11 (by rfl) (fun _ h => h) (Ev.minN (a := kv.toNat) (b := x.b.length - x.sy) (m := min kv.toNat (x.b.length - x.sy)) (show Oper.op _ = Op.call { callee := Callee.builtin Builtin.min, args := #[Operand.tmp 52, Operand.tmp 58], argTypes := #[3, 3] } from rfl) (by rfl) (by rfl) rfl) (by rfl) (some 59) (by rfl) (by kernel_rfl) (by kernel_rfl) (by kernel_rfl) (by kernel_rfl) ?_
          refine Rg.ev 12 (by rfl) (fun _ h => h) (Ev.addN (show Oper.op _ = Op.binOp BinOp.add 3 (Operand.tmp 51) (Operand.tmp 59) 3 from rfl) (by rfl) (by rfl) (by omega)) (by rfl) (some 60) (by rfl) (by kernel_rfl) (by kernel_rfl) (by kernel_rfl) (by kernel_rfl) ?_
          refine Rg.ev 13 (by rfl) (fun _ h => h) (Ev.assign (show Oper.op _ = Op.assign (Operand.tmp 60) from rfl) (by rfl)) (by rfl) (some 10) (by rfl) (by kernel_rfl) (by kernel_rfl) (by kernel_rfl) (by kernel_rfl) ?_
          refine Rg.done (by kernel_rfl) ?_ _
          refine Ent.inv (()) ?_ ?_ ?_
          · (try dsimp only); skip
          · (repeat (first | exact trivial | refine ⟨by rfl, ?_⟩ | refine ⟨by simp only [List.length_append, List.length_cons, List.length_nil]; rfl, ?_⟩ | refine ⟨by push_cast; rfl, ?_⟩))
          · rfl
        · skip
          have hkv2 : (ks[u]?).getD 0 = 0 := by rw [List.getElem?_eq_none (by omega)]; rfl
          rw [hkv2]
          refine Cd.cond_false (by rfl) (decide_eq_false (show ¬ ((u : Int) < (ks.length : Int)) by omega)) ?_
          skip
          refine Cd.skip ?_
          refine Cd.seq ?_
          refine Cd.region ?_
          refine Ls.ev (some 46) (Ev.move (show Oper.op _ = Op.move (Operand.tmp 6) from rfl) (by rfl)) (by rfl) (by rfl) ?_
          refine Ls.ev (some 47) (Ev.addN (b := 1) (show Oper.op _ = Op.binOp BinOp.add 3 (Operand.tmp 46) (Operand.const (Value.int IntKind.i64 1)) 3 from rfl) (by rfl) (by rfl) (by omega)) (by rfl) (by rfl) ?_
          refine Ls.ev (some 6) (Ev.assign (show Oper.op _ = Op.assign (Operand.tmp 47) from rfl) (by rfl)) (by rfl) (by rfl) ?_
          refine Ls.nil ?_
          refine Cd.draw [] (by kernel_rfl) ?_
          refine Rg.ev 0 (by rfl) (fun _ h => h) (Ev.move (show Oper.op _ = Op.move (Operand.tmp 9) from rfl) (by rfl)) (by rfl) (some 48) (by rfl) (by kernel_rfl) (by kernel_rfl) (by kernel_rfl) (by kernel_rfl) ?_
          refine Rg.ev 1 (by rfl) (fun _ h => h) (Ev.nilCheck (show Oper.op _ = Op.nilCheck (Operand.tmp 48) from rfl) (by rfl)) (by rfl) (some 49) (by rfl) (by kernel_rfl) (by kernel_rfl) (by kernel_rfl) (by kernel_rfl) ?_
          refine Rg.ev 2 (by rfl) (fun _ h => h) (Ev.fieldAddr (k := 1) (show Oper.op _ = Op.fieldAddr 84 (Operand.tmp 49) 1 from rfl) (by rfl) (by kernel_rfl) (by rfl)) (by rfl) (some 50) (by rfl) (by kernel_rfl) (by kernel_rfl) (by kernel_rfl) (by kernel_rfl) ?_
          refine Rg.ev 3 (by rfl) (fun _ h => h) (Ev.loadB 0 (show Oper.op _ = Op.load 3 (Operand.tmp 50) from rfl) (by rfl) (by rfl) (by kernel_rfl) (by rfl)) (by rfl) (some 51) (by rfl) (by kernel_rfl) (by kernel_rfl) (by kernel_rfl) (by kernel_rfl) ?_
          refine Rg.ev 4 (by rfl) (fun _ h => h) (Ev.move (show Oper.op _ = Op.move (Operand.tmp 11) from rfl) (by rfl)) (by rfl) (some 52) (by rfl) (by kernel_rfl) (by kernel_rfl) (by kernel_rfl) (by kernel_rfl) ?_
          refine Rg.ev 5 (by rfl) (fun _ h => h) (Ev.move (show Oper.op _ = Op.move (Operand.tmp 10) from rfl) (by rfl)) (by rfl) (some 53) (by rfl) (by kernel_rfl) (by kernel_rfl) (by kernel_rfl) (by kernel_rfl) ?_
          refine Rg.ev 6 (by rfl) (fun _ h => h) (Ev.move (show Oper.op _ = Op.move (Operand.tmp 9) from rfl) (by rfl)) (by rfl) (some 54) (by rfl) (by kernel_rfl) (by kernel_rfl) (by kernel_rfl) (by kernel_rfl) ?_
          refine Rg.ev 7 (by rfl) (fun _ h => h) (Ev.nilCheck (show Oper.op _ = Op.nilCheck (Operand.tmp 54) from rfl) (by rfl)) (by rfl) (some 55) (by rfl) (by kernel_rfl) (by kernel_rfl) (by kernel_rfl) (by kernel_rfl) ?_
          refine Rg.ev 8 (by rfl) (fun _ h => h) (Ev.fieldAddr (k := 1) (show Oper.op _ = Op.fieldAddr 84 (Operand.tmp 55) 1 from rfl) (by rfl) (by kernel_rfl) (by rfl)) (by rfl) (some 56) (by rfl) (by kernel_rfl) (by kernel_rfl) (by kernel_rfl) (by kernel_rfl) ?_
          refine Rg.ev 9 (by rfl) (fun _ h => h) (Ev.loadB 0 (show Oper.op _ = Op.load 3 (Operand.tmp 56) from rfl) (by rfl) (by rfl) (by kernel_rfl) (by rfl)) (by rfl) (some 57) (by rfl) (by kernel_rfl) (by kernel_rfl) (by kernel_rfl) (by kernel_rfl) ?_
          refine Rg.ev 10 (by rfl) (fun _ h => h) (Ev.subN (show Oper.op _ = Op.binOp BinOp.sub 3 (Operand.tmp 53) (Operand.tmp 57) 3 from rfl) (by rfl) (by rfl) (by omega)) (by rfl) (some 58) (by rfl) (by kernel_rfl) (by kernel_rfl) (by kernel_rfl) (by kernel_rfl) ?_
          refine Rg.ev 11 (by rfl) (fun _ h => h) (Ev.minN (a := 0) (b := x.b.length - x.sy) (m := min 0 (x.b.length - x.sy)) (show Oper.op _ = Op.call { callee := Callee.builtin Builtin.min, args := #[Operand.tmp 52, Operand.tmp 58], argTypes := #[3, 3] } from rfl) (by rfl) (by rfl) rfl) (by rfl) (some 59) (by rfl) (by kernel_rfl) (by kernel_rfl) (by kernel_rfl) (by kernel_rfl) ?_
          refine Rg.ev 12 (by rfl) (fun _ h => h) (Ev.addN (show Oper.op _ = Op.binOp BinOp.add 3 (Operand.tmp 51) (Operand.tmp 59) 3 from rfl) (by rfl) (by rfl) (by omega)) (by rfl) (some 60) (by rfl) (by kernel_rfl) (by kernel_rfl) (by kernel_rfl) (by kernel_rfl) ?_
          refine Rg.ev 13 (by rfl) (fun _ h => h) (Ev.assign (show Oper.op _ = Op.assign (Operand.tmp 60) from rfl) (by rfl)) (by rfl) (some 10) (by rfl) (by kernel_rfl) (by kernel_rfl) (by kernel_rfl) (by kernel_rfl) ?_
          refine Rg.done (by kernel_rfl) ?_ _
          refine Ent.inv (()) ?_ ?_ ?_
          · (try dsimp only); skip
          · (repeat (first | exact trivial | refine ⟨by rfl, ?_⟩ | refine ⟨by simp only [List.length_append, List.length_cons, List.length_nil]; rfl, ?_⟩ | refine ⟨by push_cast; rfl, ?_⟩))
          · rfl
      · skip
        rw [if_neg hl] at hkd hup
        subst hkd
        rw [hup]
        refine Cd.cond_false (by rfl) (decide_eq_false (show ¬ ((x.p.sy : Int) < (x.p.b.length : Int)) by omega)) ?_
        refine Cd.skip ?_
        refine Ent.inv (()) ?_ ?_ ?_
        · (try dsimp only); skip
        · (repeat (first | exact trivial | refine ⟨by rfl, ?_⟩ | refine ⟨by simp only [List.length_append, List.length_cons, List.length_nil]; rfl, ?_⟩ | refine ⟨by push_cast; rfl, ?_⟩))
        · rfl
    skip
    rintro _ -
    rw [← hXd]
    refine Ent.pick [1, 0, 2, 3, 4, 5, 6, 7, 8, 9] (by rfl) ?_
    have hxc : x.b.length ≤ x.c := hcap x (findG_some hx).1
    have hkn' : kn ≤ x.b.length := hkn
    have htl : (x.b.take kn).length = kn := by rw [List.length_take]; omega
    have hcut : cutA x.A x.c 0 1 = x.A := by
      unfold cutA
      split
      · rfl
      · rw [Nat.zero_mul]
        exact add_zero_ _
    have hpc : rd (cutA x.A x.c 0 1) (kn - 0) 1 (((u8s x.b).drop (0 * 1)).take ((kn - 0) * 1)) = rdB x.A (x.b.take kn) := by
      rw [hcut, Nat.zero_mul, List.drop_zero, Nat.sub_zero, Nat.mul_one, u8s_take]
      dsimp only [rdB]
      rw [htl]
    have hcl := clone_sl x.A x.c (x.b.take kn) (by omega)
    rw [htl] at hcl
    have hnf : findF X.fs x.p.nm = none := hX.miss (findG_none_of fun y hy => lt_ne (crash_new h.ok hf ks y hy))
    have hXl : X.fs.length ≤ 256 := by
      rw [hX.len]
      show (crashF _ _).length ≤ _
      rw [crashF_len, List.length_take]
      omega
    refine Ent.map (fun w hs => Sat.cut 0 0 kn x.c (by rfl) (Nat.zero_le _) hkn' (by omega) hs) ?_
    rw [hpc]
    refine Ent.pick [0, 2, 3, 4, 5, 6, 7, 8, 9, 10] (by rfl) ?_
    refine Cd.draw [15] (by kernel_rfl) ?_
    refine Rg.ev 0 (by rfl) (fun _ h => h) (Ev.move (show Oper.op _ = Op.move (Operand.tmp 5) from rfl) (by rfl)) (by rfl) (some 61) (by rfl) (by kernel_rfl) (by kernel_rfl) (by kernel_rfl) (by kernel_rfl) ?_
    refine Rg.ev 1 (by rfl) (fun _ h => h) (Ev.nilCheck (show Oper.op _ = Op.nilCheck (Operand.tmp 61) from rfl) (by rfl)) (by rfl) (some 62) (by rfl) (by kernel_rfl) (by kernel_rfl) (by kernel_rfl) (by kernel_rfl) ?_
    refine Rg.ev 2 (by rfl) (fun _ h => h) (Ev.fieldAddr (k := 0) (show Oper.op _ = Op.fieldAddr 67 (Operand.tmp 62) 0 from rfl) (by rfl) (by kernel_rfl) (by rfl)) (by rfl) (some 63) (by rfl) (by kernel_rfl) (by kernel_rfl) (by kernel_rfl) (by kernel_rfl) ?_
    refine Rg.ev 3 (by rfl) (fun _ h => h) (Ev.load 2 (show Oper.op _ = Op.load 65 (Operand.tmp 63) from rfl) (by rfl) (by rfl) (by kernel_rfl) (by rfl)) (by rfl) (some 64) (by rfl) (by kernel_rfl) (by kernel_rfl) (by kernel_rfl) (by kernel_rfl) ?_
    refine Rg.ev 4 (by rfl) (fun _ h => h) (Ev.move (show Oper.op _ = Op.move (Operand.tmp 8) from rfl) (by rfl)) (by rfl) (some 65) (by rfl) (by kernel_rfl) (by kernel_rfl) (by kernel_rfl) (by kernel_rfl) ?_
    refine Rg.ev 5 (by rfl) (fun _ h => h) (Ev.move (show Oper.op _ = Op.move (Operand.tmp 9) from rfl) (by rfl)) (by rfl) (some 66) (by rfl) (by kernel_rfl) (by kernel_rfl) (by kernel_rfl) (by kernel_rfl) ?_
    refine Rg.ev 6 (by rfl) (fun _ h => h) (Ev.nilCheck (show Oper.op _ = Op.nilCheck (Operand.tmp 66) from rfl) (by rfl)) (by rfl) (some 67) (by rfl) (by kernel_rfl) (by kernel_rfl) (by kernel_rfl) (by kernel_rfl) ?_
    refine Rg.ev 7 (by rfl) (fun _ h => h) (Ev.fieldAddr (k := 0) (show Oper.op _ = Op.fieldAddr 84 (Operand.tmp 67) 0 from rfl) (by rfl) (by kernel_rfl) (by rfl)) (by rfl) (some 68) (by rfl) (by kernel_rfl) (by kernel_rfl) (by kernel_rfl) (by kernel_rfl) ?_
    refine Rg.ev 8 (by rfl) (fun _ h => h) (Ev.loadB 1 (show Oper.op _ = Op.load 30 (Operand.tmp 68) from rfl) (by rfl) (by rfl) (by kernel_rfl) (by rfl)) (by rfl) (some 69) (by rfl) (by kernel_rfl) (by kernel_rfl) (by kernel_rfl) (by kernel_rfl) ?_
    refine Rg.ev 9 (by rfl) (fun _ h => h) (Ev.move (show Oper.op _ = Op.move (Operand.tmp 10) from rfl) (by rfl)) (by rfl) (some 70) (by rfl) (by kernel_rfl) (by kernel_rfl) (by kernel_rfl) (by kernel_rfl) ?_
    refine Rg.ev 10 (by rfl) (fun _ h => h) (Ev.sliceHn (h := kn) (sz := 1) (show Oper.op _ = Op.slice 30 (Operand.tmp 69) none (some (Operand.tmp 70)) none from rfl) (by rfl) (by rfl) Tryz.underlying30 (by kernel_rfl) (by omega)) (by rfl) (some 71) (by rfl) (by kernel_rfl) (by kernel_rfl) (by kernel_rfl) (by kernel_rfl) ?_
    refine Rg.ev 12 (by rfl) (fun _ h => h) (Ev.move (show Oper.op _ = Op.move (Operand.tmp 10) from rfl) (by rfl)) (by rfl) (some 73) (by rfl) (by kernel_rfl) (by kernel_rfl) (by kernel_rfl) (by kernel_rfl) ?_
    refine Rg.does 11 (by rfl) (by kernel_rfl) (Does.readN (show Oper.op _ = Op.call { callee := Callee.value (Operand.func 37), args := #[Operand.tmp 71], argTypes := #[30] } from rfl) Tryz.func37 (by kernel_rfl) (by kernel_rfl) (hcl) (by rfl) (by rfl) ⟨ReadsIn.rd 0 (by rfl), trivial⟩ (fun _ => by rfl)) (by rfl) (some 72) (by rfl) (fun _ _ h => h.tail_) ?_
    rintro ⟨cA, cc⟩ -
    refine Rg.ev 13 (by rfl) (fun _ h => h) (Ev.buildP (pl := [(0, 1), (1, 1)]) (zs := [.slice none 0 0, .int .i64 0]) (show Oper.op _ = Op.build 84 #[(0, Operand.tmp 72), (1, Operand.tmp 73)] from rfl) (by rfl) (by kernel_rfl) (by rfl)) (by rfl) (some 74) (by rfl) (by kernel_rfl) (by kernel_rfl) (by kernel_rfl) (by kernel_rfl) ?_
    refine Rg.does 14 (by rfl) (by kernel_rfl) (Does.box (show Oper.op _ = Op.box 84 (Operand.tmp 74) from rfl) (by rfl)) (by rfl) (some 75) (by rfl) (fun _ _ h => h.tail_) ?_
    intro g1 _
    refine Rg.tail 15 [] (by rfl) (by kernel_rfl) (Does.putT 8 (show Oper.op _ = Op.mapUpdate 65 (Operand.tmp 64) (Operand.tmp 65) (Operand.tmp 75) from rfl) (by rfl) (by rfl) (by rfl) (by rfl) Tryz.underlying9 Tryz.underlying65 (by rw [List.length_map]; omega) (by unfold maxLen; omega) (not_mem_of_find hnf)) (by rfl) none (by rfl) (by kernel_rfl) (by kernel_rfl) ?_
    rintro _ -
    refine Rg.done (by kernel_rfl) ?_ _
    refine Cd.region ?_
    refine Ls.ev (some 76) (Ev.addN (b := 1) (show Oper.op _ = Op.binOp BinOp.add 3 (Operand.tmp 16) (Operand.const (Value.int IntKind.i64 1)) 3 from rfl) (by rfl) (by rfl) (by omega)) (by rfl) (by rfl) ?_
    refine Ls.ev (some 16) (Ev.move (show Oper.op _ = Op.move (Operand.tmp 76) from rfl) (by rfl)) (by rfl) (by rfl) ?_
    refine Ls.nil ?_
    have hbk : blk g1 84 [.slice cA kn cc, .int .i64 kn] = FiS.B ⟨⟨x.p.nm, x.b.take kn, kn⟩, g1, cA, cc⟩ := by
      dsimp only [FiS.B, FiS.cs]
      rw [htl]
    have hperm : (putG FiS.nm ⟨⟨x.p.nm, x.b.take kn, kn⟩, g1, cA, cc⟩ X.fs).Perm (⟨⟨x.p.nm, x.b.take kn, kn⟩, g1, cA, cc⟩ :: X.fs) := put_perm (nm := FiS.nm) (f := ⟨⟨x.p.nm, x.b.take kn, kn⟩, g1, cA, cc⟩) hnf
    have hpn : (X.fs.map FiS.nm ++ [x.p.nm]).Perm ((putG FiS.nm ⟨⟨x.p.nm, x.b.take kn, kn⟩, g1, cA, cc⟩ X.fs).map FiS.nm) := List.perm_append_comm.trans ((hperm.map FiS.nm).symm)
    refine Ent.pick [0, 1, 9, 8, 4, 5, 10, 11, 7, 6] (by rfl) ?_
    refine Ent.map (fun w hs => fil_perm hperm.symm (fil_shut (a := []) (b := X.fs) (f := ⟨⟨x.p.nm, x.b.take kn, kn⟩, g1, cA, cc⟩) (by rw [← hbk]; exact hs))) ?_
    refine Ent.pick [1, 0, 2, 3, 4, 5, 6, 7] (by rfl) ?_
    refine Ent.map (fun w hs => mapt_perm hpn (f' := ptrF (putG FiS.nm ⟨⟨x.p.nm, x.b.take kn, kn⟩, g1, cA, cc⟩ X.fs)) (fun y _ => (ptrF_put hX.rise ⟨⟨x.p.nm, x.b.take kn, kn⟩, g1, cA, cc⟩ y).symm) hs) ?_
    refine Ent.pick [2, 0, 1, 3, 4, 5, 6, 7] (by rfl) ?_
    subst hu'
    refine Ent.inv ((k + 1, { X with fs := putG FiS.nm ⟨⟨x.p.nm, x.b.take kn, kn⟩, g1, cA, cc⟩ X.fs })) ?_ ?_ ?_
    · (try dsimp only); exact ⟨⟨hlt, by rw [← hst]; exact hX.put (f := ⟨⟨x.p.nm, x.b.take kn, kn⟩, g1, cA, cc⟩) (by show (DrP.put _ _).Ok; rw [show (⟨crashF (P.fs.take k) ks, 0, none⟩ : DrP).put ⟨x.p.nm, x.b.take kn, kn⟩ = _ from hst]; exact crash_ok h.ok ks (k + 1)), rfl⟩, by omega⟩
    · (repeat (first | exact trivial | refine ⟨by rfl, ?_⟩ | refine ⟨by simp only [List.length_append, List.length_cons, List.length_nil]; rfl, ?_⟩ | refine ⟨by push_cast; rfl, ?_⟩))
    · rfl
  · skip
    have hge : ns.length ≤ k := by have := of_decide_eq_false h2; omega
    rw [List.take_of_length_le (by omega)] at hX
    refine Cd.exit ?_
    refine Cd.seq ?_
    refine Cd.region ?_
    refine Ls.ev (some 77) (Ev.move (show Oper.op _ = Op.move (Operand.tmp 5) from rfl) (by rfl)) (by rfl) (by rfl) ?_
    refine Ls.ev (some 4) (Ev.assign (show Oper.op _ = Op.assign (Operand.tmp 77) from rfl) (by rfl)) (by rfl) (by rfl) ?_
    refine Ls.nil ?_
    refine Cd.ret ?_
    refine Ent.ret (X) (hX) (Res.tmp (by rfl) (by rfl)) ?_ [0, 1, 2] (by rfl) ?_
    · show X0.ptr = X.ptr
      rw [DrS.ptr, DrS.ptr, hXd]
    · rfl
end Go.Proofs.YtceanciekadkeaaGreatDoor
/- WalCrashes: a life -/
namespace Go.Proofs.YtceanciekadkeaaGreatDoor
open Go.RowKit
theorem cutP_cut (l : List UInt8) : cutP (cutP l) = cutP l := by
  unfold cutP
  rw [List.take_take]
  rfl
/-- A life as it lies. -/
structure LfS where
  pA : Option Addr
  pc : Nat
  S : List ByS
  every : Int
  left : Int
  kA : Option Addr
  kc : Nat
  ks : List Int
  deriving Inhabited
def LfS.enc (x : LfS) : List Value := [.slice x.pA x.S.length x.pc, .int .i64 x.every, .int .i64 x.left, .slice x.kA x.ks.length x.kc]
def LfS.ok (W : World) (x : LfS) : Prop := (Reads W W.heap.size 1 x.pA x.S.length (x.S.map ByS.v) ∧ ∀ s ∈ x.S, ByS.ok W s) ∧ (x.S.length ≤ 5864062014634 ∧ x.left ≤ 9223372036854775807) ∧ Reads W W.heap.size 1 x.kA x.ks.length (ints x.ks)
set_option maxHeartbeats 2000000 in
theorem lived_sl {D : DrS} {P : DrP} (h : Drv D P) (W : World) (x : LfS) (hx : x.ok W) (g : Nat) (L : LgP) {B : List FiP} {s0 : Nat} (hLd : L.dead = false) (hI : LfI P L B s0 (0 ≤ x.left) [] 0 0) : Fn Tryz.prog 22 #[ptrV g, .agg x.enc.toArray] [lgB g D.d L, D.B, D.M, D.F, laidC, argc W] (DrS × (Option Addr × Nat × List ByS) × Nat) (fun p => .tuple #[.slice p.2.1.1 p.2.1.2.2.length p.2.1.2.1, .int .i64 p.2.2, .bool true]) (fun p => [p.1.B, p.1.M, p.1.F, payW p.2.1.1 p.2.1.2.1 p.2.1.2.2, payX p.2.1.2.2]) (fun p => p.1.d = D.d ∧ p.2.1.2.2.length ≤ 20 ∧ ∃ P' L' n, n ≤ 20 ∧ Drv p.1 P' ∧ LfI P' L' B s0 (0 ≤ x.left) (p.2.1.2.2.map ByS.l) p.2.2 n) := by
  obtain ⟨pA, pc, S, every, left, kA, kc, ks⟩ := x
  obtain ⟨⟨hS, hok⟩, ⟨hSl, hle⟩, hks⟩ := hx
  dsimp only at hS hok hSl hle hks hI
  obtain ⟨sg, lb⟩ := L
  obtain rfl : lb = false := hLd
  obtain ⟨m, hm⟩ : ∃ m, m = min S.length 20 := ⟨_, rfl⟩
  refine Fn.enter Tryz.func22 rfl Tryz.ntmps22 (by rfl) ?_
  intro w0
  refine Cd.seq ?_
  refine Cd.region ?_
  refine Ls.does (some 3) (Does.box (show Oper.op _ = Op.box 59 (Operand.tmp 1) from rfl) (by rfl)) (by rfl) (by rfl) ?_
  intro g1 _
  refine Ls.ev (some 4) (Ev.assign (show Oper.op _ = Op.assign (Operand.const (Value.slice none 0 0)) from rfl) (by rfl)) (by rfl) (by rfl) ?_
  refine Ls.ev (some 5) (Ev.assign (show Oper.op _ = Op.assign (Operand.const (Value.int IntKind.i64 0)) from rfl) (by rfl)) (by rfl) (by rfl) ?_
  refine Ls.ev (some 6) (Ev.assign (show Oper.op _ = Op.assign (Operand.const (Value.bool false)) from rfl) (by rfl)) (by rfl) (by rfl) ?_
  refine Ls.nil ?_
  refine Cd.seq ?_
  refine Cd.region ?_
  refine Ls.ev (some 7) (Ev.assign (show Oper.op _ = Op.assign (Operand.const (Value.slice none 0 0)) from rfl) (by rfl)) (by rfl) (by rfl) ?_
  refine Ls.nil ?_
  refine Cd.seq ?_
  refine Cd.region ?_
  refine Ls.ev (some 8) (Ev.assign (show Oper.op _ = Op.assign (Operand.const (Value.int IntKind.i64 0)) from rfl) (by rfl)) (by rfl) (by rfl) ?_
  refine Ls.ev (some 9) (Ev.assign (show Oper.op _ = Op.assign (Operand.const (Value.bool false)) from rfl) (by rfl)) (by rfl) (by rfl) ?_
  refine Ls.nil ?_
  refine Cd.seq ?_
  refine Cd.seq ?_
  refine Cd.region ?_
  refine Ls.ev (some 10) (Ev.assign (show Oper.op _ = Op.assign (Operand.const (Value.int IntKind.i64 0)) from rfl) (by rfl)) (by rfl) (by rfl) ?_
  refine Ls.nil ?_
  refine Cd.block ?_
  refine Ent.nil 30 1 ?_
  refine Ent.map (fun w hs => hs.starx_nil) ?_
  refine Ent.map (fun w hs => Sat.arg (i := 8) (by rfl) hS hs) ?_
  refine Ent.pick [2, 1, 4, 5, 6, 7, 3, 0, 8, 9] (by rfl) ?_
  refine Cd.loop (ι := Nat × (Option Addr × Nat × List ByS) × Nat × DrS × DrP × LgP) (fun p => [(0, ptrV g), (3, .pointer (some ⟨g1, 0, none⟩)), (7, .slice p.2.1.1 p.2.1.2.2.length p.2.1.2.1), (8, .int .i64 p.2.2.1), (9, .bool p.2.2.2.2.2.dead), (10, .int .i64 p.1)]) (fun p => [payW p.2.1.1 p.2.1.2.1 p.2.1.2.2, payX p.2.1.2.2, lgB g D.d p.2.2.2.2.2, p.2.2.2.1.B, p.2.2.2.1.M, p.2.2.2.1.F, blk g1 59 [.slice pA S.length pc, .int .i64 every, .int .i64 left, .slice kA ks.length kc], rdV pA S, laidC, argc W]) (fun p => p.1 ≤ m ∧ p.2.1.2.2.length ≤ p.1 ∧ Drv p.2.2.2.1 p.2.2.2.2.1 ∧ p.2.2.2.1.d = D.d ∧ LfI p.2.2.2.2.1 p.2.2.2.2.2 B s0 (0 ≤ left) (p.2.1.2.2.map ByS.l) p.2.2.1 p.1) (fun p => m - p.1) ((0, (none, 0, []), 0, D, P, ⟨sg, false⟩)) (⟨Nat.zero_le _, Nat.le_refl _, h, rfl, hI⟩) ?_ rfl ?_
  · (repeat (first | exact trivial | refine ⟨by rfl, ?_⟩))
  rintro ⟨i, ⟨dA, dc, U⟩, sf, E, Q, M⟩ ⟨hi, hU, hE, hEd, hF⟩
  dsimp only at hi hU hE hEd hF ⊢
  have hseg := hF.seg
  refine Cd.seq ?_
  refine Cd.seq ?_
  refine Cd.cut (ι := Unit) (fun _ => [(0, ptrV g), (3, .pointer (some ⟨g1, 0, none⟩)), (7, .slice dA U.length dc), (8, .int .i64 sf), (9, .bool M.dead), (10, .int .i64 i), (21, .bool (decide (i < m)))]) (fun _ => [payW dA dc U, payX U, lgB g D.d M, E.B, E.M, E.F, blk g1 59 [.slice pA S.length pc, .int .i64 every, .int .i64 left, .slice kA ks.length kc], rdV pA S, laidC, argc W]) (fun _ => True) ?_ ?_
  · skip
    refine Cd.region ?_
    refine Ls.ev (some 13) (Ev.move (show Oper.op _ = Op.move (Operand.tmp 10) from rfl) (by rfl)) (by rfl) (by rfl) ?_
    refine Ls.ev (some 14) (Ev.fieldAddr (k := 0) (show Oper.op _ = Op.fieldAddr 59 (Operand.tmp 3) 0 from rfl) (by rfl) (by kernel_rfl) (by rfl)) (by rfl) (by rfl) ?_
    refine Ls.ev (some 15) (Ev.load 6 (show Oper.op _ = Op.load 22 (Operand.tmp 14) from rfl) (by rfl) (by rfl) (by kernel_rfl) (by rfl)) (by rfl) (by rfl) ?_
    refine Ls.ev (some 16) (Ev.len (show Oper.op _ = Op.call { callee := Callee.builtin Builtin.len, args := #[Operand.tmp 15], argTypes := #[22] } from rfl) (by rfl) Tryz.underlying22) (by rfl) (by rfl) ?_
    refine Ls.ev (some 17) (Ev.lss (show Oper.op _ = Op.binOp BinOp.lss 3 (Operand.tmp 13) (Operand.tmp 16) 3 from rfl) (by rfl) (by rfl)) (by rfl) (by rfl) ?_
    refine Ls.ev (some 18) (Ev.move (show Oper.op _ = Op.move (Operand.tmp 17) from rfl) (by rfl)) (by rfl) (by rfl) ?_
    refine Ent.split 18 (by rfl) (fun hT1 => ?_) (fun hT1 => ?_)
    · first | have hT1 := of_decide_eq_false hT1 | have hT1 := of_not_decide_false hT1 | skip
      refine Ls.pass (some 19) (by rfl) (by rfl) ?_
      refine Ls.pass (some 20) (by rfl) (by rfl) ?_
      refine Ls.ev (some 21) (Ev.pickF (show Oper.op _ = Op.pick (Operand.tmp 18) (Operand.tmp 20) (Operand.const (Value.bool false)) from rfl) (by rfl) (by rfl)) (by rfl) (by rfl) ?_
      refine Ls.nil ?_
      refine Ent.inv () ?_ ?_ ?_
      · exact trivial
      · (repeat (first | exact trivial | refine ⟨by rfl, ?_⟩ | refine ⟨by simp only [List.length_append, List.length_cons, List.length_nil]; rfl, ?_⟩ | refine ⟨by push_cast; rfl, ?_⟩ | refine ⟨by (show some (Value.bool _) = some (Value.bool _); congr 2; all_goals ((first | exact (decide_eq_decide.2 (by omega)) | exact (decide_eq_false (by omega)).symm | exact (decide_eq_true (by omega)).symm | exact decide_eq_true (by omega) | exact decide_eq_false (by omega)))), ?_⟩))
      · rfl
    · first | have hT1 := of_decide_eq_true hT1 | have hT1 := of_not_decide_true hT1 | skip
      refine Ls.ev (some 19) (Ev.move (show Oper.op _ = Op.move (Operand.tmp 10) from rfl) (by rfl)) (by rfl) (by rfl) ?_
      refine Ls.ev (some 20) (Ev.lss (show Oper.op _ = Op.binOp BinOp.lss 3 (Operand.tmp 19) (Operand.const (Value.int IntKind.i64 20)) 3 from rfl) (by rfl) (by rfl)) (by rfl) (by rfl) ?_
      refine Ls.ev (some 21) (Ev.pickT (show Oper.op _ = Op.pick (Operand.tmp 18) (Operand.tmp 20) (Operand.const (Value.bool false)) from rfl) (by rfl) (by rfl)) (by rfl) (by rfl) ?_
      refine Ls.nil ?_
      refine Ent.inv () ?_ ?_ ?_
      · exact trivial
      · (repeat (first | exact trivial | refine ⟨by rfl, ?_⟩ | refine ⟨by simp only [List.length_append, List.length_cons, List.length_nil]; rfl, ?_⟩ | refine ⟨by push_cast; rfl, ?_⟩ | refine ⟨by (show some (Value.bool _) = some (Value.bool _); congr 2; all_goals ((first | exact (decide_eq_decide.2 (by omega)) | exact (decide_eq_false (by omega)).symm | exact (decide_eq_true (by omega)).symm | exact decide_eq_true (by omega) | exact decide_eq_false (by omega)))), ?_⟩))
      · rfl
  skip
  rintro _ -
  refine Cd.cond _ (by rfl) (fun h2 => ?_) (fun h2 => ?_)
  · skip
    have hlt : i < m := of_decide_eq_true h2
    obtain ⟨s, hs⟩ := get_of_lt (show i < S.length by omega)
    have hoks := hok s (List.mem_of_getElem? hs)
    have hcl := cutP_len s.l
    refine Ent.rdSome 7 (by rfl) (by omega) (fun ad had => ?_)
    subst had
    refine Cd.skip ?_
    refine Cd.seq ?_
    refine Cd.block ?_
    refine Cd.seq ?_
    refine Cd.region ?_
    refine Ls.ev (some 24) (Ev.fieldAddr (k := 0) (show Oper.op _ = Op.fieldAddr 59 (Operand.tmp 3) 0 from rfl) (by rfl) (by kernel_rfl) (by rfl)) (by rfl) (by rfl) ?_
    refine Ls.ev (some 25) (Ev.load 6 (show Oper.op _ = Op.load 22 (Operand.tmp 24) from rfl) (by rfl) (by rfl) (by kernel_rfl) (by rfl)) (by rfl) (by rfl) ?_
    refine Ls.ev (some 26) (Ev.move (show Oper.op _ = Op.move (Operand.tmp 10) from rfl) (by rfl)) (by rfl) (by rfl) ?_
    refine Ls.ev (some 27) (Ev.indexAt (sz := 1) (show Oper.op _ = Op.indexAddr 22 (Operand.tmp 25) (Operand.tmp 26) from rfl) (by rfl) (by rfl) Tryz.underlying22 (by kernel_rfl) (by omega)) (by rfl) (by rfl) ?_
    refine Ls.ev (some 28) (Ev.loadV (show Oper.op _ = Op.load 30 (Operand.tmp 27) from rfl) (by rfl) (ReadsIn.rd 7 (by rfl)) (by kernel_rfl) hs) (by rfl) (by rfl) ?_
    refine Ent.map (fun w hs => Sat.arg (i := 9) (by rfl) hoks.1 hs) ?_
    skip
    refine Ls.does (some 29) (Does.readN (show Oper.op _ = Op.call { callee := Callee.value (Operand.func 10), args := #[Operand.tmp 28], argTypes := #[30] } from rfl) Tryz.func10 (by kernel_rfl) (by kernel_rfl) (cutb_sl s.A s.c s.l hoks.2.1) (by rfl) (by rfl) ⟨ReadsIn.rd 0 (by rfl), trivial⟩ (fun _ => by rfl)) (by rfl) (by rfl) ?_
    rintro ⟨rA, rc⟩ -
    dsimp only
    refine Ent.fact 0 (by rfl) (p := (cutP s.l).length ≤ rc) (fun w hw => Own.le hw) (fun hrc => ?_)
    have hc2 := cutb_sl rA rc (cutP s.l) hrc
    rw [cutP_cut] at hc2
    refine Ls.ev (some 11) (Ev.assign (show Oper.op _ = Op.assign (Operand.tmp 29) from rfl) (by rfl)) (by rfl) (by rfl) ?_
    refine Ls.nil ?_
    refine Cd.seq ?_
    refine Cd.region ?_
    refine Ls.ev (some 30) (Ev.move (show Oper.op _ = Op.move (Operand.tmp 0) from rfl) (by rfl)) (by rfl) (by rfl) ?_
    refine Ls.ev (some 31) (Ev.move (show Oper.op _ = Op.move (Operand.tmp 11) from rfl) (by rfl)) (by rfl) (by rfl) ?_
    refine Ls.does (some 32) (Does.readN (show Oper.op _ = Op.call { callee := Callee.value (Operand.func 10), args := #[Operand.tmp 31], argTypes := #[30] } from rfl) Tryz.func10 (by kernel_rfl) (by kernel_rfl) (hc2) (by rfl) (by rfl) ⟨ReadsIn.row 0 (by rfl), trivial⟩ (fun _ => by rfl)) (by rfl) (by rfl) ?_
    rintro ⟨r2, c2⟩ -
    dsimp only
    refine Ent.see 0 (by rfl) ?_
    have hap := lappend_sl hE g M (by omega) r2 c2 (cutP s.l)
    rw [hEd] at hap
    skip
    refine Ls.does (some 33) (Does.call [5, 6, 7, 8, 11, 0, 1, 3, 4, 9, 10, 11, 12] (show Oper.op _ = Op.call { callee := Callee.value (Operand.func 11), args := #[Operand.tmp 30, Operand.tmp 32], argTypes := #[26, 30] } from rfl) Tryz.func11 (by kernel_rfl) (by kernel_rfl) (hap) (by rfl) (by rfl) (by rfl)) (by rfl) (by rfl) ?_
    rintro E1 ⟨hE1, hd1, -⟩
    have hstep : (((appL Q M (cutP s.l)).2.2 = 0 ∧ M.dead = false) ∨ ((appL Q M (cutP s.l)).2.2 = 6 ∧ 0 ≤ left)) ∧ (appL Q M (cutP s.l)).2.1.dead = (M.dead || decide ((appL Q M (cutP s.l)).2.2 = 6)) ∧ LfI (appL Q M (cutP s.l)).1 (appL Q M (cutP s.l)).2.1 B s0 (0 ≤ left) (if M.dead then U.map ByS.l else U.map ByS.l ++ [cutP s.l]) sf (i + 1) := by
      rcases hF.app (p := cutP s.l) (by omega) (by omega) with ⟨a1, a2, a3, a4⟩ | ⟨a1, a2, a3, a4⟩
      · exact ⟨.inl ⟨a1, a2⟩, by rw [a3, a2, a1]; rfl, by rw [a2]; exact a4⟩
      · exact ⟨.inr ⟨a1, a2⟩, by rw [a3, a1]; simp, a4⟩
    generalize appL Q M (cutP s.l) = r at hE1 hstep ⊢
    obtain ⟨Q1, M1, e⟩ := r
    dsimp only at hE1 hstep ⊢
    obtain ⟨he, hM1, hF1⟩ := hstep
    obtain ⟨db, hdb⟩ : ∃ db, db = M.dead := ⟨_, rfl⟩
    rw [← hdb] at he hM1 hF1 ⊢
    refine Ls.ev (some 12) (Ev.assign (show Oper.op _ = Op.assign (Operand.tmp 33) from rfl) (by rfl)) (by rfl) (by rfl) ?_
    refine Ls.nil ?_
    refine Cd.seq ?_
    refine Cd.seq ?_
    refine Cd.cut (ι := Unit) (fun _ => [(0, ptrV g), (3, .pointer (some ⟨g1, 0, none⟩)), (7, .slice dA U.length dc), (8, .int .i64 sf), (9, .bool db), (10, .int .i64 i), (11, .slice rA (cutP s.l).length rc), (12, .int .i64 e), (55, .bool false)]) (fun _ => [lgB g D.d M1, E1.B, E1.M, E1.F, rowB rA rc (cutP s.l), payW dA dc U, blk g1 59 [.slice (some ad) S.length pc, .int .i64 every, .int .i64 left, .slice kA ks.length kc], payX U, rdV (some ad) S, laidC, argc W]) (fun _ => True) ?_ ?_
    · skip
      refine Ent.pick [0, 1, 2, 3, 4, 5, 7, 6, 8, 9, 10] (by rfl) ?_
      refine Cd.region ?_
      refine Ls.ev (some 34) (Ev.move (show Oper.op _ = Op.move (Operand.tmp 12) from rfl) (by rfl)) (by rfl) (by rfl) ?_
      refine Ls.ev (some 35) (Ev.neq (show Oper.op _ = Op.binOp BinOp.neq 27 (Operand.tmp 34) (Operand.const (Value.int IntKind.i64 0)) 27 from rfl) (by rfl) (by rfl)) (by rfl) (by rfl) ?_
      refine Ls.ev (some 36) (Ev.move (show Oper.op _ = Op.move (Operand.tmp 35) from rfl) (by rfl)) (by rfl) (by rfl) ?_
      refine Ent.split 36 (by rfl) (fun hT1 => ?_) (fun hT1 => ?_)
      · first | have hT1 := of_decide_eq_false hT1 | have hT1 := of_not_decide_false hT1 | skip
        refine Ls.pass (some 37) (by rfl) (by rfl) ?_
        refine Ls.pass (some 38) (by rfl) (by rfl) ?_
        refine Ls.ev (some 39) (Ev.pickF (show Oper.op _ = Op.pick (Operand.tmp 36) (Operand.tmp 38) (Operand.const (Value.bool false)) from rfl) (by rfl) (by rfl)) (by rfl) (by rfl) ?_
        refine Ls.ev (some 40) (Ev.move (show Oper.op _ = Op.move (Operand.tmp 39) from rfl) (by rfl)) (by rfl) (by rfl) ?_
        refine Ls.ev (some 41) (Ev.move (show Oper.op _ = Op.move (Operand.tmp 9) from rfl) (by rfl)) (by rfl) (by rfl) ?_
        refine Ls.ev (some 42) (Ev.move (show Oper.op _ = Op.move (Operand.tmp 41) from rfl) (by rfl)) (by rfl) (by rfl) ?_
        refine Ent.split 42 (by rfl) (fun hT2 => ?_) (fun hT2 => ?_)
        · first | have hT2 := of_decide_eq_false hT2 | have hT2 := of_not_decide_false hT2 | skip
          refine Ls.pass (some 43) (by rfl) (by rfl) ?_
          refine Ls.pass (some 44) (by rfl) (by rfl) ?_
          refine Ls.ev (some 45) (Ev.pickF (show Oper.op _ = Op.pick (Operand.tmp 42) (Operand.tmp 44) (Operand.const (Value.bool false)) from rfl) (by rfl) (by rfl)) (by rfl) (by rfl) ?_
          refine Ls.ev (some 46) (Ev.pickF (show Oper.op _ = Op.pick (Operand.tmp 40) (Operand.const (Value.bool true)) (Operand.tmp 45) from rfl) (by rfl) (by rfl)) (by rfl) (by rfl) ?_
          refine Ls.ev (some 47) (Ev.move (show Oper.op _ = Op.move (Operand.tmp 46) from rfl) (by rfl)) (by rfl) (by rfl) ?_
          refine Ls.ev (some 48) (Ev.move (show Oper.op _ = Op.move (Operand.tmp 12) from rfl) (by rfl)) (by rfl) (by rfl) ?_
          refine Ls.ev (some 49) (Ev.eql (show Oper.op _ = Op.binOp BinOp.eql 27 (Operand.tmp 48) (Operand.const (Value.int IntKind.i64 6)) 27 from rfl) (by rfl) (by rfl)) (by rfl) (by rfl) ?_
          refine Ls.ev (some 50) (Ev.move (show Oper.op _ = Op.move (Operand.tmp 49) from rfl) (by rfl)) (by rfl) (by rfl) ?_
          refine Ent.split 50 (by rfl) (fun hT3 => ?_) (fun hT3 => ?_)
          · first | have hT3 := of_decide_eq_false hT3 | have hT3 := of_not_decide_false hT3 | skip
            refine Ls.pass (some 51) (by rfl) (by rfl) ?_
            refine Ls.pass (some 52) (by rfl) (by rfl) ?_
            refine Ls.pass (some 53) (by rfl) (by rfl) ?_
            refine Ls.ev (some 54) (Ev.pickF (show Oper.op _ = Op.pick (Operand.tmp 50) (Operand.tmp 53) (Operand.const (Value.bool false)) from rfl) (by rfl) (by rfl)) (by rfl) (by rfl) ?_
            refine Ls.ev (some 55) (Ev.pickF (show Oper.op _ = Op.pick (Operand.tmp 47) (Operand.const (Value.bool true)) (Operand.tmp 54) from rfl) (by rfl) (by rfl)) (by rfl) (by rfl) ?_
            refine Ls.nil ?_
            refine Ent.inv () ?_ ?_ ?_
            · exact trivial
            · (repeat (first | exact trivial | refine ⟨by rfl, ?_⟩ | refine ⟨by simp only [List.length_append, List.length_cons, List.length_nil]; rfl, ?_⟩ | refine ⟨by push_cast; rfl, ?_⟩ | refine ⟨by (show some (Value.bool _) = some (Value.bool _); congr 2; all_goals ((first | rfl | (refine decide_eq_false ?_; rcases he with ⟨h1, h2⟩ | ⟨h1, h2⟩ <;> first | omega | simp_all) | (exfalso; rcases he with ⟨h1, h2⟩ | ⟨h1, h2⟩ <;> first | omega | simp_all)))), ?_⟩))
            · rfl
          · first | have hT3 := of_decide_eq_true hT3 | have hT3 := of_not_decide_true hT3 | skip
            refine Ls.ev (some 51) (Ev.fieldAddr (k := 2) (show Oper.op _ = Op.fieldAddr 59 (Operand.tmp 3) 2 from rfl) (by rfl) (by kernel_rfl) (by rfl)) (by rfl) (by rfl) ?_
            refine Ls.ev (some 52) (Ev.load 6 (show Oper.op _ = Op.load 3 (Operand.tmp 51) from rfl) (by rfl) (by rfl) (by kernel_rfl) (by rfl)) (by rfl) (by rfl) ?_
            refine Ls.ev (some 53) (Ev.lss (show Oper.op _ = Op.binOp BinOp.lss 3 (Operand.tmp 52) (Operand.const (Value.int IntKind.i64 0)) 3 from rfl) (by rfl) (by rfl)) (by rfl) (by rfl) ?_
            refine Ls.ev (some 54) (Ev.pickT (show Oper.op _ = Op.pick (Operand.tmp 50) (Operand.tmp 53) (Operand.const (Value.bool false)) from rfl) (by rfl) (by rfl)) (by rfl) (by rfl) ?_
            refine Ls.ev (some 55) (Ev.pickF (show Oper.op _ = Op.pick (Operand.tmp 47) (Operand.const (Value.bool true)) (Operand.tmp 54) from rfl) (by rfl) (by rfl)) (by rfl) (by rfl) ?_
            refine Ls.nil ?_
            refine Ent.inv () ?_ ?_ ?_
            · exact trivial
            · (repeat (first | exact trivial | refine ⟨by rfl, ?_⟩ | refine ⟨by simp only [List.length_append, List.length_cons, List.length_nil]; rfl, ?_⟩ | refine ⟨by push_cast; rfl, ?_⟩ | refine ⟨by (show some (Value.bool _) = some (Value.bool _); congr 2; all_goals ((first | rfl | (refine decide_eq_false ?_; rcases he with ⟨h1, h2⟩ | ⟨h1, h2⟩ <;> first | omega | simp_all) | (exfalso; rcases he with ⟨h1, h2⟩ | ⟨h1, h2⟩ <;> first | omega | simp_all)))), ?_⟩))
            · rfl
        · first | have hT2 := of_decide_eq_true hT2 | have hT2 := of_not_decide_true hT2 | skip
          refine Ls.ev (some 43) (Ev.move (show Oper.op _ = Op.move (Operand.tmp 12) from rfl) (by rfl)) (by rfl) (by rfl) ?_
          refine Ls.ev (some 44) (Ev.eql (show Oper.op _ = Op.binOp BinOp.eql 27 (Operand.tmp 43) (Operand.const (Value.int IntKind.i64 0)) 27 from rfl) (by rfl) (by rfl)) (by rfl) (by rfl) ?_
          refine Ls.ev (some 45) (Ev.pickT (show Oper.op _ = Op.pick (Operand.tmp 42) (Operand.tmp 44) (Operand.const (Value.bool false)) from rfl) (by rfl) (by rfl)) (by rfl) (by rfl) ?_
          refine Ls.ev (some 46) (Ev.pickF (show Oper.op _ = Op.pick (Operand.tmp 40) (Operand.const (Value.bool true)) (Operand.tmp 45) from rfl) (by rfl) (by rfl)) (by rfl) (by rfl) ?_
          refine Ls.ev (some 47) (Ev.move (show Oper.op _ = Op.move (Operand.tmp 46) from rfl) (by rfl)) (by rfl) (by rfl) ?_
          refine Ent.split 47 (by rfl) (fun hT3 => ?_) (fun hT3 => ?_)
          · first | have hT3 := of_decide_eq_false hT3 | have hT3 := of_not_decide_false hT3 | skip
            refine Ls.ev (some 48) (Ev.move (show Oper.op _ = Op.move (Operand.tmp 12) from rfl) (by rfl)) (by rfl) (by rfl) ?_
            refine Ls.ev (some 49) (Ev.eql (show Oper.op _ = Op.binOp BinOp.eql 27 (Operand.tmp 48) (Operand.const (Value.int IntKind.i64 6)) 27 from rfl) (by rfl) (by rfl)) (by rfl) (by rfl) ?_
            refine Ls.ev (some 50) (Ev.move (show Oper.op _ = Op.move (Operand.tmp 49) from rfl) (by rfl)) (by rfl) (by rfl) ?_
            refine Ent.split 50 (by rfl) (fun hT4 => ?_) (fun hT4 => ?_)
            · first | have hT4 := of_decide_eq_false hT4 | have hT4 := of_not_decide_false hT4 | skip
              refine Ls.pass (some 51) (by rfl) (by rfl) ?_
              refine Ls.pass (some 52) (by rfl) (by rfl) ?_
              refine Ls.pass (some 53) (by rfl) (by rfl) ?_
              refine Ls.ev (some 54) (Ev.pickF (show Oper.op _ = Op.pick (Operand.tmp 50) (Operand.tmp 53) (Operand.const (Value.bool false)) from rfl) (by rfl) (by rfl)) (by rfl) (by rfl) ?_
              refine Ls.ev (some 55) (Ev.pickF (show Oper.op _ = Op.pick (Operand.tmp 47) (Operand.const (Value.bool true)) (Operand.tmp 54) from rfl) (by rfl) (by rfl)) (by rfl) (by rfl) ?_
              refine Ls.nil ?_
              refine Ent.inv () ?_ ?_ ?_
              · exact trivial
              · (repeat (first | exact trivial | refine ⟨by rfl, ?_⟩ | refine ⟨by simp only [List.length_append, List.length_cons, List.length_nil]; rfl, ?_⟩ | refine ⟨by push_cast; rfl, ?_⟩ | refine ⟨by (show some (Value.bool _) = some (Value.bool _); congr 2; all_goals ((first | rfl | (refine decide_eq_false ?_; rcases he with ⟨h1, h2⟩ | ⟨h1, h2⟩ <;> first | omega | simp_all) | (exfalso; rcases he with ⟨h1, h2⟩ | ⟨h1, h2⟩ <;> first | omega | simp_all)))), ?_⟩))
              · rfl
            · first | have hT4 := of_decide_eq_true hT4 | have hT4 := of_not_decide_true hT4 | skip
              refine Ls.ev (some 51) (Ev.fieldAddr (k := 2) (show Oper.op _ = Op.fieldAddr 59 (Operand.tmp 3) 2 from rfl) (by rfl) (by kernel_rfl) (by rfl)) (by rfl) (by rfl) ?_
              refine Ls.ev (some 52) (Ev.load 6 (show Oper.op _ = Op.load 3 (Operand.tmp 51) from rfl) (by rfl) (by rfl) (by kernel_rfl) (by rfl)) (by rfl) (by rfl) ?_
              refine Ls.ev (some 53) (Ev.lss (show Oper.op _ = Op.binOp BinOp.lss 3 (Operand.tmp 52) (Operand.const (Value.int IntKind.i64 0)) 3 from rfl) (by rfl) (by rfl)) (by rfl) (by rfl) ?_
              refine Ls.ev (some 54) (Ev.pickT (show Oper.op _ = Op.pick (Operand.tmp 50) (Operand.tmp 53) (Operand.const (Value.bool false)) from rfl) (by rfl) (by rfl)) (by rfl) (by rfl) ?_
              refine Ls.ev (some 55) (Ev.pickF (show Oper.op _ = Op.pick (Operand.tmp 47) (Operand.const (Value.bool true)) (Operand.tmp 54) from rfl) (by rfl) (by rfl)) (by rfl) (by rfl) ?_
              refine Ls.nil ?_
              refine Ent.inv () ?_ ?_ ?_
              · exact trivial
              · (repeat (first | exact trivial | refine ⟨by rfl, ?_⟩ | refine ⟨by simp only [List.length_append, List.length_cons, List.length_nil]; rfl, ?_⟩ | refine ⟨by push_cast; rfl, ?_⟩ | refine ⟨by (show some (Value.bool _) = some (Value.bool _); congr 2; all_goals ((first | rfl | (refine decide_eq_false ?_; rcases he with ⟨h1, h2⟩ | ⟨h1, h2⟩ <;> first | omega | simp_all) | (exfalso; rcases he with ⟨h1, h2⟩ | ⟨h1, h2⟩ <;> first | omega | simp_all)))), ?_⟩))
              · rfl
          · first | have hT3 := of_decide_eq_true hT3 | have hT3 := of_not_decide_true hT3 | skip
            refine Ls.pass (some 48) (by rfl) (by rfl) ?_
            refine Ls.pass (some 49) (by rfl) (by rfl) ?_
            refine Ls.pass (some 50) (by rfl) (by rfl) ?_
            refine Ls.pass (some 51) (by rfl) (by rfl) ?_
            refine Ls.pass (some 52) (by rfl) (by rfl) ?_
            refine Ls.pass (some 53) (by rfl) (by rfl) ?_
            refine Ls.pass (some 54) (by rfl) (by rfl) ?_
            refine Ls.ev (some 55) (Ev.pickT (show Oper.op _ = Op.pick (Operand.tmp 47) (Operand.const (Value.bool true)) (Operand.tmp 54) from rfl) (by rfl) (by rfl)) (by rfl) (by rfl) ?_
            refine Ls.nil ?_
            refine Ent.inv () ?_ ?_ ?_
            · exact trivial
            · (repeat (first | exact trivial | refine ⟨by rfl, ?_⟩ | refine ⟨by simp only [List.length_append, List.length_cons, List.length_nil]; rfl, ?_⟩ | refine ⟨by push_cast; rfl, ?_⟩ | refine ⟨by (show some (Value.bool _) = some (Value.bool _); congr 2; all_goals ((first | rfl | (refine decide_eq_false ?_; rcases he with ⟨h1, h2⟩ | ⟨h1, h2⟩ <;> first | omega | simp_all) | (exfalso; rcases he with ⟨h1, h2⟩ | ⟨h1, h2⟩ <;> first | omega | simp_all)))), ?_⟩))
            · rfl
      · first | have hT1 := of_decide_eq_true hT1 | have hT1 := of_not_decide_true hT1 | skip
        refine Ls.ev (some 37) (Ev.move (show Oper.op _ = Op.move (Operand.tmp 12) from rfl) (by rfl)) (by rfl) (by rfl) ?_
        refine Ls.ev (some 38) (Ev.neq (show Oper.op _ = Op.binOp BinOp.neq 27 (Operand.tmp 37) (Operand.const (Value.int IntKind.i64 6)) 27 from rfl) (by rfl) (by rfl)) (by rfl) (by rfl) ?_
        refine Ls.ev (some 39) (Ev.pickT (show Oper.op _ = Op.pick (Operand.tmp 36) (Operand.tmp 38) (Operand.const (Value.bool false)) from rfl) (by rfl) (by rfl)) (by rfl) (by rfl) ?_
        refine Ls.ev (some 40) (Ev.move (show Oper.op _ = Op.move (Operand.tmp 39) from rfl) (by rfl)) (by rfl) (by rfl) ?_
        refine Ent.split 40 (by rfl) (fun hT2 => ?_) (fun hT2 => ?_)
        · first | have hT2 := of_decide_eq_false hT2 | have hT2 := of_not_decide_false hT2 | skip
          refine Ls.ev (some 41) (Ev.move (show Oper.op _ = Op.move (Operand.tmp 9) from rfl) (by rfl)) (by rfl) (by rfl) ?_
          refine Ls.ev (some 42) (Ev.move (show Oper.op _ = Op.move (Operand.tmp 41) from rfl) (by rfl)) (by rfl) (by rfl) ?_
          refine Ent.split 42 (by rfl) (fun hT3 => ?_) (fun hT3 => ?_)
          · first | have hT3 := of_decide_eq_false hT3 | have hT3 := of_not_decide_false hT3 | skip
            refine Ls.pass (some 43) (by rfl) (by rfl) ?_
            refine Ls.pass (some 44) (by rfl) (by rfl) ?_
            refine Ls.ev (some 45) (Ev.pickF (show Oper.op _ = Op.pick (Operand.tmp 42) (Operand.tmp 44) (Operand.const (Value.bool false)) from rfl) (by rfl) (by rfl)) (by rfl) (by rfl) ?_
            refine Ls.ev (some 46) (Ev.pickF (show Oper.op _ = Op.pick (Operand.tmp 40) (Operand.const (Value.bool true)) (Operand.tmp 45) from rfl) (by rfl) (by rfl)) (by rfl) (by rfl) ?_
            refine Ls.ev (some 47) (Ev.move (show Oper.op _ = Op.move (Operand.tmp 46) from rfl) (by rfl)) (by rfl) (by rfl) ?_
            refine Ls.ev (some 48) (Ev.move (show Oper.op _ = Op.move (Operand.tmp 12) from rfl) (by rfl)) (by rfl) (by rfl) ?_
            refine Ls.ev (some 49) (Ev.eql (show Oper.op _ = Op.binOp BinOp.eql 27 (Operand.tmp 48) (Operand.const (Value.int IntKind.i64 6)) 27 from rfl) (by rfl) (by rfl)) (by rfl) (by rfl) ?_
            refine Ls.ev (some 50) (Ev.move (show Oper.op _ = Op.move (Operand.tmp 49) from rfl) (by rfl)) (by rfl) (by rfl) ?_
            refine Ent.split 50 (by rfl) (fun hT4 => ?_) (fun hT4 => ?_)
            · first | have hT4 := of_decide_eq_false hT4 | have hT4 := of_not_decide_false hT4 | skip
              refine Ls.pass (some 51) (by rfl) (by rfl) ?_
              refine Ls.pass (some 52) (by rfl) (by rfl) ?_
              refine Ls.pass (some 53) (by rfl) (by rfl) ?_
              refine Ls.ev (some 54) (Ev.pickF (show Oper.op _ = Op.pick (Operand.tmp 50) (Operand.tmp 53) (Operand.const (Value.bool false)) from rfl) (by rfl) (by rfl)) (by rfl) (by rfl) ?_
              refine Ls.ev (some 55) (Ev.pickF (show Oper.op _ = Op.pick (Operand.tmp 47) (Operand.const (Value.bool true)) (Operand.tmp 54) from rfl) (by rfl) (by rfl)) (by rfl) (by rfl) ?_
              refine Ls.nil ?_
              refine Ent.inv () ?_ ?_ ?_
              · exact trivial
              · (repeat (first | exact trivial | refine ⟨by rfl, ?_⟩ | refine ⟨by simp only [List.length_append, List.length_cons, List.length_nil]; rfl, ?_⟩ | refine ⟨by push_cast; rfl, ?_⟩ | refine ⟨by (show some (Value.bool _) = some (Value.bool _); congr 2; all_goals ((first | rfl | (refine decide_eq_false ?_; rcases he with ⟨h1, h2⟩ | ⟨h1, h2⟩ <;> first | omega | simp_all) | (exfalso; rcases he with ⟨h1, h2⟩ | ⟨h1, h2⟩ <;> first | omega | simp_all)))), ?_⟩))
              · rfl
            · first | have hT4 := of_decide_eq_true hT4 | have hT4 := of_not_decide_true hT4 | skip
              refine Ls.ev (some 51) (Ev.fieldAddr (k := 2) (show Oper.op _ = Op.fieldAddr 59 (Operand.tmp 3) 2 from rfl) (by rfl) (by kernel_rfl) (by rfl)) (by rfl) (by rfl) ?_
              refine Ls.ev (some 52) (Ev.load 6 (show Oper.op _ = Op.load 3 (Operand.tmp 51) from rfl) (by rfl) (by rfl) (by kernel_rfl) (by rfl)) (by rfl) (by rfl) ?_
              refine Ls.ev (some 53) (Ev.lss (show Oper.op _ = Op.binOp BinOp.lss 3 (Operand.tmp 52) (Operand.const (Value.int IntKind.i64 0)) 3 from rfl) (by rfl) (by rfl)) (by rfl) (by rfl) ?_
              refine Ls.ev (some 54) (Ev.pickT (show Oper.op _ = Op.pick (Operand.tmp 50) (Operand.tmp 53) (Operand.const (Value.bool false)) from rfl) (by rfl) (by rfl)) (by rfl) (by rfl) ?_
              refine Ls.ev (some 55) (Ev.pickF (show Oper.op _ = Op.pick (Operand.tmp 47) (Operand.const (Value.bool true)) (Operand.tmp 54) from rfl) (by rfl) (by rfl)) (by rfl) (by rfl) ?_
              refine Ls.nil ?_
              refine Ent.inv () ?_ ?_ ?_
              · exact trivial
              · (repeat (first | exact trivial | refine ⟨by rfl, ?_⟩ | refine ⟨by simp only [List.length_append, List.length_cons, List.length_nil]; rfl, ?_⟩ | refine ⟨by push_cast; rfl, ?_⟩ | refine ⟨by (show some (Value.bool _) = some (Value.bool _); congr 2; all_goals ((first | rfl | (refine decide_eq_false ?_; rcases he with ⟨h1, h2⟩ | ⟨h1, h2⟩ <;> first | omega | simp_all) | (exfalso; rcases he with ⟨h1, h2⟩ | ⟨h1, h2⟩ <;> first | omega | simp_all)))), ?_⟩))
              · rfl
          · first | have hT3 := of_decide_eq_true hT3 | have hT3 := of_not_decide_true hT3 | skip
            refine Ls.ev (some 43) (Ev.move (show Oper.op _ = Op.move (Operand.tmp 12) from rfl) (by rfl)) (by rfl) (by rfl) ?_
            refine Ls.ev (some 44) (Ev.eql (show Oper.op _ = Op.binOp BinOp.eql 27 (Operand.tmp 43) (Operand.const (Value.int IntKind.i64 0)) 27 from rfl) (by rfl) (by rfl)) (by rfl) (by rfl) ?_
            refine Ls.ev (some 45) (Ev.pickT (show Oper.op _ = Op.pick (Operand.tmp 42) (Operand.tmp 44) (Operand.const (Value.bool false)) from rfl) (by rfl) (by rfl)) (by rfl) (by rfl) ?_
            refine Ls.ev (some 46) (Ev.pickF (show Oper.op _ = Op.pick (Operand.tmp 40) (Operand.const (Value.bool true)) (Operand.tmp 45) from rfl) (by rfl) (by rfl)) (by rfl) (by rfl) ?_
            refine Ls.ev (some 47) (Ev.move (show Oper.op _ = Op.move (Operand.tmp 46) from rfl) (by rfl)) (by rfl) (by rfl) ?_
            refine Ent.split 47 (by rfl) (fun hT4 => ?_) (fun hT4 => ?_)
            · first | have hT4 := of_decide_eq_false hT4 | have hT4 := of_not_decide_false hT4 | skip
              refine Ls.ev (some 48) (Ev.move (show Oper.op _ = Op.move (Operand.tmp 12) from rfl) (by rfl)) (by rfl) (by rfl) ?_
              refine Ls.ev (some 49) (Ev.eql (show Oper.op _ = Op.binOp BinOp.eql 27 (Operand.tmp 48) (Operand.const (Value.int IntKind.i64 6)) 27 from rfl) (by rfl) (by rfl)) (by rfl) (by rfl) ?_
              refine Ls.ev (some 50) (Ev.move (show Oper.op _ = Op.move (Operand.tmp 49) from rfl) (by rfl)) (by rfl) (by rfl) ?_
              refine Ent.split 50 (by rfl) (fun hT5 => ?_) (fun hT5 => ?_)
              · first | have hT5 := of_decide_eq_false hT5 | have hT5 := of_not_decide_false hT5 | skip
                refine Ls.pass (some 51) (by rfl) (by rfl) ?_
                refine Ls.pass (some 52) (by rfl) (by rfl) ?_
                refine Ls.pass (some 53) (by rfl) (by rfl) ?_
                refine Ls.ev (some 54) (Ev.pickF (show Oper.op _ = Op.pick (Operand.tmp 50) (Operand.tmp 53) (Operand.const (Value.bool false)) from rfl) (by rfl) (by rfl)) (by rfl) (by rfl) ?_
                refine Ls.ev (some 55) (Ev.pickF (show Oper.op _ = Op.pick (Operand.tmp 47) (Operand.const (Value.bool true)) (Operand.tmp 54) from rfl) (by rfl) (by rfl)) (by rfl) (by rfl) ?_
                refine Ls.nil ?_
                refine Ent.inv () ?_ ?_ ?_
                · exact trivial
                · (repeat (first | exact trivial | refine ⟨by rfl, ?_⟩ | refine ⟨by simp only [List.length_append, List.length_cons, List.length_nil]; rfl, ?_⟩ | refine ⟨by push_cast; rfl, ?_⟩ | refine ⟨by (show some (Value.bool _) = some (Value.bool _); congr 2; all_goals ((first | rfl | (refine decide_eq_false ?_; rcases he with ⟨h1, h2⟩ | ⟨h1, h2⟩ <;> first | omega | simp_all) | (exfalso; rcases he with ⟨h1, h2⟩ | ⟨h1, h2⟩ <;> first | omega | simp_all)))), ?_⟩))
                · rfl
              · first | have hT5 := of_decide_eq_true hT5 | have hT5 := of_not_decide_true hT5 | skip
                refine Ls.ev (some 51) (Ev.fieldAddr (k := 2) (show Oper.op _ = Op.fieldAddr 59 (Operand.tmp 3) 2 from rfl) (by rfl) (by kernel_rfl) (by rfl)) (by rfl) (by rfl) ?_
                refine Ls.ev (some 52) (Ev.load 6 (show Oper.op _ = Op.load 3 (Operand.tmp 51) from rfl) (by rfl) (by rfl) (by kernel_rfl) (by rfl)) (by rfl) (by rfl) ?_
                refine Ls.ev (some 53) (Ev.lss (show Oper.op _ = Op.binOp BinOp.lss 3 (Operand.tmp 52) (Operand.const (Value.int IntKind.i64 0)) 3 from rfl) (by rfl) (by rfl)) (by rfl) (by rfl) ?_
                refine Ls.ev (some 54) (Ev.pickT (show Oper.op _ = Op.pick (Operand.tmp 50) (Operand.tmp 53) (Operand.const (Value.bool false)) from rfl) (by rfl) (by rfl)) (by rfl) (by rfl) ?_
                refine Ls.ev (some 55) (Ev.pickF (show Oper.op _ = Op.pick (Operand.tmp 47) (Operand.const (Value.bool true)) (Operand.tmp 54) from rfl) (by rfl) (by rfl)) (by rfl) (by rfl) ?_
                refine Ls.nil ?_
                refine Ent.inv () ?_ ?_ ?_
                · exact trivial
                · (repeat (first | exact trivial | refine ⟨by rfl, ?_⟩ | refine ⟨by simp only [List.length_append, List.length_cons, List.length_nil]; rfl, ?_⟩ | refine ⟨by push_cast; rfl, ?_⟩ | refine ⟨by (show some (Value.bool _) = some (Value.bool _); congr 2; all_goals ((first | rfl | (refine decide_eq_false ?_; rcases he with ⟨h1, h2⟩ | ⟨h1, h2⟩ <;> first | omega | simp_all) | (exfalso; rcases he with ⟨h1, h2⟩ | ⟨h1, h2⟩ <;> first | omega | simp_all)))), ?_⟩))
                · rfl
            · first | have hT4 := of_decide_eq_true hT4 | have hT4 := of_not_decide_true hT4 | skip
              refine Ls.pass (some 48) (by rfl) (by rfl) ?_
              refine Ls.pass (some 49) (by rfl) (by rfl) ?_
              refine Ls.pass (some 50) (by rfl) (by rfl) ?_
              refine Ls.pass (some 51) (by rfl) (by rfl) ?_
              refine Ls.pass (some 52) (by rfl) (by rfl) ?_
              refine Ls.pass (some 53) (by rfl) (by rfl) ?_
              refine Ls.pass (some 54) (by rfl) (by rfl) ?_
              refine Ls.ev (some 55) (Ev.pickT (show Oper.op _ = Op.pick (Operand.tmp 47) (Operand.const (Value.bool true)) (Operand.tmp 54) from rfl) (by rfl) (by rfl)) (by rfl) (by rfl) ?_
              refine Ls.nil ?_
              refine Ent.inv () ?_ ?_ ?_
              · exact trivial
              · (repeat (first | exact trivial | refine ⟨by rfl, ?_⟩ | refine ⟨by simp only [List.length_append, List.length_cons, List.length_nil]; rfl, ?_⟩ | refine ⟨by push_cast; rfl, ?_⟩ | refine ⟨by (show some (Value.bool _) = some (Value.bool _); congr 2; all_goals ((first | rfl | (refine decide_eq_false ?_; rcases he with ⟨h1, h2⟩ | ⟨h1, h2⟩ <;> first | omega | simp_all) | (exfalso; rcases he with ⟨h1, h2⟩ | ⟨h1, h2⟩ <;> first | omega | simp_all)))), ?_⟩))
              · rfl
        · first | have hT2 := of_decide_eq_true hT2 | have hT2 := of_not_decide_true hT2 | skip
          refine Ls.pass (some 41) (by rfl) (by rfl) ?_
          refine Ls.pass (some 42) (by rfl) (by rfl) ?_
          refine Ls.pass (some 43) (by rfl) (by rfl) ?_
          refine Ls.pass (some 44) (by rfl) (by rfl) ?_
          refine Ls.pass (some 45) (by rfl) (by rfl) ?_
          refine Ls.ev (some 46) (Ev.pickT (show Oper.op _ = Op.pick (Operand.tmp 40) (Operand.const (Value.bool true)) (Operand.tmp 45) from rfl) (by rfl) (by rfl)) (by rfl) (by rfl) ?_
          refine Ls.ev (some 47) (Ev.move (show Oper.op _ = Op.move (Operand.tmp 46) from rfl) (by rfl)) (by rfl) (by rfl) ?_
          refine Ls.pass (some 48) (by rfl) (by rfl) ?_
          refine Ls.pass (some 49) (by rfl) (by rfl) ?_
          refine Ls.pass (some 50) (by rfl) (by rfl) ?_
          refine Ls.pass (some 51) (by rfl) (by rfl) ?_
          refine Ls.pass (some 52) (by rfl) (by rfl) ?_
          refine Ls.pass (some 53) (by rfl) (by rfl) ?_
          refine Ls.pass (some 54) (by rfl) (by rfl) ?_
          refine Ls.ev (some 55) (Ev.pickT (show Oper.op _ = Op.pick (Operand.tmp 47) (Operand.const (Value.bool true)) (Operand.tmp 54) from rfl) (by rfl) (by rfl)) (by rfl) (by rfl) ?_
          refine Ls.nil ?_
          refine Ent.inv () ?_ ?_ ?_
          · exact trivial
          · (repeat (first | exact trivial | refine ⟨by rfl, ?_⟩ | refine ⟨by simp only [List.length_append, List.length_cons, List.length_nil]; rfl, ?_⟩ | refine ⟨by push_cast; rfl, ?_⟩ | refine ⟨by (show some (Value.bool _) = some (Value.bool _); congr 2; all_goals ((first | rfl | (refine decide_eq_false ?_; rcases he with ⟨h1, h2⟩ | ⟨h1, h2⟩ <;> first | omega | simp_all) | (exfalso; rcases he with ⟨h1, h2⟩ | ⟨h1, h2⟩ <;> first | omega | simp_all)))), ?_⟩))
          · rfl
    skip
    rintro _ -
    refine Cd.cond_false (by rfl) (rfl) ?_
    refine Cd.skip ?_
    refine Cd.seq ?_
    refine Cd.seq ?_
    refine Cd.region ?_
    refine Ls.ev (some 58) (Ev.move (show Oper.op _ = Op.move (Operand.tmp 9) from rfl) (by rfl)) (by rfl) (by rfl) ?_
    refine Ls.ev (some 59) (Ev.not (show Oper.op _ = Op.unOp UnOp.not 4 (Operand.tmp 58) from rfl) (by rfl)) (by rfl) (by rfl) ?_
    refine Ls.nil ?_
    refine Cd.cut (ι := Option Addr × Nat × List ByS) (fun p => [(0, ptrV g), (3, .pointer (some ⟨g1, 0, none⟩)), (7, .slice p.1 p.2.2.length p.2.1), (8, .int .i64 sf), (9, .bool db), (10, .int .i64 i), (12, .int .i64 e)]) (fun p => [payW p.1 p.2.1 p.2.2, payX p.2.2, lgB g D.d M1, E1.B, E1.M, E1.F, blk g1 59 [.slice (some ad) S.length pc, .int .i64 every, .int .i64 left, .slice kA ks.length kc], rdV (some ad) S, laidC, argc W]) (fun p => p.2.2.length ≤ i + 1 ∧ p.2.2.map ByS.l = if db = true then U.map ByS.l else U.map ByS.l ++ [cutP s.l]) ?_ ?_
    · skip
      cases db
      · skip
        refine Cd.cond_true (by rfl) (rfl) ?_
        refine Cd.region ?_
        refine Ls.ev (some 60) (Ev.move (show Oper.op _ = Op.move (Operand.tmp 7) from rfl) (by rfl)) (by rfl) (by rfl) ?_
        refine Ls.ev (some 61) (Ev.move (show Oper.op _ = Op.move (Operand.tmp 11) from rfl) (by rfl)) (by rfl) (by rfl) ?_
        refine Ls.does (some 62) (Does.lit (sz := 1) (show Oper.op _ = Op.buildSlice 22 1 #[(0, Operand.tmp 61)] from rfl) (by rfl) Tryz.underlying22 (by kernel_rfl) (by rfl) (by kernel_rfl)) (by rfl) (by rfl) ?_
        intro g2 _
        refine Ls.does (some 63) (Does.app (xs := U.map ByS.v) (news := [ByS.v ⟨rA, rc, cutP s.l⟩]) 6 (show Oper.op _ = Op.call { callee := Callee.builtin Builtin.append, args := #[Operand.tmp 60, Operand.tmp 62], argTypes := #[22, 22] } from rfl) (by rfl) (by rfl) (by rfl) (ReadsIn.row 0 (by rfl)) elem_pay (one_pay [⟨rA, rc, cutP s.l⟩]) (show (U.length + 1) * 24 ≤ 140737488355328 by omega)) (by rfl) (by rfl) ?_
        rintro ⟨xA, xc⟩ -
        dsimp only
        refine Ls.ev (some 7) (Ev.assign (show Oper.op _ = Op.assign (Operand.tmp 63) from rfl) (by rfl)) (by rfl) (by rfl) ?_
        refine Ls.nil ?_
        refine Ent.pick [5, 8, 6, 1, 2, 3, 4, 7, 9, 10, 11] (by rfl) ?_
        refine Ent.map (fun w hs => pay_new (z := ⟨rA, rc, cutP s.l⟩) (b := U) hs) ?_
        refine Ent.pick [1, 0, 2, 3, 4, 5, 6, 7, 8, 9] (by rfl) ?_
        refine Ent.inv ((xA, xc, U ++ [⟨rA, rc, cutP s.l⟩])) ?_ ?_ ?_
        · (try dsimp only); exact ⟨by rw [List.length_append, List.length_singleton]; omega, by rw [List.map_append]; rfl⟩
        · (repeat (first | exact trivial | refine ⟨by rfl, ?_⟩ | refine ⟨by simp only [List.length_append, List.length_cons, List.length_nil]; rfl, ?_⟩ | refine ⟨by push_cast; rfl, ?_⟩ | refine ⟨by (show some (Value.slice _ _ _) = some (Value.slice _ _ _); rw [List.length_append]; rfl), ?_⟩))
        · (show [_, _, _, _, _, _, _, _, _, _] = [_, _, _, _, _, _, _, _, _, _]; dsimp only [payW]; rw [List.length_append, List.map_append]; rfl)
      · skip
        refine Cd.cond_false (by rfl) (rfl) ?_
        refine Cd.skip ?_
        refine Ent.pick [5, 7, 0, 1, 2, 3, 6, 8, 9, 10] (by rfl) ?_
        refine Ent.inv ((dA, dc, U)) ?_ ?_ ?_
        · (try dsimp only); exact ⟨by omega, rfl⟩
        · (repeat (first | exact trivial | refine ⟨by rfl, ?_⟩ | refine ⟨by simp only [List.length_append, List.length_cons, List.length_nil]; rfl, ?_⟩ | refine ⟨by push_cast; rfl, ?_⟩))
        · rfl
    skip
    rintro ⟨xA, xc, V⟩ ⟨hVl, hV⟩
    dsimp only at hVl hV ⊢
    rw [← hV] at hF1
    refine Cd.seq ?_
    refine Cd.cut (ι := Unit) (fun _ => [(0, ptrV g), (3, .pointer (some ⟨g1, 0, none⟩)), (7, .slice xA V.length xc), (8, .int .i64 sf), (9, .bool M1.dead), (10, .int .i64 i)]) (fun _ => [payW xA xc V, payX V, lgB g D.d M1, E1.B, E1.M, E1.F, blk g1 59 [.slice (some ad) S.length pc, .int .i64 every, .int .i64 left, .slice kA ks.length kc], rdV (some ad) S, laidC, argc W]) (fun _ => True) ?_ ?_
    · skip
      refine Cd.region ?_
      refine Ls.ev (some 64) (Ev.move (show Oper.op _ = Op.move (Operand.tmp 9) from rfl) (by rfl)) (by rfl) (by rfl) ?_
      refine Ls.ev (some 65) (Ev.move (show Oper.op _ = Op.move (Operand.tmp 64) from rfl) (by rfl)) (by rfl) (by rfl) ?_
      refine Ent.split 65 (by rfl) (fun hT1 => ?_) (fun hT1 => ?_)
      · first | have hT1 := of_decide_eq_false hT1 | have hT1 := of_not_decide_false hT1 | skip
        refine Ls.ev (some 66) (Ev.move (show Oper.op _ = Op.move (Operand.tmp 12) from rfl) (by rfl)) (by rfl) (by rfl) ?_
        refine Ls.ev (some 67) (Ev.eql (show Oper.op _ = Op.binOp BinOp.eql 27 (Operand.tmp 66) (Operand.const (Value.int IntKind.i64 6)) 27 from rfl) (by rfl) (by rfl)) (by rfl) (by rfl) ?_
        refine Ls.ev (some 68) (Ev.pickF (show Oper.op _ = Op.pick (Operand.tmp 65) (Operand.const (Value.bool true)) (Operand.tmp 67) from rfl) (by rfl) (by rfl)) (by rfl) (by rfl) ?_
        refine Ls.ev (some 9) (Ev.assign (show Oper.op _ = Op.assign (Operand.tmp 68) from rfl) (by rfl)) (by rfl) (by rfl) ?_
        refine Ls.nil ?_
        refine Ent.inv () ?_ ?_ ?_
        · exact trivial
        · (repeat (first | exact trivial | refine ⟨by rfl, ?_⟩ | refine ⟨by simp only [List.length_append, List.length_cons, List.length_nil]; rfl, ?_⟩ | refine ⟨by push_cast; rfl, ?_⟩ | refine ⟨by (show some (Value.bool _) = some (Value.bool _); congr 2; all_goals ((rw [hM1]; first | rfl | simp_all))), ?_⟩))
        · rfl
      · first | have hT1 := of_decide_eq_true hT1 | have hT1 := of_not_decide_true hT1 | skip
        refine Ls.pass (some 66) (by rfl) (by rfl) ?_
        refine Ls.pass (some 67) (by rfl) (by rfl) ?_
        refine Ls.ev (some 68) (Ev.pickT (show Oper.op _ = Op.pick (Operand.tmp 65) (Operand.const (Value.bool true)) (Operand.tmp 67) from rfl) (by rfl) (by rfl)) (by rfl) (by rfl) ?_
        refine Ls.ev (some 9) (Ev.assign (show Oper.op _ = Op.assign (Operand.tmp 68) from rfl) (by rfl)) (by rfl) (by rfl) ?_
        refine Ls.nil ?_
        refine Ent.inv () ?_ ?_ ?_
        · exact trivial
        · (repeat (first | exact trivial | refine ⟨by rfl, ?_⟩ | refine ⟨by simp only [List.length_append, List.length_cons, List.length_nil]; rfl, ?_⟩ | refine ⟨by push_cast; rfl, ?_⟩ | refine ⟨by (show some (Value.bool _) = some (Value.bool _); congr 2; all_goals ((rw [hM1]; first | rfl | simp_all))), ?_⟩))
        · rfl
    skip
    rintro _ -
    refine Cd.seq ?_
    refine Cd.cut (ι := Unit) (fun _ => [(0, ptrV g), (3, .pointer (some ⟨g1, 0, none⟩)), (7, .slice xA V.length xc), (8, .int .i64 sf), (9, .bool M1.dead), (10, .int .i64 i), (78, .bool (decide (0 < every ∧ (i : Int) % every = 0)))]) (fun _ => [payW xA xc V, payX V, lgB g D.d M1, E1.B, E1.M, E1.F, blk g1 59 [.slice (some ad) S.length pc, .int .i64 every, .int .i64 left, .slice kA ks.length kc], rdV (some ad) S, laidC, argc W]) (fun _ => True) ?_ ?_
    · skip
      refine Cd.region ?_
      refine Ls.ev (some 69) (Ev.fieldAddr (k := 1) (show Oper.op _ = Op.fieldAddr 59 (Operand.tmp 3) 1 from rfl) (by rfl) (by kernel_rfl) (by rfl)) (by rfl) (by rfl) ?_
      refine Ls.ev (some 70) (Ev.load 6 (show Oper.op _ = Op.load 3 (Operand.tmp 69) from rfl) (by rfl) (by rfl) (by kernel_rfl) (by rfl)) (by rfl) (by rfl) ?_
      refine Ls.ev (some 71) (Ev.gtr (show Oper.op _ = Op.binOp BinOp.gtr 3 (Operand.tmp 70) (Operand.const (Value.int IntKind.i64 0)) 3 from rfl) (by rfl) (by rfl)) (by rfl) (by rfl) ?_
      refine Ls.ev (some 72) (Ev.move (show Oper.op _ = Op.move (Operand.tmp 71) from rfl) (by rfl)) (by rfl) (by rfl) ?_
      refine Ent.split 72 (by rfl) (fun hT1 => ?_) (fun hT1 => ?_)
      · first | have hT1 := of_decide_eq_false hT1 | have hT1 := of_not_decide_false hT1 | skip
        refine Ls.pass (some 73) (by rfl) (by rfl) ?_
        refine Ls.pass (some 74) (by rfl) (by rfl) ?_
        refine Ls.pass (some 75) (by rfl) (by rfl) ?_
        refine Ls.pass (some 76) (by rfl) (by rfl) ?_
        refine Ls.pass (some 77) (by rfl) (by rfl) ?_
        refine Ls.ev (some 78) (Ev.pickF (show Oper.op _ = Op.pick (Operand.tmp 72) (Operand.tmp 77) (Operand.const (Value.bool false)) from rfl) (by rfl) (by rfl)) (by rfl) (by rfl) ?_
        refine Ls.nil ?_
        refine Ent.inv () ?_ ?_ ?_
        · exact trivial
        · (repeat (first | exact trivial | refine ⟨by rfl, ?_⟩ | refine ⟨by simp only [List.length_append, List.length_cons, List.length_nil]; rfl, ?_⟩ | refine ⟨by push_cast; rfl, ?_⟩ | refine ⟨by (show some (Value.bool _) = some (Value.bool _); congr 2; all_goals ((first | (exact (decide_eq_false (fun h => absurd h.1 (by omega))).symm) | (exact decide_eq_decide.2 ⟨fun h => ⟨by omega, h⟩, fun h => h.2⟩)))), ?_⟩))
        · rfl
      · first | have hT1 := of_decide_eq_true hT1 | have hT1 := of_not_decide_true hT1 | skip
        refine Ls.ev (some 73) (Ev.move (show Oper.op _ = Op.move (Operand.tmp 10) from rfl) (by rfl)) (by rfl) (by rfl) ?_
        refine Ls.ev (some 74) (Ev.fieldAddr (k := 1) (show Oper.op _ = Op.fieldAddr 59 (Operand.tmp 3) 1 from rfl) (by rfl) (by kernel_rfl) (by rfl)) (by rfl) (by rfl) ?_
        refine Ls.ev (some 75) (Ev.load 6 (show Oper.op _ = Op.load 3 (Operand.tmp 74) from rfl) (by rfl) (by rfl) (by kernel_rfl) (by rfl)) (by rfl) (by rfl) ?_
        refine Ls.ev (some 76) (Ev.remI (show Oper.op _ = Op.binOp BinOp.rem 3 (Operand.tmp 73) (Operand.tmp 75) 3 from rfl) (by rfl) (by rfl) (by omega)) (by rfl) (by rfl) ?_
        refine Ls.ev (some 77) (Ev.eql (show Oper.op _ = Op.binOp BinOp.eql 3 (Operand.tmp 76) (Operand.const (Value.int IntKind.i64 0)) 3 from rfl) (by rfl) (by rfl)) (by rfl) (by rfl) ?_
        refine Ls.ev (some 78) (Ev.pickT (show Oper.op _ = Op.pick (Operand.tmp 72) (Operand.tmp 77) (Operand.const (Value.bool false)) from rfl) (by rfl) (by rfl)) (by rfl) (by rfl) ?_
        refine Ls.nil ?_
        refine Ent.inv () ?_ ?_ ?_
        · exact trivial
        · (repeat (first | exact trivial | refine ⟨by rfl, ?_⟩ | refine ⟨by simp only [List.length_append, List.length_cons, List.length_nil]; rfl, ?_⟩ | refine ⟨by push_cast; rfl, ?_⟩ | refine ⟨by (show some (Value.bool _) = some (Value.bool _); congr 2; all_goals ((first | (exact (decide_eq_false (fun h => absurd h.1 (by omega))).symm) | (exact decide_eq_decide.2 ⟨fun h => ⟨by omega, h⟩, fun h => h.2⟩)))), ?_⟩))
        · rfl
    skip
    rintro _ -
    by_cases hq : 0 < every ∧ (i : Int) % every = 0
    · skip
      refine Cd.cond_true (by rfl) (decide_eq_true hq) ?_
      have hsy := lsync_sl hE1 g M1 (by have := hF1.seg; omega)
      rw [hd1] at hsy
      refine Cd.seq ?_
      refine Cd.region ?_
      refine Ls.ev (some 79) (Ev.move (show Oper.op _ = Op.move (Operand.tmp 0) from rfl) (by rfl)) (by rfl) (by rfl) ?_
      refine Ls.does (some 80) (Does.call [2, 3, 4, 5, 8, 0, 1, 6, 7, 8, 9] (show Oper.op _ = Op.call { callee := Callee.value (Operand.func 54), args := #[Operand.tmp 79], argTypes := #[26] } from rfl) Tryz.func54 (by kernel_rfl) (by kernel_rfl) (hsy) (by rfl) (by rfl) (by rfl)) (by rfl) (by rfl) ?_
      rintro E2 ⟨hE2, hd2, -⟩
      have hstep : (((syncL Q1 M1).2.2 = 0 ∧ M1.dead = false) ∨ (syncL Q1 M1).2.2 = 6) ∧ (syncL Q1 M1).2.1.dead = (M1.dead || decide ((syncL Q1 M1).2.2 = 6)) ∧ LfI (syncL Q1 M1).1 (syncL Q1 M1).2.1 B s0 (0 ≤ left) (V.map ByS.l) (if (syncL Q1 M1).2.1.dead then sf else V.length) (i + 1) := by
        rcases hF1.sync (by omega) with ⟨a1, a2, a3, a4⟩ | ⟨a1, a2, a3⟩
        · refine ⟨.inl ⟨a1, a2⟩, by rw [a3, a2, a1]; rfl, ?_⟩
          rw [a3]
          rw [List.length_map] at a4
          exact a4
        · refine ⟨.inr a1, by rw [a2, a1]; simp, ?_⟩
          rw [a2]
          exact a3
      generalize syncL Q1 M1 = r at hE2 hstep ⊢
      obtain ⟨Q2, M2, e2⟩ := r
      dsimp only at hE2 hstep ⊢
      obtain ⟨he2, hM2, hF2⟩ := hstep
      obtain ⟨db1, hdb1⟩ : ∃ db1, db1 = M1.dead := ⟨_, rfl⟩
      rw [← hdb1] at he2 hM2 ⊢
      refine Ls.ev (some 12) (Ev.assign (show Oper.op _ = Op.assign (Operand.tmp 80) from rfl) (by rfl)) (by rfl) (by rfl) ?_
      refine Ls.nil ?_
      refine Cd.seq ?_
      refine Cd.seq ?_
      refine Cd.cut (ι := Unit) (fun _ => [(0, ptrV g), (3, .pointer (some ⟨g1, 0, none⟩)), (7, .slice xA V.length xc), (8, .int .i64 sf), (9, .bool db1), (10, .int .i64 i), (12, .int .i64 e2), (93, .bool false)]) (fun _ => [payW xA xc V, payX V, lgB g D.d M2, E2.B, E2.M, E2.F, blk g1 59 [.slice (some ad) S.length pc, .int .i64 every, .int .i64 left, .slice kA ks.length kc], rdV (some ad) S, laidC, argc W]) (fun _ => True) ?_ ?_
      · skip
        refine Cd.region ?_
        refine Ls.ev (some 81) (Ev.move (show Oper.op _ = Op.move (Operand.tmp 9) from rfl) (by rfl)) (by rfl) (by rfl) ?_
        refine Ls.ev (some 82) (Ev.move (show Oper.op _ = Op.move (Operand.tmp 81) from rfl) (by rfl)) (by rfl) (by rfl) ?_
        refine Ent.split 82 (by rfl) (fun hT1 => ?_) (fun hT1 => ?_)
        · first | have hT1 := of_decide_eq_false hT1 | have hT1 := of_not_decide_false hT1 | skip
          refine Ls.pass (some 83) (by rfl) (by rfl) ?_
          refine Ls.pass (some 84) (by rfl) (by rfl) ?_
          refine Ls.ev (some 85) (Ev.pickF (show Oper.op _ = Op.pick (Operand.tmp 82) (Operand.tmp 84) (Operand.const (Value.bool false)) from rfl) (by rfl) (by rfl)) (by rfl) (by rfl) ?_
          refine Ls.ev (some 86) (Ev.move (show Oper.op _ = Op.move (Operand.tmp 85) from rfl) (by rfl)) (by rfl) (by rfl) ?_
          refine Ls.ev (some 87) (Ev.move (show Oper.op _ = Op.move (Operand.tmp 12) from rfl) (by rfl)) (by rfl) (by rfl) ?_
          refine Ls.ev (some 88) (Ev.neq (show Oper.op _ = Op.binOp BinOp.neq 27 (Operand.tmp 87) (Operand.const (Value.int IntKind.i64 0)) 27 from rfl) (by rfl) (by rfl)) (by rfl) (by rfl) ?_
          refine Ls.ev (some 89) (Ev.move (show Oper.op _ = Op.move (Operand.tmp 88) from rfl) (by rfl)) (by rfl) (by rfl) ?_
          refine Ent.split 89 (by rfl) (fun hT2 => ?_) (fun hT2 => ?_)
          · first | have hT2 := of_decide_eq_false hT2 | have hT2 := of_not_decide_false hT2 | skip
            refine Ls.pass (some 90) (by rfl) (by rfl) ?_
            refine Ls.pass (some 91) (by rfl) (by rfl) ?_
            refine Ls.ev (some 92) (Ev.pickF (show Oper.op _ = Op.pick (Operand.tmp 89) (Operand.tmp 91) (Operand.const (Value.bool false)) from rfl) (by rfl) (by rfl)) (by rfl) (by rfl) ?_
            refine Ls.ev (some 93) (Ev.pickF (show Oper.op _ = Op.pick (Operand.tmp 86) (Operand.const (Value.bool true)) (Operand.tmp 92) from rfl) (by rfl) (by rfl)) (by rfl) (by rfl) ?_
            refine Ls.nil ?_
            refine Ent.pick [4, 5, 0, 1, 2, 3, 6, 7, 8, 9] (by rfl) ?_
            refine Ent.inv () ?_ ?_ ?_
            · exact trivial
            · (repeat (first | exact trivial | refine ⟨by rfl, ?_⟩ | refine ⟨by simp only [List.length_append, List.length_cons, List.length_nil]; rfl, ?_⟩ | refine ⟨by push_cast; rfl, ?_⟩ | refine ⟨by (show some (Value.bool _) = some (Value.bool _); congr 2; all_goals ((first | rfl | (refine decide_eq_false ?_; rcases he2 with ⟨h1, h2⟩ | h1 <;> first | omega | simp_all) | (exfalso; rcases he2 with ⟨h1, h2⟩ | h1 <;> first | omega | simp_all)))), ?_⟩))
            · rfl
          · first | have hT2 := of_decide_eq_true hT2 | have hT2 := of_not_decide_true hT2 | skip
            refine Ls.ev (some 90) (Ev.move (show Oper.op _ = Op.move (Operand.tmp 12) from rfl) (by rfl)) (by rfl) (by rfl) ?_
            refine Ls.ev (some 91) (Ev.neq (show Oper.op _ = Op.binOp BinOp.neq 27 (Operand.tmp 90) (Operand.const (Value.int IntKind.i64 6)) 27 from rfl) (by rfl) (by rfl)) (by rfl) (by rfl) ?_
            refine Ls.ev (some 92) (Ev.pickT (show Oper.op _ = Op.pick (Operand.tmp 89) (Operand.tmp 91) (Operand.const (Value.bool false)) from rfl) (by rfl) (by rfl)) (by rfl) (by rfl) ?_
            refine Ls.ev (some 93) (Ev.pickF (show Oper.op _ = Op.pick (Operand.tmp 86) (Operand.const (Value.bool true)) (Operand.tmp 92) from rfl) (by rfl) (by rfl)) (by rfl) (by rfl) ?_
            refine Ls.nil ?_
            refine Ent.pick [4, 5, 0, 1, 2, 3, 6, 7, 8, 9] (by rfl) ?_
            refine Ent.inv () ?_ ?_ ?_
            · exact trivial
            · (repeat (first | exact trivial | refine ⟨by rfl, ?_⟩ | refine ⟨by simp only [List.length_append, List.length_cons, List.length_nil]; rfl, ?_⟩ | refine ⟨by push_cast; rfl, ?_⟩ | refine ⟨by (show some (Value.bool _) = some (Value.bool _); congr 2; all_goals ((first | rfl | (refine decide_eq_false ?_; rcases he2 with ⟨h1, h2⟩ | h1 <;> first | omega | simp_all) | (exfalso; rcases he2 with ⟨h1, h2⟩ | h1 <;> first | omega | simp_all)))), ?_⟩))
            · rfl
        · first | have hT1 := of_decide_eq_true hT1 | have hT1 := of_not_decide_true hT1 | skip
          refine Ls.ev (some 83) (Ev.move (show Oper.op _ = Op.move (Operand.tmp 12) from rfl) (by rfl)) (by rfl) (by rfl) ?_
          refine Ls.ev (some 84) (Ev.neq (show Oper.op _ = Op.binOp BinOp.neq 27 (Operand.tmp 83) (Operand.const (Value.int IntKind.i64 6)) 27 from rfl) (by rfl) (by rfl)) (by rfl) (by rfl) ?_
          refine Ls.ev (some 85) (Ev.pickT (show Oper.op _ = Op.pick (Operand.tmp 82) (Operand.tmp 84) (Operand.const (Value.bool false)) from rfl) (by rfl) (by rfl)) (by rfl) (by rfl) ?_
          refine Ls.ev (some 86) (Ev.move (show Oper.op _ = Op.move (Operand.tmp 85) from rfl) (by rfl)) (by rfl) (by rfl) ?_
          refine Ent.split 86 (by rfl) (fun hT2 => ?_) (fun hT2 => ?_)
          · first | have hT2 := of_decide_eq_false hT2 | have hT2 := of_not_decide_false hT2 | skip
            refine Ls.ev (some 87) (Ev.move (show Oper.op _ = Op.move (Operand.tmp 12) from rfl) (by rfl)) (by rfl) (by rfl) ?_
            refine Ls.ev (some 88) (Ev.neq (show Oper.op _ = Op.binOp BinOp.neq 27 (Operand.tmp 87) (Operand.const (Value.int IntKind.i64 0)) 27 from rfl) (by rfl) (by rfl)) (by rfl) (by rfl) ?_
            refine Ls.ev (some 89) (Ev.move (show Oper.op _ = Op.move (Operand.tmp 88) from rfl) (by rfl)) (by rfl) (by rfl) ?_
            refine Ent.split 89 (by rfl) (fun hT3 => ?_) (fun hT3 => ?_)
            · first | have hT3 := of_decide_eq_false hT3 | have hT3 := of_not_decide_false hT3 | skip
              refine Ls.pass (some 90) (by rfl) (by rfl) ?_
              refine Ls.pass (some 91) (by rfl) (by rfl) ?_
              refine Ls.ev (some 92) (Ev.pickF (show Oper.op _ = Op.pick (Operand.tmp 89) (Operand.tmp 91) (Operand.const (Value.bool false)) from rfl) (by rfl) (by rfl)) (by rfl) (by rfl) ?_
              refine Ls.ev (some 93) (Ev.pickF (show Oper.op _ = Op.pick (Operand.tmp 86) (Operand.const (Value.bool true)) (Operand.tmp 92) from rfl) (by rfl) (by rfl)) (by rfl) (by rfl) ?_
              refine Ls.nil ?_
              refine Ent.pick [4, 5, 0, 1, 2, 3, 6, 7, 8, 9] (by rfl) ?_
              refine Ent.inv () ?_ ?_ ?_
              · exact trivial
              · (repeat (first | exact trivial | refine ⟨by rfl, ?_⟩ | refine ⟨by simp only [List.length_append, List.length_cons, List.length_nil]; rfl, ?_⟩ | refine ⟨by push_cast; rfl, ?_⟩ | refine ⟨by (show some (Value.bool _) = some (Value.bool _); congr 2; all_goals ((first | rfl | (refine decide_eq_false ?_; rcases he2 with ⟨h1, h2⟩ | h1 <;> first | omega | simp_all) | (exfalso; rcases he2 with ⟨h1, h2⟩ | h1 <;> first | omega | simp_all)))), ?_⟩))
              · rfl
            · first | have hT3 := of_decide_eq_true hT3 | have hT3 := of_not_decide_true hT3 | skip
              refine Ls.ev (some 90) (Ev.move (show Oper.op _ = Op.move (Operand.tmp 12) from rfl) (by rfl)) (by rfl) (by rfl) ?_
              refine Ls.ev (some 91) (Ev.neq (show Oper.op _ = Op.binOp BinOp.neq 27 (Operand.tmp 90) (Operand.const (Value.int IntKind.i64 6)) 27 from rfl) (by rfl) (by rfl)) (by rfl) (by rfl) ?_
              refine Ls.ev (some 92) (Ev.pickT (show Oper.op _ = Op.pick (Operand.tmp 89) (Operand.tmp 91) (Operand.const (Value.bool false)) from rfl) (by rfl) (by rfl)) (by rfl) (by rfl) ?_
              refine Ls.ev (some 93) (Ev.pickF (show Oper.op _ = Op.pick (Operand.tmp 86) (Operand.const (Value.bool true)) (Operand.tmp 92) from rfl) (by rfl) (by rfl)) (by rfl) (by rfl) ?_
              refine Ls.nil ?_
              refine Ent.pick [4, 5, 0, 1, 2, 3, 6, 7, 8, 9] (by rfl) ?_
              refine Ent.inv () ?_ ?_ ?_
              · exact trivial
              · (repeat (first | exact trivial | refine ⟨by rfl, ?_⟩ | refine ⟨by simp only [List.length_append, List.length_cons, List.length_nil]; rfl, ?_⟩ | refine ⟨by push_cast; rfl, ?_⟩ | refine ⟨by (show some (Value.bool _) = some (Value.bool _); congr 2; all_goals ((first | rfl | (refine decide_eq_false ?_; rcases he2 with ⟨h1, h2⟩ | h1 <;> first | omega | simp_all) | (exfalso; rcases he2 with ⟨h1, h2⟩ | h1 <;> first | omega | simp_all)))), ?_⟩))
              · rfl
          · first | have hT2 := of_decide_eq_true hT2 | have hT2 := of_not_decide_true hT2 | skip
            refine Ls.pass (some 87) (by rfl) (by rfl) ?_
            refine Ls.pass (some 88) (by rfl) (by rfl) ?_
            refine Ls.pass (some 89) (by rfl) (by rfl) ?_
            refine Ls.pass (some 90) (by rfl) (by rfl) ?_
            refine Ls.pass (some 91) (by rfl) (by rfl) ?_
            refine Ls.pass (some 92) (by rfl) (by rfl) ?_
            refine Ls.ev (some 93) (Ev.pickT (show Oper.op _ = Op.pick (Operand.tmp 86) (Operand.const (Value.bool true)) (Operand.tmp 92) from rfl) (by rfl) (by rfl)) (by rfl) (by rfl) ?_
            refine Ls.nil ?_
            refine Ent.pick [4, 5, 0, 1, 2, 3, 6, 7, 8, 9] (by rfl) ?_
            refine Ent.inv () ?_ ?_ ?_
            · exact trivial
            · (repeat (first | exact trivial | refine ⟨by rfl, ?_⟩ | refine ⟨by simp only [List.length_append, List.length_cons, List.length_nil]; rfl, ?_⟩ | refine ⟨by push_cast; rfl, ?_⟩ | refine ⟨by (show some (Value.bool _) = some (Value.bool _); congr 2; all_goals ((first | rfl | (refine decide_eq_false ?_; rcases he2 with ⟨h1, h2⟩ | h1 <;> first | omega | simp_all) | (exfalso; rcases he2 with ⟨h1, h2⟩ | h1 <;> first | omega | simp_all)))), ?_⟩))
            · rfl
      skip
      rintro _ -
      refine Cd.cond_false (by rfl) (rfl) ?_
      refine Cd.skip ?_
      refine Cd.seq ?_
      refine Cd.cut (ι := Unit) (fun _ => [(0, ptrV g), (3, .pointer (some ⟨g1, 0, none⟩)), (7, .slice xA V.length xc), (8, .int .i64 sf), (9, .bool M2.dead), (10, .int .i64 i)]) (fun _ => [payW xA xc V, payX V, lgB g D.d M2, E2.B, E2.M, E2.F, blk g1 59 [.slice (some ad) S.length pc, .int .i64 every, .int .i64 left, .slice kA ks.length kc], rdV (some ad) S, laidC, argc W]) (fun _ => True) ?_ ?_
      · skip
        refine Cd.region ?_
        refine Ls.ev (some 96) (Ev.move (show Oper.op _ = Op.move (Operand.tmp 9) from rfl) (by rfl)) (by rfl) (by rfl) ?_
        refine Ls.ev (some 97) (Ev.move (show Oper.op _ = Op.move (Operand.tmp 96) from rfl) (by rfl)) (by rfl) (by rfl) ?_
        refine Ent.split 97 (by rfl) (fun hT1 => ?_) (fun hT1 => ?_)
        · first | have hT1 := of_decide_eq_false hT1 | have hT1 := of_not_decide_false hT1 | skip
          refine Ls.ev (some 98) (Ev.move (show Oper.op _ = Op.move (Operand.tmp 12) from rfl) (by rfl)) (by rfl) (by rfl) ?_
          refine Ls.ev (some 99) (Ev.eql (show Oper.op _ = Op.binOp BinOp.eql 27 (Operand.tmp 98) (Operand.const (Value.int IntKind.i64 6)) 27 from rfl) (by rfl) (by rfl)) (by rfl) (by rfl) ?_
          refine Ls.ev (some 100) (Ev.pickF (show Oper.op _ = Op.pick (Operand.tmp 97) (Operand.const (Value.bool true)) (Operand.tmp 99) from rfl) (by rfl) (by rfl)) (by rfl) (by rfl) ?_
          refine Ls.ev (some 9) (Ev.assign (show Oper.op _ = Op.assign (Operand.tmp 100) from rfl) (by rfl)) (by rfl) (by rfl) ?_
          refine Ls.nil ?_
          refine Ent.inv () ?_ ?_ ?_
          · exact trivial
          · (repeat (first | exact trivial | refine ⟨by rfl, ?_⟩ | refine ⟨by simp only [List.length_append, List.length_cons, List.length_nil]; rfl, ?_⟩ | refine ⟨by push_cast; rfl, ?_⟩ | refine ⟨by (show some (Value.bool _) = some (Value.bool _); congr 2; all_goals ((rw [hM2]; first | rfl | simp_all))), ?_⟩))
          · rfl
        · first | have hT1 := of_decide_eq_true hT1 | have hT1 := of_not_decide_true hT1 | skip
          refine Ls.pass (some 98) (by rfl) (by rfl) ?_
          refine Ls.pass (some 99) (by rfl) (by rfl) ?_
          refine Ls.ev (some 100) (Ev.pickT (show Oper.op _ = Op.pick (Operand.tmp 97) (Operand.const (Value.bool true)) (Operand.tmp 99) from rfl) (by rfl) (by rfl)) (by rfl) (by rfl) ?_
          refine Ls.ev (some 9) (Ev.assign (show Oper.op _ = Op.assign (Operand.tmp 100) from rfl) (by rfl)) (by rfl) (by rfl) ?_
          refine Ls.nil ?_
          refine Ent.inv () ?_ ?_ ?_
          · exact trivial
          · (repeat (first | exact trivial | refine ⟨by rfl, ?_⟩ | refine ⟨by simp only [List.length_append, List.length_cons, List.length_nil]; rfl, ?_⟩ | refine ⟨by push_cast; rfl, ?_⟩ | refine ⟨by (show some (Value.bool _) = some (Value.bool _); congr 2; all_goals ((rw [hM2]; first | rfl | simp_all))), ?_⟩))
          · rfl
      skip
      rintro _ -
      refine Cd.seq ?_
      refine Cd.region ?_
      refine Ls.ev (some 101) (Ev.move (show Oper.op _ = Op.move (Operand.tmp 9) from rfl) (by rfl)) (by rfl) (by rfl) ?_
      refine Ls.ev (some 102) (Ev.not (show Oper.op _ = Op.unOp UnOp.not 4 (Operand.tmp 101) from rfl) (by rfl)) (by rfl) (by rfl) ?_
      refine Ls.nil ?_
      by_cases hdd : M2.dead = true
      rotate_left
      · have hdd : M2.dead = false := Bool.eq_false_iff.2 hdd
        rw [hdd] at hF2
        skip
        refine Cd.cond_true (by rfl) ((by rw [hdd]; rfl)) ?_
        refine Cd.region ?_
        refine Ls.ev (some 103) (Ev.move (show Oper.op _ = Op.move (Operand.tmp 7) from rfl) (by rfl)) (by rfl) (by rfl) ?_
        refine Ls.ev (some 104) (Ev.len (show Oper.op _ = Op.call { callee := Callee.builtin Builtin.len, args := #[Operand.tmp 103], argTypes := #[22] } from rfl) (by rfl) Tryz.underlying22) (by rfl) (by rfl) ?_
        refine Ls.ev (some 8) (Ev.assign (show Oper.op _ = Op.assign (Operand.tmp 104) from rfl) (by rfl)) (by rfl) (by rfl) ?_
        refine Ls.nil ?_
        refine Cd.region ?_
        refine Ls.ev (some 22) (Ev.move (show Oper.op _ = Op.move (Operand.tmp 10) from rfl) (by rfl)) (by rfl) (by rfl) ?_
        refine Ls.ev (some 23) (Ev.addI (show Oper.op _ = Op.binOp BinOp.add 3 (Operand.tmp 22) (Operand.const (Value.int IntKind.i64 1)) 3 from rfl) (by rfl) (by rfl) (by omega)) (by rfl) (by rfl) ?_
        refine Ls.ev (some 10) (Ev.assign (show Oper.op _ = Op.assign (Operand.tmp 23) from rfl) (by rfl)) (by rfl) (by rfl) ?_
        refine Ls.nil ?_
        refine Ent.inv ((i + 1, (xA, xc, V), V.length, E2, Q2, M2)) ?_ ?_ ?_
        · (try dsimp only); exact ⟨⟨hlt, hVl, hE2, hd2, hF2⟩, by omega⟩
        · (repeat (first | exact trivial | refine ⟨by rfl, ?_⟩ | refine ⟨by simp only [List.length_append, List.length_cons, List.length_nil]; rfl, ?_⟩ | refine ⟨by push_cast; rfl, ?_⟩))
        · rfl
      · rw [hdd] at hF2
        skip
        refine Cd.cond_false (by rfl) ((by rw [hdd]; rfl)) ?_
        refine Cd.skip ?_
        refine Cd.region ?_
        refine Ls.ev (some 22) (Ev.move (show Oper.op _ = Op.move (Operand.tmp 10) from rfl) (by rfl)) (by rfl) (by rfl) ?_
        refine Ls.ev (some 23) (Ev.addI (show Oper.op _ = Op.binOp BinOp.add 3 (Operand.tmp 22) (Operand.const (Value.int IntKind.i64 1)) 3 from rfl) (by rfl) (by rfl) (by omega)) (by rfl) (by rfl) ?_
        refine Ls.ev (some 10) (Ev.assign (show Oper.op _ = Op.assign (Operand.tmp 23) from rfl) (by rfl)) (by rfl) (by rfl) ?_
        refine Ls.nil ?_
        refine Ent.inv ((i + 1, (xA, xc, V), sf, E2, Q2, M2)) ?_ ?_ ?_
        · (try dsimp only); exact ⟨⟨hlt, hVl, hE2, hd2, hF2⟩, by omega⟩
        · (repeat (first | exact trivial | refine ⟨by rfl, ?_⟩ | refine ⟨by simp only [List.length_append, List.length_cons, List.length_nil]; rfl, ?_⟩ | refine ⟨by push_cast; rfl, ?_⟩))
        · rfl
    · skip
      refine Cd.cond_false (by rfl) (decide_eq_false hq) ?_
      refine Cd.skip ?_
      refine Cd.region ?_
      refine Ls.ev (some 22) (Ev.move (show Oper.op _ = Op.move (Operand.tmp 10) from rfl) (by rfl)) (by rfl) (by rfl) ?_
      refine Ls.ev (some 23) (Ev.addI (show Oper.op _ = Op.binOp BinOp.add 3 (Operand.tmp 22) (Operand.const (Value.int IntKind.i64 1)) 3 from rfl) (by rfl) (by rfl) (by omega)) (by rfl) (by rfl) ?_
      refine Ls.ev (some 10) (Ev.assign (show Oper.op _ = Op.assign (Operand.tmp 23) from rfl) (by rfl)) (by rfl) (by rfl) ?_
      refine Ls.nil ?_
      refine Ent.inv ((i + 1, (xA, xc, V), sf, E1, Q1, M1)) ?_ ?_ ?_
      · (try dsimp only); exact ⟨⟨hlt, hVl, hE1, hd1, hF1⟩, by omega⟩
      · (repeat (first | exact trivial | refine ⟨by rfl, ?_⟩ | refine ⟨by simp only [List.length_append, List.length_cons, List.length_nil]; rfl, ?_⟩ | refine ⟨by push_cast; rfl, ?_⟩))
      · rfl
  · skip
    refine Cd.exit ?_
    refine Cd.seq ?_
    refine Cd.region ?_
    refine Ls.ev (some 105) (Ev.move (show Oper.op _ = Op.move (Operand.tmp 7) from rfl) (by rfl)) (by rfl) (by rfl) ?_
    refine Ls.ev (some 106) (Ev.move (show Oper.op _ = Op.move (Operand.tmp 8) from rfl) (by rfl)) (by rfl) (by rfl) ?_
    refine Ls.ev (some 4) (Ev.assign (show Oper.op _ = Op.assign (Operand.tmp 105) from rfl) (by rfl)) (by rfl) (by rfl) ?_
    refine Ls.ev (some 5) (Ev.assign (show Oper.op _ = Op.assign (Operand.tmp 106) from rfl) (by rfl)) (by rfl) (by rfl) ?_
    refine Ls.ev (some 6) (Ev.assign (show Oper.op _ = Op.assign (Operand.const (Value.bool true)) from rfl) (by rfl)) (by rfl) (by rfl) ?_
    refine Ls.nil ?_
    refine Cd.ret ?_
    refine Ent.ret ((E, (dA, dc, U), sf)) (⟨hEd, by show U.length ≤ 20; omega, Q, M, i, by omega, hE, hF⟩) (Res.tmp3 (by rfl) (by rfl) (by rfl) (by rfl)) ?_ [3, 4, 5, 0, 1] (by rfl) ?_
    · rfl
    · rfl
end Go.Proofs.YtceanciekadkeaaGreatDoor
/- WalCrashes: what is left -/
namespace Go.Proofs.YtceanciekadkeaaGreatDoor
open Go.RowKit
section
variable {Γ : Ctx} {H : List Chunk} {A : Option Addr} {S : List ByS}
theorem rdTake (i k : Nat) (hi : H[i]? = some (rdV A S)) (hk : k ≤ S.length) : ∀ w, Sat Γ H w → (rdV A (S.take k)).holds w := fun w hs => by
  have h : Reads w w.heap.size 1 A S.length (S.map ByS.v) := hs.mem hi
  have := h.take (k := k) hk
  rw [Nat.mul_one, ← List.map_take] at this
  show Reads w w.heap.size 1 A (S.take k).length ((S.take k).map ByS.v)
  rwa [show (S.take k).length = k by rw [List.length_take]; omega]
theorem paySub {T : List ByS} (i : Nat) (hi : H[i]? = some (payR S)) (hT : ∀ s ∈ T, s ∈ S) : ∀ w, Sat Γ H w → (payR T).holds w := fun w hs C hC => by
  obtain ⟨s, hsm, rfl⟩ := List.mem_map.1 hC
  exact (hs.mem hi : (payR S).holds w) _ (List.mem_map_of_mem (hT s hsm))
end
theorem left_sl (pA fA dA : Option Addr) (pc fc dc : Nat) (S F Dn : List ByS) (safe : Nat) (hp : S.length ≤ pc) (hd : Dn.length ≤ dc) (hF : F.length ≤ 17592186044415) (hS : S.length ≤ 17592186044415) (q : List (List UInt8)) (hq : S.map ByS.l = F.map ByS.l ++ q) (hpre : q <+: Dn.map ByS.l) (hs : safe ≤ q.length) :
    Fn Tryz.prog 24 #[.slice pA S.length pc, .slice fA F.length fc, .slice dA Dn.length dc, .int .i64 safe] [rdV pA S, payR S, rdV fA F, payR F, rdV dA Dn, payR Dn] Unit (fun _ => .bool true) (fun _ => []) (fun _ => True) := by
  have hl : S.length = F.length + q.length := by
    have := congrArg List.length hq
    rwa [List.length_map, List.length_append, List.length_map] at this
  have hql : q.length ≤ Dn.length := by
    have := hpre.length_le
    rwa [List.length_map] at this
  have ht1 : (S.take F.length).length = F.length := by rw [List.length_take]; omega
  have ht2 : (S.drop F.length).length = S.length - F.length := List.length_drop
  have ht3 : (Dn.take q.length).length = q.length := by rw [List.length_take]; omega
  have e1 : (S.take F.length).map ByS.l = F.map ByS.l := by
    rw [List.map_take, hq, List.take_append_of_le_length (by rw [List.length_map]; omega), List.take_of_length_le (by rw [List.length_map]; omega)]
  have e2 : (S.drop F.length).map ByS.l = (Dn.take q.length).map ByS.l := by
    rw [List.map_drop, hq, List.drop_append, List.drop_of_length_le (by rw [List.length_map]; omega), List.length_map, Nat.sub_self, List.drop_zero, List.nil_append, List.map_take]
    exact (List.prefix_iff_eq_take.1 hpre)
  have hs1 := same_sl pA fA pc fc (S.take F.length) F (by omega) hF
  rw [ht1, e1] at hs1
  have hs2 := same_sl (cutA pA pc F.length 1) dA (pc - F.length) dc (S.drop F.length) (Dn.take q.length) (by omega) (by omega)
  rw [ht2, ht3, e2] at hs2
  have hnq : S.length - F.length = q.length := by omega
  refine Fn.enter Tryz.func24 rfl Tryz.ntmps24 (by rfl) ?_
  intro w0
  refine Ent.map (fun w hs => Sat.cut 0 F.length S.length pc (by rfl) (by omega) (Nat.le_refl _) hp hs) ?_
  rw [show (rd (cutA pA pc F.length 1) (S.length - F.length) 1 (((S.map ByS.v).drop (F.length * 1)).take ((S.length - F.length) * 1))) = rdV (cutA pA pc F.length 1) (S.drop F.length) by
    dsimp only [rdV]
    rw [ht2, Nat.mul_one, Nat.mul_one, List.map_drop, List.take_of_length_le (by rw [List.length_drop, List.length_map]; omega)]]
  skip
  refine Cd.seq ?_
  refine Cd.region ?_
  refine Ls.ev (some 8) (Ev.assign (show Oper.op _ = Op.assign (Operand.const (Value.bool false)) from rfl) (by rfl)) (by rfl) (by rfl) ?_
  refine Ls.nil ?_
  refine Cd.seq ?_
  refine Cd.region ?_
  refine Ls.ev (some 10) (Ev.move (show Oper.op _ = Op.move (Operand.tmp 0) from rfl) (by rfl)) (by rfl) (by rfl) ?_
  refine Ls.ev (some 11) (Ev.len (show Oper.op _ = Op.call { callee := Callee.builtin Builtin.len, args := #[Operand.tmp 10], argTypes := #[22] } from rfl) (by rfl) Tryz.underlying22) (by rfl) (by rfl) ?_
  refine Ls.ev (some 12) (Ev.move (show Oper.op _ = Op.move (Operand.tmp 1) from rfl) (by rfl)) (by rfl) (by rfl) ?_
  refine Ls.ev (some 13) (Ev.len (show Oper.op _ = Op.call { callee := Callee.builtin Builtin.len, args := #[Operand.tmp 12], argTypes := #[22] } from rfl) (by rfl) Tryz.underlying22) (by rfl) (by rfl) ?_
  refine Ls.ev (some 14) (Ev.subN (show Oper.op _ = Op.binOp BinOp.sub 3 (Operand.tmp 11) (Operand.tmp 13) 3 from rfl) (by rfl) (by rfl) (by omega)) (by rfl) (by rfl) ?_
  refine Ls.ev (some 9) (Ev.assign (show Oper.op _ = Op.assign (Operand.tmp 14) from rfl) (by rfl)) (by rfl) (by rfl) ?_
  refine Ls.nil ?_
  refine Cd.seq ?_
  refine Cd.draw [] (by kernel_rfl) ?_
  refine Rg.ev 0 (by rfl) (fun _ h => h) (Ev.move (show Oper.op _ = Op.move (Operand.tmp 9) from rfl) (by rfl)) (by rfl) (some 15) (by rfl) (by kernel_rfl) (by kernel_rfl) (by kernel_rfl) (by kernel_rfl) ?_
  refine Rg.ev 1 (by rfl) (fun _ h => h) (Ev.move (show Oper.op _ = Op.move (Operand.tmp 3) from rfl) (by rfl)) (by rfl) (some 16) (by rfl) (by kernel_rfl) (by kernel_rfl) (by kernel_rfl) (by kernel_rfl) ?_
  refine Rg.ev 2 (by rfl) (fun _ h => h) (Ev.geq (show Oper.op _ = Op.binOp BinOp.geq 3 (Operand.tmp 15) (Operand.tmp 16) 3 from rfl) (by rfl) (by rfl)) (by rfl) (some 17) (by rfl) (by kernel_rfl) (by kernel_rfl) (by kernel_rfl) (by kernel_rfl) ?_
  refine Rg.ev 3 (by rfl) (fun _ h => h) (Ev.move (show Oper.op _ = Op.move (Operand.tmp 17) from rfl) (by rfl)) (by rfl) (some 18) (by rfl) (by kernel_rfl) (by kernel_rfl) (by kernel_rfl) (by kernel_rfl) ?_
  refine Ent.known 18 true (by rfl) (by exact (decide_eq_true (by omega))) ?_
  refine Rg.ev 4 (by rfl) (fun _ h => h) (Ev.move (show Oper.op _ = Op.move (Operand.tmp 9) from rfl) (by rfl)) (by rfl) (some 19) (by rfl) (by kernel_rfl) (by kernel_rfl) (by kernel_rfl) (by kernel_rfl) ?_
  refine Rg.ev 5 (by rfl) (fun _ h => h) (Ev.move (show Oper.op _ = Op.move (Operand.tmp 2) from rfl) (by rfl)) (by rfl) (some 20) (by rfl) (by kernel_rfl) (by kernel_rfl) (by kernel_rfl) (by kernel_rfl) ?_
  refine Rg.ev 6 (by rfl) (fun _ h => h) (Ev.len (show Oper.op _ = Op.call { callee := Callee.builtin Builtin.len, args := #[Operand.tmp 20], argTypes := #[22] } from rfl) (by rfl) Tryz.underlying22) (by rfl) (some 21) (by rfl) (by kernel_rfl) (by kernel_rfl) (by kernel_rfl) (by kernel_rfl) ?_
  refine Rg.ev 7 (by rfl) (fun _ h => h) (Ev.leq (show Oper.op _ = Op.binOp BinOp.leq 3 (Operand.tmp 19) (Operand.tmp 21) 3 from rfl) (by rfl) (by rfl)) (by rfl) (some 22) (by rfl) (by kernel_rfl) (by kernel_rfl) (by kernel_rfl) (by kernel_rfl) ?_
  refine Rg.ev 8 (by rfl) (fun _ h => h) (Ev.pickT (show Oper.op _ = Op.pick (Operand.tmp 18) (Operand.tmp 22) (Operand.const (Value.bool false)) from rfl) (by rfl) (by rfl)) (by rfl) (some 23) (by rfl) (by kernel_rfl) (by kernel_rfl) (by kernel_rfl) (by kernel_rfl) ?_
  refine Rg.ev 9 (by rfl) (fun _ h => h) (Ev.move (show Oper.op _ = Op.move (Operand.tmp 23) from rfl) (by rfl)) (by rfl) (some 24) (by rfl) (by kernel_rfl) (by kernel_rfl) (by kernel_rfl) (by kernel_rfl) ?_
  refine Ent.known 24 true (by rfl) (by exact (decide_eq_true (by omega))) ?_
  refine Rg.ev 10 (by rfl) (fun _ h => h) (Ev.move (show Oper.op _ = Op.move (Operand.tmp 0) from rfl) (by rfl)) (by rfl) (some 25) (by rfl) (by kernel_rfl) (by kernel_rfl) (by kernel_rfl) (by kernel_rfl) ?_
  refine Rg.ev 11 (by rfl) (fun _ h => h) (Ev.move (show Oper.op _ = Op.move (Operand.tmp 1) from rfl) (by rfl)) (by rfl) (some 26) (by rfl) (by kernel_rfl) (by kernel_rfl) (by kernel_rfl) (by kernel_rfl) ?_
  refine Rg.ev 12 (by rfl) (fun _ h => h) (Ev.len (show Oper.op _ = Op.call { callee := Callee.builtin Builtin.len, args := #[Operand.tmp 26], argTypes := #[22] } from rfl) (by rfl) Tryz.underlying22) (by rfl) (some 27) (by rfl) (by kernel_rfl) (by kernel_rfl) (by kernel_rfl) (by kernel_rfl) ?_
  refine Rg.ev 13 (by rfl) (fun _ h => h) (Ev.sliceHn (sz := 1) (show Oper.op _ = Op.slice 22 (Operand.tmp 25) none (some (Operand.tmp 27)) none from rfl) (by rfl) (by rfl) Tryz.underlying22 (by kernel_rfl) (by omega)) (by rfl) (some 28) (by rfl) (by kernel_rfl) (by kernel_rfl) (by kernel_rfl) (by kernel_rfl) ?_
  refine Rg.ev 14 (by rfl) (fun _ h => h) (Ev.move (show Oper.op _ = Op.move (Operand.tmp 1) from rfl) (by rfl)) (by rfl) (some 29) (by rfl) (by kernel_rfl) (by kernel_rfl) (by kernel_rfl) (by kernel_rfl) ?_
  refine Rg.does 15 (by rfl) (by kernel_rfl) (Does.read (show Oper.op _ = Op.call { callee := Callee.value (Operand.func 12), args := #[Operand.tmp 28, Operand.tmp 29], argTypes := #[22, 22] } from rfl) Tryz.func12 (by kernel_rfl) (by kernel_rfl) (hs1) (by rfl) (by rfl) ⟨rdTake 1 F.length (by rfl) (by omega), paySub 2 (by rfl) (fun s h => List.mem_of_mem_take h), ReadsIn.rd 3 (by rfl), rpayIn 4 (by rfl), trivial⟩) (by rfl) (some 30) (by rfl) (by exact fun _ _ h => h) ?_
  rintro _ -
  rw [show decide (F.map ByS.l = F.map ByS.l) = true from decide_eq_true rfl]
  refine Rg.ev 16 (by rfl) (fun _ h => h) (Ev.pickT (show Oper.op _ = Op.pick (Operand.tmp 24) (Operand.tmp 30) (Operand.const (Value.bool false)) from rfl) (by rfl) (by rfl)) (by rfl) (some 31) (by rfl) (by kernel_rfl) (by kernel_rfl) (by kernel_rfl) (by kernel_rfl) ?_
  refine Rg.ev 17 (by rfl) (fun _ h => h) (Ev.move (show Oper.op _ = Op.move (Operand.tmp 31) from rfl) (by rfl)) (by rfl) (some 32) (by rfl) (by kernel_rfl) (by kernel_rfl) (by kernel_rfl) (by kernel_rfl) ?_
  refine Ent.known 32 true (by rfl) (by exact (rfl)) ?_
  refine Rg.ev 18 (by rfl) (fun _ h => h) (Ev.move (show Oper.op _ = Op.move (Operand.tmp 0) from rfl) (by rfl)) (by rfl) (some 33) (by rfl) (by kernel_rfl) (by kernel_rfl) (by kernel_rfl) (by kernel_rfl) ?_
  refine Rg.ev 19 (by rfl) (fun _ h => h) (Ev.move (show Oper.op _ = Op.move (Operand.tmp 1) from rfl) (by rfl)) (by rfl) (some 34) (by rfl) (by kernel_rfl) (by kernel_rfl) (by kernel_rfl) (by kernel_rfl) ?_
  refine Rg.ev 20 (by rfl) (fun _ h => h) (Ev.len (show Oper.op _ = Op.call { callee := Callee.builtin Builtin.len, args := #[Operand.tmp 34], argTypes := #[22] } from rfl) (by rfl) Tryz.underlying22) (by rfl) (some 35) (by rfl) (by kernel_rfl) (by kernel_rfl) (by kernel_rfl) (by kernel_rfl) ?_
  refine Rg.ev 21 (by rfl) (fun _ h => h) (Ev.sliceLn (sz := 1) (show Oper.op _ = Op.slice 22 (Operand.tmp 33) (some (Operand.tmp 35)) none none from rfl) (by rfl) (by rfl) Tryz.underlying22 (by kernel_rfl) (by omega)) (by rfl) (some 36) (by rfl) (by kernel_rfl) (by kernel_rfl) (by kernel_rfl) (by kernel_rfl) ?_
  refine Rg.ev 22 (by rfl) (fun _ h => h) (Ev.move (show Oper.op _ = Op.move (Operand.tmp 2) from rfl) (by rfl)) (by rfl) (some 37) (by rfl) (by kernel_rfl) (by kernel_rfl) (by kernel_rfl) (by kernel_rfl) ?_
  refine Rg.ev 23 (by rfl) (fun _ h => h) (Ev.move (show Oper.op _ = Op.move (Operand.tmp 9) from rfl) (by rfl)) (by rfl) (some 38) (by rfl) (by kernel_rfl) (by kernel_rfl) (by kernel_rfl) (by kernel_rfl) ?_
  refine Rg.ev 24 (by rfl) (fun _ h => h) (Ev.sliceHn (sz := 1) (show Oper.op _ = Op.slice 22 (Operand.tmp 37) none (some (Operand.tmp 38)) none from rfl) (by rfl) (by rfl) Tryz.underlying22 (by kernel_rfl) (by omega)) (by rfl) (some 39) (by rfl) (by kernel_rfl) (by kernel_rfl) (by kernel_rfl) (by kernel_rfl) ?_
  skip
  rw [hnq] at hs2
  rw [hnq]
  refine Rg.does 25 (by rfl) (by kernel_rfl) (Does.read (show Oper.op _ = Op.call { callee := Callee.value (Operand.func 12), args := #[Operand.tmp 36, Operand.tmp 39], argTypes := #[22, 22] } from rfl) Tryz.func12 (by kernel_rfl) (by kernel_rfl) (hs2) (by rfl) (by rfl) ⟨(fun w hs => hs.mem (i := 0) rfl), paySub 2 (by rfl) (fun s h => List.mem_of_mem_drop h), rdTake 5 q.length (by rfl) hql, paySub 6 (by rfl) (fun s h => List.mem_of_mem_take h), trivial⟩) (by rfl) (some 40) (by rfl) (by exact fun _ _ h => h) ?_
  rintro _ -
  rw [show decide ((Dn.take q.length).map ByS.l = (Dn.take q.length).map ByS.l) = true from decide_eq_true rfl]
  refine Rg.ev 26 (by rfl) (fun _ h => h) (Ev.pickT (show Oper.op _ = Op.pick (Operand.tmp 32) (Operand.tmp 40) (Operand.const (Value.bool false)) from rfl) (by rfl) (by rfl)) (by rfl) (some 41) (by rfl) (by kernel_rfl) (by kernel_rfl) (by kernel_rfl) (by kernel_rfl) ?_
  refine Rg.ev 27 (by rfl) (fun _ h => h) (Ev.assign (show Oper.op _ = Op.assign (Operand.tmp 41) from rfl) (by rfl)) (by rfl) (some 8) (by rfl) (by kernel_rfl) (by kernel_rfl) (by kernel_rfl) (by kernel_rfl) ?_
  refine Rg.done (by kernel_rfl) ?_ _
  refine Cd.ret ?_
  refine Ent.ret (()) (trivial) (Res.tmp (by rfl) (by rfl)) ?_ [] (by rfl) ?_
  · rfl
  · rfl
end Go.Proofs.YtceanciekadkeaaGreatDoor
/- WalCrashes: the walk -/
namespace Go.Proofs.YtceanciekadkeaaGreatDoor
open Go.RowKit
theorem segsTo_le {P : DrP} {a b : Nat} (h : SegsTo P a) (hab : a ≤ b) : SegsTo P b := fun f hf => by
  obtain ⟨n, h1, h2, h3⟩ := h f hf
  exact ⟨n, h1, by omega, h3⟩
set_option maxHeartbeats 2000000 in
theorem crashes_sl (W : World) (A : Option Addr) (c : Nat) (S : List LfS) (hr : Reads W W.heap.size 4 A S.length (S.flatMap LfS.enc)) (hok : ∀ x ∈ S, LfS.ok W x) (hn : S.length ≤ 5864062014634) : Fn Tryz.prog 6 #[.slice A S.length c] [argc W, laidC] Unit (fun _ => .bool true) (fun _ => []) (fun _ => True) := by
  obtain ⟨m, hm⟩ : ∃ m, m = min S.length 5 := ⟨_, rfl⟩
  refine Fn.enter Tryz.func6 rfl Tryz.ntmps6 (by rfl) ?_
  intro w0
  refine Ent.arg 0 (by rfl) hr ?_
  refine Cd.seq ?_
  refine Cd.region ?_
  refine Ls.ev (some 2) (Ev.assign (show Oper.op _ = Op.assign (Operand.const (Value.bool false)) from rfl) (by rfl)) (by rfl) (by rfl) ?_
  refine Ls.nil ?_
  refine Cd.seq ?_
  refine Cd.region ?_
  refine Ls.does (some 14) (Does.call [0, 1, 2] (show Oper.op _ = Op.call { callee := Callee.value (Operand.func 7), args := #[], argTypes := #[] } from rfl) Tryz.func7 (by kernel_rfl) (by kernel_rfl) (new_sl) (by rfl) (by rfl) (by rfl)) (by rfl) (by rfl) ?_
  rintro D0 hD0
  refine Ls.ev (some 3) (Ev.assign (show Oper.op _ = Op.assign (Operand.tmp 14) from rfl) (by rfl)) (by rfl) (by rfl) ?_
  refine Ls.nil ?_
  refine Cd.seq ?_
  refine Cd.seq ?_
  refine Cd.region ?_
  refine Ls.does (some 15) (Does.read (show Oper.op _ = Op.call { callee := Callee.value (Operand.func 8), args := #[], argTypes := #[] } from rfl) Tryz.func8 (by kernel_rfl) (by kernel_rfl) (awake_sl) (by rfl) (by rfl) ⟨laidIn 5 (by rfl), trivial⟩) (by rfl) (by rfl) ?_
  rintro _ -
  refine Ls.ev (some 16) (Ev.not (show Oper.op _ = Op.unOp UnOp.not 4 (Operand.tmp 15) from rfl) (by rfl)) (by rfl) (by rfl) ?_
  refine Ls.ev (some 17) (Ev.move (show Oper.op _ = Op.move (Operand.tmp 16) from rfl) (by rfl)) (by rfl) (by rfl) ?_
  refine Ent.known 17 false (by rfl) (by exact (rfl)) ?_
  refine Ls.ev (some 18) (Ev.move (show Oper.op _ = Op.move (Operand.tmp 3) from rfl) (by rfl)) (by rfl) (by rfl) ?_
  refine Ls.ev (some 19) (Ev.ptrNil (show Oper.op _ = Op.binOp BinOp.eql 23 (Operand.tmp 18) (Operand.const (Value.pointer none)) 23 from rfl) (by rfl) (by rfl) Tryz.underlying23) (by rfl) (by rfl) ?_
  refine Ls.ev (some 20) (Ev.pickF (show Oper.op _ = Op.pick (Operand.tmp 17) (Operand.const (Value.bool true)) (Operand.tmp 19) from rfl) (by rfl) (by rfl)) (by rfl) (by rfl) ?_
  refine Ls.nil ?_
  skip
  refine Cd.cond_false (by rfl) (rfl) ?_
  refine Cd.skip ?_
  refine Cd.seq ?_
  refine Cd.region ?_
  refine Ls.ev (some 4) (Ev.assign (show Oper.op _ = Op.assign (Operand.const (Value.slice none 0 0)) from rfl) (by rfl)) (by rfl) (by rfl) ?_
  refine Ls.nil ?_
  refine Cd.seq ?_
  refine Cd.seq ?_
  refine Cd.region ?_
  refine Ls.ev (some 5) (Ev.assign (show Oper.op _ = Op.assign (Operand.const (Value.int IntKind.i64 0)) from rfl) (by rfl)) (by rfl) (by rfl) ?_
  refine Ls.nil ?_
  refine Cd.block ?_
  refine Ent.nil 30 1 ?_
  refine Ent.map (fun w hs => hs.starx_nil) ?_
  refine Ent.pick [1, 0, 2, 3, 4, 5, 7, 6] (by rfl) ?_
  refine Cd.loop (ι := Nat × DrS × DrP × (Option Addr × Nat × List ByS)) (fun p => [(0, .slice A S.length c), (3, p.2.1.ptr), (4, .slice p.2.2.2.1 p.2.2.2.2.2.length p.2.2.2.2.1), (5, .int .i64 p.1)]) (fun p => [payW p.2.2.2.1 p.2.2.2.2.1 p.2.2.2.2.2, payX p.2.2.2.2.2, p.2.1.B, p.2.1.M, p.2.1.F, rd A S.length 4 (S.flatMap LfS.enc), laidC, argc W]) (fun p => p.1 ≤ m ∧ Drv p.2.1 p.2.2.1 ∧ p.2.2.1.left = none ∧ SegsTo p.2.2.1 (30 * p.1) ∧ (∀ f ∈ p.2.2.1.fs, f.sy = f.b.length) ∧ p.2.2.1.fs.length ≤ 30 * p.1 ∧ p.2.2.1.pay 1 = p.2.2.2.2.2.map ByS.l) (fun p => m - p.1) ((0, D0, DrP.new, (none, 0, []))) (⟨Nat.zero_le _, hD0, rfl, fun _ h => absurd h List.not_mem_nil, fun _ h => absurd h List.not_mem_nil, Nat.le_refl _, rfl⟩) ?_ rfl ?_
  · (repeat (first | exact trivial | refine ⟨by rfl, ?_⟩))
  rintro ⟨i, D, P, fA, fc, F⟩ ⟨hi, hD, hleft, hto, hsy, hfl, hpay⟩
  dsimp only at hi hD hleft hto hsy hfl hpay ⊢
  have hFl : F.length ≤ 15360000 := by
    have := pay_len hD.ok 1
    rwa [hpay, List.length_map] at this
  refine Cd.seq ?_
  refine Cd.seq ?_
  refine Cd.cut (ι := Unit) (fun _ => [(0, .slice A S.length c), (3, D.ptr), (4, .slice fA F.length fc), (5, .int .i64 i), (28, .bool (decide (i < m)))]) (fun _ => [payW fA fc F, payX F, D.B, D.M, D.F, rd A S.length 4 (S.flatMap LfS.enc), laidC, argc W]) (fun _ => True) ?_ ?_
  · skip
    refine Cd.region ?_
    refine Ls.ev (some 21) (Ev.move (show Oper.op _ = Op.move (Operand.tmp 5) from rfl) (by rfl)) (by rfl) (by rfl) ?_
    refine Ls.ev (some 22) (Ev.move (show Oper.op _ = Op.move (Operand.tmp 0) from rfl) (by rfl)) (by rfl) (by rfl) ?_
    refine Ls.ev (some 23) (Ev.len (show Oper.op _ = Op.call { callee := Callee.builtin Builtin.len, args := #[Operand.tmp 22], argTypes := #[57] } from rfl) (by rfl) Tryz.underlying57) (by rfl) (by rfl) ?_
    refine Ls.ev (some 24) (Ev.lss (show Oper.op _ = Op.binOp BinOp.lss 3 (Operand.tmp 21) (Operand.tmp 23) 3 from rfl) (by rfl) (by rfl)) (by rfl) (by rfl) ?_
    refine Ls.ev (some 25) (Ev.move (show Oper.op _ = Op.move (Operand.tmp 24) from rfl) (by rfl)) (by rfl) (by rfl) ?_
    refine Ent.split 25 (by rfl) (fun hT1 => ?_) (fun hT1 => ?_)
    · first | have hT1 := of_decide_eq_false hT1 | have hT1 := of_not_decide_false hT1 | skip
      refine Ls.pass (some 26) (by rfl) (by rfl) ?_
      refine Ls.pass (some 27) (by rfl) (by rfl) ?_
      refine Ls.ev (some 28) (Ev.pickF (show Oper.op _ = Op.pick (Operand.tmp 25) (Operand.tmp 27) (Operand.const (Value.bool false)) from rfl) (by rfl) (by rfl)) (by rfl) (by rfl) ?_
      refine Ls.nil ?_
      refine Ent.inv () ?_ ?_ ?_
      · exact trivial
      · (repeat (first | exact trivial | refine ⟨by rfl, ?_⟩ | refine ⟨by simp only [List.length_append, List.length_cons, List.length_nil]; rfl, ?_⟩ | refine ⟨by push_cast; rfl, ?_⟩ | refine ⟨by (show some (Value.bool _) = some (Value.bool _); congr 2; all_goals ((first | exact (decide_eq_decide.2 (by omega)) | exact (decide_eq_false (by omega)).symm | exact (decide_eq_true (by omega)).symm | exact decide_eq_true (by omega) | exact decide_eq_false (by omega)))), ?_⟩))
      · rfl
    · first | have hT1 := of_decide_eq_true hT1 | have hT1 := of_not_decide_true hT1 | skip
      refine Ls.ev (some 26) (Ev.move (show Oper.op _ = Op.move (Operand.tmp 5) from rfl) (by rfl)) (by rfl) (by rfl) ?_
      refine Ls.ev (some 27) (Ev.lss (show Oper.op _ = Op.binOp BinOp.lss 3 (Operand.tmp 26) (Operand.const (Value.int IntKind.i64 5)) 3 from rfl) (by rfl) (by rfl)) (by rfl) (by rfl) ?_
      refine Ls.ev (some 28) (Ev.pickT (show Oper.op _ = Op.pick (Operand.tmp 25) (Operand.tmp 27) (Operand.const (Value.bool false)) from rfl) (by rfl) (by rfl)) (by rfl) (by rfl) ?_
      refine Ls.nil ?_
      refine Ent.inv () ?_ ?_ ?_
      · exact trivial
      · (repeat (first | exact trivial | refine ⟨by rfl, ?_⟩ | refine ⟨by simp only [List.length_append, List.length_cons, List.length_nil]; rfl, ?_⟩ | refine ⟨by push_cast; rfl, ?_⟩ | refine ⟨by (show some (Value.bool _) = some (Value.bool _); congr 2; all_goals ((first | exact (decide_eq_decide.2 (by omega)) | exact (decide_eq_false (by omega)).symm | exact (decide_eq_true (by omega)).symm | exact decide_eq_true (by omega) | exact decide_eq_false (by omega)))), ?_⟩))
      · rfl
  skip
  rintro _ -
  refine Cd.cond _ (by rfl) (fun h2 => ?_) (fun h2 => ?_)
  · skip
    have hlt : i < m := of_decide_eq_true h2
    obtain ⟨x, hs⟩ := get_of_lt (show i < S.length by omega)
    have hx := hok x (List.mem_of_getElem? hs)
    have hseg := (seg_le hto (by omega)).1
    refine Cd.skip ?_
    refine Cd.seq ?_
    refine Cd.block ?_
    refine Cd.seq ?_
    refine Cd.region ?_
    refine Ls.ev (some 32) (Ev.move (show Oper.op _ = Op.move (Operand.tmp 3) from rfl) (by rfl)) (by rfl) (by rfl) ?_
    refine Ls.does (some 33) (Does.readN (show Oper.op _ = Op.call { callee := Callee.value (Operand.func 9), args := #[Operand.tmp 32, Operand.const (Value.int IntKind.i64 1)], argTypes := #[23, 3] } from rfl) Tryz.func9 (by kernel_rfl) (by kernel_rfl) (open_sl hD 1 (by omega) (by omega)) (by rfl) (by rfl) ⟨blkIn 2 (by rfl), mapIn 3 (by rfl), filIn 4 (by rfl), laidIn 6 (by rfl), trivial⟩ (fun _ => by rfl)) (by rfl) (by rfl) ?_
    rintro ⟨g, ⟨pA, pc⟩, T⟩ hT
    dsimp only at hT ⊢
    have hTl : T.length ≤ 15360000 := by
      have := pay_len hD.ok 1
      rwa [← hT, List.length_map] at this
    refine Ls.ev (some 31) (Ev.move (show Oper.op _ = Op.move (Operand.tmp 33) from rfl) (by rfl)) (by rfl) (by rfl) ?_
    refine Ls.ev (some 34) (Ev.extract (show Oper.op _ = Op.extract (Operand.tmp 31) 0 from rfl) (by rfl) (by rfl)) (by rfl) (by rfl) ?_
    refine Ls.ev (some 35) (Ev.extract (show Oper.op _ = Op.extract (Operand.tmp 31) 1 from rfl) (by rfl) (by rfl)) (by rfl) (by rfl) ?_
    refine Ls.ev (some 36) (Ev.extract (show Oper.op _ = Op.extract (Operand.tmp 31) 2 from rfl) (by rfl) (by rfl)) (by rfl) (by rfl) ?_
    refine Ls.ev (some 6) (Ev.assign (show Oper.op _ = Op.assign (Operand.tmp 34) from rfl) (by rfl)) (by rfl) (by rfl) ?_
    refine Ls.ev (some 7) (Ev.assign (show Oper.op _ = Op.assign (Operand.tmp 35) from rfl) (by rfl)) (by rfl) (by rfl) ?_
    refine Ls.ev (some 8) (Ev.assign (show Oper.op _ = Op.assign (Operand.tmp 36) from rfl) (by rfl)) (by rfl) (by rfl) ?_
    refine Ls.nil ?_
    refine Cd.seq ?_
    refine Cd.seq ?_
    refine Cd.region ?_
    refine Ls.ev (some 37) (Ev.move (show Oper.op _ = Op.move (Operand.tmp 6) from rfl) (by rfl)) (by rfl) (by rfl) ?_
    refine Ls.ev (some 38) (Ev.ptrNil (show Oper.op _ = Op.binOp BinOp.eql 26 (Operand.tmp 37) (Operand.const (Value.pointer none)) 26 from rfl) (by rfl) (by rfl) Tryz.underlying26) (by rfl) (by rfl) ?_
    refine Ls.ev (some 39) (Ev.move (show Oper.op _ = Op.move (Operand.tmp 38) from rfl) (by rfl)) (by rfl) (by rfl) ?_
    refine Ent.known 39 false (by rfl) (by exact (rfl)) ?_
    refine Ls.ev (some 40) (Ev.move (show Oper.op _ = Op.move (Operand.tmp 8) from rfl) (by rfl)) (by rfl) (by rfl) ?_
    refine Ls.ev (some 41) (Ev.neq (show Oper.op _ = Op.binOp BinOp.neq 27 (Operand.tmp 40) (Operand.const (Value.int IntKind.i64 0)) 27 from rfl) (by rfl) (by rfl)) (by rfl) (by rfl) ?_
    refine Ls.ev (some 42) (Ev.pickF (show Oper.op _ = Op.pick (Operand.tmp 39) (Operand.const (Value.bool true)) (Operand.tmp 41) from rfl) (by rfl) (by rfl)) (by rfl) (by rfl) ?_
    refine Ls.ev (some 43) (Ev.move (show Oper.op _ = Op.move (Operand.tmp 42) from rfl) (by rfl)) (by rfl) (by rfl) ?_
    skip
    refine Ent.known 43 false (by rfl) (by exact (decide_eq_false (show ¬ ((0 : Int) ≠ 0) from fun h => h rfl))) ?_
    refine Ls.ev (some 44) (Ev.move (show Oper.op _ = Op.move (Operand.tmp 7) from rfl) (by rfl)) (by rfl) (by rfl) ?_
    refine Ls.ev (some 45) (Ev.move (show Oper.op _ = Op.move (Operand.tmp 4) from rfl) (by rfl)) (by rfl) (by rfl) ?_
    refine Ls.does (some 46) (Does.read (show Oper.op _ = Op.call { callee := Callee.value (Operand.func 12), args := #[Operand.tmp 44, Operand.tmp 45], argTypes := #[22, 22] } from rfl) Tryz.func12 (by kernel_rfl) (by kernel_rfl) (same_sl pA fA pc fc T F (by omega) (by omega)) (by rfl) (by rfl) ⟨ReadsIn.row 1 (by rfl), payIn 2 (by rfl), ReadsIn.row 3 (by rfl), payIn 4 (by rfl), trivial⟩) (by rfl) (by rfl) ?_
    rintro _ -
    rw [show decide (T.map ByS.l = F.map ByS.l) = true from decide_eq_true (hT.trans hpay)]
    refine Ls.ev (some 47) (Ev.not (show Oper.op _ = Op.unOp UnOp.not 4 (Operand.tmp 46) from rfl) (by rfl)) (by rfl) (by rfl) ?_
    refine Ls.ev (some 48) (Ev.pickF (show Oper.op _ = Op.pick (Operand.tmp 43) (Operand.const (Value.bool true)) (Operand.tmp 47) from rfl) (by rfl) (by rfl)) (by rfl) (by rfl) ?_
    refine Ls.nil ?_
    refine Cd.cond_false (by rfl) (rfl) ?_
    refine Ent.pick [0, 5, 6, 7, 8, 3, 4, 9, 10] (by rfl) ?_
    refine Ent.rdSome 4 (by rfl) (by omega) (fun ad had => ?_)
    subst had
    skip
    refine Cd.skip ?_
    refine Cd.seq ?_
    refine Cd.seq ?_
    refine Cd.region ?_
    refine Ls.ev (some 49) (Ev.move (show Oper.op _ = Op.move (Operand.tmp 0) from rfl) (by rfl)) (by rfl) (by rfl) ?_
    refine Ls.ev (some 50) (Ev.move (show Oper.op _ = Op.move (Operand.tmp 5) from rfl) (by rfl)) (by rfl) (by rfl) ?_
    refine Ls.ev (some 51) (Ev.indexAt (sz := 4) (show Oper.op _ = Op.indexAddr 57 (Operand.tmp 49) (Operand.tmp 50) from rfl) (by rfl) (by rfl) Tryz.underlying57 (by kernel_rfl) (by omega)) (by rfl) (by rfl) ?_
    refine Ls.ev (some 52) (Ev.fieldAddrE0 (k := 2) (show Oper.op _ = Op.fieldAddr 59 (Operand.tmp 51) 2 from rfl) (by rfl) (by kernel_rfl)) (by rfl) (by rfl) ?_
    refine Ls.ev (some 53) (Ev.loadElF (show Oper.op _ = Op.load 3 (Operand.tmp 52) from rfl) (by rfl) (ReadsIn.rd 4 (by rfl)) (by kernel_rfl) (by intro _; rfl) (by assumption) (by rfl)) (by rfl) (by rfl) ?_
    refine Ls.ev (some 54) (Ev.geq (show Oper.op _ = Op.binOp BinOp.geq 3 (Operand.tmp 53) (Operand.const (Value.int IntKind.i64 0)) 3 from rfl) (by rfl) (by rfl)) (by rfl) (by rfl) ?_
    refine Ls.nil ?_
    refine Cd.cut (ι := DrS × DrP) (fun p => [(0, .slice (some ad) S.length c), (3, D.ptr), (4, .slice fA F.length fc), (5, .int .i64 i), (6, ptrV g)]) (fun p => [lgB g D.d ⟨P.seg 1, false⟩, p.1.B, p.1.M, p.1.F, rd (some ad) S.length 4 (S.flatMap LfS.enc), payW fA fc F, payX F, laidC, argc W]) (fun p => Drv p.1 p.2 ∧ p.1.d = D.d ∧ (∃ l, p.2 = { P with left := l }) ∧ (¬ 0 ≤ x.left → p.2.left = none)) ?_ ?_
    · skip
      by_cases hle : 0 ≤ x.left
      · skip
        refine Cd.cond_true (by rfl) (decide_eq_true hle) ?_
        refine Cd.region ?_
        refine Ls.ev (some 55) (Ev.move (show Oper.op _ = Op.move (Operand.tmp 3) from rfl) (by rfl)) (by rfl) (by rfl) ?_
        refine Ls.ev (some 56) (Ev.move (show Oper.op _ = Op.move (Operand.tmp 0) from rfl) (by rfl)) (by rfl) (by rfl) ?_
        refine Ls.ev (some 57) (Ev.move (show Oper.op _ = Op.move (Operand.tmp 5) from rfl) (by rfl)) (by rfl) (by rfl) ?_
        refine Ls.ev (some 58) (Ev.indexAt (sz := 4) (show Oper.op _ = Op.indexAddr 57 (Operand.tmp 56) (Operand.tmp 57) from rfl) (by rfl) (by rfl) Tryz.underlying57 (by kernel_rfl) (by omega)) (by rfl) (by rfl) ?_
        refine Ls.ev (some 59) (Ev.fieldAddrE0 (k := 2) (show Oper.op _ = Op.fieldAddr 59 (Operand.tmp 58) 2 from rfl) (by rfl) (by kernel_rfl)) (by rfl) (by rfl) ?_
        refine Ls.ev (some 60) (Ev.loadElF (show Oper.op _ = Op.load 3 (Operand.tmp 59) from rfl) (by rfl) (ReadsIn.rd 4 (by rfl)) (by kernel_rfl) (by intro _; rfl) (by assumption) (by rfl)) (by rfl) (by rfl) ?_
        refine Ls.does (some 61) (Does.call [1, 2, 3, 0, 4, 5, 6, 7, 8] (show Oper.op _ = Op.call { callee := Callee.value (Operand.func 21), args := #[Operand.tmp 55, Operand.tmp 60], argTypes := #[23, 3] } from rfl) Tryz.func21 (by kernel_rfl) (by kernel_rfl) (arm_sl hD x.left hx.2.1.2) (by rfl) (by rfl) (by rfl)) (by rfl) (by rfl) ?_
        rintro D1 ⟨hD1, hd1, -⟩
        refine Ls.nil ?_
        refine Ent.pick [3, 0, 1, 2, 4, 5, 6, 7, 8] (by rfl) ?_
        refine Ent.inv ((D1, (P.arm x.left).1)) ?_ ?_ ?_
        · (try dsimp only); exact ⟨hD1, hd1, ⟨some x.left.toNat, by unfold DrP.arm; rw [if_neg (by omega), if_neg (by rw [DrP.dead, hleft]; simp)]⟩, fun h => absurd hle h⟩
        · (repeat (first | exact trivial | refine ⟨by rfl, ?_⟩ | refine ⟨by simp only [List.length_append, List.length_cons, List.length_nil]; rfl, ?_⟩ | refine ⟨by push_cast; rfl, ?_⟩))
        · rfl
      · skip
        refine Cd.cond_false (by rfl) (decide_eq_false hle) ?_
        refine Cd.skip ?_
        refine Ent.inv ((D, P)) ?_ ?_ ?_
        · (try dsimp only); exact ⟨hD, rfl, ⟨none, by rw [← hleft]⟩, fun _ => hleft⟩
        · (repeat (first | exact trivial | refine ⟨by rfl, ?_⟩ | refine ⟨by simp only [List.length_append, List.length_cons, List.length_nil]; rfl, ?_⟩ | refine ⟨by push_cast; rfl, ?_⟩))
        · rfl
    skip
    rintro ⟨D1, P1⟩ ⟨hD1, hd1, ⟨l1, hP1⟩, hlim⟩
    dsimp only at hD1 hd1 hP1 hlim ⊢
    subst hP1
    have hI := LfI.start (P := { P with left := l1 }) (lim := 0 ≤ x.left) hD1.ok hto (by omega) hsy (show P.fs.length ≤ 200 by omega) hlim
    have hlv := lived_sl hD1 W x hx g ⟨P.seg 1, false⟩ rfl hI
    rw [hd1] at hlv
    refine Cd.seq ?_
    refine Cd.region ?_
    refine Ls.ev (some 63) (Ev.move (show Oper.op _ = Op.move (Operand.tmp 6) from rfl) (by rfl)) (by rfl) (by rfl) ?_
    refine Ls.ev (some 64) (Ev.move (show Oper.op _ = Op.move (Operand.tmp 0) from rfl) (by rfl)) (by rfl) (by rfl) ?_
    refine Ls.ev (some 65) (Ev.move (show Oper.op _ = Op.move (Operand.tmp 5) from rfl) (by rfl)) (by rfl) (by rfl) ?_
    refine Ls.ev (some 66) (Ev.indexAt (sz := 4) (show Oper.op _ = Op.indexAddr 57 (Operand.tmp 64) (Operand.tmp 65) from rfl) (by rfl) (by rfl) Tryz.underlying57 (by kernel_rfl) (by omega)) (by rfl) (by rfl) ?_
    refine Ls.ev (some 67) (Ev.loadEl (show Oper.op _ = Op.load 59 (Operand.tmp 66) from rfl) (by rfl) (ReadsIn.rd 4 (by rfl)) (by kernel_rfl) (by intro _; rfl) (by assumption)) (by rfl) (by rfl) ?_
    refine Ls.does (some 68) (Does.call [0, 1, 2, 3, 7, 8, 4, 5, 6, 7, 8] (show Oper.op _ = Op.call { callee := Callee.value (Operand.func 22), args := #[Operand.tmp 63, Operand.tmp 67], argTypes := #[26, 59] } from rfl) Tryz.func22 (by kernel_rfl) (by kernel_rfl) (hlv) (by rfl) (by rfl) (by rfl)) (by rfl) (by rfl) ?_
    rintro ⟨D2, ⟨dA, dc, V⟩, sf⟩ ⟨hd2, hVl, P2, L2, n, hn2, hD2, hF⟩
    dsimp only at hd2 hVl hD2 hF ⊢
    have hp2 : D2.ptr = D.ptr := by rw [DrS.ptr, DrS.ptr, hd2]
    rw [← hp2]
    refine Ls.ev (some 62) (Ev.move (show Oper.op _ = Op.move (Operand.tmp 68) from rfl) (by rfl)) (by rfl) (by rfl) ?_
    refine Ls.ev (some 69) (Ev.extract (show Oper.op _ = Op.extract (Operand.tmp 62) 0 from rfl) (by rfl) (by rfl)) (by rfl) (by rfl) ?_
    refine Ls.ev (some 70) (Ev.extract (show Oper.op _ = Op.extract (Operand.tmp 62) 1 from rfl) (by rfl) (by rfl)) (by rfl) (by rfl) ?_
    refine Ls.ev (some 71) (Ev.extract (show Oper.op _ = Op.extract (Operand.tmp 62) 2 from rfl) (by rfl) (by rfl)) (by rfl) (by rfl) ?_
    refine Ls.ev (some 9) (Ev.assign (show Oper.op _ = Op.assign (Operand.tmp 69) from rfl) (by rfl)) (by rfl) (by rfl) ?_
    refine Ls.ev (some 10) (Ev.assign (show Oper.op _ = Op.assign (Operand.tmp 70) from rfl) (by rfl)) (by rfl) (by rfl) ?_
    refine Ls.ev (some 11) (Ev.assign (show Oper.op _ = Op.assign (Operand.tmp 71) from rfl) (by rfl)) (by rfl) (by rfl) ?_
    refine Ls.nil ?_
    refine Cd.seq ?_
    refine Cd.seq ?_
    refine Cd.region ?_
    refine Ls.ev (some 72) (Ev.move (show Oper.op _ = Op.move (Operand.tmp 11) from rfl) (by rfl)) (by rfl) (by rfl) ?_
    refine Ls.ev (some 73) (Ev.not (show Oper.op _ = Op.unOp UnOp.not 4 (Operand.tmp 72) from rfl) (by rfl)) (by rfl) (by rfl) ?_
    refine Ls.nil ?_
    refine Cd.cond_false (by rfl) (rfl) ?_
    refine Cd.skip ?_
    refine Cd.seq ?_
    refine Cd.seq ?_
    refine Cd.region ?_
    refine Ls.ev (some 12) (Ev.assign (show Oper.op _ = Op.assign (Operand.const (Value.int IntKind.i64 0)) from rfl) (by rfl)) (by rfl) (by rfl) ?_
    refine Ls.nil ?_
    refine Cd.block ?_
    refine Ent.fact 2 (by rfl) (p := ∀ f ∈ D2.fs, f.b.length ≤ f.c) (fun w hw => fil_cap hw) (fun hcap => ?_)
    refine Ent.fact 3 (by rfl) (p := V.length ≤ dc) (fun w hw => Own.le hw) (fun hdc => ?_)
    refine Cd.loop (ι := Nat) (fun p => [(0, .slice (some ad) S.length c), (3, D2.ptr), (4, .slice fA F.length fc), (5, .int .i64 i), (9, .slice dA V.length dc), (10, .int .i64 sf), (12, .int .i64 p)]) (fun _ => [D2.B, D2.M, D2.F, payW dA dc V, payX V, rd (some ad) S.length 4 (S.flatMap LfS.enc), payW fA fc F, payX F, laidC, argc W]) (fun p => p ≤ 60) (fun p => 60 - p) (0) (Nat.zero_le _) ?_ rfl ?_
    · (repeat (first | exact trivial | refine ⟨by rfl, ?_⟩))
    rintro j hj
    skip
    refine Cd.seq ?_
    refine Cd.seq ?_
    refine Cd.region ?_
    refine Ls.ev (some 74) (Ev.move (show Oper.op _ = Op.move (Operand.tmp 12) from rfl) (by rfl)) (by rfl) (by rfl) ?_
    refine Ls.ev (some 75) (Ev.lss (show Oper.op _ = Op.binOp BinOp.lss 3 (Operand.tmp 74) (Operand.const (Value.int IntKind.i64 60)) 3 from rfl) (by rfl) (by rfl)) (by rfl) (by rfl) ?_
    refine Ls.nil ?_
    refine Cd.cond _ (by rfl) (fun h3 => ?_) (fun h3 => ?_)
    · skip
      have hj2 : j < 60 := by have := of_decide_eq_true h3; omega
      refine Cd.skip ?_
      refine Cd.seq ?_
      refine Cd.block ?_
      refine Cd.seq ?_
      refine Cd.region ?_
      refine Ls.ev (some 78) (Ev.move (show Oper.op _ = Op.move (Operand.tmp 3) from rfl) (by rfl)) (by rfl) (by rfl) ?_
      refine Ls.ev (some 79) (Ev.move (show Oper.op _ = Op.move (Operand.tmp 12) from rfl) (by rfl)) (by rfl) (by rfl) ?_
      refine Ls.does (some 80) (Does.lit (sz := 1) (show Oper.op _ = Op.buildSlice 35 1 #[(0, Operand.tmp 79)] from rfl) (by rfl) Tryz.underlying35 (by kernel_rfl) (by rfl) (by kernel_rfl)) (by rfl) (by rfl) ?_
      intro g1 _
      have hcr := crash_sl hD2 hcap (some ⟨g1, 0, none⟩) 1 [(j : Int)]
      refine Ls.does (some 81) (Does.readN (show Oper.op _ = Op.call { callee := Callee.value (Operand.func 23), args := #[Operand.tmp 78, Operand.tmp 80], argTypes := #[23, 35] } from rfl) Tryz.func23 (by kernel_rfl) (by kernel_rfl) (hcr) (by rfl) (by rfl) ⟨blkIn 1 (by rfl), mapIn 2 (by rfl), filIn 3 (by rfl), ReadsIn.row 0 (by rfl), trivial⟩ (fun _ => by rfl)) (by rfl) (by rfl) ?_
      rintro X hX
      refine Ls.ev (some 13) (Ev.assign (show Oper.op _ = Op.assign (Operand.tmp 81) from rfl) (by rfl)) (by rfl) (by rfl) ?_
      refine Ls.nil ?_
      refine Cd.seq ?_
      refine Cd.seq ?_
      refine Cd.region ?_
      refine Ls.ev (some 82) (Ev.move (show Oper.op _ = Op.move (Operand.tmp 13) from rfl) (by rfl)) (by rfl) (by rfl) ?_
      refine Ls.ev (some 83) (Ev.ptrNil (show Oper.op _ = Op.binOp BinOp.eql 23 (Operand.tmp 82) (Operand.const (Value.pointer none)) 23 from rfl) (by rfl) (by rfl) Tryz.underlying23) (by rfl) (by rfl) ?_
      refine Ls.nil ?_
      refine Cd.cond_false (by rfl) (rfl) ?_
      refine Cd.skip ?_
      refine Cd.seq ?_
      refine Cd.region ?_
      refine Ls.ev (some 85) (Ev.move (show Oper.op _ = Op.move (Operand.tmp 13) from rfl) (by rfl)) (by rfl) (by rfl) ?_
      refine Ls.does (some 86) (Does.readN (show Oper.op _ = Op.call { callee := Callee.value (Operand.func 9), args := #[Operand.tmp 85, Operand.const (Value.int IntKind.i64 1)], argTypes := #[23, 3] } from rfl) Tryz.func9 (by kernel_rfl) (by kernel_rfl) (open_sl hX 1 (by omega) (by omega)) (by rfl) (by rfl) ⟨blkIn 0 (by rfl), mapIn 1 (by rfl), filIn 2 (by rfl), laidIn 12 (by rfl), trivial⟩ (fun _ => by rfl)) (by rfl) (by rfl) ?_
      rintro ⟨g2, ⟨qA, qc⟩, T2⟩ hT2
      dsimp only at hT2 ⊢
      obtain ⟨q, q1, q2, q3, _⟩ := hF.crash (by omega) [(j : Int)]
      have hT2l : T2.length ≤ 15360000 := by
        have := pay_len hX.ok 1
        rwa [← hT2, List.length_map] at this
      have hq : T2.map ByS.l = F.map ByS.l ++ q := by
        rw [hT2, q1, ← hpay, pay_all hD.ok hto (by omega)]
      refine Ent.fact 1 (by rfl) (p := T2.length ≤ qc) (fun w hw => Own.le hw) (fun hqc => ?_)
      refine Ls.ev (some 84) (Ev.move (show Oper.op _ = Op.move (Operand.tmp 86) from rfl) (by rfl)) (by rfl) (by rfl) ?_
      refine Ls.ev (some 87) (Ev.extract (show Oper.op _ = Op.extract (Operand.tmp 84) 0 from rfl) (by rfl) (by rfl)) (by rfl) (by rfl) ?_
      refine Ls.ev (some 88) (Ev.extract (show Oper.op _ = Op.extract (Operand.tmp 84) 1 from rfl) (by rfl) (by rfl)) (by rfl) (by rfl) ?_
      refine Ls.ev (some 89) (Ev.extract (show Oper.op _ = Op.extract (Operand.tmp 84) 2 from rfl) (by rfl) (by rfl)) (by rfl) (by rfl) ?_
      refine Ls.ev (some 7) (Ev.assign (show Oper.op _ = Op.assign (Operand.tmp 88) from rfl) (by rfl)) (by rfl) (by rfl) ?_
      refine Ls.ev (some 8) (Ev.assign (show Oper.op _ = Op.assign (Operand.tmp 89) from rfl) (by rfl)) (by rfl) (by rfl) ?_
      refine Ls.nil ?_
      refine Cd.seq ?_
      refine Cd.region ?_
      refine Ls.ev (some 90) (Ev.move (show Oper.op _ = Op.move (Operand.tmp 8) from rfl) (by rfl)) (by rfl) (by rfl) ?_
      refine Ls.ev (some 91) (Ev.neq (show Oper.op _ = Op.binOp BinOp.neq 27 (Operand.tmp 90) (Operand.const (Value.int IntKind.i64 0)) 27 from rfl) (by rfl) (by rfl)) (by rfl) (by rfl) ?_
      refine Ls.ev (some 92) (Ev.move (show Oper.op _ = Op.move (Operand.tmp 91) from rfl) (by rfl)) (by rfl) (by rfl) ?_
      refine Ent.known 92 false (by rfl) (by exact (decide_eq_false (show ¬ ((0 : Int) ≠ 0) from fun h => h rfl))) ?_
      refine Ls.ev (some 93) (Ev.move (show Oper.op _ = Op.move (Operand.tmp 7) from rfl) (by rfl)) (by rfl) (by rfl) ?_
      refine Ls.ev (some 94) (Ev.move (show Oper.op _ = Op.move (Operand.tmp 4) from rfl) (by rfl)) (by rfl) (by rfl) ?_
      refine Ls.ev (some 95) (Ev.move (show Oper.op _ = Op.move (Operand.tmp 9) from rfl) (by rfl)) (by rfl) (by rfl) ?_
      refine Ls.ev (some 96) (Ev.move (show Oper.op _ = Op.move (Operand.tmp 10) from rfl) (by rfl)) (by rfl) (by rfl) ?_
      skip
      refine Ls.does (some 97) (Does.read (show Oper.op _ = Op.call { callee := Callee.value (Operand.func 24), args := #[Operand.tmp 93, Operand.tmp 94, Operand.tmp 95, Operand.tmp 96], argTypes := #[22, 22, 22, 3] } from rfl) Tryz.func24 (by kernel_rfl) (by kernel_rfl) (left_sl qA fA dA qc fc dc T2 F V sf hqc hdc (by omega) (by omega) q hq q2 q3) (by rfl) (by rfl) ⟨ReadsIn.row 1 (by rfl), payIn 2 (by rfl), ReadsIn.row 13 (by rfl), payIn 14 (by rfl), ReadsIn.row 10 (by rfl), payIn 11 (by rfl), trivial⟩) (by rfl) (by rfl) ?_
      rintro _ -
      refine Ls.ev (some 98) (Ev.not (show Oper.op _ = Op.unOp UnOp.not 4 (Operand.tmp 97) from rfl) (by rfl)) (by rfl) (by rfl) ?_
      refine Ls.ev (some 99) (Ev.pickF (show Oper.op _ = Op.pick (Operand.tmp 92) (Operand.const (Value.bool true)) (Operand.tmp 98) from rfl) (by rfl) (by rfl)) (by rfl) (by rfl) ?_
      refine Ls.nil ?_
      refine Cd.cond_false (by rfl) (rfl) ?_
      refine Cd.skip ?_
      refine Cd.region ?_
      refine Ls.ev (some 76) (Ev.move (show Oper.op _ = Op.move (Operand.tmp 12) from rfl) (by rfl)) (by rfl) (by rfl) ?_
      refine Ls.ev (some 77) (Ev.addN (b := 1) (show Oper.op _ = Op.binOp BinOp.add 3 (Operand.tmp 76) (Operand.const (Value.int IntKind.i64 1)) 3 from rfl) (by rfl) (by rfl) (by omega)) (by rfl) (by rfl) ?_
      refine Ls.ev (some 12) (Ev.assign (show Oper.op _ = Op.assign (Operand.tmp 77) from rfl) (by rfl)) (by rfl) (by rfl) ?_
      refine Ls.nil ?_
      refine Ent.pick [7, 8, 9, 10, 11, 12, 13, 14, 15, 16] (by rfl) ?_
      refine Ent.inv (j + 1) ?_ ?_ ?_
      · (try dsimp only); exact ⟨hj2, by omega⟩
      · (repeat (first | exact trivial | refine ⟨by rfl, ?_⟩ | refine ⟨by simp only [List.length_append, List.length_cons, List.length_nil]; rfl, ?_⟩ | refine ⟨by push_cast; rfl, ?_⟩))
      · rfl
    · skip
      refine Ent.map (fun w hs => Sat.arg (i := 9) (by rfl) hx.2.2 hs) ?_
      refine Cd.exit ?_
      refine Cd.seq ?_
      refine Cd.region ?_
      refine Ls.ev (some 100) (Ev.move (show Oper.op _ = Op.move (Operand.tmp 3) from rfl) (by rfl)) (by rfl) (by rfl) ?_
      refine Ls.ev (some 101) (Ev.move (show Oper.op _ = Op.move (Operand.tmp 0) from rfl) (by rfl)) (by rfl) (by rfl) ?_
      refine Ls.ev (some 102) (Ev.move (show Oper.op _ = Op.move (Operand.tmp 5) from rfl) (by rfl)) (by rfl) (by rfl) ?_
      refine Ls.ev (some 103) (Ev.indexAt (sz := 4) (show Oper.op _ = Op.indexAddr 57 (Operand.tmp 101) (Operand.tmp 102) from rfl) (by rfl) (by rfl) Tryz.underlying57 (by kernel_rfl) (by omega)) (by rfl) (by rfl) ?_
      refine Ls.ev (some 104) (Ev.fieldAddrE0 (k := 3) (show Oper.op _ = Op.fieldAddr 59 (Operand.tmp 103) 3 from rfl) (by rfl) (by kernel_rfl)) (by rfl) (by rfl) ?_
      refine Ls.ev (some 105) (Ev.loadElF (show Oper.op _ = Op.load 35 (Operand.tmp 104) from rfl) (by rfl) (ReadsIn.rd 6 (by rfl)) (by kernel_rfl) (by intro _; rfl) (by assumption) (by rfl)) (by rfl) (by rfl) ?_
      refine Ls.does (some 106) (Does.readN (show Oper.op _ = Op.call { callee := Callee.value (Operand.func 23), args := #[Operand.tmp 100, Operand.tmp 105], argTypes := #[23, 35] } from rfl) Tryz.func23 (by kernel_rfl) (by kernel_rfl) (crash_sl hD2 hcap x.kA x.kc x.ks) (by rfl) (by rfl) ⟨blkIn 1 (by rfl), mapIn 2 (by rfl), filIn 3 (by rfl), ReadsIn.rd 0 (by rfl), trivial⟩ (fun _ => by rfl)) (by rfl) (by rfl) ?_
      rintro X hX
      refine Ls.ev (some 3) (Ev.assign (show Oper.op _ = Op.assign (Operand.tmp 106) from rfl) (by rfl)) (by rfl) (by rfl) ?_
      refine Ls.nil ?_
      refine Cd.seq ?_
      refine Cd.region ?_
      refine Ls.ev (some 108) (Ev.move (show Oper.op _ = Op.move (Operand.tmp 3) from rfl) (by rfl)) (by rfl) (by rfl) ?_
      refine Ls.does (some 109) (Does.readN (show Oper.op _ = Op.call { callee := Callee.value (Operand.func 9), args := #[Operand.tmp 108, Operand.const (Value.int IntKind.i64 1)], argTypes := #[23, 3] } from rfl) Tryz.func9 (by kernel_rfl) (by kernel_rfl) (open_sl hX 1 (by omega) (by omega)) (by rfl) (by rfl) ⟨blkIn 0 (by rfl), mapIn 1 (by rfl), filIn 2 (by rfl), laidIn 12 (by rfl), trivial⟩ (fun _ => by rfl)) (by rfl) (by rfl) ?_
      rintro ⟨g2, ⟨qA, qc⟩, T2⟩ hT2
      dsimp only at hT2 ⊢
      obtain ⟨q, q1, q2, q3, q4, q5, q6⟩ := hF.crash (by omega) x.ks
      have hsg2 : ({ P with left := l1 } : DrP).seg 1 = P.seg 1 := rfl
      rw [hsg2] at q4
      refine Ls.ev (some 107) (Ev.move (show Oper.op _ = Op.move (Operand.tmp 109) from rfl) (by rfl)) (by rfl) (by rfl) ?_
      refine Ls.ev (some 110) (Ev.extract (show Oper.op _ = Op.extract (Operand.tmp 107) 0 from rfl) (by rfl) (by rfl)) (by rfl) (by rfl) ?_
      refine Ls.ev (some 111) (Ev.extract (show Oper.op _ = Op.extract (Operand.tmp 107) 1 from rfl) (by rfl) (by rfl)) (by rfl) (by rfl) ?_
      refine Ls.ev (some 112) (Ev.extract (show Oper.op _ = Op.extract (Operand.tmp 107) 2 from rfl) (by rfl) (by rfl)) (by rfl) (by rfl) ?_
      refine Ls.ev (some 4) (Ev.assign (show Oper.op _ = Op.assign (Operand.tmp 111) from rfl) (by rfl)) (by rfl) (by rfl) ?_
      refine Ls.ev (some 8) (Ev.assign (show Oper.op _ = Op.assign (Operand.tmp 112) from rfl) (by rfl)) (by rfl) (by rfl) ?_
      refine Ls.nil ?_
      refine Cd.seq ?_
      refine Cd.region ?_
      refine Ls.ev (some 113) (Ev.move (show Oper.op _ = Op.move (Operand.tmp 8) from rfl) (by rfl)) (by rfl) (by rfl) ?_
      refine Ls.ev (some 114) (Ev.neq (show Oper.op _ = Op.binOp BinOp.neq 27 (Operand.tmp 113) (Operand.const (Value.int IntKind.i64 0)) 27 from rfl) (by rfl) (by rfl)) (by rfl) (by rfl) ?_
      refine Ls.nil ?_
      refine Cd.cond_false (by rfl) (decide_eq_false (show ¬ ((0 : Int) ≠ 0) from fun h => h rfl)) ?_
      refine Cd.skip ?_
      refine Cd.region ?_
      refine Ls.ev (some 29) (Ev.move (show Oper.op _ = Op.move (Operand.tmp 5) from rfl) (by rfl)) (by rfl) (by rfl) ?_
      refine Ls.ev (some 30) (Ev.addN (b := 1) (show Oper.op _ = Op.binOp BinOp.add 3 (Operand.tmp 29) (Operand.const (Value.int IntKind.i64 1)) 3 from rfl) (by rfl) (by rfl) (by omega)) (by rfl) (by rfl) ?_
      refine Ls.ev (some 5) (Ev.assign (show Oper.op _ = Op.assign (Operand.tmp 30) from rfl) (by rfl)) (by rfl) (by rfl) ?_
      refine Ls.nil ?_
      refine Ent.pick [1, 2, 3, 4, 5, 12, 15, 16] (by rfl) ?_
      refine Ent.inv ((i + 1, X, P2.crash x.ks, (qA, qc, T2))) ?_ ?_ ?_
      · (try dsimp only); exact ⟨⟨hlt, hX, rfl, segsTo_le q4 (by omega), q5, by omega, hT2.symm⟩, by omega⟩
      · (repeat (first | exact trivial | refine ⟨by rfl, ?_⟩ | refine ⟨by simp only [List.length_append, List.length_cons, List.length_nil]; rfl, ?_⟩ | refine ⟨by push_cast; rfl, ?_⟩))
      · rfl
  · skip
    refine Cd.exit ?_
    refine Cd.seq ?_
    refine Cd.region ?_
    refine Ls.ev (some 2) (Ev.assign (show Oper.op _ = Op.assign (Operand.const (Value.bool true)) from rfl) (by rfl)) (by rfl) (by rfl) ?_
    refine Ls.nil ?_
    refine Cd.ret ?_
    refine Ent.ret (()) (trivial) (Res.tmp (by rfl) (by rfl)) ?_ [] (by rfl) ?_
    · rfl
    · rfl
end Go.Proofs.YtceanciekadkeaaGreatDoor
/- A law over laid variables: the row's step, once for all. -/
namespace Go.Proofs.YtceanciekadkeaaGreatDoor
open Go.ChangeShapes Go.WideShapes Go.ChangeAt Go.RowKit

/-- A law that answers true and writes nothing that was there, over laid variables: its row's step, in either form. -/
theorem lift_laid {C : Checked} {os : Os} {f : FuncId} {fn : Func} {s : ChangeSpec} {sp : OpenSpec} {H : Type} {enc : TypeId × Value → H} {conds : List PathCond} {tb : TypeId} {F : Stop.Interp} {laid : List (String × DataW Unit)} (ts : Array TypeId)
    (hbare : sp.bare.plain.varTypes C.prog = []) (hat : (sp.at F) = s)
    (own : ownKnob C.prog.godebug = none) (lo : laidOutB C.prog = true) (started : os.Started) (noInit : C.prog.inits.idxOf? f = none) (hfn : C.prog.funcs[f]? = some fn)
    (witness : ∃ (w : World) (tape : Tape) (i : Input), w.os = os ∧ (w.forCall tape i).Shaped C.prog ∧ i.vars = [] ∧ Input.okWide C.prog (w.forCall tape i) .any w.heap.size f i ∧
      sp.preRow enc C.prog fn conds false laid (w.forCall tape i).memory i.args ∧ ({} : Assume).holds C.prog (lone (Frame.enter C.prog f i.args .normal) [] (w.forCall tape i)))
    (hts : fn.params = ts) (hrow : rowed C.prog ts.toList = true) (hvars : s.vars = []) (hvars2 : sp.vars = []) (hres : fn.resultTypes = #[tb]) (hb : C.prog.underlying tb = some .bool)
    (hs : ∀ ds : List (DataW H), ds.length = ts.toList.length → s.fn H ds = { results := [.lit (.bool true)], args := ds })
    (walk : ∀ (W : World) (args : Array Value) (ds : List (DataW H)) (p : List MemPlace), laidMetH C.prog laid W → W.ShapedOpen C.prog → Vals C.prog W ts.toList args.toList →
      DataW.TrodAll enc C.prog W 0 (fun _ => true) true ts.toList args.toList ds p → (∀ k, sp.cond = some k → k H ds = true) →
      Calls C.prog f args W fun e W' => e = .returned (.bool true) ∧ Below W.heap.size W W') :
    ReturnsInHanded {} C os f .any (sp.preRow enc C.prog fn conds false laid) ((sp.at F).post enc C.prog fn false true false false) := by
  refine returnsInHanded_of_row own started noInit hfn witness ?_
  intro W base args ds gs before hval hW _ hk hsz hL hsh _
  subst hts
  rw [hvars2] at hW
  have hW' : DataW.Whole enc C.prog fn.params.toList s.vars false W args.toList ds gs before := by rw [hvars]; exact hW
  have hW2 := hW'
  obtain ⟨p, q, hA, hV, rfl, _, _⟩ := hW2
  rw [hvars] at hV
  obtain ⟨rfl, rfl⟩ := trodVars_none hV
  rw [hbare, List.append_nil, List.append_nil] at hsz
  have hv := vals_of_trodAll (fun j t v hj hj' => hval j t v (by simpa using hj) (by simpa using hj')) hA (fun n hn => by simpa using List.all_eq_true.1 hsz n hn)
  refine (walk W args ds p hL hsh hv hA (fun k h => by simpa using hk k h)).mono fun e W' ⟨he, bel⟩ => ?_
  subst he
  have hfn' : s.fn H (ds ++ []) = { results := [.lit (.bool true)], args := ds } := by
    rw [List.append_nil]
    exact hs ds (trodAll_length hA).1
  have key : s.post enc C.prog fn false true false false W args (.bool true) W' := by
    refine ⟨ds, [], p ++ [], [], p, [], hW', ?_, ?_, ?_, bel.frame _, fun h => by cases h⟩
    · rw [hfn', hres]
      exact trodAll_mk1 (shut_bool hb true)
    · rw [hfn']
      exact trodAll_below lo bel hrow hA
    · rw [hfn', hvars]
      rfl
  rw [hat]
  exact ⟨_, rfl, key⟩

/-- Pieces that are all read alone. -/
theorem sat0_ro {H : List Chunk} {w : World} (hx : ∀ D ∈ H, D.excl = false) (hh : ∀ D ∈ H, D.holds w) : Sat0 H w :=
  ⟨hh, List.pairwise_iff_getElem.2 fun i j hi hj _ he => by
    rw [hx _ (List.getElem_mem hi), hx _ (List.getElem_mem hj)] at he
    rcases he with he | he <;> cases he⟩
theorem Fn.lawR {P : Program} {f : FuncId} {args : Array Value} {W : World} {H : List Chunk} (hx : ∀ D ∈ H, D.excl = false) (hh : ∀ D ∈ H, D.holds W)
    (h : Fn P f args H Unit (fun _ => .bool true) (fun _ => []) (fun _ => True)) : Calls P f args W fun e w' => e = .returned (.bool true) ∧ Below W.heap.size W w' :=
  (h W (sat0_ro hx hh)).mono fun e w' ⟨_, _, he, hs⟩ => ⟨he, hs.upd.to_below (Nat.le_refl _) fun k _ ⟨D, hD, hd, _⟩ => by rw [hx D hD] at hd; cases hd⟩

/-- A variable that the row lists as an error holds some error. -/
theorem iface_of_head {P : Program} {W : World} {n nm : String} {d : DataW Unit} {r : List (String × DataW Unit)} {g : Nat} {ti : TypeId} {ms : Array (String × TypeId)} (h : laidMet P ((n, .iface nm d) :: r) W)
    (hg : P.globalNamed n = some g) (ht : (P.globals[g]?).map (·.type) = some ti) (hi : P.underlying ti = some (.interface ms)) : ∃ tp p, W.var? P n = some #[.iface tp p] := by
  obtain ⟨ps, ⟨g0, t0, cs0, f0, p0, q0, hg0, ht0, hv0, hd0, _, _⟩, _, _⟩ := h
  obtain rfl := Option.some.inj (hg.symm.trans hg0)
  obtain rfl := Option.some.inj (ht.symm.trans ht0)
  obtain ⟨_, u, v, e, _, _⟩ := iface_of_trod hi hd0
  obtain ⟨l0⟩ := cs0
  subst e
  exact ⟨u, v, hv0⟩

def lawsLaid : List (String × DataW Unit) := [("math/bits.deBruijn32tab", Rows.laid_math_bits_deBruijn32tab), ("math/bits.deBruijn64tab", Rows.laid_math_bits_deBruijn64tab), ("internal/strconv.uint64pow10", Rows.laid_internal_strconv_uint64pow10), ("strconv.ErrRange", Rows.laid_strconv_ErrRange), ("strconv.ErrSyntax", Rows.laid_strconv_ErrSyntax)]
theorem pow10_data : (Rows.laid_internal_strconv_uint64pow10 : DataW Unit) = Lib.tabData .u64 Lib.pow10Tab := by kernel_rfl
theorem laidH_of_row {W : World} (h : laidMetH Tryz.prog lawsLaid W) (_ : W.ShapedOpen Tryz.prog) : laidH W := by
  rw [MakeChecks.laidMetH_plain _ _ _ (by kernel_rfl)] at h
  have h2 : laidMet Tryz.prog (("internal/strconv.uint64pow10", Lib.tabData .u64 Lib.pow10Tab) :: lawsLaid.drop 3) W := by
    rw [← pow10_data]
    exact h.tail.tail
  refine ⟨?_, ?_, ?_⟩
  · exact Lib.tabIs_of_head gT (by kernel_rfl) Tryz.underlying179 Tryz.underlying109 (by kernel_rfl) (by kernel_rfl) h2
  · exact iface_of_head h.tail.tail.tail.tail gS (by kernel_rfl) Tryz.underlying121
  · exact iface_of_head h.tail.tail.tail gR (by kernel_rfl) Tryz.underlying121

/-! ### one start that fits -/
/-- The cells of a table, as the row lists it. -/
def flatD : Nat → DataW Unit → List Value
  | 0, _ => []
  | _ + 1, .lit (.int k m) => [.int k m]
  | n + 1, .agg ps => ps.flatMap (flatD n)
  | _ + 1, _ => []
noncomputable def low : Nat := (World.holding Tryz.prog default ⟨#[], #[], []⟩).heap.size
def putG_ (cs : List Value) : Obj → Obj
  | .cells _ t frozen => .cells cs.toArray t frozen
  | o => o
noncomputable def laidWorld (os : Os) : World :=
  let w0 := World.holding Tryz.prog os ⟨#[.cells #[.string (txt [118, 97, 108, 117, 101, 32, 111, 117, 116, 32, 111, 102, 32, 114, 97, 110, 103, 101])] 191, .cells #[.string (txt [105, 110, 118, 97, 108, 105, 100, 32, 115, 121, 110, 116, 97, 120])] 191], #[], []⟩
  { w0 with heap := ((((w0.heap.modify 4 (putG_ (flatD 3 Rows.laid_math_bits_deBruijn32tab))).modify 5 (putG_ (flatD 3 Rows.laid_math_bits_deBruijn64tab))).modify 2 (putG_ (flatD 3 Rows.laid_internal_strconv_uint64pow10))).modify 1 (putG_ [.iface 189 (.pointer (some ⟨low, 0, none⟩))])).modify 0 (putG_ [.iface 189 (.pointer (some ⟨low + 1, 0, none⟩))]) }
theorem laid_met (os : Os) (args : Array Value) : laidMet Tryz.prog lawsLaid ((laidWorld os).forCall (fun _ _ => 0) ⟨#[], args, []⟩).memory :=
  laidMet_of_run' 8 (by kernel_rfl) (by kernel_rfl)
theorem laid_metH (os : Os) (args : Array Value) : laidMetH Tryz.prog lawsLaid ((laidWorld os).forCall (fun _ _ => 0) ⟨#[], args, []⟩).memory := by
  rw [MakeChecks.laidMetH_plain _ _ _ (by kernel_rfl)]
  exact laid_met os args
theorem own_none : ownKnob Tryz.prog.godebug = none := by kernel_rfl
theorem laid_outB : laidOutB Tryz.prog = true := by kernel_rfl
end Go.Proofs.YtceanciekadkeaaGreatDoor
