/-
  Texts joined: SstZ, SstAA, SstAB, SstAC, SstY, SstLV, SlS, SlT.
-/
import Derived.Test.YtnhcfhamcakfkaaMSstL3a
import Derived.Test.YtnhcfhamcakfkaaMSstL3d
import Derived.Test.YtnhcfhamcakfkaaMSstL3e
import Derived.Test.YtnhcfhamcakfkaaMSstL3f
/- the document's Put (layer 4), convoylaw06.Good -/
namespace Go.Proofs.Ytnhcfhamcakfkaa
open Go.RowKit
theorem Ent.rowCap {Γ : Ctx} {N : Frm} {E : Env} {H : List Chunk} {A : Asrt} {B : Option Addr} {n c e sz : Nat} {xs : List Value} (i : Nat) (hi : H[i]? = some (row B n c e sz xs)) (h : n ≤ c → Ent Γ N E H A) : Ent Γ N E H A :=
  Ent.fact i hi (p := n ≤ c) (fun w ho => by
    have ho : Own w 0 e sz B n c xs := ho
    rcases ho.form with ⟨_, rfl, rfl, _⟩ | ⟨g, cur, _, _, _, hn, _⟩
    · exact Nat.le_refl _
    · exact hn) h
def putAt (l : List Ety) (e : Ety) : Nat := (l.takeWhile (fun x => befE x e)).length
def twiceE (l : List Ety) (e : Ety) : Bool := (l[putAt l e]?).any (fun x => decide (x.key = e.key) && decide (x.seq = e.seq))
def putN (l : List Ety) (e : Ety) : List Ety := l.take (putAt l e) ++ e :: l.drop (putAt l e)
def putS (l : List Ety) (e : Ety) : Option (List Ety) := if errE e ≠ 0 then none else if twiceE l e = true then none else some (putN l e)
def putE (e : Ety) : Int := if errE e ≠ 0 then errE e else 2
theorem putAt_le (l : List Ety) (e : Ety) : putAt l e ≤ l.length := (List.takeWhile_sublist _).length_le
theorem putAt_cons (x : Ety) (l : List Ety) (e : Ety) : putAt (x :: l) e = if befE x e = true then putAt l e + 1 else 0 := by
  unfold putAt
  rw [List.takeWhile_cons]
  split <;> rfl
theorem putAt_step (e : Ety) : ∀ (l : List Ety) (k : Nat) (x : Ety), k ≤ putAt l e → l[k]? = some x → (befE x e = true ↔ k + 1 ≤ putAt l e)
  | [], k, x, _, hx => by simp at hx
  | y :: l, k, x, hk, hx => by
    rw [putAt_cons] at hk ⊢
    cases k with
    | zero =>
      simp only [List.getElem?_cons_zero, Option.some.injEq] at hx
      subst hx
      split <;> simp_all
    | succ k =>
      rw [List.getElem?_cons_succ] at hx
      split at hk
      · rename_i h
        rw [if_pos h, putAt_step e l k x (by omega) hx]
        omega
      · omega
theorem putN_len (l : List Ety) (e : Ety) : (putN l e).length = l.length + 1 := by
  have := putAt_le l e
  unfold putN
  rw [List.length_append, List.length_cons, List.length_take, List.length_drop]
  omega
def putRes (A : Option Addr) (c : Nat) (l : List Ety) (e : Ety) : Option (Option Addr × Nat) → Value
  | none => .tuple #[.slice A l.length c, .int .i64 (putE e)]
  | some q => .tuple #[.slice q.1 (putN l e).length q.2, .int .i64 0]
def putPost (l : List Ety) (e : Ety) : Option (Option Addr × Nat) → List Chunk
  | none => []
  | some q => [rowE q.1 q.2 (putN l e)]
theorem refPut_any (A : Option Addr) (c : Nat) (l : List Ety) (e : Ety) (hn : l.length ≤ 1099511627776) (hc : l.length ≤ c) : Fn Try.prog 50 #[.slice A l.length c, .agg e.enc.toArray] [rdE A l] (Option (Option Addr × Nat)) (putRes A c l e) (putPost l e) (fun p => p.isSome = (putS l e).isSome) := by
  have hpa := putAt_le l e
  refine Fn.enter Try.func50 rfl Try.ntmps50 (by rfl) ?_
  intro w0
  skip
  refine Cd.seq ?_
  refine Cd.region ?_
  refine Ls.does (some 3) (Does.box (show Oper.op _ = Op.box 42 (Operand.tmp 1) from rfl) (by rfl)) (by rfl) (by rfl) ?_
  intro g1 _
  refine Ls.ev (some 4) (Ev.assign (show Oper.op _ = Op.assign (Operand.const (Value.slice none 0 0)) from rfl) (by rfl)) (by rfl) (by rfl) ?_
  refine Ls.ev (some 5) (Ev.assign (show Oper.op _ = Op.assign (Operand.const (Value.int IntKind.i64 0)) from rfl) (by rfl)) (by rfl) (by rfl) ?_
  refine Ls.nil ?_
  refine Cd.seq ?_
  refine Cd.region ?_
  refine Ls.ev (some 9) (Ev.loads 0 (show Oper.op _ = Op.load 42 (Operand.tmp 3) from rfl) (by rfl) (by rfl) (n := 4) (by kernel_rfl) (by rfl) (by rfl)) (by rfl) (by rfl) ?_
  refine Ls.does (some 10) (Does.read (show Oper.op _ = Op.call { callee := Callee.value (Operand.func 37), args := #[Operand.tmp 9], argTypes := #[42] } from rfl) Try.func37 (by kernel_rfl) (by kernel_rfl) (refErr_sl e) (by rfl) (by rfl) trivial) (by rfl) (by rfl) ?_
  rintro _ -
  refine Ls.ev (some 6) (Ev.assign (show Oper.op _ = Op.assign (Operand.tmp 10) from rfl) (by rfl)) (by rfl) (by rfl) ?_
  refine Ls.nil ?_
  refine Cd.seq ?_
  refine Cd.seq ?_
  refine Cd.region ?_
  refine Ls.ev (some 11) (Ev.move (show Oper.op _ = Op.move (Operand.tmp 6) from rfl) (by rfl)) (by rfl) (by rfl) ?_
  refine Ls.ev (some 12) (Ev.neq (show Oper.op _ = Op.binOp BinOp.neq 3 (Operand.tmp 11) (Operand.const (Value.int IntKind.i64 0)) 3 from rfl) (by rfl) (by rfl)) (by rfl) (by rfl) ?_
  refine Ls.nil ?_
  refine Cd.cond _ (by rfl) (fun h1 => ?_) (fun h1 => ?_)
  · skip
    have h1 : errE e ≠ 0 := of_decide_eq_true h1
    refine Cd.seq ?_
    refine Cd.region ?_
    refine Ls.ev (some 13) (Ev.move (show Oper.op _ = Op.move (Operand.tmp 0) from rfl) (by rfl)) (by rfl) (by rfl) ?_
    refine Ls.ev (some 14) (Ev.move (show Oper.op _ = Op.move (Operand.tmp 6) from rfl) (by rfl)) (by rfl) (by rfl) ?_
    refine Ls.ev (some 4) (Ev.assign (show Oper.op _ = Op.assign (Operand.tmp 13) from rfl) (by rfl)) (by rfl) (by rfl) ?_
    refine Ls.ev (some 5) (Ev.assign (show Oper.op _ = Op.assign (Operand.tmp 14) from rfl) (by rfl)) (by rfl) (by rfl) ?_
    refine Ls.nil ?_
    refine Cd.ret ?_
    refine Ent.ret (none) ((by unfold putS; rw [if_pos h1]; rfl)) (Res.tmp2 (by rfl) (by rfl) (by rfl)) ?_ [] (by rfl) ?_
    · unfold putRes putE; rw [if_pos h1]
    · rfl
  · skip
    have h1 : ¬ errE e ≠ 0 := of_decide_eq_false h1
    refine Cd.skip ?_
    refine Cd.seq ?_
    refine Cd.region ?_
    refine Ls.ev (some 7) (Ev.assign (show Oper.op _ = Op.assign (Operand.const (Value.slice none 0 0)) from rfl) (by rfl)) (by rfl) (by rfl) ?_
    refine Ls.nil ?_
    refine Cd.seq ?_
    refine Cd.region ?_
    refine Ls.ev (some 8) (Ev.assign (show Oper.op _ = Op.assign (Operand.const (Value.int IntKind.i64 0)) from rfl) (by rfl)) (by rfl) (by rfl) ?_
    refine Ls.nil ?_
    refine Cd.seq ?_
    refine Cd.block ?_
    refine Ent.nil 42 4 ?_
    refine Cd.loop (ι := Nat × Option Addr × Nat) (fun j => [(0, .slice A l.length c), (3, .pointer (some ⟨g1, 0, none⟩)), (7, .slice j.2.1 (l.take j.1).length j.2.2), (8, .int .i64 j.1)]) (fun j => [rowE j.2.1 j.2.2 (l.take j.1), blk g1 42 e.enc, rdE A l]) (fun j => j.1 ≤ putAt l e) (fun j => l.length - j.1) ((0, none, 0)) (Nat.zero_le _) ?_ rfl ?_
    · (repeat (first | exact trivial | refine ⟨by rfl, ?_⟩))
    rintro ⟨k, qA, qc⟩ hk
    dsimp only at hk ⊢
    have hlt : (l.take k).length = k := by rw [List.length_take]; omega
    refine Cd.seq ?_
    refine Cd.seq ?_
    refine Cd.cut (ι := Unit) (fun _ => [(0, .slice A l.length c), (3, .pointer (some ⟨g1, 0, none⟩)), (7, .slice qA (l.take k).length qc), (8, .int .i64 k), (26, .bool (decide (k < putAt l e)))]) (fun _ => [rowE qA qc (l.take k), blk g1 42 e.enc, rdE A l]) (fun _ => True) ?_ ?_
    · skip
      refine Cd.draw [] (by kernel_rfl) ?_
      refine Rg.ev 0 (by rfl) (fun _ h => h) (Ev.move (show Oper.op _ = Op.move (Operand.tmp 8) from rfl) (by rfl)) (by rfl) (some 15) (by rfl) (by kernel_rfl) (by kernel_rfl) (by kernel_rfl) (by kernel_rfl) ?_
      refine Rg.ev 1 (by rfl) (fun _ h => h) (Ev.move (show Oper.op _ = Op.move (Operand.tmp 0) from rfl) (by rfl)) (by rfl) (some 16) (by rfl) (by kernel_rfl) (by kernel_rfl) (by kernel_rfl) (by kernel_rfl) ?_
      refine Rg.ev 2 (by rfl) (fun _ h => h) (Ev.len (show Oper.op _ = Op.call { callee := Callee.builtin Builtin.len, args := #[Operand.tmp 16], argTypes := #[22] } from rfl) (by rfl) Try.underlying22) (by rfl) (some 17) (by rfl) (by kernel_rfl) (by kernel_rfl) (by kernel_rfl) (by kernel_rfl) ?_
      refine Rg.ev 3 (by rfl) (fun _ h => h) (Ev.lss (show Oper.op _ = Op.binOp BinOp.lss 3 (Operand.tmp 15) (Operand.tmp 17) 3 from rfl) (by rfl) (by rfl)) (by rfl) (some 18) (by rfl) (by kernel_rfl) (by kernel_rfl) (by kernel_rfl) (by kernel_rfl) ?_
      refine Rg.ev 4 (by rfl) (fun _ h => h) (Ev.move (show Oper.op _ = Op.move (Operand.tmp 18) from rfl) (by rfl)) (by rfl) (some 19) (by rfl) (by kernel_rfl) (by kernel_rfl) (by kernel_rfl) (by kernel_rfl) ?_
      refine Ent.split 19 (by rfl) (fun h2 => ?_) (fun h2 => ?_)
      · skip
        have hk2 : ¬ k < l.length := by have := of_decide_eq_false h2; omega
        refine Rg.pass 5 (by rfl) (fun _ h => h) (by rfl) (some 20) (by rfl) (by kernel_rfl) (by kernel_rfl) (by kernel_rfl) (by kernel_rfl) ?_
        refine Rg.pass 6 (by rfl) (fun _ h => h) (by rfl) (some 21) (by rfl) (by kernel_rfl) (by kernel_rfl) (by kernel_rfl) (by kernel_rfl) ?_
        refine Rg.pass 7 (by rfl) (fun _ h => h) (by rfl) (some 22) (by rfl) (by kernel_rfl) (by kernel_rfl) (by kernel_rfl) (by kernel_rfl) ?_
        refine Rg.pass 8 (by rfl) (fun _ h => h) (by rfl) (some 23) (by rfl) (by kernel_rfl) (by kernel_rfl) (by kernel_rfl) (by kernel_rfl) ?_
        refine Rg.pass 9 (by rfl) (fun _ h => h) (by rfl) (some 24) (by rfl) (by kernel_rfl) (by kernel_rfl) (by kernel_rfl) (by kernel_rfl) ?_
        refine Rg.pass 10 (by rfl) (fun _ h => h) (by rfl) (some 25) (by rfl) (by kernel_rfl) (by kernel_rfl) (by kernel_rfl) (by kernel_rfl) ?_
        refine Rg.ev 11 (by rfl) (fun _ h => h) (Ev.pickF (show Oper.op _ = Op.pick (Operand.tmp 19) (Operand.tmp 25) (Operand.const (Value.bool false)) from rfl) (by rfl) (by rfl)) (by rfl) (some 26) (by rfl) (by kernel_rfl) (by kernel_rfl) (by kernel_rfl) (by kernel_rfl) ?_
        refine Rg.done (by kernel_rfl) ?_ _
        refine Ent.inv (()) ?_ ?_ ?_
        · (try dsimp only); skip
        · (repeat (first | exact trivial | refine ⟨by rfl, ?_⟩ | refine ⟨by simp only [List.length_append, List.length_cons, List.length_nil]; rfl, ?_⟩ | refine ⟨by push_cast; rfl, ?_⟩ | refine ⟨by (show some (Value.bool _) = some (Value.bool _); congr 2; exact (decide_eq_false (by omega)).symm), ?_⟩))
        · rfl
      · skip
        have hk2 : k < l.length := by have := of_decide_eq_true h2; omega
        obtain ⟨x, hx⟩ := get_of_lt hk2
        refine Ent.rdSome 2 (by rfl) (by omega) (fun ad had => ?_)
        subst had
        refine Rg.ev 5 (by rfl) (fun _ h => h) (Ev.move (show Oper.op _ = Op.move (Operand.tmp 0) from rfl) (by rfl)) (by rfl) (some 20) (by rfl) (by kernel_rfl) (by kernel_rfl) (by kernel_rfl) (by kernel_rfl) ?_
        refine Rg.ev 6 (by rfl) (fun _ h => h) (Ev.move (show Oper.op _ = Op.move (Operand.tmp 8) from rfl) (by rfl)) (by rfl) (some 21) (by rfl) (by kernel_rfl) (by kernel_rfl) (by kernel_rfl) (by kernel_rfl) ?_
        refine Rg.ev 7 (by rfl) (fun _ h => h) (Ev.indexAt (sz := 4) (show Oper.op _ = Op.indexAddr 22 (Operand.tmp 20) (Operand.tmp 21) from rfl) (by rfl) (by rfl) Try.underlying22 (by kernel_rfl) (by omega)) (by rfl) (some 22) (by rfl) (by kernel_rfl) (by kernel_rfl) (by kernel_rfl) (by kernel_rfl) ?_
        refine Rg.ev 8 (by rfl) (fun _ h => h) (Ev.loadEl (show Oper.op _ = Op.load 42 (Operand.tmp 22) from rfl) (by rfl) (ReadsIn.rd 2 (by rfl)) (by kernel_rfl) (by intro _; rfl) (by assumption)) (by rfl) (some 23) (by rfl) (by kernel_rfl) (by kernel_rfl) (by kernel_rfl) (by kernel_rfl) ?_
        refine Rg.ev 9 (by rfl) (fun _ h => h) (Ev.loads 1 (show Oper.op _ = Op.load 42 (Operand.tmp 3) from rfl) (by rfl) (by rfl) (n := 4) (by kernel_rfl) (by rfl) (by rfl)) (by rfl) (some 24) (by rfl) (by kernel_rfl) (by kernel_rfl) (by kernel_rfl) (by kernel_rfl) ?_
        refine Rg.does 10 (by rfl) (by kernel_rfl) (Does.read (show Oper.op _ = Op.call { callee := Callee.value (Operand.func 38), args := #[Operand.tmp 23, Operand.tmp 24], argTypes := #[42, 42] } from rfl) Try.func38 (by kernel_rfl) (by kernel_rfl) (refBefore_sl x e) (by rfl) (by rfl) trivial) (by rfl) (some 25) (by rfl) (by exact fun _ _ h => h) ?_
        rintro _ -
        refine Rg.ev 11 (by rfl) (fun _ h => h) (Ev.pickT (show Oper.op _ = Op.pick (Operand.tmp 19) (Operand.tmp 25) (Operand.const (Value.bool false)) from rfl) (by rfl) (by rfl)) (by rfl) (some 26) (by rfl) (by kernel_rfl) (by kernel_rfl) (by kernel_rfl) (by kernel_rfl) ?_
        refine Rg.done (by kernel_rfl) ?_ _
        refine Ent.inv (()) ?_ ?_ ?_
        · (try dsimp only); skip
        · (repeat (first | exact trivial | refine ⟨by rfl, ?_⟩ | refine ⟨by simp only [List.length_append, List.length_cons, List.length_nil]; rfl, ?_⟩ | refine ⟨by push_cast; rfl, ?_⟩ | refine ⟨by (show some (Value.bool _) = some (Value.bool _); congr 2; have := putAt_step e l k x hk hx; rw [Bool.eq_iff_iff, this, decide_eq_true_eq]; omega), ?_⟩))
        · rfl
    skip
    rintro _ -
    refine Cd.cond _ (by rfl) (fun h3 => ?_) (fun h3 => ?_)
    · skip
      have h3 : k < putAt l e := of_decide_eq_true h3
      obtain ⟨x, hx⟩ := get_of_lt (show k < l.length by omega)
      refine Ent.rdSome 2 (by rfl) (by omega) (fun ad had => ?_)
      subst had
      refine Cd.skip ?_
      refine Cd.block ?_
      refine Cd.seq ?_
      refine Cd.region ?_
      refine Ls.ev (some 27) (Ev.move (show Oper.op _ = Op.move (Operand.tmp 7) from rfl) (by rfl)) (by rfl) (by rfl) ?_
      refine Ls.ev (some 28) (Ev.move (show Oper.op _ = Op.move (Operand.tmp 0) from rfl) (by rfl)) (by rfl) (by rfl) ?_
      refine Ls.ev (some 29) (Ev.move (show Oper.op _ = Op.move (Operand.tmp 8) from rfl) (by rfl)) (by rfl) (by rfl) ?_
      refine Ls.ev (some 30) (Ev.indexAt (sz := 4) (show Oper.op _ = Op.indexAddr 22 (Operand.tmp 28) (Operand.tmp 29) from rfl) (by rfl) (by rfl) Try.underlying22 (by kernel_rfl) (by omega)) (by rfl) (by rfl) ?_
      refine Ls.ev (some 31) (Ev.loadEl (show Oper.op _ = Op.load 42 (Operand.tmp 30) from rfl) (by rfl) (ReadsIn.rd 2 (by rfl)) (by kernel_rfl) (by intro _; rfl) (by assumption)) (by rfl) (by rfl) ?_
      refine Ls.does (some 32) (Does.lit (sz := 4) (show Oper.op _ = Op.buildSlice 22 1 #[(0, Operand.tmp 31)] from rfl) (by rfl) Try.underlying22 (by kernel_rfl) (by rfl) (by kernel_rfl)) (by rfl) (by rfl) ?_
      intro g2 _
      refine Ls.does (some 33) (Does.app (xs := (l.take k).flatMap Ety.enc) (news := x.enc) 1 (show Oper.op _ = Op.call { callee := Callee.builtin Builtin.append, args := #[Operand.tmp 27, Operand.tmp 32], argTypes := #[22, 22] } from rfl) (by rfl) (by rfl) (by rfl) (ReadsIn.row 0 (by rfl)) elem_ents (enc_one _) (by omega)) (by rfl) (by rfl) ?_
      intro q _
      refine Ls.ev (some 7) (Ev.assign (show Oper.op _ = Op.assign (Operand.tmp 33) from rfl) (by rfl)) (by rfl) (by rfl) ?_
      refine Ls.nil ?_
      refine Cd.region ?_
      refine Ls.ev (some 34) (Ev.move (show Oper.op _ = Op.move (Operand.tmp 8) from rfl) (by rfl)) (by rfl) (by rfl) ?_
      refine Ls.ev (some 35) (Ev.addN (b := 1) (show Oper.op _ = Op.binOp BinOp.add 3 (Operand.tmp 34) (Operand.const (Value.int IntKind.i64 1)) 3 from rfl) (by rfl) (by rfl) (by omega)) (by rfl) (by rfl) ?_
      refine Ls.ev (some 8) (Ev.assign (show Oper.op _ = Op.assign (Operand.tmp 35) from rfl) (by rfl)) (by rfl) (by rfl) ?_
      refine Ls.nil ?_
      have hts : l.take (k + 1) = l.take k ++ [x] := by rw [List.take_add_one, hx]; rfl
      have htl : (l.take (k + 1)).length = (l.take k).length + 1 := by rw [hts, List.length_append]; rfl
      refine Ent.pick [1, 2, 3] (by rfl) ?_
      refine Ent.inv ((k + 1, q)) ?_ ?_ ?_
      · (try dsimp only); exact ⟨by omega, by omega⟩
      · (repeat (first | exact trivial | refine ⟨by rfl, ?_⟩ | refine ⟨by simp only [List.length_append, List.length_cons, List.length_nil]; rfl, ?_⟩ | refine ⟨by push_cast; rfl, ?_⟩ | refine ⟨by (show some (Value.slice _ _ _) = some (Value.slice _ _ _); dsimp only; rw [htl]), ?_⟩))
      · (show [_, _, _] = [row q.1 (l.take (k + 1)).length q.2 _ 4 ((l.take (k + 1)).flatMap Ety.enc), _, _]; rw [htl, hts, List.flatMap_append, List.flatMap_singleton])
    · skip
      have h3 : k = putAt l e := by have := of_decide_eq_false h3; omega
      subst h3
      refine Cd.exit ?_
      refine Cd.seq ?_
      refine Cd.seq ?_
      refine Cd.cut (ι := Unit) (fun _ => [(0, .slice A l.length c), (3, .pointer (some ⟨g1, 0, none⟩)), (7, .slice qA (l.take (putAt l e)).length qc), (8, .int .i64 (putAt l e)), (59, .bool (twiceE l e))]) (fun _ => [rowE qA qc (l.take (putAt l e)), blk g1 42 e.enc, rdE A l]) (fun _ => True) ?_ ?_
      · skip
        refine Cd.draw [] (by kernel_rfl) ?_
        refine Rg.ev 0 (by rfl) (fun _ h => h) (Ev.move (show Oper.op _ = Op.move (Operand.tmp 8) from rfl) (by rfl)) (by rfl) (some 36) (by rfl) (by kernel_rfl) (by kernel_rfl) (by kernel_rfl) (by kernel_rfl) ?_
        refine Rg.ev 1 (by rfl) (fun _ h => h) (Ev.move (show Oper.op _ = Op.move (Operand.tmp 0) from rfl) (by rfl)) (by rfl) (some 37) (by rfl) (by kernel_rfl) (by kernel_rfl) (by kernel_rfl) (by kernel_rfl) ?_
        refine Rg.ev 2 (by rfl) (fun _ h => h) (Ev.len (show Oper.op _ = Op.call { callee := Callee.builtin Builtin.len, args := #[Operand.tmp 37], argTypes := #[22] } from rfl) (by rfl) Try.underlying22) (by rfl) (some 38) (by rfl) (by kernel_rfl) (by kernel_rfl) (by kernel_rfl) (by kernel_rfl) ?_
        refine Rg.ev 3 (by rfl) (fun _ h => h) (Ev.lss (show Oper.op _ = Op.binOp BinOp.lss 3 (Operand.tmp 36) (Operand.tmp 38) 3 from rfl) (by rfl) (by rfl)) (by rfl) (some 39) (by rfl) (by kernel_rfl) (by kernel_rfl) (by kernel_rfl) (by kernel_rfl) ?_
        refine Rg.ev 4 (by rfl) (fun _ h => h) (Ev.move (show Oper.op _ = Op.move (Operand.tmp 39) from rfl) (by rfl)) (by rfl) (some 40) (by rfl) (by kernel_rfl) (by kernel_rfl) (by kernel_rfl) (by kernel_rfl) ?_
        refine Ent.split 40 (by rfl) (fun h4 => ?_) (fun h4 => ?_)
        · skip
          have hk2 : ¬ putAt l e < l.length := by have := of_decide_eq_false h4; omega
          refine Rg.pass 5 (by rfl) (fun _ h => h) (by rfl) (some 41) (by rfl) (by kernel_rfl) (by kernel_rfl) (by kernel_rfl) (by kernel_rfl) ?_
          refine Rg.pass 6 (by rfl) (fun _ h => h) (by rfl) (some 42) (by rfl) (by kernel_rfl) (by kernel_rfl) (by kernel_rfl) (by kernel_rfl) ?_
          refine Rg.pass 7 (by rfl) (fun _ h => h) (by rfl) (some 43) (by rfl) (by kernel_rfl) (by kernel_rfl) (by kernel_rfl) (by kernel_rfl) ?_
          refine Rg.pass 8 (by rfl) (fun _ h => h) (by rfl) (some 44) (by rfl) (by kernel_rfl) (by kernel_rfl) (by kernel_rfl) (by kernel_rfl) ?_
          refine Rg.pass 9 (by rfl) (fun _ h => h) (by rfl) (some 45) (by rfl) (by kernel_rfl) (by kernel_rfl) (by kernel_rfl) (by kernel_rfl) ?_
          refine Rg.pass 10 (by rfl) (fun _ h => h) (by rfl) (some 46) (by rfl) (by kernel_rfl) (by kernel_rfl) (by kernel_rfl) (by kernel_rfl) ?_
          refine Rg.pass 11 (by rfl) (fun _ h => h) (by rfl) (some 47) (by rfl) (by kernel_rfl) (by kernel_rfl) (by kernel_rfl) (by kernel_rfl) ?_
          refine Rg.pass 12 (by rfl) (fun _ h => h) (by rfl) (some 48) (by rfl) (by kernel_rfl) (by kernel_rfl) (by kernel_rfl) (by kernel_rfl) ?_
          refine Rg.ev 13 (by rfl) (fun _ h => h) (Ev.pickF (show Oper.op _ = Op.pick (Operand.tmp 40) (Operand.tmp 48) (Operand.const (Value.bool false)) from rfl) (by rfl) (by rfl)) (by rfl) (some 49) (by rfl) (by kernel_rfl) (by kernel_rfl) (by kernel_rfl) (by kernel_rfl) ?_
          refine Rg.ev 14 (by rfl) (fun _ h => h) (Ev.move (show Oper.op _ = Op.move (Operand.tmp 49) from rfl) (by rfl)) (by rfl) (some 50) (by rfl) (by kernel_rfl) (by kernel_rfl) (by kernel_rfl) (by kernel_rfl) ?_
          refine Rg.pass 15 (by rfl) (fun _ h => h) (by rfl) (some 51) (by rfl) (by kernel_rfl) (by kernel_rfl) (by kernel_rfl) (by kernel_rfl) ?_
          refine Rg.pass 16 (by rfl) (fun _ h => h) (by rfl) (some 52) (by rfl) (by kernel_rfl) (by kernel_rfl) (by kernel_rfl) (by kernel_rfl) ?_
          refine Rg.pass 17 (by rfl) (fun _ h => h) (by rfl) (some 53) (by rfl) (by kernel_rfl) (by kernel_rfl) (by kernel_rfl) (by kernel_rfl) ?_
          refine Rg.pass 18 (by rfl) (fun _ h => h) (by rfl) (some 54) (by rfl) (by kernel_rfl) (by kernel_rfl) (by kernel_rfl) (by kernel_rfl) ?_
          refine Rg.pass 19 (by rfl) (fun _ h => h) (by rfl) (some 55) (by rfl) (by kernel_rfl) (by kernel_rfl) (by kernel_rfl) (by kernel_rfl) ?_
          refine Rg.pass 20 (by rfl) (fun _ h => h) (by rfl) (some 56) (by rfl) (by kernel_rfl) (by kernel_rfl) (by kernel_rfl) (by kernel_rfl) ?_
          refine Rg.pass 21 (by rfl) (fun _ h => h) (by rfl) (some 57) (by rfl) (by kernel_rfl) (by kernel_rfl) (by kernel_rfl) (by kernel_rfl) ?_
          refine Rg.pass 22 (by rfl) (fun _ h => h) (by rfl) (some 58) (by rfl) (by kernel_rfl) (by kernel_rfl) (by kernel_rfl) (by kernel_rfl) ?_
          refine Rg.ev 23 (by rfl) (fun _ h => h) (Ev.pickF (show Oper.op _ = Op.pick (Operand.tmp 50) (Operand.tmp 58) (Operand.const (Value.bool false)) from rfl) (by rfl) (by rfl)) (by rfl) (some 59) (by rfl) (by kernel_rfl) (by kernel_rfl) (by kernel_rfl) (by kernel_rfl) ?_
          refine Rg.done (by kernel_rfl) ?_ _
          skip
          refine Ent.inv (()) ?_ ?_ ?_
          · (try dsimp only); skip
          · (repeat (first | exact trivial | refine ⟨by rfl, ?_⟩ | refine ⟨by simp only [List.length_append, List.length_cons, List.length_nil]; rfl, ?_⟩ | refine ⟨by push_cast; rfl, ?_⟩ | refine ⟨by (show some (Value.bool _) = some (Value.bool _); unfold twiceE; rw [List.getElem?_eq_none (by omega)]; rfl), ?_⟩))
          · rfl
        · skip
          have hk2 : putAt l e < l.length := by have := of_decide_eq_true h4; omega
          obtain ⟨x, hx⟩ := get_of_lt hk2
          refine Ent.rdSome 2 (by rfl) (by omega) (fun ad had => ?_)
          subst had
          have ht : twiceE l e = (decide (x.key = e.key) && decide (x.seq = e.seq)) := by unfold twiceE; rw [hx]; rfl
          skip
          refine Rg.ev 5 (by rfl) (fun _ h => h) (Ev.move (show Oper.op _ = Op.move (Operand.tmp 0) from rfl) (by rfl)) (by rfl) (some 41) (by rfl) (by kernel_rfl) (by kernel_rfl) (by kernel_rfl) (by kernel_rfl) ?_
          refine Rg.ev 6 (by rfl) (fun _ h => h) (Ev.move (show Oper.op _ = Op.move (Operand.tmp 8) from rfl) (by rfl)) (by rfl) (some 42) (by rfl) (by kernel_rfl) (by kernel_rfl) (by kernel_rfl) (by kernel_rfl) ?_
          refine Rg.ev 7 (by rfl) (fun _ h => h) (Ev.indexAt (sz := 4) (show Oper.op _ = Op.indexAddr 22 (Operand.tmp 41) (Operand.tmp 42) from rfl) (by rfl) (by rfl) Try.underlying22 (by kernel_rfl) (by omega)) (by rfl) (some 43) (by rfl) (by kernel_rfl) (by kernel_rfl) (by kernel_rfl) (by kernel_rfl) ?_
          refine Rg.ev 8 (by rfl) (fun _ h => h) (Ev.fieldAddrE0 (k := 0) (show Oper.op _ = Op.fieldAddr 42 (Operand.tmp 43) 0 from rfl) (by rfl) (by kernel_rfl)) (by rfl) (some 44) (by rfl) (by kernel_rfl) (by kernel_rfl) (by kernel_rfl) (by kernel_rfl) ?_
          refine Rg.ev 9 (by rfl) (fun _ h => h) (Ev.loadElF (show Oper.op _ = Op.load 9 (Operand.tmp 44) from rfl) (by rfl) (ReadsIn.rd 2 (by rfl)) (by kernel_rfl) (by intro _; rfl) (by assumption) (by rfl)) (by rfl) (some 45) (by rfl) (by kernel_rfl) (by kernel_rfl) (by kernel_rfl) (by kernel_rfl) ?_
          refine Rg.ev 10 (by rfl) (fun _ h => h) (Ev.fieldAddr (k := 0) (show Oper.op _ = Op.fieldAddr 42 (Operand.tmp 3) 0 from rfl) (by rfl) (by kernel_rfl) (by rfl)) (by rfl) (some 46) (by rfl) (by kernel_rfl) (by kernel_rfl) (by kernel_rfl) (by kernel_rfl) ?_
          refine Rg.ev 11 (by rfl) (fun _ h => h) (Ev.load 1 (show Oper.op _ = Op.load 9 (Operand.tmp 46) from rfl) (by rfl) (by rfl) (by kernel_rfl) (by rfl)) (by rfl) (some 47) (by rfl) (by kernel_rfl) (by kernel_rfl) (by kernel_rfl) (by kernel_rfl) ?_
          refine Rg.ev 12 (by rfl) (fun _ h => h) (Ev.eqlS (show Oper.op _ = Op.binOp BinOp.eql 9 (Operand.tmp 45) (Operand.tmp 47) 9 from rfl) (by rfl) (by rfl)) (by rfl) (some 48) (by rfl) (by kernel_rfl) (by kernel_rfl) (by kernel_rfl) (by kernel_rfl) ?_
          refine Rg.ev 13 (by rfl) (fun _ h => h) (Ev.pickT (show Oper.op _ = Op.pick (Operand.tmp 40) (Operand.tmp 48) (Operand.const (Value.bool false)) from rfl) (by rfl) (by rfl)) (by rfl) (some 49) (by rfl) (by kernel_rfl) (by kernel_rfl) (by kernel_rfl) (by kernel_rfl) ?_
          refine Rg.ev 14 (by rfl) (fun _ h => h) (Ev.move (show Oper.op _ = Op.move (Operand.tmp 49) from rfl) (by rfl)) (by rfl) (some 50) (by rfl) (by kernel_rfl) (by kernel_rfl) (by kernel_rfl) (by kernel_rfl) ?_
          refine Ent.split 50 (by rfl) (fun h5 => ?_) (fun h5 => ?_)
          · skip
            refine Rg.pass 15 (by rfl) (fun _ h => h) (by rfl) (some 51) (by rfl) (by kernel_rfl) (by kernel_rfl) (by kernel_rfl) (by kernel_rfl) ?_
            refine Rg.pass 16 (by rfl) (fun _ h => h) (by rfl) (some 52) (by rfl) (by kernel_rfl) (by kernel_rfl) (by kernel_rfl) (by kernel_rfl) ?_
            refine Rg.pass 17 (by rfl) (fun _ h => h) (by rfl) (some 53) (by rfl) (by kernel_rfl) (by kernel_rfl) (by kernel_rfl) (by kernel_rfl) ?_
            refine Rg.pass 18 (by rfl) (fun _ h => h) (by rfl) (some 54) (by rfl) (by kernel_rfl) (by kernel_rfl) (by kernel_rfl) (by kernel_rfl) ?_
            refine Rg.pass 19 (by rfl) (fun _ h => h) (by rfl) (some 55) (by rfl) (by kernel_rfl) (by kernel_rfl) (by kernel_rfl) (by kernel_rfl) ?_
            refine Rg.pass 20 (by rfl) (fun _ h => h) (by rfl) (some 56) (by rfl) (by kernel_rfl) (by kernel_rfl) (by kernel_rfl) (by kernel_rfl) ?_
            refine Rg.pass 21 (by rfl) (fun _ h => h) (by rfl) (some 57) (by rfl) (by kernel_rfl) (by kernel_rfl) (by kernel_rfl) (by kernel_rfl) ?_
            refine Rg.pass 22 (by rfl) (fun _ h => h) (by rfl) (some 58) (by rfl) (by kernel_rfl) (by kernel_rfl) (by kernel_rfl) (by kernel_rfl) ?_
            refine Rg.ev 23 (by rfl) (fun _ h => h) (Ev.pickF (show Oper.op _ = Op.pick (Operand.tmp 50) (Operand.tmp 58) (Operand.const (Value.bool false)) from rfl) (by rfl) (by rfl)) (by rfl) (some 59) (by rfl) (by kernel_rfl) (by kernel_rfl) (by kernel_rfl) (by kernel_rfl) ?_
            refine Rg.done (by kernel_rfl) ?_ _
            refine Ent.inv (()) ?_ ?_ ?_
            · (try dsimp only); skip
            · (repeat (first | exact trivial | refine ⟨by rfl, ?_⟩ | refine ⟨by simp only [List.length_append, List.length_cons, List.length_nil]; rfl, ?_⟩ | refine ⟨by push_cast; rfl, ?_⟩ | refine ⟨by (show some (Value.bool _) = some (Value.bool _); rw [ht, h5]; rfl), ?_⟩))
            · rfl
          · skip
            refine Rg.ev 15 (by rfl) (fun _ h => h) (Ev.move (show Oper.op _ = Op.move (Operand.tmp 0) from rfl) (by rfl)) (by rfl) (some 51) (by rfl) (by kernel_rfl) (by kernel_rfl) (by kernel_rfl) (by kernel_rfl) ?_
            refine Rg.ev 16 (by rfl) (fun _ h => h) (Ev.move (show Oper.op _ = Op.move (Operand.tmp 8) from rfl) (by rfl)) (by rfl) (some 52) (by rfl) (by kernel_rfl) (by kernel_rfl) (by kernel_rfl) (by kernel_rfl) ?_
            refine Rg.ev 17 (by rfl) (fun _ h => h) (Ev.indexAt (sz := 4) (show Oper.op _ = Op.indexAddr 22 (Operand.tmp 51) (Operand.tmp 52) from rfl) (by rfl) (by rfl) Try.underlying22 (by kernel_rfl) (by omega)) (by rfl) (some 53) (by rfl) (by kernel_rfl) (by kernel_rfl) (by kernel_rfl) (by kernel_rfl) ?_
            refine Rg.ev 18 (by rfl) (fun _ h => h) (Ev.fieldAddrE0 (k := 1) (show Oper.op _ = Op.fieldAddr 42 (Operand.tmp 53) 1 from rfl) (by rfl) (by kernel_rfl)) (by rfl) (some 54) (by rfl) (by kernel_rfl) (by kernel_rfl) (by kernel_rfl) (by kernel_rfl) ?_
            refine Rg.ev 19 (by rfl) (fun _ h => h) (Ev.loadElF (show Oper.op _ = Op.load 3 (Operand.tmp 54) from rfl) (by rfl) (ReadsIn.rd 2 (by rfl)) (by kernel_rfl) (by intro _; rfl) (by assumption) (by rfl)) (by rfl) (some 55) (by rfl) (by kernel_rfl) (by kernel_rfl) (by kernel_rfl) (by kernel_rfl) ?_
            refine Rg.ev 20 (by rfl) (fun _ h => h) (Ev.fieldAddr (k := 1) (show Oper.op _ = Op.fieldAddr 42 (Operand.tmp 3) 1 from rfl) (by rfl) (by kernel_rfl) (by rfl)) (by rfl) (some 56) (by rfl) (by kernel_rfl) (by kernel_rfl) (by kernel_rfl) (by kernel_rfl) ?_
            refine Rg.ev 21 (by rfl) (fun _ h => h) (Ev.load 1 (show Oper.op _ = Op.load 3 (Operand.tmp 56) from rfl) (by rfl) (by rfl) (by kernel_rfl) (by rfl)) (by rfl) (some 57) (by rfl) (by kernel_rfl) (by kernel_rfl) (by kernel_rfl) (by kernel_rfl) ?_
            refine Rg.ev 22 (by rfl) (fun _ h => h) (Ev.eql (show Oper.op _ = Op.binOp BinOp.eql 3 (Operand.tmp 55) (Operand.tmp 57) 3 from rfl) (by rfl) (by rfl)) (by rfl) (some 58) (by rfl) (by kernel_rfl) (by kernel_rfl) (by kernel_rfl) (by kernel_rfl) ?_
            refine Rg.ev 23 (by rfl) (fun _ h => h) (Ev.pickT (show Oper.op _ = Op.pick (Operand.tmp 50) (Operand.tmp 58) (Operand.const (Value.bool false)) from rfl) (by rfl) (by rfl)) (by rfl) (some 59) (by rfl) (by kernel_rfl) (by kernel_rfl) (by kernel_rfl) (by kernel_rfl) ?_
            refine Rg.done (by kernel_rfl) ?_ _
            refine Ent.inv (()) ?_ ?_ ?_
            · (try dsimp only); skip
            · (repeat (first | exact trivial | refine ⟨by rfl, ?_⟩ | refine ⟨by simp only [List.length_append, List.length_cons, List.length_nil]; rfl, ?_⟩ | refine ⟨by push_cast; rfl, ?_⟩ | refine ⟨by (show some (Value.bool _) = some (Value.bool _); rw [ht, h5]; rfl), ?_⟩))
            · rfl
          skip
      skip
      rintro _ -
      refine Cd.cond _ (by rfl) (fun h6 => ?_) (fun h6 => ?_)
      · skip
        refine Cd.seq ?_
        refine Cd.region ?_
        refine Ls.ev (some 60) (Ev.move (show Oper.op _ = Op.move (Operand.tmp 0) from rfl) (by rfl)) (by rfl) (by rfl) ?_
        refine Ls.ev (some 4) (Ev.assign (show Oper.op _ = Op.assign (Operand.tmp 60) from rfl) (by rfl)) (by rfl) (by rfl) ?_
        refine Ls.ev (some 5) (Ev.assign (show Oper.op _ = Op.assign (Operand.const (Value.int IntKind.i64 2)) from rfl) (by rfl)) (by rfl) (by rfl) ?_
        refine Ls.nil ?_
        refine Cd.ret ?_
        refine Ent.ret (none) ((by unfold putS; rw [if_neg h1, if_pos h6]; rfl)) (Res.tmp2 (by rfl) (by rfl) (by rfl)) ?_ [] (by rfl) ?_
        · unfold putRes putE; rw [if_neg h1]
        · rfl
      · skip
        refine Cd.skip ?_
        refine Cd.seq ?_
        refine Cd.region ?_
        refine Ls.ev (some 61) (Ev.move (show Oper.op _ = Op.move (Operand.tmp 7) from rfl) (by rfl)) (by rfl) (by rfl) ?_
        refine Ls.ev (some 62) (Ev.loads 1 (show Oper.op _ = Op.load 42 (Operand.tmp 3) from rfl) (by rfl) (by rfl) (n := 4) (by kernel_rfl) (by rfl) (by rfl)) (by rfl) (by rfl) ?_
        refine Ls.does (some 63) (Does.lit (sz := 4) (show Oper.op _ = Op.buildSlice 22 1 #[(0, Operand.tmp 62)] from rfl) (by rfl) Try.underlying22 (by kernel_rfl) (by rfl) (by kernel_rfl)) (by rfl) (by rfl) ?_
        intro g2 _
        refine Ls.does (some 64) (Does.app (xs := (l.take (putAt l e)).flatMap Ety.enc) (news := e.enc) 1 (show Oper.op _ = Op.call { callee := Callee.builtin Builtin.append, args := #[Operand.tmp 61, Operand.tmp 63], argTypes := #[22, 22] } from rfl) (by rfl) (by rfl) (by rfl) (ReadsIn.row 0 (by rfl)) elem_ents (enc_one _) (by omega)) (by rfl) (by rfl) ?_
        intro q _
        refine Ls.ev (some 7) (Ev.assign (show Oper.op _ = Op.assign (Operand.tmp 64) from rfl) (by rfl)) (by rfl) (by rfl) ?_
        refine Ls.nil ?_
        refine Cd.seq ?_
        refine Cd.region ?_
        refine Ls.ev (some 65) (Ev.move (show Oper.op _ = Op.move (Operand.tmp 7) from rfl) (by rfl)) (by rfl) (by rfl) ?_
        refine Ls.ev (some 66) (Ev.move (show Oper.op _ = Op.move (Operand.tmp 0) from rfl) (by rfl)) (by rfl) (by rfl) ?_
        refine Ls.ev (some 67) (Ev.move (show Oper.op _ = Op.move (Operand.tmp 8) from rfl) (by rfl)) (by rfl) (by rfl) ?_
        refine Ls.ev (some 68) (Ev.sliceLn (sz := 4) (show Oper.op _ = Op.slice 22 (Operand.tmp 66) (some (Operand.tmp 67)) none none from rfl) (by rfl) (by rfl) Try.underlying22 (by kernel_rfl) (by omega)) (by rfl) (by rfl) ?_
        refine Ent.cut 3 (putAt l e) l.length c (by rfl) (by omega) ?_
        rw [flat_cut (enc := Ety.enc) (sz := 4) (fun _ => rfl), show (l.drop (putAt l e)).take (l.length - putAt l e) = l.drop (putAt l e) from List.take_of_length_le (by rw [List.length_drop]; omega)]
        refine Ls.does (some 69) (Does.app (xs := (l.take (putAt l e)).flatMap Ety.enc ++ e.enc) (news := (l.drop (putAt l e)).flatMap Ety.enc) 2 (show Oper.op _ = Op.call { callee := Callee.builtin Builtin.append, args := #[Operand.tmp 65, Operand.tmp 68], argTypes := #[22, 22] } from rfl) (by rfl) (by rfl) (by rfl) (ReadsIn.rd 0 (by rfl)) elem_ents (encs_one _) (by omega)) (by rfl) (by rfl) ?_
        intro q2 _
        refine Ls.ev (some 4) (Ev.assign (show Oper.op _ = Op.assign (Operand.tmp 69) from rfl) (by rfl)) (by rfl) (by rfl) ?_
        refine Ls.ev (some 5) (Ev.assign (show Oper.op _ = Op.assign (Operand.const (Value.int IntKind.i64 0)) from rfl) (by rfl)) (by rfl) (by rfl) ?_
        refine Ls.nil ?_
        have hpl : (putN l e).length = (l.take (putAt l e)).length + 1 + (l.length - putAt l e) := by rw [putN_len]; omega
        have hpf : (putN l e).flatMap Ety.enc = (l.take (putAt l e)).flatMap Ety.enc ++ e.enc ++ (l.drop (putAt l e)).flatMap Ety.enc := by
          unfold putN
          rw [List.flatMap_append, List.flatMap_cons, List.append_assoc]
        refine Cd.ret ?_
        refine Ent.ret ((some q2)) ((by unfold putS; rw [if_neg h1, if_neg (by rw [h6]; decide)]; rfl)) (Res.tmp2 (by rfl) (by rfl) (by rfl)) ?_ [2] (by rfl) ?_
        · unfold putRes; rw [hpl]
        · unfold putPost; show [_] = [row q2.1 (putN l e).length q2.2 _ 4 ((putN l e).flatMap Ety.enc)]; rw [hpl, hpf]
theorem refPut_none (A : Option Addr) (c : Nat) (l : List Ety) (e : Ety) (hn : l.length ≤ 1099511627776) (hc : l.length ≤ c) (h : putS l e = none) : Fn Try.prog 50 #[.slice A l.length c, .agg e.enc.toArray] [rdE A l] Unit (fun _ => .tuple #[.slice A l.length c, .int .i64 (putE e)]) (fun _ => []) (fun _ => True) :=
  Fn.reind (refPut_any A c l e hn hc) fun p hp => by
    rw [h] at hp
    cases p with
    | none => exact ⟨(), trivial, rfl, rfl⟩
    | some q => cases hp
theorem putS_some {l : List Ety} {e : Ety} {m : List Ety} (h : putS l e = some m) : errE e = 0 ∧ twiceE l e = false ∧ m = putN l e := by
  unfold putS at h
  split at h
  · cases h
  · rename_i h1
    split at h
    · cases h
    · rename_i h2
      exact ⟨by omega, by simpa using h2, (Option.some.inj h).symm⟩
theorem refPut_some (A : Option Addr) (c : Nat) (l : List Ety) (e : Ety) (hn : l.length ≤ 1099511627776) (hc : l.length ≤ c) {m : List Ety} (h : putS l e = some m) : Fn Try.prog 50 #[.slice A l.length c, .agg e.enc.toArray] [rdE A l] (Option Addr × Nat) (fun q => .tuple #[.slice q.1 m.length q.2, .int .i64 0]) (fun q => [rowE q.1 q.2 m]) (fun _ => True) :=
  Fn.reind (refPut_any A c l e hn hc) fun p hp => by
    obtain ⟨_, _, rfl⟩ := putS_some h
    rw [h] at hp
    cases p with
    | none => cases hp
    | some q => exact ⟨q, trivial, rfl, rfl⟩
/-- What Good makes of a list: those that can be put, up to 84. -/
def goodF : List Ety → List Ety → List Ety
  | out, [] => out
  | out, e :: r => if out.length < 84 then goodF ((putS out e).getD out) r else out
theorem goodF_full {out r : List Ety} (h : ¬ out.length < 84) : goodF out r = out := by
  cases r with
  | nil => rfl
  | cons e r => rw [goodF, if_neg h]
theorem goodF_step {out l : List Ety} {k : Nat} {e : Ety} (hk : l[k]? = some e) (h : out.length < 84) : goodF out (l.drop k) = goodF ((putS out e).getD out) (l.drop (k + 1)) := by
  obtain ⟨hlt, rfl⟩ := List.getElem?_eq_some_iff.1 hk
  rw [List.drop_eq_getElem_cons hlt, goodF, if_pos h]
theorem putS_len (l : List Ety) (e : Ety) : ((putS l e).getD l).length ≤ l.length + 1 := by
  cases h : putS l e with
  | none => exact Nat.le_succ _
  | some m => rw [(putS_some h).2.2]; exact Nat.le_of_eq (putN_len l e)
theorem goodL_sl (A : Option Addr) (c : Nat) (l : List Ety) (hn : l.length ≤ 8796093022207) : Fn Try.prog 20 #[.slice A l.length c] [rdE A l] (Option Addr × Nat) (fun p => .slice p.1 (goodF [] l).length p.2) (fun p => [rowE p.1 p.2 (goodF [] l)]) (fun p => (goodF [] l).length ≤ p.2) := by
  refine Fn.enter Try.func20 rfl Try.ntmps20 (by rfl) ?_
  intro w0
  skip
  refine Cd.seq ?_
  refine Cd.region ?_
  refine Ls.ev (some 2) (Ev.assign (show Oper.op _ = Op.assign (Operand.const (Value.slice none 0 0)) from rfl) (by rfl)) (by rfl) (by rfl) ?_
  refine Ls.nil ?_
  refine Cd.seq ?_
  refine Cd.region ?_
  refine Ls.ev (some 3) (Ev.assign (show Oper.op _ = Op.assign (Operand.const (Value.slice none 0 0)) from rfl) (by rfl)) (by rfl) (by rfl) ?_
  refine Ls.nil ?_
  refine Cd.seq ?_
  refine Cd.seq ?_
  refine Cd.region ?_
  refine Ls.ev (some 4) (Ev.assign (show Oper.op _ = Op.assign (Operand.const (Value.int IntKind.i64 0)) from rfl) (by rfl)) (by rfl) (by rfl) ?_
  refine Ls.nil ?_
  refine Cd.block ?_
  refine Ent.nil 42 4 ?_
  refine Cd.loop (ι := Nat × List Ety × Option Addr × Nat) (fun j => [(0, .slice A l.length c), (3, .slice j.2.2.1 j.2.1.length j.2.2.2), (4, .int .i64 j.1)]) (fun j => [rowE j.2.2.1 j.2.2.2 j.2.1, rdE A l]) (fun j => j.1 ≤ l.length ∧ j.2.1.length ≤ 84 ∧ goodF j.2.1 (l.drop j.1) = goodF [] l ∧ j.2.1.length ≤ j.2.2.2) (fun j => l.length - j.1) ((0, [], none, 0)) (⟨Nat.zero_le _, Nat.zero_le _, rfl, Nat.le_refl _⟩) ?_ rfl ?_
  · (repeat (first | exact trivial | refine ⟨by rfl, ?_⟩))
  rintro ⟨k, out, qA, qc⟩ ⟨hk, ho, hg, hcq⟩
  dsimp only at hk ho hg hcq ⊢
  refine Cd.seq ?_
  refine Cd.seq ?_
  refine Cd.region ?_
  refine Ls.ev (some 5) (Ev.move (show Oper.op _ = Op.move (Operand.tmp 4) from rfl) (by rfl)) (by rfl) (by rfl) ?_
  refine Ls.ev (some 6) (Ev.move (show Oper.op _ = Op.move (Operand.tmp 0) from rfl) (by rfl)) (by rfl) (by rfl) ?_
  refine Ls.ev (some 7) (Ev.len (show Oper.op _ = Op.call { callee := Callee.builtin Builtin.len, args := #[Operand.tmp 6], argTypes := #[22] } from rfl) (by rfl) Try.underlying22) (by rfl) (by rfl) ?_
  refine Ls.ev (some 8) (Ev.lss (show Oper.op _ = Op.binOp BinOp.lss 3 (Operand.tmp 5) (Operand.tmp 7) 3 from rfl) (by rfl) (by rfl)) (by rfl) (by rfl) ?_
  refine Ls.ev (some 9) (Ev.move (show Oper.op _ = Op.move (Operand.tmp 8) from rfl) (by rfl)) (by rfl) (by rfl) ?_
  refine Ent.split 9 (by rfl) (fun h1 => ?_) (fun h1 => ?_)
  · skip
    have hk2 : k = l.length := by have := of_decide_eq_false h1; omega
    subst hk2
    rw [List.drop_length] at hg
    have hg : out = goodF [] l := hg
    refine Ls.pass (some 10) (by rfl) (by rfl) ?_
    refine Ls.pass (some 11) (by rfl) (by rfl) ?_
    refine Ls.pass (some 12) (by rfl) (by rfl) ?_
    refine Ls.ev (some 13) (Ev.pickF (show Oper.op _ = Op.pick (Operand.tmp 9) (Operand.tmp 12) (Operand.const (Value.bool false)) from rfl) (by rfl) (by rfl)) (by rfl) (by rfl) ?_
    refine Ls.nil ?_
    skip
    refine Cd.cond_false (by rfl) (rfl) ?_
    refine Cd.exit ?_
    refine Cd.seq ?_
    refine Cd.region ?_
    refine Ls.ev (some 25) (Ev.move (show Oper.op _ = Op.move (Operand.tmp 3) from rfl) (by rfl)) (by rfl) (by rfl) ?_
    refine Ls.ev (some 2) (Ev.assign (show Oper.op _ = Op.assign (Operand.tmp 25) from rfl) (by rfl)) (by rfl) (by rfl) ?_
    refine Ls.nil ?_
    refine Cd.ret ?_
    refine Ent.ret ((qA, qc)) ((by rw [← hg]; exact hcq)) (Res.tmp (by rfl) (by rfl)) ?_ [0] (by rfl) ?_
    · rw [← hg]
    · rw [← hg]; rfl
  · skip
    have hk2 : k < l.length := by have := of_decide_eq_true h1; omega
    obtain ⟨e, he⟩ := get_of_lt hk2
    refine Ls.ev (some 10) (Ev.move (show Oper.op _ = Op.move (Operand.tmp 3) from rfl) (by rfl)) (by rfl) (by rfl) ?_
    refine Ls.ev (some 11) (Ev.len (show Oper.op _ = Op.call { callee := Callee.builtin Builtin.len, args := #[Operand.tmp 10], argTypes := #[22] } from rfl) (by rfl) Try.underlying22) (by rfl) (by rfl) ?_
    refine Ls.ev (some 12) (Ev.lss (show Oper.op _ = Op.binOp BinOp.lss 3 (Operand.tmp 11) (Operand.const (Value.int IntKind.i64 84)) 3 from rfl) (by rfl) (by rfl)) (by rfl) (by rfl) ?_
    refine Ls.ev (some 13) (Ev.pickT (show Oper.op _ = Op.pick (Operand.tmp 9) (Operand.tmp 12) (Operand.const (Value.bool false)) from rfl) (by rfl) (by rfl)) (by rfl) (by rfl) ?_
    refine Ls.nil ?_
    refine Cd.cond _ (by rfl) (fun h2 => ?_) (fun h2 => ?_)
    · skip
      have h84 : out.length < 84 := by have := of_decide_eq_true h2; omega
      refine Ent.rdSome 1 (by rfl) (by omega) (fun ad had => ?_)
      subst had
      rw [goodF_step he h84] at hg
      have hpl := putS_len out e
      refine Cd.skip ?_
      refine Cd.seq ?_
      refine Cd.block ?_
      refine Cd.region ?_
      refine Ls.ev (some 17) (Ev.move (show Oper.op _ = Op.move (Operand.tmp 3) from rfl) (by rfl)) (by rfl) (by rfl) ?_
      refine Ls.ev (some 18) (Ev.move (show Oper.op _ = Op.move (Operand.tmp 0) from rfl) (by rfl)) (by rfl) (by rfl) ?_
      refine Ls.ev (some 19) (Ev.move (show Oper.op _ = Op.move (Operand.tmp 4) from rfl) (by rfl)) (by rfl) (by rfl) ?_
      refine Ls.ev (some 20) (Ev.indexAt (sz := 4) (show Oper.op _ = Op.indexAddr 22 (Operand.tmp 18) (Operand.tmp 19) from rfl) (by rfl) (by rfl) Try.underlying22 (by kernel_rfl) (by omega)) (by rfl) (by rfl) ?_
      refine Ls.ev (some 21) (Ev.loadEl (show Oper.op _ = Op.load 42 (Operand.tmp 20) from rfl) (by rfl) (ReadsIn.rd 1 (by rfl)) (by kernel_rfl) (by intro _; rfl) (by assumption)) (by rfl) (by rfl) ?_
      cases hp : putS out e with
      | none =>
        rw [hp] at hg
        skip
        refine Ls.does (some 22) (Does.readN (show Oper.op _ = Op.call { callee := Callee.value (Operand.func 50), args := #[Operand.tmp 17, Operand.tmp 21], argTypes := #[22, 42] } from rfl) Try.func50 (by kernel_rfl) (by kernel_rfl) (refPut_none qA qc out e (by omega) hcq hp) (by rfl) (by rfl) ⟨ReadsIn.row 0 (by rfl), trivial⟩ (fun _ => by rfl)) (by rfl) (by rfl) ?_
        rintro _ -
        refine Ls.ev (some 16) (Ev.move (show Oper.op _ = Op.move (Operand.tmp 22) from rfl) (by rfl)) (by rfl) (by rfl) ?_
        refine Ls.ev (some 23) (Ev.extract (show Oper.op _ = Op.extract (Operand.tmp 16) 0 from rfl) (by rfl) (by rfl)) (by rfl) (by rfl) ?_
        refine Ls.ev (some 24) (Ev.extract (show Oper.op _ = Op.extract (Operand.tmp 16) 1 from rfl) (by rfl) (by rfl)) (by rfl) (by rfl) ?_
        refine Ls.ev (some 3) (Ev.assign (show Oper.op _ = Op.assign (Operand.tmp 23) from rfl) (by rfl)) (by rfl) (by rfl) ?_
        refine Ls.nil ?_
        refine Cd.region ?_
        refine Ls.ev (some 14) (Ev.move (show Oper.op _ = Op.move (Operand.tmp 4) from rfl) (by rfl)) (by rfl) (by rfl) ?_
        refine Ls.ev (some 15) (Ev.addN (b := 1) (show Oper.op _ = Op.binOp BinOp.add 3 (Operand.tmp 14) (Operand.const (Value.int IntKind.i64 1)) 3 from rfl) (by rfl) (by rfl) (by omega)) (by rfl) (by rfl) ?_
        refine Ls.ev (some 4) (Ev.assign (show Oper.op _ = Op.assign (Operand.tmp 15) from rfl) (by rfl)) (by rfl) (by rfl) ?_
        refine Ls.nil ?_
        refine Ent.inv ((k + 1, out, qA, qc)) ?_ ?_ ?_
        · (try dsimp only); exact ⟨⟨by omega, ho, hg, hcq⟩, by omega⟩
        · (repeat (first | exact trivial | refine ⟨by rfl, ?_⟩ | refine ⟨by simp only [List.length_append, List.length_cons, List.length_nil]; rfl, ?_⟩ | refine ⟨by push_cast; rfl, ?_⟩))
        · rfl
      | some m =>
        rw [hp] at hg hpl
        have hpl : m.length ≤ out.length + 1 := hpl
        skip
        refine Ls.does (some 22) (Does.readN (show Oper.op _ = Op.call { callee := Callee.value (Operand.func 50), args := #[Operand.tmp 17, Operand.tmp 21], argTypes := #[22, 42] } from rfl) Try.func50 (by kernel_rfl) (by kernel_rfl) (refPut_some qA qc out e (by omega) hcq hp) (by rfl) (by rfl) ⟨ReadsIn.row 0 (by rfl), trivial⟩ (fun _ => by rfl)) (by rfl) (by rfl) ?_
        rintro q -
        refine Ls.ev (some 16) (Ev.move (show Oper.op _ = Op.move (Operand.tmp 22) from rfl) (by rfl)) (by rfl) (by rfl) ?_
        refine Ls.ev (some 23) (Ev.extract (show Oper.op _ = Op.extract (Operand.tmp 16) 0 from rfl) (by rfl) (by rfl)) (by rfl) (by rfl) ?_
        refine Ls.ev (some 24) (Ev.extract (show Oper.op _ = Op.extract (Operand.tmp 16) 1 from rfl) (by rfl) (by rfl)) (by rfl) (by rfl) ?_
        refine Ls.ev (some 3) (Ev.assign (show Oper.op _ = Op.assign (Operand.tmp 23) from rfl) (by rfl)) (by rfl) (by rfl) ?_
        refine Ls.nil ?_
        refine Cd.region ?_
        refine Ls.ev (some 14) (Ev.move (show Oper.op _ = Op.move (Operand.tmp 4) from rfl) (by rfl)) (by rfl) (by rfl) ?_
        refine Ls.ev (some 15) (Ev.addN (b := 1) (show Oper.op _ = Op.binOp BinOp.add 3 (Operand.tmp 14) (Operand.const (Value.int IntKind.i64 1)) 3 from rfl) (by rfl) (by rfl) (by omega)) (by rfl) (by rfl) ?_
        refine Ls.ev (some 4) (Ev.assign (show Oper.op _ = Op.assign (Operand.tmp 15) from rfl) (by rfl)) (by rfl) (by rfl) ?_
        refine Ls.nil ?_
        refine Ent.rowCap 0 (by rfl) (fun hq => ?_)
        refine Ent.pick [0, 2] (by rfl) ?_
        refine Ent.inv ((k + 1, m, q)) ?_ ?_ ?_
        · (try dsimp only); exact ⟨⟨by omega, by omega, hg, hq⟩, by omega⟩
        · (repeat (first | exact trivial | refine ⟨by rfl, ?_⟩ | refine ⟨by simp only [List.length_append, List.length_cons, List.length_nil]; rfl, ?_⟩ | refine ⟨by push_cast; rfl, ?_⟩))
        · rfl
    · skip
      have h84 : ¬ out.length < 84 := by have := of_decide_eq_false h2; omega
      rw [goodF_full h84] at hg
      refine Cd.exit ?_
      refine Cd.seq ?_
      refine Cd.region ?_
      refine Ls.ev (some 25) (Ev.move (show Oper.op _ = Op.move (Operand.tmp 3) from rfl) (by rfl)) (by rfl) (by rfl) ?_
      refine Ls.ev (some 2) (Ev.assign (show Oper.op _ = Op.assign (Operand.tmp 25) from rfl) (by rfl)) (by rfl) (by rfl) ?_
      refine Ls.nil ?_
      refine Cd.ret ?_
      refine Ent.ret ((qA, qc)) ((by rw [← hg]; exact hcq)) (Res.tmp (by rfl) (by rfl)) ?_ [0] (by rfl) ?_
      · rw [← hg]
      · rw [← hg]; rfl
end Go.Proofs.Ytnhcfhamcakfkaa
/- plain: what Good makes is a table's list; the newest entry of a list in order is the first that is hit -/
namespace Go.Proofs.Ytnhcfhamcakfkaa
theorem putN_cons (x : Ety) (l : List Ety) (e : Ety) : putN (x :: l) e = if befE x e = true then x :: putN l e else e :: x :: l := by
  unfold putN
  rw [putAt_cons]
  split <;> rfl
theorem twiceE_cons (x : Ety) (l : List Ety) (e : Ety) : twiceE (x :: l) e = if befE x e = true then twiceE l e else (decide (x.key = e.key) && decide (x.seq = e.seq)) := by
  unfold twiceE
  rw [putAt_cons]
  split <;> rfl
theorem befE_total {a b : Ety} (h1 : befE a b = false) (h2 : ¬ (a.key = b.key ∧ a.seq = b.seq)) : befE b a = true := by
  rw [befE_iff]
  have h1 : ¬ (kl a.key b.key = true ∨ (a.key = b.key ∧ b.seq < a.seq)) := fun h => by rw [befE_iff.2 h] at h1; cases h1
  cases h3 : kl b.key a.key with
  | true => exact .inl rfl
  | false =>
    have h4 : kl a.key b.key = false := by
      cases h5 : kl a.key b.key with
      | true => exact absurd (.inl h5) h1
      | false => rfl
    have hk := kl_total h4 h3
    refine .inr ⟨hk.symm, ?_⟩
    rcases Int.lt_trichotomy a.seq b.seq with h | h | h
    · exact h
    · exact absurd ⟨hk, h⟩ h2
    · exact absurd (.inr ⟨hk, h⟩) h1
def SrtE (l : List Ety) : Prop := l.Pairwise (fun a b => befE a b = true)
theorem putN_mem {e : Ety} : ∀ {l : List Ety} {y : Ety}, y ∈ putN l e → y = e ∨ y ∈ l
  | [], y, h => by
    have h : y ∈ [e] := h
    exact .inl (by simpa using h)
  | x :: l, y, h => by
    rw [putN_cons] at h
    split at h
    · rcases List.mem_cons.1 h with rfl | h
      · exact .inr (List.mem_cons_self ..)
      · rcases putN_mem h with h | h
        · exact .inl h
        · exact .inr (List.mem_cons_of_mem _ h)
    · exact List.mem_cons.1 h
theorem putN_srt {e : Ety} : ∀ {l : List Ety}, SrtE l → twiceE l e = false → SrtE (putN l e)
  | [], _, _ => List.pairwise_singleton _ _
  | x :: l, hs, ht => by
    obtain ⟨h1, h2⟩ := List.pairwise_cons.1 hs
    rw [twiceE_cons] at ht
    rw [putN_cons]
    split at ht
    · rename_i hb
      rw [if_pos hb]
      refine List.pairwise_cons.2 ⟨fun y hy => ?_, putN_srt h2 ht⟩
      rcases putN_mem hy with rfl | hy
      · exact hb
      · exact h1 y hy
    · rename_i hb
      rw [if_neg hb]
      have hx : befE e x = true := befE_total (by simpa using hb) (by
        rintro ⟨h3, h4⟩
        rw [h3, h4] at ht
        simp at ht)
      refine List.pairwise_cons.2 ⟨fun y hy => ?_, hs⟩
      rcases List.mem_cons.1 hy with rfl | hy
      · exact hx
      · exact befE_trans hx (h1 y hy)
theorem scanE_zero : ∀ {l : List Ety} {p : Option Ety}, (∀ e ∈ l, errE e = 0) → SrtE l → (∀ a b, p = some a → l[0]? = some b → befE a b = true) → scanE p l = 0
  | [], _, _, _, _ => rfl
  | e :: r, p, he, hs, hp => by
    obtain ⟨h1, h2⟩ := List.pairwise_cons.1 hs
    rw [scanE, if_neg (by rw [he e (List.mem_cons_self ..)]; decide), if_neg]
    · refine scanE_zero (fun x hx => he x (List.mem_cons_of_mem _ hx)) h2 (fun a b ha hb => ?_)
      cases ha
      exact h1 b (List.mem_of_getElem? hb)
    · cases p with
      | none => simp
      | some a =>
        have := hp a e rfl rfl
        simp [this]
theorem errL_zero {l : List Ety} (h0 : l ≠ []) (h1 : l.length ≤ 84) (he : ∀ e ∈ l, errE e = 0) (hs : SrtE l) : errL l = 0 := by
  have h2 : l.length ≠ 0 := fun h => h0 (List.length_eq_zero_iff.1 h)
  unfold errL
  rw [if_neg h2, if_neg (by omega)]
  exact scanE_zero he hs (fun a b h => by cases h)
theorem goodF_ok : ∀ (r out : List Ety), out.length ≤ 84 → (∀ e ∈ out, errE e = 0) → SrtE out → (goodF out r).length ≤ 84 ∧ (∀ e ∈ goodF out r, errE e = 0) ∧ SrtE (goodF out r)
  | [], out, h1, h2, h3 => ⟨h1, h2, h3⟩
  | e :: r, out, h1, h2, h3 => by
    rw [goodF]
    split
    · rename_i hl
      cases hp : putS out e with
      | none => exact goodF_ok r out h1 h2 h3
      | some m =>
        obtain ⟨k1, k2, rfl⟩ := putS_some hp
        refine goodF_ok r _ (by show (putN out e).length ≤ 84; rw [putN_len]; omega) (fun x hx => ?_) (putN_srt h3 k2)
        rcases putN_mem hx with rfl | hx
        · exact k1
        · exact h2 x hx
    · exact ⟨h1, h2, h3⟩
theorem goodF_good (l : List Ety) (h : goodF [] l ≠ []) : errL (goodF [] l) = 0 := by
  obtain ⟨h1, h2, h3⟩ := goodF_ok l [] (Nat.zero_le _) (fun e h => by cases h) List.Pairwise.nil
  exact errL_zero h h1 h2 h3
theorem goodF_len (l : List Ety) : (goodF [] l).length ≤ 84 := (goodF_ok l [] (Nat.zero_le _) (fun e h => by cases h) List.Pairwise.nil).1
theorem goodF_srt (l : List Ety) : SrtE (goodF [] l) := (goodF_ok l [] (Nat.zero_le _) (fun e h => by cases h) List.Pairwise.nil).2.2
/-- The document's Get: the hit with the highest number. -/
def getS (key : ByteArray) (seq : Int) : Option Ety → List Ety → Option Ety
  | b, [] => b
  | b, x :: r => getS key seq (if (hitE key seq x && (b.isNone || decide ((b.getD Ety.zero).seq < x.seq))) = true then some x else b) r
theorem getS_some (key : ByteArray) (seq : Int) (b : Ety) (hb : b.key = key) : ∀ (l : List Ety), (∀ x ∈ l, befE b x = true) → getS key seq (some b) l = some b
  | [], _ => rfl
  | x :: r, h => by
    rw [getS, if_neg]
    · exact getS_some key seq b hb r (fun y hy => h y (List.mem_cons_of_mem _ hy))
    · have hx := befE_iff.1 (h x (List.mem_cons_self ..))
      intro hh
      simp only [hitE, Bool.and_eq_true, decide_eq_true_eq, Option.isNone_some, Bool.false_or, Option.getD_some] at hh
      rcases hx with hx | hx
      · rw [hb, hh.1.1, kl_irrefl] at hx
        cases hx
      · omega
theorem getS_find (key : ByteArray) (seq : Int) : ∀ (l : List Ety), SrtE l → getS key seq none l = l.find? (hitE key seq)
  | [], _ => rfl
  | x :: r, h => by
    obtain ⟨h1, h2⟩ := List.pairwise_cons.1 h
    rw [getS, List.find?_cons]
    cases hh : hitE key seq x with
    | false => exact getS_find key seq r h2
    | true =>
      have hk : x.key = key := by
        simp only [hitE, Bool.and_eq_true, decide_eq_true_eq] at hh
        exact hh.1
      exact getS_some key seq x hk r h1
end Go.Proofs.Ytnhcfhamcakfkaa
/- the document's Get, Same (layer 4) over entries; entries compared -/
namespace Go.Proofs.Ytnhcfhamcakfkaa
open Go.RowKit
deriving instance DecidableEq for Ety
theorem stood_ety : Try.prog.stoodInHeld 42 = false := by kernel_rfl
theorem guard_ety : Try.prog.eqGuardType Try.prog.depth 42 = false := by kernel_rfl
theorem fields_ety : fieldRows Try.prog 42 = [(true, 9, 0), (true, 3, 1), (true, 4, 2), (true, 9, 3)] := by kernel_rfl
theorem ety_ext (a b : Ety) : (a = b) ↔ (a.key.toList = b.key.toList ∧ a.seq = b.seq ∧ a.del = b.del ∧ a.value.toList = b.value.toList) :=
  ⟨by rintro rfl; exact ⟨rfl, rfl, rfl, rfl⟩, fun ⟨h1, h2, h3, h4⟩ => by
    cases a; cases b
    simp only at h1 h2 h3 h4
    rw [bytes_ext h1, h2, h3, bytes_ext h4]⟩
theorem ety_equal (a b : Ety) (w : World) : (Op.equalIn 10000 42 (.agg a.enc.toArray) (.agg b.enc.toArray)).run Try.prog w = .ok (decide (a = b)) w := by
  have hd : decide (a = b) = (a.key.toList == b.key.toList && (a.seq == b.seq && (a.del == b.del && a.value.toList == b.value.toList))) := by
    rw [Bool.eq_iff_iff, decide_eq_true_iff, ety_ext]
    simp
  rw [hd]
  unfold Ety.enc
  rw [run_equal_rows w 9999 42 _ _ (by kernel_rfl) stood_ety fields_ety]
  simp only [eqRows]
  cases h1 : (a.key.toList == b.key.toList) <;> cases h2 : (a.seq == b.seq) <;> cases h3 : (a.del == b.del) <;> cases h4 : (a.value.toList == b.value.toList) <;>
    simp [go_sem, *]
theorem Ev.neqE {Γ : Ctx} {N : Frm} {E : Env} {H : List Chunk} {o : Oper} {x y : Operand} {t' : TypeId} (a b : Ety) (ho : o.op = .binOp .neq 42 x y t') (hx : E.ev x = some (.agg a.enc.toArray)) (hy : E.ev y = some (.agg b.enc.toArray)) : Ev Γ N Try.prog E H o (.bool (!decide (a = b))) :=
  .neqG ho hx hy (fun w => run_eqGuard_agg w _ _ _ _ _ _ guard_ety) (fun w => run_neq_of (ety_equal a b w))
theorem getS_step {key : ByteArray} {seq : Int} {b : Option Ety} {l : List Ety} {k : Nat} {x : Ety} (h : l[k]? = some x) : getS key seq b (l.drop k) = getS key seq (if (hitE key seq x && (b.isNone || decide ((b.getD Ety.zero).seq < x.seq))) = true then some x else b) (l.drop (k + 1)) := by
  obtain ⟨hlt, rfl⟩ := List.getElem?_eq_some_iff.1 h
  rw [List.drop_eq_getElem_cons hlt, getS]
theorem refGet_sl (A : Option Addr) (c : Nat) (l : List Ety) (key : ByteArray) (seq : Int) (hn : l.length ≤ 1099511627776) : Fn Try.prog 25 #[.slice A l.length c, .string key, .int .i64 seq] [rdE A l] Unit (fun _ => .tuple #[.agg ((getS key seq none l).getD Ety.zero).enc.toArray, .bool (getS key seq none l).isSome]) (fun _ => []) (fun _ => True) := by
  refine Fn.enter Try.func25 rfl Try.ntmps25 (by rfl) ?_
  intro w0
  skip
  refine Cd.seq ?_
  refine Cd.region ?_
  refine Ls.does (some 6) (Does.alloc (cs := [.string ⟨#[]⟩, .int .i64 0, .bool false, .string ⟨#[]⟩]) (show Oper.op _ = Op.alloc 42 from rfl) (ZeroIs.mk (.agg #[.string ⟨#[]⟩, .int .i64 0, .bool false, .string ⟨#[]⟩]) (by kernel_rfl) (by rfl))) (by rfl) (by rfl) ?_
  intro g1 _
  refine Ls.ev (some 7) (Ev.assign (show Oper.op _ = Op.assign (Operand.const (Value.bool false)) from rfl) (by rfl)) (by rfl) (by rfl) ?_
  refine Ls.nil ?_
  refine Cd.seq ?_
  refine Cd.region ?_
  refine Ls.ev (some 11) (Ev.buildP (pl := [(0, 1), (1, 1), (2, 1), (3, 1)]) (zs := [.string ⟨#[]⟩, .int .i64 0, .bool false, .string ⟨#[]⟩]) (show Oper.op _ = Op.build 42 #[] from rfl) (by rfl) (by kernel_rfl) (by rfl)) (by rfl) (by rfl) ?_
  refine Ls.does (some 8) (Does.alloc (cs := [.string ⟨#[]⟩, .int .i64 0, .bool false, .string ⟨#[]⟩]) (show Oper.op _ = Op.alloc 42 from rfl) (ZeroIs.mk (.agg #[.string ⟨#[]⟩, .int .i64 0, .bool false, .string ⟨#[]⟩]) (by kernel_rfl) (by rfl))) (by rfl) (by rfl) ?_
  intro g2 _
  refine Ls.does none (Does.store 0 (show Oper.op _ = Op.store 42 (Operand.tmp 8) (Operand.tmp 11) from rfl) (by rfl) (by rfl) (by rfl) (by kernel_rfl) (by rfl) (by kernel_rfl) (by rfl)) (by rfl) (by rfl) ?_
  intro _ _
  refine Ls.ev (some 9) (Ev.assign (show Oper.op _ = Op.assign (Operand.const (Value.bool false)) from rfl) (by rfl)) (by rfl) (by rfl) ?_
  refine Ls.nil ?_
  refine Cd.seq ?_
  refine Cd.seq ?_
  refine Cd.region ?_
  refine Ls.ev (some 10) (Ev.assign (show Oper.op _ = Op.assign (Operand.const (Value.int IntKind.i64 0)) from rfl) (by rfl)) (by rfl) (by rfl) ?_
  refine Ls.nil ?_
  refine Cd.block ?_
  refine Cd.loop (ι := Nat × Option Ety) (fun j => [(0, .slice A l.length c), (1, .string key), (2, .int .i64 seq), (6, .pointer (some ⟨g1, 0, none⟩)), (8, .pointer (some ⟨g2, 0, none⟩)), (9, .bool j.2.isSome), (10, .int .i64 j.1)]) (fun j => [blk g2 42 (j.2.getD Ety.zero).enc, blk g1 42 Ety.zero.enc, rdE A l]) (fun j => j.1 ≤ l.length ∧ getS key seq j.2 (l.drop j.1) = getS key seq none l) (fun j => l.length - j.1) ((0, none)) (⟨Nat.zero_le _, rfl⟩) ?_ rfl ?_
  · (repeat (first | exact trivial | refine ⟨by rfl, ?_⟩))
  rintro ⟨k, b⟩ ⟨hk, hg⟩
  dsimp only at hk hg ⊢
  refine Cd.seq ?_
  refine Cd.seq ?_
  refine Cd.region ?_
  refine Ls.ev (some 12) (Ev.move (show Oper.op _ = Op.move (Operand.tmp 10) from rfl) (by rfl)) (by rfl) (by rfl) ?_
  refine Ls.ev (some 13) (Ev.move (show Oper.op _ = Op.move (Operand.tmp 0) from rfl) (by rfl)) (by rfl) (by rfl) ?_
  refine Ls.ev (some 14) (Ev.len (show Oper.op _ = Op.call { callee := Callee.builtin Builtin.len, args := #[Operand.tmp 13], argTypes := #[22] } from rfl) (by rfl) Try.underlying22) (by rfl) (by rfl) ?_
  refine Ls.ev (some 15) (Ev.lss (show Oper.op _ = Op.binOp BinOp.lss 3 (Operand.tmp 12) (Operand.tmp 14) 3 from rfl) (by rfl) (by rfl)) (by rfl) (by rfl) ?_
  refine Ls.nil ?_
  refine Cd.cond _ (by rfl) (fun h1 => ?_) (fun h1 => ?_)
  · skip
    have hlt : k < l.length := by have := of_decide_eq_true h1; omega
    obtain ⟨x, hx⟩ := get_of_lt hlt
    rw [getS_step hx] at hg
    refine Ent.rdSome 2 (by rfl) (by omega) (fun ad had => ?_)
    subst had
    refine Cd.skip ?_
    refine Cd.seq ?_
    refine Cd.block ?_
    refine Cd.seq ?_
    refine Cd.cut (ι := Unit) (fun _ => [(0, .slice (some ad) l.length c), (1, .string key), (2, .int .i64 seq), (6, .pointer (some ⟨g1, 0, none⟩)), (8, .pointer (some ⟨g2, 0, none⟩)), (9, .bool b.isSome), (10, .int .i64 k), (47, .bool (hitE key seq x && (b.isNone || decide ((b.getD Ety.zero).seq < x.seq))))]) (fun _ => [blk g2 42 (b.getD Ety.zero).enc, blk g1 42 Ety.zero.enc, rdE (some ad) l]) (fun _ => True) ?_ ?_
    · skip
      skip
      refine Cd.draw [] (by kernel_rfl) ?_
      refine Rg.ev 0 (by rfl) (fun _ h => h) (Ev.move (show Oper.op _ = Op.move (Operand.tmp 0) from rfl) (by rfl)) (by rfl) (some 18) (by rfl) (by kernel_rfl) (by kernel_rfl) (by kernel_rfl) (by kernel_rfl) ?_
      refine Rg.ev 1 (by rfl) (fun _ h => h) (Ev.move (show Oper.op _ = Op.move (Operand.tmp 10) from rfl) (by rfl)) (by rfl) (some 19) (by rfl) (by kernel_rfl) (by kernel_rfl) (by kernel_rfl) (by kernel_rfl) ?_
      refine Rg.ev 2 (by rfl) (fun _ h => h) (Ev.indexAt (sz := 4) (show Oper.op _ = Op.indexAddr 22 (Operand.tmp 18) (Operand.tmp 19) from rfl) (by rfl) (by rfl) Try.underlying22 (by kernel_rfl) (by omega)) (by rfl) (some 20) (by rfl) (by kernel_rfl) (by kernel_rfl) (by kernel_rfl) (by kernel_rfl) ?_
      refine Rg.ev 3 (by rfl) (fun _ h => h) (Ev.fieldAddrE0 (k := 0) (show Oper.op _ = Op.fieldAddr 42 (Operand.tmp 20) 0 from rfl) (by rfl) (by kernel_rfl)) (by rfl) (some 21) (by rfl) (by kernel_rfl) (by kernel_rfl) (by kernel_rfl) (by kernel_rfl) ?_
      refine Rg.ev 4 (by rfl) (fun _ h => h) (Ev.loadElF (show Oper.op _ = Op.load 9 (Operand.tmp 21) from rfl) (by rfl) (ReadsIn.rd 2 (by rfl)) (by kernel_rfl) (by intro _; rfl) (by assumption) (by rfl)) (by rfl) (some 22) (by rfl) (by kernel_rfl) (by kernel_rfl) (by kernel_rfl) (by kernel_rfl) ?_
      refine Rg.ev 5 (by rfl) (fun _ h => h) (Ev.move (show Oper.op _ = Op.move (Operand.tmp 1) from rfl) (by rfl)) (by rfl) (some 23) (by rfl) (by kernel_rfl) (by kernel_rfl) (by kernel_rfl) (by kernel_rfl) ?_
      refine Rg.ev 6 (by rfl) (fun _ h => h) (Ev.eqlS (show Oper.op _ = Op.binOp BinOp.eql 9 (Operand.tmp 22) (Operand.tmp 23) 9 from rfl) (by rfl) (by rfl)) (by rfl) (some 24) (by rfl) (by kernel_rfl) (by kernel_rfl) (by kernel_rfl) (by kernel_rfl) ?_
      refine Rg.ev 7 (by rfl) (fun _ h => h) (Ev.move (show Oper.op _ = Op.move (Operand.tmp 24) from rfl) (by rfl)) (by rfl) (some 25) (by rfl) (by kernel_rfl) (by kernel_rfl) (by kernel_rfl) (by kernel_rfl) ?_
      refine Ent.split 25 (by rfl) (fun h3 => ?_) (fun h3 => ?_)
      · skip
        refine Rg.pass 8 (by rfl) (fun _ h => h) (by rfl) (some 26) (by rfl) (by kernel_rfl) (by kernel_rfl) (by kernel_rfl) (by kernel_rfl) ?_
        refine Rg.pass 9 (by rfl) (fun _ h => h) (by rfl) (some 27) (by rfl) (by kernel_rfl) (by kernel_rfl) (by kernel_rfl) (by kernel_rfl) ?_
        refine Rg.pass 10 (by rfl) (fun _ h => h) (by rfl) (some 28) (by rfl) (by kernel_rfl) (by kernel_rfl) (by kernel_rfl) (by kernel_rfl) ?_
        refine Rg.pass 11 (by rfl) (fun _ h => h) (by rfl) (some 29) (by rfl) (by kernel_rfl) (by kernel_rfl) (by kernel_rfl) (by kernel_rfl) ?_
        refine Rg.pass 12 (by rfl) (fun _ h => h) (by rfl) (some 30) (by rfl) (by kernel_rfl) (by kernel_rfl) (by kernel_rfl) (by kernel_rfl) ?_
        refine Rg.pass 13 (by rfl) (fun _ h => h) (by rfl) (some 31) (by rfl) (by kernel_rfl) (by kernel_rfl) (by kernel_rfl) (by kernel_rfl) ?_
        refine Rg.pass 14 (by rfl) (fun _ h => h) (by rfl) (some 32) (by rfl) (by kernel_rfl) (by kernel_rfl) (by kernel_rfl) (by kernel_rfl) ?_
        refine Rg.ev 15 (by rfl) (fun _ h => h) (Ev.pickF (show Oper.op _ = Op.pick (Operand.tmp 25) (Operand.tmp 32) (Operand.const (Value.bool false)) from rfl) (by rfl) (by rfl)) (by rfl) (some 33) (by rfl) (by kernel_rfl) (by kernel_rfl) (by kernel_rfl) (by kernel_rfl) ?_
        refine Rg.ev 16 (by rfl) (fun _ h => h) (Ev.move (show Oper.op _ = Op.move (Operand.tmp 33) from rfl) (by rfl)) (by rfl) (some 34) (by rfl) (by kernel_rfl) (by kernel_rfl) (by kernel_rfl) (by kernel_rfl) ?_
        refine Rg.pass 17 (by rfl) (fun _ h => h) (by rfl) (some 35) (by rfl) (by kernel_rfl) (by kernel_rfl) (by kernel_rfl) (by kernel_rfl) ?_
        refine Rg.pass 18 (by rfl) (fun _ h => h) (by rfl) (some 36) (by rfl) (by kernel_rfl) (by kernel_rfl) (by kernel_rfl) (by kernel_rfl) ?_
        refine Rg.pass 19 (by rfl) (fun _ h => h) (by rfl) (some 37) (by rfl) (by kernel_rfl) (by kernel_rfl) (by kernel_rfl) (by kernel_rfl) ?_
        refine Rg.pass 20 (by rfl) (fun _ h => h) (by rfl) (some 38) (by rfl) (by kernel_rfl) (by kernel_rfl) (by kernel_rfl) (by kernel_rfl) ?_
        refine Rg.pass 21 (by rfl) (fun _ h => h) (by rfl) (some 39) (by rfl) (by kernel_rfl) (by kernel_rfl) (by kernel_rfl) (by kernel_rfl) ?_
        refine Rg.pass 22 (by rfl) (fun _ h => h) (by rfl) (some 40) (by rfl) (by kernel_rfl) (by kernel_rfl) (by kernel_rfl) (by kernel_rfl) ?_
        refine Rg.pass 23 (by rfl) (fun _ h => h) (by rfl) (some 41) (by rfl) (by kernel_rfl) (by kernel_rfl) (by kernel_rfl) (by kernel_rfl) ?_
        refine Rg.pass 24 (by rfl) (fun _ h => h) (by rfl) (some 42) (by rfl) (by kernel_rfl) (by kernel_rfl) (by kernel_rfl) (by kernel_rfl) ?_
        refine Rg.pass 25 (by rfl) (fun _ h => h) (by rfl) (some 43) (by rfl) (by kernel_rfl) (by kernel_rfl) (by kernel_rfl) (by kernel_rfl) ?_
        refine Rg.pass 26 (by rfl) (fun _ h => h) (by rfl) (some 44) (by rfl) (by kernel_rfl) (by kernel_rfl) (by kernel_rfl) (by kernel_rfl) ?_
        refine Rg.pass 27 (by rfl) (fun _ h => h) (by rfl) (some 45) (by rfl) (by kernel_rfl) (by kernel_rfl) (by kernel_rfl) (by kernel_rfl) ?_
        refine Rg.pass 28 (by rfl) (fun _ h => h) (by rfl) (some 46) (by rfl) (by kernel_rfl) (by kernel_rfl) (by kernel_rfl) (by kernel_rfl) ?_
        refine Rg.ev 29 (by rfl) (fun _ h => h) (Ev.pickF (show Oper.op _ = Op.pick (Operand.tmp 34) (Operand.tmp 46) (Operand.const (Value.bool false)) from rfl) (by rfl) (by rfl)) (by rfl) (some 47) (by rfl) (by kernel_rfl) (by kernel_rfl) (by kernel_rfl) (by kernel_rfl) ?_
        refine Rg.done (by kernel_rfl) ?_ _
        refine Ent.inv (()) ?_ ?_ ?_
        · (try dsimp only); skip
        · (repeat (first | exact trivial | refine ⟨by rfl, ?_⟩ | refine ⟨by simp only [List.length_append, List.length_cons, List.length_nil]; rfl, ?_⟩ | refine ⟨by push_cast; rfl, ?_⟩ | refine ⟨by (show some (Value.bool _) = some (Value.bool _); unfold hitE; rw [h3]; rfl), ?_⟩))
        · rfl
      · skip
        refine Rg.ev 8 (by rfl) (fun _ h => h) (Ev.move (show Oper.op _ = Op.move (Operand.tmp 0) from rfl) (by rfl)) (by rfl) (some 26) (by rfl) (by kernel_rfl) (by kernel_rfl) (by kernel_rfl) (by kernel_rfl) ?_
        refine Rg.ev 9 (by rfl) (fun _ h => h) (Ev.move (show Oper.op _ = Op.move (Operand.tmp 10) from rfl) (by rfl)) (by rfl) (some 27) (by rfl) (by kernel_rfl) (by kernel_rfl) (by kernel_rfl) (by kernel_rfl) ?_
        refine Rg.ev 10 (by rfl) (fun _ h => h) (Ev.indexAt (sz := 4) (show Oper.op _ = Op.indexAddr 22 (Operand.tmp 26) (Operand.tmp 27) from rfl) (by rfl) (by rfl) Try.underlying22 (by kernel_rfl) (by omega)) (by rfl) (some 28) (by rfl) (by kernel_rfl) (by kernel_rfl) (by kernel_rfl) (by kernel_rfl) ?_
        refine Rg.ev 11 (by rfl) (fun _ h => h) (Ev.fieldAddrE0 (k := 1) (show Oper.op _ = Op.fieldAddr 42 (Operand.tmp 28) 1 from rfl) (by rfl) (by kernel_rfl)) (by rfl) (some 29) (by rfl) (by kernel_rfl) (by kernel_rfl) (by kernel_rfl) (by kernel_rfl) ?_
        refine Rg.ev 12 (by rfl) (fun _ h => h) (Ev.loadElF (show Oper.op _ = Op.load 3 (Operand.tmp 29) from rfl) (by rfl) (ReadsIn.rd 2 (by rfl)) (by kernel_rfl) (by intro _; rfl) (by assumption) (by rfl)) (by rfl) (some 30) (by rfl) (by kernel_rfl) (by kernel_rfl) (by kernel_rfl) (by kernel_rfl) ?_
        refine Rg.ev 13 (by rfl) (fun _ h => h) (Ev.move (show Oper.op _ = Op.move (Operand.tmp 2) from rfl) (by rfl)) (by rfl) (some 31) (by rfl) (by kernel_rfl) (by kernel_rfl) (by kernel_rfl) (by kernel_rfl) ?_
        refine Rg.ev 14 (by rfl) (fun _ h => h) (Ev.leq (show Oper.op _ = Op.binOp BinOp.leq 3 (Operand.tmp 30) (Operand.tmp 31) 3 from rfl) (by rfl) (by rfl)) (by rfl) (some 32) (by rfl) (by kernel_rfl) (by kernel_rfl) (by kernel_rfl) (by kernel_rfl) ?_
        refine Rg.ev 15 (by rfl) (fun _ h => h) (Ev.pickT (show Oper.op _ = Op.pick (Operand.tmp 25) (Operand.tmp 32) (Operand.const (Value.bool false)) from rfl) (by rfl) (by rfl)) (by rfl) (some 33) (by rfl) (by kernel_rfl) (by kernel_rfl) (by kernel_rfl) (by kernel_rfl) ?_
        refine Rg.ev 16 (by rfl) (fun _ h => h) (Ev.move (show Oper.op _ = Op.move (Operand.tmp 33) from rfl) (by rfl)) (by rfl) (some 34) (by rfl) (by kernel_rfl) (by kernel_rfl) (by kernel_rfl) (by kernel_rfl) ?_
        refine Ent.split 34 (by rfl) (fun h4 => ?_) (fun h4 => ?_)
        · skip
          refine Rg.pass 17 (by rfl) (fun _ h => h) (by rfl) (some 35) (by rfl) (by kernel_rfl) (by kernel_rfl) (by kernel_rfl) (by kernel_rfl) ?_
          refine Rg.pass 18 (by rfl) (fun _ h => h) (by rfl) (some 36) (by rfl) (by kernel_rfl) (by kernel_rfl) (by kernel_rfl) (by kernel_rfl) ?_
          refine Rg.pass 19 (by rfl) (fun _ h => h) (by rfl) (some 37) (by rfl) (by kernel_rfl) (by kernel_rfl) (by kernel_rfl) (by kernel_rfl) ?_
          refine Rg.pass 20 (by rfl) (fun _ h => h) (by rfl) (some 38) (by rfl) (by kernel_rfl) (by kernel_rfl) (by kernel_rfl) (by kernel_rfl) ?_
          refine Rg.pass 21 (by rfl) (fun _ h => h) (by rfl) (some 39) (by rfl) (by kernel_rfl) (by kernel_rfl) (by kernel_rfl) (by kernel_rfl) ?_
          refine Rg.pass 22 (by rfl) (fun _ h => h) (by rfl) (some 40) (by rfl) (by kernel_rfl) (by kernel_rfl) (by kernel_rfl) (by kernel_rfl) ?_
          refine Rg.pass 23 (by rfl) (fun _ h => h) (by rfl) (some 41) (by rfl) (by kernel_rfl) (by kernel_rfl) (by kernel_rfl) (by kernel_rfl) ?_
          refine Rg.pass 24 (by rfl) (fun _ h => h) (by rfl) (some 42) (by rfl) (by kernel_rfl) (by kernel_rfl) (by kernel_rfl) (by kernel_rfl) ?_
          refine Rg.pass 25 (by rfl) (fun _ h => h) (by rfl) (some 43) (by rfl) (by kernel_rfl) (by kernel_rfl) (by kernel_rfl) (by kernel_rfl) ?_
          refine Rg.pass 26 (by rfl) (fun _ h => h) (by rfl) (some 44) (by rfl) (by kernel_rfl) (by kernel_rfl) (by kernel_rfl) (by kernel_rfl) ?_
          refine Rg.pass 27 (by rfl) (fun _ h => h) (by rfl) (some 45) (by rfl) (by kernel_rfl) (by kernel_rfl) (by kernel_rfl) (by kernel_rfl) ?_
          refine Rg.pass 28 (by rfl) (fun _ h => h) (by rfl) (some 46) (by rfl) (by kernel_rfl) (by kernel_rfl) (by kernel_rfl) (by kernel_rfl) ?_
          refine Rg.ev 29 (by rfl) (fun _ h => h) (Ev.pickF (show Oper.op _ = Op.pick (Operand.tmp 34) (Operand.tmp 46) (Operand.const (Value.bool false)) from rfl) (by rfl) (by rfl)) (by rfl) (some 47) (by rfl) (by kernel_rfl) (by kernel_rfl) (by kernel_rfl) (by kernel_rfl) ?_
          refine Rg.done (by kernel_rfl) ?_ _
          refine Ent.inv (()) ?_ ?_ ?_
          · (try dsimp only); skip
          · (repeat (first | exact trivial | refine ⟨by rfl, ?_⟩ | refine ⟨by simp only [List.length_append, List.length_cons, List.length_nil]; rfl, ?_⟩ | refine ⟨by push_cast; rfl, ?_⟩ | refine ⟨by (show some (Value.bool _) = some (Value.bool _); unfold hitE; rw [h3, h4]; rfl), ?_⟩))
          · rfl
        · skip
          refine Rg.ev 17 (by rfl) (fun _ h => h) (Ev.move (show Oper.op _ = Op.move (Operand.tmp 9) from rfl) (by rfl)) (by rfl) (some 35) (by rfl) (by kernel_rfl) (by kernel_rfl) (by kernel_rfl) (by kernel_rfl) ?_
          refine Rg.ev 18 (by rfl) (fun _ h => h) (Ev.not (show Oper.op _ = Op.unOp UnOp.not 4 (Operand.tmp 35) from rfl) (by rfl)) (by rfl) (some 36) (by rfl) (by kernel_rfl) (by kernel_rfl) (by kernel_rfl) (by kernel_rfl) ?_
          refine Rg.ev 19 (by rfl) (fun _ h => h) (Ev.move (show Oper.op _ = Op.move (Operand.tmp 36) from rfl) (by rfl)) (by rfl) (some 37) (by rfl) (by kernel_rfl) (by kernel_rfl) (by kernel_rfl) (by kernel_rfl) ?_
          refine Ent.split 37 (by rfl) (fun h5 => ?_) (fun h5 => ?_)
          · skip
            have h6 : b.isNone = false := by cases b <;> simp_all
            refine Rg.ev 20 (by rfl) (fun _ h => h) (Ev.move (show Oper.op _ = Op.move (Operand.tmp 0) from rfl) (by rfl)) (by rfl) (some 38) (by rfl) (by kernel_rfl) (by kernel_rfl) (by kernel_rfl) (by kernel_rfl) ?_
            refine Rg.ev 21 (by rfl) (fun _ h => h) (Ev.move (show Oper.op _ = Op.move (Operand.tmp 10) from rfl) (by rfl)) (by rfl) (some 39) (by rfl) (by kernel_rfl) (by kernel_rfl) (by kernel_rfl) (by kernel_rfl) ?_
            refine Rg.ev 22 (by rfl) (fun _ h => h) (Ev.indexAt (sz := 4) (show Oper.op _ = Op.indexAddr 22 (Operand.tmp 38) (Operand.tmp 39) from rfl) (by rfl) (by rfl) Try.underlying22 (by kernel_rfl) (by omega)) (by rfl) (some 40) (by rfl) (by kernel_rfl) (by kernel_rfl) (by kernel_rfl) (by kernel_rfl) ?_
            refine Rg.ev 23 (by rfl) (fun _ h => h) (Ev.fieldAddrE0 (k := 1) (show Oper.op _ = Op.fieldAddr 42 (Operand.tmp 40) 1 from rfl) (by rfl) (by kernel_rfl)) (by rfl) (some 41) (by rfl) (by kernel_rfl) (by kernel_rfl) (by kernel_rfl) (by kernel_rfl) ?_
            refine Rg.ev 24 (by rfl) (fun _ h => h) (Ev.loadElF (show Oper.op _ = Op.load 3 (Operand.tmp 41) from rfl) (by rfl) (ReadsIn.rd 2 (by rfl)) (by kernel_rfl) (by intro _; rfl) (by assumption) (by rfl)) (by rfl) (some 42) (by rfl) (by kernel_rfl) (by kernel_rfl) (by kernel_rfl) (by kernel_rfl) ?_
            refine Rg.ev 25 (by rfl) (fun _ h => h) (Ev.fieldAddr (k := 1) (show Oper.op _ = Op.fieldAddr 42 (Operand.tmp 8) 1 from rfl) (by rfl) (by kernel_rfl) (by rfl)) (by rfl) (some 43) (by rfl) (by kernel_rfl) (by kernel_rfl) (by kernel_rfl) (by kernel_rfl) ?_
            refine Rg.ev 26 (by rfl) (fun _ h => h) (Ev.load 0 (show Oper.op _ = Op.load 3 (Operand.tmp 43) from rfl) (by rfl) (by rfl) (by kernel_rfl) (by rfl)) (by rfl) (some 44) (by rfl) (by kernel_rfl) (by kernel_rfl) (by kernel_rfl) (by kernel_rfl) ?_
            refine Rg.ev 27 (by rfl) (fun _ h => h) (Ev.gtr (show Oper.op _ = Op.binOp BinOp.gtr 3 (Operand.tmp 42) (Operand.tmp 44) 3 from rfl) (by rfl) (by rfl)) (by rfl) (some 45) (by rfl) (by kernel_rfl) (by kernel_rfl) (by kernel_rfl) (by kernel_rfl) ?_
            refine Rg.ev 28 (by rfl) (fun _ h => h) (Ev.pickF (show Oper.op _ = Op.pick (Operand.tmp 37) (Operand.const (Value.bool true)) (Operand.tmp 45) from rfl) (by rfl) (by rfl)) (by rfl) (some 46) (by rfl) (by kernel_rfl) (by kernel_rfl) (by kernel_rfl) (by kernel_rfl) ?_
            refine Rg.ev 29 (by rfl) (fun _ h => h) (Ev.pickT (show Oper.op _ = Op.pick (Operand.tmp 34) (Operand.tmp 46) (Operand.const (Value.bool false)) from rfl) (by rfl) (by rfl)) (by rfl) (some 47) (by rfl) (by kernel_rfl) (by kernel_rfl) (by kernel_rfl) (by kernel_rfl) ?_
            refine Rg.done (by kernel_rfl) ?_ _
            refine Ent.inv (()) ?_ ?_ ?_
            · (try dsimp only); skip
            · (repeat (first | exact trivial | refine ⟨by rfl, ?_⟩ | refine ⟨by simp only [List.length_append, List.length_cons, List.length_nil]; rfl, ?_⟩ | refine ⟨by push_cast; rfl, ?_⟩ | refine ⟨by (show some (Value.bool _) = some (Value.bool _); unfold hitE; rw [h3, h4, h6]; rfl), ?_⟩))
            · rfl
          · skip
            have h6 : b.isNone = true := by cases b <;> simp_all
            refine Rg.pass 20 (by rfl) (fun _ h => h) (by rfl) (some 38) (by rfl) (by kernel_rfl) (by kernel_rfl) (by kernel_rfl) (by kernel_rfl) ?_
            refine Rg.pass 21 (by rfl) (fun _ h => h) (by rfl) (some 39) (by rfl) (by kernel_rfl) (by kernel_rfl) (by kernel_rfl) (by kernel_rfl) ?_
            refine Rg.pass 22 (by rfl) (fun _ h => h) (by rfl) (some 40) (by rfl) (by kernel_rfl) (by kernel_rfl) (by kernel_rfl) (by kernel_rfl) ?_
            refine Rg.pass 23 (by rfl) (fun _ h => h) (by rfl) (some 41) (by rfl) (by kernel_rfl) (by kernel_rfl) (by kernel_rfl) (by kernel_rfl) ?_
            refine Rg.pass 24 (by rfl) (fun _ h => h) (by rfl) (some 42) (by rfl) (by kernel_rfl) (by kernel_rfl) (by kernel_rfl) (by kernel_rfl) ?_
            refine Rg.pass 25 (by rfl) (fun _ h => h) (by rfl) (some 43) (by rfl) (by kernel_rfl) (by kernel_rfl) (by kernel_rfl) (by kernel_rfl) ?_
            refine Rg.pass 26 (by rfl) (fun _ h => h) (by rfl) (some 44) (by rfl) (by kernel_rfl) (by kernel_rfl) (by kernel_rfl) (by kernel_rfl) ?_
            refine Rg.pass 27 (by rfl) (fun _ h => h) (by rfl) (some 45) (by rfl) (by kernel_rfl) (by kernel_rfl) (by kernel_rfl) (by kernel_rfl) ?_
            refine Rg.ev 28 (by rfl) (fun _ h => h) (Ev.pickT (show Oper.op _ = Op.pick (Operand.tmp 37) (Operand.const (Value.bool true)) (Operand.tmp 45) from rfl) (by rfl) (by rfl)) (by rfl) (some 46) (by rfl) (by kernel_rfl) (by kernel_rfl) (by kernel_rfl) (by kernel_rfl) ?_
            refine Rg.ev 29 (by rfl) (fun _ h => h) (Ev.pickT (show Oper.op _ = Op.pick (Operand.tmp 34) (Operand.tmp 46) (Operand.const (Value.bool false)) from rfl) (by rfl) (by rfl)) (by rfl) (some 47) (by rfl) (by kernel_rfl) (by kernel_rfl) (by kernel_rfl) (by kernel_rfl) ?_
            refine Rg.done (by kernel_rfl) ?_ _
            refine Ent.inv (()) ?_ ?_ ?_
            · (try dsimp only); skip
            · (repeat (first | exact trivial | refine ⟨by rfl, ?_⟩ | refine ⟨by simp only [List.length_append, List.length_cons, List.length_nil]; rfl, ?_⟩ | refine ⟨by push_cast; rfl, ?_⟩ | refine ⟨by (show some (Value.bool _) = some (Value.bool _); unfold hitE; rw [h3, h4, h6]; rfl), ?_⟩))
            · rfl
      skip
    skip
    rintro _ -
    refine Cd.cond _ (by rfl) (fun h7 => ?_) (fun h7 => ?_)
    · skip
      rw [if_pos h7] at hg
      refine Cd.seq ?_
      refine Cd.region ?_
      refine Ls.ev (some 48) (Ev.move (show Oper.op _ = Op.move (Operand.tmp 0) from rfl) (by rfl)) (by rfl) (by rfl) ?_
      refine Ls.ev (some 49) (Ev.move (show Oper.op _ = Op.move (Operand.tmp 10) from rfl) (by rfl)) (by rfl) (by rfl) ?_
      refine Ls.ev (some 50) (Ev.indexAt (sz := 4) (show Oper.op _ = Op.indexAddr 22 (Operand.tmp 48) (Operand.tmp 49) from rfl) (by rfl) (by rfl) Try.underlying22 (by kernel_rfl) (by omega)) (by rfl) (by rfl) ?_
      refine Ls.ev (some 51) (Ev.loadEl (show Oper.op _ = Op.load 42 (Operand.tmp 50) from rfl) (by rfl) (ReadsIn.rd 2 (by rfl)) (by kernel_rfl) (by intro _; rfl) (by assumption)) (by rfl) (by rfl) ?_
      refine Ls.does none (Does.store 0 (show Oper.op _ = Op.store 42 (Operand.tmp 8) (Operand.tmp 51) from rfl) (by rfl) (by rfl) (by rfl) (by kernel_rfl) (by rfl) (by kernel_rfl) (by rfl)) (by rfl) (by rfl) ?_
      intro _ _
      refine Ls.nil ?_
      refine Cd.region ?_
      refine Ls.ev (some 9) (Ev.assign (show Oper.op _ = Op.assign (Operand.const (Value.bool true)) from rfl) (by rfl)) (by rfl) (by rfl) ?_
      refine Ls.nil ?_
      refine Cd.region ?_
      refine Ls.ev (some 16) (Ev.move (show Oper.op _ = Op.move (Operand.tmp 10) from rfl) (by rfl)) (by rfl) (by rfl) ?_
      refine Ls.ev (some 17) (Ev.addN (b := 1) (show Oper.op _ = Op.binOp BinOp.add 3 (Operand.tmp 16) (Operand.const (Value.int IntKind.i64 1)) 3 from rfl) (by rfl) (by rfl) (by omega)) (by rfl) (by rfl) ?_
      refine Ls.ev (some 10) (Ev.assign (show Oper.op _ = Op.assign (Operand.tmp 17) from rfl) (by rfl)) (by rfl) (by rfl) ?_
      refine Ls.nil ?_
      refine Ent.inv ((k + 1, some x)) ?_ ?_ ?_
      · (try dsimp only); exact ⟨⟨by omega, hg⟩, by omega⟩
      · (repeat (first | exact trivial | refine ⟨by rfl, ?_⟩ | refine ⟨by simp only [List.length_append, List.length_cons, List.length_nil]; rfl, ?_⟩ | refine ⟨by push_cast; rfl, ?_⟩))
      · rfl
    · skip
      rw [if_neg (by rw [h7]; decide)] at hg
      refine Cd.skip ?_
      refine Cd.region ?_
      refine Ls.ev (some 16) (Ev.move (show Oper.op _ = Op.move (Operand.tmp 10) from rfl) (by rfl)) (by rfl) (by rfl) ?_
      refine Ls.ev (some 17) (Ev.addN (b := 1) (show Oper.op _ = Op.binOp BinOp.add 3 (Operand.tmp 16) (Operand.const (Value.int IntKind.i64 1)) 3 from rfl) (by rfl) (by rfl) (by omega)) (by rfl) (by rfl) ?_
      refine Ls.ev (some 10) (Ev.assign (show Oper.op _ = Op.assign (Operand.tmp 17) from rfl) (by rfl)) (by rfl) (by rfl) ?_
      refine Ls.nil ?_
      refine Ent.inv ((k + 1, b)) ?_ ?_ ?_
      · (try dsimp only); exact ⟨⟨by omega, hg⟩, by omega⟩
      · (repeat (first | exact trivial | refine ⟨by rfl, ?_⟩ | refine ⟨by simp only [List.length_append, List.length_cons, List.length_nil]; rfl, ?_⟩ | refine ⟨by push_cast; rfl, ?_⟩))
      · rfl
  · skip
    have hk2 : k = l.length := by have := of_decide_eq_false h1; omega
    subst hk2
    rw [List.drop_length] at hg
    have hg : b = getS key seq none l := hg
    refine Cd.exit ?_
    refine Cd.seq ?_
    refine Cd.region ?_
    refine Ls.ev (some 52) (Ev.loads 0 (show Oper.op _ = Op.load 42 (Operand.tmp 8) from rfl) (by rfl) (by rfl) (n := 4) (by kernel_rfl) (by rfl) (by rfl)) (by rfl) (by rfl) ?_
    refine Ls.ev (some 53) (Ev.move (show Oper.op _ = Op.move (Operand.tmp 9) from rfl) (by rfl)) (by rfl) (by rfl) ?_
    refine Ls.does none (Does.store 1 (show Oper.op _ = Op.store 42 (Operand.tmp 6) (Operand.tmp 52) from rfl) (by rfl) (by rfl) (by rfl) (by kernel_rfl) (by rfl) (by kernel_rfl) (by rfl)) (by rfl) (by rfl) ?_
    intro _ _
    refine Ls.ev (some 7) (Ev.assign (show Oper.op _ = Op.assign (Operand.tmp 53) from rfl) (by rfl)) (by rfl) (by rfl) ?_
    refine Ls.nil ?_
    refine Cd.ret ?_
    refine Ent.ret (()) (trivial) (Res.cell_tmp 1 (by rfl) (by rfl) (by rfl) (n := 4) (by kernel_rfl) (by rfl) (by rfl) (by rfl)) ?_ [] (by rfl) ?_
    · rw [← hg]; rfl
    · rfl
theorem refSame_sl (A B : Option Addr) (c d : Nat) (l m : List Ety) (hn : l.length ≤ 1099511627776) : Fn Try.prog 15 #[.slice A l.length c, .slice B m.length d] [rdE A l, rdE B m] Unit (fun _ => .bool (decide (l = m))) (fun _ => []) (fun _ => True) := by
  refine Fn.enter Try.func15 rfl Try.ntmps15 (by rfl) ?_
  intro w0
  skip
  refine Cd.seq ?_
  refine Cd.region ?_
  refine Ls.ev (some 4) (Ev.assign (show Oper.op _ = Op.assign (Operand.const (Value.bool false)) from rfl) (by rfl)) (by rfl) (by rfl) ?_
  refine Ls.nil ?_
  refine Cd.seq ?_
  refine Cd.seq ?_
  refine Cd.region ?_
  refine Ls.ev (some 6) (Ev.move (show Oper.op _ = Op.move (Operand.tmp 0) from rfl) (by rfl)) (by rfl) (by rfl) ?_
  refine Ls.ev (some 7) (Ev.len (show Oper.op _ = Op.call { callee := Callee.builtin Builtin.len, args := #[Operand.tmp 6], argTypes := #[22] } from rfl) (by rfl) Try.underlying22) (by rfl) (by rfl) ?_
  refine Ls.ev (some 8) (Ev.move (show Oper.op _ = Op.move (Operand.tmp 1) from rfl) (by rfl)) (by rfl) (by rfl) ?_
  refine Ls.ev (some 9) (Ev.len (show Oper.op _ = Op.call { callee := Callee.builtin Builtin.len, args := #[Operand.tmp 8], argTypes := #[22] } from rfl) (by rfl) Try.underlying22) (by rfl) (by rfl) ?_
  refine Ls.ev (some 10) (Ev.neq (show Oper.op _ = Op.binOp BinOp.neq 3 (Operand.tmp 7) (Operand.tmp 9) 3 from rfl) (by rfl) (by rfl)) (by rfl) (by rfl) ?_
  refine Ls.nil ?_
  refine Cd.cond _ (by rfl) (fun h1 => ?_) (fun h1 => ?_)
  · skip
    have h2 : l.length ≠ m.length := by have := of_decide_eq_true h1; omega
    refine Cd.seq ?_
    refine Cd.region ?_
    refine Ls.ev (some 4) (Ev.assign (show Oper.op _ = Op.assign (Operand.const (Value.bool false)) from rfl) (by rfl)) (by rfl) (by rfl) ?_
    refine Ls.nil ?_
    refine Cd.ret ?_
    refine Ent.ret (()) (trivial) (Res.tmp (by rfl) (by rfl)) ?_ [] (by rfl) ?_
    · rw [decide_eq_false (fun e => h2 (by rw [e]))]
    · rfl
  · skip
    have h2 : l.length = m.length := by have := of_decide_eq_false h1; omega
    refine Cd.skip ?_
    refine Cd.seq ?_
    refine Cd.seq ?_
    refine Cd.region ?_
    refine Ls.ev (some 11) (Ev.move (show Oper.op _ = Op.move (Operand.tmp 0) from rfl) (by rfl)) (by rfl) (by rfl) ?_
    refine Ls.ev (some 12) (Ev.len (show Oper.op _ = Op.call { callee := Callee.builtin Builtin.len, args := #[Operand.tmp 11], argTypes := #[22] } from rfl) (by rfl) Try.underlying22) (by rfl) (by rfl) ?_
    refine Ls.ev (some 13) (Ev.move (show Oper.op _ = Op.move (Operand.const (Value.int IntKind.i64 0)) from rfl) (by rfl)) (by rfl) (by rfl) ?_
    refine Ls.nil ?_
    refine Cd.block ?_
    refine Cd.loop (ι := Nat) (fun k => [(0, .slice A l.length c), (1, .slice B m.length d), (12, .int .i64 l.length), (13, .int .i64 k)]) (fun _ => [rdE A l, rdE B m]) (fun k => k ≤ l.length ∧ l.take k = m.take k) (fun k => l.length - k) (0) (⟨Nat.zero_le _, rfl⟩) ?_ rfl ?_
    · (repeat (first | exact trivial | refine ⟨by rfl, ?_⟩))
    intro k ⟨hk, ht⟩
    refine Cd.seq ?_
    refine Cd.region ?_
    refine Ls.ev (some 14) (Ev.lss (show Oper.op _ = Op.binOp BinOp.lss 3 (Operand.tmp 13) (Operand.tmp 12) 3 from rfl) (by rfl) (by rfl)) (by rfl) (by rfl) ?_
    refine Ls.nil ?_
    refine Cd.seq ?_
    refine Cd.cond _ (by rfl) (fun h3 => ?_) (fun h3 => ?_)
    · skip
      have hlt : k < l.length := by have := of_decide_eq_true h3; omega
      obtain ⟨x, hx⟩ := get_of_lt hlt
      obtain ⟨y, hy⟩ := get_of_lt (show k < m.length by omega)
      refine Ent.rdSome 0 (by rfl) (by omega) (fun ad had => ?_)
      subst had
      refine Ent.rdSome 1 (by rfl) (by omega) (fun bd had => ?_)
      subst had
      refine Cd.skip ?_
      refine Cd.seq ?_
      refine Cd.block ?_
      refine Cd.seq ?_
      refine Cd.region ?_
      refine Ls.ev (some 15) (Ev.move (show Oper.op _ = Op.move (Operand.tmp 13) from rfl) (by rfl)) (by rfl) (by rfl) ?_
      refine Ls.ev (some 5) (Ev.assign (show Oper.op _ = Op.assign (Operand.tmp 15) from rfl) (by rfl)) (by rfl) (by rfl) ?_
      refine Ls.nil ?_
      refine Cd.seq ?_
      refine Cd.draw [] (by kernel_rfl) ?_
      refine Rg.ev 0 (by rfl) (fun _ h => h) (Ev.move (show Oper.op _ = Op.move (Operand.tmp 0) from rfl) (by rfl)) (by rfl) (some 16) (by rfl) (by kernel_rfl) (by kernel_rfl) (by kernel_rfl) (by kernel_rfl) ?_
      refine Rg.ev 1 (by rfl) (fun _ h => h) (Ev.move (show Oper.op _ = Op.move (Operand.tmp 5) from rfl) (by rfl)) (by rfl) (some 17) (by rfl) (by kernel_rfl) (by kernel_rfl) (by kernel_rfl) (by kernel_rfl) ?_
      refine Rg.ev 2 (by rfl) (fun _ h => h) (Ev.indexAt (sz := 4) (show Oper.op _ = Op.indexAddr 22 (Operand.tmp 16) (Operand.tmp 17) from rfl) (by rfl) (by rfl) Try.underlying22 (by kernel_rfl) (by omega)) (by rfl) (some 18) (by rfl) (by kernel_rfl) (by kernel_rfl) (by kernel_rfl) (by kernel_rfl) ?_
      refine Rg.ev 3 (by rfl) (fun _ h => h) (Ev.loadEl (show Oper.op _ = Op.load 42 (Operand.tmp 18) from rfl) (by rfl) (ReadsIn.rd 0 (by rfl)) (by kernel_rfl) (by intro _; rfl) (by assumption)) (by rfl) (some 19) (by rfl) (by kernel_rfl) (by kernel_rfl) (by kernel_rfl) (by kernel_rfl) ?_
      refine Rg.ev 4 (by rfl) (fun _ h => h) (Ev.move (show Oper.op _ = Op.move (Operand.tmp 1) from rfl) (by rfl)) (by rfl) (some 20) (by rfl) (by kernel_rfl) (by kernel_rfl) (by kernel_rfl) (by kernel_rfl) ?_
      refine Rg.ev 5 (by rfl) (fun _ h => h) (Ev.move (show Oper.op _ = Op.move (Operand.tmp 5) from rfl) (by rfl)) (by rfl) (some 21) (by rfl) (by kernel_rfl) (by kernel_rfl) (by kernel_rfl) (by kernel_rfl) ?_
      refine Rg.ev 6 (by rfl) (fun _ h => h) (Ev.indexAt (sz := 4) (show Oper.op _ = Op.indexAddr 22 (Operand.tmp 20) (Operand.tmp 21) from rfl) (by rfl) (by rfl) Try.underlying22 (by kernel_rfl) (by omega)) (by rfl) (some 22) (by rfl) (by kernel_rfl) (by kernel_rfl) (by kernel_rfl) (by kernel_rfl) ?_
      refine Rg.ev 7 (by rfl) (fun _ h => h) (Ev.loadEl (show Oper.op _ = Op.load 42 (Operand.tmp 22) from rfl) (by rfl) (ReadsIn.rd 1 (by rfl)) (by kernel_rfl) (by intro _; rfl) (by assumption)) (by rfl) (some 23) (by rfl) (by kernel_rfl) (by kernel_rfl) (by kernel_rfl) (by kernel_rfl) ?_
      refine Rg.ev 8 (by rfl) (fun _ h => h) (Ev.neqE x y (show Oper.op _ = Op.binOp BinOp.neq 42 (Operand.tmp 19) (Operand.tmp 23) 42 from rfl) (by rfl) (by rfl)) (by rfl) (some 24) (by rfl) (by kernel_rfl) (by kernel_rfl) (by kernel_rfl) (by kernel_rfl) ?_
      refine Rg.done (by kernel_rfl) ?_ _
      refine Cd.cond _ (by rfl) (fun h4 => ?_) (fun h4 => ?_)
      · skip
        have h5 : ¬ x = y := by simpa using h4
        refine Cd.seq ?_
        refine Cd.region ?_
        refine Ls.ev (some 4) (Ev.assign (show Oper.op _ = Op.assign (Operand.const (Value.bool false)) from rfl) (by rfl)) (by rfl) (by rfl) ?_
        refine Ls.nil ?_
        refine Cd.ret ?_
        refine Ent.ret (()) (trivial) (Res.tmp (by rfl) (by rfl)) ?_ [] (by rfl) ?_
        · rw [decide_eq_false (fun e => h5 (by rw [e, hy] at hx; exact (Option.some.inj hx).symm))]
        · rfl
      · skip
        have h5 : x = y := by simpa using h4
        subst h5
        refine Cd.skip ?_
        refine Cd.region ?_
        refine Ls.ev (some 25) (Ev.addN (b := 1) (show Oper.op _ = Op.binOp BinOp.add 3 (Operand.tmp 13) (Operand.const (Value.int IntKind.i64 1)) 3 from rfl) (by rfl) (by rfl) (by omega)) (by rfl) (by rfl) ?_
        refine Ls.ev (some 13) (Ev.move (show Oper.op _ = Op.move (Operand.tmp 25) from rfl) (by rfl)) (by rfl) (by rfl) ?_
        refine Ls.nil ?_
        refine Ent.inv (k + 1) ?_ ?_ ?_
        · (try dsimp only); exact ⟨⟨by omega, by rw [List.take_add_one, List.take_add_one, ht, hx, hy]⟩, by omega⟩
        · (repeat (first | exact trivial | refine ⟨by rfl, ?_⟩ | refine ⟨by simp only [List.length_append, List.length_cons, List.length_nil]; rfl, ?_⟩ | refine ⟨by push_cast; rfl, ?_⟩))
        · rfl
    · skip
      have hk2 : k = l.length := by have := of_decide_eq_false h3; omega
      subst hk2
      rw [List.take_length, List.take_of_length_le (by omega)] at ht
      refine Cd.exit ?_
      refine Cd.seq ?_
      refine Cd.region ?_
      refine Ls.ev (some 4) (Ev.assign (show Oper.op _ = Op.assign (Operand.const (Value.bool true)) from rfl) (by rfl)) (by rfl) (by rfl) ?_
      refine Ls.nil ?_
      refine Cd.ret ?_
      refine Ent.ret (()) (trivial) (Res.tmp (by rfl) (by rfl)) ?_ [] (by rfl) ?_
      · rw [decide_eq_true ht]
      · rfl
end Go.Proofs.Ytnhcfhamcakfkaa
/- From: the entries from a key on, as an iterator -/
namespace Go.Proofs.Ytnhcfhamcakfkaa
open Go.RowKit
/-- Those from the key on. -/
def fromE (key : ByteArray) (e : Ety) : Bool := !(kl e.key key)
theorem take_filter_some {p : Ety → Bool} {m : List Ety} {k : Nat} {e : Ety} (h : m[k]? = some e) (hp : p e = true) : (m.take (k + 1)).filter p = (m.take k).filter p ++ [e] ∧ (m.filter p)[((m.take k).filter p).length]? = some e := by
  have h1 : m.take (k + 1) = m.take k ++ [e] := by rw [List.take_add_one, h]; rfl
  have h2 : (m.take (k + 1)).filter p = (m.take k).filter p ++ [e] := by rw [h1, List.filter_append, List.filter_cons, if_pos hp]; rfl
  refine ⟨h2, ?_⟩
  have h3 : m.filter p = (m.take k).filter p ++ [e] ++ (m.drop (k + 1)).filter p := by
    rw [← h2, ← List.filter_append, List.take_append_drop]
  rw [h3, List.append_assoc, List.getElem?_append_right (Nat.le_refl _), Nat.sub_self]
  rfl
theorem take_filter_none {p : Ety → Bool} {m : List Ety} {k : Nat} {e : Ety} (h : m[k]? = some e) (hp : p e = false) : (m.take (k + 1)).filter p = (m.take k).filter p := by
  have h1 : m.take (k + 1) = m.take k ++ [e] := by rw [List.take_add_one, h]; rfl
  rw [h1, List.filter_append, List.filter_cons, if_neg (by rw [hp]; decide), List.filter_nil, List.append_nil]
def RdT.hit (t : RdT) (m : List Ety) (looked : Int) (key : ByteArray) (gr gk : Nat) : List Chunk := [blk gr 32 [.pointer (some ⟨t.g, 0, none⟩)], blk gk 9 [.string key], blk t.g 75 (t.vals m looked), rd t.xA (bksE m).length 4 ((bksE m).flatMap Bk.enc), rdB t.bA (tabL m)]
theorem from_iter {m : List Ety} (he : errL m = 0) (t : RdT) (looked : Int) (key : ByteArray) (gr gk : Nat) (hc : (tabL m).length ≤ t.bc) : IterQ Try.prog 53 #[.pointer (some ⟨gr, 0, none⟩), .pointer (some ⟨gk, 0, none⟩)] (fun e : Ety => [.agg e.enc.toArray]) (t.hit m looked key gr gk) (m.filter (fromE key)) := by
  have hg := good_of he
  have hpos := hg.pos
  have hle := hg.le
  unfold RdT.hit
  intro ι X Y Rc φ ψ l i0 hX hY hR hy h0
  refine Fn.enter Try.func53 rfl Try.ntmps53 (by rfl) ?_
  intro w0
  skip
  refine Cd.seq ?_
  refine Cd.region ?_
  refine Ls.ev (some 6) (Ev.load 2 (show Oper.op _ = Op.load 32 (Operand.tmp 1) from rfl) (by rfl) (by rfl) (by kernel_rfl) (by rfl)) (by rfl) (by rfl) ?_
  refine Ls.does (some 7) (Does.readN (show Oper.op _ = Op.call { callee := Callee.value (Operand.func 16), args := #[Operand.tmp 6], argTypes := #[32] } from rfl) Try.func16 (by kernel_rfl) (by kernel_rfl) (all_tab he t looked hc) (by rfl) (by rfl) ⟨blkIn 4 (by rfl), ReadsIn.rd 5 (by rfl), ReadsIn.rd 6 (by rfl), trivial⟩ (fun _ => by rfl)) (by rfl) (by rfl) ?_
  intro q _
  refine Ent.see 0 (by rfl) (Ent.rdSome 0 (by rfl) hpos (fun ad had => ?_))
  rw [had]
  refine Ls.ev (some 8) (Ev.len (show Oper.op _ = Op.call { callee := Callee.builtin Builtin.len, args := #[Operand.tmp 7], argTypes := #[22] } from rfl) (by rfl) Try.underlying22) (by rfl) (by rfl) ?_
  refine Ls.ev (some 9) (Ev.move (show Oper.op _ = Op.move (Operand.const (Value.int IntKind.i64 0)) from rfl) (by rfl)) (by rfl) (by rfl) ?_
  refine Ls.nil ?_
  refine Cd.block ?_
  refine Ent.pick [1, 2, 3, 4, 5, 6, 7, 0] (by rfl) ?_
  refine Cd.loop (ι := Nat × ι) (fun j => [(0, .func (.yield l) #[] #[]), (2, .pointer (some ⟨gk, 0, none⟩)), (7, .slice (some ad) m.length q.2), (8, .int .i64 m.length), (9, .int .i64 j.1)]) (fun j => [X ((m.take j.1).filter (fromE key)) j.2, Rc, blk gr 32 [.pointer (some ⟨t.g, 0, none⟩)], blk gk 9 [.string key], blk t.g 75 (t.vals m looked), rd t.xA (bksE m).length 4 ((bksE m).flatMap Bk.enc), rdB t.bA (tabL m), rdE (some ad) m]) (fun j => j.1 ≤ m.length ∧ φ ((m.take j.1).filter (fromE key)) j.2) (fun j => m.length - j.1) ((0, i0)) (⟨Nat.zero_le _, h0⟩) ?_ rfl ?_
  · (repeat (first | exact trivial | refine ⟨by rfl, ?_⟩))
  rintro ⟨k, j⟩ ⟨hk, hφ⟩
  dsimp only at hk hφ ⊢
  refine Cd.seq ?_
  refine Cd.region ?_
  refine Ls.ev (some 10) (Ev.lss (show Oper.op _ = Op.binOp BinOp.lss 3 (Operand.tmp 9) (Operand.tmp 8) 3 from rfl) (by rfl) (by rfl)) (by rfl) (by rfl) ?_
  refine Ls.nil ?_
  refine Cd.seq ?_
  refine Cd.cond _ (by rfl) (fun h => ?_) (fun h => ?_)
  · skip
    have hlt : k < m.length := by have := of_decide_eq_true h; omega
    obtain ⟨e, hee⟩ := get_of_lt hlt
    refine Ent.pick [7, 0, 1, 2, 3, 4, 5, 6] (by rfl) ?_
    refine Cd.skip ?_
    refine Cd.seq ?_
    refine Cd.block ?_
    refine Cd.seq ?_
    refine Cd.region ?_
    refine Ls.ev (some 11) (Ev.indexAt (sz := 4) (show Oper.op _ = Op.indexAddr 22 (Operand.tmp 7) (Operand.tmp 9) from rfl) (by rfl) (by rfl) Try.underlying22 (by kernel_rfl) (by omega)) (by rfl) (by rfl) ?_
    refine Ls.ev (some 12) (Ev.loadEl (show Oper.op _ = Op.load 42 (Operand.tmp 11) from rfl) (by rfl) (ReadsIn.rd 0 (by rfl)) (by kernel_rfl) (by intro _; rfl) (by assumption)) (by rfl) (by rfl) ?_
    refine Ls.does (some 5) (Does.alloc (cs := [.string ⟨#[]⟩, .int .i64 0, .bool false, .string ⟨#[]⟩]) (show Oper.op _ = Op.alloc 42 from rfl) (ZeroIs.mk (.agg #[.string ⟨#[]⟩, .int .i64 0, .bool false, .string ⟨#[]⟩]) (by kernel_rfl) (by rfl))) (by rfl) (by rfl) ?_
    intro g1 _
    refine Ls.does none (Does.store 0 (show Oper.op _ = Op.store 42 (Operand.tmp 5) (Operand.tmp 12) from rfl) (by rfl) (by rfl) (by rfl) (by kernel_rfl) (by rfl) (by kernel_rfl) (by rfl)) (by rfl) (by rfl) ?_
    intro _ _
    refine Ls.nil ?_
    refine Cd.seq ?_
    refine Ent.pick [2, 3, 0, 1, 4, 5, 6, 7, 8] (by rfl) ?_
    refine Cd.regionI ?_
    refine Li.ev (some 13) (Ev.fieldAddr (k := 0) (show Oper.op _ = Op.fieldAddr 42 (Operand.tmp 5) 0 from rfl) (by rfl) (by kernel_rfl) (by rfl)) (by rfl) (by rfl) ?_
    refine Li.ev (some 14) (Ev.load 2 (show Oper.op _ = Op.load 9 (Operand.tmp 13) from rfl) (by rfl) (by rfl) (by kernel_rfl) (by rfl)) (by rfl) (by rfl) ?_
    refine Li.ev (some 15) (Ev.load 5 (show Oper.op _ = Op.load 9 (Operand.tmp 2) from rfl) (by rfl) (by rfl) (by kernel_rfl) (by rfl)) (by rfl) (by rfl) ?_
    refine Li.ev (some 16) (Ev.geqS (show Oper.op _ = Op.binOp BinOp.geq 9 (Operand.tmp 14) (Operand.tmp 15) 9 from rfl) (by rfl) (by rfl)) (by rfl) (by rfl) ?_
    refine Li.ev (some 17) (Ev.move (show Oper.op _ = Op.move (Operand.tmp 16) from rfl) (by rfl)) (by rfl) (by rfl) ?_
    refine Ent.split 17 (by rfl) (fun h5 => ?_) (fun h5 => ?_)
    · skip
      have hf : fromE key e = false := h5
      have ht := take_filter_none (p := fromE key) hee hf
      refine Li.pass (some 18) (by rfl) (by rfl) ?_
      refine Li.pass (some 19) (by rfl) (by rfl) ?_
      refine Li.pass (some 20) (by rfl) (by rfl) ?_
      refine Li.pass (some 21) (by rfl) (by rfl) ?_
      refine Li.ev (some 22) (Ev.pickF (show Oper.op _ = Op.pick (Operand.tmp 17) (Operand.tmp 21) (Operand.const (Value.bool false)) from rfl) (by rfl) (by rfl)) (by rfl) (by rfl) ?_
      refine Li.nil ?_
      refine Cd.cond_false (by rfl) (rfl) ?_
      refine Cd.skip ?_
      refine Cd.region ?_
      refine Ls.ev (some 23) (Ev.addN (b := 1) (show Oper.op _ = Op.binOp BinOp.add 3 (Operand.tmp 9) (Operand.const (Value.int IntKind.i64 1)) 3 from rfl) (by rfl) (by rfl) (by omega)) (by rfl) (by rfl) ?_
      refine Ls.ev (some 9) (Ev.move (show Oper.op _ = Op.move (Operand.tmp 23) from rfl) (by rfl)) (by rfl) (by rfl) ?_
      refine Ls.nil ?_
      refine Ent.pick [0, 1, 4, 5, 6, 7, 8, 3] (by rfl) ?_
      refine Ent.inv ((k + 1, j)) ?_ ?_ ?_
      · (try dsimp only); exact ⟨⟨by omega, by rw [ht]; exact hφ⟩, by omega⟩
      · (repeat (first | exact trivial | refine ⟨by rfl, ?_⟩ | refine ⟨by simp only [List.length_append, List.length_cons, List.length_nil]; rfl, ?_⟩ | refine ⟨by push_cast; rfl, ?_⟩))
      · (dsimp only; rw [ht]; rfl)
    · skip
      have hf : fromE key e = true := h5
      obtain ⟨ht, hget⟩ := take_filter_some (p := fromE key) hee hf
      have hsp := hy ((m.take k).filter (fromE key)) j e hφ hget
      refine Li.ev (some 18) (Ev.move (show Oper.op _ = Op.move (Operand.tmp 0) from rfl) (by rfl)) (by rfl) (by rfl) ?_
      refine Li.ev (some 19) (Ev.loads 2 (show Oper.op _ = Op.load 42 (Operand.tmp 5) from rfl) (by rfl) (by rfl) (n := 4) (by kernel_rfl) (by rfl) (by rfl)) (by rfl) (by rfl) ?_
      refine Li.yield (some 20) [0, 1, 2, 3, 4, 5, 6, 7, 8] (show Oper.op _ = Op.call { callee := Callee.value (Operand.tmp 18), args := #[Operand.tmp 19], argTypes := #[42] } from rfl) (by rfl) (hsp) (by rfl) (by rfl) (by rfl) (by rfl) (by rfl) ?_
      rintro ⟨b, q2⟩ ⟨hp1, hp2⟩
      rw [← ht] at hp1 hp2 ⊢
      cases b with
      | true =>
        skip
        refine Li.ev (some 21) (Ev.not (show Oper.op _ = Op.unOp UnOp.not 4 (Operand.tmp 20) from rfl) (by rfl)) (by rfl) (by rfl) ?_
        refine Li.ev (some 22) (Ev.pickT (show Oper.op _ = Op.pick (Operand.tmp 17) (Operand.tmp 21) (Operand.const (Value.bool false)) from rfl) (by rfl) (by rfl)) (by rfl) (by rfl) ?_
        refine Li.nil ?_
        refine Cd.cond_false (by rfl) (rfl) ?_
        refine Cd.skip ?_
        refine Cd.region ?_
        refine Ls.ev (some 23) (Ev.addN (b := 1) (show Oper.op _ = Op.binOp BinOp.add 3 (Operand.tmp 9) (Operand.const (Value.int IntKind.i64 1)) 3 from rfl) (by rfl) (by rfl) (by omega)) (by rfl) (by rfl) ?_
        refine Ls.ev (some 9) (Ev.move (show Oper.op _ = Op.move (Operand.tmp 23) from rfl) (by rfl)) (by rfl) (by rfl) ?_
        refine Ls.nil ?_
        refine Ent.pick [0, 1, 4, 5, 6, 7, 8, 3] (by rfl) ?_
        refine Ent.inv ((k + 1, q2)) ?_ ?_ ?_
        · (try dsimp only); exact ⟨⟨by omega, hp1 rfl⟩, by omega⟩
        · (repeat (first | exact trivial | refine ⟨by rfl, ?_⟩ | refine ⟨by simp only [List.length_append, List.length_cons, List.length_nil]; rfl, ?_⟩ | refine ⟨by push_cast; rfl, ?_⟩))
        · rfl
      | false =>
        skip
        refine Li.ev (some 21) (Ev.not (show Oper.op _ = Op.unOp UnOp.not 4 (Operand.tmp 20) from rfl) (by rfl)) (by rfl) (by rfl) ?_
        refine Li.ev (some 22) (Ev.pickT (show Oper.op _ = Op.pick (Operand.tmp 17) (Operand.tmp 21) (Operand.const (Value.bool false)) from rfl) (by rfl) (by rfl)) (by rfl) (by rfl) ?_
        refine Li.nil ?_
        refine Cd.cond_true (by rfl) (rfl) ?_
        skip
        refine Cd.ret ?_
        refine Ent.ret ((false, (m.take (k + 1)).filter (fromE key), q2)) (⟨fun e => (by cases e), fun _ => ⟨(List.take_prefix _ _).filter _, hp2 rfl⟩⟩) (Res.nothing (by rfl)) ?_ [0, 1, 4, 5, 6, 7, 8] (by rfl) ?_
        · rfl
        · rfl
  · skip
    have hk : k = m.length := by have := of_decide_eq_false h; omega
    subst hk
    rw [List.take_length] at hφ ⊢
    refine Cd.exit ?_
    refine Ent.fin ((true, [], j)) (⟨fun _ => hφ, fun e => (by cases e)⟩) (Res.nothing (by rfl)) ?_ [0, 1, 2, 3, 4, 5, 6] (by rfl) ?_
    · rfl
    · rfl
theorem from_sl (t : RdT) (key : ByteArray) : Fn Try.prog 26 #[.pointer (some ⟨t.g, 0, none⟩), .string key] [] (Nat × Nat) (fun p => .func (.func 53) #[] #[.pointer (some ⟨p.1, 0, none⟩), .pointer (some ⟨p.2, 0, none⟩)]) (fun p => [blk p.1 32 [.pointer (some ⟨t.g, 0, none⟩)], blk p.2 9 [.string key]]) (fun _ => True) := by
  refine Fn.enter Try.func26 rfl Try.ntmps26 (by rfl) ?_
  intro w0
  refine Cd.seq ?_
  refine Cd.region ?_
  refine Ls.does (some 2) (Does.box (show Oper.op _ = Op.box 32 (Operand.tmp 0) from rfl) (by rfl)) (by rfl) (by rfl) ?_
  intro g1 _
  refine Ls.does (some 3) (Does.box (show Oper.op _ = Op.box 9 (Operand.tmp 1) from rfl) (by rfl)) (by rfl) (by rfl) ?_
  intro g2 _
  refine Ls.ev (some 4) (Ev.assign (show Oper.op _ = Op.assign (Operand.const Value.nilFunc) from rfl) (by rfl)) (by rfl) (by rfl) ?_
  refine Ls.nil ?_
  refine Cd.seq ?_
  refine Cd.region ?_
  refine Ls.ev (some 5) (Ev.makeFunc2 (show Oper.op _ = Op.makeFunc (Fn.func 53) #[] #[Operand.tmp 2, Operand.tmp 3] from rfl) (by rfl) (by rfl)) (by rfl) (by rfl) ?_
  refine Ls.ev (some 4) (Ev.assign (show Oper.op _ = Op.assign (Operand.tmp 5) from rfl) (by rfl)) (by rfl) (by rfl) ?_
  refine Ls.nil ?_
  refine Cd.ret ?_
  refine Ent.ret ((g1, g2)) (trivial) (Res.tmp (by rfl) (by rfl)) ?_ [1, 0] (by rfl) ?_
  · rfl
  · rfl
/-- A list in order: what stands ahead of the key, then what stands from it on. -/
theorem srt_split (key : ByteArray) : ∀ {m : List Ety}, SrtE m → m = m.filter (fun e => kl e.key key) ++ m.filter (fromE key)
  | [], _ => rfl
  | x :: m, h => by
    obtain ⟨h1, h2⟩ := List.pairwise_cons.1 h
    have ih := srt_split key h2
    cases hx : kl x.key key with
    | true =>
      rw [List.filter_cons, if_pos hx, List.filter_cons, if_neg (by unfold fromE; rw [hx]; decide), List.cons_append, ← ih]
    | false =>
      have hn : m.filter (fun e => kl e.key key) = [] := by
        rw [List.filter_eq_nil_iff]
        intro y hy hk
        have := kl_le (befE_key (h1 y hy)) hk
        rw [this] at hx
        cases hx
      rw [List.filter_cons, if_neg (by rw [hx]; decide), hn, List.nil_append, List.filter_cons, if_pos (by unfold fromE; rw [hx]; rfl)]
      rw [hn, List.nil_append] at ih
      rw [← ih]
end Go.Proofs.Ytnhcfhamcakfkaa
/- the statements' fixed fact and own copy -/
namespace Go.Proofs.Ytnhcfhamcakfkaa
open Go.RowKit
def l0 : List Ety := [⟨⟨#[97]⟩, 1, false, ⟨#[120]⟩⟩]
theorem l0_ok : errL l0 = 0 := by decide +kernel
theorem l0_a : l0.find? (hitE ⟨#[97]⟩ 5) = some ⟨⟨#[97]⟩, 1, false, ⟨#[120]⟩⟩ := by kernel_rfl
theorem l0_b : l0.find? (hitE ⟨#[98]⟩ 5) = none := by decide +kernel
theorem own_sl (A : Option Addr) (c : Nat) (l : List Ety) (hn : l.length ≤ 8796093022207) (hc : l.length ≤ c) : Fn Try.prog 9 #[.slice A l.length c] [rdE A l] (Option Addr × Nat) (fun p => .slice p.1 (l.take 90).length p.2) (fun p => [rowE p.1 p.2 (l.take 90)]) (fun _ => True) := by
  have hl : (l.take 90).length = min l.length 90 := by rw [List.length_take, Nat.min_comm]
  refine Fn.enter Try.func9 rfl Try.ntmps9 (by rfl) ?_
  intro w0
  refine Cd.seq ?_
  refine Cd.region ?_
  refine Ls.ev (some 2) (Ev.assign (show Oper.op _ = Op.assign (Operand.const (Value.slice none 0 0)) from rfl) (by rfl)) (by rfl) (by rfl) ?_
  refine Ls.nil ?_
  refine Cd.seq ?_
  refine Cd.region ?_
  refine Ls.does (some 3) (Does.lit0 (sz := 4) (show Oper.op _ = Op.buildSlice 22 0 #[] from rfl) Try.underlying22 (by kernel_rfl)) (by rfl) (by rfl) ?_
  intro g1 _
  refine Ls.ev (some 4) (Ev.move (show Oper.op _ = Op.move (Operand.tmp 0) from rfl) (by rfl)) (by rfl) (by rfl) ?_
  refine Ls.ev (some 5) (Ev.move (show Oper.op _ = Op.move (Operand.tmp 0) from rfl) (by rfl)) (by rfl) (by rfl) ?_
  refine Ls.ev (some 6) (Ev.len (show Oper.op _ = Op.call { callee := Callee.builtin Builtin.len, args := #[Operand.tmp 5], argTypes := #[22] } from rfl) (by rfl) Try.underlying22) (by rfl) (by rfl) ?_
  refine Ls.ev (some 7) (Ev.minN (a := l.length) (b := 90) (m := (l.take 90).length) (show Oper.op _ = Op.call { callee := Callee.builtin Builtin.min, args := #[Operand.tmp 6, Operand.const (Value.int IntKind.i64 90)], argTypes := #[3, 3] } from rfl) (by rfl) (by rfl) hl.symm) (by rfl) (by rfl) ?_
  refine Ls.ev (some 8) (Ev.sliceHn (sz := 4) (show Oper.op _ = Op.slice 22 (Operand.tmp 4) none (some (Operand.tmp 7)) none from rfl) (by rfl) (by rfl) Try.underlying22 (by kernel_rfl) (by omega)) (by rfl) (by rfl) ?_
  refine Ent.cut 1 0 (l.take 90).length c (by rfl) (by omega) ?_
  rw [flat_cut (enc := Ety.enc) (sz := 4) (fun _ => rfl), List.drop_zero, Nat.sub_zero, show l.take (l.take 90).length = l.take 90 by rw [hl, List.take_eq_take_iff]; omega, show cutA A c 0 4 = A by unfold cutA; split; rfl; cases A <;> simp [Addr.add]]
  refine Ls.does (some 9) (Does.app0 (news := (l.take 90).flatMap Ety.enc) 1 (show Oper.op _ = Op.call { callee := Callee.builtin Builtin.append, args := #[Operand.tmp 3, Operand.tmp 8], argTypes := #[22, 22] } from rfl) (by rfl) (by rfl) (by rfl) (ReadsIn.rd 0 (by rfl)) elem_ents (encs_one _) (by omega)) (by rfl) (by rfl) ?_
  intro q _
  refine Ls.ev (some 2) (Ev.assign (show Oper.op _ = Op.assign (Operand.tmp 9) from rfl) (by rfl)) (by rfl) (by rfl) ?_
  refine Ls.nil ?_
  refine Cd.ret ?_
  refine Ent.ret (q) (trivial) (Res.tmp (by rfl) (by rfl)) ?_ [1] (by rfl) ?_
  · rfl
  · rfl
theorem awake_sl : Fn Try.prog 8 #[] [] Unit (fun _ => .bool true) (fun _ => []) (fun _ => True) := by
  have ht := tab_len l0_ok
  refine Fn.enter Try.func8 rfl Try.ntmps8 (by rfl) ?_
  intro w0
  skip
  refine Cd.seq ?_
  refine Cd.region ?_
  refine Ls.ev (some 0) (Ev.assign (show Oper.op _ = Op.assign (Operand.const (Value.bool false)) from rfl) (by rfl)) (by rfl) (by rfl) ?_
  refine Ls.nil ?_
  refine Cd.seq ?_
  refine Cd.region ?_
  refine Ls.ev (some 10) (Ev.buildP (pl := [(0, 1), (1, 1), (2, 1), (3, 1)]) (zs := [.string ⟨#[]⟩, .int .i64 0, .bool false, .string ⟨#[]⟩]) (show Oper.op _ = Op.build 42 #[(0, Operand.const (Value.string { data := #[97] })), (1, Operand.const (Value.int IntKind.i64 1)), (3, Operand.const (Value.string { data := #[120] }))] from rfl) (by rfl) (by kernel_rfl) (by rfl)) (by rfl) (by rfl) ?_
  refine Ls.does (some 11) (Does.lit (sz := 4) (show Oper.op _ = Op.buildSlice 22 1 #[(0, Operand.tmp 10)] from rfl) (by rfl) Try.underlying22 (by kernel_rfl) (by rfl) (by kernel_rfl)) (by rfl) (by rfl) ?_
  intro g1 _
  refine Ls.does (some 12) (Does.readN (show Oper.op _ = Op.call { callee := Callee.value (Operand.func 10), args := #[Operand.tmp 11], argTypes := #[22] } from rfl) Try.func10 (by kernel_rfl) (by kernel_rfl) (build_sl (some ⟨g1, 0, none⟩) 1 l0 (Nat.le_refl _) l0_ok) (by rfl) (by rfl) ⟨ReadsIn.row 0 (by rfl), trivial⟩ (fun _ => by rfl)) (by rfl) (by rfl) ?_
  intro q _
  refine Ls.ev (some 9) (Ev.move (show Oper.op _ = Op.move (Operand.tmp 12) from rfl) (by rfl)) (by rfl) (by rfl) ?_
  refine Ls.ev (some 13) (Ev.extract (show Oper.op _ = Op.extract (Operand.tmp 9) 0 from rfl) (by rfl) (by rfl)) (by rfl) (by rfl) ?_
  refine Ls.ev (some 14) (Ev.extract (show Oper.op _ = Op.extract (Operand.tmp 9) 1 from rfl) (by rfl) (by rfl)) (by rfl) (by rfl) ?_
  refine Ls.ev (some 1) (Ev.assign (show Oper.op _ = Op.assign (Operand.tmp 13) from rfl) (by rfl)) (by rfl) (by rfl) ?_
  refine Ls.ev (some 2) (Ev.assign (show Oper.op _ = Op.assign (Operand.tmp 14) from rfl) (by rfl)) (by rfl) (by rfl) ?_
  refine Ls.nil ?_
  refine Cd.seq ?_
  refine Cd.seq ?_
  refine Cd.region ?_
  refine Ls.ev (some 15) (Ev.move (show Oper.op _ = Op.move (Operand.tmp 2) from rfl) (by rfl)) (by rfl) (by rfl) ?_
  refine Ls.ev (some 16) (Ev.neq (show Oper.op _ = Op.binOp BinOp.neq 26 (Operand.tmp 15) (Operand.const (Value.int IntKind.i64 0)) 26 from rfl) (by rfl) (by rfl)) (by rfl) (by rfl) ?_
  refine Ls.ev (some 17) (Ev.move (show Oper.op _ = Op.move (Operand.tmp 16) from rfl) (by rfl)) (by rfl) (by rfl) ?_
  refine Ent.known 17 false (by rfl) (by exact (rfl)) ?_
  refine Ls.ev (some 18) (Ev.move (show Oper.op _ = Op.move (Operand.tmp 1) from rfl) (by rfl)) (by rfl) (by rfl) ?_
  refine Ls.ev (some 19) (Ev.len (show Oper.op _ = Op.call { callee := Callee.builtin Builtin.len, args := #[Operand.tmp 18], argTypes := #[25] } from rfl) (by rfl) Try.underlying25) (by rfl) (by rfl) ?_
  refine Ls.ev (some 20) (Ev.lss (show Oper.op _ = Op.binOp BinOp.lss 3 (Operand.tmp 19) (Operand.const (Value.int IntKind.i64 20)) 3 from rfl) (by rfl) (by rfl)) (by rfl) (by rfl) ?_
  refine Ls.ev (some 21) (Ev.pickF (show Oper.op _ = Op.pick (Operand.tmp 17) (Operand.const (Value.bool true)) (Operand.tmp 20) from rfl) (by rfl) (by rfl)) (by rfl) (by rfl) ?_
  refine Ls.nil ?_
  skip
  refine Cd.cond_false (by rfl) (decide_eq_false (by omega)) ?_
  refine Cd.skip ?_
  refine Cd.seq ?_
  refine Cd.region ?_
  refine Ls.ev (some 23) (Ev.move (show Oper.op _ = Op.move (Operand.tmp 1) from rfl) (by rfl)) (by rfl) (by rfl) ?_
  refine Ls.does (some 24) (Does.readN (show Oper.op _ = Op.call { callee := Callee.value (Operand.func 13), args := #[Operand.tmp 23], argTypes := #[25] } from rfl) Try.func13 (by kernel_rfl) (by kernel_rfl) (parse_tab l0_ok q.1 q.2) (by rfl) (by rfl) ⟨ReadsIn.row 0 (by rfl), trivial⟩ (fun _ => by rfl)) (by rfl) (by rfl) ?_
  intro t htc
  refine Ent.pick [0, 1, 2, 3] (by rfl) (Ent.see 1 (by rfl) (Ent.see 2 (by rfl) (Ent.see 3 (by rfl) ?_)))
  refine Ls.ev (some 22) (Ev.move (show Oper.op _ = Op.move (Operand.tmp 24) from rfl) (by rfl)) (by rfl) (by rfl) ?_
  refine Ls.ev (some 25) (Ev.extract (show Oper.op _ = Op.extract (Operand.tmp 22) 0 from rfl) (by rfl) (by rfl)) (by rfl) (by rfl) ?_
  refine Ls.ev (some 26) (Ev.extract (show Oper.op _ = Op.extract (Operand.tmp 22) 1 from rfl) (by rfl) (by rfl)) (by rfl) (by rfl) ?_
  refine Ls.ev (some 3) (Ev.assign (show Oper.op _ = Op.assign (Operand.tmp 25) from rfl) (by rfl)) (by rfl) (by rfl) ?_
  refine Ls.ev (some 4) (Ev.assign (show Oper.op _ = Op.assign (Operand.tmp 26) from rfl) (by rfl)) (by rfl) (by rfl) ?_
  refine Ls.nil ?_
  refine Cd.seq ?_
  refine Cd.seq ?_
  refine Cd.region ?_
  refine Ls.ev (some 27) (Ev.move (show Oper.op _ = Op.move (Operand.tmp 3) from rfl) (by rfl)) (by rfl) (by rfl) ?_
  refine Ls.ev (some 28) (Ev.ptrNil (show Oper.op _ = Op.binOp BinOp.eql 32 (Operand.tmp 27) (Operand.const (Value.pointer none)) 32 from rfl) (by rfl) (by rfl) Try.underlying32) (by rfl) (by rfl) ?_
  refine Ls.ev (some 29) (Ev.move (show Oper.op _ = Op.move (Operand.tmp 28) from rfl) (by rfl)) (by rfl) (by rfl) ?_
  refine Ent.known 29 false (by rfl) (by exact (rfl)) ?_
  refine Ls.ev (some 30) (Ev.move (show Oper.op _ = Op.move (Operand.tmp 4) from rfl) (by rfl)) (by rfl) (by rfl) ?_
  refine Ls.ev (some 31) (Ev.neq (show Oper.op _ = Op.binOp BinOp.neq 26 (Operand.tmp 30) (Operand.const (Value.int IntKind.i64 0)) 26 from rfl) (by rfl) (by rfl)) (by rfl) (by rfl) ?_
  refine Ls.ev (some 32) (Ev.pickF (show Oper.op _ = Op.pick (Operand.tmp 29) (Operand.const (Value.bool true)) (Operand.tmp 31) from rfl) (by rfl) (by rfl)) (by rfl) (by rfl) ?_
  refine Ls.ev (some 33) (Ev.move (show Oper.op _ = Op.move (Operand.tmp 32) from rfl) (by rfl)) (by rfl) (by rfl) ?_
  skip
  refine Ent.known 33 false (by rfl) (by exact (rfl)) ?_
  refine Ls.ev (some 34) (Ev.move (show Oper.op _ = Op.move (Operand.tmp 3) from rfl) (by rfl)) (by rfl) (by rfl) ?_
  refine Ls.does (some 35) (Does.read (show Oper.op _ = Op.call { callee := Callee.value (Operand.func 17), args := #[Operand.tmp 34], argTypes := #[32] } from rfl) Try.func17 (by kernel_rfl) (by kernel_rfl) (len_sl t.g t.bA (tabL l0).length t.bc t.xA (bksE l0).length t.xc t.fA (filL l0).length t.fc l0.length 0) (by rfl) (by rfl) ⟨blkIn 0 (by rfl), trivial⟩) (by rfl) (by rfl) ?_
  rintro _ -
  refine Ls.ev (some 36) (Ev.neq (show Oper.op _ = Op.binOp BinOp.neq 3 (Operand.tmp 35) (Operand.const (Value.int IntKind.i64 1)) 3 from rfl) (by rfl) (by rfl)) (by rfl) (by rfl) ?_
  refine Ls.ev (some 37) (Ev.pickF (show Oper.op _ = Op.pick (Operand.tmp 33) (Operand.const (Value.bool true)) (Operand.tmp 36) from rfl) (by rfl) (by rfl)) (by rfl) (by rfl) ?_
  refine Ls.ev (some 38) (Ev.move (show Oper.op _ = Op.move (Operand.tmp 37) from rfl) (by rfl)) (by rfl) (by rfl) ?_
  refine Ent.known 38 false (by rfl) (by exact (rfl)) ?_
  refine Ls.ev (some 39) (Ev.move (show Oper.op _ = Op.move (Operand.tmp 3) from rfl) (by rfl)) (by rfl) (by rfl) ?_
  refine Ls.does (some 40) (Does.read (show Oper.op _ = Op.call { callee := Callee.value (Operand.func 18), args := #[Operand.tmp 39], argTypes := #[32] } from rfl) Try.func18 (by kernel_rfl) (by kernel_rfl) (first_tab l0_ok t 0 ⟨⟨#[97]⟩, 1, false, ⟨#[120]⟩⟩ rfl) (by rfl) (by rfl) ⟨blkIn 0 (by rfl), ReadsIn.rd 1 (by rfl), trivial⟩) (by rfl) (by rfl) ?_
  rintro _ -
  refine Ls.ev (some 41) (Ev.neqS (show Oper.op _ = Op.binOp BinOp.neq 9 (Operand.tmp 40) (Operand.const (Value.string { data := #[97] })) 9 from rfl) (by rfl) (by rfl)) (by rfl) (by rfl) ?_
  refine Ls.ev (some 42) (Ev.pickF (show Oper.op _ = Op.pick (Operand.tmp 38) (Operand.const (Value.bool true)) (Operand.tmp 41) from rfl) (by rfl) (by rfl)) (by rfl) (by rfl) ?_
  refine Ls.ev (some 43) (Ev.move (show Oper.op _ = Op.move (Operand.tmp 42) from rfl) (by rfl)) (by rfl) (by rfl) ?_
  refine Ent.known 43 false (by rfl) (by exact (rfl)) ?_
  refine Ls.ev (some 44) (Ev.move (show Oper.op _ = Op.move (Operand.tmp 3) from rfl) (by rfl)) (by rfl) (by rfl) ?_
  refine Ls.does (some 45) (Does.read (show Oper.op _ = Op.call { callee := Callee.value (Operand.func 19), args := #[Operand.tmp 44], argTypes := #[32] } from rfl) Try.func19 (by kernel_rfl) (by kernel_rfl) (last_tab l0_ok t 0 ⟨⟨#[97]⟩, 1, false, ⟨#[120]⟩⟩ rfl) (by rfl) (by rfl) ⟨blkIn 0 (by rfl), ReadsIn.rd 1 (by rfl), trivial⟩) (by rfl) (by rfl) ?_
  rintro _ -
  refine Ls.ev (some 46) (Ev.neqS (show Oper.op _ = Op.binOp BinOp.neq 9 (Operand.tmp 45) (Operand.const (Value.string { data := #[97] })) 9 from rfl) (by rfl) (by rfl)) (by rfl) (by rfl) ?_
  refine Ls.ev (some 47) (Ev.pickF (show Oper.op _ = Op.pick (Operand.tmp 43) (Operand.const (Value.bool true)) (Operand.tmp 46) from rfl) (by rfl) (by rfl)) (by rfl) (by rfl) ?_
  refine Ls.nil ?_
  refine Cd.cond_false (by rfl) (rfl) ?_
  refine Cd.skip ?_
  refine Cd.seq ?_
  refine Cd.region ?_
  refine Ls.ev (some 49) (Ev.move (show Oper.op _ = Op.move (Operand.tmp 3) from rfl) (by rfl)) (by rfl) (by rfl) ?_
  refine Ls.does (some 50) (Does.call [0, 1, 3, 2, 1, 2, 3] (show Oper.op _ = Op.call { callee := Callee.value (Operand.func 24), args := #[Operand.tmp 49, Operand.const (Value.string { data := #[97] }), Operand.const (Value.int IntKind.i64 5)], argTypes := #[32, 9, 3] } from rfl) Try.func24 (by kernel_rfl) (by kernel_rfl) (get_tab l0_ok t 0 ⟨#[97]⟩ 5 htc (by decide) (by omega)) (by rfl) (by rfl) (by rfl)) (by rfl) (by rfl) ?_
  rintro _ -
  have hn := lookN_le l0_ok ⟨#[97]⟩ 5
  rw [l0_a]
  refine Ls.ev (some 48) (Ev.move (show Oper.op _ = Op.move (Operand.tmp 50) from rfl) (by rfl)) (by rfl) (by rfl) ?_
  refine Ls.ev (some 51) (Ev.extract (show Oper.op _ = Op.extract (Operand.tmp 48) 0 from rfl) (by rfl) (by rfl)) (by rfl) (by rfl) ?_
  refine Ls.ev (some 52) (Ev.extract (show Oper.op _ = Op.extract (Operand.tmp 48) 1 from rfl) (by rfl) (by rfl)) (by rfl) (by rfl) ?_
  refine Ls.does (some 5) (Does.alloc (cs := [.string ⟨#[]⟩, .int .i64 0, .bool false, .string ⟨#[]⟩]) (show Oper.op _ = Op.alloc 42 from rfl) (ZeroIs.mk (.agg #[.string ⟨#[]⟩, .int .i64 0, .bool false, .string ⟨#[]⟩]) (by kernel_rfl) (by rfl))) (by rfl) (by rfl) ?_
  intro g2 _
  refine Ls.does none (Does.store 0 (show Oper.op _ = Op.store 42 (Operand.tmp 5) (Operand.tmp 51) from rfl) (by rfl) (by rfl) (by rfl) (by kernel_rfl) (by rfl) (by kernel_rfl) (by rfl)) (by rfl) (by rfl) ?_
  intro _ _
  refine Ls.ev (some 6) (Ev.assign (show Oper.op _ = Op.assign (Operand.tmp 52) from rfl) (by rfl)) (by rfl) (by rfl) ?_
  refine Ls.nil ?_
  refine Cd.seq ?_
  refine Cd.region ?_
  refine Ls.ev (some 54) (Ev.move (show Oper.op _ = Op.move (Operand.tmp 3) from rfl) (by rfl)) (by rfl) (by rfl) ?_
  refine Ls.does (some 55) (Does.call [1, 2, 4, 3, 0] (show Oper.op _ = Op.call { callee := Callee.value (Operand.func 24), args := #[Operand.tmp 54, Operand.const (Value.string { data := #[98] }), Operand.const (Value.int IntKind.i64 5)], argTypes := #[32, 9, 3] } from rfl) Try.func24 (by kernel_rfl) (by kernel_rfl) (get_tab l0_ok t (0 + lookN l0 ⟨#[97]⟩ 5) ⟨#[98]⟩ 5 htc (by decide) (by omega)) (by rfl) (by rfl) (by rfl)) (by rfl) (by rfl) ?_
  rintro _ -
  rw [l0_b]
  refine Ls.ev (some 53) (Ev.move (show Oper.op _ = Op.move (Operand.tmp 55) from rfl) (by rfl)) (by rfl) (by rfl) ?_
  refine Ls.ev (some 56) (Ev.extract (show Oper.op _ = Op.extract (Operand.tmp 53) 0 from rfl) (by rfl) (by rfl)) (by rfl) (by rfl) ?_
  refine Ls.ev (some 57) (Ev.extract (show Oper.op _ = Op.extract (Operand.tmp 53) 1 from rfl) (by rfl) (by rfl)) (by rfl) (by rfl) ?_
  refine Ls.does (some 7) (Does.alloc (cs := [.string ⟨#[]⟩, .int .i64 0, .bool false, .string ⟨#[]⟩]) (show Oper.op _ = Op.alloc 42 from rfl) (ZeroIs.mk (.agg #[.string ⟨#[]⟩, .int .i64 0, .bool false, .string ⟨#[]⟩]) (by kernel_rfl) (by rfl))) (by rfl) (by rfl) ?_
  intro g3 _
  refine Ls.does none (Does.store 0 (show Oper.op _ = Op.store 42 (Operand.tmp 7) (Operand.tmp 56) from rfl) (by rfl) (by rfl) (by rfl) (by kernel_rfl) (by rfl) (by kernel_rfl) (by rfl)) (by rfl) (by rfl) ?_
  intro _ _
  refine Ls.ev (some 8) (Ev.assign (show Oper.op _ = Op.assign (Operand.tmp 57) from rfl) (by rfl)) (by rfl) (by rfl) ?_
  refine Ls.nil ?_
  refine Cd.seq ?_
  refine Cd.region ?_
  refine Ls.ev (some 58) (Ev.move (show Oper.op _ = Op.move (Operand.tmp 6) from rfl) (by rfl)) (by rfl) (by rfl) ?_
  refine Ls.ev (some 59) (Ev.move (show Oper.op _ = Op.move (Operand.tmp 58) from rfl) (by rfl)) (by rfl) (by rfl) ?_
  refine Ent.known 59 true (by rfl) (by exact (rfl)) ?_
  refine Ls.ev (some 60) (Ev.move (show Oper.op _ = Op.move (Operand.tmp 8) from rfl) (by rfl)) (by rfl) (by rfl) ?_
  refine Ls.ev (some 61) (Ev.not (show Oper.op _ = Op.unOp UnOp.not 4 (Operand.tmp 60) from rfl) (by rfl)) (by rfl) (by rfl) ?_
  refine Ls.ev (some 62) (Ev.pickT (show Oper.op _ = Op.pick (Operand.tmp 59) (Operand.tmp 61) (Operand.const (Value.bool false)) from rfl) (by rfl) (by rfl)) (by rfl) (by rfl) ?_
  refine Ls.ev (some 63) (Ev.move (show Oper.op _ = Op.move (Operand.tmp 62) from rfl) (by rfl)) (by rfl) (by rfl) ?_
  skip
  refine Ent.known 63 true (by rfl) (by exact (rfl)) ?_
  refine Ls.ev (some 64) (Ev.fieldAddr (k := 3) (show Oper.op _ = Op.fieldAddr 42 (Operand.tmp 5) 3 from rfl) (by rfl) (by kernel_rfl) (by rfl)) (by rfl) (by rfl) ?_
  refine Ls.ev (some 65) (Ev.load 2 (show Oper.op _ = Op.load 9 (Operand.tmp 64) from rfl) (by rfl) (by rfl) (by kernel_rfl) (by rfl)) (by rfl) (by rfl) ?_
  refine Ls.ev (some 66) (Ev.eqlS (show Oper.op _ = Op.binOp BinOp.eql 9 (Operand.tmp 65) (Operand.const (Value.string { data := #[120] })) 9 from rfl) (by rfl) (by rfl)) (by rfl) (by rfl) ?_
  refine Ls.ev (some 67) (Ev.pickT (show Oper.op _ = Op.pick (Operand.tmp 63) (Operand.tmp 66) (Operand.const (Value.bool false)) from rfl) (by rfl) (by rfl)) (by rfl) (by rfl) ?_
  refine Ls.ev (some 0) (Ev.assign (show Oper.op _ = Op.assign (Operand.tmp 67) from rfl) (by rfl)) (by rfl) (by rfl) ?_
  refine Ls.nil ?_
  skip
  refine Cd.ret ?_
  refine Ent.ret (()) (trivial) (Res.tmp (by rfl) (by rfl)) ?_ [] (by rfl) ?_
  · rfl
  · rfl
end Go.Proofs.Ytnhcfhamcakfkaa
/- arguments that are lists of entries -/
namespace Go.Proofs.Ytnhcfhamcakfkaa
open Go.RowKit
set_option maxRecDepth 100000 in
theorem val_ents {W : World} {v : Value} (h : Val Try.prog W 22 v) : ∃ A c l, v = .slice A (List.length l) c ∧ Reads W W.heap.size 4 A l.length (l.flatMap Ety.enc) ∧ (∀ e ∈ l, e.key.size ≤ reachBytes ∧ e.value.size ≤ reachBytes ∧ (-9223372036854775808 ≤ e.seq ∧ e.seq ≤ 9223372036854775807)) ∧ l.length ≤ c ∧ l.length ≤ 2932031007402 := by
  obtain ⟨A, c, l, e, hr, hq, hc, hb⟩ := val_list (f := Ety.enc) (Q := fun W x => x.ok W) Try.underlying22 (m := 4) (by kernel_rfl) (by decide) (fun _ => rfl) cel_ety h
  have h48 : Try.prog.bytesOf 42 = 48 := by kernel_rfl
  rw [h48] at hb
  unfold reachBytes at hb
  exact ⟨A, c, l, e, hr, fun x hx => ⟨(hq x hx).1, (hq x hx).2.2, (hq x hx).2.1⟩, hc, by omega⟩
end Go.Proofs.Ytnhcfhamcakfkaa
/- a result that lies in one cell of memory; capacities -/
namespace Go.Proofs.Ytnhcfhamcakfkaa
open Go.RowKit
section
variable {Γ : Ctx} {N : Frm} {P : Program} {E : Env} {H : List Chunk}
theorem Res.cell1 {fn : Func} {p t g m u : Nat} {cs : List Value} {v : Value} (i : Nat) (h : fn.results = #[.cell p t]) (hp : E.get p = some (.pointer (some ⟨g, m, none⟩))) (hi : H[i]? = some (blk g u cs)) (ht : one P t = true) (hv : cs[m]? = some v) : Res Γ N P fn E H v := fun a w hr hs => by
  simp [results, h, hr.get p _ hp, asAddr, run_loadVar_one ht (blk_cell (hs.mem hi) hv)]
theorem setR_take {cs vs : List Value} {m k : Nat} (h : m + vs.length ≤ k) (hk : k ≤ cs.length) : (setR cs m vs).take k = setR (cs.take k) m vs := by
  have h1 : (cs.take m).length = m := by rw [List.length_take]; omega
  have h2 : (cs.take m ++ vs).length = m + vs.length := by rw [List.length_append, h1]
  unfold setR
  rw [List.take_append, List.take_of_length_le (by omega), h2, List.take_take, Nat.min_eq_left (by omega), List.drop_take]
/-- A store of some cells into a slice of one's own. -/
theorem Does.storeRow {t n c e sz j : Nat} {A : Option Addr} {ad : Addr} {xs xs' : List Value} {v : Value} {o : Oper} {x y : Operand} (i : Nat) (ho : o.op = .store t x y) (hx : E.ev x = some (.pointer (some (ad.add j)))) (hy : E.ev y = some v) (hi : H[i]? = some (row A n c e sz xs)) (hA : A = some ad) (hsz : (P.info? t).map (·.size) = some v.cells.size) (h1 : v.cells.toList.all (·.oneCell') = true) (hm : j + v.cells.size ≤ xs.length) (hn : 0 < n) (hxs : setR xs j v.cells.toList = xs') :
    Does Γ N P E H o Unit (fun _ => undef) (fun _ => H.set i (row A n c e sz xs')) (fun _ => True) := .of fun ρ hρ w hs => by
  have ho' : Own w 0 e sz A n c xs := hs.mem hi
  subst hxs
  rcases ho'.form with ⟨rfl, rfl, _, rfl⟩ | ⟨g, cur, hg, _, hb, hnc, hcm, hcs, hxs⟩
  · exact absurd hn (Nat.lt_irrefl _)
  · have had : ad = ⟨g, 0, none⟩ := by rw [hA] at hg; exact Option.some.inj hg
    subst had
    have hadd' : (⟨g, 0, none⟩ : Addr).add j = ⟨g, j, none⟩ := by rw [add_at]; simp
    have hlx := ho'.length
    have hle : n * sz ≤ cur.toList.length := by rw [Array.length_toList, hcs]; exact Nat.mul_le_mul_right _ hnc
    have hm2 : j + v.cells.size ≤ cur.toList.length := by omega
    have hst := run_storeCells_at P g j e v.cells.toList 0 cur w hb (by simpa using hm2) (fun z hz => (List.all_eq_true.1 h1) z hz)
    simp only [Nat.add_zero] at hst
    obtain ⟨ti, hti, hsz⟩ := Option.map_eq_some_iff.1 hsz
    have hrun : (storeVar t ⟨g, j, none⟩ v).run P w = .ok () (w.setRow g (setR cur.toList j v.cells.toList).toArray) := by
      simp only [storeVar, sizeOf, typeInfo, hti, hsz, Sem.run_bind, run_program, Result.andThen_ok, Sem.run_pure, ne_eq, not_true_eq_false, if_false, hst]
      rfl
    refine ⟨(), w.setRow g (setR cur.toList j v.cells.toList).toArray, trivial, ?_, .inr ⟨rfl, ?_⟩⟩
    · have hf : blockOf A = some g := by rw [hg]; rfl
      refine hs.turn hi rfl ⟨rfl, rfl, rfl, by simp, fun k hk hn => setRow_other w g k _ (fun e => hn (by rw [e]; exact hf))⟩ ?_ (fun k hk => .inl hk)
      have hb2 := setRow_heap w g _ (setR cur.toList j v.cells.toList).toArray e (0, 0) hb
      have hlen : (setR cur.toList j v.cells.toList).toArray.size = c * sz := by
        rw [List.size_toArray, ← hcs]
        unfold setR
        simp only [List.length_append, List.length_take, List.length_drop, Array.length_toList] at hm2 ⊢
        omega
      have := Own.of_blk (base := 0) (n := n) hb2 (Nat.zero_le _) hnc hcm hlen
      rw [setR_take (by rw [Array.length_toList]; omega) hle, hxs, ← hg] at this
      exact this
    · simp [execOp, ho, hρ x _ hx, hρ y _ hy, Instr.storeAt, Instr.sureAddr, hadd', hrun]
theorem setR_enc {α : Type} {enc : α → List Value} {sz : Nat} (he : ∀ a, (enc a).length = sz) (l : List α) (k : Nat) (a : α) (hk : k < l.length) : setR (l.flatMap enc) (k * sz) (enc a) = (l.set k a).flatMap enc := by
  have e1 : ∀ (l : List α) (k : Nat), (l.flatMap enc).drop (k * sz) = (l.drop k).flatMap enc := by
    intro l
    induction l with
    | nil => intro k; simp
    | cons b l ih =>
      intro k
      cases k with
      | zero => simp
      | succ k => rw [List.flatMap_cons, List.drop_succ_cons, ← ih k, Nat.succ_mul, Nat.add_comm, ← List.drop_drop, List.drop_left' (he b)]
  have e2 : ∀ (l : List α) (k : Nat), (l.flatMap enc).take (k * sz) = (l.take k).flatMap enc := by
    intro l
    induction l with
    | nil => intro k; simp
    | cons b l ih =>
      intro k
      cases k with
      | zero => simp
      | succ k => rw [List.flatMap_cons, List.take_succ_cons, List.flatMap_cons, ← ih k, Nat.succ_mul, Nat.add_comm, List.take_append, he b, List.take_of_length_le (by rw [he b]; omega), Nat.add_sub_cancel_left]
  unfold setR
  rw [he a, ← Nat.succ_mul, e1, e2, List.set_eq_take_append_cons_drop, if_pos hk, List.flatMap_append, List.flatMap_cons, List.append_assoc]
end
end Go.Proofs.Ytnhcfhamcakfkaa
/-
  Frames that change: loops and meeting points whose ways pile up marks of ranges over functions.
-/
namespace Go.Proofs.Ytnhcfhamcakfkaa
open Go.RowKit
section
variable {Γ : Ctx} {N : Frm} {P : Program} {E : Env} {H : List Chunk} {κ : Cont}
def InvN (Γ : Ctx) {ι : Type} (Ns : ι → Frm) (Es : ι → Env) (Hs : ι → List Chunk) (φ : ι → Prop) : Asrt := fun a w => ∃ j, φ j ∧ Rep (Ns j) (Es j) a ∧ Sat Γ (Hs j) w
theorem Ent.invN {ι : Type} {Ns : ι → Frm} {Es : ι → Env} {Hs : ι → List Chunk} {φ : ι → Prop} (j : ι) (hj : φ j) (hE : E.le (Es j)) (hH : H = Hs j) (hN : N = Ns j := by rfl) : Ent Γ N E H (InvN Γ Ns Es Hs φ) := fun _ _ hr hs => ⟨j, hj, hN ▸ hr.le hE, hH ▸ hs⟩
theorem Cd.loopN {ι : Type} {c : Code} (Ns : ι → Frm) (Es : ι → Env) (Hs : ι → List Chunk) (φ : ι → Prop) (μ : ι → Nat) (j0 : ι) (h0 : φ j0) (hE : E.le (Es j0)) (hH : Hs j0 = H) (hN : Ns j0 = N) (hro : ∀ j, (Ns j).round = N.round)
    (round : ∀ j, φ j → Cd Γ (Ns j) P (Es j) (Hs j) c { κ with normal := InvN Γ Ns Es Hs (fun k => φ k ∧ μ k < μ j) }) : Cd Γ N P E H (.loop c) κ := by
  intro a w hr hs
  intro b k cs hro' hb hrm
  have key : ∀ n j a w, μ j = n → φ j → Rep (Ns j) (Es j) a → Sat Γ (Hs j) w →
      ∃ e a' w', κ.toQ e a' w' ∧ ArrivesIn (Machine.fenced P N.fence) P (lone (b.atR a (.code c :: .inLoop c :: k)) cs w) b k cs e a' w' := by
    intro n
    induction n using Nat.strongRecOn with
    | _ n ih =>
      intro j a w hn hj hr hs
      have hround : Code.wpIn N.fence 0 P c { κ with normal := InvN Γ Ns Es Hs (fun k => φ k ∧ μ k < μ j) }.toQ a w := by
        have := round j hj a w hr hs
        unfold Frm.fence at this ⊢
        rw [hro j] at this
        exact this
      obtain ⟨e, a₁, w₁, hq, harr⟩ := hround b (.inLoop c :: k) cs hro' hb hrm
      cases e with
      | normal =>
        obtain ⟨j', ⟨hj', hlt⟩, hr', hs'⟩ := hq
        obtain ⟨e₂, a₂, w₂, hq₂, harr₂⟩ := ih (μ j') (hn ▸ hlt) j' a₁ w₁ rfl hj' hr' hs'
        exact ⟨e₂, a₂, w₂, hq₂, .of_steps (StepsIn.trans harr (.one (fenced_calm hb hrm rfl) stepR_inLoop)) harr₂⟩
      | exit id => exact ⟨.exit id, a₁, w₁, hq, .pass (x := .inLoop c) rfl (fun _ _ => .inl (by simp)) harr⟩
      | goto l => exact hq.elim
      | ret => exact ⟨.ret, a₁, w₁, hq, .pass (x := .inLoop c) rfl (fun _ _ => .inl (by simp)) harr⟩
      | panic ch => exact hq.elim
      | outgrown => exact hq.elim
  obtain ⟨e, a', w', hq, harr⟩ := key _ j0 a w rfl h0 (hN ▸ hr.le hE) (hH ▸ hs)
  exact ⟨e, a', w', hq, .of_steps (.one (fenced_calm hb hrm rfl) stepR_loop) harr⟩
theorem Cd.cutN {c : Code} {ι : Type} (Ns : ι → Frm) (Es : ι → Env) (Hs : ι → List Chunk) (φ : ι → Prop) (h1 : Cd Γ N P E H c { κ with normal := InvN Γ Ns Es Hs φ }) (h2 : ∀ j, φ j → Ent Γ (Ns j) (Es j) (Hs j) κ.normal) : Cd Γ N P E H c κ := fun a w hr hs =>
  Code.wpIn_mono (fun e a w q => by
    cases e with
    | normal => obtain ⟨j, hj, hr', hs'⟩ := q; exact h2 j hj a w hr' hs'
    | _ => exact q) (h1 a w hr hs)
/-- All marks as one piece. -/
def markz (Ds : List Nat) : Chunk := starx (Ds.map markP)
/-- The frame with these marks. -/
def frm (n : Nat) (Ds : List Nat) : Frm := ⟨n, Ds.map mkD, none⟩
theorem Ent.marks0 {A : Asrt} (h : Ent Γ N E (markz [] :: H) A) : Ent Γ N E H A := fun a w hr hs => h a w hr (Sat.starx_close (A := []) (fun _ h => (List.not_mem_nil h).elim) hs)
theorem Ent.marks {D : Nat} {Ds : List Nat} {A : Asrt} (h : Ent Γ N E (markz (D :: Ds) :: H) A) : Ent Γ N E (markP D :: markz Ds :: H) A := fun a w hr hs => h a w hr (by
  have h1 : Sat Γ (markz Ds :: (H ++ [markP D])) w := (Sat.app_comm (A := [markP D]) hs)
  have h2 : Sat Γ ((Ds.map markP ++ H) ++ [markP D]) w := by have := h1.starx_open; simpa using this
  have h3 : Sat Γ ((D :: Ds).map markP ++ H) w := by have := h2.app_comm; simpa using this
  exact Sat.starx_close (fun C hC => by obtain ⟨D', _, rfl⟩ := List.mem_map.1 hC; rfl) h3)
theorem Ent.retX {fn : Func} {ι : Type} {res : ι → Value} {H' : ι → List Chunk} {φ : ι → Prop} {v : Value} (Ds : List Nat) (hd : N.ds = Ds.map mkD) (i : ι) (hi : φ i) (hv : Res Γ N P fn E H v) (hres : v = res i) (is : List Nat) (hs : selB (H.map (·.excl)) is = true) (hH : picks H is = H' i) :
    Ent Γ N E (markz Ds :: H) (bodyPostM Fence.wide 0 P fn (fun e w' => ∃ i, φ i ∧ e = .returned (res i) ∧ Sat Γ (H' i) w') .ret) := fun a w hr hs' =>
  Ent.retM Ds hd i hi hv hres is hs hH a w hr hs'.starx_open
end
end Go.Proofs.Ytnhcfhamcakfkaa
