/- PROVED HERE: RpcWindows: for every input the law of layer 11 answers true and its input reads as before: whatever clients are seen, answered and loaded, a window says what the document says. No conditions. -/
import Derived.Test.YtgidkjfakecniaaRsF
import Derived.Test.YtgidkjfakecniaaRsH
import Derived.Test.YtgidkjfakecniaaRsV
import Derived.Test.YtgidkjfakecniaaRows
import Derived.Test.YtgidkjfakecniaaChecked
namespace Go.Proofs.Ytgidkjfakecniaa
open Go.RowKit
structure WinI where
  k : Nat
  S : Int → SeenD
  n : Nat
  A : Option Addr
  c : Nat
  l : List (Int × SeenD)
def WinI.ok (W : World) (j : WinI) (k : Nat) : Prop := j.k ≤ 80 ∧ j.n ≤ k ∧ j.l.length ≤ k ∧ rel j.S j.l ∧ RWs W j.l ∧ ∀ p, 0 ≤ (j.S p).id
theorem ok_upd {W : World} {k n : Nat} {S : Int → SeenD} {l : List (Int × SeenD)} {q : Int} {s t : SeenD} {A : Option Addr} {c : Nat} (h1 : k ≤ 80) (h2 : n ≤ k + 1) (h3 : l.length ≤ k) (h4 : rel S l) (h5 : RWs W l) (h6 : ∀ p, 0 ≤ (S p).id)
    (hs : sameD t (if s.id < 1 then SeenD.zero else if s.dn = true then s else newD s.id)) (hw : RW W (if s.id < 1 then SeenD.zero else if s.dn = true then s else newD s.id)) (ht : 0 ≤ t.id) : WinI.ok W ⟨k, upd S q t, n, A, c, loadL l q s⟩ (k + 1) :=
  ⟨h1, h2, Nat.le_trans (load_len l q s) (by omega), rel_load h4 q s t hs, RWs_load h5 q s hw, fun p => by
    show 0 ≤ (upd S q t p).id
    unfold upd
    split
    · exact ht
    · exact h6 p⟩

theorem ok_same {W : World} {k n : Nat} {S : Int → SeenD} {l : List (Int × SeenD)} {A : Option Addr} {c : Nat} (h1 : k ≤ 80) (h2 : n ≤ k) (h3 : l.length ≤ k) (h4 : rel S l) (h5 : RWs W l) (h6 : ∀ p, 0 ≤ (S p).id) : WinI.ok W ⟨k, S, n, A, c, l⟩ (k + 1) :=
  ⟨h1, Nat.le_succ_of_le h2, Nat.le_succ_of_le h3, h4, h5, h6⟩
theorem new_if {ob : Int} (hb : ¬ ob < 1) : (if (newD ob).id < 1 then SeenD.zero else if (newD ob).dn = true then newD ob else newD (newD ob).id) = newD ob := by
  rw [if_neg (show ¬ (newD ob).id < 1 from hb), if_neg (show ¬ (newD ob).dn = true from Bool.false_ne_true)]
  rfl
set_option maxHeartbeats 4000000 in
theorem windows_sl (W : World) (B : Option Addr) (d : Nat) (os : List OpA) (hos : os.length ≤ 17592186044415) (hr : Reads W W.heap.size 31 B os.length (os.flatMap OpA.enc)) (hok : ∀ o ∈ os, o.ok W) :
    Fn Try.prog 6 #[.slice B os.length d] [argc W] Unit (fun _ => .bool true) (fun _ => []) (fun _ => True) := by
  refine Fn.enter Try.func6 rfl Try.ntmps6 (by rfl) ?_
  intro w0
  refine Cd.seq ?_
  refine Cd.region ?_
  refine Ls.ev (some 2) (Ev.assign (show Oper.op _ = Op.assign (Operand.const (Value.bool false)) from rfl) (by rfl)) (by rfl) (by rfl) ?_
  refine Ls.nil ?_
  refine Cd.seq ?_
  refine Cd.region ?_
  refine Ls.does (some 17) (Does.call [0] (show Oper.op _ = Op.call { callee := Callee.value (Operand.func 22), args := #[], argTypes := #[] } from rfl) Try.func22 (by kernel_rfl) (by kernel_rfl) (newWindow_sl) (by rfl) (by rfl) (by rfl)) (by rfl) (by rfl) ?_
  rintro ⟨g, b⟩ _
  refine Ls.ev (some 3) (Ev.assign (show Oper.op _ = Op.assign (Operand.tmp 17) from rfl) (by rfl)) (by rfl) (by rfl) ?_
  refine Ls.nil ?_
  refine Cd.seq ?_
  refine Cd.seq ?_
  refine Cd.region ?_
  refine Ls.does (some 18) (Does.call [0, 1, 2, 3] (show Oper.op _ = Op.call { callee := Callee.value (Operand.func 9), args := #[], argTypes := #[] } from rfl) Try.func9 (by kernel_rfl) (by kernel_rfl) (awake_sl) (by rfl) (by rfl) (by rfl)) (by rfl) (by rfl) ?_
  intro _ _
  refine Ls.ev (some 19) (Ev.not (show Oper.op _ = Op.unOp UnOp.not 4 (Operand.tmp 18) from rfl) (by rfl)) (by rfl) (by rfl) ?_
  refine Ls.ev (some 20) (Ev.move (show Oper.op _ = Op.move (Operand.tmp 19) from rfl) (by rfl)) (by rfl) (by rfl) ?_
  refine Ls.ev (some 21) (Ev.move (show Oper.op _ = Op.move (Operand.tmp 3) from rfl) (by rfl)) (by rfl) (by rfl) ?_
  refine Ls.ev (some 22) (Ev.ptrNil (show Oper.op _ = Op.binOp BinOp.eql 66 (Operand.tmp 21) (Operand.const (Value.pointer none)) 66 from rfl) (by rfl) (by rfl) Try.underlying66) (by rfl) (by rfl) ?_
  refine Ls.ev (some 23) (Ev.pickF (show Oper.op _ = Op.pick (Operand.tmp 20) (Operand.const (Value.bool true)) (Operand.tmp 22) from rfl) (by rfl) (by rfl)) (by rfl) (by rfl) ?_
  refine Ls.nil ?_
  refine Cd.cond_false (by rfl) (rfl) ?_
  refine Cd.skip ?_
  refine Cd.seq ?_
  refine Cd.region ?_
  refine Ls.ev (some 4) (Ev.assign (show Oper.op _ = Op.assign (Operand.const (Value.slice none 0 0)) from rfl) (by rfl)) (by rfl) (by rfl) ?_
  refine Ls.nil ?_
  refine Cd.seq ?_
  refine Cd.seq ?_
  refine Cd.region ?_
  refine Ls.ev (some 5) (Ev.assign (show Oper.op _ = Op.assign (Operand.const (Value.int IntKind.i64 0)) from rfl) (by rfl)) (by rfl) (by rfl) ?_
  refine Ls.nil ?_
  refine Cd.block ?_
  refine Ent.map (fun w h => h.free (C := rd none 0 7 (([] : List (Int × SeenD)).flatMap encS)) rfl (fun k hk => absurd hk.1 (Nat.lt_irrefl 0)) ⟨rfl, fun hn => absurd hn (Nat.lt_irrefl 0)⟩) ?_
  refine Cd.loop (ι := WinI) (fun j => [(0, .slice B os.length d), (3, .pointer (some ⟨g, 0, none⟩)), (4, .slice j.A j.l.length j.c), (5, .int .i64 j.k)]) (fun j => [rd j.A j.l.length 7 (j.l.flatMap encS), winB g b, winM b j.n j.S, winS j.S, argc W]) (fun j => j.ok W j.k) (fun j => 80 - j.k) (⟨0, fun _ => SeenD.zero, 0, none, 0, []⟩) (⟨by decide, Nat.le_refl _, Nat.le_refl _, fun p => sameD_refl _, fun p => (RW_zero W 0).2, fun p => Int.le_refl 0⟩) ?_ rfl ?_
  · (repeat (first | exact trivial | refine ⟨by rfl, ?_⟩))
  rintro ⟨k, S, n, A, c, l⟩ ⟨h1, h2, h3, h4, h5, h6⟩
  dsimp only at h1 h2 h3 h4 h5 h6 ⊢
  refine Cd.seq ?_
  refine Cd.seq ?_
  refine Cd.region ?_
  refine Ls.ev (some 24) (Ev.move (show Oper.op _ = Op.move (Operand.tmp 5) from rfl) (by rfl)) (by rfl) (by rfl) ?_
  refine Ls.ev (some 25) (Ev.move (show Oper.op _ = Op.move (Operand.tmp 0) from rfl) (by rfl)) (by rfl) (by rfl) ?_
  refine Ls.ev (some 26) (Ev.len (show Oper.op _ = Op.call { callee := Callee.builtin Builtin.len, args := #[Operand.tmp 25], argTypes := #[51] } from rfl) (by rfl) Try.underlying51) (by rfl) (by rfl) ?_
  refine Ls.ev (some 27) (Ev.lss (show Oper.op _ = Op.binOp BinOp.lss 3 (Operand.tmp 24) (Operand.tmp 26) 3 from rfl) (by rfl) (by rfl)) (by rfl) (by rfl) ?_
  refine Ls.ev (some 28) (Ev.move (show Oper.op _ = Op.move (Operand.tmp 27) from rfl) (by rfl)) (by rfl) (by rfl) ?_
  refine Ent.split 28 (by rfl) (fun h => ?_) (fun h => ?_)
  · skip
    refine Ls.pass (some 29) (by rfl) (by rfl) ?_
    refine Ls.pass (some 30) (by rfl) (by rfl) ?_
    refine Ls.ev (some 31) (Ev.pickF (show Oper.op _ = Op.pick (Operand.tmp 28) (Operand.tmp 30) (Operand.const (Value.bool false)) from rfl) (by rfl) (by rfl)) (by rfl) (by rfl) ?_
    refine Ls.nil ?_
    refine Cd.cond_false (by rfl) (rfl) ?_
    refine Cd.exit ?_
    refine Cd.seq ?_
    refine Cd.region ?_
    refine Ls.ev (some 2) (Ev.assign (show Oper.op _ = Op.assign (Operand.const (Value.bool true)) from rfl) (by rfl)) (by rfl) (by rfl) ?_
    refine Ls.nil ?_
    refine Cd.ret ?_
    refine Ent.ret (()) (trivial) (Res.tmp (by rfl) (by rfl)) ?_ [] (by rfl) ?_
    · rfl
    · rfl
  skip
  have hlt : k < os.length := by have := of_decide_eq_true h; omega
  refine Ls.ev (some 29) (Ev.move (show Oper.op _ = Op.move (Operand.tmp 5) from rfl) (by rfl)) (by rfl) (by rfl) ?_
  refine Ls.ev (some 30) (Ev.lss (show Oper.op _ = Op.binOp BinOp.lss 3 (Operand.tmp 29) (Operand.const (Value.int IntKind.i64 80)) 3 from rfl) (by rfl) (by rfl)) (by rfl) (by rfl) ?_
  refine Ls.ev (some 31) (Ev.pickT (show Oper.op _ = Op.pick (Operand.tmp 28) (Operand.tmp 30) (Operand.const (Value.bool false)) from rfl) (by rfl) (by rfl)) (by rfl) (by rfl) ?_
  refine Ls.nil ?_
  refine Cd.cond _ (by rfl) (fun h7 => ?_) (fun h7 => ?_)
  · skip
    have h7 : k < 80 := by have := of_decide_eq_true h7; omega
    obtain ⟨⟨okd, oa, ob, oc, om, ⟨rc, re, rs, rA, rC, rx⟩, odn⟩, ho⟩ := get_of_lt hlt
    have hoo := hok _ (List.mem_of_getElem? ho)
    obtain ⟨_, hq, _, _, _, _, _, _, hrr, _, hrl⟩ := hoo
    dsimp only at hq hrr hrl
    refine Ent.arg 4 (by rfl) hr ?_
    refine Ent.rdSome 0 (by rfl) (by omega) (fun ax hax => ?_)
    subst hax
    refine Cd.skip ?_
    refine Cd.seq ?_
    refine Cd.block ?_
    refine Cd.seq ?_
    refine Cd.region ?_
    refine Ls.ev (some 34) (Ev.move (show Oper.op _ = Op.move (Operand.tmp 0) from rfl) (by rfl)) (by rfl) (by rfl) ?_
    refine Ls.ev (some 35) (Ev.move (show Oper.op _ = Op.move (Operand.tmp 5) from rfl) (by rfl)) (by rfl) (by rfl) ?_
    refine Ls.ev (some 36) (Ev.indexAt (sz := 31) (show Oper.op _ = Op.indexAddr 51 (Operand.tmp 34) (Operand.tmp 35) from rfl) (by rfl) (by rfl) Try.underlying51 (by kernel_rfl) (by omega)) (by rfl) (by rfl) ?_
    refine Ls.ev (some 37) (Ev.loadEl (show Oper.op _ = Op.load 55 (Operand.tmp 36) from rfl) (by rfl) (ReadsIn.rd 0 (by rfl)) (by kernel_rfl) (by intro _; rfl) (by assumption)) (by rfl) (by rfl) ?_
    refine Ls.does (some 6) (Does.alloc (cs := [.int .i64 0, .int .i64 0, .int .i64 0, .int .i64 0, .int .i64 0, .int .i64 0, .slice none 0 0, .int .i64 0, .int .i64 0, .int .i64 0, .int .i64 0, .int .i64 0, .int .i64 0, .int .i64 0, .slice none 0 0, .slice none 0 0, .bool false, .int .i64 0, .int .i64 0, .int .i64 0, .int .i64 0, .slice none 0 0, .int .i64 0, .int .i64 0, .int .i64 0, .slice none 0 0, .int .i64 0, .int .i64 0, .int .i64 0, .slice none 0 0, .bool false]) (show Oper.op _ = Op.alloc 55 from rfl) (ZeroIs.mk (.agg #[.int .i64 0, .int .i64 0, .int .i64 0, .int .i64 0, .int .i64 0, .int .i64 0, .slice none 0 0, .int .i64 0, .int .i64 0, .int .i64 0, .int .i64 0, .int .i64 0, .int .i64 0, .int .i64 0, .slice none 0 0, .slice none 0 0, .bool false, .int .i64 0, .int .i64 0, .int .i64 0, .int .i64 0, .slice none 0 0, .int .i64 0, .int .i64 0, .int .i64 0, .slice none 0 0, .int .i64 0, .int .i64 0, .int .i64 0, .slice none 0 0, .bool false]) (by kernel_rfl) (by rfl))) (by rfl) (by rfl) ?_
    intro g1 _
    refine Ls.does none (Does.store 0 (show Oper.op _ = Op.store 55 (Operand.tmp 6) (Operand.tmp 37) from rfl) (by rfl) (by rfl) (by rfl) (by kernel_rfl) (by rfl) (by kernel_rfl) (by rfl)) (by rfl) (by rfl) ?_
    intro _ _
    refine Ls.nil ?_
    refine Cd.seq ?_
    refine Cd.seq ?_
    refine Cd.region ?_
    refine Ls.ev (some 38) (Ev.fieldAddr (k := 0) (show Oper.op _ = Op.fieldAddr 55 (Operand.tmp 6) 0 from rfl) (by rfl) (by kernel_rfl) (by rfl)) (by rfl) (by rfl) ?_
    refine Ls.ev (some 39) (Ev.load 0 (show Oper.op _ = Op.load 3 (Operand.tmp 38) from rfl) (by rfl) (by rfl) (by kernel_rfl) (by rfl)) (by rfl) (by rfl) ?_
    refine Ls.nil ?_
    have hs := h4 oa
    have h60 := h6 oa
    have hln : l.length ≤ 1000000 := by omega
    refine Cd.cut (ι := WinI) (fun j => [(0, .slice (some ax) os.length d), (3, .pointer (some ⟨g, 0, none⟩)), (4, .slice j.A j.l.length j.c), (5, .int .i64 k), (6, .pointer (some ⟨g1, 0, none⟩))]) (fun j => [rd j.A j.l.length 7 (j.l.flatMap encS), winB g b, winM b j.n j.S, winS j.S, blk g1 55 (OpA.enc ⟨okd, oa, ob, oc, om, ⟨rc, re, ⟨rs, rA, rC, rx⟩⟩, odn⟩), argc W]) (fun j => j.ok W (k + 1) ∧ j.k = k) ?_ ?_
    · skip
      refine Cd.block ?_
      refine Cd.seq ?_
      refine Cd.region ?_
      refine Ls.ev (some 41) (Ev.eql (show Oper.op _ = Op.binOp BinOp.eql 3 (Operand.tmp 39) (Operand.const (Value.int IntKind.i64 1)) 3 from rfl) (by rfl) (by rfl)) (by rfl) (by rfl) ?_
      refine Ls.ev (some 40) (Ev.assign (show Oper.op _ = Op.assign (Operand.tmp 41) from rfl) (by rfl)) (by rfl) (by rfl) ?_
      refine Ls.nil ?_
      refine Cd.cond _ (by rfl) (fun hk1 => ?_) (fun hk1 => ?_)
      · skip
        rcases Int.lt_or_le (S oa).id ob with hc | hc
        · skip
          refine Cd.seq ?_
          refine Cd.region ?_
          refine Ls.ev (some 43) (Ev.move (show Oper.op _ = Op.move (Operand.tmp 3) from rfl) (by rfl)) (by rfl) (by rfl) ?_
          refine Ls.ev (some 44) (Ev.fieldAddr (k := 1) (show Oper.op _ = Op.fieldAddr 55 (Operand.tmp 6) 1 from rfl) (by rfl) (by kernel_rfl) (by rfl)) (by rfl) (by rfl) ?_
          refine Ls.ev (some 45) (Ev.load 0 (show Oper.op _ = Op.load 3 (Operand.tmp 44) from rfl) (by rfl) (by rfl) (by kernel_rfl) (by rfl)) (by rfl) (by rfl) ?_
          refine Ls.ev (some 46) (Ev.fieldAddr (k := 2) (show Oper.op _ = Op.fieldAddr 55 (Operand.tmp 6) 2 from rfl) (by rfl) (by kernel_rfl) (by rfl)) (by rfl) (by rfl) ?_
          refine Ls.ev (some 47) (Ev.load 0 (show Oper.op _ = Op.load 3 (Operand.tmp 46) from rfl) (by rfl) (by rfl) (by kernel_rfl) (by rfl)) (by rfl) (by rfl) ?_
          refine Ls.does (some 48) (Does.call [3, 4, 5, 0, 2, 6] (show Oper.op _ = Op.call { callee := Callee.value (Operand.func 25), args := #[Operand.tmp 43, Operand.tmp 45, Operand.tmp 47], argTypes := #[66, 3, 3] } from rfl) Try.func25 (by kernel_rfl) (by kernel_rfl) (see_new g b n S oa ob hq (by omega) hc) (by rfl) (by rfl) (by rfl)) (by rfl) (by rfl) ?_
          intro _ _
          refine Ls.ev (some 42) (Ev.move (show Oper.op _ = Op.move (Operand.tmp 48) from rfl) (by rfl)) (by rfl) (by rfl) ?_
          refine Ls.ev (some 49) (Ev.extract (show Oper.op _ = Op.extract (Operand.tmp 42) 0 from rfl) (by rfl) (by rfl)) (by rfl) (by rfl) ?_
          refine Ls.ev (some 50) (Ev.extract (show Oper.op _ = Op.extract (Operand.tmp 42) 1 from rfl) (by rfl) (by rfl)) (by rfl) (by rfl) ?_
          refine Ls.does (some 8) (Does.alloc (cs := [.int .i64 0, .int .i64 0, .int .i64 0, .slice none 0 0]) (show Oper.op _ = Op.alloc 39 from rfl) (ZeroIs.mk (.agg #[.int .i64 0, .int .i64 0, .int .i64 0, .slice none 0 0]) (by kernel_rfl) (by rfl))) (by rfl) (by rfl) ?_
          intro g2 _
          refine Ls.ev (some 7) (Ev.assign (show Oper.op _ = Op.assign (Operand.tmp 49) from rfl) (by rfl)) (by rfl) (by rfl) ?_
          refine Ls.does none (Does.store 0 (show Oper.op _ = Op.store 39 (Operand.tmp 8) (Operand.tmp 50) from rfl) (by rfl) (by rfl) (by rfl) (by kernel_rfl) (by rfl) (by kernel_rfl) (by rfl)) (by rfl) (by rfl) ?_
          intro _ _
          refine Ls.nil ?_
          refine Cd.seq ?_
          refine Cd.region ?_
          refine Ls.does (some 9) (Does.alloc (cs := [.int .i64 0, .int .i64 0, .int .i64 0, .slice none 0 0]) (show Oper.op _ = Op.alloc 39 from rfl) (ZeroIs.mk (.agg #[.int .i64 0, .int .i64 0, .int .i64 0, .slice none 0 0]) (by kernel_rfl) (by rfl))) (by rfl) (by rfl) ?_
          intro g3 _
          refine Ls.nil ?_
          refine Cd.seq ?_
          refine Cd.region ?_
          refine Ls.ev (some 10) (Ev.assign (show Oper.op _ = Op.assign (Operand.const (Value.int IntKind.i64 0)) from rfl) (by rfl)) (by rfl) (by rfl) ?_
          refine Ls.nil ?_
          refine Cd.seq ?_
          refine Cd.region ?_
          refine Ls.ev (some 52) (Ev.move (show Oper.op _ = Op.move (Operand.tmp 4) from rfl) (by rfl)) (by rfl) (by rfl) ?_
          refine Ls.ev (some 53) (Ev.fieldAddr (k := 1) (show Oper.op _ = Op.fieldAddr 55 (Operand.tmp 6) 1 from rfl) (by rfl) (by kernel_rfl) (by rfl)) (by rfl) (by rfl) ?_
          refine Ls.ev (some 54) (Ev.load 5 (show Oper.op _ = Op.load 3 (Operand.tmp 53) from rfl) (by rfl) (by rfl) (by kernel_rfl) (by rfl)) (by rfl) (by rfl) ?_
          refine Ls.ev (some 55) (Ev.fieldAddr (k := 2) (show Oper.op _ = Op.fieldAddr 55 (Operand.tmp 6) 2 from rfl) (by rfl) (by kernel_rfl) (by rfl)) (by rfl) (by rfl) ?_
          refine Ls.ev (some 56) (Ev.load 5 (show Oper.op _ = Op.load 3 (Operand.tmp 55) from rfl) (by rfl) (by rfl) (by kernel_rfl) (by rfl)) (by rfl) (by rfl) ?_
          refine Ls.does (some 57) (Does.call [6, 0, 1, 2, 3, 4, 5, 7] (show Oper.op _ = Op.call { callee := Callee.value (Operand.func 28), args := #[Operand.tmp 52, Operand.tmp 54, Operand.tmp 56], argTypes := #[77, 3, 3] } from rfl) Try.func28 (by kernel_rfl) (by kernel_rfl) (refSee_new A c l oa ob hln (by rw [← hs.1]; exact hc)) (by rfl) (by rfl) (by rfl)) (by rfl) (by rfl) ?_
          intro p _
          refine Ls.ev (some 51) (Ev.move (show Oper.op _ = Op.move (Operand.tmp 57) from rfl) (by rfl)) (by rfl) (by rfl) ?_
          refine Ls.ev (some 58) (Ev.extract (show Oper.op _ = Op.extract (Operand.tmp 51) 0 from rfl) (by rfl) (by rfl)) (by rfl) (by rfl) ?_
          refine Ls.ev (some 59) (Ev.extract (show Oper.op _ = Op.extract (Operand.tmp 51) 1 from rfl) (by rfl) (by rfl)) (by rfl) (by rfl) ?_
          refine Ls.ev (some 60) (Ev.extract (show Oper.op _ = Op.extract (Operand.tmp 51) 2 from rfl) (by rfl) (by rfl)) (by rfl) (by rfl) ?_
          refine Ls.ev (some 4) (Ev.assign (show Oper.op _ = Op.assign (Operand.tmp 58) from rfl) (by rfl)) (by rfl) (by rfl) ?_
          refine Ls.ev (some 10) (Ev.assign (show Oper.op _ = Op.assign (Operand.tmp 59) from rfl) (by rfl)) (by rfl) (by rfl) ?_
          refine Ls.does none (Does.store 1 (show Oper.op _ = Op.store 39 (Operand.tmp 9) (Operand.tmp 60) from rfl) (by rfl) (by rfl) (by rfl) (by kernel_rfl) (by rfl) (by kernel_rfl) (by rfl)) (by rfl) (by rfl) ?_
          intro _ _
          refine Ls.nil ?_
          refine Cd.seq ?_
          refine Cd.region ?_
          refine Ls.ev (some 61) (Ev.move (show Oper.op _ = Op.move (Operand.tmp 7) from rfl) (by rfl)) (by rfl) (by rfl) ?_
          refine Ls.ev (some 62) (Ev.move (show Oper.op _ = Op.move (Operand.tmp 10) from rfl) (by rfl)) (by rfl) (by rfl) ?_
          refine Ls.ev (some 63) (Ev.neq (show Oper.op _ = Op.binOp BinOp.neq 3 (Operand.tmp 61) (Operand.tmp 62) 3 from rfl) (by rfl) (by rfl)) (by rfl) (by rfl) ?_
          refine Ls.ev (some 64) (Ev.move (show Oper.op _ = Op.move (Operand.tmp 63) from rfl) (by rfl)) (by rfl) (by rfl) ?_
          refine Ls.ev (some 65) (Ev.loads 2 (show Oper.op _ = Op.load 39 (Operand.tmp 8) from rfl) (by rfl) (by rfl) (n := 4) (by kernel_rfl) (by rfl) (by rfl)) (by rfl) (by rfl) ?_
          refine Ls.ev (some 66) (Ev.loads 1 (show Oper.op _ = Op.load 39 (Operand.tmp 9) from rfl) (by rfl) (by rfl) (n := 4) (by kernel_rfl) (by rfl) (by rfl)) (by rfl) (by rfl) ?_
          refine Ent.map (fun w h => h.rdNil) ?_
          refine Ls.does (some 67) (Does.call [0, 0, 1, 4, 5, 6, 7, 8] (show Oper.op _ = Op.call { callee := Callee.value (Operand.func 27), args := #[Operand.tmp 65, Operand.tmp 66], argTypes := #[39, 39] } from rfl) Try.func27 (by kernel_rfl) (by kernel_rfl) (sameReply_sl 0 0 0 0 0 0 none none 0 0 [] [] (by decide)) (by rfl) (by rfl) (by rfl)) (by rfl) (by rfl) ?_
          intro _ _
          refine Ls.ev (some 68) (Ev.not (show Oper.op _ = Op.unOp UnOp.not 4 (Operand.tmp 67) from rfl) (by rfl)) (by rfl) (by rfl) ?_
          refine Ls.ev (some 69) (Ev.pickF (show Oper.op _ = Op.pick (Operand.tmp 64) (Operand.const (Value.bool true)) (Operand.tmp 68) from rfl) (by rfl) (by rfl)) (by rfl) (by rfl) ?_
          refine Ls.nil ?_
          refine Cd.cond_false (by rfl) (rfl) ?_
          refine Cd.skip ?_
          refine Ent.see 0 (by rfl) ?_
          refine Ent.inv (⟨k, upd S oa (newD ob), n + 1, p.1, p.2, loadL l oa (newD ob)⟩) ?_ ?_ ?_
          · (try dsimp only); exact ⟨ok_upd h1 (by omega) h3 h4 h5 h6 (by rw [new_if (show ¬ ob < 1 by omega)]; exact sameD_refl _) (by rw [new_if (show ¬ ob < 1 by omega)]; exact (RW_zero W ob).1) (show 0 ≤ ob by omega), rfl⟩
          · (repeat (first | exact trivial | refine ⟨by rfl, ?_⟩ | refine ⟨by simp only [List.length_append, List.length_cons, List.length_nil]; rfl, ?_⟩ | refine ⟨by push_cast; rfl, ?_⟩))
          · rfl
        by_cases hc2 : ob < (S oa).id ∨ ob < 1
        · skip
          refine Cd.seq ?_
          refine Cd.region ?_
          refine Ls.ev (some 43) (Ev.move (show Oper.op _ = Op.move (Operand.tmp 3) from rfl) (by rfl)) (by rfl) (by rfl) ?_
          refine Ls.ev (some 44) (Ev.fieldAddr (k := 1) (show Oper.op _ = Op.fieldAddr 55 (Operand.tmp 6) 1 from rfl) (by rfl) (by kernel_rfl) (by rfl)) (by rfl) (by rfl) ?_
          refine Ls.ev (some 45) (Ev.load 0 (show Oper.op _ = Op.load 3 (Operand.tmp 44) from rfl) (by rfl) (by rfl) (by kernel_rfl) (by rfl)) (by rfl) (by rfl) ?_
          refine Ls.ev (some 46) (Ev.fieldAddr (k := 2) (show Oper.op _ = Op.fieldAddr 55 (Operand.tmp 6) 2 from rfl) (by rfl) (by kernel_rfl) (by rfl)) (by rfl) (by rfl) ?_
          refine Ls.ev (some 47) (Ev.load 0 (show Oper.op _ = Op.load 3 (Operand.tmp 46) from rfl) (by rfl) (by rfl) (by kernel_rfl) (by rfl)) (by rfl) (by rfl) ?_
          refine Ls.does (some 48) (Does.call [3, 4, 5, 0, 2, 6] (show Oper.op _ = Op.call { callee := Callee.value (Operand.func 25), args := #[Operand.tmp 43, Operand.tmp 45, Operand.tmp 47], argTypes := #[66, 3, 3] } from rfl) Try.func25 (by kernel_rfl) (by kernel_rfl) (see_stale g b n S oa ob hq (by omega) hc2) (by rfl) (by rfl) (by rfl)) (by rfl) (by rfl) ?_
          intro _ _
          refine Ls.ev (some 42) (Ev.move (show Oper.op _ = Op.move (Operand.tmp 48) from rfl) (by rfl)) (by rfl) (by rfl) ?_
          refine Ls.ev (some 49) (Ev.extract (show Oper.op _ = Op.extract (Operand.tmp 42) 0 from rfl) (by rfl) (by rfl)) (by rfl) (by rfl) ?_
          refine Ls.ev (some 50) (Ev.extract (show Oper.op _ = Op.extract (Operand.tmp 42) 1 from rfl) (by rfl) (by rfl)) (by rfl) (by rfl) ?_
          refine Ls.does (some 8) (Does.alloc (cs := [.int .i64 0, .int .i64 0, .int .i64 0, .slice none 0 0]) (show Oper.op _ = Op.alloc 39 from rfl) (ZeroIs.mk (.agg #[.int .i64 0, .int .i64 0, .int .i64 0, .slice none 0 0]) (by kernel_rfl) (by rfl))) (by rfl) (by rfl) ?_
          intro g2 _
          refine Ls.ev (some 7) (Ev.assign (show Oper.op _ = Op.assign (Operand.tmp 49) from rfl) (by rfl)) (by rfl) (by rfl) ?_
          refine Ls.does none (Does.store 0 (show Oper.op _ = Op.store 39 (Operand.tmp 8) (Operand.tmp 50) from rfl) (by rfl) (by rfl) (by rfl) (by kernel_rfl) (by rfl) (by kernel_rfl) (by rfl)) (by rfl) (by rfl) ?_
          intro _ _
          refine Ls.nil ?_
          refine Cd.seq ?_
          refine Cd.region ?_
          refine Ls.does (some 9) (Does.alloc (cs := [.int .i64 0, .int .i64 0, .int .i64 0, .slice none 0 0]) (show Oper.op _ = Op.alloc 39 from rfl) (ZeroIs.mk (.agg #[.int .i64 0, .int .i64 0, .int .i64 0, .slice none 0 0]) (by kernel_rfl) (by rfl))) (by rfl) (by rfl) ?_
          intro g3 _
          refine Ls.nil ?_
          refine Cd.seq ?_
          refine Cd.region ?_
          refine Ls.ev (some 10) (Ev.assign (show Oper.op _ = Op.assign (Operand.const (Value.int IntKind.i64 0)) from rfl) (by rfl)) (by rfl) (by rfl) ?_
          refine Ls.nil ?_
          refine Cd.seq ?_
          refine Cd.region ?_
          refine Ls.ev (some 52) (Ev.move (show Oper.op _ = Op.move (Operand.tmp 4) from rfl) (by rfl)) (by rfl) (by rfl) ?_
          refine Ls.ev (some 53) (Ev.fieldAddr (k := 1) (show Oper.op _ = Op.fieldAddr 55 (Operand.tmp 6) 1 from rfl) (by rfl) (by kernel_rfl) (by rfl)) (by rfl) (by rfl) ?_
          refine Ls.ev (some 54) (Ev.load 5 (show Oper.op _ = Op.load 3 (Operand.tmp 53) from rfl) (by rfl) (by rfl) (by kernel_rfl) (by rfl)) (by rfl) (by rfl) ?_
          refine Ls.ev (some 55) (Ev.fieldAddr (k := 2) (show Oper.op _ = Op.fieldAddr 55 (Operand.tmp 6) 2 from rfl) (by rfl) (by kernel_rfl) (by rfl)) (by rfl) (by rfl) ?_
          refine Ls.ev (some 56) (Ev.load 5 (show Oper.op _ = Op.load 3 (Operand.tmp 55) from rfl) (by rfl) (by rfl) (by kernel_rfl) (by rfl)) (by rfl) (by rfl) ?_
          refine Ls.does (some 57) (Does.call [6, 6, 0, 1, 2, 3, 4, 5, 7] (show Oper.op _ = Op.call { callee := Callee.value (Operand.func 28), args := #[Operand.tmp 52, Operand.tmp 54, Operand.tmp 56], argTypes := #[77, 3, 3] } from rfl) Try.func28 (by kernel_rfl) (by kernel_rfl) (refSee_stale A c l oa ob hln (by rw [← hs.1]; omega) (by rw [← hs.1]; exact hc2)) (by rfl) (by rfl) (by rfl)) (by rfl) (by rfl) ?_
          intro _ _
          refine Ls.ev (some 51) (Ev.move (show Oper.op _ = Op.move (Operand.tmp 57) from rfl) (by rfl)) (by rfl) (by rfl) ?_
          refine Ls.ev (some 58) (Ev.extract (show Oper.op _ = Op.extract (Operand.tmp 51) 0 from rfl) (by rfl) (by rfl)) (by rfl) (by rfl) ?_
          refine Ls.ev (some 59) (Ev.extract (show Oper.op _ = Op.extract (Operand.tmp 51) 1 from rfl) (by rfl) (by rfl)) (by rfl) (by rfl) ?_
          refine Ls.ev (some 60) (Ev.extract (show Oper.op _ = Op.extract (Operand.tmp 51) 2 from rfl) (by rfl) (by rfl)) (by rfl) (by rfl) ?_
          refine Ls.ev (some 4) (Ev.assign (show Oper.op _ = Op.assign (Operand.tmp 58) from rfl) (by rfl)) (by rfl) (by rfl) ?_
          refine Ls.ev (some 10) (Ev.assign (show Oper.op _ = Op.assign (Operand.tmp 59) from rfl) (by rfl)) (by rfl) (by rfl) ?_
          refine Ls.does none (Does.store 1 (show Oper.op _ = Op.store 39 (Operand.tmp 9) (Operand.tmp 60) from rfl) (by rfl) (by rfl) (by rfl) (by kernel_rfl) (by rfl) (by kernel_rfl) (by rfl)) (by rfl) (by rfl) ?_
          intro _ _
          refine Ls.nil ?_
          refine Cd.seq ?_
          refine Cd.region ?_
          refine Ls.ev (some 61) (Ev.move (show Oper.op _ = Op.move (Operand.tmp 7) from rfl) (by rfl)) (by rfl) (by rfl) ?_
          refine Ls.ev (some 62) (Ev.move (show Oper.op _ = Op.move (Operand.tmp 10) from rfl) (by rfl)) (by rfl) (by rfl) ?_
          refine Ls.ev (some 63) (Ev.neq (show Oper.op _ = Op.binOp BinOp.neq 3 (Operand.tmp 61) (Operand.tmp 62) 3 from rfl) (by rfl) (by rfl)) (by rfl) (by rfl) ?_
          refine Ls.ev (some 64) (Ev.move (show Oper.op _ = Op.move (Operand.tmp 63) from rfl) (by rfl)) (by rfl) (by rfl) ?_
          refine Ls.ev (some 65) (Ev.loads 2 (show Oper.op _ = Op.load 39 (Operand.tmp 8) from rfl) (by rfl) (by rfl) (n := 4) (by kernel_rfl) (by rfl) (by rfl)) (by rfl) (by rfl) ?_
          refine Ls.ev (some 66) (Ev.loads 1 (show Oper.op _ = Op.load 39 (Operand.tmp 9) from rfl) (by rfl) (by rfl) (n := 4) (by kernel_rfl) (by rfl) (by rfl)) (by rfl) (by rfl) ?_
          refine Ent.map (fun w h => h.rdNil) ?_
          refine Ls.does (some 67) (Does.call [0, 0, 1, 4, 5, 6, 7, 8] (show Oper.op _ = Op.call { callee := Callee.value (Operand.func 27), args := #[Operand.tmp 65, Operand.tmp 66], argTypes := #[39, 39] } from rfl) Try.func27 (by kernel_rfl) (by kernel_rfl) (sameReply_sl 0 0 0 0 0 0 none none 0 0 [] [] (by decide)) (by rfl) (by rfl) (by rfl)) (by rfl) (by rfl) ?_
          intro _ _
          refine Ls.ev (some 68) (Ev.not (show Oper.op _ = Op.unOp UnOp.not 4 (Operand.tmp 67) from rfl) (by rfl)) (by rfl) (by rfl) ?_
          refine Ls.ev (some 69) (Ev.pickF (show Oper.op _ = Op.pick (Operand.tmp 64) (Operand.const (Value.bool true)) (Operand.tmp 68) from rfl) (by rfl) (by rfl)) (by rfl) (by rfl) ?_
          refine Ls.nil ?_
          refine Cd.cond_false (by rfl) (rfl) ?_
          refine Cd.skip ?_
          refine Ent.inv (⟨k, S, n, A, c, l⟩) ?_ ?_ ?_
          · (try dsimp only); exact ⟨ok_same h1 h2 h3 h4 h5 h6, rfl⟩
          · (repeat (first | exact trivial | refine ⟨by rfl, ?_⟩ | refine ⟨by simp only [List.length_append, List.length_cons, List.length_nil]; rfl, ?_⟩ | refine ⟨by push_cast; rfl, ?_⟩))
          · rfl
        have hc3 : ob = (S oa).id := by omega
        cases hdn : (S oa).dn
        · skip
          refine Cd.seq ?_
          refine Cd.region ?_
          refine Ls.ev (some 43) (Ev.move (show Oper.op _ = Op.move (Operand.tmp 3) from rfl) (by rfl)) (by rfl) (by rfl) ?_
          refine Ls.ev (some 44) (Ev.fieldAddr (k := 1) (show Oper.op _ = Op.fieldAddr 55 (Operand.tmp 6) 1 from rfl) (by rfl) (by kernel_rfl) (by rfl)) (by rfl) (by rfl) ?_
          refine Ls.ev (some 45) (Ev.load 0 (show Oper.op _ = Op.load 3 (Operand.tmp 44) from rfl) (by rfl) (by rfl) (by kernel_rfl) (by rfl)) (by rfl) (by rfl) ?_
          refine Ls.ev (some 46) (Ev.fieldAddr (k := 2) (show Oper.op _ = Op.fieldAddr 55 (Operand.tmp 6) 2 from rfl) (by rfl) (by kernel_rfl) (by rfl)) (by rfl) (by rfl) ?_
          refine Ls.ev (some 47) (Ev.load 0 (show Oper.op _ = Op.load 3 (Operand.tmp 46) from rfl) (by rfl) (by rfl) (by kernel_rfl) (by rfl)) (by rfl) (by rfl) ?_
          refine Ls.does (some 48) (Does.call [3, 4, 5, 0, 2, 6] (show Oper.op _ = Op.call { callee := Callee.value (Operand.func 25), args := #[Operand.tmp 43, Operand.tmp 45, Operand.tmp 47], argTypes := #[66, 3, 3] } from rfl) Try.func25 (by kernel_rfl) (by kernel_rfl) (see_run g b n S oa ob hq hc3 (by omega) hdn) (by rfl) (by rfl) (by rfl)) (by rfl) (by rfl) ?_
          intro _ _
          refine Ls.ev (some 42) (Ev.move (show Oper.op _ = Op.move (Operand.tmp 48) from rfl) (by rfl)) (by rfl) (by rfl) ?_
          refine Ls.ev (some 49) (Ev.extract (show Oper.op _ = Op.extract (Operand.tmp 42) 0 from rfl) (by rfl) (by rfl)) (by rfl) (by rfl) ?_
          refine Ls.ev (some 50) (Ev.extract (show Oper.op _ = Op.extract (Operand.tmp 42) 1 from rfl) (by rfl) (by rfl)) (by rfl) (by rfl) ?_
          refine Ls.does (some 8) (Does.alloc (cs := [.int .i64 0, .int .i64 0, .int .i64 0, .slice none 0 0]) (show Oper.op _ = Op.alloc 39 from rfl) (ZeroIs.mk (.agg #[.int .i64 0, .int .i64 0, .int .i64 0, .slice none 0 0]) (by kernel_rfl) (by rfl))) (by rfl) (by rfl) ?_
          intro g2 _
          refine Ls.ev (some 7) (Ev.assign (show Oper.op _ = Op.assign (Operand.tmp 49) from rfl) (by rfl)) (by rfl) (by rfl) ?_
          refine Ls.does none (Does.store 0 (show Oper.op _ = Op.store 39 (Operand.tmp 8) (Operand.tmp 50) from rfl) (by rfl) (by rfl) (by rfl) (by kernel_rfl) (by rfl) (by kernel_rfl) (by rfl)) (by rfl) (by rfl) ?_
          intro _ _
          refine Ls.nil ?_
          refine Cd.seq ?_
          refine Cd.region ?_
          refine Ls.does (some 9) (Does.alloc (cs := [.int .i64 0, .int .i64 0, .int .i64 0, .slice none 0 0]) (show Oper.op _ = Op.alloc 39 from rfl) (ZeroIs.mk (.agg #[.int .i64 0, .int .i64 0, .int .i64 0, .slice none 0 0]) (by kernel_rfl) (by rfl))) (by rfl) (by rfl) ?_
          intro g3 _
          refine Ls.nil ?_
          refine Cd.seq ?_
          refine Cd.region ?_
          refine Ls.ev (some 10) (Ev.assign (show Oper.op _ = Op.assign (Operand.const (Value.int IntKind.i64 0)) from rfl) (by rfl)) (by rfl) (by rfl) ?_
          refine Ls.nil ?_
          refine Cd.seq ?_
          refine Cd.region ?_
          refine Ls.ev (some 52) (Ev.move (show Oper.op _ = Op.move (Operand.tmp 4) from rfl) (by rfl)) (by rfl) (by rfl) ?_
          refine Ls.ev (some 53) (Ev.fieldAddr (k := 1) (show Oper.op _ = Op.fieldAddr 55 (Operand.tmp 6) 1 from rfl) (by rfl) (by kernel_rfl) (by rfl)) (by rfl) (by rfl) ?_
          refine Ls.ev (some 54) (Ev.load 5 (show Oper.op _ = Op.load 3 (Operand.tmp 53) from rfl) (by rfl) (by rfl) (by kernel_rfl) (by rfl)) (by rfl) (by rfl) ?_
          refine Ls.ev (some 55) (Ev.fieldAddr (k := 2) (show Oper.op _ = Op.fieldAddr 55 (Operand.tmp 6) 2 from rfl) (by rfl) (by kernel_rfl) (by rfl)) (by rfl) (by rfl) ?_
          refine Ls.ev (some 56) (Ev.load 5 (show Oper.op _ = Op.load 3 (Operand.tmp 55) from rfl) (by rfl) (by rfl) (by kernel_rfl) (by rfl)) (by rfl) (by rfl) ?_
          refine Ls.does (some 57) (Does.call [6, 6, 0, 1, 2, 3, 4, 5, 7] (show Oper.op _ = Op.call { callee := Callee.value (Operand.func 28), args := #[Operand.tmp 52, Operand.tmp 54, Operand.tmp 56], argTypes := #[77, 3, 3] } from rfl) Try.func28 (by kernel_rfl) (by kernel_rfl) (refSee_run A c l oa ob hln (by rw [← hs.1]; omega) (by rw [← hs.1]; exact hc3) (by omega) (by rw [← hs.2.1]; exact hdn)) (by rfl) (by rfl) (by rfl)) (by rfl) (by rfl) ?_
          intro _ _
          refine Ls.ev (some 51) (Ev.move (show Oper.op _ = Op.move (Operand.tmp 57) from rfl) (by rfl)) (by rfl) (by rfl) ?_
          refine Ls.ev (some 58) (Ev.extract (show Oper.op _ = Op.extract (Operand.tmp 51) 0 from rfl) (by rfl) (by rfl)) (by rfl) (by rfl) ?_
          refine Ls.ev (some 59) (Ev.extract (show Oper.op _ = Op.extract (Operand.tmp 51) 1 from rfl) (by rfl) (by rfl)) (by rfl) (by rfl) ?_
          refine Ls.ev (some 60) (Ev.extract (show Oper.op _ = Op.extract (Operand.tmp 51) 2 from rfl) (by rfl) (by rfl)) (by rfl) (by rfl) ?_
          refine Ls.ev (some 4) (Ev.assign (show Oper.op _ = Op.assign (Operand.tmp 58) from rfl) (by rfl)) (by rfl) (by rfl) ?_
          refine Ls.ev (some 10) (Ev.assign (show Oper.op _ = Op.assign (Operand.tmp 59) from rfl) (by rfl)) (by rfl) (by rfl) ?_
          refine Ls.does none (Does.store 1 (show Oper.op _ = Op.store 39 (Operand.tmp 9) (Operand.tmp 60) from rfl) (by rfl) (by rfl) (by rfl) (by kernel_rfl) (by rfl) (by kernel_rfl) (by rfl)) (by rfl) (by rfl) ?_
          intro _ _
          refine Ls.nil ?_
          refine Cd.seq ?_
          refine Cd.region ?_
          refine Ls.ev (some 61) (Ev.move (show Oper.op _ = Op.move (Operand.tmp 7) from rfl) (by rfl)) (by rfl) (by rfl) ?_
          refine Ls.ev (some 62) (Ev.move (show Oper.op _ = Op.move (Operand.tmp 10) from rfl) (by rfl)) (by rfl) (by rfl) ?_
          refine Ls.ev (some 63) (Ev.neq (show Oper.op _ = Op.binOp BinOp.neq 3 (Operand.tmp 61) (Operand.tmp 62) 3 from rfl) (by rfl) (by rfl)) (by rfl) (by rfl) ?_
          refine Ls.ev (some 64) (Ev.move (show Oper.op _ = Op.move (Operand.tmp 63) from rfl) (by rfl)) (by rfl) (by rfl) ?_
          refine Ls.ev (some 65) (Ev.loads 2 (show Oper.op _ = Op.load 39 (Operand.tmp 8) from rfl) (by rfl) (by rfl) (n := 4) (by kernel_rfl) (by rfl) (by rfl)) (by rfl) (by rfl) ?_
          refine Ls.ev (some 66) (Ev.loads 1 (show Oper.op _ = Op.load 39 (Operand.tmp 9) from rfl) (by rfl) (by rfl) (n := 4) (by kernel_rfl) (by rfl) (by rfl)) (by rfl) (by rfl) ?_
          refine Ent.map (fun w h => h.rdNil) ?_
          refine Ls.does (some 67) (Does.call [0, 0, 1, 4, 5, 6, 7, 8] (show Oper.op _ = Op.call { callee := Callee.value (Operand.func 27), args := #[Operand.tmp 65, Operand.tmp 66], argTypes := #[39, 39] } from rfl) Try.func27 (by kernel_rfl) (by kernel_rfl) (sameReply_sl 0 0 0 0 0 0 none none 0 0 [] [] (by decide)) (by rfl) (by rfl) (by rfl)) (by rfl) (by rfl) ?_
          intro _ _
          refine Ls.ev (some 68) (Ev.not (show Oper.op _ = Op.unOp UnOp.not 4 (Operand.tmp 67) from rfl) (by rfl)) (by rfl) (by rfl) ?_
          refine Ls.ev (some 69) (Ev.pickF (show Oper.op _ = Op.pick (Operand.tmp 64) (Operand.const (Value.bool true)) (Operand.tmp 68) from rfl) (by rfl) (by rfl)) (by rfl) (by rfl) ?_
          refine Ls.nil ?_
          refine Cd.cond_false (by rfl) (rfl) ?_
          refine Cd.skip ?_
          refine Ent.inv (⟨k, S, n, A, c, l⟩) ?_ ?_ ?_
          · (try dsimp only); exact ⟨ok_same h1 h2 h3 h4 h5 h6, rfl⟩
          · (repeat (first | exact trivial | refine ⟨by rfl, ?_⟩ | refine ⟨by simp only [List.length_append, List.length_cons, List.length_nil]; rfl, ?_⟩ | refine ⟨by push_cast; rfl, ?_⟩))
          · rfl
        · skip
          have hxl : (S oa).xs.length ≤ 17592186044415 := by rw [hs.2.2.2.2.2]; exact (h5 oa).2
          refine Cd.seq ?_
          refine Cd.region ?_
          refine Ls.ev (some 43) (Ev.move (show Oper.op _ = Op.move (Operand.tmp 3) from rfl) (by rfl)) (by rfl) (by rfl) ?_
          refine Ls.ev (some 44) (Ev.fieldAddr (k := 1) (show Oper.op _ = Op.fieldAddr 55 (Operand.tmp 6) 1 from rfl) (by rfl) (by kernel_rfl) (by rfl)) (by rfl) (by rfl) ?_
          refine Ls.ev (some 45) (Ev.load 0 (show Oper.op _ = Op.load 3 (Operand.tmp 44) from rfl) (by rfl) (by rfl) (by kernel_rfl) (by rfl)) (by rfl) (by rfl) ?_
          refine Ls.ev (some 46) (Ev.fieldAddr (k := 2) (show Oper.op _ = Op.fieldAddr 55 (Operand.tmp 6) 2 from rfl) (by rfl) (by kernel_rfl) (by rfl)) (by rfl) (by rfl) ?_
          refine Ls.ev (some 47) (Ev.load 0 (show Oper.op _ = Op.load 3 (Operand.tmp 46) from rfl) (by rfl) (by rfl) (by kernel_rfl) (by rfl)) (by rfl) (by rfl) ?_
          refine Ls.does (some 48) (Does.call [3, 4, 5, 0, 2, 6] (show Oper.op _ = Op.call { callee := Callee.value (Operand.func 25), args := #[Operand.tmp 43, Operand.tmp 45, Operand.tmp 47], argTypes := #[66, 3, 3] } from rfl) Try.func25 (by kernel_rfl) (by kernel_rfl) (see_again g b n S oa ob hq hc3 (by omega) hdn hxl) (by rfl) (by rfl) (by rfl)) (by rfl) (by rfl) ?_
          intro p _
          refine Ls.ev (some 42) (Ev.move (show Oper.op _ = Op.move (Operand.tmp 48) from rfl) (by rfl)) (by rfl) (by rfl) ?_
          refine Ls.ev (some 49) (Ev.extract (show Oper.op _ = Op.extract (Operand.tmp 42) 0 from rfl) (by rfl) (by rfl)) (by rfl) (by rfl) ?_
          refine Ls.ev (some 50) (Ev.extract (show Oper.op _ = Op.extract (Operand.tmp 42) 1 from rfl) (by rfl) (by rfl)) (by rfl) (by rfl) ?_
          refine Ls.does (some 8) (Does.alloc (cs := [.int .i64 0, .int .i64 0, .int .i64 0, .slice none 0 0]) (show Oper.op _ = Op.alloc 39 from rfl) (ZeroIs.mk (.agg #[.int .i64 0, .int .i64 0, .int .i64 0, .slice none 0 0]) (by kernel_rfl) (by rfl))) (by rfl) (by rfl) ?_
          intro g2 _
          refine Ls.ev (some 7) (Ev.assign (show Oper.op _ = Op.assign (Operand.tmp 49) from rfl) (by rfl)) (by rfl) (by rfl) ?_
          refine Ls.does none (Does.store 0 (show Oper.op _ = Op.store 39 (Operand.tmp 8) (Operand.tmp 50) from rfl) (by rfl) (by rfl) (by rfl) (by kernel_rfl) (by rfl) (by kernel_rfl) (by rfl)) (by rfl) (by rfl) ?_
          intro _ _
          refine Ls.nil ?_
          refine Cd.seq ?_
          refine Cd.region ?_
          refine Ls.does (some 9) (Does.alloc (cs := [.int .i64 0, .int .i64 0, .int .i64 0, .slice none 0 0]) (show Oper.op _ = Op.alloc 39 from rfl) (ZeroIs.mk (.agg #[.int .i64 0, .int .i64 0, .int .i64 0, .slice none 0 0]) (by kernel_rfl) (by rfl))) (by rfl) (by rfl) ?_
          intro g3 _
          refine Ls.nil ?_
          refine Cd.seq ?_
          refine Cd.region ?_
          refine Ls.ev (some 10) (Ev.assign (show Oper.op _ = Op.assign (Operand.const (Value.int IntKind.i64 0)) from rfl) (by rfl)) (by rfl) (by rfl) ?_
          refine Ls.nil ?_
          refine Cd.seq ?_
          refine Cd.region ?_
          refine Ls.ev (some 52) (Ev.move (show Oper.op _ = Op.move (Operand.tmp 4) from rfl) (by rfl)) (by rfl) (by rfl) ?_
          refine Ls.ev (some 53) (Ev.fieldAddr (k := 1) (show Oper.op _ = Op.fieldAddr 55 (Operand.tmp 6) 1 from rfl) (by rfl) (by kernel_rfl) (by rfl)) (by rfl) (by rfl) ?_
          refine Ls.ev (some 54) (Ev.load 6 (show Oper.op _ = Op.load 3 (Operand.tmp 53) from rfl) (by rfl) (by rfl) (by kernel_rfl) (by rfl)) (by rfl) (by rfl) ?_
          refine Ls.ev (some 55) (Ev.fieldAddr (k := 2) (show Oper.op _ = Op.fieldAddr 55 (Operand.tmp 6) 2 from rfl) (by rfl) (by kernel_rfl) (by rfl)) (by rfl) (by rfl) ?_
          refine Ls.ev (some 56) (Ev.load 6 (show Oper.op _ = Op.load 3 (Operand.tmp 55) from rfl) (by rfl) (by rfl) (by kernel_rfl) (by rfl)) (by rfl) (by rfl) ?_
          refine Ls.does (some 57) (Does.call [7, 7, 0, 1, 2, 3, 4, 5, 6, 8] (show Oper.op _ = Op.call { callee := Callee.value (Operand.func 28), args := #[Operand.tmp 52, Operand.tmp 54, Operand.tmp 56], argTypes := #[77, 3, 3] } from rfl) Try.func28 (by kernel_rfl) (by kernel_rfl) (refSee_again A c l oa ob hln (by rw [← hs.1]; omega) (by rw [← hs.1]; exact hc3) (by omega) (by rw [← hs.2.1]; exact hdn)) (by rfl) (by rfl) (by rfl)) (by rfl) (by rfl) ?_
          intro _ _
          refine Ls.ev (some 51) (Ev.move (show Oper.op _ = Op.move (Operand.tmp 57) from rfl) (by rfl)) (by rfl) (by rfl) ?_
          refine Ls.ev (some 58) (Ev.extract (show Oper.op _ = Op.extract (Operand.tmp 51) 0 from rfl) (by rfl) (by rfl)) (by rfl) (by rfl) ?_
          refine Ls.ev (some 59) (Ev.extract (show Oper.op _ = Op.extract (Operand.tmp 51) 1 from rfl) (by rfl) (by rfl)) (by rfl) (by rfl) ?_
          refine Ls.ev (some 60) (Ev.extract (show Oper.op _ = Op.extract (Operand.tmp 51) 2 from rfl) (by rfl) (by rfl)) (by rfl) (by rfl) ?_
          refine Ls.ev (some 4) (Ev.assign (show Oper.op _ = Op.assign (Operand.tmp 58) from rfl) (by rfl)) (by rfl) (by rfl) ?_
          refine Ls.ev (some 10) (Ev.assign (show Oper.op _ = Op.assign (Operand.tmp 59) from rfl) (by rfl)) (by rfl) (by rfl) ?_
          refine Ls.does none (Does.store 1 (show Oper.op _ = Op.store 39 (Operand.tmp 9) (Operand.tmp 60) from rfl) (by rfl) (by rfl) (by rfl) (by kernel_rfl) (by rfl) (by kernel_rfl) (by rfl)) (by rfl) (by rfl) ?_
          intro _ _
          refine Ls.nil ?_
          refine Cd.seq ?_
          refine Cd.region ?_
          refine Ls.ev (some 61) (Ev.move (show Oper.op _ = Op.move (Operand.tmp 7) from rfl) (by rfl)) (by rfl) (by rfl) ?_
          refine Ls.ev (some 62) (Ev.move (show Oper.op _ = Op.move (Operand.tmp 10) from rfl) (by rfl)) (by rfl) (by rfl) ?_
          refine Ls.ev (some 63) (Ev.neq (show Oper.op _ = Op.binOp BinOp.neq 3 (Operand.tmp 61) (Operand.tmp 62) 3 from rfl) (by rfl) (by rfl)) (by rfl) (by rfl) ?_
          refine Ls.ev (some 64) (Ev.move (show Oper.op _ = Op.move (Operand.tmp 63) from rfl) (by rfl)) (by rfl) (by rfl) ?_
          refine Ls.ev (some 65) (Ev.loads 2 (show Oper.op _ = Op.load 39 (Operand.tmp 8) from rfl) (by rfl) (by rfl) (n := 4) (by kernel_rfl) (by rfl) (by rfl)) (by rfl) (by rfl) ?_
          refine Ls.ev (some 66) (Ev.loads 1 (show Oper.op _ = Op.load 39 (Operand.tmp 9) from rfl) (by rfl) (by rfl) (n := 4) (by kernel_rfl) (by rfl) (by rfl)) (by rfl) (by rfl) ?_
          refine Ent.see 6 (by rfl) ?_
          refine Ent.arg 8 (by rfl) (h5 oa).1 ?_
          refine Ls.does (some 67) (Does.call [7, 0, 1, 4, 5, 6, 8, 9] (show Oper.op _ = Op.call { callee := Callee.value (Operand.func 27), args := #[Operand.tmp 65, Operand.tmp 66], argTypes := #[39, 39] } from rfl) Try.func27 (by kernel_rfl) (by kernel_rfl) (sameReply_sl (S oa).code (lkL l oa).code (S oa).ep (lkL l oa).ep (S oa).st (lkL l oa).st p.1 (lkL l oa).A p.2 (lkL l oa).c (S oa).xs (lkL l oa).xs hxl) (by rfl) (by rfl) (by rfl)) (by rfl) (by rfl) ?_
          intro _ _
          refine Ls.ev (some 68) (Ev.not (show Oper.op _ = Op.unOp UnOp.not 4 (Operand.tmp 67) from rfl) (by rfl)) (by rfl) (by rfl) ?_
          refine Ls.ev (some 69) (Ev.pickF (show Oper.op _ = Op.pick (Operand.tmp 64) (Operand.const (Value.bool true)) (Operand.tmp 68) from rfl) (by rfl) (by rfl)) (by rfl) (by rfl) ?_
          refine Ls.nil ?_
          refine Cd.cond_false (by rfl) (by rw [decide_eq_true ⟨hs.2.2.1, hs.2.2.2.1, hs.2.2.2.2.1, hs.2.2.2.2.2⟩]; rfl) ?_
          refine Cd.skip ?_
          refine Ent.inv (⟨k, S, n, A, c, l⟩) ?_ ?_ ?_
          · (try dsimp only); exact ⟨ok_same h1 h2 h3 h4 h5 h6, rfl⟩
          · (repeat (first | exact trivial | refine ⟨by rfl, ?_⟩ | refine ⟨by simp only [List.length_append, List.length_cons, List.length_nil]; rfl, ?_⟩ | refine ⟨by push_cast; rfl, ?_⟩))
          · rfl
      skip
      refine Cd.seq ?_
      refine Cd.region ?_
      refine Ls.ev (some 71) (Ev.eql (show Oper.op _ = Op.binOp BinOp.eql 3 (Operand.tmp 39) (Operand.const (Value.int IntKind.i64 2)) 3 from rfl) (by rfl) (by rfl)) (by rfl) (by rfl) ?_
      refine Ls.ev (some 70) (Ev.assign (show Oper.op _ = Op.assign (Operand.tmp 71) from rfl) (by rfl)) (by rfl) (by rfl) ?_
      refine Ls.nil ?_
      refine Cd.cond _ (by rfl) (fun hk2 => ?_) (fun hk2 => ?_)
      · skip
        by_cases hb1 : ob < 1
        · skip
          refine Cd.seq ?_
          refine Cd.region ?_
          refine Ls.ev (some 72) (Ev.move (show Oper.op _ = Op.move (Operand.tmp 3) from rfl) (by rfl)) (by rfl) (by rfl) ?_
          refine Ls.ev (some 73) (Ev.fieldAddr (k := 1) (show Oper.op _ = Op.fieldAddr 55 (Operand.tmp 6) 1 from rfl) (by rfl) (by kernel_rfl) (by rfl)) (by rfl) (by rfl) ?_
          refine Ls.ev (some 74) (Ev.load 0 (show Oper.op _ = Op.load 3 (Operand.tmp 73) from rfl) (by rfl) (by rfl) (by kernel_rfl) (by rfl)) (by rfl) (by rfl) ?_
          refine Ls.ev (some 75) (Ev.fieldAddr (k := 2) (show Oper.op _ = Op.fieldAddr 55 (Operand.tmp 6) 2 from rfl) (by rfl) (by kernel_rfl) (by rfl)) (by rfl) (by rfl) ?_
          refine Ls.ev (some 76) (Ev.load 0 (show Oper.op _ = Op.load 3 (Operand.tmp 75) from rfl) (by rfl) (by rfl) (by kernel_rfl) (by rfl)) (by rfl) (by rfl) ?_
          refine Ls.ev (some 77) (Ev.fieldAddr (k := 26) (show Oper.op _ = Op.fieldAddr 55 (Operand.tmp 6) 5 from rfl) (by rfl) (by kernel_rfl) (by rfl)) (by rfl) (by rfl) ?_
          refine Ls.ev (some 78) (Ev.loads 0 (show Oper.op _ = Op.load 39 (Operand.tmp 77) from rfl) (by rfl) (by rfl) (n := 4) (by kernel_rfl) (by rfl) (by rfl)) (by rfl) (by rfl) ?_
          refine Ls.does (some 79) (Does.call [3, 4, 5, 0, 2, 6] (show Oper.op _ = Op.call { callee := Callee.value (Operand.func 29), args := #[Operand.tmp 72, Operand.tmp 74, Operand.tmp 76, Operand.tmp 78], argTypes := #[66, 3, 3, 39] } from rfl) Try.func29 (by kernel_rfl) (by kernel_rfl) (answer_none g b n S oa ob rc re rs rA rx.length rC hq hb1) (by rfl) (by rfl) (by rfl)) (by rfl) (by rfl) ?_
          intro _ _
          refine Ls.ev (some 11) (Ev.assign (show Oper.op _ = Op.assign (Operand.tmp 79) from rfl) (by rfl)) (by rfl) (by rfl) ?_
          refine Ls.nil ?_
          refine Cd.seq ?_
          refine Cd.region ?_
          refine Ls.ev (some 12) (Ev.assign (show Oper.op _ = Op.assign (Operand.const (Value.int IntKind.i64 0)) from rfl) (by rfl)) (by rfl) (by rfl) ?_
          refine Ls.nil ?_
          refine Cd.seq ?_
          refine Cd.region ?_
          refine Ls.ev (some 81) (Ev.move (show Oper.op _ = Op.move (Operand.tmp 4) from rfl) (by rfl)) (by rfl) (by rfl) ?_
          refine Ls.ev (some 82) (Ev.fieldAddr (k := 1) (show Oper.op _ = Op.fieldAddr 55 (Operand.tmp 6) 1 from rfl) (by rfl) (by kernel_rfl) (by rfl)) (by rfl) (by rfl) ?_
          refine Ls.ev (some 83) (Ev.load 3 (show Oper.op _ = Op.load 3 (Operand.tmp 82) from rfl) (by rfl) (by rfl) (by kernel_rfl) (by rfl)) (by rfl) (by rfl) ?_
          refine Ls.ev (some 84) (Ev.fieldAddr (k := 2) (show Oper.op _ = Op.fieldAddr 55 (Operand.tmp 6) 2 from rfl) (by rfl) (by kernel_rfl) (by rfl)) (by rfl) (by rfl) ?_
          refine Ls.ev (some 85) (Ev.load 3 (show Oper.op _ = Op.load 3 (Operand.tmp 84) from rfl) (by rfl) (by rfl) (by kernel_rfl) (by rfl)) (by rfl) (by rfl) ?_
          refine Ls.ev (some 86) (Ev.fieldAddr (k := 26) (show Oper.op _ = Op.fieldAddr 55 (Operand.tmp 6) 5 from rfl) (by rfl) (by kernel_rfl) (by rfl)) (by rfl) (by rfl) ?_
          refine Ls.ev (some 87) (Ev.loads 3 (show Oper.op _ = Op.load 39 (Operand.tmp 86) from rfl) (by rfl) (by rfl) (n := 4) (by kernel_rfl) (by rfl) (by rfl)) (by rfl) (by rfl) ?_
          refine Ls.does (some 88) (Does.call [4, 4, 0, 1, 2, 3, 5] (show Oper.op _ = Op.call { callee := Callee.value (Operand.func 30), args := #[Operand.tmp 81, Operand.tmp 83, Operand.tmp 85, Operand.tmp 87], argTypes := #[77, 3, 3, 39] } from rfl) Try.func30 (by kernel_rfl) (by kernel_rfl) (refAns_none A c l oa ob rc re rs rA rx.length rC hln hb1) (by rfl) (by rfl) (by rfl)) (by rfl) (by rfl) ?_
          intro _ _
          refine Ls.ev (some 80) (Ev.move (show Oper.op _ = Op.move (Operand.tmp 88) from rfl) (by rfl)) (by rfl) (by rfl) ?_
          refine Ls.ev (some 89) (Ev.extract (show Oper.op _ = Op.extract (Operand.tmp 80) 0 from rfl) (by rfl) (by rfl)) (by rfl) (by rfl) ?_
          refine Ls.ev (some 90) (Ev.extract (show Oper.op _ = Op.extract (Operand.tmp 80) 1 from rfl) (by rfl) (by rfl)) (by rfl) (by rfl) ?_
          refine Ls.ev (some 4) (Ev.assign (show Oper.op _ = Op.assign (Operand.tmp 89) from rfl) (by rfl)) (by rfl) (by rfl) ?_
          refine Ls.ev (some 12) (Ev.assign (show Oper.op _ = Op.assign (Operand.tmp 90) from rfl) (by rfl)) (by rfl) (by rfl) ?_
          refine Ls.nil ?_
          refine Cd.seq ?_
          refine Cd.region ?_
          refine Ls.ev (some 91) (Ev.move (show Oper.op _ = Op.move (Operand.tmp 11) from rfl) (by rfl)) (by rfl) (by rfl) ?_
          refine Ls.ev (some 92) (Ev.move (show Oper.op _ = Op.move (Operand.tmp 12) from rfl) (by rfl)) (by rfl) (by rfl) ?_
          refine Ls.ev (some 93) (Ev.neq (show Oper.op _ = Op.binOp BinOp.neq 3 (Operand.tmp 91) (Operand.tmp 92) 3 from rfl) (by rfl) (by rfl)) (by rfl) (by rfl) ?_
          refine Ls.nil ?_
          refine Cd.cond_false (by rfl) (rfl) ?_
          refine Cd.skip ?_
          refine Ent.inv (⟨k, S, n, A, c, l⟩) ?_ ?_ ?_
          · (try dsimp only); exact ⟨ok_same h1 h2 h3 h4 h5 h6, rfl⟩
          · (repeat (first | exact trivial | refine ⟨by rfl, ?_⟩ | refine ⟨by simp only [List.length_append, List.length_cons, List.length_nil]; rfl, ?_⟩ | refine ⟨by push_cast; rfl, ?_⟩))
          · rfl
        by_cases hb2 : ob = (S oa).id
        · cases hdn : (S oa).dn
          · skip
            refine Cd.seq ?_
            refine Cd.region ?_
            refine Ls.ev (some 72) (Ev.move (show Oper.op _ = Op.move (Operand.tmp 3) from rfl) (by rfl)) (by rfl) (by rfl) ?_
            refine Ls.ev (some 73) (Ev.fieldAddr (k := 1) (show Oper.op _ = Op.fieldAddr 55 (Operand.tmp 6) 1 from rfl) (by rfl) (by kernel_rfl) (by rfl)) (by rfl) (by rfl) ?_
            refine Ls.ev (some 74) (Ev.load 0 (show Oper.op _ = Op.load 3 (Operand.tmp 73) from rfl) (by rfl) (by rfl) (by kernel_rfl) (by rfl)) (by rfl) (by rfl) ?_
            refine Ls.ev (some 75) (Ev.fieldAddr (k := 2) (show Oper.op _ = Op.fieldAddr 55 (Operand.tmp 6) 2 from rfl) (by rfl) (by kernel_rfl) (by rfl)) (by rfl) (by rfl) ?_
            refine Ls.ev (some 76) (Ev.load 0 (show Oper.op _ = Op.load 3 (Operand.tmp 75) from rfl) (by rfl) (by rfl) (by kernel_rfl) (by rfl)) (by rfl) (by rfl) ?_
            refine Ls.ev (some 77) (Ev.fieldAddr (k := 26) (show Oper.op _ = Op.fieldAddr 55 (Operand.tmp 6) 5 from rfl) (by rfl) (by kernel_rfl) (by rfl)) (by rfl) (by rfl) ?_
            refine Ls.ev (some 78) (Ev.loads 0 (show Oper.op _ = Op.load 39 (Operand.tmp 77) from rfl) (by rfl) (by rfl) (n := 4) (by kernel_rfl) (by rfl) (by rfl)) (by rfl) (by rfl) ?_
            refine Ent.arg 6 (by rfl) hrr ?_
            refine Ls.does (some 79) (Does.call [4, 5, 6, 0, 1, 3, 7] (show Oper.op _ = Op.call { callee := Callee.value (Operand.func 29), args := #[Operand.tmp 72, Operand.tmp 74, Operand.tmp 76, Operand.tmp 78], argTypes := #[66, 3, 3, 39] } from rfl) Try.func29 (by kernel_rfl) (by kernel_rfl) (answer_ok g b n S oa ob rc re rs rA rC rx hq hb1 hb2 hdn (by omega) hrl) (by rfl) (by rfl) (by rfl)) (by rfl) (by rfl) ?_
            intro p _
            refine Ls.ev (some 11) (Ev.assign (show Oper.op _ = Op.assign (Operand.tmp 79) from rfl) (by rfl)) (by rfl) (by rfl) ?_
            refine Ls.nil ?_
            refine Cd.seq ?_
            refine Cd.region ?_
            refine Ls.ev (some 12) (Ev.assign (show Oper.op _ = Op.assign (Operand.const (Value.int IntKind.i64 0)) from rfl) (by rfl)) (by rfl) (by rfl) ?_
            refine Ls.nil ?_
            refine Cd.seq ?_
            refine Cd.region ?_
            refine Ls.ev (some 81) (Ev.move (show Oper.op _ = Op.move (Operand.tmp 4) from rfl) (by rfl)) (by rfl) (by rfl) ?_
            refine Ls.ev (some 82) (Ev.fieldAddr (k := 1) (show Oper.op _ = Op.fieldAddr 55 (Operand.tmp 6) 1 from rfl) (by rfl) (by kernel_rfl) (by rfl)) (by rfl) (by rfl) ?_
            refine Ls.ev (some 83) (Ev.load 3 (show Oper.op _ = Op.load 3 (Operand.tmp 82) from rfl) (by rfl) (by rfl) (by kernel_rfl) (by rfl)) (by rfl) (by rfl) ?_
            refine Ls.ev (some 84) (Ev.fieldAddr (k := 2) (show Oper.op _ = Op.fieldAddr 55 (Operand.tmp 6) 2 from rfl) (by rfl) (by kernel_rfl) (by rfl)) (by rfl) (by rfl) ?_
            refine Ls.ev (some 85) (Ev.load 3 (show Oper.op _ = Op.load 3 (Operand.tmp 84) from rfl) (by rfl) (by rfl) (by kernel_rfl) (by rfl)) (by rfl) (by rfl) ?_
            refine Ls.ev (some 86) (Ev.fieldAddr (k := 26) (show Oper.op _ = Op.fieldAddr 55 (Operand.tmp 6) 5 from rfl) (by rfl) (by kernel_rfl) (by rfl)) (by rfl) (by rfl) ?_
            refine Ls.ev (some 87) (Ev.loads 3 (show Oper.op _ = Op.load 39 (Operand.tmp 86) from rfl) (by rfl) (by rfl) (n := 4) (by kernel_rfl) (by rfl) (by rfl)) (by rfl) (by rfl) ?_
            refine Ls.does (some 88) (Does.call [4, 0, 1, 2, 3, 5] (show Oper.op _ = Op.call { callee := Callee.value (Operand.func 30), args := #[Operand.tmp 81, Operand.tmp 83, Operand.tmp 85, Operand.tmp 87], argTypes := #[77, 3, 3, 39] } from rfl) Try.func30 (by kernel_rfl) (by kernel_rfl) (refAns_ok A c l oa ob rc re rs rA rC rx hln hb1 (by rw [← hs.1]; exact hb2) (by rw [← hs.2.1]; exact hdn)) (by rfl) (by rfl) (by rfl)) (by rfl) (by rfl) ?_
            intro r _
            refine Ls.ev (some 80) (Ev.move (show Oper.op _ = Op.move (Operand.tmp 88) from rfl) (by rfl)) (by rfl) (by rfl) ?_
            refine Ls.ev (some 89) (Ev.extract (show Oper.op _ = Op.extract (Operand.tmp 80) 0 from rfl) (by rfl) (by rfl)) (by rfl) (by rfl) ?_
            refine Ls.ev (some 90) (Ev.extract (show Oper.op _ = Op.extract (Operand.tmp 80) 1 from rfl) (by rfl) (by rfl)) (by rfl) (by rfl) ?_
            refine Ls.ev (some 4) (Ev.assign (show Oper.op _ = Op.assign (Operand.tmp 89) from rfl) (by rfl)) (by rfl) (by rfl) ?_
            refine Ls.ev (some 12) (Ev.assign (show Oper.op _ = Op.assign (Operand.tmp 90) from rfl) (by rfl)) (by rfl) (by rfl) ?_
            refine Ls.nil ?_
            refine Cd.seq ?_
            refine Cd.region ?_
            refine Ls.ev (some 91) (Ev.move (show Oper.op _ = Op.move (Operand.tmp 11) from rfl) (by rfl)) (by rfl) (by rfl) ?_
            refine Ls.ev (some 92) (Ev.move (show Oper.op _ = Op.move (Operand.tmp 12) from rfl) (by rfl)) (by rfl) (by rfl) ?_
            refine Ls.ev (some 93) (Ev.neq (show Oper.op _ = Op.binOp BinOp.neq 3 (Operand.tmp 91) (Operand.tmp 92) 3 from rfl) (by rfl) (by rfl)) (by rfl) (by rfl) ?_
            refine Ls.nil ?_
            refine Cd.cond_false (by rfl) (rfl) ?_
            refine Cd.skip ?_
            refine Ent.see 0 (by rfl) ?_
            refine Ent.inv (⟨k, upd S oa ⟨ob, true, rc, re, rs, p.1, p.2, rx⟩, n + 1, r.1, r.2, loadL l oa ⟨ob, true, rc, re, rs, rA, rC, rx⟩⟩) ?_ ?_ ?_
            · (try dsimp only); exact ⟨ok_upd h1 (by omega) h3 h4 h5 h6 (by rw [if_neg hb1, if_pos rfl]; exact ⟨rfl, rfl, rfl, rfl, rfl, rfl⟩) (by rw [if_neg hb1, if_pos rfl]; exact ⟨hrr, hrl⟩) (show 0 ≤ ob by omega), rfl⟩
            · (repeat (first | exact trivial | refine ⟨by rfl, ?_⟩ | refine ⟨by simp only [List.length_append, List.length_cons, List.length_nil]; rfl, ?_⟩ | refine ⟨by push_cast; rfl, ?_⟩))
            · rfl
          · skip
            refine Cd.seq ?_
            refine Cd.region ?_
            refine Ls.ev (some 72) (Ev.move (show Oper.op _ = Op.move (Operand.tmp 3) from rfl) (by rfl)) (by rfl) (by rfl) ?_
            refine Ls.ev (some 73) (Ev.fieldAddr (k := 1) (show Oper.op _ = Op.fieldAddr 55 (Operand.tmp 6) 1 from rfl) (by rfl) (by kernel_rfl) (by rfl)) (by rfl) (by rfl) ?_
            refine Ls.ev (some 74) (Ev.load 0 (show Oper.op _ = Op.load 3 (Operand.tmp 73) from rfl) (by rfl) (by rfl) (by kernel_rfl) (by rfl)) (by rfl) (by rfl) ?_
            refine Ls.ev (some 75) (Ev.fieldAddr (k := 2) (show Oper.op _ = Op.fieldAddr 55 (Operand.tmp 6) 2 from rfl) (by rfl) (by kernel_rfl) (by rfl)) (by rfl) (by rfl) ?_
            refine Ls.ev (some 76) (Ev.load 0 (show Oper.op _ = Op.load 3 (Operand.tmp 75) from rfl) (by rfl) (by rfl) (by kernel_rfl) (by rfl)) (by rfl) (by rfl) ?_
            refine Ls.ev (some 77) (Ev.fieldAddr (k := 26) (show Oper.op _ = Op.fieldAddr 55 (Operand.tmp 6) 5 from rfl) (by rfl) (by kernel_rfl) (by rfl)) (by rfl) (by rfl) ?_
            refine Ls.ev (some 78) (Ev.loads 0 (show Oper.op _ = Op.load 39 (Operand.tmp 77) from rfl) (by rfl) (by rfl) (n := 4) (by kernel_rfl) (by rfl) (by rfl)) (by rfl) (by rfl) ?_
            refine Ls.does (some 79) (Does.call [3, 4, 5, 0, 2, 6] (show Oper.op _ = Op.call { callee := Callee.value (Operand.func 29), args := #[Operand.tmp 72, Operand.tmp 74, Operand.tmp 76, Operand.tmp 78], argTypes := #[66, 3, 3, 39] } from rfl) Try.func29 (by kernel_rfl) (by kernel_rfl) (answer_twice g b n S oa ob rc re rs rA rx.length rC hq ⟨hb1, hb2, hdn⟩) (by rfl) (by rfl) (by rfl)) (by rfl) (by rfl) ?_
            intro _ _
            refine Ls.ev (some 11) (Ev.assign (show Oper.op _ = Op.assign (Operand.tmp 79) from rfl) (by rfl)) (by rfl) (by rfl) ?_
            refine Ls.nil ?_
            refine Cd.seq ?_
            refine Cd.region ?_
            refine Ls.ev (some 12) (Ev.assign (show Oper.op _ = Op.assign (Operand.const (Value.int IntKind.i64 0)) from rfl) (by rfl)) (by rfl) (by rfl) ?_
            refine Ls.nil ?_
            refine Cd.seq ?_
            refine Cd.region ?_
            refine Ls.ev (some 81) (Ev.move (show Oper.op _ = Op.move (Operand.tmp 4) from rfl) (by rfl)) (by rfl) (by rfl) ?_
            refine Ls.ev (some 82) (Ev.fieldAddr (k := 1) (show Oper.op _ = Op.fieldAddr 55 (Operand.tmp 6) 1 from rfl) (by rfl) (by kernel_rfl) (by rfl)) (by rfl) (by rfl) ?_
            refine Ls.ev (some 83) (Ev.load 3 (show Oper.op _ = Op.load 3 (Operand.tmp 82) from rfl) (by rfl) (by rfl) (by kernel_rfl) (by rfl)) (by rfl) (by rfl) ?_
            refine Ls.ev (some 84) (Ev.fieldAddr (k := 2) (show Oper.op _ = Op.fieldAddr 55 (Operand.tmp 6) 2 from rfl) (by rfl) (by kernel_rfl) (by rfl)) (by rfl) (by rfl) ?_
            refine Ls.ev (some 85) (Ev.load 3 (show Oper.op _ = Op.load 3 (Operand.tmp 84) from rfl) (by rfl) (by rfl) (by kernel_rfl) (by rfl)) (by rfl) (by rfl) ?_
            refine Ls.ev (some 86) (Ev.fieldAddr (k := 26) (show Oper.op _ = Op.fieldAddr 55 (Operand.tmp 6) 5 from rfl) (by rfl) (by kernel_rfl) (by rfl)) (by rfl) (by rfl) ?_
            refine Ls.ev (some 87) (Ev.loads 3 (show Oper.op _ = Op.load 39 (Operand.tmp 86) from rfl) (by rfl) (by rfl) (n := 4) (by kernel_rfl) (by rfl) (by rfl)) (by rfl) (by rfl) ?_
            refine Ls.does (some 88) (Does.call [4, 4, 0, 1, 2, 3, 5] (show Oper.op _ = Op.call { callee := Callee.value (Operand.func 30), args := #[Operand.tmp 81, Operand.tmp 83, Operand.tmp 85, Operand.tmp 87], argTypes := #[77, 3, 3, 39] } from rfl) Try.func30 (by kernel_rfl) (by kernel_rfl) (refAns_twice A c l oa ob rc re rs rA rx.length rC hln ⟨hb1, by rw [← hs.1]; exact hb2, by rw [← hs.2.1]; exact hdn⟩) (by rfl) (by rfl) (by rfl)) (by rfl) (by rfl) ?_
            intro _ _
            refine Ls.ev (some 80) (Ev.move (show Oper.op _ = Op.move (Operand.tmp 88) from rfl) (by rfl)) (by rfl) (by rfl) ?_
            refine Ls.ev (some 89) (Ev.extract (show Oper.op _ = Op.extract (Operand.tmp 80) 0 from rfl) (by rfl) (by rfl)) (by rfl) (by rfl) ?_
            refine Ls.ev (some 90) (Ev.extract (show Oper.op _ = Op.extract (Operand.tmp 80) 1 from rfl) (by rfl) (by rfl)) (by rfl) (by rfl) ?_
            refine Ls.ev (some 4) (Ev.assign (show Oper.op _ = Op.assign (Operand.tmp 89) from rfl) (by rfl)) (by rfl) (by rfl) ?_
            refine Ls.ev (some 12) (Ev.assign (show Oper.op _ = Op.assign (Operand.tmp 90) from rfl) (by rfl)) (by rfl) (by rfl) ?_
            refine Ls.nil ?_
            refine Cd.seq ?_
            refine Cd.region ?_
            refine Ls.ev (some 91) (Ev.move (show Oper.op _ = Op.move (Operand.tmp 11) from rfl) (by rfl)) (by rfl) (by rfl) ?_
            refine Ls.ev (some 92) (Ev.move (show Oper.op _ = Op.move (Operand.tmp 12) from rfl) (by rfl)) (by rfl) (by rfl) ?_
            refine Ls.ev (some 93) (Ev.neq (show Oper.op _ = Op.binOp BinOp.neq 3 (Operand.tmp 91) (Operand.tmp 92) 3 from rfl) (by rfl) (by rfl)) (by rfl) (by rfl) ?_
            refine Ls.nil ?_
            refine Cd.cond_false (by rfl) (rfl) ?_
            refine Cd.skip ?_
            refine Ent.inv (⟨k, S, n, A, c, l⟩) ?_ ?_ ?_
            · (try dsimp only); exact ⟨ok_same h1 h2 h3 h4 h5 h6, rfl⟩
            · (repeat (first | exact trivial | refine ⟨by rfl, ?_⟩ | refine ⟨by simp only [List.length_append, List.length_cons, List.length_nil]; rfl, ?_⟩ | refine ⟨by push_cast; rfl, ?_⟩))
            · rfl
        · skip
          refine Cd.seq ?_
          refine Cd.region ?_
          refine Ls.ev (some 72) (Ev.move (show Oper.op _ = Op.move (Operand.tmp 3) from rfl) (by rfl)) (by rfl) (by rfl) ?_
          refine Ls.ev (some 73) (Ev.fieldAddr (k := 1) (show Oper.op _ = Op.fieldAddr 55 (Operand.tmp 6) 1 from rfl) (by rfl) (by kernel_rfl) (by rfl)) (by rfl) (by rfl) ?_
          refine Ls.ev (some 74) (Ev.load 0 (show Oper.op _ = Op.load 3 (Operand.tmp 73) from rfl) (by rfl) (by rfl) (by kernel_rfl) (by rfl)) (by rfl) (by rfl) ?_
          refine Ls.ev (some 75) (Ev.fieldAddr (k := 2) (show Oper.op _ = Op.fieldAddr 55 (Operand.tmp 6) 2 from rfl) (by rfl) (by kernel_rfl) (by rfl)) (by rfl) (by rfl) ?_
          refine Ls.ev (some 76) (Ev.load 0 (show Oper.op _ = Op.load 3 (Operand.tmp 75) from rfl) (by rfl) (by rfl) (by kernel_rfl) (by rfl)) (by rfl) (by rfl) ?_
          refine Ls.ev (some 77) (Ev.fieldAddr (k := 26) (show Oper.op _ = Op.fieldAddr 55 (Operand.tmp 6) 5 from rfl) (by rfl) (by kernel_rfl) (by rfl)) (by rfl) (by rfl) ?_
          refine Ls.ev (some 78) (Ev.loads 0 (show Oper.op _ = Op.load 39 (Operand.tmp 77) from rfl) (by rfl) (by rfl) (n := 4) (by kernel_rfl) (by rfl) (by rfl)) (by rfl) (by rfl) ?_
          refine Ls.does (some 79) (Does.call [3, 4, 5, 0, 2, 6] (show Oper.op _ = Op.call { callee := Callee.value (Operand.func 29), args := #[Operand.tmp 72, Operand.tmp 74, Operand.tmp 76, Operand.tmp 78], argTypes := #[66, 3, 3, 39] } from rfl) Try.func29 (by kernel_rfl) (by kernel_rfl) (answer_stale g b n S oa ob rc re rs rA rx.length rC hq ⟨hb1, hb2⟩) (by rfl) (by rfl) (by rfl)) (by rfl) (by rfl) ?_
          intro _ _
          refine Ls.ev (some 11) (Ev.assign (show Oper.op _ = Op.assign (Operand.tmp 79) from rfl) (by rfl)) (by rfl) (by rfl) ?_
          refine Ls.nil ?_
          refine Cd.seq ?_
          refine Cd.region ?_
          refine Ls.ev (some 12) (Ev.assign (show Oper.op _ = Op.assign (Operand.const (Value.int IntKind.i64 0)) from rfl) (by rfl)) (by rfl) (by rfl) ?_
          refine Ls.nil ?_
          refine Cd.seq ?_
          refine Cd.region ?_
          refine Ls.ev (some 81) (Ev.move (show Oper.op _ = Op.move (Operand.tmp 4) from rfl) (by rfl)) (by rfl) (by rfl) ?_
          refine Ls.ev (some 82) (Ev.fieldAddr (k := 1) (show Oper.op _ = Op.fieldAddr 55 (Operand.tmp 6) 1 from rfl) (by rfl) (by kernel_rfl) (by rfl)) (by rfl) (by rfl) ?_
          refine Ls.ev (some 83) (Ev.load 3 (show Oper.op _ = Op.load 3 (Operand.tmp 82) from rfl) (by rfl) (by rfl) (by kernel_rfl) (by rfl)) (by rfl) (by rfl) ?_
          refine Ls.ev (some 84) (Ev.fieldAddr (k := 2) (show Oper.op _ = Op.fieldAddr 55 (Operand.tmp 6) 2 from rfl) (by rfl) (by kernel_rfl) (by rfl)) (by rfl) (by rfl) ?_
          refine Ls.ev (some 85) (Ev.load 3 (show Oper.op _ = Op.load 3 (Operand.tmp 84) from rfl) (by rfl) (by rfl) (by kernel_rfl) (by rfl)) (by rfl) (by rfl) ?_
          refine Ls.ev (some 86) (Ev.fieldAddr (k := 26) (show Oper.op _ = Op.fieldAddr 55 (Operand.tmp 6) 5 from rfl) (by rfl) (by kernel_rfl) (by rfl)) (by rfl) (by rfl) ?_
          refine Ls.ev (some 87) (Ev.loads 3 (show Oper.op _ = Op.load 39 (Operand.tmp 86) from rfl) (by rfl) (by rfl) (n := 4) (by kernel_rfl) (by rfl) (by rfl)) (by rfl) (by rfl) ?_
          refine Ls.does (some 88) (Does.call [4, 4, 0, 1, 2, 3, 5] (show Oper.op _ = Op.call { callee := Callee.value (Operand.func 30), args := #[Operand.tmp 81, Operand.tmp 83, Operand.tmp 85, Operand.tmp 87], argTypes := #[77, 3, 3, 39] } from rfl) Try.func30 (by kernel_rfl) (by kernel_rfl) (refAns_stale A c l oa ob rc re rs rA rx.length rC hln ⟨hb1, by rw [← hs.1]; exact hb2⟩) (by rfl) (by rfl) (by rfl)) (by rfl) (by rfl) ?_
          intro _ _
          refine Ls.ev (some 80) (Ev.move (show Oper.op _ = Op.move (Operand.tmp 88) from rfl) (by rfl)) (by rfl) (by rfl) ?_
          refine Ls.ev (some 89) (Ev.extract (show Oper.op _ = Op.extract (Operand.tmp 80) 0 from rfl) (by rfl) (by rfl)) (by rfl) (by rfl) ?_
          refine Ls.ev (some 90) (Ev.extract (show Oper.op _ = Op.extract (Operand.tmp 80) 1 from rfl) (by rfl) (by rfl)) (by rfl) (by rfl) ?_
          refine Ls.ev (some 4) (Ev.assign (show Oper.op _ = Op.assign (Operand.tmp 89) from rfl) (by rfl)) (by rfl) (by rfl) ?_
          refine Ls.ev (some 12) (Ev.assign (show Oper.op _ = Op.assign (Operand.tmp 90) from rfl) (by rfl)) (by rfl) (by rfl) ?_
          refine Ls.nil ?_
          refine Cd.seq ?_
          refine Cd.region ?_
          refine Ls.ev (some 91) (Ev.move (show Oper.op _ = Op.move (Operand.tmp 11) from rfl) (by rfl)) (by rfl) (by rfl) ?_
          refine Ls.ev (some 92) (Ev.move (show Oper.op _ = Op.move (Operand.tmp 12) from rfl) (by rfl)) (by rfl) (by rfl) ?_
          refine Ls.ev (some 93) (Ev.neq (show Oper.op _ = Op.binOp BinOp.neq 3 (Operand.tmp 91) (Operand.tmp 92) 3 from rfl) (by rfl) (by rfl)) (by rfl) (by rfl) ?_
          refine Ls.nil ?_
          refine Cd.cond_false (by rfl) (rfl) ?_
          refine Cd.skip ?_
          refine Ent.inv (⟨k, S, n, A, c, l⟩) ?_ ?_ ?_
          · (try dsimp only); exact ⟨ok_same h1 h2 h3 h4 h5 h6, rfl⟩
          · (repeat (first | exact trivial | refine ⟨by rfl, ?_⟩ | refine ⟨by simp only [List.length_append, List.length_cons, List.length_nil]; rfl, ?_⟩ | refine ⟨by push_cast; rfl, ?_⟩))
          · rfl
      skip
      refine Cd.seq ?_
      refine Cd.region ?_
      refine Ls.ev (some 95) (Ev.eql (show Oper.op _ = Op.binOp BinOp.eql 3 (Operand.tmp 39) (Operand.const (Value.int IntKind.i64 3)) 3 from rfl) (by rfl) (by rfl)) (by rfl) (by rfl) ?_
      refine Ls.ev (some 94) (Ev.assign (show Oper.op _ = Op.assign (Operand.tmp 95) from rfl) (by rfl)) (by rfl) (by rfl) ?_
      refine Ls.nil ?_
      refine Cd.cond _ (by rfl) (fun hk3 => ?_) (fun hk3 => ?_)
      · skip
        by_cases hb1 : ob < 1
        · skip
          refine Cd.seq ?_
          refine Cd.region ?_
          refine Ls.ev (some 96) (Ev.move (show Oper.op _ = Op.move (Operand.tmp 3) from rfl) (by rfl)) (by rfl) (by rfl) ?_
          refine Ls.ev (some 97) (Ev.fieldAddr (k := 1) (show Oper.op _ = Op.fieldAddr 55 (Operand.tmp 6) 1 from rfl) (by rfl) (by kernel_rfl) (by rfl)) (by rfl) (by rfl) ?_
          refine Ls.ev (some 98) (Ev.load 0 (show Oper.op _ = Op.load 3 (Operand.tmp 97) from rfl) (by rfl) (by rfl) (by kernel_rfl) (by rfl)) (by rfl) (by rfl) ?_
          refine Ls.ev (some 99) (Ev.fieldAddr (k := 2) (show Oper.op _ = Op.fieldAddr 55 (Operand.tmp 6) 2 from rfl) (by rfl) (by kernel_rfl) (by rfl)) (by rfl) (by rfl) ?_
          refine Ls.ev (some 100) (Ev.load 0 (show Oper.op _ = Op.load 3 (Operand.tmp 99) from rfl) (by rfl) (by rfl) (by kernel_rfl) (by rfl)) (by rfl) (by rfl) ?_
          refine Ls.ev (some 101) (Ev.fieldAddr (k := 30) (show Oper.op _ = Op.fieldAddr 55 (Operand.tmp 6) 6 from rfl) (by rfl) (by kernel_rfl) (by rfl)) (by rfl) (by rfl) ?_
          refine Ls.ev (some 102) (Ev.load 0 (show Oper.op _ = Op.load 4 (Operand.tmp 101) from rfl) (by rfl) (by rfl) (by kernel_rfl) (by rfl)) (by rfl) (by rfl) ?_
          refine Ls.ev (some 103) (Ev.fieldAddr (k := 26) (show Oper.op _ = Op.fieldAddr 55 (Operand.tmp 6) 5 from rfl) (by rfl) (by kernel_rfl) (by rfl)) (by rfl) (by rfl) ?_
          refine Ls.ev (some 104) (Ev.loads 0 (show Oper.op _ = Op.load 39 (Operand.tmp 103) from rfl) (by rfl) (by rfl) (n := 4) (by kernel_rfl) (by rfl) (by rfl)) (by rfl) (by rfl) ?_
          refine Ls.does (some 105) (Does.call [3, 4, 5, 0, 2, 6] (show Oper.op _ = Op.call { callee := Callee.value (Operand.func 23), args := #[Operand.tmp 96, Operand.tmp 98, Operand.tmp 100, Operand.tmp 102, Operand.tmp 104], argTypes := #[66, 3, 3, 4, 39] } from rfl) Try.func23 (by kernel_rfl) (by kernel_rfl) (load_low g b n S oa ob odn rc re rs rA rx.length rC hq hb1) (by rfl) (by rfl) (by rfl)) (by rfl) (by rfl) ?_
          intro _ _
          refine Ls.nil ?_
          refine Cd.region ?_
          refine Ls.ev (some 106) (Ev.move (show Oper.op _ = Op.move (Operand.tmp 4) from rfl) (by rfl)) (by rfl) (by rfl) ?_
          refine Ls.ev (some 107) (Ev.fieldAddr (k := 1) (show Oper.op _ = Op.fieldAddr 55 (Operand.tmp 6) 1 from rfl) (by rfl) (by kernel_rfl) (by rfl)) (by rfl) (by rfl) ?_
          refine Ls.ev (some 108) (Ev.load 3 (show Oper.op _ = Op.load 3 (Operand.tmp 107) from rfl) (by rfl) (by rfl) (by kernel_rfl) (by rfl)) (by rfl) (by rfl) ?_
          refine Ls.ev (some 109) (Ev.fieldAddr (k := 2) (show Oper.op _ = Op.fieldAddr 55 (Operand.tmp 6) 2 from rfl) (by rfl) (by kernel_rfl) (by rfl)) (by rfl) (by rfl) ?_
          refine Ls.ev (some 110) (Ev.load 3 (show Oper.op _ = Op.load 3 (Operand.tmp 109) from rfl) (by rfl) (by rfl) (by kernel_rfl) (by rfl)) (by rfl) (by rfl) ?_
          refine Ls.ev (some 111) (Ev.fieldAddr (k := 30) (show Oper.op _ = Op.fieldAddr 55 (Operand.tmp 6) 6 from rfl) (by rfl) (by kernel_rfl) (by rfl)) (by rfl) (by rfl) ?_
          refine Ls.ev (some 112) (Ev.load 3 (show Oper.op _ = Op.load 4 (Operand.tmp 111) from rfl) (by rfl) (by rfl) (by kernel_rfl) (by rfl)) (by rfl) (by rfl) ?_
          refine Ls.ev (some 113) (Ev.fieldAddr (k := 26) (show Oper.op _ = Op.fieldAddr 55 (Operand.tmp 6) 5 from rfl) (by rfl) (by kernel_rfl) (by rfl)) (by rfl) (by rfl) ?_
          refine Ls.ev (some 114) (Ev.loads 3 (show Oper.op _ = Op.load 39 (Operand.tmp 113) from rfl) (by rfl) (by rfl) (n := 4) (by kernel_rfl) (by rfl) (by rfl)) (by rfl) (by rfl) ?_
          refine Ls.ev (some 115) (Ev.buildP (pl := [(0, 1), (1, 1), (2, 1), (3, 4)]) (zs := [.int .i64 0, .int .i64 0, .bool false, .int .i64 0, .int .i64 0, .int .i64 0, .slice none 0 0]) (show Oper.op _ = Op.build 85 #[(0, Operand.tmp 108), (1, Operand.tmp 110), (2, Operand.tmp 112), (3, Operand.tmp 114)] from rfl) (by rfl) (by kernel_rfl) (by rfl)) (by rfl) (by rfl) ?_
          refine Ls.does (some 116) (Does.call [4, 0, 1, 2, 3, 5] (show Oper.op _ = Op.call { callee := Callee.value (Operand.func 31), args := #[Operand.tmp 106, Operand.tmp 115], argTypes := #[77, 85] } from rfl) Try.func31 (by kernel_rfl) (by kernel_rfl) (refLoad_sl A c l oa ⟨ob, odn, rc, re, rs, rA, rC, rx⟩ hln) (by rfl) (by rfl) (by rfl)) (by rfl) (by rfl) ?_
          intro p _
          refine Ls.ev (some 4) (Ev.assign (show Oper.op _ = Op.assign (Operand.tmp 116) from rfl) (by rfl)) (by rfl) (by rfl) ?_
          refine Ls.nil ?_
          refine Ent.see 0 (by rfl) ?_
          refine Ent.inv (⟨k, upd S oa SeenD.zero, n, p.1, p.2, loadL l oa ⟨ob, odn, rc, re, rs, rA, rC, rx⟩⟩) ?_ ?_ ?_
          · (try dsimp only); exact ⟨ok_upd h1 (by omega) h3 h4 h5 h6 (by rw [if_pos hb1]; exact sameD_refl _) (by rw [if_pos hb1]; exact (RW_zero W 0).2) (Int.le_refl 0), rfl⟩
          · (repeat (first | exact trivial | refine ⟨by rfl, ?_⟩ | refine ⟨by simp only [List.length_append, List.length_cons, List.length_nil]; rfl, ?_⟩ | refine ⟨by push_cast; rfl, ?_⟩))
          · rfl
        cases odn
        · skip
          refine Cd.seq ?_
          refine Cd.region ?_
          refine Ls.ev (some 96) (Ev.move (show Oper.op _ = Op.move (Operand.tmp 3) from rfl) (by rfl)) (by rfl) (by rfl) ?_
          refine Ls.ev (some 97) (Ev.fieldAddr (k := 1) (show Oper.op _ = Op.fieldAddr 55 (Operand.tmp 6) 1 from rfl) (by rfl) (by kernel_rfl) (by rfl)) (by rfl) (by rfl) ?_
          refine Ls.ev (some 98) (Ev.load 0 (show Oper.op _ = Op.load 3 (Operand.tmp 97) from rfl) (by rfl) (by rfl) (by kernel_rfl) (by rfl)) (by rfl) (by rfl) ?_
          refine Ls.ev (some 99) (Ev.fieldAddr (k := 2) (show Oper.op _ = Op.fieldAddr 55 (Operand.tmp 6) 2 from rfl) (by rfl) (by kernel_rfl) (by rfl)) (by rfl) (by rfl) ?_
          refine Ls.ev (some 100) (Ev.load 0 (show Oper.op _ = Op.load 3 (Operand.tmp 99) from rfl) (by rfl) (by rfl) (by kernel_rfl) (by rfl)) (by rfl) (by rfl) ?_
          refine Ls.ev (some 101) (Ev.fieldAddr (k := 30) (show Oper.op _ = Op.fieldAddr 55 (Operand.tmp 6) 6 from rfl) (by rfl) (by kernel_rfl) (by rfl)) (by rfl) (by rfl) ?_
          refine Ls.ev (some 102) (Ev.load 0 (show Oper.op _ = Op.load 4 (Operand.tmp 101) from rfl) (by rfl) (by rfl) (by kernel_rfl) (by rfl)) (by rfl) (by rfl) ?_
          refine Ls.ev (some 103) (Ev.fieldAddr (k := 26) (show Oper.op _ = Op.fieldAddr 55 (Operand.tmp 6) 5 from rfl) (by rfl) (by kernel_rfl) (by rfl)) (by rfl) (by rfl) ?_
          refine Ls.ev (some 104) (Ev.loads 0 (show Oper.op _ = Op.load 39 (Operand.tmp 103) from rfl) (by rfl) (by rfl) (n := 4) (by kernel_rfl) (by rfl) (by rfl)) (by rfl) (by rfl) ?_
          refine Ls.does (some 105) (Does.call [3, 4, 5, 0, 2, 6] (show Oper.op _ = Op.call { callee := Callee.value (Operand.func 23), args := #[Operand.tmp 96, Operand.tmp 98, Operand.tmp 100, Operand.tmp 102, Operand.tmp 104], argTypes := #[66, 3, 3, 4, 39] } from rfl) Try.func23 (by kernel_rfl) (by kernel_rfl) (load_no g b n S oa ob rc re rs rA rx.length rC hq hb1 (by omega)) (by rfl) (by rfl) (by rfl)) (by rfl) (by rfl) ?_
          intro _ _
          refine Ls.nil ?_
          refine Cd.region ?_
          refine Ls.ev (some 106) (Ev.move (show Oper.op _ = Op.move (Operand.tmp 4) from rfl) (by rfl)) (by rfl) (by rfl) ?_
          refine Ls.ev (some 107) (Ev.fieldAddr (k := 1) (show Oper.op _ = Op.fieldAddr 55 (Operand.tmp 6) 1 from rfl) (by rfl) (by kernel_rfl) (by rfl)) (by rfl) (by rfl) ?_
          refine Ls.ev (some 108) (Ev.load 3 (show Oper.op _ = Op.load 3 (Operand.tmp 107) from rfl) (by rfl) (by rfl) (by kernel_rfl) (by rfl)) (by rfl) (by rfl) ?_
          refine Ls.ev (some 109) (Ev.fieldAddr (k := 2) (show Oper.op _ = Op.fieldAddr 55 (Operand.tmp 6) 2 from rfl) (by rfl) (by kernel_rfl) (by rfl)) (by rfl) (by rfl) ?_
          refine Ls.ev (some 110) (Ev.load 3 (show Oper.op _ = Op.load 3 (Operand.tmp 109) from rfl) (by rfl) (by rfl) (by kernel_rfl) (by rfl)) (by rfl) (by rfl) ?_
          refine Ls.ev (some 111) (Ev.fieldAddr (k := 30) (show Oper.op _ = Op.fieldAddr 55 (Operand.tmp 6) 6 from rfl) (by rfl) (by kernel_rfl) (by rfl)) (by rfl) (by rfl) ?_
          refine Ls.ev (some 112) (Ev.load 3 (show Oper.op _ = Op.load 4 (Operand.tmp 111) from rfl) (by rfl) (by rfl) (by kernel_rfl) (by rfl)) (by rfl) (by rfl) ?_
          refine Ls.ev (some 113) (Ev.fieldAddr (k := 26) (show Oper.op _ = Op.fieldAddr 55 (Operand.tmp 6) 5 from rfl) (by rfl) (by kernel_rfl) (by rfl)) (by rfl) (by rfl) ?_
          refine Ls.ev (some 114) (Ev.loads 3 (show Oper.op _ = Op.load 39 (Operand.tmp 113) from rfl) (by rfl) (by rfl) (n := 4) (by kernel_rfl) (by rfl) (by rfl)) (by rfl) (by rfl) ?_
          refine Ls.ev (some 115) (Ev.buildP (pl := [(0, 1), (1, 1), (2, 1), (3, 4)]) (zs := [.int .i64 0, .int .i64 0, .bool false, .int .i64 0, .int .i64 0, .int .i64 0, .slice none 0 0]) (show Oper.op _ = Op.build 85 #[(0, Operand.tmp 108), (1, Operand.tmp 110), (2, Operand.tmp 112), (3, Operand.tmp 114)] from rfl) (by rfl) (by kernel_rfl) (by rfl)) (by rfl) (by rfl) ?_
          refine Ls.does (some 116) (Does.call [4, 0, 1, 2, 3, 5] (show Oper.op _ = Op.call { callee := Callee.value (Operand.func 31), args := #[Operand.tmp 106, Operand.tmp 115], argTypes := #[77, 85] } from rfl) Try.func31 (by kernel_rfl) (by kernel_rfl) (refLoad_sl A c l oa ⟨ob, false, rc, re, rs, rA, rC, rx⟩ hln) (by rfl) (by rfl) (by rfl)) (by rfl) (by rfl) ?_
          intro p _
          refine Ls.ev (some 4) (Ev.assign (show Oper.op _ = Op.assign (Operand.tmp 116) from rfl) (by rfl)) (by rfl) (by rfl) ?_
          refine Ls.nil ?_
          refine Ent.see 0 (by rfl) ?_
          refine Ent.inv (⟨k, upd S oa (newD ob), n + 1, p.1, p.2, loadL l oa ⟨ob, false, rc, re, rs, rA, rC, rx⟩⟩) ?_ ?_ ?_
          · (try dsimp only); exact ⟨ok_upd h1 (by omega) h3 h4 h5 h6 (by rw [if_neg hb1, if_neg (show ¬ false = true from Bool.false_ne_true)]; exact sameD_refl _) (by rw [if_neg hb1, if_neg (show ¬ false = true from Bool.false_ne_true)]; exact (RW_zero W ob).1) (show 0 ≤ ob by omega), rfl⟩
          · (repeat (first | exact trivial | refine ⟨by rfl, ?_⟩ | refine ⟨by simp only [List.length_append, List.length_cons, List.length_nil]; rfl, ?_⟩ | refine ⟨by push_cast; rfl, ?_⟩))
          · rfl
        · skip
          refine Cd.seq ?_
          refine Cd.region ?_
          refine Ls.ev (some 96) (Ev.move (show Oper.op _ = Op.move (Operand.tmp 3) from rfl) (by rfl)) (by rfl) (by rfl) ?_
          refine Ls.ev (some 97) (Ev.fieldAddr (k := 1) (show Oper.op _ = Op.fieldAddr 55 (Operand.tmp 6) 1 from rfl) (by rfl) (by kernel_rfl) (by rfl)) (by rfl) (by rfl) ?_
          refine Ls.ev (some 98) (Ev.load 0 (show Oper.op _ = Op.load 3 (Operand.tmp 97) from rfl) (by rfl) (by rfl) (by kernel_rfl) (by rfl)) (by rfl) (by rfl) ?_
          refine Ls.ev (some 99) (Ev.fieldAddr (k := 2) (show Oper.op _ = Op.fieldAddr 55 (Operand.tmp 6) 2 from rfl) (by rfl) (by kernel_rfl) (by rfl)) (by rfl) (by rfl) ?_
          refine Ls.ev (some 100) (Ev.load 0 (show Oper.op _ = Op.load 3 (Operand.tmp 99) from rfl) (by rfl) (by rfl) (by kernel_rfl) (by rfl)) (by rfl) (by rfl) ?_
          refine Ls.ev (some 101) (Ev.fieldAddr (k := 30) (show Oper.op _ = Op.fieldAddr 55 (Operand.tmp 6) 6 from rfl) (by rfl) (by kernel_rfl) (by rfl)) (by rfl) (by rfl) ?_
          refine Ls.ev (some 102) (Ev.load 0 (show Oper.op _ = Op.load 4 (Operand.tmp 101) from rfl) (by rfl) (by rfl) (by kernel_rfl) (by rfl)) (by rfl) (by rfl) ?_
          refine Ls.ev (some 103) (Ev.fieldAddr (k := 26) (show Oper.op _ = Op.fieldAddr 55 (Operand.tmp 6) 5 from rfl) (by rfl) (by kernel_rfl) (by rfl)) (by rfl) (by rfl) ?_
          refine Ls.ev (some 104) (Ev.loads 0 (show Oper.op _ = Op.load 39 (Operand.tmp 103) from rfl) (by rfl) (by rfl) (n := 4) (by kernel_rfl) (by rfl) (by rfl)) (by rfl) (by rfl) ?_
          refine Ent.arg 6 (by rfl) hrr ?_
          refine Ls.does (some 105) (Does.call [4, 5, 6, 0, 1, 3, 7] (show Oper.op _ = Op.call { callee := Callee.value (Operand.func 23), args := #[Operand.tmp 96, Operand.tmp 98, Operand.tmp 100, Operand.tmp 102, Operand.tmp 104], argTypes := #[66, 3, 3, 4, 39] } from rfl) Try.func23 (by kernel_rfl) (by kernel_rfl) (load_yes g b n S oa ob rc re rs rA rC rx hq hb1 (by omega) hrl) (by rfl) (by rfl) (by rfl)) (by rfl) (by rfl) ?_
          intro p _
          refine Ls.nil ?_
          refine Cd.region ?_
          refine Ls.ev (some 106) (Ev.move (show Oper.op _ = Op.move (Operand.tmp 4) from rfl) (by rfl)) (by rfl) (by rfl) ?_
          refine Ls.ev (some 107) (Ev.fieldAddr (k := 1) (show Oper.op _ = Op.fieldAddr 55 (Operand.tmp 6) 1 from rfl) (by rfl) (by kernel_rfl) (by rfl)) (by rfl) (by rfl) ?_
          refine Ls.ev (some 108) (Ev.load 3 (show Oper.op _ = Op.load 3 (Operand.tmp 107) from rfl) (by rfl) (by rfl) (by kernel_rfl) (by rfl)) (by rfl) (by rfl) ?_
          refine Ls.ev (some 109) (Ev.fieldAddr (k := 2) (show Oper.op _ = Op.fieldAddr 55 (Operand.tmp 6) 2 from rfl) (by rfl) (by kernel_rfl) (by rfl)) (by rfl) (by rfl) ?_
          refine Ls.ev (some 110) (Ev.load 3 (show Oper.op _ = Op.load 3 (Operand.tmp 109) from rfl) (by rfl) (by rfl) (by kernel_rfl) (by rfl)) (by rfl) (by rfl) ?_
          refine Ls.ev (some 111) (Ev.fieldAddr (k := 30) (show Oper.op _ = Op.fieldAddr 55 (Operand.tmp 6) 6 from rfl) (by rfl) (by kernel_rfl) (by rfl)) (by rfl) (by rfl) ?_
          refine Ls.ev (some 112) (Ev.load 3 (show Oper.op _ = Op.load 4 (Operand.tmp 111) from rfl) (by rfl) (by rfl) (by kernel_rfl) (by rfl)) (by rfl) (by rfl) ?_
          refine Ls.ev (some 113) (Ev.fieldAddr (k := 26) (show Oper.op _ = Op.fieldAddr 55 (Operand.tmp 6) 5 from rfl) (by rfl) (by kernel_rfl) (by rfl)) (by rfl) (by rfl) ?_
          refine Ls.ev (some 114) (Ev.loads 3 (show Oper.op _ = Op.load 39 (Operand.tmp 113) from rfl) (by rfl) (by rfl) (n := 4) (by kernel_rfl) (by rfl) (by rfl)) (by rfl) (by rfl) ?_
          refine Ls.ev (some 115) (Ev.buildP (pl := [(0, 1), (1, 1), (2, 1), (3, 4)]) (zs := [.int .i64 0, .int .i64 0, .bool false, .int .i64 0, .int .i64 0, .int .i64 0, .slice none 0 0]) (show Oper.op _ = Op.build 85 #[(0, Operand.tmp 108), (1, Operand.tmp 110), (2, Operand.tmp 112), (3, Operand.tmp 114)] from rfl) (by rfl) (by kernel_rfl) (by rfl)) (by rfl) (by rfl) ?_
          refine Ls.does (some 116) (Does.call [4, 0, 1, 2, 3, 5] (show Oper.op _ = Op.call { callee := Callee.value (Operand.func 31), args := #[Operand.tmp 106, Operand.tmp 115], argTypes := #[77, 85] } from rfl) Try.func31 (by kernel_rfl) (by kernel_rfl) (refLoad_sl A c l oa ⟨ob, true, rc, re, rs, rA, rC, rx⟩ hln) (by rfl) (by rfl) (by rfl)) (by rfl) (by rfl) ?_
          intro r _
          refine Ls.ev (some 4) (Ev.assign (show Oper.op _ = Op.assign (Operand.tmp 116) from rfl) (by rfl)) (by rfl) (by rfl) ?_
          refine Ls.nil ?_
          refine Ent.see 0 (by rfl) ?_
          refine Ent.inv (⟨k, upd S oa ⟨ob, true, rc, re, rs, p.1, p.2, rx⟩, n + 1, r.1, r.2, loadL l oa ⟨ob, true, rc, re, rs, rA, rC, rx⟩⟩) ?_ ?_ ?_
          · (try dsimp only); exact ⟨ok_upd h1 (by omega) h3 h4 h5 h6 (by rw [if_neg hb1, if_pos rfl]; exact ⟨rfl, rfl, rfl, rfl, rfl, rfl⟩) (by rw [if_neg hb1, if_pos rfl]; exact ⟨hrr, hrl⟩) (show 0 ≤ ob by omega), rfl⟩
          · (repeat (first | exact trivial | refine ⟨by rfl, ?_⟩ | refine ⟨by simp only [List.length_append, List.length_cons, List.length_nil]; rfl, ?_⟩ | refine ⟨by push_cast; rfl, ?_⟩))
          · rfl
      · skip
        refine Cd.skip ?_
        refine Ent.pick [2, 3, 4, 5, 0, 6] (by rfl) ?_
        refine Ent.inv (⟨k, S, n, A, c, l⟩) ?_ ?_ ?_
        · (try dsimp only); exact ⟨ok_same h1 h2 h3 h4 h5 h6, rfl⟩
        · (repeat (first | exact trivial | refine ⟨by rfl, ?_⟩ | refine ⟨by simp only [List.length_append, List.length_cons, List.length_nil]; rfl, ?_⟩ | refine ⟨by push_cast; rfl, ?_⟩))
        · rfl
    skip
    rintro ⟨kk, S', n', A', c', l'⟩ ⟨⟨z1, z2, z3, z4, z5, z6⟩, zk⟩
    dsimp only at z1 z2 z3 z4 z5 z6 zk ⊢
    subst zk
    have hs' := z4 oa
    have hxl : (S' oa).xs.length ≤ 17592186044415 := by rw [hs'.2.2.2.2.2]; exact (z5 oa).2
    refine Cd.seq ?_
    refine Cd.region ?_
    refine Ls.ev (some 118) (Ev.move (show Oper.op _ = Op.move (Operand.tmp 3) from rfl) (by rfl)) (by rfl) (by rfl) ?_
    refine Ls.ev (some 119) (Ev.fieldAddr (k := 1) (show Oper.op _ = Op.fieldAddr 55 (Operand.tmp 6) 1 from rfl) (by rfl) (by kernel_rfl) (by rfl)) (by rfl) (by rfl) ?_
    refine Ls.ev (some 120) (Ev.load 4 (show Oper.op _ = Op.load 3 (Operand.tmp 119) from rfl) (by rfl) (by rfl) (by kernel_rfl) (by rfl)) (by rfl) (by rfl) ?_
    refine Ls.does (some 121) (Does.call [1, 2, 3, 0, 4, 5] (show Oper.op _ = Op.call { callee := Callee.value (Operand.func 26), args := #[Operand.tmp 118, Operand.tmp 120], argTypes := #[66, 3] } from rfl) Try.func26 (by kernel_rfl) (by kernel_rfl) (last_sl g b n' S' oa hq hxl) (by rfl) (by rfl) (by rfl)) (by rfl) (by rfl) ?_
    intro p _
    refine Ls.ev (some 117) (Ev.move (show Oper.op _ = Op.move (Operand.tmp 121) from rfl) (by rfl)) (by rfl) (by rfl) ?_
    refine Ls.ev (some 122) (Ev.extract (show Oper.op _ = Op.extract (Operand.tmp 117) 0 from rfl) (by rfl) (by rfl)) (by rfl) (by rfl) ?_
    refine Ls.ev (some 123) (Ev.extract (show Oper.op _ = Op.extract (Operand.tmp 117) 1 from rfl) (by rfl) (by rfl)) (by rfl) (by rfl) ?_
    refine Ls.ev (some 124) (Ev.extract (show Oper.op _ = Op.extract (Operand.tmp 117) 2 from rfl) (by rfl) (by rfl)) (by rfl) (by rfl) ?_
    refine Ls.does (some 15) (Does.alloc (cs := [.int .i64 0, .int .i64 0, .int .i64 0, .slice none 0 0]) (show Oper.op _ = Op.alloc 39 from rfl) (ZeroIs.mk (.agg #[.int .i64 0, .int .i64 0, .int .i64 0, .slice none 0 0]) (by kernel_rfl) (by rfl))) (by rfl) (by rfl) ?_
    intro g2 _
    refine Ls.ev (some 13) (Ev.assign (show Oper.op _ = Op.assign (Operand.tmp 122) from rfl) (by rfl)) (by rfl) (by rfl) ?_
    refine Ls.ev (some 14) (Ev.assign (show Oper.op _ = Op.assign (Operand.tmp 123) from rfl) (by rfl)) (by rfl) (by rfl) ?_
    refine Ls.does none (Does.store 0 (show Oper.op _ = Op.store 39 (Operand.tmp 15) (Operand.tmp 124) from rfl) (by rfl) (by rfl) (by rfl) (by kernel_rfl) (by rfl) (by kernel_rfl) (by rfl)) (by rfl) (by rfl) ?_
    intro _ _
    refine Ls.nil ?_
    refine Cd.seq ?_
    refine Cd.region ?_
    refine Ls.ev (some 125) (Ev.move (show Oper.op _ = Op.move (Operand.tmp 4) from rfl) (by rfl)) (by rfl) (by rfl) ?_
    refine Ls.ev (some 126) (Ev.fieldAddr (k := 1) (show Oper.op _ = Op.fieldAddr 55 (Operand.tmp 6) 1 from rfl) (by rfl) (by kernel_rfl) (by rfl)) (by rfl) (by rfl) ?_
    refine Ls.ev (some 127) (Ev.load 6 (show Oper.op _ = Op.load 3 (Operand.tmp 126) from rfl) (by rfl) (by rfl) (by kernel_rfl) (by rfl)) (by rfl) (by rfl) ?_
    refine Ls.does (some 128) (Does.call [5, 5, 0, 1, 2, 3, 4, 7] (show Oper.op _ = Op.call { callee := Callee.value (Operand.func 32), args := #[Operand.tmp 125, Operand.tmp 127], argTypes := #[77, 3] } from rfl) Try.func32 (by kernel_rfl) (by kernel_rfl) (refLast_sl A' c' l' oa (by omega)) (by rfl) (by rfl) (by rfl)) (by rfl) (by rfl) ?_
    intro _ _
    refine Ls.does (some 16) (Does.alloc (cs := [.int .i64 0, .int .i64 0, .bool false, .int .i64 0, .int .i64 0, .int .i64 0, .slice none 0 0]) (show Oper.op _ = Op.alloc 85 from rfl) (ZeroIs.mk (.agg #[.int .i64 0, .int .i64 0, .bool false, .int .i64 0, .int .i64 0, .int .i64 0, .slice none 0 0]) (by kernel_rfl) (by rfl))) (by rfl) (by rfl) ?_
    intro g3 _
    refine Ls.does none (Does.store 0 (show Oper.op _ = Op.store 85 (Operand.tmp 16) (Operand.tmp 128) from rfl) (by rfl) (by rfl) (by rfl) (by kernel_rfl) (by rfl) (by kernel_rfl) (by rfl)) (by rfl) (by rfl) ?_
    intro _ _
    refine Ls.nil ?_
    refine Cd.seq ?_
    refine Cd.region ?_
    refine Ls.ev (some 129) (Ev.move (show Oper.op _ = Op.move (Operand.tmp 13) from rfl) (by rfl)) (by rfl) (by rfl) ?_
    refine Ls.ev (some 130) (Ev.fieldAddr (k := 1) (show Oper.op _ = Op.fieldAddr 85 (Operand.tmp 16) 1 from rfl) (by rfl) (by kernel_rfl) (by rfl)) (by rfl) (by rfl) ?_
    refine Ls.ev (some 131) (Ev.load 0 (show Oper.op _ = Op.load 3 (Operand.tmp 130) from rfl) (by rfl) (by rfl) (by kernel_rfl) (by rfl)) (by rfl) (by rfl) ?_
    refine Ls.ev (some 132) (Ev.neq (show Oper.op _ = Op.binOp BinOp.neq 3 (Operand.tmp 129) (Operand.tmp 131) 3 from rfl) (by rfl) (by rfl)) (by rfl) (by rfl) ?_
    refine Ls.ev (some 133) (Ev.move (show Oper.op _ = Op.move (Operand.tmp 132) from rfl) (by rfl)) (by rfl) (by rfl) ?_
    refine Ent.split 133 (by rfl) (fun _ => ?_) (fun (h : decide ((S' oa).id ≠ (lkL l' oa).id) = true) => absurd hs'.1 (of_decide_eq_true h))
    refine Ls.ev (some 134) (Ev.move (show Oper.op _ = Op.move (Operand.tmp 14) from rfl) (by rfl)) (by rfl) (by rfl) ?_
    refine Ls.ev (some 135) (Ev.fieldAddr (k := 2) (show Oper.op _ = Op.fieldAddr 85 (Operand.tmp 16) 2 from rfl) (by rfl) (by kernel_rfl) (by rfl)) (by rfl) (by rfl) ?_
    refine Ls.ev (some 136) (Ev.load 0 (show Oper.op _ = Op.load 4 (Operand.tmp 135) from rfl) (by rfl) (by rfl) (by kernel_rfl) (by rfl)) (by rfl) (by rfl) ?_
    refine Ls.ev (some 137) (Ev.neqB (show Oper.op _ = Op.binOp BinOp.neq 4 (Operand.tmp 134) (Operand.tmp 136) 4 from rfl) (by rfl) (by rfl) Try.underlying4) (by rfl) (by rfl) ?_
    refine Ls.ev (some 138) (Ev.pickF (show Oper.op _ = Op.pick (Operand.tmp 133) (Operand.const (Value.bool true)) (Operand.tmp 137) from rfl) (by rfl) (by rfl)) (by rfl) (by rfl) ?_
    refine Ls.ev (some 139) (Ev.move (show Oper.op _ = Op.move (Operand.tmp 138) from rfl) (by rfl)) (by rfl) (by rfl) ?_
    refine Ent.split 139 (by rfl) (fun _ => ?_) (fun (h : (!((S' oa).dn == (lkL l' oa).dn)) = true) => absurd hs'.2.1 (by simpa using h))
    refine Ls.ev (some 140) (Ev.loads 2 (show Oper.op _ = Op.load 39 (Operand.tmp 15) from rfl) (by rfl) (by rfl) (n := 4) (by kernel_rfl) (by rfl) (by rfl)) (by rfl) (by rfl) ?_
    refine Ls.ev (some 141) (Ev.fieldAddr (k := 3) (show Oper.op _ = Op.fieldAddr 85 (Operand.tmp 16) 3 from rfl) (by rfl) (by kernel_rfl) (by rfl)) (by rfl) (by rfl) ?_
    refine Ls.ev (some 142) (Ev.loads 0 (show Oper.op _ = Op.load 39 (Operand.tmp 141) from rfl) (by rfl) (by rfl) (n := 4) (by kernel_rfl) (by rfl) (by rfl)) (by rfl) (by rfl) ?_
    refine Ent.see 6 (by rfl) ?_
    refine Ent.arg 7 (by rfl) (z5 oa).1 ?_
    refine Ls.does (some 143) (Does.call [7, 0, 2, 4, 5, 6, 8] (show Oper.op _ = Op.call { callee := Callee.value (Operand.func 27), args := #[Operand.tmp 140, Operand.tmp 142], argTypes := #[39, 39] } from rfl) Try.func27 (by kernel_rfl) (by kernel_rfl) (sameReply_sl (S' oa).code (lkL l' oa).code (S' oa).ep (lkL l' oa).ep (S' oa).st (lkL l' oa).st p.1 (lkL l' oa).A p.2 (lkL l' oa).c (S' oa).xs (lkL l' oa).xs hxl) (by rfl) (by rfl) (by rfl)) (by rfl) (by rfl) ?_
    intro _ _
    refine Ls.ev (some 144) (Ev.not (show Oper.op _ = Op.unOp UnOp.not 4 (Operand.tmp 143) from rfl) (by rfl)) (by rfl) (by rfl) ?_
    refine Ls.ev (some 145) (Ev.pickF (show Oper.op _ = Op.pick (Operand.tmp 139) (Operand.const (Value.bool true)) (Operand.tmp 144) from rfl) (by rfl) (by rfl)) (by rfl) (by rfl) ?_
    refine Ls.nil ?_
    refine Cd.cond_false (by rfl) (by rw [decide_eq_true ⟨hs'.2.2.1, hs'.2.2.2.1, hs'.2.2.2.2.1, hs'.2.2.2.2.2⟩]; rfl) ?_
    refine Cd.skip ?_
    refine Cd.region ?_
    refine Ls.ev (some 32) (Ev.move (show Oper.op _ = Op.move (Operand.tmp 5) from rfl) (by rfl)) (by rfl) (by rfl) ?_
    refine Ls.ev (some 33) (Ev.addI (show Oper.op _ = Op.binOp BinOp.add 3 (Operand.tmp 32) (Operand.const (Value.int IntKind.i64 1)) 3 from rfl) (by rfl) (by rfl) (by omega)) (by rfl) (by rfl) ?_
    refine Ls.ev (some 5) (Ev.assign (show Oper.op _ = Op.assign (Operand.tmp 33) from rfl) (by rfl)) (by rfl) (by rfl) ?_
    refine Ls.nil ?_
    refine Ent.inv (⟨kk + 1, S', n', A', c', l'⟩) ?_ ?_ ?_
    · (try dsimp only); exact ⟨⟨Nat.succ_le_of_lt h7, z2, z3, z4, z5, z6⟩, by show 80 - (kk + 1) < 80 - kk; omega⟩
    · (repeat (first | exact trivial | refine ⟨by rfl, ?_⟩ | refine ⟨by simp only [List.length_append, List.length_cons, List.length_nil]; rfl, ?_⟩ | refine ⟨by push_cast; rfl, ?_⟩))
    · rfl
  · skip
    refine Cd.exit ?_
    refine Cd.seq ?_
    refine Cd.region ?_
    refine Ls.ev (some 2) (Ev.assign (show Oper.op _ = Op.assign (Operand.const (Value.bool true)) from rfl) (by rfl)) (by rfl) (by rfl) ?_
    refine Ls.nil ?_
    refine Cd.ret ?_
    refine Ent.ret (()) (trivial) (Res.tmp (by rfl) (by rfl)) ?_ [] (by rfl) ?_
    · rfl
    · rfl
theorem windows_vals (W : World) (args : Array Value) (hv : Vals Try.prog W [51] args.toList) :
    Calls Try.prog 6 args W fun e W' => e = .returned (.bool true) ∧ Below W.heap.size W W' := by
  obtain ⟨v0, r0, e0, h0, rfl⟩ := hv
  obtain rfl : args = #[v0] := by cases args; simp_all
  obtain ⟨B, d, os, rfl, hr, hok, hc, hb⟩ := val_list (Q := fun W o => OpA.ok W o) Try.underlying51 (show Try.prog.cellsOf 55 = 31 by kernel_rfl) (by decide) opa_len cel_opa h0
  have e : Try.prog.bytesOf 55 = 344 := by kernel_rfl
  rw [e] at hb
  unfold reachBytes at hb
  exact Fn.law (windows_sl W B d os (by omega) hr hok)

set_option maxRecDepth 100000 in
theorem windows_lifted (os : Os) (started : os.Started) (H : Type) (enc : TypeId × Value → H) :
    ReturnsInHanded {} Try.checked os 6 .any (Rows.rpcWindowsSpec.pre6 enc Try.prog Try.f6 Rows.rpcWindowsRow.domain false) (Rows.rpcWindowsSpec.post enc Try.prog Try.f6 false true false false) :=
  lift_law (C := Try.checked) #[51] (by kernel_rfl) (by kernel_rfl) started (by kernel_rfl) Try.func6
    (ChangeSpec.witness6 (enc := enc) (C := Try.checked) false ⟨#[], #[.slice none 0 0], []⟩ 8 (by kernel_rfl) (by kernel_rfl) (by kernel_rfl) (by kernel_rfl))
    Try.params6 (by kernel_rfl) rfl rfl Try.underlying4 (fun ds hl => match ds, hl with | [_], _ => rfl) (fun W args hv => windows_vals W args hv)

theorem windows_holds : Rows.RpcWindowsSaid :=
  OpenClaim.holds_of_wide 6 Try.f6 rfl rfl rfl rfl rfl rfl rfl ⟨rfl, rfl, rfl, rfl, rfl⟩ rfl rfl rfl rfl rfl (by kernel_rfl) Try.func6 (by kernel_rfl)
    (of_decide_eq_true (by kernel_rfl)) (by unfold Func.isWrapper; rw [if_neg (of_decide_eq_false (by kernel_rfl))]; exact ⟨rfl, rfl⟩)
    (fun os started H enc _ => windows_lifted os started H enc)

end Go.Proofs.Ytgidkjfakecniaa
