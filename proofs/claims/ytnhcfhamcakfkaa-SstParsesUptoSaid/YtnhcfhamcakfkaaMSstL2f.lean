/-
  Texts joined: SstS, SstT, SstG, SstU, SstV, SstW, SstX, SstPA, SlT, SstLU, SstPB.
-/
import Derived.Test.YtnhcfhamcakfkaaMSstL2c
import Derived.Test.YtnhcfhamcakfkaaMSstL2d
import Derived.Test.YtnhcfhamcakfkaaMSstL2e
/- sstable's Reader: All, Len, First, Last, Blocks -/
namespace Go.Proofs.Ytnhcfhamcakfkaa
open Go.RowKit
theorem entsN_len : ∀ (n : Nat) (l : List UInt8) (es : List Ety), entsN n l = some es → 4 * es.length ≤ l.length
  | n, [], es, h => by
    have : es = [] := by cases n <;> (simp only [entsN, Option.some.injEq] at h; exact h.symm)
    subst this
    simp
  | 0, b :: l, es, h => by simp [entsN] at h
  | n + 1, b :: l, es, h => by
    rw [entsN] at h
    rcases Bool.eq_false_or_eq_true (entC (b :: l)).2.2 with hb | hb
    · rw [hb, cond_true] at h; cases h
    · rw [hb, cond_false] at h
      obtain ⟨es', h1, rfl⟩ := Option.map_eq_some_iff.1 h
      have h2 := entsN_len n _ _ h1
      have h3 := (entC_le (b :: l)).2 hb
      have h4 := (entC_le (b :: l)).1
      rw [List.length_drop] at h2
      rw [List.length_cons]
      revert h2 h3 h4
      generalize (entC (b :: l)).2.1 = k
      intro h2 h3 h4
      omega
theorem blkR_len (b : List UInt8) : (blkR b).length ≤ 1024 := by
  rw [blkR_pay]
  have h := payF_le b
  cases he : entsF (payF b) with
  | none => simp
  | some es =>
    unfold entsF at he
    have := entsN_len _ _ _ he
    simp only [Option.getD_some]
    omega
theorem allR_take {b : List UInt8} {bs : List Bk} {k : Nat} {x : Bk} (h : bs[k]? = some x) : allR b (bs.take (k + 1)) = allR b (bs.take k) ++ blkR ((b.drop x.at_).take x.size) := by
  unfold allR
  rw [List.take_add_one, h]
  simp
theorem allR_len (b : List UInt8) (bs : List Bk) : (allR b bs).length ≤ 1024 * bs.length := by
  induction bs with
  | nil => simp [allR]
  | cons x bs ih =>
    have := blkR_len ((b.drop x.at_).take x.size)
    unfold allR at ih ⊢
    rw [List.flatMap_cons, List.length_append, List.length_cons]
    omega
/-- The blocks lie within the bytes. -/
def inB (b : List UInt8) (bs : List Bk) : Prop := (∀ x ∈ bs, x.at_ + x.size ≤ b.length) ∧ bs.length ≤ 1025
theorem bksC_in {en : Nat} : ∀ (n : Nat) (l : List UInt8) (bs : List Bk), bksC en n l = some bs → (∀ x ∈ bs, x.at_ + x.size ≤ en) ∧ 4 * bs.length ≤ l.length
  | 0, l, bs, h => by
    simp only [bksC, Option.some.injEq] at h
    subst h
    exact ⟨fun x h => (by cases h), by simp⟩
  | n + 1, l, bs, h => by
    rw [bksC] at h
    have hk := bkC_le l
    revert h hk
    generalize bkC l = y
    intro h hk
    split at h
    · cases h
    · rename_i hx
      rcases Bool.eq_false_or_eq_true y.2.2 with hb | hb
      · rw [hb, cond_true] at h; cases h
      · rw [hb, cond_false] at h
        obtain ⟨bs', h1, rfl⟩ := Option.map_eq_some_iff.1 h
        obtain ⟨h2, h3⟩ := bksC_in n _ _ h1
        have h4 := hk.2.2.2 hb
        rw [List.length_drop] at h3
        refine ⟨fun x hx' => ?_, by rw [List.length_cons]; omega⟩
        rcases List.mem_cons.1 hx' with rfl | hx'
        · omega
        · exact h2 x hx'
theorem readT_in {b : List UInt8} {bs : List Bk} {f : List UInt8} (h : readT b = some (bs, f)) : inB b bs ∧ f.length ≤ 4096 := by
  unfold readT at h
  split at h
  · cases h
  · split at h
    · cases h
    · revert h
      generalize hen : b.length - 12 = en
      generalize le4 (b.drop en) = fr
      generalize le4 ((b.drop en).drop 4) = at_
      intro h
      cases e1 : takeF ((b.drop at_).take (en - at_)) with
      | none => rw [readU_none (.inl e1)] at h; cases h
      | some x =>
        cases e2 : takeF ((b.drop fr).take (en - fr)) with
        | none => rw [readU_none (.inr e2)] at h; cases h
        | some y =>
          rw [readU_some e1 e2] at h
          obtain ⟨bs', h1, h2⟩ := Option.map_eq_some_iff.1 h
          simp only [Prod.mk.injEq] at h2
          obtain ⟨rfl, rfl⟩ := h2
          have s1 := takeF_size e1
          have s2 := takeF_size e2
          unfold bksR at h1
          rcases Bool.eq_false_or_eq_true (numC x.1).2.2 with hb | hb
          · rw [hb, cond_true] at h1; cases h1
          · rw [hb, cond_false] at h1
            obtain ⟨k1, k2⟩ := bksC_in _ _ _ h1
            have hd : (x.1.drop (numC x.1).2.1).length ≤ x.1.length := by rw [List.length_drop]; exact Nat.sub_le _ _
            have hx := Nat.le_trans k2 hd
            have hxl := s1.2.2.1
            exact ⟨⟨fun z hz => by have := k1 z hz; omega, by omega⟩, s2.2.2.1⟩
theorem encs_one (l : List Ety) : ∀ u ∈ l.flatMap Ety.enc, u.oneCell' = true := by
  intro u hu
  obtain ⟨e, _, h⟩ := List.mem_flatMap.1 hu
  exact enc_one e u h
theorem all_sl (g : Nat) (bA : Option Addr) (bc : Nat) (b : List UInt8) (xA : Option Addr) (xc : Nat) (bs : List Bk) (fA : Option Addr) (fn fc : Nat) (count looked : Int) (hc : b.length ≤ bc) (hm : b.length ≤ 140737488355328) (hin : inB b bs) :
    Fn Try.prog 16 #[.pointer (some ⟨g, 0, none⟩)] [rblk g 75 [.slice bA b.length bc, .slice xA bs.length xc, .slice fA fn fc, .int .i64 count, .int .i64 looked], rd xA bs.length 4 (bs.flatMap Bk.enc), rdB bA b] (Option Addr × Nat) (fun p => .slice p.1 (allR b bs).length p.2) (fun p => [rowE p.1 p.2 (allR b bs)]) (fun _ => True) := by
  have hbl := hin.2
  refine Fn.enter Try.func16 rfl Try.ntmps16 (by rfl) ?_
  intro w0
  skip
  skip
  refine Cd.seq ?_
  refine Cd.region ?_
  refine Ls.ev (some 2) (Ev.assign (show Oper.op _ = Op.assign (Operand.const (Value.slice none 0 0)) from rfl) (by rfl)) (by rfl) (by rfl) ?_
  refine Ls.nil ?_
  refine Cd.seq ?_
  refine Cd.region ?_
  refine Ls.ev (some 3) (Ev.assign (show Oper.op _ = Op.assign (Operand.const (Value.slice none 0 0)) from rfl) (by rfl)) (by rfl) (by rfl) ?_
  refine Ls.nil ?_
  refine Cd.seq ?_
  refine Cd.seq ?_
  refine Cd.region ?_
  refine Ls.ev (some 6) (Ev.move (show Oper.op _ = Op.move (Operand.tmp 0) from rfl) (by rfl)) (by rfl) (by rfl) ?_
  refine Ls.ev (some 7) (Ev.nilCheck (show Oper.op _ = Op.nilCheck (Operand.tmp 6) from rfl) (by rfl)) (by rfl) (by rfl) ?_
  refine Ls.ev (some 8) (Ev.fieldAddr (k := 1) (show Oper.op _ = Op.fieldAddr 75 (Operand.tmp 7) 1 from rfl) (by rfl) (by kernel_rfl) (by rfl)) (by rfl) (by rfl) ?_
  refine Ls.ev (some 9) (Ev.loadB 0 (show Oper.op _ = Op.load 73 (Operand.tmp 8) from rfl) (by rfl) (by rfl) (by kernel_rfl) (by rfl)) (by rfl) (by rfl) ?_
  refine Ls.ev (some 10) (Ev.len (show Oper.op _ = Op.call { callee := Callee.builtin Builtin.len, args := #[Operand.tmp 9], argTypes := #[73] } from rfl) (by rfl) Try.underlying73) (by rfl) (by rfl) ?_
  refine Ls.ev (some 11) (Ev.move (show Oper.op _ = Op.move (Operand.const (Value.int IntKind.i64 0)) from rfl) (by rfl)) (by rfl) (by rfl) ?_
  refine Ls.nil ?_
  refine Cd.block ?_
  refine Ent.nil 42 4 ?_
  refine Cd.loop (ι := Nat × Option Addr × Nat) (fun j => [(0, .pointer (some ⟨g, 0, none⟩)), (9, .slice xA bs.length xc), (10, .int .i64 bs.length), (11, .int .i64 j.1), (3, .slice j.2.1 (allR b (bs.take j.1)).length j.2.2)]) (fun j => [rowE j.2.1 j.2.2 (allR b (bs.take j.1)), rblk g 75 [.slice bA b.length bc, .slice xA bs.length xc, .slice fA fn fc, .int .i64 count, .int .i64 looked], rd xA bs.length 4 (bs.flatMap Bk.enc), rdB bA b]) (fun j => j.1 ≤ bs.length) (fun j => bs.length - j.1) ((0, none, 0)) (Nat.zero_le _) ?_ rfl ?_
  · (repeat (first | exact trivial | refine ⟨by rfl, ?_⟩))
  rintro ⟨k, oA, oc⟩ hk
  dsimp only at hk ⊢
  refine Cd.seq ?_
  refine Cd.region ?_
  refine Ls.ev (some 12) (Ev.lss (show Oper.op _ = Op.binOp BinOp.lss 3 (Operand.tmp 11) (Operand.tmp 10) 3 from rfl) (by rfl) (by rfl)) (by rfl) (by rfl) ?_
  refine Ls.nil ?_
  refine Cd.seq ?_
  refine Cd.cond _ (by rfl) (fun h => ?_) (fun h => ?_)
  · skip
    have hlt : k < bs.length := by have := of_decide_eq_true h; omega
    obtain ⟨x, hx⟩ := get_of_lt hlt
    have hxb := hin.1 x (List.mem_of_getElem? hx)
    have ha1 := allR_take (b := b) hx
    have ha2 := allR_len b (bs.take (k + 1))
    have ha3 : (allR b (bs.take (k + 1))).length = (allR b (bs.take k)).length + (blkR ((b.drop x.at_).take x.size)).length := by rw [ha1, List.length_append]
    rw [List.length_take] at ha2
    refine Ent.rdSome 2 (by rfl) (by omega) (fun ad had => ?_)
    subst had
    refine Cd.skip ?_
    refine Cd.seq ?_
    refine Cd.block ?_
    refine Cd.seq ?_
    refine Cd.region ?_
    refine Ls.ev (some 13) (Ev.indexAt (sz := 4) (show Oper.op _ = Op.indexAddr 73 (Operand.tmp 9) (Operand.tmp 11) from rfl) (by rfl) (by rfl) Try.underlying73 (by kernel_rfl) (by omega)) (by rfl) (by rfl) ?_
    refine Ls.ev (some 14) (Ev.loadEl (show Oper.op _ = Op.load 80 (Operand.tmp 13) from rfl) (by rfl) (ReadsIn.rd 2 (by rfl)) (by kernel_rfl) (by intro _; rfl) (by assumption)) (by rfl) (by rfl) ?_
    refine Ls.does (some 5) (Does.alloc (cs := [.string ⟨#[]⟩, .string ⟨#[]⟩, .int .i64 0, .int .i64 0]) (show Oper.op _ = Op.alloc 80 from rfl) (ZeroIs.mk (.agg #[.string ⟨#[]⟩, .string ⟨#[]⟩, .int .i64 0, .int .i64 0]) (by kernel_rfl) (by rfl))) (by rfl) (by rfl) ?_
    intro g1 _
    refine Ls.does none (Does.store 0 (show Oper.op _ = Op.store 80 (Operand.tmp 5) (Operand.tmp 14) from rfl) (by rfl) (by rfl) (by rfl) (by kernel_rfl) (by rfl) (by kernel_rfl) (by rfl)) (by rfl) (by rfl) ?_
    intro _ _
    refine Ls.nil ?_
    refine Ent.cutB 4 x.at_ (x.at_ + x.size) bc (by rfl) ⟨by omega, hxb, by omega⟩ ?_
    refine Cd.draw [14] (by kernel_rfl) ?_
    refine Rg.ev 0 (by rfl) (fun _ h => h) (Ev.move (show Oper.op _ = Op.move (Operand.tmp 3) from rfl) (by rfl)) (by rfl) (some 15) (by rfl) (by kernel_rfl) (by kernel_rfl) (by kernel_rfl) (by kernel_rfl) ?_
    refine Rg.ev 1 (by rfl) (fun _ h => h) (Ev.move (show Oper.op _ = Op.move (Operand.tmp 0) from rfl) (by rfl)) (by rfl) (some 16) (by rfl) (by kernel_rfl) (by kernel_rfl) (by kernel_rfl) (by kernel_rfl) ?_
    refine Rg.ev 2 (by rfl) (fun _ h => h) (Ev.nilCheck (show Oper.op _ = Op.nilCheck (Operand.tmp 16) from rfl) (by rfl)) (by rfl) (some 17) (by rfl) (by kernel_rfl) (by kernel_rfl) (by kernel_rfl) (by kernel_rfl) ?_
    refine Rg.ev 3 (by rfl) (fun _ h => h) (Ev.fieldAddr (k := 0) (show Oper.op _ = Op.fieldAddr 75 (Operand.tmp 17) 0 from rfl) (by rfl) (by kernel_rfl) (by rfl)) (by rfl) (some 18) (by rfl) (by kernel_rfl) (by kernel_rfl) (by kernel_rfl) (by kernel_rfl) ?_
    refine Rg.ev 4 (by rfl) (fun _ h => h) (Ev.loadB 3 (show Oper.op _ = Op.load 25 (Operand.tmp 18) from rfl) (by rfl) (by rfl) (by kernel_rfl) (by rfl)) (by rfl) (some 19) (by rfl) (by kernel_rfl) (by kernel_rfl) (by kernel_rfl) (by kernel_rfl) ?_
    refine Rg.ev 5 (by rfl) (fun _ h => h) (Ev.fieldAddr (k := 2) (show Oper.op _ = Op.fieldAddr 80 (Operand.tmp 5) 2 from rfl) (by rfl) (by kernel_rfl) (by rfl)) (by rfl) (some 20) (by rfl) (by kernel_rfl) (by kernel_rfl) (by kernel_rfl) (by kernel_rfl) ?_
    refine Rg.ev 6 (by rfl) (fun _ h => h) (Ev.load 1 (show Oper.op _ = Op.load 3 (Operand.tmp 20) from rfl) (by rfl) (by rfl) (by kernel_rfl) (by rfl)) (by rfl) (some 21) (by rfl) (by kernel_rfl) (by kernel_rfl) (by kernel_rfl) (by kernel_rfl) ?_
    refine Rg.ev 7 (by rfl) (fun _ h => h) (Ev.fieldAddr (k := 2) (show Oper.op _ = Op.fieldAddr 80 (Operand.tmp 5) 2 from rfl) (by rfl) (by kernel_rfl) (by rfl)) (by rfl) (some 22) (by rfl) (by kernel_rfl) (by kernel_rfl) (by kernel_rfl) (by kernel_rfl) ?_
    refine Rg.ev 8 (by rfl) (fun _ h => h) (Ev.load 1 (show Oper.op _ = Op.load 3 (Operand.tmp 22) from rfl) (by rfl) (by rfl) (by kernel_rfl) (by rfl)) (by rfl) (some 23) (by rfl) (by kernel_rfl) (by kernel_rfl) (by kernel_rfl) (by kernel_rfl) ?_
    refine Rg.ev 9 (by rfl) (fun _ h => h) (Ev.fieldAddr (k := 3) (show Oper.op _ = Op.fieldAddr 80 (Operand.tmp 5) 3 from rfl) (by rfl) (by kernel_rfl) (by rfl)) (by rfl) (some 24) (by rfl) (by kernel_rfl) (by kernel_rfl) (by kernel_rfl) (by kernel_rfl) ?_
    refine Rg.ev 10 (by rfl) (fun _ h => h) (Ev.load 1 (show Oper.op _ = Op.load 3 (Operand.tmp 24) from rfl) (by rfl) (by rfl) (by kernel_rfl) (by rfl)) (by rfl) (some 25) (by rfl) (by kernel_rfl) (by kernel_rfl) (by kernel_rfl) (by kernel_rfl) ?_
    refine Rg.ev 11 (by rfl) (fun _ h => h) (Ev.addN (show Oper.op _ = Op.binOp BinOp.add 3 (Operand.tmp 23) (Operand.tmp 25) 3 from rfl) (by rfl) (by rfl) (by omega)) (by rfl) (some 26) (by rfl) (by kernel_rfl) (by kernel_rfl) (by kernel_rfl) (by kernel_rfl) ?_
    refine Rg.ev 12 (by rfl) (fun _ h => h) (Ev.cutB (lo := x.at_) (hi := x.at_ + x.size) (show Oper.op _ = Op.slice 25 (Operand.tmp 19) (some (Operand.tmp 21)) (some (Operand.tmp 26)) none from rfl) (by rfl) (by rfl) (by rfl) Try.underlying25 (by kernel_rfl) ⟨by omega, hxb, hc⟩) (by rfl) (some 27) (by rfl) (by kernel_rfl) (by kernel_rfl) (by kernel_rfl) (by kernel_rfl) ?_
    refine Rg.does 13 (by rfl) (by kernel_rfl) (Does.readN (show Oper.op _ = Op.call { callee := Callee.value (Operand.func 49), args := #[Operand.tmp 27], argTypes := #[25] } from rfl) Try.func49 (by kernel_rfl) (by kernel_rfl) (entries_sl (cutA bA bc x.at_ 1) (bc - x.at_) ((b.drop x.at_).take (x.at_ + x.size - x.at_)) (by rw [List.length_take, List.length_drop]; omega) (by rw [List.length_take, List.length_drop]; unfold maxLen; omega)) (by rfl) (by rfl) ⟨ReadsIn.rd 0 (by rfl), trivial⟩ (fun _ => by rfl)) (by rfl) (some 28) (by rfl) (fun _ _ h => h.tail_) ?_
    rw [Nat.add_sub_cancel_left]
    intro q _
    refine Rg.tail 14 [] (by rfl) (by kernel_rfl) (Does.app (xs := (allR b (bs.take k)).flatMap Ety.enc) (news := (blkR ((b.drop x.at_).take x.size)).flatMap Ety.enc) 3 (show Oper.op _ = Op.call { callee := Callee.builtin Builtin.append, args := #[Operand.tmp 15, Operand.tmp 28], argTypes := #[22, 22] } from rfl) (by rfl) (by rfl) (by rfl) (ReadsIn.row 0 (by rfl)) elem_ents (encs_one _) (by omega)) (by rfl) (some 29) (by rfl) (by kernel_rfl) (by kernel_rfl) ?_
    intro q2 _
    refine Rg.ev 15 (by rfl) (fun _ h => h) (Ev.assign (show Oper.op _ = Op.assign (Operand.tmp 29) from rfl) (by rfl)) (by rfl) (some 3) (by rfl) (by kernel_rfl) (by kernel_rfl) (by kernel_rfl) (by kernel_rfl) ?_
    refine Rg.done (by kernel_rfl) ?_ _
    refine Cd.region ?_
    refine Ls.ev (some 30) (Ev.addN (b := 1) (show Oper.op _ = Op.binOp BinOp.add 3 (Operand.tmp 11) (Operand.const (Value.int IntKind.i64 1)) 3 from rfl) (by rfl) (by rfl) (by omega)) (by rfl) (by rfl) ?_
    refine Ls.ev (some 11) (Ev.move (show Oper.op _ = Op.move (Operand.tmp 30) from rfl) (by rfl)) (by rfl) (by rfl) ?_
    refine Ls.nil ?_
    refine Ent.pick [3, 4, 5, 6] (by rfl) ?_
    refine Ent.inv ((k + 1, q2.1, q2.2)) ?_ ?_ ?_
    · (try dsimp only); exact ⟨by omega, by omega⟩
    · (repeat (first | exact trivial | refine ⟨by rfl, ?_⟩ | refine ⟨by simp only [List.length_append, List.length_cons, List.length_nil]; rfl, ?_⟩ | refine ⟨by push_cast; rfl, ?_⟩ | refine ⟨by (show some (Value.slice _ _ _) = some (Value.slice _ _ _); dsimp only; rw [ha3]), ?_⟩))
    · (show [_, _, _, _] = [_, _, _, _]; dsimp only [rowE]; rw [ha3, ha1, List.flatMap_append])
  · skip
    have hk2 : k = bs.length := by have := of_decide_eq_false h; omega
    subst hk2
    rw [List.take_length]
    refine Cd.exit ?_
    refine Cd.seq ?_
    refine Cd.region ?_
    refine Ls.ev (some 31) (Ev.move (show Oper.op _ = Op.move (Operand.tmp 3) from rfl) (by rfl)) (by rfl) (by rfl) ?_
    refine Ls.ev (some 2) (Ev.assign (show Oper.op _ = Op.assign (Operand.tmp 31) from rfl) (by rfl)) (by rfl) (by rfl) ?_
    refine Ls.nil ?_
    refine Cd.ret ?_
    refine Ent.ret ((oA, oc)) (trivial) (Res.tmp (by rfl) (by rfl)) ?_ [0] (by rfl) ?_
    · rfl
    · rfl
/-- What a reader's block holds. -/
def rdrV (bA : Option Addr) (bn bc : Nat) (xA : Option Addr) (xn xc : Nat) (fA : Option Addr) (fn fc : Nat) (count looked : Int) : List Value := [.slice bA bn bc, .slice xA xn xc, .slice fA fn fc, .int .i64 count, .int .i64 looked]
theorem len_sl (g : Nat) (bA : Option Addr) (bn bc : Nat) (xA : Option Addr) (xn xc : Nat) (fA : Option Addr) (fn fc : Nat) (count looked : Int) :
    Fn Try.prog 17 #[.pointer (some ⟨g, 0, none⟩)] [rblk g 75 (rdrV bA bn bc xA xn xc fA fn fc count looked)] Unit (fun _ => .int .i64 count) (fun _ => []) (fun _ => True) := by
  refine Fn.enter Try.func17 rfl Try.ntmps17 (by rfl) ?_
  intro w0
  skip
  refine Cd.seq ?_
  refine Cd.region ?_
  refine Ls.ev (some 2) (Ev.assign (show Oper.op _ = Op.assign (Operand.const (Value.int IntKind.i64 0)) from rfl) (by rfl)) (by rfl) (by rfl) ?_
  refine Ls.nil ?_
  refine Cd.seq ?_
  refine Cd.region ?_
  refine Ls.ev (some 3) (Ev.move (show Oper.op _ = Op.move (Operand.tmp 0) from rfl) (by rfl)) (by rfl) (by rfl) ?_
  refine Ls.ev (some 4) (Ev.nilCheck (show Oper.op _ = Op.nilCheck (Operand.tmp 3) from rfl) (by rfl)) (by rfl) (by rfl) ?_
  refine Ls.ev (some 5) (Ev.fieldAddr (k := 3) (show Oper.op _ = Op.fieldAddr 75 (Operand.tmp 4) 3 from rfl) (by rfl) (by kernel_rfl) (by rfl)) (by rfl) (by rfl) ?_
  refine Ls.ev (some 6) (Ev.loadB 0 (show Oper.op _ = Op.load 3 (Operand.tmp 5) from rfl) (by rfl) (by rfl) (by kernel_rfl) (by rfl)) (by rfl) (by rfl) ?_
  refine Ls.ev (some 2) (Ev.assign (show Oper.op _ = Op.assign (Operand.tmp 6) from rfl) (by rfl)) (by rfl) (by rfl) ?_
  refine Ls.nil ?_
  refine Cd.ret ?_
  refine Ent.ret (()) (trivial) (Res.tmp (by rfl) (by rfl)) ?_ [] (by rfl) ?_
  · rfl
  · rfl
theorem blocks_sl (g : Nat) (bA : Option Addr) (bn bc : Nat) (xA : Option Addr) (xn xc : Nat) (fA : Option Addr) (fn fc : Nat) (count looked : Int) :
    Fn Try.prog 23 #[.pointer (some ⟨g, 0, none⟩)] [rblk g 75 (rdrV bA bn bc xA xn xc fA fn fc count looked)] Unit (fun _ => .int .i64 looked) (fun _ => []) (fun _ => True) := by
  refine Fn.enter Try.func23 rfl Try.ntmps23 (by rfl) ?_
  intro w0
  skip
  refine Cd.seq ?_
  refine Cd.region ?_
  refine Ls.ev (some 2) (Ev.assign (show Oper.op _ = Op.assign (Operand.const (Value.int IntKind.i64 0)) from rfl) (by rfl)) (by rfl) (by rfl) ?_
  refine Ls.nil ?_
  refine Cd.seq ?_
  refine Cd.region ?_
  refine Ls.ev (some 3) (Ev.move (show Oper.op _ = Op.move (Operand.tmp 0) from rfl) (by rfl)) (by rfl) (by rfl) ?_
  refine Ls.ev (some 4) (Ev.nilCheck (show Oper.op _ = Op.nilCheck (Operand.tmp 3) from rfl) (by rfl)) (by rfl) (by rfl) ?_
  refine Ls.ev (some 5) (Ev.fieldAddr (k := 4) (show Oper.op _ = Op.fieldAddr 75 (Operand.tmp 4) 4 from rfl) (by rfl) (by kernel_rfl) (by rfl)) (by rfl) (by rfl) ?_
  refine Ls.ev (some 6) (Ev.loadB 0 (show Oper.op _ = Op.load 3 (Operand.tmp 5) from rfl) (by rfl) (by rfl) (by kernel_rfl) (by rfl)) (by rfl) (by rfl) ?_
  refine Ls.ev (some 2) (Ev.assign (show Oper.op _ = Op.assign (Operand.tmp 6) from rfl) (by rfl)) (by rfl) (by rfl) ?_
  refine Ls.nil ?_
  refine Cd.ret ?_
  refine Ent.ret (()) (trivial) (Res.tmp (by rfl) (by rfl)) ?_ [] (by rfl) ?_
  · rfl
  · rfl
theorem first_sl (g : Nat) (bA : Option Addr) (bn bc : Nat) (xA : Option Addr) (xc : Nat) (bs : List Bk) (fA : Option Addr) (fn fc : Nat) (count looked : Int) (x : Bk) (hx : bs[0]? = some x) :
    Fn Try.prog 18 #[.pointer (some ⟨g, 0, none⟩)] [rblk g 75 (rdrV bA bn bc xA bs.length xc fA fn fc count looked), rd xA bs.length 4 (bs.flatMap Bk.enc)] Unit (fun _ => .string x.first) (fun _ => []) (fun _ => True) := by
  have hl : 0 < bs.length := (List.getElem?_eq_some_iff.1 hx).1
  refine Fn.enter Try.func18 rfl Try.ntmps18 (by rfl) ?_
  intro w0
  skip
  skip
  refine Ent.rdSome 1 (by rfl) hl (fun ad had => ?_)
  subst had
  refine Cd.seq ?_
  refine Cd.region ?_
  refine Ls.ev (some 2) (Ev.assign (show Oper.op _ = Op.assign (Operand.const (Value.string { data := #[] })) from rfl) (by rfl)) (by rfl) (by rfl) ?_
  refine Ls.nil ?_
  refine Cd.seq ?_
  refine Cd.region ?_
  refine Ls.ev (some 3) (Ev.move (show Oper.op _ = Op.move (Operand.tmp 0) from rfl) (by rfl)) (by rfl) (by rfl) ?_
  refine Ls.ev (some 4) (Ev.nilCheck (show Oper.op _ = Op.nilCheck (Operand.tmp 3) from rfl) (by rfl)) (by rfl) (by rfl) ?_
  refine Ls.ev (some 5) (Ev.fieldAddr (k := 1) (show Oper.op _ = Op.fieldAddr 75 (Operand.tmp 4) 1 from rfl) (by rfl) (by kernel_rfl) (by rfl)) (by rfl) (by rfl) ?_
  refine Ls.ev (some 6) (Ev.loadB 0 (show Oper.op _ = Op.load 73 (Operand.tmp 5) from rfl) (by rfl) (by rfl) (by kernel_rfl) (by rfl)) (by rfl) (by rfl) ?_
  skip
  refine Ls.ev (some 7) (Ev.indexAt (k := 0) (sz := 4) (show Oper.op _ = Op.indexAddr 73 (Operand.tmp 6) (Operand.const (Value.int IntKind.i64 0)) from rfl) (by rfl) (by rfl) Try.underlying73 (by kernel_rfl) (by omega)) (by rfl) (by rfl) ?_
  refine Ls.ev (some 8) (Ev.fieldAddrE0 (k := 0) (show Oper.op _ = Op.fieldAddr 80 (Operand.tmp 7) 0 from rfl) (by rfl) (by kernel_rfl)) (by rfl) (by rfl) ?_
  refine Ls.ev (some 9) (Ev.loadElF (show Oper.op _ = Op.load 9 (Operand.tmp 8) from rfl) (by rfl) (ReadsIn.rd 1 (by rfl)) (by kernel_rfl) (by intro _; rfl) (by assumption) (by rfl)) (by rfl) (by rfl) ?_
  refine Ls.ev (some 2) (Ev.assign (show Oper.op _ = Op.assign (Operand.tmp 9) from rfl) (by rfl)) (by rfl) (by rfl) ?_
  refine Ls.nil ?_
  refine Cd.ret ?_
  refine Ent.ret (()) (trivial) (Res.tmp (by rfl) (by rfl)) ?_ [] (by rfl) ?_
  · rfl
  · rfl
theorem last_sl (g : Nat) (bA : Option Addr) (bn bc : Nat) (xA : Option Addr) (xc : Nat) (bs : List Bk) (fA : Option Addr) (fn fc : Nat) (count looked : Int) (x : Bk) (hn : bs.length ≤ 9223372036854775807) (hx : bs[bs.length - 1]? = some x) :
    Fn Try.prog 19 #[.pointer (some ⟨g, 0, none⟩)] [rblk g 75 (rdrV bA bn bc xA bs.length xc fA fn fc count looked), rd xA bs.length 4 (bs.flatMap Bk.enc)] Unit (fun _ => .string x.last) (fun _ => []) (fun _ => True) := by
  have hl : 0 < bs.length := by have := (List.getElem?_eq_some_iff.1 hx).1; omega
  refine Fn.enter Try.func19 rfl Try.ntmps19 (by rfl) ?_
  intro w0
  skip
  skip
  refine Ent.rdSome 1 (by rfl) hl (fun ad had => ?_)
  subst had
  refine Cd.seq ?_
  refine Cd.region ?_
  refine Ls.ev (some 2) (Ev.assign (show Oper.op _ = Op.assign (Operand.const (Value.string { data := #[] })) from rfl) (by rfl)) (by rfl) (by rfl) ?_
  refine Ls.nil ?_
  refine Cd.seq ?_
  refine Cd.draw [] (by kernel_rfl) ?_
  refine Rg.ev 0 (by rfl) (fun _ h => h) (Ev.move (show Oper.op _ = Op.move (Operand.tmp 0) from rfl) (by rfl)) (by rfl) (some 3) (by rfl) (by kernel_rfl) (by kernel_rfl) (by kernel_rfl) (by kernel_rfl) ?_
  refine Rg.ev 1 (by rfl) (fun _ h => h) (Ev.nilCheck (show Oper.op _ = Op.nilCheck (Operand.tmp 3) from rfl) (by rfl)) (by rfl) (some 4) (by rfl) (by kernel_rfl) (by kernel_rfl) (by kernel_rfl) (by kernel_rfl) ?_
  refine Rg.ev 2 (by rfl) (fun _ h => h) (Ev.fieldAddr (k := 1) (show Oper.op _ = Op.fieldAddr 75 (Operand.tmp 4) 1 from rfl) (by rfl) (by kernel_rfl) (by rfl)) (by rfl) (some 5) (by rfl) (by kernel_rfl) (by kernel_rfl) (by kernel_rfl) (by kernel_rfl) ?_
  refine Rg.ev 3 (by rfl) (fun _ h => h) (Ev.loadB 0 (show Oper.op _ = Op.load 73 (Operand.tmp 5) from rfl) (by rfl) (by rfl) (by kernel_rfl) (by rfl)) (by rfl) (some 6) (by rfl) (by kernel_rfl) (by kernel_rfl) (by kernel_rfl) (by kernel_rfl) ?_
  refine Rg.ev 4 (by rfl) (fun _ h => h) (Ev.move (show Oper.op _ = Op.move (Operand.tmp 0) from rfl) (by rfl)) (by rfl) (some 7) (by rfl) (by kernel_rfl) (by kernel_rfl) (by kernel_rfl) (by kernel_rfl) ?_
  refine Rg.ev 5 (by rfl) (fun _ h => h) (Ev.nilCheck (show Oper.op _ = Op.nilCheck (Operand.tmp 7) from rfl) (by rfl)) (by rfl) (some 8) (by rfl) (by kernel_rfl) (by kernel_rfl) (by kernel_rfl) (by kernel_rfl) ?_
  refine Rg.ev 6 (by rfl) (fun _ h => h) (Ev.fieldAddr (k := 1) (show Oper.op _ = Op.fieldAddr 75 (Operand.tmp 8) 1 from rfl) (by rfl) (by kernel_rfl) (by rfl)) (by rfl) (some 9) (by rfl) (by kernel_rfl) (by kernel_rfl) (by kernel_rfl) (by kernel_rfl) ?_
  refine Rg.ev 7 (by rfl) (fun _ h => h) (Ev.loadB 0 (show Oper.op _ = Op.load 73 (Operand.tmp 9) from rfl) (by rfl) (by rfl) (by kernel_rfl) (by rfl)) (by rfl) (some 10) (by rfl) (by kernel_rfl) (by kernel_rfl) (by kernel_rfl) (by kernel_rfl) ?_
  refine Rg.ev 8 (by rfl) (fun _ h => h) (Ev.len (show Oper.op _ = Op.call { callee := Callee.builtin Builtin.len, args := #[Operand.tmp 10], argTypes := #[73] } from rfl) (by rfl) Try.underlying73) (by rfl) (some 11) (by rfl) (by kernel_rfl) (by kernel_rfl) (by kernel_rfl) (by kernel_rfl) ?_
  refine Rg.ev 9 (by rfl) (fun _ h => h) (Ev.subN (b := 1) (show Oper.op _ = Op.binOp BinOp.sub 3 (Operand.tmp 11) (Operand.const (Value.int IntKind.i64 1)) 3 from rfl) (by rfl) (by rfl) (by omega)) (by rfl) (some 12) (by rfl) (by kernel_rfl) (by kernel_rfl) (by kernel_rfl) (by kernel_rfl) ?_
  refine Rg.ev 10 (by rfl) (fun _ h => h) (Ev.indexAt (sz := 4) (show Oper.op _ = Op.indexAddr 73 (Operand.tmp 6) (Operand.tmp 12) from rfl) (by rfl) (by rfl) Try.underlying73 (by kernel_rfl) (by omega)) (by rfl) (some 13) (by rfl) (by kernel_rfl) (by kernel_rfl) (by kernel_rfl) (by kernel_rfl) ?_
  skip
  refine Rg.ev 11 (by rfl) (fun _ h => h) (Ev.fieldAddrE0 (k := 1) (show Oper.op _ = Op.fieldAddr 80 (Operand.tmp 13) 1 from rfl) (by rfl) (by kernel_rfl)) (by rfl) (some 14) (by rfl) (by kernel_rfl) (by kernel_rfl) (by kernel_rfl) (by kernel_rfl) ?_
  refine Rg.ev 12 (by rfl) (fun _ h => h) (Ev.loadElF (show Oper.op _ = Op.load 9 (Operand.tmp 14) from rfl) (by rfl) (ReadsIn.rd 1 (by rfl)) (by kernel_rfl) (by intro _; rfl) (by assumption) (by rfl)) (by rfl) (some 15) (by rfl) (by kernel_rfl) (by kernel_rfl) (by kernel_rfl) (by kernel_rfl) ?_
  refine Rg.ev 13 (by rfl) (fun _ h => h) (Ev.assign (show Oper.op _ = Op.assign (Operand.tmp 15) from rfl) (by rfl)) (by rfl) (some 2) (by rfl) (by kernel_rfl) (by kernel_rfl) (by kernel_rfl) (by kernel_rfl) ?_
  refine Rg.done (by kernel_rfl) ?_ _
  refine Cd.ret ?_
  refine Ent.ret (()) (trivial) (Res.tmp (by rfl) (by rfl)) ?_ [] (by rfl) ?_
  · rfl
  · rfl
end Go.Proofs.Ytnhcfhamcakfkaa
/- sstable's Reader: Get -/
namespace Go.Proofs.Ytnhcfhamcakfkaa
open Go.RowKit
def hitE (key : ByteArray) (seq : Int) (e : Ety) : Bool := decide (e.key = key) && decide (e.seq ≤ seq)
def bkE (b : List UInt8) (x : Bk) : List Ety := blkR ((b.drop x.at_).take x.size)
/-- What Get finds from a block on, and how many blocks it looks into. -/
def lookB (b : List UInt8) (key : ByteArray) (seq : Int) : List Bk → Option Ety × Nat
  | [] => (none, 0)
  | x :: r => if Op.bytesLess x.last.toList key.toList = true then lookB b key seq r else
    if (!(Op.bytesLess x.first.toList key.toList || (x.first.toList == key.toList))) = true then (none, 0) else
    match (bkE b x).find? (hitE key seq) with
    | some e => (some e, 1)
    | none => ((lookB b key seq r).1, (lookB b key seq r).2 + 1)
def getR (b fil : List UInt8) (bs : List Bk) (key : ByteArray) (seq : Int) : Option Ety × Nat := if mayL fil key.data.toList = true then lookB b key seq bs else (none, 0)
def Ety.zero : Ety := ⟨⟨#[]⟩, 0, false, ⟨#[]⟩⟩
theorem lookB_step {b : List UInt8} {key : ByteArray} {seq : Int} {bs : List Bk} {k : Nat} {x : Bk} (h : bs[k]? = some x) : lookB b key seq (bs.drop k) = if Op.bytesLess x.last.toList key.toList = true then lookB b key seq (bs.drop (k + 1)) else
    if (!(Op.bytesLess x.first.toList key.toList || (x.first.toList == key.toList))) = true then (none, 0) else
    match (bkE b x).find? (hitE key seq) with
    | some e => (some e, 1)
    | none => ((lookB b key seq (bs.drop (k + 1))).1, (lookB b key seq (bs.drop (k + 1))).2 + 1) := by
  obtain ⟨hk, rfl⟩ := List.getElem?_eq_some_iff.1 h
  rw [List.drop_eq_getElem_cons hk, lookB]
theorem lookB_le (b : List UInt8) (key : ByteArray) (seq : Int) (bs : List Bk) : (lookB b key seq bs).2 ≤ bs.length := by
  induction bs with
  | nil => simp [lookB]
  | cons x r ih =>
    rw [lookB, List.length_cons]
    split
    · omega
    · split
      · simp
      · split
        · simp
        · dsimp only; omega
theorem get_sl (g : Nat) (bA : Option Addr) (bc : Nat) (b : List UInt8) (xA : Option Addr) (xc : Nat) (bs : List Bk) (fA : Option Addr) (fc : Nat) (fil : List UInt8) (count looked : Int) (key : ByteArray) (seq : Int) (hc : b.length ≤ bc) (hm : b.length ≤ 140737488355328) (hin : inB b bs) (hf : fil.length ≤ 4096) (hk : key.size ≤ maxLen) (hl : 0 ≤ looked ∧ looked ≤ 4611686018427387904) :
    Fn Try.prog 24 #[.pointer (some ⟨g, 0, none⟩), .string key, .int .i64 seq] [blk g 75 (rdrV bA b.length bc xA bs.length xc fA fil.length fc count looked), rd xA bs.length 4 (bs.flatMap Bk.enc), rdB bA b, rdB fA fil] Unit
      (fun _ => .tuple #[.agg ((getR b fil bs key seq).1.getD Ety.zero).enc.toArray, .bool (getR b fil bs key seq).1.isSome]) (fun _ => [blk g 75 (rdrV bA b.length bc xA bs.length xc fA fil.length fc count (looked + (getR b fil bs key seq).2))]) (fun _ => True) := by
  have hbl := hin.2
  refine Fn.enter Try.func24 rfl Try.ntmps24 (by rfl) ?_
  intro w0
  skip
  refine Cd.seq ?_
  refine Cd.region ?_
  refine Ls.does (some 6) (Does.alloc (cs := [.string ⟨#[]⟩, .int .i64 0, .bool false, .string ⟨#[]⟩]) (show Oper.op _ = Op.alloc 42 from rfl) (ZeroIs.mk (.agg #[.string ⟨#[]⟩, .int .i64 0, .bool false, .string ⟨#[]⟩]) (by kernel_rfl) (by rfl))) (by rfl) (by rfl) ?_
  intro g1 _
  refine Ls.ev (some 7) (Ev.assign (show Oper.op _ = Op.assign (Operand.const (Value.bool false)) from rfl) (by rfl)) (by rfl) (by rfl) ?_
  refine Ls.nil ?_
  refine Cd.scope ?_
  refine Cd.seq ?_
  refine Cd.seq ?_
  refine Cd.region ?_
  refine Ls.ev (some 12) (Ev.move (show Oper.op _ = Op.move (Operand.tmp 0) from rfl) (by rfl)) (by rfl) (by rfl) ?_
  refine Ls.ev (some 13) (Ev.nilCheck (show Oper.op _ = Op.nilCheck (Operand.tmp 12) from rfl) (by rfl)) (by rfl) (by rfl) ?_
  refine Ls.ev (some 14) (Ev.fieldAddr (k := 2) (show Oper.op _ = Op.fieldAddr 75 (Operand.tmp 13) 2 from rfl) (by rfl) (by kernel_rfl) (by rfl)) (by rfl) (by rfl) ?_
  refine Ls.ev (some 15) (Ev.load 1 (show Oper.op _ = Op.load 25 (Operand.tmp 14) from rfl) (by rfl) (by rfl) (by kernel_rfl) (by rfl)) (by rfl) (by rfl) ?_
  refine Ls.ev (some 16) (Ev.move (show Oper.op _ = Op.move (Operand.tmp 1) from rfl) (by rfl)) (by rfl) (by rfl) ?_
  refine Ls.does (some 17) (Does.read (show Oper.op _ = Op.call { callee := Callee.value (Operand.func 52), args := #[Operand.tmp 15, Operand.tmp 16], argTypes := #[25, 9] } from rfl) Try.func52 (by kernel_rfl) (by kernel_rfl) (may_sl fA fc fil key (by unfold maxLen; omega) hk) (by rfl) (by rfl) ⟨ReadsIn.rd 4 (by rfl), trivial⟩) (by rfl) (by rfl) ?_
  rintro _ -
  refine Ls.ev (some 18) (Ev.not (show Oper.op _ = Op.unOp UnOp.not 4 (Operand.tmp 17) from rfl) (by rfl)) (by rfl) (by rfl) ?_
  refine Ls.nil ?_
  refine Cd.cond _ (by rfl) (fun h => ?_) (fun h => ?_)
  · skip
    have h1 : ¬ mayL fil key.data.toList = true := by simpa using h
    have hg : getR b fil bs key seq = (none, 0) := by unfold getR; rw [if_neg h1]
    rw [hg]
    refine Cd.seq ?_
    refine Cd.region ?_
    refine Ls.ev (some 19) (Ev.buildP (pl := [(0, 1), (1, 1), (2, 1), (3, 1)]) (zs := [.string ⟨#[]⟩, .int .i64 0, .bool false, .string ⟨#[]⟩]) (show Oper.op _ = Op.build 42 #[] from rfl) (by rfl) (by kernel_rfl) (by rfl)) (by rfl) (by rfl) ?_
    refine Ls.does none (Does.store 0 (show Oper.op _ = Op.store 42 (Operand.tmp 6) (Operand.tmp 19) from rfl) (by rfl) (by rfl) (by rfl) (by kernel_rfl) (by rfl) (by kernel_rfl) (by rfl)) (by rfl) (by rfl) ?_
    intro _ _
    refine Ls.ev (some 7) (Ev.assign (show Oper.op _ = Op.assign (Operand.const (Value.bool false)) from rfl) (by rfl)) (by rfl) (by rfl) ?_
    refine Ls.nil ?_
    refine Cd.ret ?_
    refine Ent.ret (()) (trivial) (Res.cell_tmp 0 (by rfl) (by rfl) (by rfl) (n := 4) (by kernel_rfl) (by rfl) (by rfl) (by rfl)) ?_ [1] (by rfl) ?_
    · rfl
    · rw [show looked + ((0 : Nat) : Int) = looked by omega]; rfl
  · skip
    have h1 : mayL fil key.data.toList = true := by simpa using h
    have hg : getR b fil bs key seq = lookB b key seq bs := by unfold getR; rw [if_pos h1]
    rw [hg]
    refine Cd.skip ?_
    refine Cd.seq ?_
    refine Cd.label ?_
    refine Cd.seq ?_
    refine Cd.seq ?_
    refine Cd.region ?_
    refine Ls.ev (some 20) (Ev.move (show Oper.op _ = Op.move (Operand.tmp 0) from rfl) (by rfl)) (by rfl) (by rfl) ?_
    refine Ls.ev (some 21) (Ev.nilCheck (show Oper.op _ = Op.nilCheck (Operand.tmp 20) from rfl) (by rfl)) (by rfl) (by rfl) ?_
    refine Ls.ev (some 22) (Ev.fieldAddr (k := 1) (show Oper.op _ = Op.fieldAddr 75 (Operand.tmp 21) 1 from rfl) (by rfl) (by kernel_rfl) (by rfl)) (by rfl) (by rfl) ?_
    refine Ls.ev (some 23) (Ev.load 1 (show Oper.op _ = Op.load 73 (Operand.tmp 22) from rfl) (by rfl) (by rfl) (by kernel_rfl) (by rfl)) (by rfl) (by rfl) ?_
    refine Ls.ev (some 24) (Ev.len (show Oper.op _ = Op.call { callee := Callee.builtin Builtin.len, args := #[Operand.tmp 23], argTypes := #[73] } from rfl) (by rfl) Try.underlying73) (by rfl) (by rfl) ?_
    refine Ls.ev (some 25) (Ev.move (show Oper.op _ = Op.move (Operand.const (Value.int IntKind.i64 0)) from rfl) (by rfl)) (by rfl) (by rfl) ?_
    refine Ls.nil ?_
    refine Cd.block ?_
    refine Ent.pick [0, 1, 2, 3] (by rfl) ?_
    refine Ent.restate [blk g1 42 Ety.zero.enc, blk g 75 (rdrV bA b.length bc xA bs.length xc fA fil.length fc count (looked + ((0 : Nat) : Int))), rd xA bs.length 4 (bs.flatMap Bk.enc), rdB bA b] (by rw [show looked + ((0 : Nat) : Int) = looked by omega]; rfl) ?_
    refine Cd.loop (ι := Nat × Nat) (fun j => [(0, .pointer (some ⟨g, 0, none⟩)), (1, .string key), (2, .int .i64 seq), (6, .pointer (some ⟨g1, 0, none⟩)), (23, .slice xA bs.length xc), (24, .int .i64 bs.length), (25, .int .i64 j.1)]) (fun j => [blk g1 42 Ety.zero.enc, blk g 75 (rdrV bA b.length bc xA bs.length xc fA fil.length fc count (looked + j.2)), rd xA bs.length 4 (bs.flatMap Bk.enc), rdB bA b]) (fun j => j.1 ≤ bs.length ∧ j.2 ≤ j.1 ∧ lookB b key seq bs = ((lookB b key seq (bs.drop j.1)).1, j.2 + (lookB b key seq (bs.drop j.1)).2)) (fun j => bs.length - j.1) ((0, 0)) (⟨Nat.zero_le _, Nat.le_refl _, by simp⟩) ?_ rfl ?_
    · (repeat (first | exact trivial | refine ⟨by rfl, ?_⟩))
    rintro ⟨k, lk⟩ ⟨hk, hlk, hlo⟩
    dsimp only at hk hlk hlo ⊢
    refine Cd.seq ?_
    refine Cd.region ?_
    refine Ls.ev (some 26) (Ev.lss (show Oper.op _ = Op.binOp BinOp.lss 3 (Operand.tmp 25) (Operand.tmp 24) 3 from rfl) (by rfl) (by rfl)) (by rfl) (by rfl) ?_
    refine Ls.nil ?_
    refine Cd.seq ?_
    refine Cd.cond _ (by rfl) (fun h2 => ?_) (fun h2 => ?_)
    · skip
      have hlt : k < bs.length := by have := of_decide_eq_true h2; omega
      obtain ⟨x, hx⟩ := get_of_lt hlt
      have hxb := hin.1 x (List.mem_of_getElem? hx)
      rw [lookB_step hx] at hlo
      refine Ent.rdSome 2 (by rfl) (by omega) (fun ad had => ?_)
      subst had
      refine Cd.skip ?_
      refine Cd.seq ?_
      refine Cd.block ?_
      refine Cd.seq ?_
      refine Cd.region ?_
      refine Ls.ev (some 27) (Ev.indexAt (sz := 4) (show Oper.op _ = Op.indexAddr 73 (Operand.tmp 23) (Operand.tmp 25) from rfl) (by rfl) (by rfl) Try.underlying73 (by kernel_rfl) (by omega)) (by rfl) (by rfl) ?_
      refine Ls.ev (some 28) (Ev.loadEl (show Oper.op _ = Op.load 80 (Operand.tmp 27) from rfl) (by rfl) (ReadsIn.rd 2 (by rfl)) (by kernel_rfl) (by intro _; rfl) (by assumption)) (by rfl) (by rfl) ?_
      refine Ls.does (some 9) (Does.alloc (cs := [.string ⟨#[]⟩, .string ⟨#[]⟩, .int .i64 0, .int .i64 0]) (show Oper.op _ = Op.alloc 80 from rfl) (ZeroIs.mk (.agg #[.string ⟨#[]⟩, .string ⟨#[]⟩, .int .i64 0, .int .i64 0]) (by kernel_rfl) (by rfl))) (by rfl) (by rfl) ?_
      intro g2 _
      refine Ls.does none (Does.store 0 (show Oper.op _ = Op.store 80 (Operand.tmp 9) (Operand.tmp 28) from rfl) (by rfl) (by rfl) (by rfl) (by kernel_rfl) (by rfl) (by kernel_rfl) (by rfl)) (by rfl) (by rfl) ?_
      intro _ _
      refine Ls.nil ?_
      refine Cd.seq ?_
      refine Cd.block ?_
      refine Cd.seq ?_
      refine Cd.region ?_
      refine Ls.ev (some 30) (Ev.fieldAddr (k := 1) (show Oper.op _ = Op.fieldAddr 80 (Operand.tmp 9) 1 from rfl) (by rfl) (by kernel_rfl) (by rfl)) (by rfl) (by rfl) ?_
      refine Ls.ev (some 31) (Ev.load 0 (show Oper.op _ = Op.load 9 (Operand.tmp 30) from rfl) (by rfl) (by rfl) (by kernel_rfl) (by rfl)) (by rfl) (by rfl) ?_
      refine Ls.ev (some 32) (Ev.move (show Oper.op _ = Op.move (Operand.tmp 1) from rfl) (by rfl)) (by rfl) (by rfl) ?_
      refine Ls.ev (some 33) (Ev.lssS (show Oper.op _ = Op.binOp BinOp.lss 9 (Operand.tmp 31) (Operand.tmp 32) 9 from rfl) (by rfl) (by rfl)) (by rfl) (by rfl) ?_
      refine Ls.ev (some 29) (Ev.assign (show Oper.op _ = Op.assign (Operand.tmp 33) from rfl) (by rfl)) (by rfl) (by rfl) ?_
      refine Ls.nil ?_
      refine Cd.cond _ (by rfl) (fun h3 => ?_) (fun h3 => ?_)
      · skip
        rw [if_pos h3] at hlo
        refine Cd.exit ?_
        refine Cd.region ?_
        refine Ls.ev (some 76) (Ev.addN (b := 1) (show Oper.op _ = Op.binOp BinOp.add 3 (Operand.tmp 25) (Operand.const (Value.int IntKind.i64 1)) 3 from rfl) (by rfl) (by rfl) (by omega)) (by rfl) (by rfl) ?_
        refine Ls.ev (some 25) (Ev.move (show Oper.op _ = Op.move (Operand.tmp 76) from rfl) (by rfl)) (by rfl) (by rfl) ?_
        refine Ls.nil ?_
        refine Ent.pick [1, 2, 3, 4] (by rfl) ?_
        refine Ent.inv ((k + 1, lk)) ?_ ?_ ?_
        · (try dsimp only); exact ⟨⟨by omega, by omega, hlo⟩, by omega⟩
        · (repeat (first | exact trivial | refine ⟨by rfl, ?_⟩ | refine ⟨by simp only [List.length_append, List.length_cons, List.length_nil]; rfl, ?_⟩ | refine ⟨by push_cast; rfl, ?_⟩))
        · rfl
      · skip
        rw [if_neg (by rw [h3]; decide)] at hlo
        refine Cd.seq ?_
        refine Cd.region ?_
        refine Ls.ev (some 35) (Ev.fieldAddr (k := 0) (show Oper.op _ = Op.fieldAddr 80 (Operand.tmp 9) 0 from rfl) (by rfl) (by kernel_rfl) (by rfl)) (by rfl) (by rfl) ?_
        refine Ls.ev (some 36) (Ev.load 0 (show Oper.op _ = Op.load 9 (Operand.tmp 35) from rfl) (by rfl) (by rfl) (by kernel_rfl) (by rfl)) (by rfl) (by rfl) ?_
        refine Ls.ev (some 37) (Ev.move (show Oper.op _ = Op.move (Operand.tmp 1) from rfl) (by rfl)) (by rfl) (by rfl) ?_
        refine Ls.ev (some 38) (Ev.gtrS (show Oper.op _ = Op.binOp BinOp.gtr 9 (Operand.tmp 36) (Operand.tmp 37) 9 from rfl) (by rfl) (by rfl)) (by rfl) (by rfl) ?_
        refine Ls.ev (some 34) (Ev.assign (show Oper.op _ = Op.assign (Operand.tmp 38) from rfl) (by rfl)) (by rfl) (by rfl) ?_
        refine Ls.nil ?_
        refine Cd.cond _ (by rfl) (fun h4 => ?_) (fun h4 => ?_)
        · skip
          rw [if_pos h4] at hlo
          refine Cd.exit ?_
          refine Cd.seq ?_
          refine Cd.region ?_
          refine Ls.ev (some 77) (Ev.buildP (pl := [(0, 1), (1, 1), (2, 1), (3, 1)]) (zs := [.string ⟨#[]⟩, .int .i64 0, .bool false, .string ⟨#[]⟩]) (show Oper.op _ = Op.build 42 #[] from rfl) (by rfl) (by kernel_rfl) (by rfl)) (by rfl) (by rfl) ?_
          refine Ls.does none (Does.store 1 (show Oper.op _ = Op.store 42 (Operand.tmp 6) (Operand.tmp 77) from rfl) (by rfl) (by rfl) (by rfl) (by kernel_rfl) (by rfl) (by kernel_rfl) (by rfl)) (by rfl) (by rfl) ?_
          intro _ _
          refine Ls.ev (some 7) (Ev.assign (show Oper.op _ = Op.assign (Operand.const (Value.bool false)) from rfl) (by rfl)) (by rfl) (by rfl) ?_
          refine Ls.nil ?_
          rw [hlo]
          refine Cd.ret ?_
          refine Ent.ret (()) (trivial) (Res.cell_tmp 1 (by rfl) (by rfl) (by rfl) (n := 4) (by kernel_rfl) (by rfl) (by rfl) (by rfl)) ?_ [2] (by rfl) ?_
          · rfl
          · rfl
        · skip
          rw [if_neg (by rw [h4]; decide)] at hlo
          refine Cd.skip ?_
          refine Cd.seq ?_
          refine Cd.region ?_
          refine Ls.ev (some 39) (Ev.move (show Oper.op _ = Op.move (Operand.tmp 0) from rfl) (by rfl)) (by rfl) (by rfl) ?_
          refine Ls.ev (some 40) (Ev.nilCheck (show Oper.op _ = Op.nilCheck (Operand.tmp 39) from rfl) (by rfl)) (by rfl) (by rfl) ?_
          refine Ls.ev (some 41) (Ev.fieldAddr (k := 4) (show Oper.op _ = Op.fieldAddr 75 (Operand.tmp 40) 4 from rfl) (by rfl) (by kernel_rfl) (by rfl)) (by rfl) (by rfl) ?_
          refine Ls.ev (some 42) (Ev.load 2 (show Oper.op _ = Op.load 3 (Operand.tmp 41) from rfl) (by rfl) (by rfl) (by kernel_rfl) (by rfl)) (by rfl) (by rfl) ?_
          refine Ls.ev (some 43) (Ev.addI (show Oper.op _ = Op.binOp BinOp.add 3 (Operand.tmp 42) (Operand.const (Value.int IntKind.i64 1)) 3 from rfl) (by rfl) (by rfl) (by omega)) (by rfl) (by rfl) ?_
          refine Ls.ev (some 44) (Ev.nilCheck (show Oper.op _ = Op.nilCheck (Operand.tmp 39) from rfl) (by rfl)) (by rfl) (by rfl) ?_
          refine Ls.ev (some 45) (Ev.fieldAddr (k := 4) (show Oper.op _ = Op.fieldAddr 75 (Operand.tmp 44) 4 from rfl) (by rfl) (by kernel_rfl) (by rfl)) (by rfl) (by rfl) ?_
          refine Ls.does none (Does.store 2 (show Oper.op _ = Op.store 3 (Operand.tmp 45) (Operand.tmp 43) from rfl) (by rfl) (by rfl) (by rfl) (by kernel_rfl) (by rfl) (by kernel_rfl) (by rfl)) (by rfl) (by rfl) ?_
          intro _ _
          refine Ls.nil ?_
          refine Cd.seq ?_
          refine Ent.cutB 4 x.at_ (x.at_ + x.size) bc (by rfl) ⟨by omega, hxb, by omega⟩ ?_
          refine Cd.draw [] (by kernel_rfl) ?_
          refine Rg.ev 0 (by rfl) (fun _ h => h) (Ev.move (show Oper.op _ = Op.move (Operand.tmp 0) from rfl) (by rfl)) (by rfl) (some 46) (by rfl) (by kernel_rfl) (by kernel_rfl) (by kernel_rfl) (by kernel_rfl) ?_
          refine Rg.ev 1 (by rfl) (fun _ h => h) (Ev.nilCheck (show Oper.op _ = Op.nilCheck (Operand.tmp 46) from rfl) (by rfl)) (by rfl) (some 47) (by rfl) (by kernel_rfl) (by kernel_rfl) (by kernel_rfl) (by kernel_rfl) ?_
          refine Rg.ev 2 (by rfl) (fun _ h => h) (Ev.fieldAddr (k := 0) (show Oper.op _ = Op.fieldAddr 75 (Operand.tmp 47) 0 from rfl) (by rfl) (by kernel_rfl) (by rfl)) (by rfl) (some 48) (by rfl) (by kernel_rfl) (by kernel_rfl) (by kernel_rfl) (by kernel_rfl) ?_
          refine Rg.ev 3 (by rfl) (fun _ h => h) (Ev.load 3 (show Oper.op _ = Op.load 25 (Operand.tmp 48) from rfl) (by rfl) (by rfl) (by kernel_rfl) (by rfl)) (by rfl) (some 49) (by rfl) (by kernel_rfl) (by kernel_rfl) (by kernel_rfl) (by kernel_rfl) ?_
          refine Rg.ev 4 (by rfl) (fun _ h => h) (Ev.fieldAddr (k := 2) (show Oper.op _ = Op.fieldAddr 80 (Operand.tmp 9) 2 from rfl) (by rfl) (by kernel_rfl) (by rfl)) (by rfl) (some 50) (by rfl) (by kernel_rfl) (by kernel_rfl) (by kernel_rfl) (by kernel_rfl) ?_
          refine Rg.ev 5 (by rfl) (fun _ h => h) (Ev.load 1 (show Oper.op _ = Op.load 3 (Operand.tmp 50) from rfl) (by rfl) (by rfl) (by kernel_rfl) (by rfl)) (by rfl) (some 51) (by rfl) (by kernel_rfl) (by kernel_rfl) (by kernel_rfl) (by kernel_rfl) ?_
          refine Rg.ev 6 (by rfl) (fun _ h => h) (Ev.fieldAddr (k := 2) (show Oper.op _ = Op.fieldAddr 80 (Operand.tmp 9) 2 from rfl) (by rfl) (by kernel_rfl) (by rfl)) (by rfl) (some 52) (by rfl) (by kernel_rfl) (by kernel_rfl) (by kernel_rfl) (by kernel_rfl) ?_
          refine Rg.ev 7 (by rfl) (fun _ h => h) (Ev.load 1 (show Oper.op _ = Op.load 3 (Operand.tmp 52) from rfl) (by rfl) (by rfl) (by kernel_rfl) (by rfl)) (by rfl) (some 53) (by rfl) (by kernel_rfl) (by kernel_rfl) (by kernel_rfl) (by kernel_rfl) ?_
          refine Rg.ev 8 (by rfl) (fun _ h => h) (Ev.fieldAddr (k := 3) (show Oper.op _ = Op.fieldAddr 80 (Operand.tmp 9) 3 from rfl) (by rfl) (by kernel_rfl) (by rfl)) (by rfl) (some 54) (by rfl) (by kernel_rfl) (by kernel_rfl) (by kernel_rfl) (by kernel_rfl) ?_
          refine Rg.ev 9 (by rfl) (fun _ h => h) (Ev.load 1 (show Oper.op _ = Op.load 3 (Operand.tmp 54) from rfl) (by rfl) (by rfl) (by kernel_rfl) (by rfl)) (by rfl) (some 55) (by rfl) (by kernel_rfl) (by kernel_rfl) (by kernel_rfl) (by kernel_rfl) ?_
          refine Rg.ev 10 (by rfl) (fun _ h => h) (Ev.addN (show Oper.op _ = Op.binOp BinOp.add 3 (Operand.tmp 53) (Operand.tmp 55) 3 from rfl) (by rfl) (by rfl) (by omega)) (by rfl) (some 56) (by rfl) (by kernel_rfl) (by kernel_rfl) (by kernel_rfl) (by kernel_rfl) ?_
          refine Rg.ev 11 (by rfl) (fun _ h => h) (Ev.cutB (lo := x.at_) (hi := x.at_ + x.size) (show Oper.op _ = Op.slice 25 (Operand.tmp 49) (some (Operand.tmp 51)) (some (Operand.tmp 56)) none from rfl) (by rfl) (by rfl) (by rfl) Try.underlying25 (by kernel_rfl) ⟨by omega, hxb, hc⟩) (by rfl) (some 57) (by rfl) (by kernel_rfl) (by kernel_rfl) (by kernel_rfl) (by kernel_rfl) ?_
          refine Rg.ev 14 (by rfl) (fun _ h => h) (Ev.move (show Oper.op _ = Op.move (Operand.const (Value.int IntKind.i64 0)) from rfl) (by rfl)) (by rfl) (some 60) (by rfl) (by kernel_rfl) (by kernel_rfl) (by kernel_rfl) (by kernel_rfl) ?_
          refine Rg.does 12 (by rfl) (by kernel_rfl) (Does.readN (show Oper.op _ = Op.call { callee := Callee.value (Operand.func 49), args := #[Operand.tmp 57], argTypes := #[25] } from rfl) Try.func49 (by kernel_rfl) (by kernel_rfl) (entries_sl (cutA bA bc x.at_ 1) (bc - x.at_) ((b.drop x.at_).take (x.at_ + x.size - x.at_)) (by rw [List.length_take, List.length_drop]; omega) (by rw [List.length_take, List.length_drop]; unfold maxLen; omega)) (by rfl) (by rfl) ⟨ReadsIn.rd 0 (by rfl), trivial⟩ (fun _ => by rfl)) (by rfl) (some 58) (by rfl) (fun _ _ h => h.tail_) ?_
          rw [Nat.add_sub_cancel_left]
          intro p _
          have hel := blkR_len ((b.drop x.at_).take x.size)
          revert hlo hel
          unfold bkE
          generalize blkR ((b.drop x.at_).take x.size) = es
          intro hlo hel
          refine Rg.ev 13 (by rfl) (fun _ h => h) (Ev.len (show Oper.op _ = Op.call { callee := Callee.builtin Builtin.len, args := #[Operand.tmp 58], argTypes := #[22] } from rfl) (by rfl) Try.underlying22) (by rfl) (some 59) (by rfl) (by kernel_rfl) (by kernel_rfl) (by kernel_rfl) (by kernel_rfl) ?_
          refine Rg.done (by kernel_rfl) ?_ _
          refine Cd.block ?_
          refine Ent.pick [0, 3, 4, 5, 6] (by rfl) ?_
          refine Cd.loop (ι := Nat) (fun m => [(0, .pointer (some ⟨g, 0, none⟩)), (1, .string key), (2, .int .i64 seq), (6, .pointer (some ⟨g1, 0, none⟩)), (23, .slice (some ad) bs.length xc), (24, .int .i64 bs.length), (25, .int .i64 k), (58, .slice p.1 es.length p.2), (59, .int .i64 es.length), (60, .int .i64 m)]) (fun _ => [rowE p.1 p.2 es, blk g1 42 Ety.zero.enc, blk g 75 (rdrV bA b.length bc (some ad) bs.length xc fA fil.length fc count (looked + lk + 1)), rd (some ad) bs.length 4 (bs.flatMap Bk.enc), rdB bA b]) (fun m => m ≤ es.length ∧ es.find? (hitE key seq) = (es.drop m).find? (hitE key seq)) (fun m => es.length - m) (0) (⟨Nat.zero_le _, rfl⟩) ?_ rfl ?_
          · (repeat (first | exact trivial | refine ⟨by rfl, ?_⟩))
          intro m ⟨hm2, hfd⟩
          refine Cd.seq ?_
          refine Cd.region ?_
          refine Ls.ev (some 61) (Ev.lss (show Oper.op _ = Op.binOp BinOp.lss 3 (Operand.tmp 60) (Operand.tmp 59) 3 from rfl) (by rfl) (by rfl)) (by rfl) (by rfl) ?_
          refine Ls.nil ?_
          refine Cd.seq ?_
          refine Cd.cond _ (by rfl) (fun h5 => ?_) (fun h5 => ?_)
          · skip
            have hml : m < es.length := by have := of_decide_eq_true h5; omega
            obtain ⟨e, he⟩ := get_of_lt hml
            have hdr : es.drop m = e :: es.drop (m + 1) := by
              obtain ⟨h6, rfl⟩ := List.getElem?_eq_some_iff.1 he
              exact List.drop_eq_getElem_cons h6
            rw [hdr, List.find?_cons] at hfd
            refine Ent.rowSome 0 (by rfl) (by omega) (fun ad2 had2 => ?_)
            rw [had2]
            refine Cd.skip ?_
            refine Cd.seq ?_
            refine Cd.block ?_
            refine Cd.seq ?_
            refine Cd.region ?_
            refine Ls.ev (some 62) (Ev.indexAt (sz := 4) (show Oper.op _ = Op.indexAddr 22 (Operand.tmp 58) (Operand.tmp 60) from rfl) (by rfl) (by rfl) Try.underlying22 (by kernel_rfl) (by omega)) (by rfl) (by rfl) ?_
            refine Ls.ev (some 63) (Ev.loadEl (show Oper.op _ = Op.load 42 (Operand.tmp 62) from rfl) (by rfl) (ReadsIn.row 0 (by rfl)) (by kernel_rfl) (by intro _; rfl) (by assumption)) (by rfl) (by rfl) ?_
            refine Ls.does (some 11) (Does.alloc (cs := [.string ⟨#[]⟩, .int .i64 0, .bool false, .string ⟨#[]⟩]) (show Oper.op _ = Op.alloc 42 from rfl) (ZeroIs.mk (.agg #[.string ⟨#[]⟩, .int .i64 0, .bool false, .string ⟨#[]⟩]) (by kernel_rfl) (by rfl))) (by rfl) (by rfl) ?_
            intro g3 _
            refine Ls.does none (Does.store 0 (show Oper.op _ = Op.store 42 (Operand.tmp 11) (Operand.tmp 63) from rfl) (by rfl) (by rfl) (by rfl) (by kernel_rfl) (by rfl) (by kernel_rfl) (by rfl)) (by rfl) (by rfl) ?_
            intro _ _
            refine Ls.nil ?_
            refine Cd.seq ?_
            refine Cd.cut (ι := Unit) (fun _ => [(0, .pointer (some ⟨g, 0, none⟩)), (1, .string key), (2, .int .i64 seq), (6, .pointer (some ⟨g1, 0, none⟩)), (11, .pointer (some ⟨g3, 0, none⟩)), (23, .slice (some ad) bs.length xc), (24, .int .i64 bs.length), (25, .int .i64 k), (58, .slice (some ad2) es.length p.2), (59, .int .i64 es.length), (60, .int .i64 m), (73, .bool (hitE key seq e))]) (fun _ => [blk g3 42 e.enc, rowE (some ad2) p.2 es, blk g1 42 Ety.zero.enc, blk g 75 (rdrV bA b.length bc (some ad) bs.length xc fA fil.length fc count (looked + lk + 1)), rd (some ad) bs.length 4 (bs.flatMap Bk.enc), rdB bA b]) (fun _ => True) ?_ ?_
            · skip
              refine Cd.region ?_
              refine Ls.ev (some 64) (Ev.fieldAddr (k := 0) (show Oper.op _ = Op.fieldAddr 42 (Operand.tmp 11) 0 from rfl) (by rfl) (by kernel_rfl) (by rfl)) (by rfl) (by rfl) ?_
              refine Ls.ev (some 65) (Ev.load 0 (show Oper.op _ = Op.load 9 (Operand.tmp 64) from rfl) (by rfl) (by rfl) (by kernel_rfl) (by rfl)) (by rfl) (by rfl) ?_
              refine Ls.ev (some 66) (Ev.move (show Oper.op _ = Op.move (Operand.tmp 1) from rfl) (by rfl)) (by rfl) (by rfl) ?_
              refine Ls.ev (some 67) (Ev.eqlS (show Oper.op _ = Op.binOp BinOp.eql 9 (Operand.tmp 65) (Operand.tmp 66) 9 from rfl) (by rfl) (by rfl)) (by rfl) (by rfl) ?_
              refine Ls.ev (some 68) (Ev.move (show Oper.op _ = Op.move (Operand.tmp 67) from rfl) (by rfl)) (by rfl) (by rfl) ?_
              refine Ent.split 68 (by rfl) (fun h6 => ?_) (fun h6 => ?_)
              · skip
                refine Ls.pass (some 69) (by rfl) (by rfl) ?_
                refine Ls.pass (some 70) (by rfl) (by rfl) ?_
                refine Ls.pass (some 71) (by rfl) (by rfl) ?_
                refine Ls.pass (some 72) (by rfl) (by rfl) ?_
                refine Ls.ev (some 73) (Ev.pickF (show Oper.op _ = Op.pick (Operand.tmp 68) (Operand.tmp 72) (Operand.const (Value.bool false)) from rfl) (by rfl) (by rfl)) (by rfl) (by rfl) ?_
                refine Ls.nil ?_
                refine Ent.inv (()) ?_ ?_ ?_
                · (try dsimp only); skip
                · (repeat (first | exact trivial | refine ⟨by rfl, ?_⟩ | refine ⟨by simp only [List.length_append, List.length_cons, List.length_nil]; rfl, ?_⟩ | refine ⟨by push_cast; rfl, ?_⟩ | refine ⟨by (show some (Value.bool _) = some (Value.bool _); unfold hitE; rw [h6]; rfl), ?_⟩))
                · rfl
              · skip
                refine Ls.ev (some 69) (Ev.fieldAddr (k := 1) (show Oper.op _ = Op.fieldAddr 42 (Operand.tmp 11) 1 from rfl) (by rfl) (by kernel_rfl) (by rfl)) (by rfl) (by rfl) ?_
                refine Ls.ev (some 70) (Ev.load 0 (show Oper.op _ = Op.load 3 (Operand.tmp 69) from rfl) (by rfl) (by rfl) (by kernel_rfl) (by rfl)) (by rfl) (by rfl) ?_
                refine Ls.ev (some 71) (Ev.move (show Oper.op _ = Op.move (Operand.tmp 2) from rfl) (by rfl)) (by rfl) (by rfl) ?_
                refine Ls.ev (some 72) (Ev.leq (show Oper.op _ = Op.binOp BinOp.leq 3 (Operand.tmp 70) (Operand.tmp 71) 3 from rfl) (by rfl) (by rfl)) (by rfl) (by rfl) ?_
                refine Ls.ev (some 73) (Ev.pickT (show Oper.op _ = Op.pick (Operand.tmp 68) (Operand.tmp 72) (Operand.const (Value.bool false)) from rfl) (by rfl) (by rfl)) (by rfl) (by rfl) ?_
                refine Ls.nil ?_
                refine Ent.inv (()) ?_ ?_ ?_
                · (try dsimp only); skip
                · (repeat (first | exact trivial | refine ⟨by rfl, ?_⟩ | refine ⟨by simp only [List.length_append, List.length_cons, List.length_nil]; rfl, ?_⟩ | refine ⟨by push_cast; rfl, ?_⟩ | refine ⟨by (show some (Value.bool _) = some (Value.bool _); unfold hitE; rw [h6]; rfl), ?_⟩))
                · rfl
            skip
            rintro _ -
            refine Cd.cond _ (by rfl) (fun h6 => ?_) (fun h6 => ?_)
            · skip
              rw [h6] at hfd
              rw [hfd] at hlo
              refine Cd.seq ?_
              refine Cd.region ?_
              refine Ls.ev (some 74) (Ev.loads 0 (show Oper.op _ = Op.load 42 (Operand.tmp 11) from rfl) (by rfl) (by rfl) (n := 4) (by kernel_rfl) (by rfl) (by rfl)) (by rfl) (by rfl) ?_
              refine Ls.does none (Does.store 2 (show Oper.op _ = Op.store 42 (Operand.tmp 6) (Operand.tmp 74) from rfl) (by rfl) (by rfl) (by rfl) (by kernel_rfl) (by rfl) (by kernel_rfl) (by rfl)) (by rfl) (by rfl) ?_
              intro _ _
              refine Ls.ev (some 7) (Ev.assign (show Oper.op _ = Op.assign (Operand.const (Value.bool true)) from rfl) (by rfl)) (by rfl) (by rfl) ?_
              refine Ls.nil ?_
              rw [hlo]
              refine Cd.ret ?_
              refine Ent.ret (()) (trivial) (Res.cell_tmp 2 (by rfl) (by rfl) (by rfl) (n := 4) (by kernel_rfl) (by rfl) (by rfl) (by rfl)) ?_ [3] (by rfl) ?_
              · rfl
              · rw [show ((lk + 1 : Nat) : Int) = lk + 1 by omega, ← Int.add_assoc]; rfl
            · skip
              rw [h6] at hfd
              refine Cd.skip ?_
              refine Cd.region ?_
              refine Ls.ev (some 75) (Ev.addN (b := 1) (show Oper.op _ = Op.binOp BinOp.add 3 (Operand.tmp 60) (Operand.const (Value.int IntKind.i64 1)) 3 from rfl) (by rfl) (by rfl) (by omega)) (by rfl) (by rfl) ?_
              refine Ls.ev (some 60) (Ev.move (show Oper.op _ = Op.move (Operand.tmp 75) from rfl) (by rfl)) (by rfl) (by rfl) ?_
              refine Ls.nil ?_
              refine Ent.pick [1, 2, 3, 4, 5] (by rfl) ?_
              rw [← had2]
              refine Ent.inv (m + 1) ?_ ?_ ?_
              · (try dsimp only); exact ⟨⟨by omega, hfd⟩, by omega⟩
              · (repeat (first | exact trivial | refine ⟨by rfl, ?_⟩ | refine ⟨by simp only [List.length_append, List.length_cons, List.length_nil]; rfl, ?_⟩ | refine ⟨by push_cast; rfl, ?_⟩))
              · rfl
          · skip
            have hml : m = es.length := by have := of_decide_eq_false h5; omega
            subst hml
            rw [List.drop_length] at hfd
            rw [hfd] at hlo
            refine Cd.exit ?_
            refine Cd.region ?_
            refine Ls.ev (some 76) (Ev.addN (b := 1) (show Oper.op _ = Op.binOp BinOp.add 3 (Operand.tmp 25) (Operand.const (Value.int IntKind.i64 1)) 3 from rfl) (by rfl) (by rfl) (by omega)) (by rfl) (by rfl) ?_
            refine Ls.ev (some 25) (Ev.move (show Oper.op _ = Op.move (Operand.tmp 76) from rfl) (by rfl)) (by rfl) (by rfl) ?_
            refine Ls.nil ?_
            refine Ent.pick [1, 2, 3, 4] (by rfl) ?_
            refine Ent.inv ((k + 1, lk + 1)) ?_ ?_ ?_
            · (try dsimp only); exact ⟨⟨by omega, by omega, by rw [hlo]; dsimp only [List.find?_nil]; congr 1; omega⟩, by omega⟩
            · (repeat (first | exact trivial | refine ⟨by rfl, ?_⟩ | refine ⟨by simp only [List.length_append, List.length_cons, List.length_nil]; rfl, ?_⟩ | refine ⟨by push_cast; rfl, ?_⟩))
            · (show [_, _, _, _] = [_, _, _, _]; dsimp only; rw [show ((lk + 1 : Nat) : Int) = lk + 1 by omega, ← Int.add_assoc])
    · skip
      have hk2 : k = bs.length := by have := of_decide_eq_false h2; omega
      subst hk2
      rw [List.drop_length] at hlo
      refine Cd.exit ?_
      refine Cd.seq ?_
      refine Cd.region ?_
      refine Ls.ev (some 77) (Ev.buildP (pl := [(0, 1), (1, 1), (2, 1), (3, 1)]) (zs := [.string ⟨#[]⟩, .int .i64 0, .bool false, .string ⟨#[]⟩]) (show Oper.op _ = Op.build 42 #[] from rfl) (by rfl) (by kernel_rfl) (by rfl)) (by rfl) (by rfl) ?_
      refine Ls.does none (Does.store 0 (show Oper.op _ = Op.store 42 (Operand.tmp 6) (Operand.tmp 77) from rfl) (by rfl) (by rfl) (by rfl) (by kernel_rfl) (by rfl) (by kernel_rfl) (by rfl)) (by rfl) (by rfl) ?_
      intro _ _
      refine Ls.ev (some 7) (Ev.assign (show Oper.op _ = Op.assign (Operand.const (Value.bool false)) from rfl) (by rfl)) (by rfl) (by rfl) ?_
      refine Ls.nil ?_
      rw [hlo]
      refine Cd.ret ?_
      refine Ent.ret (()) (trivial) (Res.cell_tmp 0 (by rfl) (by rfl) (by rfl) (n := 4) (by kernel_rfl) (by rfl) (by rfl) (by rfl)) ?_ [1] (by rfl) ?_
      · rfl
      · rfl
end Go.Proofs.Ytnhcfhamcakfkaa
/- sstable.Build over pieces -/
namespace Go.Proofs.Ytnhcfhamcakfkaa
open Go.RowKit
/-- What the loop over the blocks holds: the bytes so far, the index, the keys. -/
structure BuL where
  oA : Option Addr
  oc : Nat
  xA : Option Addr
  xc : Nat
  kA : Option Addr
  kc : Nat
def buS (l : List Ety) (g5 g6 g7 g8 : Nat) (k : Nat) (i : BuL) : List Chunk :=
  [blk g5 25 [.slice i.oA (outK l k).length i.oc], blk g6 25 [.slice i.xA (idxK l k).length i.xc], blk g7 44 [.slice i.kA (keyT l (3 * k)).length i.kc], blk g8 3 [.int .i64 k],
    rowB i.oA i.oc (outK l k), rowB i.xA i.xc (idxK l k), row i.kA (keyT l (3 * k)).length i.kc 9 1 (strs (keyT l (3 * k)))]
theorem build_bad (A : Option Addr) (c : Nat) (l : List Ety) (hn : l.length ≤ 8796093022207) (h : errL l ≠ 0) : Fn Try.prog 10 #[.slice A l.length c] [rdE A l] Unit (fun _ => .tuple #[.slice none 0 0, .int .i64 (errL l)]) (fun _ => []) (fun _ => True) := by
  refine Fn.enterM Try.func10 rfl Try.ntmps10 (by rfl) ?_
  intro w0
  refine Cd.seq ?_
  refine Cd.region ?_
  refine Ls.ev (some 2) (Ev.assign (show Oper.op _ = Op.assign (Operand.const (Value.slice none 0 0)) from rfl) (by rfl)) (by rfl) (by rfl) ?_
  refine Ls.ev (some 3) (Ev.assign (show Oper.op _ = Op.assign (Operand.const (Value.int IntKind.i64 0)) from rfl) (by rfl)) (by rfl) (by rfl) ?_
  refine Ls.nil ?_
  refine Cd.seq ?_
  refine Cd.seq ?_
  refine Cd.region ?_
  refine Ls.ev (some 21) (Ev.move (show Oper.op _ = Op.move (Operand.tmp 0) from rfl) (by rfl)) (by rfl) (by rfl) ?_
  refine Ls.does (some 22) (Does.read (show Oper.op _ = Op.call { callee := Callee.value (Operand.func 27), args := #[Operand.tmp 21], argTypes := #[22] } from rfl) Try.func27 (by kernel_rfl) (by kernel_rfl) (look_sl A c l hn) (by rfl) (by rfl) ⟨ReadsIn.rd 0 (by rfl), trivial⟩) (by rfl) (by rfl) ?_
  rintro _ -
  refine Ls.ev (some 4) (Ev.assign (show Oper.op _ = Op.assign (Operand.tmp 22) from rfl) (by rfl)) (by rfl) (by rfl) ?_
  refine Ls.nil ?_
  refine Cd.seq ?_
  refine Cd.region ?_
  refine Ls.ev (some 23) (Ev.move (show Oper.op _ = Op.move (Operand.tmp 4) from rfl) (by rfl)) (by rfl) (by rfl) ?_
  refine Ls.ev (some 24) (Ev.neq (show Oper.op _ = Op.binOp BinOp.neq 26 (Operand.tmp 23) (Operand.const (Value.int IntKind.i64 0)) 26 from rfl) (by rfl) (by rfl)) (by rfl) (by rfl) ?_
  refine Ls.nil ?_
  refine Cd.cond_true (by rfl) (decide_eq_true h) ?_
  refine Cd.seq ?_
  refine Cd.region ?_
  refine Ls.ev (some 25) (Ev.move (show Oper.op _ = Op.move (Operand.tmp 4) from rfl) (by rfl)) (by rfl) (by rfl) ?_
  refine Ls.ev (some 2) (Ev.assign (show Oper.op _ = Op.assign (Operand.const (Value.slice none 0 0)) from rfl) (by rfl)) (by rfl) (by rfl) ?_
  refine Ls.ev (some 3) (Ev.assign (show Oper.op _ = Op.assign (Operand.tmp 25) from rfl) (by rfl)) (by rfl) (by rfl) ?_
  refine Ls.nil ?_
  refine Cd.ret ?_
  refine Ent.retM [] (by rfl) (()) (trivial) (Res.tmp2 (by rfl) (by rfl) (by rfl)) ?_ [] (by rfl) ?_
  · rfl
  · rfl
set_option maxHeartbeats 1000000 in
theorem build_sl (A : Option Addr) (c : Nat) (l : List Ety) (hcap : l.length ≤ c) (h : errL l = 0) : Fn Try.prog 10 #[.slice A l.length c] [rdE A l] (Option Addr × Nat) (fun p => .tuple #[.slice p.1 (tabL l).length p.2, .int .i64 0]) (fun p => [rowB p.1 p.2 (tabL l)]) (fun _ => True) := by
  have hg := good_of h
  have hle := hg.le
  have hpos := hg.pos
  have hnb := hg.nb_le
  refine Fn.enterM Try.func10 rfl Try.ntmps10 (by rfl) ?_
  intro w0
  skip
  refine Cd.seq ?_
  refine Cd.region ?_
  refine Ls.ev (some 2) (Ev.assign (show Oper.op _ = Op.assign (Operand.const (Value.slice none 0 0)) from rfl) (by rfl)) (by rfl) (by rfl) ?_
  refine Ls.ev (some 3) (Ev.assign (show Oper.op _ = Op.assign (Operand.const (Value.int IntKind.i64 0)) from rfl) (by rfl)) (by rfl) (by rfl) ?_
  refine Ls.nil ?_
  refine Cd.seq ?_
  refine Cd.seq ?_
  refine Cd.region ?_
  refine Ls.ev (some 21) (Ev.move (show Oper.op _ = Op.move (Operand.tmp 0) from rfl) (by rfl)) (by rfl) (by rfl) ?_
  refine Ls.does (some 22) (Does.read (show Oper.op _ = Op.call { callee := Callee.value (Operand.func 27), args := #[Operand.tmp 21], argTypes := #[22] } from rfl) Try.func27 (by kernel_rfl) (by kernel_rfl) (look_sl A c l (by omega)) (by rfl) (by rfl) ⟨ReadsIn.rd 0 (by rfl), trivial⟩) (by rfl) (by rfl) ?_
  rintro _ -
  refine Ls.ev (some 4) (Ev.assign (show Oper.op _ = Op.assign (Operand.tmp 22) from rfl) (by rfl)) (by rfl) (by rfl) ?_
  refine Ls.nil ?_
  refine Cd.seq ?_
  refine Cd.region ?_
  refine Ls.ev (some 23) (Ev.move (show Oper.op _ = Op.move (Operand.tmp 4) from rfl) (by rfl)) (by rfl) (by rfl) ?_
  refine Ls.ev (some 24) (Ev.neq (show Oper.op _ = Op.binOp BinOp.neq 26 (Operand.tmp 23) (Operand.const (Value.int IntKind.i64 0)) 26 from rfl) (by rfl) (by rfl)) (by rfl) (by rfl) ?_
  refine Ls.nil ?_
  refine Cd.cond_false (by rfl) (by simpa using h) ?_
  refine Cd.skip ?_
  refine Cd.seq ?_
  refine Cd.region ?_
  refine Ls.does (some 5) (Does.alloc (cs := [.slice none 0 0]) (show Oper.op _ = Op.alloc 25 from rfl) (ZeroIs.mk (.slice none 0 0) (by kernel_rfl) (by rfl))) (by rfl) (by rfl) ?_
  intro g1 _
  refine Ls.does (some 6) (Does.alloc (cs := [.slice none 0 0]) (show Oper.op _ = Op.alloc 25 from rfl) (ZeroIs.mk (.slice none 0 0) (by kernel_rfl) (by rfl))) (by rfl) (by rfl) ?_
  intro g2 _
  refine Ls.nil ?_
  refine Cd.seq ?_
  refine Cd.region ?_
  refine Ls.does (some 7) (Does.alloc (cs := [.slice none 0 0]) (show Oper.op _ = Op.alloc 44 from rfl) (ZeroIs.mk (.slice none 0 0) (by kernel_rfl) (by rfl))) (by rfl) (by rfl) ?_
  intro g3 _
  refine Ls.nil ?_
  refine Cd.seq ?_
  refine Cd.region ?_
  refine Ls.does (some 8) (Does.alloc (cs := [.int .i64 0]) (show Oper.op _ = Op.alloc 3 from rfl) (ZeroIs.mk (.int .i64 0) (by kernel_rfl) (by rfl))) (by rfl) (by rfl) ?_
  intro g4 _
  refine Ls.does none (Does.store 0 (show Oper.op _ = Op.store 3 (Operand.tmp 8) (Operand.const (Value.int IntKind.i64 0)) from rfl) (by rfl) (by rfl) (by rfl) (by kernel_rfl) (by rfl) (by kernel_rfl) (by rfl)) (by rfl) (by rfl) ?_
  intro _ _
  refine Ls.nil ?_
  refine Cd.seq ?_
  refine Cd.seq ?_
  refine Cd.region ?_
  refine Ls.ev (some 26) (Ev.move (show Oper.op _ = Op.move (Operand.tmp 0) from rfl) (by rfl)) (by rfl) (by rfl) ?_
  refine Ent.rdSome 4 (by rfl) (by omega) (fun ad had => ?_)
  subst had
  refine Ls.does (some 27) (Does.call [0, 1, 2, 3, 4] (show Oper.op _ = Op.call { callee := Callee.value (Operand.func 28), args := #[Operand.tmp 26, Operand.const (Value.int IntKind.i64 3)], argTypes := #[22, 3] } from rfl) Try.func28 (by kernel_rfl) (by kernel_rfl) (chunk_sl (some ad) l.length c) (by rfl) (by rfl) (by rfl)) (by rfl) (by rfl) ?_
  intro p _
  refine Ls.nil ?_
  refine Cd.block ?_
  refine Ent.nil 9 1 (Ent.nil 5 1 (Ent.nil 5 1 ?_))
  refine Ent.pick [8, 7, 6, 5, 0, 1, 2, 9, 3, 4] (by rfl) ?_
  refine Cd.range (ι := BuL) (γ := Unit) ([blk p.2 3 [.int .i64 3], blk p.1 22 [.slice (some ad) l.length c]]) ([rdE (some ad) l]) ([]) (fun (x : Nat) _ => [(5, .pointer (some ⟨g1, 0, none⟩)), (6, .pointer (some ⟨g2, 0, none⟩)), (7, .pointer (some ⟨g3, 0, none⟩)), (8, .pointer (some ⟨g4, 0, none⟩)), (9, .slice (some (ad.add (3 * x * 4))) (blkN l.length x) (blkN l.length x))]) (fun _ _ => []) (fun pre i => buS l g1 g2 g3 g4 pre.length i) (fun pre i => buS l g1 g2 g3 g4 pre.length i) (fun pre _ => pre.length ≤ nbE l) (fun _ _ _ => False) (⟨none, 0, none, 0, none, 0⟩) (by rfl) (call_enter Try.func55 (by kernel_rfl) (by kernel_rfl)) (chunk_iter p.1 p.2 c l.length ad (by omega) hcap) (fun _ => by rfl) (by rfl) (Nat.zero_le _) ?_ (by rfl) (fun _ _ => by rfl) (fun _ _ => by rfl) ?_ ?_ ?_ ?_
  · rfl
  · intro lp x W
    refine Cd.region ?_
    refine Ls.ev (some 9) (Ev.assign (show Oper.op _ = Op.assign (Operand.tmp 28) from rfl) (by rfl)) (by rfl) (by rfl) ?_
    refine Ls.nil ?_
    refine Ent.asg (()) ?_ ?_
    · (repeat (first | exact trivial | refine ⟨by rfl, ?_⟩ | refine ⟨by simp only [List.length_append, List.length_cons, List.length_nil]; rfl, ?_⟩ | refine ⟨by push_cast; rfl, ?_⟩))
    · rfl
  · intro lp pre x i q W hi hx
    skip
    obtain ⟨oA, oc, xA, xc, kA, kc⟩ := i
    have hx2 : pre.length < nbE l ∧ x = pre.length := by
      have h1 := (List.getElem?_eq_some_iff.1 hx).1
      rw [List.length_range] at h1
      rw [List.getElem?_range h1] at hx
      exact ⟨h1, (Option.some.inj hx).symm⟩
    obtain ⟨hk, rfl⟩ := hx2
    clear hx hi
    revert hk
    generalize hkp : pre.length = k
    intro hk
    have hpl : (pre ++ [k]).length = k + 1 := by simp [hkp]
    have hkn : 3 * k < l.length ∧ k < 28 := by unfold nbE at hk; omega
    have hbl : (blkE l k).length = blkN l.length k := blkE_len l k
    have hbn : 0 < blkN l.length k ∧ blkN l.length k ≤ 3 ∧ 3 * k + blkN l.length k ≤ l.length := by
      show 0 < Nat.min 3 (l.length - 3 * k) ∧ Nat.min 3 (l.length - 3 * k) ≤ 3 ∧ 3 * k + Nat.min 3 (l.length - 3 * k) ≤ l.length
      have : Nat.min 3 (l.length - 3 * k) = min 3 (l.length - 3 * k) := rfl
      omega
    refine Ent.cutS 7 (3 * k) (3 * k + blkN l.length k) (by rfl) (by omega) ?_
    rw [Nat.add_sub_cancel_left, flat_cut (enc := Ety.enc) (sz := 4) (fun _ => rfl), show (l.drop (3 * k)).take (blkN l.length k) = blkE l k by
      unfold blkE
      rw [List.take_eq_take_iff, List.length_drop]
      show min (Nat.min 3 _) _ = _
      have : Nat.min 3 (l.length - 3 * k) = min 3 (l.length - 3 * k) := rfl
      omega, ← hbl]
    obtain ⟨ad2, had2⟩ : ∃ ad2, ad2 = ad.add (3 * k * 4) := ⟨_, rfl⟩
    rw [← had2]
    clear had2
    have hbs : (blkE l k).length ≤ 3 := blkE_le k
    refine Cd.block ?_
    refine Cd.seq ?_
    refine Cd.region ?_
    refine Ls.ev (some 10) (Ev.assign (show Oper.op _ = Op.assign (Operand.const (Value.slice none 0 0)) from rfl) (by rfl)) (by rfl) (by rfl) ?_
    refine Ls.nil ?_
    refine Cd.seq ?_
    refine Cd.seq ?_
    refine Cd.region ?_
    refine Ls.ev (some 29) (Ev.move (show Oper.op _ = Op.move (Operand.tmp 9) from rfl) (by rfl)) (by rfl) (by rfl) ?_
    refine Ls.ev (some 30) (Ev.len (show Oper.op _ = Op.call { callee := Callee.builtin Builtin.len, args := #[Operand.tmp 29], argTypes := #[22] } from rfl) (by rfl) Try.underlying22) (by rfl) (by rfl) ?_
    refine Ls.ev (some 31) (Ev.move (show Oper.op _ = Op.move (Operand.const (Value.int IntKind.i64 0)) from rfl) (by rfl)) (by rfl) (by rfl) ?_
    refine Ls.nil ?_
    refine Cd.block ?_
    refine Ent.nil 5 1 (Ent.pick [1, 4, 8, 0, 2, 3, 5, 6, 7, 9] (by rfl) ?_)
    refine Cd.loop (ι := Nat × (Option Addr × Nat) × (Option Addr × Nat)) (fun j => [(5, .pointer (some ⟨g1, 0, none⟩)), (6, .pointer (some ⟨g2, 0, none⟩)), (7, .pointer (some ⟨g3, 0, none⟩)), (8, .pointer (some ⟨g4, 0, none⟩)), (9, .slice (some ad2) (blkE l k).length (blkE l k).length), (10, .slice j.2.1.1 (bodyE ((blkE l k).take j.1)).length j.2.1.2), (29, .slice (some ad2) (blkE l k).length (blkE l k).length), (30, .int .i64 (blkE l k).length), (31, .int .i64 j.1)]) (fun j => [rdE (some ad2) (blkE l k), blk g3 44 [.slice j.2.2.1 (keyT l (3 * k + j.1)).length j.2.2.2], row j.2.2.1 (keyT l (3 * k + j.1)).length j.2.2.2 9 1 (strs (keyT l (3 * k + j.1))), rowB j.2.1.1 j.2.1.2 (bodyE ((blkE l k).take j.1)), blk g1 25 [.slice oA (outK l k).length oc], blk g2 25 [.slice xA (idxK l k).length xc], blk g4 3 [.int .i64 k], rowB oA oc (outK l k), rowB xA xc (idxK l k), rdE (some ad) l]) (fun j => j.1 ≤ (blkE l k).length) (fun j => (blkE l k).length - j.1) ((0, (none, 0), (kA, kc))) (Nat.zero_le _) ?_ rfl ?_
    · (repeat (first | exact trivial | refine ⟨by rfl, ?_⟩))
    rintro ⟨j, ⟨bA, bc⟩, ⟨mA, mc⟩⟩ hj
    dsimp only at hj ⊢
    refine Cd.seq ?_
    refine Cd.region ?_
    refine Ls.ev (some 32) (Ev.lss (show Oper.op _ = Op.binOp BinOp.lss 3 (Operand.tmp 31) (Operand.tmp 30) 3 from rfl) (by rfl) (by rfl)) (by rfl) (by rfl) ?_
    refine Ls.nil ?_
    refine Cd.seq ?_
    refine Cd.cond _ (by rfl) (fun h5 => ?_) (fun h5 => ?_)
    · skip
      have hjl : j < (blkE l k).length := by have := of_decide_eq_true h5; omega
      obtain ⟨e, he⟩ := get_of_lt hjl
      have hee := hg.blk_ok k e (List.mem_of_getElem? he)
      have hb1 := body_succ he
      have hb2 := bodyE_len (l := (blkE l k).take (j + 1)) (fun x hx => hg.blk_ok k x (List.mem_of_mem_take hx))
      rw [List.length_take] at hb2
      have hb3 : (bodyE ((blkE l k).take (j + 1))).length = (bodyE ((blkE l k).take j)).length + (putL e).length := by rw [hb1, List.length_append]
      have hk1 := keyT_succ (blkE_get he).1
      have hk2 : (keyT l (3 * k + j)).length ≤ 84 := by unfold keyT keysE; rw [List.length_take, List.length_map]; omega
      have hk3 : (keyT l (3 * k + j + 1)).length = (keyT l (3 * k + j)).length + 1 := by rw [hk1, List.length_append]; rfl
      refine Cd.skip ?_
      refine Cd.seq ?_
      refine Cd.block ?_
      refine Cd.seq ?_
      refine Cd.region ?_
      refine Ls.ev (some 33) (Ev.indexAt (sz := 4) (show Oper.op _ = Op.indexAddr 22 (Operand.tmp 29) (Operand.tmp 31) from rfl) (by rfl) (by rfl) Try.underlying22 (by kernel_rfl) (by omega)) (by rfl) (by rfl) ?_
      refine Ls.ev (some 34) (Ev.loadEl (show Oper.op _ = Op.load 42 (Operand.tmp 33) from rfl) (by rfl) (ReadsIn.rd 0 (by rfl)) (by kernel_rfl) (by intro _; rfl) (by assumption)) (by rfl) (by rfl) ?_
      refine Ls.does (some 12) (Does.alloc (cs := [.string ⟨#[]⟩, .int .i64 0, .bool false, .string ⟨#[]⟩]) (show Oper.op _ = Op.alloc 42 from rfl) (ZeroIs.mk (.agg #[.string ⟨#[]⟩, .int .i64 0, .bool false, .string ⟨#[]⟩]) (by kernel_rfl) (by rfl))) (by rfl) (by rfl) ?_
      intro g5 _
      refine Ls.does none (Does.store 0 (show Oper.op _ = Op.store 42 (Operand.tmp 12) (Operand.tmp 34) from rfl) (by rfl) (by rfl) (by rfl) (by kernel_rfl) (by rfl) (by kernel_rfl) (by rfl)) (by rfl) (by rfl) ?_
      intro _ _
      refine Ls.nil ?_
      refine Cd.seq ?_
      refine Cd.region ?_
      refine Ls.ev (some 35) (Ev.move (show Oper.op _ = Op.move (Operand.tmp 10) from rfl) (by rfl)) (by rfl) (by rfl) ?_
      refine Ls.ev (some 36) (Ev.loads 0 (show Oper.op _ = Op.load 42 (Operand.tmp 12) from rfl) (by rfl) (by rfl) (n := 4) (by kernel_rfl) (by rfl) (by rfl)) (by rfl) (by rfl) ?_
      refine Ls.does (some 37) (Does.call [0, 1, 2, 3, 4, 5, 6, 7, 8, 9, 10] (show Oper.op _ = Op.call { callee := Callee.value (Operand.func 29), args := #[Operand.tmp 36], argTypes := #[42] } from rfl) Try.func29 (by kernel_rfl) (by kernel_rfl) (put_sl e hee) (by rfl) (by rfl) (by rfl)) (by rfl) (by rfl) ?_
      intro q _
      refine Ls.does (some 38) (Does.app (xs := u8s (bodyE ((blkE l k).take j))) (news := u8s (putL e)) 5 (show Oper.op _ = Op.call { callee := Callee.builtin Builtin.append, args := #[Operand.tmp 35, Operand.tmp 37], argTypes := #[25, 25] } from rfl) (by rfl) (by rfl) (by rfl) (ReadsIn.row 0 (by rfl)) elem_u8 (u8s_one _) (by omega)) (by rfl) (by rfl) ?_
      intro q2 _
      refine Ls.ev (some 10) (Ev.assign (show Oper.op _ = Op.assign (Operand.tmp 38) from rfl) (by rfl)) (by rfl) (by rfl) ?_
      refine Ls.nil ?_
      refine Cd.region ?_
      refine Ls.ev (some 39) (Ev.load 3 (show Oper.op _ = Op.load 44 (Operand.tmp 7) from rfl) (by rfl) (by rfl) (by kernel_rfl) (by rfl)) (by rfl) (by rfl) ?_
      refine Ls.ev (some 40) (Ev.fieldAddr (k := 0) (show Oper.op _ = Op.fieldAddr 42 (Operand.tmp 12) 0 from rfl) (by rfl) (by kernel_rfl) (by rfl)) (by rfl) (by rfl) ?_
      refine Ls.ev (some 41) (Ev.load 1 (show Oper.op _ = Op.load 9 (Operand.tmp 40) from rfl) (by rfl) (by rfl) (by kernel_rfl) (by rfl)) (by rfl) (by rfl) ?_
      refine Ls.does (some 42) (Does.lit (sz := 1) (show Oper.op _ = Op.buildSlice 44 1 #[(0, Operand.tmp 41)] from rfl) (by rfl) Try.underlying44 (by kernel_rfl) (by rfl) (by kernel_rfl)) (by rfl) (by rfl) ?_
      intro g6 _
      refine Ls.does (some 43) (Does.app (xs := strs (keyT l (3 * k + j))) (news := strs [e.key]) 5 (show Oper.op _ = Op.call { callee := Callee.builtin Builtin.append, args := #[Operand.tmp 39, Operand.tmp 42], argTypes := #[44, 44] } from rfl) (by rfl) (by rfl) (by rfl) (ReadsIn.row 0 (by rfl)) elem_strs (strs_one _) (by omega)) (by rfl) (by rfl) ?_
      intro q3 _
      refine Ls.does none (Does.store 4 (show Oper.op _ = Op.store 44 (Operand.tmp 7) (Operand.tmp 43) from rfl) (by rfl) (by rfl) (by rfl) (by kernel_rfl) (by rfl) (by kernel_rfl) (by rfl)) (by rfl) (by rfl) ?_
      intro _ _
      refine Ls.nil ?_
      refine Cd.region ?_
      refine Ls.ev (some 44) (Ev.addN (b := 1) (show Oper.op _ = Op.binOp BinOp.add 3 (Operand.tmp 31) (Operand.const (Value.int IntKind.i64 1)) 3 from rfl) (by rfl) (by rfl) (by omega)) (by rfl) (by rfl) ?_
      refine Ls.ev (some 31) (Ev.move (show Oper.op _ = Op.move (Operand.tmp 44) from rfl) (by rfl)) (by rfl) (by rfl) ?_
      refine Ls.nil ?_
      refine Ent.pick [3, 4, 5, 6, 7, 8, 9, 10, 11, 12] (by rfl) ?_
      refine Ent.inv ((j + 1, q2, q3)) ?_ ?_ ?_
      · (try dsimp only); exact ⟨by omega, by omega⟩
      · (repeat (first | exact trivial | refine ⟨by rfl, ?_⟩ | refine ⟨by simp only [List.length_append, List.length_cons, List.length_nil]; rfl, ?_⟩ | refine ⟨by push_cast; rfl, ?_⟩ | refine ⟨by (show some (Value.slice _ _ _) = some (Value.slice _ _ _); dsimp only; rw [hb3]), ?_⟩))
      · (show [_, _, _, _, _, _, _, _, _, _] = [_, _, _, _, _, _, _, _, _, _]; dsimp only [rowB]; rw [hb3, hb1, u8s_append, ← Nat.add_assoc, hk3, hk1, strs_append]; rfl)
    · skip
      have hjl : j = (blkE l k).length := by have := of_decide_eq_false h5; omega
      subst hjl
      rw [List.take_length]
      have hkt : keyT l (3 * k + (blkE l k).length) = keyT l (3 * (k + 1)) := by
        rw [hbl]
        show keyT l (3 * k + Nat.min 3 (l.length - 3 * k)) = _
        have e1 : Nat.min 3 (l.length - 3 * k) = min 3 (l.length - 3 * k) := rfl
        unfold keyT keysE
        rw [List.take_eq_take_iff, List.length_map, e1]
        omega
      have hbody := hg.body_le k
      have hseal := hg.seal_le k
      have hout := hg.out_le k
      have hidx := hg.idx_le k (by omega)
      have hidx1 := hg.idx1_le (k := k) (by omega)
      obtain ⟨e0, he0⟩ := get_of_lt (show 0 < (blkE l k).length by omega)
      obtain ⟨eL, heL⟩ := get_of_lt (show (blkE l k).length - 1 < (blkE l k).length by omega)
      have hf := hg.fst_le k
      have hl := hg.lst_le k
      rw [fstK_of he0] at hf
      rw [lstK_of heL] at hl
      refine Cd.exit ?_
      refine Cd.seq ?_
      refine Cd.region ?_
      refine Ls.ev (some 46) (Ev.move (show Oper.op _ = Op.move (Operand.tmp 10) from rfl) (by rfl)) (by rfl) (by rfl) ?_
      refine Ls.does (some 47) (Does.readN (show Oper.op _ = Op.call { callee := Callee.value (Operand.func 30), args := #[Operand.tmp 46], argTypes := #[25] } from rfl) Try.func30 (by kernel_rfl) (by kernel_rfl) (seal_sl bA bc (bodyE (blkE l k)) (by omega)) (by rfl) (by rfl) ⟨ReadsIn.row 3 (by rfl), trivial⟩ (fun _ => by rfl)) (by rfl) (by rfl) ?_
      intro q _
      skip
      refine Ls.ev (some 45) (Ev.move (show Oper.op _ = Op.move (Operand.tmp 47) from rfl) (by rfl)) (by rfl) (by rfl) ?_
      refine Ls.ev (some 48) (Ev.extract (show Oper.op _ = Op.extract (Operand.tmp 45) 0 from rfl) (by rfl) (by rfl)) (by rfl) (by rfl) ?_
      refine Ls.ev (some 49) (Ev.extract (show Oper.op _ = Op.extract (Operand.tmp 45) 1 from rfl) (by rfl) (by rfl)) (by rfl) (by rfl) ?_
      refine Ls.ev (some 13) (Ev.assign (show Oper.op _ = Op.assign (Operand.tmp 48) from rfl) (by rfl)) (by rfl) (by rfl) ?_
      refine Ls.ev (some 14) (Ev.assign (show Oper.op _ = Op.assign (Operand.tmp 49) from rfl) (by rfl)) (by rfl) (by rfl) ?_
      refine Ls.nil ?_
      refine Cd.seq ?_
      refine Cd.draw [24] (by kernel_rfl) ?_
      refine Rg.ev 0 (by rfl) (fun _ h => h) (Ev.load 6 (show Oper.op _ = Op.load 25 (Operand.tmp 6) from rfl) (by rfl) (by rfl) (by kernel_rfl) (by rfl)) (by rfl) (some 50) (by rfl) (by kernel_rfl) (by kernel_rfl) (by kernel_rfl) (by kernel_rfl) ?_
      refine Rg.ev 1 (by rfl) (fun _ h => h) (Ev.move (show Oper.op _ = Op.move (Operand.tmp 9) from rfl) (by rfl)) (by rfl) (some 51) (by rfl) (by kernel_rfl) (by kernel_rfl) (by kernel_rfl) (by kernel_rfl) ?_
      refine Rg.ev 2 (by rfl) (fun _ h => h) (Ev.indexAt (k := 0) (sz := 4) (show Oper.op _ = Op.indexAddr 22 (Operand.tmp 51) (Operand.const (Value.int IntKind.i64 0)) from rfl) (by rfl) (by rfl) Try.underlying22 (by kernel_rfl) (by omega)) (by rfl) (some 52) (by rfl) (by kernel_rfl) (by kernel_rfl) (by kernel_rfl) (by kernel_rfl) ?_
      refine Rg.ev 3 (by rfl) (fun _ h => h) (Ev.fieldAddrE0 (k := 0) (show Oper.op _ = Op.fieldAddr 42 (Operand.tmp 52) 0 from rfl) (by rfl) (by kernel_rfl)) (by rfl) (some 53) (by rfl) (by kernel_rfl) (by kernel_rfl) (by kernel_rfl) (by kernel_rfl) ?_
      refine Rg.ev 4 (by rfl) (fun _ h => h) (Ev.loadElF (show Oper.op _ = Op.load 9 (Operand.tmp 53) from rfl) (by rfl) (ReadsIn.rd 1 (by rfl)) (by kernel_rfl) (by intro _; rfl) (by assumption) (by rfl)) (by rfl) (some 54) (by rfl) (by kernel_rfl) (by kernel_rfl) (by kernel_rfl) (by kernel_rfl) ?_
      refine Rg.ev 6 (by rfl) (fun _ h => h) (Ev.move (show Oper.op _ = Op.move (Operand.tmp 9) from rfl) (by rfl)) (by rfl) (some 56) (by rfl) (by kernel_rfl) (by kernel_rfl) (by kernel_rfl) (by kernel_rfl) ?_
      refine Rg.ev 7 (by rfl) (fun _ h => h) (Ev.move (show Oper.op _ = Op.move (Operand.tmp 9) from rfl) (by rfl)) (by rfl) (some 57) (by rfl) (by kernel_rfl) (by kernel_rfl) (by kernel_rfl) (by kernel_rfl) ?_
      refine Rg.ev 8 (by rfl) (fun _ h => h) (Ev.len (show Oper.op _ = Op.call { callee := Callee.builtin Builtin.len, args := #[Operand.tmp 57], argTypes := #[22] } from rfl) (by rfl) Try.underlying22) (by rfl) (some 58) (by rfl) (by kernel_rfl) (by kernel_rfl) (by kernel_rfl) (by kernel_rfl) ?_
      refine Rg.ev 9 (by rfl) (fun _ h => h) (Ev.subN (b := 1) (show Oper.op _ = Op.binOp BinOp.sub 3 (Operand.tmp 58) (Operand.const (Value.int IntKind.i64 1)) 3 from rfl) (by rfl) (by rfl) (by omega)) (by rfl) (some 59) (by rfl) (by kernel_rfl) (by kernel_rfl) (by kernel_rfl) (by kernel_rfl) ?_
      refine Rg.ev 10 (by rfl) (fun _ h => h) (Ev.indexAt (sz := 4) (show Oper.op _ = Op.indexAddr 22 (Operand.tmp 56) (Operand.tmp 59) from rfl) (by rfl) (by rfl) Try.underlying22 (by kernel_rfl) (by omega)) (by rfl) (some 60) (by rfl) (by kernel_rfl) (by kernel_rfl) (by kernel_rfl) (by kernel_rfl) ?_
      refine Rg.ev 11 (by rfl) (fun _ h => h) (Ev.fieldAddrE0 (k := 0) (show Oper.op _ = Op.fieldAddr 42 (Operand.tmp 60) 0 from rfl) (by rfl) (by kernel_rfl)) (by rfl) (some 61) (by rfl) (by kernel_rfl) (by kernel_rfl) (by kernel_rfl) (by kernel_rfl) ?_
      refine Rg.ev 12 (by rfl) (fun _ h => h) (Ev.loadElF (show Oper.op _ = Op.load 9 (Operand.tmp 61) from rfl) (by rfl) (ReadsIn.rd 1 (by rfl)) (by kernel_rfl) (by intro _; rfl) (by assumption) (by rfl)) (by rfl) (some 62) (by rfl) (by kernel_rfl) (by kernel_rfl) (by kernel_rfl) (by kernel_rfl) ?_
      refine Rg.ev 14 (by rfl) (fun _ h => h) (Ev.load 5 (show Oper.op _ = Op.load 25 (Operand.tmp 5) from rfl) (by rfl) (by rfl) (by kernel_rfl) (by rfl)) (by rfl) (some 64) (by rfl) (by kernel_rfl) (by kernel_rfl) (by kernel_rfl) (by kernel_rfl) ?_
      refine Rg.ev 15 (by rfl) (fun _ h => h) (Ev.len (show Oper.op _ = Op.call { callee := Callee.builtin Builtin.len, args := #[Operand.tmp 64], argTypes := #[25] } from rfl) (by rfl) Try.underlying25) (by rfl) (some 65) (by rfl) (by kernel_rfl) (by kernel_rfl) (by kernel_rfl) (by kernel_rfl) ?_
      refine Rg.ev 16 (by rfl) (fun _ h => h) (Ev.convU (show Oper.op _ = Op.convert 3 64 (Operand.tmp 65) from rfl) (by rfl) (by kernel_rfl) Try.underlying64 (by omega)) (by rfl) (some 66) (by rfl) (by kernel_rfl) (by kernel_rfl) (by kernel_rfl) (by kernel_rfl) ?_
      refine Rg.ev 18 (by rfl) (fun _ h => h) (Ev.move (show Oper.op _ = Op.move (Operand.tmp 13) from rfl) (by rfl)) (by rfl) (some 68) (by rfl) (by kernel_rfl) (by kernel_rfl) (by kernel_rfl) (by kernel_rfl) ?_
      refine Rg.ev 19 (by rfl) (fun _ h => h) (Ev.len (show Oper.op _ = Op.call { callee := Callee.builtin Builtin.len, args := #[Operand.tmp 68], argTypes := #[25] } from rfl) (by rfl) Try.underlying25) (by rfl) (some 69) (by rfl) (by kernel_rfl) (by kernel_rfl) (by kernel_rfl) (by kernel_rfl) ?_
      refine Rg.ev 20 (by rfl) (fun _ h => h) (Ev.convU (show Oper.op _ = Op.convert 3 64 (Operand.tmp 69) from rfl) (by rfl) (by kernel_rfl) Try.underlying64 (by omega)) (by rfl) (some 70) (by rfl) (by kernel_rfl) (by kernel_rfl) (by kernel_rfl) (by kernel_rfl) ?_
      skip
      skip
      refine Rg.one 5 (by kernel_rfl) ?_; refine RgO.does 5 (by rfl) (Does.readN (show Oper.op _ = Op.call { callee := Callee.value (Operand.func 32), args := #[Operand.tmp 54], argTypes := #[9] } from rfl) Try.func32 (by kernel_rfl) (by kernel_rfl) (text_sl e0.key (by omega)) (by rfl) (by rfl) trivial (fun _ => by rfl)) (by rfl) (some 55) (by rfl) (by exact fun _ _ h => h.pick [1, 2, 3, 4, 5, 6, 7, 8, 9, 10, 11] (by rfl)) ?_
      intro q1 _
      refine Rg.one 13 (by kernel_rfl) ?_; refine RgO.does 13 (by rfl) (Does.readN (show Oper.op _ = Op.call { callee := Callee.value (Operand.func 32), args := #[Operand.tmp 62], argTypes := #[9] } from rfl) Try.func32 (by kernel_rfl) (by kernel_rfl) (text_sl eL.key (by omega)) (by rfl) (by rfl) trivial (fun _ => by rfl)) (by rfl) (some 63) (by rfl) (by exact fun _ _ h => h.pick [2, 3, 4, 5, 6, 7, 8, 9, 10, 11, 12] (by rfl)) ?_
      intro q2 _
      refine Rg.one 17 (by kernel_rfl) ?_; refine RgO.does 17 (by rfl) (Does.readN (show Oper.op _ = Op.call { callee := Callee.value (Operand.func 33), args := #[Operand.tmp 66], argTypes := #[64] } from rfl) Try.func33 (by kernel_rfl) (by kernel_rfl) (uint_sl (outK l k).length (by omega)) (by rfl) (by rfl) trivial (fun _ => by rfl)) (by rfl) (some 67) (by rfl) (by exact fun _ _ h => h.pick [3, 4, 5, 6, 7, 8, 9, 10, 11, 12, 13] (by rfl)) ?_
      intro q3 _
      refine Rg.one 21 (by kernel_rfl) ?_; refine RgO.does 21 (by rfl) (Does.readN (show Oper.op _ = Op.call { callee := Callee.value (Operand.func 33), args := #[Operand.tmp 70], argTypes := #[64] } from rfl) Try.func33 (by kernel_rfl) (by kernel_rfl) (uint_sl (sealL (bodyE (blkE l k))).length (by omega)) (by rfl) (by rfl) trivial (fun _ => by rfl)) (by rfl) (some 71) (by rfl) (by exact fun _ _ h => h.pick [4, 5, 6, 7, 8, 9, 10, 11, 12, 13, 14] (by rfl)) ?_
      intro q4 _
      refine Rg.one 22 (by kernel_rfl) ?_; refine RgO.does 22 (by rfl) (Does.lit (sz := 1) (show Oper.op _ = Op.buildSlice 76 5 #[(0, Operand.tmp 50), (1, Operand.tmp 55), (2, Operand.tmp 63), (3, Operand.tmp 67), (4, Operand.tmp 71)] from rfl) (by rfl) Try.underlying76 (by kernel_rfl) (by rfl) (by kernel_rfl)) (by rfl) (some 72) (by rfl) (by exact fun _ _ h => h.pick [5, 6, 7, 8, 9, 10, 11, 12, 13, 14, 15] (by rfl)) ?_
      intro g5 _
      obtain ⟨ls, hls⟩ : ∃ ls : List Bs, ls = [⟨xA, xc, idxK l k⟩, ⟨q1.1, q1.2, textL e0.key⟩, ⟨q2.1, q2.2, textL eL.key⟩, ⟨q3.1, q3.2, uintL (outK l k).length⟩, ⟨q4.1, q4.2, uintL (sealL (bodyE (blkE l k))).length⟩] := ⟨_, rfl⟩
      have hcat : catB ls = idxK l (k + 1) := by rw [hls]; simp [catB, idxK, idxE, fstK_of he0, lstK_of heL]
      have hil := hg.idx_le (k + 1) (by omega)
      rw [hls] at hcat
      refine Rg.one 23 (by kernel_rfl) ?_; refine RgO.does 23 (by rfl) (Does.readN (show Oper.op _ = Op.call { callee := Callee.value (Operand.func 31), args := #[Operand.tmp 72], argTypes := #[76] } from rfl) Try.func31 (by kernel_rfl) (by kernel_rfl) (concat_sl (some ⟨g5, 0, none⟩) 5 [⟨xA, xc, idxK l k⟩, ⟨q1.1, q1.2, textL e0.key⟩, ⟨q2.1, q2.2, textL eL.key⟩, ⟨q3.1, q3.2, uintL (outK l k).length⟩, ⟨q4.1, q4.2, uintL (sealL (bodyE (blkE l k))).length⟩] (by simp) (by rw [hcat]; omega)) (by rfl) (by rfl) ⟨ReadsIn.row 0 (by rfl), starsB _ ⟨ReadsIn.row 14 (by rfl), ReadsIn.row 4 (by rfl), ReadsIn.row 3 (by rfl), ReadsIn.row 2 (by rfl), ReadsIn.row 1 (by rfl), trivial⟩, trivial⟩ (fun _ => by rfl)) (by rfl) (some 73) (by rfl) (by exact fun _ _ h => h.pick [6, 7, 8, 9, 10, 11, 12, 13, 14, 15, 16] (by rfl)) ?_
      rw [hcat]
      intro q5 _
      refine Ent.pick [12, 0, 6, 8, 9, 11, 13, 14, 16] (by rfl) ?_
      refine Rg.one 24 (by kernel_rfl) ?_; refine RgO.tail 24 (by rfl) (Does.store 0 (show Oper.op _ = Op.store 25 (Operand.tmp 6) (Operand.tmp 73) from rfl) (by rfl) (by rfl) (by rfl) (by kernel_rfl) (by rfl) (by kernel_rfl) (by rfl)) (by rfl) none (by rfl) (by kernel_rfl) (by kernel_rfl) ?_
      intro _ _
      refine Rg.done (by kernel_rfl) ?_ _
      refine Cd.seq ?_
      refine Cd.region ?_
      refine Ls.ev (some 74) (Ev.load 5 (show Oper.op _ = Op.load 25 (Operand.tmp 5) from rfl) (by rfl) (by rfl) (by kernel_rfl) (by rfl)) (by rfl) (by rfl) ?_
      refine Ls.ev (some 75) (Ev.move (show Oper.op _ = Op.move (Operand.tmp 13) from rfl) (by rfl)) (by rfl) (by rfl) ?_
      refine Ls.does (some 76) (Does.app (xs := u8s (outK l k)) (news := u8s (sealL (bodyE (blkE l k)))) 7 (show Oper.op _ = Op.call { callee := Callee.builtin Builtin.append, args := #[Operand.tmp 74, Operand.tmp 75], argTypes := #[25, 25] } from rfl) (by rfl) (by rfl) (by rfl) (ReadsIn.row 2 (by rfl)) elem_u8 (u8s_one _) (by omega)) (by rfl) (by rfl) ?_
      intro q6 _
      refine Ls.does none (Does.store 5 (show Oper.op _ = Op.store 25 (Operand.tmp 5) (Operand.tmp 76) from rfl) (by rfl) (by rfl) (by rfl) (by kernel_rfl) (by rfl) (by kernel_rfl) (by rfl)) (by rfl) (by rfl) ?_
      intro _ _
      refine Ls.nil ?_
      refine Cd.region ?_
      refine Ls.ev (some 77) (Ev.load 6 (show Oper.op _ = Op.load 3 (Operand.tmp 8) from rfl) (by rfl) (by rfl) (by kernel_rfl) (by rfl)) (by rfl) (by rfl) ?_
      refine Ls.ev (some 78) (Ev.addN (b := 1) (show Oper.op _ = Op.binOp BinOp.add 3 (Operand.tmp 77) (Operand.const (Value.int IntKind.i64 1)) 3 from rfl) (by rfl) (by rfl) (by omega)) (by rfl) (by rfl) ?_
      refine Ls.does none (Does.store 6 (show Oper.op _ = Op.store 3 (Operand.tmp 8) (Operand.tmp 78) from rfl) (by rfl) (by rfl) (by rfl) (by kernel_rfl) (by rfl) (by kernel_rfl) (by rfl)) (by rfl) (by rfl) ?_
      intro _ _
      refine Ls.nil ?_
      refine Ent.some_ (⟨q6.1, q6.2, q5.1, q5.2, mA, mc⟩) ((by show (pre ++ [k]).length ≤ nbE l; rw [hpl]; omega)) [5, 0, 3, 6, 7, 1, 4, 8] (by rfl) ?_
      · (show [_, _, _, _, _, _, _, _] = buS l g1 g2 g3 g4 (pre ++ [k]).length _ ++ [_]; rw [hpl]; unfold buS rowB; dsimp only; rw [← hkt, show outK l (k + 1) = outK l k ++ sealL (bodyE (blkE l k)) from rfl, List.length_append, u8s_append]; rfl)
  · intro D1 c pre j hpre hj
    exact hj.elim
  · intro D1 j hj
    skip
    show Ent _ _ _ (markP D1 :: (buS l g1 g2 g3 g4 (List.range ((l.length + 2) / 3)).length j ++ _)) _
    rw [List.length_range, show (l.length + 2) / 3 = nbE l from rfl]
    obtain ⟨oA, oc, xA, xc, kA, kc⟩ := j
    have hkt : keyT l (3 * nbE l) = keysE l := by
      unfold keyT keysE
      exact List.take_of_length_le (by rw [List.length_map]; unfold nbE; omega)
    unfold buS
    rw [hkt]
    refine Ent.norm ([(5, .pointer (some ⟨g1, 0, none⟩)), (6, .pointer (some ⟨g2, 0, none⟩)), (7, .pointer (some ⟨g3, 0, none⟩)), (8, .pointer (some ⟨g4, 0, none⟩))]) ([markP D1, blk g1 25 [.slice oA (outK l (nbE l)).length oc], blk g2 25 [.slice xA (idxK l (nbE l)).length xc], blk g3 44 [.slice kA (keysE l).length kc], blk g4 3 [.int .i64 (nbE l)], rowB oA oc (outK l (nbE l)), rowB xA xc (idxK l (nbE l)), row kA (keysE l).length kc 9 1 (strs (keysE l)), rdE (some ad) l, blk p.2 3 [.int .i64 3], blk p.1 22 [.slice (some ad) l.length c]]) (by repeat (first | exact trivial | refine ⟨by rfl, ?_⟩ | refine ⟨by simp only [List.length_append, List.length_cons, List.length_nil]; rfl, ?_⟩ | refine ⟨by push_cast; rfl, ?_⟩)) (by rfl) ?_
    have hout := hg.out_le (nbE l)
    have hidx := hg.idx_le (nbE l) (by omega)
    have hkl : (keysE l).length = l.length := by unfold keysE; rw [List.length_map]
    have hcm := cmpK_le (keysE l) (keysE l).length
    have hks : ∀ s ∈ cmpK (keysE l) (keysE l).length, s.size ≤ maxLen := fun s hs => hg.cmp_le hs
    have hbl := buildL_len (ks := keysL (cmpK (keysE l) l.length)) (by unfold keysL; rw [List.length_map, ← hkl]; omega)
    have hfl := sealL_len (b := buildL (keysL (cmpK (keysE l) l.length)) 10) (by omega)
    have htl : (uintL (nbE l)).length = 1 := uintL_len1 (by omega)
    refine Cd.seq ?_
    refine Cd.region ?_
    refine Ls.ev (some 79) (Ev.load 1 (show Oper.op _ = Op.load 25 (Operand.tmp 5) from rfl) (by rfl) (by rfl) (by kernel_rfl) (by rfl)) (by rfl) (by rfl) ?_
    refine Ls.ev (some 80) (Ev.len (show Oper.op _ = Op.call { callee := Callee.builtin Builtin.len, args := #[Operand.tmp 79], argTypes := #[25] } from rfl) (by rfl) Try.underlying25) (by rfl) (by rfl) ?_
    refine Ls.ev (some 15) (Ev.assign (show Oper.op _ = Op.assign (Operand.tmp 80) from rfl) (by rfl)) (by rfl) (by rfl) ?_
    refine Ls.nil ?_
    refine Cd.seq ?_
    refine Cd.region ?_
    refine Ls.ev (some 82) (Ev.load 3 (show Oper.op _ = Op.load 44 (Operand.tmp 7) from rfl) (by rfl) (by rfl) (by kernel_rfl) (by rfl)) (by rfl) (by rfl) ?_
    refine Ls.does (some 83) (Does.call [7, 0, 1, 2, 3, 4, 5, 6, 8] (show Oper.op _ = Op.call { callee := Callee.value (Operand.func 35), args := #[Operand.tmp 82], argTypes := #[44] } from rfl) Try.func35 (by kernel_rfl) (by kernel_rfl) (compact_sl kA kc (keysE l) (by omega)) (by rfl) (by rfl) (by rfl)) (by rfl) (by rfl) ?_
    rintro _ -
    refine Ent.fact 0 (by rfl) (p := (cmpK (keysE l) (keysE l).length).length ≤ kc) (fun w hw => Own.le hw) (fun hkc => ?_)
    refine Ls.does (some 84) (Does.readN (show Oper.op _ = Op.call { callee := Callee.value (Operand.func 34), args := #[Operand.tmp 83, Operand.const (Value.int IntKind.i64 10)], argTypes := #[44, 3] } from rfl) Try.func34 (by kernel_rfl) (by kernel_rfl) (bbuild_sl kA kc (cmpK (keysE l) (keysE l).length) 10 (by omega) hkc hks) (by rfl) (by rfl) ⟨ReadsIn.row 0 (by rfl), trivial⟩ (fun _ => by rfl)) (by rfl) (by rfl) ?_
    rw [hkl]
    intro q1 _
    refine Ls.does (some 85) (Does.readN (show Oper.op _ = Op.call { callee := Callee.value (Operand.func 30), args := #[Operand.tmp 84], argTypes := #[25] } from rfl) Try.func30 (by kernel_rfl) (by kernel_rfl) (seal_sl q1.1 q1.2 (buildL (keysL (cmpK (keysE l) l.length)) 10) (by omega)) (by rfl) (by rfl) ⟨ReadsIn.row 0 (by rfl), trivial⟩ (fun _ => by rfl)) (by rfl) (by rfl) ?_
    intro q2 _
    refine Ls.ev (some 81) (Ev.move (show Oper.op _ = Op.move (Operand.tmp 85) from rfl) (by rfl)) (by rfl) (by rfl) ?_
    refine Ls.ev (some 86) (Ev.extract (show Oper.op _ = Op.extract (Operand.tmp 81) 0 from rfl) (by rfl) (by rfl)) (by rfl) (by rfl) ?_
    refine Ls.ev (some 87) (Ev.extract (show Oper.op _ = Op.extract (Operand.tmp 81) 1 from rfl) (by rfl) (by rfl)) (by rfl) (by rfl) ?_
    refine Ls.ev (some 16) (Ev.assign (show Oper.op _ = Op.assign (Operand.tmp 86) from rfl) (by rfl)) (by rfl) (by rfl) ?_
    refine Ls.ev (some 17) (Ev.assign (show Oper.op _ = Op.assign (Operand.tmp 87) from rfl) (by rfl)) (by rfl) (by rfl) ?_
    refine Ls.nil ?_
    refine Cd.seq ?_
    refine Cd.region ?_
    refine Ls.ev (some 88) (Ev.load 4 (show Oper.op _ = Op.load 25 (Operand.tmp 5) from rfl) (by rfl) (by rfl) (by kernel_rfl) (by rfl)) (by rfl) (by rfl) ?_
    refine Ls.ev (some 89) (Ev.move (show Oper.op _ = Op.move (Operand.tmp 16) from rfl) (by rfl)) (by rfl) (by rfl) ?_
    refine Ent.pick [3, 0, 4, 5, 7, 8, 9] (by rfl) ?_
    refine Ls.does (some 90) (Does.appB (l := outK l (nbE l)) (m := filE l) 5 (show Oper.op _ = Op.call { callee := Callee.builtin Builtin.append, args := #[Operand.tmp 88, Operand.tmp 89], argTypes := #[25, 25] } from rfl) (by rfl) (by rfl) (by rfl) (ReadsIn.row 1 (by rfl)) (by unfold filE; omega)) (by rfl) (by rfl) ?_
    intro q3 _
    skip
    refine Ls.does none (Does.store 2 (show Oper.op _ = Op.store 25 (Operand.tmp 5) (Operand.tmp 90) from rfl) (by rfl) (by rfl) (by rfl) (by kernel_rfl) (by rfl) (by kernel_rfl) (by rfl)) (by rfl) (by rfl) ?_
    intro _ _
    refine Ls.nil ?_
    refine Cd.seq ?_
    refine Cd.region ?_
    refine Ls.ev (some 91) (Ev.load 2 (show Oper.op _ = Op.load 25 (Operand.tmp 5) from rfl) (by rfl) (by rfl) (by kernel_rfl) (by rfl)) (by rfl) (by rfl) ?_
    refine Ls.ev (some 92) (Ev.len (show Oper.op _ = Op.call { callee := Callee.builtin Builtin.len, args := #[Operand.tmp 91], argTypes := #[25] } from rfl) (by rfl) Try.underlying25) (by rfl) (by rfl) ?_
    refine Ls.ev (some 18) (Ev.assign (show Oper.op _ = Op.assign (Operand.tmp 92) from rfl) (by rfl)) (by rfl) (by rfl) ?_
    refine Ls.nil ?_
    refine Cd.seq ?_
    refine Ent.norm ([(5, .pointer (some ⟨g1, 0, none⟩)), (6, .pointer (some ⟨g2, 0, none⟩)), (8, .pointer (some ⟨g4, 0, none⟩)), (15, .int .i64 (outK l (nbE l)).length), (18, .int .i64 (outK l (nbE l) ++ filE l).length)]) ([markP D1, rowB q2.1 q2.2 (filE l), blk g1 25 [.slice q3.1 (outK l (nbE l) ++ filE l).length q3.2], blk g2 25 [.slice xA (idxK l (nbE l)).length xc], blk g4 3 [.int .i64 (nbE l)], rowB q3.1 q3.2 (outK l (nbE l) ++ filE l), rowB xA xc (idxK l (nbE l))]) (by repeat (first | exact trivial | refine ⟨by rfl, ?_⟩ | refine ⟨by simp only [List.length_append, List.length_cons, List.length_nil]; rfl, ?_⟩ | refine ⟨by push_cast; rfl, ?_⟩)) (by rfl) ?_
    refine Cd.draw [] (by kernel_rfl) ?_
    refine Rg.ev 0 (by rfl) (fun _ h => h) (Ev.load 4 (show Oper.op _ = Op.load 3 (Operand.tmp 8) from rfl) (by rfl) (by rfl) (by kernel_rfl) (by rfl)) (by rfl) (some 94) (by rfl) (by kernel_rfl) (by kernel_rfl) (by kernel_rfl) (by kernel_rfl) ?_
    refine Rg.ev 1 (by rfl) (fun _ h => h) (Ev.convU (show Oper.op _ = Op.convert 3 64 (Operand.tmp 94) from rfl) (by rfl) (by kernel_rfl) Try.underlying64 (by omega)) (by rfl) (some 95) (by rfl) (by kernel_rfl) (by kernel_rfl) (by kernel_rfl) (by kernel_rfl) ?_
    refine Rg.ev 3 (by rfl) (fun _ h => h) (Ev.load 3 (show Oper.op _ = Op.load 25 (Operand.tmp 6) from rfl) (by rfl) (by rfl) (by kernel_rfl) (by rfl)) (by rfl) (some 97) (by rfl) (by kernel_rfl) (by kernel_rfl) (by kernel_rfl) (by kernel_rfl) ?_
    skip
    refine Rg.one 2 (by kernel_rfl) ?_; refine RgO.does 2 (by rfl) (Does.readN (show Oper.op _ = Op.call { callee := Callee.value (Operand.func 33), args := #[Operand.tmp 95], argTypes := #[64] } from rfl) Try.func33 (by kernel_rfl) (by kernel_rfl) (uint_sl (nbE l) (by omega)) (by rfl) (by rfl) trivial (fun _ => by rfl)) (by rfl) (some 96) (by rfl) (by exact fun _ _ h => h.pick [1, 2, 3, 4, 5, 6, 7] (by rfl)) ?_
    intro q4 _
    refine Rg.one 4 (by kernel_rfl) ?_; refine RgO.does 4 (by rfl) (Does.appB (l := uintL (nbE l)) (m := idxK l (nbE l)) 0 (show Oper.op _ = Op.call { callee := Callee.builtin Builtin.append, args := #[Operand.tmp 96, Operand.tmp 97], argTypes := #[25, 25] } from rfl) (by rfl) (by rfl) (by rfl) (ReadsIn.row 7 (by rfl)) (by omega)) (by rfl) (some 98) (by rfl) (by exact fun _ _ h => h.pick [1, 2, 3, 4, 5, 6, 7] (by rfl)) ?_
    intro q5 _
    have htn : (uintL (nbE l) ++ idxK l (nbE l)).length ≤ 4096 := by rw [List.length_append]; omega
    have htl2 : (taiE l).length ≤ 4102 := by
      have := sealL_len (b := uintL (nbE l) ++ idxK l (nbE l)) (by omega)
      unfold taiE
      omega
    have hfl2 : (filE l).length ≤ 112 := by unfold filE; omega
    have hof : (outK l (nbE l) ++ filE l).length = (outE l).length + (filE l).length := by rw [List.length_append]; rfl
    refine Rg.one 5 (by kernel_rfl) ?_; refine RgO.does 5 (by rfl) (Does.readN (show Oper.op _ = Op.call { callee := Callee.value (Operand.func 30), args := #[Operand.tmp 98], argTypes := #[25] } from rfl) Try.func30 (by kernel_rfl) (by kernel_rfl) (seal_sl q5.1 q5.2 (uintL (nbE l) ++ idxK l (nbE l)) htn) (by rfl) (by rfl) ⟨ReadsIn.row 0 (by rfl), trivial⟩ (fun _ => by rfl)) (by rfl) (some 99) (by rfl) (by exact fun _ _ h => h.pick [2, 3, 4, 5, 6, 7, 8] (by rfl)) ?_
    intro q6 _
    refine Rg.ev 6 (by rfl) (by exact fun _ h => h.pick [2, 3, 4, 5, 6, 7, 8] (by rfl)) (Ev.move (show Oper.op _ = Op.move (Operand.tmp 99) from rfl) (by rfl)) (by rfl) (some 93) (by rfl) (by kernel_rfl) (by kernel_rfl) (by kernel_rfl) (by kernel_rfl) ?_
    refine Rg.ev 7 (by rfl) (by exact fun _ h => h.pick [2, 3, 4, 5, 6, 7, 8] (by rfl)) (Ev.extract (show Oper.op _ = Op.extract (Operand.tmp 93) 0 from rfl) (by rfl) (by rfl)) (by rfl) (some 100) (by rfl) (by kernel_rfl) (by kernel_rfl) (by kernel_rfl) (by kernel_rfl) ?_
    refine Rg.ev 8 (by rfl) (by exact fun _ h => h.pick [2, 3, 4, 5, 6, 7, 8] (by rfl)) (Ev.extract (show Oper.op _ = Op.extract (Operand.tmp 93) 1 from rfl) (by rfl) (by rfl)) (by rfl) (some 101) (by rfl) (by kernel_rfl) (by kernel_rfl) (by kernel_rfl) (by kernel_rfl) ?_
    refine Rg.ev 9 (by rfl) (by exact fun _ h => h.pick [2, 3, 4, 5, 6, 7, 8] (by rfl)) (Ev.assign (show Oper.op _ = Op.assign (Operand.tmp 100) from rfl) (by rfl)) (by rfl) (some 19) (by rfl) (by kernel_rfl) (by kernel_rfl) (by kernel_rfl) (by kernel_rfl) ?_
    refine Rg.ev 10 (by rfl) (by exact fun _ h => h.pick [2, 3, 4, 5, 6, 7, 8] (by rfl)) (Ev.assign (show Oper.op _ = Op.assign (Operand.tmp 101) from rfl) (by rfl)) (by rfl) (some 20) (by rfl) (by kernel_rfl) (by kernel_rfl) (by kernel_rfl) (by kernel_rfl) ?_
    refine Rg.done (by kernel_rfl) ?_ _
    refine Cd.seq ?_
    refine Ent.pick [2, 0, 4, 7] (by rfl) ?_
    refine Ent.norm ([(5, .pointer (some ⟨g1, 0, none⟩)), (15, .int .i64 (outE l).length), (18, .int .i64 (outK l (nbE l) ++ filE l).length), (19, .slice q6.1 (taiE l).length q6.2)]) ([markP D1, rowB q6.1 q6.2 (taiE l), blk g1 25 [.slice q3.1 (outK l (nbE l) ++ filE l).length q3.2], rowB q3.1 q3.2 (outK l (nbE l) ++ filE l)]) (by repeat (first | exact trivial | refine ⟨by rfl, ?_⟩ | refine ⟨by simp only [List.length_append, List.length_cons, List.length_nil]; rfl, ?_⟩ | refine ⟨by push_cast; rfl, ?_⟩)) (by rfl) ?_
    refine Cd.draw [] (by kernel_rfl) ?_
    refine Rg.ev 0 (by rfl) (fun _ h => h) (Ev.load 2 (show Oper.op _ = Op.load 25 (Operand.tmp 5) from rfl) (by rfl) (by rfl) (by kernel_rfl) (by rfl)) (by rfl) (some 102) (by rfl) (by kernel_rfl) (by kernel_rfl) (by kernel_rfl) (by kernel_rfl) ?_
    refine Rg.ev 1 (by rfl) (fun _ h => h) (Ev.move (show Oper.op _ = Op.move (Operand.tmp 19) from rfl) (by rfl)) (by rfl) (some 103) (by rfl) (by kernel_rfl) (by kernel_rfl) (by kernel_rfl) (by kernel_rfl) ?_
    refine Rg.ev 2 (by rfl) (fun _ h => h) (Ev.move (show Oper.op _ = Op.move (Operand.tmp 15) from rfl) (by rfl)) (by rfl) (some 104) (by rfl) (by kernel_rfl) (by kernel_rfl) (by kernel_rfl) (by kernel_rfl) ?_
    refine Rg.ev 4 (by rfl) (fun _ h => h) (Ev.move (show Oper.op _ = Op.move (Operand.tmp 18) from rfl) (by rfl)) (by rfl) (some 106) (by rfl) (by kernel_rfl) (by kernel_rfl) (by kernel_rfl) (by kernel_rfl) ?_
    refine Rg.float2 6 7 (ι := Nat) (some 108) (some 109) (fun g => .slice (some ⟨g, 0, none⟩) 4 4) (fun g => .slice (some ⟨g, 0, none⟩) 4 4) (fun g => row (some ⟨g, 0, none⟩) 4 4 5 1 [.int .u8 99, .int .u8 118, .int .u8 116, .int .u8 49]) (fun g => rd (some ⟨g, 0, none⟩) 4 1 [.int .u8 99, .int .u8 118, .int .u8 116, .int .u8 49]) ?_
    refine RgG.does 3 (by rfl) (by rfl) (by rfl) (.inr (by kernel_rfl)) (.inr (by kernel_rfl)) (by kernel_rfl) (Does.lit (sz := 1) (show Oper.op _ = Op.buildSlice 25 4 #[(0, Operand.const (Value.int IntKind.u8 99)), (1, Operand.const (Value.int IntKind.u8 118)), (2, Operand.const (Value.int IntKind.u8 116)), (3, Operand.const (Value.int IntKind.u8 49))] from rfl) (by rfl) Try.underlying25 (by kernel_rfl) (by rfl) (by kernel_rfl)) (by rfl) (some 108) (by rfl) (fun _ => by repeat (first | exact trivial | refine ⟨by rfl, ?_⟩ | refine ⟨by simp only [List.length_append, List.length_cons, List.length_nil]; rfl, ?_⟩ | refine ⟨by push_cast; rfl, ?_⟩)) (by exact fun _ _ h => h.last) (by exact fun _ _ h => h.pick [0, 1, 2, 3] (by rfl)) (fun _ => Does.constB 4 (show Oper.op _ = Op.convert 25 25 (Operand.tmp 108) from rfl) (by rfl) (by rfl) Try.underlying25 Try.underlying5) (fun _ => by rfl) (some 109) (by rfl) (fun _ => by repeat (first | exact trivial | refine ⟨by rfl, ?_⟩ | refine ⟨by simp only [List.length_append, List.length_cons, List.length_nil]; rfl, ?_⟩ | refine ⟨by push_cast; rfl, ?_⟩)) (by exact fun _ _ h => h) (by exact fun _ _ h => h.pick [0, 1, 2, 3] (by rfl)) (Does.readN (show Oper.op _ = Op.call { callee := Callee.value (Operand.func 36), args := #[Operand.tmp 104], argTypes := #[3] } from rfl) Try.func36 (by kernel_rfl) (by kernel_rfl) (four_sl (outE l).length) (by rfl) (by rfl) trivial (fun _ => by rfl)) (by rfl) (some 105) (by rfl) (by exact fun _ _ h => h.pick [1, 2, 3, 4] (by rfl)) (fun _ => Does.readN (show Oper.op _ = Op.call { callee := Callee.value (Operand.func 36), args := #[Operand.tmp 104], argTypes := #[3] } from rfl) Try.func36 (by kernel_rfl) (by kernel_rfl) (four_sl (outE l).length) (by rfl) (by rfl) trivial (fun _ => by rfl)) (fun _ => by rfl) (by exact fun _ _ _ h => h.pick [1, 2, 3, 4] (by rfl)) (fun _ => Does.readN (show Oper.op _ = Op.call { callee := Callee.value (Operand.func 36), args := #[Operand.tmp 104], argTypes := #[3] } from rfl) Try.func36 (by kernel_rfl) (by kernel_rfl) (four_sl (outE l).length) (by rfl) (by rfl) trivial (fun _ => by rfl)) (fun _ => by rfl) (by exact fun _ _ _ h => h.pick [1, 2, 3, 4] (by rfl)) (by decide) ?_
    intro q7 _
    refine RgG.does 5 (by rfl) (by rfl) (by rfl) (.inr (by kernel_rfl)) (.inr (by kernel_rfl)) (by kernel_rfl) (Does.lit (sz := 1) (show Oper.op _ = Op.buildSlice 25 4 #[(0, Operand.const (Value.int IntKind.u8 99)), (1, Operand.const (Value.int IntKind.u8 118)), (2, Operand.const (Value.int IntKind.u8 116)), (3, Operand.const (Value.int IntKind.u8 49))] from rfl) (by rfl) Try.underlying25 (by kernel_rfl) (by rfl) (by kernel_rfl)) (by rfl) (some 108) (by rfl) (fun _ => by repeat (first | exact trivial | refine ⟨by rfl, ?_⟩ | refine ⟨by simp only [List.length_append, List.length_cons, List.length_nil]; rfl, ?_⟩ | refine ⟨by push_cast; rfl, ?_⟩)) (by exact fun _ _ h => h.last) (by exact fun _ _ h => h.pick [1, 2, 3, 4] (by rfl)) (fun _ => Does.constB 5 (show Oper.op _ = Op.convert 25 25 (Operand.tmp 108) from rfl) (by rfl) (by rfl) Try.underlying25 Try.underlying5) (fun _ => by rfl) (some 109) (by rfl) (fun _ => by repeat (first | exact trivial | refine ⟨by rfl, ?_⟩ | refine ⟨by simp only [List.length_append, List.length_cons, List.length_nil]; rfl, ?_⟩ | refine ⟨by push_cast; rfl, ?_⟩)) (by exact fun _ _ h => h) (by exact fun _ _ h => h.pick [1, 2, 3, 4] (by rfl)) (Does.readN (show Oper.op _ = Op.call { callee := Callee.value (Operand.func 36), args := #[Operand.tmp 106], argTypes := #[3] } from rfl) Try.func36 (by kernel_rfl) (by kernel_rfl) (four_sl (outK l (nbE l) ++ filE l).length) (by rfl) (by rfl) trivial (fun _ => by rfl)) (by rfl) (some 107) (by rfl) (by exact fun _ _ h => h.pick [2, 3, 4, 5] (by rfl)) (fun _ => Does.readN (show Oper.op _ = Op.call { callee := Callee.value (Operand.func 36), args := #[Operand.tmp 106], argTypes := #[3] } from rfl) Try.func36 (by kernel_rfl) (by kernel_rfl) (four_sl (outK l (nbE l) ++ filE l).length) (by rfl) (by rfl) trivial (fun _ => by rfl)) (fun _ => by rfl) (by exact fun _ _ _ h => h.pick [2, 3, 4, 5] (by rfl)) (fun _ => Does.readN (show Oper.op _ = Op.call { callee := Callee.value (Operand.func 36), args := #[Operand.tmp 106], argTypes := #[3] } from rfl) Try.func36 (by kernel_rfl) (by kernel_rfl) (four_sl (outK l (nbE l) ++ filE l).length) (by rfl) (by rfl) trivial (fun _ => by rfl)) (fun _ => by rfl) (by exact fun _ _ _ h => h.pick [2, 3, 4, 5] (by rfl)) (by decide) ?_
    intro q8 _
    refine RgG.land (by rfl) (by rfl) (by kernel_rfl) (by kernel_rfl) (Does.lit (sz := 1) (show Oper.op _ = Op.buildSlice 25 4 #[(0, Operand.const (Value.int IntKind.u8 99)), (1, Operand.const (Value.int IntKind.u8 118)), (2, Operand.const (Value.int IntKind.u8 116)), (3, Operand.const (Value.int IntKind.u8 49))] from rfl) (by rfl) Try.underlying25 (by kernel_rfl) (by rfl) (by kernel_rfl)) (by rfl) (some 108) (by rfl) (fun _ => by repeat (first | exact trivial | refine ⟨by rfl, ?_⟩ | refine ⟨by simp only [List.length_append, List.length_cons, List.length_nil]; rfl, ?_⟩ | refine ⟨by push_cast; rfl, ?_⟩)) (by exact fun _ _ h => h.last) (by exact fun _ _ h => h.pick [2, 3, 4, 5] (by rfl)) (fun _ => Does.constB 6 (show Oper.op _ = Op.convert 25 25 (Operand.tmp 108) from rfl) (by rfl) (by rfl) Try.underlying25 Try.underlying5) (fun _ => by rfl) (some 109) (by rfl) (fun _ => by repeat (first | exact trivial | refine ⟨by rfl, ?_⟩ | refine ⟨by simp only [List.length_append, List.length_cons, List.length_nil]; rfl, ?_⟩ | refine ⟨by push_cast; rfl, ?_⟩)) (by exact fun _ _ h => h) (by exact fun _ _ h => h.pick [2, 3, 4, 5] (by rfl)) ?_
    intro g5
    refine Rg.one 8 (by kernel_rfl) ?_; refine RgO.does 8 (by rfl) (Does.lit (sz := 1) (show Oper.op _ = Op.buildSlice 76 5 #[(0, Operand.tmp 102), (1, Operand.tmp 103), (2, Operand.tmp 105), (3, Operand.tmp 107), (4, Operand.tmp 109)] from rfl) (by rfl) Try.underlying76 (by kernel_rfl) (by rfl) (by kernel_rfl)) (by rfl) (some 110) (by rfl) (by exact fun _ _ h => h.pick [3, 4, 5, 6] (by rfl)) ?_
    intro g6 _
    obtain ⟨ls, hls⟩ : ∃ ls : List Bs, ls = [⟨q3.1, q3.2, outK l (nbE l) ++ filE l⟩, ⟨q6.1, q6.2, taiE l⟩, ⟨q7.1, q7.2, fourL (outE l).length⟩, ⟨q8.1, q8.2, fourL (outK l (nbE l) ++ filE l).length⟩, ⟨some ⟨g5, 0, none⟩, 4, [99, 118, 116, 49]⟩] := ⟨_, rfl⟩
    have hcat : catB ls = tabL l := by
      rw [hls]
      simp only [catB, List.flatMap_cons, List.flatMap_nil, List.append_nil, tabL, hof, List.append_assoc]
      rfl
    have htab : (tabL l).length ≤ 200000 := by
      unfold tabL
      simp only [List.length_append, fourL, List.length_cons, List.length_nil]
      have : (outE l).length = (outK l (nbE l)).length := rfl
      omega
    rw [hls] at hcat
    refine Rg.one 9 (by kernel_rfl) ?_; refine RgO.does 9 (by rfl) (Does.readN (show Oper.op _ = Op.call { callee := Callee.value (Operand.func 31), args := #[Operand.tmp 110], argTypes := #[76] } from rfl) Try.func31 (by kernel_rfl) (by kernel_rfl) (concat_sl (some ⟨g6, 0, none⟩) 5 [⟨q3.1, q3.2, outK l (nbE l) ++ filE l⟩, ⟨q6.1, q6.2, taiE l⟩, ⟨q7.1, q7.2, fourL (outE l).length⟩, ⟨q8.1, q8.2, fourL (outK l (nbE l) ++ filE l).length⟩, ⟨some ⟨g5, 0, none⟩, 4, [99, 118, 116, 49]⟩] (by simp) (by rw [hcat]; omega)) (by rfl) (by rfl) ⟨ReadsIn.row 0 (by rfl), starsB _ ⟨ReadsIn.row 6 (by rfl), ReadsIn.row 4 (by rfl), ReadsIn.row 2 (by rfl), ReadsIn.row 1 (by rfl), ReadsIn.rd 7 (by rfl), trivial⟩, trivial⟩ (fun _ => by rfl)) (by rfl) (some 111) (by rfl) (by exact fun _ _ h => h.pick [4, 5, 6, 7] (by rfl)) ?_
    rw [hcat]
    intro q9 _
    refine Rg.ev 10 (by rfl) (by exact fun _ h => h.pick [4, 5, 6, 7] (by rfl)) (Ev.assign (show Oper.op _ = Op.assign (Operand.tmp 111) from rfl) (by rfl)) (by rfl) (some 2) (by rfl) (by kernel_rfl) (by kernel_rfl) (by kernel_rfl) (by kernel_rfl) ?_
    refine Rg.ev 11 (by rfl) (by exact fun _ h => h.pick [4, 5, 6, 7] (by rfl)) (Ev.assign (show Oper.op _ = Op.assign (Operand.const (Value.int IntKind.i64 0)) from rfl) (by rfl)) (by rfl) (some 3) (by rfl) (by kernel_rfl) (by kernel_rfl) (by kernel_rfl) (by kernel_rfl) ?_
    refine Rg.done (by kernel_rfl) ?_ _
    refine Cd.ret ?_
    refine Ent.pick [4, 0] (by rfl) ?_
    refine Ent.retM [D1] (by rfl) (q9) (trivial) (Res.tmp2 (by rfl) (by rfl) (by rfl)) ?_ [0] (by rfl) ?_
    · rfl
    · rfl
end Go.Proofs.Ytnhcfhamcakfkaa
/- sstable's Parse -/
namespace Go.Proofs.Ytnhcfhamcakfkaa
open Go.RowKit
/-- What Parse answers. -/
structure PaX where
  ok : Bool
  l : List Ety
  bs : List Bk
  fil : List UInt8
  g : Nat
  bA : Option Addr
  bc : Nat
  xA : Option Addr
  xc : Nat
  fA : Option Addr
  fc : Nat
/-- A reader's pieces. -/
def paP (b : List UInt8) (looked : Int) (i : PaX) : List Chunk := [blk i.g 75 (rdrV i.bA b.length i.bc i.xA i.bs.length i.xc i.fA i.fil.length i.fc i.l.length looked), rowK i.xA i.xc i.bs, rowB i.fA i.fc i.fil, rowB i.bA i.bc b]
structure PaOk (b : List UInt8) (i : PaX) : Prop where
  no : i.ok = false → parseT b = none
  yes : i.ok = true → parseT b = some i.l ∧ readT b = some (i.bs, i.fil) ∧ b.length ≤ i.bc
def PaX.none : PaX := ⟨false, [], [], [], 0, .none, 0, .none, 0, .none, 0⟩
set_option maxHeartbeats 400000 in
theorem parse_sl (A : Option Addr) (c : Nat) (b : List UInt8) (hm : b.length ≤ 140737488355328) :
    Fn Try.prog 13 #[.slice A b.length c] [rdB A b] PaX (fun i => .tuple #[bif i.ok then .pointer (some ⟨i.g, 0, .none⟩) else .pointer .none, .int .i64 (bif i.ok then 0 else 61)]) (fun i => bif i.ok then paP b 0 i else []) (PaOk b) := by
  refine Fn.enter Try.func13 rfl Try.ntmps13 (by rfl) ?_
  intro w0
  skip
  refine Cd.seq ?_
  refine Cd.region ?_
  refine Ls.ev (some 2) (Ev.assign (show Oper.op _ = Op.assign (Operand.const (Value.pointer none)) from rfl) (by rfl)) (by rfl) (by rfl) ?_
  refine Ls.ev (some 3) (Ev.assign (show Oper.op _ = Op.assign (Operand.const (Value.int IntKind.i64 0)) from rfl) (by rfl)) (by rfl) (by rfl) ?_
  refine Ls.nil ?_
  refine Cd.seq ?_
  refine Cd.region ?_
  refine Ls.ev (some 10) (Ev.move (show Oper.op _ = Op.move (Operand.tmp 0) from rfl) (by rfl)) (by rfl) (by rfl) ?_
  refine Ls.does (some 11) (Does.readN (show Oper.op _ = Op.call { callee := Callee.value (Operand.func 45), args := #[Operand.tmp 10], argTypes := #[25] } from rfl) Try.func45 (by kernel_rfl) (by kernel_rfl) (clone_sl A c b hm) (by rfl) (by rfl) ⟨ReadsIn.rd 0 (by rfl), trivial⟩ (fun _ => by rfl)) (by rfl) (by rfl) ?_
  intro p _
  refine Ent.fact 0 (by rfl) (p := b.length ≤ p.2) (fun w hw => Own.le hw) (fun hpc => ?_)
  refine Ls.does (some 12) (Does.readN (show Oper.op _ = Op.call { callee := Callee.value (Operand.func 44), args := #[Operand.tmp 11], argTypes := #[25] } from rfl) Try.func44 (by kernel_rfl) (by kernel_rfl) (read_sl p.1 p.2 b hpc hm) (by rfl) (by rfl) ⟨ReadsIn.row 0 (by rfl), trivial⟩ (fun i => by cases h : i.ok <;> rfl)) (by rfl) (by rfl) ?_
  rintro ⟨ok, v, bs, fil, g, xA, xc, fA, fc⟩ ⟨h1, h2⟩
  dsimp only at h1 h2 ⊢
  cases ok with
  | false =>
    have hr := h1 rfl
    skip
    refine Ls.ev (some 9) (Ev.move (show Oper.op _ = Op.move (Operand.tmp 12) from rfl) (by rfl)) (by rfl) (by rfl) ?_
    refine Ls.ev (some 13) (Ev.extract (show Oper.op _ = Op.extract (Operand.tmp 9) 0 from rfl) (by rfl) (by rfl)) (by rfl) (by rfl) ?_
    refine Ls.ev (some 14) (Ev.extract (show Oper.op _ = Op.extract (Operand.tmp 9) 1 from rfl) (by rfl) (by rfl)) (by rfl) (by rfl) ?_
    refine Ls.ev (some 4) (Ev.assign (show Oper.op _ = Op.assign (Operand.tmp 13) from rfl) (by rfl)) (by rfl) (by rfl) ?_
    refine Ls.ev (some 5) (Ev.assign (show Oper.op _ = Op.assign (Operand.tmp 14) from rfl) (by rfl)) (by rfl) (by rfl) ?_
    refine Ls.nil ?_
    refine Cd.seq ?_
    refine Cd.seq ?_
    refine Cd.region ?_
    refine Ls.ev (some 15) (Ev.move (show Oper.op _ = Op.move (Operand.tmp 5) from rfl) (by rfl)) (by rfl) (by rfl) ?_
    refine Ls.ev (some 16) (Ev.not (show Oper.op _ = Op.unOp UnOp.not 4 (Operand.tmp 15) from rfl) (by rfl)) (by rfl) (by rfl) ?_
    refine Ls.nil ?_
    refine Cd.cond_true (by rfl) (rfl) ?_
    refine Cd.seq ?_
    refine Cd.region ?_
    refine Ls.ev (some 2) (Ev.assign (show Oper.op _ = Op.assign (Operand.const (Value.pointer none)) from rfl) (by rfl)) (by rfl) (by rfl) ?_
    refine Ls.ev (some 3) (Ev.assign (show Oper.op _ = Op.assign (Operand.const (Value.int IntKind.i64 61)) from rfl) (by rfl)) (by rfl) (by rfl) ?_
    refine Ls.nil ?_
    refine Cd.ret ?_
    refine Ent.ret (PaX.none) (⟨fun _ => by unfold parseT; rw [hr], fun h => (by cases h)⟩) (Res.tmp2 (by rfl) (by rfl) (by rfl)) ?_ [] (by rfl) ?_
    · rfl
    · rfl
  | true =>
    obtain ⟨hr, hv⟩ := h2 rfl
    subst hv
    obtain ⟨hin, hfl⟩ := readT_in hr
    have hal := allR_len b bs
    have hbl := hin.2
    have hpt : parseT b = if errL (allR b bs) = 0 ∧ tabL (allR b bs) = b then some (allR b bs) else .none := by unfold parseT; rw [hr]
    skip
    refine Ls.ev (some 9) (Ev.move (show Oper.op _ = Op.move (Operand.tmp 12) from rfl) (by rfl)) (by rfl) (by rfl) ?_
    refine Ls.ev (some 13) (Ev.extract (show Oper.op _ = Op.extract (Operand.tmp 9) 0 from rfl) (by rfl) (by rfl)) (by rfl) (by rfl) ?_
    refine Ls.ev (some 14) (Ev.extract (show Oper.op _ = Op.extract (Operand.tmp 9) 1 from rfl) (by rfl) (by rfl)) (by rfl) (by rfl) ?_
    refine Ls.ev (some 4) (Ev.assign (show Oper.op _ = Op.assign (Operand.tmp 13) from rfl) (by rfl)) (by rfl) (by rfl) ?_
    refine Ls.ev (some 5) (Ev.assign (show Oper.op _ = Op.assign (Operand.tmp 14) from rfl) (by rfl)) (by rfl) (by rfl) ?_
    refine Ls.nil ?_
    refine Cd.seq ?_
    refine Cd.seq ?_
    refine Cd.region ?_
    refine Ls.ev (some 15) (Ev.move (show Oper.op _ = Op.move (Operand.tmp 5) from rfl) (by rfl)) (by rfl) (by rfl) ?_
    refine Ls.ev (some 16) (Ev.not (show Oper.op _ = Op.unOp UnOp.not 4 (Operand.tmp 15) from rfl) (by rfl)) (by rfl) (by rfl) ?_
    refine Ls.nil ?_
    refine Cd.cond_false (by rfl) (rfl) ?_
    refine Cd.skip ?_
    refine Cd.seq ?_
    refine Cd.region ?_
    refine Ls.ev (some 17) (Ev.move (show Oper.op _ = Op.move (Operand.tmp 4) from rfl) (by rfl)) (by rfl) (by rfl) ?_
    refine Ls.does (some 18) (Does.readN (show Oper.op _ = Op.call { callee := Callee.value (Operand.func 16), args := #[Operand.tmp 17], argTypes := #[32] } from rfl) Try.func16 (by kernel_rfl) (by kernel_rfl) (all_sl g p.1 p.2 b xA xc bs fA fil.length fc 0 0 hpc hm hin) (by rfl) (by rfl) ⟨blkIn 0 (by rfl), ReadsIn.row 1 (by rfl), ReadsIn.row 3 (by rfl), trivial⟩ (fun _ => by rfl)) (by rfl) (by rfl) ?_
    revert hal hpt
    generalize allR b bs = all
    intro hal hpt
    intro q _
    refine Ent.fact 0 (by rfl) (p := all.length ≤ q.2) (fun w hw => Own.le hw) (fun hqc => ?_)
    refine Ls.ev (some 6) (Ev.assign (show Oper.op _ = Op.assign (Operand.tmp 18) from rfl) (by rfl)) (by rfl) (by rfl) ?_
    refine Ls.nil ?_
    refine Cd.seq ?_
    refine Cd.region ?_
    refine Ls.ev (some 20) (Ev.move (show Oper.op _ = Op.move (Operand.tmp 6) from rfl) (by rfl)) (by rfl) (by rfl) ?_
    by_cases he : errL all = 0
    · skip
      refine Ls.does (some 21) (Does.readN (show Oper.op _ = Op.call { callee := Callee.value (Operand.func 10), args := #[Operand.tmp 20], argTypes := #[22] } from rfl) Try.func10 (by kernel_rfl) (by kernel_rfl) (build_sl q.1 q.2 all hqc he) (by rfl) (by rfl) ⟨ReadsIn.row 0 (by rfl), trivial⟩ (fun _ => by rfl)) (by rfl) (by rfl) ?_
      intro r _
      refine Ls.ev (some 19) (Ev.move (show Oper.op _ = Op.move (Operand.tmp 21) from rfl) (by rfl)) (by rfl) (by rfl) ?_
      refine Ls.ev (some 22) (Ev.extract (show Oper.op _ = Op.extract (Operand.tmp 19) 0 from rfl) (by rfl) (by rfl)) (by rfl) (by rfl) ?_
      refine Ls.ev (some 23) (Ev.extract (show Oper.op _ = Op.extract (Operand.tmp 19) 1 from rfl) (by rfl) (by rfl)) (by rfl) (by rfl) ?_
      refine Ls.ev (some 7) (Ev.assign (show Oper.op _ = Op.assign (Operand.tmp 22) from rfl) (by rfl)) (by rfl) (by rfl) ?_
      refine Ls.ev (some 8) (Ev.assign (show Oper.op _ = Op.assign (Operand.tmp 23) from rfl) (by rfl)) (by rfl) (by rfl) ?_
      refine Ls.nil ?_
      refine Cd.seq ?_
      refine Cd.seq ?_
      refine Cd.region ?_
      refine Ls.ev (some 24) (Ev.move (show Oper.op _ = Op.move (Operand.tmp 8) from rfl) (by rfl)) (by rfl) (by rfl) ?_
      refine Ls.ev (some 25) (Ev.neq (show Oper.op _ = Op.binOp BinOp.neq 26 (Operand.tmp 24) (Operand.const (Value.int IntKind.i64 0)) 26 from rfl) (by rfl) (by rfl)) (by rfl) (by rfl) ?_
      refine Ls.ev (some 26) (Ev.move (show Oper.op _ = Op.move (Operand.tmp 25) from rfl) (by rfl)) (by rfl) (by rfl) ?_
      refine Ent.known 26 false (by rfl) (by exact (rfl)) ?_
      refine Ls.ev (some 27) (Ev.move (show Oper.op _ = Op.move (Operand.tmp 7) from rfl) (by rfl)) (by rfl) (by rfl) ?_
      refine Ls.ev (some 28) (Ev.move (show Oper.op _ = Op.move (Operand.tmp 0) from rfl) (by rfl)) (by rfl) (by rfl) ?_
      refine Ls.does (some 29) (Does.read (show Oper.op _ = Op.call { callee := Callee.value (Operand.func 46), args := #[Operand.tmp 27, Operand.tmp 28], argTypes := #[25, 25] } from rfl) Try.func46 (by kernel_rfl) (by kernel_rfl) (equal_sl r.1 A r.2 c (tabL all) b) (by rfl) (by rfl) ⟨ReadsIn.row 0 (by rfl), ReadsIn.rd 6 (by rfl), trivial⟩) (by rfl) (by rfl) ?_
      rintro _ -
      refine Ls.ev (some 30) (Ev.not (show Oper.op _ = Op.unOp UnOp.not 4 (Operand.tmp 29) from rfl) (by rfl)) (by rfl) (by rfl) ?_
      refine Ls.ev (some 31) (Ev.pickF (show Oper.op _ = Op.pick (Operand.tmp 26) (Operand.const (Value.bool true)) (Operand.tmp 30) from rfl) (by rfl) (by rfl)) (by rfl) (by rfl) ?_
      refine Ls.nil ?_
      skip
      refine Cd.cond _ (by rfl) (fun h => ?_) (fun h => ?_)
      · skip
        have hne : ¬ tabL all = b := by simpa using h
        rw [if_neg (fun h => hne h.2)] at hpt
        refine Cd.seq ?_
        refine Cd.region ?_
        refine Ls.ev (some 2) (Ev.assign (show Oper.op _ = Op.assign (Operand.const (Value.pointer none)) from rfl) (by rfl)) (by rfl) (by rfl) ?_
        refine Ls.ev (some 3) (Ev.assign (show Oper.op _ = Op.assign (Operand.const (Value.int IntKind.i64 61)) from rfl) (by rfl)) (by rfl) (by rfl) ?_
        refine Ls.nil ?_
        refine Cd.ret ?_
        refine Ent.ret (PaX.none) (⟨fun _ => hpt, fun h => (by cases h)⟩) (Res.tmp2 (by rfl) (by rfl) (by rfl)) ?_ [] (by rfl) ?_
        · rfl
        · rfl
      · skip
        have heq : tabL all = b := by simpa using h
        rw [if_pos ⟨he, heq⟩] at hpt
        refine Cd.skip ?_
        refine Cd.seq ?_
        refine Cd.region ?_
        refine Ls.ev (some 32) (Ev.move (show Oper.op _ = Op.move (Operand.tmp 4) from rfl) (by rfl)) (by rfl) (by rfl) ?_
        refine Ls.ev (some 33) (Ev.move (show Oper.op _ = Op.move (Operand.tmp 6) from rfl) (by rfl)) (by rfl) (by rfl) ?_
        refine Ls.ev (some 34) (Ev.len (show Oper.op _ = Op.call { callee := Callee.builtin Builtin.len, args := #[Operand.tmp 33], argTypes := #[22] } from rfl) (by rfl) Try.underlying22) (by rfl) (by rfl) ?_
        refine Ls.ev (some 35) (Ev.nilCheck (show Oper.op _ = Op.nilCheck (Operand.tmp 32) from rfl) (by rfl)) (by rfl) (by rfl) ?_
        refine Ls.ev (some 36) (Ev.fieldAddr (k := 3) (show Oper.op _ = Op.fieldAddr 75 (Operand.tmp 35) 3 from rfl) (by rfl) (by kernel_rfl) (by rfl)) (by rfl) (by rfl) ?_
        refine Ls.does none (Does.store 2 (show Oper.op _ = Op.store 3 (Operand.tmp 36) (Operand.tmp 34) from rfl) (by rfl) (by rfl) (by rfl) (by kernel_rfl) (by rfl) (by kernel_rfl) (by rfl)) (by rfl) (by rfl) ?_
        intro _ _
        refine Ls.nil ?_
        refine Cd.seq ?_
        refine Cd.region ?_
        refine Ls.ev (some 37) (Ev.move (show Oper.op _ = Op.move (Operand.tmp 4) from rfl) (by rfl)) (by rfl) (by rfl) ?_
        refine Ls.ev (some 2) (Ev.assign (show Oper.op _ = Op.assign (Operand.tmp 37) from rfl) (by rfl)) (by rfl) (by rfl) ?_
        refine Ls.ev (some 3) (Ev.assign (show Oper.op _ = Op.assign (Operand.const (Value.int IntKind.i64 0)) from rfl) (by rfl)) (by rfl) (by rfl) ?_
        refine Ls.nil ?_
        refine Cd.ret ?_
        refine Ent.ret (⟨true, all, bs, fil, g, p.1, p.2, xA, xc, fA, fc⟩) (⟨fun h => (by cases h), fun _ => ⟨hpt, hr, hpc⟩⟩) (Res.tmp2 (by rfl) (by rfl) (by rfl)) ?_ [2, 3, 4, 5] (by rfl) ?_
        · rfl
        · rfl
    · skip
      rw [if_neg (fun h => he h.1)] at hpt
      refine Ls.does (some 21) (Does.read (show Oper.op _ = Op.call { callee := Callee.value (Operand.func 10), args := #[Operand.tmp 20], argTypes := #[22] } from rfl) Try.func10 (by kernel_rfl) (by kernel_rfl) (build_bad q.1 q.2 all (by omega) he) (by rfl) (by rfl) ⟨ReadsIn.row 0 (by rfl), trivial⟩) (by rfl) (by rfl) ?_
      rintro _ -
      refine Ls.ev (some 19) (Ev.move (show Oper.op _ = Op.move (Operand.tmp 21) from rfl) (by rfl)) (by rfl) (by rfl) ?_
      refine Ls.ev (some 22) (Ev.extract (show Oper.op _ = Op.extract (Operand.tmp 19) 0 from rfl) (by rfl) (by rfl)) (by rfl) (by rfl) ?_
      refine Ls.ev (some 23) (Ev.extract (show Oper.op _ = Op.extract (Operand.tmp 19) 1 from rfl) (by rfl) (by rfl)) (by rfl) (by rfl) ?_
      refine Ls.ev (some 7) (Ev.assign (show Oper.op _ = Op.assign (Operand.tmp 22) from rfl) (by rfl)) (by rfl) (by rfl) ?_
      refine Ls.ev (some 8) (Ev.assign (show Oper.op _ = Op.assign (Operand.tmp 23) from rfl) (by rfl)) (by rfl) (by rfl) ?_
      refine Ls.nil ?_
      refine Cd.seq ?_
      refine Cd.seq ?_
      refine Cd.region ?_
      refine Ls.ev (some 24) (Ev.move (show Oper.op _ = Op.move (Operand.tmp 8) from rfl) (by rfl)) (by rfl) (by rfl) ?_
      refine Ls.ev (some 25) (Ev.neq (show Oper.op _ = Op.binOp BinOp.neq 26 (Operand.tmp 24) (Operand.const (Value.int IntKind.i64 0)) 26 from rfl) (by rfl) (by rfl)) (by rfl) (by rfl) ?_
      refine Ls.ev (some 26) (Ev.move (show Oper.op _ = Op.move (Operand.tmp 25) from rfl) (by rfl)) (by rfl) (by rfl) ?_
      refine Ent.known 26 true (by rfl) (by exact (decide_eq_true he)) ?_
      refine Ls.pass (some 27) (by rfl) (by rfl) ?_
      refine Ls.pass (some 28) (by rfl) (by rfl) ?_
      refine Ls.pass (some 29) (by rfl) (by rfl) ?_
      refine Ls.pass (some 30) (by rfl) (by rfl) ?_
      refine Ls.ev (some 31) (Ev.pickT (show Oper.op _ = Op.pick (Operand.tmp 26) (Operand.const (Value.bool true)) (Operand.tmp 30) from rfl) (by rfl) (by rfl)) (by rfl) (by rfl) ?_
      refine Ls.nil ?_
      refine Cd.cond_true (by rfl) (rfl) ?_
      refine Cd.seq ?_
      refine Cd.region ?_
      refine Ls.ev (some 2) (Ev.assign (show Oper.op _ = Op.assign (Operand.const (Value.pointer none)) from rfl) (by rfl)) (by rfl) (by rfl) ?_
      refine Ls.ev (some 3) (Ev.assign (show Oper.op _ = Op.assign (Operand.const (Value.int IntKind.i64 61)) from rfl) (by rfl)) (by rfl) (by rfl) ?_
      refine Ls.nil ?_
      refine Cd.ret ?_
      refine Ent.ret (PaX.none) (⟨fun _ => hpt, fun h => (by cases h)⟩) (Res.tmp2 (by rfl) (by rfl) (by rfl)) ?_ [] (by rfl) ?_
      · rfl
      · rfl
end Go.Proofs.Ytnhcfhamcakfkaa
/- tables, plain: what is written is read back -/
namespace Go.Proofs.Ytnhcfhamcakfkaa
open Go.RowKit
theorem uintL_pos (n : Nat) : 0 < (uintL n).length := by
  obtain ⟨pre, c, h, _⟩ := uintL_form n
  rw [h, List.length_append]
  simp
theorem txt_data (s : ByteArray) : txt s.data.toList = s := by
  cases s
  simp [txt]
theorem takeT_textL (s : ByteArray) (hs : s.size < 4611686018427387904) (r : List UInt8) : takeT (textL s ++ r) = (s.data.toList, (textL s).length) := by
  have hu : takeU (textL s ++ r) = (s.size, (uintL s.size).length) := by
    unfold textL
    rw [List.append_assoc]
    exact takeU_uintL _ (by omega) _
  have hp := uintL_pos s.size
  have hl := textL_length s
  have hd : s.data.toList.length = s.size := by rw [Array.length_toList]; rfl
  unfold takeT
  rw [hu, if_neg]
  · have e1 : (textL s ++ r).drop (uintL s.size).length = s.data.toList ++ r := by
      unfold textL
      rw [List.append_assoc, List.drop_left]
    rw [e1, ← hd, List.take_left, hd, hl]
  · rw [List.length_append, hl]
    dsimp only
    omega
theorem txtC_textL (s : ByteArray) (hs : s.size < 4611686018427387904) (r : List UInt8) : txtC (textL s ++ r) = (s, (textL s).length, false) := by
  have hp := uintL_pos s.size
  have hl := textL_length s
  unfold txtC
  rw [takeT_textL s hs r, if_neg (by dsimp only; omega), txt_data]
theorem numC_uintL (n : Nat) (hn : n ≤ 4611686018427387904) (r : List UInt8) : numC (uintL n ++ r) = (n, (uintL n).length, false) := by
  have hp := uintL_pos n
  unfold numC
  rw [takeU_uintL n (by omega) r, if_neg]
  dsimp only
  omega
theorem errE_facts {e : Ety} (h : errE e = 0) : 1 ≤ e.seq ∧ e.seq ≤ 4611686018427387904 ∧ e.key.size ≤ 64 ∧ e.value.size ≤ 1024 := by
  unfold errE at h
  split at h
  · cases h
  · split at h
    · cases h
    · omega
theorem delB_one (b : Bool) : (delB b == 1) = b := by cases b <;> rfl
theorem entC_putL {e : Ety} (h : errE e = 0) (r : List UInt8) : entC (putL e ++ r) = (e, (putL e).length, false) := by
  have hf := errE_facts h
  have e1 : putL e ++ r = textL e.key ++ (uintL e.seq.toNat ++ (delB e.del :: (textL e.value ++ r))) := by simp [putL]
  have t1 := txtC_textL e.key (by omega) (uintL e.seq.toNat ++ (delB e.del :: (textL e.value ++ r)))
  have t2 := numC_uintL e.seq.toNat (by omega) (delB e.del :: (textL e.value ++ r))
  have t3 := txtC_textL e.value (by omega) r
  rw [e1]
  unfold entC
  dsimp only
  rw [t1]
  dsimp only
  rw [List.drop_left, t2]
  dsimp only
  rw [← List.drop_drop, List.drop_left, List.drop_left]
  dsimp only
  rw [t3, delB_one]
  dsimp only
  refine Prod.ext ?_ (Prod.ext ?_ rfl)
  · show (⟨e.key, (e.seq.toNat : Int), e.del, e.value⟩ : Ety) = e
    rw [Int.toNat_of_nonneg (by omega)]
  · show _ = (putL e).length
    unfold putL
    simp only [List.length_append, List.length_cons, List.length_nil]
theorem putL_pos (e : Ety) : 0 < (putL e).length := by
  unfold putL
  simp only [List.length_append, List.length_cons, List.length_nil]
  omega
theorem entsF_bodyE : ∀ (l : List Ety), (∀ e ∈ l, errE e = 0) → entsF (bodyE l) = some l
  | [], _ => entsF_nil
  | e :: l, h => by
    have e1 : bodyE (e :: l) = putL e ++ bodyE l := by simp [bodyE]
    have hp := putL_pos e
    have hne : bodyE (e :: l) ≠ [] := fun h0 => by
      have := congrArg List.length h0
      rw [e1, List.length_append, List.length_nil] at this
      omega
    rw [entsF_step hne, e1, entC_putL (h e List.mem_cons_self), cond_false, List.drop_left, entsF_bodyE l (fun x hx => h x (List.mem_cons_of_mem _ hx))]
    rfl
theorem blkR_seal {l : List Ety} (h : ∀ e ∈ l, errE e = 0) (hl : (bodyE l).length ≤ 4096) : blkR (sealL (bodyE l)) = l := by
  rw [blkR_pay]
  have := takeF_seal (bodyE l) [] hl
  rw [List.append_nil] at this
  unfold payF
  rw [this]
  dsimp only
  rw [entsF_bodyE l h]
  rfl
/-- What the index says of the block k. -/
def bkOf (l : List Ety) (k : Nat) : Bk := ⟨fstK (blkE l k), lstK (blkE l k), (outK l k).length, (sealL (bodyE (blkE l k))).length⟩
def bksE (l : List Ety) : List Bk := (List.range (nbE l)).map (bkOf l)
section
variable {l : List Ety} (hg : Good l)
include hg
theorem bkC_idxE {k : Nat} (hk : k ≤ 28) (r : List UInt8) : bkC (idxE l k ++ r) = (bkOf l k, (idxE l k).length, false) := by
  have h1 := hg.fst_le k
  have h2 := hg.lst_le k
  have h3 := hg.out_le k
  have h4 := hg.seal_le k
  have e1 : idxE l k ++ r = textL (fstK (blkE l k)) ++ (textL (lstK (blkE l k)) ++ (uintL (outK l k).length ++ (uintL (sealL (bodyE (blkE l k))).length ++ r))) := by simp [idxE]
  have t1 := txtC_textL (fstK (blkE l k)) (by omega) (textL (lstK (blkE l k)) ++ (uintL (outK l k).length ++ (uintL (sealL (bodyE (blkE l k))).length ++ r)))
  have t2 := txtC_textL (lstK (blkE l k)) (by omega) (uintL (outK l k).length ++ (uintL (sealL (bodyE (blkE l k))).length ++ r))
  have t3 := numC_uintL (outK l k).length (by omega) (uintL (sealL (bodyE (blkE l k))).length ++ r)
  have t4 := numC_uintL (sealL (bodyE (blkE l k))).length (by omega) r
  rw [e1]
  unfold bkC
  dsimp only
  rw [t1]
  dsimp only
  rw [List.drop_left, t2]
  dsimp only
  rw [← List.drop_drop, List.drop_left, List.drop_left, t3]
  dsimp only
  rw [← List.drop_drop, ← List.drop_drop, List.drop_left, List.drop_left, List.drop_left, t4]
  dsimp only
  refine Prod.ext rfl (Prod.ext ?_ rfl)
  show _ = (idxE l k).length
  unfold idxE
  simp only [List.length_append]
omit hg in
theorem out_mono {k m : Nat} (h : k ≤ m) : (outK l k).length ≤ (outK l m).length := by
  obtain ⟨d, rfl⟩ : ∃ d, m = k + d := ⟨m - k, by omega⟩
  clear h
  induction d with
  | zero => exact Nat.le_refl _
  | succ d ih =>
    show _ ≤ (outK l (k + d) ++ _).length
    rw [List.length_append]
    omega
/-- The index from the block k on. -/
def idxS (l : List Ety) (k : Nat) : Nat → List UInt8
  | 0 => []
  | m + 1 => idxE l k ++ idxS l (k + 1) m
omit hg in
theorem idxS_snoc : ∀ (m k : Nat), idxS l k (m + 1) = idxS l k m ++ idxE l (k + m)
  | 0, k => by simp [idxS]
  | m + 1, k => by
    rw [idxS, idxS_snoc m (k + 1), idxS, List.append_assoc]
    congr 3
    omega
omit hg in
theorem idxK_eq : ∀ n, idxK l n = idxS l 0 n
  | 0 => rfl
  | n + 1 => by rw [idxK, idxS_snoc, idxK_eq n, Nat.zero_add]
theorem bksC_idx {en : Nat} (hen : (outE l).length ≤ en) : ∀ (m k : Nat), k + m = nbE l → bksC en m (idxS l k m) = some ((List.range' k m).map (bkOf l))
  | 0, k, _ => rfl
  | m + 1, k, h => by
    have hnb := hg.nb_le
    have hb := bkC_idxE hg (k := k) (by omega) (idxS l (k + 1) m)
    have hm := out_mono (l := l) (k := k + 1) (m := nbE l) (by omega)
    have ho : (outK l (k + 1)).length = (outK l k).length + (sealL (bodyE (blkE l k))).length := by rw [outK, List.length_append]
    have hoe : (outE l).length = (outK l (nbE l)).length := rfl
    rw [idxS, bksC, hb, if_neg, cond_false, List.drop_left, bksC_idx hen m (k + 1) (by omega), List.range'_succ]
    · rfl
    · dsimp only [bkOf]
      omega
theorem bksR_idx {en : Nat} (hen : (outE l).length ≤ en) : bksR en (uintL (nbE l) ++ idxK l (nbE l)) = some (bksE l) := by
  have hnb := hg.nb_le
  unfold bksR
  rw [numC_uintL (nbE l) (by omega), cond_false, List.drop_left, idxK_eq, bksC_idx hg hen (nbE l) 0 (by omega)]
  unfold bksE
  rw [List.range_eq_range']
end
theorem le4_fourL (n : Nat) (hn : n < 4294967296) (r : List UInt8) : le4 (fourL n ++ r) = n := by
  unfold le4 fourL
  simp [List.getD]
  omega
theorem out_pre (l : List Ety) {k m : Nat} (h : k ≤ m) : outK l k <+: outK l m := by
  obtain ⟨d, rfl⟩ : ∃ d, m = k + d := ⟨m - k, by omega⟩
  clear h
  induction d with
  | zero => exact List.prefix_refl _
  | succ d ih => exact ih.trans (List.prefix_append _ _)
theorem blks_cat (l : List Ety) : ∀ k, (List.range k).flatMap (blkE l) = l.take (3 * k)
  | 0 => by simp
  | k + 1 => by
    rw [List.range_succ, List.flatMap_append, blks_cat l k, List.flatMap_cons, List.flatMap_nil, List.append_nil]
    unfold blkE
    rw [show 3 * (k + 1) = 3 * k + 3 by omega, List.take_add]
section
variable {l : List Ety} (hg : Good l)
include hg
theorem cmp_len : (cmpK (keysE l) l.length).length ≤ 84 := by
  have h1 := cmpK_le (keysE l) l.length
  have h2 := hg.le
  omega
theorem fil_len : (filE l).length ≤ 112 := by
  have h1 := buildL_len (ks := keysL (cmpK (keysE l) l.length)) (by unfold keysL; rw [List.length_map]; exact cmp_len hg)
  have h2 := sealL_len (b := buildL (keysL (cmpK (keysE l) l.length)) 10) (by omega)
  unfold filE
  omega
theorem tai_len : (uintL (nbE l) ++ idxK l (nbE l)).length ≤ 4096 := by
  have h1 := hg.nb_le
  have h2 := hg.idx_le (nbE l) (by omega)
  have h3 := uintL_len1 (n := nbE l) (by omega)
  rw [List.length_append]
  omega
theorem readT_tab : readT (tabL l) = some (bksE l, buildL (keysL (cmpK (keysE l) l.length)) 10) := by
  have hnb := hg.nb_le
  have ho := hg.out_le (nbE l)
  have hoe : (outE l).length = (outK l (nbE l)).length := rfl
  have hf := fil_len hg
  have ht := tai_len hg
  have hb1 := buildL_len (ks := keysL (cmpK (keysE l) l.length)) (by unfold keysL; rw [List.length_map]; exact cmp_len hg)
  have h4 : ∀ n, (fourL n).length = 4 := fun _ => rfl
  have htab : tabL l = outE l ++ (filE l ++ (taiE l ++ (fourL (outE l).length ++ (fourL ((outE l).length + (filE l).length) ++ [99, 118, 116, 49])))) := by simp [tabL]
  have hlen : (tabL l).length = (outE l).length + (filE l).length + (taiE l).length + 12 := by
    rw [htab]
    simp only [List.length_append, h4, List.length_cons, List.length_nil]
    omega
  have htl : (tabL l).drop ((tabL l).length - 12) = fourL (outE l).length ++ (fourL ((outE l).length + (filE l).length) ++ [99, 118, 116, 49]) := by
    rw [hlen, Nat.add_sub_cancel, htab, ← List.drop_drop, ← List.drop_drop, List.drop_left, List.drop_left, List.drop_left]
  have e1 : le4 ((tabL l).drop ((tabL l).length - 12)) = (outE l).length := by rw [htl, le4_fourL _ (by omega)]
  have e2 : le4 (((tabL l).drop ((tabL l).length - 12)).drop 4) = (outE l).length + (filE l).length := by
    rw [htl, ← h4 (outE l).length, List.drop_left, le4_fourL _ (by omega)]
  unfold readT
  rw [if_neg (by omega), e1, e2, if_neg (by omega), hlen, Nat.add_sub_cancel]
  have d1 : ((tabL l).drop ((outE l).length + (filE l).length)).take ((outE l).length + (filE l).length + (taiE l).length - ((outE l).length + (filE l).length)) = sealL (uintL (nbE l) ++ idxK l (nbE l)) ++ [] := by
    rw [Nat.add_sub_cancel_left, htab, ← List.drop_drop, List.drop_left, List.drop_left, List.take_left, List.append_nil]
    rfl
  have d2 : ((tabL l).drop (outE l).length).take ((outE l).length + (filE l).length + (taiE l).length - (outE l).length) = sealL (buildL (keysL (cmpK (keysE l) l.length)) 10) ++ taiE l := by
    rw [htab, List.drop_left, ← List.append_assoc, show (outE l).length + (filE l).length + (taiE l).length - (outE l).length = (filE l ++ taiE l).length by rw [List.length_append]; omega, List.take_left]
    rfl
  rw [readU_some (by rw [d1]; exact takeF_seal _ [] ht) (by rw [d2]; exact takeF_seal _ (taiE l) (by omega))]
  dsimp only
  rw [bksR_idx hg (by omega)]
  rfl
omit hg in
theorem blk_at {k : Nat} (hk : k < nbE l) : ((tabL l).drop (bkOf l k).at_).take (bkOf l k).size = sealL (bodyE (blkE l k)) := by
  obtain ⟨r, hr⟩ := out_pre l (k := k + 1) (m := nbE l) hk
  have htab : tabL l = outE l ++ (filE l ++ (taiE l ++ (fourL (outE l).length ++ (fourL ((outE l).length + (filE l).length) ++ [99, 118, 116, 49])))) := by simp [tabL]
  rw [htab, show outE l = outK l (nbE l) from rfl, ← hr, outK]
  dsimp only [bkOf]
  simp only [List.append_assoc]
  rw [List.drop_left, List.take_left]
theorem allR_tab : allR (tabL l) (bksE l) = l := by
  have key : ∀ k, k ≤ nbE l → allR (tabL l) ((List.range k).map (bkOf l)) = (List.range k).flatMap (blkE l) := by
    intro k hk
    induction k with
    | zero => rfl
    | succ k ih =>
      have h1 := ih (by omega)
      unfold allR at h1 ⊢
      rw [List.range_succ, List.map_append, List.flatMap_append, List.flatMap_append, h1, List.map_cons, List.map_nil, List.flatMap_cons, List.flatMap_nil, List.flatMap_cons, List.flatMap_nil, blk_at (by omega), blkR_seal (hg.blk_ok k) (by have := hg.body_le k; omega)]
  unfold bksE
  rw [key _ (Nat.le_refl _), blks_cat, List.take_of_length_le (by unfold nbE; omega)]
end
theorem parseT_tab {l : List Ety} (h : errL l = 0) : parseT (tabL l) = some l := by
  have hg := good_of h
  unfold parseT
  rw [readT_tab hg]
  dsimp only
  rw [allR_tab hg, if_pos ⟨h, rfl⟩]
theorem parseT_form {b : List UInt8} {l : List Ety} (h : parseT b = some l) : errL l = 0 ∧ b = tabL l := by
  unfold parseT at h
  split at h
  · cases h
  · split at h
    · rename_i h2
      injection h with h
      rw [h] at h2
      exact ⟨h2.1, h2.2.symm⟩
    · cases h
end Go.Proofs.Ytnhcfhamcakfkaa
/- tables, plain: the order of keys, Get -/
namespace Go.Proofs.Ytnhcfhamcakfkaa
open Go.RowKit
theorem less_irrefl : ∀ a : List UInt8, Op.bytesLess a a = false
  | [] => rfl
  | a :: x => by simp [Op.bytesLess, less_irrefl x]
theorem less_trans : ∀ {a b c : List UInt8}, Op.bytesLess a b = true → Op.bytesLess b c = true → Op.bytesLess a c = true
  | _, _, [], _, h => by simp [Op.bytesLess] at h
  | [], _, _ :: _, _, _ => rfl
  | _ :: _, [], _ :: _, h, _ => by simp [Op.bytesLess] at h
  | a :: x, b :: y, c :: z, h1, h2 => by
    simp only [Op.bytesLess, Bool.or_eq_true, decide_eq_true_eq, Bool.and_eq_true, beq_iff_eq] at h1 h2 ⊢
    rcases h1 with h1 | ⟨rfl, h1⟩
    · rcases h2 with h2 | ⟨rfl, h2⟩
      · left
        rw [UInt8.lt_iff_toNat_lt] at *
        omega
      · exact .inl h1
    · rcases h2 with h2 | ⟨rfl, h2⟩
      · exact .inl h2
      · exact .inr ⟨rfl, less_trans h1 h2⟩
theorem less_total : ∀ {a b : List UInt8}, Op.bytesLess a b = false → Op.bytesLess b a = false → a = b
  | [], [], _, _ => rfl
  | [], _ :: _, h, _ => by simp [Op.bytesLess] at h
  | _ :: _, [], _, h => by simp [Op.bytesLess] at h
  | a :: x, b :: y, h1, h2 => by
    simp only [Op.bytesLess, Bool.or_eq_false_iff, decide_eq_false_iff_not, Bool.and_eq_false_iff, beq_eq_false_iff_ne] at h1 h2
    have e : a = b := by
      apply UInt8.toNat_inj.1
      have h3 := h1.1
      have h4 := h2.1
      rw [UInt8.lt_iff_toNat_lt] at h3 h4
      omega
    subst e
    rw [less_total (h1.2.resolve_left (fun h => h rfl)) (h2.2.resolve_left (fun h => h rfl))]
/-- a stands ahead of b. -/
def kl (a b : ByteArray) : Bool := Op.bytesLess a.toList b.toList
theorem bytes_ext {a b : ByteArray} (h : a.toList = b.toList) : a = b := Go.WideShapes.bytes_inj (by rwa [ByteArray.toList_eq, ByteArray.toList_eq] at h)
theorem kl_irrefl (a : ByteArray) : kl a a = false := less_irrefl _
theorem kl_trans {a b c : ByteArray} (h1 : kl a b = true) (h2 : kl b c = true) : kl a c = true := less_trans h1 h2
theorem kl_total {a b : ByteArray} (h1 : kl a b = false) (h2 : kl b a = false) : a = b := bytes_ext (less_total h1 h2)
theorem kl_asymm {a b : ByteArray} (h : kl a b = true) : kl b a = false := by
  rcases Bool.eq_false_or_eq_true (kl b a) with h1 | h1
  · have := kl_trans h h1
    rw [kl_irrefl] at this
    cases this
  · exact h1
theorem kl_le {a b c : ByteArray} (h1 : kl b a = false) (h2 : kl b c = true) : kl a c = true := by
  rcases Bool.eq_false_or_eq_true (kl a b) with h | h
  · exact kl_trans h h2
  · rw [kl_total h h1]; exact h2
theorem kl_le' {a b c : ByteArray} (h1 : kl a b = true) (h2 : kl c b = false) : kl a c = true := by
  rcases Bool.eq_false_or_eq_true (kl b c) with h | h
  · exact kl_trans h1 h
  · rw [kl_total h2 h]; exact h1
theorem befE_iff {a b : Ety} : befE a b = true ↔ kl a.key b.key = true ∨ (a.key = b.key ∧ b.seq < a.seq) := by
  unfold befE
  simp [kl]
theorem befE_trans {a b c : Ety} (h1 : befE a b = true) (h2 : befE b c = true) : befE a c = true := by
  rw [befE_iff] at h1 h2 ⊢
  rcases h1 with h1 | ⟨e1, h1⟩
  · rcases h2 with h2 | ⟨e2, h2⟩
    · exact .inl (kl_trans h1 h2)
    · exact .inl (e2 ▸ h1)
  · rcases h2 with h2 | ⟨e2, h2⟩
    · exact .inl (e1 ▸ h2)
    · exact .inr ⟨e1.trans e2, by omega⟩
theorem befE_key {a b : Ety} (h : befE a b = true) : kl b.key a.key = false := by
  rw [befE_iff] at h
  rcases h with h | ⟨h, _⟩
  · exact kl_asymm h
  · rw [h]; exact kl_irrefl _
section
variable {l : List Ety} (hg : Good l)
include hg
theorem good_bef {i j : Nat} {a b : Ety} (hij : i < j) (ha : l[i]? = some a) (hb : l[j]? = some b) : befE a b = true := by
  obtain ⟨d, rfl⟩ : ∃ d, j = i + 1 + d := ⟨j - (i + 1), by omega⟩
  clear hij
  induction d generalizing b with
  | zero => exact hg.srt i a b ha hb
  | succ d ih =>
    have hl := (List.getElem?_eq_some_iff.1 hb).1
    obtain ⟨c, hc⟩ := get_of_lt (show i + 1 + d < l.length by omega)
    exact befE_trans (ih hc) (hg.srt (i + 1 + d) c b hc hb)
theorem good_le {i j : Nat} {a b : Ety} (hij : i ≤ j) (ha : l[i]? = some a) (hb : l[j]? = some b) : kl b.key a.key = false := by
  rcases Nat.lt_or_eq_of_le hij with h | rfl
  · exact befE_key (good_bef hg h ha hb)
  · rw [ha] at hb
    obtain rfl := Option.some.inj hb
    exact kl_irrefl _
omit hg in
theorem blk_drop (l : List Ety) (k : Nat) : l.drop (3 * k) = blkE l k ++ l.drop (3 * (k + 1)) := by
  unfold blkE
  rw [show 3 * (k + 1) = 3 * k + 3 by omega, ← List.drop_drop, List.take_append_drop]
omit hg in
theorem mem_drop {x : Ety} {k : Nat} (h : x ∈ l.drop k) : ∃ i, k ≤ i ∧ l[i]? = some x := by
  obtain ⟨j, hj⟩ := List.mem_iff_getElem?.1 h
  rw [List.getElem?_drop] at hj
  exact ⟨k + j, by omega, hj⟩
omit hg in
theorem mem_blk {x : Ety} {k : Nat} (h : x ∈ blkE l k) : ∃ i, 3 * k ≤ i ∧ i < 3 * k + (blkE l k).length ∧ l[i]? = some x := by
  obtain ⟨j, hj⟩ := List.mem_iff_getElem?.1 h
  have hl := (List.getElem?_eq_some_iff.1 hj).1
  exact ⟨3 * k + j, by omega, by omega, (blkE_get hj).1⟩
omit hg in
theorem blk_pos {k : Nat} (hk : k < nbE l) : 0 < (blkE l k).length := by
  rw [blkE_len]
  unfold nbE at hk
  show 0 < Nat.min 3 (l.length - 3 * k)
  have : Nat.min 3 (l.length - 3 * k) = min 3 (l.length - 3 * k) := rfl
  omega
/-- Is the key within the block k? -/
def within (l : List Ety) (key : ByteArray) (k : Nat) : Bool := !(kl (lstK (blkE l k)) key) && !(kl key (fstK (blkE l k)))
omit hg in
theorem gtr_eq (a b : ByteArray) : (!(Op.bytesLess a.toList b.toList || (a.toList == b.toList))) = kl b a := by
  show (!(kl a b || _)) = kl b a
  rcases Bool.eq_false_or_eq_true (kl a b) with h | h
  · rw [h, kl_asymm h]; rfl
  · rw [h]
    rcases Bool.eq_false_or_eq_true (kl b a) with h2 | h2
    · have : (a.toList == b.toList) = false := by
        rw [bytes_beq]
        exact decide_eq_false (fun e => by rw [e, kl_irrefl] at h2; cases h2)
      rw [this, h2]; rfl
    · rw [kl_total h h2]
      simp [kl_irrefl]
theorem lookB_tab (key : ByteArray) (seq : Int) : ∀ (m k : Nat), k + m = nbE l → (lookB (tabL l) key seq ((List.range' k m).map (bkOf l))).1 = (l.drop (3 * k)).find? (hitE key seq) ∧
    (lookB (tabL l) key seq ((List.range' k m).map (bkOf l))).2 ≤ (List.range' k m).countP (within l key)
  | 0, k, h => by
    have : l.drop (3 * k) = [] := List.drop_of_length_le (by unfold nbE at h; omega)
    rw [this]
    exact ⟨rfl, Nat.zero_le _⟩
  | m + 1, k, h => by
    have hk : k < nbE l := by omega
    have ih := lookB_tab key seq m (k + 1) (by omega)
    have hpos := blk_pos (l := l) hk
    obtain ⟨e0, he0⟩ := get_of_lt hpos
    obtain ⟨eL, heL⟩ := get_of_lt (show (blkE l k).length - 1 < (blkE l k).length by omega)
    have h0 := (blkE_get he0).1
    have hL := (blkE_get heL).1
    have hblk : bkE (tabL l) (bkOf l k) = blkE l k := by
      unfold bkE
      rw [blk_at hk, blkR_seal (hg.blk_ok k) (by have := hg.body_le k; omega)]
    rw [List.range'_succ, List.map_cons, lookB, hblk, blk_drop l k, List.find?_append, List.countP_cons, gtr_eq]
    rw [show Op.bytesLess (bkOf l k).last.toList key.toList = kl (bkOf l k).last key from rfl]
    have ef : (bkOf l k).first = e0.key := fstK_of he0
    have el : (bkOf l k).last = eL.key := lstK_of heL
    rw [ef, el]
    by_cases c1 : kl eL.key key = true
    · rw [if_pos c1]
      have hn : (blkE l k).find? (hitE key seq) = none := by
        rw [List.find?_eq_none]
        intro x hx hh
        obtain ⟨i, hi1, hi2, hi3⟩ := mem_blk hx
        have hle := good_le hg (show i ≤ 3 * k + ((blkE l k).length - 1) by omega) hi3 hL
        simp only [hitE, Bool.and_eq_true, decide_eq_true_eq] at hh
        have := kl_le hle c1
        rw [hh.1, kl_irrefl] at this
        cases this
      rw [hn, Option.none_or]
      exact ⟨ih.1, Nat.le_trans ih.2 (Nat.le_add_right _ _)⟩
    · rw [if_neg c1]
      by_cases c2 : kl key e0.key = true
      · rw [if_pos c2]
        have hn : (blkE l k ++ l.drop (3 * (k + 1))).find? (hitE key seq) = none := by
          rw [← blk_drop, List.find?_eq_none]
          intro x hx hh
          obtain ⟨i, hi1, hi2⟩ := mem_drop hx
          have hle := good_le hg (show 3 * k + 0 ≤ i by omega) h0 hi2
          simp only [hitE, Bool.and_eq_true, decide_eq_true_eq] at hh
          have := kl_le' c2 hle
          rw [hh.1, kl_irrefl] at this
          cases this
        rw [List.find?_append] at hn
        rw [hn]
        exact ⟨rfl, Nat.zero_le _⟩
      · rw [if_neg c2]
        have hw : within l key k = true := by
          unfold within
          rw [fstK_of he0, lstK_of heL]
          simp only [Bool.not_eq_true] at c1 c2
          rw [c1, c2]
          rfl
        rw [if_pos hw]
        cases hf : (blkE l k).find? (hitE key seq) with
        | some e => exact ⟨rfl, Nat.le_add_left _ _⟩
        | none =>
          rw [Option.none_or]
          exact ⟨ih.1, by dsimp only; omega⟩
end
end Go.Proofs.Ytnhcfhamcakfkaa
/- tables by their entries: Parse, Get, All and the others of a table that was written -/
namespace Go.Proofs.Ytnhcfhamcakfkaa
open Go.RowKit
theorem Fn.reind {P : Program} {f : FuncId} {args : Array Value} {H : List Chunk} {ι ι' : Type} {res : ι → Value} {H' : ι → List Chunk} {φ : ι → Prop} {res' : ι' → Value} {H'' : ι' → List Chunk} {φ' : ι' → Prop} (h : Fn P f args H ι res H' φ) (hi : ∀ i, φ i → ∃ j, φ' j ∧ res i = res' j ∧ H' i = H'' j) : Fn P f args H ι' res' H'' φ' := fun w hs =>
  (h w hs).mono fun e w' ⟨i, h1, h2, h3⟩ => by
    obtain ⟨j, k1, k2, k3⟩ := hi i h1
    exact ⟨j, k1, by rw [h2, k2], k3 ▸ h3⟩
def filL (l : List Ety) : List UInt8 := buildL (keysL (cmpK (keysE l) l.length)) 10
/-- A table's reader: where its parts lie. -/
structure RdT where
  g : Nat
  bA : Option Addr
  bc : Nat
  xA : Option Addr
  xc : Nat
  fA : Option Addr
  fc : Nat
def RdT.vals (t : RdT) (l : List Ety) (looked : Int) : List Value := rdrV t.bA (tabL l).length t.bc t.xA (bksE l).length t.xc t.fA (filL l).length t.fc l.length looked
def RdT.own (t : RdT) (l : List Ety) : List Chunk := [blk t.g 75 (t.vals l 0), rowK t.xA t.xc (bksE l), rowB t.fA t.fc (filL l), rowB t.bA t.bc (tabL l)]
section
variable {l : List Ety} (h : errL l = 0)
include h
theorem tab_len : (tabL l).length ≤ 200000 ∧ 20 ≤ (tabL l).length := by
  have hg := good_of h
  have h1 := hg.out_le (nbE l)
  have h2 := hg.nb_le
  have h3 := fil_len hg
  have h4 := tai_len hg
  have h5 := sealL_len (b := uintL (nbE l) ++ idxK l (nbE l)) (by omega)
  have h6 := buildL_len (ks := keysL (cmpK (keysE l) l.length)) (by unfold keysL; rw [List.length_map]; exact cmp_len hg)
  have h7 : (filE l).length = (uintL (buildL (keysL (cmpK (keysE l) l.length)) 10).length).length + 4 + (buildL (keysL (cmpK (keysE l) l.length)) 10).length := sealL_length _
  have ho : (outE l).length = (outK l (nbE l)).length := rfl
  have ht : (taiE l).length = (sealL (uintL (nbE l) ++ idxK l (nbE l))).length := rfl
  have hl : (tabL l).length = (outE l).length + (filE l).length + (taiE l).length + 12 := by
    unfold tabL
    simp only [List.length_append, fourL, List.length_cons, List.length_nil]
  omega
omit h in
theorem bksE_len : (bksE l).length = nbE l := by unfold bksE; rw [List.length_map, List.length_range]
theorem inB_tab : inB (tabL l) (bksE l) := (readT_in (readT_tab (good_of h))).1
theorem filL_len : (filL l).length ≤ 4096 := (readT_in (readT_tab (good_of h))).2
theorem parse_tab (A : Option Addr) (c : Nat) : Fn Try.prog 13 #[.slice A (tabL l).length c] [rdB A (tabL l)] RdT (fun t => .tuple #[.pointer (some ⟨t.g, 0, none⟩), .int .i64 0]) (fun t => t.own l) (fun t => (tabL l).length ≤ t.bc) := by
  have hl := tab_len h
  refine (parse_sl A c (tabL l) (by omega)).reind fun i hi => ?_
  have hp := parseT_tab h
  have hr := readT_tab (good_of h)
  rcases Bool.eq_false_or_eq_true i.ok with ho | ho
  · obtain ⟨k1, k2, k3⟩ := hi.yes ho
    rw [hp] at k1
    rw [hr] at k2
    obtain ⟨e1, e2⟩ := Prod.mk.inj (Option.some.inj k2)
    have e3 := Option.some.inj k1
    refine ⟨⟨i.g, i.bA, i.bc, i.xA, i.xc, i.fA, i.fc⟩, k3, by rw [ho]; rfl, ?_⟩
    rw [ho, cond_true]
    unfold paP RdT.own RdT.vals filL
    rw [← e1, ← e2, ← e3]
  · have := hi.no ho
    rw [hp] at this
    cases this
/-- How many blocks a Get looks into. -/
def lookN (l : List Ety) (key : ByteArray) (seq : Int) : Nat := (getR (tabL l) (filL l) (bksE l) key seq).2
omit h in
theorem cmpK_all {ks : List ByteArray} {s : ByteArray} : ∀ (k i : Nat), i < k → ks[i]? = some s → s ∈ cmpK ks k
  | 0, _, h, _ => by omega
  | k + 1, i, hi, hs => by
    rw [cmpK, List.mem_append]
    rcases Nat.lt_or_ge i k with h1 | h1
    · exact .inl (cmpK_all k i h1 hs)
    · obtain rfl : i = k := by omega
      by_cases h2 : i = 0 ∨ ks[i - 1]? ≠ ks[i]?
      · right
        rw [if_pos h2, hs]
        simp
      · have h3 : ks[i - 1]? = ks[i]? := Classical.byContradiction fun h => h2 (.inr h)
        have h4 : i ≠ 0 := fun h => h2 (.inl h)
        exact .inl (cmpK_all i (i - 1) (by omega) (h3.trans hs))
theorem getR_tab (key : ByteArray) (seq : Int) : (getR (tabL l) (filL l) (bksE l) key seq).1 = l.find? (hitE key seq) ∧ lookN l key seq ≤ (if mayL (filL l) key.data.toList = true then (List.range (nbE l)).countP (within l key) else 0) := by
  have hg := good_of h
  have hk := lookB_tab hg key seq (nbE l) 0 (by omega)
  rw [← List.range_eq_range'] at hk
  unfold lookN getR
  by_cases hm : mayL (filL l) key.data.toList = true
  · rw [if_pos hm, if_pos hm]
    exact hk
  · rw [if_neg hm, if_neg hm]
    refine ⟨?_, Nat.le_refl _⟩
    symm
    rw [List.find?_eq_none]
    intro x hx hh
    simp only [hitE, Bool.and_eq_true, decide_eq_true_eq] at hh
    apply hm
    obtain ⟨i, hi⟩ := List.mem_iff_getElem?.1 hx
    have hil := (List.getElem?_eq_some_iff.1 hi).1
    have hki : (keysE l)[i]? = some key := by unfold keysE; rw [List.getElem?_map, hi, ← hh.1]; rfl
    have hc := cmp_len hg
    exact may_keeps _ _ (by unfold keysL; rw [List.length_map]; omega) _ (List.mem_map_of_mem (cmpK_all l.length i hil hki))
theorem lookN_le (key : ByteArray) (seq : Int) : lookN l key seq ≤ 28 := by
  have h1 := (getR_tab h key seq).2
  have h2 := (good_of h).nb_le
  split at h1
  · have := List.countP_le_length (p := within l key) (l := List.range (nbE l))
    rw [List.length_range] at this
    omega
  · omega
theorem get_tab (t : RdT) (looked : Int) (key : ByteArray) (seq : Int) (hc : (tabL l).length ≤ t.bc) (hk : key.size ≤ maxLen) (hl : 0 ≤ looked ∧ looked ≤ 4611686018427387904) :
    Fn Try.prog 24 #[.pointer (some ⟨t.g, 0, none⟩), .string key, .int .i64 seq] [blk t.g 75 (t.vals l looked), rd t.xA (bksE l).length 4 ((bksE l).flatMap Bk.enc), rdB t.bA (tabL l), rdB t.fA (filL l)] Unit
      (fun _ => .tuple #[.agg ((l.find? (hitE key seq)).getD Ety.zero).enc.toArray, .bool (l.find? (hitE key seq)).isSome]) (fun _ => [blk t.g 75 (t.vals l (looked + lookN l key seq))]) (fun _ => True) := by
  have hg := getR_tab h key seq
  have ht := tab_len h
  rw [← hg.1]
  exact get_sl t.g t.bA t.bc (tabL l) t.xA t.xc (bksE l) t.fA t.fc (filL l) l.length looked key seq hc (by omega) (inB_tab h) (filL_len h) hk hl
theorem all_tab (t : RdT) (looked : Int) (hc : (tabL l).length ≤ t.bc) :
    Fn Try.prog 16 #[.pointer (some ⟨t.g, 0, none⟩)] [rblk t.g 75 (t.vals l looked), rd t.xA (bksE l).length 4 ((bksE l).flatMap Bk.enc), rdB t.bA (tabL l)] (Option Addr × Nat) (fun p => .slice p.1 l.length p.2) (fun p => [rowE p.1 p.2 l]) (fun _ => True) := by
  have ht := tab_len h
  have := all_sl t.g t.bA t.bc (tabL l) t.xA t.xc (bksE l) t.fA (filL l).length t.fc l.length looked hc (by omega) (inB_tab h)
  rw [allR_tab (good_of h)] at this
  exact this
omit h in
theorem bksE_get {k : Nat} (hk : k < nbE l) : (bksE l)[k]? = some (bkOf l k) := by
  unfold bksE
  rw [List.getElem?_map, List.getElem?_range hk]
  rfl
theorem first_tab (t : RdT) (looked : Int) (e : Ety) (he : l[0]? = some e) :
    Fn Try.prog 18 #[.pointer (some ⟨t.g, 0, none⟩)] [rblk t.g 75 (t.vals l looked), rd t.xA (bksE l).length 4 ((bksE l).flatMap Bk.enc)] Unit (fun _ => .string e.key) (fun _ => []) (fun _ => True) := by
  have hnb := (good_of h).nb_le
  have h0 : (blkE l 0)[0]? = some e := by unfold blkE; rw [List.getElem?_take, if_pos (by decide), List.getElem?_drop]; exact he
  have := first_sl t.g t.bA (tabL l).length t.bc t.xA t.xc (bksE l) t.fA (filL l).length t.fc l.length looked (bkOf l 0) (bksE_get (by omega))
  rw [show (bkOf l 0).first = e.key from fstK_of h0] at this
  exact this
theorem last_tab (t : RdT) (looked : Int) (e : Ety) (he : l[l.length - 1]? = some e) :
    Fn Try.prog 19 #[.pointer (some ⟨t.g, 0, none⟩)] [rblk t.g 75 (t.vals l looked), rd t.xA (bksE l).length 4 ((bksE l).flatMap Bk.enc)] Unit (fun _ => .string e.key) (fun _ => []) (fun _ => True) := by
  have hg := good_of h
  have hnb := hg.nb_le
  have hpos := hg.pos
  have hbl := blkE_len l (nbE l - 1)
  have hbn : blkN l.length (nbE l - 1) = l.length - 3 * (nbE l - 1) := by
    show Nat.min 3 (l.length - 3 * (nbE l - 1)) = _
    have e1 : Nat.min 3 (l.length - 3 * (nbE l - 1)) = min 3 (l.length - 3 * (nbE l - 1)) := rfl
    unfold nbE at e1 ⊢
    omega
  have h0 : (blkE l (nbE l - 1))[(blkE l (nbE l - 1)).length - 1]? = some e := by
    have hn3 : l.length - 3 * (nbE l - 1) - 1 < 3 ∧ 3 * (nbE l - 1) + (l.length - 3 * (nbE l - 1) - 1) = l.length - 1 := by unfold nbE at *; omega
    rw [hbl, hbn]
    unfold blkE
    rw [List.getElem?_take, if_pos hn3.1, List.getElem?_drop, hn3.2]
    exact he
  have hx : (bksE l)[(bksE l).length - 1]? = some (bkOf l (nbE l - 1)) := by rw [bksE_len]; exact bksE_get (by omega)
  have := last_sl t.g t.bA (tabL l).length t.bc t.xA t.xc (bksE l) t.fA (filL l).length t.fc l.length looked (bkOf l (nbE l - 1)) (by rw [bksE_len]; omega) hx
  rw [show (bkOf l (nbE l - 1)).last = e.key from lstK_of h0] at this
  exact this
end
end Go.Proofs.Ytnhcfhamcakfkaa
/- tables, plain: the document reads the frames one by one, and its answer is the same -/
namespace Go.Proofs.Ytnhcfhamcakfkaa
open Go.RowKit
/-- The bytes behind the index are no frame: the few payloads that they could be have other sums. -/
def crcM (c x : Nat) : Nat := crcN 8 (c ^^^ x)
def footB (n e1 e2 : Nat) : Bool :=
  let s := 4294967295 - (([e1, e2, 0, 99, 118, 116, 49].take n).foldl crcM 4294967295)
  !(Nat.ble (s / 256 % 256) 1 && Nat.beq (s / 65536 % 256) 0) || Nat.beq (s % 16777216) 0
def footAll : Bool := (List.range 8).all fun n => (List.range 256).all fun e1 => (List.range 2).all fun e2 => footB n e1 e2
theorem footAll_true : footAll = true := by decide +kernel
theorem crcL_map (l : List UInt8) : crcL l = (l.map UInt8.toNat).foldl crcM 4294967295 := by
  unfold crcL
  rw [List.foldl_map]
  rfl
theorem foot_sum {n e1 e2 : Nat} (hn : n < 8) (h1 : e1 < 256) (h2 : e2 < 2) (l : List UInt8) (hl : l.map UInt8.toNat = [e1, e2, 0, 99, 118, 116, 49].take n) (s1 : sumL l / 256 % 256 ≤ 1) (s2 : sumL l / 65536 % 256 = 0) : sumL l % 16777216 = 0 := by
  have h := footAll_true
  unfold footAll at h
  have h := List.all_eq_true.1 (List.all_eq_true.1 (List.all_eq_true.1 h n (List.mem_range.2 hn)) e1 (List.mem_range.2 h1)) e2 (List.mem_range.2 h2)
  unfold footB at h
  rw [← hl, ← crcL_map] at h
  have e : 4294967295 - crcL l = sumL l := rfl
  rw [e] at h
  rw [Bool.or_eq_true, Bool.not_eq_true'] at h
  rcases h with h | h
  · rw [Bool.and_eq_false_iff] at h
    rcases h with h | h
    · have : Nat.ble (sumL l / 256 % 256) 1 = true := Nat.ble_eq_true_of_le s1
      rw [this] at h; cases h
    · rw [s2] at h; cases h
  · exact Nat.eq_of_beq_eq_true h
theorem toNat_of {m : Nat} (h : m < 256) : (UInt8.ofNat m).toNat = m := by simp; omega
theorem foot_none {a e : Nat} (ha : 5 ≤ a) (ha2 : a ≤ 92652) (hae : a < e) (he : e ≤ a + 112) : takeF (fourL a ++ fourL e ++ [99, 118, 116, 49]) = none := by
  cases h : takeF (fourL a ++ fourL e ++ [99, 118, 116, 49]) with
  | none => rfl
  | some x =>
    exfalso
    obtain ⟨p, k⟩ := x
    obtain ⟨h5, hk, h4, hpk, htk, hks⟩ := takeF_size h
    have hlen : (fourL a ++ fourL e ++ [99, 118, 116, 49]).length = 12 := rfl
    rw [hlen] at hk
    have hp7 : p.length < 8 := by omega
    have hu : uintL p.length = [UInt8.ofNat p.length] := by
      have : ∀ n, n < 8 → uintL n = [UInt8.ofNat n] := by decide
      exact this _ hp7
    have hs : sealL p = UInt8.ofNat p.length :: (sum4 (sumL p) ++ p) := by unfold sealL; rw [hu]; rfl
    have hkl : k = p.length + 5 := by
      rw [hks, hs, List.length_cons, List.length_append]
      show 4 + p.length + 1 = _
      omega
    have hb : (fourL a ++ fourL e ++ [99, 118, 116, 49]) = [UInt8.ofNat a, UInt8.ofNat (a / 256), UInt8.ofNat (a / 65536), UInt8.ofNat (a / 16777216), UInt8.ofNat e, UInt8.ofNat (e / 256), UInt8.ofNat (e / 65536), UInt8.ofNat (e / 16777216), 99, 118, 116, 49] := rfl
    rw [hb, hs, hkl] at htk
    simp only [List.take_succ_cons, sum4, List.cons_append, List.nil_append, List.cons.injEq] at htk
    obtain ⟨t0, t1, t2, t3, t4, t5⟩ := htk
    have hlt := sumL_lt p
    have c : ∀ {m n : Nat}, UInt8.ofNat m = UInt8.ofNat n → m % 256 = n % 256 := fun {m n} h => by
      have := congrArg UInt8.toNat h
      simpa using this
    have t0 := c t0
    have t1 := c t1
    have t2 := c t2
    have t3 := c t3
    have t4 := c t4
    have e16 : e / 16777216 = 0 := by omega
    have e65 : e / 65536 ≤ 1 := by omega
    have a16 : a / 16777216 = 0 := by omega
    have a65 : a / 65536 ≤ 1 := by omega
    have e65m : e / 65536 % 256 = e / 65536 := Nat.mod_eq_of_lt (by omega)
    have a65m : a / 65536 % 256 = a / 65536 := Nat.mod_eq_of_lt (by omega)
    have hmap : p.map UInt8.toNat = [e / 256 % 256, e / 65536 % 256, 0, 99, 118, 116, 49].take p.length := by
      rw [← t5, List.map_take]
      simp only [List.map_cons, List.map_nil, List.length_take, List.length_cons, List.length_nil]
      rw [show min p.length (0 + 1 + 1 + 1 + 1 + 1 + 1 + 1) = p.length by omega]
      congr 1
      simp
      omega
    have hz := foot_sum hp7 (e1 := e / 256 % 256) (e2 := e / 65536 % 256) (by omega) (by omega) p hmap (by omega) (by omega)
    by_cases h0 : p.length = 0
    · omega
    · -- a payload of its own: the sum's bytes are zero but the last
      have hp0 : sumL p % 16777216 = 0 := hz
      have ha0 : a = p.length := by omega
      have h6 : a ≤ 7 := by omega
      have he2 : e ≤ 119 := by omega
      have e1 : e / 256 % 256 = 0 := by omega
      have e2 : e / 65536 % 256 = 0 := by omega
      rw [e1, e2] at hmap
      have : ∀ n, n < 8 → 0 < n → (4294967295 - (([0, 0, 0, 99, 118, 116, 49].take n).foldl crcM 4294967295)) % 16777216 ≠ 0 := by decide +kernel
      refine this p.length hp7 (by omega) ?_
      rw [← hmap, ← crcL_map]
      exact hp0
theorem scanF_app (r : List UInt8) : ∀ ps : List (List UInt8), (∀ p ∈ ps, p.length ≤ 4096) → (scanF (seals ps ++ r)).1 = ps ++ (scanF r).1
  | [], _ => rfl
  | p :: ps, h => by
    have e : seals (p :: ps) ++ r = sealL p ++ (seals ps ++ r) := by simp [seals]
    rw [e, scanF_some (takeF_seal p _ (h p List.mem_cons_self)), List.drop_left, scanF_app r ps (fun q hq => h q (List.mem_cons_of_mem _ hq))]
    rfl
/-- The entries that these frames are. -/
def framesE : List (List UInt8) → Option (List Ety)
  | [] => some []
  | f :: r => (entsF f).bind fun l => (framesE r).map (l ++ ·)
/-- What the document reads. -/
def refP (b : List UInt8) : Option (List Ety) := (framesE ((scanF b).1.take (min 84 ((scanF b).1.length - 2)))).bind fun out => if errL out = 0 ∧ tabL out = b then some out else none
theorem framesE_snoc (f : List UInt8) : ∀ fs : List (List UInt8), framesE (fs ++ [f]) = (framesE fs).bind fun l => (entsF f).map (l ++ ·)
  | [] => by
    show (entsF f).bind _ = _
    cases entsF f <;> simp [framesE]
  | g :: fs => by
    show (entsF g).bind (fun l => (framesE (fs ++ [f])).map (l ++ ·)) = ((entsF g).bind fun l => (framesE fs).map (l ++ ·)).bind _
    rw [framesE_snoc f fs]
    cases entsF g with
    | none => rfl
    | some x =>
      dsimp only [Option.bind_some]
      cases framesE fs with
      | none => rfl
      | some y =>
        dsimp only [Option.map_some, Option.bind_some]
        cases entsF f with
        | none => rfl
        | some z => simp
section
variable {l : List Ety} (h : errL l = 0)
include h
omit h in
theorem out_seals : ∀ k, outK l k = seals ((List.range k).map fun k => bodyE (blkE l k))
  | 0 => rfl
  | k + 1 => by
    rw [outK, out_seals k, List.range_succ, List.map_append, seals_append]
    simp [seals]
theorem frames_bodies : ∀ k, framesE ((List.range k).map fun k => bodyE (blkE l k)) = some ((List.range k).flatMap (blkE l))
  | 0 => rfl
  | k + 1 => by
    rw [List.range_succ, List.map_append, List.map_cons, List.map_nil, framesE_snoc, frames_bodies k, Option.bind_some, entsF_bodyE _ ((good_of h).blk_ok k), List.flatMap_append]
    simp
theorem refP_tab : refP (tabL l) = some l := by
  have hg := good_of h
  have hnb := hg.nb_le
  have ho := hg.out_le (nbE l)
  have hoe : (outE l).length = (outK l (nbE l)).length := rfl
  have hpos : 5 ≤ (outE l).length := by
    have h1 := out_mono (l := l) (k := 1) (m := nbE l) (by omega)
    have h2 : (outK l 1).length = (sealL (bodyE (blkE l 0))).length := by rw [outK, List.length_append]; simp [outK]
    have h3 : 5 ≤ (sealL (bodyE (blkE l 0))).length := by
      have := takeF_seal (bodyE (blkE l 0)) [] (by have := hg.body_le 0; omega)
      exact (takeF_size this).1
    omega
  have hf := fil_len hg
  have ht := tai_len hg
  have hfp : 5 ≤ (filE l).length := by
    have := takeF_seal (buildL (keysL (cmpK (keysE l) l.length)) 10) [] (by
      have := buildL_len (ks := keysL (cmpK (keysE l) l.length)) (by unfold keysL; rw [List.length_map]; exact cmp_len hg)
      omega)
    exact (takeF_size this).1
  have hfl := buildL_len (ks := keysL (cmpK (keysE l) l.length)) (by unfold keysL; rw [List.length_map]; exact cmp_len hg)
  obtain ⟨bs, hbs⟩ : ∃ bs, bs = (List.range (nbE l)).map fun k => bodyE (blkE l k) := ⟨_, rfl⟩
  have hbl : bs.length = nbE l := by rw [hbs]; simp
  have htab : tabL l = seals (bs ++ [buildL (keysL (cmpK (keysE l) l.length)) 10, uintL (nbE l) ++ idxK l (nbE l)]) ++ (fourL (outE l).length ++ fourL ((outE l).length + (filE l).length) ++ [99, 118, 116, 49]) := by
    unfold tabL
    rw [show outE l = seals bs by rw [hbs]; exact out_seals _, seals_append]
    simp [seals, filE, taiE]
  have hle : ∀ p ∈ bs ++ [buildL (keysL (cmpK (keysE l) l.length)) 10, uintL (nbE l) ++ idxK l (nbE l)], p.length ≤ 4096 := by
    intro p hp
    rw [List.mem_append] at hp
    rcases hp with hp | hp
    · rw [hbs] at hp
      obtain ⟨k, _, rfl⟩ := List.mem_map.1 hp
      have := hg.body_le k
      omega
    · simp only [List.mem_cons, List.not_mem_nil, or_false] at hp
      rcases hp with rfl | rfl
      · omega
      · exact ht
  have hsc : (scanF (tabL l)).1 = bs ++ [buildL (keysL (cmpK (keysE l) l.length)) 10, uintL (nbE l) ++ idxK l (nbE l)] := by
    rw [htab, scanF_app _ _ hle, scanF_none (foot_none hpos (by omega) (by omega) (by omega)), List.append_nil]
  unfold refP
  rw [hsc, List.length_append, hbl, List.length_cons, List.length_cons, List.length_nil, show min 84 (nbE l + (0 + 1 + 1) - 2) = nbE l by omega, ← hbl, List.take_left, hbs, frames_bodies h, Option.bind_some, blks_cat, List.take_of_length_le (by unfold nbE; omega), if_pos ⟨h, rfl⟩]
end
theorem refP_eq (b : List UInt8) : refP b = parseT b := by
  cases h : parseT b with
  | some l =>
    obtain ⟨h1, rfl⟩ := parseT_form h
    exact refP_tab h1
  | none =>
    cases h2 : refP b with
    | none => rfl
    | some l =>
      exfalso
      unfold refP at h2
      obtain ⟨out, -, h3⟩ := Option.bind_eq_some_iff.1 h2
      split at h3
      · rename_i h4
        have := parseT_tab h4.1
        rw [h4.2, h] at this
        cases this
      · cases h3
end Go.Proofs.Ytnhcfhamcakfkaa
/-
  Frames that change: loops and meeting points whose ways pile up marks of ranges over functions.
-/
namespace Go.Proofs.Ytnhcfhamcakfkaa
open Go.RowKit
section
variable {Γ : Ctx} {N : Frm} {P : Program} {E : Env} {H : List Chunk} {κ : Cont}
def InvN (Γ : Ctx) {ι : Type} (Ns : ι → Frm) (Es : ι → Env) (Hs : ι → List Chunk) (φ : ι → Prop) : Asrt := fun a w => ∃ j, φ j ∧ Rep (Ns j) (Es j) a ∧ Sat Γ (Hs j) w
theorem Ent.invN {ι : Type} {Ns : ι → Frm} {Es : ι → Env} {Hs : ι → List Chunk} {φ : ι → Prop} (j : ι) (hj : φ j) (hE : E.le (Es j)) (hH : H = Hs j) (hN : N = Ns j := by rfl) : Ent Γ N E H (InvN Γ Ns Es Hs φ) := fun _ _ hr hs => ⟨j, hj, hN ▸ hr.le hE, hH ▸ hs⟩
theorem Cd.loopN {ι : Type} {c : Code} (Ns : ι → Frm) (Es : ι → Env) (Hs : ι → List Chunk) (φ : ι → Prop) (μ : ι → Nat) (j0 : ι) (h0 : φ j0) (hE : E.le (Es j0)) (hH : Hs j0 = H) (hN : Ns j0 = N) (hro : ∀ j, (Ns j).round = N.round)
    (round : ∀ j, φ j → Cd Γ (Ns j) P (Es j) (Hs j) c { κ with normal := InvN Γ Ns Es Hs (fun k => φ k ∧ μ k < μ j) }) : Cd Γ N P E H (.loop c) κ := by
  intro a w hr hs
  intro b k cs hro' hb hrm
  have key : ∀ n j a w, μ j = n → φ j → Rep (Ns j) (Es j) a → Sat Γ (Hs j) w →
      ∃ e a' w', κ.toQ e a' w' ∧ ArrivesIn (Machine.fenced P N.fence) P (lone (b.atR a (.code c :: .inLoop c :: k)) cs w) b k cs e a' w' := by
    intro n
    induction n using Nat.strongRecOn with
    | _ n ih =>
      intro j a w hn hj hr hs
      have hround : Code.wpIn N.fence 0 P c { κ with normal := InvN Γ Ns Es Hs (fun k => φ k ∧ μ k < μ j) }.toQ a w := by
        have := round j hj a w hr hs
        unfold Frm.fence at this ⊢
        rw [hro j] at this
        exact this
      obtain ⟨e, a₁, w₁, hq, harr⟩ := hround b (.inLoop c :: k) cs hro' hb hrm
      cases e with
      | normal =>
        obtain ⟨j', ⟨hj', hlt⟩, hr', hs'⟩ := hq
        obtain ⟨e₂, a₂, w₂, hq₂, harr₂⟩ := ih (μ j') (hn ▸ hlt) j' a₁ w₁ rfl hj' hr' hs'
        exact ⟨e₂, a₂, w₂, hq₂, .of_steps (StepsIn.trans harr (.one (fenced_calm hb hrm rfl) stepR_inLoop)) harr₂⟩
      | exit id => exact ⟨.exit id, a₁, w₁, hq, .pass (x := .inLoop c) rfl (fun _ _ => .inl (by simp)) harr⟩
      | goto l => exact hq.elim
      | ret => exact ⟨.ret, a₁, w₁, hq, .pass (x := .inLoop c) rfl (fun _ _ => .inl (by simp)) harr⟩
      | panic ch => exact hq.elim
      | outgrown => exact hq.elim
  obtain ⟨e, a', w', hq, harr⟩ := key _ j0 a w rfl h0 (hN ▸ hr.le hE) (hH ▸ hs)
  exact ⟨e, a', w', hq, .of_steps (.one (fenced_calm hb hrm rfl) stepR_loop) harr⟩
theorem Cd.cutN {c : Code} {ι : Type} (Ns : ι → Frm) (Es : ι → Env) (Hs : ι → List Chunk) (φ : ι → Prop) (h1 : Cd Γ N P E H c { κ with normal := InvN Γ Ns Es Hs φ }) (h2 : ∀ j, φ j → Ent Γ (Ns j) (Es j) (Hs j) κ.normal) : Cd Γ N P E H c κ := fun a w hr hs =>
  Code.wpIn_mono (fun e a w q => by
    cases e with
    | normal => obtain ⟨j, hj, hr', hs'⟩ := q; exact h2 j hj a w hr' hs'
    | _ => exact q) (h1 a w hr hs)
/-- All marks as one piece. -/
def markz (Ds : List Nat) : Chunk := starx (Ds.map markP)
/-- The frame with these marks. -/
def frm (n : Nat) (Ds : List Nat) : Frm := ⟨n, Ds.map mkD, none⟩
theorem Ent.marks0 {A : Asrt} (h : Ent Γ N E (markz [] :: H) A) : Ent Γ N E H A := fun a w hr hs => h a w hr (Sat.starx_close (A := []) (fun _ h => (List.not_mem_nil h).elim) hs)
theorem Ent.marks {D : Nat} {Ds : List Nat} {A : Asrt} (h : Ent Γ N E (markz (D :: Ds) :: H) A) : Ent Γ N E (markP D :: markz Ds :: H) A := fun a w hr hs => h a w hr (by
  have h1 : Sat Γ (markz Ds :: (H ++ [markP D])) w := (Sat.app_comm (A := [markP D]) hs)
  have h2 : Sat Γ ((Ds.map markP ++ H) ++ [markP D]) w := by have := h1.starx_open; simpa using this
  have h3 : Sat Γ ((D :: Ds).map markP ++ H) w := by have := h2.app_comm; simpa using this
  exact Sat.starx_close (fun C hC => by obtain ⟨D', _, rfl⟩ := List.mem_map.1 hC; rfl) h3)
theorem Ent.retX {fn : Func} {ι : Type} {res : ι → Value} {H' : ι → List Chunk} {φ : ι → Prop} {v : Value} (Ds : List Nat) (hd : N.ds = Ds.map mkD) (i : ι) (hi : φ i) (hv : Res Γ N P fn E H v) (hres : v = res i) (is : List Nat) (hs : selB (H.map (·.excl)) is = true) (hH : picks H is = H' i) :
    Ent Γ N E (markz Ds :: H) (bodyPostM Fence.wide 0 P fn (fun e w' => ∃ i, φ i ∧ e = .returned (res i) ∧ Sat Γ (H' i) w') .ret) := fun a w hr hs' =>
  Ent.retM Ds hd i hi hv hres is hs hH a w hr hs'.starx_open
end
section
variable {Γ : Ctx} {N : Frm} {P : Program} {E : Env} {H : List Chunk} {o : Oper} {x y : Operand}
theorem Ev.ptrSome {t t' : TypeId} {a : Addr} {e : TypeId} (ho : o.op = .binOp .neq t x y t') (hx : E.ev x = some (.pointer (some a))) (hy : E.ev y = some (.pointer none)) (ht : P.underlying t = some (.pointer e)) : Ev Γ N P E H o (.bool true) :=
  .bin ho hx hy (fun _ => rfl) (fun w => by
    have : (Op.equal t (.pointer (some a)) (.pointer none)).run P w = .ok false w := by
      show (Op.equalIn (9999 + 1) t _ _).run P w = _
      unfold Op.equalIn
      simp [run_underlying ht]
    simp [binOp, this])
theorem Ev.ptrNone {t t' : TypeId} {e : TypeId} (ho : o.op = .binOp .eql t x y t') (hx : E.ev x = some (.pointer none)) (hy : E.ev y = some (.pointer none)) (ht : P.underlying t = some (.pointer e)) : Ev Γ N P E H o (.bool true) :=
  .bin ho hx hy (fun _ => rfl) (fun w => by
    have : (Op.equal t (.pointer none) (.pointer none)).run P w = .ok true w := by
      show (Op.equalIn (9999 + 1) t _ _).run P w = _
      unfold Op.equalIn
      simp [run_underlying ht]
    simp [binOp, this])
end
end Go.Proofs.Ytnhcfhamcakfkaa
/- single bytes read -/
namespace Go.Proofs.Ytnhcfhamcakfkaa
open Go.RowKit
theorem Ev.loadU8 {Γ : Ctx} {N : Frm} {P : Program} {E : Env} {H : List Chunk} {o : Oper} {x : Operand} {t n k : Nat} {ad : Addr} {xs : List UInt8} {u : UInt8} (ho : o.op = .load t x) (hx : E.ev x = some (.pointer (some (ad.add (k * 1))))) (hi : ReadsIn Γ H 1 (some ad) n (u8s xs)) (ht : one P t = true) (hu : xs[k]? = some u) : Ev Γ N P E H o (.int .u8 u.toNat) :=
  .loadOf ho hx fun w hs => by
    have hh : Reads w w.heap.size 1 (some ad) n (u8s xs) := hi w hs
    have hk : k < xs.length := (List.getElem?_eq_some_iff.1 hu).1
    have := hh.1
    exact run_loadVar_one ht (rd_cell hh (by rw [u8s_length] at this; omega) (by rw [Nat.mul_one, u8s_get, hu]; rfl))
theorem ReadsIn.preB {Γ : Ctx} {H : List Chunk} {A : Option Addr} {c : Nat} {l r : List UInt8} (i : Nat) (hi : H[i]? = some (rowB A c (l ++ r))) : ReadsIn Γ H 1 A l.length (u8s l) := fun w hs => by
  have ho : Own w 0 5 1 A (l ++ r).length c (u8s (l ++ r)) := hs.mem hi
  have := ho.reads.take (k := l.length) (by rw [List.length_append]; omega)
  rw [Nat.mul_one, u8s_append, List.take_left' (u8s_length l)] at this
  exact this
end Go.Proofs.Ytnhcfhamcakfkaa
/- the document's entries: what a block's payload seems to say -/
namespace Go.Proofs.Ytnhcfhamcakfkaa
open Go.RowKit
theorem entC_b1 {l : List UInt8} (h : (takeT l).2 = 0) : (entC l).2.2 = true := by
  have ht : (txtC l).2.2 = true := by unfold txtC; rw [if_pos h]
  cases hd : (l.drop (txtC l).2.1).drop (numC (l.drop (txtC l).2.1)).2.1 with
  | nil => rw [entC_nil hd]
  | cons d r => rw [entC_cons hd, ht]; rfl
section
variable {l : List UInt8} (h : (takeT l).2 ≠ 0)
include h
theorem txtC_some : txtC l = (txt (takeT l).1, (takeT l).2, false) := by unfold txtC; rw [if_neg h]
theorem entC_b2 (h2 : (takeU (l.drop (takeT l).2)).2 = 0 ∨ (takeU (l.drop (takeT l).2)).2 = (l.drop (takeT l).2).length ∨ 4611686018427387904 < (takeU (l.drop (takeT l).2)).1) : (entC l).2.2 = true := by
  have ht := txtC_some h
  cases hd : (l.drop (txtC l).2.1).drop (numC (l.drop (txtC l).2.1)).2.1 with
  | nil => rw [entC_nil hd]
  | cons d r =>
    rw [entC_cons hd]
    dsimp only
    rw [ht] at hd ⊢
    dsimp only at hd ⊢
    by_cases h3 : (takeU (l.drop (takeT l).2)).2 = 0 ∨ 4611686018427387904 < (takeU (l.drop (takeT l).2)).1
    · have hn : numC (l.drop (takeT l).2) = (0, 0, true) := by unfold numC; rw [if_pos h3]
      rw [hn]
      rfl
    · exfalso
      have hn : numC (l.drop (takeT l).2) = ((takeU (l.drop (takeT l).2)).1, (takeU (l.drop (takeT l).2)).2, false) := by unfold numC; rw [if_neg h3]
      have h4 : (takeU (l.drop (takeT l).2)).2 = (l.drop (takeT l).2).length := by
        rcases h2 with h2 | h2 | h2
        · exact absurd (.inl h2) h3
        · exact h2
        · exact absurd (.inr h2) h3
      rw [hn] at hd
      dsimp only at hd
      rw [h4, List.drop_length] at hd
      cases hd
theorem entC_b3 (h2 : ¬ ((takeU (l.drop (takeT l).2)).2 = 0 ∨ (takeU (l.drop (takeT l).2)).2 = (l.drop (takeT l).2).length ∨ 4611686018427387904 < (takeU (l.drop (takeT l).2)).1)) :
    ∃ d r, (l.drop (takeT l).2)[(takeU (l.drop (takeT l).2)).2]? = some d ∧ (l.drop (takeT l).2).drop ((takeU (l.drop (takeT l).2)).2 + 1) = r ∧
      (takeT r).2 ≤ r.length ∧ ((takeT r).2 = 0 → (entC l).2.2 = true) ∧ ((takeT r).2 ≠ 0 → (entC l).2.2 = false ∧ (entC l).1 = ⟨txt (takeT l).1, (takeU (l.drop (takeT l).2)).1, d == 1, txt (takeT r).1⟩ ∧ l.drop (entC l).2.1 = r.drop (takeT r).2) := by
  have ht := txtC_some h
  have hle := takeU_le (l.drop (takeT l).2)
  have hlt : (takeU (l.drop (takeT l).2)).2 < (l.drop (takeT l).2).length := by omega
  have hn : numC (l.drop (takeT l).2) = ((takeU (l.drop (takeT l).2)).1, (takeU (l.drop (takeT l).2)).2, false) := by unfold numC; rw [if_neg (by omega)]
  obtain ⟨d, hd⟩ := get_of_lt hlt
  have hdr : (l.drop (takeT l).2).drop (takeU (l.drop (takeT l).2)).2 = d :: (l.drop (takeT l).2).drop ((takeU (l.drop (takeT l).2)).2 + 1) := by
    obtain ⟨hx, rfl⟩ := List.getElem?_eq_some_iff.1 hd
    exact List.drop_eq_getElem_cons hx
  refine ⟨d, _, hd, rfl, (takeT_le _).1, ?_⟩
  have hd2 : (l.drop (txtC l).2.1).drop (numC (l.drop (txtC l).2.1)).2.1 = d :: (l.drop (takeT l).2).drop ((takeU (l.drop (takeT l).2)).2 + 1) := by
    rw [ht]
    dsimp only
    rw [hn]
    exact hdr
  have he := entC_cons hd2
  rw [ht] at he
  dsimp only at he
  rw [hn] at he
  dsimp only at he
  generalize hr : (l.drop (takeT l).2).drop ((takeU (l.drop (takeT l).2)).2 + 1) = r at he ⊢
  refine ⟨fun h0 => ?_, fun h0 => ?_⟩
  · have : (txtC r).2.2 = true := by unfold txtC; rw [if_pos h0]
    rw [he, this]
    rfl
  · rw [he, txtC_some h0]
    refine ⟨rfl, rfl, ?_⟩
    dsimp only
    rw [← hr]
    simp only [List.drop_drop]
    congr 1
end
/-- How far entries has come. -/
structure EnR where
  rest : List UInt8
  A : Option Addr
  c : Nat
  out : List Ety
  oA : Option Addr
  oc : Nat
structure EnRI (b : List UInt8) (j : EnR) : Prop where
  cap : j.rest.length ≤ j.c
  le : 4 * j.out.length + j.rest.length ≤ b.length
  eq : entsF b = (entsF j.rest).map (j.out ++ ·)
theorem entsF_bad {l : List UInt8} (hne : l ≠ []) (h : (entC l).2.2 = true) : entsF l = none := by rw [entsF_step hne, h, cond_true]
theorem EnRI.bad {b : List UInt8} {j : EnR} (hj : EnRI b j) (hne : j.rest ≠ []) (h : (entC j.rest).2.2 = true) : entsF b = none := by rw [hj.eq, entsF_bad hne h]; rfl
theorem EnRI.next {b : List UInt8} {j : EnR} (hj : EnRI b j) (hne : j.rest ≠ []) (h : (entC j.rest).2.2 = false) (A : Option Addr) (c : Nat) (q : Option Addr × Nat) (hc : (j.rest.drop (entC j.rest).2.1).length ≤ c) : EnRI b ⟨j.rest.drop (entC j.rest).2.1, A, c, j.out ++ [(entC j.rest).1], q.1, q.2⟩ := by
  have h4 := (entC_le j.rest).2 h
  have h5 := (entC_le j.rest).1
  have hl := hj.le
  refine ⟨hc, ?_, ?_⟩
  · dsimp only
    rw [List.length_append, List.length_drop, List.length_cons, List.length_nil]
    omega
  · rw [hj.eq, entsF_step hne, h, cond_false]
    dsimp only
    cases entsF (j.rest.drop (entC j.rest).2.1) with
    | none => rfl
    | some x => simp
theorem entsF_len {b : List UInt8} {l : List Ety} (h : entsF b = some l) : 4 * l.length ≤ b.length := by
  suffices H : ∀ n (b : List UInt8) (l : List Ety), b.length ≤ n → entsF b = some l → 4 * l.length ≤ b.length from H _ b l (Nat.le_refl _) h
  intro n
  induction n with
  | zero =>
    intro b l hb h
    obtain rfl := List.eq_nil_of_length_eq_zero (by omega : b.length = 0)
    rw [entsF_nil] at h
    cases h
    simp
  | succ n ih =>
    intro b l hb h
    by_cases hne : b = []
    · subst hne
      rw [entsF_nil] at h
      cases h
      simp
    · rw [entsF_step hne] at h
      rcases Bool.eq_false_or_eq_true (entC b).2.2 with hx | hx
      · rw [hx, cond_true] at h; cases h
      · rw [hx, cond_false] at h
        have h4 := (entC_le b).2 hx
        have h5 := (entC_le b).1
        cases hr : entsF (b.drop (entC b).2.1) with
        | none => rw [hr] at h; cases h
        | some x =>
          rw [hr] at h
          simp only [Option.map_some, Option.some.injEq] at h
          subst h
          have := ih _ x (by rw [List.length_drop]; omega) hr
          rw [List.length_drop] at this
          rw [List.length_cons]
          omega
set_option maxHeartbeats 1000000 in
theorem refEntries_sl (A : Option Addr) (c : Nat) (b : List UInt8) (hc : b.length ≤ c) (hm : b.length ≤ 1048576) :
    Fn Try.prog 48 #[.slice A b.length c] [rdB A b] (Option Addr × Nat) (fun p => .tuple #[.slice p.1 ((entsF b).getD []).length p.2, .bool (entsF b).isSome]) (fun p => [rowE p.1 p.2 ((entsF b).getD [])]) (fun _ => True) := by
  refine Fn.enter Try.func48 rfl Try.ntmps48 (by rfl) ?_
  intro w0
  skip
  refine Cd.seq ?_
  refine Cd.region ?_
  refine Ls.ev (some 2) (Ev.assign (show Oper.op _ = Op.assign (Operand.const (Value.slice none 0 0)) from rfl) (by rfl)) (by rfl) (by rfl) ?_
  refine Ls.ev (some 3) (Ev.assign (show Oper.op _ = Op.assign (Operand.const (Value.bool false)) from rfl) (by rfl)) (by rfl) (by rfl) ?_
  refine Ls.nil ?_
  refine Cd.seq ?_
  refine Cd.region ?_
  refine Ls.ev (some 4) (Ev.assign (show Oper.op _ = Op.assign (Operand.const (Value.slice none 0 0)) from rfl) (by rfl)) (by rfl) (by rfl) ?_
  refine Ls.nil ?_
  refine Cd.seq ?_
  refine Cd.block ?_
  refine Ent.nil 42 4 ?_
  refine Cd.loop (ι := EnR) (fun j => [(0, .slice j.A j.rest.length j.c), (4, .slice j.oA j.out.length j.oc)]) (fun j => [rowE j.oA j.oc j.out, rdB j.A j.rest]) (EnRI b) (fun j => j.rest.length) (⟨b, A, c, [], none, 0⟩) (⟨hc, by simp, by cases entsF b <;> rfl⟩) ?_ rfl ?_
  · (repeat (first | exact trivial | refine ⟨by rfl, ?_⟩))
  rintro ⟨rest, rA, rc, out, oA, oc⟩ hj
  have hcap := hj.cap
  have hle := hj.le
  have hbad := hj.bad
  have hnext := hj.next
  have heq := hj.eq
  dsimp only at hcap hle hbad hnext heq ⊢
  refine Cd.seq ?_
  refine Cd.seq ?_
  refine Cd.region ?_
  refine Ls.ev (some 10) (Ev.move (show Oper.op _ = Op.move (Operand.tmp 0) from rfl) (by rfl)) (by rfl) (by rfl) ?_
  refine Ls.ev (some 11) (Ev.len (show Oper.op _ = Op.call { callee := Callee.builtin Builtin.len, args := #[Operand.tmp 10], argTypes := #[25] } from rfl) (by rfl) Try.underlying25) (by rfl) (by rfl) ?_
  refine Ls.ev (some 12) (Ev.gtr (show Oper.op _ = Op.binOp BinOp.gtr 3 (Operand.tmp 11) (Operand.const (Value.int IntKind.i64 0)) 3 from rfl) (by rfl) (by rfl)) (by rfl) (by rfl) ?_
  refine Ls.nil ?_
  refine Cd.cond _ (by rfl) (fun h => ?_) (fun h => ?_)
  · skip
    have hpos : 0 < rest.length := by have := of_decide_eq_true h; omega
    have hne : rest ≠ [] := fun e => by rw [e] at hpos; exact absurd hpos (by decide)
    have ht1 := takeT_le rest
    refine Cd.skip ?_
    refine Cd.block ?_
    refine Cd.seq ?_
    refine Cd.region ?_
    refine Ls.ev (some 14) (Ev.move (show Oper.op _ = Op.move (Operand.tmp 0) from rfl) (by rfl)) (by rfl) (by rfl) ?_
    refine Ls.does (some 15) (Does.read (show Oper.op _ = Op.call { callee := Callee.value (Operand.func 64), args := #[Operand.tmp 14], argTypes := #[25] } from rfl) Try.func64 (by kernel_rfl) (by kernel_rfl) (refTakeText_sl rA rc rest hcap (by unfold maxLen; omega)) (by rfl) (by rfl) ⟨ReadsIn.rd 1 (by rfl), trivial⟩) (by rfl) (by rfl) ?_
    rintro _ -
    refine Ls.ev (some 13) (Ev.move (show Oper.op _ = Op.move (Operand.tmp 15) from rfl) (by rfl)) (by rfl) (by rfl) ?_
    refine Ls.ev (some 16) (Ev.extract (show Oper.op _ = Op.extract (Operand.tmp 13) 0 from rfl) (by rfl) (by rfl)) (by rfl) (by rfl) ?_
    refine Ls.ev (some 17) (Ev.extract (show Oper.op _ = Op.extract (Operand.tmp 13) 1 from rfl) (by rfl) (by rfl)) (by rfl) (by rfl) ?_
    refine Ls.ev (some 5) (Ev.assign (show Oper.op _ = Op.assign (Operand.tmp 16) from rfl) (by rfl)) (by rfl) (by rfl) ?_
    refine Ls.ev (some 6) (Ev.assign (show Oper.op _ = Op.assign (Operand.tmp 17) from rfl) (by rfl)) (by rfl) (by rfl) ?_
    refine Ls.nil ?_
    refine Cd.seq ?_
    refine Cd.seq ?_
    refine Cd.region ?_
    refine Ls.ev (some 18) (Ev.move (show Oper.op _ = Op.move (Operand.tmp 6) from rfl) (by rfl)) (by rfl) (by rfl) ?_
    refine Ls.ev (some 19) (Ev.eql (show Oper.op _ = Op.binOp BinOp.eql 3 (Operand.tmp 18) (Operand.const (Value.int IntKind.i64 0)) 3 from rfl) (by rfl) (by rfl)) (by rfl) (by rfl) ?_
    refine Ls.nil ?_
    refine Cd.cond _ (by rfl) (fun h1 => ?_) (fun h1 => ?_)
    · skip
      have h1' : (takeT rest).2 = 0 := by have := of_decide_eq_true h1; omega
      rw [hbad hne (entC_b1 h1')]
      refine Cd.seq ?_
      refine Cd.region ?_
      refine Ls.ev (some 2) (Ev.assign (show Oper.op _ = Op.assign (Operand.const (Value.slice none 0 0)) from rfl) (by rfl)) (by rfl) (by rfl) ?_
      refine Ls.ev (some 3) (Ev.assign (show Oper.op _ = Op.assign (Operand.const (Value.bool false)) from rfl) (by rfl)) (by rfl) (by rfl) ?_
      refine Ls.nil ?_
      refine Ent.nil 42 4 ?_
      refine Cd.ret ?_
      refine Ent.ret ((none, 0)) (trivial) (Res.tmp2 (by rfl) (by rfl) (by rfl)) ?_ [0] (by rfl) ?_
      · rfl
      · rfl
    · skip
      have h1' : (takeT rest).2 ≠ 0 := by have := of_decide_eq_false h1; omega
      refine Cd.skip ?_
      refine Cd.seq ?_
      refine Cd.region ?_
      refine Ls.ev (some 20) (Ev.move (show Oper.op _ = Op.move (Operand.tmp 0) from rfl) (by rfl)) (by rfl) (by rfl) ?_
      refine Ls.ev (some 21) (Ev.move (show Oper.op _ = Op.move (Operand.tmp 6) from rfl) (by rfl)) (by rfl) (by rfl) ?_
      refine Ls.ev (some 22) (Ev.dropB (show Oper.op _ = Op.slice 25 (Operand.tmp 20) (some (Operand.tmp 21)) none none from rfl) (by rfl) (by rfl) Try.underlying25 (by kernel_rfl) ht1.1) (by rfl) (by rfl) ?_
      refine Ent.dropB 1 (takeT rest).2 rc (by rfl) ⟨ht1.1, hcap⟩ ?_
      have hu := takeU_le (rest.drop (takeT rest).2)
      have hdl : (rest.drop (takeT rest).2).length = rest.length - (takeT rest).2 := List.length_drop
      refine Ls.ev (some 0) (Ev.assign (show Oper.op _ = Op.assign (Operand.tmp 22) from rfl) (by rfl)) (by rfl) (by rfl) ?_
      refine Ls.nil ?_
      refine Cd.seq ?_
      refine Cd.region ?_
      refine Ls.ev (some 24) (Ev.move (show Oper.op _ = Op.move (Operand.tmp 0) from rfl) (by rfl)) (by rfl) (by rfl) ?_
      refine Ls.does (some 25) (Does.read (show Oper.op _ = Op.call { callee := Callee.value (Operand.func 65), args := #[Operand.tmp 24], argTypes := #[25] } from rfl) Try.func65 (by kernel_rfl) (by kernel_rfl) (refTakeUint_sl (cutA rA rc (takeT rest).2 1) (rc - (takeT rest).2) (rest.drop (takeT rest).2) (by omega) (by unfold maxLen; omega)) (by rfl) (by rfl) ⟨ReadsIn.rd 0 (by rfl), trivial⟩) (by rfl) (by rfl) ?_
      rintro _ -
      have hb2 := entC_b2 h1'
      have hb3 := entC_b3 h1'
      revert hb2 hb3 hu hdl
      generalize hr1 : rest.drop (takeT rest).2 = r1
      intro hu hdl hb2 hb3
      refine Ls.ev (some 23) (Ev.move (show Oper.op _ = Op.move (Operand.tmp 25) from rfl) (by rfl)) (by rfl) (by rfl) ?_
      refine Ls.ev (some 26) (Ev.extract (show Oper.op _ = Op.extract (Operand.tmp 23) 0 from rfl) (by rfl) (by rfl)) (by rfl) (by rfl) ?_
      refine Ls.ev (some 27) (Ev.extract (show Oper.op _ = Op.extract (Operand.tmp 23) 1 from rfl) (by rfl) (by rfl)) (by rfl) (by rfl) ?_
      refine Ls.ev (some 7) (Ev.assign (show Oper.op _ = Op.assign (Operand.tmp 26) from rfl) (by rfl)) (by rfl) (by rfl) ?_
      refine Ls.ev (some 6) (Ev.assign (show Oper.op _ = Op.assign (Operand.tmp 27) from rfl) (by rfl)) (by rfl) (by rfl) ?_
      refine Ls.nil ?_
      refine Cd.seq ?_
      refine Cd.seq ?_
      refine Cd.cut (ι := Unit) (fun _ => [(0, .slice (cutA rA rc (takeT rest).2 1) r1.length (rc - (takeT rest).2)), (4, .slice oA out.length oc), (5, .string (txt (takeT rest).1)), (6, .int .i64 (takeU r1).2), (7, .int .u64 (takeU r1).1), (39, .bool (decide ((takeU r1).2 = 0 ∨ (takeU r1).2 = r1.length ∨ 4611686018427387904 < (takeU r1).1)))]) (fun _ => [rdB (cutA rA rc (takeT rest).2 1) r1, rowE oA oc out]) (fun _ => True) ?_ ?_
      · skip
        refine Cd.region ?_
        refine Ls.ev (some 28) (Ev.move (show Oper.op _ = Op.move (Operand.tmp 6) from rfl) (by rfl)) (by rfl) (by rfl) ?_
        refine Ls.ev (some 29) (Ev.eql (show Oper.op _ = Op.binOp BinOp.eql 3 (Operand.tmp 28) (Operand.const (Value.int IntKind.i64 0)) 3 from rfl) (by rfl) (by rfl)) (by rfl) (by rfl) ?_
        refine Ls.ev (some 30) (Ev.move (show Oper.op _ = Op.move (Operand.tmp 29) from rfl) (by rfl)) (by rfl) (by rfl) ?_
        refine Ent.split 30 (by rfl) (fun h2 => ?_) (fun h2 => ?_)
        · skip
          have h2' : (takeU r1).2 ≠ 0 := by have := of_decide_eq_false h2; omega
          refine Ls.ev (some 31) (Ev.move (show Oper.op _ = Op.move (Operand.tmp 6) from rfl) (by rfl)) (by rfl) (by rfl) ?_
          refine Ls.ev (some 32) (Ev.move (show Oper.op _ = Op.move (Operand.tmp 0) from rfl) (by rfl)) (by rfl) (by rfl) ?_
          refine Ls.ev (some 33) (Ev.len (show Oper.op _ = Op.call { callee := Callee.builtin Builtin.len, args := #[Operand.tmp 32], argTypes := #[25] } from rfl) (by rfl) Try.underlying25) (by rfl) (by rfl) ?_
          refine Ls.ev (some 34) (Ev.eql (show Oper.op _ = Op.binOp BinOp.eql 3 (Operand.tmp 31) (Operand.tmp 33) 3 from rfl) (by rfl) (by rfl)) (by rfl) (by rfl) ?_
          refine Ls.ev (some 35) (Ev.pickF (show Oper.op _ = Op.pick (Operand.tmp 30) (Operand.const (Value.bool true)) (Operand.tmp 34) from rfl) (by rfl) (by rfl)) (by rfl) (by rfl) ?_
          refine Ls.ev (some 36) (Ev.move (show Oper.op _ = Op.move (Operand.tmp 35) from rfl) (by rfl)) (by rfl) (by rfl) ?_
          refine Ent.split 36 (by rfl) (fun h3 => ?_) (fun h3 => ?_)
          · skip
            have h3' : (takeU r1).2 ≠ r1.length := by have := of_decide_eq_false h3; omega
            refine Ls.ev (some 37) (Ev.move (show Oper.op _ = Op.move (Operand.tmp 7) from rfl) (by rfl)) (by rfl) (by rfl) ?_
            refine Ls.ev (some 38) (Ev.gtr (show Oper.op _ = Op.binOp BinOp.gtr 64 (Operand.tmp 37) (Operand.const (Value.int IntKind.u64 4611686018427387904)) 64 from rfl) (by rfl) (by rfl)) (by rfl) (by rfl) ?_
            refine Ls.ev (some 39) (Ev.pickF (show Oper.op _ = Op.pick (Operand.tmp 36) (Operand.const (Value.bool true)) (Operand.tmp 38) from rfl) (by rfl) (by rfl)) (by rfl) (by rfl) ?_
            refine Ls.nil ?_
            refine Ent.pick [0, 1] (by rfl) ?_
            refine Ent.inv (()) ?_ ?_ ?_
            · (try dsimp only); skip
            · (repeat (first | exact trivial | refine ⟨by rfl, ?_⟩ | refine ⟨by simp only [List.length_append, List.length_cons, List.length_nil]; rfl, ?_⟩ | refine ⟨by push_cast; rfl, ?_⟩ | refine ⟨by (show some (Value.bool _) = some (Value.bool _); congr 2; simp only [h2', h3', false_or, decide_eq_decide]; omega), ?_⟩))
            · rfl
          · skip
            have h3' : (takeU r1).2 = r1.length := by have := of_decide_eq_true h3; omega
            refine Ls.pass (some 37) (by rfl) (by rfl) ?_
            refine Ls.pass (some 38) (by rfl) (by rfl) ?_
            refine Ls.ev (some 39) (Ev.pickT (show Oper.op _ = Op.pick (Operand.tmp 36) (Operand.const (Value.bool true)) (Operand.tmp 38) from rfl) (by rfl) (by rfl)) (by rfl) (by rfl) ?_
            refine Ls.nil ?_
            refine Ent.pick [0, 1] (by rfl) ?_
            refine Ent.inv (()) ?_ ?_ ?_
            · (try dsimp only); skip
            · (repeat (first | exact trivial | refine ⟨by rfl, ?_⟩ | refine ⟨by simp only [List.length_append, List.length_cons, List.length_nil]; rfl, ?_⟩ | refine ⟨by push_cast; rfl, ?_⟩ | refine ⟨by (show some (Value.bool _) = some (Value.bool _); congr 2; exact (decide_eq_true (.inr (.inl h3'))).symm), ?_⟩))
            · rfl
        · skip
          have h2' : (takeU r1).2 = 0 := by have := of_decide_eq_true h2; omega
          refine Ls.pass (some 31) (by rfl) (by rfl) ?_
          refine Ls.pass (some 32) (by rfl) (by rfl) ?_
          refine Ls.pass (some 33) (by rfl) (by rfl) ?_
          refine Ls.pass (some 34) (by rfl) (by rfl) ?_
          refine Ls.ev (some 35) (Ev.pickT (show Oper.op _ = Op.pick (Operand.tmp 30) (Operand.const (Value.bool true)) (Operand.tmp 34) from rfl) (by rfl) (by rfl)) (by rfl) (by rfl) ?_
          refine Ls.ev (some 36) (Ev.move (show Oper.op _ = Op.move (Operand.tmp 35) from rfl) (by rfl)) (by rfl) (by rfl) ?_
          refine Ls.pass (some 37) (by rfl) (by rfl) ?_
          refine Ls.pass (some 38) (by rfl) (by rfl) ?_
          refine Ls.ev (some 39) (Ev.pickT (show Oper.op _ = Op.pick (Operand.tmp 36) (Operand.const (Value.bool true)) (Operand.tmp 38) from rfl) (by rfl) (by rfl)) (by rfl) (by rfl) ?_
          refine Ls.nil ?_
          refine Ent.pick [0, 1] (by rfl) ?_
          refine Ent.inv (()) ?_ ?_ ?_
          · (try dsimp only); skip
          · (repeat (first | exact trivial | refine ⟨by rfl, ?_⟩ | refine ⟨by simp only [List.length_append, List.length_cons, List.length_nil]; rfl, ?_⟩ | refine ⟨by push_cast; rfl, ?_⟩ | refine ⟨by (show some (Value.bool _) = some (Value.bool _); congr 2; exact (decide_eq_true (.inl h2')).symm), ?_⟩))
          · rfl
      skip
      rintro _ -
      refine Cd.cond _ (by rfl) (fun h4 => ?_) (fun h4 => ?_)
      · skip
        rw [hbad hne (hb2 (of_decide_eq_true h4))]
        refine Cd.seq ?_
        refine Cd.region ?_
        refine Ls.ev (some 2) (Ev.assign (show Oper.op _ = Op.assign (Operand.const (Value.slice none 0 0)) from rfl) (by rfl)) (by rfl) (by rfl) ?_
        refine Ls.ev (some 3) (Ev.assign (show Oper.op _ = Op.assign (Operand.const (Value.bool false)) from rfl) (by rfl)) (by rfl) (by rfl) ?_
        refine Ls.nil ?_
        refine Ent.nil 42 4 ?_
        refine Cd.ret ?_
        refine Ent.ret ((none, 0)) (trivial) (Res.tmp2 (by rfl) (by rfl) (by rfl)) ?_ [0] (by rfl) ?_
        · rfl
        · rfl
      · skip
        have h4' := of_decide_eq_false h4
        have hb4 := hb3 h4'
        clear hb3 hb2
        obtain ⟨d, r, hd, hr, hrl, hz, hnz⟩ := hb4
        have hrlen : r.length = r1.length - ((takeU r1).2 + 1) := by rw [← hr, List.length_drop]
        have hrpos : 0 < r1.length := by omega
        refine Ent.rdSome 0 (by rfl) hrpos (fun ad had => ?_)
        rw [had]
        skip
        refine Cd.skip ?_
        refine Cd.seq ?_
        refine Cd.region ?_
        refine Ls.ev (some 40) (Ev.move (show Oper.op _ = Op.move (Operand.tmp 0) from rfl) (by rfl)) (by rfl) (by rfl) ?_
        refine Ls.ev (some 41) (Ev.move (show Oper.op _ = Op.move (Operand.tmp 6) from rfl) (by rfl)) (by rfl) (by rfl) ?_
        refine Ls.ev (some 42) (Ev.indexAt (sz := 1) (show Oper.op _ = Op.indexAddr 25 (Operand.tmp 40) (Operand.tmp 41) from rfl) (by rfl) (by rfl) Try.underlying25 (by kernel_rfl) (by omega)) (by rfl) (by rfl) ?_
        refine Ls.ev (some 43) (Ev.loadU8 (show Oper.op _ = Op.load 5 (Operand.tmp 42) from rfl) (by rfl) (ReadsIn.rd 0 (by rfl)) (by kernel_rfl) (by assumption)) (by rfl) (by rfl) ?_
        refine Ls.ev (some 44) (Ev.eql (show Oper.op _ = Op.binOp BinOp.eql 5 (Operand.tmp 43) (Operand.const (Value.int IntKind.u8 1)) 5 from rfl) (by rfl) (by rfl)) (by rfl) (by rfl) ?_
        refine Ls.ev (some 8) (Ev.assign (show Oper.op _ = Op.assign (Operand.tmp 44) from rfl) (by rfl)) (by rfl) (by rfl) ?_
        refine Ls.nil ?_
        refine Cd.seq ?_
        refine Cd.region ?_
        refine Ls.ev (some 45) (Ev.move (show Oper.op _ = Op.move (Operand.tmp 0) from rfl) (by rfl)) (by rfl) (by rfl) ?_
        refine Ls.ev (some 46) (Ev.move (show Oper.op _ = Op.move (Operand.tmp 6) from rfl) (by rfl)) (by rfl) (by rfl) ?_
        refine Ls.ev (some 47) (Ev.addN (b := 1) (show Oper.op _ = Op.binOp BinOp.add 3 (Operand.tmp 46) (Operand.const (Value.int IntKind.i64 1)) 3 from rfl) (by rfl) (by rfl) (by omega)) (by rfl) (by rfl) ?_
        refine Ls.ev (some 48) (Ev.dropB (lo := (takeU r1).2 + 1) (show Oper.op _ = Op.slice 25 (Operand.tmp 45) (some (Operand.tmp 47)) none none from rfl) (by rfl) (by rfl) Try.underlying25 (by kernel_rfl) (by omega)) (by rfl) (by rfl) ?_
        refine Ent.dropB 0 ((takeU r1).2 + 1) (rc - (takeT rest).2) (by rfl) ⟨by omega, by omega⟩ ?_
        rw [hr]
        refine Ls.ev (some 0) (Ev.assign (show Oper.op _ = Op.assign (Operand.tmp 48) from rfl) (by rfl)) (by rfl) (by rfl) ?_
        refine Ls.nil ?_
        refine Cd.seq ?_
        refine Cd.region ?_
        refine Ls.ev (some 50) (Ev.move (show Oper.op _ = Op.move (Operand.tmp 0) from rfl) (by rfl)) (by rfl) (by rfl) ?_
        refine Ls.does (some 51) (Does.read (show Oper.op _ = Op.call { callee := Callee.value (Operand.func 64), args := #[Operand.tmp 50], argTypes := #[25] } from rfl) Try.func64 (by kernel_rfl) (by kernel_rfl) (refTakeText_sl (cutA (some ad) (rc - (takeT rest).2) ((takeU r1).2 + 1) 1) (rc - (takeT rest).2 - ((takeU r1).2 + 1)) r (by omega) (by unfold maxLen; omega)) (by rfl) (by rfl) ⟨ReadsIn.rd 0 (by rfl), trivial⟩) (by rfl) (by rfl) ?_
        rintro _ -
        refine Ls.ev (some 49) (Ev.move (show Oper.op _ = Op.move (Operand.tmp 51) from rfl) (by rfl)) (by rfl) (by rfl) ?_
        refine Ls.ev (some 52) (Ev.extract (show Oper.op _ = Op.extract (Operand.tmp 49) 0 from rfl) (by rfl) (by rfl)) (by rfl) (by rfl) ?_
        refine Ls.ev (some 53) (Ev.extract (show Oper.op _ = Op.extract (Operand.tmp 49) 1 from rfl) (by rfl) (by rfl)) (by rfl) (by rfl) ?_
        refine Ls.ev (some 9) (Ev.assign (show Oper.op _ = Op.assign (Operand.tmp 52) from rfl) (by rfl)) (by rfl) (by rfl) ?_
        refine Ls.ev (some 6) (Ev.assign (show Oper.op _ = Op.assign (Operand.tmp 53) from rfl) (by rfl)) (by rfl) (by rfl) ?_
        refine Ls.nil ?_
        refine Cd.seq ?_
        refine Cd.seq ?_
        refine Cd.region ?_
        refine Ls.ev (some 54) (Ev.move (show Oper.op _ = Op.move (Operand.tmp 6) from rfl) (by rfl)) (by rfl) (by rfl) ?_
        refine Ls.ev (some 55) (Ev.eql (show Oper.op _ = Op.binOp BinOp.eql 3 (Operand.tmp 54) (Operand.const (Value.int IntKind.i64 0)) 3 from rfl) (by rfl) (by rfl)) (by rfl) (by rfl) ?_
        refine Ls.nil ?_
        refine Cd.cond _ (by rfl) (fun h5 => ?_) (fun h5 => ?_)
        · skip
          have h5' : (takeT r).2 = 0 := by have := of_decide_eq_true h5; omega
          rw [hbad hne (hz h5')]
          refine Cd.seq ?_
          refine Cd.region ?_
          refine Ls.ev (some 2) (Ev.assign (show Oper.op _ = Op.assign (Operand.const (Value.slice none 0 0)) from rfl) (by rfl)) (by rfl) (by rfl) ?_
          refine Ls.ev (some 3) (Ev.assign (show Oper.op _ = Op.assign (Operand.const (Value.bool false)) from rfl) (by rfl)) (by rfl) (by rfl) ?_
          refine Ls.nil ?_
          refine Ent.nil 42 4 ?_
          refine Cd.ret ?_
          refine Ent.ret ((none, 0)) (trivial) (Res.tmp2 (by rfl) (by rfl) (by rfl)) ?_ [0] (by rfl) ?_
          · rfl
          · rfl
        · skip
          have h5' : (takeT r).2 ≠ 0 := by have := of_decide_eq_false h5; omega
          obtain ⟨hg1, hg2, hg3⟩ := hnz h5'
          refine Cd.skip ?_
          refine Cd.seq ?_
          refine Cd.region ?_
          refine Ls.ev (some 56) (Ev.move (show Oper.op _ = Op.move (Operand.tmp 0) from rfl) (by rfl)) (by rfl) (by rfl) ?_
          refine Ls.ev (some 57) (Ev.move (show Oper.op _ = Op.move (Operand.tmp 6) from rfl) (by rfl)) (by rfl) (by rfl) ?_
          refine Ls.ev (some 58) (Ev.dropB (show Oper.op _ = Op.slice 25 (Operand.tmp 56) (some (Operand.tmp 57)) none none from rfl) (by rfl) (by rfl) Try.underlying25 (by kernel_rfl) hrl) (by rfl) (by rfl) ?_
          refine Ent.dropB 0 (takeT r).2 (rc - (takeT rest).2 - ((takeU r1).2 + 1)) (by rfl) ⟨hrl, by omega⟩ ?_
          have hdd : decide ((d.toNat : Int) = 1) = (d == 1) := by
            rw [Bool.eq_iff_iff, decide_eq_true_eq, beq_iff_eq, ← UInt8.toNat_inj]
            show _ ↔ d.toNat = 1
            omega
          rw [hdd]
          refine Ls.ev (some 0) (Ev.assign (show Oper.op _ = Op.assign (Operand.tmp 58) from rfl) (by rfl)) (by rfl) (by rfl) ?_
          refine Ls.nil ?_
          refine Cd.region ?_
          refine Ls.ev (some 59) (Ev.move (show Oper.op _ = Op.move (Operand.tmp 4) from rfl) (by rfl)) (by rfl) (by rfl) ?_
          refine Ls.ev (some 60) (Ev.move (show Oper.op _ = Op.move (Operand.tmp 5) from rfl) (by rfl)) (by rfl) (by rfl) ?_
          refine Ls.ev (some 61) (Ev.move (show Oper.op _ = Op.move (Operand.tmp 7) from rfl) (by rfl)) (by rfl) (by rfl) ?_
          refine Ls.ev (some 62) (Ev.convI (show Oper.op _ = Op.convert 64 3 (Operand.tmp 61) from rfl) (by rfl) (by kernel_rfl) Try.underlying3 (by omega)) (by rfl) (by rfl) ?_
          refine Ls.ev (some 63) (Ev.move (show Oper.op _ = Op.move (Operand.tmp 8) from rfl) (by rfl)) (by rfl) (by rfl) ?_
          refine Ls.ev (some 64) (Ev.move (show Oper.op _ = Op.move (Operand.tmp 9) from rfl) (by rfl)) (by rfl) (by rfl) ?_
          refine Ls.ev (some 65) (Ev.buildP (pl := [(0, 1), (1, 1), (2, 1), (3, 1)]) (zs := [.string ⟨#[]⟩, .int .i64 0, .bool false, .string ⟨#[]⟩]) (show Oper.op _ = Op.build 42 #[(0, Operand.tmp 60), (1, Operand.tmp 62), (2, Operand.tmp 63), (3, Operand.tmp 64)] from rfl) (by rfl) (by kernel_rfl) (by rfl)) (by rfl) (by rfl) ?_
          refine Ls.does (some 66) (Does.lit (sz := 4) (show Oper.op _ = Op.buildSlice 22 1 #[(0, Operand.tmp 65)] from rfl) (by rfl) Try.underlying22 (by kernel_rfl) (by rfl) (by kernel_rfl)) (by rfl) (by rfl) ?_
          intro g1 _
          refine Ls.does (some 67) (Does.app (xs := out.flatMap Ety.enc) (news := Ety.enc ⟨txt (takeT rest).1, (takeU r1).1, d == 1, txt (takeT r).1⟩) 4 (show Oper.op _ = Op.call { callee := Callee.builtin Builtin.append, args := #[Operand.tmp 59, Operand.tmp 66], argTypes := #[22, 22] } from rfl) (by rfl) (by rfl) (by rfl) (ReadsIn.row 0 (by rfl)) elem_ents (enc_one _) (by omega)) (by rfl) (by rfl) ?_
          intro q _
          refine Ls.ev (some 4) (Ev.assign (show Oper.op _ = Op.assign (Operand.tmp 67) from rfl) (by rfl)) (by rfl) (by rfl) ?_
          refine Ls.nil ?_
          rw [← hg3]
          refine Ent.pick [4, 1] (by rfl) ?_
          refine Ent.inv (⟨rest.drop (entC rest).2.1, cutA (cutA (some ad) (rc - (takeT rest).2) ((takeU r1).2 + 1) 1) (rc - (takeT rest).2 - ((takeU r1).2 + 1)) (takeT r).2 1, rc - (takeT rest).2 - ((takeU r1).2 + 1) - (takeT r).2, out ++ [(entC rest).1], q.1, q.2⟩) ?_ ?_ ?_
          · (try dsimp only); exact ⟨hnext hne hg1 _ _ q (by rw [hg3, List.length_drop]; omega), by rw [hg3, List.length_drop]; omega⟩
          · (repeat (first | exact trivial | refine ⟨by rfl, ?_⟩ | refine ⟨by simp only [List.length_append, List.length_cons, List.length_nil]; rfl, ?_⟩ | refine ⟨by push_cast; rfl, ?_⟩ | refine ⟨by (show some (Value.slice _ _ _) = some (Value.slice _ _ _); dsimp only; first | rfl | rw [List.length_append]; rfl), ?_⟩))
          · (show [_, _] = [_, _]; dsimp only [rowE]; rw [List.length_append, List.flatMap_append, List.flatMap_cons, List.flatMap_nil, List.append_nil, hg2]; rfl)
  · skip
    have h0 : rest = [] := List.eq_nil_of_length_eq_zero (by have := of_decide_eq_false h; omega)
    subst h0
    have he : entsF b = some out := by rw [heq, entsF_nil]; simp
    rw [he]
    refine Cd.exit ?_
    refine Cd.seq ?_
    refine Cd.region ?_
    refine Ls.ev (some 68) (Ev.move (show Oper.op _ = Op.move (Operand.tmp 4) from rfl) (by rfl)) (by rfl) (by rfl) ?_
    refine Ls.ev (some 2) (Ev.assign (show Oper.op _ = Op.assign (Operand.tmp 68) from rfl) (by rfl)) (by rfl) (by rfl) ?_
    refine Ls.ev (some 3) (Ev.assign (show Oper.op _ = Op.assign (Operand.const (Value.bool true)) from rfl) (by rfl)) (by rfl) (by rfl) ?_
    refine Ls.nil ?_
    refine Cd.ret ?_
    refine Ent.ret ((oA, oc)) (trivial) (Res.tmp2 (by rfl) (by rfl) (by rfl)) ?_ [0] (by rfl) ?_
    · rfl
    · rfl
end Go.Proofs.Ytnhcfhamcakfkaa
