/-
  Texts joined: ScBA, ScBB, ScBC, ScAA, SlV, ScO, ScBD, ScM.
-/
import Derived.Test.YtemcigoelcblbaaGreatDoorMScL5a
import Derived.Test.YtemcigoelcblbaaGreatDoorMScL5g
import Derived.Test.YtemcigoelcblbaaGreatDoorMScL5h
import Derived.Test.YtemcigoelcblbaaGreatDoorMScL5i
import Derived.Test.YtemcigoelcblbaaGreatDoorMScL5j
import Derived.Deep.DeepHandedRow
import Derived.Stop.LaidErr
import Derived.Shelf.Vars
import Derived.MakeChecks
/- a script read: the lines of a text -/
namespace Go.Proofs.YtemcigoelcblbaaGreatDoor
open Go.RowKit
def keepB (l : List UInt8) : Bool := match Lib.trimLeftB l 32 with
  | [] => false
  | x :: _ => decide (x ≠ 35)
def parseL (ls : List (List UInt8)) : List (StP × Int) := (ls.filter keepB).map lineP
def parseP (t : List UInt8) : List (StP × Int) := parseL (splitP 10 t)
theorem parse_next {ls : List (List UInt8)} {k : Nat} {l : List UInt8} (h : ls[k]? = some l) : parseL (ls.take (k + 1)) = parseL (ls.take k) ++ (if keepB l then [lineP l] else []) := by
  unfold parseL
  rw [List.take_add_one, h, List.filter_append, List.map_append]
  congr 1
  cases hk : keepB l <;> simp [hk]
theorem parse_le (ls : List (List UInt8)) : (parseL ls).length ≤ ls.length := by
  unfold parseL
  rw [List.length_map]
  exact List.length_filter_le _ _
abbrev stW (A : Option Addr) (c : Nat) (zs : List StS) : Chunk := row A zs.length c 47 12 (zs.flatMap StS.enc)
abbrev stD (A : Option Addr) (c : Nat) (zs : List StS) : Chunk := row A zs.length c 43 12 (zs.flatMap StS.enc)
abbrev cdW (A : Option Addr) (c : Nat) (cs : List Int) : Chunk := row A cs.length c 32 1 (ints cs)
abbrev famX (zs : List StS) : Chunk := starx (zs.flatMap fun z => [z.wC, z.wK])
theorem fam_snoc {Γ : Ctx} {H : List Chunk} {zs : List StS} {z : StS} {w : World} (h : Sat Γ (z.wC :: z.wK :: famX zs :: H) w) : Sat Γ (famX (zs ++ [z]) :: H) w := by
  have h1 := Sat.starx_add (C := z.wC) rfl (h.perm (.cons _ (.swap _ _ _)))
  have h2 := Sat.starx_add (C := z.wK) rfl (h1.perm (.swap _ _ _))
  have e : ((zs.flatMap fun z => [z.wC, z.wK]) ++ [z.wC]) ++ [z.wK] = (zs ++ [z]).flatMap fun z => [z.wC, z.wK] := by
    rw [List.flatMap_append, List.append_assoc]
    rfl
  rw [e] at h2
  exact h2
theorem elem_st : Elem Tryz.prog 24 47 12 128 := elem_of (by kernel_rfl)
theorem elem_er : Elem Tryz.prog 25 32 1 8 := elem_of (by kernel_rfl)
theorem one_st (z : StS) : ∀ u ∈ z.enc, u.oneCell' = true := fun u hx => by
  unfold StS.enc at hx
  simp only [List.mem_cons, List.not_mem_nil, or_false] at hx
  rcases hx with rfl | rfl | rfl | rfl | rfl | rfl | rfl | rfl | rfl | rfl | rfl | rfl <;> rfl
theorem st_add (A : Option Addr) (c : Nat) (zs : List StS) (z : StS) : stW A c (zs ++ [z]) = row A (zs.length + 1) c 47 12 (zs.flatMap StS.enc ++ z.enc) := by
  unfold stW
  rw [List.length_append, List.flatMap_append, List.flatMap_cons, List.flatMap_nil, List.append_nil]
  rfl
theorem cd_add (A : Option Addr) (c : Nat) (cs : List Int) (n : Int) : cdW A c (cs ++ [n]) = row A (cs.length + 1) c 32 1 (ints cs ++ [.int .i64 n]) := by
  unfold cdW ints
  rw [List.length_append, List.map_append]
  rfl
theorem trim_sl (t : List UInt8) : Fn Tryz.prog 15 #[.string (txt t), .string (txt [32])] [] Unit (fun _ => .string (txt (Lib.trimLeftB t 32))) (fun _ => []) (fun _ => True) :=
  Fn.of_same fun w _ => (Tryz.strings_TrimLeft_one (txt t) 32 (by decide) w).mono fun _ _ ⟨h1, h2⟩ => ⟨h1, h2.symm⟩
set_option maxRecDepth 20000 in
set_option maxHeartbeats 2000000 in
theorem parse_sl (t : List UInt8) (ht : t.length ≤ 1048576) : Fn Tryz.prog 7 #[.string (txt t)] [laidC] ((Option Addr × Nat) × List StS × (Option Addr × Nat)) (fun p => .tuple #[.slice p.1.1 p.2.1.length p.1.2, .slice p.2.2.1 ((parseP t).map Prod.snd).length p.2.2.2]) (fun p => [stW p.1.1 p.1.2 p.2.1, cdW p.2.2.1 p.2.2.2 ((parseP t).map Prod.snd), famX p.2.1]) (fun p => p.2.1.map StS.p = (parseP t).map Prod.fst) := by
  have hsl := splitP_len 10 t
  unfold parseP
  refine Fn.enter Tryz.func7 rfl Tryz.ntmps7 (by rfl) ?_
  intro w0
  refine Cd.seq ?_
  refine Cd.region ?_
  refine Ls.ev (some 2) (Ev.assign (show Oper.op _ = Op.assign (Operand.const (Value.slice none 0 0)) from rfl) (by rfl)) (by rfl) (by rfl) ?_
  refine Ls.ev (some 3) (Ev.assign (show Oper.op _ = Op.assign (Operand.const (Value.slice none 0 0)) from rfl) (by rfl)) (by rfl) (by rfl) ?_
  refine Ls.nil ?_
  refine Cd.scope ?_
  refine Cd.seq ?_
  refine Cd.region ?_
  refine Ls.ev (some 4) (Ev.assign (show Oper.op _ = Op.assign (Operand.const (Value.slice none 0 0)) from rfl) (by rfl)) (by rfl) (by rfl) ?_
  refine Ls.nil ?_
  refine Cd.seq ?_
  refine Cd.region ?_
  refine Ls.ev (some 5) (Ev.assign (show Oper.op _ = Op.assign (Operand.const (Value.slice none 0 0)) from rfl) (by rfl)) (by rfl) (by rfl) ?_
  refine Ls.nil ?_
  refine Cd.seq ?_
  refine Cd.label ?_
  refine Cd.seq ?_
  refine Cd.seq ?_
  refine Cd.region ?_
  refine Ls.ev (some 11) (Ev.move (show Oper.op _ = Op.move (Operand.tmp 0) from rfl) (by rfl)) (by rfl) (by rfl) ?_
  refine Ls.does (some 12) (Does.call [0, 0] (show Oper.op _ = Op.call { callee := Callee.value (Operand.func 14), args := #[Operand.tmp 11, Operand.const (Value.string { data := #[10] })], argTypes := #[9, 9] } from rfl) Tryz.func14 (by kernel_rfl) (by kernel_rfl) (split_sl 10 t ht) (by rfl) (by rfl) (by rfl)) (by rfl) (by rfl) ?_
  rintro g -
  refine Ent.see 0 (by rfl) ?_
  generalize hls : splitP 10 t = ls at hsl
  refine Ls.ev (some 13) (Ev.len (show Oper.op _ = Op.call { callee := Callee.builtin Builtin.len, args := #[Operand.tmp 12], argTypes := #[54] } from rfl) (by rfl) Tryz.underlying54) (by rfl) (by rfl) ?_
  refine Ls.ev (some 14) (Ev.move (show Oper.op _ = Op.move (Operand.const (Value.int IntKind.i64 0)) from rfl) (by rfl)) (by rfl) (by rfl) ?_
  refine Ls.nil ?_
  refine Cd.block ?_
  refine Ent.map (fun w hs => hs.starx_nil) ?_
  refine Ent.nil 32 1 ?_
  refine Ent.nil 47 12 ?_
  refine Cd.loop (ι := Nat × (Option Addr × Nat) × List StS × (Option Addr × Nat)) (fun p => [(4, .slice p.2.1.1 p.2.2.1.length p.2.1.2), (5, .slice p.2.2.2.1 ((parseL (ls.take p.1)).map Prod.snd).length p.2.2.2.2), (12, .slice (some ⟨g, 0, none⟩) ls.length ls.length), (13, .int .i64 ls.length), (14, .int .i64 p.1)]) (fun p => [stW p.2.1.1 p.2.1.2 p.2.2.1, cdW p.2.2.2.1 p.2.2.2.2 ((parseL (ls.take p.1)).map Prod.snd), famX p.2.2.1, rd (some ⟨g, 0, none⟩) ls.length 1 (txts ls), laidC]) (fun p => p.1 ≤ ls.length ∧ p.2.2.1.map StS.p = (parseL (ls.take p.1)).map Prod.fst) (fun p => ls.length - p.1) ((0, (none, 0), [], (none, 0))) (⟨Nat.zero_le _, rfl⟩) ?_ rfl ?_
  · (repeat (first | exact trivial | refine ⟨by rfl, ?_⟩))
  rintro ⟨k, A, zs, B⟩ ⟨hk, hzs⟩
  dsimp only at hk hzs ⊢
  have hpl := parse_le (ls.take k)
  rw [List.length_take] at hpl
  have hzl : zs.length = (parseL (ls.take k)).length := by
    have := congrArg List.length hzs
    rwa [List.length_map, List.length_map] at this
  have hcl : ((parseL (ls.take k)).map Prod.snd).length = (parseL (ls.take k)).length := List.length_map ..
  refine Cd.seq ?_
  refine Cd.region ?_
  refine Ls.ev (some 15) (Ev.lss (show Oper.op _ = Op.binOp BinOp.lss 3 (Operand.tmp 14) (Operand.tmp 13) 3 from rfl) (by rfl) (by rfl)) (by rfl) (by rfl) ?_
  refine Ls.nil ?_
  refine Cd.seq ?_
  refine Cd.cond _ (by rfl) (fun h1 => ?_) (fun h1 => ?_)
  · skip
    have hlt : k < ls.length := by have := of_decide_eq_true h1; omega
    obtain ⟨l, hl⟩ := get_of_lt hlt
    have hlm : (ls.map txt)[k]? = some (txt l) := by rw [List.getElem?_map, hl]; rfl
    have hll := hsl.2 l (List.mem_of_getElem? hl)
    have hnx := parse_next hl
    refine Cd.skip ?_
    refine Cd.seq ?_
    refine Cd.block ?_
    refine Cd.seq ?_
    refine Cd.region ?_
    refine Ls.ev (some 16) (Ev.indexAt (sz := 1) (show Oper.op _ = Op.indexAddr 54 (Operand.tmp 12) (Operand.tmp 14) from rfl) (by rfl) (by rfl) Tryz.underlying54 (by kernel_rfl) (by omega)) (by rfl) (by rfl) ?_
    refine Ls.ev (some 17) (Ev.loadStr (show Oper.op _ = Op.load 9 (Operand.tmp 16) from rfl) (by rfl) (ReadsIn.rd 3 (by rfl)) (by kernel_rfl) (by assumption)) (by rfl) (by rfl) ?_
    refine Ls.ev (some 7) (Ev.assign (show Oper.op _ = Op.assign (Operand.tmp 17) from rfl) (by rfl)) (by rfl) (by rfl) ?_
    refine Ls.nil ?_
    refine Cd.seq ?_
    refine Cd.region ?_
    refine Ls.ev (some 18) (Ev.move (show Oper.op _ = Op.move (Operand.tmp 7) from rfl) (by rfl)) (by rfl) (by rfl) ?_
    refine Ls.does (some 19) (Does.read (show Oper.op _ = Op.call { callee := Callee.value (Operand.func 15), args := #[Operand.tmp 18, Operand.const (Value.string { data := #[32] })], argTypes := #[9, 9] } from rfl) Tryz.func15 (by kernel_rfl) (by kernel_rfl) (trim_sl l) (by rfl) (by rfl) trivial) (by rfl) (by rfl) ?_
    rintro _ -
    refine Ls.ev (some 8) (Ev.assign (show Oper.op _ = Op.assign (Operand.tmp 19) from rfl) (by rfl)) (by rfl) (by rfl) ?_
    refine Ls.nil ?_
    refine Cd.seq ?_
    refine Cd.seq ?_
    unfold keepB at hnx
    generalize Lib.trimLeftB l 32 = m at hnx
    have hskip : ∀ b : Bool, b = false → parseL (ls.take (k + 1)) = parseL (ls.take k) ++ (if b = true then [lineP l] else []) → parseL (ls.take (k + 1)) = parseL (ls.take k) := fun b hb h => by rw [h, hb]; exact List.append_nil _
    cases m with
    | nil =>
      skip
      have hnx := hskip _ rfl hnx
      refine Cd.region ?_
      refine Ls.ev (some 20) (Ev.move (show Oper.op _ = Op.move (Operand.tmp 8) from rfl) (by rfl)) (by rfl) (by rfl) ?_
      refine Ls.ev (some 21) (Ev.eqlS (show Oper.op _ = Op.binOp BinOp.eql 9 (Operand.tmp 20) (Operand.const (Value.string { data := #[] })) 9 from rfl) (by rfl) (by rfl)) (by rfl) (by rfl) ?_
      refine Ls.ev (some 22) (Ev.move (show Oper.op _ = Op.move (Operand.tmp 21) from rfl) (by rfl)) (by rfl) (by rfl) ?_
      refine Ent.known 22 true (by rfl) (by exact (decide_eq_true rfl)) ?_
      refine Ls.pass (some 23) (by rfl) (by rfl) ?_
      refine Ls.pass (some 24) (by rfl) (by rfl) ?_
      refine Ls.pass (some 25) (by rfl) (by rfl) ?_
      refine Ls.ev (some 26) (Ev.pickT (show Oper.op _ = Op.pick (Operand.tmp 22) (Operand.const (Value.bool true)) (Operand.tmp 25) from rfl) (by rfl) (by rfl)) (by rfl) (by rfl) ?_
      refine Ls.nil ?_
      skip
      refine Cd.cond_true (by rfl) (rfl) ?_
      refine Cd.exit ?_
      refine Cd.region ?_
      refine Ls.ev (some 40) (Ev.addI (show Oper.op _ = Op.binOp BinOp.add 3 (Operand.tmp 14) (Operand.const (Value.int IntKind.i64 1)) 3 from rfl) (by rfl) (by rfl) (by omega)) (by rfl) (by rfl) ?_
      refine Ls.ev (some 14) (Ev.move (show Oper.op _ = Op.move (Operand.tmp 40) from rfl) (by rfl)) (by rfl) (by rfl) ?_
      refine Ls.nil ?_
      refine Ent.inv ((k + 1, A, zs, B)) ?_ ?_ ?_
      · (try dsimp only); exact ⟨⟨hlt, by rw [hnx]; exact hzs⟩, by omega⟩
      · (repeat (first | exact trivial | refine ⟨by rfl, ?_⟩ | refine ⟨by simp only [List.length_append, List.length_cons, List.length_nil]; rfl, ?_⟩ | refine ⟨by push_cast; rfl, ?_⟩ | refine ⟨by (show some (Value.slice _ _ _) = some (Value.slice _ _ _); dsimp only; rw [hnx]), ?_⟩))
      · (show [_, _, _, _, _] = [_, _, _, _, _]; dsimp only; rw [hnx])
    | cons x r =>
      skip
      have hx0 : (x :: r)[0]? = some x := rfl
      refine Cd.region ?_
      refine Ls.ev (some 20) (Ev.move (show Oper.op _ = Op.move (Operand.tmp 8) from rfl) (by rfl)) (by rfl) (by rfl) ?_
      refine Ls.ev (some 21) (Ev.eqlS (show Oper.op _ = Op.binOp BinOp.eql 9 (Operand.tmp 20) (Operand.const (Value.string { data := #[] })) 9 from rfl) (by rfl) (by rfl)) (by rfl) (by rfl) ?_
      refine Ls.ev (some 22) (Ev.move (show Oper.op _ = Op.move (Operand.tmp 21) from rfl) (by rfl)) (by rfl) (by rfl) ?_
      refine Ent.known 22 false (by rfl) (by exact (decide_eq_false (fun h => by cases (txt_eq_iff (a := x :: r) (b := [])).1 h))) ?_
      refine Ls.ev (some 23) (Ev.move (show Oper.op _ = Op.move (Operand.tmp 8) from rfl) (by rfl)) (by rfl) (by rfl) ?_
      refine Ls.ev (some 24) (Ev.indexT (k := 0) (show Oper.op _ = Op.index 9 (Operand.tmp 23) (Operand.const (Value.int IntKind.i64 0)) from rfl) (by rfl) (by rfl) Tryz.underlying9 (by assumption)) (by rfl) (by rfl) ?_
      refine Ls.ev (some 25) (Ev.eql (show Oper.op _ = Op.binOp BinOp.eql 5 (Operand.tmp 24) (Operand.const (Value.int IntKind.u8 35)) 5 from rfl) (by rfl) (by rfl)) (by rfl) (by rfl) ?_
      refine Ls.ev (some 26) (Ev.pickF (show Oper.op _ = Op.pick (Operand.tmp 22) (Operand.const (Value.bool true)) (Operand.tmp 25) from rfl) (by rfl) (by rfl)) (by rfl) (by rfl) ?_
      refine Ls.nil ?_
      refine Cd.cond _ (by rfl) (fun h2 => ?_) (fun h2 => ?_)
      · skip
        have h2 : x = 35 := UInt8.toNat_inj.1 (by have := of_decide_eq_true h2; have h3 : (35 : UInt8).toNat = 35 := rfl; omega)
        have hnx := hskip _ (decide_eq_false (fun h => h h2)) hnx
        refine Cd.exit ?_
        refine Cd.region ?_
        refine Ls.ev (some 40) (Ev.addI (show Oper.op _ = Op.binOp BinOp.add 3 (Operand.tmp 14) (Operand.const (Value.int IntKind.i64 1)) 3 from rfl) (by rfl) (by rfl) (by omega)) (by rfl) (by rfl) ?_
        refine Ls.ev (some 14) (Ev.move (show Oper.op _ = Op.move (Operand.tmp 40) from rfl) (by rfl)) (by rfl) (by rfl) ?_
        refine Ls.nil ?_
        refine Ent.inv ((k + 1, A, zs, B)) ?_ ?_ ?_
        · (try dsimp only); exact ⟨⟨hlt, by rw [hnx]; exact hzs⟩, by omega⟩
        · (repeat (first | exact trivial | refine ⟨by rfl, ?_⟩ | refine ⟨by simp only [List.length_append, List.length_cons, List.length_nil]; rfl, ?_⟩ | refine ⟨by push_cast; rfl, ?_⟩ | refine ⟨by (show some (Value.slice _ _ _) = some (Value.slice _ _ _); dsimp only; rw [hnx]), ?_⟩))
        · (show [_, _, _, _, _] = [_, _, _, _, _]; dsimp only; rw [hnx])
      skip
      have h2 : x ≠ 35 := fun e => (of_decide_eq_false h2) (by rw [e]; rfl)
      have hnx : parseL (ls.take (k + 1)) = parseL (ls.take k) ++ [lineP l] := by
        rw [hnx]
        dsimp only
        rw [if_pos (decide_eq_true h2)]
      refine Cd.skip ?_
      refine Cd.seq ?_
      refine Cd.region ?_
      refine Ls.ev (some 28) (Ev.move (show Oper.op _ = Op.move (Operand.tmp 7) from rfl) (by rfl)) (by rfl) (by rfl) ?_
      refine Ls.does (some 29) (Does.call [4, 0, 1, 2, 3, 4] (show Oper.op _ = Op.call { callee := Callee.value (Operand.func 13), args := #[Operand.tmp 28], argTypes := #[9] } from rfl) Tryz.func13 (by kernel_rfl) (by kernel_rfl) (line_sl l (by omega)) (by rfl) (by rfl) (by rfl)) (by rfl) (by rfl) ?_
      rintro z hz
      refine Ls.ev (some 27) (Ev.move (show Oper.op _ = Op.move (Operand.tmp 29) from rfl) (by rfl)) (by rfl) (by rfl) ?_
      refine Ls.ev (some 30) (Ev.extract (show Oper.op _ = Op.extract (Operand.tmp 27) 0 from rfl) (by rfl) (by rfl)) (by rfl) (by rfl) ?_
      refine Ls.ev (some 31) (Ev.extract (show Oper.op _ = Op.extract (Operand.tmp 27) 1 from rfl) (by rfl) (by rfl)) (by rfl) (by rfl) ?_
      refine Ls.does (some 9) (Does.alloc (cs := [.int .i64 0, .int .i64 0, .int .i64 0, .int .i64 0, .int .i64 0, .int .i64 0, .int .i64 0, .int .i64 0, .int .i64 0, .int .i64 0, .slice none 0 0, .slice none 0 0]) (show Oper.op _ = Op.alloc 47 from rfl) (ZeroIs.mk (.agg #[.int .i64 0, .int .i64 0, .int .i64 0, .int .i64 0, .int .i64 0, .int .i64 0, .int .i64 0, .int .i64 0, .int .i64 0, .int .i64 0, .slice none 0 0, .slice none 0 0]) (by kernel_rfl) (by rfl))) (by rfl) (by rfl) ?_
      intro g1 _
      refine Ls.does none (Does.store 0 (show Oper.op _ = Op.store 47 (Operand.tmp 9) (Operand.tmp 30) from rfl) (by rfl) (by rfl) (by rfl) (by kernel_rfl) (by rfl) (by kernel_rfl) (by rfl)) (by rfl) (by rfl) ?_
      intro _ _
      refine Ls.ev (some 10) (Ev.assign (show Oper.op _ = Op.assign (Operand.tmp 31) from rfl) (by rfl)) (by rfl) (by rfl) ?_
      refine Ls.nil ?_
      refine Ent.pick [1, 2, 5, 0, 3, 4, 6, 7] (by rfl) ?_
      refine Ent.map (fun w hs => fam_snoc hs) ?_
      refine Cd.region ?_
      refine Ls.ev (some 32) (Ev.move (show Oper.op _ = Op.move (Operand.tmp 4) from rfl) (by rfl)) (by rfl) (by rfl) ?_
      refine Ls.ev (some 33) (Ev.loads 1 (show Oper.op _ = Op.load 47 (Operand.tmp 9) from rfl) (by rfl) (by rfl) (n := 12) (by kernel_rfl) (by rfl) (by rfl)) (by rfl) (by rfl) ?_
      refine Ls.does (some 34) (Does.lit (sz := 12) (show Oper.op _ = Op.buildSlice 24 1 #[(0, Operand.tmp 33)] from rfl) (by rfl) Tryz.underlying24 (by kernel_rfl) (by rfl) (by kernel_rfl)) (by rfl) (by rfl) ?_
      intro g2 _
      refine Ls.does (some 35) (Does.app (xs := zs.flatMap StS.enc) (news := z.enc) 3 (show Oper.op _ = Op.call { callee := Callee.builtin Builtin.append, args := #[Operand.tmp 32, Operand.tmp 34], argTypes := #[24, 24] } from rfl) (by rfl) (by rfl) (by rfl) (ReadsIn.row 0 (by rfl)) elem_st (one_st z) (by omega)) (by rfl) (by rfl) ?_
      rintro q -
      refine Ls.ev (some 36) (Ev.move (show Oper.op _ = Op.move (Operand.tmp 5) from rfl) (by rfl)) (by rfl) (by rfl) ?_
      refine Ls.ev (some 37) (Ev.move (show Oper.op _ = Op.move (Operand.tmp 10) from rfl) (by rfl)) (by rfl) (by rfl) ?_
      refine Ls.does (some 38) (Does.lit (sz := 1) (show Oper.op _ = Op.buildSlice 25 1 #[(0, Operand.tmp 37)] from rfl) (by rfl) Tryz.underlying25 (by kernel_rfl) (by rfl) (by kernel_rfl)) (by rfl) (by rfl) ?_
      intro g3 _
      refine Ls.does (some 39) (Does.app (xs := ints ((parseL (ls.take k)).map Prod.snd)) (news := [.int .i64 (lineP l).2]) 5 (show Oper.op _ = Op.call { callee := Callee.builtin Builtin.append, args := #[Operand.tmp 36, Operand.tmp 38], argTypes := #[25, 25] } from rfl) (by rfl) (by rfl) (by rfl) (ReadsIn.row 0 (by rfl)) elem_er (fun u hu => by rw [List.mem_singleton.1 hu]; rfl) (by omega)) (by rfl) (by rfl) ?_
      rintro q' -
      refine Ls.ev (some 4) (Ev.assign (show Oper.op _ = Op.assign (Operand.tmp 35) from rfl) (by rfl)) (by rfl) (by rfl) ?_
      refine Ls.ev (some 5) (Ev.assign (show Oper.op _ = Op.assign (Operand.tmp 39) from rfl) (by rfl)) (by rfl) (by rfl) ?_
      refine Ls.nil ?_
      refine Cd.region ?_
      refine Ls.ev (some 40) (Ev.addI (show Oper.op _ = Op.binOp BinOp.add 3 (Operand.tmp 14) (Operand.const (Value.int IntKind.i64 1)) 3 from rfl) (by rfl) (by rfl) (by omega)) (by rfl) (by rfl) ?_
      refine Ls.ev (some 14) (Ev.move (show Oper.op _ = Op.move (Operand.tmp 40) from rfl) (by rfl)) (by rfl) (by rfl) ?_
      refine Ls.nil ?_
      refine Ent.pick [4, 5, 2, 6, 7] (by rfl) ?_
      refine Ent.inv ((k + 1, q, zs ++ [z], q')) ?_ ?_ ?_
      · (try dsimp only); exact ⟨⟨hlt, by rw [hnx, List.map_append, List.map_append, hzs, List.map_cons, List.map_nil, hz]; rfl⟩, by omega⟩
      · (repeat (first | exact trivial | refine ⟨by rfl, ?_⟩ | refine ⟨by simp only [List.length_append, List.length_cons, List.length_nil]; rfl, ?_⟩ | refine ⟨by push_cast; rfl, ?_⟩ | refine ⟨by (show some (Value.slice _ _ _) = some (Value.slice _ _ _); dsimp only; first | (rw [hnx, List.map_append, List.length_append]; rfl) | (rw [List.length_append]; rfl)), ?_⟩))
      · (show [_, _, _, _, _] = [_, _, _, _, _]; dsimp only; rw [hnx, List.map_append, st_add]; exact congrArg (fun C => [_, C, _, _, _]) (cd_add _ _ _ _).symm)
  · skip
    have hkl : k = ls.length := by have := of_decide_eq_false h1; omega
    subst hkl
    rw [List.take_length] at hzs ⊢
    refine Cd.exit ?_
    refine Cd.seq ?_
    refine Cd.region ?_
    refine Ls.ev (some 41) (Ev.move (show Oper.op _ = Op.move (Operand.tmp 4) from rfl) (by rfl)) (by rfl) (by rfl) ?_
    refine Ls.ev (some 42) (Ev.move (show Oper.op _ = Op.move (Operand.tmp 5) from rfl) (by rfl)) (by rfl) (by rfl) ?_
    refine Ls.ev (some 2) (Ev.assign (show Oper.op _ = Op.assign (Operand.tmp 41) from rfl) (by rfl)) (by rfl) (by rfl) ?_
    refine Ls.ev (some 3) (Ev.assign (show Oper.op _ = Op.assign (Operand.tmp 42) from rfl) (by rfl)) (by rfl) (by rfl) ?_
    refine Ls.nil ?_
    refine Cd.ret ?_
    refine Ent.ret ((A, zs, B)) (hzs) (Res.tmp2 (by rfl) (by rfl) (by rfl)) ?_ [0, 1, 2] (by rfl) ?_
    · rfl
    · rfl
end Go.Proofs.YtemcigoelcblbaaGreatDoor
/- the document over pieces: a script read -/
namespace Go.Proofs.YtemcigoelcblbaaGreatDoor
open Go.RowKit
theorem trim_at {l : List UInt8} {j : Nat} {x : UInt8} (h : l[j]? = some x) : Lib.trimLeftB (l.drop j) 32 = if x = 32 then Lib.trimLeftB (l.drop (j + 1)) 32 else l.drop j := by
  obtain ⟨hj, rfl⟩ := List.getElem?_eq_some_iff.1 h
  unfold Lib.trimLeftB
  rw [List.drop_eq_getElem_cons hj, List.dropWhile_cons]
  by_cases hx : l[j] = 32 <;> simp [hx]
theorem elem_sd : Elem Tryz.prog 28 43 12 128 := elem_of (by kernel_rfl)
theorem sd_add (A : Option Addr) (c : Nat) (zs : List StS) (z : StS) : stD A c (zs ++ [z]) = row A (zs.length + 1) c 43 12 (zs.flatMap StS.enc ++ z.enc) := by
  unfold stD
  rw [List.length_append, List.flatMap_append, List.flatMap_cons, List.flatMap_nil, List.append_nil]
  rfl
theorem ci_add (A : Option Addr) (c : Nat) (cs : List Int) (n : Int) : rowI A c (cs ++ [n]) = row A (cs.length + 1) c 3 1 (ints cs ++ [.int .i64 n]) := by
  unfold rowI ints
  rw [List.length_append, List.map_append]
  rfl
set_option maxRecDepth 20000 in
set_option maxHeartbeats 2000000 in
theorem dparse_sl (t : List UInt8) (ht : t.length ≤ 1048576) : Fn Tryz.prog 8 #[.string (txt t)] [] ((Option Addr × Nat) × List StS × (Option Addr × Nat)) (fun p => .tuple #[.slice p.1.1 p.2.1.length p.1.2, .slice p.2.2.1 ((parseP t).map Prod.snd).length p.2.2.2]) (fun p => [stD p.1.1 p.1.2 p.2.1, rowI p.2.2.1 p.2.2.2 ((parseP t).map Prod.snd), famX p.2.1]) (fun p => p.2.1.map StS.p = (parseP t).map Prod.fst) := by
  have hsl := splitP_len 10 t
  unfold parseP
  refine Fn.enter Tryz.func8 rfl Tryz.ntmps8 (by rfl) ?_
  intro w0
  refine Cd.seq ?_
  refine Cd.region ?_
  refine Ls.ev (some 2) (Ev.assign (show Oper.op _ = Op.assign (Operand.const (Value.slice none 0 0)) from rfl) (by rfl)) (by rfl) (by rfl) ?_
  refine Ls.ev (some 3) (Ev.assign (show Oper.op _ = Op.assign (Operand.const (Value.slice none 0 0)) from rfl) (by rfl)) (by rfl) (by rfl) ?_
  refine Ls.nil ?_
  refine Cd.seq ?_
  refine Cd.region ?_
  refine Ls.ev (some 4) (Ev.assign (show Oper.op _ = Op.assign (Operand.const (Value.slice none 0 0)) from rfl) (by rfl)) (by rfl) (by rfl) ?_
  refine Ls.nil ?_
  refine Cd.seq ?_
  refine Cd.region ?_
  refine Ls.ev (some 5) (Ev.assign (show Oper.op _ = Op.assign (Operand.const (Value.slice none 0 0)) from rfl) (by rfl)) (by rfl) (by rfl) ?_
  refine Ls.nil ?_
  refine Cd.seq ?_
  refine Cd.region ?_
  refine Ls.ev (some 11) (Ev.move (show Oper.op _ = Op.move (Operand.tmp 0) from rfl) (by rfl)) (by rfl) (by rfl) ?_
  refine Ls.does (some 12) (Does.call [] (show Oper.op _ = Op.call { callee := Callee.value (Operand.func 16), args := #[Operand.tmp 11, Operand.const (Value.int IntKind.u8 10)], argTypes := #[9, 5] } from rfl) Tryz.func16 (by kernel_rfl) (by kernel_rfl) (dwords_sl 10 t ht) (by rfl) (by rfl) (by rfl)) (by rfl) (by rfl) ?_
  rintro W -
  refine Ent.see 0 (by rfl) ?_
  generalize hls : splitP 10 t = ls at hsl
  refine Ls.ev (some 6) (Ev.assign (show Oper.op _ = Op.assign (Operand.tmp 12) from rfl) (by rfl)) (by rfl) (by rfl) ?_
  refine Ls.nil ?_
  refine Cd.seq ?_
  refine Cd.seq ?_
  refine Cd.region ?_
  refine Ls.ev (some 7) (Ev.assign (show Oper.op _ = Op.assign (Operand.const (Value.int IntKind.i64 0)) from rfl) (by rfl)) (by rfl) (by rfl) ?_
  refine Ls.nil ?_
  refine Cd.block ?_
  refine Ent.map (fun w hs => hs.starx_nil) ?_
  refine Ent.nil 3 1 ?_
  refine Ent.nil 43 12 ?_
  refine Cd.loop (ι := Nat × (Option Addr × Nat) × List StS × (Option Addr × Nat)) (fun p => [(4, .slice p.2.1.1 p.2.2.1.length p.2.1.2), (5, .slice p.2.2.2.1 ((parseL (ls.take p.1)).map Prod.snd).length p.2.2.2.2), (6, .slice W.1 ls.length W.2), (7, .int .i64 p.1)]) (fun p => [stD p.2.1.1 p.2.1.2 p.2.2.1, rowI p.2.2.2.1 p.2.2.2.2 ((parseL (ls.take p.1)).map Prod.snd), famX p.2.2.1, rd W.1 ls.length 1 (txts ls)]) (fun p => p.1 ≤ ls.length ∧ p.2.2.1.map StS.p = (parseL (ls.take p.1)).map Prod.fst) (fun p => ls.length - p.1) ((0, (none, 0), [], (none, 0))) (⟨Nat.zero_le _, rfl⟩) ?_ rfl ?_
  · (repeat (first | exact trivial | refine ⟨by rfl, ?_⟩))
  rintro ⟨k, A, zs, B⟩ ⟨hk, hzs⟩
  dsimp only at hk hzs ⊢
  have hpl := parse_le (ls.take k)
  rw [List.length_take] at hpl
  have hzl : zs.length = (parseL (ls.take k)).length := by
    have := congrArg List.length hzs
    rwa [List.length_map, List.length_map] at this
  have hcl : ((parseL (ls.take k)).map Prod.snd).length = (parseL (ls.take k)).length := List.length_map ..
  refine Cd.seq ?_
  refine Cd.seq ?_
  refine Cd.region ?_
  refine Ls.ev (some 13) (Ev.move (show Oper.op _ = Op.move (Operand.tmp 7) from rfl) (by rfl)) (by rfl) (by rfl) ?_
  refine Ls.ev (some 14) (Ev.move (show Oper.op _ = Op.move (Operand.tmp 6) from rfl) (by rfl)) (by rfl) (by rfl) ?_
  refine Ls.ev (some 15) (Ev.len (show Oper.op _ = Op.call { callee := Callee.builtin Builtin.len, args := #[Operand.tmp 14], argTypes := #[54] } from rfl) (by rfl) Tryz.underlying54) (by rfl) (by rfl) ?_
  refine Ls.ev (some 16) (Ev.lss (show Oper.op _ = Op.binOp BinOp.lss 3 (Operand.tmp 13) (Operand.tmp 15) 3 from rfl) (by rfl) (by rfl)) (by rfl) (by rfl) ?_
  refine Ls.nil ?_
  refine Cd.cond _ (by rfl) (fun h1 => ?_) (fun h1 => ?_)
  · skip
    have hlt : k < ls.length := by have := of_decide_eq_true h1; omega
    obtain ⟨l, hl⟩ := get_of_lt hlt
    have hlm : (ls.map txt)[k]? = some (txt l) := by rw [List.getElem?_map, hl]; rfl
    have hll := hsl.2 l (List.mem_of_getElem? hl)
    have hls2 : (txt l).size = l.length := rfl
    have hnx := parse_next hl
    refine Ent.rdSome 3 (by rfl) (by omega) (fun ad had => ?_)
    obtain ⟨W1, W2⟩ := W
    dsimp only at had
    subst had
    refine Cd.skip ?_
    refine Cd.seq ?_
    refine Cd.block ?_
    refine Cd.seq ?_
    refine Cd.region ?_
    refine Ls.ev (some 8) (Ev.assign (show Oper.op _ = Op.assign (Operand.const (Value.int IntKind.i64 0)) from rfl) (by rfl)) (by rfl) (by rfl) ?_
    refine Ls.nil ?_
    refine Cd.seq ?_
    refine Cd.cut (ι := Nat) (fun j => [(4, .slice A.1 zs.length A.2), (5, .slice B.1 ((parseL (ls.take k)).map Prod.snd).length B.2), (6, .slice (some ad) ls.length W2), (7, .int .i64 k), (8, .int .i64 j)]) (fun _ => [stD A.1 A.2 zs, rowI B.1 B.2 ((parseL (ls.take k)).map Prod.snd), famX zs, rd (some ad) ls.length 1 (txts ls)]) (fun j => j ≤ l.length ∧ Lib.trimLeftB l 32 = l.drop j) ?_ ?_
    · skip
      refine Cd.block ?_
      refine Cd.loop (ι := Nat) (fun j => [(4, .slice A.1 zs.length A.2), (5, .slice B.1 ((parseL (ls.take k)).map Prod.snd).length B.2), (6, .slice (some ad) ls.length W2), (7, .int .i64 k), (8, .int .i64 j)]) (fun _ => [stD A.1 A.2 zs, rowI B.1 B.2 ((parseL (ls.take k)).map Prod.snd), famX zs, rd (some ad) ls.length 1 (txts ls)]) (fun j => j ≤ l.length ∧ Lib.trimLeftB l 32 = Lib.trimLeftB (l.drop j) 32) (fun j => l.length - j) (0) (⟨Nat.zero_le _, rfl⟩) ?_ rfl ?_
      · (repeat (first | exact trivial | refine ⟨by rfl, ?_⟩))
      rintro j ⟨hj, htr⟩
      rcases Nat.lt_or_ge j l.length with hjl | hjl
      · skip
        obtain ⟨x, hx⟩ := get_of_lt hjl
        have hta := trim_at hx
        refine Cd.seq ?_
        refine Cd.seq ?_
        refine Cd.region ?_
        refine Ls.ev (some 19) (Ev.move (show Oper.op _ = Op.move (Operand.tmp 8) from rfl) (by rfl)) (by rfl) (by rfl) ?_
        refine Ls.ev (some 20) (Ev.move (show Oper.op _ = Op.move (Operand.tmp 6) from rfl) (by rfl)) (by rfl) (by rfl) ?_
        refine Ls.ev (some 21) (Ev.move (show Oper.op _ = Op.move (Operand.tmp 7) from rfl) (by rfl)) (by rfl) (by rfl) ?_
        refine Ls.ev (some 22) (Ev.indexAt (sz := 1) (show Oper.op _ = Op.indexAddr 54 (Operand.tmp 20) (Operand.tmp 21) from rfl) (by rfl) (by rfl) Tryz.underlying54 (by kernel_rfl) (by omega)) (by rfl) (by rfl) ?_
        refine Ls.ev (some 23) (Ev.loadStr (show Oper.op _ = Op.load 9 (Operand.tmp 22) from rfl) (by rfl) (ReadsIn.rd 3 (by rfl)) (by kernel_rfl) (by assumption)) (by rfl) (by rfl) ?_
        refine Ls.ev (some 24) (Ev.lenS (show Oper.op _ = Op.call { callee := Callee.builtin Builtin.len, args := #[Operand.tmp 23], argTypes := #[9] } from rfl) (by rfl) Tryz.underlying9) (by rfl) (by rfl) ?_
        refine Ls.ev (some 25) (Ev.lss (show Oper.op _ = Op.binOp BinOp.lss 3 (Operand.tmp 19) (Operand.tmp 24) 3 from rfl) (by rfl) (by rfl)) (by rfl) (by rfl) ?_
        refine Ls.ev (some 26) (Ev.move (show Oper.op _ = Op.move (Operand.tmp 25) from rfl) (by rfl)) (by rfl) (by rfl) ?_
        refine Ent.known 26 true (by rfl) (by exact (decide_eq_true (show (j : Int) < ((txt l).size : Int) by omega))) ?_
        refine Ls.ev (some 27) (Ev.move (show Oper.op _ = Op.move (Operand.tmp 6) from rfl) (by rfl)) (by rfl) (by rfl) ?_
        refine Ls.ev (some 28) (Ev.move (show Oper.op _ = Op.move (Operand.tmp 7) from rfl) (by rfl)) (by rfl) (by rfl) ?_
        refine Ls.ev (some 29) (Ev.indexAt (sz := 1) (show Oper.op _ = Op.indexAddr 54 (Operand.tmp 27) (Operand.tmp 28) from rfl) (by rfl) (by rfl) Tryz.underlying54 (by kernel_rfl) (by omega)) (by rfl) (by rfl) ?_
        refine Ls.ev (some 30) (Ev.loadStr (show Oper.op _ = Op.load 9 (Operand.tmp 29) from rfl) (by rfl) (ReadsIn.rd 3 (by rfl)) (by kernel_rfl) (by assumption)) (by rfl) (by rfl) ?_
        refine Ls.ev (some 31) (Ev.move (show Oper.op _ = Op.move (Operand.tmp 8) from rfl) (by rfl)) (by rfl) (by rfl) ?_
        refine Ls.ev (some 32) (Ev.indexT (show Oper.op _ = Op.index 9 (Operand.tmp 30) (Operand.tmp 31) from rfl) (by rfl) (by rfl) Tryz.underlying9 (by assumption)) (by rfl) (by rfl) ?_
        refine Ls.ev (some 33) (Ev.eql (show Oper.op _ = Op.binOp BinOp.eql 5 (Operand.tmp 32) (Operand.const (Value.int IntKind.u8 32)) 5 from rfl) (by rfl) (by rfl)) (by rfl) (by rfl) ?_
        refine Ls.ev (some 34) (Ev.pickT (show Oper.op _ = Op.pick (Operand.tmp 26) (Operand.tmp 33) (Operand.const (Value.bool false)) from rfl) (by rfl) (by rfl)) (by rfl) (by rfl) ?_
        refine Ls.nil ?_
        refine Cd.cond _ (by rfl) (fun h2 => ?_) (fun h2 => ?_)
        · skip
          have h2 : x = 32 := UInt8.toNat_inj.1 (by have := of_decide_eq_true h2; have h3 : (32 : UInt8).toNat = 32 := rfl; omega)
          rw [if_pos h2] at hta
          refine Cd.skip ?_
          refine Cd.block ?_
          refine Cd.region ?_
          refine Ls.ev (some 35) (Ev.move (show Oper.op _ = Op.move (Operand.tmp 8) from rfl) (by rfl)) (by rfl) (by rfl) ?_
          refine Ls.ev (some 36) (Ev.addI (show Oper.op _ = Op.binOp BinOp.add 3 (Operand.tmp 35) (Operand.const (Value.int IntKind.i64 1)) 3 from rfl) (by rfl) (by rfl) (by omega)) (by rfl) (by rfl) ?_
          refine Ls.ev (some 8) (Ev.assign (show Oper.op _ = Op.assign (Operand.tmp 36) from rfl) (by rfl)) (by rfl) (by rfl) ?_
          refine Ls.nil ?_
          refine Ent.inv (j + 1) ?_ ?_ ?_
          · (try dsimp only); exact ⟨⟨hjl, htr.trans hta⟩, by omega⟩
          · (repeat (first | exact trivial | refine ⟨by rfl, ?_⟩ | refine ⟨by simp only [List.length_append, List.length_cons, List.length_nil]; rfl, ?_⟩ | refine ⟨by push_cast; rfl, ?_⟩))
          · rfl
        · skip
          have h2 : x ≠ 32 := fun e => (of_decide_eq_false h2) (by rw [e]; rfl)
          rw [if_neg h2] at hta
          refine Cd.exit ?_
          refine Ent.inv (j) ?_ ?_ ?_
          · (try dsimp only); exact ⟨hj, htr.trans hta⟩
          · (repeat (first | exact trivial | refine ⟨by rfl, ?_⟩ | refine ⟨by simp only [List.length_append, List.length_cons, List.length_nil]; rfl, ?_⟩ | refine ⟨by push_cast; rfl, ?_⟩))
          · rfl
      · skip
        refine Cd.seq ?_
        refine Cd.seq ?_
        refine Cd.region ?_
        refine Ls.ev (some 19) (Ev.move (show Oper.op _ = Op.move (Operand.tmp 8) from rfl) (by rfl)) (by rfl) (by rfl) ?_
        refine Ls.ev (some 20) (Ev.move (show Oper.op _ = Op.move (Operand.tmp 6) from rfl) (by rfl)) (by rfl) (by rfl) ?_
        refine Ls.ev (some 21) (Ev.move (show Oper.op _ = Op.move (Operand.tmp 7) from rfl) (by rfl)) (by rfl) (by rfl) ?_
        refine Ls.ev (some 22) (Ev.indexAt (sz := 1) (show Oper.op _ = Op.indexAddr 54 (Operand.tmp 20) (Operand.tmp 21) from rfl) (by rfl) (by rfl) Tryz.underlying54 (by kernel_rfl) (by omega)) (by rfl) (by rfl) ?_
        refine Ls.ev (some 23) (Ev.loadStr (show Oper.op _ = Op.load 9 (Operand.tmp 22) from rfl) (by rfl) (ReadsIn.rd 3 (by rfl)) (by kernel_rfl) (by assumption)) (by rfl) (by rfl) ?_
        refine Ls.ev (some 24) (Ev.lenS (show Oper.op _ = Op.call { callee := Callee.builtin Builtin.len, args := #[Operand.tmp 23], argTypes := #[9] } from rfl) (by rfl) Tryz.underlying9) (by rfl) (by rfl) ?_
        refine Ls.ev (some 25) (Ev.lss (show Oper.op _ = Op.binOp BinOp.lss 3 (Operand.tmp 19) (Operand.tmp 24) 3 from rfl) (by rfl) (by rfl)) (by rfl) (by rfl) ?_
        refine Ls.ev (some 26) (Ev.move (show Oper.op _ = Op.move (Operand.tmp 25) from rfl) (by rfl)) (by rfl) (by rfl) ?_
        refine Ent.known 26 false (by rfl) (by exact (decide_eq_false (show ¬ (j : Int) < ((txt l).size : Int) by omega))) ?_
        refine Ls.pass (some 27) (by rfl) (by rfl) ?_
        refine Ls.pass (some 28) (by rfl) (by rfl) ?_
        refine Ls.pass (some 29) (by rfl) (by rfl) ?_
        refine Ls.pass (some 30) (by rfl) (by rfl) ?_
        refine Ls.pass (some 31) (by rfl) (by rfl) ?_
        refine Ls.pass (some 32) (by rfl) (by rfl) ?_
        refine Ls.pass (some 33) (by rfl) (by rfl) ?_
        refine Ls.ev (some 34) (Ev.pickF (show Oper.op _ = Op.pick (Operand.tmp 26) (Operand.tmp 33) (Operand.const (Value.bool false)) from rfl) (by rfl) (by rfl)) (by rfl) (by rfl) ?_
        refine Ls.nil ?_
        refine Cd.cond_false (by rfl) (rfl) ?_
        refine Cd.exit ?_
        refine Ent.inv (j) ?_ ?_ ?_
        · (try dsimp only); exact ⟨hj, by rw [htr, List.drop_eq_nil_of_le hjl]; rfl⟩
        · (repeat (first | exact trivial | refine ⟨by rfl, ?_⟩ | refine ⟨by simp only [List.length_append, List.length_cons, List.length_nil]; rfl, ?_⟩ | refine ⟨by push_cast; rfl, ?_⟩))
        · rfl
    skip
    rintro j ⟨hj, htr⟩
    refine Cd.seq ?_
    refine Cd.seq ?_
    unfold keepB at hnx
    rw [htr] at hnx
    have hskip : ∀ b : Bool, b = false → parseL (ls.take (k + 1)) = parseL (ls.take k) ++ (if b = true then [lineP l] else []) → parseL (ls.take (k + 1)) = parseL (ls.take k) := fun b hb h => by rw [h, hb]; exact List.append_nil _
    rcases Nat.lt_or_ge j l.length with hjl | hjl
    · skip
      obtain ⟨x, hx⟩ := get_of_lt hjl
      have hdr : l.drop j = x :: l.drop (j + 1) := by
        obtain ⟨hj', rfl⟩ := List.getElem?_eq_some_iff.1 hx
        exact List.drop_eq_getElem_cons hj'
      rw [hdr] at hnx
      refine Cd.region ?_
      refine Ls.ev (some 37) (Ev.move (show Oper.op _ = Op.move (Operand.tmp 8) from rfl) (by rfl)) (by rfl) (by rfl) ?_
      refine Ls.ev (some 38) (Ev.move (show Oper.op _ = Op.move (Operand.tmp 6) from rfl) (by rfl)) (by rfl) (by rfl) ?_
      refine Ls.ev (some 39) (Ev.move (show Oper.op _ = Op.move (Operand.tmp 7) from rfl) (by rfl)) (by rfl) (by rfl) ?_
      refine Ls.ev (some 40) (Ev.indexAt (sz := 1) (show Oper.op _ = Op.indexAddr 54 (Operand.tmp 38) (Operand.tmp 39) from rfl) (by rfl) (by rfl) Tryz.underlying54 (by kernel_rfl) (by omega)) (by rfl) (by rfl) ?_
      refine Ls.ev (some 41) (Ev.loadStr (show Oper.op _ = Op.load 9 (Operand.tmp 40) from rfl) (by rfl) (ReadsIn.rd 3 (by rfl)) (by kernel_rfl) (by assumption)) (by rfl) (by rfl) ?_
      refine Ls.ev (some 42) (Ev.lenS (show Oper.op _ = Op.call { callee := Callee.builtin Builtin.len, args := #[Operand.tmp 41], argTypes := #[9] } from rfl) (by rfl) Tryz.underlying9) (by rfl) (by rfl) ?_
      refine Ls.ev (some 43) (Ev.eql (show Oper.op _ = Op.binOp BinOp.eql 3 (Operand.tmp 37) (Operand.tmp 42) 3 from rfl) (by rfl) (by rfl)) (by rfl) (by rfl) ?_
      refine Ls.ev (some 44) (Ev.move (show Oper.op _ = Op.move (Operand.tmp 43) from rfl) (by rfl)) (by rfl) (by rfl) ?_
      refine Ent.known 44 false (by rfl) (by exact (decide_eq_false (show ¬ (j : Int) = ((txt l).size : Int) by omega))) ?_
      refine Ls.ev (some 45) (Ev.move (show Oper.op _ = Op.move (Operand.tmp 6) from rfl) (by rfl)) (by rfl) (by rfl) ?_
      refine Ls.ev (some 46) (Ev.move (show Oper.op _ = Op.move (Operand.tmp 7) from rfl) (by rfl)) (by rfl) (by rfl) ?_
      refine Ls.ev (some 47) (Ev.indexAt (sz := 1) (show Oper.op _ = Op.indexAddr 54 (Operand.tmp 45) (Operand.tmp 46) from rfl) (by rfl) (by rfl) Tryz.underlying54 (by kernel_rfl) (by omega)) (by rfl) (by rfl) ?_
      refine Ls.ev (some 48) (Ev.loadStr (show Oper.op _ = Op.load 9 (Operand.tmp 47) from rfl) (by rfl) (ReadsIn.rd 3 (by rfl)) (by kernel_rfl) (by assumption)) (by rfl) (by rfl) ?_
      refine Ls.ev (some 49) (Ev.move (show Oper.op _ = Op.move (Operand.tmp 8) from rfl) (by rfl)) (by rfl) (by rfl) ?_
      refine Ls.ev (some 50) (Ev.indexT (show Oper.op _ = Op.index 9 (Operand.tmp 48) (Operand.tmp 49) from rfl) (by rfl) (by rfl) Tryz.underlying9 (by assumption)) (by rfl) (by rfl) ?_
      refine Ls.ev (some 51) (Ev.eql (show Oper.op _ = Op.binOp BinOp.eql 5 (Operand.tmp 50) (Operand.const (Value.int IntKind.u8 35)) 5 from rfl) (by rfl) (by rfl)) (by rfl) (by rfl) ?_
      refine Ls.ev (some 52) (Ev.pickF (show Oper.op _ = Op.pick (Operand.tmp 44) (Operand.const (Value.bool true)) (Operand.tmp 51) from rfl) (by rfl) (by rfl)) (by rfl) (by rfl) ?_
      refine Ls.nil ?_
      refine Cd.cond _ (by rfl) (fun h2 => ?_) (fun h2 => ?_)
      · skip
        have h2 : x = 35 := UInt8.toNat_inj.1 (by have := of_decide_eq_true h2; have h3 : (35 : UInt8).toNat = 35 := rfl; omega)
        have hnx := hskip _ (decide_eq_false (fun h => h h2)) hnx
        refine Cd.exit ?_
        refine Cd.region ?_
        refine Ls.ev (some 17) (Ev.move (show Oper.op _ = Op.move (Operand.tmp 7) from rfl) (by rfl)) (by rfl) (by rfl) ?_
        refine Ls.ev (some 18) (Ev.addI (show Oper.op _ = Op.binOp BinOp.add 3 (Operand.tmp 17) (Operand.const (Value.int IntKind.i64 1)) 3 from rfl) (by rfl) (by rfl) (by omega)) (by rfl) (by rfl) ?_
        refine Ls.ev (some 7) (Ev.assign (show Oper.op _ = Op.assign (Operand.tmp 18) from rfl) (by rfl)) (by rfl) (by rfl) ?_
        refine Ls.nil ?_
        refine Ent.inv ((k + 1, A, zs, B)) ?_ ?_ ?_
        · (try dsimp only); exact ⟨⟨hlt, by rw [hnx]; exact hzs⟩, by omega⟩
        · (repeat (first | exact trivial | refine ⟨by rfl, ?_⟩ | refine ⟨by simp only [List.length_append, List.length_cons, List.length_nil]; rfl, ?_⟩ | refine ⟨by push_cast; rfl, ?_⟩ | refine ⟨by (show some (Value.slice _ _ _) = some (Value.slice _ _ _); dsimp only; rw [hnx]), ?_⟩))
        · (show [_, _, _, _] = [_, _, _, _]; dsimp only; rw [hnx])
      skip
      have h2 : x ≠ 35 := fun e => (of_decide_eq_false h2) (by rw [e]; rfl)
      have hnx : parseL (ls.take (k + 1)) = parseL (ls.take k) ++ [lineP l] := by
        rw [hnx]
        dsimp only
        rw [if_pos (decide_eq_true h2)]
      refine Cd.skip ?_
      refine Cd.seq ?_
      refine Cd.region ?_
      refine Ls.ev (some 54) (Ev.move (show Oper.op _ = Op.move (Operand.tmp 6) from rfl) (by rfl)) (by rfl) (by rfl) ?_
      refine Ls.ev (some 55) (Ev.move (show Oper.op _ = Op.move (Operand.tmp 7) from rfl) (by rfl)) (by rfl) (by rfl) ?_
      refine Ls.ev (some 56) (Ev.indexAt (sz := 1) (show Oper.op _ = Op.indexAddr 54 (Operand.tmp 54) (Operand.tmp 55) from rfl) (by rfl) (by rfl) Tryz.underlying54 (by kernel_rfl) (by omega)) (by rfl) (by rfl) ?_
      refine Ls.ev (some 57) (Ev.loadStr (show Oper.op _ = Op.load 9 (Operand.tmp 56) from rfl) (by rfl) (ReadsIn.rd 3 (by rfl)) (by kernel_rfl) (by assumption)) (by rfl) (by rfl) ?_
      refine Ls.does (some 58) (Does.call [0, 1, 2, 3] (show Oper.op _ = Op.call { callee := Callee.value (Operand.func 17), args := #[Operand.tmp 57], argTypes := #[9] } from rfl) Tryz.func17 (by kernel_rfl) (by kernel_rfl) (dline_sl l (by omega)) (by rfl) (by rfl) (by rfl)) (by rfl) (by rfl) ?_
      rintro z hz
      refine Ls.ev (some 53) (Ev.move (show Oper.op _ = Op.move (Operand.tmp 58) from rfl) (by rfl)) (by rfl) (by rfl) ?_
      refine Ls.ev (some 59) (Ev.extract (show Oper.op _ = Op.extract (Operand.tmp 53) 0 from rfl) (by rfl) (by rfl)) (by rfl) (by rfl) ?_
      refine Ls.ev (some 60) (Ev.extract (show Oper.op _ = Op.extract (Operand.tmp 53) 1 from rfl) (by rfl) (by rfl)) (by rfl) (by rfl) ?_
      refine Ls.does (some 9) (Does.alloc (cs := [.int .i64 0, .int .i64 0, .int .i64 0, .int .i64 0, .int .i64 0, .int .i64 0, .int .i64 0, .int .i64 0, .int .i64 0, .int .i64 0, .slice none 0 0, .slice none 0 0]) (show Oper.op _ = Op.alloc 43 from rfl) (ZeroIs.mk (.agg #[.int .i64 0, .int .i64 0, .int .i64 0, .int .i64 0, .int .i64 0, .int .i64 0, .int .i64 0, .int .i64 0, .int .i64 0, .int .i64 0, .slice none 0 0, .slice none 0 0]) (by kernel_rfl) (by rfl))) (by rfl) (by rfl) ?_
      intro g1 _
      refine Ls.does none (Does.store 0 (show Oper.op _ = Op.store 43 (Operand.tmp 9) (Operand.tmp 59) from rfl) (by rfl) (by rfl) (by rfl) (by kernel_rfl) (by rfl) (by kernel_rfl) (by rfl)) (by rfl) (by rfl) ?_
      intro _ _
      refine Ls.ev (some 10) (Ev.assign (show Oper.op _ = Op.assign (Operand.tmp 60) from rfl) (by rfl)) (by rfl) (by rfl) ?_
      refine Ls.nil ?_
      refine Cd.seq ?_
      refine Ent.pick [1, 2, 5, 0, 3, 4, 6] (by rfl) ?_
      refine Ent.map (fun w hs => fam_snoc hs) ?_
      refine Cd.region ?_
      refine Ls.ev (some 61) (Ev.move (show Oper.op _ = Op.move (Operand.tmp 4) from rfl) (by rfl)) (by rfl) (by rfl) ?_
      refine Ls.ev (some 62) (Ev.loads 1 (show Oper.op _ = Op.load 43 (Operand.tmp 9) from rfl) (by rfl) (by rfl) (n := 12) (by kernel_rfl) (by rfl) (by rfl)) (by rfl) (by rfl) ?_
      refine Ls.does (some 63) (Does.lit (sz := 12) (show Oper.op _ = Op.buildSlice 28 1 #[(0, Operand.tmp 62)] from rfl) (by rfl) Tryz.underlying28 (by kernel_rfl) (by rfl) (by kernel_rfl)) (by rfl) (by rfl) ?_
      intro g2 _
      refine Ls.does (some 64) (Does.app (xs := zs.flatMap StS.enc) (news := z.enc) 3 (show Oper.op _ = Op.call { callee := Callee.builtin Builtin.append, args := #[Operand.tmp 61, Operand.tmp 63], argTypes := #[28, 28] } from rfl) (by rfl) (by rfl) (by rfl) (ReadsIn.row 0 (by rfl)) elem_sd (one_st z) (by omega)) (by rfl) (by rfl) ?_
      rintro q -
      refine Ls.ev (some 4) (Ev.assign (show Oper.op _ = Op.assign (Operand.tmp 64) from rfl) (by rfl)) (by rfl) (by rfl) ?_
      refine Ls.nil ?_
      refine Cd.region ?_
      refine Ls.ev (some 65) (Ev.move (show Oper.op _ = Op.move (Operand.tmp 5) from rfl) (by rfl)) (by rfl) (by rfl) ?_
      refine Ls.ev (some 66) (Ev.move (show Oper.op _ = Op.move (Operand.tmp 10) from rfl) (by rfl)) (by rfl) (by rfl) ?_
      refine Ls.does (some 67) (Does.lit (sz := 1) (show Oper.op _ = Op.buildSlice 29 1 #[(0, Operand.tmp 66)] from rfl) (by rfl) Tryz.underlying29 (by kernel_rfl) (by rfl) (by kernel_rfl)) (by rfl) (by rfl) ?_
      intro g3 _
      refine Ls.does (some 68) (Does.app (xs := ints ((parseL (ls.take k)).map Prod.snd)) (news := [.int .i64 (lineP l).2]) 5 (show Oper.op _ = Op.call { callee := Callee.builtin Builtin.append, args := #[Operand.tmp 65, Operand.tmp 67], argTypes := #[29, 29] } from rfl) (by rfl) (by rfl) (by rfl) (ReadsIn.row 0 (by rfl)) elem_int (fun u hu => by rw [List.mem_singleton.1 hu]; rfl) (by omega)) (by rfl) (by rfl) ?_
      rintro q' -
      refine Ls.ev (some 5) (Ev.assign (show Oper.op _ = Op.assign (Operand.tmp 68) from rfl) (by rfl)) (by rfl) (by rfl) ?_
      refine Ls.nil ?_
      refine Cd.region ?_
      refine Ls.ev (some 17) (Ev.move (show Oper.op _ = Op.move (Operand.tmp 7) from rfl) (by rfl)) (by rfl) (by rfl) ?_
      refine Ls.ev (some 18) (Ev.addI (show Oper.op _ = Op.binOp BinOp.add 3 (Operand.tmp 17) (Operand.const (Value.int IntKind.i64 1)) 3 from rfl) (by rfl) (by rfl) (by omega)) (by rfl) (by rfl) ?_
      refine Ls.ev (some 7) (Ev.assign (show Oper.op _ = Op.assign (Operand.tmp 18) from rfl) (by rfl)) (by rfl) (by rfl) ?_
      refine Ls.nil ?_
      refine Ent.pick [4, 5, 2, 6] (by rfl) ?_
      refine Ent.inv ((k + 1, q, zs ++ [z], q')) ?_ ?_ ?_
      · (try dsimp only); exact ⟨⟨hlt, by rw [hnx, List.map_append, List.map_append, hzs, List.map_cons, List.map_nil, hz]; rfl⟩, by omega⟩
      · (repeat (first | exact trivial | refine ⟨by rfl, ?_⟩ | refine ⟨by simp only [List.length_append, List.length_cons, List.length_nil]; rfl, ?_⟩ | refine ⟨by push_cast; rfl, ?_⟩ | refine ⟨by (show some (Value.slice _ _ _) = some (Value.slice _ _ _); dsimp only; first | (rw [hnx, List.map_append, List.length_append]; rfl) | (rw [List.length_append]; rfl)), ?_⟩))
      · (show [_, _, _, _] = [_, _, _, _]; dsimp only; rw [hnx, List.map_append, sd_add]; exact congrArg (fun C => [_, C, _, _]) (ci_add _ _ _ _).symm)
    · skip
      have hjn : j = l.length := by omega
      rw [List.drop_eq_nil_of_le hjl] at hnx
      have hnx := hskip _ rfl hnx
      refine Cd.region ?_
      refine Ls.ev (some 37) (Ev.move (show Oper.op _ = Op.move (Operand.tmp 8) from rfl) (by rfl)) (by rfl) (by rfl) ?_
      refine Ls.ev (some 38) (Ev.move (show Oper.op _ = Op.move (Operand.tmp 6) from rfl) (by rfl)) (by rfl) (by rfl) ?_
      refine Ls.ev (some 39) (Ev.move (show Oper.op _ = Op.move (Operand.tmp 7) from rfl) (by rfl)) (by rfl) (by rfl) ?_
      refine Ls.ev (some 40) (Ev.indexAt (sz := 1) (show Oper.op _ = Op.indexAddr 54 (Operand.tmp 38) (Operand.tmp 39) from rfl) (by rfl) (by rfl) Tryz.underlying54 (by kernel_rfl) (by omega)) (by rfl) (by rfl) ?_
      refine Ls.ev (some 41) (Ev.loadStr (show Oper.op _ = Op.load 9 (Operand.tmp 40) from rfl) (by rfl) (ReadsIn.rd 3 (by rfl)) (by kernel_rfl) (by assumption)) (by rfl) (by rfl) ?_
      refine Ls.ev (some 42) (Ev.lenS (show Oper.op _ = Op.call { callee := Callee.builtin Builtin.len, args := #[Operand.tmp 41], argTypes := #[9] } from rfl) (by rfl) Tryz.underlying9) (by rfl) (by rfl) ?_
      refine Ls.ev (some 43) (Ev.eql (show Oper.op _ = Op.binOp BinOp.eql 3 (Operand.tmp 37) (Operand.tmp 42) 3 from rfl) (by rfl) (by rfl)) (by rfl) (by rfl) ?_
      refine Ls.ev (some 44) (Ev.move (show Oper.op _ = Op.move (Operand.tmp 43) from rfl) (by rfl)) (by rfl) (by rfl) ?_
      refine Ent.known 44 true (by rfl) (by exact (decide_eq_true (show (j : Int) = ((txt l).size : Int) by omega))) ?_
      refine Ls.pass (some 45) (by rfl) (by rfl) ?_
      refine Ls.pass (some 46) (by rfl) (by rfl) ?_
      refine Ls.pass (some 47) (by rfl) (by rfl) ?_
      refine Ls.pass (some 48) (by rfl) (by rfl) ?_
      refine Ls.pass (some 49) (by rfl) (by rfl) ?_
      refine Ls.pass (some 50) (by rfl) (by rfl) ?_
      refine Ls.pass (some 51) (by rfl) (by rfl) ?_
      refine Ls.ev (some 52) (Ev.pickT (show Oper.op _ = Op.pick (Operand.tmp 44) (Operand.const (Value.bool true)) (Operand.tmp 51) from rfl) (by rfl) (by rfl)) (by rfl) (by rfl) ?_
      refine Ls.nil ?_
      refine Cd.cond_true (by rfl) (rfl) ?_
      refine Cd.exit ?_
      refine Cd.region ?_
      refine Ls.ev (some 17) (Ev.move (show Oper.op _ = Op.move (Operand.tmp 7) from rfl) (by rfl)) (by rfl) (by rfl) ?_
      refine Ls.ev (some 18) (Ev.addI (show Oper.op _ = Op.binOp BinOp.add 3 (Operand.tmp 17) (Operand.const (Value.int IntKind.i64 1)) 3 from rfl) (by rfl) (by rfl) (by omega)) (by rfl) (by rfl) ?_
      refine Ls.ev (some 7) (Ev.assign (show Oper.op _ = Op.assign (Operand.tmp 18) from rfl) (by rfl)) (by rfl) (by rfl) ?_
      refine Ls.nil ?_
      refine Ent.inv ((k + 1, A, zs, B)) ?_ ?_ ?_
      · (try dsimp only); exact ⟨⟨hlt, by rw [hnx]; exact hzs⟩, by omega⟩
      · (repeat (first | exact trivial | refine ⟨by rfl, ?_⟩ | refine ⟨by simp only [List.length_append, List.length_cons, List.length_nil]; rfl, ?_⟩ | refine ⟨by push_cast; rfl, ?_⟩ | refine ⟨by (show some (Value.slice _ _ _) = some (Value.slice _ _ _); dsimp only; rw [hnx]), ?_⟩))
      · (show [_, _, _, _] = [_, _, _, _]; dsimp only; rw [hnx])
  · skip
    have hkl : k = ls.length := by have := of_decide_eq_false h1; omega
    subst hkl
    rw [List.take_length] at hzs ⊢
    refine Cd.exit ?_
    refine Cd.seq ?_
    refine Cd.region ?_
    refine Ls.ev (some 69) (Ev.move (show Oper.op _ = Op.move (Operand.tmp 4) from rfl) (by rfl)) (by rfl) (by rfl) ?_
    refine Ls.ev (some 70) (Ev.move (show Oper.op _ = Op.move (Operand.tmp 5) from rfl) (by rfl)) (by rfl) (by rfl) ?_
    refine Ls.ev (some 2) (Ev.assign (show Oper.op _ = Op.assign (Operand.tmp 69) from rfl) (by rfl)) (by rfl) (by rfl) ?_
    refine Ls.ev (some 3) (Ev.assign (show Oper.op _ = Op.assign (Operand.tmp 70) from rfl) (by rfl)) (by rfl) (by rfl) ?_
    refine Ls.nil ?_
    refine Cd.ret ?_
    refine Ent.ret ((A, zs, B)) (hzs) (Res.tmp2 (by rfl) (by rfl) (by rfl)) ?_ [0, 1, 2] (by rfl) ?_
    · rfl
    · rfl
end Go.Proofs.YtemcigoelcblbaaGreatDoor
/- the walk of ScriptParses -/
namespace Go.Proofs.YtemcigoelcblbaaGreatDoor
open Go.RowKit
abbrev famR (zs : List StS) : Chunk := stars (zs.flatMap fun z => [z.rC, z.rK])
theorem fam_see {Γ : Ctx} {H : List Chunk} {zs : List StS} {w : World} (h : Sat Γ (famX zs :: H) w) : Sat Γ (famR zs :: H) w := by
  have := h.see (i := 0) (C := famX zs) (C' := famR zs) rfl rfl (fun w hw C hC => by
    obtain ⟨z, hz, hC⟩ := List.mem_flatMap.1 hC
    rcases List.mem_cons.1 hC with rfl | hC
    · exact ⟨rfl, row_rd.1 w (hw.1 z.wC (List.mem_flatMap.2 ⟨z, hz, List.mem_cons_self⟩))⟩
    · obtain rfl := List.mem_singleton.1 hC
      exact ⟨rfl, row_rd.1 w (hw.1 z.wK (List.mem_flatMap.2 ⟨z, hz, List.mem_cons_of_mem _ List.mem_cons_self⟩))⟩) (fun k ⟨C, hC, hk⟩ => by
    obtain ⟨z, hz, hC⟩ := List.mem_flatMap.1 hC
    rcases List.mem_cons.1 hC with rfl | hC
    · exact ⟨z.wC, List.mem_flatMap.2 ⟨z, hz, List.mem_cons_self⟩, row_rd.2 k hk⟩
    · obtain rfl := List.mem_singleton.1 hC
      exact ⟨z.wK, List.mem_flatMap.2 ⟨z, hz, List.mem_cons_of_mem _ List.mem_cons_self⟩, row_rd.2 k hk⟩)
  simpa using this
theorem fam_get {Γ : Ctx} {H : List Chunk} {zs : List StS} {z : StS} {w : World} (i : Nat) (hi : H[i]? = some (famR zs)) (hz : z ∈ zs) (h : Sat Γ H w) : Sat Γ (z.rC :: z.rK :: H) w :=
  Sat.stars_get (i := i + 1) (by simpa using hi) (List.mem_flatMap.2 ⟨z, hz, List.mem_cons_self⟩) (Sat.stars_get hi (List.mem_flatMap.2 ⟨z, hz, List.mem_cons_of_mem _ List.mem_cons_self⟩) h)
theorem parse_lists {t : List UInt8} {p : StP × Int} (h : p ∈ parseP t) : p.1.lists ≤ 1024 := by
  obtain ⟨l, _, rfl⟩ := List.mem_map.1 h
  exact line_lists l
theorem par_len {t : List UInt8} {zs : List StS} (h : zs.map StS.p = (parseP t).map Prod.fst) : zs.length = ((parseP t).map Prod.snd).length := by
  have := congrArg List.length h
  rw [List.length_map, List.length_map] at this
  rw [this, List.length_map]
theorem par_at {t : List UInt8} {zs ys : List StS} (hz : zs.map StS.p = (parseP t).map Prod.fst) (hy : ys.map StS.p = (parseP t).map Prod.fst) {k : Nat} {z y : StS} (h1 : zs[k]? = some z) (h2 : ys[k]? = some y) : z.p = y.p ∧ z.p.lists ≤ 1024 := by
  have e1 : (zs.map StS.p)[k]? = some z.p := by rw [List.getElem?_map, h1]; rfl
  have e2 : (ys.map StS.p)[k]? = some y.p := by rw [List.getElem?_map, h2]; rfl
  have e3 : z.p = y.p := by
    rw [hz, ← hy, e2] at e1
    exact (Option.some.inj e1).symm
  refine ⟨e3, ?_⟩
  rw [hz] at e1
  obtain ⟨p, hp, he⟩ := List.mem_map.1 (List.mem_of_getElem? e1)
  rw [← he]
  exact parse_lists hp
set_option maxRecDepth 20000 in
set_option maxHeartbeats 2000000 in
theorem parses_sl (t : List UInt8) (ht : t.length ≤ 4611686018427387904) : Fn Tryz.prog 3 #[.string (txt t)] [laidC] Unit (fun _ => .bool true) (fun _ => []) (fun _ => True) := by
  refine Fn.enter Tryz.func3 rfl Tryz.ntmps3 (by rfl) ?_
  intro w0
  refine Cd.seq ?_
  refine Cd.region ?_
  refine Ls.ev (some 2) (Ev.assign (show Oper.op _ = Op.assign (Operand.const (Value.bool false)) from rfl) (by rfl)) (by rfl) (by rfl) ?_
  refine Ls.nil ?_
  refine Cd.seq ?_
  refine Cd.seq ?_
  refine Cd.region ?_
  refine Ls.does (some 8) (Does.read (show Oper.op _ = Op.call { callee := Callee.value (Operand.func 5), args := #[], argTypes := #[] } from rfl) Tryz.func5 (by kernel_rfl) (by kernel_rfl) (awake_sl) (by rfl) (by rfl) ⟨anyIn 0 (by rfl), trivial⟩) (by rfl) (by rfl) ?_
  rintro _ -
  refine Ls.ev (some 9) (Ev.not (show Oper.op _ = Op.unOp UnOp.not 4 (Operand.tmp 8) from rfl) (by rfl)) (by rfl) (by rfl) ?_
  refine Ls.nil ?_
  refine Cd.cond_false (by rfl) (rfl) ?_
  refine Cd.skip ?_
  refine Cd.seq ?_
  refine Cd.region ?_
  refine Ls.ev (some 10) (Ev.move (show Oper.op _ = Op.move (Operand.tmp 0) from rfl) (by rfl)) (by rfl) (by rfl) ?_
  refine Ls.does (some 11) (Does.read (show Oper.op _ = Op.call { callee := Callee.value (Operand.func 6), args := #[Operand.tmp 10], argTypes := #[9] } from rfl) Tryz.func6 (by kernel_rfl) (by kernel_rfl) (cut_sl t ht) (by rfl) (by rfl) trivial) (by rfl) (by rfl) ?_
  rintro _ -
  generalize hT : t.take 3000 = T
  have hTl : T.length ≤ 3000 := by rw [← hT, List.length_take]; omega
  refine Ls.ev (some 0) (Ev.assign (show Oper.op _ = Op.assign (Operand.tmp 11) from rfl) (by rfl)) (by rfl) (by rfl) ?_
  refine Ls.nil ?_
  refine Cd.seq ?_
  refine Cd.region ?_
  refine Ls.ev (some 13) (Ev.move (show Oper.op _ = Op.move (Operand.tmp 0) from rfl) (by rfl)) (by rfl) (by rfl) ?_
  refine Ls.does (some 14) (Does.call [0] (show Oper.op _ = Op.call { callee := Callee.value (Operand.func 7), args := #[Operand.tmp 13], argTypes := #[9] } from rfl) Tryz.func7 (by kernel_rfl) (by kernel_rfl) (parse_sl T (by omega)) (by rfl) (by rfl) (by rfl)) (by rfl) (by rfl) ?_
  rintro ⟨A, zs, B⟩ hz
  dsimp only at hz ⊢
  refine Ls.ev (some 12) (Ev.move (show Oper.op _ = Op.move (Operand.tmp 14) from rfl) (by rfl)) (by rfl) (by rfl) ?_
  refine Ls.ev (some 15) (Ev.extract (show Oper.op _ = Op.extract (Operand.tmp 12) 0 from rfl) (by rfl) (by rfl)) (by rfl) (by rfl) ?_
  refine Ls.ev (some 16) (Ev.extract (show Oper.op _ = Op.extract (Operand.tmp 12) 1 from rfl) (by rfl) (by rfl)) (by rfl) (by rfl) ?_
  refine Ls.ev (some 3) (Ev.assign (show Oper.op _ = Op.assign (Operand.tmp 15) from rfl) (by rfl)) (by rfl) (by rfl) ?_
  refine Ls.ev (some 4) (Ev.assign (show Oper.op _ = Op.assign (Operand.tmp 16) from rfl) (by rfl)) (by rfl) (by rfl) ?_
  refine Ls.nil ?_
  refine Cd.seq ?_
  refine Cd.region ?_
  refine Ls.ev (some 18) (Ev.move (show Oper.op _ = Op.move (Operand.tmp 0) from rfl) (by rfl)) (by rfl) (by rfl) ?_
  refine Ls.does (some 19) (Does.call [0, 1, 2] (show Oper.op _ = Op.call { callee := Callee.value (Operand.func 8), args := #[Operand.tmp 18], argTypes := #[9] } from rfl) Tryz.func8 (by kernel_rfl) (by kernel_rfl) (dparse_sl T (by omega)) (by rfl) (by rfl) (by rfl)) (by rfl) (by rfl) ?_
  rintro ⟨C, ys, D⟩ hy
  dsimp only at hy ⊢
  have hzl := par_len hz
  have hyl := par_len hy
  have hcb : ((parseP T).map Prod.snd).length ≤ 3001 := by
    have h1 := parse_le (splitP 10 T)
    have h2 := (splitP_len 10 T).1
    rw [List.length_map]
    unfold parseP
    omega
  have hco : ∀ k n, ((parseP T).map Prod.snd)[k]? = some n → (ints ((parseP T).map Prod.snd))[k * 1]? = some (.int .i64 n) := fun k n h => by unfold ints; rw [List.getElem?_map, Nat.mul_one, h]; rfl
  generalize (parseP T).map Prod.snd = cs at hzl hyl hco hcb
  refine Ent.see 0 (by rfl) ?_
  refine Ent.see 1 (by rfl) ?_
  refine Ent.see 3 (by rfl) ?_
  refine Ent.see 4 (by rfl) ?_
  refine Ent.pick [2, 0, 1, 3, 4, 5] (by rfl) ?_
  refine Ent.map (fun w hs => fam_see hs) ?_
  refine Ent.pick [5, 0, 1, 2, 3, 4] (by rfl) ?_
  refine Ent.map (fun w hs => fam_see hs) ?_
  refine Ent.pick [3, 4, 2, 5, 0, 1] (by rfl) ?_
  refine Ls.ev (some 17) (Ev.move (show Oper.op _ = Op.move (Operand.tmp 19) from rfl) (by rfl)) (by rfl) (by rfl) ?_
  refine Ls.ev (some 20) (Ev.extract (show Oper.op _ = Op.extract (Operand.tmp 17) 0 from rfl) (by rfl) (by rfl)) (by rfl) (by rfl) ?_
  refine Ls.ev (some 21) (Ev.extract (show Oper.op _ = Op.extract (Operand.tmp 17) 1 from rfl) (by rfl) (by rfl)) (by rfl) (by rfl) ?_
  refine Ls.ev (some 5) (Ev.assign (show Oper.op _ = Op.assign (Operand.tmp 20) from rfl) (by rfl)) (by rfl) (by rfl) ?_
  refine Ls.ev (some 6) (Ev.assign (show Oper.op _ = Op.assign (Operand.tmp 21) from rfl) (by rfl)) (by rfl) (by rfl) ?_
  refine Ls.nil ?_
  refine Cd.seq ?_
  refine Cd.seq ?_
  refine Cd.region ?_
  refine Ls.ev (some 22) (Ev.move (show Oper.op _ = Op.move (Operand.tmp 3) from rfl) (by rfl)) (by rfl) (by rfl) ?_
  refine Ls.ev (some 23) (Ev.len (show Oper.op _ = Op.call { callee := Callee.builtin Builtin.len, args := #[Operand.tmp 22], argTypes := #[24] } from rfl) (by rfl) Tryz.underlying24) (by rfl) (by rfl) ?_
  refine Ls.ev (some 24) (Ev.move (show Oper.op _ = Op.move (Operand.tmp 5) from rfl) (by rfl)) (by rfl) (by rfl) ?_
  refine Ls.ev (some 25) (Ev.len (show Oper.op _ = Op.call { callee := Callee.builtin Builtin.len, args := #[Operand.tmp 24], argTypes := #[28] } from rfl) (by rfl) Tryz.underlying28) (by rfl) (by rfl) ?_
  refine Ls.ev (some 26) (Ev.neq (show Oper.op _ = Op.binOp BinOp.neq 3 (Operand.tmp 23) (Operand.tmp 25) 3 from rfl) (by rfl) (by rfl)) (by rfl) (by rfl) ?_
  refine Ls.ev (some 27) (Ev.move (show Oper.op _ = Op.move (Operand.tmp 26) from rfl) (by rfl)) (by rfl) (by rfl) ?_
  refine Ent.known 27 false (by rfl) (by exact (decide_eq_false (show ¬ ((zs.length : Int) ≠ (ys.length : Int)) by omega))) ?_
  refine Ls.ev (some 28) (Ev.move (show Oper.op _ = Op.move (Operand.tmp 4) from rfl) (by rfl)) (by rfl) (by rfl) ?_
  refine Ls.ev (some 29) (Ev.len (show Oper.op _ = Op.call { callee := Callee.builtin Builtin.len, args := #[Operand.tmp 28], argTypes := #[25] } from rfl) (by rfl) Tryz.underlying25) (by rfl) (by rfl) ?_
  refine Ls.ev (some 30) (Ev.move (show Oper.op _ = Op.move (Operand.tmp 5) from rfl) (by rfl)) (by rfl) (by rfl) ?_
  refine Ls.ev (some 31) (Ev.len (show Oper.op _ = Op.call { callee := Callee.builtin Builtin.len, args := #[Operand.tmp 30], argTypes := #[28] } from rfl) (by rfl) Tryz.underlying28) (by rfl) (by rfl) ?_
  refine Ls.ev (some 32) (Ev.neq (show Oper.op _ = Op.binOp BinOp.neq 3 (Operand.tmp 29) (Operand.tmp 31) 3 from rfl) (by rfl) (by rfl)) (by rfl) (by rfl) ?_
  refine Ls.ev (some 33) (Ev.pickF (show Oper.op _ = Op.pick (Operand.tmp 27) (Operand.const (Value.bool true)) (Operand.tmp 32) from rfl) (by rfl) (by rfl)) (by rfl) (by rfl) ?_
  refine Ls.nil ?_
  skip
  refine Cd.cond_false (by rfl) (decide_eq_false (show ¬ ((cs.length : Int) ≠ (ys.length : Int)) by omega)) ?_
  refine Cd.skip ?_
  refine Cd.seq ?_
  refine Cd.seq ?_
  refine Cd.region ?_
  refine Ls.ev (some 34) (Ev.move (show Oper.op _ = Op.move (Operand.tmp 3) from rfl) (by rfl)) (by rfl) (by rfl) ?_
  refine Ls.ev (some 35) (Ev.len (show Oper.op _ = Op.call { callee := Callee.builtin Builtin.len, args := #[Operand.tmp 34], argTypes := #[24] } from rfl) (by rfl) Tryz.underlying24) (by rfl) (by rfl) ?_
  refine Ls.ev (some 36) (Ev.move (show Oper.op _ = Op.move (Operand.const (Value.int IntKind.i64 0)) from rfl) (by rfl)) (by rfl) (by rfl) ?_
  refine Ls.nil ?_
  refine Cd.block ?_
  refine Cd.loop (ι := Nat) (fun k => [(3, .slice A.1 zs.length A.2), (4, .slice B.1 cs.length B.2), (5, .slice C.1 ys.length C.2), (6, .slice D.1 cs.length D.2), (35, .int .i64 zs.length), (36, .int .i64 k)]) (fun _ => [rd D.1 cs.length 1 (ints cs), rd A.1 zs.length 12 (zs.flatMap StS.enc), rd C.1 ys.length 12 (ys.flatMap StS.enc), rd B.1 cs.length 1 (ints cs), famR zs, famR ys]) (fun k => k ≤ zs.length) (fun k => zs.length - k) (0) (Nat.zero_le _) ?_ rfl ?_
  · (repeat (first | exact trivial | refine ⟨by rfl, ?_⟩))
  rintro k hk
  refine Cd.seq ?_
  refine Cd.region ?_
  refine Ls.ev (some 37) (Ev.lss (show Oper.op _ = Op.binOp BinOp.lss 3 (Operand.tmp 36) (Operand.tmp 35) 3 from rfl) (by rfl) (by rfl)) (by rfl) (by rfl) ?_
  refine Ls.nil ?_
  refine Cd.seq ?_
  refine Cd.cond _ (by rfl) (fun h1 => ?_) (fun h1 => ?_)
  · skip
    have hlt : k < zs.length := by have := of_decide_eq_true h1; omega
    obtain ⟨z, hzk⟩ := get_of_lt hlt
    obtain ⟨y, hyk⟩ := get_of_lt (show k < ys.length by omega)
    obtain ⟨n, hnk⟩ := get_of_lt (show k < cs.length by omega)
    have hn := hco k n hnk
    obtain ⟨hpe, hpl⟩ := par_at hz hy hzk hyk
    change z.cells.length + z.keeps.length ≤ 1024 at hpl
    have hq1 : y.keeps.length = z.keeps.length := by show y.p.keeps.length = z.p.keeps.length; rw [hpe]
    have hq2 : y.cells.length = z.cells.length := by show y.p.cells.length = z.p.cells.length; rw [hpe]
    have hds := dsame_sl z y (by omega) (by omega)
    rw [decide_eq_true hpe] at hds
    refine Ent.rdSome 0 (by rfl) (by omega) (fun dd hdd => ?_)
    refine Ent.rdSome 1 (by rfl) (by omega) (fun da hda => ?_)
    refine Ent.rdSome 2 (by rfl) (by omega) (fun dc hdc => ?_)
    refine Ent.rdSome 3 (by rfl) (by omega) (fun db hdb => ?_)
    obtain ⟨A1, A2⟩ := A
    obtain ⟨B1, B2⟩ := B
    obtain ⟨C1, C2⟩ := C
    obtain ⟨D1, D2⟩ := D
    dsimp only at hdd hda hdc hdb
    subst hdd hda hdc hdb
    refine Cd.skip ?_
    refine Cd.seq ?_
    refine Cd.block ?_
    refine Cd.seq ?_
    refine Cd.region ?_
    refine Ls.ev (some 38) (Ev.move (show Oper.op _ = Op.move (Operand.tmp 36) from rfl) (by rfl)) (by rfl) (by rfl) ?_
    refine Ls.ev (some 7) (Ev.assign (show Oper.op _ = Op.assign (Operand.tmp 38) from rfl) (by rfl)) (by rfl) (by rfl) ?_
    refine Ls.nil ?_
    refine Cd.seq ?_
    refine Ent.map (fun w hs => fam_get 5 rfl (List.mem_of_getElem? hyk) hs) ?_
    refine Ent.map (fun w hs => fam_get 6 rfl (List.mem_of_getElem? hzk) hs) ?_
    refine Ent.pick [4, 5, 6, 7, 0, 1, 2, 3, 8, 9] (by rfl) ?_
    refine Cd.draw [] (by kernel_rfl) ?_
    refine Rg.ev 0 (by rfl) (fun _ h => h) (Ev.move (show Oper.op _ = Op.move (Operand.tmp 4) from rfl) (by rfl)) (by rfl) (some 39) (by rfl) (by kernel_rfl) (by kernel_rfl) (by kernel_rfl) (by kernel_rfl) ?_
    refine Rg.ev 1 (by rfl) (fun _ h => h) (Ev.move (show Oper.op _ = Op.move (Operand.tmp 7) from rfl) (by rfl)) (by rfl) (some 40) (by rfl) (by kernel_rfl) (by kernel_rfl) (by kernel_rfl) (by kernel_rfl) ?_
    refine Rg.ev 2 (by rfl) (fun _ h => h) (Ev.indexAt (sz := 1) (show Oper.op _ = Op.indexAddr 25 (Operand.tmp 39) (Operand.tmp 40) from rfl) (by rfl) (by rfl) Tryz.underlying25 (by kernel_rfl) (by omega)) (by rfl) (some 41) (by rfl) (by kernel_rfl) (by kernel_rfl) (by kernel_rfl) (by kernel_rfl) ?_
    refine Rg.ev 3 (by rfl) (fun _ h => h) (Ev.loadInt (show Oper.op _ = Op.load 32 (Operand.tmp 41) from rfl) (by rfl) (ReadsIn.rd 3 (by rfl)) (by kernel_rfl) (by assumption)) (by rfl) (some 42) (by rfl) (by kernel_rfl) (by kernel_rfl) (by kernel_rfl) (by kernel_rfl) ?_
    refine Rg.ev 4 (by rfl) (fun _ h => h) (Ev.move (show Oper.op _ = Op.move (Operand.tmp 6) from rfl) (by rfl)) (by rfl) (some 43) (by rfl) (by kernel_rfl) (by kernel_rfl) (by kernel_rfl) (by kernel_rfl) ?_
    refine Rg.ev 5 (by rfl) (fun _ h => h) (Ev.move (show Oper.op _ = Op.move (Operand.tmp 7) from rfl) (by rfl)) (by rfl) (some 44) (by rfl) (by kernel_rfl) (by kernel_rfl) (by kernel_rfl) (by kernel_rfl) ?_
    refine Rg.ev 6 (by rfl) (fun _ h => h) (Ev.indexAt (sz := 1) (show Oper.op _ = Op.indexAddr 29 (Operand.tmp 43) (Operand.tmp 44) from rfl) (by rfl) (by rfl) Tryz.underlying29 (by kernel_rfl) (by omega)) (by rfl) (some 45) (by rfl) (by kernel_rfl) (by kernel_rfl) (by kernel_rfl) (by kernel_rfl) ?_
    refine Rg.ev 7 (by rfl) (fun _ h => h) (Ev.loadInt (show Oper.op _ = Op.load 3 (Operand.tmp 45) from rfl) (by rfl) (ReadsIn.rd 0 (by rfl)) (by kernel_rfl) (by assumption)) (by rfl) (some 46) (by rfl) (by kernel_rfl) (by kernel_rfl) (by kernel_rfl) (by kernel_rfl) ?_
    refine Rg.ev 8 (by rfl) (fun _ h => h) (Ev.neq (show Oper.op _ = Op.binOp BinOp.neq 3 (Operand.tmp 42) (Operand.tmp 46) 3 from rfl) (by rfl) (by rfl)) (by rfl) (some 47) (by rfl) (by kernel_rfl) (by kernel_rfl) (by kernel_rfl) (by kernel_rfl) ?_
    refine Rg.ev 9 (by rfl) (fun _ h => h) (Ev.move (show Oper.op _ = Op.move (Operand.tmp 47) from rfl) (by rfl)) (by rfl) (some 48) (by rfl) (by kernel_rfl) (by kernel_rfl) (by kernel_rfl) (by kernel_rfl) ?_
    refine Ent.known 48 false (by rfl) (by exact (decide_eq_false (show ¬ (n ≠ n) from fun h => h rfl))) ?_
    refine Rg.ev 10 (by rfl) (fun _ h => h) (Ev.move (show Oper.op _ = Op.move (Operand.tmp 3) from rfl) (by rfl)) (by rfl) (some 49) (by rfl) (by kernel_rfl) (by kernel_rfl) (by kernel_rfl) (by kernel_rfl) ?_
    refine Rg.ev 11 (by rfl) (fun _ h => h) (Ev.move (show Oper.op _ = Op.move (Operand.tmp 7) from rfl) (by rfl)) (by rfl) (some 50) (by rfl) (by kernel_rfl) (by kernel_rfl) (by kernel_rfl) (by kernel_rfl) ?_
    refine Rg.ev 12 (by rfl) (fun _ h => h) (Ev.indexAt (sz := 12) (show Oper.op _ = Op.indexAddr 24 (Operand.tmp 49) (Operand.tmp 50) from rfl) (by rfl) (by rfl) Tryz.underlying24 (by kernel_rfl) (by omega)) (by rfl) (some 51) (by rfl) (by kernel_rfl) (by kernel_rfl) (by kernel_rfl) (by kernel_rfl) ?_
    refine Rg.ev 13 (by rfl) (fun _ h => h) (Ev.loadEl (show Oper.op _ = Op.load 47 (Operand.tmp 51) from rfl) (by rfl) (ReadsIn.rd 1 (by rfl)) (by kernel_rfl) (by intro _; rfl) (by assumption)) (by rfl) (some 52) (by rfl) (by kernel_rfl) (by kernel_rfl) (by kernel_rfl) (by kernel_rfl) ?_
    refine Rg.ev 15 (by rfl) (fun _ h => h) (Ev.move (show Oper.op _ = Op.move (Operand.tmp 5) from rfl) (by rfl)) (by rfl) (some 54) (by rfl) (by kernel_rfl) (by kernel_rfl) (by kernel_rfl) (by kernel_rfl) ?_
    refine Rg.ev 16 (by rfl) (fun _ h => h) (Ev.move (show Oper.op _ = Op.move (Operand.tmp 7) from rfl) (by rfl)) (by rfl) (some 55) (by rfl) (by kernel_rfl) (by kernel_rfl) (by kernel_rfl) (by kernel_rfl) ?_
    refine Rg.ev 17 (by rfl) (fun _ h => h) (Ev.indexAt (sz := 12) (show Oper.op _ = Op.indexAddr 28 (Operand.tmp 54) (Operand.tmp 55) from rfl) (by rfl) (by rfl) Tryz.underlying28 (by kernel_rfl) (by omega)) (by rfl) (some 56) (by rfl) (by kernel_rfl) (by kernel_rfl) (by kernel_rfl) (by kernel_rfl) ?_
    refine Rg.ev 18 (by rfl) (fun _ h => h) (Ev.loadEl (show Oper.op _ = Op.load 43 (Operand.tmp 56) from rfl) (by rfl) (ReadsIn.rd 2 (by rfl)) (by kernel_rfl) (by intro _; rfl) (by assumption)) (by rfl) (some 57) (by rfl) (by kernel_rfl) (by kernel_rfl) (by kernel_rfl) (by kernel_rfl) ?_
    refine Rg.does 14 (by rfl) (by kernel_rfl) (Does.read (show Oper.op _ = Op.call { callee := Callee.value (Operand.func 10), args := #[Operand.tmp 52], argTypes := #[47] } from rfl) Tryz.func10 (by kernel_rfl) (by kernel_rfl) (ref_sl z) (by rfl) (by rfl) trivial) (by rfl) (some 53) (by rfl) (by exact fun _ _ h => h) ?_
    rintro _ -
    skip
    refine Rg.does 19 (by rfl) (by kernel_rfl) (Does.read (show Oper.op _ = Op.call { callee := Callee.value (Operand.func 9), args := #[Operand.tmp 53, Operand.tmp 57], argTypes := #[43, 43] } from rfl) Tryz.func9 (by kernel_rfl) (by kernel_rfl) (hds) (by rfl) (by rfl) ⟨ReadsIn.rd 4 (by rfl), ReadsIn.rd 5 (by rfl), ReadsIn.rd 6 (by rfl), ReadsIn.rd 7 (by rfl), trivial⟩) (by rfl) (some 58) (by rfl) (by exact fun _ _ h => h) ?_
    rintro _ -
    refine Rg.ev 20 (by rfl) (fun _ h => h) (Ev.not (show Oper.op _ = Op.unOp UnOp.not 4 (Operand.tmp 58) from rfl) (by rfl)) (by rfl) (some 59) (by rfl) (by kernel_rfl) (by kernel_rfl) (by kernel_rfl) (by kernel_rfl) ?_
    refine Rg.ev 21 (by rfl) (fun _ h => h) (Ev.pickF (show Oper.op _ = Op.pick (Operand.tmp 48) (Operand.const (Value.bool true)) (Operand.tmp 59) from rfl) (by rfl) (by rfl)) (by rfl) (some 60) (by rfl) (by kernel_rfl) (by kernel_rfl) (by kernel_rfl) (by kernel_rfl) ?_
    refine Rg.done (by kernel_rfl) ?_ _
    refine Cd.cond_false (by rfl) (rfl) ?_
    refine Cd.skip ?_
    refine Cd.region ?_
    refine Ls.ev (some 61) (Ev.addI (show Oper.op _ = Op.binOp BinOp.add 3 (Operand.tmp 36) (Operand.const (Value.int IntKind.i64 1)) 3 from rfl) (by rfl) (by rfl) (by omega)) (by rfl) (by rfl) ?_
    refine Ls.ev (some 36) (Ev.move (show Oper.op _ = Op.move (Operand.tmp 61) from rfl) (by rfl)) (by rfl) (by rfl) ?_
    refine Ls.nil ?_
    refine Ent.pick [0, 1, 2, 3, 8, 9] (by rfl) ?_
    refine Ent.inv (k + 1) ?_ ?_ ?_
    · (try dsimp only); exact ⟨hlt, by omega⟩
    · (repeat (first | exact trivial | refine ⟨by rfl, ?_⟩ | refine ⟨by simp only [List.length_append, List.length_cons, List.length_nil]; rfl, ?_⟩ | refine ⟨by push_cast; rfl, ?_⟩))
    · rfl
  · skip
    refine Cd.exit ?_
    refine Cd.seq ?_
    refine Cd.region ?_
    refine Ls.ev (some 2) (Ev.assign (show Oper.op _ = Op.assign (Operand.const (Value.bool true)) from rfl) (by rfl)) (by rfl) (by rfl) ?_
    refine Ls.nil ?_
    refine Cd.ret ?_
    refine Ent.ret (()) (trivial) (Res.tmp (by rfl) (by rfl)) ?_ [] (by rfl) ?_
    · rfl
    · rfl
end Go.Proofs.YtemcigoelcblbaaGreatDoor
/- lists of its own -/
namespace Go.Proofs.YtemcigoelcblbaaGreatDoor
open Go.RowKit
set_option maxRecDepth 20000 in
theorem own_sl (z : StS) (hz : z.Ok) : Fn Tryz.prog 11 #[.agg z.enc.toArray] [z.rC, z.rK] StS (fun y => .agg y.enc.toArray) (fun y => [y.wC, y.wK]) (fun y => y.p = z.p) := by
  have hkl := hz.len .k
  have hcl := hz.len .r
  change z.keeps.length ≤ _ at hkl
  change z.cells.length ≤ _ at hcl
  obtain ⟨z1, z2, z3, z4, z5, z6, z7, z8, z9, z10, zC, zcc, zcl, zK, zkc, zkl⟩ := z
  dsimp only [StS.enc, StS.p, StS.rC, StS.rK] at hkl hcl ⊢
  refine Fn.enter Tryz.func11 rfl Tryz.ntmps11 (by rfl) ?_
  intro w0
  refine Cd.seq ?_
  refine Cd.region ?_
  refine Ls.does (some 1) (Does.box (show Oper.op _ = Op.box 47 (Operand.tmp 0) from rfl) (by rfl)) (by rfl) (by rfl) ?_
  intro g1 _
  refine Ls.does (some 2) (Does.alloc (cs := [.int .i64 0, .int .i64 0, .int .i64 0, .int .i64 0, .int .i64 0, .int .i64 0, .int .i64 0, .int .i64 0, .int .i64 0, .int .i64 0, .slice none 0 0, .slice none 0 0]) (show Oper.op _ = Op.alloc 47 from rfl) (ZeroIs.mk (.agg #[.int .i64 0, .int .i64 0, .int .i64 0, .int .i64 0, .int .i64 0, .int .i64 0, .int .i64 0, .int .i64 0, .int .i64 0, .int .i64 0, .slice none 0 0, .slice none 0 0]) (by kernel_rfl) (by rfl))) (by rfl) (by rfl) ?_
  intro g2 _
  refine Ls.nil ?_
  refine Cd.seq ?_
  refine Cd.region ?_
  refine Ls.does (some 3) (Does.lit0 (sz := 1) (show Oper.op _ = Op.buildSlice 29 0 #[] from rfl) Tryz.underlying29 (by kernel_rfl)) (by rfl) (by rfl) ?_
  intro g3 _
  refine Ls.ev (some 4) (Ev.fieldAddr (k := 4) (show Oper.op _ = Op.fieldAddr 47 (Operand.tmp 1) 4 from rfl) (by rfl) (by kernel_rfl) (by rfl)) (by rfl) (by rfl) ?_
  refine Ls.ev (some 5) (Ev.fieldAddr (k := 7) (show Oper.op _ = Op.fieldAddr 41 (Operand.tmp 4) 4 from rfl) (by rfl) (by kernel_rfl) (by rfl)) (by rfl) (by rfl) ?_
  refine Ls.ev (some 6) (Ev.load 2 (show Oper.op _ = Op.load 29 (Operand.tmp 5) from rfl) (by rfl) (by rfl) (by kernel_rfl) (by rfl)) (by rfl) (by rfl) ?_
  refine Ls.does (some 7) (Does.app0 (news := ints zkl) 0 (show Oper.op _ = Op.call { callee := Callee.builtin Builtin.append, args := #[Operand.tmp 3, Operand.tmp 6], argTypes := #[29, 29] } from rfl) (by rfl) (by rfl) (by rfl) (ReadsIn.rd 4 (by rfl)) elem_int (one_ints _) (by omega)) (by rfl) (by rfl) ?_
  rintro ⟨K, kc⟩ -
  refine Ls.ev (some 8) (Ev.fieldAddr (k := 4) (show Oper.op _ = Op.fieldAddr 47 (Operand.tmp 1) 4 from rfl) (by rfl) (by kernel_rfl) (by rfl)) (by rfl) (by rfl) ?_
  refine Ls.ev (some 9) (Ev.fieldAddr (k := 7) (show Oper.op _ = Op.fieldAddr 41 (Operand.tmp 8) 4 from rfl) (by rfl) (by kernel_rfl) (by rfl)) (by rfl) (by rfl) ?_
  refine Ls.does none (Does.store 2 (show Oper.op _ = Op.store 29 (Operand.tmp 9) (Operand.tmp 7) from rfl) (by rfl) (by rfl) (by rfl) (by kernel_rfl) (by rfl) (by kernel_rfl) (by rfl)) (by rfl) (by rfl) ?_
  intro _ _
  refine Ls.nil ?_
  refine Cd.seq ?_
  refine Cd.region ?_
  refine Ls.does (some 10) (Does.lit0 (sz := 1) (show Oper.op _ = Op.buildSlice 29 0 #[] from rfl) Tryz.underlying29 (by kernel_rfl)) (by rfl) (by rfl) ?_
  intro g4 _
  refine Ls.ev (some 11) (Ev.fieldAddr (k := 4) (show Oper.op _ = Op.fieldAddr 47 (Operand.tmp 1) 4 from rfl) (by rfl) (by kernel_rfl) (by rfl)) (by rfl) (by rfl) ?_
  refine Ls.ev (some 12) (Ev.fieldAddr (k := 3) (show Oper.op _ = Op.fieldAddr 41 (Operand.tmp 11) 3 from rfl) (by rfl) (by kernel_rfl) (by rfl)) (by rfl) (by rfl) ?_
  refine Ls.ev (some 13) (Ev.fieldAddr (k := 2) (show Oper.op _ = Op.fieldAddr 39 (Operand.tmp 12) 2 from rfl) (by rfl) (by kernel_rfl) (by rfl)) (by rfl) (by rfl) ?_
  refine Ls.ev (some 14) (Ev.fieldAddr (k := 1) (show Oper.op _ = Op.fieldAddr 37 (Operand.tmp 13) 1 from rfl) (by rfl) (by kernel_rfl) (by rfl)) (by rfl) (by rfl) ?_
  refine Ls.ev (some 15) (Ev.load 3 (show Oper.op _ = Op.load 29 (Operand.tmp 14) from rfl) (by rfl) (by rfl) (by kernel_rfl) (by rfl)) (by rfl) (by rfl) ?_
  refine Ls.does (some 16) (Does.app0 (news := ints zcl) 0 (show Oper.op _ = Op.call { callee := Callee.builtin Builtin.append, args := #[Operand.tmp 10, Operand.tmp 15], argTypes := #[29, 29] } from rfl) (by rfl) (by rfl) (by rfl) (ReadsIn.rd 4 (by rfl)) elem_int (one_ints _) (by omega)) (by rfl) (by rfl) ?_
  rintro ⟨C, cc⟩ -
  refine Ls.ev (some 17) (Ev.fieldAddr (k := 4) (show Oper.op _ = Op.fieldAddr 47 (Operand.tmp 1) 4 from rfl) (by rfl) (by kernel_rfl) (by rfl)) (by rfl) (by rfl) ?_
  refine Ls.ev (some 18) (Ev.fieldAddr (k := 3) (show Oper.op _ = Op.fieldAddr 41 (Operand.tmp 17) 3 from rfl) (by rfl) (by kernel_rfl) (by rfl)) (by rfl) (by rfl) ?_
  refine Ls.ev (some 19) (Ev.fieldAddr (k := 2) (show Oper.op _ = Op.fieldAddr 39 (Operand.tmp 18) 2 from rfl) (by rfl) (by kernel_rfl) (by rfl)) (by rfl) (by rfl) ?_
  refine Ls.ev (some 20) (Ev.fieldAddr (k := 1) (show Oper.op _ = Op.fieldAddr 37 (Operand.tmp 19) 1 from rfl) (by rfl) (by kernel_rfl) (by rfl)) (by rfl) (by rfl) ?_
  refine Ls.does none (Does.store 3 (show Oper.op _ = Op.store 29 (Operand.tmp 20) (Operand.tmp 16) from rfl) (by rfl) (by rfl) (by rfl) (by kernel_rfl) (by rfl) (by kernel_rfl) (by rfl)) (by rfl) (by rfl) ?_
  intro _ _
  refine Ls.nil ?_
  refine Cd.seq ?_
  refine Cd.region ?_
  refine Ls.ev (some 21) (Ev.loads 3 (show Oper.op _ = Op.load 47 (Operand.tmp 1) from rfl) (by rfl) (by rfl) (n := 12) (by kernel_rfl) (by rfl) (by rfl)) (by rfl) (by rfl) ?_
  refine Ls.does none (Does.store 2 (show Oper.op _ = Op.store 47 (Operand.tmp 2) (Operand.tmp 21) from rfl) (by rfl) (by rfl) (by rfl) (by kernel_rfl) (by rfl) (by kernel_rfl) (by rfl)) (by rfl) (by rfl) ?_
  intro _ _
  refine Ls.nil ?_
  refine Cd.ret ?_
  refine Ent.ret (⟨z1, z2, z3, z4, z5, z6, z7, z8, z9, z10, C, cc, zcl, K, kc, zkl⟩) (rfl) (Res.cell 2 (by rfl) (by rfl) (by rfl) (n := 12) (by kernel_rfl) (by rfl) (by rfl)) ?_ [0, 1] (by rfl) ?_
  · rfl
  · rfl
end Go.Proofs.YtemcigoelcblbaaGreatDoor
/-
  Arguments: lists of numbers and of texts, wherever they lie.
-/
namespace Go.Proofs.YtemcigoelcblbaaGreatDoor
open Go.RowKit
section
variable {P : Program} {w : World}
theorem wf_bd {x : Int} (h : (Lit.int .i64 x).wf = true) : -9223372036854775808 ≤ x ∧ x ≤ 9223372036854775807 := by
  have h1 : IntKind.i64.min = -9223372036854775808 := by decide
  have h2 : IntKind.i64.max = 9223372036854775807 := by decide
  simpa only [Lit.wf, h1, h2, Bool.and_eq_true, decide_eq_true_eq] using h
theorem cel_slice1 {α : Type} [Inhabited α] {f : α → Value} {Q : α → Prop} {n : Nat} {t e : TypeId} {cs : List Value} (ht : P.underlying t = some (.slice e)) (hm : P.cellsOf e = 1) (hcel : ∀ (n : Nat) (cs : List Value), Cel P w n e cs → ∃ a, cs = [f a] ∧ Q a) (h : Cel P w n t cs) :
    ∃ A c l, cs = [.slice A (List.length l) c] ∧ Reads w w.heap.size 1 A l.length (l.map f) ∧ (∀ a ∈ l, Q a) ∧ l.length ≤ c ∧ c * P.bytesOf e ≤ reachBytes := by
  rcases cel_slice ht h with rfl | ⟨a, len, cap, rfl, hl, hmx, hb, hc⟩
  · exact ⟨none, 0, [], rfl, Reads.none_, by simp, Nat.le_refl _, by simp⟩
  · rw [hm] at hc
    have hrow : ∀ i, i < len → ∃ x : α, w.cell? (a.add i) = some (f x) ∧ Q x := by
      intro i hi
      obtain ⟨k, cs, h1, h2, h3⟩ := hc i (by omega)
      obtain ⟨x, rfl, hx⟩ := hcel k cs h3
      have := h2 0 (by omega)
      rw [add_of_add] at this
      exact ⟨x, by simpa using this, hx⟩
    obtain ⟨xs, hxl, hx⟩ := choose_rows hrow
    subst hxl
    refine ⟨some a, cap, xs, rfl, ⟨by simp, fun hn => ⟨a, rfl, ?_, fun j u hu => ?_⟩⟩, fun y hy => ?_, hl, hb⟩
    · obtain ⟨x, _, h1, _⟩ := hx 0 hn
      have := World.block_lt_of_cell? w _ h1
      rwa [block_of_add] at this
    · rw [List.getElem?_map] at hu
      obtain ⟨y, hy, rfl⟩ := Option.map_eq_some_iff.1 hu
      obtain ⟨x, h1, h2, _⟩ := hx j (List.getElem?_eq_some_iff.1 hy).1
      rw [hy] at h1
      injection h1 with h1
      rw [h1, h2]
    · obtain ⟨i, hi⟩ := List.mem_iff_getElem?.1 hy
      obtain ⟨x, h1, _, h2⟩ := hx i (List.getElem?_eq_some_iff.1 hi).1
      rw [hi] at h1
      injection h1 with h1
      rw [h1]
      exact h2
theorem cel_ints {n : Nat} {t e : TypeId} {cs : List Value} (ht : P.underlying t = some (.slice e)) (he : P.underlying e = some (.int .i64)) (hm : P.cellsOf e = 1) (hb : P.bytesOf e = 8) (h : Cel P w n t cs) :
    ∃ A c xs, cs = [.slice A (List.length xs) c] ∧ Reads w w.heap.size 1 A xs.length (ints xs) ∧ (∀ x ∈ xs, -9223372036854775808 ≤ x ∧ x ≤ 9223372036854775807) ∧ xs.length ≤ 17592186044415 := by
  obtain ⟨A, c, l, rfl, hr, hq, hc, hbb⟩ := cel_slice1 (f := Value.int .i64) (Q := fun x => -9223372036854775808 ≤ x ∧ x ≤ 9223372036854775807) ht hm (fun n cs h => by
    obtain ⟨m, rfl, hw⟩ := cel_int he h
    exact ⟨m, rfl, wf_bd hw⟩) h
  rw [hb] at hbb
  unfold reachBytes at hbb
  exact ⟨A, c, l, rfl, hr, hq, by omega⟩
theorem cel_strs {n : Nat} {t e : TypeId} {cs : List Value} (ht : P.underlying t = some (.slice e)) (he : P.underlying e = some .string) (hm : P.cellsOf e = 1) (hb : P.bytesOf e = 16) (h : Cel P w n t cs) :
    ∃ A c xs, cs = [.slice A (List.length xs) c] ∧ Reads w w.heap.size 1 A xs.length (strs xs) ∧ (∀ x ∈ xs, ByteArray.size x ≤ reachBytes) ∧ xs.length ≤ 8796093022207 := by
  obtain ⟨A, c, l, rfl, hr, hq, hc, hbb⟩ := cel_slice1 (f := Value.string) (Q := fun x => ByteArray.size x ≤ reachBytes) ht hm (fun n cs h => by
    obtain ⟨m, rfl, _, hw⟩ := cel_string he h
    exact ⟨m, rfl, hw⟩) h
  rw [hb] at hbb
  unfold reachBytes at hbb
  exact ⟨A, c, l, rfl, hr, hq, by omega⟩
theorem seg_ {cs v : List Value} {off s off' : Nat} (h : (cs.drop off).take s = v) (ho : off + s = off') : cs.drop off = v ++ cs.drop off' := by
  rw [← h, ← ho, ← List.drop_drop, List.take_append_drop]
/-- A slice of structs that is handed in, as a list. -/
theorem val_list {α : Type} [Inhabited α] {f : α → List Value} {Q : World → α → Prop} {t e : TypeId} {m : Nat} {v : Value} (ht : P.underlying t = some (.slice e)) (hm : P.cellsOf e = m) (hm0 : 0 < m) (hf : ∀ a, (f a).length = m)
    (hcel : ∀ (n : Nat) (cs : List Value), Cel P w n e cs → ∃ a, cs = f a ∧ Q w a) (h : Val P w t v) :
    ∃ A c l, v = .slice A (List.length l) c ∧ Reads w w.heap.size m A l.length (l.flatMap f) ∧ (∀ a ∈ l, Q w a) ∧ l.length ≤ c ∧ c * P.bytesOf e ≤ reachBytes := by
  obtain ⟨A, n, c, l, rfl, hr, hq, hnc, _, hb⟩ := val_flat ht hm hm0 hf hcel h
  have e1 : flat f l = l.flatMap f := by
    clear hr hq
    induction l with
    | nil => rfl
    | cons a l ih => simp [flat, List.flatMap_cons] at ih ⊢
  have hl : l.length = n := by
    have := hr.1
    rw [e1, flatMap_len hf] at this
    exact Nat.eq_of_mul_eq_mul_right hm0 this
  subst hl
  exact ⟨A, c, l, rfl, e1 ▸ hr, hq, hnc, hb⟩
theorem val_cel {t e : TypeId} {v : Value} (ht : P.underlying t = some (.slice e)) (h : Val P w t v) : ∃ n, Cel P w n t [v] := by
  simp only [Val, ht] at h
  exact h.2
theorem val_celS {t : TypeId} {fs : Array Field} {v : Value} (ht : P.underlying t = some (.struct fs)) (h : Val P w t v) : ∃ (cs : Array Value) (n : Nat), v = .agg cs ∧ Cel P w n t cs.toList := by
  simp only [Val, ht] at h
  exact h
theorem val_ints {t e : TypeId} {v : Value} (ht : P.underlying t = some (.slice e)) (he : P.underlying e = some (.int .i64)) (hm : P.cellsOf e = 1) (hb : P.bytesOf e = 8) (h : Val P w t v) :
    ∃ A c xs, v = .slice A (List.length xs) c ∧ Reads w w.heap.size 1 A xs.length (ints xs) ∧ (∀ x ∈ xs, -9223372036854775808 ≤ x ∧ x ≤ 9223372036854775807) ∧ xs.length ≤ 17592186044415 := by
  obtain ⟨n, h⟩ := val_cel ht h
  obtain ⟨A, c, xs, e1, h1⟩ := cel_ints ht he hm hb h
  exact ⟨A, c, xs, by simpa using e1, h1⟩
end
end Go.Proofs.YtemcigoelcblbaaGreatDoor
/- a step that is handed in -/
namespace Go.Proofs.YtemcigoelcblbaaGreatDoor
open Go.RowKit
structure Rt where
  start : Int
  cellsA : Option Addr
  cellsC : Nat
  cells : List Int
  deriving Inhabited
def Rt.enc (x : Rt) : List Value := [.int .i64 x.start, .slice x.cellsA x.cells.length x.cellsC]
theorem rt_len (x : Rt) : x.enc.length = 2 := rfl
def Rt.ok (W : World) (x : Rt) : Prop := (-9223372036854775808 ≤ x.start ∧ x.start ≤ 9223372036854775807) ∧ (Reads W W.heap.size 1 x.cellsA x.cells.length (ints x.cells) ∧ (∀ y ∈ x.cells, -9223372036854775808 ≤ y ∧ y ≤ 9223372036854775807) ∧ x.cells.length ≤ 17592186044415)
theorem cel_rt {w : World} (n : Nat) (cs : List Value) (h : Cel Tryz.prog w n 37 cs) : ∃ x : Rt, cs = x.enc ∧ x.ok w := by
  obtain ⟨hl, m, hf⟩ := cel_fields (k := 2) (rows := [(3, 0, 1), (29, 1, 1)]) Tryz.underlying37 (by kernel_rfl) (by kernel_rfl) h
  simp only [List.forall_mem_cons] at hf
  obtain ⟨h0, h1, _⟩ := hf
  obtain ⟨f0, e0, w0⟩ := cel_int Tryz.underlying3 h0
  obtain ⟨a1, c1, f1, e1, w1⟩ := cel_ints Tryz.underlying29 Tryz.underlying3 (by kernel_rfl) (by kernel_rfl) h1
  have t0 := seg_ (off' := 1) e0 rfl
  have t1 := seg_ (off' := 2) e1 rfl
  rw [List.drop_zero] at t0
  refine ⟨⟨f0, a1, c1, f1⟩, ?_, wf_bd w0, w1⟩
  rw [t0, t1, List.drop_of_length_le (by omega)]
  first | rfl | simp [Rt.enc]
structure Cl where
  verb : Int
  epoch : Int
  route : Rt
  deriving Inhabited
def Cl.enc (x : Cl) : List Value := [.int .i64 x.verb] ++ [.int .i64 x.epoch] ++ x.route.enc
theorem cl_len (x : Cl) : x.enc.length = 4 := rfl
def Cl.ok (W : World) (x : Cl) : Prop := (-9223372036854775808 ≤ x.verb ∧ x.verb ≤ 9223372036854775807) ∧ (-9223372036854775808 ≤ x.epoch ∧ x.epoch ≤ 9223372036854775807) ∧ x.route.ok W
theorem cel_cl {w : World} (n : Nat) (cs : List Value) (h : Cel Tryz.prog w n 39 cs) : ∃ x : Cl, cs = x.enc ∧ x.ok w := by
  obtain ⟨hl, m, hf⟩ := cel_fields (k := 4) (rows := [(35, 0, 1), (3, 1, 1), (37, 2, 2)]) Tryz.underlying39 (by kernel_rfl) (by kernel_rfl) h
  simp only [List.forall_mem_cons] at hf
  obtain ⟨h0, h1, h2, _⟩ := hf
  obtain ⟨f0, e0, w0⟩ := cel_int Tryz.underlying35 h0
  obtain ⟨f1, e1, w1⟩ := cel_int Tryz.underlying3 h1
  obtain ⟨f2, e2, w2⟩ := cel_rt _ _ h2
  have t0 := seg_ (off' := 1) e0 rfl
  have t1 := seg_ (off' := 2) e1 rfl
  have t2 := seg_ (off' := 4) e2 rfl
  rw [List.drop_zero] at t0
  refine ⟨⟨f0, f1, f2⟩, ?_, wf_bd w0, wf_bd w1, w2⟩
  rw [t0, t1, t2, List.drop_of_length_le (by omega)]
  first | rfl | simp [Cl.enc]
structure In where
  kind : Int
  a : Int
  b : Int
  call : Cl
  keepsA : Option Addr
  keepsC : Nat
  keeps : List Int
  deriving Inhabited
def In.enc (x : In) : List Value := [.int .i64 x.kind] ++ [.int .i64 x.a] ++ [.int .i64 x.b] ++ x.call.enc ++ [.slice x.keepsA x.keeps.length x.keepsC]
theorem in_len (x : In) : x.enc.length = 8 := rfl
def In.ok (W : World) (x : In) : Prop := (-9223372036854775808 ≤ x.kind ∧ x.kind ≤ 9223372036854775807) ∧ (-9223372036854775808 ≤ x.a ∧ x.a ≤ 9223372036854775807) ∧ (-9223372036854775808 ≤ x.b ∧ x.b ≤ 9223372036854775807) ∧ x.call.ok W ∧ (Reads W W.heap.size 1 x.keepsA x.keeps.length (ints x.keeps) ∧ (∀ y ∈ x.keeps, -9223372036854775808 ≤ y ∧ y ≤ 9223372036854775807) ∧ x.keeps.length ≤ 17592186044415)
theorem cel_in {w : World} (n : Nat) (cs : List Value) (h : Cel Tryz.prog w n 41 cs) : ∃ x : In, cs = x.enc ∧ x.ok w := by
  obtain ⟨hl, m, hf⟩ := cel_fields (k := 8) (rows := [(34, 0, 1), (3, 1, 1), (3, 2, 1), (39, 3, 4), (29, 7, 1)]) Tryz.underlying41 (by kernel_rfl) (by kernel_rfl) h
  simp only [List.forall_mem_cons] at hf
  obtain ⟨h0, h1, h2, h3, h4, _⟩ := hf
  obtain ⟨f0, e0, w0⟩ := cel_int Tryz.underlying34 h0
  obtain ⟨f1, e1, w1⟩ := cel_int Tryz.underlying3 h1
  obtain ⟨f2, e2, w2⟩ := cel_int Tryz.underlying3 h2
  obtain ⟨f3, e3, w3⟩ := cel_cl _ _ h3
  obtain ⟨a4, c4, f4, e4, w4⟩ := cel_ints Tryz.underlying29 Tryz.underlying3 (by kernel_rfl) (by kernel_rfl) h4
  have t0 := seg_ (off' := 1) e0 rfl
  have t1 := seg_ (off' := 2) e1 rfl
  have t2 := seg_ (off' := 3) e2 rfl
  have t3 := seg_ (off' := 7) e3 rfl
  have t4 := seg_ (off' := 8) e4 rfl
  rw [List.drop_zero] at t0
  refine ⟨⟨f0, f1, f2, f3, a4, c4, f4⟩, ?_, wf_bd w0, wf_bd w1, wf_bd w2, w3, w4⟩
  rw [t0, t1, t2, t3, t4, List.drop_of_length_le (by omega)]
  first | rfl | simp [In.enc]
structure Stp where
  kind : Int
  a : Int
  b : Int
  c : Int
  inn : In
  deriving Inhabited
def Stp.enc (x : Stp) : List Value := [.int .i64 x.kind] ++ [.int .i64 x.a] ++ [.int .i64 x.b] ++ [.int .i64 x.c] ++ x.inn.enc
theorem stp_len (x : Stp) : x.enc.length = 12 := rfl
def Stp.ok (W : World) (x : Stp) : Prop := (-9223372036854775808 ≤ x.kind ∧ x.kind ≤ 9223372036854775807) ∧ (-9223372036854775808 ≤ x.a ∧ x.a ≤ 9223372036854775807) ∧ (-9223372036854775808 ≤ x.b ∧ x.b ≤ 9223372036854775807) ∧ (-9223372036854775808 ≤ x.c ∧ x.c ≤ 9223372036854775807) ∧ x.inn.ok W
theorem cel_stp {w : World} (n : Nat) (cs : List Value) (h : Cel Tryz.prog w n 47 cs) : ∃ x : Stp, cs = x.enc ∧ x.ok w := by
  obtain ⟨hl, m, hf⟩ := cel_fields (k := 12) (rows := [(45, 0, 1), (3, 1, 1), (3, 2, 1), (3, 3, 1), (41, 4, 8)]) Tryz.underlying47 (by kernel_rfl) (by kernel_rfl) h
  simp only [List.forall_mem_cons] at hf
  obtain ⟨h0, h1, h2, h3, h4, _⟩ := hf
  obtain ⟨f0, e0, w0⟩ := cel_int Tryz.underlying45 h0
  obtain ⟨f1, e1, w1⟩ := cel_int Tryz.underlying3 h1
  obtain ⟨f2, e2, w2⟩ := cel_int Tryz.underlying3 h2
  obtain ⟨f3, e3, w3⟩ := cel_int Tryz.underlying3 h3
  obtain ⟨f4, e4, w4⟩ := cel_in _ _ h4
  have t0 := seg_ (off' := 1) e0 rfl
  have t1 := seg_ (off' := 2) e1 rfl
  have t2 := seg_ (off' := 3) e2 rfl
  have t3 := seg_ (off' := 4) e3 rfl
  have t4 := seg_ (off' := 12) e4 rfl
  rw [List.drop_zero] at t0
  refine ⟨⟨f0, f1, f2, f3, f4⟩, ?_, wf_bd w0, wf_bd w1, wf_bd w2, wf_bd w3, w4⟩
  rw [t0, t1, t2, t3, t4, List.drop_of_length_le (by omega)]
  first | rfl | simp [Stp.enc]
/-- What the step reads of the arguments. -/
structure StS.At (W : World) (z : StS) : Prop where
  rC : Reads W W.heap.size 1 z.C z.cells.length (ints z.cells)
  rK : Reads W W.heap.size 1 z.K z.keeps.length (ints z.keeps)
set_option maxRecDepth 20000 in
theorem step_arg {W : World} {v : Value} (h : Val Tryz.prog W 47 v) (hs : ∀ n, Sml Tryz.prog W 1048576 n 47 v.cells.toList) : ∃ z : StS, v = .agg z.enc.toArray ∧ z.Ok ∧ z.At W := by
  obtain ⟨cs, n, rfl, hc⟩ := val_celS Tryz.underlying47 h
  obtain ⟨⟨k, a, b, c, ⟨ik, x, y, ⟨vb, ep, ⟨st, C, cc, cl⟩⟩, K, kc, kl⟩⟩, e, ⟨_, ha, hb, hcc, _, hx, hy, ⟨_, hep, hst, hC, hCi, _⟩, hK, hKi, _⟩⟩ := cel_stp _ _ hc
  have h4 := (((((hs 5).field (off := 4) (m := 8) Tryz.underlying47 (u := 41) (by kernel_rfl) (by kernel_rfl))).field (off := 7) (m := 1) Tryz.underlying41 (u := 29) (by kernel_rfl) (by kernel_rfl)))
  have h5 := ((((((hs 5).field (off := 4) (m := 8) Tryz.underlying47 (u := 41) (by kernel_rfl) (by kernel_rfl))).field (off := 3) (m := 4) Tryz.underlying41 (u := 39) (by kernel_rfl) (by kernel_rfl))).field (off := 2) (m := 2) Tryz.underlying39 (u := 37) (by kernel_rfl) (by kernel_rfl)).field (off := 1) (m := 1) Tryz.underlying37 (u := 29) (by kernel_rfl) (by kernel_rfl)
  rw [show (Value.agg cs).cells.toList = cs.toList from rfl, e] at h4 h5
  have k4 := Sml.slice (A := K) (l := kl.length) (c := kc) h4 Tryz.underlying29
  have k5 := Sml.slice (A := C) (l := cl.length) (c := cc) h5 Tryz.underlying29
  have e1 : cs = (StS.enc ⟨k, a, b, c, ik, x, y, vb, ep, st, C, cc, cl, K, kc, kl⟩).toArray := Array.ext' e
  refine ⟨⟨k, a, b, c, ik, x, y, vb, ep, st, C, cc, cl, K, kc, kl⟩, by rw [e1], ⟨fun κ => ?_, fun κ => ?_, fun κ => ?_⟩, hC, hK⟩
  · cases κ
    · exact ha
    · exact hb
    · exact hcc
    · exact hx
    · exact hy
    · exact hep
    · exact hst
    · exact show in64 0 by decide
    · exact show in64 0 by decide
  · cases κ <;> first | exact Nat.zero_le _ | exact k5.1 | exact k4.1
  · cases κ <;> first | (intro n hn; cases hn; done) | exact hCi | exact hKi
end Go.Proofs.YtemcigoelcblbaaGreatDoor
/- the walk of ScriptOwn -/
namespace Go.Proofs.YtemcigoelcblbaaGreatDoor
open Go.RowKit
theorem fam_cut {a b : List StS} {z : StS} : (((a ++ z :: b).flatMap fun z => [z.wC, z.wK])).Perm (z.wC :: z.wK :: ((a ++ b).flatMap fun z => [z.wC, z.wK])) := by
  rw [List.flatMap_append, List.flatMap_cons, List.flatMap_append]
  exact (List.perm_append_comm_assoc _ [z.wC, z.wK] _)
theorem fam_open {Γ : Ctx} {H : List Chunk} {a b : List StS} {z : StS} {w : World} (h : Sat Γ (famX (a ++ z :: b) :: H) w) : Sat Γ (z.wC :: z.wK :: famX (a ++ b) :: H) w := by
  have h1 := (Sat.starx_open h).perm (List.Perm.append_right H fam_cut)
  have h2 : Sat Γ (((a ++ b).flatMap fun z => [z.wC, z.wK]) ++ (z.wC :: z.wK :: H)) w := h1.perm (by
    show (z.wC :: z.wK :: (((a ++ b).flatMap fun z => [z.wC, z.wK]) ++ H)).Perm _
    exact (List.perm_append_comm_assoc [z.wC, z.wK] _ H))
  have h3 := Sat.starx_close (fun C hC => by
    obtain ⟨y, _, hC⟩ := List.mem_flatMap.1 hC
    rcases List.mem_cons.1 hC with rfl | hC
    · rfl
    · rw [List.mem_singleton.1 hC]
      rfl) h2
  exact h3.perm (by
    show (famX (a ++ b) :: ([z.wC, z.wK] ++ H)).Perm ([z.wC, z.wK] ++ (famX (a ++ b) :: H))
    exact (List.perm_append_comm_assoc [famX (a ++ b)] [z.wC, z.wK] H))
theorem fam_shut {Γ : Ctx} {H : List Chunk} {a b : List StS} {z : StS} {w : World} (h : Sat Γ (z.wC :: z.wK :: famX (a ++ b) :: H) w) : Sat Γ (famX (a ++ z :: b) :: H) w := by
  have h1 : Sat Γ (famX (a ++ b) :: (z.wC :: z.wK :: H)) w := h.perm (by
    show ([z.wC, z.wK] ++ (famX (a ++ b) :: H)).Perm (famX (a ++ b) :: ([z.wC, z.wK] ++ H))
    exact (List.perm_append_comm_assoc [z.wC, z.wK] [famX (a ++ b)] H))
  have h2 := Sat.starx_open h1
  have h3 : Sat Γ (((a ++ z :: b).flatMap fun z => [z.wC, z.wK]) ++ H) w := h2.perm (by
    refine List.Perm.trans ?_ (List.Perm.append_right H (fam_cut (a := a) (b := b) (z := z)).symm)
    show (((a ++ b).flatMap fun z => [z.wC, z.wK]) ++ ([z.wC, z.wK] ++ H)).Perm ([z.wC, z.wK] ++ (((a ++ b).flatMap fun z => [z.wC, z.wK]) ++ H))
    exact List.perm_append_comm_assoc _ _ _)
  exact Sat.starx_close (fun C hC => by
    obtain ⟨y, _, hC⟩ := List.mem_flatMap.1 hC
    rcases List.mem_cons.1 hC with rfl | hC
    · rfl
    · rw [List.mem_singleton.1 hC]
      rfl) h3
theorem enc_eq {z y : StS} (h : y.enc = z.enc) : ∃ cl kl : List Int, y = ⟨z.kind, z.a, z.b, z.c, z.ik, z.x, z.y, z.verb, z.ep, z.st, z.C, z.cc, cl, z.K, z.kc, kl⟩ ∧ cl.length = z.cells.length ∧ kl.length = z.keeps.length := by
  obtain ⟨y1, y2, y3, y4, y5, y6, y7, y8, y9, y10, yC, ycc, ycl, yK, ykc, ykl⟩ := y
  unfold StS.enc at h
  simp only [List.cons.injEq, Value.int.injEq, Value.slice.injEq, true_and, and_true] at h
  obtain ⟨rfl, rfl, rfl, rfl, rfl, rfl, rfl, rfl, rfl, rfl, ⟨rfl, h1, rfl⟩, rfl, h2, rfl⟩ := h
  exact ⟨ycl, ykl, rfl, h1, h2⟩
theorem encs_at {zs ys : List StS} (h : ys.map StS.enc = zs.map StS.enc) {k : Nat} {z : StS} (hz : zs[k]? = some z) : ∃ a b y, ys = a ++ y :: b ∧ a.length = k ∧ y.enc = z.enc ∧ ∀ y' : StS, y'.enc = z.enc → (a ++ y' :: b).map StS.enc = zs.map StS.enc := by
  have hl : k < ys.length := by
    have h1 := congrArg List.length h
    rw [List.length_map, List.length_map] at h1
    have := (List.getElem?_eq_some_iff.1 hz).1
    omega
  have hy : ys[k]? = some ys[k] := List.getElem?_eq_getElem hl
  have he : ys[k].enc = z.enc := by
    have h1 : (ys.map StS.enc)[k]? = some ys[k].enc := by rw [List.getElem?_map, hy]; rfl
    rw [h, List.getElem?_map, hz] at h1
    exact (Option.some.inj h1).symm
  have hs : ys = ys.take k ++ ys[k] :: ys.drop (k + 1) := by rw [← List.drop_eq_getElem_cons hl, List.take_append_drop]
  refine ⟨ys.take k, ys.drop (k + 1), ys[k], hs, by rw [List.length_take]; omega, he, fun y' hy' => ?_⟩
  rw [← h]
  conv => rhs; rw [hs]
  rw [List.map_append, List.map_append, List.map_cons, List.map_cons, hy', he]
theorem ints_set (l : List Int) (k : Nat) (n : Int) : (ints l).set k (.int .i64 n) = ints (l.set k n) := by
  unfold ints
  rw [List.map_set]
theorem ok_of {z y : StS} (h : y.p = z.p) (hz : z.Ok) : y.Ok := ⟨fun κ => by rw [h]; exact hz.num κ, fun κ => by rw [h]; exact hz.len κ, fun κ n hn => hz.lst κ n (by rw [← h]; exact hn)⟩
theorem rd_front {w : World} {B : Nat} {A : Option Addr} {l : List Int} {m : Int} (h : Reads w B 1 A (l.length + 1) (ints l ++ [.int .i64 m])) : Reads w B 1 A l.length (ints l) := by
  have := h.take (k := l.length) (by omega)
  rw [Nat.mul_one] at this
  rwa [List.take_left' (by simp [ints])] at this
theorem frontIn {Γ : Ctx} {H : List Chunk} {x : StS} {R : Option Addr} {l : List Int} {m : Int} (hK : x.K = R) (hl : x.keeps = l) (i : Nat) (hi : H[i]? = some (rd R (l.length + 1) 1 (ints l ++ [.int .i64 m]))) : ∀ w, Sat Γ H w → x.rK.holds w := fun w hs => by
  subst hK hl
  exact rd_front (hs.mem hi)
set_option maxRecDepth 20000 in
set_option maxHeartbeats 2000000 in
theorem own24_sl (W : World) (z : StS) (hz : z.Ok) (ha : z.At W) (t : List UInt8) (ht : t.length ≤ 4611686018427387904) : Fn Tryz.prog 4 #[.agg z.enc.toArray, .string (txt t)] [argc W, laidC] Unit (fun _ => .bool true) (fun _ => []) (fun _ => True) := by
  have hkl := hz.len .k
  have hcl := hz.len .r
  change z.keeps.length ≤ _ at hkl
  change z.cells.length ≤ _ at hcl
  refine Fn.enter Tryz.func4 rfl Tryz.ntmps4 (by rfl) ?_
  intro w0
  refine Ent.arg 0 (by rfl) ha.rC ?_
  refine Ent.arg 1 (by rfl) ha.rK ?_
  refine Cd.seq ?_
  refine Cd.region ?_
  refine Ls.does (some 2) (Does.box (show Oper.op _ = Op.box 47 (Operand.tmp 0) from rfl) (by rfl)) (by rfl) (by rfl) ?_
  intro g1 _
  refine Ls.ev (some 4) (Ev.assign (show Oper.op _ = Op.assign (Operand.const (Value.bool false)) from rfl) (by rfl)) (by rfl) (by rfl) ?_
  refine Ls.nil ?_
  refine Cd.seq ?_
  refine Cd.seq ?_
  refine Cd.region ?_
  refine Ls.does (some 17) (Does.read (show Oper.op _ = Op.call { callee := Callee.value (Operand.func 5), args := #[], argTypes := #[] } from rfl) Tryz.func5 (by kernel_rfl) (by kernel_rfl) (awake_sl) (by rfl) (by rfl) ⟨anyIn 4 (by rfl), trivial⟩) (by rfl) (by rfl) ?_
  rintro _ -
  refine Ls.ev (some 18) (Ev.not (show Oper.op _ = Op.unOp UnOp.not 4 (Operand.tmp 17) from rfl) (by rfl)) (by rfl) (by rfl) ?_
  refine Ls.nil ?_
  refine Cd.cond_false (by rfl) (rfl) ?_
  refine Cd.skip ?_
  refine Cd.seq ?_
  refine Cd.region ?_
  refine Ls.does (some 19) (Does.lit0 (sz := 1) (show Oper.op _ = Op.buildSlice 29 0 #[] from rfl) Tryz.underlying29 (by kernel_rfl)) (by rfl) (by rfl) ?_
  intro g2 _
  refine Ls.ev (some 20) (Ev.fieldAddr (k := 4) (show Oper.op _ = Op.fieldAddr 47 (Operand.tmp 2) 4 from rfl) (by rfl) (by kernel_rfl) (by rfl)) (by rfl) (by rfl) ?_
  refine Ls.ev (some 21) (Ev.fieldAddr (k := 7) (show Oper.op _ = Op.fieldAddr 41 (Operand.tmp 20) 4 from rfl) (by rfl) (by kernel_rfl) (by rfl)) (by rfl) (by rfl) ?_
  refine Ls.ev (some 22) (Ev.load 1 (show Oper.op _ = Op.load 29 (Operand.tmp 21) from rfl) (by rfl) (by rfl) (by kernel_rfl) (by rfl)) (by rfl) (by rfl) ?_
  refine Ls.does (some 23) (Does.app0 (news := ints z.keeps) 0 (show Oper.op _ = Op.call { callee := Callee.builtin Builtin.append, args := #[Operand.tmp 19, Operand.tmp 22], argTypes := #[29, 29] } from rfl) (by rfl) (by rfl) (by rfl) (ReadsIn.rd 2 (by rfl)) elem_int (one_ints _) (by omega)) (by rfl) (by rfl) ?_
  rintro q -
  refine Ls.does (some 24) (Does.lit (sz := 1) (show Oper.op _ = Op.buildSlice 29 1 #[(0, Operand.const (Value.int IntKind.i64 7))] from rfl) (by rfl) Tryz.underlying29 (by kernel_rfl) (by rfl) (by kernel_rfl)) (by rfl) (by rfl) ?_
  intro g3 _
  refine Ls.does (some 25) (Does.app (xs := ints z.keeps) (news := [.int .i64 7]) 1 (show Oper.op _ = Op.call { callee := Callee.builtin Builtin.append, args := #[Operand.tmp 23, Operand.tmp 24], argTypes := #[29, 29] } from rfl) (by rfl) (by rfl) (by rfl) (ReadsIn.row 0 (by rfl)) elem_int (fun u hu => by rw [List.mem_singleton.1 hu]; rfl) (by omega)) (by rfl) (by rfl) ?_
  rintro ⟨R, rc⟩ -
  refine Ls.ev (some 5) (Ev.assign (show Oper.op _ = Op.assign (Operand.tmp 25) from rfl) (by rfl)) (by rfl) (by rfl) ?_
  refine Ls.nil ?_
  refine Cd.seq ?_
  refine Cd.region ?_
  refine Ls.ev (some 26) (Ev.loads 2 (show Oper.op _ = Op.load 47 (Operand.tmp 2) from rfl) (by rfl) (by rfl) (n := 12) (by kernel_rfl) (by rfl) (by rfl)) (by rfl) (by rfl) ?_
  refine Ls.does (some 27) (Does.call [4, 3, 1, 2, 3, 4, 5, 6] (show Oper.op _ = Op.call { callee := Callee.value (Operand.func 11), args := #[Operand.tmp 26], argTypes := #[47] } from rfl) Tryz.func11 (by kernel_rfl) (by kernel_rfl) (own_sl z hz) (by rfl) (by rfl) (by rfl)) (by rfl) (by rfl) ?_
  rintro y hy
  refine Ls.does (some 6) (Does.alloc (cs := [.int .i64 0, .int .i64 0, .int .i64 0, .int .i64 0, .int .i64 0, .int .i64 0, .int .i64 0, .int .i64 0, .int .i64 0, .int .i64 0, .slice none 0 0, .slice none 0 0]) (show Oper.op _ = Op.alloc 47 from rfl) (ZeroIs.mk (.agg #[.int .i64 0, .int .i64 0, .int .i64 0, .int .i64 0, .int .i64 0, .int .i64 0, .int .i64 0, .int .i64 0, .int .i64 0, .int .i64 0, .slice none 0 0, .slice none 0 0]) (by kernel_rfl) (by rfl))) (by rfl) (by rfl) ?_
  intro g4 _
  refine Ls.does none (Does.store 0 (show Oper.op _ = Op.store 47 (Operand.tmp 6) (Operand.tmp 27) from rfl) (by rfl) (by rfl) (by rfl) (by kernel_rfl) (by rfl) (by kernel_rfl) (by rfl)) (by rfl) (by rfl) ?_
  intro _ _
  refine Ls.nil ?_
  refine Cd.seq ?_
  refine Ent.fact 3 (by rfl) (p := z.keeps.length + 1 ≤ rc) (fun w hw => Own.le hw) (fun hrc => ?_)
  refine Ent.see 1 (by rfl) ?_
  refine Cd.region ?_
  refine Ls.ev (some 28) (Ev.move (show Oper.op _ = Op.move (Operand.tmp 5) from rfl) (by rfl)) (by rfl) (by rfl) ?_
  refine Ls.ev (some 29) (Ev.fieldAddr (k := 4) (show Oper.op _ = Op.fieldAddr 47 (Operand.tmp 2) 4 from rfl) (by rfl) (by kernel_rfl) (by rfl)) (by rfl) (by rfl) ?_
  refine Ls.ev (some 30) (Ev.fieldAddr (k := 7) (show Oper.op _ = Op.fieldAddr 41 (Operand.tmp 29) 4 from rfl) (by rfl) (by kernel_rfl) (by rfl)) (by rfl) (by rfl) ?_
  refine Ls.ev (some 31) (Ev.load 4 (show Oper.op _ = Op.load 29 (Operand.tmp 30) from rfl) (by rfl) (by rfl) (by kernel_rfl) (by rfl)) (by rfl) (by rfl) ?_
  refine Ls.ev (some 32) (Ev.len (show Oper.op _ = Op.call { callee := Callee.builtin Builtin.len, args := #[Operand.tmp 31], argTypes := #[29] } from rfl) (by rfl) Tryz.underlying29) (by rfl) (by rfl) ?_
  refine Ls.ev (some 33) (Ev.sliceHn (sz := 1) (show Oper.op _ = Op.slice 29 (Operand.tmp 28) none (some (Operand.tmp 32)) none from rfl) (by rfl) (by rfl) Tryz.underlying29 (by kernel_rfl) (show z.keeps.length ≤ rc by omega)) (by rfl) (by rfl) ?_
  refine Ls.ev (some 34) (Ev.fieldAddr (k := 4) (show Oper.op _ = Op.fieldAddr 47 (Operand.tmp 6) 4 from rfl) (by rfl) (by kernel_rfl) (by rfl)) (by rfl) (by rfl) ?_
  refine Ls.ev (some 35) (Ev.fieldAddr (k := 7) (show Oper.op _ = Op.fieldAddr 41 (Operand.tmp 34) 4 from rfl) (by rfl) (by kernel_rfl) (by rfl)) (by rfl) (by rfl) ?_
  refine Ls.does none (Does.store 0 (show Oper.op _ = Op.store 29 (Operand.tmp 35) (Operand.tmp 33) from rfl) (by rfl) (by rfl) (by rfl) (by kernel_rfl) (by rfl) (by kernel_rfl) (by rfl)) (by rfl) (by rfl) ?_
  intro _ _
  refine Ls.nil ?_
  refine Cd.seq ?_
  refine Ent.pick [0, 1, 3, 4, 5, 6, 8] (by rfl) ?_
  have hyp : (⟨y.kind, y.a, y.b, y.c, y.ik, y.x, y.y, y.verb, y.ep, y.st, y.C, y.cc, y.cells, R, rc, z.keeps⟩ : StS).p = z.p := by
    have h1 : y.p.keeps = z.p.keeps := by rw [hy]
    rw [← hy]
    show (⟨y.kind, y.a, y.b, y.c, y.ik, y.x, y.y, y.verb, y.ep, y.st, y.cells, z.keeps⟩ : StP) = _
    rw [← show y.keeps = z.keeps from h1]
    rfl
  obtain ⟨x, hx⟩ : ∃ x : StS, x = ⟨y.kind, y.a, y.b, y.c, y.ik, y.x, y.y, y.verb, y.ep, y.st, y.C, y.cc, y.cells, R, rc, z.keeps⟩ := ⟨_, rfl⟩
  rw [← hx] at hyp
  refine Ent.norm ([(1, .string (txt t)), (2, .pointer (some ⟨g1, 0, none⟩)), (5, .slice R (z.keeps.length + 1) rc), (6, .pointer (some ⟨g4, 0, none⟩))]) ([blk g4 47 x.enc, x.rC, row R (z.keeps.length + 1) rc 3 1 (ints z.keeps ++ [.int .i64 7]), blk g1 47 z.enc, z.rK, z.rC, laidC]) (by repeat (first | exact trivial | refine ⟨by rfl, ?_⟩ | refine ⟨by simp only [List.length_append, List.length_cons, List.length_nil]; rfl, ?_⟩ | refine ⟨by push_cast; rfl, ?_⟩)) (by rw [hx]; rfl) ?_
  have hxk : x.K = R := by rw [hx]
  have hxl : x.keeps = z.keeps := by rw [hx]
  have hxc : x.cells.length = z.cells.length := by show x.p.cells.length = z.p.cells.length; rw [hyp]
  have hds := dsame_sl x z (by rw [hxl]; omega) (by omega)
  rw [decide_eq_true hyp] at hds
  have h7 : (ints z.keeps ++ [Value.int .i64 7])[z.keeps.length * 1]? = some (.int .i64 7) := by
    rw [Nat.mul_one, List.getElem?_append_right (by simp [ints])]
    simp [ints]
  refine Ent.see 2 (by rfl) ?_
  refine Ent.rdSome 2 (by rfl) (by omega) (fun dr hdr => ?_)
  subst hdr
  refine Cd.region ?_
  refine Ls.ev (some 36) (Ev.loads 0 (show Oper.op _ = Op.load 47 (Operand.tmp 6) from rfl) (by rfl) (by rfl) (n := 12) (by kernel_rfl) (by rfl) (by rfl)) (by rfl) (by rfl) ?_
  refine Ls.does (some 37) (Does.read (show Oper.op _ = Op.call { callee := Callee.value (Operand.func 12), args := #[Operand.tmp 36], argTypes := #[47] } from rfl) Tryz.func12 (by kernel_rfl) (by kernel_rfl) (print_sl x (ok_of hyp hz)) (by rfl) (by rfl) ⟨ReadsIn.rd 1 (by rfl), frontIn hxk hxl 2 (by rfl), anyIn 6 (by rfl), trivial⟩) (by rfl) (by rfl) ?_
  rintro _ -
  refine Ls.nil ?_
  refine Cd.seq ?_
  refine Cd.seq ?_
  refine Cd.draw [] (by kernel_rfl) ?_
  refine Rg.ev 0 (by rfl) (fun _ h => h) (Ev.loads 0 (show Oper.op _ = Op.load 47 (Operand.tmp 6) from rfl) (by rfl) (by rfl) (n := 12) (by kernel_rfl) (by rfl) (by rfl)) (by rfl) (some 38) (by rfl) (by kernel_rfl) (by kernel_rfl) (by kernel_rfl) (by kernel_rfl) ?_
  refine Rg.ev 2 (by rfl) (fun _ h => h) (Ev.loads 3 (show Oper.op _ = Op.load 47 (Operand.tmp 2) from rfl) (by rfl) (by rfl) (n := 12) (by kernel_rfl) (by rfl) (by rfl)) (by rfl) (some 40) (by rfl) (by kernel_rfl) (by kernel_rfl) (by kernel_rfl) (by kernel_rfl) ?_
  refine Rg.does 1 (by rfl) (by kernel_rfl) (Does.read (show Oper.op _ = Op.call { callee := Callee.value (Operand.func 10), args := #[Operand.tmp 38], argTypes := #[47] } from rfl) Tryz.func10 (by kernel_rfl) (by kernel_rfl) (ref_sl x) (by rfl) (by rfl) trivial) (by rfl) (some 39) (by rfl) (by exact fun _ _ h => h) ?_
  rintro _ -
  skip
  refine Rg.does 3 (by rfl) (by kernel_rfl) (Does.read (show Oper.op _ = Op.call { callee := Callee.value (Operand.func 10), args := #[Operand.tmp 40], argTypes := #[47] } from rfl) Tryz.func10 (by kernel_rfl) (by kernel_rfl) (ref_sl z) (by rfl) (by rfl) trivial) (by rfl) (some 41) (by rfl) (by exact fun _ _ h => h) ?_
  rintro _ -
  skip
  refine Rg.does 4 (by rfl) (by kernel_rfl) (Does.read (show Oper.op _ = Op.call { callee := Callee.value (Operand.func 9), args := #[Operand.tmp 39, Operand.tmp 41], argTypes := #[43, 43] } from rfl) Tryz.func9 (by kernel_rfl) (by kernel_rfl) (hds) (by rfl) (by rfl) ⟨ReadsIn.rd 1 (by rfl), frontIn hxk hxl 2 (by rfl), ReadsIn.rd 5 (by rfl), ReadsIn.rd 4 (by rfl), trivial⟩) (by rfl) (some 42) (by rfl) (by exact fun _ _ h => h) ?_
  rintro _ -
  refine Rg.ev 5 (by rfl) (fun _ h => h) (Ev.not (show Oper.op _ = Op.unOp UnOp.not 4 (Operand.tmp 42) from rfl) (by rfl)) (by rfl) (some 43) (by rfl) (by kernel_rfl) (by kernel_rfl) (by kernel_rfl) (by kernel_rfl) ?_
  refine Rg.ev 6 (by rfl) (fun _ h => h) (Ev.move (show Oper.op _ = Op.move (Operand.tmp 43) from rfl) (by rfl)) (by rfl) (some 44) (by rfl) (by kernel_rfl) (by kernel_rfl) (by kernel_rfl) (by kernel_rfl) ?_
  refine Ent.known 44 false (by rfl) (by exact (rfl)) ?_
  refine Rg.ev 7 (by rfl) (fun _ h => h) (Ev.move (show Oper.op _ = Op.move (Operand.tmp 5) from rfl) (by rfl)) (by rfl) (some 45) (by rfl) (by kernel_rfl) (by kernel_rfl) (by kernel_rfl) (by kernel_rfl) ?_
  refine Rg.ev 8 (by rfl) (fun _ h => h) (Ev.fieldAddr (k := 4) (show Oper.op _ = Op.fieldAddr 47 (Operand.tmp 2) 4 from rfl) (by rfl) (by kernel_rfl) (by rfl)) (by rfl) (some 46) (by rfl) (by kernel_rfl) (by kernel_rfl) (by kernel_rfl) (by kernel_rfl) ?_
  refine Rg.ev 9 (by rfl) (fun _ h => h) (Ev.fieldAddr (k := 7) (show Oper.op _ = Op.fieldAddr 41 (Operand.tmp 46) 4 from rfl) (by rfl) (by kernel_rfl) (by rfl)) (by rfl) (some 47) (by rfl) (by kernel_rfl) (by kernel_rfl) (by kernel_rfl) (by kernel_rfl) ?_
  refine Rg.ev 10 (by rfl) (fun _ h => h) (Ev.load 3 (show Oper.op _ = Op.load 29 (Operand.tmp 47) from rfl) (by rfl) (by rfl) (by kernel_rfl) (by rfl)) (by rfl) (some 48) (by rfl) (by kernel_rfl) (by kernel_rfl) (by kernel_rfl) (by kernel_rfl) ?_
  refine Rg.ev 11 (by rfl) (fun _ h => h) (Ev.len (show Oper.op _ = Op.call { callee := Callee.builtin Builtin.len, args := #[Operand.tmp 48], argTypes := #[29] } from rfl) (by rfl) Tryz.underlying29) (by rfl) (some 49) (by rfl) (by kernel_rfl) (by kernel_rfl) (by kernel_rfl) (by kernel_rfl) ?_
  refine Rg.ev 12 (by rfl) (fun _ h => h) (Ev.indexAt (sz := 1) (show Oper.op _ = Op.indexAddr 29 (Operand.tmp 45) (Operand.tmp 49) from rfl) (by rfl) (by rfl) Tryz.underlying29 (by kernel_rfl) (by omega)) (by rfl) (some 50) (by rfl) (by kernel_rfl) (by kernel_rfl) (by kernel_rfl) (by kernel_rfl) ?_
  refine Rg.ev 13 (by rfl) (fun _ h => h) (Ev.loadR 2 (show Oper.op _ = Op.load 3 (Operand.tmp 50) from rfl) (by rfl) (by rfl) (by kernel_rfl) (by omega) (by assumption)) (by rfl) (some 51) (by rfl) (by kernel_rfl) (by kernel_rfl) (by kernel_rfl) (by kernel_rfl) ?_
  refine Rg.ev 14 (by rfl) (fun _ h => h) (Ev.neq (show Oper.op _ = Op.binOp BinOp.neq 3 (Operand.tmp 51) (Operand.const (Value.int IntKind.i64 7)) 3 from rfl) (by rfl) (by rfl)) (by rfl) (some 52) (by rfl) (by kernel_rfl) (by kernel_rfl) (by kernel_rfl) (by kernel_rfl) ?_
  refine Rg.ev 15 (by rfl) (fun _ h => h) (Ev.pickF (show Oper.op _ = Op.pick (Operand.tmp 44) (Operand.const (Value.bool true)) (Operand.tmp 52) from rfl) (by rfl) (by rfl)) (by rfl) (some 53) (by rfl) (by kernel_rfl) (by kernel_rfl) (by kernel_rfl) (by kernel_rfl) ?_
  refine Rg.done (by kernel_rfl) ?_ _
  skip
  refine Cd.cond_false (by rfl) (decide_eq_false (show ¬ ((7 : Int) ≠ 7) from fun h => h rfl)) ?_
  refine Cd.skip ?_
  refine Cd.seq ?_
  refine Ent.pick [6] (by rfl) ?_
  clear hx hxk hxl hxc hds h7 hyp hy hrc hkl hcl
  refine Ent.norm ([(1, .string (txt t))]) ([laidC]) (by repeat (first | exact trivial | refine ⟨by rfl, ?_⟩ | refine ⟨by simp only [List.length_append, List.length_cons, List.length_nil]; rfl, ?_⟩ | refine ⟨by push_cast; rfl, ?_⟩)) (by rfl) ?_
  refine Cd.region ?_
  refine Ls.ev (some 54) (Ev.move (show Oper.op _ = Op.move (Operand.tmp 1) from rfl) (by rfl)) (by rfl) (by rfl) ?_
  refine Ls.does (some 55) (Does.read (show Oper.op _ = Op.call { callee := Callee.value (Operand.func 6), args := #[Operand.tmp 54], argTypes := #[9] } from rfl) Tryz.func6 (by kernel_rfl) (by kernel_rfl) (cut_sl t ht) (by rfl) (by rfl) trivial) (by rfl) (by rfl) ?_
  rintro _ -
  generalize hT : t.take 3000 = T
  have hTl : T.length ≤ 3000 := by rw [← hT, List.length_take]; omega
  refine Ls.ev (some 1) (Ev.assign (show Oper.op _ = Op.assign (Operand.tmp 55) from rfl) (by rfl)) (by rfl) (by rfl) ?_
  refine Ls.nil ?_
  refine Cd.seq ?_
  refine Cd.region ?_
  refine Ls.ev (some 57) (Ev.move (show Oper.op _ = Op.move (Operand.tmp 1) from rfl) (by rfl)) (by rfl) (by rfl) ?_
  refine Ls.does (some 58) (Does.call [0, 0] (show Oper.op _ = Op.call { callee := Callee.value (Operand.func 7), args := #[Operand.tmp 57], argTypes := #[9] } from rfl) Tryz.func7 (by kernel_rfl) (by kernel_rfl) (parse_sl T (by omega)) (by rfl) (by rfl) (by rfl)) (by rfl) (by rfl) ?_
  rintro ⟨A, zs, B⟩ hz
  dsimp only at hz ⊢
  refine Ls.ev (some 56) (Ev.move (show Oper.op _ = Op.move (Operand.tmp 58) from rfl) (by rfl)) (by rfl) (by rfl) ?_
  refine Ls.ev (some 59) (Ev.extract (show Oper.op _ = Op.extract (Operand.tmp 56) 0 from rfl) (by rfl) (by rfl)) (by rfl) (by rfl) ?_
  refine Ls.ev (some 60) (Ev.extract (show Oper.op _ = Op.extract (Operand.tmp 56) 1 from rfl) (by rfl) (by rfl)) (by rfl) (by rfl) ?_
  refine Ls.ev (some 7) (Ev.assign (show Oper.op _ = Op.assign (Operand.tmp 59) from rfl) (by rfl)) (by rfl) (by rfl) ?_
  refine Ls.ev (some 8) (Ev.assign (show Oper.op _ = Op.assign (Operand.tmp 60) from rfl) (by rfl)) (by rfl) (by rfl) ?_
  refine Ls.nil ?_
  refine Cd.seq ?_
  refine Cd.region ?_
  refine Ls.ev (some 62) (Ev.move (show Oper.op _ = Op.move (Operand.tmp 1) from rfl) (by rfl)) (by rfl) (by rfl) ?_
  refine Ls.does (some 63) (Does.call [3, 0, 1, 2] (show Oper.op _ = Op.call { callee := Callee.value (Operand.func 7), args := #[Operand.tmp 62], argTypes := #[9] } from rfl) Tryz.func7 (by kernel_rfl) (by kernel_rfl) (parse_sl T (by omega)) (by rfl) (by rfl) (by rfl)) (by rfl) (by rfl) ?_
  rintro ⟨C, us, D⟩ hu
  dsimp only at hu ⊢
  have hzl := par_len hz
  have hul := par_len hu
  have hcb : ((parseP T).map Prod.snd).length ≤ 3001 := by
    have h1 := parse_le (splitP 10 T)
    have h2 := (splitP_len 10 T).1
    rw [List.length_map]
    unfold parseP
    omega
  have hzn : ∀ z ∈ zs, z.p.lists ≤ 1024 := fun z h => by
    obtain ⟨i, hi⟩ := List.mem_iff_getElem?.1 h
    exact (par_at hz hz hi hi).2
  have hco : ∀ k n, ((parseP T).map Prod.snd)[k]? = some n → (ints ((parseP T).map Prod.snd))[k * 1]? = some (.int .i64 n) := fun k n h => by unfold ints; rw [List.getElem?_map, Nat.mul_one, h]; rfl
  generalize hcs : (parseP T).map Prod.snd = cs at hzl hul hco hcb
  refine Ent.see 3 (by rfl) ?_
  refine Ent.pick [4, 5, 3, 0, 1, 2] (by rfl) ?_
  refine Ls.ev (some 61) (Ev.move (show Oper.op _ = Op.move (Operand.tmp 63) from rfl) (by rfl)) (by rfl) (by rfl) ?_
  refine Ls.ev (some 64) (Ev.extract (show Oper.op _ = Op.extract (Operand.tmp 61) 0 from rfl) (by rfl) (by rfl)) (by rfl) (by rfl) ?_
  refine Ls.ev (some 65) (Ev.extract (show Oper.op _ = Op.extract (Operand.tmp 61) 1 from rfl) (by rfl) (by rfl)) (by rfl) (by rfl) ?_
  refine Ls.ev (some 9) (Ev.assign (show Oper.op _ = Op.assign (Operand.tmp 64) from rfl) (by rfl)) (by rfl) (by rfl) ?_
  refine Ls.ev (some 10) (Ev.assign (show Oper.op _ = Op.assign (Operand.tmp 65) from rfl) (by rfl)) (by rfl) (by rfl) ?_
  refine Ls.nil ?_
  refine Cd.seq ?_
  refine Cd.seq ?_
  refine Cd.region ?_
  refine Ls.ev (some 66) (Ev.move (show Oper.op _ = Op.move (Operand.tmp 7) from rfl) (by rfl)) (by rfl) (by rfl) ?_
  refine Ls.ev (some 67) (Ev.len (show Oper.op _ = Op.call { callee := Callee.builtin Builtin.len, args := #[Operand.tmp 66], argTypes := #[24] } from rfl) (by rfl) Tryz.underlying24) (by rfl) (by rfl) ?_
  refine Ls.ev (some 68) (Ev.move (show Oper.op _ = Op.move (Operand.const (Value.int IntKind.i64 0)) from rfl) (by rfl)) (by rfl) (by rfl) ?_
  refine Ls.nil ?_
  refine Cd.block ?_
  refine Cd.loop (ι := Nat × List StS × List Int) (fun j => [(1, .string (txt T)), (7, .slice A.1 zs.length A.2), (8, .slice B.1 cs.length B.2), (9, .slice C.1 us.length C.2), (10, .slice D.1 cs.length D.2), (67, .int .i64 zs.length), (68, .int .i64 j.1)]) (fun j => [row B.1 cs.length B.2 32 1 (ints j.2.2), famX j.2.1, rd A.1 zs.length 12 (zs.flatMap StS.enc), stW C.1 C.2 us, cdW D.1 D.2 cs, famX us]) (fun j => j.1 ≤ zs.length ∧ j.2.1.map StS.enc = zs.map StS.enc ∧ j.2.2.length = cs.length) (fun j => zs.length - j.1) ((0, zs, cs)) (⟨Nat.zero_le _, rfl, rfl⟩) ?_ rfl ?_
  · (repeat (first | exact trivial | refine ⟨by rfl, ?_⟩))
  rintro ⟨k, ys, ds⟩ ⟨hk, hys, hds⟩
  dsimp only at hk hys hds ⊢
  refine Cd.seq ?_
  refine Cd.region ?_
  refine Ls.ev (some 69) (Ev.lss (show Oper.op _ = Op.binOp BinOp.lss 3 (Operand.tmp 68) (Operand.tmp 67) 3 from rfl) (by rfl) (by rfl)) (by rfl) (by rfl) ?_
  refine Ls.nil ?_
  refine Cd.seq ?_
  refine Cd.cond _ (by rfl) (fun h1 => ?_) (fun h1 => ?_)
  · skip
    have hlt : k < zs.length := by have := of_decide_eq_true h1; omega
    obtain ⟨z, hzk⟩ := get_of_lt hlt
    have hzl2 := hzn z (List.mem_of_getElem? hzk)
    change z.cells.length + z.keeps.length ≤ 1024 at hzl2
    obtain ⟨a, b, z', rfl, hak, hze, hnew⟩ := encs_at hys hzk
    obtain ⟨cl, kl, rfl, hcll, hkll⟩ := enc_eq hze
    obtain ⟨z1, z2, z3, z4, z5, z6, z7, z8, z9, z10, zC, zcc, zcl, zK, zkc, zkl⟩ := z
    dsimp only at hcll hkll hzl2 ⊢
    refine Ent.rdSome 2 (by rfl) (by omega) (fun da hda => ?_)
    obtain ⟨A1, A2⟩ := A
    dsimp only at hda
    subst hda
    skip
    refine Cd.skip ?_
    refine Cd.seq ?_
    refine Cd.block ?_
    refine Cd.seq ?_
    refine Cd.region ?_
    refine Ls.ev (some 70) (Ev.move (show Oper.op _ = Op.move (Operand.tmp 68) from rfl) (by rfl)) (by rfl) (by rfl) ?_
    refine Ls.ev (some 11) (Ev.assign (show Oper.op _ = Op.assign (Operand.tmp 70) from rfl) (by rfl)) (by rfl) (by rfl) ?_
    refine Ls.nil ?_
    refine Cd.seq ?_
    refine Cd.seq ?_
    refine Cd.region ?_
    refine Ls.ev (some 71) (Ev.move (show Oper.op _ = Op.move (Operand.tmp 7) from rfl) (by rfl)) (by rfl) (by rfl) ?_
    refine Ls.ev (some 72) (Ev.move (show Oper.op _ = Op.move (Operand.tmp 11) from rfl) (by rfl)) (by rfl) (by rfl) ?_
    refine Ls.ev (some 73) (Ev.indexAt (sz := 12) (show Oper.op _ = Op.indexAddr 24 (Operand.tmp 71) (Operand.tmp 72) from rfl) (by rfl) (by rfl) Tryz.underlying24 (by kernel_rfl) (by omega)) (by rfl) (by rfl) ?_
    refine Ls.ev (some 74) (Ev.fieldAddrE0 (k := 4) (show Oper.op _ = Op.fieldAddr 47 (Operand.tmp 73) 4 from rfl) (by rfl) (by kernel_rfl)) (by rfl) (by rfl) ?_
    refine Ls.ev (some 75) (Ev.fieldAddrE1 (k := 7) (show Oper.op _ = Op.fieldAddr 41 (Operand.tmp 74) 4 from rfl) (by rfl) (by kernel_rfl)) (by rfl) (by rfl) ?_
    refine Ls.ev (some 76) (Ev.loadElF (show Oper.op _ = Op.load 29 (Operand.tmp 75) from rfl) (by rfl) (ReadsIn.rd 2 (by rfl)) (by kernel_rfl) (by intro _; rfl) (by assumption) (by rfl)) (by rfl) (by rfl) ?_
    refine Ls.ev (some 77) (Ev.len (show Oper.op _ = Op.call { callee := Callee.builtin Builtin.len, args := #[Operand.tmp 76], argTypes := #[29] } from rfl) (by rfl) Tryz.underlying29) (by rfl) (by rfl) ?_
    refine Ls.ev (some 78) (Ev.move (show Oper.op _ = Op.move (Operand.const (Value.int IntKind.i64 0)) from rfl) (by rfl)) (by rfl) (by rfl) ?_
    refine Ls.nil ?_
    refine Ent.map (fun w hs => fam_open (Sat.pick hs [1, 0, 2, 3, 4, 5] (by rfl))) ?_
    dsimp only [StS.wC, StS.wK, rowI]
    rw [hcll, hkll]
    refine Ent.pick [1, 0, 3, 2, 4, 5, 6, 7] (by rfl) ?_
    refine Cd.block ?_
    refine Cd.loop (ι := Nat × List Int) (fun j => [(1, .string (txt T)), (7, .slice (some da) zs.length A2), (8, .slice B.1 cs.length B.2), (9, .slice C.1 us.length C.2), (10, .slice D.1 cs.length D.2), (67, .int .i64 zs.length), (68, .int .i64 k), (11, .int .i64 k), (77, .int .i64 zkl.length), (78, .int .i64 j.1)]) (fun j => [row zK zkl.length zkc 3 1 (ints j.2), row zC zcl.length zcc 3 1 (ints cl), row B.1 cs.length B.2 32 1 (ints ds), famX (a ++ b), rd (some da) zs.length 12 (zs.flatMap StS.enc), stW C.1 C.2 us, cdW D.1 D.2 cs, famX us]) (fun j => j.1 ≤ zkl.length ∧ j.2.length = zkl.length) (fun j => zkl.length - j.1) ((0, kl)) (⟨Nat.zero_le _, hkll⟩) ?_ rfl ?_
    · (repeat (first | exact trivial | refine ⟨by rfl, ?_⟩))
    rintro ⟨m, ks⟩ ⟨hm, hks⟩
    dsimp only at hm hks ⊢
    refine Cd.seq ?_
    refine Cd.region ?_
    refine Ls.ev (some 79) (Ev.lss (show Oper.op _ = Op.binOp BinOp.lss 3 (Operand.tmp 78) (Operand.tmp 77) 3 from rfl) (by rfl) (by rfl)) (by rfl) (by rfl) ?_
    refine Ls.nil ?_
    refine Cd.seq ?_
    refine Cd.cond _ (by rfl) (fun h2 => ?_) (fun h2 => ?_)
    · skip
      have hml : m < zkl.length := by have := of_decide_eq_true h2; omega
      refine Ent.rowSome 0 (by rfl) (by omega) (fun ad had => ?_)
      subst had
      refine Cd.skip ?_
      refine Cd.seq ?_
      refine Cd.block ?_
      refine Cd.seq ?_
      refine Cd.region ?_
      refine Ls.ev (some 80) (Ev.move (show Oper.op _ = Op.move (Operand.tmp 78) from rfl) (by rfl)) (by rfl) (by rfl) ?_
      refine Ls.ev (some 12) (Ev.assign (show Oper.op _ = Op.assign (Operand.tmp 80) from rfl) (by rfl)) (by rfl) (by rfl) ?_
      refine Ls.nil ?_
      refine Cd.region ?_
      refine Ls.ev (some 81) (Ev.move (show Oper.op _ = Op.move (Operand.tmp 7) from rfl) (by rfl)) (by rfl) (by rfl) ?_
      refine Ls.ev (some 82) (Ev.move (show Oper.op _ = Op.move (Operand.tmp 11) from rfl) (by rfl)) (by rfl) (by rfl) ?_
      refine Ls.ev (some 83) (Ev.indexAt (sz := 12) (show Oper.op _ = Op.indexAddr 24 (Operand.tmp 81) (Operand.tmp 82) from rfl) (by rfl) (by rfl) Tryz.underlying24 (by kernel_rfl) (by omega)) (by rfl) (by rfl) ?_
      refine Ls.ev (some 84) (Ev.fieldAddrE0 (k := 4) (show Oper.op _ = Op.fieldAddr 47 (Operand.tmp 83) 4 from rfl) (by rfl) (by kernel_rfl)) (by rfl) (by rfl) ?_
      refine Ls.ev (some 85) (Ev.fieldAddrE1 (k := 7) (show Oper.op _ = Op.fieldAddr 41 (Operand.tmp 84) 4 from rfl) (by rfl) (by kernel_rfl)) (by rfl) (by rfl) ?_
      refine Ls.ev (some 86) (Ev.loadElF (show Oper.op _ = Op.load 29 (Operand.tmp 85) from rfl) (by rfl) (ReadsIn.rd 4 (by rfl)) (by kernel_rfl) (by intro _; rfl) (by assumption) (by rfl)) (by rfl) (by rfl) ?_
      refine Ls.ev (some 87) (Ev.move (show Oper.op _ = Op.move (Operand.tmp 12) from rfl) (by rfl)) (by rfl) (by rfl) ?_
      refine Ls.ev (some 88) (Ev.indexAt (sz := 1) (show Oper.op _ = Op.indexAddr 29 (Operand.tmp 86) (Operand.tmp 87) from rfl) (by rfl) (by rfl) Tryz.underlying29 (by kernel_rfl) (by omega)) (by rfl) (by rfl) ?_
      refine Ls.does none (Does.storeEl (k := m) 0 (show Oper.op _ = Op.store 3 (Operand.tmp 88) (Operand.const (Value.int IntKind.i64 (-1))) from rfl) (by rfl) (by rfl) (by rfl) rfl (by kernel_rfl) rfl hml (ints_set ks m (-1))) (by rfl) (by rfl) ?_
      intro _ _
      refine Ls.nil ?_
      refine Cd.region ?_
      refine Ls.ev (some 89) (Ev.addI (show Oper.op _ = Op.binOp BinOp.add 3 (Operand.tmp 78) (Operand.const (Value.int IntKind.i64 1)) 3 from rfl) (by rfl) (by rfl) (by omega)) (by rfl) (by rfl) ?_
      refine Ls.ev (some 78) (Ev.move (show Oper.op _ = Op.move (Operand.tmp 89) from rfl) (by rfl)) (by rfl) (by rfl) ?_
      refine Ls.nil ?_
      refine Ent.inv ((m + 1, ks.set m (-1))) ?_ ?_ ?_
      · (try dsimp only); exact ⟨⟨hml, by rw [List.length_set]; exact hks⟩, by show zkl.length - (m + 1) < zkl.length - m; omega⟩
      · (repeat (first | exact trivial | refine ⟨by rfl, ?_⟩ | refine ⟨by simp only [List.length_append, List.length_cons, List.length_nil]; rfl, ?_⟩ | refine ⟨by push_cast; rfl, ?_⟩))
      · rfl
    skip
    clear h2 hm
    refine Cd.exit ?_
    refine Cd.seq ?_
    refine Cd.seq ?_
    refine Cd.region ?_
    refine Ls.ev (some 90) (Ev.move (show Oper.op _ = Op.move (Operand.tmp 7) from rfl) (by rfl)) (by rfl) (by rfl) ?_
    refine Ls.ev (some 91) (Ev.move (show Oper.op _ = Op.move (Operand.tmp 11) from rfl) (by rfl)) (by rfl) (by rfl) ?_
    refine Ls.ev (some 92) (Ev.indexAt (sz := 12) (show Oper.op _ = Op.indexAddr 24 (Operand.tmp 90) (Operand.tmp 91) from rfl) (by rfl) (by rfl) Tryz.underlying24 (by kernel_rfl) (by omega)) (by rfl) (by rfl) ?_
    refine Ls.ev (some 93) (Ev.fieldAddrE0 (k := 4) (show Oper.op _ = Op.fieldAddr 47 (Operand.tmp 92) 4 from rfl) (by rfl) (by kernel_rfl)) (by rfl) (by rfl) ?_
    refine Ls.ev (some 94) (Ev.fieldAddrE1 (k := 3) (show Oper.op _ = Op.fieldAddr 41 (Operand.tmp 93) 3 from rfl) (by rfl) (by kernel_rfl)) (by rfl) (by rfl) ?_
    refine Ls.ev (some 95) (Ev.fieldAddrE1 (k := 2) (show Oper.op _ = Op.fieldAddr 39 (Operand.tmp 94) 2 from rfl) (by rfl) (by kernel_rfl)) (by rfl) (by rfl) ?_
    refine Ls.ev (some 96) (Ev.fieldAddrE1 (k := 1) (show Oper.op _ = Op.fieldAddr 37 (Operand.tmp 95) 1 from rfl) (by rfl) (by kernel_rfl)) (by rfl) (by rfl) ?_
    refine Ls.ev (some 97) (Ev.loadElF (show Oper.op _ = Op.load 29 (Operand.tmp 96) from rfl) (by rfl) (ReadsIn.rd 4 (by rfl)) (by kernel_rfl) (by intro _; rfl) (by assumption) (by rfl)) (by rfl) (by rfl) ?_
    refine Ls.ev (some 98) (Ev.len (show Oper.op _ = Op.call { callee := Callee.builtin Builtin.len, args := #[Operand.tmp 97], argTypes := #[29] } from rfl) (by rfl) Tryz.underlying29) (by rfl) (by rfl) ?_
    refine Ls.ev (some 99) (Ev.move (show Oper.op _ = Op.move (Operand.const (Value.int IntKind.i64 0)) from rfl) (by rfl)) (by rfl) (by rfl) ?_
    refine Ls.nil ?_
    refine Ent.pick [1, 0, 2, 3, 4, 5, 6, 7] (by rfl) ?_
    refine Cd.block ?_
    refine Cd.loop (ι := Nat × List Int) (fun j => [(1, .string (txt T)), (7, .slice (some da) zs.length A2), (8, .slice B.1 cs.length B.2), (9, .slice C.1 us.length C.2), (10, .slice D.1 cs.length D.2), (67, .int .i64 zs.length), (68, .int .i64 k), (11, .int .i64 k), (98, .int .i64 zcl.length), (99, .int .i64 j.1)]) (fun j => [row zC zcl.length zcc 3 1 (ints j.2), row zK zkl.length zkc 3 1 (ints ks), row B.1 cs.length B.2 32 1 (ints ds), famX (a ++ b), rd (some da) zs.length 12 (zs.flatMap StS.enc), stW C.1 C.2 us, cdW D.1 D.2 cs, famX us]) (fun j => j.1 ≤ zcl.length ∧ j.2.length = zcl.length) (fun j => zcl.length - j.1) ((0, cl)) (⟨Nat.zero_le _, hcll⟩) ?_ rfl ?_
    · (repeat (first | exact trivial | refine ⟨by rfl, ?_⟩))
    rintro ⟨m, es⟩ ⟨hm, hes⟩
    dsimp only at hm hes ⊢
    refine Cd.seq ?_
    refine Cd.region ?_
    refine Ls.ev (some 100) (Ev.lss (show Oper.op _ = Op.binOp BinOp.lss 3 (Operand.tmp 99) (Operand.tmp 98) 3 from rfl) (by rfl) (by rfl)) (by rfl) (by rfl) ?_
    refine Ls.nil ?_
    refine Cd.seq ?_
    refine Cd.cond _ (by rfl) (fun h2 => ?_) (fun h2 => ?_)
    · skip
      have hml : m < zcl.length := by have := of_decide_eq_true h2; omega
      refine Ent.rowSome 0 (by rfl) (by omega) (fun ad had => ?_)
      subst had
      refine Cd.skip ?_
      refine Cd.seq ?_
      refine Cd.block ?_
      refine Cd.seq ?_
      refine Cd.region ?_
      refine Ls.ev (some 101) (Ev.move (show Oper.op _ = Op.move (Operand.tmp 99) from rfl) (by rfl)) (by rfl) (by rfl) ?_
      refine Ls.ev (some 13) (Ev.assign (show Oper.op _ = Op.assign (Operand.tmp 101) from rfl) (by rfl)) (by rfl) (by rfl) ?_
      refine Ls.nil ?_
      refine Cd.region ?_
      refine Ls.ev (some 102) (Ev.move (show Oper.op _ = Op.move (Operand.tmp 7) from rfl) (by rfl)) (by rfl) (by rfl) ?_
      refine Ls.ev (some 103) (Ev.move (show Oper.op _ = Op.move (Operand.tmp 11) from rfl) (by rfl)) (by rfl) (by rfl) ?_
      refine Ls.ev (some 104) (Ev.indexAt (sz := 12) (show Oper.op _ = Op.indexAddr 24 (Operand.tmp 102) (Operand.tmp 103) from rfl) (by rfl) (by rfl) Tryz.underlying24 (by kernel_rfl) (by omega)) (by rfl) (by rfl) ?_
      refine Ls.ev (some 105) (Ev.fieldAddrE0 (k := 4) (show Oper.op _ = Op.fieldAddr 47 (Operand.tmp 104) 4 from rfl) (by rfl) (by kernel_rfl)) (by rfl) (by rfl) ?_
      refine Ls.ev (some 106) (Ev.fieldAddrE1 (k := 3) (show Oper.op _ = Op.fieldAddr 41 (Operand.tmp 105) 3 from rfl) (by rfl) (by kernel_rfl)) (by rfl) (by rfl) ?_
      refine Ls.ev (some 107) (Ev.fieldAddrE1 (k := 2) (show Oper.op _ = Op.fieldAddr 39 (Operand.tmp 106) 2 from rfl) (by rfl) (by kernel_rfl)) (by rfl) (by rfl) ?_
      refine Ls.ev (some 108) (Ev.fieldAddrE1 (k := 1) (show Oper.op _ = Op.fieldAddr 37 (Operand.tmp 107) 1 from rfl) (by rfl) (by kernel_rfl)) (by rfl) (by rfl) ?_
      refine Ls.ev (some 109) (Ev.loadElF (show Oper.op _ = Op.load 29 (Operand.tmp 108) from rfl) (by rfl) (ReadsIn.rd 4 (by rfl)) (by kernel_rfl) (by intro _; rfl) (by assumption) (by rfl)) (by rfl) (by rfl) ?_
      refine Ls.ev (some 110) (Ev.move (show Oper.op _ = Op.move (Operand.tmp 13) from rfl) (by rfl)) (by rfl) (by rfl) ?_
      refine Ls.ev (some 111) (Ev.indexAt (sz := 1) (show Oper.op _ = Op.indexAddr 29 (Operand.tmp 109) (Operand.tmp 110) from rfl) (by rfl) (by rfl) Tryz.underlying29 (by kernel_rfl) (by omega)) (by rfl) (by rfl) ?_
      refine Ls.does none (Does.storeEl (k := m) 0 (show Oper.op _ = Op.store 3 (Operand.tmp 111) (Operand.const (Value.int IntKind.i64 (-2))) from rfl) (by rfl) (by rfl) (by rfl) rfl (by kernel_rfl) rfl hml (ints_set es m (-2))) (by rfl) (by rfl) ?_
      intro _ _
      refine Ls.nil ?_
      refine Cd.region ?_
      refine Ls.ev (some 112) (Ev.addI (show Oper.op _ = Op.binOp BinOp.add 3 (Operand.tmp 99) (Operand.const (Value.int IntKind.i64 1)) 3 from rfl) (by rfl) (by rfl) (by omega)) (by rfl) (by rfl) ?_
      refine Ls.ev (some 99) (Ev.move (show Oper.op _ = Op.move (Operand.tmp 112) from rfl) (by rfl)) (by rfl) (by rfl) ?_
      refine Ls.nil ?_
      refine Ent.inv ((m + 1, es.set m (-2))) ?_ ?_ ?_
      · (try dsimp only); exact ⟨⟨hml, by rw [List.length_set]; exact hes⟩, by show zcl.length - (m + 1) < zcl.length - m; omega⟩
      · (repeat (first | exact trivial | refine ⟨by rfl, ?_⟩ | refine ⟨by simp only [List.length_append, List.length_cons, List.length_nil]; rfl, ?_⟩ | refine ⟨by push_cast; rfl, ?_⟩))
      · rfl
    skip
    refine Cd.exit ?_
    refine Ent.map (fun w hs => fam_shut (a := a) (b := b) (z := ⟨z1, z2, z3, z4, z5, z6, z7, z8, z9, z10, zC, zcc, es, zK, zkc, ks⟩) (by
      have h3 := hs.pick [0, 1, 3, 2, 4, 5, 6, 7] (by rfl)
      dsimp only [StS.wC, StS.wK, rowI]
      rw [hes, hks]
      exact h3)) ?_
    refine Ent.rowSome 1 (by rfl) (by omega) (fun db hdb => ?_)
    obtain ⟨B1, B2⟩ := B
    dsimp only at hdb
    subst hdb
    refine Cd.region ?_
    refine Ls.ev (some 113) (Ev.move (show Oper.op _ = Op.move (Operand.tmp 8) from rfl) (by rfl)) (by rfl) (by rfl) ?_
    refine Ls.ev (some 114) (Ev.move (show Oper.op _ = Op.move (Operand.tmp 11) from rfl) (by rfl)) (by rfl) (by rfl) ?_
    refine Ls.ev (some 115) (Ev.indexAt (sz := 1) (show Oper.op _ = Op.indexAddr 25 (Operand.tmp 113) (Operand.tmp 114) from rfl) (by rfl) (by rfl) Tryz.underlying25 (by kernel_rfl) (by omega)) (by rfl) (by rfl) ?_
    refine Ls.does none (Does.storeEl (k := k) 1 (show Oper.op _ = Op.store 32 (Operand.tmp 115) (Operand.const (Value.int IntKind.i64 99)) from rfl) (by rfl) (by rfl) (by rfl) rfl (by kernel_rfl) rfl (show k < cs.length by omega) (ints_set ds k 99)) (by rfl) (by rfl) ?_
    intro _ _
    refine Ls.nil ?_
    refine Cd.region ?_
    refine Ls.ev (some 116) (Ev.addI (show Oper.op _ = Op.binOp BinOp.add 3 (Operand.tmp 68) (Operand.const (Value.int IntKind.i64 1)) 3 from rfl) (by rfl) (by rfl) (by omega)) (by rfl) (by rfl) ?_
    refine Ls.ev (some 68) (Ev.move (show Oper.op _ = Op.move (Operand.tmp 116) from rfl) (by rfl)) (by rfl) (by rfl) ?_
    refine Ls.nil ?_
    refine Ent.pick [1, 0, 2, 3, 4, 5] (by rfl) ?_
    refine Ent.inv ((k + 1, a ++ (⟨z1, z2, z3, z4, z5, z6, z7, z8, z9, z10, zC, zcc, es, zK, zkc, ks⟩ : StS) :: b, ds.set k 99)) ?_ ?_ ?_
    · (try dsimp only); exact ⟨⟨hlt, hnew _ (by unfold StS.enc; dsimp only; rw [hes, hks]), by rw [List.length_set]; exact hds⟩, by show zs.length - (k + 1) < zs.length - k; omega⟩
    · (repeat (first | exact trivial | refine ⟨by rfl, ?_⟩ | refine ⟨by simp only [List.length_append, List.length_cons, List.length_nil]; rfl, ?_⟩ | refine ⟨by push_cast; rfl, ?_⟩))
    · rfl
  · skip
    clear h1 hk hys hds
    refine Ent.pick [3, 4, 5] (by rfl) ?_
    refine Cd.exit ?_
    refine Cd.seq ?_
    refine Ent.norm ([(1, .string (txt T)), (9, .slice C.1 us.length C.2), (10, .slice D.1 cs.length D.2)]) ([stW C.1 C.2 us, cdW D.1 D.2 cs, famX us]) (by repeat (first | exact trivial | refine ⟨by rfl, ?_⟩ | refine ⟨by simp only [List.length_append, List.length_cons, List.length_nil]; rfl, ?_⟩ | refine ⟨by push_cast; rfl, ?_⟩)) (by rfl) ?_
    refine Cd.region ?_
    refine Ls.ev (some 118) (Ev.move (show Oper.op _ = Op.move (Operand.tmp 1) from rfl) (by rfl)) (by rfl) (by rfl) ?_
    refine Ls.does (some 119) (Does.call [0, 1, 2] (show Oper.op _ = Op.call { callee := Callee.value (Operand.func 8), args := #[Operand.tmp 118], argTypes := #[9] } from rfl) Tryz.func8 (by kernel_rfl) (by kernel_rfl) (dparse_sl T (by omega)) (by rfl) (by rfl) (by rfl)) (by rfl) (by rfl) ?_
    rw [hcs]
    rintro ⟨E, vs, F⟩ hv
    dsimp only at hv ⊢
    have hvl := par_len hv
    rw [hcs] at hvl
    refine Ent.see 0 (by rfl) ?_
    refine Ent.see 1 (by rfl) ?_
    refine Ent.see 3 (by rfl) ?_
    refine Ent.see 4 (by rfl) ?_
    refine Ent.pick [2, 0, 1, 3, 4, 5] (by rfl) ?_
    refine Ent.map (fun w hs => fam_see hs) ?_
    refine Ent.pick [5, 0, 1, 2, 3, 4] (by rfl) ?_
    refine Ent.map (fun w hs => fam_see hs) ?_
    refine Ent.pick [3, 4, 2, 5, 0, 1] (by rfl) ?_
    refine Ls.ev (some 117) (Ev.move (show Oper.op _ = Op.move (Operand.tmp 119) from rfl) (by rfl)) (by rfl) (by rfl) ?_
    refine Ls.ev (some 120) (Ev.extract (show Oper.op _ = Op.extract (Operand.tmp 117) 0 from rfl) (by rfl) (by rfl)) (by rfl) (by rfl) ?_
    refine Ls.ev (some 121) (Ev.extract (show Oper.op _ = Op.extract (Operand.tmp 117) 1 from rfl) (by rfl) (by rfl)) (by rfl) (by rfl) ?_
    refine Ls.ev (some 14) (Ev.assign (show Oper.op _ = Op.assign (Operand.tmp 120) from rfl) (by rfl)) (by rfl) (by rfl) ?_
    refine Ls.ev (some 15) (Ev.assign (show Oper.op _ = Op.assign (Operand.tmp 121) from rfl) (by rfl)) (by rfl) (by rfl) ?_
    refine Ls.nil ?_
    refine Cd.seq ?_
    refine Cd.seq ?_
    refine Cd.region ?_
    refine Ls.ev (some 122) (Ev.move (show Oper.op _ = Op.move (Operand.tmp 9) from rfl) (by rfl)) (by rfl) (by rfl) ?_
    refine Ls.ev (some 123) (Ev.len (show Oper.op _ = Op.call { callee := Callee.builtin Builtin.len, args := #[Operand.tmp 122], argTypes := #[24] } from rfl) (by rfl) Tryz.underlying24) (by rfl) (by rfl) ?_
    refine Ls.ev (some 124) (Ev.move (show Oper.op _ = Op.move (Operand.tmp 14) from rfl) (by rfl)) (by rfl) (by rfl) ?_
    refine Ls.ev (some 125) (Ev.len (show Oper.op _ = Op.call { callee := Callee.builtin Builtin.len, args := #[Operand.tmp 124], argTypes := #[28] } from rfl) (by rfl) Tryz.underlying28) (by rfl) (by rfl) ?_
    refine Ls.ev (some 126) (Ev.neq (show Oper.op _ = Op.binOp BinOp.neq 3 (Operand.tmp 123) (Operand.tmp 125) 3 from rfl) (by rfl) (by rfl)) (by rfl) (by rfl) ?_
    refine Ls.ev (some 127) (Ev.move (show Oper.op _ = Op.move (Operand.tmp 126) from rfl) (by rfl)) (by rfl) (by rfl) ?_
    refine Ent.known 127 false (by rfl) (by exact (decide_eq_false (show ¬ ((us.length : Int) ≠ (vs.length : Int)) by omega))) ?_
    refine Ls.ev (some 128) (Ev.move (show Oper.op _ = Op.move (Operand.tmp 10) from rfl) (by rfl)) (by rfl) (by rfl) ?_
    refine Ls.ev (some 129) (Ev.len (show Oper.op _ = Op.call { callee := Callee.builtin Builtin.len, args := #[Operand.tmp 128], argTypes := #[25] } from rfl) (by rfl) Tryz.underlying25) (by rfl) (by rfl) ?_
    refine Ls.ev (some 130) (Ev.move (show Oper.op _ = Op.move (Operand.tmp 14) from rfl) (by rfl)) (by rfl) (by rfl) ?_
    refine Ls.ev (some 131) (Ev.len (show Oper.op _ = Op.call { callee := Callee.builtin Builtin.len, args := #[Operand.tmp 130], argTypes := #[28] } from rfl) (by rfl) Tryz.underlying28) (by rfl) (by rfl) ?_
    refine Ls.ev (some 132) (Ev.neq (show Oper.op _ = Op.binOp BinOp.neq 3 (Operand.tmp 129) (Operand.tmp 131) 3 from rfl) (by rfl) (by rfl)) (by rfl) (by rfl) ?_
    refine Ls.ev (some 133) (Ev.pickF (show Oper.op _ = Op.pick (Operand.tmp 127) (Operand.const (Value.bool true)) (Operand.tmp 132) from rfl) (by rfl) (by rfl)) (by rfl) (by rfl) ?_
    refine Ls.nil ?_
    skip
    refine Cd.cond_false (by rfl) (decide_eq_false (show ¬ ((cs.length : Int) ≠ (vs.length : Int)) by omega)) ?_
    refine Cd.skip ?_
    refine Cd.seq ?_
    refine Cd.seq ?_
    refine Cd.region ?_
    refine Ls.ev (some 134) (Ev.move (show Oper.op _ = Op.move (Operand.tmp 9) from rfl) (by rfl)) (by rfl) (by rfl) ?_
    refine Ls.ev (some 135) (Ev.len (show Oper.op _ = Op.call { callee := Callee.builtin Builtin.len, args := #[Operand.tmp 134], argTypes := #[24] } from rfl) (by rfl) Tryz.underlying24) (by rfl) (by rfl) ?_
    refine Ls.ev (some 136) (Ev.move (show Oper.op _ = Op.move (Operand.const (Value.int IntKind.i64 0)) from rfl) (by rfl)) (by rfl) (by rfl) ?_
    refine Ls.nil ?_
    refine Cd.block ?_
    refine Cd.loop (ι := Nat) (fun k => [(9, .slice C.1 us.length C.2), (10, .slice D.1 cs.length D.2), (14, .slice E.1 vs.length E.2), (15, .slice F.1 cs.length F.2), (135, .int .i64 us.length), (136, .int .i64 k)]) (fun _ => [rd F.1 cs.length 1 (ints cs), rd C.1 us.length 12 (us.flatMap StS.enc), rd E.1 vs.length 12 (vs.flatMap StS.enc), rd D.1 cs.length 1 (ints cs), famR us, famR vs]) (fun k => k ≤ us.length) (fun k => us.length - k) (0) (Nat.zero_le _) ?_ rfl ?_
    · (repeat (first | exact trivial | refine ⟨by rfl, ?_⟩))
    rintro k hk
    refine Cd.seq ?_
    refine Cd.region ?_
    refine Ls.ev (some 137) (Ev.lss (show Oper.op _ = Op.binOp BinOp.lss 3 (Operand.tmp 136) (Operand.tmp 135) 3 from rfl) (by rfl) (by rfl)) (by rfl) (by rfl) ?_
    refine Ls.nil ?_
    refine Cd.seq ?_
    refine Cd.cond _ (by rfl) (fun h1 => ?_) (fun h1 => ?_)
    · skip
      have hlt : k < us.length := by have := of_decide_eq_true h1; omega
      obtain ⟨z, hzk⟩ := get_of_lt hlt
      obtain ⟨y, hyk⟩ := get_of_lt (show k < vs.length by omega)
      obtain ⟨n, hnk⟩ := get_of_lt (show k < cs.length by omega)
      have hn := hco k n hnk
      obtain ⟨hpe, hpl⟩ := par_at hu hv hzk hyk
      change z.cells.length + z.keeps.length ≤ 1024 at hpl
      have hq1 : y.keeps.length = z.keeps.length := by show y.p.keeps.length = z.p.keeps.length; rw [hpe]
      have hq2 : y.cells.length = z.cells.length := by show y.p.cells.length = z.p.cells.length; rw [hpe]
      have hds := dsame_sl z y (by omega) (by omega)
      rw [decide_eq_true hpe] at hds
      refine Ent.rdSome 0 (by rfl) (by omega) (fun dd hdd => ?_)
      refine Ent.rdSome 1 (by rfl) (by omega) (fun da hda => ?_)
      refine Ent.rdSome 2 (by rfl) (by omega) (fun dc hdc => ?_)
      refine Ent.rdSome 3 (by rfl) (by omega) (fun db hdb => ?_)
      obtain ⟨C1, C2⟩ := C
      obtain ⟨D1, D2⟩ := D
      obtain ⟨E1, E2⟩ := E
      obtain ⟨F1, F2⟩ := F
      dsimp only at hdd hda hdc hdb
      subst hdd hda hdc hdb
      refine Cd.skip ?_
      refine Cd.seq ?_
      refine Cd.block ?_
      refine Cd.seq ?_
      refine Cd.region ?_
      refine Ls.ev (some 138) (Ev.move (show Oper.op _ = Op.move (Operand.tmp 136) from rfl) (by rfl)) (by rfl) (by rfl) ?_
      refine Ls.ev (some 16) (Ev.assign (show Oper.op _ = Op.assign (Operand.tmp 138) from rfl) (by rfl)) (by rfl) (by rfl) ?_
      refine Ls.nil ?_
      refine Cd.seq ?_
      refine Ent.map (fun w hs => fam_get 5 rfl (List.mem_of_getElem? hyk) hs) ?_
      refine Ent.map (fun w hs => fam_get 6 rfl (List.mem_of_getElem? hzk) hs) ?_
      refine Ent.pick [4, 5, 6, 7, 0, 1, 2, 3, 8, 9] (by rfl) ?_
      skip
      refine Cd.draw [] (by kernel_rfl) ?_
      refine Rg.ev 0 (by rfl) (fun _ h => h) (Ev.move (show Oper.op _ = Op.move (Operand.tmp 10) from rfl) (by rfl)) (by rfl) (some 139) (by rfl) (by kernel_rfl) (by kernel_rfl) (by kernel_rfl) (by kernel_rfl) ?_
      refine Rg.ev 1 (by rfl) (fun _ h => h) (Ev.move (show Oper.op _ = Op.move (Operand.tmp 16) from rfl) (by rfl)) (by rfl) (some 140) (by rfl) (by kernel_rfl) (by kernel_rfl) (by kernel_rfl) (by kernel_rfl) ?_
      refine Rg.ev 2 (by rfl) (fun _ h => h) (Ev.indexAt (sz := 1) (show Oper.op _ = Op.indexAddr 25 (Operand.tmp 139) (Operand.tmp 140) from rfl) (by rfl) (by rfl) Tryz.underlying25 (by kernel_rfl) (by omega)) (by rfl) (some 141) (by rfl) (by kernel_rfl) (by kernel_rfl) (by kernel_rfl) (by kernel_rfl) ?_
      refine Rg.ev 3 (by rfl) (fun _ h => h) (Ev.loadInt (show Oper.op _ = Op.load 32 (Operand.tmp 141) from rfl) (by rfl) (ReadsIn.rd 3 (by rfl)) (by kernel_rfl) (by assumption)) (by rfl) (some 142) (by rfl) (by kernel_rfl) (by kernel_rfl) (by kernel_rfl) (by kernel_rfl) ?_
      refine Rg.ev 4 (by rfl) (fun _ h => h) (Ev.move (show Oper.op _ = Op.move (Operand.tmp 15) from rfl) (by rfl)) (by rfl) (some 143) (by rfl) (by kernel_rfl) (by kernel_rfl) (by kernel_rfl) (by kernel_rfl) ?_
      refine Rg.ev 5 (by rfl) (fun _ h => h) (Ev.move (show Oper.op _ = Op.move (Operand.tmp 16) from rfl) (by rfl)) (by rfl) (some 144) (by rfl) (by kernel_rfl) (by kernel_rfl) (by kernel_rfl) (by kernel_rfl) ?_
      refine Rg.ev 6 (by rfl) (fun _ h => h) (Ev.indexAt (sz := 1) (show Oper.op _ = Op.indexAddr 29 (Operand.tmp 143) (Operand.tmp 144) from rfl) (by rfl) (by rfl) Tryz.underlying29 (by kernel_rfl) (by omega)) (by rfl) (some 145) (by rfl) (by kernel_rfl) (by kernel_rfl) (by kernel_rfl) (by kernel_rfl) ?_
      refine Rg.ev 7 (by rfl) (fun _ h => h) (Ev.loadInt (show Oper.op _ = Op.load 3 (Operand.tmp 145) from rfl) (by rfl) (ReadsIn.rd 0 (by rfl)) (by kernel_rfl) (by assumption)) (by rfl) (some 146) (by rfl) (by kernel_rfl) (by kernel_rfl) (by kernel_rfl) (by kernel_rfl) ?_
      refine Rg.ev 8 (by rfl) (fun _ h => h) (Ev.neq (show Oper.op _ = Op.binOp BinOp.neq 3 (Operand.tmp 142) (Operand.tmp 146) 3 from rfl) (by rfl) (by rfl)) (by rfl) (some 147) (by rfl) (by kernel_rfl) (by kernel_rfl) (by kernel_rfl) (by kernel_rfl) ?_
      refine Rg.ev 9 (by rfl) (fun _ h => h) (Ev.move (show Oper.op _ = Op.move (Operand.tmp 147) from rfl) (by rfl)) (by rfl) (some 148) (by rfl) (by kernel_rfl) (by kernel_rfl) (by kernel_rfl) (by kernel_rfl) ?_
      refine Ent.known 148 false (by rfl) (by exact (decide_eq_false (show ¬ (n ≠ n) from fun h => h rfl))) ?_
      refine Rg.ev 10 (by rfl) (fun _ h => h) (Ev.move (show Oper.op _ = Op.move (Operand.tmp 9) from rfl) (by rfl)) (by rfl) (some 149) (by rfl) (by kernel_rfl) (by kernel_rfl) (by kernel_rfl) (by kernel_rfl) ?_
      refine Rg.ev 11 (by rfl) (fun _ h => h) (Ev.move (show Oper.op _ = Op.move (Operand.tmp 16) from rfl) (by rfl)) (by rfl) (some 150) (by rfl) (by kernel_rfl) (by kernel_rfl) (by kernel_rfl) (by kernel_rfl) ?_
      refine Rg.ev 12 (by rfl) (fun _ h => h) (Ev.indexAt (sz := 12) (show Oper.op _ = Op.indexAddr 24 (Operand.tmp 149) (Operand.tmp 150) from rfl) (by rfl) (by rfl) Tryz.underlying24 (by kernel_rfl) (by omega)) (by rfl) (some 151) (by rfl) (by kernel_rfl) (by kernel_rfl) (by kernel_rfl) (by kernel_rfl) ?_
      refine Rg.ev 13 (by rfl) (fun _ h => h) (Ev.loadEl (show Oper.op _ = Op.load 47 (Operand.tmp 151) from rfl) (by rfl) (ReadsIn.rd 1 (by rfl)) (by kernel_rfl) (by intro _; rfl) (by assumption)) (by rfl) (some 152) (by rfl) (by kernel_rfl) (by kernel_rfl) (by kernel_rfl) (by kernel_rfl) ?_
      refine Rg.ev 15 (by rfl) (fun _ h => h) (Ev.move (show Oper.op _ = Op.move (Operand.tmp 14) from rfl) (by rfl)) (by rfl) (some 154) (by rfl) (by kernel_rfl) (by kernel_rfl) (by kernel_rfl) (by kernel_rfl) ?_
      refine Rg.ev 16 (by rfl) (fun _ h => h) (Ev.move (show Oper.op _ = Op.move (Operand.tmp 16) from rfl) (by rfl)) (by rfl) (some 155) (by rfl) (by kernel_rfl) (by kernel_rfl) (by kernel_rfl) (by kernel_rfl) ?_
      refine Rg.ev 17 (by rfl) (fun _ h => h) (Ev.indexAt (sz := 12) (show Oper.op _ = Op.indexAddr 28 (Operand.tmp 154) (Operand.tmp 155) from rfl) (by rfl) (by rfl) Tryz.underlying28 (by kernel_rfl) (by omega)) (by rfl) (some 156) (by rfl) (by kernel_rfl) (by kernel_rfl) (by kernel_rfl) (by kernel_rfl) ?_
      refine Rg.ev 18 (by rfl) (fun _ h => h) (Ev.loadEl (show Oper.op _ = Op.load 43 (Operand.tmp 156) from rfl) (by rfl) (ReadsIn.rd 2 (by rfl)) (by kernel_rfl) (by intro _; rfl) (by assumption)) (by rfl) (some 157) (by rfl) (by kernel_rfl) (by kernel_rfl) (by kernel_rfl) (by kernel_rfl) ?_
      refine Rg.does 14 (by rfl) (by kernel_rfl) (Does.read (show Oper.op _ = Op.call { callee := Callee.value (Operand.func 10), args := #[Operand.tmp 152], argTypes := #[47] } from rfl) Tryz.func10 (by kernel_rfl) (by kernel_rfl) (ref_sl z) (by rfl) (by rfl) trivial) (by rfl) (some 153) (by rfl) (by exact fun _ _ h => h) ?_
      rintro _ -
      skip
      refine Rg.does 19 (by rfl) (by kernel_rfl) (Does.read (show Oper.op _ = Op.call { callee := Callee.value (Operand.func 9), args := #[Operand.tmp 153, Operand.tmp 157], argTypes := #[43, 43] } from rfl) Tryz.func9 (by kernel_rfl) (by kernel_rfl) (hds) (by rfl) (by rfl) ⟨ReadsIn.rd 4 (by rfl), ReadsIn.rd 5 (by rfl), ReadsIn.rd 6 (by rfl), ReadsIn.rd 7 (by rfl), trivial⟩) (by rfl) (some 158) (by rfl) (by exact fun _ _ h => h) ?_
      rintro _ -
      refine Rg.ev 20 (by rfl) (fun _ h => h) (Ev.not (show Oper.op _ = Op.unOp UnOp.not 4 (Operand.tmp 158) from rfl) (by rfl)) (by rfl) (some 159) (by rfl) (by kernel_rfl) (by kernel_rfl) (by kernel_rfl) (by kernel_rfl) ?_
      refine Rg.ev 21 (by rfl) (fun _ h => h) (Ev.pickF (show Oper.op _ = Op.pick (Operand.tmp 148) (Operand.const (Value.bool true)) (Operand.tmp 159) from rfl) (by rfl) (by rfl)) (by rfl) (some 160) (by rfl) (by kernel_rfl) (by kernel_rfl) (by kernel_rfl) (by kernel_rfl) ?_
      refine Rg.done (by kernel_rfl) ?_ _
      refine Cd.cond_false (by rfl) (rfl) ?_
      refine Cd.skip ?_
      refine Cd.region ?_
      refine Ls.ev (some 161) (Ev.addI (show Oper.op _ = Op.binOp BinOp.add 3 (Operand.tmp 136) (Operand.const (Value.int IntKind.i64 1)) 3 from rfl) (by rfl) (by rfl) (by omega)) (by rfl) (by rfl) ?_
      refine Ls.ev (some 136) (Ev.move (show Oper.op _ = Op.move (Operand.tmp 161) from rfl) (by rfl)) (by rfl) (by rfl) ?_
      refine Ls.nil ?_
      refine Ent.pick [0, 1, 2, 3, 8, 9] (by rfl) ?_
      refine Ent.inv (k + 1) ?_ ?_ ?_
      · (try dsimp only); exact ⟨hlt, by omega⟩
      · (repeat (first | exact trivial | refine ⟨by rfl, ?_⟩ | refine ⟨by simp only [List.length_append, List.length_cons, List.length_nil]; rfl, ?_⟩ | refine ⟨by push_cast; rfl, ?_⟩))
      · rfl
    · skip
      refine Cd.exit ?_
      refine Cd.seq ?_
      refine Cd.region ?_
      refine Ls.ev (some 4) (Ev.assign (show Oper.op _ = Op.assign (Operand.const (Value.bool true)) from rfl) (by rfl)) (by rfl) (by rfl) ?_
      refine Ls.nil ?_
      refine Cd.ret ?_
      refine Ent.ret (()) (trivial) (Res.tmp (by rfl) (by rfl)) ?_ [] (by rfl) ?_
      · rfl
      · rfl
end Go.Proofs.YtemcigoelcblbaaGreatDoor
/- A law over laid variables: the row's step, once for all. -/
namespace Go.Proofs.YtemcigoelcblbaaGreatDoor
open Go.ChangeShapes Go.WideShapes Go.ChangeAt Go.RowKit

/-- A law that answers true and writes nothing that was there, over laid variables: its row's step, in either form. -/
theorem lift_laid {C : Checked} {os : Os} {f : FuncId} {fn : Func} {s : ChangeSpec} {sp : OpenSpec} {H : Type} {enc : TypeId × Value → H} {conds : List PathCond} {tb : TypeId} {F : Stop.Interp} {laid : List (String × DataW Unit)} (ts : Array TypeId)
    (hbare : sp.bare.plain.varTypes C.prog = []) (hat : (sp.at F) = s)
    (own : ownKnob C.prog.godebug = none) (lo : laidOutB C.prog = true) (started : os.Started) (noInit : C.prog.inits.idxOf? f = none) (hfn : C.prog.funcs[f]? = some fn)
    (witness : ∃ (w : World) (tape : Tape) (i : Input), w.os = os ∧ (w.forCall tape i).Shaped C.prog ∧ i.vars = [] ∧ Input.okWide C.prog (w.forCall tape i) .any w.heap.size f i ∧
      sp.preRow enc C.prog fn conds false laid (w.forCall tape i).memory i.args ∧ ({} : Assume).holds C.prog (lone (Frame.enter C.prog f i.args .normal) [] (w.forCall tape i)))
    (hts : fn.params = ts) (hrow : rowed C.prog ts.toList = true) (hvars : s.vars = []) (hvars2 : sp.vars = []) (hres : fn.resultTypes = #[tb]) (hb : C.prog.underlying tb = some .bool)
    (hs : ∀ ds : List (DataW H), ds.length = ts.toList.length → s.fn H ds = { results := [.lit (.bool true)], args := ds })
    (walk : ∀ (W : World) (args : Array Value) (ds : List (DataW H)) (p : List MemPlace), laidMetH C.prog laid W → W.ShapedOpen C.prog → Vals C.prog W ts.toList args.toList →
      DataW.TrodAll enc C.prog W 0 (fun _ => true) true ts.toList args.toList ds p → (∀ k, sp.cond = some k → k H ds = true) →
      Calls C.prog f args W fun e W' => e = .returned (.bool true) ∧ Below W.heap.size W W') :
    ReturnsInHanded {} C os f .any (sp.preRow enc C.prog fn conds false laid) ((sp.at F).post enc C.prog fn false true false false) := by
  refine returnsInHanded_of_row own started noInit hfn witness ?_
  intro W base args ds gs before hval hW _ hk hsz hL hsh _
  subst hts
  rw [hvars2] at hW
  have hW' : DataW.Whole enc C.prog fn.params.toList s.vars false W args.toList ds gs before := by rw [hvars]; exact hW
  have hW2 := hW'
  obtain ⟨p, q, hA, hV, rfl, _, _⟩ := hW2
  rw [hvars] at hV
  obtain ⟨rfl, rfl⟩ := trodVars_none hV
  rw [hbare, List.append_nil, List.append_nil] at hsz
  have hv := vals_of_trodAll (fun j t v hj hj' => hval j t v (by simpa using hj) (by simpa using hj')) hA (fun n hn => by simpa using List.all_eq_true.1 hsz n hn)
  refine (walk W args ds p hL hsh hv hA (fun k h => by simpa using hk k h)).mono fun e W' ⟨he, bel⟩ => ?_
  subst he
  have hfn' : s.fn H (ds ++ []) = { results := [.lit (.bool true)], args := ds } := by
    rw [List.append_nil]
    exact hs ds (trodAll_length hA).1
  have key : s.post enc C.prog fn false true false false W args (.bool true) W' := by
    refine ⟨ds, [], p ++ [], [], p, [], hW', ?_, ?_, ?_, bel.frame _, fun h => by cases h⟩
    · rw [hfn', hres]
      exact trodAll_mk1 (shut_bool hb true)
    · rw [hfn']
      exact trodAll_below lo bel hrow hA
    · rw [hfn', hvars]
      rfl
  rw [hat]
  exact ⟨_, rfl, key⟩

/-- Pieces that are all read alone. -/
theorem sat0_ro {H : List Chunk} {w : World} (hx : ∀ D ∈ H, D.excl = false) (hh : ∀ D ∈ H, D.holds w) : Sat0 H w :=
  ⟨hh, List.pairwise_iff_getElem.2 fun i j hi hj _ he => by
    rw [hx _ (List.getElem_mem hi), hx _ (List.getElem_mem hj)] at he
    rcases he with he | he <;> cases he⟩
theorem Fn.lawR {P : Program} {f : FuncId} {args : Array Value} {W : World} {H : List Chunk} (hx : ∀ D ∈ H, D.excl = false) (hh : ∀ D ∈ H, D.holds W)
    (h : Fn P f args H Unit (fun _ => .bool true) (fun _ => []) (fun _ => True)) : Calls P f args W fun e w' => e = .returned (.bool true) ∧ Below W.heap.size W w' :=
  (h W (sat0_ro hx hh)).mono fun e w' ⟨_, _, he, hs⟩ => ⟨he, hs.upd.to_below (Nat.le_refl _) fun k _ ⟨D, hD, hd, _⟩ => by rw [hx D hD] at hd; cases hd⟩

/-- A variable that the row lists as an error holds some error. -/
theorem iface_of_head {P : Program} {W : World} {n nm : String} {d : DataW Unit} {r : List (String × DataW Unit)} {g : Nat} {ti : TypeId} {ms : Array (String × TypeId)} (h : laidMet P ((n, .iface nm d) :: r) W)
    (hg : P.globalNamed n = some g) (ht : (P.globals[g]?).map (·.type) = some ti) (hi : P.underlying ti = some (.interface ms)) : ∃ tp p, W.var? P n = some #[.iface tp p] := by
  obtain ⟨ps, ⟨g0, t0, cs0, f0, p0, q0, hg0, ht0, hv0, hd0, _, _⟩, _, _⟩ := h
  obtain rfl := Option.some.inj (hg.symm.trans hg0)
  obtain rfl := Option.some.inj (ht.symm.trans ht0)
  obtain ⟨_, u, v, e, _, _⟩ := iface_of_trod hi hd0
  obtain ⟨l0⟩ := cs0
  subst e
  exact ⟨u, v, hv0⟩

def lawsLaid : List (String × DataW Unit) := [("math/bits.deBruijn32tab", Rows.laid_math_bits_deBruijn32tab), ("math/bits.deBruijn64tab", Rows.laid_math_bits_deBruijn64tab), ("internal/strconv.uint64pow10", Rows.laid_internal_strconv_uint64pow10), ("unicode/utf8.acceptRanges", Rows.laid_unicode_utf8_acceptRanges), ("strconv.ErrRange", Rows.laid_strconv_ErrRange), ("strconv.ErrSyntax", Rows.laid_strconv_ErrSyntax), ("unicode/utf8.first", Rows.laid_unicode_utf8_first)]
theorem pow10_data : (Rows.laid_internal_strconv_uint64pow10 : DataW Unit) = Lib.tabData .u64 Lib.pow10Tab := by kernel_rfl
theorem laidH_of_row {W : World} (h : laidMetH Tryz.prog lawsLaid W) (hsh : W.ShapedOpen Tryz.prog) : laidH W := by
  rw [MakeChecks.laidMetH_plain _ _ _ (by kernel_rfl)] at h
  have h2 : laidMet Tryz.prog (("internal/strconv.uint64pow10", Lib.tabData .u64 Lib.pow10Tab) :: lawsLaid.drop 3) W := by
    rw [← pow10_data]
    exact h.tail.tail
  refine ⟨?_, ?_, ?_, ?_⟩
  · exact cell_of_shapedOpen_int (t := 3) (zero := #[.int .i64 0]) hsh (of_decide_eq_true (by kernel_rfl)) (by kernel_rfl) rfl (by kernel_rfl) (by kernel_rfl) Tryz.underlying3
  · exact Lib.tabIs_of_head gT (by kernel_rfl) Tryz.underlying160 Tryz.underlying144 (by kernel_rfl) (by kernel_rfl) h2
  · exact iface_of_head h.tail.tail.tail.tail.tail gS (by kernel_rfl) Tryz.underlying102
  · exact iface_of_head h.tail.tail.tail.tail gR (by kernel_rfl) Tryz.underlying102

/-! ### one start that fits -/
/-- The cells of a table, as the row lists it. -/
def flatD : Nat → DataW Unit → List Value
  | 0, _ => []
  | _ + 1, .lit (.int k m) => [.int k m]
  | n + 1, .agg ps => ps.flatMap (flatD n)
  | _ + 1, _ => []
noncomputable def low : Nat := (World.holding Tryz.prog default ⟨#[], #[], []⟩).heap.size
def putG (cs : List Value) : Obj → Obj
  | .cells _ t frozen => .cells cs.toArray t frozen
  | o => o
noncomputable def laidWorld (os : Os) : World :=
  let w0 := World.holding Tryz.prog os ⟨#[.cells #[.string (txt [118, 97, 108, 117, 101, 32, 111, 117, 116, 32, 111, 102, 32, 114, 97, 110, 103, 101])] 158, .cells #[.string (txt [105, 110, 118, 97, 108, 105, 100, 32, 115, 121, 110, 116, 97, 120])] 158], #[], []⟩
  { w0 with heap := ((((((w0.heap.modify 6 (putG (flatD 3 Rows.laid_math_bits_deBruijn32tab))).modify 7 (putG (flatD 3 Rows.laid_math_bits_deBruijn64tab))).modify 5 (putG (flatD 3 Rows.laid_internal_strconv_uint64pow10))).modify 2 (putG (flatD 3 Rows.laid_unicode_utf8_acceptRanges))).modify 1 (putG (flatD 3 Rows.laid_unicode_utf8_first))).modify 4 (putG [.iface 156 (.pointer (some ⟨low, 0, none⟩))])).modify 3 (putG [.iface 156 (.pointer (some ⟨low + 1, 0, none⟩))]) }
theorem laid_met (os : Os) (args : Array Value) : laidMet Tryz.prog lawsLaid ((laidWorld os).forCall (fun _ _ => 0) ⟨#[], args, []⟩).memory :=
  laidMet_of_run' 8 (by kernel_rfl) (by kernel_rfl)
theorem laid_metH (os : Os) (args : Array Value) : laidMetH Tryz.prog lawsLaid ((laidWorld os).forCall (fun _ _ => 0) ⟨#[], args, []⟩).memory := by
  rw [MakeChecks.laidMetH_plain _ _ _ (by kernel_rfl)]
  exact laid_met os args
theorem own_none : ownKnob Tryz.prog.godebug = none := by kernel_rfl
theorem laid_outB : laidOutB Tryz.prog = true := by kernel_rfl
end Go.Proofs.YtemcigoelcblbaaGreatDoor
