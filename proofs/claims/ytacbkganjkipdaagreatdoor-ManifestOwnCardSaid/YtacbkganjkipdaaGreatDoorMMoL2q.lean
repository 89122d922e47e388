/-
  Texts joined: MoE, MoF, MnV, MnW, MoC, SlU, MoG, DvU, RfA.
-/
import Derived.Test.YtacbkganjkipdaaGreatDoorMMoL2m
import Derived.Test.YtacbkganjkipdaaGreatDoorMMoL2n
import Derived.Test.YtacbkganjkipdaaGreatDoorMMoL2p
/- steps, one behind the other -/
namespace Go.Proofs.YtacbkganjkipdaaGreatDoor
open Go.RowKit
/-- The piece is read alone, and lies within these. -/
def Cov (Cs : List Chunk) (C : Chunk) : Prop := C.excl = false ∧ (∀ w, (stars Cs).holds w → C.holds w) ∧ ∀ k, C.foot k → (stars Cs).foot k
theorem Cov.mem {Cs : List Chunk} {C : Chunk} (he : C.excl = false) (h : C ∈ Cs) : Cov Cs C := ⟨he, fun _ hw => (hw C h).2, fun _ hk => ⟨C, h, hk⟩⟩
theorem Cov.stars {Cs Ds : List Chunk} {C : Chunk} (he : C.excl = false) (h : Go.Proofs.YtacbkganjkipdaaGreatDoor.stars Ds ∈ Cs) (hC : C ∈ Ds) : Cov Cs C := ⟨he, fun _ hw => ((hw _ h).2 C hC).2, fun _ hk => ⟨_, h, ⟨C, hC, hk⟩⟩⟩
theorem Fn.cov {P : Program} {f : FuncId} {args : Array Value} {Hr Dp Cs : List Chunk} {ι : Type} {res : ι → Value} {H' : ι → List Chunk} {φ : ι → Prop} (h : Fn P f args (Hr ++ Dp) ι res H' φ) (hc : ∀ C ∈ Hr, Cov Cs C) : Fn P f args (stars Cs :: Dp) ι res H' φ := fun w hs => by
  obtain ⟨hh, hp⟩ := hs
  obtain ⟨hp1, hp2⟩ := List.pairwise_cons.1 hp
  have hst : (stars Cs).holds w := hh _ List.mem_cons_self
  have hs2 : Sat0 (Hr ++ Dp) w := by
    refine ⟨fun C hC => ?_, List.pairwise_append.2 ⟨?_, hp2, fun C hC D hD he k hk hk' => ?_⟩⟩
    · rcases List.mem_append.1 hC with hC | hC
      · exact (hc C hC).2.1 w hst
      · exact hh C (List.mem_cons_of_mem _ hC)
    · rw [List.pairwise_iff_getElem]
      intro i j hi hj _ he
      rw [(hc _ (List.getElem_mem hi)).1, (hc _ (List.getElem_mem hj)).1] at he
      rcases he with he | he <;> cases he
    · rw [(hc C hC).1] at he
      rcases he with he | he
      · cases he
      · exact hp1 D hD (.inr he) k ((hc C hC).2.2 k hk) hk'
  refine (h w hs2).mono fun e w' ⟨i, h1, h2, h3⟩ => ⟨i, h1, h2, ?_⟩
  have hS : ∀ k, Ctx.S ⟨w, Hr ++ Dp⟩ k → Ctx.S ⟨w, stars Cs :: Dp⟩ k := fun k ⟨D, hD, he, hk⟩ => by
    rcases List.mem_append.1 hD with hD | hD
    · rw [(hc D hD).1] at he
      cases he
    · exact ⟨D, List.mem_cons_of_mem _ hD, he, hk⟩
  refine ⟨h3.upd.mono fun k _ => hS k, h3.sat, fun C hC k hk hl => ?_⟩
  obtain ⟨⟨D, hD, hk2⟩, h5⟩ := h3.fits C hC k hk hl
  refine ⟨?_, fun he => hS k (h5 he)⟩
  rcases List.mem_append.1 hD with hD | hD
  · exact ⟨stars Cs, List.mem_cons_self, (hc D hD).2.2 k hk2⟩
  · exact ⟨D, List.mem_cons_of_mem _ hD, hk2⟩
/-- A step over the drive at d, whatever lies there. -/
def StepOk (d m : Nat) (Cs : List Chunk) (v : Value) (f : DrP → DrP × Int) : Prop := ∀ (D : DrS) (P : DrP), Drv D P → D.d = d → D.m = m → FnV Tryz.prog v [] [stars Cs, D.B, D.M, D.F] DrS (fun _ => .int .i64 (f P).2) (fun D' => [D'.B, D'.M, D'.F]) (fun D' => Drv D' (f P).1 ∧ D'.d = d ∧ D'.m = m)
structure StP where
  v : Value
  f : DrP → DrP × Int
  one : v.oneCell' = true
theorem elem_fn : Elem Tryz.prog 157 103 1 8 := elem_of (by kernel_rfl)
theorem one_fn (L : List StP) : ∀ u ∈ L.map StP.v, u.oneCell' = true := fun u hu => by
  obtain ⟨x, _, rfl⟩ := List.mem_map.1 hu
  exact x.one
theorem runP_step {fs : List (DrP → DrP × Int)} {f : DrP → DrP × Int} {k : Nat} {P : DrP} (h : fs[k]? = some f) : runP (fs.drop k) P = if (f P).2 ≠ 0 then f P else runP (fs.drop (k + 1)) (f P).1 := by
  obtain ⟨h1, h2⟩ := List.getElem?_eq_some_iff.1 h
  rw [List.drop_eq_getElem_cons h1, h2, runP]
theorem msteps_sl {d m : Nat} {Cs : List Chunk} (L : List StP) (hL : ∀ s ∈ L, StepOk d m Cs s.v s.f) (hn : L.length ≤ 1000000) {D : DrS} {P : DrP} (h : Drv D P) (hd : D.d = d) (hm : D.m = m) (A : Option Addr) (c : Nat) :
    Fn Tryz.prog 51 #[.slice A L.length c] [rd A L.length 1 (L.map StP.v), stars Cs, D.B, D.M, D.F] DrS (fun _ => .int .i64 (runP (L.map StP.f) P).2) (fun D' => [D'.B, D'.M, D'.F]) (fun D' => Drv D' (runP (L.map StP.f) P).1 ∧ D'.d = d ∧ D'.m = m) := by
  refine Fn.enter Tryz.func51 rfl Tryz.ntmps51 (by rfl) ?_
  intro w0
  skip
  refine Cd.seq ?_
  refine Cd.region ?_
  refine Ls.qA 2 ?_
  refine Ls.nil ?_
  refine Cd.seq ?_
  refine Cd.seq ?_
  refine Cd.region ?_
  refine Ls.qM 6 ?_
  refine Ls.qE 7 (Ev.len rfl (by rfl) Tryz.underlying157) ?_
  refine Ls.qM 8 ?_
  refine Ls.nil ?_
  refine Cd.block ?_
  refine Cd.loop (ι := Nat × DrS × DrP) (fun p => [(6, .slice A L.length c), (7, .int .i64 L.length), (8, .int .i64 p.1)]) (fun p => [rd A L.length 1 (L.map StP.v), stars Cs, p.2.1.B, p.2.1.M, p.2.1.F]) (fun p => (p.1 ≤ L.length ∧ Drv p.2.1 p.2.2 ∧ p.2.1.d = d ∧ p.2.1.m = m) ∧ runP (L.map StP.f) P = runP ((L.map StP.f).drop p.1) p.2.2) (fun p => L.length - p.1) ((0, D, P)) (⟨⟨Nat.zero_le _, h, hd, hm⟩, by rw [List.drop_zero]⟩) ?_ rfl ?_
  · (repeat (first | exact trivial | refine ⟨by rfl, ?_⟩))
  clear h hd hm
  rintro ⟨k, D1, Q⟩ ⟨⟨hk, h, hd, hm⟩, hrun⟩
  dsimp only at hk h hd hm hrun ⊢
  refine Cd.seq ?_
  refine Cd.region ?_
  refine Ls.qE 9 (Ev.lss rfl (by rfl) (by rfl)) ?_
  refine Ls.nil ?_
  refine Cd.seq ?_
  refine Cd.cond _ (by rfl) (fun h2 => ?_) (fun h2 => ?_)
  · skip
    have hlt : k < L.length := by have := of_decide_eq_true h2; omega
    obtain ⟨s, hs⟩ := get_of_lt hlt
    have hv : (L.map StP.v)[k * 1]? = some s.v := by rw [Nat.mul_one, List.getElem?_map, hs]; rfl
    have hf : (L.map StP.f)[k]? = some s.f := by rw [List.getElem?_map, hs]; rfl
    have hsv := hL s (List.mem_of_getElem? hs) D1 Q h hd hm
    rw [runP_step hf] at hrun
    refine Ent.rdSome 0 (by rfl) (by omega) (fun ad had => ?_)
    subst had
    refine Cd.skip ?_
    refine Cd.seq ?_
    refine Cd.block ?_
    refine Cd.seq ?_
    refine Cd.region ?_
    refine Ls.qE 10 (Ev.indexAt (sz := 1) rfl (by rfl) (by rfl) Tryz.underlying157 (by kernel_rfl) (by omega)) ?_
    refine Ls.qE 11 (Ev.loadR 0 rfl (by rfl) (by rfl) (by kernel_rfl) (by omega) (by assumption)) ?_
    refine Ls.qA 4 ?_
    refine Ls.nil ?_
    refine Cd.seq ?_
    refine Cd.regionI ?_
    refine Li.ev (some 12) (Ev.move rfl (by rfl)) (by rfl) (by rfl) ?_
    refine Li.does (some 13) (Does.callV [1, 2, 3, 4, 0, 1] rfl (by rfl) (hsv) (by rfl) (by rfl) (by rfl)) (by rfl) (by rfl) ?_
    rintro D' ⟨h', hd', hm'⟩
    refine Li.ev (some 5) (Ev.assign rfl (by rfl)) (by rfl) (by rfl) ?_
    refine Li.nil ?_
    refine Cd.seq ?_
    refine Cd.region ?_
    refine Ls.qM 14 ?_
    refine Ls.qE 15 (Ev.neq rfl (by rfl) (by rfl)) ?_
    refine Ls.nil ?_
    by_cases hz : (s.f Q).2 = 0
    · rw [if_neg (fun e => e hz)] at hrun
      skip
      refine Cd.cond_false (by rfl) (decide_eq_false (show ¬ ((s.f Q).2 ≠ 0) from fun e => e hz)) ?_
      refine Cd.skip ?_
      refine Cd.region ?_
      refine Ls.qE 17 (Ev.addN (b := 1) rfl (by rfl) (by rfl) (by omega)) ?_
      refine Ls.qM 8 ?_
      refine Ls.nil ?_
      refine Ent.pick [3, 4, 0, 1, 2] (by rfl) ?_
      refine Ent.inv ((k + 1, D', (s.f Q).1)) ?_ ?_ ?_
      · (try dsimp only); exact ⟨⟨⟨hlt, h', hd', hm'⟩, hrun⟩, by omega⟩
      · (repeat (first | exact trivial | refine ⟨by rfl, ?_⟩ | refine ⟨by simp only [List.length_append, List.length_cons, List.length_nil]; rfl, ?_⟩ | refine ⟨by push_cast; rfl, ?_⟩))
      · rfl
    · rw [if_pos hz] at hrun
      rw [hrun]
      skip
      refine Cd.cond_true (by rfl) (decide_eq_true hz) ?_
      refine Cd.seq ?_
      refine Cd.region ?_
      refine Ls.qM 16 ?_
      refine Ls.qA 2 ?_
      refine Ls.nil ?_
      refine Cd.ret ?_
      refine Ent.ret (D') (⟨h', hd', hm'⟩) (Res.tmp (by rfl) (by rfl)) ?_ [0, 1, 2] (by rfl) ?_
      · rfl
      · rfl
  · skip
    have hge : L.length ≤ k := by have := of_decide_eq_false h2; omega
    rw [List.drop_of_length_le (by rw [List.length_map]; omega), runP] at hrun
    rw [hrun]
    refine Cd.exit ?_
    refine Cd.seq ?_
    refine Cd.region ?_
    refine Ls.qA 2 ?_
    refine Ls.nil ?_
    refine Cd.ret ?_
    refine Ent.ret (D1) (⟨h, hd, hm⟩) (Res.tmp (by rfl) (by rfl)) ?_ [2, 3, 4] (by rfl) ?_
    · rfl
    · rfl
/-! ### What the steps are -/
abbrev bxD (g d : Nat) : Chunk := rblk g 37 [ptrV d]
abbrev bxT (g : Nat) (q : List UInt8) : Chunk := rblk g 9 [.string (txt q)]
abbrev bxB (g : Nat) (A : Option Addr) (n c : Nat) : Chunk := rblk g 47 [.slice A n c]
abbrev clV (f : Nat) (caps : List Value) : Value := .func (.func f) #[] caps.toArray
theorem step_of {d m : Nat} {Cs : List Chunk} {f : Nat} {fn : Func} {caps : List Value} {g : DrP → DrP × Int} (hf : Tryz.prog.funcs[f]? = some fn) (h1 : (fn.name == "runtime.NumGoroutine") = false) (h2 : fn.body.isNone = false) (Hr : DrS → List Chunk) (hc : ∀ D : DrS, D.d = d → ∀ C ∈ Hr D, Cov Cs C)
    (h : ∀ (D : DrS) (P : DrP), Drv D P → Fn Tryz.prog f caps.toArray (Hr D ++ [D.B, D.M, D.F]) DrS (fun _ => .int .i64 (g P).2) (fun D' => [D'.B, D'.M, D'.F]) (fun D' => Drv D' (g P).1 ∧ D'.d = D.d ∧ D'.m = D.m)) : StepOk d m Cs (clV f caps) g := fun D P hD hd hm =>
  ⟨f, fn, caps, rfl, hf, h1, h2, (Fn.cov (h D P hD) (hc D hd)).turn fun D' ⟨x, y, z⟩ => ⟨D', ⟨x, y.trans hd, z.trans hm⟩, rfl, fun _ _ hs => hs⟩⟩
section
variable {D : DrS} {P : DrP}
theorem sw1_sl (h : Drv D P) (g : Nat) : Fn Tryz.prog 99 #[ptrV g] [bxD g D.d, D.B, D.M, D.F] DrS (fun _ => .int .i64 (P.delete qTmp).2) (fun D' => [D'.B, D'.M, D'.F]) (fun D' => Drv D' (P.delete qTmp).1 ∧ D'.d = D.d ∧ D'.m = D.m) := by
  refine Fn.enter Tryz.func99 rfl Tryz.ntmps99 (by rfl) ?_
  intro w0
  skip
  refine Cd.seq ?_
  refine Cd.region ?_
  refine Ls.qA 1 ?_
  refine Ls.nil ?_
  refine Cd.seq ?_
  refine Cd.region ?_
  refine Ls.qE 2 (Ev.loadB 0 rfl (by rfl) (by rfl) (by kernel_rfl) (by rfl)) ?_
  refine Ls.does (some 3) (Does.call [1, 2, 3] rfl Tryz.func100 (by kernel_rfl) (by kernel_rfl) (delete_sl h qTmp qTmp_good) (by rfl) (by rfl) (by rfl)) (by rfl) (by rfl) ?_
  rintro D' ⟨h', hd, hm⟩
  refine Ls.qA 1 ?_
  refine Ls.nil ?_
  refine Cd.ret ?_
  refine Ent.ret (D') (⟨h', hd, hm⟩) (Res.tmp (by rfl) (by rfl)) ?_ [0, 1, 2] (by rfl) ?_
  · rfl
  · rfl
theorem sw2_sl (h : Drv D P) (g gl gb : Nat) (q : List UInt8) (hq : Good q) (A : Option Addr) (c : Nat) (l : List UInt8) (hl : l.length ≤ 1099511627776) : Fn Tryz.prog 101 #[ptrV g, ptrV gl, ptrV gb] [bxD g D.d, bxT gl q, bxB gb A l.length c, rdB A l, D.B, D.M, D.F] DrS (fun _ => .int .i64 (P.append q l).2) (fun D' => [D'.B, D'.M, D'.F]) (fun D' => Drv D' (P.append q l).1 ∧ D'.d = D.d ∧ D'.m = D.m) := by
  refine Fn.enter Tryz.func101 rfl Tryz.ntmps101 (by rfl) ?_
  intro w0
  skip
  refine Cd.seq ?_
  refine Cd.region ?_
  refine Ls.qA 3 ?_
  refine Ls.nil ?_
  refine Cd.seq ?_
  refine Cd.region ?_
  refine Ls.qE 4 (Ev.loadB 0 rfl (by rfl) (by rfl) (by kernel_rfl) (by rfl)) ?_
  refine Ls.qE 5 (Ev.loadB 1 rfl (by rfl) (by rfl) (by kernel_rfl) (by rfl)) ?_
  refine Ls.qE 6 (Ev.loadB 2 rfl (by rfl) (by rfl) (by kernel_rfl) (by rfl)) ?_
  refine Ls.does (some 7) (Does.call [4, 5, 6, 3] rfl Tryz.func53 (by kernel_rfl) (by kernel_rfl) (append_sl h q hq A c l hl) (by rfl) (by rfl) (by rfl)) (by rfl) (by rfl) ?_
  rintro D' ⟨h', hd, hm⟩
  refine Ls.qA 3 ?_
  refine Ls.nil ?_
  refine Cd.ret ?_
  refine Ent.ret (D') (⟨h', hd, hm⟩) (Res.tmp (by rfl) (by rfl)) ?_ [0, 1, 2] (by rfl) ?_
  · rfl
  · rfl
theorem sw3_sl (h : Drv D P) (g gl : Nat) (q : List UInt8) (hq : Good q) : Fn Tryz.prog 102 #[ptrV g, ptrV gl] [bxD g D.d, bxT gl q, D.B, D.M, D.F] DrS (fun _ => .int .i64 (P.sync q).2) (fun D' => [D'.B, D'.M, D'.F]) (fun D' => Drv D' (P.sync q).1 ∧ D'.d = D.d ∧ D'.m = D.m) := by
  refine Fn.enter Tryz.func102 rfl Tryz.ntmps102 (by rfl) ?_
  intro w0
  skip
  refine Cd.seq ?_
  refine Cd.region ?_
  refine Ls.qA 2 ?_
  refine Ls.nil ?_
  refine Cd.seq ?_
  refine Cd.region ?_
  refine Ls.qE 3 (Ev.loadB 0 rfl (by rfl) (by rfl) (by kernel_rfl) (by rfl)) ?_
  refine Ls.qE 4 (Ev.loadB 1 rfl (by rfl) (by rfl) (by kernel_rfl) (by rfl)) ?_
  refine Ls.does (some 5) (Does.call [2, 3, 4] rfl Tryz.func55 (by kernel_rfl) (by kernel_rfl) (sync_sl h q hq) (by rfl) (by rfl) (by rfl)) (by rfl) (by rfl) ?_
  rintro D' ⟨h', hd, hm⟩
  refine Ls.qA 2 ?_
  refine Ls.nil ?_
  refine Cd.ret ?_
  refine Ent.ret (D') (⟨h', hd, hm⟩) (Res.tmp (by rfl) (by rfl)) ?_ [0, 1, 2] (by rfl) ?_
  · rfl
  · rfl
theorem sw4_sl (h : Drv D P) (g gl : Nat) (q : List UInt8) (hq : Good q) : Fn Tryz.prog 103 #[ptrV g, ptrV gl] [bxD g D.d, bxT gl q, D.B, D.M, D.F] DrS (fun _ => .int .i64 (P.append qTmp q).2) (fun D' => [D'.B, D'.M, D'.F]) (fun D' => Drv D' (P.append qTmp q).1 ∧ D'.d = D.d ∧ D'.m = D.m) := by
  have hql := hq.len
  refine Fn.enter Tryz.func103 rfl Tryz.ntmps103 (by rfl) ?_
  intro w0
  skip
  refine Cd.seq ?_
  refine Cd.region ?_
  refine Ls.qA 2 ?_
  refine Ls.nil ?_
  refine Cd.seq ?_
  refine Cd.region ?_
  refine Ls.qE 3 (Ev.loadB 0 rfl (by rfl) (by rfl) (by kernel_rfl) (by rfl)) ?_
  refine Ls.qE 4 (Ev.loadB 1 rfl (by rfl) (by rfl) (by kernel_rfl) (by rfl)) ?_
  refine Ls.does (some 5) (Does.bytesOf (l := q) rfl (by rfl) Tryz.underlying9 Tryz.underlying47 Tryz.underlying5 (by unfold maxLen; omega)) (by rfl) (by rfl) ?_
  rintro ⟨bA, bc⟩ hbc
  refine Ls.does (some 6) (Does.call [3, 4, 5, 0] rfl Tryz.func53 (by kernel_rfl) (by kernel_rfl) (append_sl h qTmp qTmp_good (some ⟨bA, 0, none⟩) bc q (by omega)) (by rfl) (by rfl) (by rfl)) (by rfl) (by rfl) ?_
  rintro D' ⟨h', hd, hm⟩
  refine Ls.qA 2 ?_
  refine Ls.nil ?_
  refine Cd.ret ?_
  refine Ent.ret (D') (⟨h', hd, hm⟩) (Res.tmp (by rfl) (by rfl)) ?_ [0, 1, 2] (by rfl) ?_
  · rfl
  · rfl
theorem sw5_sl (h : Drv D P) (g : Nat) : Fn Tryz.prog 104 #[ptrV g] [bxD g D.d, D.B, D.M, D.F] DrS (fun _ => .int .i64 (P.sync qTmp).2) (fun D' => [D'.B, D'.M, D'.F]) (fun D' => Drv D' (P.sync qTmp).1 ∧ D'.d = D.d ∧ D'.m = D.m) := by
  refine Fn.enter Tryz.func104 rfl Tryz.ntmps104 (by rfl) ?_
  intro w0
  skip
  refine Cd.seq ?_
  refine Cd.region ?_
  refine Ls.qA 1 ?_
  refine Ls.nil ?_
  refine Cd.seq ?_
  refine Cd.region ?_
  refine Ls.qE 2 (Ev.loadB 0 rfl (by rfl) (by rfl) (by kernel_rfl) (by rfl)) ?_
  refine Ls.does (some 3) (Does.call [1, 2, 3] rfl Tryz.func55 (by kernel_rfl) (by kernel_rfl) (sync_sl h qTmp qTmp_good) (by rfl) (by rfl) (by rfl)) (by rfl) (by rfl) ?_
  rintro D' ⟨h', hd, hm⟩
  refine Ls.qA 1 ?_
  refine Ls.nil ?_
  refine Cd.ret ?_
  refine Ent.ret (D') (⟨h', hd, hm⟩) (Res.tmp (by rfl) (by rfl)) ?_ [0, 1, 2] (by rfl) ?_
  · rfl
  · rfl
theorem sw6_sl (h : Drv D P) (g : Nat) : Fn Tryz.prog 105 #[ptrV g] [bxD g D.d, D.B, D.M, D.F] DrS (fun _ => .int .i64 (P.rename qTmp qCur).2) (fun D' => [D'.B, D'.M, D'.F]) (fun D' => Drv D' (P.rename qTmp qCur).1 ∧ D'.d = D.d ∧ D'.m = D.m) := by
  refine Fn.enter Tryz.func105 rfl Tryz.ntmps105 (by rfl) ?_
  intro w0
  skip
  refine Cd.seq ?_
  refine Cd.region ?_
  refine Ls.qA 1 ?_
  refine Ls.nil ?_
  refine Cd.seq ?_
  refine Cd.region ?_
  refine Ls.qE 2 (Ev.loadB 0 rfl (by rfl) (by rfl) (by kernel_rfl) (by rfl)) ?_
  refine Ls.does (some 3) (Does.call [1, 2, 3] rfl Tryz.func106 (by kernel_rfl) (by kernel_rfl) (rename_sl h qTmp qCur qTmp_good qCur_good (h.ok.rename qTmp qCur)) (by rfl) (by rfl) (by rfl)) (by rfl) (by rfl) ?_
  rintro D' ⟨h', hd, hm⟩
  refine Ls.qA 1 ?_
  refine Ls.nil ?_
  refine Cd.ret ?_
  refine Ent.ret (D') (⟨h', hd, hm⟩) (Res.tmp (by rfl) (by rfl)) ?_ [0, 1, 2] (by rfl) ?_
  · rfl
  · rfl
theorem sw7_sl (h : Drv D P) (g gl : Nat) (q : List UInt8) (hq : Good q) : Fn Tryz.prog 107 #[ptrV g, ptrV gl] [bxD g D.d, bxT gl q, D.B, D.M, D.F] DrS (fun _ => .int .i64 (P.delete q).2) (fun D' => [D'.B, D'.M, D'.F]) (fun D' => Drv D' (P.delete q).1 ∧ D'.d = D.d ∧ D'.m = D.m) := by
  refine Fn.enter Tryz.func107 rfl Tryz.ntmps107 (by rfl) ?_
  intro w0
  skip
  refine Cd.seq ?_
  refine Cd.region ?_
  refine Ls.qA 2 ?_
  refine Ls.nil ?_
  refine Cd.seq ?_
  refine Cd.region ?_
  refine Ls.qE 3 (Ev.loadB 0 rfl (by rfl) (by rfl) (by kernel_rfl) (by rfl)) ?_
  refine Ls.qE 4 (Ev.loadB 1 rfl (by rfl) (by rfl) (by kernel_rfl) (by rfl)) ?_
  refine Ls.does (some 5) (Does.call [2, 3, 4] rfl Tryz.func100 (by kernel_rfl) (by kernel_rfl) (delete_sl h q hq) (by rfl) (by rfl) (by rfl)) (by rfl) (by rfl) ?_
  rintro D' ⟨h', hd, hm⟩
  refine Ls.qA 2 ?_
  refine Ls.nil ?_
  refine Cd.ret ?_
  refine Ent.ret (D') (⟨h', hd, hm⟩) (Res.tmp (by rfl) (by rfl)) ?_ [0, 1, 2] (by rfl) ?_
  · rfl
  · rfl
abbrev bxM (g mg : Nat) : Chunk := rblk g 39 [ptrV mg]
theorem ch1_sl (h : Drv D P) (g mg gl gb : Nat) (B : Option Addr) (b : Nat) (m : MfP) (q : List UInt8) (hq : Good q) (A : Option Addr) (c : Nat) (l : List UInt8) (hl : l.length ≤ 1099511627776) : Fn Tryz.prog 52 #[ptrV g, ptrV gl, ptrV gb] [bxM g mg, rmfB mg D.d B b m, bxT gl q, bxB gb A l.length c, rdB A l, D.B, D.M, D.F] DrS (fun _ => .int .i64 (P.append q l).2) (fun D' => [D'.B, D'.M, D'.F]) (fun D' => Drv D' (P.append q l).1 ∧ D'.d = D.d ∧ D'.m = D.m) := by
  refine Fn.enter Tryz.func52 rfl Tryz.ntmps52 (by rfl) ?_
  intro w0
  skip
  skip
  refine Cd.seq ?_
  refine Cd.region ?_
  refine Ls.qA 3 ?_
  refine Ls.nil ?_
  refine Cd.seq ?_
  refine Cd.draw [6] (by kernel_rfl) ?_
  refine Rg.qE 0 4 (by rfl) (Ev.loadB 0 rfl (by rfl) (by rfl) (by kernel_rfl) (by rfl)) ?_
  refine Rg.qE 1 5 (by rfl) (Ev.nilCheck rfl (by rfl)) ?_
  refine Rg.qE 2 6 (by rfl) (Ev.fieldAddr (k := 0) rfl (by rfl) (by kernel_rfl) (by rfl)) ?_
  refine Rg.qE 3 7 (by rfl) (Ev.loadB 1 rfl (by rfl) (by rfl) (by kernel_rfl) (by rfl)) ?_
  refine Rg.qE 4 8 (by rfl) (Ev.loadB 2 rfl (by rfl) (by rfl) (by kernel_rfl) (by rfl)) ?_
  refine Rg.qE 5 9 (by rfl) (Ev.loadB 3 rfl (by rfl) (by rfl) (by kernel_rfl) (by rfl)) ?_
  refine Rg.tail 6 [] (by rfl) (by kernel_rfl) (Does.call [5, 6, 7, 4] rfl Tryz.func53 (by kernel_rfl) (by kernel_rfl) (append_sl h q hq A c l hl) (by rfl) (by rfl) (by rfl)) (by rfl) (some 10) (by rfl) (by kernel_rfl) (by kernel_rfl) ?_
  rintro D' ⟨h', hd, hm⟩
  refine Rg.qE 7 3 (by rfl) (Ev.assign rfl (by rfl)) ?_
  refine Rg.done (by kernel_rfl) ?_ _
  refine Cd.ret ?_
  refine Ent.ret (D') (⟨h', hd, hm⟩) (Res.tmp (by rfl) (by rfl)) ?_ [0, 1, 2] (by rfl) ?_
  · rfl
  · rfl
theorem ch2_sl (h : Drv D P) (g mg gl : Nat) (B : Option Addr) (b : Nat) (m : MfP) (q : List UInt8) (hq : Good q) : Fn Tryz.prog 54 #[ptrV g, ptrV gl] [bxM g mg, rmfB mg D.d B b m, bxT gl q, D.B, D.M, D.F] DrS (fun _ => .int .i64 (P.sync q).2) (fun D' => [D'.B, D'.M, D'.F]) (fun D' => Drv D' (P.sync q).1 ∧ D'.d = D.d ∧ D'.m = D.m) := by
  refine Fn.enter Tryz.func54 rfl Tryz.ntmps54 (by rfl) ?_
  intro w0
  skip
  skip
  refine Cd.seq ?_
  refine Cd.region ?_
  refine Ls.qA 2 ?_
  refine Ls.nil ?_
  refine Cd.seq ?_
  refine Cd.draw [5] (by kernel_rfl) ?_
  refine Rg.qE 0 3 (by rfl) (Ev.loadB 0 rfl (by rfl) (by rfl) (by kernel_rfl) (by rfl)) ?_
  refine Rg.qE 1 4 (by rfl) (Ev.nilCheck rfl (by rfl)) ?_
  refine Rg.qE 2 5 (by rfl) (Ev.fieldAddr (k := 0) rfl (by rfl) (by kernel_rfl) (by rfl)) ?_
  refine Rg.qE 3 6 (by rfl) (Ev.loadB 1 rfl (by rfl) (by rfl) (by kernel_rfl) (by rfl)) ?_
  refine Rg.qE 4 7 (by rfl) (Ev.loadB 2 rfl (by rfl) (by rfl) (by kernel_rfl) (by rfl)) ?_
  refine Rg.tail 5 [] (by rfl) (by kernel_rfl) (Does.call [3, 4, 5] rfl Tryz.func55 (by kernel_rfl) (by kernel_rfl) (sync_sl h q hq) (by rfl) (by rfl) (by rfl)) (by rfl) (some 8) (by rfl) (by kernel_rfl) (by kernel_rfl) ?_
  rintro D' ⟨h', hd, hm⟩
  refine Rg.qE 6 2 (by rfl) (Ev.assign rfl (by rfl)) ?_
  refine Rg.done (by kernel_rfl) ?_ _
  refine Cd.ret ?_
  refine Ent.ret (D') (⟨h', hd, hm⟩) (Res.tmp (by rfl) (by rfl)) ?_ [0, 1, 2] (by rfl) ?_
  · rfl
  · rfl
end
end Go.Proofs.YtacbkganjkipdaaGreatDoor
/- manifest.swap -/
namespace Go.Proofs.YtacbkganjkipdaaGreatDoor
open Go.RowKit
abbrev rowFn (A : Option Addr) (c : Nat) (L : List StP) : Chunk := row A L.length c 103 1 (L.map StP.v)
def spDel (g : Nat) : StP := ⟨clV 99 [ptrV g], fun P => P.delete qTmp, rfl⟩
def spFile (g : Nat) (x : Nat × List UInt8) : StP := ⟨clV 107 [ptrV g, ptrV x.1], fun P => P.delete x.2, rfl⟩
def spPre (P : DrP) (g : Nat) : List StP := if P.find qTmp = none then [] else [spDel g]
def spMid (g gl gb : Nat) (log l : List UInt8) : List StP :=
  [⟨clV 101 [ptrV g, ptrV gl, ptrV gb], fun P => P.append log l, rfl⟩, ⟨clV 102 [ptrV g, ptrV gl], fun P => P.sync log, rfl⟩, ⟨clV 103 [ptrV g, ptrV gl], fun P => P.append qTmp log, rfl⟩, ⟨clV 104 [ptrV g], fun P => P.sync qTmp, rfl⟩, ⟨clV 105 [ptrV g], fun P => P.rename qTmp qCur, rfl⟩]
theorem spPre_f (P : DrP) (g : Nat) : (spPre P g).map StP.f = if P.find qTmp = none then [] else [fun P => P.delete qTmp] := by
  unfold spPre
  split <;> rfl
theorem spPre_len (P : DrP) (g : Nat) : (spPre P g).length ≤ 1 := by
  unfold spPre
  split
  · exact Nat.zero_le _
  · exact Nat.le_refl _
theorem manN_snoc (l : List (List UInt8)) (q : List UInt8) : manN (l ++ [q]) = manN l ++ if numK kMan q = 0 then [] else [q] := by
  unfold manN
  rw [List.filter_append]
  by_cases h : numK kMan q = 0 <;> simp [h]
section
variable {Γ : Ctx} {N : Frm} {P : Program} {E : Env} {H : List Chunk} {o : Oper} {x y z : Operand}
theorem Ev.makeFunc3 {f : Nat} {v v' v2 : Value} (ho : o.op = .makeFunc (.func f) #[] #[x, y, z]) (hx : E.ev x = some v) (hy : E.ev y = some v') (hz : E.ev z = some v2) : Ev Γ N P E H o (.func (.func f) #[] #[v, v', v2]) := .of fun ρ hρ w => by
  simp [execOp, ho, hρ x _ hx, hρ y _ hy, hρ z _ hz, Instr.makeFunc]
end
abbrev bxX (X : List (Nat × List UInt8)) : List Chunk := X.map fun x => blk x.1 9 [.string (txt x.2)]
set_option maxHeartbeats 2000000 in
theorem mswap_sl {D : DrS} {P : DrP} (h : Drv D P) (mg : Nat) (B : Option Addr) (b : Nat) (m : MfP) (log : List UInt8) (hlog : Good log) (A : Option Addr) (c : Nat) (l : List UInt8) (hl : l.length ≤ 1099511627776) : Fn Tryz.prog 56 #[ptrV mg, .string (txt log), .slice A l.length c] [rmfB mg D.d B b m, rdB A l, laidC, D.B, D.M, D.F] DrS (fun _ => .int .i64 (runP (swapL P log l) P).2) (fun D' => [D'.B, D'.M, D'.F]) (fun D' => Drv D' (runP (swapL P log l) P).1 ∧ D'.d = D.d ∧ D'.m = D.m) := by
  have hpl := h.ok.len
  have hmem := find_mem h.ok qTmp
  have hnm := names_sl h
  obtain ⟨ns, hns⟩ : ∃ ns, ns = P.fs.map FiP.nm := ⟨_, rfl⟩
  have hnl : P.fs.length = ns.length := by rw [hns, List.length_map]
  rw [hnl, ← hns] at hnm
  rw [← hns] at hmem
  refine Fn.enter Tryz.func56 rfl Tryz.ntmps56 (by rfl) ?_
  intro w0
  skip
  refine Cd.seq ?_
  refine Cd.region ?_
  refine Ls.does (some 4) (Does.box rfl (by rfl)) (by rfl) (by rfl) ?_
  intro g1 _
  refine Ls.does (some 5) (Does.box rfl (by rfl)) (by rfl) (by rfl) ?_
  intro g2 _
  refine Ls.qA 6 ?_
  refine Ls.nil ?_
  refine Cd.seq ?_
  refine Cd.region ?_
  refine Ls.qM 11 ?_
  refine Ls.qE 12 (Ev.nilCheck rfl (by rfl)) ?_
  refine Ls.qF 13 0 ?_
  refine Ls.qE 14 (Ev.loadB 2 rfl (by rfl) (by rfl) (by kernel_rfl) (by rfl)) ?_
  refine Ls.does (some 7) (Does.alloc (cs := [.pointer none]) rfl (ZeroIs.mk (.pointer none) (by kernel_rfl) (by rfl))) (by rfl) (by rfl) ?_
  intro g3 _
  refine Ls.qD (Does.store 0 rfl (by rfl) (by rfl) (by rfl) (by kernel_rfl) (by rfl) (by kernel_rfl) (by rfl)) ?_
  intro _ _
  refine Ls.nil ?_
  refine Cd.seq ?_
  refine Cd.region ?_
  refine Ls.qA 8 ?_
  refine Ls.nil ?_
  refine Cd.seq ?_
  refine Cd.seq ?_
  refine Cd.region ?_
  refine Ls.qL 15 0 ?_
  refine Ls.does (some 16) (Does.readN rfl Tryz.func42 (by kernel_rfl) (by kernel_rfl) (hnm) (by rfl) (by rfl) ⟨blkIn 6 (by rfl), mapIn 7 (by rfl), trivial⟩ (fun _ => by rfl)) (by rfl) (by rfl) ?_
  rintro ⟨nA, nc⟩ -
  skip
  refine Ls.does (some 17) (Does.read rfl Tryz.func87 (by kernel_rfl) (by kernel_rfl) (contains_sl nA nc ns qTmp (by omega)) (by rfl) (by rfl) ⟨ReadsIn.row 0 (by rfl), trivial⟩) (by rfl) (by rfl) ?_
  rintro _ -
  refine Ls.nil ?_
  have hpre := spPre_len P g3
  refine Cd.cut (ι := Option Addr × Nat) (fun q => [(4, ptrV g1), (5, ptrV g2), (7, ptrV g3), (8, .slice q.1 (spPre P g3).length q.2)]) (fun q => [rowFn q.1 q.2 (spPre P g3), blk g3 37 [ptrV D.d], blk g2 47 [.slice A l.length c], blk g1 9 [.string (txt log)], rdB A l, laidC, D.B, D.M, D.F]) (fun _ => True) ?_ ?_
  · skip
    refine Ent.nil 103 1 ?_
    by_cases hq : qTmp ∈ ns
    · have hp : spPre P g3 = [spDel g3] := if_neg (hmem.1 hq)
      rw [hp]
      skip
      refine Cd.cond_true (by rfl) (decide_eq_true hq) ?_
      refine Cd.region ?_
      refine Ls.qM 18 ?_
      refine Ls.qE 19 (Ev.makeFunc1 rfl (by rfl)) ?_
      refine Ls.does (some 20) (Does.lit (sz := 1) rfl (by rfl) Tryz.underlying157 (by kernel_rfl) (by rfl) (by kernel_rfl)) (by rfl) (by rfl) ?_
      intro g4 _
      refine Ls.does (some 21) (Does.app (xs := []) (news := [(spDel g3).v]) 1 rfl (by rfl) (by rfl) (by rfl) (ReadsIn.row 0 (by rfl)) elem_fn (one_fn [spDel g3]) (by decide)) (by rfl) (by rfl) ?_
      rintro ⟨fA, fc⟩ -
      refine Ls.qA 8 ?_
      refine Ls.nil ?_
      refine Ent.pick [1, 3, 4, 5, 7, 8, 9, 10, 11] (by rfl) ?_
      refine Ent.inv ((fA, fc)) ?_ ?_ ?_
      · (try dsimp only); skip
      · (repeat (first | exact trivial | refine ⟨by rfl, ?_⟩ | refine ⟨by simp only [List.length_append, List.length_cons, List.length_nil]; rfl, ?_⟩ | refine ⟨by push_cast; rfl, ?_⟩))
      · rfl
    · have hp : spPre P g3 = [] := if_pos (Decidable.not_not.1 fun e => hq (hmem.2 e))
      rw [hp]
      skip
      refine Cd.cond_false (by rfl) (decide_eq_false hq) ?_
      refine Cd.skip ?_
      refine Ent.pick [0, 2, 3, 4, 6, 7, 8, 9, 10] (by rfl) ?_
      refine Ent.inv ((none, 0)) ?_ ?_ ?_
      · (try dsimp only); skip
      · (repeat (first | exact trivial | refine ⟨by rfl, ?_⟩ | refine ⟨by simp only [List.length_append, List.length_cons, List.length_nil]; rfl, ?_⟩ | refine ⟨by push_cast; rfl, ?_⟩))
      · rfl
  skip
  rintro ⟨fA, fc⟩ -
  dsimp only
  obtain ⟨L0, hL0⟩ : ∃ L0, L0 = spPre P g3 := ⟨_, rfl⟩
  rw [← hL0] at hpre ⊢
  refine Cd.seq ?_
  refine Cd.region ?_
  refine Ls.qM 22 ?_
  refine Ls.qE 23 (Ev.makeFunc3 rfl (by rfl) (by rfl) (by rfl)) ?_
  refine Ls.qE 24 (Ev.makeFunc2 rfl (by rfl) (by rfl)) ?_
  refine Ls.qE 25 (Ev.makeFunc2 rfl (by rfl) (by rfl)) ?_
  refine Ls.qE 26 (Ev.makeFunc1 rfl (by rfl)) ?_
  refine Ls.qE 27 (Ev.makeFunc1 rfl (by rfl)) ?_
  refine Ls.does (some 28) (Does.lit (sz := 1) rfl (by rfl) Tryz.underlying157 (by kernel_rfl) (by rfl) (by kernel_rfl)) (by rfl) (by rfl) ?_
  intro g4 _
  refine Ls.does (some 29) (Does.app (xs := L0.map StP.v) (news := (spMid g3 g1 g2 log l).map StP.v) 1 rfl (by rfl) (by rfl) (by rfl) (ReadsIn.row 0 (by rfl)) elem_fn (one_fn _) (show (L0.length + 5) * 8 ≤ 140737488355328 by omega)) (by rfl) (by rfl) ?_
  rintro ⟨qA, qc⟩ -
  obtain ⟨L1, hL1⟩ : ∃ L1, L1 = L0 ++ spMid g3 g1 g2 log l := ⟨_, rfl⟩
  have hL1l : L1.length = L0.length + 5 := by rw [hL1, List.length_append]; rfl
  have hrow1 : row qA (L0.length + 5) qc 103 1 (L0.map StP.v ++ (spMid g3 g1 g2 log l).map StP.v) = rowFn qA qc L1 := by
    dsimp only [rowFn]
    rw [hL1l, hL1, List.map_append]
  refine Ls.qA 8 ?_
  refine Ls.nil ?_
  refine Cd.seq ?_
  refine Cd.seq ?_
  refine Cd.region ?_
  refine Ls.qL 30 2 ?_
  refine Ls.does (some 31) (Does.readN rfl Tryz.func42 (by kernel_rfl) (by kernel_rfl) (hnm) (by rfl) (by rfl) ⟨blkIn 7 (by rfl), mapIn 8 (by rfl), trivial⟩ (fun _ => by rfl)) (by rfl) (by rfl) ?_
  rintro ⟨nA, nc⟩ -
  refine Ent.see 0 (by rfl) ?_
  refine Ent.map (fun w hs => hs.starx_nil) ?_
  refine Ent.pick [3, 0, 1, 8, 4, 5, 6, 7, 9, 10, 11] (by rfl) ?_
  refine Ls.qE 32 (Ev.len rfl (by rfl) Tryz.underlying49) ?_
  refine Ls.qM 33 ?_
  refine Ls.nil ?_
  refine Cd.block ?_
  refine Ent.norm ([(4, ptrV g1), (5, ptrV g2), (7, ptrV g3), (8, .slice qA (L1 ++ ([] : List (Nat × List UInt8)).map (spFile g3)).length qc), (31, .slice nA ns.length nc), (32, .int .i64 ns.length), (33, .int .i64 (0 : Nat))]) ([rowFn qA qc (L1 ++ ([] : List (Nat × List UInt8)).map (spFile g3)), starx (bxX []), rd nA ns.length 1 (txts ns), laidC, blk g3 37 [ptrV D.d], blk g2 47 [.slice A l.length c], blk g1 9 [.string (txt log)], rdB A l, D.B, D.M, D.F]) (by repeat (first | refine ⟨by (show some (Value.slice _ _ _) = some (Value.slice _ _ _); rw [List.map_nil, List.append_nil, hL1l]; try rfl), ?_⟩ | exact trivial | refine ⟨by rfl, ?_⟩ | refine ⟨by simp only [List.length_append, List.length_cons, List.length_nil]; rfl, ?_⟩ | refine ⟨by push_cast; rfl, ?_⟩)) (by (rw [List.map_nil, List.append_nil, ← hrow1]; rfl)) ?_
  refine Cd.loop (ι := Nat × (Option Addr × Nat) × List (Nat × List UInt8)) (fun p => [(4, ptrV g1), (5, ptrV g2), (7, ptrV g3), (8, .slice p.2.1.1 (L1 ++ p.2.2.map (spFile g3)).length p.2.1.2), (31, .slice nA ns.length nc), (32, .int .i64 ns.length), (33, .int .i64 p.1)]) (fun p => [rowFn p.2.1.1 p.2.1.2 (L1 ++ p.2.2.map (spFile g3)), starx (bxX p.2.2), rd nA ns.length 1 (txts ns), laidC, blk g3 37 [ptrV D.d], blk g2 47 [.slice A l.length c], blk g1 9 [.string (txt log)], rdB A l, D.B, D.M, D.F]) (fun p => p.1 ≤ ns.length ∧ p.2.2.map Prod.snd = manN (ns.take p.1)) (fun p => ns.length - p.1) ((0, (qA, qc), [])) (⟨Nat.zero_le _, rfl⟩) ?_ rfl ?_
  · (repeat (first | exact trivial | refine ⟨by rfl, ?_⟩))
  rintro ⟨k, ⟨rA, rc⟩, X⟩ ⟨hk, hX⟩
  dsimp only at hk hX ⊢
  have hXl : X.length ≤ ns.length := by
    have := congrArg List.length hX
    rw [List.length_map] at this
    have h2 : (manN (ns.take k)).length ≤ (ns.take k).length := List.length_filter_le _ _
    rw [List.length_take] at h2
    omega
  have hLl : (L1 ++ X.map (spFile g3)).length ≤ 1000 := by rw [List.length_append, List.length_map]; omega
  refine Cd.seq ?_
  refine Cd.region ?_
  refine Ls.qE 34 (Ev.lss rfl (by rfl) (by rfl)) ?_
  refine Ls.nil ?_
  refine Cd.seq ?_
  refine Cd.cond _ (by rfl) (fun h2 => ?_) (fun h2 => ?_)
  · skip
    have hlt : k < ns.length := by have := of_decide_eq_true h2; omega
    obtain ⟨x, hx⟩ := get_of_lt hlt
    have hqt : (ns.map txt)[k]? = some (txt x) := by rw [List.getElem?_map, hx]; rfl
    have hxl : x.length ≤ 32 := by
      have hm : x ∈ ns := List.mem_of_getElem? hx
      rw [hns] at hm
      obtain ⟨f, hf, rfl⟩ := List.mem_map.1 hm
      exact (h.ok.good f hf).len
    have hmn : manN (ns.take (k + 1)) = manN (ns.take k) ++ if numK kMan x = 0 then [] else [x] := by
      rw [List.take_add_one, hx]
      exact manN_snoc _ _
    refine Ent.rdSome 2 (by rfl) (by omega) (fun ad had => ?_)
    subst had
    refine Cd.skip ?_
    refine Cd.seq ?_
    refine Cd.block ?_
    refine Cd.seq ?_
    refine Cd.region ?_
    refine Ls.qE 35 (Ev.indexAt (sz := 1) rfl (by rfl) (by rfl) Tryz.underlying49 (by kernel_rfl) (by omega)) ?_
    refine Ls.qE 36 (Ev.loadStr rfl (by rfl) (ReadsIn.rd 2 (by rfl)) (by kernel_rfl) (by assumption)) ?_
    refine Ls.does (some 10) (Does.alloc (cs := [.string ⟨#[]⟩]) rfl (ZeroIs.mk (.string ⟨#[]⟩) (by kernel_rfl) (by rfl))) (by rfl) (by rfl) ?_
    intro g5 _
    refine Ls.qD (Does.store 0 rfl (by rfl) (by rfl) (by rfl) (by kernel_rfl) (by rfl) (by kernel_rfl) (by rfl)) ?_
    intro _ _
    refine Ls.nil ?_
    refine Cd.seq ?_
    refine Cd.region ?_
    refine Ls.qL 37 0 ?_
    refine Ls.does (some 38) (Does.read rfl Tryz.func43 (by kernel_rfl) (by kernel_rfl) (nrk_sl kMan x (by decide) (by omega)) (by rfl) (by rfl) ⟨laidIn 4 (by rfl), trivial⟩) (by rfl) (by rfl) ?_
    rintro _ -
    refine Ls.qE 39 (Ev.gtr rfl (by rfl) (by rfl)) ?_
    refine Ls.nil ?_
    by_cases h0 : numK kMan x = 0
    · rw [if_pos h0, List.append_nil] at hmn
      skip
      refine Cd.cond_false (by rfl) (decide_eq_false (show ¬ ((0 : Int) < (numK kMan x : Int)) by omega)) ?_
      refine Cd.skip ?_
      refine Cd.region ?_
      refine Ls.qE 44 (Ev.addI rfl (by rfl) (by rfl) (by omega)) ?_
      refine Ls.qM 33 ?_
      refine Ls.nil ?_
      refine Ent.pick [1, 2, 3, 4, 5, 6, 7, 8, 9, 10, 11] (by rfl) ?_
      refine Ent.inv ((k + 1, (rA, rc), X)) ?_ ?_ ?_
      · (try dsimp only); exact ⟨⟨hlt, by rw [hmn]; exact hX⟩, by omega⟩
      · (repeat (first | exact trivial | refine ⟨by rfl, ?_⟩ | refine ⟨by simp only [List.length_append, List.length_cons, List.length_nil]; rfl, ?_⟩ | refine ⟨by push_cast; rfl, ?_⟩))
      · rfl
    · rw [if_neg h0] at hmn
      skip
      refine Cd.cond_true (by rfl) (decide_eq_true (show (0 : Int) < (numK kMan x : Int) by omega)) ?_
      refine Cd.region ?_
      refine Ls.qM 40 ?_
      refine Ls.qE 41 (Ev.makeFunc2 rfl (by rfl) (by rfl)) ?_
      refine Ls.does (some 42) (Does.lit (sz := 1) rfl (by rfl) Tryz.underlying157 (by kernel_rfl) (by rfl) (by kernel_rfl)) (by rfl) (by rfl) ?_
      intro g6 _
      refine Ls.does (some 43) (Does.app (xs := (L1 ++ X.map (spFile g3)).map StP.v) (news := [(spFile g3 (g5, x)).v]) 2 rfl (by rfl) (by rfl) (by rfl) (ReadsIn.row 0 (by rfl)) elem_fn (one_fn [spFile g3 (g5, x)]) (show ((L1 ++ X.map (spFile g3)).length + 1) * 8 ≤ 140737488355328 by omega)) (by rfl) (by rfl) ?_
      rintro ⟨wA, wc⟩ -
      refine Ls.qA 8 ?_
      refine Ls.nil ?_
      refine Cd.region ?_
      refine Ls.qE 44 (Ev.addI rfl (by rfl) (by rfl) (by omega)) ?_
      refine Ls.qM 33 ?_
      refine Ls.nil ?_
      refine Ent.pick [1, 3, 2, 4, 5, 6, 7, 8, 9, 10, 11, 12] (by rfl) ?_
      refine Ent.map (fun w hs => hs.starx_add rfl) ?_
      refine Ent.pick [1, 0, 2, 3, 4, 5, 6, 7, 8, 9, 10] (by rfl) ?_
      have hrow : row wA ((L1 ++ X.map (spFile g3)).length + 1) wc 103 1 ((L1 ++ X.map (spFile g3)).map StP.v ++ [(spFile g3 (g5, x)).v]) = rowFn wA wc (L1 ++ (X ++ [(g5, x)]).map (spFile g3)) := by
        dsimp only [rowFn]
        rw [List.map_append (f := spFile g3), ← List.append_assoc, List.length_append (bs := List.map (spFile g3) [(g5, x)]), List.map_append (f := StP.v) (l₂ := List.map (spFile g3) [(g5, x)])]
        rfl
      have hbx : bxX (X ++ [(g5, x)]) = bxX X ++ [blk g5 9 [.string (txt x)]] := by
        dsimp only [bxX]
        rw [List.map_append]
        rfl
      refine Ent.inv ((k + 1, (wA, wc), X ++ [(g5, x)])) ?_ ?_ ?_
      · (try dsimp only); exact ⟨⟨hlt, by rw [hmn, List.map_append, hX]; rfl⟩, by omega⟩
      · (repeat (first | exact trivial | refine ⟨by rfl, ?_⟩ | refine ⟨by simp only [List.length_append, List.length_cons, List.length_nil]; rfl, ?_⟩ | refine ⟨by push_cast; rfl, ?_⟩ | refine ⟨by (show some (Value.slice _ _ _) = some (Value.slice _ _ _); rw [List.map_append, ← List.append_assoc, List.length_append (bs := List.map (spFile g3) [(g5, x)])]; rfl), ?_⟩))
      · (show [_, _, _, _, _, _, _, _, _, _, _] = [_, _, _, _, _, _, _, _, _, _, _]; dsimp only; rw [← hrow, hbx]; rfl)
  skip
  have hge : ns.length ≤ k := by have := of_decide_eq_false h2; omega
  rw [List.take_of_length_le hge] at hX
  refine Ent.see 0 (by rfl) ?_
  refine Ent.seeBlk 4 (by rfl) (Ent.seeBlk 5 (by rfl) (Ent.seeBlk 6 (by rfl) ?_))
  refine Ent.pick [1, 4, 5, 6, 7, 8, 9, 10, 0] (by rfl) ?_
  refine Ent.map (fun w hs => Sat.starx_see (f := fun x : Nat × List UInt8 => blk x.1 9 [.string (txt x.2)]) (g := fun x : Nat × List UInt8 => bxT x.1 x.2) (fun _ => rfl) (fun _ w hw => hw) (fun _ k hk => hk) hs) ?_
  refine Ent.closeR 5 (by rfl) ?_
  obtain ⟨Cs, hCs⟩ : ∃ Cs, Cs = [stars (X.map fun x => bxT x.1 x.2), bxD g3 D.d, bxB g2 A l.length c, bxT g1 log, rdB A l] := ⟨_, rfl⟩
  have cD : ∀ D' : DrS, D'.d = D.d → Cov Cs (bxD g3 D'.d) := fun D' e => by rw [e, hCs]; exact Cov.mem rfl (by simp)
  have cB : Cov Cs (bxB g2 A l.length c) := by rw [hCs]; exact Cov.mem rfl (by simp)
  have cT : Cov Cs (bxT g1 log) := by rw [hCs]; exact Cov.mem rfl (by simp)
  have cR : Cov Cs (rdB A l) := by rw [hCs]; exact Cov.mem rfl (by simp)
  have cX : ∀ x ∈ X, Cov Cs (bxT x.1 x.2) := fun x hx => by rw [hCs]; exact Cov.stars rfl List.mem_cons_self (List.mem_map_of_mem (f := fun x : Nat × List UInt8 => bxT x.1 x.2) hx)
  have hXg : ∀ x ∈ X, Good x.2 := fun x hx => by
    have h1 : x.2 ∈ manN ns := by rw [← hX]; exact List.mem_map_of_mem hx
    have h2 := (List.mem_filter.1 h1).1
    rw [hns] at h2
    obtain ⟨f, hf, he⟩ := List.mem_map.1 h2
    rw [← he]
    exact h.ok.good f hf
  have hall : ∀ s ∈ L1 ++ X.map (spFile g3), StepOk D.d D.m Cs s.v s.f := fun s hs => by
    rcases List.mem_append.1 hs with hs | hs
    · rw [hL1] at hs
      rcases List.mem_append.1 hs with hs | hs
      · rw [hL0] at hs
        unfold spPre at hs
        split at hs
        · cases hs
        · rw [List.mem_singleton.1 hs]
          exact step_of Tryz.func99 (by kernel_rfl) (by kernel_rfl) (fun D' => [bxD g3 D'.d]) (fun D' e C hC => by rw [List.mem_singleton.1 hC]; exact cD D' e) (fun D' P' h' => sw1_sl h' g3)
      · unfold spMid at hs
        simp only [List.mem_cons, List.not_mem_nil, or_false] at hs
        rcases hs with rfl | rfl | rfl | rfl | rfl
        · exact step_of Tryz.func101 (by kernel_rfl) (by kernel_rfl) (fun D' => [bxD g3 D'.d, bxT g1 log, bxB g2 A l.length c, rdB A l]) (fun D' e C hC => by
            simp only [List.mem_cons, List.not_mem_nil, or_false] at hC
            rcases hC with rfl | rfl | rfl | rfl
            · exact cD D' e
            · exact cT
            · exact cB
            · exact cR) (fun D' P' h' => sw2_sl h' g3 g1 g2 log hlog A c l hl)
        · exact step_of Tryz.func102 (by kernel_rfl) (by kernel_rfl) (fun D' => [bxD g3 D'.d, bxT g1 log]) (fun D' e C hC => by
            simp only [List.mem_cons, List.not_mem_nil, or_false] at hC
            rcases hC with rfl | rfl
            · exact cD D' e
            · exact cT) (fun D' P' h' => sw3_sl h' g3 g1 log hlog)
        · exact step_of Tryz.func103 (by kernel_rfl) (by kernel_rfl) (fun D' => [bxD g3 D'.d, bxT g1 log]) (fun D' e C hC => by
            simp only [List.mem_cons, List.not_mem_nil, or_false] at hC
            rcases hC with rfl | rfl
            · exact cD D' e
            · exact cT) (fun D' P' h' => sw4_sl h' g3 g1 log hlog)
        · exact step_of Tryz.func104 (by kernel_rfl) (by kernel_rfl) (fun D' => [bxD g3 D'.d]) (fun D' e C hC => by rw [List.mem_singleton.1 hC]; exact cD D' e) (fun D' P' h' => sw5_sl h' g3)
        · exact step_of Tryz.func105 (by kernel_rfl) (by kernel_rfl) (fun D' => [bxD g3 D'.d]) (fun D' e C hC => by rw [List.mem_singleton.1 hC]; exact cD D' e) (fun D' P' h' => sw6_sl h' g3)
    · obtain ⟨x, hx, rfl⟩ := List.mem_map.1 hs
      exact step_of Tryz.func107 (by kernel_rfl) (by kernel_rfl) (fun D' => [bxD g3 D'.d, bxT x.1 x.2]) (fun D' e C hC => by
        simp only [List.mem_cons, List.not_mem_nil, or_false] at hC
        rcases hC with rfl | rfl
        · exact cD D' e
        · exact cX x hx) (fun D' P' h' => sw7_sl h' g3 x.1 x.2 (hXg x hx))
  have hfs : (L1 ++ X.map (spFile g3)).map StP.f = swapL P log l := by
    rw [List.map_append, hL1, List.map_append, hL0, spPre_f]
    unfold swapL
    rw [← hns, ← hX, List.map_map, List.map_map]
    rfl
  have cS := msteps_sl (L1 ++ X.map (spFile g3)) hall (by omega) h rfl rfl rA rc
  rw [hfs, hCs] at cS
  refine Cd.exit ?_
  refine Cd.seq ?_
  refine Cd.region ?_
  refine Ls.qM 45 ?_
  refine Ls.does (some 46) (Does.call [4, 0, 1, 2, 3] rfl Tryz.func51 (by kernel_rfl) (by kernel_rfl) (cS) (by rfl) (by rfl) (by rfl)) (by rfl) (by rfl) ?_
  rintro D' ⟨h', hd, hm⟩
  refine Ls.qA 6 ?_
  refine Ls.nil ?_
  refine Cd.ret ?_
  refine Ent.ret (D') (⟨h', hd, hm⟩) (Res.tmp (by rfl) (by rfl)) ?_ [0, 1, 2] (by rfl) ?_
  · rfl
  · rfl
end Go.Proofs.YtacbkganjkipdaaGreatDoor
/- manifest.Decode -/
namespace Go.Proofs.YtacbkganjkipdaaGreatDoor
open Go.RowKit
abbrev noE : Value := .agg #[.slice none 0 0, .slice none 0 0, .int .i64 0, .int .i64 0, .int .i64 0]
abbrev rowI (A : Option Addr) (n c : Nat) (l : List Int) : Chunk := row A n c 3 1 (ints l)
def decV (r : Option EdP) (p : (Option Addr × Nat) × (Option Addr × Nat)) : Value := match r with
  | none => .tuple #[noE, .int .i64 80]
  | some e => .tuple #[.agg (e.val p.1.1 p.1.2 p.2.1 p.2.2).toArray, .int .i64 0]
def decC (r : Option EdP) (p : (Option Addr × Nat) × (Option Addr × Nat)) : List Chunk := match r with
  | none => []
  | some e => [rowTb p.1.1 e.add.length p.1.2 e.add, rowI p.2.1 e.drop.length p.2.2 e.drop]
theorem numC_le2 (l : List UInt8) : (numC l).1 ≤ 4611686018427387904 := (numC_le l).2.1
theorem elem_int : Elem Tryz.prog 25 3 1 8 := elem_of (by kernel_rfl)
theorem one_ints (l : List Int) : ∀ u ∈ ints l, u.oneCell' = true := fun u hu => by
  obtain ⟨n, _, rfl⟩ := List.mem_map.1 hu
  rfl
set_option maxHeartbeats 2000000 in
theorem decode_sl (A : Option Addr) (c : Nat) (l : List UInt8) (hc : l.length ≤ c) (hm : l.length ≤ maxLen) : Fn Tryz.prog 47 #[.slice A l.length c] [rdB A l] ((Option Addr × Nat) × (Option Addr × Nat)) (decV (decP l)) (decC (decP l)) (fun _ => True) := by
  refine Fn.enter Tryz.func47 rfl Tryz.ntmps47 (by rfl) ?_
  intro w0
  refine Cd.seq ?_
  refine Cd.region ?_
  refine Ls.does (some 2) (Does.alloc (cs := [.slice none 0 0, .slice none 0 0, .int .i64 0, .int .i64 0, .int .i64 0]) rfl (ZeroIs.mk (.agg #[.slice none 0 0, .slice none 0 0, .int .i64 0, .int .i64 0, .int .i64 0]) (by kernel_rfl) (by rfl))) (by rfl) (by rfl) ?_
  intro g1 _
  refine Ls.qA 3 ?_
  refine Ls.nil ?_
  refine Cd.seq ?_
  refine Cd.seq ?_
  refine Cd.region ?_
  refine Ls.qM 8 ?_
  refine Ls.qE 9 (Ev.len rfl (by rfl) Tryz.underlying47) ?_
  refine Ls.qE 10 (Ev.gtr rfl (by rfl) (by rfl)) ?_
  refine Ls.nil ?_
  by_cases hlong : 4096 < l.length
  · skip
    rw [show decP l = none from if_pos (.inl hlong)]
    refine Cd.cond_true (by rfl) (decide_eq_true (show (4096 : Int) < (l.length : Int) by omega)) ?_
    refine Cd.seq ?_
    refine Cd.region ?_
    refine Ls.qE 11 (Ev.buildP (pl := [(0, 1), (1, 1), (2, 1), (3, 1), (4, 1)]) (zs := [.slice none 0 0, .slice none 0 0, .int .i64 0, .int .i64 0, .int .i64 0]) rfl (by rfl) (by kernel_rfl) (by rfl)) ?_
    refine Ls.qD (Does.store 0 rfl (by rfl) (by rfl) (by rfl) (by kernel_rfl) (by rfl) (by kernel_rfl) (by rfl)) ?_
    intro _ _
    refine Ls.qA 3 ?_
    refine Ls.nil ?_
    refine Cd.ret ?_
    refine Ent.ret (((none, 0), (none, 0))) (trivial) (Res.cell_tmp 0 (by rfl) (by rfl) (by rfl) (n := 5) (by kernel_rfl) (by rfl) (by rfl) (by rfl)) ?_ [] (by rfl) ?_
    · rfl
    · rfl
  · skip
    refine Cd.cond_false (by rfl) (decide_eq_false (show ¬ ((4096 : Int) < (l.length : Int)) by omega)) ?_
    refine Cd.skip ?_
    refine Cd.seq ?_
    refine Cd.region ?_
    refine Ls.does (some 4) (Does.alloc (cs := [.slice none 0 0, .slice none 0 0, .int .i64 0, .int .i64 0, .int .i64 0]) rfl (ZeroIs.mk (.agg #[.slice none 0 0, .slice none 0 0, .int .i64 0, .int .i64 0, .int .i64 0]) (by kernel_rfl) (by rfl))) (by rfl) (by rfl) ?_
    intro g2 _
    refine Ls.nil ?_
    refine Cd.seq ?_
    refine Cd.region ?_
    refine Ls.qM 12 ?_
    refine Ls.qE 13 (Ev.buildP (pl := [(0, 1), (1, 1)]) (zs := [.slice none 0 0, .bool false]) rfl (by rfl) (by kernel_rfl) (by rfl)) ?_
    refine Ls.does (some 14) (Does.box rfl (by rfl)) (by rfl) (by rfl) ?_
    intro g3 _
    refine Ls.qA 5 ?_
    refine Ls.nil ?_
    refine Cd.seq ?_
    refine Cd.seq ?_
    refine Cd.region ?_
    refine Ls.qM 15 ?_
    refine Ls.does (some 16) (Does.call [0, 3, 1, 2] rfl Tryz.func89 (by kernel_rfl) (by kernel_rfl) (number_sl g3 A c l false hc hm) (by rfl) (by rfl) (by rfl)) (by rfl) (by rfl) ?_
    rintro ⟨B, b⟩ hb
    dsimp only at hb
    have hd1 := numC_drop l
    have hd0 : decP l = if (numC l).2.2 = true then none else stA (numC l).1 [] (l.drop (numC l).2.1) := by
      unfold decP
      by_cases hx : (numC l).2.2 = true
      · rw [if_pos (.inr hx), if_pos hx]
      · rw [if_neg (fun e => e.elim hlong hx), if_neg hx]
    refine Ls.qA 6 ?_
    refine Ls.nil ?_
    refine Cd.block ?_
    refine Ent.nil 42 4 ?_
    refine Ent.norm ([(2, .pointer (some ⟨g1, 0, none⟩)), (3, .int .i64 0), (4, .pointer (some ⟨g2, 0, none⟩)), (5, .pointer (some ⟨g3, 0, none⟩)), (6, .int .i64 (numC l).1)]) ([rowTb none 0 0 [], blk g3 148 [.slice B (l.drop (numC l).2.1).length b, .bool (numC l).2.2], rdB B (l.drop (numC l).2.1), blk g2 27 [.slice none 0 0, .slice none 0 0, .int .i64 0, .int .i64 0, .int .i64 0], blk g1 27 [.slice none 0 0, .slice none 0 0, .int .i64 0, .int .i64 0, .int .i64 0]]) (by repeat (first | exact trivial | refine ⟨by rfl, ?_⟩ | refine ⟨by simp only [List.length_append, List.length_cons, List.length_nil]; rfl, ?_⟩ | refine ⟨by push_cast; rfl, ?_⟩)) (by rfl) ?_
    refine Cd.loop (ι := Nat × List TbP × (Option Addr × Nat) × List UInt8 × Bool × (Option Addr × Nat)) (fun p => [(2, .pointer (some ⟨g1, 0, none⟩)), (3, .int .i64 0), (4, .pointer (some ⟨g2, 0, none⟩)), (5, .pointer (some ⟨g3, 0, none⟩)), (6, .int .i64 p.1)]) (fun p => [rowTb p.2.2.1.1 p.2.1.length p.2.2.1.2 p.2.1, blk g3 148 [.slice p.2.2.2.2.2.1 p.2.2.2.1.length p.2.2.2.2.2.2, .bool p.2.2.2.2.1], rdB p.2.2.2.2.2.1 p.2.2.2.1, blk g2 27 [.slice p.2.2.1.1 p.2.1.length p.2.2.1.2, .slice none 0 0, .int .i64 0, .int .i64 0, .int .i64 0], blk g1 27 [.slice none 0 0, .slice none 0 0, .int .i64 0, .int .i64 0, .int .i64 0]]) (fun p => (p.1 ≤ 4611686018427387904 ∧ p.2.2.2.1.length ≤ 4096 ∧ p.2.2.2.1.length ≤ p.2.2.2.2.2.2 ∧ p.2.1.length + p.2.2.2.1.length ≤ 5000) ∧ (p.2.2.2.2.1 = false → p.2.1.length + p.2.2.2.1.length ≤ 4096) ∧ decP l = if p.2.2.2.2.1 = true then none else stA p.1 p.2.1 p.2.2.2.1) (fun p => p.1) (((numC l).1, [], (none, 0), l.drop (numC l).2.1, (numC l).2.2, (B, b))) (⟨⟨numC_le2 l, by dsimp only; omega, hb, by dsimp only [List.length_nil]; omega⟩, fun _ => by dsimp only [List.length_nil]; omega, hd0⟩) ?_ rfl ?_
    · (repeat (first | exact trivial | refine ⟨by rfl, ?_⟩))
    rintro ⟨j, L, ⟨aA, ac⟩, l1, bad, ⟨B1, b1⟩⟩ ⟨⟨hj, hl1, hb1, hL1⟩, hL2, hdec⟩
    dsimp only at hj hl1 hb1 hL1 hL2 hdec ⊢
    refine Cd.seq ?_
    refine Cd.seq ?_
    refine Cd.cut (ι := Unit) (fun _ => [(2, .pointer (some ⟨g1, 0, none⟩)), (3, .int .i64 0), (4, .pointer (some ⟨g2, 0, none⟩)), (5, .pointer (some ⟨g3, 0, none⟩)), (6, .int .i64 j), (25, .bool (decide (0 < j ∧ bad = false)))]) (fun _ => [rowTb aA L.length ac L, blk g3 148 [.slice B1 l1.length b1, .bool bad], rdB B1 l1, blk g2 27 [.slice aA L.length ac, .slice none 0 0, .int .i64 0, .int .i64 0, .int .i64 0], blk g1 27 [.slice none 0 0, .slice none 0 0, .int .i64 0, .int .i64 0, .int .i64 0]]) (fun _ => True) ?_ ?_
    · skip
      refine Cd.region ?_
      refine Ls.qM 17 ?_
      refine Ls.qE 18 (Ev.gtr rfl (by rfl) (by rfl)) ?_
      refine Ls.qM 19 ?_
      by_cases h0 : 0 < j
      · skip
        refine Ent.known 19 true (by rfl) (by exact (decide_eq_true (show (0 : Int) < (j : Int) by omega))) ?_
        refine Ls.qM 20 ?_
        refine Ls.qE 21 (Ev.nilCheck rfl (by rfl)) ?_
        refine Ls.qF 22 1 ?_
        refine Ls.qL 23 1 ?_
        refine Ls.qE 24 (Ev.not rfl (by rfl)) ?_
        refine Ls.qT 25 ?_
        refine Ls.nil ?_
        skip
        refine Ent.inv (()) ?_ ?_ ?_
        · (try dsimp only); skip
        · (repeat (first | exact trivial | refine ⟨by rfl, ?_⟩ | refine ⟨by simp only [List.length_append, List.length_cons, List.length_nil]; rfl, ?_⟩ | refine ⟨by push_cast; rfl, ?_⟩ | refine ⟨by (show some (Value.bool _) = some (Value.bool _); congr 2; cases bad <;> simp [h0]), ?_⟩))
        · rfl
      · skip
        refine Ent.known 19 false (by rfl) (by exact (decide_eq_false (show ¬ ((0 : Int) < (j : Int)) by omega))) ?_
        refine Ls.qP 20 ?_
        refine Ls.qP 21 ?_
        refine Ls.qP 22 ?_
        refine Ls.qP 23 ?_
        refine Ls.qP 24 ?_
        refine Ls.qN 25 ?_
        refine Ls.nil ?_
        skip
        refine Ent.inv (()) ?_ ?_ ?_
        · (try dsimp only); skip
        · (repeat (first | exact trivial | refine ⟨by rfl, ?_⟩ | refine ⟨by simp only [List.length_append, List.length_cons, List.length_nil]; rfl, ?_⟩ | refine ⟨by push_cast; rfl, ?_⟩ | refine ⟨by (show some (Value.bool _) = some (Value.bool _); congr 2; exact (decide_eq_false (fun e => h0 e.1)).symm), ?_⟩))
        · rfl
    skip
    rintro _ -
    refine Cd.cond _ (by rfl) (fun h2 => ?_) (fun h2 => ?_)
    · skip
      obtain ⟨h0, rfl⟩ := of_decide_eq_true h2
      obtain ⟨j, rfl⟩ : ∃ k, j = k + 1 := ⟨j - 1, by omega⟩
      have hL3 := hL2 rfl
      rw [if_neg (by decide), stA] at hdec
      have ht1 := tabR_le l1
      obtain ⟨a, ha⟩ : ∃ a, a = numC l1 := ⟨_, rfl⟩
      obtain ⟨l2, hl2⟩ : ∃ l2, l2 = l1.drop a.2.1 := ⟨_, rfl⟩
      obtain ⟨bq, hbq⟩ : ∃ b, b = numC l2 := ⟨_, rfl⟩
      obtain ⟨l3, hl3⟩ : ∃ l3, l3 = l2.drop bq.2.1 := ⟨_, rfl⟩
      obtain ⟨x, hx⟩ : ∃ x, x = txtC l3 := ⟨_, rfl⟩
      obtain ⟨l4, hl4⟩ : ∃ l4, l4 = l3.drop x.2.1 := ⟨_, rfl⟩
      obtain ⟨y, hy⟩ : ∃ y, y = txtC l4 := ⟨_, rfl⟩
      obtain ⟨l5, hl5⟩ : ∃ l5, l5 = l4.drop y.2.1 := ⟨_, rfl⟩
      have hT : tabR l1 = (⟨a.1, bq.1, x.1.data.toList, y.1.data.toList⟩, l5, a.2.2 || bq.2.2 || x.2.2 || y.2.2) := by
        rw [hl5, hy, hl4, hx, hl3, hbq, hl2, ha]
        rfl
      rw [hT] at hdec ht1
      dsimp only at hdec ht1
      obtain ⟨t, ht⟩ : ∃ t : TbP, t = ⟨a.1, bq.1, x.1.data.toList, y.1.data.toList⟩ := ⟨_, rfl⟩
      have m1 : l2.length ≤ l1.length := by rw [hl2, ha]; exact (numC_drop l1).1
      have m2 : l3.length ≤ l2.length := by rw [hl3, hbq]; exact (numC_drop l2).1
      have m3 : l4.length ≤ l3.length := by rw [hl4, hx]; exact txtC_drop l3
      have hmx : l1.length ≤ maxLen := by unfold maxLen; omega
      refine Cd.skip ?_
      refine Cd.seq ?_
      refine Cd.block ?_
      refine Ent.pick [3, 0, 1, 2, 4] (by rfl) ?_
      skip
      skip
      refine Cd.drawS [0] [14] (by kernel_rfl) ?_
      refine Rg.ev 0 (by rfl) (fun _ h => h.pick [0] rfl) (Ev.fieldAddr (k := 0) rfl (by rfl) (by kernel_rfl) (by rfl)) (by rfl) (some 28) (by rfl) (by kernel_rfl) (by kernel_rfl) (by kernel_rfl) (by kernel_rfl) ?_
      refine Rg.ev 1 (by rfl) (fun _ h => h.pick [0] rfl) (Ev.load 0 rfl (by rfl) (by rfl) (by kernel_rfl) (by rfl)) (by rfl) (some 29) (by rfl) (by kernel_rfl) (by kernel_rfl) (by kernel_rfl) (by kernel_rfl) ?_
      refine Rg.ev 2 (by rfl) (fun _ h => h.pick [0] rfl) (Ev.move rfl (by rfl)) (by rfl) (some 30) (by rfl) (by kernel_rfl) (by kernel_rfl) (by kernel_rfl) (by kernel_rfl) ?_
      refine Rg.ev 4 (by rfl) (fun _ h => h.pick [0] rfl) (Ev.move rfl (by rfl)) (by rfl) (some 32) (by rfl) (by kernel_rfl) (by kernel_rfl) (by kernel_rfl) (by kernel_rfl) ?_
      refine Rg.ev 6 (by rfl) (fun _ h => h.pick [0] rfl) (Ev.move rfl (by rfl)) (by rfl) (some 34) (by rfl) (by kernel_rfl) (by kernel_rfl) (by kernel_rfl) (by kernel_rfl) ?_
      refine Rg.ev 8 (by rfl) (fun _ h => h.pick [0] rfl) (Ev.move rfl (by rfl)) (by rfl) (some 36) (by rfl) (by kernel_rfl) (by kernel_rfl) (by kernel_rfl) (by kernel_rfl) ?_
      skip
      have c1 := number_sl g3 B1 b1 l1 false hb1 hmx
      rw [← ha, ← hl2, Bool.false_or] at c1
      skip
      refine Rg.one 3 (by kernel_rfl) ?_; refine RgO.does 3 (by rfl) (Does.call [2, 3, 0, 1, 4] rfl Tryz.func89 (by kernel_rfl) (by kernel_rfl) (c1) (by rfl) (by rfl) (by rfl)) (by rfl) (some 31) (by rfl) (by exact fun _ _ h => h.pick [2] (by rfl)) ?_
      rintro ⟨B2, b2⟩ hb2
      skip
      have c2 := number_sl g3 B2 b2 l2 a.2.2 hb2 (by omega)
      rw [← hbq, ← hl3] at c2
      skip
      refine Rg.one 5 (by kernel_rfl) ?_; refine RgO.does 5 (by rfl) (Does.call [0, 1, 2, 3, 4] rfl Tryz.func89 (by kernel_rfl) (by kernel_rfl) (c2) (by rfl) (by rfl) (by rfl)) (by rfl) (some 33) (by rfl) (by exact fun _ _ h => h.pick [2] (by rfl)) ?_
      rintro ⟨B3, b3⟩ hb3
      skip
      have c3 := text_sl g3 B3 b3 l3 (a.2.2 || bq.2.2) hb3 (by omega)
      rw [← hx, ← hl4] at c3
      skip
      refine Rg.one 7 (by kernel_rfl) ?_; refine RgO.does 7 (by rfl) (Does.call [0, 1, 2, 3, 4] rfl Tryz.func90 (by kernel_rfl) (by kernel_rfl) (c3) (by rfl) (by rfl) (by rfl)) (by rfl) (some 35) (by rfl) (by exact fun _ _ h => h.pick [2] (by rfl)) ?_
      rintro ⟨B4, b4⟩ hb4
      skip
      have c4 := text_sl g3 B4 b4 l4 (a.2.2 || bq.2.2 || x.2.2) hb4 (by omega)
      rw [← hy, ← hl5] at c4
      skip
      refine Rg.one 9 (by kernel_rfl) ?_; refine RgO.does 9 (by rfl) (Does.call [0, 1, 2, 3, 4] rfl Tryz.func90 (by kernel_rfl) (by kernel_rfl) (c4) (by rfl) (by rfl) (by rfl)) (by rfl) (some 37) (by rfl) (by exact fun _ _ h => h.pick [2] (by rfl)) ?_
      rintro ⟨B5, b5⟩ hb5
      refine Rg.ev 10 (by rfl) (by exact fun _ h => h.pick [2] (by rfl)) (Ev.buildP (pl := [(0, 1), (1, 1), (2, 1), (3, 1)]) (zs := [.int .i64 0, .int .i64 0, .string ⟨#[]⟩, .string ⟨#[]⟩]) rfl (by rfl) (by kernel_rfl) (by rfl)) (by rfl) (some 38) (by rfl) (by kernel_rfl) (by kernel_rfl) (by kernel_rfl) (by kernel_rfl) ?_
      refine Rg.one 11 (by kernel_rfl) ?_; refine RgO.does 11 (by rfl) (Does.lit (sz := 4) rfl (by rfl) Tryz.underlying22 (by kernel_rfl) (by rfl) (by kernel_rfl)) (by rfl) (some 39) (by rfl) (by exact fun _ _ h => h.pick [3] (by rfl)) ?_
      intro g4 _
      refine Rg.one 12 (by kernel_rfl) ?_; refine RgO.does 12 (by rfl) (Does.app (xs := tbs L) (news := tbs [⟨a.1, bq.1, x.1.data.toList, y.1.data.toList⟩]) 4 rfl (by rfl) (by rfl) (by rfl) (ReadsIn.row 0 (by rfl)) elem_tb (one_tb _) (show (L.length + 1) * 48 ≤ 140737488355328 by omega)) (by rfl) (some 40) (by rfl) (by exact fun _ _ h => h.pick [3] (by rfl)) ?_
      rw [← ht]
      rintro ⟨qA, qc⟩ -
      refine Rg.ev 13 (by rfl) (by exact fun _ h => h.pick [3] (by rfl)) (Ev.fieldAddr (k := 0) rfl (by rfl) (by kernel_rfl) (by rfl)) (by rfl) (some 41) (by rfl) (by kernel_rfl) (by kernel_rfl) (by kernel_rfl) (by kernel_rfl) ?_
      refine Rg.one 14 (by kernel_rfl) ?_; refine RgO.tail 14 (by rfl) (Does.store 3 rfl (by rfl) (by rfl) (by rfl) (by kernel_rfl) (by rfl) (by kernel_rfl) (by rfl)) (by rfl) none (by rfl) (by kernel_rfl) (by kernel_rfl) ?_
      intro _ _
      skip
      skip
      refine Rg.done (by kernel_rfl) ?_ _
      refine Cd.region ?_
      refine Ls.qM 26 ?_
      refine Ls.qE 27 (Ev.subN (b := 1) rfl (by rfl) (by rfl) (by omega)) ?_
      refine Ls.qA 6 ?_
      refine Ls.nil ?_
      refine Ent.pick [4, 1, 2, 3, 5] (by rfl) ?_
      have hrow : row qA (L.length + 1) qc 42 4 (tbs L ++ tbs [t]) = rowTb qA (L ++ [t]).length qc (L ++ [t]) := by
        rw [← tbs_append, List.length_append]
        rfl
      rw [← ht] at hdec
      refine Ent.inv ((j, L ++ [t], (qA, qc), l5, a.2.2 || bq.2.2 || x.2.2 || y.2.2, (B5, b5))) ?_ ?_ ?_
      · (try dsimp only); exact ⟨⟨⟨by omega, by omega, hb5, by rw [List.length_append, List.length_singleton]; omega⟩, fun hb => by have := ht1.2 hb; rw [List.length_append, List.length_singleton]; omega, hdec⟩, by omega⟩
      · (repeat (first | exact trivial | refine ⟨by rfl, ?_⟩ | refine ⟨by simp only [List.length_append, List.length_cons, List.length_nil]; rfl, ?_⟩ | refine ⟨by push_cast; rfl, ?_⟩))
      · (show [_, _, _, _, _] = [_, _, _, _, _]; dsimp only; rw [← hrow, List.length_append]; rfl)
    skip
    have h2 := of_decide_eq_false h2
    have hmx : l1.length ≤ maxLen := by unfold maxLen; omega
    obtain ⟨e, he⟩ : ∃ e, e = numC l1 := ⟨_, rfl⟩
    obtain ⟨l2, hl2⟩ : ∃ l2, l2 = l1.drop e.2.1 := ⟨_, rfl⟩
    have hd2 : decP l = if (bad || e.2.2) = true then none else stC L e.1 [] l2 := by
      rw [hdec]
      cases bad with
      | true => rfl
      | false =>
        obtain rfl : j = 0 := by
          rcases Nat.eq_zero_or_pos j with h | h
          · exact h
          · exact absurd ⟨h, rfl⟩ h2
        rw [if_neg (by decide), stA, stB, ← he, ← hl2, Bool.false_or]
    have hn1 : l2.length ≤ l1.length ∧ (e.2.2 = false → l2.length + 1 ≤ l1.length) := by rw [hl2, he]; exact numC_drop l1
    have he1 : e.1 ≤ 4611686018427387904 := by rw [he]; exact numC_le2 l1
    clear hdec h2 hj
    have c1 := number_sl g3 B1 b1 l1 bad hb1 hmx
    rw [← he, ← hl2] at c1
    refine Cd.exit ?_
    refine Cd.seq ?_
    refine Cd.seq ?_
    refine Cd.region ?_
    refine Ls.qM 42 ?_
    refine Ls.does (some 43) (Does.call [1, 2, 0, 3, 4] rfl Tryz.func89 (by kernel_rfl) (by kernel_rfl) (c1) (by rfl) (by rfl) (by rfl)) (by rfl) (by rfl) ?_
    rintro ⟨B2, b2⟩ hb2
    dsimp only at hb2
    refine Ls.qA 7 ?_
    refine Ls.nil ?_
    refine Cd.block ?_
    refine Ent.nil 3 1 ?_
    refine Ent.pick [0, 1, 2, 4, 5, 3] (by rfl) ?_
    have hLl : L.length ≤ 5000 := by omega
    have hl24 : l2.length ≤ 4096 := by omega
    clear hL1 hL2 c1
    refine Cd.loop (ι := Nat × List Int × (Option Addr × Nat) × List UInt8 × Bool × (Option Addr × Nat)) (fun p => [(2, .pointer (some ⟨g1, 0, none⟩)), (3, .int .i64 0), (4, .pointer (some ⟨g2, 0, none⟩)), (5, .pointer (some ⟨g3, 0, none⟩)), (7, .int .i64 p.1)]) (fun p => [rowI p.2.2.1.1 p.2.1.length p.2.2.1.2 p.2.1, blk g3 148 [.slice p.2.2.2.2.2.1 p.2.2.2.1.length p.2.2.2.2.2.2, .bool p.2.2.2.2.1], rdB p.2.2.2.2.2.1 p.2.2.2.1, blk g2 27 [.slice aA L.length ac, .slice p.2.2.1.1 p.2.1.length p.2.2.1.2, .int .i64 0, .int .i64 0, .int .i64 0], blk g1 27 [.slice none 0 0, .slice none 0 0, .int .i64 0, .int .i64 0, .int .i64 0], rowTb aA L.length ac L]) (fun p => (p.1 ≤ 4611686018427387904 ∧ p.2.2.2.1.length ≤ 4096 ∧ p.2.2.2.1.length ≤ p.2.2.2.2.2.2 ∧ p.2.1.length + p.2.2.2.1.length ≤ 5000) ∧ (p.2.2.2.2.1 = false → p.2.1.length + p.2.2.2.1.length ≤ 4096) ∧ decP l = if p.2.2.2.2.1 = true then none else stC L p.1 p.2.1 p.2.2.2.1) (fun p => p.1) ((e.1, [], (none, 0), l2, (bad || e.2.2), (B2, b2))) (⟨⟨he1, hl24, hb2, by dsimp only [List.length_nil]; omega⟩, fun _ => by dsimp only [List.length_nil]; omega, hd2⟩) ?_ rfl ?_
    · (repeat (first | exact trivial | refine ⟨by rfl, ?_⟩))
    clear hd2 hn1 he1 hl24 hb2 hl1 hb1 hmx hd1 hd0 hb
    rintro ⟨j2, D, ⟨dA, dc⟩, l3, bad2, ⟨B3, b3⟩⟩ ⟨⟨hj, hl1, hb1, hL1⟩, hL2, hdec⟩
    dsimp only at hj hl1 hb1 hL1 hL2 hdec ⊢
    have hmx : l3.length ≤ maxLen := by unfold maxLen; omega
    refine Cd.seq ?_
    refine Cd.seq ?_
    refine Cd.cut (ι := Unit) (fun _ => [(2, .pointer (some ⟨g1, 0, none⟩)), (3, .int .i64 0), (4, .pointer (some ⟨g2, 0, none⟩)), (5, .pointer (some ⟨g3, 0, none⟩)), (7, .int .i64 j2), (52, .bool (decide (0 < j2 ∧ bad2 = false)))]) (fun _ => [rowI dA D.length dc D, blk g3 148 [.slice B3 l3.length b3, .bool bad2], rdB B3 l3, blk g2 27 [.slice aA L.length ac, .slice dA D.length dc, .int .i64 0, .int .i64 0, .int .i64 0], blk g1 27 [.slice none 0 0, .slice none 0 0, .int .i64 0, .int .i64 0, .int .i64 0], rowTb aA L.length ac L]) (fun _ => True) ?_ ?_
    · skip
      refine Cd.region ?_
      refine Ls.qM 44 ?_
      refine Ls.qE 45 (Ev.gtr rfl (by rfl) (by rfl)) ?_
      refine Ls.qM 46 ?_
      by_cases h0 : 0 < j2
      · skip
        refine Ent.known 46 true (by rfl) (by exact (decide_eq_true (show (0 : Int) < (j2 : Int) by omega))) ?_
        refine Ls.qM 47 ?_
        refine Ls.qE 48 (Ev.nilCheck rfl (by rfl)) ?_
        refine Ls.qF 49 1 ?_
        refine Ls.qL 50 1 ?_
        refine Ls.qE 51 (Ev.not rfl (by rfl)) ?_
        refine Ls.qT 52 ?_
        refine Ls.nil ?_
        skip
        refine Ent.inv (()) ?_ ?_ ?_
        · (try dsimp only); skip
        · (repeat (first | exact trivial | refine ⟨by rfl, ?_⟩ | refine ⟨by simp only [List.length_append, List.length_cons, List.length_nil]; rfl, ?_⟩ | refine ⟨by push_cast; rfl, ?_⟩ | refine ⟨by (show some (Value.bool _) = some (Value.bool _); congr 2; cases bad2 <;> simp [h0]), ?_⟩))
        · rfl
      · skip
        refine Ent.known 46 false (by rfl) (by exact (decide_eq_false (show ¬ ((0 : Int) < (j2 : Int)) by omega))) ?_
        refine Ls.qP 47 ?_
        refine Ls.qP 48 ?_
        refine Ls.qP 49 ?_
        refine Ls.qP 50 ?_
        refine Ls.qP 51 ?_
        refine Ls.qN 52 ?_
        refine Ls.nil ?_
        skip
        refine Ent.inv (()) ?_ ?_ ?_
        · (try dsimp only); skip
        · (repeat (first | exact trivial | refine ⟨by rfl, ?_⟩ | refine ⟨by simp only [List.length_append, List.length_cons, List.length_nil]; rfl, ?_⟩ | refine ⟨by push_cast; rfl, ?_⟩ | refine ⟨by (show some (Value.bool _) = some (Value.bool _); congr 2; exact (decide_eq_false (fun e => h0 e.1)).symm), ?_⟩))
        · rfl
    skip
    rintro _ -
    obtain ⟨f, hf⟩ : ∃ f, f = numC l3 := ⟨_, rfl⟩
    obtain ⟨l4, hl4⟩ : ∃ l4, l4 = l3.drop f.2.1 := ⟨_, rfl⟩
    have hn1 : l4.length ≤ l3.length ∧ (f.2.2 = false → l4.length + 1 ≤ l3.length) := by rw [hl4, hf]; exact numC_drop l3
    have c1 := number_sl g3 B3 b3 l3 bad2 hb1 hmx
    rw [← hf, ← hl4] at c1
    refine Cd.cond _ (by rfl) (fun h2 => ?_) (fun h2 => ?_)
    · skip
      obtain ⟨h0, rfl⟩ := of_decide_eq_true h2
      obtain ⟨j2, rfl⟩ : ∃ k, j2 = k + 1 := ⟨j2 - 1, by omega⟩
      have hL3 := hL2 rfl
      rw [if_neg (by decide), stC, ← hf, ← hl4] at hdec
      rw [Bool.false_or] at c1
      refine Cd.skip ?_
      refine Cd.seq ?_
      refine Cd.block ?_
      refine Ent.pick [3, 0, 1, 2, 4, 5] (by rfl) ?_
      skip
      skip
      refine Cd.drawS [0] [7] (by kernel_rfl) ?_
      refine Rg.ev 0 (by rfl) (fun _ h => h.pick [0] rfl) (Ev.fieldAddr (k := 1) rfl (by rfl) (by kernel_rfl) (by rfl)) (by rfl) (some 55) (by rfl) (by kernel_rfl) (by kernel_rfl) (by kernel_rfl) (by kernel_rfl) ?_
      refine Rg.ev 1 (by rfl) (fun _ h => h.pick [0] rfl) (Ev.load 0 rfl (by rfl) (by rfl) (by kernel_rfl) (by rfl)) (by rfl) (some 56) (by rfl) (by kernel_rfl) (by kernel_rfl) (by kernel_rfl) (by kernel_rfl) ?_
      refine Rg.ev 2 (by rfl) (fun _ h => h.pick [0] rfl) (Ev.move rfl (by rfl)) (by rfl) (some 57) (by rfl) (by kernel_rfl) (by kernel_rfl) (by kernel_rfl) (by kernel_rfl) ?_
      skip
      skip
      refine Rg.one 3 (by kernel_rfl) ?_; refine RgO.does 3 (by rfl) (Does.call [2, 3, 0, 1, 4, 5] rfl Tryz.func89 (by kernel_rfl) (by kernel_rfl) (c1) (by rfl) (by rfl) (by rfl)) (by rfl) (some 58) (by rfl) (by exact fun _ _ h => h.pick [2] (by rfl)) ?_
      rintro ⟨B4, b4⟩ hb4
      refine Rg.one 4 (by kernel_rfl) ?_; refine RgO.does 4 (by rfl) (Does.lit (sz := 1) rfl (by rfl) Tryz.underlying25 (by kernel_rfl) (by rfl) (by kernel_rfl)) (by rfl) (some 59) (by rfl) (by exact fun _ _ h => h.pick [3] (by rfl)) ?_
      intro g4 _
      refine Rg.one 5 (by kernel_rfl) ?_; refine RgO.does 5 (by rfl) (Does.app (xs := ints D) (news := ints [(f.1 : Int)]) 4 rfl (by rfl) (by rfl) (by rfl) (ReadsIn.row 0 (by rfl)) elem_int (one_ints _) (show (D.length + 1) * 8 ≤ 140737488355328 by omega)) (by rfl) (some 60) (by rfl) (by exact fun _ _ h => h.pick [3] (by rfl)) ?_
      rintro ⟨qA, qc⟩ -
      refine Rg.ev 6 (by rfl) (by exact fun _ h => h.pick [3] (by rfl)) (Ev.fieldAddr (k := 1) rfl (by rfl) (by kernel_rfl) (by rfl)) (by rfl) (some 61) (by rfl) (by kernel_rfl) (by kernel_rfl) (by kernel_rfl) (by kernel_rfl) ?_
      refine Rg.one 7 (by kernel_rfl) ?_; refine RgO.tail 7 (by rfl) (Does.store 3 rfl (by rfl) (by rfl) (by rfl) (by kernel_rfl) (by rfl) (by kernel_rfl) (by rfl)) (by rfl) none (by rfl) (by kernel_rfl) (by kernel_rfl) ?_
      intro _ _
      skip
      skip
      refine Rg.done (by kernel_rfl) ?_ _
      refine Cd.region ?_
      refine Ls.qM 53 ?_
      refine Ls.qE 54 (Ev.subN (b := 1) rfl (by rfl) (by rfl) (by omega)) ?_
      refine Ls.qA 7 ?_
      refine Ls.nil ?_
      refine Ent.pick [4, 1, 2, 3, 5, 6] (by rfl) ?_
      have hrow : row qA (D.length + 1) qc 3 1 (ints D ++ ints [(f.1 : Int)]) = rowI qA (D ++ [(f.1 : Int)]).length qc (D ++ [(f.1 : Int)]) := by
        rw [List.length_append]
        unfold rowI ints
        rw [List.map_append]
        rfl
      refine Ent.inv ((j2, D ++ [(f.1 : Int)], (qA, qc), l4, f.2.2, (B4, b4))) ?_ ?_ ?_
      · (try dsimp only); exact ⟨⟨⟨by omega, by omega, hb4, by rw [List.length_append, List.length_singleton]; omega⟩, fun hb => by have := hn1.2 hb; rw [List.length_append, List.length_singleton]; omega, hdec⟩, by omega⟩
      · (repeat (first | exact trivial | refine ⟨by rfl, ?_⟩ | refine ⟨by simp only [List.length_append, List.length_cons, List.length_nil]; rfl, ?_⟩ | refine ⟨by push_cast; rfl, ?_⟩))
      · (show [_, _, _, _, _, _] = [_, _, _, _, _, _]; dsimp only; rw [← hrow, List.length_append]; rfl)
    skip
    have h2 := of_decide_eq_false h2
    obtain ⟨g, hg⟩ : ∃ g, g = numC l4 := ⟨_, rfl⟩
    obtain ⟨l5, hl5⟩ : ∃ l5, l5 = l4.drop g.2.1 := ⟨_, rfl⟩
    obtain ⟨h, hh⟩ : ∃ h, h = numC l5 := ⟨_, rfl⟩
    obtain ⟨l6, hl6⟩ : ∃ l6, l6 = l5.drop h.2.1 := ⟨_, rfl⟩
    have hn2 : l5.length ≤ l4.length := by rw [hl5, hg]; exact (numC_drop l4).1
    have hd2 : decP l = if (bad2 || f.2.2 || g.2.2 || h.2.2) = true ∨ l6 ≠ [] then none else some ⟨L, D, f.1, g.1, h.1⟩ := by
      rw [hdec]
      cases bad2 with
      | true => simp
      | false =>
        obtain rfl : j2 = 0 := by
          rcases Nat.eq_zero_or_pos j2 with h | h
          · exact h
          · exact absurd ⟨h, rfl⟩ h2
        rw [if_neg (by decide), stC, stE, Bool.false_or, hl6, hh, hl5, hg, hl4, hf]
    clear hdec h2 hj
    refine Cd.exit ?_
    refine Cd.seq ?_
    refine Cd.region ?_
    refine Ls.qM 62 ?_
    refine Ls.does (some 63) (Does.call [1, 2, 0, 3, 4, 5] rfl Tryz.func89 (by kernel_rfl) (by kernel_rfl) (c1) (by rfl) (by rfl) (by rfl)) (by rfl) (by rfl) ?_
    rintro ⟨B4, b4⟩ hb4
    have c2 := number_sl g3 B4 b4 l4 (bad2 || f.2.2) hb4 (by omega)
    rw [← hg, ← hl5] at c2
    refine Ls.qM 64 ?_
    refine Ls.does (some 65) (Does.call [0, 1, 2, 3, 4, 5] rfl Tryz.func89 (by kernel_rfl) (by kernel_rfl) (c2) (by rfl) (by rfl) (by rfl)) (by rfl) (by rfl) ?_
    rintro ⟨B5, b5⟩ hb5
    have c3 := number_sl g3 B5 b5 l5 (bad2 || f.2.2 || g.2.2) hb5 (by omega)
    rw [← hh, ← hl6] at c3
    refine Ls.qM 66 ?_
    refine Ls.does (some 67) (Does.call [0, 1, 2, 3, 4, 5] rfl Tryz.func89 (by kernel_rfl) (by kernel_rfl) (c3) (by rfl) (by rfl) (by rfl)) (by rfl) (by rfl) ?_
    rintro ⟨B6, b6⟩ hb6
    refine Ls.qF 68 2 ?_
    refine Ls.qD (Does.store 3 rfl (by rfl) (by rfl) (by rfl) (by kernel_rfl) (by rfl) (by kernel_rfl) (by rfl)) ?_
    intro _ _
    refine Ls.qF 69 3 ?_
    refine Ls.qD (Does.store 3 rfl (by rfl) (by rfl) (by rfl) (by kernel_rfl) (by rfl) (by kernel_rfl) (by rfl)) ?_
    intro _ _
    refine Ls.qF 70 4 ?_
    refine Ls.qD (Does.store 3 rfl (by rfl) (by rfl) (by rfl) (by kernel_rfl) (by rfl) (by kernel_rfl) (by rfl)) ?_
    intro _ _
    refine Ls.nil ?_
    refine Cd.seq ?_
    refine Cd.seq ?_
    refine Cd.cut (ι := Unit) (fun _ => [(2, .pointer (some ⟨g1, 0, none⟩)), (4, .pointer (some ⟨g2, 0, none⟩)), (82, .bool (decide ((bad2 || f.2.2 || g.2.2 || h.2.2) = true ∨ l6 ≠ [])))]) (fun _ => [blk g2 27 [.slice aA L.length ac, .slice dA D.length dc, .int .i64 f.1, .int .i64 g.1, .int .i64 h.1], blk g1 27 [.slice none 0 0, .slice none 0 0, .int .i64 0, .int .i64 0, .int .i64 0], rowTb aA L.length ac L, rowI dA D.length dc D]) (fun _ => True) ?_ ?_
    · skip
      refine Cd.region ?_
      refine Ls.qM 71 ?_
      refine Ls.qE 72 (Ev.nilCheck rfl (by rfl)) ?_
      refine Ls.qF 73 1 ?_
      refine Ls.qL 74 0 ?_
      refine Ls.qM 75 ?_
      cases hbd : (bad2 || f.2.2 || g.2.2 || h.2.2) with
      | true =>
        skip
        refine Ent.known 75 true (by rfl) (by exact (rfl)) ?_
        refine Ls.qP 76 ?_
        refine Ls.qP 77 ?_
        refine Ls.qP 78 ?_
        refine Ls.qP 79 ?_
        refine Ls.qP 80 ?_
        refine Ls.qP 81 ?_
        refine Ls.qT 82 ?_
        refine Ls.nil ?_
        skip
        refine Ent.pick [3, 4, 5, 2] (by rfl) ?_
        refine Ent.inv (()) ?_ ?_ ?_
        · (try dsimp only); skip
        · (repeat (first | exact trivial | refine ⟨by rfl, ?_⟩ | refine ⟨by simp only [List.length_append, List.length_cons, List.length_nil]; rfl, ?_⟩ | refine ⟨by push_cast; rfl, ?_⟩ | refine ⟨by (show some (Value.bool _) = some (Value.bool _); congr 2; simp), ?_⟩))
        · rfl
      | false =>
        skip
        refine Ent.known 75 false (by rfl) (by exact (rfl)) ?_
        refine Ls.qM 76 ?_
        refine Ls.qE 77 (Ev.nilCheck rfl (by rfl)) ?_
        refine Ls.qF 78 0 ?_
        refine Ls.qL 79 0 ?_
        refine Ls.qE 80 (Ev.len rfl (by rfl) Tryz.underlying47) ?_
        refine Ls.qE 81 (Ev.gtr rfl (by rfl) (by rfl)) ?_
        refine Ls.qN 82 ?_
        refine Ls.nil ?_
        skip
        refine Ent.pick [3, 4, 5, 2] (by rfl) ?_
        refine Ent.inv (()) ?_ ?_ ?_
        · (try dsimp only); skip
        · (repeat (first | exact trivial | refine ⟨by rfl, ?_⟩ | refine ⟨by simp only [List.length_append, List.length_cons, List.length_nil]; rfl, ?_⟩ | refine ⟨by push_cast; rfl, ?_⟩ | refine ⟨by (show some (Value.bool _) = some (Value.bool _); congr 2; rw [decide_eq_decide]; rcases l6 with _ | ⟨z, l6⟩ <;> simp <;> omega), ?_⟩))
        · rfl
    skip
    rintro _ -
    refine Cd.cond _ (by rfl) (fun h3 => ?_) (fun h3 => ?_)
    · skip
      rw [hd2, if_pos (of_decide_eq_true h3)]
      refine Cd.seq ?_
      refine Cd.region ?_
      refine Ls.qE 83 (Ev.buildP (pl := [(0, 1), (1, 1), (2, 1), (3, 1), (4, 1)]) (zs := [.slice none 0 0, .slice none 0 0, .int .i64 0, .int .i64 0, .int .i64 0]) rfl (by rfl) (by kernel_rfl) (by rfl)) ?_
      refine Ls.qD (Does.store 1 rfl (by rfl) (by rfl) (by rfl) (by kernel_rfl) (by rfl) (by kernel_rfl) (by rfl)) ?_
      intro _ _
      refine Ls.qA 3 ?_
      refine Ls.nil ?_
      refine Cd.ret ?_
      refine Ent.ret (((none, 0), (none, 0))) (trivial) (Res.cell_tmp 1 (by rfl) (by rfl) (by rfl) (n := 5) (by kernel_rfl) (by rfl) (by rfl) (by rfl)) ?_ [] (by rfl) ?_
      · rfl
      · rfl
    · skip
      rw [hd2, if_neg (of_decide_eq_false h3)]
      refine Cd.skip ?_
      refine Cd.seq ?_
      refine Cd.region ?_
      refine Ls.qE 84 (Ev.loads 0 rfl (by rfl) (by rfl) (n := 5) (by kernel_rfl) (by rfl) (by rfl)) ?_
      refine Ls.qD (Does.store 1 rfl (by rfl) (by rfl) (by rfl) (by kernel_rfl) (by rfl) (by kernel_rfl) (by rfl)) ?_
      intro _ _
      refine Ls.qA 3 ?_
      refine Ls.nil ?_
      refine Cd.ret ?_
      refine Ent.ret (((aA, ac), (dA, dc))) (trivial) (Res.cell_tmp 1 (by rfl) (by rfl) (by rfl) (n := 5) (by kernel_rfl) (by rfl) (by rfl) (by rfl)) ?_ [2, 3] (by rfl) ?_
      · rfl
      · rfl
end Go.Proofs.YtacbkganjkipdaaGreatDoor
/- the document's Decode -/
namespace Go.Proofs.YtacbkganjkipdaaGreatDoor
open Go.RowKit
theorem Sat.rdNilB {Γ : Ctx} {H : List Chunk} {w : World} (h : Sat Γ H w) : Sat Γ (rdB none [] :: H) w :=
  h.free rfl (fun k hk => absurd hk.1 (Nat.lt_irrefl 0)) ⟨rfl, fun hn => absurd hn (Nat.lt_irrefl 0)⟩
end Go.Proofs.YtacbkganjkipdaaGreatDoor
/- manifest.Open -/
namespace Go.Proofs.YtacbkganjkipdaaGreatDoor
open Go.RowKit
theorem fit_yes {v : VsP} {e : EdP} (h : FitOk v e) (A B D : Option Addr) (c b d : Nat) (he : e.add.length ≤ 10000000) (hd : e.drop.length ≤ 1000000000) (fe : Fine e.add) (hdr : ∀ x ∈ e.drop, in64 x) : Fn Tryz.prog 9 #[.agg (v.val A c).toArray, .agg (e.val B b D d).toArray] [rdT A v.tbs, rdT B e.add, rd D e.drop.length 1 (ints e.drop)] (Option Addr × Nat) (fun q => .tuple #[.agg ((outP v e).val q.1 q.2).toArray, .int .i64 0]) (fun q => [rowTb q.1 (outP v e).tbs.length q.2 (outP v e).tbs]) (fun _ => True) :=
  (fit_sl v e A B D c b d (by have := good_few h.1; omega) he hd (good_fine h.1) fe hdr).turn fun i hi => match i, hi with
    | some q, _ => ⟨q, trivial, rfl, fun _ _ hs => hs⟩
    | none, hi => absurd (hi.2 h) (by simp)
theorem fit_no {v : VsP} {e : EdP} (h : ¬ FitOk v e) (hv : v.tbs.length ≤ 70000000) (fv : Fine v.tbs) (A B D : Option Addr) (c b d : Nat) (he : e.add.length ≤ 10000000) (hd : e.drop.length ≤ 1000000000) (fe : Fine e.add) (hdr : ∀ x ∈ e.drop, in64 x) : Fn Tryz.prog 9 #[.agg (v.val A c).toArray, .agg (e.val B b D d).toArray] [rdT A v.tbs, rdT B e.add, rd D e.drop.length 1 (ints e.drop)] Unit (fun _ => .tuple #[noV, .int .i64 80]) (fun _ => []) (fun _ => True) :=
  (fit_sl v e A B D c b d hv he hd fv fe hdr).turn fun i hi => match i, hi with
    | none, _ => ⟨(), trivial, rfl, fun _ _ hs => hs⟩
    | some q, hi => absurd (hi.1 rfl) h
theorem EdS.fine {m : Nat} {e : EdP} (h : EdS m e) (hm : m ≤ 140737488355328) : Fine e.add := fun t ht => by
  have k := h.tab t ht
  have k1 := k.fst
  have k2 := k.lst
  have k3 := k.num
  exact ⟨by omega, by omega, by omega, by omega⟩
theorem EdS.ints {m : Nat} {e : EdP} (h : EdS m e) : ∀ x ∈ e.drop, in64 x := fun x hx => by
  have := h.drp x hx
  exact ⟨by omega, by omega⟩
theorem topN_snoc (l : List (List UInt8)) (q : List UInt8) (s : Nat) : topN (l ++ [q]) s = max (topN l s) (numK kMan q + 1) := by
  unfold topN
  rw [List.foldl_append]
  rfl
set_option maxHeartbeats 2000000 in
theorem mopen_sl {D : DrS} {P : DrP} (h : Drv D P) : Fn Tryz.prog 13 #[D.ptr] [D.rB, D.rM, D.rF, laidC] (Nat × (Option Addr × Nat)) (fun p => ptrV p.1) (fun p => [mfB p.1 D.d p.2.1 p.2.2 (openP P), rowTb p.2.1 (openP P).v.tbs.length p.2.2 (openP P).v.tbs]) (fun _ => True) := by
  have hpl := h.ok.len
  have hnm := names_sl h
  obtain ⟨ns, hns⟩ : ∃ ns, ns = P.fs.map FiP.nm := ⟨_, rfl⟩
  have hnl : P.fs.length = ns.length := by rw [hns, List.length_map]
  rw [hnl, ← hns] at hnm
  have hopn : openP P = ⟨repP firstV (scanF (P.bytes (nowP P))).1, topN ns 1, false, false⟩ := by rw [hns]; rfl
  rw [hopn]
  refine Fn.enter Tryz.func13 rfl Tryz.ntmps13 (by rfl) ?_
  intro w0
  refine Cd.seq ?_
  refine Cd.region ?_
  refine Ls.qA 2 ?_
  refine Ls.nil ?_
  refine Cd.scope ?_
  refine Cd.seq ?_
  refine Cd.region ?_
  refine Ls.qM 15 ?_
  refine Ls.qE 16 (Ev.buildP (pl := [(0, 1), (1, 1), (2, 1), (3, 1)]) (zs := [.slice none 0 0, .int .i64 0, .int .i64 0, .int .i64 0]) rfl (by rfl) (by kernel_rfl) (by rfl)) ?_
  refine Ls.qE 17 (Ev.buildP (pl := [(0, 1), (1, 4), (5, 1), (6, 1), (7, 1)]) (zs := [.pointer none, .slice none 0 0, .int .i64 0, .int .i64 0, .int .i64 0, .int .i64 0, .bool false, .bool false]) rfl (by rfl) (by kernel_rfl) (by rfl)) ?_
  refine Ls.does (some 18) (Does.box rfl (by rfl)) (by rfl) (by rfl) ?_
  intro g1 _
  refine Ls.qA 3 ?_
  refine Ls.nil ?_
  refine Cd.seq ?_
  refine Cd.seq ?_
  refine Cd.region ?_
  refine Ls.qM 19 ?_
  refine Ls.does (some 20) (Does.readN rfl Tryz.func42 (by kernel_rfl) (by kernel_rfl) (hnm) (by rfl) (by rfl) ⟨rblkIn 1 (by rfl), rmapIn_ 2 (by rfl), trivial⟩ (fun _ => by rfl)) (by rfl) (by rfl) ?_
  rintro ⟨nA, nc⟩ -
  refine Ent.see 0 (by rfl) ?_
  refine Ent.pick [1, 0, 2, 3, 4, 5] (by rfl) ?_
  skip
  refine Ls.qE 21 (Ev.len rfl (by rfl) Tryz.underlying49) ?_
  refine Ls.qM 22 ?_
  refine Ls.nil ?_
  refine Cd.block ?_
  refine Cd.loop (ι := Nat × Nat) (fun p => [(0, D.ptr), (3, ptrV g1), (20, .slice nA ns.length nc), (21, .int .i64 ns.length), (22, .int .i64 p.1)]) (fun p => [mfB g1 D.d none 0 ⟨firstV, p.2, false, false⟩, rd nA ns.length 1 (txts ns), D.rB, D.rM, D.rF, laidC]) (fun p => p.1 ≤ ns.length ∧ p.2 = topN (ns.take p.1) 1) (fun p => ns.length - p.1) ((0, 1)) (⟨Nat.zero_le _, rfl⟩) ?_ rfl ?_
  · (repeat (first | exact trivial | refine ⟨by rfl, ?_⟩))
  rintro ⟨k, n⟩ ⟨hk, hn⟩
  dsimp only at hk hn ⊢
  have hnb : n ≤ 1000000 := by rw [hn]; exact (topN_le (by decide)).1
  refine Cd.seq ?_
  refine Cd.region ?_
  refine Ls.qE 23 (Ev.lss rfl (by rfl) (by rfl)) ?_
  refine Ls.nil ?_
  refine Cd.seq ?_
  refine Cd.cond _ (by rfl) (fun h2 => ?_) (fun h2 => ?_)
  · skip
    have hlt : k < ns.length := by have := of_decide_eq_true h2; omega
    obtain ⟨x, hx⟩ := get_of_lt hlt
    have hqt : (ns.map txt)[k]? = some (txt x) := by rw [List.getElem?_map, hx]; rfl
    have hxl : x.length ≤ 32 := by
      have hm : x ∈ ns := List.mem_of_getElem? hx
      rw [hns] at hm
      obtain ⟨f, hf, rfl⟩ := List.mem_map.1 hm
      exact (h.ok.good f hf).len
    have hmx : (if (n : Int) < ((numK kMan x + 1 : Nat) : Int) then ((numK kMan x + 1 : Nat) : Int) else (n : Int)) = ((max n (numK kMan x + 1) : Nat) : Int) := by split <;> omega
    have hxn := numK_le kMan x
    refine Ent.rdSome 1 (by rfl) (by omega) (fun ad had => ?_)
    subst had
    refine Cd.skip ?_
    refine Cd.seq ?_
    refine Cd.block ?_
    refine Cd.seq ?_
    refine Cd.region ?_
    refine Ls.qE 24 (Ev.indexAt (sz := 1) rfl (by rfl) (by rfl) Tryz.underlying49 (by kernel_rfl) (by omega)) ?_
    refine Ls.qE 25 (Ev.loadStr rfl (by rfl) (ReadsIn.rd 1 (by rfl)) (by kernel_rfl) (by assumption)) ?_
    refine Ls.qA 5 ?_
    refine Ls.nil ?_
    refine Cd.draw [11] (by kernel_rfl) ?_
    refine Rg.qE 0 26 (by rfl) (Ev.move rfl (by rfl)) ?_
    refine Rg.qE 1 27 (by rfl) (Ev.move rfl (by rfl)) ?_
    refine Rg.qE 2 28 (by rfl) (Ev.nilCheck rfl (by rfl)) ?_
    refine Rg.qE 3 29 (by rfl) (Ev.fieldAddr (k := 5) rfl (by rfl) (by kernel_rfl) (by rfl)) ?_
    refine Rg.qE 4 30 (by rfl) (Ev.load 0 rfl (by rfl) (by rfl) (by kernel_rfl) (by rfl)) ?_
    refine Rg.qE 5 31 (by rfl) (Ev.move rfl (by rfl)) ?_
    refine Rg.does 6 (by rfl) (by kernel_rfl) (Does.read rfl Tryz.func43 (by kernel_rfl) (by kernel_rfl) (nrk_sl kMan x (by decide) (by omega)) (by rfl) (by rfl) ⟨laidIn 5 (by rfl), trivial⟩) (by rfl) (some 32) (by rfl) (by exact fun _ _ h => h) ?_
    rintro _ -
    refine Rg.qE 7 33 (by rfl) (Ev.addN (b := 1) rfl (by rfl) (by rfl) (by omega)) ?_
    refine Rg.qE 8 34 (by rfl) (Ev.max rfl (by rfl) (by rfl)) ?_
    rw [hmx]
    refine Rg.qE 9 35 (by rfl) (Ev.nilCheck rfl (by rfl)) ?_
    refine Rg.qE 10 36 (by rfl) (Ev.fieldAddr (k := 5) rfl (by rfl) (by kernel_rfl) (by rfl)) ?_
    refine Rg.tail 11 [] (by rfl) (by kernel_rfl) (Does.store 0 rfl (by rfl) (by rfl) (by rfl) (by kernel_rfl) (by rfl) (by kernel_rfl) (by rfl)) (by rfl) none (by rfl) (by kernel_rfl) (by kernel_rfl) ?_
    intro _ _
    refine Rg.done (by kernel_rfl) ?_ _
    refine Cd.region ?_
    refine Ls.qE 37 (Ev.addN (b := 1) rfl (by rfl) (by rfl) (by omega)) ?_
    refine Ls.qM 22 ?_
    refine Ls.nil ?_
    refine Ent.inv ((k + 1, max n (numK kMan x + 1))) ?_ ?_ ?_
    · (try dsimp only); exact ⟨⟨hlt, by rw [List.take_add_one, hx, hn]; exact (topN_snoc _ _ _).symm⟩, by omega⟩
    · (repeat (first | exact trivial | refine ⟨by rfl, ?_⟩ | refine ⟨by simp only [List.length_append, List.length_cons, List.length_nil]; rfl, ?_⟩ | refine ⟨by push_cast; rfl, ?_⟩))
    · rfl
  skip
  have hge : ns.length ≤ k := by have := of_decide_eq_false h2; omega
  rw [List.take_of_length_le hge] at hn
  subst hn
  obtain ⟨n, hn⟩ : ∃ n, n = topN ns 1 := ⟨_, rfl⟩
  rw [← hn]
  rw [← hn] at hnb hopn
  obtain ⟨nw, hnw⟩ : ∃ nw, nw = nowP P := ⟨_, rfl⟩
  obtain ⟨bl, hbl⟩ : ∃ bl, bl = P.bytes nw := ⟨_, rfl⟩
  rw [← hnw, ← hbl]
  have hc1 := now_sl h g1 none 0 ⟨firstV, n, false, false⟩
  rw [← hnw] at hc1
  refine Cd.exit ?_
  refine Cd.seq ?_
  refine Ent.pick [0, 2, 3, 4, 5] (by rfl) ?_
  refine Cd.cut (ι := Option Addr × Nat) (fun q => [(0, D.ptr), (3, ptrV g1), (6, .slice q.1 bl.length q.2)]) (fun q => [mfB g1 D.d none 0 ⟨firstV, n, false, false⟩, rdB q.1 bl, D.rB, D.rM, D.rF, laidC]) (fun q => (bl.length ≤ q.2 ∧ q.2 ≤ maxLen) ∧ bl.length ≤ 262144) ?_ ?_
  · skip
    refine Cd.region ?_
    refine Ls.qM 39 ?_
    refine Ls.qM 40 ?_
    refine Ls.does (some 41) (Does.read rfl Tryz.func45 (by kernel_rfl) (by kernel_rfl) (hc1) (by rfl) (by rfl) ⟨blkIn 0 (by rfl), rblkIn 1 (by rfl), rmapIn_ 2 (by rfl), filRin 3 (by rfl), laidIn 4 (by rfl), trivial⟩) (by rfl) (by rfl) ?_
    rintro _ -
    skip
    cases hf : P.find nw with
    | none =>
      have hb0 : bl = [] := by rw [hbl]; unfold DrP.bytes; rw [hf]
      have hm := read_miss h nw hf
      subst hb0
      skip
      refine Ls.does (some 42) (Does.read rfl Tryz.func44 (by kernel_rfl) (by kernel_rfl) (hm) (by rfl) (by rfl) ⟨rblkIn 1 (by rfl), rmapIn_ 2 (by rfl), trivial⟩) (by rfl) (by rfl) ?_
      rintro _ -
      refine Ls.qM 38 ?_
      refine Ls.qE 43 (Ev.extract rfl (by rfl) (by rfl)) ?_
      refine Ls.qE 44 (Ev.extract rfl (by rfl) (by rfl)) ?_
      refine Ls.qA 6 ?_
      refine Ls.qA 7 ?_
      refine Ls.nil ?_
      refine Ent.map (fun w hs => hs.rdNilB) ?_
      refine Ent.pick [1, 0, 2, 3, 4, 5] (by rfl) ?_
      refine Ent.inv ((none, 0)) ?_ ?_ ?_
      · (try dsimp only); exact ⟨⟨Nat.le_refl _, Nat.zero_le _⟩, Nat.zero_le _⟩
      · (repeat (first | exact trivial | refine ⟨by rfl, ?_⟩ | refine ⟨by simp only [List.length_append, List.length_cons, List.length_nil]; rfl, ?_⟩ | refine ⟨by push_cast; rfl, ?_⟩))
      · rfl
    | some f =>
      have hb0 : bl = f.b := by rw [hbl]; unfold DrP.bytes; rw [hf]
      have hfm := findG_some hf
      have hfs := h.ok.size f hfm.1
      have hgd : Good nw := hfm.2 ▸ h.ok.good f hfm.1
      subst hb0
      skip
      refine Ls.does (some 42) (Does.readN rfl Tryz.func44 (by kernel_rfl) (by kernel_rfl) (read_sl h nw hgd hf) (by rfl) (by rfl) ⟨rblkIn 1 (by rfl), rmapIn_ 2 (by rfl), filRin 3 (by rfl), trivial⟩ (fun _ => by rfl)) (by rfl) (by rfl) ?_
      rintro ⟨bA, bc⟩ -
      refine Ent.fact 0 (by rfl) (p := f.b.length ≤ bc ∧ bc ≤ maxLen) (fun w hw => ⟨Own.le hw, Own.capLe hw⟩) (fun hbc => ?_)
      refine Ent.see 0 (by rfl) ?_
      refine Ls.qM 38 ?_
      refine Ls.qE 43 (Ev.extract rfl (by rfl) (by rfl)) ?_
      refine Ls.qE 44 (Ev.extract rfl (by rfl) (by rfl)) ?_
      refine Ls.qA 6 ?_
      refine Ls.qA 7 ?_
      refine Ls.nil ?_
      refine Ent.pick [1, 0, 2, 3, 4, 5] (by rfl) ?_
      refine Ent.inv ((bA, bc)) ?_ ?_ ?_
      · (try dsimp only); exact ⟨hbc, hfs⟩
      · (repeat (first | exact trivial | refine ⟨by rfl, ?_⟩ | refine ⟨by simp only [List.length_append, List.length_cons, List.length_nil]; rfl, ?_⟩ | refine ⟨by push_cast; rfl, ?_⟩))
      · rfl
  skip
  rintro ⟨bA, bc⟩ ⟨hbc, hbs⟩
  dsimp only at hbc ⊢
  have hsc := scan_sl bA bc bl (by omega) hbc
  have hsz := scanF_size bl
  obtain ⟨pl, hpl2⟩ : ∃ pl, pl = (scanF bl).1 := ⟨_, rfl⟩
  rw [← hpl2] at hsc hsz ⊢
  refine Cd.seq ?_
  refine Cd.region ?_
  refine Ls.qM 46 ?_
  refine Ls.does (some 47) (Does.readN rfl Tryz.func46 (by kernel_rfl) (by kernel_rfl) (hsc) (by rfl) (by rfl) ⟨ReadsIn.rd 1 (by rfl), trivial⟩ (fun _ => by rfl)) (by rfl) (by rfl) ?_
  rintro ⟨⟨pA, pc⟩, S⟩ hS
  dsimp only at hS ⊢
  have hSl : S.length = pl.length := by rw [← hS, List.length_map]
  refine Ent.fact 1 (by rfl) (p := ∀ x ∈ S, x.l.length ≤ x.c ∧ x.c ≤ maxLen) (fun w hw x hx => by
    have ho : Own w 0 5 1 x.A x.l.length x.c (u8s x.l) := hw.1 x.R (List.mem_map_of_mem hx)
    exact ⟨Own.le ho, Own.capLe ho⟩) (fun hSc => ?_)
  refine Ent.map (fun w hs => paySee 1 (by rfl) hs) ?_
  refine Ent.see 0 (by rfl) ?_
  refine Ls.qM 45 ?_
  refine Ls.qE 48 (Ev.extract rfl (by rfl) (by rfl)) ?_
  refine Ls.qE 49 (Ev.extract rfl (by rfl) (by rfl)) ?_
  refine Ls.qA 8 ?_
  refine Ls.qA 9 ?_
  refine Ls.nil ?_
  refine Cd.seq ?_
  refine Cd.label ?_
  refine Cd.seq ?_
  refine Cd.seq ?_
  refine Cd.region ?_
  refine Ls.qM 50 ?_
  refine Ls.qE 51 (Ev.len rfl (by rfl) Tryz.underlying48) ?_
  refine Ls.qM 52 ?_
  refine Ls.nil ?_
  refine Cd.block ?_
  refine Ent.nil 42 4 ?_
  refine Ent.pick [3, 0, 1, 2] (by rfl) ?_
  refine Cd.loop (ι := Nat × VsP × (Option Addr × Nat)) (fun p => [(3, ptrV g1), (50, .slice pA S.length pc), (51, .int .i64 S.length), (52, .int .i64 p.1)]) (fun p => [mfB g1 D.d p.2.2.1 p.2.2.2 ⟨p.2.1, n, false, false⟩, rowTb p.2.2.1 p.2.1.tbs.length p.2.2.2 p.2.1.tbs, rdV pA S, payR S]) (fun p => p.1 ≤ S.length ∧ goodP p.2.1 ∧ repP firstV pl = repP p.2.1 (pl.drop p.1)) (fun p => S.length - p.1) ((0, firstV, (none, 0))) (⟨Nat.zero_le _, firstV_good, by rw [List.drop_zero]⟩) ?_ rfl ?_
  · (repeat (first | exact trivial | refine ⟨by rfl, ?_⟩))
  clear hc1 hsc
  rintro ⟨k, v, ⟨A, c⟩⟩ ⟨hk, hvg, hrep⟩
  dsimp only at hk hvg hrep ⊢
  have hvf := good_few hvg
  refine Cd.seq ?_
  refine Cd.region ?_
  refine Ls.qE 53 (Ev.lss rfl (by rfl) (by rfl)) ?_
  refine Ls.nil ?_
  refine Cd.seq ?_
  refine Cd.cond _ (by rfl) (fun h2 => ?_) (fun h2 => ?_)
  · skip
    have hlt : k < S.length := by have := of_decide_eq_true h2; omega
    obtain ⟨s, hs⟩ := get_of_lt hlt
    have hsm := List.mem_of_getElem? hs
    obtain ⟨hsc1, hsc2⟩ := hSc s hsm
    have hpk : pl.drop k = s.l :: pl.drop (k + 1) := by
      rw [List.drop_eq_getElem_cons (by omega)]
      congr 1
      have : pl[k]? = some s.l := by rw [← hS, List.getElem?_map, hs]; rfl
      rw [List.getElem?_eq_getElem (by omega)] at this
      exact Option.some.inj this
    rw [hpk, repP] at hrep
    refine Ent.rdSome 2 (by rfl) (by omega) (fun ad had => ?_)
    subst had
    refine Cd.skip ?_
    refine Cd.seq ?_
    refine Cd.block ?_
    refine Cd.seq ?_
    refine Cd.region ?_
    refine Ls.qE 54 (Ev.indexAt (sz := 1) rfl (by rfl) (by rfl) Tryz.underlying48 (by kernel_rfl) (by omega)) ?_
    refine Ls.qE 55 (Ev.loadV rfl (by rfl) (ReadsIn.rd 2 (by rfl)) (by kernel_rfl) hs) ?_
    refine Ent.map (fun w hw => payGet 3 (by rfl) hsm hw) ?_
    have c2 := decode_sl s.A s.c s.l hsc1 (by omega)
    refine Ls.qA 11 ?_
    refine Ls.nil ?_
    refine Cd.seq ?_
    refine Cd.region ?_
    refine Ls.qM 57 ?_
    cases hd : decP s.l with
    | none =>
      rw [hd] at c2 hrep
      dsimp only [decV, decC] at c2 hrep
      skip
      refine Ls.does (some 58) (Does.readN rfl Tryz.func47 (by kernel_rfl) (by kernel_rfl) (c2) (by rfl) (by rfl) ⟨ReadsIn.rd 0 (by rfl), trivial⟩ (fun _ => by rfl)) (by rfl) (by rfl) ?_
      rintro _ -
      refine Ls.qM 56 ?_
      refine Ls.qE 59 (Ev.extract rfl (by rfl) (by rfl)) ?_
      refine Ls.qE 60 (Ev.extract rfl (by rfl) (by rfl)) ?_
      refine Ls.does (some 12) (Does.alloc (cs := [.slice none 0 0, .slice none 0 0, .int .i64 0, .int .i64 0, .int .i64 0]) rfl (ZeroIs.mk (.agg #[.slice none 0 0, .slice none 0 0, .int .i64 0, .int .i64 0, .int .i64 0]) (by kernel_rfl) (by rfl))) (by rfl) (by rfl) ?_
      intro g2 _
      refine Ls.qD (Does.store 0 rfl (by rfl) (by rfl) (by rfl) (by kernel_rfl) (by rfl) (by kernel_rfl) (by rfl)) ?_
      intro _ _
      refine Ls.qA 13 ?_
      refine Ls.nil ?_
      refine Cd.seq ?_
      refine Cd.seq ?_
      refine Cd.region ?_
      refine Ls.qM 61 ?_
      refine Ls.qE 62 (Ev.neq rfl (by rfl) (by rfl)) ?_
      refine Ls.nil ?_
      refine Cd.cond_true (by rfl) (decide_eq_true (by decide)) ?_
      refine Cd.exit ?_
      refine Cd.seq ?_
      refine Cd.region ?_
      refine Ls.qM 79 ?_
      refine Ls.qA 2 ?_
      refine Ls.nil ?_
      rw [hrep]
      refine Cd.ret ?_
      refine Ent.ret ((g1, (A, c))) (trivial) (Res.tmp (by rfl) (by rfl)) ?_ [2, 3] (by rfl) ?_
      · rfl
      · rfl
    | some e =>
      rw [hd] at c2 hrep
      dsimp only [decV, decC] at c2 hrep
      have hes := decP_s hd
      have hea := hes.add
      have hed := hes.drl
      have hef := hes.fine (by decide)
      have hei := hes.ints
      skip
      refine Ls.does (some 58) (Does.readN rfl Tryz.func47 (by kernel_rfl) (by kernel_rfl) (c2) (by rfl) (by rfl) ⟨ReadsIn.rd 0 (by rfl), trivial⟩ (fun _ => by rfl)) (by rfl) (by rfl) ?_
      rintro ⟨⟨eA, ec⟩, ⟨fA, fc⟩⟩ -
      refine Ls.qM 56 ?_
      refine Ls.qE 59 (Ev.extract rfl (by rfl) (by rfl)) ?_
      refine Ls.qE 60 (Ev.extract rfl (by rfl) (by rfl)) ?_
      refine Ls.does (some 12) (Does.alloc (cs := [.slice none 0 0, .slice none 0 0, .int .i64 0, .int .i64 0, .int .i64 0]) rfl (ZeroIs.mk (.agg #[.slice none 0 0, .slice none 0 0, .int .i64 0, .int .i64 0, .int .i64 0]) (by kernel_rfl) (by rfl))) (by rfl) (by rfl) ?_
      intro g2 _
      refine Ls.qD (Does.store 0 rfl (by rfl) (by rfl) (by rfl) (by kernel_rfl) (by rfl) (by kernel_rfl) (by rfl)) ?_
      intro _ _
      refine Ls.qA 13 ?_
      refine Ls.nil ?_
      refine Cd.seq ?_
      refine Cd.seq ?_
      refine Cd.region ?_
      refine Ls.qM 61 ?_
      refine Ls.qE 62 (Ev.neq rfl (by rfl) (by rfl)) ?_
      refine Ls.nil ?_
      refine Cd.cond_false (by rfl) (decide_eq_false (by decide)) ?_
      refine Cd.skip ?_
      refine Cd.seq ?_
      refine Ent.pick [0, 1, 2, 4, 5, 6, 7] (by rfl) ?_
      refine Cd.draw [10] (by kernel_rfl) ?_
      refine Rg.qE 0 64 (by rfl) (Ev.move rfl (by rfl)) ?_
      refine Rg.qE 1 65 (by rfl) (Ev.nilCheck rfl (by rfl)) ?_
      refine Rg.qE 2 66 (by rfl) (Ev.fieldAddr (k := 1) rfl (by rfl) (by kernel_rfl) (by rfl)) ?_
      refine Rg.qE 3 67 (by rfl) (Ev.loads 3 rfl (by rfl) (by rfl) (n := 4) (by kernel_rfl) (by rfl) (by rfl)) ?_
      refine Rg.qE 4 68 (by rfl) (Ev.loads 0 rfl (by rfl) (by rfl) (n := 5) (by kernel_rfl) (by rfl) (by rfl)) ?_
      skip
      refine Rg.float1 9 (ι := Nat) (some 14) (fun g => .pointer (some ⟨g, 0, none⟩)) (fun g => blk g 24 [.slice none 0 0, .int .i64 0, .int .i64 0, .int .i64 0]) ?_
      skip
      by_cases hfit : FitOk v e
      · rw [if_pos hfit] at hrep
        skip
        skip
        refine RgF.does 5 (by rfl) (by rfl) (.inr (by kernel_rfl)) (by kernel_rfl) (Does.alloc (cs := [.slice none 0 0, .int .i64 0, .int .i64 0, .int .i64 0]) rfl (ZeroIs.mk (.agg #[.slice none 0 0, .int .i64 0, .int .i64 0, .int .i64 0]) (by kernel_rfl) (by rfl))) (by rfl) (some 14) (by rfl) (fun _ => by repeat (first | exact trivial | refine ⟨by rfl, ?_⟩ | refine ⟨by simp only [List.length_append, List.length_cons, List.length_nil]; rfl, ?_⟩ | refine ⟨by push_cast; rfl, ?_⟩)) (by exact fun _ _ h => h.last) (by exact fun _ _ h => h.pick [0, 1, 2, 3, 4, 5, 6] (by rfl)) (Does.readN rfl Tryz.func9 (by kernel_rfl) (by kernel_rfl) (fit_yes hfit A eA fA c ec fc (by omega) (by omega) hef hei) (by rfl) (by rfl) ⟨ReadsIn.row 4 (by rfl), ReadsIn.row 1 (by rfl), ReadsIn.row 2 (by rfl), trivial⟩ (fun _ => by rfl)) (by rfl) (some 69) (by rfl) (by exact fun _ _ h => h.pick [1, 2, 3, 4, 5, 6, 7] (by rfl)) (fun _ => Does.readN rfl Tryz.func9 (by kernel_rfl) (by kernel_rfl) (fit_yes hfit A eA fA c ec fc (by omega) (by omega) hef hei) (by rfl) (by rfl) ⟨ReadsIn.row 4 (by rfl), ReadsIn.row 1 (by rfl), ReadsIn.row 2 (by rfl), trivial⟩ (fun _ => by rfl)) (fun _ => by rfl) (by exact fun _ _ _ h => h.pick [1, 2, 3, 4, 5, 6, 7] (by rfl)) ?_
        rintro ⟨qA, qc⟩ -
        refine RgF.ev 6 (by rfl) (by exact fun _ h => h.pick [1, 2, 3, 4, 5, 6, 7] (by rfl)) (by exact fun _ _ h => h.pick [1, 2, 3, 4, 5, 6, 7] (by rfl)) (Ev.move rfl (by rfl)) (fun _ => Ev.move rfl (by rfl)) (by rfl) (fun _ => by rfl) (some 63) (by rfl) (by kernel_rfl) (by kernel_rfl) (by kernel_rfl) (by kernel_rfl) ?_
        refine RgF.ev 7 (by rfl) (by exact fun _ h => h.pick [1, 2, 3, 4, 5, 6, 7] (by rfl)) (by exact fun _ _ h => h.pick [1, 2, 3, 4, 5, 6, 7] (by rfl)) (Ev.extract rfl (by rfl) (by rfl)) (fun _ => Ev.extract rfl (by rfl) (by rfl)) (by rfl) (fun _ => by rfl) (some 70) (by rfl) (by kernel_rfl) (by kernel_rfl) (by kernel_rfl) (by kernel_rfl) ?_
        refine RgF.pv 8 (by rfl) (by exact fun _ h => h.pick [1, 2, 3, 4, 5, 6, 7] (by rfl)) (by exact fun _ _ h => h.pick [1, 2, 3, 4, 5, 6, 7] (by rfl)) (fun _ => Ev.extract rfl (by rfl) (by rfl)) (fun _ _ => Ev.extract rfl (by rfl) (by rfl)) (by rfl) (fun _ => by rfl) (some 71) (by rfl) (by kernel_rfl) (by kernel_rfl) (by kernel_rfl) (by kernel_rfl) ?_
        refine RgF.land (by rfl) (by kernel_rfl) (Does.alloc (cs := [.slice none 0 0, .int .i64 0, .int .i64 0, .int .i64 0]) rfl (ZeroIs.mk (.agg #[.slice none 0 0, .int .i64 0, .int .i64 0, .int .i64 0]) (by kernel_rfl) (by rfl))) (by rfl) (some 14) (by rfl) (fun _ => by repeat (first | exact trivial | refine ⟨by rfl, ?_⟩ | refine ⟨by simp only [List.length_append, List.length_cons, List.length_nil]; rfl, ?_⟩ | refine ⟨by push_cast; rfl, ?_⟩)) (by exact fun _ _ h => h.last) (by exact fun _ _ h => h.pick [1, 2, 3, 4, 5, 6, 7] (by rfl)) ?_
        intro g3
        skip
        refine Rg.one 10 (by kernel_rfl) ?_; refine RgO.tail 10 (by rfl) (Does.store 8 rfl (by rfl) (by rfl) (by rfl) (by kernel_rfl) (by rfl) (by kernel_rfl) (by rfl)) (by rfl) none (by rfl) (by kernel_rfl) (by kernel_rfl) ?_
        intro _ _
        skip
        refine Rg.ev 11 (by rfl) (fun _ h => h.pick [] (by rfl)) (Ev.assign rfl (by rfl)) (by rfl) (some 13) (by rfl) (by kernel_rfl) (by kernel_rfl) (by kernel_rfl) (by kernel_rfl) ?_
        refine Rg.done (by kernel_rfl) ?_ _
        refine Cd.seq ?_
        refine Cd.seq ?_
        refine Ent.pick [8, 4, 0, 6, 7] (by rfl) ?_
        refine Cd.region ?_
        refine Ls.qM 72 ?_
        refine Ls.qE 73 (Ev.neq rfl (by rfl) (by rfl)) ?_
        refine Ls.nil ?_
        refine Cd.cond_false (by rfl) (decide_eq_false (by decide)) ?_
        refine Cd.skip ?_
        refine Cd.region ?_
        refine Ls.qM 74 ?_
        refine Ls.qE 75 (Ev.loads 0 rfl (by rfl) (by rfl) (n := 4) (by kernel_rfl) (by rfl) (by rfl)) ?_
        refine Ls.qE 76 (Ev.nilCheck rfl (by rfl)) ?_
        refine Ls.qF 77 1 ?_
        refine Ls.qD (Does.store 1 rfl (by rfl) (by rfl) (by rfl) (by kernel_rfl) (by rfl) (by kernel_rfl) (by rfl)) ?_
        intro _ _
        refine Ls.nil ?_
        refine Cd.region ?_
        refine Ls.qE 78 (Ev.addN (b := 1) rfl (by rfl) (by rfl) (by omega)) ?_
        refine Ls.qM 52 ?_
        refine Ls.nil ?_
        refine Ent.pick [1, 2, 3, 4] (by rfl) ?_
        refine Ent.inv ((k + 1, outP v e, (qA, qc))) ?_ ?_ ?_
        · (try dsimp only); exact ⟨⟨hlt, hfit.out, hrep⟩, by omega⟩
        · (repeat (first | exact trivial | refine ⟨by rfl, ?_⟩ | refine ⟨by simp only [List.length_append, List.length_cons, List.length_nil]; rfl, ?_⟩ | refine ⟨by push_cast; rfl, ?_⟩))
        · rfl
      · rw [if_neg hfit] at hrep
        skip
        skip
        refine RgF.does 5 (by rfl) (by rfl) (.inr (by kernel_rfl)) (by kernel_rfl) (Does.alloc (cs := [.slice none 0 0, .int .i64 0, .int .i64 0, .int .i64 0]) rfl (ZeroIs.mk (.agg #[.slice none 0 0, .int .i64 0, .int .i64 0, .int .i64 0]) (by kernel_rfl) (by rfl))) (by rfl) (some 14) (by rfl) (fun _ => by repeat (first | exact trivial | refine ⟨by rfl, ?_⟩ | refine ⟨by simp only [List.length_append, List.length_cons, List.length_nil]; rfl, ?_⟩ | refine ⟨by push_cast; rfl, ?_⟩)) (by exact fun _ _ h => h.last) (by exact fun _ _ h => h.pick [0, 1, 2, 3, 4, 5, 6] (by rfl)) (Does.readN rfl Tryz.func9 (by kernel_rfl) (by kernel_rfl) (fit_no hfit (by omega) (good_fine hvg) A eA fA c ec fc (by omega) (by omega) hef hei) (by rfl) (by rfl) ⟨ReadsIn.row 4 (by rfl), ReadsIn.row 1 (by rfl), ReadsIn.row 2 (by rfl), trivial⟩ (fun _ => by rfl)) (by rfl) (some 69) (by rfl) (by exact fun _ _ h => h.pick [0, 1, 2, 3, 4, 5, 6] (by rfl)) (fun _ => Does.readN rfl Tryz.func9 (by kernel_rfl) (by kernel_rfl) (fit_no hfit (by omega) (good_fine hvg) A eA fA c ec fc (by omega) (by omega) hef hei) (by rfl) (by rfl) ⟨ReadsIn.row 4 (by rfl), ReadsIn.row 1 (by rfl), ReadsIn.row 2 (by rfl), trivial⟩ (fun _ => by rfl)) (fun _ => by rfl) (by exact fun _ _ _ h => h.pick [0, 1, 2, 3, 4, 5, 6] (by rfl)) ?_
        rintro _ -
        refine RgF.ev 6 (by rfl) (by exact fun _ h => h.pick [0, 1, 2, 3, 4, 5, 6] (by rfl)) (by exact fun _ _ h => h.pick [0, 1, 2, 3, 4, 5, 6] (by rfl)) (Ev.move rfl (by rfl)) (fun _ => Ev.move rfl (by rfl)) (by rfl) (fun _ => by rfl) (some 63) (by rfl) (by kernel_rfl) (by kernel_rfl) (by kernel_rfl) (by kernel_rfl) ?_
        refine RgF.ev 7 (by rfl) (by exact fun _ h => h.pick [0, 1, 2, 3, 4, 5, 6] (by rfl)) (by exact fun _ _ h => h.pick [0, 1, 2, 3, 4, 5, 6] (by rfl)) (Ev.extract rfl (by rfl) (by rfl)) (fun _ => Ev.extract rfl (by rfl) (by rfl)) (by rfl) (fun _ => by rfl) (some 70) (by rfl) (by kernel_rfl) (by kernel_rfl) (by kernel_rfl) (by kernel_rfl) ?_
        refine RgF.pv 8 (by rfl) (by exact fun _ h => h.pick [0, 1, 2, 3, 4, 5, 6] (by rfl)) (by exact fun _ _ h => h.pick [0, 1, 2, 3, 4, 5, 6] (by rfl)) (fun _ => Ev.extract rfl (by rfl) (by rfl)) (fun _ _ => Ev.extract rfl (by rfl) (by rfl)) (by rfl) (fun _ => by rfl) (some 71) (by rfl) (by kernel_rfl) (by kernel_rfl) (by kernel_rfl) (by kernel_rfl) ?_
        refine RgF.land (by rfl) (by kernel_rfl) (Does.alloc (cs := [.slice none 0 0, .int .i64 0, .int .i64 0, .int .i64 0]) rfl (ZeroIs.mk (.agg #[.slice none 0 0, .int .i64 0, .int .i64 0, .int .i64 0]) (by kernel_rfl) (by rfl))) (by rfl) (some 14) (by rfl) (fun _ => by repeat (first | exact trivial | refine ⟨by rfl, ?_⟩ | refine ⟨by simp only [List.length_append, List.length_cons, List.length_nil]; rfl, ?_⟩ | refine ⟨by push_cast; rfl, ?_⟩)) (by exact fun _ _ h => h.last) (by exact fun _ _ h => h.pick [0, 1, 2, 3, 4, 5, 6] (by rfl)) ?_
        intro g3
        skip
        refine Rg.one 10 (by kernel_rfl) ?_; refine RgO.tail 10 (by rfl) (Does.store 7 rfl (by rfl) (by rfl) (by rfl) (by kernel_rfl) (by rfl) (by kernel_rfl) (by rfl)) (by rfl) none (by rfl) (by kernel_rfl) (by kernel_rfl) ?_
        intro _ _
        skip
        refine Rg.ev 11 (by rfl) (fun _ h => h.pick [] (by rfl)) (Ev.assign rfl (by rfl)) (by rfl) (some 13) (by rfl) (by kernel_rfl) (by kernel_rfl) (by kernel_rfl) (by kernel_rfl) ?_
        refine Rg.done (by kernel_rfl) ?_ _
        refine Cd.seq ?_
        refine Cd.seq ?_
        refine Ent.pick [3, 4] (by rfl) ?_
        refine Cd.region ?_
        refine Ls.qM 72 ?_
        refine Ls.qE 73 (Ev.neq rfl (by rfl) (by rfl)) ?_
        refine Ls.nil ?_
        refine Cd.cond_true (by rfl) (decide_eq_true (by decide)) ?_
        refine Cd.exit ?_
        refine Cd.seq ?_
        refine Cd.region ?_
        refine Ls.qM 79 ?_
        refine Ls.qA 2 ?_
        refine Ls.nil ?_
        rw [hrep]
        refine Cd.ret ?_
        refine Ent.ret ((g1, (A, c))) (trivial) (Res.tmp (by rfl) (by rfl)) ?_ [0, 1] (by rfl) ?_
        · rfl
        · rfl
  · skip
    have hge : S.length ≤ k := by have := of_decide_eq_false h2; omega
    have he : pl.drop k = [] := List.drop_of_length_le (by omega)
    rw [he, repP] at hrep
    refine Cd.exit ?_
    refine Cd.seq ?_
    refine Cd.region ?_
    refine Ls.qM 79 ?_
    refine Ls.qA 2 ?_
    refine Ls.nil ?_
    rw [hrep]
    refine Cd.ret ?_
    refine Ent.ret ((g1, (A, c))) (trivial) (Res.tmp (by rfl) (by rfl)) ?_ [0, 1] (by rfl) ?_
    · rfl
    · rfl
end Go.Proofs.YtacbkganjkipdaaGreatDoor
/- One's own lent to be read, and had back. -/
namespace Go.Proofs.YtacbkganjkipdaaGreatDoor
section
variable {P : Program} {f : FuncId} {args : Array Value} {ι : Type} {res : ι → Value} {φ : ι → Prop}
/-- A function that reads r, and answers only with what is its own, leaves alone what r is a part of. -/
theorem Fn.lend {Hp : List Chunk} {R r : Chunk} {H' : ι → List Chunk} (h : Fn P f args (Hp ++ [r]) ι res H' φ) (hex : ∀ i, φ i → ∀ C ∈ H' i, C.excl = true) (hr : r.excl = false) (hR : R.excl = true) (hh : ∀ w, R.holds w → r.holds w) (hf : ∀ k, r.foot k → R.foot k) :
    Fn P f args (Hp ++ [R]) ι res (fun i => H' i ++ [R]) φ := fun w hs => by
  obtain ⟨s1, s2, s3⟩ := sat0_append.1 hs
  have hRw : R.holds w := s2.1 R (List.mem_singleton.2 rfl)
  have hap : ∀ C ∈ Hp, ∀ k, C.foot k → ¬ R.foot k := fun C hC => s3 C hC R (List.mem_singleton.2 rfl) (.inr hR)
  have hs0 : Sat0 (Hp ++ [r]) w := sat0_append.2 ⟨s1, ⟨fun C hC => by rw [List.mem_singleton.1 hC]; exact hh w hRw, List.pairwise_singleton _ _⟩, fun C hC D hD _ k hk hk' => by
    rw [List.mem_singleton.1 hD] at hk'
    exact hap C hC k hk (hf k hk')⟩
  refine (h w hs0).mono ?_
  rintro e w' ⟨i, hi, he, hs'⟩
  have hS : ∀ k, Ctx.S ⟨w, Hp ++ [r]⟩ k → ∃ D ∈ Hp, D.excl = true ∧ D.foot k := fun k ⟨D, hD, hx, hk⟩ => by
    rcases List.mem_append.1 hD with hD | hD
    · exact ⟨D, hD, hx, hk⟩
    · rw [List.mem_singleton.1 hD, hr] at hx
      cases hx
  have hS2 : ∀ k, Ctx.S ⟨w, Hp ++ [r]⟩ k → Ctx.S ⟨w, Hp ++ [R]⟩ k := fun k hk => by
    obtain ⟨D, hD, hx, hk⟩ := hS k hk
    exact ⟨D, List.mem_append_left _ hD, hx, hk⟩
  have hO : ∀ k, Ctx.old ⟨w, Hp ++ [r]⟩ k → Ctx.old ⟨w, Hp ++ [R]⟩ k := fun k ⟨D, hD, hk⟩ => by
    rcases List.mem_append.1 hD with hD | hD
    · exact ⟨D, List.mem_append_left _ hD, hk⟩
    · rw [List.mem_singleton.1 hD] at hk
      exact ⟨R, List.mem_append_right _ (List.mem_singleton.2 rfl), hf k hk⟩
  have hblk : ∀ k, R.foot k → w'.heap[k]? = w.heap[k]? := fun k hk => hs'.upd.block k (R.lt w k hRw hk) fun hc => by
    obtain ⟨D, hD, _, hk'⟩ := hS k hc
    exact hap D hD k hk' hk
  refine ⟨i, hi, he, ⟨hs'.upd.os, hs'.upd.tape, hs'.upd.output, hs'.upd.size, fun k hk hn => hs'.upd.block k hk fun hc => hn (hS2 k hc)⟩, sat0_append.2 ⟨hs'.sat, ⟨fun C hC => by rw [List.mem_singleton.1 hC]; exact R.loc w w' hs'.upd.size hblk hRw, List.pairwise_singleton _ _⟩, fun C hC D hD _ k hk hk' => ?_⟩, fun C hC => ?_⟩
  · rw [List.mem_singleton.1 hD] at hk'
    obtain ⟨D', hD', _, hk2⟩ := hS k ((hs'.fits C hC k hk (R.lt w k hRw hk')).2 (hex i hi C hC))
    exact hap D' hD' k hk2 hk'
  · rcases List.mem_append.1 hC with hC | hC
    · intro k hk hlt
      obtain ⟨o1, o2⟩ := hs'.fits C hC k hk hlt
      exact ⟨hO k o1, fun hx => hS2 k (o2 hx)⟩
    · rw [List.mem_singleton.1 hC]
      intro k hk _
      exact ⟨⟨R, List.mem_append_right _ (List.mem_singleton.2 rfl), hk⟩, fun _ => ⟨R, List.mem_append_right _ (List.mem_singleton.2 rfl), hR, hk⟩⟩
end
end Go.Proofs.YtacbkganjkipdaaGreatDoor
/- manifest.Change -/
namespace Go.Proofs.YtacbkganjkipdaaGreatDoor
open Go.RowKit
theorem Fn.via {P : Program} {f : FuncId} {args : Array Value} {H1 H2 : List Chunk} {ι : Type} {res : ι → Value} {H' : ι → List Chunk} {φ : ι → Prop} (h : Fn P f args H1 ι res H' φ) (hs : ∀ w, Sat0 H2 w → Sat ⟨w, H2⟩ H1 w) : Fn P f args H2 ι res H' φ := fun w h2 => by
  have hv := hs w h2
  refine (h w hv.sat).mono fun e w' ⟨i, h1, h2, h3⟩ => ⟨i, h1, h2, ?_⟩
  refine ⟨h3.upd.mono fun k hk ⟨D, hD, he, hf⟩ => (hv.fits D hD k hf hk).2 he, h3.sat, fun C hC k hk hl => ?_⟩
  obtain ⟨⟨D, hD, hk2⟩, h5⟩ := h3.fits C hC k hk hl
  refine ⟨(hv.fits D hD k hk2 hl).1, fun he => ?_⟩
  obtain ⟨D', hD', he', hk'⟩ := h5 he
  exact (hv.fits D' hD' k hk' hl).2 he'
/-- What an edit must be for the walk. -/
structure EdIn (e : EdP) : Prop where
  add : e.add.length ≤ 10000000
  drl : e.drop.length ≤ 1000000000
  fine : Fine e.add
  ints : ∀ x ∈ e.drop, in64 x
  nx : in64 e.nx
  lg : in64 e.lg
  sq : in64 e.sq
theorem EdIn.enc {v : VsP} {e : EdP} (h : EdIn e) (hf : FitOk v e) : EncOk e := hf.enc h.add ⟨h.nx.2, h.lg.2, h.sq.2⟩
theorem lend_swap {D : DrS} {P : DrP} (h : Drv D P) (mg : Nat) (B : Option Addr) (b : Nat) (m : MfP) (log : List UInt8) (hlog : Good log) (A : Option Addr) (c : Nat) (l : List UInt8) (hl : l.length ≤ 1099511627776) : Fn Tryz.prog 56 #[ptrV mg, .string (txt log), .slice A l.length c] ([rdB A l, laidC, D.B, D.M, D.F] ++ [mfB mg D.d B b m]) DrS (fun _ => .int .i64 (runP (swapL P log l) P).2) (fun D' => [D'.B, D'.M, D'.F] ++ [mfB mg D.d B b m]) (fun D' => Drv D' (runP (swapL P log l) P).1 ∧ D'.d = D.d ∧ D'.m = D.m) :=
  Fn.lend (r := rmfB mg D.d B b m) ((mswap_sl h mg B b m log hlog A c l hl).via (H2 := [rdB A l, laidC, D.B, D.M, D.F] ++ [rmfB mg D.d B b m]) fun w hs => (Sat.start hs).pick [5, 0, 1, 2, 3, 4] (by rfl)) (fun D' _ C hC => by
    simp only [List.mem_cons, List.not_mem_nil, or_false] at hC
    rcases hC with rfl | rfl | rfl <;> rfl) rfl rfl (fun _ hw => hw) (fun _ hk => hk)
def spMade (g gl gb : Nat) (q l : List UInt8) : List StP :=
  [⟨clV 52 [ptrV g, ptrV gl, ptrV gb], fun P => P.append q l, rfl⟩, ⟨clV 54 [ptrV g, ptrV gl], fun P => P.sync q, rfl⟩]
theorem lend_made {D : DrS} {P : DrP} (h : Drv D P) (g mg gl gb : Nat) (B : Option Addr) (b : Nat) (m : MfP) (q : List UInt8) (hq : Good q) (A : Option Addr) (c : Nat) (l : List UInt8) (hl : l.length ≤ 1099511627776) (lA : Option Addr) (lc : Nat) : Fn Tryz.prog 51 #[.slice lA 2 lc] ([rd lA 2 1 ((spMade g gl gb q l).map StP.v), bxM g mg, bxT gl q, bxB gb A l.length c, rdB A l, D.B, D.M, D.F] ++ [mfB mg D.d B b m]) DrS (fun _ => .int .i64 (runP [fun P => P.append q l, fun P => P.sync q] P).2) (fun D' => [D'.B, D'.M, D'.F] ++ [mfB mg D.d B b m]) (fun D' => Drv D' (runP [fun P => P.append q l, fun P => P.sync q] P).1 ∧ D'.d = D.d ∧ D'.m = D.m) := by
  obtain ⟨Cs, hCs⟩ : ∃ Cs, Cs = [bxM g mg, rmfB mg D.d B b m, bxT gl q, bxB gb A l.length c, rdB A l] := ⟨_, rfl⟩
  have cM : Cov Cs (bxM g mg) := by rw [hCs]; exact Cov.mem rfl (by simp)
  have cF : ∀ D' : DrS, D'.d = D.d → Cov Cs (rmfB mg D'.d B b m) := fun D' e => by rw [e, hCs]; exact Cov.mem rfl (by simp)
  have cT : Cov Cs (bxT gl q) := by rw [hCs]; exact Cov.mem rfl (by simp)
  have cB : Cov Cs (bxB gb A l.length c) := by rw [hCs]; exact Cov.mem rfl (by simp)
  have cR : Cov Cs (rdB A l) := by rw [hCs]; exact Cov.mem rfl (by simp)
  have hall : ∀ s ∈ spMade g gl gb q l, StepOk D.d D.m Cs s.v s.f := fun s hs => by
    unfold spMade at hs
    simp only [List.mem_cons, List.not_mem_nil, or_false] at hs
    rcases hs with rfl | rfl
    · exact step_of Tryz.func52 (by kernel_rfl) (by kernel_rfl) (fun D' => [bxM g mg, rmfB mg D'.d B b m, bxT gl q, bxB gb A l.length c, rdB A l]) (fun D' e C hC => by
        simp only [List.mem_cons, List.not_mem_nil, or_false] at hC
        rcases hC with rfl | rfl | rfl | rfl | rfl
        · exact cM
        · exact cF D' e
        · exact cT
        · exact cB
        · exact cR) (fun D' P' h' => ch1_sl h' g mg gl gb B b m q hq A c l hl)
    · exact step_of Tryz.func54 (by kernel_rfl) (by kernel_rfl) (fun D' => [bxM g mg, rmfB mg D'.d B b m, bxT gl q]) (fun D' e C hC => by
        simp only [List.mem_cons, List.not_mem_nil, or_false] at hC
        rcases hC with rfl | rfl | rfl
        · exact cM
        · exact cF D' e
        · exact cT) (fun D' P' h' => ch2_sl h' g mg gl B b m q hq)
  have c0 := msteps_sl (spMade g gl gb q l) hall (show 2 ≤ 1000000 by decide) h rfl rfl lA lc
  rw [hCs] at c0
  exact Fn.lend (r := rmfB mg D.d B b m) (c0.via (H2 := [rd lA 2 1 ((spMade g gl gb q l).map StP.v), bxM g mg, bxT gl q, bxB gb A l.length c, rdB A l, D.B, D.M, D.F] ++ [rmfB mg D.d B b m]) fun w hs => ((Sat.stars_close (A := [bxM g mg, rmfB mg D.d B b m, bxT gl q, bxB gb A l.length c, rdB A l]) (fun C hC => by
      simp only [List.mem_cons, List.not_mem_nil, or_false] at hC
      rcases hC with rfl | rfl | rfl | rfl | rfl <;> rfl) ((Sat.start hs).pick [1, 8, 2, 3, 4, 0, 5, 6, 7] (by rfl))).pick [1, 0, 2, 3, 4] (by rfl))) (fun D' _ C hC => by
    simp only [List.mem_cons, List.not_mem_nil, or_false] at hC
    rcases hC with rfl | rfl | rfl <;> rfl) rfl rfl (fun _ hw => hw) (fun _ hk => hk)
theorem snapB_le {v : VsP} (hv : goodP v) : (snapB v).length ≤ 1099511627776 := by
  have h1 := flat_le (g := fun e => sealL (edB e)) (b := 4110) (l := snapE v) (fun e he => sealL_le (snap_enc hv he).2.2)
  have h2 : (snapE v).length ≤ 1000001 := by
    have := good_few hv
    unfold snapE
    rw [List.length_cons, List.length_map]
    omega
  have h3 : (snapE v).length * 4110 ≤ 1000001 * 4110 := Nat.mul_le_mul_right _ h2
  exact Nat.le_trans (Nat.le_trans h1 h3) (by decide)
def chgC (g d : Nat) (m : MfP) (r : DrS × (Option Addr × Nat)) : List Chunk := [mfB g d r.2.1 r.2.2 m, rowTb r.2.1 m.v.tbs.length r.2.2 m.v.tbs, r.1.B, r.1.M, r.1.F]
set_option maxHeartbeats 4000000 in
theorem mchange_sl {D : DrS} {P : DrP} (h : Drv D P) (g : Nat) (A : Option Addr) (c : Nat) (m : MfP) (hg : goodP m.v) (hn : m.num ≤ 1000000) (e : EdP) (he : EdIn e) (B E : Option Addr) (b d : Nat) : Fn Tryz.prog 14 #[ptrV g, .agg (e.val B b E d).toArray] [mfB g D.d A c m, rowTb A m.v.tbs.length c m.v.tbs, rdT B e.add, rd E e.drop.length 1 (ints e.drop), laidC, D.B, D.M, D.F] (DrS × (Option Addr × Nat)) (fun _ => .int .i64 (chgP P m e).2.2) (chgC g D.d (chgP P m e).2.1) (fun r => Drv r.1 (chgP P m e).1 ∧ r.1.d = D.d ∧ r.1.m = D.m) := by
  have hfew := good_few hg
  refine Fn.enter Tryz.func14 rfl Tryz.ntmps14 (by rfl) ?_
  intro w0
  refine Cd.seq ?_
  refine Cd.region ?_
  refine Ls.does (some 2) (Does.box rfl (by rfl)) (by rfl) (by rfl) ?_
  intro g1 _
  refine Ls.does (some 3) (Does.box rfl (by rfl)) (by rfl) (by rfl) ?_
  intro g2 _
  refine Ls.qA 4 ?_
  refine Ls.nil ?_
  refine Cd.seq ?_
  refine Cd.draw [10] (by kernel_rfl) ?_
  refine Rg.qE 0 12 (by rfl) (Ev.load 1 rfl (by rfl) (by rfl) (by kernel_rfl) (by rfl)) ?_
  refine Rg.qE 1 13 (by rfl) (Ev.nilCheck rfl (by rfl)) ?_
  refine Rg.qE 2 14 (by rfl) (Ev.fieldAddr (k := 1) rfl (by rfl) (by kernel_rfl) (by rfl)) ?_
  refine Rg.qE 3 15 (by rfl) (Ev.loads 2 rfl (by rfl) (by rfl) (n := 4) (by kernel_rfl) (by rfl) (by rfl)) ?_
  refine Rg.qE 4 16 (by rfl) (Ev.loads 0 rfl (by rfl) (by rfl) (n := 5) (by kernel_rfl) (by rfl) (by rfl)) ?_
  skip
  refine Rg.float1 9 (ι := Nat) (some 5) (fun g => .pointer (some ⟨g, 0, none⟩)) (fun g => blk g 24 [.slice none 0 0, .int .i64 0, .int .i64 0, .int .i64 0]) ?_
  skip
  by_cases hfit : FitOk m.v e
  rotate_left
  · have hch : chgP P m e = (P, m, 80) := by unfold chgP; rw [if_pos hfit]
    rw [hch]
    skip
    skip
    refine RgF.does 5 (by rfl) (by rfl) (.inr (by kernel_rfl)) (by kernel_rfl) (Does.alloc (cs := [.slice none 0 0, .int .i64 0, .int .i64 0, .int .i64 0]) rfl (ZeroIs.mk (.agg #[.slice none 0 0, .int .i64 0, .int .i64 0, .int .i64 0]) (by kernel_rfl) (by rfl))) (by rfl) (some 5) (by rfl) (fun _ => by repeat (first | exact trivial | refine ⟨by rfl, ?_⟩ | refine ⟨by simp only [List.length_append, List.length_cons, List.length_nil]; rfl, ?_⟩ | refine ⟨by push_cast; rfl, ?_⟩)) (by exact fun _ _ h => h.last) (by exact fun _ _ h => h.pick [0, 1, 2, 3, 4, 5, 6, 7, 8, 9] (by rfl)) (Does.readN rfl Tryz.func9 (by kernel_rfl) (by kernel_rfl) (fit_no hfit (by omega) (good_fine hg) A B E c b d he.add he.drl he.fine he.ints) (by rfl) (by rfl) ⟨ReadsIn.row 3 (by rfl), ReadsIn.rd 4 (by rfl), ReadsIn.rd 5 (by rfl), trivial⟩ (fun _ => by rfl)) (by rfl) (some 17) (by rfl) (by exact fun _ _ h => h.pick [0, 1, 2, 3, 4, 5, 6, 7, 8, 9] (by rfl)) (fun _ => Does.readN rfl Tryz.func9 (by kernel_rfl) (by kernel_rfl) (fit_no hfit (by omega) (good_fine hg) A B E c b d he.add he.drl he.fine he.ints) (by rfl) (by rfl) ⟨ReadsIn.row 3 (by rfl), ReadsIn.rd 4 (by rfl), ReadsIn.rd 5 (by rfl), trivial⟩ (fun _ => by rfl)) (fun _ => by rfl) (by exact fun _ _ _ h => h.pick [0, 1, 2, 3, 4, 5, 6, 7, 8, 9] (by rfl)) ?_
    rintro _ -
    refine RgF.ev 6 (by rfl) (by exact fun _ h => h.pick [0, 1, 2, 3, 4, 5, 6, 7, 8, 9] (by rfl)) (by exact fun _ _ h => h.pick [0, 1, 2, 3, 4, 5, 6, 7, 8, 9] (by rfl)) (Ev.move rfl (by rfl)) (fun _ => Ev.move rfl (by rfl)) (by rfl) (fun _ => by rfl) (some 11) (by rfl) (by kernel_rfl) (by kernel_rfl) (by kernel_rfl) (by kernel_rfl) ?_
    refine RgF.ev 7 (by rfl) (by exact fun _ h => h.pick [0, 1, 2, 3, 4, 5, 6, 7, 8, 9] (by rfl)) (by exact fun _ _ h => h.pick [0, 1, 2, 3, 4, 5, 6, 7, 8, 9] (by rfl)) (Ev.extract rfl (by rfl) (by rfl)) (fun _ => Ev.extract rfl (by rfl) (by rfl)) (by rfl) (fun _ => by rfl) (some 18) (by rfl) (by kernel_rfl) (by kernel_rfl) (by kernel_rfl) (by kernel_rfl) ?_
    refine RgF.pv 8 (by rfl) (by exact fun _ h => h.pick [0, 1, 2, 3, 4, 5, 6, 7, 8, 9] (by rfl)) (by exact fun _ _ h => h.pick [0, 1, 2, 3, 4, 5, 6, 7, 8, 9] (by rfl)) (fun _ => Ev.extract rfl (by rfl) (by rfl)) (fun _ _ => Ev.extract rfl (by rfl) (by rfl)) (by rfl) (fun _ => by rfl) (some 19) (by rfl) (by kernel_rfl) (by kernel_rfl) (by kernel_rfl) (by kernel_rfl) ?_
    refine RgF.land (by rfl) (by kernel_rfl) (Does.alloc (cs := [.slice none 0 0, .int .i64 0, .int .i64 0, .int .i64 0]) rfl (ZeroIs.mk (.agg #[.slice none 0 0, .int .i64 0, .int .i64 0, .int .i64 0]) (by kernel_rfl) (by rfl))) (by rfl) (some 5) (by rfl) (fun _ => by repeat (first | exact trivial | refine ⟨by rfl, ?_⟩ | refine ⟨by simp only [List.length_append, List.length_cons, List.length_nil]; rfl, ?_⟩ | refine ⟨by push_cast; rfl, ?_⟩)) (by exact fun _ _ h => h.last) (by exact fun _ _ h => h.pick [0, 1, 2, 3, 4, 5, 6, 7, 8, 9] (by rfl)) ?_
    intro g3
    skip
    refine Rg.one 10 (by kernel_rfl) ?_; refine RgO.tail 10 (by rfl) (Does.store 10 rfl (by rfl) (by rfl) (by rfl) (by kernel_rfl) (by rfl) (by kernel_rfl) (by rfl)) (by rfl) none (by rfl) (by kernel_rfl) (by kernel_rfl) ?_
    intro _ _
    skip
    refine Rg.ev 11 (by rfl) (fun _ h => h.pick [] (by rfl)) (Ev.assign rfl (by rfl)) (by rfl) (some 6) (by rfl) (by kernel_rfl) (by kernel_rfl) (by kernel_rfl) (by kernel_rfl) ?_
    refine Rg.done (by kernel_rfl) ?_ _
    refine Cd.seq ?_
    refine Cd.seq ?_
    refine Cd.region ?_
    refine Ls.qM 20 ?_
    refine Ls.qE 21 (Ev.neq rfl (by rfl) (by rfl)) ?_
    refine Ls.nil ?_
    refine Cd.cond_true (by rfl) (decide_eq_true (by decide)) ?_
    refine Cd.seq ?_
    refine Cd.region ?_
    refine Ls.qM 22 ?_
    refine Ls.qA 4 ?_
    refine Ls.nil ?_
    refine Ent.pick [2, 3, 7, 8, 9] (by rfl) ?_
    refine Cd.ret ?_
    refine Ent.ret ((D, (A, c))) (⟨h, rfl, rfl⟩) (Res.tmp (by rfl) (by rfl)) ?_ [0, 1, 2, 3, 4] (by rfl) ?_
    · rfl
    · rfl
  have hen := he.enc hfit
  skip
  skip
  refine RgF.does 5 (by rfl) (by rfl) (.inr (by kernel_rfl)) (by kernel_rfl) (Does.alloc (cs := [.slice none 0 0, .int .i64 0, .int .i64 0, .int .i64 0]) rfl (ZeroIs.mk (.agg #[.slice none 0 0, .int .i64 0, .int .i64 0, .int .i64 0]) (by kernel_rfl) (by rfl))) (by rfl) (some 5) (by rfl) (fun _ => by repeat (first | exact trivial | refine ⟨by rfl, ?_⟩ | refine ⟨by simp only [List.length_append, List.length_cons, List.length_nil]; rfl, ?_⟩ | refine ⟨by push_cast; rfl, ?_⟩)) (by exact fun _ _ h => h.last) (by exact fun _ _ h => h.pick [0, 1, 2, 3, 4, 5, 6, 7, 8, 9] (by rfl)) (Does.readN rfl Tryz.func9 (by kernel_rfl) (by kernel_rfl) (fit_yes hfit A B E c b d he.add he.drl he.fine he.ints) (by rfl) (by rfl) ⟨ReadsIn.row 3 (by rfl), ReadsIn.rd 4 (by rfl), ReadsIn.rd 5 (by rfl), trivial⟩ (fun _ => by rfl)) (by rfl) (some 17) (by rfl) (by exact fun _ _ h => h.pick [1, 2, 3, 4, 5, 6, 7, 8, 9, 10] (by rfl)) (fun _ => Does.readN rfl Tryz.func9 (by kernel_rfl) (by kernel_rfl) (fit_yes hfit A B E c b d he.add he.drl he.fine he.ints) (by rfl) (by rfl) ⟨ReadsIn.row 3 (by rfl), ReadsIn.rd 4 (by rfl), ReadsIn.rd 5 (by rfl), trivial⟩ (fun _ => by rfl)) (fun _ => by rfl) (by exact fun _ _ _ h => h.pick [1, 2, 3, 4, 5, 6, 7, 8, 9, 10] (by rfl)) ?_
  rintro ⟨nA, nc⟩ -
  refine RgF.ev 6 (by rfl) (by exact fun _ h => h.pick [1, 2, 3, 4, 5, 6, 7, 8, 9, 10] (by rfl)) (by exact fun _ _ h => h.pick [1, 2, 3, 4, 5, 6, 7, 8, 9, 10] (by rfl)) (Ev.move rfl (by rfl)) (fun _ => Ev.move rfl (by rfl)) (by rfl) (fun _ => by rfl) (some 11) (by rfl) (by kernel_rfl) (by kernel_rfl) (by kernel_rfl) (by kernel_rfl) ?_
  refine RgF.ev 7 (by rfl) (by exact fun _ h => h.pick [1, 2, 3, 4, 5, 6, 7, 8, 9, 10] (by rfl)) (by exact fun _ _ h => h.pick [1, 2, 3, 4, 5, 6, 7, 8, 9, 10] (by rfl)) (Ev.extract rfl (by rfl) (by rfl)) (fun _ => Ev.extract rfl (by rfl) (by rfl)) (by rfl) (fun _ => by rfl) (some 18) (by rfl) (by kernel_rfl) (by kernel_rfl) (by kernel_rfl) (by kernel_rfl) ?_
  refine RgF.pv 8 (by rfl) (by exact fun _ h => h.pick [1, 2, 3, 4, 5, 6, 7, 8, 9, 10] (by rfl)) (by exact fun _ _ h => h.pick [1, 2, 3, 4, 5, 6, 7, 8, 9, 10] (by rfl)) (fun _ => Ev.extract rfl (by rfl) (by rfl)) (fun _ _ => Ev.extract rfl (by rfl) (by rfl)) (by rfl) (fun _ => by rfl) (some 19) (by rfl) (by kernel_rfl) (by kernel_rfl) (by kernel_rfl) (by kernel_rfl) ?_
  refine RgF.land (by rfl) (by kernel_rfl) (Does.alloc (cs := [.slice none 0 0, .int .i64 0, .int .i64 0, .int .i64 0]) rfl (ZeroIs.mk (.agg #[.slice none 0 0, .int .i64 0, .int .i64 0, .int .i64 0]) (by kernel_rfl) (by rfl))) (by rfl) (some 5) (by rfl) (fun _ => by repeat (first | exact trivial | refine ⟨by rfl, ?_⟩ | refine ⟨by simp only [List.length_append, List.length_cons, List.length_nil]; rfl, ?_⟩ | refine ⟨by push_cast; rfl, ?_⟩)) (by exact fun _ _ h => h.last) (by exact fun _ _ h => h.pick [1, 2, 3, 4, 5, 6, 7, 8, 9, 10] (by rfl)) ?_
  intro g3
  skip
  refine Rg.one 10 (by kernel_rfl) ?_; refine RgO.tail 10 (by rfl) (Does.store 11 rfl (by rfl) (by rfl) (by rfl) (by kernel_rfl) (by rfl) (by kernel_rfl) (by rfl)) (by rfl) none (by rfl) (by kernel_rfl) (by kernel_rfl) ?_
  intro _ _
  skip
  refine Rg.ev 11 (by rfl) (fun _ h => h.pick [] (by rfl)) (Ev.assign rfl (by rfl)) (by rfl) (some 6) (by rfl) (by kernel_rfl) (by kernel_rfl) (by kernel_rfl) (by kernel_rfl) ?_
  refine Rg.done (by kernel_rfl) ?_ _
  refine Cd.seq ?_
  refine Cd.seq ?_
  refine Ent.pick [11, 2, 3, 1, 7, 0, 5, 6, 4, 8, 9, 10] (by rfl) ?_
  refine Ent.norm ([(2, .pointer (some ⟨g1, 0, none⟩)), (3, .pointer (some ⟨g2, 0, none⟩)), (4, .int .i64 0), (5, .pointer (some ⟨g3, 0, none⟩)), (6, .int .i64 0)]) ([blk g3 24 [.slice nA (outP m.v e).tbs.length nc, .int .i64 (outP m.v e).nx, .int .i64 (outP m.v e).lg, .int .i64 (outP m.v e).sq], blk g1 39 [ptrV g], mfB g D.d A c m, blk g2 27 (e.val B b E d), laidC, rowTb nA (outP m.v e).tbs.length nc (outP m.v e).tbs, rdT B e.add, rd E e.drop.length 1 (ints e.drop), rowTb A m.v.tbs.length c m.v.tbs, D.B, D.M, D.F]) (by repeat (first | exact trivial | refine ⟨by rfl, ?_⟩ | refine ⟨by simp only [List.length_append, List.length_cons, List.length_nil]; rfl, ?_⟩ | refine ⟨by push_cast; rfl, ?_⟩)) (by rfl) ?_
  have hch0 : chgP P m e = if 4096 < (edB e).length then (P, m, 3) else if 999999 < m.num then (P, m, 5) else if m.dead = true then (P, m, 6) else (if (if m.made = true then runP [fun P => P.append (nameK kMan m.num) (sealL (edB e)), fun P => P.sync (nameK kMan m.num)] P else runP (swapL P (nameK kMan m.num) (snapB (outP m.v e))) P).2 ≠ 0 then ((if m.made = true then runP [fun P => P.append (nameK kMan m.num) (sealL (edB e)), fun P => P.sync (nameK kMan m.num)] P else runP (swapL P (nameK kMan m.num) (snapB (outP m.v e))) P).1, { m with dead := true }, 6) else ((if m.made = true then runP [fun P => P.append (nameK kMan m.num) (sealL (edB e)), fun P => P.sync (nameK kMan m.num)] P else runP (swapL P (nameK kMan m.num) (snapB (outP m.v e))) P).1, { m with made := true, v := outP m.v e }, 0)) := by
    unfold chgP
    rw [if_neg (fun k => k hfit)]
  have hwg := hfit.out
  generalize chgP P m e = R at hch0 ⊢
  generalize outP m.v e = w2 at hch0 hwg ⊢
  refine Cd.region ?_
  refine Ls.qM 20 ?_
  refine Ls.qE 21 (Ev.neq rfl (by rfl) (by rfl)) ?_
  refine Ls.nil ?_
  refine Cd.cond_false (by rfl) (decide_eq_false (by decide)) ?_
  refine Cd.skip ?_
  refine Cd.seq ?_
  refine Cd.region ?_
  refine Ls.qE 24 (Ev.loads 3 rfl (by rfl) (by rfl) (n := 5) (by kernel_rfl) (by rfl) (by rfl)) ?_
  by_cases hlong : 4096 < (edB e).length
  · rw [if_pos hlong] at hch0
    subst hch0
    skip
    refine Ls.does (some 25) (Does.readN rfl Tryz.func48 (by kernel_rfl) (by kernel_rfl) (encode_no hen hlong B E b d) (by rfl) (by rfl) ⟨ReadsIn.rd 6 (by rfl), ReadsIn.rd 7 (by rfl), trivial⟩ (fun _ => by rfl)) (by rfl) (by rfl) ?_
    rintro _ -
    refine Ls.qM 23 ?_
    refine Ls.qE 26 (Ev.extract rfl (by rfl) (by rfl)) ?_
    refine Ls.qE 27 (Ev.extract rfl (by rfl) (by rfl)) ?_
    refine Ls.qA 7 ?_
    refine Ls.qA 6 ?_
    refine Ls.nil ?_
    refine Cd.seq ?_
    refine Cd.block ?_
    refine Cd.seq ?_
    refine Cd.region ?_
    refine Ls.qM 29 ?_
    refine Ls.qE 30 (Ev.neq rfl (by rfl) (by rfl)) ?_
    refine Ls.qA 28 ?_
    refine Ls.nil ?_
    refine Cd.cond_true (by rfl) (decide_eq_true (by decide)) ?_
    refine Cd.seq ?_
    refine Cd.region ?_
    refine Ls.qM 31 ?_
    refine Ls.qA 4 ?_
    refine Ls.nil ?_
    refine Ent.pick [2, 8, 9, 10, 11] (by rfl) ?_
    refine Cd.ret ?_
    refine Ent.ret ((D, (A, c))) (⟨h, rfl, rfl⟩) (Res.tmp (by rfl) (by rfl)) ?_ [0, 1, 2, 3, 4] (by rfl) ?_
    · rfl
    · rfl
  rw [if_neg hlong] at hch0
  skip
  refine Ls.does (some 25) (Does.readN rfl Tryz.func48 (by kernel_rfl) (by kernel_rfl) (encode_yes hen (by omega) B E b d) (by rfl) (by rfl) ⟨ReadsIn.rd 6 (by rfl), ReadsIn.rd 7 (by rfl), trivial⟩ (fun _ => by rfl)) (by rfl) (by rfl) ?_
  rintro ⟨bA, bc⟩ -
  refine Ls.qM 23 ?_
  refine Ls.qE 26 (Ev.extract rfl (by rfl) (by rfl)) ?_
  refine Ls.qE 27 (Ev.extract rfl (by rfl) (by rfl)) ?_
  refine Ls.qA 7 ?_
  refine Ls.qA 6 ?_
  refine Ls.nil ?_
  refine Cd.seq ?_
  refine Cd.block ?_
  refine Cd.seq ?_
  refine Cd.region ?_
  refine Ls.qM 29 ?_
  refine Ls.qE 30 (Ev.neq rfl (by rfl) (by rfl)) ?_
  refine Ls.qA 28 ?_
  refine Ls.nil ?_
  refine Cd.cond_false (by rfl) (decide_eq_false (by decide)) ?_
  refine Cd.seq ?_
  refine Cd.region ?_
  refine Ls.qL 33 2 ?_
  refine Ls.qE 34 (Ev.nilCheck rfl (by rfl)) ?_
  refine Ls.qF 35 5 ?_
  refine Ls.qL 36 3 ?_
  refine Ls.qE 37 (Ev.gtr rfl (by rfl) (by rfl)) ?_
  refine Ls.qA 32 ?_
  refine Ls.nil ?_
  by_cases hfull : 999999 < m.num
  · rw [if_pos hfull] at hch0
    subst hch0
    skip
    refine Cd.cond_true (by rfl) (decide_eq_true (show (999999 : Int) < (m.num : Int) by omega)) ?_
    refine Cd.seq ?_
    refine Cd.region ?_
    refine Ls.qA 4 ?_
    refine Ls.nil ?_
    refine Ent.pick [3, 9, 10, 11, 12] (by rfl) ?_
    refine Cd.ret ?_
    refine Ent.ret ((D, (A, c))) (⟨h, rfl, rfl⟩) (Res.tmp (by rfl) (by rfl)) ?_ [0, 1, 2, 3, 4] (by rfl) ?_
    · rfl
    · rfl
  rw [if_neg hfull] at hch0
  skip
  refine Cd.cond_false (by rfl) (decide_eq_false (show ¬ ((999999 : Int) < (m.num : Int)) by omega)) ?_
  refine Cd.seq ?_
  refine Cd.region ?_
  refine Ls.qL 39 2 ?_
  refine Ls.qE 40 (Ev.nilCheck rfl (by rfl)) ?_
  refine Ls.qF 41 7 ?_
  refine Ls.qL 42 3 ?_
  refine Ls.qA 38 ?_
  refine Ls.nil ?_
  by_cases hdead : m.dead = true
  · rw [if_pos hdead] at hch0
    subst hch0
    skip
    refine Cd.cond_true (by rfl) (hdead) ?_
    refine Cd.seq ?_
    refine Cd.region ?_
    refine Ls.qA 4 ?_
    refine Ls.nil ?_
    refine Ent.pick [3, 9, 10, 11, 12] (by rfl) ?_
    refine Cd.ret ?_
    refine Ent.ret ((D, (A, c))) (⟨h, rfl, rfl⟩) (Res.tmp (by rfl) (by rfl)) ?_ [0, 1, 2, 3, 4] (by rfl) ?_
    · rfl
    · rfl
  rw [if_neg hdead] at hch0
  skip
  refine Cd.cond_false (by rfl) ((by simpa using hdead)) ?_
  refine Cd.skip ?_
  refine Cd.seq ?_
  refine Cd.region ?_
  refine Ls.qL 43 2 ?_
  refine Ls.qE 44 (Ev.nilCheck rfl (by rfl)) ?_
  refine Ls.qF 45 5 ?_
  refine Ls.qL 46 3 ?_
  refine Ls.does (some 47) (Does.read rfl Tryz.func49 (by kernel_rfl) (by kernel_rfl) (nmk_sl kMan m.num (by decide) (by omega)) (by rfl) (by rfl) ⟨laidIn 5 (by rfl), trivial⟩) (by rfl) (by rfl) ?_
  rintro _ -
  skip
  refine Ls.does (some 8) (Does.alloc (cs := [.string ⟨#[]⟩]) rfl (ZeroIs.mk (.string ⟨#[]⟩) (by kernel_rfl) (by rfl))) (by rfl) (by rfl) ?_
  intro g4 _
  refine Ls.qD (Does.store 0 rfl (by rfl) (by rfl) (by rfl) (by kernel_rfl) (by rfl) (by kernel_rfl) (by rfl)) ?_
  intro _ _
  refine Ls.nil ?_
  refine Cd.seq ?_
  refine Cd.seq ?_
  refine Cd.region ?_
  refine Ls.qL 48 3 ?_
  refine Ls.qE 49 (Ev.nilCheck rfl (by rfl)) ?_
  refine Ls.qF 50 6 ?_
  refine Ls.qL 51 4 ?_
  refine Ls.nil ?_
  have hml := sealL_le (l := edB e) (by omega)
  have hsn := snapB_le hwg
  obtain ⟨r, hr⟩ : ∃ r, r = if m.made = true then runP [fun P => P.append (nameK kMan m.num) (sealL (edB e)), fun P => P.sync (nameK kMan m.num)] P else runP (swapL P (nameK kMan m.num) (snapB w2)) P := ⟨_, rfl⟩
  rw [← hr] at hch0
  refine Cd.cut (ι := DrS) (fun _ => [(2, .pointer (some ⟨g1, 0, none⟩)), (5, .pointer (some ⟨g3, 0, none⟩)), (6, .int .i64 r.2)]) (fun D' => [blk g3 24 [.slice nA w2.tbs.length nc, .int .i64 w2.nx, .int .i64 w2.lg, .int .i64 w2.sq], bxM g1 g, mfB g D.d A c m, rowTb nA w2.tbs.length nc w2.tbs, rowTb A m.v.tbs.length c m.v.tbs, D'.B, D'.M, D'.F]) (fun D' => Drv D' r.1 ∧ D'.d = D.d ∧ D'.m = D.m) ?_ ?_
  · skip
    by_cases hmade : m.made = true
    · rw [if_pos hmade] at hr
      subst hr
      skip
      refine Cd.cond_true (by rfl) (hmade) ?_
      refine Cd.seq ?_
      refine Cd.region ?_
      refine Ls.qM 53 ?_
      refine Ls.does (some 54) (Does.readN rfl Tryz.func50 (by kernel_rfl) (by kernel_rfl) (seal_sl bA bc (edB e) (by omega)) (by rfl) (by rfl) ⟨ReadsIn.row 1 (by rfl), trivial⟩ (fun _ => by rfl)) (by rfl) (by rfl) ?_
      rintro ⟨sA, sc⟩ -
      refine Ls.qM 52 ?_
      refine Ls.qE 55 (Ev.extract rfl (by rfl) (by rfl)) ?_
      refine Ls.qE 56 (Ev.extract rfl (by rfl) (by rfl)) ?_
      refine Ls.does (some 9) (Does.alloc (cs := [.slice none 0 0]) rfl (ZeroIs.mk (.slice none 0 0) (by kernel_rfl) (by rfl))) (by rfl) (by rfl) ?_
      intro g5 _
      refine Ls.qD (Does.store 0 rfl (by rfl) (by rfl) (by rfl) (by kernel_rfl) (by rfl) (by kernel_rfl) (by rfl)) ?_
      intro _ _
      refine Ls.qA 10 ?_
      refine Ls.nil ?_
      refine Cd.region ?_
      refine Ls.qE 57 (Ev.makeFunc3 rfl (by rfl) (by rfl) (by rfl)) ?_
      refine Ls.qE 58 (Ev.makeFunc2 rfl (by rfl) (by rfl)) ?_
      refine Ls.does (some 59) (Does.lit (sz := 1) rfl (by rfl) Tryz.underlying157 (by kernel_rfl) (by rfl) (by kernel_rfl)) (by rfl) (by rfl) ?_
      intro g6 _
      refine Ent.see 0 (by rfl) (Ent.see 2 (by rfl) ?_)
      refine Ent.seeBlk 6 (by rfl) (Ent.seeBlk 3 (by rfl) (Ent.seeBlk 1 (by rfl) ?_))
      refine Ls.does (some 60) (Does.call [0, 6, 3, 1, 2, 14, 15, 16, 7, 5, 6, 10, 13] rfl Tryz.func51 (by kernel_rfl) (by kernel_rfl) (lend_made h g1 g g4 g5 A c m (nameK kMan m.num) (kMan_good _) sA sc (sealL (edB e)) (by omega) (some ⟨g6, 0, none⟩) 2) (by rfl) (by rfl) (by rfl)) (by rfl) (by rfl) ?_
      rintro D' ⟨h', hd, hm⟩
      refine Ls.qA 6 ?_
      refine Ls.nil ?_
      refine Ent.pick [4, 5, 3, 6, 7, 0, 1, 2] (by rfl) ?_
      refine Ent.inv (D') ?_ ?_ ?_
      · (try dsimp only); exact ⟨h', hd, hm⟩
      · (repeat (first | exact trivial | refine ⟨by rfl, ?_⟩ | refine ⟨by simp only [List.length_append, List.length_cons, List.length_nil]; rfl, ?_⟩ | refine ⟨by push_cast; rfl, ?_⟩))
      · rfl
    · rw [if_neg hmade] at hr
      subst hr
      skip
      refine Cd.cond_false (by rfl) ((by simpa using hmade)) ?_
      skip
      refine Cd.draw [4] (by kernel_rfl) ?_
      refine Rg.qE 0 61 (by rfl) (Ev.load 3 rfl (by rfl) (by rfl) (by kernel_rfl) (by rfl)) ?_
      refine Rg.qE 1 62 (by rfl) (Ev.load 0 rfl (by rfl) (by rfl) (by kernel_rfl) (by rfl)) ?_
      refine Rg.qE 2 63 (by rfl) (Ev.loads 2 rfl (by rfl) (by rfl) (n := 4) (by kernel_rfl) (by rfl) (by rfl)) ?_
      refine Rg.does 3 (by rfl) (by kernel_rfl) (Does.readN rfl Tryz.func57 (by kernel_rfl) (by kernel_rfl) (msnap_sl w2 hwg nA nc) (by rfl) (by rfl) ⟨ReadsIn.row 7 (by rfl), trivial⟩ (fun _ => by rfl)) (by rfl) (some 64) (by rfl) (fun _ _ h => h.tail_) ?_
      rintro ⟨qA, qc⟩ -
      refine Ent.see 0 (by rfl) ?_
      skip
      refine Rg.tail 4 [] (by rfl) (by kernel_rfl) (Does.call [0, 7, 12, 13, 14, 5, 3, 4, 8, 11] rfl Tryz.func56 (by kernel_rfl) (by kernel_rfl) (lend_swap h g A c m (nameK kMan m.num) (kMan_good _) qA qc (snapB w2) hsn) (by rfl) (by rfl) (by rfl)) (by rfl) (some 65) (by rfl) (by kernel_rfl) (by kernel_rfl) ?_
      rintro D' ⟨h', hd, hm⟩
      refine Rg.qE 5 6 (by rfl) (Ev.assign rfl (by rfl)) ?_
      refine Rg.done (by kernel_rfl) ?_ _
      refine Ent.seeBlk 5 (by rfl) ?_
      refine Ent.pick [4, 5, 3, 6, 7, 0, 1, 2] (by rfl) ?_
      refine Ent.inv (D') ?_ ?_ ?_
      · (try dsimp only); exact ⟨h', hd, hm⟩
      · (repeat (first | exact trivial | refine ⟨by rfl, ?_⟩ | refine ⟨by simp only [List.length_append, List.length_cons, List.length_nil]; rfl, ?_⟩ | refine ⟨by push_cast; rfl, ?_⟩))
      · rfl
  skip
  rintro D' ⟨h', hd, hm⟩
  dsimp only
  refine Cd.seq ?_
  refine Cd.seq ?_
  refine Cd.region ?_
  refine Ls.qM 66 ?_
  refine Ls.qE 67 (Ev.neq rfl (by rfl) (by rfl)) ?_
  refine Ls.nil ?_
  by_cases hz : r.2 = 0
  rotate_left
  · rw [if_pos hz] at hch0
    subst hch0
    skip
    refine Cd.cond_true (by rfl) (decide_eq_true hz) ?_
    refine Cd.seq ?_
    refine Cd.region ?_
    refine Ls.qE 68 (Ev.loadB 1 rfl (by rfl) (by rfl) (by kernel_rfl) (by rfl)) ?_
    refine Ls.qE 69 (Ev.nilCheck rfl (by rfl)) ?_
    refine Ls.qF 70 7 ?_
    refine Ls.qD (Does.store 2 rfl (by rfl) (by rfl) (by rfl) (by kernel_rfl) (by rfl) (by kernel_rfl) (by rfl)) ?_
    intro _ _
    refine Ls.nil ?_
    refine Cd.seq ?_
    refine Cd.region ?_
    refine Ls.qA 4 ?_
    refine Ls.nil ?_
    refine Cd.ret ?_
    refine Ent.ret ((D', (A, c))) (⟨h', hd, hm⟩) (Res.tmp (by rfl) (by rfl)) ?_ [2, 4, 5, 6, 7] (by rfl) ?_
    · rfl
    · rfl
  · rw [if_neg (fun k => k hz)] at hch0
    subst hch0
    skip
    refine Cd.cond_false (by rfl) (decide_eq_false (show ¬ (r.2 ≠ 0) from fun k => k hz)) ?_
    skip
    refine Cd.skip ?_
    refine Cd.seq ?_
    refine Cd.drawS [0, 1] [8] (by kernel_rfl) ?_
    refine Rg.ev 0 (by rfl) (fun _ h => h.pick [0, 1] rfl) (Ev.loadB 1 rfl (by rfl) (by rfl) (by kernel_rfl) (by rfl)) (by rfl) (some 71) (by rfl) (by kernel_rfl) (by kernel_rfl) (by kernel_rfl) (by kernel_rfl) ?_
    refine Rg.ev 1 (by rfl) (fun _ h => h.pick [0, 1] rfl) (Ev.loadB 1 rfl (by rfl) (by rfl) (by kernel_rfl) (by rfl)) (by rfl) (some 72) (by rfl) (by kernel_rfl) (by kernel_rfl) (by kernel_rfl) (by kernel_rfl) ?_
    refine Rg.ev 2 (by rfl) (fun _ h => h.pick [0, 1] rfl) (Ev.loads 0 rfl (by rfl) (by rfl) (n := 4) (by kernel_rfl) (by rfl) (by rfl)) (by rfl) (some 73) (by rfl) (by kernel_rfl) (by kernel_rfl) (by kernel_rfl) (by kernel_rfl) ?_
    refine Rg.ev 3 (by rfl) (fun _ h => h.pick [0, 1] rfl) (Ev.nilCheck rfl (by rfl)) (by rfl) (some 74) (by rfl) (by kernel_rfl) (by kernel_rfl) (by kernel_rfl) (by kernel_rfl) ?_
    refine Rg.ev 4 (by rfl) (fun _ h => h.pick [0, 1] rfl) (Ev.fieldAddr (k := 6) rfl (by rfl) (by kernel_rfl) (by rfl)) (by rfl) (some 75) (by rfl) (by kernel_rfl) (by kernel_rfl) (by kernel_rfl) (by kernel_rfl) ?_
    refine Rg.keep 5 (by rfl) (by kernel_rfl) (Does.store 2 rfl (by rfl) (by rfl) (by rfl) (by kernel_rfl) (by rfl) (by kernel_rfl) (by rfl)) (by rfl) none (by rfl) (fun _ _ h => by have h2 := h.pick [0, 1] (by rfl); exact h2) ?_
    intro _ _
    refine Rg.ev 6 (by rfl) (fun _ h => h.pick [0, 1] rfl) (Ev.nilCheck rfl (by rfl)) (by rfl) (some 76) (by rfl) (by kernel_rfl) (by kernel_rfl) (by kernel_rfl) (by kernel_rfl) ?_
    refine Rg.ev 7 (by rfl) (fun _ h => h.pick [0, 1] rfl) (Ev.fieldAddr (k := 1) rfl (by rfl) (by kernel_rfl) (by rfl)) (by rfl) (some 77) (by rfl) (by kernel_rfl) (by kernel_rfl) (by kernel_rfl) (by kernel_rfl) ?_
    refine Rg.tail 8 [] (by rfl) (by kernel_rfl) (Does.store 2 rfl (by rfl) (by rfl) (by rfl) (by kernel_rfl) (by rfl) (by kernel_rfl) (by rfl)) (by rfl) none (by rfl) (by kernel_rfl) (by kernel_rfl) ?_
    intro _ _
    refine Rg.done (by kernel_rfl) ?_ _
    refine Cd.seq ?_
    refine Cd.region ?_
    refine Ls.qA 4 ?_
    refine Ls.nil ?_
    refine Cd.ret ?_
    refine Ent.ret ((D', (nA, nc))) (⟨h', hd, hm⟩) (Res.tmp (by rfl) (by rfl)) ?_ [2, 3, 5, 6, 7] (by rfl) ?_
    · rfl
    · rfl
end Go.Proofs.YtacbkganjkipdaaGreatDoor
/- bytes out of a slice; a slice's front -/
namespace Go.Proofs.YtacbkganjkipdaaGreatDoor
open Go.RowKit
end Go.Proofs.YtacbkganjkipdaaGreatDoor
/- the document's drives over pieces: what is asked of them -/
namespace Go.Proofs.YtacbkganjkipdaaGreatDoor
open Go.RowKit
def FiP.enc (f : FiP) : List Value := [.string (txt f.nm), .string (txt f.b), .int .i64 f.sy]
/-- The document's drive, as a value. -/
def DrP.val (P : DrP) (A : Option Addr) (c : Nat) : List Value := [.slice A P.fs.length c, .int .i64 P.steps, .bool P.left.isSome, .int .i64 ((P.left.getD 0 : Nat) : Int)]
end Go.Proofs.YtacbkganjkipdaaGreatDoor
