/-
  Texts joined: MpC, MoH, MpD, MpE, MpF, MoM, MpG, RfC, DvF, MpN, MpO, WlLd.
-/
import Derived.Test.YtacbkganjkipdaaGreatDoorMMpL4a
import Derived.Test.YtacbkganjkipdaaGreatDoorMMpL4m
import Derived.Test.YtacbkganjkipdaaGreatDoorMMpL4n
import Derived.Test.YtacbkganjkipdaaGreatDoorMMpL4o
import Derived.Test.YtacbkganjkipdaaGreatDoorMMpL4p
import Derived.Test.YtacbkganjkipdaaGreatDoorMMpL4q
import Derived.Deep.DeepHandedRow
import Derived.Stop.LaidErr
import Derived.Shelf.Vars
import Derived.MakeChecks
namespace Go.Proofs.YtacbkganjkipdaaGreatDoor
open Go.RowKit
def MfP.val (m : MfP) (A : Option Addr) (c : Nat) : List Value := [.slice A m.v.tbs.length c, .int .i64 m.v.nx, .int .i64 m.v.lg, .int .i64 m.v.sq, .int .i64 m.num, .bool m.made, .bool m.dead]
theorem now_find {P : DrP} (h : nowP P ≠ []) : ∃ f, P.find (nowP P) = some f := by
 unfold nowP at h ⊢
 split
 · rename_i hc
   rw [if_pos hc] at h
   exact absurd rfl h
 · rename_i hc
   cases hf : P.find (P.bytes qCur) with
   | none => exact absurd (.inr hf) hc
   | some f => exact ⟨f, rfl⟩
set_option maxHeartbeats 4000000 in
theorem ropenM_sl (P : DrP) (hok : P.Ok) (dA : Option Addr) (dc : Nat) : Fn Tryz.prog 21 #[.agg (P.val dA dc).toArray] [rdF dA P.fs] (Option Addr × Nat) (fun q => .agg ((openP P).val q.1 q.2).toArray) (fun q => [rowTb q.1 (openP P).v.tbs.length q.2 (openP P).v.tbs]) (fun _ => True) := by
 have hpl := hok.len
 have hat := fun q => dat_sl P dA dc q (by omega)
 have hnw0 := rnow_sl P hok dA dc
 obtain ⟨ns, hns⟩ : ∃ ns, ns = P.fs.map FiP.nm := ⟨_, rfl⟩
 have hopn : openP P = ⟨repP firstV (scanF (P.bytes (nowP P))).1, topN ns 1, false, false⟩ := by rw [hns]; rfl
 have hVe : P.val dA dc = [.slice dA P.fs.length dc, .int .i64 P.steps, .bool P.left.isSome, .int .i64 ((P.left.getD 0 : Nat) : Int)] := rfl
 rw [hopn]
 rw [hVe] at hat hnw0 ⊢
 refine Fn.enter Tryz.func21 rfl Tryz.ntmps21 (by rfl) ?_
 intro w0
 refine go [3,4] ?_
 refine Ls.does (some 1) (Does.box rfl (by rfl)) (by rfl) (by rfl) ?_
 intro g1 _
 refine Ls.does (some 2) (Does.alloc (cs := [.slice none 0 0, .int .i64 0, .int .i64 0, .int .i64 0, .int .i64 0, .bool false, .bool false]) rfl (ZeroIs.mk (.agg #[.slice none 0 0, .int .i64 0, .int .i64 0, .int .i64 0, .int .i64 0, .bool false, .bool false]) (by kernel_rfl) (by rfl))) (by rfl) (by rfl) ?_
 intro g2 _
 refine go [25] ?_
 refine Ls.does (some 13) (Does.read rfl Tryz.func16 (by kernel_rfl) (by kernel_rfl) (first_sl) (by rfl) (by rfl) trivial) (by rfl) (by rfl) ?_
 rintro _ -
 refine Ls.qE 14 (Ev.buildP (pl := [(0, 4), (4, 1), (5, 1), (6, 1)]) (zs := [.slice none 0 0, .int .i64 0, .int .i64 0, .int .i64 0, .int .i64 0, .bool false, .bool false]) rfl (by rfl) (by kernel_rfl) (by rfl)) ?_
 refine Ls.does (some 3) (Does.alloc (cs := [.slice none 0 0, .int .i64 0, .int .i64 0, .int .i64 0, .int .i64 0, .bool false, .bool false]) rfl (ZeroIs.mk (.agg #[.slice none 0 0, .int .i64 0, .int .i64 0, .int .i64 0, .int .i64 0, .bool false, .bool false]) (by kernel_rfl) (by rfl))) (by rfl) (by rfl) ?_
 intro g3 _
 refine go [15,0,2,3,3,4,5,2,21] ?_
 refine Cd.loop (ι := Nat × Nat) (fun p => [(1, ptrW g1), (2, ptrW g2), (3, ptrW g3), (4, .int .i64 p.1)]) (fun p => [blk g3 59 ((⟨firstV, p.2, false, false⟩ : MfP).val none 0), blk g2 59 [.slice none 0 0, .int .i64 0, .int .i64 0, .int .i64 0, .int .i64 0, .bool false, .bool false], blk g1 55 [.slice dA P.fs.length dc, .int .i64 P.steps, .bool P.left.isSome, .int .i64 ((P.left.getD 0 : Nat) : Int)], rdF dA P.fs]) (fun p => p.1 ≤ P.fs.length ∧ p.2 = topN (ns.take p.1) 1) (fun p => P.fs.length - p.1) ((0, 1)) (⟨Nat.zero_le _, rfl⟩) ?_ rfl ?_
 · (repeat (first | exact trivial | refine ⟨by rfl, ?_⟩))
 rintro ⟨k, n⟩ ⟨hk, hn⟩
 dsimp only at hk hn ⊢
 have hnb : n ≤ 1000000 := by rw [hn]; exact (topN_le (by decide)).1
 refine go [3,3,4,0,7,0,8,2] ?_
 refine Ls.qE 18 (Ev.len rfl (by rfl) Tryz.underlying53) ?_
 refine go [16,2] ?_
 refine Cd.cond _ (by rfl) (fun h2 => ?_) (fun h2 => ?_)
 · have hlt : k < P.fs.length := by have := of_decide_eq_true h2; omega
   obtain ⟨f, hf⟩ := get_of_lt hlt
   have hx : ns[k]? = some f.nm := by rw [hns, List.getElem?_map, hf]; rfl
   have hmx : (if (n : Int) < ((numK kMan f.nm + 1 : Nat) : Int) then ((numK kMan f.nm + 1 : Nat) : Int) else (n : Int)) = ((max n (numK kMan f.nm + 1) : Nat) : Int) := by split <;> omega
   have hxn := numK_le kMan f.nm
   refine Ent.rdSome 3 (by rfl) (by omega) (fun ad had => ?_)
   subst had
   refine go [6,3,21] ?_
   refine Cd.draw [12] (by kernel_rfl) ?_
   refine Rg.qE 0 22 (by rfl) (Ev.fieldAddr (k := 4) rfl (by rfl) (by kernel_rfl) (by rfl)) ?_
   refine Rg.qE 1 23 (by rfl) (Ev.load 0 rfl (by rfl) (by rfl) (by kernel_rfl) (by rfl)) ?_
   refine Rg.qE 2 24 (by rfl) (Ev.fieldAddr (k := 0) rfl (by rfl) (by kernel_rfl) (by rfl)) ?_
   refine Rg.qE 3 25 (by rfl) (Ev.load 2 rfl (by rfl) (by rfl) (by kernel_rfl) (by rfl)) ?_
   refine Rg.qE 4 26 (by rfl) (Ev.move rfl (by rfl)) ?_
   refine Rg.qE 5 27 (by rfl) (Ev.indexAt (sz := 3) rfl (by rfl) (by rfl) Tryz.underlying53 (by kernel_rfl) (by omega)) ?_
   refine Rg.qE 6 28 (by rfl) (Ev.fieldAddrE0 (k := 0) rfl (by rfl) (by kernel_rfl)) ?_
   refine Rg.qE 7 29 (by rfl) (Ev.loadElF rfl (by rfl) (ReadsIn.rd 3 (by rfl)) (by kernel_rfl) (by intro _; rfl) (by assumption) (by rfl)) ?_
   refine Rg.does 8 (by rfl) (by kernel_rfl) (Does.read rfl Tryz.func66 (by kernel_rfl) (by kernel_rfl) (rnum_sl kMan f.nm (by decide)) (by rfl) (by rfl) trivial) (by rfl) (some 30) (by rfl) (by exact fun _ _ h => h) ?_
   rintro _ -
   refine Rg.qE 9 31 (by rfl) (Ev.addN (b := 1) rfl (by rfl) (by rfl) (by omega)) ?_
   refine Rg.qE 10 32 (by rfl) (Ev.max rfl (by rfl) (by rfl)) ?_
   rw [hmx]
   refine Rg.qE 11 33 (by rfl) (Ev.fieldAddr (k := 4) rfl (by rfl) (by kernel_rfl) (by rfl)) ?_
   refine Rg.tail 12 [] (by rfl) (by kernel_rfl) (Does.store 0 rfl (by rfl) (by rfl) (by rfl) (by kernel_rfl) (by rfl) (by kernel_rfl) (by rfl)) (by rfl) none (by rfl) (by kernel_rfl) (by kernel_rfl) ?_
   intro _ _
   refine Rg.done (by kernel_rfl) ?_ _
   refine go [4,0] ?_
   refine Ls.qE 21 (Ev.addN (b := 1) rfl (by rfl) (by rfl) (by omega)) ?_
   refine go [5,2] ?_
   refine Ent.iA ((k + 1, max n (numK kMan f.nm + 1))) ?_
   (try dsimp only); exact ⟨⟨hlt, by rw [List.take_add_one, hx, hn]; exact (topN_snoc _ _ _).symm⟩, by omega⟩
 have hge : P.fs.length ≤ k := by have := of_decide_eq_false h2; omega
 rw [List.take_of_length_le (by rw [hns, List.length_map]; omega)] at hn
 subst hn
 obtain ⟨n, hn⟩ : ∃ n, n = topN ns 1 := ⟨_, rfl⟩
 rw [← hn]
 rw [← hn] at hnb hopn
 obtain ⟨nw, hnw⟩ : ∃ nw, nw = nowP P := ⟨_, rfl⟩
 obtain ⟨bl, hbl⟩ : ∃ bl, bl = P.bytes nw := ⟨_, rfl⟩
 rw [← hnw] at hnw0
 rw [← hnw, ← hbl]
 refine Cd.exit ?_
 refine go [3,4,12,2,4] ?_
 refine Ls.does (some 35) (Does.read rfl Tryz.func67 (by kernel_rfl) (by kernel_rfl) (hnw0) (by rfl) (by rfl) ⟨ReadsIn.rd 3 (by rfl), trivial⟩) (by rfl) (by rfl) ?_
 rintro _ -
 refine go [5,2,3,3,4,0] ?_
 refine Ls.qE 37 (Ev.eqlS rfl (by rfl) (by rfl)) ?_
 refine Ls.nil ?_
 by_cases hn0 : nw = []
 · refine Cd.cond_true (by rfl) (decide_eq_true (show txt nw = txt [] from congrArg txt hn0)) ?_
   have hb0 : bl = [] := by
    rw [hbl, hn0]
    unfold DrP.bytes
    rw [find_nil hok]
   subst hb0
   refine go [3,4,12,0,7,15,1,2] ?_
   refine Ent.nil 42 4 ?_
   refine Cd.ret ?_
   exact Ent.rA ((none, 0)) [0] trivial (Res.cell 2 (by rfl) (by rfl) (by rfl) (n := 7) (by kernel_rfl) (by rfl) (by rfl))
 refine Cd.cond_false (by rfl) (decide_eq_false (fun e => hn0 (txt_eq_iff.1 e))) ?_
 obtain ⟨f, hfd⟩ : ∃ f, P.find nw = some f := by
  rw [hnw]
  exact now_find (by rw [← hnw]; exact hn0)
 have hb0 : bl = f.b := by rw [hbl]; unfold DrP.bytes; rw [hfd]
 have hfm := findG_some hfd
 have hfs := hok.size f hfm.1
 subst hb0
 refine go [6,3] ?_
 refine Cd.draw [] (by kernel_rfl) ?_
 refine Rg.qE 0 40 (by rfl) (Ev.fieldAddr (k := 0) rfl (by rfl) (by kernel_rfl) (by rfl)) ?_
 refine Rg.qE 1 41 (by rfl) (Ev.load 2 rfl (by rfl) (by rfl) (by kernel_rfl) (by rfl)) ?_
 refine Rg.qE 2 42 (by rfl) (Ev.loads 2 rfl (by rfl) (by rfl) (n := 4) (by kernel_rfl) (by rfl) (by rfl)) ?_
 refine Rg.qE 3 43 (by rfl) (Ev.move rfl (by rfl)) ?_
 refine Rg.does 4 (by rfl) (by kernel_rfl) (Does.read rfl Tryz.func63 (by kernel_rfl) (by kernel_rfl) (hat nw) (by rfl) (by rfl) ⟨ReadsIn.rd 3 (by rfl), trivial⟩) (by rfl) (some 44) (by rfl) (by exact fun _ _ h => h) ?_
 rintro r hr
 obtain ⟨m, rfl, hm⟩ := at_hit hr hfd
 have hml := (List.getElem?_eq_some_iff.1 hm).1
 refine Ent.rdSome 3 (by rfl) (by omega) (fun fd hfd2 => ?_)
 subst hfd2
 refine Rg.qE 5 45 (by rfl) (Ev.indexAt (sz := 3) rfl (by rfl) (by rfl) Tryz.underlying53 (by kernel_rfl) (by omega)) ?_
 refine Rg.qE 6 46 (by rfl) (Ev.fieldAddrE0 (k := 1) rfl (by rfl) (by kernel_rfl)) ?_
 refine Rg.qE 7 47 (by rfl) (Ev.loadElF rfl (by rfl) (ReadsIn.rd 3 (by rfl)) (by kernel_rfl) (by intro _; rfl) (by assumption) (by rfl)) ?_
 refine Rg.does 8 (by rfl) (by kernel_rfl) (Does.bytesOf (l := f.b) rfl (by rfl) Tryz.underlying9 Tryz.underlying47 Tryz.underlying5 (by unfold maxLen; omega)) (by rfl) (some 48) (by rfl) (fun _ _ h => h.tail_) ?_
 rintro ⟨bA, bc⟩ hbc
 dsimp only at hbc ⊢
 refine Rg.does 9 (by rfl) (by kernel_rfl) (Does.readN rfl Tryz.func68 (by kernel_rfl) (by kernel_rfl) (rscan_sl (some ⟨bA, 0, none⟩) bc f.b (by omega) hbc) (by rfl) (by rfl) ⟨ReadsIn.rd 0 (by rfl), trivial⟩ (fun _ => by rfl)) (by rfl) (some 49) (by rfl) (fun _ _ h => h.tail_.tail_) ?_
 rintro ⟨⟨pA, pc⟩, S⟩ hS
 dsimp only at hS ⊢
 have hsz := scanF_size f.b
 obtain ⟨pl, hpl2⟩ : ∃ pl, pl = (scanF f.b).1 := ⟨_, rfl⟩
 rw [← hpl2] at hS hsz
 rw [← hpl2]
 have hSl : S.length = pl.length := by rw [← hS, List.length_map]
 refine Rg.qE 10 39 (by rfl) (Ev.move rfl (by rfl)) ?_
 refine Rg.qE 11 50 (by rfl) (Ev.extract rfl (by rfl) (by rfl)) ?_
 refine Rg.qE 12 51 (by rfl) (Ev.extract rfl (by rfl) (by rfl)) ?_
 refine Rg.qE 13 6 (by rfl) (Ev.assign rfl (by rfl)) ?_
 refine Rg.qE 14 7 (by rfl) (Ev.assign rfl (by rfl)) ?_
 refine Rg.done (by kernel_rfl) ?_ _
 refine go [3,3] ?_
 refine Ent.fact 1 (by rfl) (p := ∀ x ∈ S, x.l.length ≤ x.c ∧ x.c ≤ maxLen) (fun w hw x hx => by
  have ho : Own w 0 5 1 x.A x.l.length x.c (u8s x.l) := hw.1 x.R (List.mem_map_of_mem hx)
  exact ⟨Own.le ho, Own.capLe ho⟩) (fun hSc => ?_)
 refine Ent.map (fun w hs => paySee 1 (by rfl) hs) ?_
 refine Ent.see 0 (by rfl) ?_
 refine Ent.nil 42 4 ?_
 refine Ent.pick [4, 0, 5, 1, 2] (by rfl) ?_
 refine go [4,5,2,21] ?_
 refine Cd.loop (ι := Nat × VsP × (Option Addr × Nat)) (fun p => [(2, ptrW g2), (3, ptrW g3), (6, .slice pA S.length pc), (8, .int .i64 p.1)]) (fun p => [blk g3 59 ((⟨p.2.1, n, false, false⟩ : MfP).val p.2.2.1 p.2.2.2), rowTb p.2.2.1 p.2.1.tbs.length p.2.2.2 p.2.1.tbs, blk g2 59 [.slice none 0 0, .int .i64 0, .int .i64 0, .int .i64 0, .int .i64 0, .bool false, .bool false], rdV pA S, payR S]) (fun p => p.1 ≤ S.length ∧ goodP p.2.1 ∧ repP firstV pl = repP p.2.1 (pl.drop p.1)) (fun p => S.length - p.1) ((0, firstV, (none, 0))) (⟨Nat.zero_le _, firstV_good, by rw [List.drop_zero]⟩) ?_ rfl ?_
 · (repeat (first | exact trivial | refine ⟨by rfl, ?_⟩))
 rintro ⟨k, v, ⟨A, c⟩⟩ ⟨hk, hvg, hrep⟩
 dsimp only at hk hvg hrep ⊢
 have hvf := good_few hvg
 refine go [3,3,4,0,0] ?_
 refine Ls.qE 54 (Ev.len rfl (by rfl) Tryz.underlying48) ?_
 refine go [16,2] ?_
 refine Cd.cond _ (by rfl) (fun h2 => ?_) (fun h2 => ?_)
 · have hlt : k < S.length := by have := of_decide_eq_true h2; omega
   obtain ⟨s, hs⟩ := get_of_lt hlt
   have hsm := List.mem_of_getElem? hs
   obtain ⟨hsc1, hsc2⟩ := hSc s hsm
   have hpk : pl.drop k = s.l :: pl.drop (k + 1) := by
    rw [List.drop_eq_getElem_cons (by omega)]
    congr 1
    have : pl[k]? = some s.l := by rw [← hS, List.getElem?_map, hs]; rfl
    rw [List.getElem?_eq_getElem (by omega)] at this
    exact Option.some.inj this
   rw [hpk, repP] at hrep
   refine Ent.rdSome 3 (by rfl) (by omega) (fun ad had => ?_)
   subst had
   refine go [6,3,21,3,4,0,0] ?_
   refine Ls.qE 61 (Ev.indexAt (sz := 1) rfl (by rfl) (by rfl) Tryz.underlying48 (by kernel_rfl) (by omega)) ?_
   refine Ls.qE 62 (Ev.loadV rfl (by rfl) (ReadsIn.rd 3 (by rfl)) (by kernel_rfl) hs) ?_
   refine Ent.map (fun w hw => payGet 4 (by rfl) hsm hw) ?_
   have c2 := rdecode_sl s.A s.c s.l hsc1 (by omega)
   cases hd : decP s.l with
   | none =>
    rw [hd] at c2 hrep
    dsimp only [decW, decC] at c2 hrep
    refine Ls.does (some 63) (Does.readN rfl Tryz.func69 (by kernel_rfl) (by kernel_rfl) (c2) (by rfl) (by rfl) ⟨ReadsIn.rd 0 (by rfl), trivial⟩ (fun _ => by rfl)) (by rfl) (by rfl) ?_
    rintro _ -
    refine go [0,11,11] ?_
    refine Ls.does (some 9) (Does.alloc (cs := [.slice none 0 0, .slice none 0 0, .int .i64 0, .int .i64 0, .int .i64 0]) rfl (ZeroIs.mk (.agg #[.slice none 0 0, .slice none 0 0, .int .i64 0, .int .i64 0, .int .i64 0]) (by kernel_rfl) (by rfl))) (by rfl) (by rfl) ?_
    intro g4 _
    refine go [15,0,5,2,3,3] ?_
    refine Ent.pick [2, 3, 4] (by rfl) ?_
    refine go [4,0,20,2,23,3,4,12,0,7,15,2,2] ?_
    rw [hrep]
    refine Cd.ret ?_
    exact Ent.rA ((A, c)) [1] trivial (Res.cell 2 (by rfl) (by rfl) (by rfl) (n := 7) (by kernel_rfl) (by rfl) (by rfl))
   | some e =>
    rw [hd] at c2 hrep
    dsimp only [decW, decC] at c2 hrep
    have hes := decP_s hd
    have hea := hes.add
    have hed := hes.drl
    have hef := hes.fine (by decide)
    have hei := hes.ints
    refine Ls.does (some 63) (Does.readN rfl Tryz.func69 (by kernel_rfl) (by kernel_rfl) (c2) (by rfl) (by rfl) ⟨ReadsIn.rd 0 (by rfl), trivial⟩ (fun _ => by rfl)) (by rfl) (by rfl) ?_
    rintro ⟨⟨eA, ec⟩, ⟨fA, fc⟩⟩ -
    refine go [0,11,11] ?_
    refine Ls.does (some 9) (Does.alloc (cs := [.slice none 0 0, .slice none 0 0, .int .i64 0, .int .i64 0, .int .i64 0]) rfl (ZeroIs.mk (.agg #[.slice none 0 0, .slice none 0 0, .int .i64 0, .int .i64 0, .int .i64 0]) (by kernel_rfl) (by rfl))) (by rfl) (by rfl) ?_
    intro g4 _
    refine go [15,0,5,2,3,3] ?_
    refine Ent.pick [0, 1, 2, 4, 5, 6, 7, 8] (by rfl) ?_
    refine go [4,0,20,2,24,6,3,4,7,0,12,3,4,12,0,5] ?_
    by_cases hfit : FitOk v e
    · rw [if_pos hfit] at hrep
      refine Ls.does (some 73) (Does.readN rfl Tryz.func10 (by kernel_rfl) (by kernel_rfl) (rfit_yes hfit A eA fA c ec fc (by omega) (by omega) hef hei) (by rfl) (by rfl) ⟨ReadsIn.row 4 (by rfl), ReadsIn.row 1 (by rfl), ReadsIn.row 2 (by rfl), trivial⟩ (fun _ => by rfl)) (by rfl) (by rfl) ?_
      rintro ⟨qA, qc⟩ -
      refine go [0,11,11] ?_
      refine Ls.does (some 11) (Does.alloc (cs := [.slice none 0 0, .int .i64 0, .int .i64 0, .int .i64 0]) rfl (ZeroIs.mk (.agg #[.slice none 0 0, .int .i64 0, .int .i64 0, .int .i64 0]) (by kernel_rfl) (by rfl))) (by rfl) (by rfl) ?_
      intro g5 _
      refine go [15,0,5,2,3,3] ?_
      refine Ent.pick [5, 1, 7, 8, 9, 0] (by rfl) ?_
      refine go [4,0,20,2,24,6,4,12,5,4,7,0,15,0,2,4,0] ?_
      refine Ls.qE 57 (Ev.addN (b := 1) rfl (by rfl) (by rfl) (by omega)) ?_
      refine go [5,2] ?_
      refine Ent.pick [0, 1, 2, 3, 4] (by rfl) ?_
      refine Ent.iA ((k + 1, outP v e, (qA, qc))) ?_
      (try dsimp only); exact ⟨⟨hlt, hfit.out, hrep⟩, by omega⟩
    · rw [if_neg hfit] at hrep
      refine Ls.does (some 73) (Does.readN rfl Tryz.func10 (by kernel_rfl) (by kernel_rfl) (rfit_no hfit (by omega) (good_fine hvg) A eA fA c ec fc (by omega) (by omega) hef hei) (by rfl) (by rfl) ⟨ReadsIn.row 4 (by rfl), ReadsIn.row 1 (by rfl), ReadsIn.row 2 (by rfl), trivial⟩ (fun _ => by rfl)) (by rfl) (by rfl) ?_
      rintro q -
      refine go [0,11,11] ?_
      refine Ls.does (some 11) (Does.alloc (cs := [.slice none 0 0, .int .i64 0, .int .i64 0, .int .i64 0]) rfl (ZeroIs.mk (.agg #[.slice none 0 0, .int .i64 0, .int .i64 0, .int .i64 0]) (by kernel_rfl) (by rfl))) (by rfl) (by rfl) ?_
      intro g5 _
      refine go [15,0,5,2,3,3] ?_
      refine Ent.pick [4, 5, 6] (by rfl) ?_
      refine go [4,0,20,2,23,3,4,12,0,7,15,2,2] ?_
      rw [hrep]
      refine Cd.ret ?_
      exact Ent.rA ((A, c)) [1] trivial (Res.cell 2 (by rfl) (by rfl) (by rfl) (n := 7) (by kernel_rfl) (by rfl) (by rfl))
 · have hge : S.length ≤ k := by have := of_decide_eq_false h2; omega
   have he : pl.drop k = [] := List.drop_of_length_le (by omega)
   rw [he, repP] at hrep
   refine Cd.exit ?_
   refine go [3,4,12,0,7,15,2,2] ?_
   rw [hrep]
   refine Cd.ret ?_
   exact Ent.rA ((A, c)) [1] trivial (Res.cell 2 (by rfl) (by rfl) (by rfl) (n := 7) (by kernel_rfl) (by rfl) (by rfl))
def hasV (l : List TbP) (x : Int) : Value := .int .i64 (if x ∈ l.map TbP.num then 1 else 0)
theorem hasV_step {l : List TbP} {k : Nat} {t : TbP} (h : l[k]? = some t) : put (hasV (l.take k)) t.num (.int .i64 1) = hasV (l.take (k + 1)) := by
 funext x
 unfold put hasV
 rw [List.take_add_one, h]
 by_cases hx : x = t.num
 · rw [if_pos hx, if_pos]
   simp [hx]
 · rw [if_neg hx]
   congr 1
   simp [hx]
theorem elem_str : Elem Tryz.prog 49 9 1 16 := elem_of (by kernel_rfl)
theorem one_txts (l : List (List UInt8)) : ∀ u ∈ txts l, u.oneCell' = true := fun u hu => by
 obtain ⟨x, _, rfl⟩ := List.mem_map.1 hu
 rfl
abbrev rowS (A : Option Addr) (c : Nat) (l : List (List UInt8)) : Chunk := row A l.length c 9 1 (txts l)
def OrphQ (P : DrP) (v : VsP) (q : List UInt8) : Prop := (numK kSst q ≠ 0 ∧ ∀ t ∈ v.tbs, t.num ≠ numK kSst q) ∨ q = qTmp ∨ (numK kMan q ≠ 0 ∧ q ≠ nowP P)
instance (P : DrP) (v : VsP) (q : List UInt8) : Decidable (OrphQ P v q) := by unfold OrphQ; infer_instance
theorem orphP_eq (P : DrP) (v : VsP) : orphP P v = (P.fs.map FiP.nm).filter fun q => decide (OrphQ P v q) := rfl
set_option maxHeartbeats 2000000 in
theorem morph_sl {D : DrS} {P : DrP} (h : Drv D P) (g : Nat) (A : Option Addr) (c : Nat) (m : MfP) (hg : goodP m.v) : Fn Tryz.prog 24 #[ptrV g] [rmfB g D.d A c m, rdT A m.v.tbs, D.rB, D.rM, D.rF, laidC] (Option Addr × Nat) (fun q => .slice q.1 (orphP P m.v).length q.2) (fun q => [rowS q.1 q.2 (orphP P m.v)]) (fun _ => True) := by
 have hpl := h.ok.len
 have hnm := names_sl h
 have hnow := now_sl h g A c m
 have hfew := good_few hg
 have hfn := good_fine hg
 rw [orphP_eq]
 obtain ⟨ns, hns⟩ : ∃ ns, ns = P.fs.map FiP.nm := ⟨_, rfl⟩
 have hnl : P.fs.length = ns.length := by rw [hns, List.length_map]
 rw [hnl, ← hns] at hnm
 rw [← hns]
 refine Fn.enter Tryz.func24 rfl Tryz.ntmps24 (by rfl) ?_
 intro w0
 refine go [3,4,5,25] ?_
 refine Ls.does (some 10) (Does.mapNew 3 (.int .i64 0) rfl) (by rfl) (by rfl) ?_
 rintro bm -
 refine go [5,2,3,3,4,0,14,7,1,7,0,13,1] ?_
 refine Ls.qE 16 (Ev.len rfl (by rfl) Tryz.underlying22) ?_
 refine go [0,2,21] ?_
 refine Cd.loop (ι := Nat) (fun k => [(0, ptrV g), (3, .map (some bm)), (15, .slice A m.v.tbs.length c), (16, .int .i64 m.v.tbs.length), (17, .int .i64 k)]) (fun k => [mapc Tryz.prog 3 bm k (.int .i64 0) (hasV (m.v.tbs.take k)), rmfB g D.d A c m, rdT A m.v.tbs, D.rB, D.rM, D.rF, laidC]) (fun k => k ≤ m.v.tbs.length) (fun k => m.v.tbs.length - k) (0) (Nat.zero_le _) ?_ rfl ?_
 · (repeat (first | exact trivial | refine ⟨by rfl, ?_⟩))
 rintro k hk
 refine go [3,4,16,2,3] ?_
 refine Cd.cond _ (by rfl) (fun h2 => ?_) (fun h2 => ?_)
 · have hlt : k < m.v.tbs.length := by have := of_decide_eq_true h2; omega
   obtain ⟨t, ht⟩ := get_of_lt hlt
   have htz := hfn t (List.mem_of_getElem? ht)
   refine Ent.rdSome 2 (by rfl) (by omega) (fun ad had => ?_)
   subst had
   refine go [6,3,21,3,4] ?_
   refine Ls.qE 19 (Ev.indexAt (sz := 4) rfl (by rfl) (by rfl) Tryz.underlying22 (by kernel_rfl) (by omega)) ?_
   refine Ls.qE 20 (Ev.loadEl (enc := TbP.enc) (sz := 4) rfl (by rfl) (ReadsIn.rd 2 (by rfl)) (by kernel_rfl) (fun _ => rfl) ht) ?_
   refine Ls.does (some 5) (Does.alloc (cs := [.int .i64 0, .int .i64 0, .string ⟨#[]⟩, .string ⟨#[]⟩]) rfl (ZeroIs.mk (.agg #[.int .i64 0, .int .i64 0, .string ⟨#[]⟩, .string ⟨#[]⟩]) (by kernel_rfl) (by rfl))) (by rfl) (by rfl) ?_
   intro g1 _
   refine go [15,0,2,4,0,7,0,8,0] ?_
   refine Ls.qD (Does.mapPutL 1 rfl (by rfl) (by rfl) (by rfl) (by rfl) Tryz.underlying3 Tryz.underlying121 (by omega) htz.2.2) ?_
   rintro _ -
   rw [hasV_step ht]
   refine go [2,4] ?_
   refine Ls.qE 24 (Ev.addN (b := 1) rfl (by rfl) (by rfl) (by omega)) ?_
   refine go [0,2] ?_
   refine Ent.pick [1, 2, 3, 4, 5, 6, 7] (by rfl) ?_
   refine Ent.iA (k + 1) ?_
   (try dsimp only); exact ⟨hlt, by omega⟩
 have hge : m.v.tbs.length ≤ k := by have := of_decide_eq_false h2; omega
 rw [List.take_of_length_le hge]
 refine Cd.exit ?_
 refine go [3,4,5,2,3,3,4,0,14,7,0,13,1] ?_
 refine Ls.does (some 29) (Does.readN rfl Tryz.func42 (by kernel_rfl) (by kernel_rfl) (hnm) (by rfl) (by rfl) ⟨rblkIn 3 (by rfl), rmapIn_ 4 (by rfl), trivial⟩ (fun _ => by rfl)) (by rfl) (by rfl) ?_
 rintro ⟨nA, nc⟩ -
 refine Ent.see 0 (by rfl) ?_
 refine Ent.nil 9 1 ?_
 refine Ent.pick [0, 1, 2, 3, 5, 6, 7, 8] (by rfl) ?_
 refine Ls.qE 30 (Ev.len rfl (by rfl) Tryz.underlying49) ?_
 refine go [0,2,21] ?_
 refine Cd.loop (ι := Nat × (Option Addr × Nat) × List (List UInt8)) (fun p => [(0, ptrV g), (3, .map (some bm)), (6, .slice p.2.1.1 p.2.2.length p.2.1.2), (29, .slice nA ns.length nc), (30, .int .i64 ns.length), (31, .int .i64 p.1)]) (fun p => [rowS p.2.1.1 p.2.1.2 p.2.2, rd nA ns.length 1 (txts ns), mapc Tryz.prog 3 bm k (.int .i64 0) (hasV m.v.tbs), rmfB g D.d A c m, D.rB, D.rM, D.rF, laidC]) (fun p => p.1 ≤ ns.length ∧ p.2.2 = (ns.take p.1).filter (fun q => decide (OrphQ P m.v q))) (fun p => ns.length - p.1) ((0, (none, 0), [])) (⟨Nat.zero_le _, rfl⟩) ?_ rfl ?_
 · (repeat (first | exact trivial | refine ⟨by rfl, ?_⟩))
 rintro ⟨j, ⟨oA, oc⟩, O⟩ ⟨hj, hO⟩
 dsimp only at hj hO ⊢
 have hOl : O.length ≤ ns.length := by
  rw [hO]
  exact Nat.le_trans (List.length_filter_le _ _) (by rw [List.length_take]; omega)
 refine go [3,4,16,2,3] ?_
 refine Cd.cond _ (by rfl) (fun h3 => ?_) (fun h3 => ?_)
 · have hlt : j < ns.length := by have := of_decide_eq_true h3; omega
   obtain ⟨x, hx⟩ := get_of_lt hlt
   have hqt : (ns.map txt)[j]? = some (txt x) := by rw [List.getElem?_map, hx]; rfl
   have hxl : x.length ≤ 32 := by
    have hm : x ∈ ns := List.mem_of_getElem? hx
    rw [hns] at hm
    obtain ⟨f, hf, rfl⟩ := List.mem_map.1 hm
    exact (h.ok.good f hf).len
   have htk : (ns.take (j + 1)).filter (fun q => decide (OrphQ P m.v q)) = O ++ if OrphQ P m.v x then [x] else [] := by
    rw [List.take_add_one, hx, List.filter_append, ← hO]
    by_cases hq : OrphQ P m.v x <;> simp [hq]
   have hns2 := numK_le kSst x
   have hlive : (numK kSst x : Int) ∈ m.v.tbs.map TbP.num ↔ ¬ ∀ t ∈ m.v.tbs, t.num ≠ numK kSst x := by
    rw [List.mem_map]
    constructor
    · rintro ⟨t, ht, he⟩ hn
      exact hn t ht he
    · intro hn
      refine Decidable.byContradiction fun k => hn fun t ht he => k ⟨t, ht, he⟩
   refine Ent.rdSome 1 (by rfl) (by omega) (fun ad had => ?_)
   subst had
   refine go [6,3,21,3,4] ?_
   refine Ls.qE 33 (Ev.indexAt (sz := 1) rfl (by rfl) (by rfl) Tryz.underlying49 (by kernel_rfl) (by omega)) ?_
   refine Ls.qE 34 (Ev.loadStr rfl (by rfl) (ReadsIn.rd 1 (by rfl)) (by kernel_rfl) (by assumption)) ?_
   refine go [5,25,0] ?_
   refine Ls.does (some 36) (Does.read rfl Tryz.func43 (by kernel_rfl) (by kernel_rfl) (nrk_sl kSst x (by decide) (by omega)) (by rfl) (by rfl) ⟨laidIn 7 (by rfl), trivial⟩) (by rfl) (by rfl) ?_
   rintro _ -
   refine go [5,2,21,3,3] ?_
   obtain ⟨b1, hb1⟩ : ∃ b1, b1 = decide (numK kSst x ≠ 0 ∧ ∀ t ∈ m.v.tbs, t.num ≠ numK kSst x) := ⟨_, rfl⟩
   refine Cd.cut (ι := Unit) (fun _ => [(0, ptrV g), (3, .map (some bm)), (6, .slice oA O.length oc), (8, .string (txt x)), (29, .slice (some ad) ns.length nc), (30, .int .i64 ns.length), (31, .int .i64 j), (37, .bool b1)]) (fun _ => [rowS oA oc O, rd (some ad) ns.length 1 (txts ns), mapc Tryz.prog 3 bm k (.int .i64 0) (hasV m.v.tbs), rmfB g D.d A c m, D.rB, D.rM, D.rF, laidC]) (fun _ => True) ?_ ?_
   · refine go [4,0,18,0] ?_
     by_cases h0 : numK kSst x = 0
     · refine Ent.known 40 false (by rfl) (by exact (decide_eq_false (show ¬ ((0 : Int) < (numK kSst x : Int)) by omega))) ?_
       refine go [1,1,1,1,10,5,2] ?_
       refine Ent.inv (()) ?_ ?_ ?_
       · (try dsimp only); skip
       · (repeat (first | exact trivial | refine ⟨by rfl, ?_⟩ | refine ⟨by simp only [lenS]; rfl, ?_⟩ | refine ⟨by push_cast; rfl, ?_⟩ | refine ⟨by (show some (Value.bool _) = some (Value.bool _); rw [hb1, decide_eq_false (fun e => e.1 h0)]), ?_⟩))
       · rfl
     · skip
       refine Ent.known 40 true (by rfl) (by exact (decide_eq_true (show (0 : Int) < (numK kSst x : Int) by omega))) ?_
       refine go [0,0] ?_
       refine Ls.qE 43 (Ev.look 2 rfl (by rfl) (by rfl) (by rfl) Tryz.underlying3 Tryz.underlying121 (zero_of (by kernel_rfl)) (by omega)) ?_
       by_cases h1 : (numK kSst x : Int) ∈ m.v.tbs.map TbP.num
       · have hv : hasV m.v.tbs (numK kSst x) = .int .i64 1 := by unfold hasV; rw [if_pos h1]
         rw [hv]
         refine go [19,9,5,2] ?_
         refine Ent.inv (()) ?_ ?_ ?_
         · (try dsimp only); skip
         · (repeat (first | exact trivial | refine ⟨by rfl, ?_⟩ | refine ⟨by simp only [lenS]; rfl, ?_⟩ | refine ⟨by push_cast; rfl, ?_⟩ | refine ⟨by (show some (Value.bool _) = some (Value.bool _); rw [show b1 = false from hb1.trans (decide_eq_false (fun e => (hlive.1 h1) e.2))]; rfl), ?_⟩))
         · rfl
       · have hv : hasV m.v.tbs (numK kSst x) = .int .i64 0 := by unfold hasV; rw [if_neg h1]
         rw [hv]
         refine go [19,9,5,2] ?_
         refine Ent.inv (()) ?_ ?_ ?_
         · (try dsimp only); skip
         · (repeat (first | exact trivial | refine ⟨by rfl, ?_⟩ | refine ⟨by simp only [lenS]; rfl, ?_⟩ | refine ⟨by push_cast; rfl, ?_⟩ | refine ⟨by (show some (Value.bool _) = some (Value.bool _); rw [show b1 = true from hb1.trans (decide_eq_true ⟨h0, Decidable.not_not.1 fun e => h1 (hlive.2 e)⟩)]; rfl), ?_⟩))
         · rfl
   rintro _ -
   refine Cd.cut (ι := Unit) (fun _ => [(0, ptrV g), (3, .map (some bm)), (6, .slice oA O.length oc), (8, .string (txt x)), (29, .slice (some ad) ns.length nc), (30, .int .i64 ns.length), (31, .int .i64 j), (37, .bool (decide (OrphQ P m.v x)))]) (fun _ => [rowS oA oc O, rd (some ad) ns.length 1 (txts ns), mapc Tryz.prog 3 bm k (.int .i64 0) (hasV m.v.tbs), rmfB g D.d A c m, D.rB, D.rM, D.rF, laidC]) (fun _ => True) ?_ ?_
   · cases b1 with
     | true =>
      refine go [23,6] ?_
      refine Ent.inv (()) ?_ ?_ ?_
      · (try dsimp only); skip
      · (repeat (first | exact trivial | refine ⟨by rfl, ?_⟩ | refine ⟨by simp only [lenS]; rfl, ?_⟩ | refine ⟨by push_cast; rfl, ?_⟩ | refine ⟨by (show some (Value.bool _) = some (Value.bool _); rw [decide_eq_true (show OrphQ P m.v x from .inl (of_decide_eq_true hb1.symm))]), ?_⟩))
      · rfl
     | false =>
      have hn1 := of_decide_eq_false hb1.symm
      refine go [24,3,4,0] ?_
      refine Ls.qE 47 (Ev.eqlS rfl (by rfl) (by rfl)) ?_
      refine go [5,2] ?_
      by_cases h2 : x = qTmp
      · refine Cd.cond_true (by rfl) (decide_eq_true (txt_eq_iff.2 h2)) ?_
        refine Cd.skip ?_
        refine Ent.inv (()) ?_ ?_ ?_
        · (try dsimp only); skip
        · (repeat (first | exact trivial | refine ⟨by rfl, ?_⟩ | refine ⟨by simp only [lenS]; rfl, ?_⟩ | refine ⟨by push_cast; rfl, ?_⟩ | refine ⟨by (show some (Value.bool _) = some (Value.bool _); congr 2; rw [decide_eq_decide]; exact ⟨fun _ => .inr (.inl h2), fun _ => txt_eq_iff.2 h2⟩), ?_⟩))
        · rfl
      · refine Cd.cond_false (by rfl) (decide_eq_false (fun e => h2 (txt_eq_iff.1 e))) ?_
        refine go [4,0] ?_
        refine Ls.does (some 49) (Does.read rfl Tryz.func43 (by kernel_rfl) (by kernel_rfl) (nrk_sl kMan x (by decide) (by omega)) (by rfl) (by rfl) ⟨laidIn 7 (by rfl), trivial⟩) (by rfl) (by rfl) ?_
        rintro _ -
        refine go [18,0] ?_
        by_cases h3 : numK kMan x = 0
        · refine Ent.known 51 false (by rfl) (by exact (decide_eq_false (show ¬ ((0 : Int) < (numK kMan x : Int)) by omega))) ?_
          refine go [1,1,1,1,10,5,2] ?_
          refine Ent.inv (()) ?_ ?_ ?_
          · (try dsimp only); skip
          · (repeat (first | exact trivial | refine ⟨by rfl, ?_⟩ | refine ⟨by simp only [lenS]; rfl, ?_⟩ | refine ⟨by push_cast; rfl, ?_⟩ | refine ⟨by (show some (Value.bool _) = some (Value.bool _); rw [decide_eq_false (show ¬ OrphQ P m.v x from fun e => e.elim hn1 fun e => e.elim h2 fun e => e.1 h3)]), ?_⟩))
          · rfl
        · refine Ent.known 51 true (by rfl) (by exact (decide_eq_true (show (0 : Int) < (numK kMan x : Int) by omega))) ?_
          refine go [0,0] ?_
          refine Ls.does (some 54) (Does.read rfl Tryz.func45 (by kernel_rfl) (by kernel_rfl) (hnow) (by rfl) (by rfl) ⟨rblkIn 3 (by rfl), rblkIn 4 (by rfl), rmapIn_ 5 (by rfl), filRin 6 (by rfl), laidIn 7 (by rfl), trivial⟩) (by rfl) (by rfl) ?_
          rintro _ -
          refine Ls.qE 55 (Ev.neqS rfl (by rfl) (by rfl)) ?_
          refine go [9,5,2] ?_
          refine Ent.inv (()) ?_ ?_ ?_
          · (try dsimp only); skip
          · (repeat (first | exact trivial | refine ⟨by rfl, ?_⟩ | refine ⟨by simp only [lenS]; rfl, ?_⟩ | refine ⟨by push_cast; rfl, ?_⟩ | refine ⟨by (show some (Value.bool _) = some (Value.bool _); congr 2; rw [decide_eq_decide]; exact ⟨fun e => .inr (.inr ⟨h3, fun k => e (txt_eq_iff.2 k)⟩), fun e => e.elim (fun e => absurd e hn1) fun e => e.elim (fun e => absurd e h2) fun e k => e.2 (txt_eq_iff.1 k)⟩), ?_⟩))
          · rfl
   rintro _ -
   refine Cd.cond _ (by rfl) (fun h4 => ?_) (fun h4 => ?_)
   · have h4 := of_decide_eq_true h4
     rw [if_pos h4] at htk
     refine go [4,0,0] ?_
     refine Ls.does (some 59) (Does.lit (sz := 1) rfl (by rfl) Tryz.underlying49 (by kernel_rfl) (by rfl) (by kernel_rfl)) (by rfl) (by rfl) ?_
     intro g1 _
     refine Ls.does (some 60) (Does.app (xs := txts O) (news := txts [x]) 1 rfl (by rfl) (by rfl) (by rfl) (ReadsIn.row 0 (by rfl)) elem_str (one_txts _) (show (O.length + 1) * 16 ≤ 140737488355328 by omega)) (by rfl) (by rfl) ?_
     rintro ⟨wA, wc⟩ -
     refine go [5,2,4] ?_
     refine Ls.qE 61 (Ev.addN (b := 1) rfl (by rfl) (by rfl) (by omega)) ?_
     refine go [0,2] ?_
     refine Ent.pick [1, 2, 3, 4, 5, 6, 7, 8] (by rfl) ?_
     have hrow : row wA (O.length + 1) wc 9 1 (txts O ++ txts [x]) = rowS wA wc (O ++ [x]) := by
      dsimp only [rowS]
      rw [List.length_append]
      simp [txts, strs]
     refine Ent.inv ((j + 1, (wA, wc), O ++ [x])) ?_ ?_ ?_
     · (try dsimp only); exact ⟨⟨hlt, htk.symm⟩, by omega⟩
     · (repeat (first | exact trivial | refine ⟨by rfl, ?_⟩ | refine ⟨by simp only [lenS]; rfl, ?_⟩ | refine ⟨by push_cast; rfl, ?_⟩ | refine ⟨by (show some (Value.slice _ _ _) = some (Value.slice _ _ _); rw [List.length_append]; rfl), ?_⟩))
     · (show [_, _, _, _, _, _, _, _] = [_, _, _, _, _, _, _, _]; dsimp only; rw [← hrow] <;> rfl)
   · have h4 := of_decide_eq_false h4
     rw [if_neg h4, List.append_nil] at htk
     refine go [6,4] ?_
     refine Ls.qE 61 (Ev.addN (b := 1) rfl (by rfl) (by rfl) (by omega)) ?_
     refine go [0,2] ?_
     refine Ent.iA ((j + 1, (oA, oc), O)) ?_
     (try dsimp only); exact ⟨⟨hlt, htk.symm⟩, by omega⟩
 have hge2 : ns.length ≤ j := by have := of_decide_eq_false h3; omega
 rw [List.take_of_length_le hge2] at hO
 subst hO
 refine Cd.exit ?_
 refine go [3,4,0,5,2,22] ?_
 exact Ent.rA ((oA, oc)) [0] trivial rT_
set_option maxHeartbeats 4000000 in
theorem rorph_sl (P : DrP) (hok : P.Ok) (dA : Option Addr) (dc : Nat) (m : MfP) (hg : goodP m.v) (A : Option Addr) (c : Nat) : Fn Tryz.prog 25 #[.agg (P.val dA dc).toArray, .agg (m.val A c).toArray] [rdF dA P.fs, rdT A m.v.tbs] (Option Addr × Nat) (fun q => .slice q.1 (orphP P m.v).length q.2) (fun q => [rowS q.1 q.2 (orphP P m.v)]) (fun _ => True) := by
 have hpl := hok.len
 have hnow := rnow_sl P hok dA dc
 have hfew := good_few hg
 rw [orphP_eq]
 obtain ⟨ns, hns⟩ : ∃ ns, ns = P.fs.map FiP.nm := ⟨_, rfl⟩
 rw [← hns]
 have hVe : P.val dA dc = [.slice dA P.fs.length dc, .int .i64 P.steps, .bool P.left.isSome, .int .i64 ((P.left.getD 0 : Nat) : Int)] := rfl
 rw [hVe] at hnow ⊢
 refine Fn.enter Tryz.func25 rfl Tryz.ntmps25 (by rfl) ?_
 intro w0
 refine go [3,4] ?_
 refine Ls.does (some 2) (Does.box rfl (by rfl)) (by rfl) (by rfl) ?_
 intro g1 _
 refine Ls.does (some 3) (Does.box rfl (by rfl)) (by rfl) (by rfl) ?_
 intro g2 _
 refine go [5,25,5,2,3,3,4,5,2,21] ?_
 refine Ent.nil 9 1 ?_
 refine Cd.loop (ι := Nat × (Option Addr × Nat) × List (List UInt8)) (fun p => [(2, ptrW g1), (3, ptrW g2), (5, .slice p.2.1.1 p.2.2.length p.2.1.2), (6, .int .i64 p.1)]) (fun p => [rowS p.2.1.1 p.2.1.2 p.2.2, blk g2 59 (m.val A c), blk g1 55 [.slice dA P.fs.length dc, .int .i64 P.steps, .bool P.left.isSome, .int .i64 ((P.left.getD 0 : Nat) : Int)], rdF dA P.fs, rdT A m.v.tbs]) (fun p => p.1 ≤ P.fs.length ∧ p.2.2 = (ns.take p.1).filter (fun q => decide (OrphQ P m.v q))) (fun p => P.fs.length - p.1) ((0, (none, 0), [])) (⟨Nat.zero_le _, rfl⟩) ?_ rfl ?_
 · (repeat (first | exact trivial | refine ⟨by rfl, ?_⟩))
 rintro ⟨j, ⟨oA, oc⟩, O⟩ ⟨hj, hO⟩
 dsimp only at hj hO ⊢
 have hOl : O.length ≤ 256 := by
  rw [hO]
  exact Nat.le_trans (List.length_filter_le _ _) (by rw [List.length_take]; omega)
 refine go [3,3,4,0,7,0,8,2] ?_
 refine Ls.qE 14 (Ev.len rfl (by rfl) Tryz.underlying53) ?_
 refine go [16,2] ?_
 refine Cd.cond _ (by rfl) (fun h3 => ?_) (fun h3 => ?_)
 · have hlt : j < P.fs.length := by have := of_decide_eq_true h3; omega
   obtain ⟨f, hf⟩ := get_of_lt hlt
   obtain ⟨x, hxf⟩ : ∃ x, x = f.nm := ⟨_, rfl⟩
   have hx : ns[j]? = some x := by rw [hns, List.getElem?_map, hf, hxf]; rfl
   have htk : (ns.take (j + 1)).filter (fun q => decide (OrphQ P m.v q)) = O ++ if OrphQ P m.v x then [x] else [] := by
    rw [List.take_add_one, hx, List.filter_append, ← hO]
    by_cases hq : OrphQ P m.v x <;> simp [hq]
   have hns2 := numK_le kSst x
   refine Ent.rdSome 3 (by rfl) (by omega) (fun ad had => ?_)
   subst had
   refine go [6,3,21,3,4,7,0,8,2,0] ?_
   refine Ls.qE 21 (Ev.indexAt (sz := 3) rfl (by rfl) (by rfl) Tryz.underlying53 (by kernel_rfl) (by omega)) ?_
   refine Ls.qE 22 (Ev.fieldAddrE0 (k := 0) rfl (by rfl) (by kernel_rfl)) ?_
   refine Ls.qE 23 (Ev.loadElF rfl (by rfl) (ReadsIn.rd 3 (by rfl)) (by kernel_rfl) (by intro _; rfl) (by assumption) (by rfl)) ?_
   refine go [5,2,3] ?_
   rw [← hxf]
   refine go [4,0] ?_
   refine Ls.does (some 25) (Does.read rfl Tryz.func66 (by kernel_rfl) (by kernel_rfl) (rnum_sl kSst x (by decide)) (by rfl) (by rfl) trivial) (by rfl) (by rfl) ?_
   rintro _ -
   refine go [5,25,5,2,3,3,4,5,2,21] ?_
   refine Cd.loop (ι := Nat × Bool) (fun p => [(2, ptrW g1), (3, ptrW g2), (5, .slice oA O.length oc), (6, .int .i64 j), (7, .string (txt x)), (8, .int .i64 (numK kSst x)), (9, .bool p.2), (10, .int .i64 p.1)]) (fun p => [rowS oA oc O, blk g2 59 (m.val A c), blk g1 55 [.slice (some ad) P.fs.length dc, .int .i64 P.steps, .bool P.left.isSome, .int .i64 ((P.left.getD 0 : Nat) : Int)], rdF (some ad) P.fs, rdT A m.v.tbs]) (fun p => p.1 ≤ m.v.tbs.length ∧ (p.2 = true ↔ ∃ t ∈ m.v.tbs.take p.1, t.num = numK kSst x)) (fun p => m.v.tbs.length - p.1) ((0, false)) (⟨Nat.zero_le _, by simp⟩) ?_ rfl ?_
   · (repeat (first | exact trivial | refine ⟨by rfl, ?_⟩))
   rintro ⟨k, b⟩ ⟨hk, hb⟩
   dsimp only at hk hb ⊢
   refine go [3,3,4,0,7,0,7,0,8,1] ?_
   refine Ls.qE 30 (Ev.len rfl (by rfl) Tryz.underlying22) ?_
   refine go [16,2] ?_
   refine Cd.cond _ (by rfl) (fun h4 => ?_) (fun h4 => ?_)
   · have hlt2 : k < m.v.tbs.length := by have := of_decide_eq_true h4; omega
     obtain ⟨t, ht⟩ := get_of_lt hlt2
     have htk2 : m.v.tbs.take (k + 1) = m.v.tbs.take k ++ [t] := by rw [List.take_add_one, ht]; rfl
     refine go [6,3,21,4,0,0] ?_
     cases b with
     | true =>
      refine Ent.known 35 true (by rfl) (by exact (rfl)) ?_
      refine go [1,1,1,1,1,1,1,1,1,9,5,2,4,0] ?_
      refine Ls.qE 33 (Ev.addN (b := 1) rfl (by rfl) (by rfl) (by omega)) ?_
      refine go [5,2] ?_
      refine Ent.iA ((k + 1, true)) ?_
      (try dsimp only); exact ⟨⟨hlt2, by
      obtain ⟨u, hu, he⟩ := hb.1 rfl
      exact ⟨fun _ => ⟨u, by rw [htk2]; exact List.mem_append_left _ hu, he⟩, fun _ => rfl⟩⟩, by omega⟩
     | false =>
      refine Ent.rdSome 4 (by rfl) (by omega) (fun td htd => ?_)
      obtain rfl : A = some td := htd
      refine Ent.known 35 false (by rfl) (by exact (rfl)) ?_
      refine go [7,0,7,0,8,1,0] ?_
      refine Ls.qE 40 (Ev.indexAt (sz := 4) rfl (by rfl) (by rfl) Tryz.underlying22 (by kernel_rfl) (by omega)) ?_
      refine Ls.qE 41 (Ev.fieldAddrE0 (k := 0) rfl (by rfl) (by kernel_rfl)) ?_
      refine Ls.qE 42 (Ev.loadElF (l := m.v.tbs) (enc := TbP.enc) (a := t) (k := k) (sz := 4) (j := 0) rfl (by rfl) (ReadsIn.rd 4 (by rfl)) (by kernel_rfl) (fun _ => rfl) ht (by rfl)) ?_
      refine go [0,19,10,5,2,4,0] ?_
      refine Ls.qE 33 (Ev.addN (b := 1) rfl (by rfl) (by rfl) (by omega)) ?_
      refine go [5,2] ?_
      refine Ent.iA ((k + 1, decide (t.num = numK kSst x))) ?_
      (try dsimp only); exact ⟨⟨hlt2, by
      rw [htk2, decide_eq_true_eq]
      refine ⟨fun e => ⟨t, List.mem_append_right _ (List.mem_singleton.2 rfl), e⟩, fun ⟨u, hu, he⟩ => ?_⟩
      rcases List.mem_append.1 hu with hu | hu
      · exact absurd (hb.2 ⟨u, hu, he⟩) (by decide)
      · rw [← List.mem_singleton.1 hu]
        exact he⟩, by omega⟩
   have hge : m.v.tbs.length ≤ k := by have := of_decide_eq_false h4; omega
   rw [List.take_of_length_le hge] at hb
   refine Cd.exit ?_
   refine Cd.seq ?_
   refine Cd.cut (ι := Unit) (fun _ => [(2, ptrW g1), (3, ptrW g2), (5, .slice oA O.length oc), (6, .int .i64 j), (7, .string (txt x)), (66, .bool (decide (OrphQ P m.v x)))]) (fun _ => [rowS oA oc O, blk g2 59 (m.val A c), blk g1 55 [.slice (some ad) P.fs.length dc, .int .i64 P.steps, .bool P.left.isSome, .int .i64 ((P.left.getD 0 : Nat) : Int)], rdF (some ad) P.fs, rdT A m.v.tbs]) (fun _ => True) ?_ ?_
   · refine go [4,0,18,0] ?_
     by_cases h0 : numK kSst x = 0
     · have hn1 : ¬ (numK kSst x ≠ 0 ∧ ∀ t ∈ m.v.tbs, t.num ≠ numK kSst x) := fun e => e.1 h0
       refine Ent.known 48 false (by rfl) (by exact (decide_eq_false (show ¬ ((0 : Int) < (numK kSst x : Int)) by omega))) ?_
       refine go [1,1,10,0] ?_
       refine Ent.known 52 false (by rfl) (by exact (rfl)) ?_
       refine Ls.qM 53 ?_
       refine Ls.qE 54 (Ev.eqlS rfl (by rfl) (by rfl)) ?_
       refine go [10,0] ?_
       by_cases h2 : x = qTmp
       · refine Ent.known 56 true (by rfl) (by exact (decide_eq_true (txt_eq_iff.2 h2))) ?_
         refine go [1,1,1,1,1,1,1,1,1,9,2] ?_
         refine Ent.inv (()) ?_ ?_ ?_
         · (try dsimp only); skip
         · (repeat (first | exact trivial | refine ⟨by rfl, ?_⟩ | refine ⟨by simp only [lenS]; rfl, ?_⟩ | refine ⟨by push_cast; rfl, ?_⟩ | refine ⟨by (show some (Value.bool _) = some (Value.bool _); rw [decide_eq_true (show OrphQ P m.v x from .inr (.inl h2))]), ?_⟩))
         · rfl
       · refine Ent.known 56 false (by rfl) (by exact (decide_eq_false (fun e => h2 (txt_eq_iff.1 e)))) ?_
         refine Ls.qM 57 ?_
         refine Ls.does (some 58) (Does.read rfl Tryz.func66 (by kernel_rfl) (by kernel_rfl) (rnum_sl kMan x (by decide)) (by rfl) (by rfl) trivial) (by rfl) (by rfl) ?_
         rintro _ -
         refine go [18,0] ?_
         by_cases h3 : numK kMan x = 0
         · refine Ent.known 60 false (by rfl) (by exact (decide_eq_false (show ¬ ((0 : Int) < (numK kMan x : Int)) by omega))) ?_
           refine go [1,1,1,1,10,10,2] ?_
           refine Ent.inv (()) ?_ ?_ ?_
           · (try dsimp only); skip
           · (repeat (first | exact trivial | refine ⟨by rfl, ?_⟩ | refine ⟨by simp only [lenS]; rfl, ?_⟩ | refine ⟨by push_cast; rfl, ?_⟩ | refine ⟨by (show some (Value.bool _) = some (Value.bool _); rw [decide_eq_false (show ¬ OrphQ P m.v x from fun e => e.elim hn1 fun e => e.elim h2 fun e => e.1 h3)]), ?_⟩))
           · rfl
         · refine Ent.known 60 true (by rfl) (by exact (decide_eq_true (show (0 : Int) < (numK kMan x : Int) by omega))) ?_
           refine go [0,12,2,4] ?_
           refine Ls.does (some 63) (Does.read rfl Tryz.func67 (by kernel_rfl) (by kernel_rfl) (hnow) (by rfl) (by rfl) ⟨ReadsIn.rd 3 (by rfl), trivial⟩) (by rfl) (by rfl) ?_
           rintro _ -
           refine Ls.qE 64 (Ev.neqS rfl (by rfl) (by rfl)) ?_
           refine go [9,10,2] ?_
           refine Ent.inv (()) ?_ ?_ ?_
           · (try dsimp only); skip
           · (repeat (first | exact trivial | refine ⟨by rfl, ?_⟩ | refine ⟨by simp only [lenS]; rfl, ?_⟩ | refine ⟨by push_cast; rfl, ?_⟩ | refine ⟨by (show some (Value.bool _) = some (Value.bool _); congr 2; rw [decide_eq_decide]; exact ⟨fun e => .inr (.inr ⟨h3, fun k => e (txt_eq_iff.2 k)⟩), fun e => e.elim (fun e => absurd e hn1) fun e => e.elim (fun e => absurd e h2) fun e k => e.2 (txt_eq_iff.1 k)⟩), ?_⟩))
           · rfl
     · refine Ent.known 48 true (by rfl) (by exact (decide_eq_true (show (0 : Int) < (numK kSst x : Int) by omega))) ?_
       refine go [0,20,9,0] ?_
       cases b with
       | true =>
        have hn1 : ¬ (numK kSst x ≠ 0 ∧ ∀ t ∈ m.v.tbs, t.num ≠ numK kSst x) := fun e => by
         obtain ⟨u, hu, he⟩ := hb.1 rfl
         exact e.2 u hu he
        refine Ent.known 52 false (by rfl) (by exact (rfl)) ?_
        refine Ls.qM 53 ?_
        refine Ls.qE 54 (Ev.eqlS rfl (by rfl) (by rfl)) ?_
        refine go [10,0] ?_
        by_cases h2 : x = qTmp
        · refine Ent.known 56 true (by rfl) (by exact (decide_eq_true (txt_eq_iff.2 h2))) ?_
          refine go [1,1,1,1,1,1,1,1,1,9,2] ?_
          refine Ent.inv (()) ?_ ?_ ?_
          · (try dsimp only); skip
          · (repeat (first | exact trivial | refine ⟨by rfl, ?_⟩ | refine ⟨by simp only [lenS]; rfl, ?_⟩ | refine ⟨by push_cast; rfl, ?_⟩ | refine ⟨by (show some (Value.bool _) = some (Value.bool _); rw [decide_eq_true (show OrphQ P m.v x from .inr (.inl h2))]), ?_⟩))
          · rfl
        · refine Ent.known 56 false (by rfl) (by exact (decide_eq_false (fun e => h2 (txt_eq_iff.1 e)))) ?_
          refine Ls.qM 57 ?_
          refine Ls.does (some 58) (Does.read rfl Tryz.func66 (by kernel_rfl) (by kernel_rfl) (rnum_sl kMan x (by decide)) (by rfl) (by rfl) trivial) (by rfl) (by rfl) ?_
          rintro _ -
          refine go [18,0] ?_
          by_cases h3 : numK kMan x = 0
          · refine Ent.known 60 false (by rfl) (by exact (decide_eq_false (show ¬ ((0 : Int) < (numK kMan x : Int)) by omega))) ?_
            refine go [1,1,1,1,10,10,2] ?_
            refine Ent.inv (()) ?_ ?_ ?_
            · (try dsimp only); skip
            · (repeat (first | exact trivial | refine ⟨by rfl, ?_⟩ | refine ⟨by simp only [lenS]; rfl, ?_⟩ | refine ⟨by push_cast; rfl, ?_⟩ | refine ⟨by (show some (Value.bool _) = some (Value.bool _); rw [decide_eq_false (show ¬ OrphQ P m.v x from fun e => e.elim hn1 fun e => e.elim h2 fun e => e.1 h3)]), ?_⟩))
            · rfl
          · refine Ent.known 60 true (by rfl) (by exact (decide_eq_true (show (0 : Int) < (numK kMan x : Int) by omega))) ?_
            refine go [0,12,2,4] ?_
            refine Ls.does (some 63) (Does.read rfl Tryz.func67 (by kernel_rfl) (by kernel_rfl) (hnow) (by rfl) (by rfl) ⟨ReadsIn.rd 3 (by rfl), trivial⟩) (by rfl) (by rfl) ?_
            rintro _ -
            refine Ls.qE 64 (Ev.neqS rfl (by rfl) (by rfl)) ?_
            refine go [9,10,2] ?_
            refine Ent.inv (()) ?_ ?_ ?_
            · (try dsimp only); skip
            · (repeat (first | exact trivial | refine ⟨by rfl, ?_⟩ | refine ⟨by simp only [lenS]; rfl, ?_⟩ | refine ⟨by push_cast; rfl, ?_⟩ | refine ⟨by (show some (Value.bool _) = some (Value.bool _); congr 2; rw [decide_eq_decide]; exact ⟨fun e => .inr (.inr ⟨h3, fun k => e (txt_eq_iff.2 k)⟩), fun e => e.elim (fun e => absurd e hn1) fun e => e.elim (fun e => absurd e h2) fun e k => e.2 (txt_eq_iff.1 k)⟩), ?_⟩))
            · rfl
       | false =>
        have hyes : OrphQ P m.v x := .inl ⟨h0, fun t ht he => absurd (hb.2 ⟨t, ht, he⟩) (by decide)⟩
        refine Ent.known 52 true (by rfl) (by exact (rfl)) ?_
        refine go [1,1,9,0,1,1,1,1,1,1,1,1,1,9,2] ?_
        refine Ent.inv (()) ?_ ?_ ?_
        · (try dsimp only); skip
        · (repeat (first | exact trivial | refine ⟨by rfl, ?_⟩ | refine ⟨by simp only [lenS]; rfl, ?_⟩ | refine ⟨by push_cast; rfl, ?_⟩ | refine ⟨by (show some (Value.bool _) = some (Value.bool _); rw [decide_eq_true hyes]), ?_⟩))
        · rfl
   rintro _ -
   refine Cd.cond _ (by rfl) (fun h4 => ?_) (fun h4 => ?_)
   · have h4 := of_decide_eq_true h4
     rw [if_pos h4] at htk
     refine go [4,0,0] ?_
     refine Ls.does (some 69) (Does.lit (sz := 1) rfl (by rfl) Tryz.underlying49 (by kernel_rfl) (by rfl) (by kernel_rfl)) (by rfl) (by rfl) ?_
     intro g3 _
     refine Ls.does (some 70) (Does.app (xs := txts O) (news := txts [x]) 1 rfl (by rfl) (by rfl) (by rfl) (ReadsIn.row 0 (by rfl)) elem_str (one_txts _) (show (O.length + 1) * 16 ≤ 140737488355328 by omega)) (by rfl) (by rfl) ?_
     rintro ⟨wA, wc⟩ -
     refine go [5,2,4,0] ?_
     refine Ls.qE 17 (Ev.addN (b := 1) rfl (by rfl) (by rfl) (by omega)) ?_
     refine go [5,2] ?_
     refine Ent.pick [1, 2, 3, 4, 5] (by rfl) ?_
     have hrow : row wA (O.length + 1) wc 9 1 (txts O ++ txts [x]) = rowS wA wc (O ++ [x]) := by
      dsimp only [rowS]
      rw [List.length_append]
      simp [txts, strs]
     refine Ent.inv ((j + 1, (wA, wc), O ++ [x])) ?_ ?_ ?_
     · (try dsimp only); exact ⟨⟨hlt, htk.symm⟩, by omega⟩
     · (repeat (first | exact trivial | refine ⟨by rfl, ?_⟩ | refine ⟨by simp only [lenS]; rfl, ?_⟩ | refine ⟨by push_cast; rfl, ?_⟩ | refine ⟨by (show some (Value.slice _ _ _) = some (Value.slice _ _ _); rw [List.length_append]; rfl), ?_⟩))
     · (show [_, _, _, _, _] = [_, _, _, _, _]; dsimp only; rw [← hrow] <;> rfl)
   · have h4 := of_decide_eq_false h4
     rw [if_neg h4, List.append_nil] at htk
     refine go [6,4,0] ?_
     refine Ls.qE 17 (Ev.addN (b := 1) rfl (by rfl) (by rfl) (by omega)) ?_
     refine go [5,2] ?_
     refine Ent.iA ((j + 1, (oA, oc), O)) ?_
     (try dsimp only); exact ⟨⟨hlt, htk.symm⟩, by omega⟩
 have hge2 : P.fs.length ≤ j := by have := of_decide_eq_false h3; omega
 rw [List.take_of_length_le (by rw [hns, List.length_map]; exact hge2)] at hO
 subst hO
 refine Cd.exit ?_
 refine go [3,4,0,5,2,22] ?_
 exact Ent.rA ((oA, oc)) [0] trivial rT_
def stepQ (Q : DrP × Int) (f : DrP → DrP × Int) : DrP × Int := if Q.2 = 0 then f Q.1 else Q
theorem stepQ_stop {Q : DrP × Int} (h : Q.2 ≠ 0) : ∀ l : List (DrP → DrP × Int), l.foldl stepQ Q = Q
 | [] => rfl
 | f :: l => by
  rw [List.foldl_cons, show stepQ Q f = Q from if_neg h]
  exact stepQ_stop h l
theorem runP_fold : ∀ (l : List (DrP → DrP × Int)) (P : DrP), l.foldl stepQ (P, 0) = runP l P
 | [], _ => rfl
 | f :: l, P => by
  rw [List.foldl_cons, show stepQ (P, 0) f = f P from if_pos rfl, runP]
  split
  · rename_i h
    exact stepQ_stop h l
  · rename_i h
    have h0 : (f P).2 = 0 := Decidable.not_not.1 h
    have : f P = ((f P).1, 0) := by rw [← h0]
    rw [this]
    exact runP_fold l (f P).1
def snapT (v : VsP) (k : Nat) : List UInt8 := sealL (edB ⟨[], [], v.nx, v.lg, v.sq⟩) ++ (v.tbs.take k).flatMap fun t => sealL (edB (oneE t))
theorem snapT_all {v : VsP} {k : Nat} (h : v.tbs.length ≤ k) : snapT v k = snapB v := by
 unfold snapT snapB snapE
 rw [List.take_of_length_le h, List.flatMap_cons, List.flatMap_map]
 rfl
theorem snapT_succ {v : VsP} {k : Nat} {t : TbP} (h : v.tbs[k]? = some t) : snapT v k ++ sealL (edB (oneE t)) = snapT v (k + 1) := by
 unfold snapT
 rw [List.take_add_one, h]
 simp
theorem snapT_le {v : VsP} (hv : goodP v) (k : Nat) : (snapT v k).length ≤ 8220000000 := by
 have hfew := good_few hv
 have h1 := sealL_le (snap_enc hv (e := ⟨[], [], v.nx, v.lg, v.sq⟩) (by unfold snapE; exact List.mem_cons_self)).2.2
 have h2 := flat_le (g := fun t => sealL (edB (oneE t))) (b := 4110) (l := v.tbs.take k) (fun t ht => sealL_le (snap_enc hv (e := oneE t) (by unfold snapE; exact List.mem_cons_of_mem _ (List.mem_map_of_mem (f := fun t => oneE t) (List.mem_of_mem_take ht)))).2.2)
 have h3 : (v.tbs.take k).length * 4110 ≤ 1000000 * 4110 := Nat.mul_le_mul_right _ (by rw [List.length_take]; omega)
 unfold snapT
 rw [List.length_append]
 omega
abbrev zDr : List Value := [.slice none 0 0, .int .i64 0, .bool false, .int .i64 0]
set_option maxHeartbeats 8000000 in
theorem rswap_sl (P : DrP) (hok : P.Ok) (dA : Option Addr) (dc : Nat) (log : List UInt8) (hlog : Good log) (v : VsP) (hv : goodP v) (A : Option Addr) (c : Nat) : Fn Tryz.prog 74 #[.agg (P.val dA dc).toArray, .string (txt log), .agg (v.val A c).toArray] [rdF dA P.fs, rdT A v.tbs] (Option Addr × Nat) (fun p => .tuple #[.agg ((runP (swapL P log (snapB v)) P).1.val p.1 p.2).toArray, .int .i64 (runP (swapL P log (snapB v)) P).2]) (fun p => [rdF p.1 (runP (swapL P log (snapB v)) P).1.fs]) (fun _ => True) := by
 have hpl := hok.len
 have hlg := hlog.len
 have hlg : log.length ≤ 1048576 := by omega
 obtain ⟨R, hR⟩ : ∃ R, R = runP (swapL P log (snapB v)) P := ⟨_, rfl⟩
 rw [← hR]
 have hfew := good_few hv
 obtain ⟨y1, -, y3⟩ := snap_enc hv (e := ⟨[], [], v.nx, v.lg, v.sq⟩) (by unfold snapE; exact List.mem_cons_self)
 have hsn := fun k => snapT_le hv k
 have c1 := rencode_yes y1 y3 none none 0 0
 dsimp only [EdP.val] at c1
 refine Fn.enter Tryz.func74 rfl Tryz.ntmps74 (by rfl) ?_
 intro w0
 refine go [3,4] ?_
 refine Ls.does (some 3) (Does.box rfl (by rfl)) (by rfl) (by rfl) ?_
 intro g1 _
 refine Ls.does (some 5) (Does.box rfl (by rfl)) (by rfl) (by rfl) ?_
 intro g2 _
 refine Ls.does (some 6) (Does.alloc (cs := [.slice none 0 0, .int .i64 0, .bool false, .int .i64 0]) rfl (ZeroIs.mk (.agg #[.slice none 0 0, .int .i64 0, .bool false, .int .i64 0]) (by kernel_rfl) (by rfl))) (by rfl) (by rfl) ?_
 intro g3 _
 refine go [5,25,7,1,8,1,7,2,8,1,7,3,8,1] ?_
 refine Ls.qE 21 (Ev.buildP (pl := [(0, 1), (1, 1), (2, 1), (3, 1), (4, 1)]) (zs := [.slice none 0 0, .slice none 0 0, .int .i64 0, .int .i64 0, .int .i64 0]) rfl (by rfl) (by kernel_rfl) (by rfl)) ?_
 refine Ent.map (fun w hs => hs.rdNilT) ?_
 refine Ent.map (fun w hs => hs.rdNilI) ?_
 refine Ls.does (some 22) (Does.readN rfl Tryz.func70 (by kernel_rfl) (by kernel_rfl) (c1) (by rfl) (by rfl) ⟨ReadsIn.rd 1 (by rfl), ReadsIn.rd 0 (by rfl), trivial⟩ (fun _ => by rfl)) (by rfl) (by rfl) ?_
 rintro ⟨pA, pc⟩ -
 refine go [0,11,11,5,5,25,0] ?_
 have c2 := rseal_sl pA pc (edB ⟨[], [], v.nx, v.lg, v.sq⟩) (by omega)
 rw [show sealL (edB ⟨[], [], v.nx, v.lg, v.sq⟩) = snapT v 0 from (List.append_nil _).symm] at c2
 refine Ls.does (some 26) (Does.readN rfl Tryz.func72 (by kernel_rfl) (by kernel_rfl) (c2) (by rfl) (by rfl) ⟨ReadsIn.row 0 (by rfl), trivial⟩ (fun _ => by rfl)) (by rfl) (by rfl) ?_
 rintro ⟨sA, sc⟩ -
 refine go [5,2,3,3] ?_
 refine Ent.pick [0, 2, 4, 5, 6, 7, 8] (by rfl) ?_
 refine go [4,5,2,21] ?_
 refine Cd.loop (ι := Nat × (Option Addr × Nat)) (fun p => [(1, .string (txt log)), (3, ptrW g1), (5, ptrW g2), (6, ptrW g3), (9, .int .i64 0), (10, .slice p.2.1 (snapT v p.1).length p.2.2), (11, .int .i64 p.1)]) (fun p => [rowB p.2.1 p.2.2 (snapT v p.1), rd none 0 1 (ints []), blk g3 55 zDr, blk g2 24 (v.val A c), blk g1 55 (P.val dA dc), rdF dA P.fs, rdT A v.tbs]) (fun p => p.1 ≤ v.tbs.length) (fun p => v.tbs.length - p.1) ((0, (sA, sc))) (Nat.zero_le _) ?_ rfl ?_
 · (repeat (first | exact trivial | refine ⟨by rfl, ?_⟩))
 rintro ⟨k, ⟨wA, wc⟩⟩ hk
 dsimp only at hk ⊢
 have hsk := hsn k
 refine go [3,3,4,0,7,0,8,3] ?_
 refine Ls.qE 30 (Ev.len rfl (by rfl) Tryz.underlying22) ?_
 refine go [16,2] ?_
 refine Cd.cond _ (by rfl) (fun h2 => ?_) (fun h2 => ?_)
 · have hlt : k < v.tbs.length := by have := of_decide_eq_true h2; omega
   obtain ⟨t, ht⟩ := get_of_lt hlt
   obtain ⟨z1, -, z3⟩ := snap_enc hv (e := oneE t) (by unfold snapE; exact List.mem_cons_of_mem _ (List.mem_map_of_mem (f := fun t => oneE t) (List.mem_of_getElem? ht)))
   have hsx := sealL_le z3
   have hOx := snapT_succ ht
   refine Ent.rdSome 6 (by rfl) (by omega) (fun ad had => ?_)
   subst had
   refine go [6,3,21,3,4,7,0,8,3,0] ?_
   refine Ls.qE 38 (Ev.indexAt (sz := 4) rfl (by rfl) (by rfl) Tryz.underlying22 (by kernel_rfl) (by omega)) ?_
   refine Ls.qE 39 (Ev.loadEl (enc := TbP.enc) (sz := 4) rfl (by rfl) (ReadsIn.rd 6 (by rfl)) (by kernel_rfl) (fun _ => rfl) ht) ?_
   refine Ls.does (some 40) (Does.lit (sz := 4) rfl (by rfl) Tryz.underlying22 (by kernel_rfl) (by rfl) (by kernel_rfl)) (by rfl) (by rfl) ?_
   intro g4 _
   refine Ls.qE 41 (Ev.buildP (pl := [(0, 1), (1, 1), (2, 1), (3, 1), (4, 1)]) (zs := [.slice none 0 0, .slice none 0 0, .int .i64 0, .int .i64 0, .int .i64 0]) rfl (by rfl) (by kernel_rfl) (by rfl)) ?_
   refine Ls.does (some 42) (Does.readN rfl Tryz.func70 (by kernel_rfl) (by kernel_rfl) (rencode_yes z1 z3 (some ⟨g4, 0, none⟩) none 1 0) (by rfl) (by rfl) ⟨ReadsIn.row 0 (by rfl), ReadsIn.rd 2 (by rfl), trivial⟩ (fun _ => by rfl)) (by rfl) (by rfl) ?_
   rintro ⟨eA, ec⟩ -
   refine go [0,11,11,5,2,4,0,0] ?_
   refine Ls.does (some 47) (Does.readN rfl Tryz.func72 (by kernel_rfl) (by kernel_rfl) (rseal_sl eA ec (edB (oneE t)) (by omega)) (by rfl) (by rfl) ⟨ReadsIn.row 0 (by rfl), trivial⟩ (fun _ => by rfl)) (by rfl) (by rfl) ?_
   rintro ⟨uA, uc⟩ -
   refine Ls.does (some 48) (Does.appB 3 rfl (by rfl) (by rfl) (by rfl) (ReadsIn.row 0 (by rfl)) (by omega)) (by rfl) (by rfl) ?_
   rw [hOx]
   rintro ⟨q, qq⟩ -
   refine go [5,2,4,0] ?_
   refine Ls.qE 33 (Ev.addN (b := 1) rfl (by rfl) (by rfl) (by omega)) ?_
   refine go [5,2] ?_
   refine Ent.pick [3, 4, 5, 6, 7, 8, 9] (by rfl) ?_
   refine Ent.iA ((k + 1, (q, qq))) ?_
   (try dsimp only); exact ⟨hlt, by omega⟩
 have hge : v.tbs.length ≤ k := by have := of_decide_eq_false h2; omega
 have hsb := snapT_all hge
 rw [hsb] at hsk ⊢
 clear hsn c1
 obtain ⟨b, hb⟩ : ∃ b, b = snapB v := ⟨_, rfl⟩
 rw [← hb] at hsk hR
 rw [← hb]
 refine Cd.exit ?_
 refine Cd.seq ?_
 refine Ent.see 0 (by rfl) ?_
 refine go [4,12,4,4] ?_
 refine Ls.does (some 12) (Does.alloc (cs := [.slice none 0 0, .int .i64 0, .bool false, .int .i64 0]) rfl (ZeroIs.mk (.agg #[.slice none 0 0, .int .i64 0, .bool false, .int .i64 0]) (by kernel_rfl) (by rfl))) (by rfl) (by rfl) ?_
 intro g4 _
 refine go [15,0,2,3,3] ?_
 refine Ent.pick [5, 6, 0, 6, 3, 1] (by rfl) ?_
 refine go [4,12,0,4] ?_
 refine Ls.does (some 51) (Does.read rfl Tryz.func63 (by kernel_rfl) (by kernel_rfl) (dat_sl P dA dc qTmp (by omega)) (by rfl) (by rfl) ⟨ReadsIn.rd 1 (by rfl), trivial⟩) (by rfl) (by rfl) ?_
 rintro r hr
 refine Ls.qE 52 (Ev.geq rfl (by rfl) (by rfl)) ?_
 refine Ls.nil ?_
 obtain ⟨Q1, hQ1⟩ : ∃ Q1, Q1 = (if P.find qTmp = none then [] else [fun P => P.delete qTmp]).foldl stepQ (P, 0) := ⟨_, rfl⟩
 refine Cd.cut (ι := Option Addr × Nat) (fun q => [(1, .string (txt log)), (3, ptrW g1), (6, ptrW g3), (9, .int .i64 Q1.2), (10, .slice wA b.length wc), (12, ptrW g4)]) (fun q => [blk g1 55 (Q1.1.val q.1 q.2), rdF q.1 Q1.1.fs, blk g4 55 (P.val dA dc), rdF dA P.fs, blk g3 55 zDr, rdB wA b]) (fun _ => True) ?_ ?_
 · cases hfd : P.find qTmp with
   | none =>
    obtain rfl := at_miss hr hfd
    have e1 : Q1 = (P, 0) := by rw [hQ1, if_pos hfd]; rfl
    rw [e1]
    refine Cd.cond_false (by rfl) (decide_eq_false (show ¬ ((0 : Int) ≤ -1) by decide)) ?_
    refine Cd.skip ?_
    exact Ent.iA ((dA, dc)) trivial
   | some f =>
    obtain ⟨m, rfl, -⟩ := at_hit hr hfd
    have e1 : Q1 = P.delete qTmp := by rw [hQ1, if_neg (by rw [hfd]; simp)]; rfl
    rw [e1]
    refine Cd.cond_true (by rfl) (decide_eq_true (show (0 : Int) ≤ (m : Int) by omega)) ?_
    refine go [4,12,0,4] ?_
    refine Ls.does (some 55) (Does.call [1, 0, 2, 3, 4, 5] rfl Tryz.func117 (by kernel_rfl) (by kernel_rfl) (ddelete_sl P hok dA dc qTmp (by decide)) (by rfl) (by rfl) (by rfl)) (by rfl) (by rfl) ?_
    rintro ⟨A1, a1⟩ -
    dsimp only
    refine go [0,11,11,15,1,5,2] ?_
    refine Ent.pick [1, 0, 2, 3, 4, 5] (by rfl) ?_
    exact Ent.iA ((A1, a1)) trivial
 rintro ⟨A1, a1⟩ -
 dsimp only
 have hk1 : Q1.1.Ok := by
  rw [hQ1]
  split
  · exact hok
  · exact hok.delete qTmp
 refine go [3,3,4,0,19,2] ?_
 obtain ⟨Q2, hQ2⟩ : ∃ Q2, Q2 = stepQ Q1 (fun P => P.append log b) := ⟨_, rfl⟩
 have hk2 : Q2.1.Ok := by
  rw [hQ2, stepQ]
  split
  · exact hk1.append log b
  · exact hk1
 refine Cd.cut (ι := Option Addr × Nat) (fun q => [(1, .string (txt log)), (3, ptrW g1), (6, ptrW g3), (9, .int .i64 Q2.2), (10, .slice wA b.length wc), (12, ptrW g4)]) (fun q => [blk g1 55 (Q2.1.val q.1 q.2), rdF q.1 Q2.1.fs, blk g4 55 (P.val dA dc), rdF dA P.fs, blk g3 55 zDr, rdB wA b]) (fun _ => True) ?_ ?_
 · by_cases hz : Q1.2 = 0
   · have e1 : Q2 = Q1.1.append log b := hQ2.trans (if_pos hz)
     rw [e1]
     refine Cd.cond_true (by rfl) (decide_eq_true hz) ?_
     refine go [4,12,0,4,0,0] ?_
     refine Ls.qE 64 (Ev.textOf (l := b) rfl (by rfl) (ReadsIn.rd 5 (by rfl)) Tryz.underlying47 Tryz.underlying5 Tryz.underlying9) ?_
     refine Ls.does (some 65) (Does.call [1, 0, 2, 3, 4, 5] rfl Tryz.func71 (by kernel_rfl) (by kernel_rfl) (dappend_sl Q1.1 hk1 A1 a1 log b hlg (by omega)) (by rfl) (by rfl) (by rfl)) (by rfl) (by rfl) ?_
     rintro ⟨A2, a2⟩ -
     dsimp only
     refine go [0,11,11,15,1,5,2] ?_
     refine Ent.pick [1, 0, 2, 3, 4, 5] (by rfl) ?_
     exact Ent.iA ((A2, a2)) trivial
   · have e1 : Q2 = Q1 := hQ2.trans (if_neg hz)
     rw [e1]
     refine Cd.cond_false (by rfl) (decide_eq_false hz) ?_
     refine Cd.skip ?_
     exact Ent.iA ((A1, a1)) trivial
 rintro ⟨A2, a2⟩ -
 dsimp only
 refine go [3,3,4,0,19,2] ?_
 obtain ⟨Q3, hQ3⟩ : ∃ Q3, Q3 = stepQ Q2 (fun P => P.sync log) := ⟨_, rfl⟩
 have hk3 : Q3.1.Ok := by
  rw [hQ3, stepQ]
  split
  · exact hk2.sync_ log
  · exact hk2
 refine Cd.cut (ι := Option Addr × Nat) (fun q => [(1, .string (txt log)), (3, ptrW g1), (6, ptrW g3), (9, .int .i64 Q3.2), (10, .slice wA b.length wc), (12, ptrW g4)]) (fun q => [blk g1 55 (Q3.1.val q.1 q.2), rdF q.1 Q3.1.fs, blk g4 55 (P.val dA dc), rdF dA P.fs, blk g3 55 zDr, rdB wA b]) (fun _ => True) ?_ ?_
 · by_cases hz : Q2.2 = 0
   · have e1 : Q3 = Q2.1.sync log := hQ3.trans (if_pos hz)
     rw [e1]
     refine Cd.cond_true (by rfl) (decide_eq_true hz) ?_
     refine go [4,12,0,4,0] ?_
     refine Ls.does (some 73) (Does.call [1, 0, 2, 3, 4, 5] rfl Tryz.func73 (by kernel_rfl) (by kernel_rfl) (dsync_sl Q2.1 hk2 A2 a2 log hlg) (by rfl) (by rfl) (by rfl)) (by rfl) (by rfl) ?_
     rintro ⟨A3, a3⟩ -
     dsimp only
     refine go [0,11,11,15,1,5,2] ?_
     refine Ent.pick [1, 0, 2, 3, 4, 5] (by rfl) ?_
     exact Ent.iA ((A3, a3)) trivial
   · have e1 : Q3 = Q2 := hQ3.trans (if_neg hz)
     rw [e1]
     refine Cd.cond_false (by rfl) (decide_eq_false hz) ?_
     refine Cd.skip ?_
     exact Ent.iA ((A2, a2)) trivial
 rintro ⟨A3, a3⟩ -
 dsimp only
 refine go [3,3,4,0,19,2] ?_
 obtain ⟨Q4, hQ4⟩ : ∃ Q4, Q4 = stepQ Q3 (fun P => P.append qTmp log) := ⟨_, rfl⟩
 have hk4 : Q4.1.Ok := by
  rw [hQ4, stepQ]
  split
  · exact hk3.append qTmp log
  · exact hk3
 refine Cd.cut (ι := Option Addr × Nat) (fun q => [(1, .string (txt log)), (3, ptrW g1), (6, ptrW g3), (9, .int .i64 Q4.2), (10, .slice wA b.length wc), (12, ptrW g4)]) (fun q => [blk g1 55 (Q4.1.val q.1 q.2), rdF q.1 Q4.1.fs, blk g4 55 (P.val dA dc), rdF dA P.fs, blk g3 55 zDr, rdB wA b]) (fun _ => True) ?_ ?_
 · by_cases hz : Q3.2 = 0
   · have e1 : Q4 = Q3.1.append qTmp log := hQ4.trans (if_pos hz)
     rw [e1]
     refine Cd.cond_true (by rfl) (decide_eq_true hz) ?_
     refine go [4,12,0,4,0] ?_
     refine Ls.does (some 81) (Does.call [1, 0, 2, 3, 4, 5] rfl Tryz.func71 (by kernel_rfl) (by kernel_rfl) (dappend_sl Q3.1 hk3 A3 a3 qTmp log (by decide) (by omega)) (by rfl) (by rfl) (by rfl)) (by rfl) (by rfl) ?_
     rintro ⟨A4, a4⟩ -
     dsimp only
     refine go [0,11,11,15,1,5,2] ?_
     refine Ent.pick [1, 0, 2, 3, 4, 5] (by rfl) ?_
     exact Ent.iA ((A4, a4)) trivial
   · have e1 : Q4 = Q3 := hQ4.trans (if_neg hz)
     rw [e1]
     refine Cd.cond_false (by rfl) (decide_eq_false hz) ?_
     refine Cd.skip ?_
     exact Ent.iA ((A3, a3)) trivial
 rintro ⟨A4, a4⟩ -
 dsimp only
 refine go [3,3,4,0,19,2] ?_
 obtain ⟨Q5, hQ5⟩ : ∃ Q5, Q5 = stepQ Q4 (fun P => P.sync qTmp) := ⟨_, rfl⟩
 have hk5 : Q5.1.Ok := by
  rw [hQ5, stepQ]
  split
  · exact hk4.sync_ qTmp
  · exact hk4
 refine Cd.cut (ι := Option Addr × Nat) (fun q => [(1, .string (txt log)), (3, ptrW g1), (6, ptrW g3), (9, .int .i64 Q5.2), (10, .slice wA b.length wc), (12, ptrW g4)]) (fun q => [blk g1 55 (Q5.1.val q.1 q.2), rdF q.1 Q5.1.fs, blk g4 55 (P.val dA dc), rdF dA P.fs, blk g3 55 zDr, rdB wA b]) (fun _ => True) ?_ ?_
 · by_cases hz : Q4.2 = 0
   · have e1 : Q5 = Q4.1.sync qTmp := hQ5.trans (if_pos hz)
     rw [e1]
     refine Cd.cond_true (by rfl) (decide_eq_true hz) ?_
     refine go [4,12,0,4] ?_
     refine Ls.does (some 88) (Does.call [1, 0, 2, 3, 4, 5] rfl Tryz.func73 (by kernel_rfl) (by kernel_rfl) (dsync_sl Q4.1 hk4 A4 a4 qTmp (by decide)) (by rfl) (by rfl) (by rfl)) (by rfl) (by rfl) ?_
     rintro ⟨A5, a5⟩ -
     dsimp only
     refine go [0,11,11,15,1,5,2] ?_
     refine Ent.pick [1, 0, 2, 3, 4, 5] (by rfl) ?_
     exact Ent.iA ((A5, a5)) trivial
   · have e1 : Q5 = Q4 := hQ5.trans (if_neg hz)
     rw [e1]
     refine Cd.cond_false (by rfl) (decide_eq_false hz) ?_
     refine Cd.skip ?_
     exact Ent.iA ((A4, a4)) trivial
 rintro ⟨A5, a5⟩ -
 dsimp only
 refine go [3,3,4,0,19,2] ?_
 obtain ⟨Q6, hQ6⟩ : ∃ Q6, Q6 = stepQ Q5 (fun P => P.rename qTmp qCur) := ⟨_, rfl⟩
 have hk6 : Q6.1.Ok := by
  rw [hQ6, stepQ]
  split
  · exact hk5.rename qTmp qCur
  · exact hk5
 refine Cd.cut (ι := Option Addr × Nat) (fun q => [(1, .string (txt log)), (3, ptrW g1), (6, ptrW g3), (9, .int .i64 Q6.2), (10, .slice wA b.length wc), (12, ptrW g4)]) (fun q => [blk g1 55 (Q6.1.val q.1 q.2), rdF q.1 Q6.1.fs, blk g4 55 (P.val dA dc), rdF dA P.fs, blk g3 55 zDr, rdB wA b]) (fun _ => True) ?_ ?_
 · by_cases hz : Q5.2 = 0
   · have e1 : Q6 = Q5.1.rename qTmp qCur := hQ6.trans (if_pos hz)
     rw [e1]
     refine Cd.cond_true (by rfl) (decide_eq_true hz) ?_
     refine go [4,12,0,4] ?_
     refine Ls.does (some 95) (Does.call [1, 0, 2, 3, 4, 5] rfl Tryz.func118 (by kernel_rfl) (by kernel_rfl) (drename_sl Q5.1 hk5 A5 a5 qTmp qCur (by decide) (by decide)) (by rfl) (by rfl) (by rfl)) (by rfl) (by rfl) ?_
     rintro ⟨A6, a6⟩ -
     dsimp only
     refine go [0,11,11,15,1,5,2] ?_
     refine Ent.pick [1, 0, 2, 3, 4, 5] (by rfl) ?_
     exact Ent.iA ((A6, a6)) trivial
   · have e1 : Q6 = Q5 := hQ6.trans (if_neg hz)
     rw [e1]
     refine Cd.cond_false (by rfl) (decide_eq_false hz) ?_
     refine Cd.skip ?_
     exact Ent.iA ((A5, a5)) trivial
 rintro ⟨A6, a6⟩ -
 dsimp only
 have hRd : R = ((manN (P.fs.map FiP.nm)).map fun q P => P.delete q).foldl stepQ Q6 := by
  rw [hR, ← runP_fold]
  unfold swapL
  rw [List.foldl_append, List.foldl_append, ← hQ1]
  simp only [List.foldl_cons, List.foldl_nil]
  rw [← hQ2, ← hQ3, ← hQ4, ← hQ5, ← hQ6]
 clear hR hQ1 hQ2 hQ3 hQ4 hQ5 hQ6
 obtain ⟨ns, hns⟩ : ∃ ns, ns = P.fs.map FiP.nm := ⟨_, rfl⟩
 rw [← hns] at hRd
 refine go [3,3,4,5,2,21] ?_
 refine Ent.pick [0, 1, 2, 3, 4] (by rfl) ?_
 refine Cd.loop (ι := Nat × ((DrP × Int) × (Option Addr × Nat))) (fun p => [(3, ptrW g1), (6, ptrW g3), (9, .int .i64 p.2.1.2), (12, ptrW g4), (13, .int .i64 p.1)]) (fun p => [blk g1 55 (p.2.1.1.val p.2.2.1 p.2.2.2), rdF p.2.2.1 p.2.1.1.fs, blk g4 55 (P.val dA dc), rdF dA P.fs, blk g3 55 zDr]) (fun p => p.1 ≤ P.fs.length ∧ p.2.1.1.Ok ∧ R = ((manN (ns.drop p.1)).map fun q P => P.delete q).foldl stepQ p.2.1) (fun p => P.fs.length - p.1) ((0, (Q6, (A6, a6)))) (⟨Nat.zero_le _, hk6, by rw [List.drop_zero]; exact hRd⟩) ?_ rfl ?_
 · (repeat (first | exact trivial | refine ⟨by rfl, ?_⟩))
 clear hRd hk1 hk2 hk3 hk4 hk5 hk6
 rintro ⟨j, Q, B, b2⟩ ⟨hj, hQk, hQR⟩
 dsimp only at hj hQk hQR ⊢
 refine go [3,3,4,0,7,0,8,2] ?_
 refine Ls.qE 101 (Ev.len rfl (by rfl) Tryz.underlying53) ?_
 refine go [16,0] ?_
 by_cases h3 : j < P.fs.length
 rotate_left
 · have hge2 : ns.length ≤ j := by rw [hns, List.length_map]; omega
   rw [List.drop_of_length_le hge2] at hQR
   have hRQ : R = Q := hQR
   refine Ent.known 103 false (by rfl) (by exact (decide_eq_false (show ¬ ((j : Int) < (P.fs.length : Int)) by omega))) ?_
   refine go [1,1,10,2,24] ?_
   refine Cd.exit ?_
   refine go [3,4,12,0,4,0,15,4,5,2] ?_
   rw [hRQ]
   refine Cd.ret ?_
   exact Ent.rA ((B, b2)) [1] trivial (Res.cell_tmp 4 (by rfl) (by rfl) (by rfl) (n := 4) (by kernel_rfl) (by rfl) (by rfl) (by rfl))
 refine Ent.known 103 true (by rfl) (by exact (decide_eq_true (show (j : Int) < (P.fs.length : Int) by omega))) ?_
 refine go [0,19,9,2] ?_
 by_cases hz : Q.2 = 0
 rotate_left
 · have hRQ : R = Q := hQR.trans (stepQ_stop hz _)
   refine Cd.cond_false (by rfl) (decide_eq_false hz) ?_
   refine Cd.exit ?_
   refine go [3,4,12,0,4,0,15,4,5,2] ?_
   rw [hRQ]
   refine Cd.ret ?_
   exact Ent.rA ((B, b2)) [1] trivial (Res.cell_tmp 4 (by rfl) (by rfl) (by rfl) (n := 4) (by kernel_rfl) (by rfl) (by rfl) (by rfl))
 refine Cd.cond_true (by rfl) (decide_eq_true hz) ?_
 obtain ⟨f, hf⟩ := get_of_lt h3
 have hfm := List.mem_of_getElem? hf
 have hfl := (hok.good f hfm).len
 have hx : ns[j]? = some f.nm := by rw [hns, List.getElem?_map, hf]; rfl
 have hdr : ns.drop j = f.nm :: ns.drop (j + 1) := by
  rw [List.drop_eq_getElem_cons (List.getElem?_eq_some_iff.1 hx).1]
  congr 1
  exact (List.getElem?_eq_some_iff.1 hx).2
 rw [hdr] at hQR
 refine Ent.rdSome 3 (by rfl) (by omega) (fun ad had => ?_)
 subst had
 refine go [6,3,21,3,4,7,0,8,2,0] ?_
 refine Ls.qE 112 (Ev.indexAt (sz := 3) rfl (by rfl) (by rfl) Tryz.underlying53 (by kernel_rfl) (by omega)) ?_
 refine Ls.qE 113 (Ev.fieldAddrE0 (k := 0) rfl (by rfl) (by kernel_rfl)) ?_
 refine Ls.qE 114 (Ev.loadElF rfl (by rfl) (ReadsIn.rd 3 (by rfl)) (by kernel_rfl) (by intro _; rfl) (by assumption) (by rfl)) ?_
 refine Ls.does (some 115) (Does.read rfl Tryz.func66 (by kernel_rfl) (by kernel_rfl) (rnum_sl kMan f.nm (by decide)) (by rfl) (by rfl) trivial) (by rfl) (by rfl) ?_
 rintro _ -
 refine go [18,2] ?_
 by_cases hn : numK kMan f.nm = 0
 · have hm : manN (f.nm :: ns.drop (j + 1)) = manN (ns.drop (j + 1)) := List.filter_cons_of_neg (by simp [hn])
   rw [hm] at hQR
   refine Cd.cond_false (by rfl) (decide_eq_false (show ¬ ((0 : Int) < (numK kMan f.nm : Int)) by omega)) ?_
   refine go [6,4,0] ?_
   refine Ls.qE 108 (Ev.addN (b := 1) rfl (by rfl) (by rfl) (by omega)) ?_
   refine go [5,2] ?_
   refine Ent.iA ((j + 1, (Q, (B, b2)))) ?_
   (try dsimp only); exact ⟨⟨h3, hQk, hQR⟩, by omega⟩
 · have hm : manN (f.nm :: ns.drop (j + 1)) = f.nm :: manN (ns.drop (j + 1)) := List.filter_cons_of_pos (by simp [hn])
   rw [hm, List.map_cons, List.foldl_cons, stepQ, if_pos hz] at hQR
   refine Cd.cond_true (by rfl) (decide_eq_true (show (0 : Int) < (numK kMan f.nm : Int) by omega)) ?_
   refine Cd.draw [11] (by kernel_rfl) ?_
   refine Rg.qE 0 118 (by rfl) (Ev.loads 0 rfl (by rfl) (by rfl) (n := 4) (by kernel_rfl) (by rfl) (by rfl)) ?_
   refine Rg.qE 1 119 (by rfl) (Ev.fieldAddr (k := 0) rfl (by rfl) (by kernel_rfl) (by rfl)) ?_
   refine Rg.qE 2 120 (by rfl) (Ev.load 2 rfl (by rfl) (by rfl) (by kernel_rfl) (by rfl)) ?_
   refine Rg.qE 3 121 (by rfl) (Ev.move rfl (by rfl)) ?_
   refine Rg.qE 4 122 (by rfl) (Ev.indexAt (sz := 3) rfl (by rfl) (by rfl) Tryz.underlying53 (by kernel_rfl) (by omega)) ?_
   refine Rg.qE 5 123 (by rfl) (Ev.fieldAddrE0 (k := 0) rfl (by rfl) (by kernel_rfl)) ?_
   refine Rg.qE 6 124 (by rfl) (Ev.loadElF rfl (by rfl) (ReadsIn.rd 3 (by rfl)) (by kernel_rfl) (by intro _; rfl) (by assumption) (by rfl)) ?_
   refine Rg.does 7 (by rfl) (by kernel_rfl) (Does.call [1, 0, 1, 2, 3, 4] rfl Tryz.func117 (by kernel_rfl) (by kernel_rfl) (ddelete_sl Q.1 hQk B b2 f.nm (by omega)) (by rfl) (by rfl) (by rfl)) (by rfl) (some 125) (by rfl) (fun _ _ h => h.tail_) ?_
   rintro ⟨B3, b3⟩ -
   dsimp only
   refine Rg.qE 8 117 (by rfl) (Ev.move rfl (by rfl)) ?_
   refine Rg.qE 9 126 (by rfl) (Ev.extract rfl (by rfl) (by rfl)) ?_
   refine Rg.pv 10 (by rfl) (fun _ h => h) (fun _ => Ev.extract rfl (by rfl) (by rfl)) (by rfl) (some 127) (by rfl) (by kernel_rfl) (by kernel_rfl) (by kernel_rfl) (by kernel_rfl) ?_
   refine Rg.tail 11 [] (by rfl) (by kernel_rfl) (Does.store 1 rfl (by rfl) (by rfl) (by rfl) (by kernel_rfl) (by rfl) (by kernel_rfl) (by rfl)) (by rfl) none (by rfl) (by kernel_rfl) (by kernel_rfl) ?_
   intro _ _
   refine Rg.qE 12 9 (by rfl) (Ev.assign rfl (by rfl)) ?_
   refine Rg.done (by kernel_rfl) ?_ _
   refine go [4,0] ?_
   refine Ls.qE 108 (Ev.addN (b := 1) rfl (by rfl) (by rfl) (by omega)) ?_
   refine go [5,2] ?_
   refine Ent.pick [1, 0, 3, 4, 5] (by rfl) ?_
   refine Ent.iA ((j + 1, (Q.1.delete f.nm, (B3, b3)))) ?_
   (try dsimp only); exact ⟨⟨h3, hQk.delete f.nm, hQR⟩, by omega⟩
set_option maxHeartbeats 8000000 in
theorem rchange_sl (P : DrP) (hok : P.Ok) (dA : Option Addr) (dc : Nat) (m : MfP) (hg : goodP m.v) (hn : m.num ≤ 1000000) (A : Option Addr) (c : Nat) (e : EdP) (he : EdIn e) (B E : Option Addr) (b d : Nat) : Fn Tryz.prog 27 #[.agg (P.val dA dc).toArray, .agg (m.val A c).toArray, .agg (e.val B b E d).toArray] [rdF dA P.fs, rdT A m.v.tbs, rdT B e.add, rd E e.drop.length 1 (ints e.drop)] ((Option Addr × Nat) × (Option Addr × Nat)) (fun p => .tuple #[.agg ((chgP P m e).1.val p.1.1 p.1.2).toArray, .agg ((chgP P m e).2.1.val p.2.1 p.2.2).toArray, .int .i64 (chgP P m e).2.2]) (fun p => [rdF p.1.1 (chgP P m e).1.fs, rdT p.2.1 (chgP P m e).2.1.v.tbs]) (fun _ => True) := by
 have hfew := good_few hg
 refine Fn.enter Tryz.func27 rfl Tryz.ntmps27 (by rfl) ?_
 intro w0
 refine go [3,4] ?_
 refine Ls.does (some 3) (Does.box rfl (by rfl)) (by rfl) (by rfl) ?_
 intro g1 _
 refine Ls.does (some 4) (Does.box rfl (by rfl)) (by rfl) (by rfl) ?_
 intro g2 _
 refine Ls.does (some 5) (Does.box rfl (by rfl)) (by rfl) (by rfl) ?_
 intro g3 _
 refine Ls.does (some 6) (Does.alloc (cs := [.slice none 0 0, .int .i64 0, .bool false, .int .i64 0]) rfl (ZeroIs.mk (.agg #[.slice none 0 0, .int .i64 0, .bool false, .int .i64 0]) (by kernel_rfl) (by rfl))) (by rfl) (by rfl) ?_
 intro g4 _
 refine Ls.does (some 7) (Does.alloc (cs := [.slice none 0 0, .int .i64 0, .int .i64 0, .int .i64 0, .int .i64 0, .bool false, .bool false]) rfl (ZeroIs.mk (.agg #[.slice none 0 0, .int .i64 0, .int .i64 0, .int .i64 0, .int .i64 0, .bool false, .bool false]) (by kernel_rfl) (by rfl))) (by rfl) (by rfl) ?_
 intro g5 _
 refine go [5,25,7,0,12,3,4,12,2,5] ?_
 by_cases hfit : FitOk m.v e
 rotate_left
 · have hch : chgP P m e = (P, m, 80) := by unfold chgP; rw [if_pos hfit]
   rw [hch]
   refine Ls.does (some 18) (Does.readN rfl Tryz.func10 (by kernel_rfl) (by kernel_rfl) (rfit_no hfit (by omega) (good_fine hg) A B E c b d he.add he.drl he.fine he.ints) (by rfl) (by rfl) ⟨ReadsIn.rd 6 (by rfl), ReadsIn.rd 7 (by rfl), ReadsIn.rd 8 (by rfl), trivial⟩ (fun _ => by rfl)) (by rfl) (by rfl) ?_
   rintro q -
   refine go [0,11,11] ?_
   refine Ls.does (some 9) (Does.alloc (cs := [.slice none 0 0, .int .i64 0, .int .i64 0, .int .i64 0]) rfl (ZeroIs.mk (.agg #[.slice none 0 0, .int .i64 0, .int .i64 0, .int .i64 0]) (by kernel_rfl) (by rfl))) (by rfl) (by rfl) ?_
   intro g6 _
   refine go [15,0,5,2,3,3] ?_
   refine Ent.pick [1, 2, 4, 5, 6, 7] (by rfl) ?_
   refine go [4,0,20,2,23,3] ?_
   refine Cd.drawS [2, 3] [3] (by kernel_rfl) ?_
   refine Rg.ev 0 (by rfl) (fun _ h => h.pick [2, 3] rfl) (Ev.loads 1 rfl (by rfl) (by rfl) (n := 4) (by kernel_rfl) (by rfl) (by rfl)) (by rfl) (some 23) (by rfl) (by kernel_rfl) (by kernel_rfl) (by kernel_rfl) (by kernel_rfl) ?_
   refine Rg.ev 1 (by rfl) (fun _ h => h.pick [2, 3] rfl) (Ev.loads 0 rfl (by rfl) (by rfl) (n := 7) (by kernel_rfl) (by rfl) (by rfl)) (by rfl) (some 24) (by rfl) (by kernel_rfl) (by kernel_rfl) (by kernel_rfl) (by kernel_rfl) ?_
   refine Rg.keep 2 (by rfl) (by kernel_rfl) (Does.store 1 rfl (by rfl) (by rfl) (by rfl) (by kernel_rfl) (by rfl) (by kernel_rfl) (by rfl)) (by rfl) none (by rfl) (fun _ _ h => by have h2 := h.pick [2, 3] (by rfl); exact h2) ?_
   intro _ _
   refine Rg.tail 3 [] (by rfl) (by kernel_rfl) (Does.store 0 rfl (by rfl) (by rfl) (by rfl) (by kernel_rfl) (by rfl) (by kernel_rfl) (by rfl)) (by rfl) none (by rfl) (by kernel_rfl) (by kernel_rfl) ?_
   intro _ _
   refine Rg.qE 4 8 (by rfl) (Ev.assign rfl (by rfl)) ?_
   refine Rg.done (by kernel_rfl) ?_ _
   refine Cd.ret ?_
   exact Ent.rA (((dA, dc), (A, c))) [4,5] trivial (Res.cell2_tmp 1 0 (by rfl) (by rfl) (by rfl) (by rfl) (by rfl) (n := 4) (n' := 7) (by kernel_rfl) (by kernel_rfl) (by rfl) (by rfl) (by rfl) (by rfl) (by rfl))
 have hen := he.enc hfit
 refine Ls.does (some 18) (Does.readN rfl Tryz.func10 (by kernel_rfl) (by kernel_rfl) (rfit_yes hfit A B E c b d he.add he.drl he.fine he.ints) (by rfl) (by rfl) ⟨ReadsIn.rd 6 (by rfl), ReadsIn.rd 7 (by rfl), ReadsIn.rd 8 (by rfl), trivial⟩ (fun _ => by rfl)) (by rfl) (by rfl) ?_
 rintro ⟨nA, nc⟩ -
 refine go [0,11,11] ?_
 refine Ls.does (some 9) (Does.alloc (cs := [.slice none 0 0, .int .i64 0, .int .i64 0, .int .i64 0]) rfl (ZeroIs.mk (.agg #[.slice none 0 0, .int .i64 0, .int .i64 0, .int .i64 0]) (by kernel_rfl) (by rfl))) (by rfl) (by rfl) ?_
 intro g6 _
 refine go [15,0,5,2,3,3] ?_
 refine Ent.pick [2, 3, 6, 5, 0, 1, 4, 7, 8, 9, 10] (by rfl) ?_
 refine Ent.see 5 (by rfl) ?_
 have hch0 : chgP P m e = if 4096 < (edB e).length then (P, m, 3) else if 999999 < m.num then (P, m, 5) else if m.dead = true then (P, m, 6) else (if (if m.made = true then runP [fun P => P.append (nameK kMan m.num) (sealL (edB e)), fun P => P.sync (nameK kMan m.num)] P else runP (swapL P (nameK kMan m.num) (snapB (outP m.v e))) P).2 ≠ 0 then ((if m.made = true then runP [fun P => P.append (nameK kMan m.num) (sealL (edB e)), fun P => P.sync (nameK kMan m.num)] P else runP (swapL P (nameK kMan m.num) (snapB (outP m.v e))) P).1, { m with dead := true }, 6) else ((if m.made = true then runP [fun P => P.append (nameK kMan m.num) (sealL (edB e)), fun P => P.sync (nameK kMan m.num)] P else runP (swapL P (nameK kMan m.num) (snapB (outP m.v e))) P).1, { m with made := true, v := outP m.v e }, 0)) := by
  unfold chgP
  rw [if_neg (fun k => k hfit)]
 have hwg := hfit.out
 generalize chgP P m e = R at hch0 ⊢
 refine Ent.norm ([(3, ptrW g1), (4, ptrW g2), (5, ptrW g3), (6, ptrW g4), (7, ptrW g5), (8, .int .i64 0), (9, ptrW g6), (10, .bool true)]) ([blk g5 59 [.slice none 0 0, .int .i64 0, .int .i64 0, .int .i64 0, .int .i64 0, .bool false, .bool false], blk g4 55 zDr, blk g1 55 (P.val dA dc), blk g2 59 (m.val A c), blk g6 24 ((outP m.v e).val nA nc), rdT nA (outP m.v e).tbs, blk g3 27 (e.val B b E d), rdF dA P.fs, rdT A m.v.tbs, rdT B e.add, rd E e.drop.length 1 (ints e.drop)]) (by repeat (first | exact trivial | refine ⟨by rfl, ?_⟩ | refine ⟨by simp only [List.length_append, List.length_cons, List.length_nil]; rfl, ?_⟩ | refine ⟨by push_cast; rfl, ?_⟩)) (by rfl) ?_
 generalize outP m.v e = w2 at hch0 hwg ⊢
 refine go [4,0,20,2,24,6,3,4,12,6,5] ?_
 by_cases hlong : 4096 < (edB e).length
 · rw [if_pos hlong] at hch0
   subst hch0
   refine Ls.does (some 27) (Does.readN rfl Tryz.func70 (by kernel_rfl) (by kernel_rfl) (rencode_no hen hlong B E b d) (by rfl) (by rfl) ⟨ReadsIn.rd 9 (by rfl), ReadsIn.rd 10 (by rfl), trivial⟩ (fun _ => by rfl)) (by rfl) (by rfl) ?_
   rintro _ -
   refine go [0,11,11,5,5,2,3,3,4,0,17,2] ?_
   refine Cd.cond_true (by rfl) (decide_eq_true (by decide)) ?_
   refine Cd.seq ?_
   refine Cd.drawS [2, 3] [4] (by kernel_rfl) ?_
   refine Rg.ev 0 (by rfl) (fun _ h => h.pick [2, 3] rfl) (Ev.loads 0 rfl (by rfl) (by rfl) (n := 4) (by kernel_rfl) (by rfl) (by rfl)) (by rfl) (some 32) (by rfl) (by kernel_rfl) (by kernel_rfl) (by kernel_rfl) (by kernel_rfl) ?_
   refine Rg.ev 1 (by rfl) (fun _ h => h.pick [2, 3] rfl) (Ev.loads 1 rfl (by rfl) (by rfl) (n := 7) (by kernel_rfl) (by rfl) (by rfl)) (by rfl) (some 33) (by rfl) (by kernel_rfl) (by kernel_rfl) (by kernel_rfl) (by kernel_rfl) ?_
   refine Rg.mv 2 (by rfl) (fun _ h => h.pick [2, 3] rfl) rfl (by rfl) (by rfl) (some 34) (by rfl) (by kernel_rfl) (by kernel_rfl) (by kernel_rfl) (by kernel_rfl) ?_
   refine Rg.keep 3 (by rfl) (by kernel_rfl) (Does.store 1 rfl (by rfl) (by rfl) (by rfl) (by kernel_rfl) (by rfl) (by kernel_rfl) (by rfl)) (by rfl) none (by rfl) (fun _ _ h => by have h2 := h.pick [2, 3] (by rfl); exact h2) ?_
   intro _ _
   refine Rg.tail 4 [] (by rfl) (by kernel_rfl) (Does.store 0 rfl (by rfl) (by rfl) (by rfl) (by kernel_rfl) (by rfl) (by kernel_rfl) (by rfl)) (by rfl) none (by rfl) (by kernel_rfl) (by kernel_rfl) ?_
   intro _ _
   refine Rg.qE 5 8 (by rfl) (Ev.assign rfl (by rfl)) ?_
   refine Rg.done (by kernel_rfl) ?_ _
   refine Cd.ret ?_
   exact Ent.rA (((dA, dc), (A, c))) [7,8] trivial (Res.cell2_tmp 1 0 (by rfl) (by rfl) (by rfl) (by rfl) (by rfl) (n := 4) (n' := 7) (by kernel_rfl) (by kernel_rfl) (by rfl) (by rfl) (by rfl) (by rfl) (by rfl))
 rw [if_neg hlong] at hch0
 refine Ls.does (some 27) (Does.readN rfl Tryz.func70 (by kernel_rfl) (by kernel_rfl) (rencode_yes hen (by omega) B E b d) (by rfl) (by rfl) ⟨ReadsIn.rd 9 (by rfl), ReadsIn.rd 10 (by rfl), trivial⟩ (fun _ => by rfl)) (by rfl) (by rfl) ?_
 rintro ⟨bA, bc⟩ -
 refine go [0,11,11,5,5,2,3,3] ?_
 refine Ent.pick [1, 2, 3, 4, 5, 6, 8, 9, 0] (by rfl) ?_
 refine go [4,0,17,2] ?_
 refine Cd.cond_false (by rfl) (decide_eq_false (by decide)) ?_
 refine go [6,3,3,4,7,4,8,3,18,2] ?_
 by_cases hfull : 999999 < m.num
 · rw [if_pos hfull] at hch0
   subst hch0
   refine Cd.cond_true (by rfl) (decide_eq_true (show (999999 : Int) < (m.num : Int) by omega)) ?_
   refine Cd.seq ?_
   refine Cd.drawS [2, 3] [3] (by kernel_rfl) ?_
   refine Rg.ev 0 (by rfl) (fun _ h => h.pick [2, 3] rfl) (Ev.loads 0 rfl (by rfl) (by rfl) (n := 4) (by kernel_rfl) (by rfl) (by rfl)) (by rfl) (some 38) (by rfl) (by kernel_rfl) (by kernel_rfl) (by kernel_rfl) (by kernel_rfl) ?_
   refine Rg.ev 1 (by rfl) (fun _ h => h.pick [2, 3] rfl) (Ev.loads 1 rfl (by rfl) (by rfl) (n := 7) (by kernel_rfl) (by rfl) (by rfl)) (by rfl) (some 39) (by rfl) (by kernel_rfl) (by kernel_rfl) (by kernel_rfl) (by kernel_rfl) ?_
   refine Rg.keep 2 (by rfl) (by kernel_rfl) (Does.store 1 rfl (by rfl) (by rfl) (by rfl) (by kernel_rfl) (by rfl) (by kernel_rfl) (by rfl)) (by rfl) none (by rfl) (fun _ _ h => by have h2 := h.pick [2, 3] (by rfl); exact h2) ?_
   intro _ _
   refine Rg.tail 3 [] (by rfl) (by kernel_rfl) (Does.store 0 rfl (by rfl) (by rfl) (by rfl) (by kernel_rfl) (by rfl) (by kernel_rfl) (by rfl)) (by rfl) none (by rfl) (by kernel_rfl) (by kernel_rfl) ?_
   intro _ _
   refine Rg.qE 4 8 (by rfl) (Ev.assign rfl (by rfl)) ?_
   refine Rg.done (by kernel_rfl) ?_ _
   refine Cd.ret ?_
   exact Ent.rA (((dA, dc), (A, c))) [6,7] trivial (Res.cell2_tmp 1 0 (by rfl) (by rfl) (by rfl) (by rfl) (by rfl) (n := 4) (n' := 7) (by kernel_rfl) (by kernel_rfl) (by rfl) (by rfl) (by rfl) (by rfl) (by rfl))
 rw [if_neg hfull] at hch0
 refine Cd.cond_false (by rfl) (decide_eq_false (show ¬ ((999999 : Int) < (m.num : Int)) by omega)) ?_
 refine go [6,3,3,4,7,6,8,3,2] ?_
 by_cases hdead : m.dead = true
 · rw [if_pos hdead] at hch0
   subst hch0
   refine Cd.cond_true (by rfl) (hdead) ?_
   refine Cd.seq ?_
   refine Cd.drawS [2, 3] [3] (by kernel_rfl) ?_
   refine Rg.ev 0 (by rfl) (fun _ h => h.pick [2, 3] rfl) (Ev.loads 0 rfl (by rfl) (by rfl) (n := 4) (by kernel_rfl) (by rfl) (by rfl)) (by rfl) (some 42) (by rfl) (by kernel_rfl) (by kernel_rfl) (by kernel_rfl) (by kernel_rfl) ?_
   refine Rg.ev 1 (by rfl) (fun _ h => h.pick [2, 3] rfl) (Ev.loads 1 rfl (by rfl) (by rfl) (n := 7) (by kernel_rfl) (by rfl) (by rfl)) (by rfl) (some 43) (by rfl) (by kernel_rfl) (by kernel_rfl) (by kernel_rfl) (by kernel_rfl) ?_
   refine Rg.keep 2 (by rfl) (by kernel_rfl) (Does.store 1 rfl (by rfl) (by rfl) (by rfl) (by kernel_rfl) (by rfl) (by kernel_rfl) (by rfl)) (by rfl) none (by rfl) (fun _ _ h => by have h2 := h.pick [2, 3] (by rfl); exact h2) ?_
   intro _ _
   refine Rg.tail 3 [] (by rfl) (by kernel_rfl) (Does.store 0 rfl (by rfl) (by rfl) (by rfl) (by kernel_rfl) (by rfl) (by kernel_rfl) (by rfl)) (by rfl) none (by rfl) (by kernel_rfl) (by kernel_rfl) ?_
   intro _ _
   refine Rg.qE 4 8 (by rfl) (Ev.assign rfl (by rfl)) ?_
   refine Rg.done (by kernel_rfl) ?_ _
   refine Cd.ret ?_
   exact Ent.rA (((dA, dc), (A, c))) [6,7] trivial (Res.cell2_tmp 1 0 (by rfl) (by rfl) (by rfl) (by rfl) (by rfl) (n := 4) (n' := 7) (by kernel_rfl) (by kernel_rfl) (by rfl) (by rfl) (by rfl) (by rfl) (by rfl))
 rw [if_neg hdead] at hch0
 refine Cd.cond_false (by rfl) ((by simpa using hdead)) ?_
 refine go [6,3,4,7,4,8,3] ?_
 refine Ls.does (some 46) (Does.read rfl Tryz.func18 (by kernel_rfl) (by kernel_rfl) (rnm_sl kMan m.num (by decide) (by omega)) (by rfl) (by rfl) trivial) (by rfl) (by rfl) ?_
 rintro _ -
 refine go [5,2,3,3,4,7,5,8,3,2] ?_
 obtain ⟨lg, hlg⟩ : ∃ lg, lg = nameK kMan m.num := ⟨_, rfl⟩
 have hlog : Good lg := hlg ▸ kMan_good m.num
 have hll : lg.length ≤ 1048576 := by have := hlog.len; omega
 rw [← hlg] at hch0 ⊢
 generalize hr0 : (if m.made = true then runP [fun P => P.append lg (sealL (edB e)), fun P => P.sync lg] P else runP (swapL P lg (snapB w2)) P) = r at hch0
 have hsx := sealL_le (l := edB e) (by omega)
 refine Cd.cut (ι := Option Addr × Nat) (fun q => [(3, ptrW g1), (4, ptrW g2), (6, ptrW g4), (7, ptrW g5), (9, ptrW g6), (12, .int .i64 r.2)]) (fun q => [blk g5 59 [.slice none 0 0, .int .i64 0, .int .i64 0, .int .i64 0, .int .i64 0, .bool false, .bool false], blk g4 55 zDr, blk g1 55 (r.1.val q.1 q.2), blk g2 59 (m.val A c), blk g6 24 (w2.val nA nc), rdT nA w2.tbs, rdF q.1 r.1.fs, rdT A m.v.tbs]) (fun _ => True) ?_ ?_
 · by_cases hmd : m.made = true
   · rw [if_pos hmd, ← runP_fold, List.foldl_cons, List.foldl_cons, List.foldl_nil] at hr0
     obtain ⟨Q1, hQ1⟩ : ∃ Q1, Q1 = P.append lg (sealL (edB e)) := ⟨_, rfl⟩
     have hQk : Q1.1.Ok := hQ1 ▸ hok.append lg (sealL (edB e))
     have hr1 : stepQ Q1 (fun P => P.sync lg) = r := by
      rw [← hr0, hQ1]
      rfl
     have cap := dappend_sl P hok dA dc lg (sealL (edB e)) hll (by omega)
     rw [← hQ1] at cap
     refine Cd.cond_true (by rfl) (hmd) ?_
     refine Cd.seq ?_
     refine Cd.draw [9] (by kernel_rfl) ?_
     refine Rg.qE 0 50 (by rfl) (Ev.loads 2 rfl (by rfl) (by rfl) (n := 4) (by kernel_rfl) (by rfl) (by rfl)) ?_
     refine Rg.qE 1 51 (by rfl) (Ev.move rfl (by rfl)) ?_
     refine Rg.qE 2 52 (by rfl) (Ev.move rfl (by rfl)) ?_
     refine Rg.does 3 (by rfl) (by kernel_rfl) (Does.readN rfl Tryz.func72 (by kernel_rfl) (by kernel_rfl) (rseal_sl bA bc (edB e) (by omega)) (by rfl) (by rfl) ⟨ReadsIn.row 8 (by rfl), trivial⟩ (fun _ => by rfl)) (by rfl) (some 53) (by rfl) (fun _ _ h => h.tail_) ?_
     rintro ⟨sA, sc⟩ -
     refine Rg.qE 4 54 (by rfl) (Ev.textOf (l := sealL (edB e)) rfl (by rfl) (ReadsIn.row 0 (by rfl)) Tryz.underlying47 Tryz.underlying5 Tryz.underlying9) ?_
     refine Rg.does 5 (by rfl) (by kernel_rfl) (Does.call [7, 0, 1, 2, 3, 4, 5, 6, 7, 8, 9] rfl Tryz.func71 (by kernel_rfl) (by kernel_rfl) (cap) (by rfl) (by rfl) (by rfl)) (by rfl) (some 55) (by rfl) (fun _ _ h => h.tail_) ?_
     rintro ⟨A1, a1⟩ -
     dsimp only
     refine Rg.qE 6 49 (by rfl) (Ev.move rfl (by rfl)) ?_
     refine Rg.qE 7 56 (by rfl) (Ev.extract rfl (by rfl) (by rfl)) ?_
     refine Rg.pv 8 (by rfl) (fun _ h => h) (fun _ => Ev.extract rfl (by rfl) (by rfl)) (by rfl) (some 57) (by rfl) (by kernel_rfl) (by kernel_rfl) (by kernel_rfl) (by kernel_rfl) ?_
     refine Rg.tail 9 [] (by rfl) (by kernel_rfl) (Does.store 4 rfl (by rfl) (by rfl) (by rfl) (by kernel_rfl) (by rfl) (by kernel_rfl) (by rfl)) (by rfl) none (by rfl) (by kernel_rfl) (by kernel_rfl) ?_
     intro _ _
     refine Rg.qE 10 12 (by rfl) (Ev.assign rfl (by rfl)) ?_
     refine Rg.done (by kernel_rfl) ?_ _
     refine Cd.seq ?_
     refine Ent.pick [2, 3, 4, 5, 6, 7, 0, 9] (by rfl) ?_
     refine go [4,0,19,2] ?_
     by_cases hz1 : Q1.2 = 0
     · have e1 : Q1.1.sync lg = r := (if_pos hz1).symm.trans hr1
       have csy := dsync_sl Q1.1 hQk A1 a1 lg hll
       rw [e1] at csy
       refine Cd.cond_true (by rfl) (decide_eq_true hz1) ?_
       refine go [4,12,2,4,0] ?_
       refine Ls.does (some 63) (Does.call [6, 0, 1, 2, 3, 4, 5, 7] rfl Tryz.func73 (by kernel_rfl) (by kernel_rfl) (csy) (by rfl) (by rfl) (by rfl)) (by rfl) (by rfl) ?_
       rintro ⟨A2, a2⟩ -
       dsimp only
       refine go [0,11,11,15,3,5,2] ?_
       refine Ent.pick [1, 2, 3, 4, 5, 6, 0, 7] (by rfl) ?_
       exact Ent.iA ((A2, a2)) trivial
     · have e1 : Q1 = r := (if_neg hz1).symm.trans hr1
       rw [← e1]
       refine Cd.cond_false (by rfl) (decide_eq_false hz1) ?_
       refine Cd.skip ?_
       exact Ent.iA ((A1, a1)) trivial
   · rw [if_neg hmd] at hr0
     have csw := rswap_sl P hok dA dc lg hlog w2 hwg nA nc
     rw [hr0] at csw
     refine Cd.cond_false (by rfl) ((by simpa using hmd)) ?_
     refine go [4,12,2,4,0,12,4,4] ?_
     refine Ls.does (some 70) (Does.call [6, 5, 0, 1, 2, 3, 4, 5, 7] rfl Tryz.func74 (by kernel_rfl) (by kernel_rfl) (csw) (by rfl) (by rfl) (by rfl)) (by rfl) (by rfl) ?_
     rintro ⟨A2, a2⟩ -
     dsimp only
     refine go [0,11,11,15,3,5,2] ?_
     refine Ent.pick [1, 2, 3, 4, 5, 6, 0, 7] (by rfl) ?_
     exact Ent.iA ((A2, a2)) trivial
 rintro ⟨A1, a1⟩ -
 dsimp only
 clear hr0
 refine go [3,3,4,0,17,2] ?_
 by_cases hz : r.2 = 0
 · rw [if_neg (fun k => k hz)] at hch0
   subst hch0
   refine Cd.cond_false (by rfl) (decide_eq_false (show ¬ (r.2 ≠ 0) from fun k => k hz)) ?_
   refine go [6,3,4,7,5,15,3,25,12,4,4,7,0,15,3,2,3] ?_
   refine Cd.drawS [2, 3] [3] (by kernel_rfl) ?_
   refine Rg.ev 0 (by rfl) (fun _ h => h.pick [2, 3] rfl) (Ev.loads 0 rfl (by rfl) (by rfl) (n := 4) (by kernel_rfl) (by rfl) (by rfl)) (by rfl) (some 81) (by rfl) (by kernel_rfl) (by kernel_rfl) (by kernel_rfl) (by kernel_rfl) ?_
   refine Rg.ev 1 (by rfl) (fun _ h => h.pick [2, 3] rfl) (Ev.loads 1 rfl (by rfl) (by rfl) (n := 7) (by kernel_rfl) (by rfl) (by rfl)) (by rfl) (some 82) (by rfl) (by kernel_rfl) (by kernel_rfl) (by kernel_rfl) (by kernel_rfl) ?_
   refine Rg.keep 2 (by rfl) (by kernel_rfl) (Does.store 1 rfl (by rfl) (by rfl) (by rfl) (by kernel_rfl) (by rfl) (by kernel_rfl) (by rfl)) (by rfl) none (by rfl) (fun _ _ h => by have h2 := h.pick [2, 3] (by rfl); exact h2) ?_
   intro _ _
   refine Rg.tail 3 [] (by rfl) (by kernel_rfl) (Does.store 0 rfl (by rfl) (by rfl) (by rfl) (by kernel_rfl) (by rfl) (by kernel_rfl) (by rfl)) (by rfl) none (by rfl) (by kernel_rfl) (by kernel_rfl) ?_
   intro _ _
   refine Rg.qE 4 8 (by rfl) (Ev.assign rfl (by rfl)) ?_
   refine Rg.done (by kernel_rfl) ?_ _
   refine Cd.ret ?_
   exact Ent.rA (((A1, a1), (nA, nc))) [6,5] trivial (Res.cell2_tmp 1 0 (by rfl) (by rfl) (by rfl) (by rfl) (by rfl) (n := 4) (n' := 7) (by kernel_rfl) (by kernel_rfl) (by rfl) (by rfl) (by rfl) (by rfl) (by rfl))
 · rw [if_pos hz] at hch0
   subst hch0
   refine Cd.cond_true (by rfl) (decide_eq_true hz) ?_
   refine go [3,4,7,6,15,3,2,3] ?_
   refine Cd.drawS [2, 3] [3] (by kernel_rfl) ?_
   refine Rg.ev 0 (by rfl) (fun _ h => h.pick [2, 3] rfl) (Ev.loads 0 rfl (by rfl) (by rfl) (n := 4) (by kernel_rfl) (by rfl) (by rfl)) (by rfl) (some 76) (by rfl) (by kernel_rfl) (by kernel_rfl) (by kernel_rfl) (by kernel_rfl) ?_
   refine Rg.ev 1 (by rfl) (fun _ h => h.pick [2, 3] rfl) (Ev.loads 1 rfl (by rfl) (by rfl) (n := 7) (by kernel_rfl) (by rfl) (by rfl)) (by rfl) (some 77) (by rfl) (by kernel_rfl) (by kernel_rfl) (by kernel_rfl) (by kernel_rfl) ?_
   refine Rg.keep 2 (by rfl) (by kernel_rfl) (Does.store 1 rfl (by rfl) (by rfl) (by rfl) (by kernel_rfl) (by rfl) (by kernel_rfl) (by rfl)) (by rfl) none (by rfl) (fun _ _ h => by have h2 := h.pick [2, 3] (by rfl); exact h2) ?_
   intro _ _
   refine Rg.tail 3 [] (by rfl) (by kernel_rfl) (Does.store 0 rfl (by rfl) (by rfl) (by rfl) (by kernel_rfl) (by rfl) (by kernel_rfl) (by rfl)) (by rfl) none (by rfl) (by kernel_rfl) (by kernel_rfl) ?_
   intro _ _
   refine Rg.qE 4 8 (by rfl) (Ev.assign rfl (by rfl)) ?_
   refine Rg.done (by kernel_rfl) ?_ _
   refine Cd.ret ?_
   exact Ent.rA (((A1, a1), (A, c))) [6,7] trivial (Res.cell2_tmp 1 0 (by rfl) (by rfl) (by rfl) (by rfl) (by rfl) (n := 4) (n' := 7) (by kernel_rfl) (by kernel_rfl) (by rfl) (by rfl) (by rfl) (by rfl) (by rfl))
theorem own_no {P : DrP} {m : MfP} {e : EdP} (h : ¬ FitOk m.v e) : chgP P m e = (P, m, 80) := by
 unfold chgP
 rw [if_pos h]
theorem own_yes {P : DrP} {m : MfP} {e : EdP} (h : FitOk m.v e) (hg : goodP m.v) : goodP (chgP P m e).2.1.v ∧ ((chgP P m e).2.2 = 0 → (chgP P m e).2.1.v = outP m.v e) := by
 unfold chgP
 rw [if_neg (fun k => k h)]
 split
 · exact ⟨hg, fun h => absurd (show (3 : Int) = 0 from h) (by decide)⟩
 · split
   · exact ⟨hg, fun h => absurd (show (5 : Int) = 0 from h) (by decide)⟩
   · split
     · exact ⟨hg, fun h => absurd (show (6 : Int) = 0 from h) (by decide)⟩
     · dsimp only
       generalize (if m.made = true then runP [fun P => P.append (nameK kMan m.num) (sealL (edB e)), fun P => P.sync (nameK kMan m.num)] P else runP (swapL P (nameK kMan m.num) (snapB (outP m.v e))) P) = r
       split
       · exact ⟨hg, fun h => absurd (show (6 : Int) = 0 from h) (by decide)⟩
       · exact ⟨h.out, fun _ => rfl⟩
structure ActX where
 kind : Int
 e : EdP
 B : Option Addr
 b : Nat
 E : Option Addr
 d : Nat
 n : Int
 ks : List Int
 K : Option Addr
 kc : Nat
 deriving Inhabited
theorem open_good (P : DrP) : goodP (openP P).v ∧ (openP P).num ≤ 1000000 := ⟨repP_good firstV_good, (topN_le (by decide)).1⟩
theorem chg_good {P : DrP} {m : MfP} {e : EdP} (hg : goodP m.v) (hn : m.num ≤ 1000000) : goodP (chgP P m e).2.1.v ∧ (chgP P m e).2.1.num ≤ 1000000 := by
 refine ⟨?_, ?_⟩
 · by_cases hf : FitOk m.v e
   · exact (own_yes hf hg).1
   · rw [own_no hf]
     exact hg
 · unfold chgP
   split
   · exact hn
   · split
     · exact hn
     · split
       · exact hn
       · split
         · exact hn
         · dsimp only
           generalize (if m.made = true then runP [fun P => P.append (nameK kMan m.num) (sealL (edB e)), fun P => P.sync (nameK kMan m.num)] P else runP (swapL P (nameK kMan m.num) (snapB (outP m.v e))) P) = r
           split <;> exact hn
structure PlS where
 D : DrS
 P : DrP
 m : MfP
 g : Nat
 A : Option Addr
 c : Nat
 dA : Option Addr
 dc : Nat
 A2 : Option Addr
 c2 : Nat
abbrev zMf : List Value := [.slice none 0 0, .int .i64 0, .int .i64 0, .int .i64 0, .int .i64 0, .bool false, .bool false]
def loadP (ns bs : List (List UInt8)) : DrP := (ns.zip bs).foldl (fun P x => P.put ⟨x.1, x.2, x.2.length⟩) DrP.new
structure LoadOk (ns bs : List (List UInt8)) : Prop where
 len : bs.length = ns.length
 nodup : ns.Nodup
 good : ∀ q ∈ ns, Good q
 most : ns.length ≤ 256
 size : ∀ b ∈ bs, b.length ≤ 262144
theorem put_mem_nm {α : Type} {nm : α → List UInt8} {f x : α} {l : List α} (h : x ∈ putG nm f l) : nm x = nm f ∨ x ∈ l := (putG_mem h).imp (fun e => by rw [e]) id
theorem loadP_snoc {ns bs : List (List UInt8)} {k : Nat} {q b : List UInt8} (hq : ns[k]? = some q) (hb : bs[k]? = some b) : loadP (ns.take (k + 1)) (bs.take (k + 1)) = (loadP (ns.take k) (bs.take k)).put ⟨q, b, b.length⟩ := by
 unfold loadP
 rw [List.take_add_one, List.take_add_one, hq, hb]
 show ((_ ++ [q]).zip (_ ++ [b])).foldl _ _ = _
 have h1 := (List.getElem?_eq_some_iff.1 hq).1
 have h2 := (List.getElem?_eq_some_iff.1 hb).1
 rw [List.zip_append (by rw [List.length_take, List.length_take]; omega), List.foldl_append]
 rfl
theorem loadP_inv {ns bs : List (List UInt8)} (h : LoadOk ns bs) : ∀ k, k ≤ ns.length → (loadP (ns.take k) (bs.take k)).Ok ∧ (loadP (ns.take k) (bs.take k)).fs.length ≤ k ∧ (loadP (ns.take k) (bs.take k)).steps = 0 ∧ (loadP (ns.take k) (bs.take k)).left = none ∧ ∀ f ∈ (loadP (ns.take k) (bs.take k)).fs, f.nm ∈ ns.take k
 | 0, _ => ⟨DrP.new_ok, Nat.le_refl _, rfl, rfl, fun _ h => by simp [loadP, DrP.new] at h⟩
 | k + 1, hk => by
  obtain ⟨h1, h2, h3, h4, h5⟩ := loadP_inv h k (by omega)
  obtain ⟨q, hq⟩ := get_of_lt (show k < ns.length by omega)
  obtain ⟨b, hb⟩ := get_of_lt (show k < bs.length by have := h.len; omega)
  rw [loadP_snoc hq hb]
  have hm := h.most
  refine ⟨h1.put (h.good q (List.mem_of_getElem? hq)) (h.size b (List.mem_of_getElem? hb)) (Nat.le_refl _) (.inr (by omega)), ?_, h3, h4, fun f hf => ?_⟩
  · have := putG_len (nm := FiP.nm) (f := ⟨q, b, b.length⟩) (l := (loadP (ns.take k) (bs.take k)).fs)
    show (putG _ _ _).length ≤ _
    omega
  · rw [List.take_add_one, hq]
    rcases put_mem_nm (nm := FiP.nm) hf with e | hf
    · rw [e]
      simp
    · exact List.mem_append_left _ (h5 f hf)
theorem loadP_new {ns bs : List (List UInt8)} (h : LoadOk ns bs) {k : Nat} {q : List UInt8} (hq : ns[k]? = some q) : (loadP (ns.take k) (bs.take k)).find q = none := findG_none_of fun f hf e => by
 have hk := (List.getElem?_eq_some_iff.1 hq).1
 have h5 := (loadP_inv h k (by omega)).2.2.2.2 f hf
 have hn := h.nodup
 rw [← List.take_append_drop k ns, List.nodup_append] at hn
 refine hn.2.2 q (e ▸ h5) q ?_ rfl
 rw [List.drop_eq_getElem_cons hk]
 rw [List.getElem?_eq_getElem hk] at hq
 rw [← Option.some.inj hq]
 exact List.mem_cons_self
set_option maxHeartbeats 1000000 in
theorem dload_sl (nA bA : Option Addr) (nc bc : Nat) (ns : List (List UInt8)) (S : List ByS) (h : LoadOk ns (S.map ByS.l)) : Fn Tryz.prog 20 #[.slice nA ns.length nc, .slice bA S.length bc] [rd nA ns.length 1 (txts ns), rdV bA S, payR S] (Option Addr × Nat) (fun p => .tuple #[.agg ((loadP ns (S.map ByS.l)).val p.1 p.2).toArray, .int .i64 0]) (fun p => [rdF p.1 (loadP ns (S.map ByS.l)).fs]) (fun _ => True) := by
 have hlen := h.len
 rw [List.length_map] at hlen
 have hm := h.most
 refine Fn.enter Tryz.func20 rfl Tryz.ntmps20 (by rfl) ?_
 intro w0
 refine go [3,4] ?_
 refine Ls.does (some 4) (Does.alloc (cs := [.slice none 0 0, .int .i64 0, .bool false, .int .i64 0]) rfl (ZeroIs.mk (.agg #[.slice none 0 0, .int .i64 0, .bool false, .int .i64 0]) (by kernel_rfl) (by rfl))) (by rfl) (by rfl) ?_
 intro g1 _
 refine go [5,2,3,3,4,0] ?_
 refine Ls.qE 10 (Ev.len rfl (by rfl) Tryz.underlying49) ?_
 refine Ls.qM 11 ?_
 refine Ls.qE 12 (Ev.len rfl (by rfl) Tryz.underlying48) ?_
 refine go [17,2] ?_
 refine Cd.cond_false (by rfl) (decide_eq_false (show ¬ ((ns.length : Int) ≠ (S.length : Int)) by omega)) ?_
 refine go [6,3,4] ?_
 refine Ls.qE 15 (Ev.buildP (pl := [(0, 1), (1, 1), (2, 1), (3, 1)]) (zs := [.slice none 0 0, .int .i64 0, .bool false, .int .i64 0]) rfl (by rfl) (by kernel_rfl) (by rfl)) ?_
 refine Ls.does (some 6) (Does.alloc (cs := [.slice none 0 0, .int .i64 0, .bool false, .int .i64 0]) rfl (ZeroIs.mk (.agg #[.slice none 0 0, .int .i64 0, .bool false, .int .i64 0]) (by kernel_rfl) (by rfl))) (by rfl) (by rfl) ?_
 intro g2 _
 refine go [15,0,25,5,2,3,3,4,5,2,21] ?_
 refine Ent.nil 116 3 ?_
 refine Ent.see 0 (by rfl) ?_
 refine Cd.loop (ι := Nat × (Option Addr × Nat)) (fun p => [(0, .slice nA ns.length nc), (1, .slice bA S.length bc), (4, ptrW g1), (6, ptrW g2), (7, .int .i64 0), (8, .int .i64 p.1)]) (fun p => [rdF p.2.1 (loadP (ns.take p.1) ((S.map ByS.l).take p.1)).fs, blk g2 55 ((loadP (ns.take p.1) ((S.map ByS.l).take p.1)).val p.2.1 p.2.2), blk g1 55 [.slice none 0 0, .int .i64 0, .bool false, .int .i64 0], rd nA ns.length 1 (txts ns), rdV bA S, payR S]) (fun p => p.1 ≤ ns.length) (fun p => ns.length - p.1) ((0, (none, 0))) (Nat.zero_le _) ?_ rfl ?_
 · (repeat (first | exact trivial | refine ⟨by rfl, ?_⟩))
 rintro ⟨k, A, c⟩ hk
 dsimp only at hk ⊢
 obtain ⟨hok, hfl, hst, hle, -⟩ := loadP_inv h k hk
 refine go [3,3,4,0,0] ?_
 refine Ls.qE 18 (Ev.len rfl (by rfl) Tryz.underlying49) ?_
 refine go [16,2] ?_
 refine Cd.cond _ (by rfl) (fun h2 => ?_) (fun h2 => ?_)
 · have hlt : k < ns.length := by have := of_decide_eq_true h2; omega
   obtain ⟨q, hq⟩ := get_of_lt hlt
   obtain ⟨s, hs⟩ := get_of_lt (show k < S.length by omega)
   have hqt : (ns.map txt)[k]? = some (txt q) := by rw [List.getElem?_map, hq]; rfl
   have hsl : (S.map ByS.l)[k]? = some s.l := by rw [List.getElem?_map, hs]; rfl
   have hgq := h.good q (List.mem_of_getElem? hq)
   have hsz := h.size s.l (List.mem_of_getElem? hsl)
   have hnew := loadP_new h hq
   have hsn := loadP_snoc hq hsl
   generalize loadP (ns.take k) ((S.map ByS.l).take k) = Q at hok hfl hst hle hnew hsn ⊢
   refine Ent.rdSome 3 (by rfl) (by omega) (fun nd hnd => ?_)
   subst hnd
   refine Ent.rdSome 4 (by rfl) (by omega) (fun bd hbd => ?_)
   subst hbd
   refine go [6,3,21,3,3,4,0,0] ?_
   refine Ls.qE 24 (Ev.indexAt (sz := 1) rfl (by rfl) (by rfl) Tryz.underlying49 (by kernel_rfl) (by omega)) ?_
   refine Ls.qE 25 (Ev.loadStr rfl (by rfl) (ReadsIn.rd 3 (by rfl)) (by kernel_rfl) (by assumption)) ?_
   refine Ls.does (some 26) (Does.read rfl Tryz.func62 (by kernel_rfl) (by kernel_rfl) (dname_sl q (by have := hgq.len; omega)) (by rfl) (by rfl) trivial) (by rfl) (by rfl) ?_
   rintro _ -
   rw [decide_eq_true hgq]
   refine go [20,2,24,6,3,3] ?_
   refine Cd.draw [] (by kernel_rfl) ?_
   refine Rg.qE 0 29 (by rfl) (Ev.loads 1 rfl (by rfl) (by rfl) (n := 4) (by kernel_rfl) (by rfl) (by rfl)) ?_
   refine Rg.qE 1 30 (by rfl) (Ev.move rfl (by rfl)) ?_
   refine Rg.qE 2 31 (by rfl) (Ev.move rfl (by rfl)) ?_
   refine Rg.qE 3 32 (by rfl) (Ev.indexAt (sz := 1) rfl (by rfl) (by rfl) Tryz.underlying49 (by kernel_rfl) (by omega)) ?_
   refine Rg.qE 4 33 (by rfl) (Ev.loadStr rfl (by rfl) (ReadsIn.rd 3 (by rfl)) (by kernel_rfl) (by assumption)) ?_
   refine Rg.does 5 (by rfl) (by kernel_rfl) (Does.read rfl Tryz.func63 (by kernel_rfl) (by kernel_rfl) (dat_sl Q A c q (by omega)) (by rfl) (by rfl) ⟨ReadsIn.rd 0 (by rfl), trivial⟩) (by rfl) (some 34) (by rfl) (by exact fun _ _ h => h) ?_
   rintro r hr
   obtain rfl : r = -1 := by
    rcases hr with ⟨h1, -⟩ | ⟨_, f, _, _, _, h4⟩
    · exact h1
    · exact absurd (hnew.symm.trans h4) (by simp)
   refine Rg.qE 6 35 (by rfl) (Ev.geq rfl (by rfl) (by rfl)) ?_
   refine Rg.done (by kernel_rfl) ?_ _
   refine Cd.cond_false (by rfl) (decide_eq_false (show ¬ ((0 : Int) ≤ -1) by decide)) ?_
   refine go [6,3,3,4,0,19,0] ?_
   refine Ent.known 38 true (by rfl) (by exact (decide_eq_true (show (0 : Int) = 0 from rfl))) ?_
   refine Ls.qM 39 ?_
   refine Ls.qE 40 (Ev.len rfl (by rfl) Tryz.underlying49) ?_
   refine go [18,0] ?_
   refine Ent.known 42 false (by rfl) (by exact (decide_eq_false (show ¬ ((256 : Int) < (ns.length : Int)) by omega))) ?_
   refine go [0,0] ?_
   refine Ls.qE 45 (Ev.indexAt (sz := 1) rfl (by rfl) (by rfl) Tryz.underlying48 (by kernel_rfl) (by omega)) ?_
   refine Ls.qE 46 (Ev.loadV rfl (by rfl) (ReadsIn.rd 4 (by rfl)) (by kernel_rfl) hs) ?_
   refine Ls.qE 47 (Ev.len rfl (by rfl) Tryz.underlying47) ?_
   refine go [18,10,9,2] ?_
   refine Cd.cond_false (by rfl) (decide_eq_false (show ¬ ((262144 : Int) < (s.l.length : Int)) by omega)) ?_
   refine go [6,3,4,0] ?_
   refine Ls.qE 52 (Ev.len rfl (by rfl) Tryz.underlying49) ?_
   refine Ls.qE 53 (Ev.leq rfl (by rfl) (by rfl)) ?_
   refine Ls.nil ?_
   refine Cd.cond_true (by rfl) (decide_eq_true (show (ns.length : Int) ≤ 512 by omega)) ?_
   refine Ent.map (fun w hs' => payGet 5 rfl (List.mem_of_getElem? hs) hs') ?_
   refine Cd.draw [17] (by kernel_rfl) ?_
   refine Rg.qE 0 54 (by rfl) (Ev.loads 2 rfl (by rfl) (by rfl) (n := 4) (by kernel_rfl) (by rfl) (by rfl)) ?_
   refine Rg.qE 1 55 (by rfl) (Ev.move rfl (by rfl)) ?_
   refine Rg.qE 2 56 (by rfl) (Ev.move rfl (by rfl)) ?_
   refine Rg.qE 3 57 (by rfl) (Ev.indexAt (sz := 1) rfl (by rfl) (by rfl) Tryz.underlying49 (by kernel_rfl) (by omega)) ?_
   refine Rg.qE 4 58 (by rfl) (Ev.loadStr rfl (by rfl) (ReadsIn.rd 4 (by rfl)) (by kernel_rfl) (by assumption)) ?_
   refine Rg.qE 5 59 (by rfl) (Ev.move rfl (by rfl)) ?_
   refine Rg.qE 6 60 (by rfl) (Ev.move rfl (by rfl)) ?_
   refine Rg.qE 7 61 (by rfl) (Ev.indexAt (sz := 1) rfl (by rfl) (by rfl) Tryz.underlying48 (by kernel_rfl) (by omega)) ?_
   refine Rg.qE 8 62 (by rfl) (Ev.loadV rfl (by rfl) (ReadsIn.rd 5 (by rfl)) (by kernel_rfl) hs) ?_
   refine Rg.qE 9 63 (by rfl) (Ev.textOf rfl (by rfl) (ReadsIn.rd 0 (by rfl)) Tryz.underlying47 Tryz.underlying5 Tryz.underlying9) ?_
   refine Rg.qE 10 64 (by rfl) (Ev.move rfl (by rfl)) ?_
   refine Rg.qE 11 65 (by rfl) (Ev.move rfl (by rfl)) ?_
   refine Rg.qE 12 66 (by rfl) (Ev.indexAt (sz := 1) rfl (by rfl) (by rfl) Tryz.underlying48 (by kernel_rfl) (by omega)) ?_
   refine Rg.qE 13 67 (by rfl) (Ev.loadV rfl (by rfl) (ReadsIn.rd 5 (by rfl)) (by kernel_rfl) hs) ?_
   refine Rg.qE 14 68 (by rfl) (Ev.len rfl (by rfl) Tryz.underlying47) ?_
   refine Rg.qE 15 69 (by rfl) (Ev.buildP (pl := [(0, 1), (1, 1), (2, 1)]) (zs := [.string ⟨#[]⟩, .string ⟨#[]⟩, .int .i64 0]) rfl (by rfl) (by kernel_rfl) (by rfl)) ?_
   refine Rg.does 16 (by rfl) (by kernel_rfl) (Does.readN rfl Tryz.func64 (by kernel_rfl) (by kernel_rfl) (dwith_sl Q hok.rise (by omega) A c ⟨q, s.l, s.l.length⟩) (by rfl) (by rfl) ⟨ReadsIn.rd 1 (by rfl), trivial⟩ (fun _ => by rfl)) (by rfl) (some 70) (by rfl) (fun _ _ h => h.tail_) ?_
   rintro ⟨wA, wc⟩ -
   dsimp only
   refine Ent.see 0 (by rfl) ?_
   refine Rg.tail 17 [] (by rfl) (by kernel_rfl) (Does.store 3 rfl (by rfl) (by rfl) (by rfl) (by kernel_rfl) (by rfl) (by kernel_rfl) (by rfl)) (by rfl) none (by rfl) (by kernel_rfl) (by kernel_rfl) ?_
   intro _ _
   refine Rg.done (by kernel_rfl) ?_ _
   refine go [4,0] ?_
   refine Ls.qE 21 (Ev.addN (b := 1) rfl (by rfl) (by rfl) (by omega)) ?_
   refine go [5,2] ?_
   refine Ent.pick [0, 3, 4, 5, 6, 7] (by rfl) ?_
   refine Ent.inv ((k + 1, wA, wc)) ?_ ?_ ?_
   · (try dsimp only); exact ⟨hlt, by omega⟩
   · (repeat (first | exact trivial | refine ⟨by rfl, ?_⟩ | refine ⟨by simp only [lenS]; rfl, ?_⟩ | refine ⟨by push_cast; rfl, ?_⟩))
   · (show [_, _, _, _, _, _] = [_, _, _, _, _, _]; dsimp only; rw [hsn]; rfl)
 · have hge : ns.length ≤ k := by have := of_decide_eq_false h2; omega
   rw [List.take_of_length_le hge, List.take_of_length_le (by rw [List.length_map]; omega)]
   refine Cd.exit ?_
   refine go [3,3,4,0,19,0] ?_
   refine Ent.known 73 false (by rfl) (by exact (decide_eq_false (show ¬ ((0 : Int) = 5) by decide))) ?_
   refine go [1,1,10,2,24,6,3,3,4,0,17,2] ?_
   refine Cd.cond_false (by rfl) (decide_eq_false (show ¬ ((0 : Int) ≠ 0) from fun h => h rfl)) ?_
   refine go [6,3,4,12,1,4,15,2,5,2,22] ?_
   exact Ent.rA ((A, c)) [0] trivial (Res.cell_tmp 2 (by rfl) (by rfl) (by rfl) (n := 4) (by kernel_rfl) (by rfl) (by rfl) (by rfl))
set_option maxHeartbeats 1000000 in
theorem load_sl (nA bA : Option Addr) (nc bc : Nat) (ns : List (List UInt8)) (S : List ByS) (h : LoadOk ns (S.map ByS.l)) : Fn Tryz.prog 19 #[.slice nA ns.length nc, .slice bA S.length bc] [rd nA ns.length 1 (txts ns), rdV bA S, payR S] DrS (fun D => .tuple #[D.ptr, .int .i64 0]) (fun D => [D.B, D.M, D.F]) (fun D => Drv D (loadP ns (S.map ByS.l))) := by
 have hlen := h.len
 rw [List.length_map] at hlen
 have hm := h.most
 refine Fn.enter Tryz.func19 rfl Tryz.ntmps19 (by rfl) ?_
 intro w0
 refine go [3,4,5,5,2,3,3,4,0] ?_
 refine Ls.qE 12 (Ev.len rfl (by rfl) Tryz.underlying49) ?_
 refine Ls.qM 13 ?_
 refine Ls.qE 14 (Ev.len rfl (by rfl) Tryz.underlying48) ?_
 refine go [17,2] ?_
 refine Cd.cond_false (by rfl) (decide_eq_false (show ¬ ((ns.length : Int) ≠ (S.length : Int)) by omega)) ?_
 refine go [6,3,4] ?_
 refine Ls.does (some 16) (Does.call [0, 1, 2] rfl Tryz.func12 (by kernel_rfl) (by kernel_rfl) (new_sl) (by rfl) (by rfl) (by rfl)) (by rfl) (by rfl) ?_
 rintro X0 hX0
 refine go [5,25,0] ?_
 refine Ls.qE 18 (Ev.len rfl (by rfl) Tryz.underlying49) ?_
 refine go [18,5,5,2,3,3,4,0] ?_
 refine Ls.qE 21 (Ev.len rfl (by rfl) Tryz.underlying49) ?_
 refine go [0,2,21] ?_
 rw [show decide ((256 : Int) < (ns.length : Int)) = false from decide_eq_false (by omega)]
 refine Cd.loop (ι := Nat × DrS) (fun p => [(0, .slice nA ns.length nc), (1, .slice bA S.length bc), (6, .pointer (some ⟨X0.d, 0, none⟩)), (7, .bool false), (8, .bool false), (20, .slice nA ns.length nc), (21, .int .i64 ns.length), (22, .int .i64 p.1)]) (fun p => [p.2.B, p.2.M, p.2.F, rd nA ns.length 1 (txts ns), rdV bA S, payR S]) (fun p => p.1 ≤ ns.length ∧ Drv p.2 (loadP (ns.take p.1) ((S.map ByS.l).take p.1)) ∧ p.2.d = X0.d) (fun p => ns.length - p.1) ((0, X0)) (⟨Nat.zero_le _, hX0, rfl⟩) ?_ rfl ?_
 · (repeat (first | exact trivial | refine ⟨by rfl, ?_⟩))
 rintro ⟨k, X⟩ ⟨hk, hX, hXd⟩
 dsimp only at hk hX hXd ⊢
 obtain ⟨hok, hfl, hst, hle, -⟩ := loadP_inv h k hk
 refine go [3,4,16,2,3] ?_
 refine Cd.cond _ (by rfl) (fun h2 => ?_) (fun h2 => ?_)
 · have hlt : k < ns.length := by have := of_decide_eq_true h2; omega
   obtain ⟨q, hq⟩ := get_of_lt hlt
   obtain ⟨s, hs⟩ := get_of_lt (show k < S.length by omega)
   have hqt : (ns.map txt)[k]? = some (txt q) := by rw [List.getElem?_map, hq]; rfl
   have hsl : (S.map ByS.l)[k]? = some s.l := by rw [List.getElem?_map, hs]; rfl
   have hgq := h.good q (List.mem_of_getElem? hq)
   have hsz := h.size s.l (List.mem_of_getElem? hsl)
   have hnew := loadP_new h hq
   have hsn := loadP_snoc hq hsl
   have hok2 := (loadP_inv h (k + 1) hlt).1
   rw [hsn] at hok2
   generalize loadP (ns.take k) ((S.map ByS.l).take k) = Q at hok hfl hst hle hnew hsn hok2 hX
   have hnf : findF X.fs q = none := hX.miss hnew
   have hp := ptr_miss hnf
   have hql := hgq.len
   have hXl : X.fs.length ≤ 256 := by
    rw [hX.len]
    omega
   refine Ent.rdSome 3 (by rfl) (by omega) (fun nd hnd => ?_)
   subst hnd
   refine Ent.rdSome 4 (by rfl) (by omega) (fun bd hbd => ?_)
   subst hbd
   refine go [6,3,21,3,4,0] ?_
   refine Ls.qE 25 (Ev.indexAt (sz := 1) rfl (by rfl) (by rfl) Tryz.underlying49 (by kernel_rfl) (by omega)) ?_
   refine Ls.qE 26 (Ev.loadStr rfl (by rfl) (ReadsIn.rd 3 (by rfl)) (by kernel_rfl) (by assumption)) ?_
   refine go [5,5,2,3,3,4,0] ?_
   refine Ls.does (some 28) (Does.read rfl Tryz.func60 (by kernel_rfl) (by kernel_rfl) (good_sl q) (by rfl) (by rfl) trivial) (by rfl) (by rfl) ?_
   rintro _ -
   rw [decide_eq_true hgq]
   refine go [20,2,24] ?_
   rw [← hXd]
   refine go [6,3,4,0,0,0,14,7,0,8,0,0] ?_
   refine Ls.qE 37 (Ev.to (Ev.lookT (maptIn 1 (by rfl)) rfl (by rfl) (by rfl) Tryz.underlying9 Tryz.underlying86 (zero_of (by kernel_rfl)) (by unfold maxLen; omega)) hp) ?_
   refine Ls.qE 38 (Ev.nilNe rfl (by rfl) (by rfl) Tryz.underlying109) ?_
   refine go [10,5,25,0,0,0,0] ?_
   refine Ls.qE 44 (Ev.indexAt (sz := 1) rfl (by rfl) (by rfl) Tryz.underlying48 (by kernel_rfl) (by omega)) ?_
   refine Ls.qE 45 (Ev.loadV rfl (by rfl) (ReadsIn.rd 4 (by rfl)) (by kernel_rfl) hs) ?_
   refine Ls.qE 46 (Ev.len rfl (by rfl) Tryz.underlying47) ?_
   refine go [18] ?_
   rw [show decide ((262144 : Int) < (s.l.length : Int)) = false from decide_eq_false (by omega)]
   refine go [10,5,2] ?_
   refine Ent.map (fun w hs' => payGet 5 rfl (List.mem_of_getElem? hs) hs') ?_
   refine Cd.draw [17] (by kernel_rfl) ?_
   refine Rg.qE 0 49 (by rfl) (Ev.move rfl (by rfl)) ?_
   refine Rg.qE 1 50 (by rfl) (Ev.nilCheck rfl (by rfl)) ?_
   refine Rg.qE 2 51 (by rfl) (Ev.fieldAddr (k := 0) rfl (by rfl) (by kernel_rfl) (by rfl)) ?_
   refine Rg.qE 3 52 (by rfl) (Ev.load 1 rfl (by rfl) (by rfl) (by kernel_rfl) (by rfl)) ?_
   refine Rg.qE 4 53 (by rfl) (Ev.move rfl (by rfl)) ?_
   refine Rg.qE 5 54 (by rfl) (Ev.move rfl (by rfl)) ?_
   refine Rg.qE 6 55 (by rfl) (Ev.move rfl (by rfl)) ?_
   refine Rg.qE 7 56 (by rfl) (Ev.indexAt (sz := 1) rfl (by rfl) (by rfl) Tryz.underlying48 (by kernel_rfl) (by omega)) ?_
   refine Rg.qE 8 57 (by rfl) (Ev.loadV rfl (by rfl) (ReadsIn.rd 5 (by rfl)) (by kernel_rfl) hs) ?_
   refine Rg.qE 10 59 (by rfl) (Ev.move rfl (by rfl)) ?_
   refine Rg.qE 11 60 (by rfl) (Ev.move rfl (by rfl)) ?_
   refine Rg.qE 12 61 (by rfl) (Ev.indexAt (sz := 1) rfl (by rfl) (by rfl) Tryz.underlying48 (by kernel_rfl) (by omega)) ?_
   refine Rg.qE 13 62 (by rfl) (Ev.loadV rfl (by rfl) (ReadsIn.rd 5 (by rfl)) (by kernel_rfl) hs) ?_
   refine Rg.qE 14 63 (by rfl) (Ev.len rfl (by rfl) Tryz.underlying47) ?_
   refine Rg.does 9 (by rfl) (by kernel_rfl) (Does.readN rfl Tryz.func61 (by kernel_rfl) (by kernel_rfl) (clone_sl s.A s.c s.l (by omega)) (by rfl) (by rfl) ⟨ReadsIn.rd 0 (by rfl), trivial⟩ (fun _ => by rfl)) (by rfl) (some 58) (by rfl) (fun _ _ h => h.tail_) ?_
   rintro ⟨cA, cc⟩ -
   dsimp only
   refine Rg.qE 15 64 (by rfl) (Ev.buildP (pl := [(0, 1), (1, 1)]) (zs := [.slice none 0 0, .int .i64 0]) rfl (by rfl) (by kernel_rfl) (by rfl)) ?_
   refine Rg.does 16 (by rfl) (by kernel_rfl) (Does.box rfl (by rfl)) (by rfl) (some 65) (by rfl) (fun _ _ h => h.tail_) ?_
   intro g1 _
   refine Rg.tail 17 [] (by rfl) (by kernel_rfl) (Does.putT 4 rfl (by rfl) (by rfl) (by rfl) (by rfl) Tryz.underlying9 Tryz.underlying86 (by rw [List.length_map]; omega) (by unfold maxLen; omega) (not_mem_of_find hnf)) (by rfl) none (by rfl) (by kernel_rfl) (by kernel_rfl) ?_
   rintro _ -
   refine Rg.done (by kernel_rfl) ?_ _
   refine Cd.region ?_
   refine Ls.qE 66 (Ev.addN (b := 1) rfl (by rfl) (by rfl) (by omega)) ?_
   refine go [0,2] ?_
   have hbk : blk g1 112 [.slice cA s.l.length cc, .int .i64 s.l.length] = FiS.B ⟨⟨q, s.l, s.l.length⟩, g1, cA, cc⟩ := rfl
   have hperm : (putG FiS.nm ⟨⟨q, s.l, s.l.length⟩, g1, cA, cc⟩ X.fs).Perm (⟨⟨q, s.l, s.l.length⟩, g1, cA, cc⟩ :: X.fs) := put_perm (nm := FiS.nm) (f := ⟨⟨q, s.l, s.l.length⟩, g1, cA, cc⟩) hnf
   have hpn : (X.fs.map FiS.nm ++ [q]).Perm ((putG FiS.nm ⟨⟨q, s.l, s.l.length⟩, g1, cA, cc⟩ X.fs).map FiS.nm) := List.perm_append_comm.trans ((hperm.map FiS.nm).symm)
   refine Ent.pick [0, 1, 5, 4, 3, 6, 7, 8] (by rfl) ?_
   refine Ent.map (fun w hs => fil_perm hperm.symm (fil_shut (a := []) (b := X.fs) (f := ⟨⟨q, s.l, s.l.length⟩, g1, cA, cc⟩) (by rw [← hbk]; exact hs))) ?_
   refine Ent.pick [1, 0, 2, 3, 4, 5] (by rfl) ?_
   refine Ent.map (fun w hs => mapt_perm hpn (f' := ptrF (putG FiS.nm ⟨⟨q, s.l, s.l.length⟩, g1, cA, cc⟩ X.fs)) (fun y _ => (ptrF_put hX.rise ⟨⟨q, s.l, s.l.length⟩, g1, cA, cc⟩ y).symm) hs) ?_
   refine Ent.pick [2, 0, 1, 3, 4, 5] (by rfl) ?_
   refine Ent.iA ((k + 1, { X with fs := putG FiS.nm ⟨⟨q, s.l, s.l.length⟩, g1, cA, cc⟩ X.fs })) ?_
   (try dsimp only); exact ⟨⟨hlt, by rw [hsn]; exact hX.put (f := ⟨⟨q, s.l, s.l.length⟩, g1, cA, cc⟩) hok2, rfl⟩, by omega⟩
 · have hge : ns.length ≤ k := by have := of_decide_eq_false h2; omega
   rw [List.take_of_length_le hge, List.take_of_length_le (by rw [List.length_map]; omega)] at hX
   refine Cd.exit ?_
   refine go [3,21,3,4,0,5,2,24,3,4,0,5,2,24,6,3,4,0,5,5,2,22] ?_
   refine Ent.ret (X) (hX) (Res.tmp2 (by rfl) (by rfl) (by rfl)) ?_ [0, 1, 2] (by rfl) ?_
   · show Value.tuple #[X0.ptr, _] = Value.tuple #[X.ptr, _]
     rw [DrS.ptr, DrS.ptr, hXd]
   · rfl
abbrev w07 : List UInt8 := [115, 115, 116, 45, 48, 48, 48, 48, 48, 55]
abbrev nm0 : List (List UInt8) := [qCur, w07, qTmp]
def nmK (k : Nat) : List (List UInt8) := nm0 ++ (List.range k).map fun i => nameK kMan (2 * i + 1)
def cutB (s : ByS) : ByS := ⟨s.A, s.c, s.l.take 3000⟩
def flK (U S : List ByS) (k : Nat) : List ByS := U ++ (S.take k).map cutB
theorem nmK_succ (k : Nat) : nmK k ++ [nameK kMan (2 * k + 1)] = nmK (k + 1) := by
 unfold nmK
 rw [List.range_succ, List.map_append, List.append_assoc]
 rfl
theorem nmK_len (k : Nat) : (nmK k).length = k + 3 := by
 unfold nmK
 rw [List.length_append, List.length_map, List.length_range]
 exact Nat.add_comm 3 k
theorem flK_succ {U S : List ByS} {k : Nat} {s : ByS} (h : S[k]? = some s) : flK U S k ++ [cutB s] = flK U S (k + 1) := by
 unfold flK
 rw [List.take_add_one, h, List.map_append, List.append_assoc]
 rfl
theorem flK_len {U S : List ByS} {k : Nat} (h : k ≤ S.length) : (flK U S k).length = U.length + k := by
 unfold flK
 rw [List.length_append, List.length_map, List.length_take, Nat.min_eq_left h]
theorem nmK_nodup {k : Nat} (hk : k ≤ 5) : (nmK k).Nodup := by
 have : k = 0 ∨ k = 1 ∨ k = 2 ∨ k = 3 ∨ k = 4 ∨ k = 5 := by omega
 rcases this with rfl | rfl | rfl | rfl | rfl | rfl <;> decide +kernel
theorem nmK_good {k : Nat} : ∀ q ∈ nmK k, Good q := fun q hq => by
 unfold nmK at hq
 rcases List.mem_append.1 hq with hq | hq
 · simp only [List.mem_cons, List.not_mem_nil, or_false] at hq
   rcases hq with rfl | rfl | rfl <;> decide
 · obtain ⟨i, _, rfl⟩ := List.mem_map.1 hq
   exact kMan_good _
theorem openL_ok {U S : List ByS} {k : Nat} (hk : k ≤ 5) (hS : k = S.length) (hU : U.length = 3) (hz : ∀ u ∈ U, u.l.length ≤ 262144) : LoadOk (nmK k) ((flK U S k).map ByS.l) where
 len := by rw [List.length_map, flK_len (by omega), nmK_len]; omega
 nodup := nmK_nodup hk
 good := nmK_good
 most := by rw [nmK_len]; omega
 size := fun b hb => by
  obtain ⟨u, hu, rfl⟩ := List.mem_map.1 hb
  unfold flK at hu
  rcases List.mem_append.1 hu with hu | hu
  · exact hz u hu
  · obtain ⟨s, _, rfl⟩ := List.mem_map.1 hu
    show (s.l.take 3000).length ≤ _
    rw [List.length_take]
    omega
theorem openL_steps {ns bs : List (List UInt8)} (h : LoadOk ns bs) : (loadP ns bs).steps = 0 := by
 have := (loadP_inv h ns.length (Nat.le_refl _)).2.2.1
 rwa [List.take_of_length_le (Nat.le_refl _), List.take_of_length_le (by rw [h.len]; exact Nat.le_refl _)] at this
theorem cutB_take (s : ByS) {m : Nat} (hm : m = min s.l.length 3000) : (cutB s).l.length = m ∧ u8s (cutB s).l = (u8s s.l).take (m * 1) := by
 refine ⟨?_, ?_⟩
 · show (s.l.take 3000).length = m
   rw [List.length_take, hm, Nat.min_comm]
 · show u8s (s.l.take 3000) = _
   unfold u8s
   rw [← List.map_take, hm, Nat.mul_one]
   congr 1
   rcases Nat.le_total s.l.length 3000 with h | h
   · rw [Nat.min_eq_left h, List.take_of_length_le h, List.take_length]
   · rw [Nat.min_eq_right h]
theorem cutB_reads {W : World} {s : ByS} (h : Reads W W.heap.size 1 s.A s.l.length (u8s s.l)) : Reads W W.heap.size 1 (cutB s).A (cutB s).l.length (u8s (cutB s).l) := by
 obtain ⟨h1, h2⟩ := cutB_take s rfl
 rw [h1, h2]
 exact h.take (Nat.min_le_left _ _)
theorem txts_append (a b : List (List UInt8)) : txts (a ++ b) = txts a ++ txts b := by simp [strs]
abbrev rowT (A : Option Addr) (c : Nat) (l : List (List UInt8)) : Chunk := row A l.length c 9 1 (txts l)
def ByS.ok (W : World) (s : ByS) : Prop := Reads W W.heap.size 1 s.A s.l.length (u8s s.l) ∧ s.l.length ≤ s.c ∧ s.l.length ≤ 140737488351232
theorem cel_bys {w : World} {n : Nat} {cs : List Value} (h : Cel Tryz.prog w n 47 cs) : ∃ s : ByS, cs = [s.v] ∧ s.ok w := by
 rcases cel_slice Tryz.underlying47 h with rfl | ⟨a2, len2, cap2, rfl, hl2, hm2, hb2, hc2⟩
 · exact ⟨⟨none, 0, []⟩, rfl, ⟨Reads.none_, Nat.le_refl 0, by show (0 : Nat) ≤ 140737488351232; omega⟩⟩
 · obtain ⟨l, hr⟩ := bytes_of w a2 len2 cap2 hl2 hc2
   rw [bytes_u8] at hb2
   unfold reachBytes at hb2
   have hll := hr.len_
   subst hll
   exact ⟨⟨some a2, cap2, l⟩, rfl, hr, hl2, by show l.length ≤ _; omega⟩
theorem cells_bys : Tryz.prog.cellsOf 47 = 1 := by kernel_rfl
theorem bytes_bys : Tryz.prog.bytesOf 47 = 24 := by kernel_rfl
set_option maxRecDepth 100000 in
theorem val_pay {W : World} {v : Value} (h : Val Tryz.prog W 48 v) : ∃ A c S, v = .slice A (List.length S) c ∧ Reads W W.heap.size 1 A S.length (S.map ByS.v) ∧ (∀ s ∈ S, ByS.ok W s) ∧ S.length ≤ c ∧ c ≤ 5864062014634 := by
 obtain ⟨n, h⟩ := @val_cel Tryz.prog W 48 47 v Tryz.underlying48 h
 obtain ⟨A, c, S, e, hr, hq, hc, hb⟩ := cel_slice1 (f := ByS.v) (Q := ByS.ok W) Tryz.underlying48 cells_bys (fun n cs h => cel_bys h) h
 rw [bytes_bys] at hb
 unfold reachBytes at hb
 exact ⟨A, c, S, by simpa using e, hr, hq, hc, by omega⟩
set_option maxHeartbeats 8000000 in
theorem opens_sl (W : World) (A : Option Addr) (c : Nat) (L : List UInt8) (hL : Reads W W.heap.size 1 A L.length (u8s L)) (lA : Option Addr) (lc : Nat) (S : List ByS) (hr : Reads W W.heap.size 1 lA S.length (S.map ByS.v)) (hok : ∀ s ∈ S, ByS.ok W s) (e : EdP) (B : Option Addr) (b : Nat) (D : Option Addr) (d : Nat) (he : EdAt W e B b D d) : Fn Tryz.prog 5 #[.slice A L.length c, .slice lA S.length lc, .agg (e.val B b D d).toArray] [rdT B e.add, rd D e.drop.length 1 (ints e.drop), argc W, laidC] Unit (fun _ => .bool true) (fun _ => []) (fun _ => True) := by
 refine Fn.enter Tryz.func5 rfl Tryz.ntmps5 (by rfl) ?_
 intro w0
 refine Ent.arg 2 (by rfl) hr ?_
 refine Ent.arg 3 (by rfl) hL ?_
 refine go [3,4] ?_
 refine Ls.does (some 5) (Does.box rfl (by rfl)) (by rfl) (by rfl) ?_
 intro g1 _
 refine go [5,2,3,3,4] ?_
 refine Ls.does (some 18) (Does.read rfl Tryz.func7 (by kernel_rfl) (by kernel_rfl) (awake_sl) (by rfl) (by rfl) ⟨laidIn 6 (by rfl), trivial⟩) (by rfl) (by rfl) ?_
 rintro _ -
 refine go [20,0] ?_
 refine Ent.known 20 false (by rfl) (by exact (rfl)) ?_
 refine Ls.qM 21 ?_
 refine Ls.qE 22 (Ev.len rfl (by rfl) Tryz.underlying48) ?_
 refine go [18,10,0] ?_
 by_cases h5 : 5 < S.length
 · refine Ent.known 25 true (by rfl) (by exact (decide_eq_true (show (5 : Int) < (S.length : Int) by omega))) ?_
   refine go [1,1,1,9,2,23,3,4] ?_
   refine Ls.does (some 30) (Does.read rfl Tryz.func7 (by kernel_rfl) (by kernel_rfl) (awake_sl) (by rfl) (by rfl) ⟨laidIn 6 (by rfl), trivial⟩) (by rfl) (by rfl) ?_
   rintro _ -
   refine go [5,2,22] ?_
   exact Ent.rA (()) [] trivial rT_
 refine Ent.known 25 false (by rfl) (by exact (decide_eq_false (show ¬ (5 : Int) < (S.length : Int) by omega))) ?_
 refine Ls.qM 26 ?_
 refine Ls.qE 27 (Ev.len rfl (by rfl) Tryz.underlying47) ?_
 refine go [18,10,2] ?_
 by_cases h100 : 100 < L.length
 · refine Cd.cond_true (by rfl) (decide_eq_true (show (100 : Int) < (L.length : Int) by omega)) ?_
   refine go [3,4] ?_
   refine Ls.does (some 30) (Does.read rfl Tryz.func7 (by kernel_rfl) (by kernel_rfl) (awake_sl) (by rfl) (by rfl) ⟨laidIn 6 (by rfl), trivial⟩) (by rfl) (by rfl) ?_
   rintro _ -
   refine go [5,2,22] ?_
   exact Ent.rA (()) [] trivial rT_
 refine Cd.cond_false (by rfl) (decide_eq_false (show ¬ (100 : Int) < (L.length : Int) by omega)) ?_
 refine go [6,3,4] ?_
 refine Ls.does (some 31) (Does.lit (sz := 1) rfl (by rfl) Tryz.underlying49 (by kernel_rfl) (by rfl) (by kernel_rfl)) (by rfl) (by rfl) ?_
 intro g2 _
 refine Ls.qM 32 ?_
 refine Ls.does (some 33) (Does.lit (sz := 1) rfl (by rfl) Tryz.underlying47 (by kernel_rfl) (by rfl) (by kernel_rfl)) (by rfl) (by rfl) ?_
 intro g3 _
 refine Ls.does (some 34) (Does.lit (sz := 1) rfl (by rfl) Tryz.underlying48 (by kernel_rfl) (by rfl) (by kernel_rfl)) (by rfl) (by rfl) ?_
 intro g4 _
 refine go [5,5,2,3,3] ?_
 obtain ⟨U, hU⟩ : ∃ U : List ByS, U = [⟨A, c, L⟩, ⟨none, 0, []⟩, ⟨some ⟨g3, 0, none⟩, 1, [1]⟩] := ⟨_, rfl⟩
 have hUl : U.length = 3 := by rw [hU]; rfl
 have hUz : ∀ u ∈ U, u.l.length ≤ 262144 := fun u hu => by
  rw [hU] at hu
  simp only [List.mem_cons, List.not_mem_nil, or_false] at hu
  rcases hu with rfl | rfl | rfl
  · show L.length ≤ _
    omega
  · exact Nat.zero_le _
  · show 1 ≤ 262144
    omega
 have hf0 : flK U S 0 = U := by unfold flK; rw [List.take_zero, List.map_nil, List.append_nil]
 refine Ent.see 1 (by rfl) ?_
 refine Ent.nil 5 1 ?_
 refine Ent.see 0 (by rfl) ?_
 refine Ent.map (fun w hs => hs.stars_nil) ?_
 refine Ent.pick [6, 0, 1, 3, 2, 4, 5, 7, 8, 9, 10, 11] (by rfl) ?_
 refine Ent.map (fun w hs => Sat.stars_add (C := ByS.r ⟨A, c, L⟩) rfl hs) ?_
 refine Ent.pick [1, 0, 2, 3, 4, 5, 6, 7, 8, 9, 10] (by rfl) ?_
 refine Ent.map (fun w hs => Sat.stars_add (C := ByS.r ⟨none, 0, []⟩) rfl hs) ?_
 refine Ent.pick [1, 0, 2, 3, 4, 5, 6, 7, 8, 9] (by rfl) ?_
 refine Ent.map (fun w hs => Sat.stars_add (C := ByS.r ⟨some ⟨g3, 0, none⟩, 1, [1]⟩) rfl hs) ?_
 refine Ent.pick [2, 1, 0, 3, 4, 5, 6, 7, 8] (by rfl) ?_
 have hf1 : 3 = (flK U S 0).length := by rw [hf0, hUl]
 refine Ent.norm ([(1, .slice lA S.length lc), (5, ptrW g1), (7, .slice (some ⟨g2, 0, none⟩) (nmK 0).length 3), (8, .slice (some ⟨g4, 0, none⟩) (flK U S 0).length 3)]) ([rowT (some ⟨g2, 0, none⟩) 3 (nmK 0), payW (some ⟨g4, 0, none⟩) 3 (flK U S 0), payR (flK U S 0), blk g1 27 (e.val B b D d), rdV lA S, rdT B e.add, rd D e.drop.length 1 (ints e.drop), argc W, laidC]) (by repeat (first | refine ⟨by (first | rfl | (rw [← hf1]; rfl)), ?_⟩ | exact trivial | refine ⟨by rfl, ?_⟩ | refine ⟨by simp only [List.length_append, List.length_cons, List.length_nil]; rfl, ?_⟩ | refine ⟨by push_cast; rfl, ?_⟩)) (by (rw [hf0, hU]; rfl)) ?_
 refine go [4,0] ?_
 refine Ls.qE 36 (Ev.len rfl (by rfl) Tryz.underlying48) ?_
 refine go [0,2,21] ?_
 refine Cd.loop (ι := Nat × (Option Addr × Nat) × (Option Addr × Nat)) (fun p => [(1, .slice lA S.length lc), (5, ptrW g1), (7, .slice p.2.1.1 (nmK p.1).length p.2.1.2), (8, .slice p.2.2.1 (flK U S p.1).length p.2.2.2), (36, .int .i64 S.length), (37, .int .i64 p.1)]) (fun p => [rowT p.2.1.1 p.2.1.2 (nmK p.1), payW p.2.2.1 p.2.2.2 (flK U S p.1), payR (flK U S p.1), blk g1 27 (e.val B b D d), rdV lA S, rdT B e.add, rd D e.drop.length 1 (ints e.drop), argc W, laidC]) (fun p => p.1 ≤ S.length) (fun p => S.length - p.1) ((0, (some ⟨g2, 0, none⟩, 3), (some ⟨g4, 0, none⟩, 3))) (Nat.zero_le _) ?_ rfl ?_
 · (repeat (first | exact trivial | refine ⟨by rfl, ?_⟩))
 rintro ⟨k, ⟨nA, nc⟩, ⟨bA, bc⟩⟩ hk
 dsimp only at hk ⊢
 have hkn := nmK_len k
 have hkf := flK_len (U := U) hk
 rw [hUl] at hkf
 refine go [3,4,16,2,3] ?_
 refine Cd.cond _ (by rfl) (fun h2 => ?_) (fun h2 => ?_)
 · have hlt : k < S.length := by have := of_decide_eq_true h2; omega
   obtain ⟨s, hs⟩ := get_of_lt hlt
   have hoks := hok s (List.mem_of_getElem? hs)
   refine go [6,3,21,3,4,0,5,25,0,0] ?_
   refine Ls.qE 42 (Ev.to (Ev.mulI rfl (by rfl) (by rfl) (by omega)) (show Value.int .i64 (2 * (k : Int)) = Value.int .i64 ((2 * k : Nat) : Int) by push_cast; rfl)) ?_
   refine Ls.qE 43 (Ev.addN (b := 1) rfl (by rfl) (by rfl) (by omega)) ?_
   refine Ls.does (some 44) (Does.read rfl Tryz.func18 (by kernel_rfl) (by kernel_rfl) (rnm_sl kMan (2 * k + 1) (by decide) (by omega)) (by rfl) (by rfl) trivial) (by rfl) (by rfl) ?_
   rintro _ -
   refine Ls.does (some 45) (Does.lit (sz := 1) rfl (by rfl) Tryz.underlying49 (by kernel_rfl) (by rfl) (by kernel_rfl)) (by rfl) (by rfl) ?_
   intro g5 _
   refine Ls.does (some 46) (Does.app (xs := txts (nmK k)) (news := txts [nameK kMan (2 * k + 1)]) 1 rfl (by rfl) (by rfl) (by rfl) (ReadsIn.row 0 (by rfl)) elem_str (one_txts _) (show ((nmK k).length + 1) * 16 ≤ 140737488355328 by omega)) (by rfl) (by rfl) ?_
   rintro ⟨n2, c2⟩ -
   refine Ent.rdSome 5 (by rfl) (by omega) (fun ad had => ?_)
   obtain rfl : lA = some ad := had
   obtain ⟨m, hm⟩ : ∃ m, m = min s.l.length 3000 := ⟨_, rfl⟩
   obtain ⟨hc1, hc2⟩ := cutB_take s hm
   refine go [5,2] ?_
   refine Cd.draw [13] (by kernel_rfl) ?_
   refine Rg.qE 0 47 (by rfl) (Ev.move rfl (by rfl)) ?_
   refine Rg.qE 1 48 (by rfl) (Ev.move rfl (by rfl)) ?_
   refine Rg.qE 2 49 (by rfl) (Ev.move rfl (by rfl)) ?_
   refine Rg.qE 3 50 (by rfl) (Ev.indexAt (sz := 1) rfl (by rfl) (by rfl) Tryz.underlying48 (by kernel_rfl) (by omega)) ?_
   refine Rg.qE 4 51 (by rfl) (Ev.loadV rfl (by rfl) (ReadsIn.rd 5 (by rfl)) (by kernel_rfl) hs) ?_
   refine Rg.qE 5 52 (by rfl) (Ev.move rfl (by rfl)) ?_
   refine Rg.qE 6 53 (by rfl) (Ev.move rfl (by rfl)) ?_
   refine Rg.qE 7 54 (by rfl) (Ev.indexAt (sz := 1) rfl (by rfl) (by rfl) Tryz.underlying48 (by kernel_rfl) (by omega)) ?_
   refine Rg.qE 8 55 (by rfl) (Ev.loadV rfl (by rfl) (ReadsIn.rd 5 (by rfl)) (by kernel_rfl) hs) ?_
   refine Rg.qE 9 56 (by rfl) (Ev.len rfl (by rfl) Tryz.underlying47) ?_
   refine Rg.qE 10 57 (by rfl) (Ev.minN rfl (by rfl) (by rfl) hm.symm) ?_
   refine Rg.qE 11 58 (by rfl) (Ev.sliceHn (h := m) (sz := 1) rfl (by rfl) (by rfl) Tryz.underlying47 (by kernel_rfl) (by have := hoks.2.1; omega)) ?_
   refine Rg.does 12 (by rfl) (by kernel_rfl) (Does.lit (sz := 1) rfl (by rfl) Tryz.underlying48 (by kernel_rfl) (by rfl) (by kernel_rfl)) (by rfl) (some 59) (by rfl) (fun _ _ h => h.tail_) ?_
   intro g6 _
   refine Rg.tail 13 [] (by rfl) (by kernel_rfl) (Does.app (xs := (flK U S k).map ByS.v) (news := [Value.slice s.A m s.c]) 3 rfl (by rfl) (by rfl) (by rfl) (ReadsIn.row 0 (by rfl)) elem_pay (fun u hu => by rw [List.mem_singleton.1 hu]; rfl) (show ((flK U S k).length + 1) * 24 ≤ 140737488355328 by omega)) (by rfl) (some 60) (by rfl) (by kernel_rfl) (by kernel_rfl) ?_
   rintro ⟨b2, c3⟩ -
   refine Rg.qE 14 8 (by rfl) (Ev.assign rfl (by rfl)) ?_
   refine Rg.done (by kernel_rfl) ?_ _
   refine Cd.region ?_
   refine Ls.qE 61 (Ev.addN (b := 1) rfl (by rfl) (by rfl) (by omega)) ?_
   refine go [0,2] ?_
   refine Ent.arg 9 (by rfl) (cutB_reads hoks.1) ?_
   refine Ent.pick [0, 5, 3, 4, 6, 7, 8, 9, 10, 11] (by rfl) ?_
   refine Ent.map (fun w hs => Sat.stars_add (C := (cutB s).r) rfl hs) ?_
   refine Ent.pick [1, 2, 0, 3, 4, 5, 6, 7, 8] (by rfl) ?_
   have hcv : Value.slice s.A m s.c = (cutB s).v := by show _ = Value.slice s.A (cutB s).l.length s.c; rw [hc1]
   refine Ent.inv ((k + 1, (n2, c2), (b2, c3))) ?_ ?_ ?_
   · (try dsimp only); exact ⟨hlt, by omega⟩
   · (repeat (first | exact trivial | refine ⟨by rfl, ?_⟩ | refine ⟨by simp only [lenS]; rfl, ?_⟩ | refine ⟨by push_cast; rfl, ?_⟩ | refine ⟨by (first | (show some (Value.slice _ _ _) = some (Value.slice _ _ _); rw [← nmK_succ, List.length_append]; rfl) | (show some (Value.slice _ _ _) = some (Value.slice _ _ _); rw [← flK_succ hs, List.length_append]; rfl)), ?_⟩))
   · (show [_, _, _, _, _, _, _, _, _] = [_, _, _, _, _, _, _, _, _]; rw [hcv]; dsimp only [rowT, payW, payR]; rw [← nmK_succ, ← flK_succ hs, List.length_append, List.length_append, txts_append, List.map_append, List.map_append]; rfl)
 have hge : k = S.length := by have := of_decide_eq_false h2; omega
 have hlo := openL_ok (U := U) (S := S) (k := k) (by omega) hge hUl hUz
 have hst := openL_steps hlo
 refine Cd.exit ?_
 refine Cd.seq ?_
 refine Ent.see 0 (by rfl) ?_
 refine Ent.see 1 (by rfl) ?_
 refine go [4,0,0] ?_
 refine Ls.does (some 65) (Does.readN rfl Tryz.func19 (by kernel_rfl) (by kernel_rfl) (load_sl nA bA nc bc (nmK k) (flK U S k) hlo) (by rfl) (by rfl) ⟨ReadsIn.rd 0 (by rfl), ReadsIn.rd 1 (by rfl), rpayIn 2 (by rfl), trivial⟩ (fun _ => by rfl)) (by rfl) (by rfl) ?_
 rintro X hX
 refine go [0,11,11,5,5,25,0,0] ?_
 refine Ls.does (some 71) (Does.call [3, 4, 5, 0, 1, 2, 6, 8, 9, 11] rfl Tryz.func20 (by kernel_rfl) (by kernel_rfl) (dload_sl nA bA nc bc (nmK k) (flK U S k) hlo) (by rfl) (by rfl) (by rfl)) (by rfl) (by rfl) ?_
 rintro ⟨dA, dc⟩ -
 dsimp only
 generalize loadP (nmK k) ((flK U S k).map ByS.l) = P at hX hst ⊢
 refine go [0,11,11] ?_
 refine Ls.does (some 12) (Does.alloc (cs := [.slice none 0 0, .int .i64 0, .bool false, .int .i64 0]) rfl (ZeroIs.mk (.agg #[.slice none 0 0, .int .i64 0, .bool false, .int .i64 0]) (by kernel_rfl) (by rfl))) (by rfl) (by rfl) ?_
 intro g5 _
 refine go [15,0,5,2,3,3,4,0] ?_
 refine Ls.qE 75 (Ev.ptrNil rfl (by rfl) (by rfl) Tryz.underlying37) ?_
 refine Ls.qM 76 ?_
 refine Ent.known 76 false (by rfl) (by exact (rfl)) ?_
 refine go [0,17,10,0] ?_
 refine Ent.known 80 false (by rfl) (by exact (decide_eq_false (fun h => h rfl))) ?_
 refine go [0,17,10,2] ?_
 refine Cd.cond_false (by rfl) (decide_eq_false (show ¬ ((0 : Int) ≠ 0) from fun h => h rfl)) ?_
 refine go [6,3] ?_
 refine Cd.draw [6] (by kernel_rfl) ?_
 refine Rg.qE 0 84 (by rfl) (Ev.move rfl (by rfl)) ?_
 refine Rg.qE 2 86 (by rfl) (Ev.loads 0 rfl (by rfl) (by rfl) (n := 4) (by kernel_rfl) (by rfl) (by rfl)) ?_
 refine Rg.float1 4 (ι := Nat) (some 15) (fun g => ptrW g) (fun g => blk g 59 zMf) ?_
 refine RgF.does 1 (by rfl) (by rfl) (.inr (by kernel_rfl)) (by kernel_rfl) (Does.alloc (cs := zMf) rfl (ZeroIs.mk (.agg zMf.toArray) (by kernel_rfl) (by rfl))) (by rfl) (some 15) (by rfl) (fun _ => by repeat (first | exact trivial | refine ⟨by rfl, ?_⟩ | refine ⟨by simp only [List.length_append, List.length_cons, List.length_nil]; rfl, ?_⟩ | refine ⟨by push_cast; rfl, ?_⟩)) (by exact fun _ _ h => h.last) (by exact fun _ _ h => h.pick [0, 1, 2, 3, 4, 5, 6, 7, 8] (by rfl)) (Does.readN rfl Tryz.func13 (by kernel_rfl) (by kernel_rfl) (mopen_sl hX) (by rfl) (by rfl) ⟨blkIn 2 (by rfl), mapIn 3 (by rfl), filIn 4 (by rfl), laidIn 8 (by rfl), trivial⟩ (fun _ => by rfl)) (by rfl) (some 85) (by rfl) (by exact fun _ _ h => h.pick [2, 3, 4, 5, 6, 7, 8, 9, 10] (by rfl)) (fun _ => Does.readN rfl Tryz.func13 (by kernel_rfl) (by kernel_rfl) (mopen_sl hX) (by rfl) (by rfl) ⟨blkIn 2 (by rfl), mapIn 3 (by rfl), filIn 4 (by rfl), laidIn 8 (by rfl), trivial⟩ (fun _ => by rfl)) (fun _ => by rfl) (by exact fun _ _ _ h => h.pick [2, 3, 4, 5, 6, 7, 8, 9, 10] (by rfl)) ?_
 rintro ⟨g0, ⟨A0, c0⟩⟩ -
 dsimp only
 refine RgF.does 3 (by rfl) (by rfl) (.inr (by kernel_rfl)) (by kernel_rfl) (Does.alloc (cs := zMf) rfl (ZeroIs.mk (.agg zMf.toArray) (by kernel_rfl) (by rfl))) (by rfl) (some 15) (by rfl) (fun _ => by repeat (first | exact trivial | refine ⟨by rfl, ?_⟩ | refine ⟨by simp only [List.length_append, List.length_cons, List.length_nil]; rfl, ?_⟩ | refine ⟨by push_cast; rfl, ?_⟩)) (by exact fun _ _ h => h.last) (by exact fun _ _ h => h.pick [2, 3, 4, 5, 6, 7, 8, 9, 10] (by rfl)) (Does.readN rfl Tryz.func21 (by kernel_rfl) (by kernel_rfl) (ropenM_sl P hX.ok dA dc) (by rfl) (by rfl) ⟨ReadsIn.rd 3 (by rfl), trivial⟩ (fun _ => by rfl)) (by rfl) (some 87) (by rfl) (by exact fun _ _ h => h.pick [3, 4, 5, 6, 7, 8, 9, 10, 11] (by rfl)) (fun _ => Does.readN rfl Tryz.func21 (by kernel_rfl) (by kernel_rfl) (ropenM_sl P hX.ok dA dc) (by rfl) (by rfl) ⟨ReadsIn.rd 3 (by rfl), trivial⟩ (fun _ => by rfl)) (fun _ => by rfl) (by exact fun _ _ _ h => h.pick [3, 4, 5, 6, 7, 8, 9, 10, 11] (by rfl)) ?_
 rintro ⟨B0, b0⟩ -
 dsimp only
 refine RgF.land (by rfl) (by kernel_rfl) (Does.alloc (cs := zMf) rfl (ZeroIs.mk (.agg zMf.toArray) (by kernel_rfl) (by rfl))) (by rfl) (some 15) (by rfl) (fun _ => by repeat (first | exact trivial | refine ⟨by rfl, ?_⟩ | refine ⟨by simp only [List.length_append, List.length_cons, List.length_nil]; rfl, ?_⟩ | refine ⟨by push_cast; rfl, ?_⟩)) (by exact fun _ _ h => h.last) (by exact fun _ _ h => h.pick [3, 4, 5, 6, 7, 8, 9, 10, 11] (by rfl)) ?_
 intro g6
 refine Rg.ev 5 (by rfl) (by exact fun _ h => h.pick [3, 4, 5, 6, 7, 8, 9, 10, 11] (by rfl)) (Ev.assign rfl (by rfl)) (by rfl) (some 14) (by rfl) (by kernel_rfl) (by kernel_rfl) (by kernel_rfl) (by kernel_rfl) ?_
 refine Rg.one 6 (by kernel_rfl) ?_
 refine RgO.tail 6 (by rfl) (Does.store 12 rfl (by rfl) (by rfl) (by rfl) (by kernel_rfl) (by rfl) (by kernel_rfl) (by rfl)) (by rfl) none (by rfl) (by kernel_rfl) (by kernel_rfl) ?_
 intro _ _
 refine Rg.done (by kernel_rfl) ?_ _
 refine go [3,3] ?_
 refine Ent.see 0 (by rfl) ?_
 refine Ent.pick [3, 12, 5, 6, 7, 1, 2, 4, 0, 8, 9, 10, 11] (by rfl) ?_
 have hg := open_good P
 generalize openP P = M at hg ⊢
 refine Cd.draw [] (by kernel_rfl) ?_
 refine Rg.qE 0 88 (by rfl) (Ev.move rfl (by rfl)) ?_
 refine Rg.qE 1 89 (by rfl) (Ev.ptrNil rfl (by rfl) (by rfl) Tryz.underlying39) ?_
 refine Rg.qE 2 90 (by rfl) (Ev.move rfl (by rfl)) ?_
 refine Ent.known 90 false (by rfl) (by exact (rfl)) ?_
 refine Rg.qE 3 91 (by rfl) (Ev.move rfl (by rfl)) ?_
 have hfew := good_few hg.1
 refine Rg.does 4 (by rfl) (by kernel_rfl) (Does.readN rfl Tryz.func17 (by kernel_rfl) (by kernel_rfl) (mversion_sl g0 X.d A0 c0 M (by omega)) (by rfl) (by rfl) ⟨blkIn 5 (by rfl), ReadsIn.row 6 (by rfl), trivial⟩ (fun _ => by rfl)) (by rfl) (some 92) (by rfl) (fun _ _ h => h.tail_) ?_
 rintro ⟨vA, vc⟩ -
 dsimp only
 refine Rg.does 5 (by rfl) (by kernel_rfl) (Does.read rfl Tryz.func22 (by kernel_rfl) (by kernel_rfl) (rgood_sl M.v vA vc (by omega) (fun t ht => ⟨(good_fine hg.1 t ht).1, (good_fine hg.1 t ht).2.1⟩)) (by rfl) (by rfl) ⟨ReadsIn.row 0 (by rfl), trivial⟩) (by rfl) (some 93) (by rfl) (by exact fun _ _ h => h) ?_
 rintro _ -
 refine Rg.qE 6 94 (by rfl) (Ev.not rfl (by rfl)) ?_
 refine Rg.qE 7 95 (by rfl) (Ev.pickF rfl (by rfl) (by rfl)) ?_
 refine Rg.qE 8 96 (by rfl) (Ev.move rfl (by rfl)) ?_
 refine Ent.known 96 false (by rfl) (by exact ((by rw [decide_eq_true hg.1]; rfl))) ?_
 refine Rg.qE 9 97 (by rfl) (Ev.move rfl (by rfl)) ?_
 refine Rg.qE 11 99 (by rfl) (Ev.fieldAddr (k := 0) rfl (by rfl) (by kernel_rfl) (by rfl)) ?_
 refine Rg.qE 12 100 (by rfl) (Ev.loads 2 rfl (by rfl) (by rfl) (n := 4) (by kernel_rfl) (by rfl) (by rfl)) ?_
 refine Rg.does 10 (by rfl) (by kernel_rfl) (Does.readN rfl Tryz.func17 (by kernel_rfl) (by kernel_rfl) (mversion_sl g0 X.d A0 c0 M (by omega)) (by rfl) (by rfl) ⟨blkIn 6 (by rfl), ReadsIn.row 7 (by rfl), trivial⟩ (fun _ => by rfl)) (by rfl) (some 98) (by rfl) (fun _ _ h => h.tail_) ?_
 rintro ⟨wA, wc⟩ -
 dsimp only
 refine Rg.does 13 (by rfl) (by kernel_rfl) (Does.read rfl Tryz.func11 (by kernel_rfl) (by kernel_rfl) (same_sl M.v wA B0 wc b0 (by omega)) (by rfl) (by rfl) ⟨ReadsIn.row 0 (by rfl), ReadsIn.rd 10 (by rfl), trivial⟩) (by rfl) (some 101) (by rfl) (by exact fun _ _ h => h) ?_
 rintro _ -
 refine Rg.qE 14 102 (by rfl) (Ev.not rfl (by rfl)) ?_
 refine Rg.qE 15 103 (by rfl) (Ev.pickF rfl (by rfl) (by rfl)) ?_
 refine Rg.qE 16 104 (by rfl) (Ev.move rfl (by rfl)) ?_
 refine Ent.known 104 false (by rfl) (by exact (rfl)) ?_
 refine Rg.qE 17 105 (by rfl) (Ev.move rfl (by rfl)) ?_
 refine Rg.qE 19 107 (by rfl) (Ev.loads 2 rfl (by rfl) (by rfl) (n := 4) (by kernel_rfl) (by rfl) (by rfl)) ?_
 refine Rg.qE 20 108 (by rfl) (Ev.loads 3 rfl (by rfl) (by rfl) (n := 7) (by kernel_rfl) (by rfl) (by rfl)) ?_
 have hol : (orphP P M.v).length ≤ 1000000000 := by
  have h1 := List.length_filter_le (fun q => decide (OrphQ P M.v q)) (P.fs.map FiP.nm)
  rw [← orphP_eq, List.length_map] at h1
  have := hX.ok.len
  omega
 refine Rg.does 18 (by rfl) (by kernel_rfl) (Does.readN rfl Tryz.func24 (by kernel_rfl) (by kernel_rfl) (morph_sl hX g0 A0 c0 M hg.1) (by rfl) (by rfl) ⟨blkIn 7 (by rfl), ReadsIn.row 8 (by rfl), blkIn 4 (by rfl), mapIn 5 (by rfl), filIn 6 (by rfl), laidIn 14 (by rfl), trivial⟩ (fun _ => by rfl)) (by rfl) (some 106) (by rfl) (fun _ _ h => h.tail_) ?_
 rintro ⟨oA, oc⟩ -
 dsimp only
 refine Rg.does 21 (by rfl) (by kernel_rfl) (Does.readN rfl Tryz.func25 (by kernel_rfl) (by kernel_rfl) (rorph_sl P hX.ok dA dc M hg.1 B0 b0) (by rfl) (by rfl) ⟨ReadsIn.rd 10 (by rfl), ReadsIn.rd 11 (by rfl), trivial⟩ (fun _ => by rfl)) (by rfl) (some 109) (by rfl) (fun _ _ h => h.tail_) ?_
 rintro ⟨pA, pc⟩ -
 dsimp only
 refine Rg.does 22 (by rfl) (by kernel_rfl) (Does.read rfl Tryz.func23 (by kernel_rfl) (by kernel_rfl) (rtexts_sl oA pA oc pc (orphP P M.v) hol) (by rfl) (by rfl) ⟨ReadsIn.row 1 (by rfl), ReadsIn.row 0 (by rfl), trivial⟩) (by rfl) (some 110) (by rfl) (by exact fun _ _ h => h) ?_
 rintro _ -
 refine Rg.qE 23 111 (by rfl) (Ev.not rfl (by rfl)) ?_
 refine Rg.qE 24 112 (by rfl) (Ev.pickF rfl (by rfl) (by rfl)) ?_
 refine Rg.qE 25 113 (by rfl) (Ev.move rfl (by rfl)) ?_
 refine Ent.known 113 false (by rfl) (by exact (rfl)) ?_
 refine Rg.qE 26 114 (by rfl) (Ev.move rfl (by rfl)) ?_
 refine Rg.does 27 (by rfl) (by kernel_rfl) (Does.read rfl Tryz.func26 (by kernel_rfl) (by kernel_rfl) (steps_sl hX) (by rfl) (by rfl) ⟨blkIn 6 (by rfl), trivial⟩) (by rfl) (some 115) (by rfl) (by exact fun _ _ h => h) ?_
 rintro _ -
 refine Rg.qE 28 116 (by rfl) (Ev.neq rfl (by rfl) (by rfl)) ?_
 refine Rg.qE 29 117 (by rfl) (Ev.pickF rfl (by rfl) (by rfl)) ?_
 refine Rg.done (by kernel_rfl) ?_ _
 refine Cd.cond_false (by rfl) (decide_eq_false (show ¬ (P.steps ≠ 0) from fun h => h hst)) ?_
 refine go [6,3] ?_
 refine Ent.pick [4, 5, 13, 6, 7, 8, 9, 10, 11, 12, 14, 15, 16] (by rfl) ?_
 refine Ent.norm ([(5, ptrW g1), (10, X.ptr), (12, ptrW g5), (14, ptrV g0), (15, ptrW g6)]) ([blk g5 55 (P.val dA dc), blk g6 59 (M.val B0 b0), blk g1 27 (e.val B b D d), X.B, X.M, X.F, mfB g0 X.d A0 c0 M, rowTb A0 M.v.tbs.length c0 M.v.tbs, rdF dA P.fs, rdT B0 M.v.tbs, rdT B e.add, rd D e.drop.length 1 (ints e.drop), laidC]) (by repeat (first | refine ⟨by rfl, ?_⟩ | exact trivial | refine ⟨by rfl, ?_⟩ | refine ⟨by simp only [List.length_append, List.length_cons, List.length_nil]; rfl, ?_⟩ | refine ⟨by push_cast; rfl, ?_⟩)) (by rfl) ?_
 have hin := cut_in he
 have c1 := fun cA dA cc dc => mchange_sl hX g0 A0 c0 M hg.1 hg.2 (cutE e) hin cA dA cc dc
 have c2 := fun cA fA cc fc => rchange_sl P hX.ok dA dc M hg.1 hg.2 B0 b0 (cutE e) hin cA fA cc fc
 have hcg := chg_good (P := P) (e := cutE e) hg.1 hg.2
 generalize chgP P M (cutE e) = z at c1 c2 hcg
 refine go [4,0,12,2,5] ?_
 refine Ls.does (some 120) (Does.readN rfl Tryz.func8 (by kernel_rfl) (by kernel_rfl) (cutlaw_sl e B D b d he.al he.dl) (by rfl) (by rfl) ⟨ReadsIn.rd 10 (by rfl), ReadsIn.rd 11 (by rfl), trivial⟩ (fun _ => by rfl)) (by rfl) (by rfl) ?_
 rintro ⟨⟨cA, cc⟩, ⟨fA, fc⟩⟩ -
 dsimp only
 refine Ent.see 0 (by rfl) ?_
 refine Ent.see 1 (by rfl) ?_
 have c3 := c1 cA fA cc fc
 unfold chgC at c3
 refine Ls.does (some 121) (Does.call [8, 9, 0, 1, 14, 5, 6, 7, 2, 3, 4, 10, 11, 12, 13, 14] rfl Tryz.func14 (by kernel_rfl) (by kernel_rfl) (c3) (by rfl) (by rfl) (by rfl)) (by rfl) (by rfl) ?_
 rintro ⟨X', ⟨A', c'⟩⟩ ⟨hX', hd', hm'⟩
 dsimp only at hX' hd' hm' ⊢
 have hp : X.ptr = X'.ptr := by rw [DrS.ptr, DrS.ptr, hd']
 refine go [5,2,3] ?_
 refine Ent.pick [5, 6, 7, 2, 3, 4, 0, 1, 8, 9, 10, 11, 12] (by rfl) ?_
 refine Cd.drawS [0, 1, 2] [9] (by kernel_rfl) ?_
 refine Rg.ev 0 (by rfl) (fun _ h => h.pick [0, 1, 2] rfl) (Ev.loads 0 rfl (by rfl) (by rfl) (n := 4) (by kernel_rfl) (by rfl) (by rfl)) (by rfl) (some 123) (by rfl) (by kernel_rfl) (by kernel_rfl) (by kernel_rfl) (by kernel_rfl) ?_
 refine Rg.ev 1 (by rfl) (fun _ h => h.pick [0, 1, 2] rfl) (Ev.loads 1 rfl (by rfl) (by rfl) (n := 7) (by kernel_rfl) (by rfl) (by rfl)) (by rfl) (some 124) (by rfl) (by kernel_rfl) (by kernel_rfl) (by kernel_rfl) (by kernel_rfl) ?_
 refine Rg.ev 2 (by rfl) (fun _ h => h.pick [0, 1, 2] rfl) (Ev.loads 2 rfl (by rfl) (by rfl) (n := 5) (by kernel_rfl) (by rfl) (by rfl)) (by rfl) (some 125) (by rfl) (by kernel_rfl) (by kernel_rfl) (by kernel_rfl) (by kernel_rfl) ?_
 refine Rg.one 3 (by kernel_rfl) ?_
 refine RgO.does 3 (by rfl) (Does.readN rfl Tryz.func8 (by kernel_rfl) (by kernel_rfl) (cutlaw_sl e B D b d he.al he.dl) (by rfl) (by rfl) ⟨ReadsIn.rd 10 (by rfl), ReadsIn.rd 11 (by rfl), trivial⟩ (fun _ => by rfl)) (by rfl) (some 126) (by rfl) (by exact fun _ _ h => h.pick [2, 3, 4] (by rfl)) ?_
 rintro ⟨⟨eA, ec⟩, ⟨qA, qc⟩⟩ -
 dsimp only
 refine Ent.see 0 (by rfl) ?_
 refine Ent.see 1 (by rfl) ?_
 refine Rg.one 4 (by kernel_rfl) ?_
 refine RgO.does 4 (by rfl) (Does.call [10, 11, 0, 1, 2, 3, 4, 5, 6, 7, 8, 9, 10, 11, 12, 13, 14] rfl Tryz.func27 (by kernel_rfl) (by kernel_rfl) (c2 eA qA ec qc) (by rfl) (by rfl) (by rfl)) (by rfl) (some 127) (by rfl) (by exact fun _ _ h => h.pick [2, 3, 4] (by rfl)) ?_
 rintro ⟨⟨E', e'⟩, ⟨B', b'⟩⟩ -
 dsimp only
 refine Rg.ev 5 (by rfl) (by exact fun _ h => h.pick [2, 3, 4] (by rfl)) (Ev.move rfl (by rfl)) (by rfl) (some 122) (by rfl) (by kernel_rfl) (by kernel_rfl) (by kernel_rfl) (by kernel_rfl) ?_
 refine Rg.ev 6 (by rfl) (by exact fun _ h => h.pick [2, 3, 4] (by rfl)) (Ev.extract rfl (by rfl) (by rfl)) (by rfl) (some 128) (by rfl) (by kernel_rfl) (by kernel_rfl) (by kernel_rfl) (by kernel_rfl) ?_
 refine Rg.pv 7 (by rfl) (by exact fun _ h => h.pick [2, 3, 4] (by rfl)) (fun _ => Ev.extract rfl (by rfl) (by rfl)) (by rfl) (some 129) (by rfl) (by kernel_rfl) (by kernel_rfl) (by kernel_rfl) (by kernel_rfl) ?_
 refine Rg.pv 8 (by rfl) (by exact fun _ h => h.pick [2, 3, 4] (by rfl)) (fun _ => Ev.extract rfl (by rfl) (by rfl)) (by rfl) (some 130) (by rfl) (by kernel_rfl) (by kernel_rfl) (by kernel_rfl) (by kernel_rfl) ?_
 refine Rg.one 9 (by kernel_rfl) ?_
 refine RgO.tail 9 (by rfl) (Does.store 2 rfl (by rfl) (by rfl) (by rfl) (by kernel_rfl) (by rfl) (by kernel_rfl) (by rfl)) (by rfl) none (by rfl) (by kernel_rfl) (by kernel_rfl) ?_
 intro _ _
 refine Rg.one 10 (by kernel_rfl) ?_
 refine RgO.does 10 (by rfl) (Does.store 3 rfl (by rfl) (by rfl) (by rfl) (by kernel_rfl) (by rfl) (by kernel_rfl) (by rfl)) (by rfl) none (by rfl) (fun _ _ h => h.pick [] (by rfl)) ?_
 intro _ _
 refine Rg.ev 11 (by rfl) (fun _ h => h.pick [] (by rfl)) (Ev.assign rfl (by rfl)) (by rfl) (some 17) (by rfl) (by kernel_rfl) (by kernel_rfl) (by kernel_rfl) (by kernel_rfl) ?_
 refine Rg.done (by kernel_rfl) ?_ _
 refine Cd.seq ?_
 have hfew2 := good_few hcg.1
 rw [← hd', hp]
 refine Cd.draw [] (by kernel_rfl) ?_
 refine Rg.qE 0 131 (by rfl) (Ev.move rfl (by rfl)) ?_
 refine Rg.qE 1 132 (by rfl) (Ev.move rfl (by rfl)) ?_
 refine Rg.qE 2 133 (by rfl) (Ev.eql rfl (by rfl) (by rfl)) ?_
 refine Rg.qE 3 134 (by rfl) (Ev.move rfl (by rfl)) ?_
 refine Ent.known 134 true (by rfl) (by exact (decide_eq_true rfl)) ?_
 refine Rg.qE 4 135 (by rfl) (Ev.move rfl (by rfl)) ?_
 refine Rg.qE 6 137 (by rfl) (Ev.fieldAddr (k := 0) rfl (by rfl) (by kernel_rfl) (by rfl)) ?_
 refine Rg.qE 7 138 (by rfl) (Ev.loads 3 rfl (by rfl) (by rfl) (n := 4) (by kernel_rfl) (by rfl) (by rfl)) ?_
 refine Rg.does 5 (by rfl) (by kernel_rfl) (Does.readN rfl Tryz.func17 (by kernel_rfl) (by kernel_rfl) (mversion_sl g0 X'.d A' c' z.2.1 (by omega)) (by rfl) (by rfl) ⟨blkIn 8 (by rfl), ReadsIn.row 9 (by rfl), trivial⟩ (fun _ => by rfl)) (by rfl) (some 136) (by rfl) (fun _ _ h => h.tail_) ?_
 rintro ⟨uA, uc⟩ -
 dsimp only
 refine Rg.does 8 (by rfl) (by kernel_rfl) (Does.read rfl Tryz.func11 (by kernel_rfl) (by kernel_rfl) (same_sl z.2.1.v uA B' uc b' (by omega)) (by rfl) (by rfl) ⟨ReadsIn.row 0 (by rfl), ReadsIn.rd 2 (by rfl), trivial⟩) (by rfl) (some 139) (by rfl) (by exact fun _ _ h => h) ?_
 rintro _ -
 refine Rg.qE 9 140 (by rfl) (Ev.pickT rfl (by rfl) (by rfl)) ?_
 refine Rg.qE 10 141 (by rfl) (Ev.move rfl (by rfl)) ?_
 refine Ent.known 141 true (by rfl) (by exact (rfl)) ?_
 refine Rg.qE 11 142 (by rfl) (Ev.move rfl (by rfl)) ?_
 refine Rg.qE 12 143 (by rfl) (Ev.loads 3 rfl (by rfl) (by rfl) (n := 4) (by kernel_rfl) (by rfl) (by rfl)) ?_
 refine Rg.does 13 (by rfl) (by kernel_rfl) (Does.read rfl Tryz.func28 (by kernel_rfl) (by kernel_rfl) (tells_sl hX' E' e') (by rfl) (by rfl) ⟨blkIn 6 (by rfl), mapIn 7 (by rfl), filIn 8 (by rfl), ReadsIn.rd 1 (by rfl), trivial⟩) (by rfl) (some 144) (by rfl) (by exact fun _ _ h => h) ?_
 rintro _ -
 refine Rg.qE 14 145 (by rfl) (Ev.pickT rfl (by rfl) (by rfl)) ?_
 refine Rg.qE 15 6 (by rfl) (Ev.assign rfl (by rfl)) ?_
 refine Rg.done (by kernel_rfl) ?_ _
 refine Cd.ret ?_
 exact Ent.rA (()) [] trivial rT_
end Go.Proofs.YtacbkganjkipdaaGreatDoor
namespace Go.Proofs.YtacbkganjkipdaaGreatDoor
open Go.ChangeShapes Go.WideShapes Go.ChangeAt Go.RowKit
theorem lift_laid {C : Checked} {os : Os} {f : FuncId} {fn : Func} {s : ChangeSpec} {sp : OpenSpec} {H : Type} {enc : TypeId × Value → H} {conds : List PathCond} {tb : TypeId} {F : Stop.Interp} {laid : List (String × DataW Unit)} (ts : Array TypeId)
 (hbare : sp.bare.plain.varTypes C.prog = []) (hat : (sp.at F) = s)
 (own : ownKnob C.prog.godebug = none) (lo : laidOutB C.prog = true) (started : os.Started) (noInit : C.prog.inits.idxOf? f = none) (hfn : C.prog.funcs[f]? = some fn)
 (witness : ∃ (w : World) (tape : Tape) (i : Input), w.os = os ∧ (w.forCall tape i).Shaped C.prog ∧ i.vars = [] ∧ Input.okWide C.prog (w.forCall tape i) .any w.heap.size f i ∧
  sp.preRow enc C.prog fn conds false laid (w.forCall tape i).memory i.args ∧ ({} : Assume).holds C.prog (lone (Frame.enter C.prog f i.args .normal) [] (w.forCall tape i)))
 (hts : fn.params = ts) (hrow : rowed C.prog ts.toList = true) (hvars : s.vars = []) (hvars2 : sp.vars = []) (hres : fn.resultTypes = #[tb]) (hb : C.prog.underlying tb = some .bool)
 (hs : ∀ ds : List (DataW H), ds.length = ts.toList.length → s.fn H ds = { results := [.lit (.bool true)], args := ds })
 (walk : ∀ (W : World) (args : Array Value) (ds : List (DataW H)) (p : List MemPlace), laidMetH C.prog laid W → W.ShapedOpen C.prog → Vals C.prog W ts.toList args.toList →
  DataW.TrodAll enc C.prog W 0 (fun _ => true) true ts.toList args.toList ds p → (∀ k, sp.cond = some k → k H ds = true) →
  Calls C.prog f args W fun e W' => e = .returned (.bool true) ∧ Below W.heap.size W W') :
 ReturnsInHanded {} C os f .any (sp.preRow enc C.prog fn conds false laid) ((sp.at F).post enc C.prog fn false true false false) := by
 refine returnsInHanded_of_row own started noInit hfn witness ?_
 intro W base args ds gs before hval hW _ hk hsz hL hsh _
 subst hts
 rw [hvars2] at hW
 have hW' : DataW.Whole enc C.prog fn.params.toList s.vars false W args.toList ds gs before := by rw [hvars]; exact hW
 have hW2 := hW'
 obtain ⟨p, q, hA, hV, rfl, _, _⟩ := hW2
 rw [hvars] at hV
 obtain ⟨rfl, rfl⟩ := trodVars_none hV
 rw [hbare, List.append_nil, List.append_nil] at hsz
 have hv := vals_of_trodAll (fun j t v hj hj' => hval j t v (by simpa using hj) (by simpa using hj')) hA (fun n hn => by simpa using List.all_eq_true.1 hsz n hn)
 refine (walk W args ds p hL hsh hv hA (fun k h => by simpa using hk k h)).mono fun e W' ⟨he, bel⟩ => ?_
 subst he
 have hfn' : s.fn H (ds ++ []) = { results := [.lit (.bool true)], args := ds } := by
  rw [List.append_nil]
  exact hs ds (trodAll_length hA).1
 have key : s.post enc C.prog fn false true false false W args (.bool true) W' := by
  refine ⟨ds, [], p ++ [], [], p, [], hW', ?_, ?_, ?_, bel.frame _, fun h => by cases h⟩
  · rw [hfn', hres]
    exact trodAll_mk1 (shut_bool hb true)
  · rw [hfn']
    exact trodAll_below lo bel hrow hA
  · rw [hfn', hvars]
    rfl
 rw [hat]
 exact ⟨_, rfl, key⟩
theorem sat0_ro {H : List Chunk} {w : World} (hx : ∀ D ∈ H, D.excl = false) (hh : ∀ D ∈ H, D.holds w) : Sat0 H w :=
 ⟨hh, List.pairwise_iff_getElem.2 fun i j hi hj _ he => by
  rw [hx _ (List.getElem_mem hi), hx _ (List.getElem_mem hj)] at he
  rcases he with he | he <;> cases he⟩
theorem Fn.lawR {P : Program} {f : FuncId} {args : Array Value} {W : World} {H : List Chunk} (hx : ∀ D ∈ H, D.excl = false) (hh : ∀ D ∈ H, D.holds W)
 (h : Fn P f args H Unit (fun _ => .bool true) (fun _ => []) (fun _ => True)) : Calls P f args W fun e w' => e = .returned (.bool true) ∧ Below W.heap.size W w' :=
 (h W (sat0_ro hx hh)).mono fun e w' ⟨_, _, he, hs⟩ => ⟨he, hs.upd.to_below (Nat.le_refl _) fun k _ ⟨D, hD, hd, _⟩ => by rw [hx D hD] at hd; cases hd⟩
theorem iface_of_head {P : Program} {W : World} {n nm : String} {d : DataW Unit} {r : List (String × DataW Unit)} {g : Nat} {ti : TypeId} {ms : Array (String × TypeId)} (h : laidMet P ((n, .iface nm d) :: r) W)
 (hg : P.globalNamed n = some g) (ht : (P.globals[g]?).map (·.type) = some ti) (hi : P.underlying ti = some (.interface ms)) : ∃ tp p, W.var? P n = some #[.iface tp p] := by
 obtain ⟨ps, ⟨g0, t0, cs0, f0, p0, q0, hg0, ht0, hv0, hd0, _, _⟩, _, _⟩ := h
 obtain rfl := Option.some.inj (hg.symm.trans hg0)
 obtain rfl := Option.some.inj (ht.symm.trans ht0)
 obtain ⟨_, u, v, e, _, _⟩ := iface_of_trod hi hd0
 obtain ⟨l0⟩ := cs0
 subst e
 exact ⟨u, v, hv0⟩
def lawsLaid : List (String × DataW Unit) := [("math/bits.deBruijn32tab", Rows.laid_math_bits_deBruijn32tab), ("math/bits.deBruijn64tab", Rows.laid_math_bits_deBruijn64tab), ("internal/strconv.uint64pow10", Rows.laid_internal_strconv_uint64pow10), ("strconv.ErrRange", Rows.laid_strconv_ErrRange), ("strconv.ErrSyntax", Rows.laid_strconv_ErrSyntax)]
theorem pow10_data : (Rows.laid_internal_strconv_uint64pow10 : DataW Unit) = Lib.tabData .u64 Lib.pow10Tab := by kernel_rfl
theorem laidH_of_row {W : World} (h : laidMetH Tryz.prog lawsLaid W) (_ : W.ShapedOpen Tryz.prog) : laidH W := by
 rw [MakeChecks.laidMetH_plain _ _ _ (by kernel_rfl)] at h
 have h2 : laidMet Tryz.prog (("internal/strconv.uint64pow10", Lib.tabData .u64 Lib.pow10Tab) :: lawsLaid.drop 3) W := by
  rw [← pow10_data]
  exact h.tail.tail
 refine ⟨?_, ?_, ?_⟩
 · exact Lib.tabIs_of_head gT (by kernel_rfl) Tryz.underlying234 Tryz.underlying150 (by kernel_rfl) (by kernel_rfl) h2
 · exact iface_of_head h.tail.tail.tail.tail gS (by kernel_rfl) Tryz.underlying138
 · exact iface_of_head h.tail.tail.tail gR (by kernel_rfl) Tryz.underlying138
def flatD : Nat → DataW Unit → List Value
 | 0, _ => []
 | _ + 1, .lit (.int k m) => [.int k m]
 | n + 1, .agg ps => ps.flatMap (flatD n)
 | _ + 1, _ => []
noncomputable def low : Nat := (World.holding Tryz.prog default ⟨#[], #[], []⟩).heap.size
def putG_ (cs : List Value) : Obj → Obj
 | .cells _ t frozen => .cells cs.toArray t frozen
 | o => o
noncomputable def laidWorld (os : Os) : World :=
 let w0 := World.holding Tryz.prog os ⟨#[.cells #[.string (txt [118, 97, 108, 117, 101, 32, 111, 117, 116, 32, 111, 102, 32, 114, 97, 110, 103, 101])] 231, .cells #[.string (txt [105, 110, 118, 97, 108, 105, 100, 32, 115, 121, 110, 116, 97, 120])] 231], #[], []⟩
 { w0 with heap := ((((w0.heap.modify 4 (putG_ (flatD 3 Rows.laid_math_bits_deBruijn32tab))).modify 5 (putG_ (flatD 3 Rows.laid_math_bits_deBruijn64tab))).modify 2 (putG_ (flatD 3 Rows.laid_internal_strconv_uint64pow10))).modify 1 (putG_ [.iface 229 (ptrW low)])).modify 0 (putG_ [.iface 229 (.pointer (some ⟨low + 1, 0, none⟩))]) }
theorem laid_met (os : Os) (args : Array Value) : laidMet Tryz.prog lawsLaid ((laidWorld os).forCall (fun _ _ => 0) ⟨#[], args, []⟩).memory :=
 laidMet_of_run' 8 (by kernel_rfl) (by kernel_rfl)
theorem laid_metH (os : Os) (args : Array Value) : laidMetH Tryz.prog lawsLaid ((laidWorld os).forCall (fun _ _ => 0) ⟨#[], args, []⟩).memory := by
 rw [MakeChecks.laidMetH_plain _ _ _ (by kernel_rfl)]
 exact laid_met os args
theorem own_none : ownKnob Tryz.prog.godebug = none := by kernel_rfl
theorem laid_outB : laidOutB Tryz.prog = true := by kernel_rfl
end Go.Proofs.YtacbkganjkipdaaGreatDoor
