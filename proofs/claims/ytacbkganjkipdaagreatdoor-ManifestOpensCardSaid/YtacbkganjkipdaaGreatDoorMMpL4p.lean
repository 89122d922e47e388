/-
  Texts joined: MoD, DvR, SlBy, MoE, MoF, MnV, MnW, MoC, SlU, MoG, DvU, RfA, RfB, RfE.
-/
import Derived.Test.YtacbkganjkipdaaGreatDoorMMpL4m
import Derived.Test.YtacbkganjkipdaaGreatDoorMMpL4n
import Derived.Test.YtacbkganjkipdaaGreatDoorMMpL4o
import Derived.Lib.ConvBytes
import Derived.Sort.Walk0
namespace Go.Proofs.YtacbkganjkipdaaGreatDoor
open Go.RowKit
theorem mversion_sl (g d : Nat) (A : Option Addr) (c : Nat) (m : MfP) (hl : m.v.tbs.length ≤ 1000000000) : Fn Tryz.prog 17 #[ptrV g] [rmfB g d A c m, rdT A m.v.tbs] (Option Addr × Nat) (fun q => .agg (m.v.val q.1 q.2).toArray) (fun q => [rowTb q.1 m.v.tbs.length q.2 m.v.tbs]) (fun _ => True) := by
 refine Fn.enter Tryz.func17 rfl Tryz.ntmps17 (by rfl) ?_
 intro w0
 refine go [3,4] ?_
 refine Ls.does (some 2) (Does.alloc (cs := [.slice none 0 0, .int .i64 0, .int .i64 0, .int .i64 0]) rfl (ZeroIs.mk (.agg #[.slice none 0 0, .int .i64 0, .int .i64 0, .int .i64 0]) (by kernel_rfl) (by rfl))) (by rfl) (by rfl) ?_
 intro g1 _
 refine go [25,0,14,7,1] ?_
 refine Ls.qE 7 (Ev.loadsB 1 rfl (by rfl) (by rfl) (n := 4) (by kernel_rfl) (by rfl) (by rfl)) ?_
 refine Ls.does (some 3) (Does.alloc (cs := [.slice none 0 0, .int .i64 0, .int .i64 0, .int .i64 0]) rfl (ZeroIs.mk (.agg #[.slice none 0 0, .int .i64 0, .int .i64 0, .int .i64 0]) (by kernel_rfl) (by rfl))) (by rfl) (by rfl) ?_
 intro g2 _
 refine go [15,0,25,7,0,8,0] ?_
 refine Ls.does (some 10) (Does.readN rfl Tryz.func35 (by kernel_rfl) (by kernel_rfl) (cloneT_sl A c m.v.tbs hl) (by rfl) (by rfl) ⟨ReadsIn.rd 3 (by rfl), trivial⟩ (fun _ => by rfl)) (by rfl) (by rfl) ?_
 rintro ⟨qA, qc⟩ -
 refine go [7,0,15,1,25,12,1,4,15,2,2,22] ?_
 exact Ent.rA ((qA, qc)) [0] trivial (Res.cell 2 (by rfl) (by rfl) (by rfl) (n := 4) (by kernel_rfl) (by rfl) (by rfl))
structure EdX where
 A : Option Addr
 c : Nat
 e : EdP
 deriving Inhabited
abbrev EdX.enc (x : EdX) : List Value := x.e.val x.A x.c none 0
abbrev EdX.R (x : EdX) : Chunk := rowTb x.A x.e.add.length x.c x.e.add
abbrev edW (A : Option Addr) (c : Nat) (X : List EdX) : Chunk := row A X.length c 27 5 (X.flatMap EdX.enc)
theorem elem_ed : Elem Tryz.prog 159 27 5 72 := elem_of (by kernel_rfl)
theorem one_ed (X : List EdX) : ∀ u ∈ X.flatMap EdX.enc, u.oneCell' = true := fun u hu => by
 obtain ⟨x, _, hu⟩ := List.mem_flatMap.1 hu
 simp only [List.mem_cons, List.not_mem_nil, or_false] at hu
 rcases hu with rfl | rfl | rfl | rfl | rfl <;> rfl
theorem Sat.rdNilI {Γ : Ctx} {H : List Chunk} {w : World} (h : Sat Γ H w) : Sat Γ (rd none 0 1 (ints []) :: H) w :=
 h.free rfl (fun k hk => absurd hk.1 (Nat.lt_irrefl 0)) ⟨rfl, fun hn => absurd hn (Nat.lt_irrefl 0)⟩
def oneE (t : TbP) : EdP := ⟨[t], [], 0, 0, 0⟩
theorem snap_enc {v : VsP} (hv : goodP v) {e : EdP} (he : e ∈ snapE v) : EncOk e ∧ e.drop = [] ∧ (edB e).length ≤ 4096 := by
 have q1 := hv.1.nx
 have q2 := hv.1.lg
 have q3 := hv.1.sq
 unfold snapE at he
 rcases List.mem_cons.1 he with rfl | he
 · refine ⟨⟨fun t h => absurd h List.not_mem_nil, fun n h => absurd h List.not_mem_nil, by dsimp only; omega, by dsimp only; omega, by dsimp only; omega, Nat.zero_le _, Nat.zero_le _⟩, rfl, ?_⟩
   have h1 := uintL_len64 (n := 0) (by decide)
   have h3 := uintL_len64 (n := v.nx.toNat) (by omega)
   have h4 := uintL_len64 (n := v.lg.toNat) (by omega)
   have h5 := uintL_len64 (n := v.sq.toNat) (by omega)
   unfold edB
   simp only [List.length_append, List.flatMap_nil, List.length_nil]
   omega
 · obtain ⟨t, ht, rfl⟩ := List.mem_map.1 he
   have hk := (hv.tab t ht).tab
   refine ⟨⟨fun u h => by rw [List.mem_singleton.1 h]; exact hk, fun n h => absurd h List.not_mem_nil, by dsimp only; omega, by dsimp only; omega, by dsimp only; omega, by dsimp only [List.length_cons, List.length_nil]; omega, Nat.zero_le _⟩, rfl, ?_⟩
   have h1 := uintL_len64 (n := 0) (by decide)
   have h2 := uintL_len64 (n := 0 + 1) (by decide)
   have h3 := tabB_le hk
   unfold edB
   simp only [List.length_append, List.flatMap_nil, List.flatMap_cons, List.length_nil, List.length_cons]
   have e0 : (0 : Int).toNat = 0 := rfl
   rw [e0]
   omega
theorem encode_yes {e : EdP} (h : EncOk e) (hs : (edB e).length ≤ 4096) (B D : Option Addr) (b d : Nat) : Fn Tryz.prog 48 #[.agg (e.val B b D d).toArray] [rdT B e.add, rd D e.drop.length 1 (ints e.drop)] (Option Addr × Nat) (fun p => .tuple #[.slice p.1 (edB e).length p.2, .int .i64 0]) (fun p => [rowB p.1 p.2 (edB e)]) (fun _ => True) :=
 (encode_sl e h B D b d).turn fun i _ => ⟨i, trivial, by unfold encR; rw [if_neg (by omega)], fun Γ w hw => by unfold encP at hw; rw [if_neg (by omega)] at hw; exact hw⟩
theorem encode_no {e : EdP} (h : EncOk e) (hs : 4096 < (edB e).length) (B D : Option Addr) (b d : Nat) : Fn Tryz.prog 48 #[.agg (e.val B b D d).toArray] [rdT B e.add, rd D e.drop.length 1 (ints e.drop)] Unit (fun _ => .tuple #[.slice none 0 0, .int .i64 3]) (fun _ => []) (fun _ => True) :=
 (encode_sl e h B D b d).turn fun i _ => ⟨(), trivial, by unfold encR; rw [if_pos hs], fun Γ w hw => by unfold encP at hw; rw [if_pos hs] at hw; exact hw⟩
theorem rencode_yes {e : EdP} (h : EncOk e) (hs : (edB e).length ≤ 4096) (B D : Option Addr) (b d : Nat) : Fn Tryz.prog 70 #[.agg (e.val B b D d).toArray] [rdT B e.add, rd D e.drop.length 1 (ints e.drop)] (Option Addr × Nat) (fun p => .tuple #[.slice p.1 (edB e).length p.2, .int .i64 0]) (fun p => [rowB p.1 p.2 (edB e)]) (fun _ => True) :=
 (rencode_sl e h B D b d).turn fun i _ => ⟨i, trivial, by unfold encR; rw [if_neg (by omega)], fun Γ w hw => by unfold encP at hw; rw [if_neg (by omega)] at hw; exact hw⟩
theorem rencode_no {e : EdP} (h : EncOk e) (hs : 4096 < (edB e).length) (B D : Option Addr) (b d : Nat) : Fn Tryz.prog 70 #[.agg (e.val B b D d).toArray] [rdT B e.add, rd D e.drop.length 1 (ints e.drop)] Unit (fun _ => .tuple #[.slice none 0 0, .int .i64 3]) (fun _ => []) (fun _ => True) :=
 (rencode_sl e h B D b d).turn fun i _ => ⟨(), trivial, by unfold encR; rw [if_pos hs], fun Γ w hw => by unfold encP at hw; rw [if_pos hs] at hw; exact hw⟩
theorem sealL_le {l : List UInt8} (h : l.length ≤ 4096) : (sealL l).length ≤ 4110 := sealL_len l h
set_option maxHeartbeats 2000000 in
theorem msnap_sl (v : VsP) (hv : goodP v) (A : Option Addr) (c : Nat) : Fn Tryz.prog 57 #[.agg (v.val A c).toArray] [rdT A v.tbs] (Option Addr × Nat) (fun q => .slice q.1 (snapB v).length q.2) (fun q => [rowB q.1 q.2 (snapB v)]) (fun _ => True) := by
 have hfew := good_few hv
 have hen := fun e => snap_enc hv (e := e)
 have hsl : (snapE v).length ≤ 1000001 := by
  unfold snapE
  rw [List.length_cons, List.length_map]
  omega
 refine Fn.enter Tryz.func57 rfl Tryz.ntmps57 (by rfl) ?_
 intro w0
 refine go [3,4] ?_
 refine Ls.does (some 1) (Does.box rfl (by rfl)) (by rfl) (by rfl) ?_
 intro g1 _
 refine go [5,25,7,1,8,0,7,2,8,0,7,3,8,0] ?_
 refine Ls.qE 19 (Ev.buildP (pl := [(0, 1), (1, 1), (2, 1), (3, 1), (4, 1)]) (zs := [.slice none 0 0, .slice none 0 0, .int .i64 0, .int .i64 0, .int .i64 0]) rfl (by rfl) (by kernel_rfl) (by rfl)) ?_
 refine Ls.does (some 20) (Does.lit (sz := 5) rfl (by rfl) Tryz.underlying159 (by kernel_rfl) (by rfl) (by kernel_rfl)) (by rfl) (by rfl) ?_
 intro g2 _
 refine go [5,2,3,3,4,7,0,8,1] ?_
 refine Ls.qE 23 (Ev.len rfl (by rfl) Tryz.underlying22) ?_
 refine go [0,2,21] ?_
 refine Ent.map (fun w hs => hs.starx_nil) ?_
 refine Ent.nil 42 4 ?_
 refine Ent.map (fun w hs => hs.starx_add rfl) ?_
 refine Ent.pick [1, 0, 2, 3] (by rfl) ?_
 obtain ⟨x0, hx0⟩ : ∃ x0 : EdX, x0 = ⟨none, 0, ⟨[], [], v.nx, v.lg, v.sq⟩⟩ := ⟨_, rfl⟩
 refine Ent.norm ([(1, ptrW g1), (3, .slice (some ⟨g2, 0, none⟩) [x0].length 1), (22, .slice A v.tbs.length c), (23, .int .i64 v.tbs.length), (24, .int .i64 (0 : Nat))]) ([edW (some ⟨g2, 0, none⟩) 1 [x0], starx ([x0].map EdX.R), blk g1 24 (v.val A c), rdT A v.tbs]) (by repeat (first | exact trivial | refine ⟨by rfl, ?_⟩ | refine ⟨by simp only [List.length_append, List.length_cons, List.length_nil]; rfl, ?_⟩ | refine ⟨by push_cast; rfl, ?_⟩)) (by (subst hx0; rfl)) ?_
 refine Cd.loop (ι := Nat × (Option Addr × Nat) × List EdX) (fun p => [(1, ptrW g1), (3, .slice p.2.1.1 p.2.2.length p.2.1.2), (22, .slice A v.tbs.length c), (23, .int .i64 v.tbs.length), (24, .int .i64 p.1)]) (fun p => [edW p.2.1.1 p.2.1.2 p.2.2, starx (p.2.2.map EdX.R), blk g1 24 (v.val A c), rdT A v.tbs]) (fun p => p.1 ≤ v.tbs.length ∧ p.2.2.map EdX.e = ⟨[], [], v.nx, v.lg, v.sq⟩ :: (v.tbs.take p.1).map oneE) (fun p => v.tbs.length - p.1) ((0, (some ⟨g2, 0, none⟩, 1), [x0])) (⟨Nat.zero_le _, by rw [hx0]; rfl⟩) ?_ rfl ?_
 · (repeat (first | exact trivial | refine ⟨by rfl, ?_⟩))
 rintro ⟨k, ⟨wA, wc⟩, X⟩ ⟨hk, hX⟩
 dsimp only at hk hX ⊢
 have hXl : X.length = k + 1 := by
  have := congrArg List.length hX
  rw [List.length_map, List.length_cons, List.length_map, List.length_take] at this
  omega
 refine go [3,4,16,2,3] ?_
 refine Cd.cond _ (by rfl) (fun h2 => ?_) (fun h2 => ?_)
 · have hlt : k < v.tbs.length := by have := of_decide_eq_true h2; omega
   obtain ⟨t, ht⟩ := get_of_lt hlt
   refine Ent.rdSome 3 (by rfl) (by omega) (fun ad had => ?_)
   subst had
   refine go [6,3,21,3,4] ?_
   refine Ls.qE 26 (Ev.indexAt (sz := 4) rfl (by rfl) (by rfl) Tryz.underlying22 (by kernel_rfl) (by omega)) ?_
   refine Ls.qE 27 (Ev.loadEl (enc := TbP.enc) (sz := 4) rfl (by rfl) (ReadsIn.rd 3 (by rfl)) (by kernel_rfl) (fun _ => rfl) ht) ?_
   refine Ls.does (some 5) (Does.alloc (cs := [.int .i64 0, .int .i64 0, .string ⟨#[]⟩, .string ⟨#[]⟩]) rfl (ZeroIs.mk (.agg #[.int .i64 0, .int .i64 0, .string ⟨#[]⟩, .string ⟨#[]⟩]) (by kernel_rfl) (by rfl))) (by rfl) (by rfl) ?_
   intro g3 _
   refine go [15,0,2,4,0,12,0,4] ?_
   refine Ls.does (some 30) (Does.lit (sz := 4) rfl (by rfl) Tryz.underlying22 (by kernel_rfl) (by rfl) (by kernel_rfl)) (by rfl) (by rfl) ?_
   intro g4 _
   refine Ls.qE 31 (Ev.buildP (pl := [(0, 1), (1, 1), (2, 1), (3, 1), (4, 1)]) (zs := [.slice none 0 0, .slice none 0 0, .int .i64 0, .int .i64 0, .int .i64 0]) rfl (by rfl) (by kernel_rfl) (by rfl)) ?_
   refine Ls.does (some 32) (Does.lit (sz := 5) rfl (by rfl) Tryz.underlying159 (by kernel_rfl) (by rfl) (by kernel_rfl)) (by rfl) (by rfl) ?_
   intro g5 _
   obtain ⟨x, hx⟩ : ∃ x : EdX, x = ⟨some ⟨g4, 0, none⟩, 1, oneE t⟩ := ⟨_, rfl⟩
   refine Ls.does (some 33) (Does.app (xs := X.flatMap EdX.enc) (news := EdX.enc ⟨some ⟨g4, 0, none⟩, 1, oneE t⟩) 3 rfl (by rfl) (by rfl) (by rfl) (ReadsIn.row 0 (by rfl)) elem_ed (by simpa using one_ed [⟨some ⟨g4, 0, none⟩, 1, oneE t⟩]) (show (X.length + 1) * 72 ≤ 140737488355328 by omega)) (by rfl) (by rfl) ?_
   rintro ⟨qA, qc⟩ -
   refine go [5,2,4] ?_
   refine Ls.qE 34 (Ev.addN (b := 1) rfl (by rfl) (by rfl) (by omega)) ?_
   refine go [0,2] ?_
   refine Ent.pick [1, 4, 3, 5, 6] (by rfl) ?_
   refine Ent.map (fun w hs => hs.starx_add rfl) ?_
   refine Ent.pick [1, 0, 2, 3] (by rfl) ?_
   refine Ent.inv ((k + 1, (qA, qc), X ++ [x])) ?_ ?_ ?_
   · (try dsimp only); exact ⟨⟨hlt, by rw [List.map_append, hX, List.take_add_one, ht, hx]; simp⟩, by omega⟩
   · (repeat (first | exact trivial | refine ⟨by rfl, ?_⟩ | refine ⟨by simp only [lenS]; rfl, ?_⟩ | refine ⟨by push_cast; rfl, ?_⟩ | refine ⟨by (show some (Value.slice _ _ _) = some (Value.slice _ _ _); rw [List.length_append]; rfl), ?_⟩))
   · (show [_, _, _, _] = [_, _, _, _]; dsimp only [edW]; rw [List.length_append, List.flatMap_append, List.map_append, hx]; rfl)
 have hge : v.tbs.length ≤ k := by have := of_decide_eq_false h2; omega
 rw [List.take_of_length_le hge] at hX
 have hXe : X.map EdX.e = snapE v := hX
 have hmemX : ∀ x ∈ X, EncOk x.e ∧ x.e.drop = [] ∧ (edB x.e).length ≤ 4096 := fun x hx => hen x.e (by rw [← hXe]; exact List.mem_map_of_mem hx)
 have hcat : snapB v = (X.map EdX.e).flatMap fun e => sealL (edB e) := by rw [hXe]; rfl
 have hpre : ∀ k, (((X.take k).map EdX.e).flatMap fun e => sealL (edB e)).length ≤ X.length * 4110 := fun k => by
  have h1 := flat_le (g := fun e => sealL (edB e)) (b := 4110) (l := (X.take k).map EdX.e) (fun e he => by
   obtain ⟨x, hx, rfl⟩ := List.mem_map.1 he
   exact sealL_le (hmemX x (List.mem_of_mem_take hx)).2.2)
  have h2 : ((X.take k).map EdX.e).length * 4110 ≤ X.length * 4110 := Nat.mul_le_mul_right _ (by rw [List.length_map, List.length_take]; omega)
  exact Nat.le_trans h1 h2
 have hX1 : X.length ≤ 1000001 := by omega
 clear hX hen hk hge h2 hXl hsl hXe
 rw [hcat]
 refine Cd.exit ?_
 refine go [3,4,5,2,3,3,4,0] ?_
 refine Ls.qE 36 (Ev.len rfl (by rfl) Tryz.underlying159) ?_
 refine go [0,2,21] ?_
 refine Ent.nil 5 1 ?_
 refine Ent.see 1 (by rfl) ?_
 refine Ent.pick [2, 1, 0] (by rfl) ?_
 refine Ent.map (fun w hs => Sat.starx_see (g := fun x : EdX => rdT x.A x.e.add) (fun _ => rfl) (fun _ w hw => row_rd.1 w hw) (fun _ k hk => row_rd.2 k hk) hs) ?_
 refine Ent.pick [2, 1, 0] (by rfl) ?_
 refine Ent.norm ([(6, .slice none (((X.take 0).map EdX.e).flatMap fun e => sealL (edB e)).length 0), (35, .slice wA X.length wc), (36, .int .i64 X.length), (37, .int .i64 (0 : Nat))]) ([rowB none 0 (((X.take 0).map EdX.e).flatMap fun e => sealL (edB e)), rd wA X.length 5 (X.flatMap EdX.enc), stars (X.map fun x : EdX => rdT x.A x.e.add)]) (by repeat (first | exact trivial | refine ⟨by rfl, ?_⟩ | refine ⟨by simp only [List.length_append, List.length_cons, List.length_nil]; rfl, ?_⟩ | refine ⟨by push_cast; rfl, ?_⟩)) (by rfl) ?_
 refine Cd.loop (ι := Nat × (Option Addr × Nat)) (fun p => [(6, .slice p.2.1 (((X.take p.1).map EdX.e).flatMap fun e => sealL (edB e)).length p.2.2), (35, .slice wA X.length wc), (36, .int .i64 X.length), (37, .int .i64 p.1)]) (fun p => [rowB p.2.1 p.2.2 (((X.take p.1).map EdX.e).flatMap fun e => sealL (edB e)), rd wA X.length 5 (X.flatMap EdX.enc), stars (X.map fun x : EdX => rdT x.A x.e.add)]) (fun p => p.1 ≤ X.length) (fun p => X.length - p.1) ((0, (none, 0))) (Nat.zero_le _) ?_ rfl ?_
 · (repeat (first | exact trivial | refine ⟨by rfl, ?_⟩))
 rintro ⟨j, ⟨oA, oc⟩⟩ hj
 dsimp only at hj ⊢
 have hpj := hpre j
 obtain ⟨O, hO⟩ : ∃ O, O = ((X.take j).map EdX.e).flatMap fun e => sealL (edB e) := ⟨_, rfl⟩
 rw [← hO] at hpj ⊢
 refine go [3,4,16,2,3] ?_
 refine Cd.cond _ (by rfl) (fun h3 => ?_) (fun h3 => ?_)
 · have hlt : j < X.length := by have := of_decide_eq_true h3; omega
   obtain ⟨x, hx⟩ := get_of_lt hlt
   have hxm := List.mem_of_getElem? hx
   obtain ⟨y1, y2, y3⟩ := hmemX x hxm
   have hOx : O ++ sealL (edB x.e) = ((X.take (j + 1)).map EdX.e).flatMap fun e => sealL (edB e) := by
    rw [hO, List.take_add_one, hx]
    simp
   have c1 := encode_yes y1 y3 x.A none x.c 0
   rw [y2] at c1
   have hsx := sealL_le y3
   refine Ent.rdSome 1 (by rfl) (by omega) (fun ad had => ?_)
   subst had
   refine go [6,3,21,3,4] ?_
   refine Ls.qE 39 (Ev.indexAt (sz := 5) rfl (by rfl) (by rfl) Tryz.underlying159 (by kernel_rfl) (by omega)) ?_
   refine Ls.qE 40 (Ev.loadEl (enc := EdX.enc) (sz := 5) rfl (by rfl) (ReadsIn.rd 1 (by rfl)) (by kernel_rfl) (fun _ => rfl) hx) ?_
   refine Ent.map (fun w hs => hs.stars_get (i := 2) (C := rdT x.A x.e.add) rfl (List.mem_map_of_mem (f := fun x : EdX => rdT x.A x.e.add) hxm)) ?_
   refine Ent.map (fun w hs => hs.rdNilI) ?_
   refine Ls.does (some 8) (Does.alloc (cs := [.slice none 0 0, .slice none 0 0, .int .i64 0, .int .i64 0, .int .i64 0]) rfl (ZeroIs.mk (.agg #[.slice none 0 0, .slice none 0 0, .int .i64 0, .int .i64 0, .int .i64 0]) (by kernel_rfl) (by rfl))) (by rfl) (by rfl) ?_
   intro g3 _
   refine go [15,0,25,12,0,5] ?_
   refine Ls.does (some 43) (Does.readN rfl Tryz.func48 (by kernel_rfl) (by kernel_rfl) (c1) (by rfl) (by rfl) ⟨ReadsIn.rd 2 (by rfl), ReadsIn.rd 1 (by rfl), trivial⟩ (fun _ => by rfl)) (by rfl) (by rfl) ?_
   rintro ⟨eA, ec⟩ -
   refine Ent.see 0 (by rfl) ?_
   refine go [0,11,11,5,5,25,0] ?_
   refine Ls.does (some 48) (Does.readN rfl Tryz.func50 (by kernel_rfl) (by kernel_rfl) (seal_sl eA ec (edB x.e) y3) (by rfl) (by rfl) ⟨ReadsIn.rd 0 (by rfl), trivial⟩ (fun _ => by rfl)) (by rfl) (by rfl) ?_
   rintro ⟨sA, sc⟩ -
   refine go [0,11,11,5,5,2,4,0,0] ?_
   refine Ls.does (some 53) (Does.appB 5 rfl (by rfl) (by rfl) (by rfl) (ReadsIn.row 0 (by rfl)) (by omega)) (by rfl) (by rfl) ?_
   rw [hOx]
   rintro ⟨q, qq⟩ -
   refine go [5,2,4] ?_
   refine Ls.qE 54 (Ev.addN (b := 1) rfl (by rfl) (by rfl) (by omega)) ?_
   refine go [0,2] ?_
   refine Ent.pick [5, 6, 7] (by rfl) ?_
   refine Ent.iA ((j + 1, (q, qq))) ?_
   (try dsimp only); exact ⟨hlt, by omega⟩
 · have hge : X.length ≤ j := by have := of_decide_eq_false h3; omega
   rw [List.take_of_length_le hge] at hO
   refine Cd.exit ?_
   refine go [3,4,0,5,2] ?_
   rw [← hO]
   refine Cd.ret ?_
   exact Ent.rA ((oA, oc)) [0] trivial rT_
section
variable {P : Program} {w : World} {k e t : TypeId} {b : Nat} {z : Value} {ks : List (List UInt8)} {f : List UInt8 → Value}
theorem MapT.set_ (h : MapT w P k b z ks f) (hk : P.underlying k = some .string) (ht : P.underlying t = some (.map k e)) (hn : ks.length < maxLen) {x : List UInt8} (hx : x.length ≤ maxLen) (hm : x ∈ ks) (v : Value) :
 ∃ w', (Instr.mapUpdate t (.map (some b)) (.string (txt x)) v).run P w = .ok () w' ∧ MapT w' P k b z ks (fun y => if y = x then v else f y) ∧ Upd (fun k => k = b) w w' := by
 obtain ⟨D, h, hnd, h2, h3⟩ := h
 have K := Maps.string_keyed hk
 have hD : Maps.IsMap D := by
  obtain ⟨es, clock, _, _, _, rfl⟩ := h
  exact ⟨_, rfl⟩
 obtain ⟨w', h4, h5, h6⟩ := h.update K ht hn (d := .held v) (ps := []) (val := v) (keyT hk hx) rfl
 have hkl := K.key (keyT hk hx)
 have hhas : ∀ y, Maps.has (D.put (.string x) (.held v)) (.string y) = decide (y ∈ ks) := fun y => by
  by_cases he : y = x
  · subst he
    rw [Maps.has_put_same hD hkl]
    simp [hm]
  · rw [Maps.has_put_other (fun h => by injection h with h; exact he h), h2 y]
 have hsz := (perm_of h5 hk hnd hhas).2
 refine ⟨w', h4, ⟨_, hsz ▸ owns_size h5, hnd, hhas, fun y hy => ?_⟩, (Upd.refl (fun k => k = b) w).grown h6 (fun k e _ => by injection e with e; exact e.symm)⟩
 by_cases he : y = x
 · subst he
   dsimp only
   rw [if_pos rfl]
   exact Maps.atKey_put_same hD hkl _ _
 · dsimp only
   rw [if_neg he, Maps.atKey_put_other (fun h => by injection h with h; exact he h)]
   exact h3 y hy
end
section
variable {Γ : Ctx} {N : Frm} {P : Program} {E : Env} {H : List Chunk} {o : Oper} {x y u : Operand} {k e t : TypeId} {b : Nat} {z : Value} {ks : List (List UInt8)} {f : List UInt8 → Value} {q : List UInt8}
theorem Does.setT (i : Nat) {v : Value} (ho : o.op = .mapUpdate t x y u) (hx : E.ev x = some (.map (some b))) (hy : E.ev y = some (.string (txt q))) (hu : E.ev u = some v) (hi : H[i]? = some (mapt P k b z ks f)) (hk : P.underlying k = some .string) (ht : P.underlying t = some (.map k e)) (hn : ks.length ≤ 1000000) (hq : q.length ≤ maxLen) :
 Does Γ N P E H o Unit (fun _ => undef) (fun _ => H.set i (mapt P k b z (if q ∈ ks then ks else ks ++ [q]) (fun y => if y = q then v else f y))) (fun _ => True) := by
 by_cases hm : q ∈ ks
 · rw [if_pos hm]
   exact .of fun ρ hρ w hs => by
    obtain ⟨w', hrun, h1, h2⟩ := MapT.set_ (hs.mem hi) hk ht (show ks.length < maxLen by unfold maxLen; omega) hq hm v
    refine ⟨(), w', trivial, hs.turn hi rfl h2 h1 (fun k hk => .inl hk), .inr ⟨rfl, ?_⟩⟩
    simp [execOp, ho, hρ x _ hx, hρ y _ hy, hρ u _ hu, hrun]
 · rw [if_neg hm]
   exact Does.putT i ho hx hy hu hi hk ht hn hq hm
end
section
variable {α : Type} {nm : α → List UInt8}
theorem putG_del {f : α} : ∀ {l : List α}, Rise nm l → putG nm f (delG nm (nm f) l) = putG nm f l
 | [], _ => rfl
 | y :: l, h => by
  have ih := putG_del (f := f) h.tail
  by_cases hy : nm y = nm f
  · have hd : delG nm (nm f) (y :: l) = delG nm (nm f) l := by
     unfold delG
     rw [List.filter_cons_of_neg (by simp [hy])]
    have hs : delG nm (nm f) l = l := List.filter_eq_self.2 fun x hx => by
     have := h.head x hx
     rw [hy] at this
     simpa using (lt_ne this).symm
    rw [hd, hs, putG, if_neg (by rw [hy]; exact List.lt_irrefl _), if_pos hy]
    cases l with
    | nil => rfl
    | cons x l =>
     have hx := h.head x List.mem_cons_self
     rw [hy] at hx
     rw [putG, if_neg (fun e => List.lt_irrefl _ (List.lt_trans hx e)), if_neg (lt_ne hx).symm]
  · have hd : delG nm (nm f) (y :: l) = y :: delG nm (nm f) l := by
     unfold delG
     rw [List.filter_cons_of_pos (by simp [hy])]
    rw [hd, putG, putG, if_neg hy, if_neg hy, ih]
    split
    · rfl
    · rename_i hlt
      have hs : delG nm (nm f) l = l := List.filter_eq_self.2 fun x hx => by
       have h1 := h.head x hx
       have h2 : nm f < nm y := ((lt_tri (nm y) (nm f)).resolve_left hlt).resolve_left hy
       simpa using (lt_ne (List.lt_trans h2 h1)).symm
      rw [hs]
theorem putG_perm {f : α} {l : List α} (h : Rise nm l) : (putG nm f l).Perm (f :: delG nm (nm f) l) := by
 rw [← putG_del h]
 exact put_perm (by rw [findG_del, if_pos rfl])
end
theorem put_keys {l : List FiS} (hl : Rise FiS.nm l) (f : FiS) : (if f.nm ∈ l.map FiS.nm then l.map FiS.nm else l.map FiS.nm ++ [f.nm]).Perm ((putG FiS.nm f l).map FiS.nm) := by
 cases hf : findF l f.nm with
 | some g =>
  obtain ⟨h1, h2⟩ := findG_some hf
  rw [if_pos (List.mem_map.2 ⟨g, h1, h2⟩)]
  obtain ⟨a, b, hD, hP⟩ := put_split hl hf
  rw [hP f rfl, hD, List.map_append, List.map_append, List.map_cons, List.map_cons, h2]
 | none =>
  rw [if_neg (not_mem_of_find hf)]
  exact List.perm_append_comm.trans (((put_perm (nm := FiS.nm) (f := f) hf).map FiS.nm).symm)
theorem fil_ren {Γ : Ctx} {H : List Chunk} {w : World} {l : List FiS} (hl : Rise FiS.nm l) {q : List UInt8} {f : FiS} (hf : findF l q = some f) (p : List UInt8) (h : Sat Γ (filX l :: H) w) : Sat Γ (filX (putG FiS.nm ⟨{ f.p with nm := p }, f.g, f.A, f.c⟩ (delG FiS.nm q l)) :: H) w := by
 obtain ⟨a, b, hD, hP⟩ := put_split hl hf
 have hq := (findG_some hf).2
 have h1 : l.Perm (f :: delG FiS.nm q l) := by
  have := putG_perm (f := f) hl
  rw [hP f hq, ← hD, hq] at this
  exact this
 have h2 := fil_perm h1 h
 have h3 : (f :: delG FiS.nm p (delG FiS.nm q l)).Sublist (f :: delG FiS.nm q l) := List.Sublist.cons_cons f List.filter_sublist
 have h4 := starx_sub (l' := (f :: delG FiS.nm p (delG FiS.nm q l)).flatMap fun f => [f.B, f.R]) (flat_sub h3) h2
 have h5 : Sat Γ (filX (⟨{ f.p with nm := p }, f.g, f.A, f.c⟩ :: delG FiS.nm p (delG FiS.nm q l)) :: H) w := h4
 exact fil_perm (putG_perm (f := (⟨{ f.p with nm := p }, f.g, f.A, f.c⟩ : FiS)) (delG_rise hl)).symm h5
section
variable {D : DrS} {P : DrP}
set_option maxHeartbeats 1000000 in
theorem rename_sl (h : Drv D P) (q p : List UInt8) (hq : Good q) (hp : Good p) (hok : (P.rename q p).1.Ok) : Fn Tryz.prog 106 #[D.ptr, .string (txt q), .string (txt p)] [D.B, D.M, D.F] DrS (fun _ => .int .i64 (P.rename q p).2) (fun D' => [D'.B, D'.M, D'.F]) (fun D' => Drv D' (P.rename q p).1 ∧ D'.d = D.d ∧ D'.m = D.m) := by
 have hl := hq.len
 have hpl := hp.len
 have hgp := good_sl p
 rw [decide_eq_true hp] at hgp
 unfold DrP.rename at hok ⊢
 rw [if_neg (show ¬ ¬ Good p from fun e => e hp)] at hok ⊢
 cases hf : P.find q with
 | none =>
  have hf2 := h.miss hf
  dsimp only
  rw [if_pos hq]
  refine Fn.enter Tryz.func106 rfl Tryz.ntmps106 (by rfl) ?_
  intro w0
  refine go [3,4,5,25,0,0] ?_
  refine Ls.does (some 12) (Does.read rfl Tryz.func86 (by kernel_rfl) (by kernel_rfl) (find_miss D q hq hf2) (by rfl) (by rfl) ⟨blkIn 0 (by rfl), mapIn 1 (by rfl), trivial⟩) (by rfl) (by rfl) ?_
  rintro _ -
  refine go [0,11,11,5,5,2,3,3,4,0] ?_
  refine Ls.does (some 16) (Does.read rfl Tryz.func60 (by kernel_rfl) (by kernel_rfl) (hgp) (by rfl) (by rfl) trivial) (by rfl) (by rfl) ?_
  rintro _ -
  refine go [20,2,24,6,3,3,4,0,19,2] ?_
  refine Cd.cond_false (by rfl) (decide_eq_false (show ¬ ((4 : Int) = 0) by decide)) ?_
  refine go [6,3,3,4,0,19,2] ?_
  refine Cd.cond_false (by rfl) (decide_eq_false (show ¬ ((4 : Int) = 0) by decide)) ?_
  refine go [6,3,4,0,5,2,22] ?_
  exact Ent.rA (D) [0,1,2] (⟨h, rfl, rfl⟩) rT_
 | some f0 =>
  obtain ⟨f, hf2, rfl⟩ := h.hit hf
  rw [hf] at hok
  by_cases hd : P.dead = true
  · dsimp only
    rw [if_pos hd]
    refine Fn.enter Tryz.func106 rfl Tryz.ntmps106 (by rfl) ?_
    intro w0
    refine go [3,4,5,25,0,0] ?_
    refine Ls.does (some 12) (Does.read rfl Tryz.func86 (by kernel_rfl) (by kernel_rfl) (find_hit D q hq f hf2) (by rfl) (by rfl) ⟨blkIn 0 (by rfl), mapIn 1 (by rfl), trivial⟩) (by rfl) (by rfl) ?_
    rintro _ -
    refine go [0,11,11,5,5,2,3,3,4,0] ?_
    refine Ls.does (some 16) (Does.read rfl Tryz.func60 (by kernel_rfl) (by kernel_rfl) (hgp) (by rfl) (by rfl) trivial) (by rfl) (by rfl) ?_
    rintro _ -
    refine go [20,2,24,6,3,3,4,0,19,2] ?_
    refine Cd.cond_true (by rfl) (decide_eq_true rfl) ?_
    refine go [4,0] ?_
    refine Ls.does (some 21) (Does.read rfl Tryz.func98 (by kernel_rfl) (by kernel_rfl) (step_dead h hd) (by rfl) (by rfl) ⟨blkIn 0 (by rfl), trivial⟩) (by rfl) (by rfl) ?_
    rintro _ -
    refine go [5,2,3,3,4,0,19,2] ?_
    refine Cd.cond_false (by rfl) (decide_eq_false (show ¬ ((6 : Int) = 0) by decide)) ?_
    refine go [6,3,4,0,5,2,22] ?_
    exact Ent.rA (D) [0,1,2] (⟨h, rfl, rfl⟩) rT_
  · have hd : P.dead = false := by simpa using hd
    rw [hd] at hok ⊢
    dsimp only at hok ⊢
    rw [if_neg (by decide)] at hok ⊢
    have hnl : D.fs.length ≤ 256 := by rw [h.len]; exact h.ok.len
    refine Fn.enter Tryz.func106 rfl Tryz.ntmps106 (by rfl) ?_
    intro w0
    refine go [3,4,5,25,0,0] ?_
    refine Ls.does (some 12) (Does.read rfl Tryz.func86 (by kernel_rfl) (by kernel_rfl) (find_hit D q hq f hf2) (by rfl) (by rfl) ⟨blkIn 0 (by rfl), mapIn 1 (by rfl), trivial⟩) (by rfl) (by rfl) ?_
    rintro _ -
    refine go [0,11,11,5,5,2,3,3,4,0] ?_
    refine Ls.does (some 16) (Does.read rfl Tryz.func60 (by kernel_rfl) (by kernel_rfl) (hgp) (by rfl) (by rfl) trivial) (by rfl) (by rfl) ?_
    rintro _ -
    refine go [20,2,24,6,3,3,4,0,19,2] ?_
    refine Cd.cond_true (by rfl) (decide_eq_true rfl) ?_
    refine go [4,0] ?_
    refine Ls.does (some 21) (Does.call [0, 1, 2] rfl Tryz.func98 (by kernel_rfl) (by kernel_rfl) (step_ok h hd) (by rfl) (by rfl) (by rfl)) (by rfl) (by rfl) ?_
    rintro _ -
    refine go [5,2,3,3,4,0,19,2] ?_
    refine Cd.cond_true (by rfl) (decide_eq_true rfl) ?_
    refine go [3,4,0,14,7,0,8,0,0] ?_
    refine Ls.qD (Does.delT 1 rfl (by rfl) (by rfl) (by rfl) Tryz.underlying9 Tryz.underlying86 (by unfold maxLen; omega)) ?_
    rintro _ -
    refine go [2,4,0,14,7,0,8,0,0,0] ?_
    refine Ls.qD (Does.setT 1 rfl (by rfl) (by rfl) (by rfl) (by rfl) Tryz.underlying9 Tryz.underlying86 (Nat.le_trans (List.length_filter_le _ _) (by rw [List.length_map]; omega)) (by unfold maxLen; omega)) ?_
    rintro _ -
    refine go [25,0,5,2] ?_
    obtain ⟨f', hf'⟩ : ∃ f' : FiS, f' = ⟨{ f.p with nm := p }, f.g, f.A, f.c⟩ := ⟨_, rfl⟩
    have hfn : f'.nm = p := by rw [hf']
    have hfg : f'.g = f.g := by rw [hf']
    have hrl : Rise FiS.nm (delG FiS.nm q D.fs) := delG_rise h.rise
    refine Ent.pick [1, 0, 2] (by rfl) ?_
    refine Ent.map (fun w hs => mapt_perm (ks' := (putG FiS.nm f' (delG FiS.nm q D.fs)).map FiS.nm) (f' := ptrF (putG FiS.nm f' (delG FiS.nm q D.fs))) (by rw [← del_names, ← hfn]; exact put_keys hrl f') (fun x hx => by
     rw [ptrF_put hrl f' x, hfn, hfg]
     by_cases hxp : x = p
     · rw [if_pos hxp, if_pos hxp]
       rfl
     · rw [if_neg hxp, if_neg hxp]
       have hx2 := (put_keys hrl f').mem_iff.2 hx
       have hx3 : x ∈ (delG FiS.nm q D.fs).map FiS.nm := by
        split at hx2
        · exact hx2
        · rcases List.mem_append.1 hx2 with hx2 | hx2
          · exact hx2
          · exact absurd ((List.mem_singleton.1 hx2).trans hfn) hxp
       refine ptrF_del (fun e => ?_)
       rw [del_names, e] at hx3
       simp at hx3) hs) ?_
    refine Ent.pick [2, 1, 0] (by rfl) ?_
    refine Ent.map (fun w hs => fil_ren h.rise hf2 p hs) ?_
    rw [← hf']
    have hdrv : Drv { D.stepD with fs := putG FiS.nm f' (delG FiS.nm q D.fs) } ((P.step.without q).put { f.p with nm := p }) := by
     have := ((h.step hd).without q).put (f := f') (by rw [hf']; exact hok)
     rw [hf'] at this ⊢
     exact this
    refine Cd.ret ?_
    exact Ent.rA ({ D.stepD with fs := putG FiS.nm f' (delG FiS.nm q D.fs) }) [1,2,0] (⟨hdrv, rfl, rfl⟩) rT_
end
end Go.Proofs.YtacbkganjkipdaaGreatDoor
namespace Go.Proofs.YtacbkganjkipdaaGreatDoor
section
variable {Γ : Ctx} {N : Frm} {P : Program} {E : Env} {H : List Chunk} {o : Oper} {x : Operand}
theorem Sat.under {w w' : World} (h : Sat Γ H w) (hu : Upd (fun _ => False) w w') {C : Chunk} (hh : C.holds w') (hf : ∀ k, C.foot k → w.heap.size ≤ k) : Sat Γ (C :: H) w' := by
 have hlt : ∀ C ∈ H, ∀ k, C.foot k → k < w.heap.size := fun C hC k hk => C.lt w k (h.sat.1 C hC) hk
 refine ⟨h.upd.trans hu (fun _ _ h => h.elim), ⟨fun D hD => ?_, List.Pairwise.cons (fun D hD _ k hk hk' => ?_) h.sat.2⟩, fun D hD => ?_⟩
 · rcases List.mem_cons.1 hD with rfl | hD
   · exact hh
   · exact D.loc w _ hu.size (fun k hk => hu.block k (hlt D hD k hk) (fun h => h)) (h.sat.1 D hD)
 · have := hlt D hD k hk'
   have := hf k hk
   omega
 · rcases List.mem_cons.1 hD with rfl | hD
   · intro k hk hk'
     have := hf k hk
     exact absurd h.upd.size (by omega)
   · exact h.fits D hD
theorem Does.bytesOf {s d e : TypeId} {u : TypeDesc} {l : List UInt8} (ho : o.op = .convert s d x) (hx : E.ev x = some (.string ⟨l.toArray⟩)) (hs : P.underlying s = some u) (hd : P.underlying d = some (.slice e)) (he : P.underlying e = some (.int .u8)) (hl : l.length ≤ maxLen) :
 Does Γ N P E H o (Nat × Nat) (fun p => .slice (some ⟨p.1, 0, none⟩) l.length p.2) (fun p => rd (some ⟨p.1, 0, none⟩) l.length 1 (u8s l) :: H) (fun p => l.length ≤ p.2 ∧ p.2 ≤ maxLen) := .of fun ρ hρ w hsat => by
 have hrun := Lib.run_convert_string_bytes w s d e (⟨l.toArray⟩ : ByteArray) hs hd he
 have hsz : (⟨l.toArray⟩ : ByteArray).size = l.length := rfl
 rw [hsz] at hrun
 refine ⟨(w.heap.size, grownCap w l.length 0 e), Lib.bytesWorld w e ⟨l.toArray⟩, ⟨grownCap_ge _ _ _ _, grownCap_le_maxLen _ _ _ _ hl⟩, ?_, .inl (by simp [execOp, ho, hρ x _ hx, hrun])⟩
 have hu : Upd (fun _ => False) w (Lib.bytesWorld w e ⟨l.toArray⟩) := ⟨rfl, rfl, rfl, by rw [Lib.bytesWorld_size]; omega, fun k hk _ => Lib.bytesWorld_at_old w e _ k hk⟩
 refine hsat.under hu (C := rd (some ⟨w.heap.size, 0, none⟩) l.length 1 (u8s l)) ⟨by simp [u8s], fun hn0 => ⟨_, rfl, by rw [Lib.bytesWorld_size]; exact Nat.lt_succ_self _, fun j v hv => ?_⟩⟩ (fun k hk => ?_)
 · have hj : j < l.length := by
    have := (List.getElem?_eq_some_iff.1 hv).1
    simpa [u8s] using this
   have hc := Lib.bytesWorld_cell w e (⟨l.toArray⟩ : ByteArray) j hj
   rw [add_at, Nat.zero_add]
   rw [hc]
   rw [← hv]
   simp [u8s, List.getD, List.getElem?_eq_getElem hj]
 · obtain rfl : w.heap.size = k := by simpa [blockOf] using hk.2
   exact Nat.le_refl _
end
end Go.Proofs.YtacbkganjkipdaaGreatDoor
namespace Go.Proofs.YtacbkganjkipdaaGreatDoor
open Go.RowKit
def Cov (Cs : List Chunk) (C : Chunk) : Prop := C.excl = false ∧ (∀ w, (stars Cs).holds w → C.holds w) ∧ ∀ k, C.foot k → (stars Cs).foot k
theorem Cov.mem {Cs : List Chunk} {C : Chunk} (he : C.excl = false) (h : C ∈ Cs) : Cov Cs C := ⟨he, fun _ hw => (hw C h).2, fun _ hk => ⟨C, h, hk⟩⟩
theorem Cov.stars {Cs Ds : List Chunk} {C : Chunk} (he : C.excl = false) (h : Go.Proofs.YtacbkganjkipdaaGreatDoor.stars Ds ∈ Cs) (hC : C ∈ Ds) : Cov Cs C := ⟨he, fun _ hw => ((hw _ h).2 C hC).2, fun _ hk => ⟨_, h, ⟨C, hC, hk⟩⟩⟩
theorem Fn.cov {P : Program} {f : FuncId} {args : Array Value} {Hr Dp Cs : List Chunk} {ι : Type} {res : ι → Value} {H' : ι → List Chunk} {φ : ι → Prop} (h : Fn P f args (Hr ++ Dp) ι res H' φ) (hc : ∀ C ∈ Hr, Cov Cs C) : Fn P f args (stars Cs :: Dp) ι res H' φ := fun w hs => by
 obtain ⟨hh, hp⟩ := hs
 obtain ⟨hp1, hp2⟩ := List.pairwise_cons.1 hp
 have hst : (stars Cs).holds w := hh _ List.mem_cons_self
 have hs2 : Sat0 (Hr ++ Dp) w := by
  refine ⟨fun C hC => ?_, List.pairwise_append.2 ⟨?_, hp2, fun C hC D hD he k hk hk' => ?_⟩⟩
  · rcases List.mem_append.1 hC with hC | hC
    · exact (hc C hC).2.1 w hst
    · exact hh C (List.mem_cons_of_mem _ hC)
  · rw [List.pairwise_iff_getElem]
    intro i j hi hj _ he
    rw [(hc _ (List.getElem_mem hi)).1, (hc _ (List.getElem_mem hj)).1] at he
    rcases he with he | he <;> cases he
  · rw [(hc C hC).1] at he
    rcases he with he | he
    · cases he
    · exact hp1 D hD (.inr he) k ((hc C hC).2.2 k hk) hk'
 refine (h w hs2).mono fun e w' ⟨i, h1, h2, h3⟩ => ⟨i, h1, h2, ?_⟩
 have hS : ∀ k, Ctx.S ⟨w, Hr ++ Dp⟩ k → Ctx.S ⟨w, stars Cs :: Dp⟩ k := fun k ⟨D, hD, he, hk⟩ => by
  rcases List.mem_append.1 hD with hD | hD
  · rw [(hc D hD).1] at he
    cases he
  · exact ⟨D, List.mem_cons_of_mem _ hD, he, hk⟩
 refine ⟨h3.upd.mono fun k _ => hS k, h3.sat, fun C hC k hk hl => ?_⟩
 obtain ⟨⟨D, hD, hk2⟩, h5⟩ := h3.fits C hC k hk hl
 refine ⟨?_, fun he => hS k (h5 he)⟩
 rcases List.mem_append.1 hD with hD | hD
 · exact ⟨stars Cs, List.mem_cons_self, (hc D hD).2.2 k hk2⟩
 · exact ⟨D, List.mem_cons_of_mem _ hD, hk2⟩
def StepOk (d m : Nat) (Cs : List Chunk) (v : Value) (f : DrP → DrP × Int) : Prop := ∀ (D : DrS) (P : DrP), Drv D P → D.d = d → D.m = m → FnV Tryz.prog v [] [stars Cs, D.B, D.M, D.F] DrS (fun _ => .int .i64 (f P).2) (fun D' => [D'.B, D'.M, D'.F]) (fun D' => Drv D' (f P).1 ∧ D'.d = d ∧ D'.m = m)
structure StP where
 v : Value
 f : DrP → DrP × Int
 one : v.oneCell' = true
theorem elem_fn : Elem Tryz.prog 157 103 1 8 := elem_of (by kernel_rfl)
theorem one_fn (L : List StP) : ∀ u ∈ L.map StP.v, u.oneCell' = true := fun u hu => by
 obtain ⟨x, _, rfl⟩ := List.mem_map.1 hu
 exact x.one
theorem runP_step {fs : List (DrP → DrP × Int)} {f : DrP → DrP × Int} {k : Nat} {P : DrP} (h : fs[k]? = some f) : runP (fs.drop k) P = if (f P).2 ≠ 0 then f P else runP (fs.drop (k + 1)) (f P).1 := by
 obtain ⟨h1, h2⟩ := List.getElem?_eq_some_iff.1 h
 rw [List.drop_eq_getElem_cons h1, h2, runP]
theorem msteps_sl {d m : Nat} {Cs : List Chunk} (L : List StP) (hL : ∀ s ∈ L, StepOk d m Cs s.v s.f) (hn : L.length ≤ 1000000) {D : DrS} {P : DrP} (h : Drv D P) (hd : D.d = d) (hm : D.m = m) (A : Option Addr) (c : Nat) :
 Fn Tryz.prog 51 #[.slice A L.length c] [rd A L.length 1 (L.map StP.v), stars Cs, D.B, D.M, D.F] DrS (fun _ => .int .i64 (runP (L.map StP.f) P).2) (fun D' => [D'.B, D'.M, D'.F]) (fun D' => Drv D' (runP (L.map StP.f) P).1 ∧ D'.d = d ∧ D'.m = m) := by
 refine Fn.enter Tryz.func51 rfl Tryz.ntmps51 (by rfl) ?_
 intro w0
 refine go [3,4,5,2,3,3,4,0] ?_
 refine Ls.qE 7 (Ev.len rfl (by rfl) Tryz.underlying157) ?_
 refine go [0,2,21] ?_
 refine Cd.loop (ι := Nat × DrS × DrP) (fun p => [(6, .slice A L.length c), (7, .int .i64 L.length), (8, .int .i64 p.1)]) (fun p => [rd A L.length 1 (L.map StP.v), stars Cs, p.2.1.B, p.2.1.M, p.2.1.F]) (fun p => (p.1 ≤ L.length ∧ Drv p.2.1 p.2.2 ∧ p.2.1.d = d ∧ p.2.1.m = m) ∧ runP (L.map StP.f) P = runP ((L.map StP.f).drop p.1) p.2.2) (fun p => L.length - p.1) ((0, D, P)) (⟨⟨Nat.zero_le _, h, hd, hm⟩, by rw [List.drop_zero]⟩) ?_ rfl ?_
 · (repeat (first | exact trivial | refine ⟨by rfl, ?_⟩))
 clear h hd hm
 rintro ⟨k, D1, Q⟩ ⟨⟨hk, h, hd, hm⟩, hrun⟩
 dsimp only at hk h hd hm hrun ⊢
 refine go [3,4,16,2,3] ?_
 refine Cd.cond _ (by rfl) (fun h2 => ?_) (fun h2 => ?_)
 · have hlt : k < L.length := by have := of_decide_eq_true h2; omega
   obtain ⟨s, hs⟩ := get_of_lt hlt
   have hv : (L.map StP.v)[k * 1]? = some s.v := by rw [Nat.mul_one, List.getElem?_map, hs]; rfl
   have hf : (L.map StP.f)[k]? = some s.f := by rw [List.getElem?_map, hs]; rfl
   have hsv := hL s (List.mem_of_getElem? hs) D1 Q h hd hm
   rw [runP_step hf] at hrun
   refine Ent.rdSome 0 (by rfl) (by omega) (fun ad had => ?_)
   subst had
   refine go [6,3,21,3,4] ?_
   refine Ls.qE 10 (Ev.indexAt (sz := 1) rfl (by rfl) (by rfl) Tryz.underlying157 (by kernel_rfl) (by omega)) ?_
   refine Ls.qE 11 (Ev.loadR 0 rfl (by rfl) (by rfl) (by kernel_rfl) (by omega) (by assumption)) ?_
   refine go [5,2,3] ?_
   refine Cd.regionI ?_
   refine Li.ev (some 12) (Ev.move rfl (by rfl)) (by rfl) (by rfl) ?_
   refine Li.does (some 13) (Does.callV [1, 2, 3, 4, 0, 1] rfl (by rfl) (hsv) (by rfl) (by rfl) (by rfl)) (by rfl) (by rfl) ?_
   rintro D' ⟨h', hd', hm'⟩
   refine Li.ev (some 5) (Ev.assign rfl (by rfl)) (by rfl) (by rfl) ?_
   refine Li.nil ?_
   refine go [3,4,0,17,2] ?_
   by_cases hz : (s.f Q).2 = 0
   · rw [if_neg (fun e => e hz)] at hrun
     refine Cd.cond_false (by rfl) (decide_eq_false (show ¬ ((s.f Q).2 ≠ 0) from fun e => e hz)) ?_
     refine go [6,4] ?_
     refine Ls.qE 17 (Ev.addN (b := 1) rfl (by rfl) (by rfl) (by omega)) ?_
     refine go [0,2] ?_
     refine Ent.pick [3, 4, 0, 1, 2] (by rfl) ?_
     refine Ent.iA ((k + 1, D', (s.f Q).1)) ?_
     (try dsimp only); exact ⟨⟨⟨hlt, h', hd', hm'⟩, hrun⟩, by omega⟩
   · rw [if_pos hz] at hrun
     rw [hrun]
     refine Cd.cond_true (by rfl) (decide_eq_true hz) ?_
     refine go [3,4,0,5,2,22] ?_
     exact Ent.rA (D') [0,1,2] (⟨h', hd', hm'⟩) rT_
 · have hge : L.length ≤ k := by have := of_decide_eq_false h2; omega
   rw [List.drop_of_length_le (by rw [List.length_map]; omega), runP] at hrun
   rw [hrun]
   refine Cd.exit ?_
   refine go [3,4,5,2,22] ?_
   exact Ent.rA (D1) [2,3,4] (⟨h, hd, hm⟩) rT_
abbrev bxD (g d : Nat) : Chunk := rblk g 37 [ptrV d]
abbrev bxT (g : Nat) (q : List UInt8) : Chunk := rblk g 9 [.string (txt q)]
abbrev bxB (g : Nat) (A : Option Addr) (n c : Nat) : Chunk := rblk g 47 [.slice A n c]
abbrev clV (f : Nat) (caps : List Value) : Value := .func (.func f) #[] caps.toArray
theorem step_of {d m : Nat} {Cs : List Chunk} {f : Nat} {fn : Func} {caps : List Value} {g : DrP → DrP × Int} (hf : Tryz.prog.funcs[f]? = some fn) (h1 : (fn.name == "runtime.NumGoroutine") = false) (h2 : fn.body.isNone = false) (Hr : DrS → List Chunk) (hc : ∀ D : DrS, D.d = d → ∀ C ∈ Hr D, Cov Cs C)
 (h : ∀ (D : DrS) (P : DrP), Drv D P → Fn Tryz.prog f caps.toArray (Hr D ++ [D.B, D.M, D.F]) DrS (fun _ => .int .i64 (g P).2) (fun D' => [D'.B, D'.M, D'.F]) (fun D' => Drv D' (g P).1 ∧ D'.d = D.d ∧ D'.m = D.m)) : StepOk d m Cs (clV f caps) g := fun D P hD hd hm =>
 ⟨f, fn, caps, rfl, hf, h1, h2, (Fn.cov (h D P hD) (hc D hd)).turn fun D' ⟨x, y, z⟩ => ⟨D', ⟨x, y.trans hd, z.trans hm⟩, rfl, fun _ _ hs => hs⟩⟩
section
variable {D : DrS} {P : DrP}
theorem sw1_sl (h : Drv D P) (g : Nat) : Fn Tryz.prog 99 #[ptrV g] [bxD g D.d, D.B, D.M, D.F] DrS (fun _ => .int .i64 (P.delete qTmp).2) (fun D' => [D'.B, D'.M, D'.F]) (fun D' => Drv D' (P.delete qTmp).1 ∧ D'.d = D.d ∧ D'.m = D.m) := by
 refine Fn.enter Tryz.func99 rfl Tryz.ntmps99 (by rfl) ?_
 intro w0
 refine go [3,4,5,25,13,0] ?_
 refine Ls.does (some 3) (Does.call [1, 2, 3] rfl Tryz.func100 (by kernel_rfl) (by kernel_rfl) (delete_sl h qTmp qTmp_good) (by rfl) (by rfl) (by rfl)) (by rfl) (by rfl) ?_
 rintro D' ⟨h', hd, hm⟩
 refine go [5,2,22] ?_
 exact Ent.rA (D') [0,1,2] (⟨h', hd, hm⟩) rT_
theorem sw2_sl (h : Drv D P) (g gl gb : Nat) (q : List UInt8) (hq : Good q) (A : Option Addr) (c : Nat) (l : List UInt8) (hl : l.length ≤ 1099511627776) : Fn Tryz.prog 101 #[ptrV g, ptrV gl, ptrV gb] [bxD g D.d, bxT gl q, bxB gb A l.length c, rdB A l, D.B, D.M, D.F] DrS (fun _ => .int .i64 (P.append q l).2) (fun D' => [D'.B, D'.M, D'.F]) (fun D' => Drv D' (P.append q l).1 ∧ D'.d = D.d ∧ D'.m = D.m) := by
 refine Fn.enter Tryz.func101 rfl Tryz.ntmps101 (by rfl) ?_
 intro w0
 refine go [3,4,5,25,13,0,13,1,13,2] ?_
 refine Ls.does (some 7) (Does.call [4, 5, 6, 3] rfl Tryz.func53 (by kernel_rfl) (by kernel_rfl) (append_sl h q hq A c l hl) (by rfl) (by rfl) (by rfl)) (by rfl) (by rfl) ?_
 rintro D' ⟨h', hd, hm⟩
 refine go [5,2,22] ?_
 exact Ent.rA (D') [0,1,2] (⟨h', hd, hm⟩) rT_
theorem sw3_sl (h : Drv D P) (g gl : Nat) (q : List UInt8) (hq : Good q) : Fn Tryz.prog 102 #[ptrV g, ptrV gl] [bxD g D.d, bxT gl q, D.B, D.M, D.F] DrS (fun _ => .int .i64 (P.sync q).2) (fun D' => [D'.B, D'.M, D'.F]) (fun D' => Drv D' (P.sync q).1 ∧ D'.d = D.d ∧ D'.m = D.m) := by
 refine Fn.enter Tryz.func102 rfl Tryz.ntmps102 (by rfl) ?_
 intro w0
 refine go [3,4,5,25,13,0,13,1] ?_
 refine Ls.does (some 5) (Does.call [2, 3, 4] rfl Tryz.func55 (by kernel_rfl) (by kernel_rfl) (sync_sl h q hq) (by rfl) (by rfl) (by rfl)) (by rfl) (by rfl) ?_
 rintro D' ⟨h', hd, hm⟩
 refine go [5,2,22] ?_
 exact Ent.rA (D') [0,1,2] (⟨h', hd, hm⟩) rT_
theorem sw4_sl (h : Drv D P) (g gl : Nat) (q : List UInt8) (hq : Good q) : Fn Tryz.prog 103 #[ptrV g, ptrV gl] [bxD g D.d, bxT gl q, D.B, D.M, D.F] DrS (fun _ => .int .i64 (P.append qTmp q).2) (fun D' => [D'.B, D'.M, D'.F]) (fun D' => Drv D' (P.append qTmp q).1 ∧ D'.d = D.d ∧ D'.m = D.m) := by
 have hql := hq.len
 refine Fn.enter Tryz.func103 rfl Tryz.ntmps103 (by rfl) ?_
 intro w0
 refine go [3,4,5,25,13,0,13,1] ?_
 refine Ls.does (some 5) (Does.bytesOf (l := q) rfl (by rfl) Tryz.underlying9 Tryz.underlying47 Tryz.underlying5 (by unfold maxLen; omega)) (by rfl) (by rfl) ?_
 rintro ⟨bA, bc⟩ hbc
 refine Ls.does (some 6) (Does.call [3, 4, 5, 0] rfl Tryz.func53 (by kernel_rfl) (by kernel_rfl) (append_sl h qTmp qTmp_good (some ⟨bA, 0, none⟩) bc q (by omega)) (by rfl) (by rfl) (by rfl)) (by rfl) (by rfl) ?_
 rintro D' ⟨h', hd, hm⟩
 refine go [5,2,22] ?_
 exact Ent.rA (D') [0,1,2] (⟨h', hd, hm⟩) rT_
theorem sw5_sl (h : Drv D P) (g : Nat) : Fn Tryz.prog 104 #[ptrV g] [bxD g D.d, D.B, D.M, D.F] DrS (fun _ => .int .i64 (P.sync qTmp).2) (fun D' => [D'.B, D'.M, D'.F]) (fun D' => Drv D' (P.sync qTmp).1 ∧ D'.d = D.d ∧ D'.m = D.m) := by
 refine Fn.enter Tryz.func104 rfl Tryz.ntmps104 (by rfl) ?_
 intro w0
 refine go [3,4,5,25,13,0] ?_
 refine Ls.does (some 3) (Does.call [1, 2, 3] rfl Tryz.func55 (by kernel_rfl) (by kernel_rfl) (sync_sl h qTmp qTmp_good) (by rfl) (by rfl) (by rfl)) (by rfl) (by rfl) ?_
 rintro D' ⟨h', hd, hm⟩
 refine go [5,2,22] ?_
 exact Ent.rA (D') [0,1,2] (⟨h', hd, hm⟩) rT_
theorem sw6_sl (h : Drv D P) (g : Nat) : Fn Tryz.prog 105 #[ptrV g] [bxD g D.d, D.B, D.M, D.F] DrS (fun _ => .int .i64 (P.rename qTmp qCur).2) (fun D' => [D'.B, D'.M, D'.F]) (fun D' => Drv D' (P.rename qTmp qCur).1 ∧ D'.d = D.d ∧ D'.m = D.m) := by
 refine Fn.enter Tryz.func105 rfl Tryz.ntmps105 (by rfl) ?_
 intro w0
 refine go [3,4,5,25,13,0] ?_
 refine Ls.does (some 3) (Does.call [1, 2, 3] rfl Tryz.func106 (by kernel_rfl) (by kernel_rfl) (rename_sl h qTmp qCur qTmp_good qCur_good (h.ok.rename qTmp qCur)) (by rfl) (by rfl) (by rfl)) (by rfl) (by rfl) ?_
 rintro D' ⟨h', hd, hm⟩
 refine go [5,2,22] ?_
 exact Ent.rA (D') [0,1,2] (⟨h', hd, hm⟩) rT_
theorem sw7_sl (h : Drv D P) (g gl : Nat) (q : List UInt8) (hq : Good q) : Fn Tryz.prog 107 #[ptrV g, ptrV gl] [bxD g D.d, bxT gl q, D.B, D.M, D.F] DrS (fun _ => .int .i64 (P.delete q).2) (fun D' => [D'.B, D'.M, D'.F]) (fun D' => Drv D' (P.delete q).1 ∧ D'.d = D.d ∧ D'.m = D.m) := by
 refine Fn.enter Tryz.func107 rfl Tryz.ntmps107 (by rfl) ?_
 intro w0
 refine go [3,4,5,25,13,0,13,1] ?_
 refine Ls.does (some 5) (Does.call [2, 3, 4] rfl Tryz.func100 (by kernel_rfl) (by kernel_rfl) (delete_sl h q hq) (by rfl) (by rfl) (by rfl)) (by rfl) (by rfl) ?_
 rintro D' ⟨h', hd, hm⟩
 refine go [5,2,22] ?_
 exact Ent.rA (D') [0,1,2] (⟨h', hd, hm⟩) rT_
abbrev bxM (g mg : Nat) : Chunk := rblk g 39 [ptrV mg]
theorem ch1_sl (h : Drv D P) (g mg gl gb : Nat) (B : Option Addr) (b : Nat) (m : MfP) (q : List UInt8) (hq : Good q) (A : Option Addr) (c : Nat) (l : List UInt8) (hl : l.length ≤ 1099511627776) : Fn Tryz.prog 52 #[ptrV g, ptrV gl, ptrV gb] [bxM g mg, rmfB mg D.d B b m, bxT gl q, bxB gb A l.length c, rdB A l, D.B, D.M, D.F] DrS (fun _ => .int .i64 (P.append q l).2) (fun D' => [D'.B, D'.M, D'.F]) (fun D' => Drv D' (P.append q l).1 ∧ D'.d = D.d ∧ D'.m = D.m) := by
 refine Fn.enter Tryz.func52 rfl Tryz.ntmps52 (by rfl) ?_
 intro w0
 refine go [3,4,5,2,3] ?_
 refine Cd.draw [6] (by kernel_rfl) ?_
 refine Rg.qE 0 4 (by rfl) (Ev.loadB 0 rfl (by rfl) (by rfl) (by kernel_rfl) (by rfl)) ?_
 refine Rg.qE 1 5 (by rfl) (Ev.nilCheck rfl (by rfl)) ?_
 refine Rg.qE 2 6 (by rfl) (Ev.fieldAddr (k := 0) rfl (by rfl) (by kernel_rfl) (by rfl)) ?_
 refine Rg.qE 3 7 (by rfl) (Ev.loadB 1 rfl (by rfl) (by rfl) (by kernel_rfl) (by rfl)) ?_
 refine Rg.qE 4 8 (by rfl) (Ev.loadB 2 rfl (by rfl) (by rfl) (by kernel_rfl) (by rfl)) ?_
 refine Rg.qE 5 9 (by rfl) (Ev.loadB 3 rfl (by rfl) (by rfl) (by kernel_rfl) (by rfl)) ?_
 refine Rg.tail 6 [] (by rfl) (by kernel_rfl) (Does.call [5, 6, 7, 4] rfl Tryz.func53 (by kernel_rfl) (by kernel_rfl) (append_sl h q hq A c l hl) (by rfl) (by rfl) (by rfl)) (by rfl) (some 10) (by rfl) (by kernel_rfl) (by kernel_rfl) ?_
 rintro D' ⟨h', hd, hm⟩
 refine Rg.qE 7 3 (by rfl) (Ev.assign rfl (by rfl)) ?_
 refine Rg.done (by kernel_rfl) ?_ _
 refine Cd.ret ?_
 exact Ent.rA (D') [0,1,2] (⟨h', hd, hm⟩) rT_
theorem ch2_sl (h : Drv D P) (g mg gl : Nat) (B : Option Addr) (b : Nat) (m : MfP) (q : List UInt8) (hq : Good q) : Fn Tryz.prog 54 #[ptrV g, ptrV gl] [bxM g mg, rmfB mg D.d B b m, bxT gl q, D.B, D.M, D.F] DrS (fun _ => .int .i64 (P.sync q).2) (fun D' => [D'.B, D'.M, D'.F]) (fun D' => Drv D' (P.sync q).1 ∧ D'.d = D.d ∧ D'.m = D.m) := by
 refine Fn.enter Tryz.func54 rfl Tryz.ntmps54 (by rfl) ?_
 intro w0
 refine go [3,4,5,2,3] ?_
 refine Cd.draw [5] (by kernel_rfl) ?_
 refine Rg.qE 0 3 (by rfl) (Ev.loadB 0 rfl (by rfl) (by rfl) (by kernel_rfl) (by rfl)) ?_
 refine Rg.qE 1 4 (by rfl) (Ev.nilCheck rfl (by rfl)) ?_
 refine Rg.qE 2 5 (by rfl) (Ev.fieldAddr (k := 0) rfl (by rfl) (by kernel_rfl) (by rfl)) ?_
 refine Rg.qE 3 6 (by rfl) (Ev.loadB 1 rfl (by rfl) (by rfl) (by kernel_rfl) (by rfl)) ?_
 refine Rg.qE 4 7 (by rfl) (Ev.loadB 2 rfl (by rfl) (by rfl) (by kernel_rfl) (by rfl)) ?_
 refine Rg.tail 5 [] (by rfl) (by kernel_rfl) (Does.call [3, 4, 5] rfl Tryz.func55 (by kernel_rfl) (by kernel_rfl) (sync_sl h q hq) (by rfl) (by rfl) (by rfl)) (by rfl) (some 8) (by rfl) (by kernel_rfl) (by kernel_rfl) ?_
 rintro D' ⟨h', hd, hm⟩
 refine Rg.qE 6 2 (by rfl) (Ev.assign rfl (by rfl)) ?_
 refine Rg.done (by kernel_rfl) ?_ _
 refine Cd.ret ?_
 exact Ent.rA (D') [0,1,2] (⟨h', hd, hm⟩) rT_
end
abbrev rowFn (A : Option Addr) (c : Nat) (L : List StP) : Chunk := row A L.length c 103 1 (L.map StP.v)
def spDel (g : Nat) : StP := ⟨clV 99 [ptrV g], fun P => P.delete qTmp, rfl⟩
def spFile (g : Nat) (x : Nat × List UInt8) : StP := ⟨clV 107 [ptrV g, ptrV x.1], fun P => P.delete x.2, rfl⟩
def spPre (P : DrP) (g : Nat) : List StP := if P.find qTmp = none then [] else [spDel g]
def spMid (g gl gb : Nat) (log l : List UInt8) : List StP :=
 [⟨clV 101 [ptrV g, ptrV gl, ptrV gb], fun P => P.append log l, rfl⟩, ⟨clV 102 [ptrV g, ptrV gl], fun P => P.sync log, rfl⟩, ⟨clV 103 [ptrV g, ptrV gl], fun P => P.append qTmp log, rfl⟩, ⟨clV 104 [ptrV g], fun P => P.sync qTmp, rfl⟩, ⟨clV 105 [ptrV g], fun P => P.rename qTmp qCur, rfl⟩]
theorem spPre_f (P : DrP) (g : Nat) : (spPre P g).map StP.f = if P.find qTmp = none then [] else [fun P => P.delete qTmp] := by
 unfold spPre
 split <;> rfl
theorem spPre_len (P : DrP) (g : Nat) : (spPre P g).length ≤ 1 := by
 unfold spPre
 split
 · exact Nat.zero_le _
 · exact Nat.le_refl _
theorem manN_snoc (l : List (List UInt8)) (q : List UInt8) : manN (l ++ [q]) = manN l ++ if numK kMan q = 0 then [] else [q] := by
 unfold manN
 rw [List.filter_append]
 by_cases h : numK kMan q = 0 <;> simp [h]
section
variable {Γ : Ctx} {N : Frm} {P : Program} {E : Env} {H : List Chunk} {o : Oper} {x y z : Operand}
theorem Ev.makeFunc3 {f : Nat} {v v' v2 : Value} (ho : o.op = .makeFunc (.func f) #[] #[x, y, z]) (hx : E.ev x = some v) (hy : E.ev y = some v') (hz : E.ev z = some v2) : Ev Γ N P E H o (.func (.func f) #[] #[v, v', v2]) := .of fun ρ hρ w => by
 simp [execOp, ho, hρ x _ hx, hρ y _ hy, hρ z _ hz, Instr.makeFunc]
end
abbrev bxX (X : List (Nat × List UInt8)) : List Chunk := X.map fun x => blk x.1 9 [.string (txt x.2)]
set_option maxHeartbeats 2000000 in
theorem mswap_sl {D : DrS} {P : DrP} (h : Drv D P) (mg : Nat) (B : Option Addr) (b : Nat) (m : MfP) (log : List UInt8) (hlog : Good log) (A : Option Addr) (c : Nat) (l : List UInt8) (hl : l.length ≤ 1099511627776) : Fn Tryz.prog 56 #[ptrV mg, .string (txt log), .slice A l.length c] [rmfB mg D.d B b m, rdB A l, laidC, D.B, D.M, D.F] DrS (fun _ => .int .i64 (runP (swapL P log l) P).2) (fun D' => [D'.B, D'.M, D'.F]) (fun D' => Drv D' (runP (swapL P log l) P).1 ∧ D'.d = D.d ∧ D'.m = D.m) := by
 have hpl := h.ok.len
 have hmem := find_mem h.ok qTmp
 have hnm := names_sl h
 obtain ⟨ns, hns⟩ : ∃ ns, ns = P.fs.map FiP.nm := ⟨_, rfl⟩
 have hnl : P.fs.length = ns.length := by rw [hns, List.length_map]
 rw [hnl, ← hns] at hnm
 rw [← hns] at hmem
 refine Fn.enter Tryz.func56 rfl Tryz.ntmps56 (by rfl) ?_
 intro w0
 refine go [3,4] ?_
 refine Ls.does (some 4) (Does.box rfl (by rfl)) (by rfl) (by rfl) ?_
 intro g1 _
 refine Ls.does (some 5) (Does.box rfl (by rfl)) (by rfl) (by rfl) ?_
 intro g2 _
 refine go [5,25,0,14,7,0,13,2] ?_
 refine Ls.does (some 7) (Does.alloc (cs := [.pointer none]) rfl (ZeroIs.mk (.pointer none) (by kernel_rfl) (by rfl))) (by rfl) (by rfl) ?_
 intro g3 _
 refine go [15,0,25,5,2,3,3,4,8,0] ?_
 refine Ls.does (some 16) (Does.readN rfl Tryz.func42 (by kernel_rfl) (by kernel_rfl) (hnm) (by rfl) (by rfl) ⟨blkIn 6 (by rfl), mapIn 7 (by rfl), trivial⟩ (fun _ => by rfl)) (by rfl) (by rfl) ?_
 rintro ⟨nA, nc⟩ -
 refine Ls.does (some 17) (Does.read rfl Tryz.func87 (by kernel_rfl) (by kernel_rfl) (contains_sl nA nc ns qTmp (by omega)) (by rfl) (by rfl) ⟨ReadsIn.row 0 (by rfl), trivial⟩) (by rfl) (by rfl) ?_
 rintro _ -
 refine Ls.nil ?_
 have hpre := spPre_len P g3
 refine Cd.cut (ι := Option Addr × Nat) (fun q => [(4, ptrV g1), (5, ptrV g2), (7, ptrV g3), (8, .slice q.1 (spPre P g3).length q.2)]) (fun q => [rowFn q.1 q.2 (spPre P g3), blk g3 37 [ptrV D.d], blk g2 47 [.slice A l.length c], blk g1 9 [.string (txt log)], rdB A l, laidC, D.B, D.M, D.F]) (fun _ => True) ?_ ?_
 · refine Ent.nil 103 1 ?_
   by_cases hq : qTmp ∈ ns
   · have hp : spPre P g3 = [spDel g3] := if_neg (hmem.1 hq)
     rw [hp]
     refine Cd.cond_true (by rfl) (decide_eq_true hq) ?_
     refine go [4,0] ?_
     refine Ls.qE 19 (Ev.makeFunc1 rfl (by rfl)) ?_
     refine Ls.does (some 20) (Does.lit (sz := 1) rfl (by rfl) Tryz.underlying157 (by kernel_rfl) (by rfl) (by kernel_rfl)) (by rfl) (by rfl) ?_
     intro g4 _
     refine Ls.does (some 21) (Does.app (xs := []) (news := [(spDel g3).v]) 1 rfl (by rfl) (by rfl) (by rfl) (ReadsIn.row 0 (by rfl)) elem_fn (one_fn [spDel g3]) (by decide)) (by rfl) (by rfl) ?_
     rintro ⟨fA, fc⟩ -
     refine go [5,2] ?_
     refine Ent.pick [1, 3, 4, 5, 7, 8, 9, 10, 11] (by rfl) ?_
     exact Ent.iA ((fA, fc)) trivial
   · have hp : spPre P g3 = [] := if_pos (Decidable.not_not.1 fun e => hq (hmem.2 e))
     rw [hp]
     refine Cd.cond_false (by rfl) (decide_eq_false hq) ?_
     refine Cd.skip ?_
     refine Ent.pick [0, 2, 3, 4, 6, 7, 8, 9, 10] (by rfl) ?_
     exact Ent.iA ((none, 0)) trivial
 rintro ⟨fA, fc⟩ -
 dsimp only
 obtain ⟨L0, hL0⟩ : ∃ L0, L0 = spPre P g3 := ⟨_, rfl⟩
 rw [← hL0] at hpre ⊢
 refine go [3,4,0] ?_
 refine Ls.qE 23 (Ev.makeFunc3 rfl (by rfl) (by rfl) (by rfl)) ?_
 refine Ls.qE 24 (Ev.makeFunc2 rfl (by rfl) (by rfl)) ?_
 refine Ls.qE 25 (Ev.makeFunc2 rfl (by rfl) (by rfl)) ?_
 refine Ls.qE 26 (Ev.makeFunc1 rfl (by rfl)) ?_
 refine Ls.qE 27 (Ev.makeFunc1 rfl (by rfl)) ?_
 refine Ls.does (some 28) (Does.lit (sz := 1) rfl (by rfl) Tryz.underlying157 (by kernel_rfl) (by rfl) (by kernel_rfl)) (by rfl) (by rfl) ?_
 intro g4 _
 refine Ls.does (some 29) (Does.app (xs := L0.map StP.v) (news := (spMid g3 g1 g2 log l).map StP.v) 1 rfl (by rfl) (by rfl) (by rfl) (ReadsIn.row 0 (by rfl)) elem_fn (one_fn _) (show (L0.length + 5) * 8 ≤ 140737488355328 by omega)) (by rfl) (by rfl) ?_
 rintro ⟨qA, qc⟩ -
 obtain ⟨L1, hL1⟩ : ∃ L1, L1 = L0 ++ spMid g3 g1 g2 log l := ⟨_, rfl⟩
 have hL1l : L1.length = L0.length + 5 := by rw [hL1, List.length_append]; rfl
 have hrow1 : row qA (L0.length + 5) qc 103 1 (L0.map StP.v ++ (spMid g3 g1 g2 log l).map StP.v) = rowFn qA qc L1 := by
  dsimp only [rowFn]
  rw [hL1l, hL1, List.map_append]
 refine go [5,2,3,3,4,8,2] ?_
 refine Ls.does (some 31) (Does.readN rfl Tryz.func42 (by kernel_rfl) (by kernel_rfl) (hnm) (by rfl) (by rfl) ⟨blkIn 7 (by rfl), mapIn 8 (by rfl), trivial⟩ (fun _ => by rfl)) (by rfl) (by rfl) ?_
 rintro ⟨nA, nc⟩ -
 refine Ent.see 0 (by rfl) ?_
 refine Ent.map (fun w hs => hs.starx_nil) ?_
 refine Ent.pick [3, 0, 1, 8, 4, 5, 6, 7, 9, 10, 11] (by rfl) ?_
 refine Ls.qE 32 (Ev.len rfl (by rfl) Tryz.underlying49) ?_
 refine go [0,2,21] ?_
 refine Ent.norm ([(4, ptrV g1), (5, ptrV g2), (7, ptrV g3), (8, .slice qA (L1 ++ ([] : List (Nat × List UInt8)).map (spFile g3)).length qc), (31, .slice nA ns.length nc), (32, .int .i64 ns.length), (33, .int .i64 (0 : Nat))]) ([rowFn qA qc (L1 ++ ([] : List (Nat × List UInt8)).map (spFile g3)), starx (bxX []), rd nA ns.length 1 (txts ns), laidC, blk g3 37 [ptrV D.d], blk g2 47 [.slice A l.length c], blk g1 9 [.string (txt log)], rdB A l, D.B, D.M, D.F]) (by repeat (first | refine ⟨by (show some (Value.slice _ _ _) = some (Value.slice _ _ _); rw [List.map_nil, List.append_nil, hL1l]; try rfl), ?_⟩ | exact trivial | refine ⟨by rfl, ?_⟩ | refine ⟨by simp only [List.length_append, List.length_cons, List.length_nil]; rfl, ?_⟩ | refine ⟨by push_cast; rfl, ?_⟩)) (by (rw [List.map_nil, List.append_nil, ← hrow1]; rfl)) ?_
 refine Cd.loop (ι := Nat × (Option Addr × Nat) × List (Nat × List UInt8)) (fun p => [(4, ptrV g1), (5, ptrV g2), (7, ptrV g3), (8, .slice p.2.1.1 (L1 ++ p.2.2.map (spFile g3)).length p.2.1.2), (31, .slice nA ns.length nc), (32, .int .i64 ns.length), (33, .int .i64 p.1)]) (fun p => [rowFn p.2.1.1 p.2.1.2 (L1 ++ p.2.2.map (spFile g3)), starx (bxX p.2.2), rd nA ns.length 1 (txts ns), laidC, blk g3 37 [ptrV D.d], blk g2 47 [.slice A l.length c], blk g1 9 [.string (txt log)], rdB A l, D.B, D.M, D.F]) (fun p => p.1 ≤ ns.length ∧ p.2.2.map Prod.snd = manN (ns.take p.1)) (fun p => ns.length - p.1) ((0, (qA, qc), [])) (⟨Nat.zero_le _, rfl⟩) ?_ rfl ?_
 · (repeat (first | exact trivial | refine ⟨by rfl, ?_⟩))
 rintro ⟨k, ⟨rA, rc⟩, X⟩ ⟨hk, hX⟩
 dsimp only at hk hX ⊢
 have hXl : X.length ≤ ns.length := by
  have := congrArg List.length hX
  rw [List.length_map] at this
  have h2 : (manN (ns.take k)).length ≤ (ns.take k).length := List.length_filter_le _ _
  rw [List.length_take] at h2
  omega
 have hLl : (L1 ++ X.map (spFile g3)).length ≤ 1000 := by rw [List.length_append, List.length_map]; omega
 refine go [3,4,16,2,3] ?_
 refine Cd.cond _ (by rfl) (fun h2 => ?_) (fun h2 => ?_)
 · have hlt : k < ns.length := by have := of_decide_eq_true h2; omega
   obtain ⟨x, hx⟩ := get_of_lt hlt
   have hqt : (ns.map txt)[k]? = some (txt x) := by rw [List.getElem?_map, hx]; rfl
   have hxl : x.length ≤ 32 := by
    have hm : x ∈ ns := List.mem_of_getElem? hx
    rw [hns] at hm
    obtain ⟨f, hf, rfl⟩ := List.mem_map.1 hm
    exact (h.ok.good f hf).len
   have hmn : manN (ns.take (k + 1)) = manN (ns.take k) ++ if numK kMan x = 0 then [] else [x] := by
    rw [List.take_add_one, hx]
    exact manN_snoc _ _
   refine Ent.rdSome 2 (by rfl) (by omega) (fun ad had => ?_)
   subst had
   refine go [6,3,21,3,4] ?_
   refine Ls.qE 35 (Ev.indexAt (sz := 1) rfl (by rfl) (by rfl) Tryz.underlying49 (by kernel_rfl) (by omega)) ?_
   refine Ls.qE 36 (Ev.loadStr rfl (by rfl) (ReadsIn.rd 2 (by rfl)) (by kernel_rfl) (by assumption)) ?_
   refine Ls.does (some 10) (Does.alloc (cs := [.string ⟨#[]⟩]) rfl (ZeroIs.mk (.string ⟨#[]⟩) (by kernel_rfl) (by rfl))) (by rfl) (by rfl) ?_
   intro g5 _
   refine go [15,0,25,8,0] ?_
   refine Ls.does (some 38) (Does.read rfl Tryz.func43 (by kernel_rfl) (by kernel_rfl) (nrk_sl kMan x (by decide) (by omega)) (by rfl) (by rfl) ⟨laidIn 4 (by rfl), trivial⟩) (by rfl) (by rfl) ?_
   rintro _ -
   refine go [18,2] ?_
   by_cases h0 : numK kMan x = 0
   · rw [if_pos h0, List.append_nil] at hmn
     refine Cd.cond_false (by rfl) (decide_eq_false (show ¬ ((0 : Int) < (numK kMan x : Int)) by omega)) ?_
     refine go [6,4] ?_
     refine Ls.qE 44 (Ev.addI rfl (by rfl) (by rfl) (by omega)) ?_
     refine go [0,2] ?_
     refine Ent.pick [1, 2, 3, 4, 5, 6, 7, 8, 9, 10, 11] (by rfl) ?_
     refine Ent.iA ((k + 1, (rA, rc), X)) ?_
     (try dsimp only); exact ⟨⟨hlt, by rw [hmn]; exact hX⟩, by omega⟩
   · rw [if_neg h0] at hmn
     refine Cd.cond_true (by rfl) (decide_eq_true (show (0 : Int) < (numK kMan x : Int) by omega)) ?_
     refine go [4,0] ?_
     refine Ls.qE 41 (Ev.makeFunc2 rfl (by rfl) (by rfl)) ?_
     refine Ls.does (some 42) (Does.lit (sz := 1) rfl (by rfl) Tryz.underlying157 (by kernel_rfl) (by rfl) (by kernel_rfl)) (by rfl) (by rfl) ?_
     intro g6 _
     refine Ls.does (some 43) (Does.app (xs := (L1 ++ X.map (spFile g3)).map StP.v) (news := [(spFile g3 (g5, x)).v]) 2 rfl (by rfl) (by rfl) (by rfl) (ReadsIn.row 0 (by rfl)) elem_fn (one_fn [spFile g3 (g5, x)]) (show ((L1 ++ X.map (spFile g3)).length + 1) * 8 ≤ 140737488355328 by omega)) (by rfl) (by rfl) ?_
     rintro ⟨wA, wc⟩ -
     refine go [5,2,4] ?_
     refine Ls.qE 44 (Ev.addI rfl (by rfl) (by rfl) (by omega)) ?_
     refine go [0,2] ?_
     refine Ent.pick [1, 3, 2, 4, 5, 6, 7, 8, 9, 10, 11, 12] (by rfl) ?_
     refine Ent.map (fun w hs => hs.starx_add rfl) ?_
     refine Ent.pick [1, 0, 2, 3, 4, 5, 6, 7, 8, 9, 10] (by rfl) ?_
     have hrow : row wA ((L1 ++ X.map (spFile g3)).length + 1) wc 103 1 ((L1 ++ X.map (spFile g3)).map StP.v ++ [(spFile g3 (g5, x)).v]) = rowFn wA wc (L1 ++ (X ++ [(g5, x)]).map (spFile g3)) := by
      dsimp only [rowFn]
      rw [List.map_append (f := spFile g3), ← List.append_assoc, List.length_append (bs := List.map (spFile g3) [(g5, x)]), List.map_append (f := StP.v) (l₂ := List.map (spFile g3) [(g5, x)])]
      rfl
     have hbx : bxX (X ++ [(g5, x)]) = bxX X ++ [blk g5 9 [.string (txt x)]] := by
      dsimp only [bxX]
      rw [List.map_append]
      rfl
     refine Ent.inv ((k + 1, (wA, wc), X ++ [(g5, x)])) ?_ ?_ ?_
     · (try dsimp only); exact ⟨⟨hlt, by rw [hmn, List.map_append, hX]; rfl⟩, by omega⟩
     · (repeat (first | exact trivial | refine ⟨by rfl, ?_⟩ | refine ⟨by simp only [lenS]; rfl, ?_⟩ | refine ⟨by push_cast; rfl, ?_⟩ | refine ⟨by (show some (Value.slice _ _ _) = some (Value.slice _ _ _); rw [List.map_append, ← List.append_assoc, List.length_append (bs := List.map (spFile g3) [(g5, x)])]; rfl), ?_⟩))
     · (show [_, _, _, _, _, _, _, _, _, _, _] = [_, _, _, _, _, _, _, _, _, _, _]; dsimp only; rw [← hrow, hbx]; rfl)
 have hge : ns.length ≤ k := by have := of_decide_eq_false h2; omega
 rw [List.take_of_length_le hge] at hX
 refine Ent.see 0 (by rfl) ?_
 refine Ent.seeBlk 4 (by rfl) (Ent.seeBlk 5 (by rfl) (Ent.seeBlk 6 (by rfl) ?_))
 refine Ent.pick [1, 4, 5, 6, 7, 8, 9, 10, 0] (by rfl) ?_
 refine Ent.map (fun w hs => Sat.starx_see (f := fun x : Nat × List UInt8 => blk x.1 9 [.string (txt x.2)]) (g := fun x : Nat × List UInt8 => bxT x.1 x.2) (fun _ => rfl) (fun _ w hw => hw) (fun _ k hk => hk) hs) ?_
 refine Ent.closeR 5 (by rfl) ?_
 obtain ⟨Cs, hCs⟩ : ∃ Cs, Cs = [stars (X.map fun x => bxT x.1 x.2), bxD g3 D.d, bxB g2 A l.length c, bxT g1 log, rdB A l] := ⟨_, rfl⟩
 have cD : ∀ D' : DrS, D'.d = D.d → Cov Cs (bxD g3 D'.d) := fun D' e => by rw [e, hCs]; exact Cov.mem rfl (by simp)
 have cB : Cov Cs (bxB g2 A l.length c) := by rw [hCs]; exact Cov.mem rfl (by simp)
 have cT : Cov Cs (bxT g1 log) := by rw [hCs]; exact Cov.mem rfl (by simp)
 have cR : Cov Cs (rdB A l) := by rw [hCs]; exact Cov.mem rfl (by simp)
 have cX : ∀ x ∈ X, Cov Cs (bxT x.1 x.2) := fun x hx => by rw [hCs]; exact Cov.stars rfl List.mem_cons_self (List.mem_map_of_mem (f := fun x : Nat × List UInt8 => bxT x.1 x.2) hx)
 have hXg : ∀ x ∈ X, Good x.2 := fun x hx => by
  have h1 : x.2 ∈ manN ns := by rw [← hX]; exact List.mem_map_of_mem hx
  have h2 := (List.mem_filter.1 h1).1
  rw [hns] at h2
  obtain ⟨f, hf, he⟩ := List.mem_map.1 h2
  rw [← he]
  exact h.ok.good f hf
 have hall : ∀ s ∈ L1 ++ X.map (spFile g3), StepOk D.d D.m Cs s.v s.f := fun s hs => by
  rcases List.mem_append.1 hs with hs | hs
  · rw [hL1] at hs
    rcases List.mem_append.1 hs with hs | hs
    · rw [hL0] at hs
      unfold spPre at hs
      split at hs
      · cases hs
      · rw [List.mem_singleton.1 hs]
        exact step_of Tryz.func99 (by kernel_rfl) (by kernel_rfl) (fun D' => [bxD g3 D'.d]) (fun D' e C hC => by rw [List.mem_singleton.1 hC]; exact cD D' e) (fun D' P' h' => sw1_sl h' g3)
    · unfold spMid at hs
      simp only [List.mem_cons, List.not_mem_nil, or_false] at hs
      rcases hs with rfl | rfl | rfl | rfl | rfl
      · exact step_of Tryz.func101 (by kernel_rfl) (by kernel_rfl) (fun D' => [bxD g3 D'.d, bxT g1 log, bxB g2 A l.length c, rdB A l]) (fun D' e C hC => by
         simp only [List.mem_cons, List.not_mem_nil, or_false] at hC
         rcases hC with rfl | rfl | rfl | rfl
         · exact cD D' e
         · exact cT
         · exact cB
         · exact cR) (fun D' P' h' => sw2_sl h' g3 g1 g2 log hlog A c l hl)
      · exact step_of Tryz.func102 (by kernel_rfl) (by kernel_rfl) (fun D' => [bxD g3 D'.d, bxT g1 log]) (fun D' e C hC => by
         simp only [List.mem_cons, List.not_mem_nil, or_false] at hC
         rcases hC with rfl | rfl
         · exact cD D' e
         · exact cT) (fun D' P' h' => sw3_sl h' g3 g1 log hlog)
      · exact step_of Tryz.func103 (by kernel_rfl) (by kernel_rfl) (fun D' => [bxD g3 D'.d, bxT g1 log]) (fun D' e C hC => by
         simp only [List.mem_cons, List.not_mem_nil, or_false] at hC
         rcases hC with rfl | rfl
         · exact cD D' e
         · exact cT) (fun D' P' h' => sw4_sl h' g3 g1 log hlog)
      · exact step_of Tryz.func104 (by kernel_rfl) (by kernel_rfl) (fun D' => [bxD g3 D'.d]) (fun D' e C hC => by rw [List.mem_singleton.1 hC]; exact cD D' e) (fun D' P' h' => sw5_sl h' g3)
      · exact step_of Tryz.func105 (by kernel_rfl) (by kernel_rfl) (fun D' => [bxD g3 D'.d]) (fun D' e C hC => by rw [List.mem_singleton.1 hC]; exact cD D' e) (fun D' P' h' => sw6_sl h' g3)
  · obtain ⟨x, hx, rfl⟩ := List.mem_map.1 hs
    exact step_of Tryz.func107 (by kernel_rfl) (by kernel_rfl) (fun D' => [bxD g3 D'.d, bxT x.1 x.2]) (fun D' e C hC => by
     simp only [List.mem_cons, List.not_mem_nil, or_false] at hC
     rcases hC with rfl | rfl
     · exact cD D' e
     · exact cX x hx) (fun D' P' h' => sw7_sl h' g3 x.1 x.2 (hXg x hx))
 have hfs : (L1 ++ X.map (spFile g3)).map StP.f = swapL P log l := by
  rw [List.map_append, hL1, List.map_append, hL0, spPre_f]
  unfold swapL
  rw [← hns, ← hX, List.map_map, List.map_map]
  rfl
 have cS := msteps_sl (L1 ++ X.map (spFile g3)) hall (by omega) h rfl rfl rA rc
 rw [hfs, hCs] at cS
 refine Cd.exit ?_
 refine go [3,4,0] ?_
 refine Ls.does (some 46) (Does.call [4, 0, 1, 2, 3] rfl Tryz.func51 (by kernel_rfl) (by kernel_rfl) (cS) (by rfl) (by rfl) (by rfl)) (by rfl) (by rfl) ?_
 rintro D' ⟨h', hd, hm⟩
 refine go [5,2,22] ?_
 exact Ent.rA (D') [0,1,2] (⟨h', hd, hm⟩) rT_
abbrev noE : Value := .agg #[.slice none 0 0, .slice none 0 0, .int .i64 0, .int .i64 0, .int .i64 0]
abbrev rowI (A : Option Addr) (n c : Nat) (l : List Int) : Chunk := row A n c 3 1 (ints l)
def decV (r : Option EdP) (p : (Option Addr × Nat) × (Option Addr × Nat)) : Value := match r with
 | none => .tuple #[noE, .int .i64 80]
 | some e => .tuple #[.agg (e.val p.1.1 p.1.2 p.2.1 p.2.2).toArray, .int .i64 0]
def decW (r : Option EdP) (p : (Option Addr × Nat) × (Option Addr × Nat)) : Value := match r with
 | none => .tuple #[noE, .bool false]
 | some e => .tuple #[.agg (e.val p.1.1 p.1.2 p.2.1 p.2.2).toArray, .bool true]
def decC (r : Option EdP) (p : (Option Addr × Nat) × (Option Addr × Nat)) : List Chunk := match r with
 | none => []
 | some e => [rowTb p.1.1 e.add.length p.1.2 e.add, rowI p.2.1 e.drop.length p.2.2 e.drop]
theorem numC_le2 (l : List UInt8) : (numC l).1 ≤ 4611686018427387904 := (numC_le l).2.1
theorem elem_int : Elem Tryz.prog 25 3 1 8 := elem_of (by kernel_rfl)
theorem one_ints (l : List Int) : ∀ u ∈ ints l, u.oneCell' = true := fun u hu => by
 obtain ⟨n, _, rfl⟩ := List.mem_map.1 hu
 rfl
set_option maxHeartbeats 2000000 in
theorem decode_sl (A : Option Addr) (c : Nat) (l : List UInt8) (hc : l.length ≤ c) (hm : l.length ≤ maxLen) : Fn Tryz.prog 47 #[.slice A l.length c] [rdB A l] ((Option Addr × Nat) × (Option Addr × Nat)) (decV (decP l)) (decC (decP l)) (fun _ => True) := by
 refine Fn.enter Tryz.func47 rfl Tryz.ntmps47 (by rfl) ?_
 intro w0
 refine go [3,4] ?_
 refine Ls.does (some 2) (Does.alloc (cs := [.slice none 0 0, .slice none 0 0, .int .i64 0, .int .i64 0, .int .i64 0]) rfl (ZeroIs.mk (.agg #[.slice none 0 0, .slice none 0 0, .int .i64 0, .int .i64 0, .int .i64 0]) (by kernel_rfl) (by rfl))) (by rfl) (by rfl) ?_
 intro g1 _
 refine go [5,2,3,3,4,0] ?_
 refine Ls.qE 9 (Ev.len rfl (by rfl) Tryz.underlying47) ?_
 refine go [18,2] ?_
 by_cases hlong : 4096 < l.length
 · rw [show decP l = none from if_pos (.inl hlong)]
   refine Cd.cond_true (by rfl) (decide_eq_true (show (4096 : Int) < (l.length : Int) by omega)) ?_
   refine go [3,4] ?_
   refine Ls.qE 11 (Ev.buildP (pl := [(0, 1), (1, 1), (2, 1), (3, 1), (4, 1)]) (zs := [.slice none 0 0, .slice none 0 0, .int .i64 0, .int .i64 0, .int .i64 0]) rfl (by rfl) (by kernel_rfl) (by rfl)) ?_
   refine go [15,0,5,2,22] ?_
   exact Ent.rA (((none, 0), (none, 0))) [] trivial (Res.cell_tmp 0 (by rfl) (by rfl) (by rfl) (n := 5) (by kernel_rfl) (by rfl) (by rfl) (by rfl))
 · refine Cd.cond_false (by rfl) (decide_eq_false (show ¬ ((4096 : Int) < (l.length : Int)) by omega)) ?_
   refine go [6,3,4] ?_
   refine Ls.does (some 4) (Does.alloc (cs := [.slice none 0 0, .slice none 0 0, .int .i64 0, .int .i64 0, .int .i64 0]) rfl (ZeroIs.mk (.agg #[.slice none 0 0, .slice none 0 0, .int .i64 0, .int .i64 0, .int .i64 0]) (by kernel_rfl) (by rfl))) (by rfl) (by rfl) ?_
   intro g2 _
   refine go [25,0] ?_
   refine Ls.qE 13 (Ev.buildP (pl := [(0, 1), (1, 1)]) (zs := [.slice none 0 0, .bool false]) rfl (by rfl) (by kernel_rfl) (by rfl)) ?_
   refine Ls.does (some 14) (Does.box rfl (by rfl)) (by rfl) (by rfl) ?_
   intro g3 _
   refine go [5,2,3,3,4,0] ?_
   refine Ls.does (some 16) (Does.call [0, 3, 1, 2] rfl Tryz.func89 (by kernel_rfl) (by kernel_rfl) (number_sl g3 A c l false hc hm) (by rfl) (by rfl) (by rfl)) (by rfl) (by rfl) ?_
   rintro ⟨B, b⟩ hb
   dsimp only at hb
   have hd1 := numC_drop l
   have hd0 : decP l = if (numC l).2.2 = true then none else stA (numC l).1 [] (l.drop (numC l).2.1) := by
    unfold decP
    by_cases hx : (numC l).2.2 = true
    · rw [if_pos (.inr hx), if_pos hx]
    · rw [if_neg (fun e => e.elim hlong hx), if_neg hx]
   refine go [5,2,21] ?_
   refine Ent.nil 42 4 ?_
   refine Ent.norm ([(2, ptrW g1), (3, .int .i64 0), (4, ptrW g2), (5, ptrW g3), (6, .int .i64 (numC l).1)]) ([rowTb none 0 0 [], blk g3 148 [.slice B (l.drop (numC l).2.1).length b, .bool (numC l).2.2], rdB B (l.drop (numC l).2.1), blk g2 27 [.slice none 0 0, .slice none 0 0, .int .i64 0, .int .i64 0, .int .i64 0], blk g1 27 [.slice none 0 0, .slice none 0 0, .int .i64 0, .int .i64 0, .int .i64 0]]) (by repeat (first | exact trivial | refine ⟨by rfl, ?_⟩ | refine ⟨by simp only [List.length_append, List.length_cons, List.length_nil]; rfl, ?_⟩ | refine ⟨by push_cast; rfl, ?_⟩)) (by rfl) ?_
   refine Cd.loop (ι := Nat × List TbP × (Option Addr × Nat) × List UInt8 × Bool × (Option Addr × Nat)) (fun p => [(2, ptrW g1), (3, .int .i64 0), (4, ptrW g2), (5, ptrW g3), (6, .int .i64 p.1)]) (fun p => [rowTb p.2.2.1.1 p.2.1.length p.2.2.1.2 p.2.1, blk g3 148 [.slice p.2.2.2.2.2.1 p.2.2.2.1.length p.2.2.2.2.2.2, .bool p.2.2.2.2.1], rdB p.2.2.2.2.2.1 p.2.2.2.1, blk g2 27 [.slice p.2.2.1.1 p.2.1.length p.2.2.1.2, .slice none 0 0, .int .i64 0, .int .i64 0, .int .i64 0], blk g1 27 [.slice none 0 0, .slice none 0 0, .int .i64 0, .int .i64 0, .int .i64 0]]) (fun p => (p.1 ≤ 4611686018427387904 ∧ p.2.2.2.1.length ≤ 4096 ∧ p.2.2.2.1.length ≤ p.2.2.2.2.2.2 ∧ p.2.1.length + p.2.2.2.1.length ≤ 5000) ∧ (p.2.2.2.2.1 = false → p.2.1.length + p.2.2.2.1.length ≤ 4096) ∧ decP l = if p.2.2.2.2.1 = true then none else stA p.1 p.2.1 p.2.2.2.1) (fun p => p.1) (((numC l).1, [], (none, 0), l.drop (numC l).2.1, (numC l).2.2, (B, b))) (⟨⟨numC_le2 l, by dsimp only; omega, hb, by dsimp only [List.length_nil]; omega⟩, fun _ => by dsimp only [List.length_nil]; omega, hd0⟩) ?_ rfl ?_
   · (repeat (first | exact trivial | refine ⟨by rfl, ?_⟩))
   rintro ⟨j, L, ⟨aA, ac⟩, l1, bad, ⟨B1, b1⟩⟩ ⟨⟨hj, hl1, hb1, hL1⟩, hL2, hdec⟩
   dsimp only at hj hl1 hb1 hL1 hL2 hdec ⊢
   refine go [3,3] ?_
   refine Cd.cut (ι := Unit) (fun _ => [(2, ptrW g1), (3, .int .i64 0), (4, ptrW g2), (5, ptrW g3), (6, .int .i64 j), (25, .bool (decide (0 < j ∧ bad = false)))]) (fun _ => [rowTb aA L.length ac L, blk g3 148 [.slice B1 l1.length b1, .bool bad], rdB B1 l1, blk g2 27 [.slice aA L.length ac, .slice none 0 0, .int .i64 0, .int .i64 0, .int .i64 0], blk g1 27 [.slice none 0 0, .slice none 0 0, .int .i64 0, .int .i64 0, .int .i64 0]]) (fun _ => True) ?_ ?_
   · refine go [4,0,18,0] ?_
     by_cases h0 : 0 < j
     · refine Ent.known 19 true (by rfl) (by exact (decide_eq_true (show (0 : Int) < (j : Int) by omega))) ?_
       refine go [0,14,7,1,8,1,20,9,2] ?_
       refine Ent.inv (()) ?_ ?_ ?_
       · (try dsimp only); skip
       · (repeat (first | exact trivial | refine ⟨by rfl, ?_⟩ | refine ⟨by simp only [lenS]; rfl, ?_⟩ | refine ⟨by push_cast; rfl, ?_⟩ | refine ⟨by (show some (Value.bool _) = some (Value.bool _); congr 2; cases bad <;> simp [h0]), ?_⟩))
       · rfl
     · refine Ent.known 19 false (by rfl) (by exact (decide_eq_false (show ¬ ((0 : Int) < (j : Int)) by omega))) ?_
       refine go [1,1,1,1,1,10,2] ?_
       refine Ent.inv (()) ?_ ?_ ?_
       · (try dsimp only); skip
       · (repeat (first | exact trivial | refine ⟨by rfl, ?_⟩ | refine ⟨by simp only [lenS]; rfl, ?_⟩ | refine ⟨by push_cast; rfl, ?_⟩ | refine ⟨by (show some (Value.bool _) = some (Value.bool _); congr 2; exact (decide_eq_false (fun e => h0 e.1)).symm), ?_⟩))
       · rfl
   rintro _ -
   refine Cd.cond _ (by rfl) (fun h2 => ?_) (fun h2 => ?_)
   · obtain ⟨h0, rfl⟩ := of_decide_eq_true h2
     obtain ⟨j, rfl⟩ : ∃ k, j = k + 1 := ⟨j - 1, by omega⟩
     have hL3 := hL2 rfl
     rw [if_neg (by decide), stA] at hdec
     have ht1 := tabR_le l1
     obtain ⟨a, ha⟩ : ∃ a, a = numC l1 := ⟨_, rfl⟩
     obtain ⟨l2, hl2⟩ : ∃ l2, l2 = l1.drop a.2.1 := ⟨_, rfl⟩
     obtain ⟨bq, hbq⟩ : ∃ b, b = numC l2 := ⟨_, rfl⟩
     obtain ⟨l3, hl3⟩ : ∃ l3, l3 = l2.drop bq.2.1 := ⟨_, rfl⟩
     obtain ⟨x, hx⟩ : ∃ x, x = txtC l3 := ⟨_, rfl⟩
     obtain ⟨l4, hl4⟩ : ∃ l4, l4 = l3.drop x.2.1 := ⟨_, rfl⟩
     obtain ⟨y, hy⟩ : ∃ y, y = txtC l4 := ⟨_, rfl⟩
     obtain ⟨l5, hl5⟩ : ∃ l5, l5 = l4.drop y.2.1 := ⟨_, rfl⟩
     have hT : tabR l1 = (⟨a.1, bq.1, x.1.data.toList, y.1.data.toList⟩, l5, a.2.2 || bq.2.2 || x.2.2 || y.2.2) := by
      rw [hl5, hy, hl4, hx, hl3, hbq, hl2, ha]
      rfl
     rw [hT] at hdec ht1
     dsimp only at hdec ht1
     obtain ⟨t, ht⟩ : ∃ t : TbP, t = ⟨a.1, bq.1, x.1.data.toList, y.1.data.toList⟩ := ⟨_, rfl⟩
     have m1 : l2.length ≤ l1.length := by rw [hl2, ha]; exact (numC_drop l1).1
     have m2 : l3.length ≤ l2.length := by rw [hl3, hbq]; exact (numC_drop l2).1
     have m3 : l4.length ≤ l3.length := by rw [hl4, hx]; exact txtC_drop l3
     have hmx : l1.length ≤ maxLen := by unfold maxLen; omega
     refine go [6,3,21] ?_
     refine Ent.pick [3, 0, 1, 2, 4] (by rfl) ?_
     refine Cd.drawS [0] [14] (by kernel_rfl) ?_
     refine Rg.ev 0 (by rfl) (fun _ h => h.pick [0] rfl) (Ev.fieldAddr (k := 0) rfl (by rfl) (by kernel_rfl) (by rfl)) (by rfl) (some 28) (by rfl) (by kernel_rfl) (by kernel_rfl) (by kernel_rfl) (by kernel_rfl) ?_
     refine Rg.ev 1 (by rfl) (fun _ h => h.pick [0] rfl) (Ev.load 0 rfl (by rfl) (by rfl) (by kernel_rfl) (by rfl)) (by rfl) (some 29) (by rfl) (by kernel_rfl) (by kernel_rfl) (by kernel_rfl) (by kernel_rfl) ?_
     refine Rg.ev 2 (by rfl) (fun _ h => h.pick [0] rfl) (Ev.move rfl (by rfl)) (by rfl) (some 30) (by rfl) (by kernel_rfl) (by kernel_rfl) (by kernel_rfl) (by kernel_rfl) ?_
     refine Rg.ev 4 (by rfl) (fun _ h => h.pick [0] rfl) (Ev.move rfl (by rfl)) (by rfl) (some 32) (by rfl) (by kernel_rfl) (by kernel_rfl) (by kernel_rfl) (by kernel_rfl) ?_
     refine Rg.ev 6 (by rfl) (fun _ h => h.pick [0] rfl) (Ev.move rfl (by rfl)) (by rfl) (some 34) (by rfl) (by kernel_rfl) (by kernel_rfl) (by kernel_rfl) (by kernel_rfl) ?_
     refine Rg.ev 8 (by rfl) (fun _ h => h.pick [0] rfl) (Ev.move rfl (by rfl)) (by rfl) (some 36) (by rfl) (by kernel_rfl) (by kernel_rfl) (by kernel_rfl) (by kernel_rfl) ?_
     have c1 := number_sl g3 B1 b1 l1 false hb1 hmx
     rw [← ha, ← hl2, Bool.false_or] at c1
     refine Rg.one 3 (by kernel_rfl) ?_
     refine RgO.does 3 (by rfl) (Does.call [2, 3, 0, 1, 4] rfl Tryz.func89 (by kernel_rfl) (by kernel_rfl) (c1) (by rfl) (by rfl) (by rfl)) (by rfl) (some 31) (by rfl) (by exact fun _ _ h => h.pick [2] (by rfl)) ?_
     rintro ⟨B2, b2⟩ hb2
     have c2 := number_sl g3 B2 b2 l2 a.2.2 hb2 (by omega)
     rw [← hbq, ← hl3] at c2
     refine Rg.one 5 (by kernel_rfl) ?_
     refine RgO.does 5 (by rfl) (Does.call [0, 1, 2, 3, 4] rfl Tryz.func89 (by kernel_rfl) (by kernel_rfl) (c2) (by rfl) (by rfl) (by rfl)) (by rfl) (some 33) (by rfl) (by exact fun _ _ h => h.pick [2] (by rfl)) ?_
     rintro ⟨B3, b3⟩ hb3
     have c3 := text_sl g3 B3 b3 l3 (a.2.2 || bq.2.2) hb3 (by omega)
     rw [← hx, ← hl4] at c3
     refine Rg.one 7 (by kernel_rfl) ?_
     refine RgO.does 7 (by rfl) (Does.call [0, 1, 2, 3, 4] rfl Tryz.func90 (by kernel_rfl) (by kernel_rfl) (c3) (by rfl) (by rfl) (by rfl)) (by rfl) (some 35) (by rfl) (by exact fun _ _ h => h.pick [2] (by rfl)) ?_
     rintro ⟨B4, b4⟩ hb4
     have c4 := text_sl g3 B4 b4 l4 (a.2.2 || bq.2.2 || x.2.2) hb4 (by omega)
     rw [← hy, ← hl5] at c4
     refine Rg.one 9 (by kernel_rfl) ?_
     refine RgO.does 9 (by rfl) (Does.call [0, 1, 2, 3, 4] rfl Tryz.func90 (by kernel_rfl) (by kernel_rfl) (c4) (by rfl) (by rfl) (by rfl)) (by rfl) (some 37) (by rfl) (by exact fun _ _ h => h.pick [2] (by rfl)) ?_
     rintro ⟨B5, b5⟩ hb5
     refine Rg.ev 10 (by rfl) (by exact fun _ h => h.pick [2] (by rfl)) (Ev.buildP (pl := [(0, 1), (1, 1), (2, 1), (3, 1)]) (zs := [.int .i64 0, .int .i64 0, .string ⟨#[]⟩, .string ⟨#[]⟩]) rfl (by rfl) (by kernel_rfl) (by rfl)) (by rfl) (some 38) (by rfl) (by kernel_rfl) (by kernel_rfl) (by kernel_rfl) (by kernel_rfl) ?_
     refine Rg.one 11 (by kernel_rfl) ?_
     refine RgO.does 11 (by rfl) (Does.lit (sz := 4) rfl (by rfl) Tryz.underlying22 (by kernel_rfl) (by rfl) (by kernel_rfl)) (by rfl) (some 39) (by rfl) (by exact fun _ _ h => h.pick [3] (by rfl)) ?_
     intro g4 _
     refine Rg.one 12 (by kernel_rfl) ?_
     refine RgO.does 12 (by rfl) (Does.app (xs := tbs L) (news := tbs [⟨a.1, bq.1, x.1.data.toList, y.1.data.toList⟩]) 4 rfl (by rfl) (by rfl) (by rfl) (ReadsIn.row 0 (by rfl)) elem_tb (one_tb _) (show (L.length + 1) * 48 ≤ 140737488355328 by omega)) (by rfl) (some 40) (by rfl) (by exact fun _ _ h => h.pick [3] (by rfl)) ?_
     rw [← ht]
     rintro ⟨qA, qc⟩ -
     refine Rg.ev 13 (by rfl) (by exact fun _ h => h.pick [3] (by rfl)) (Ev.fieldAddr (k := 0) rfl (by rfl) (by kernel_rfl) (by rfl)) (by rfl) (some 41) (by rfl) (by kernel_rfl) (by kernel_rfl) (by kernel_rfl) (by kernel_rfl) ?_
     refine Rg.one 14 (by kernel_rfl) ?_
     refine RgO.tail 14 (by rfl) (Does.store 3 rfl (by rfl) (by rfl) (by rfl) (by kernel_rfl) (by rfl) (by kernel_rfl) (by rfl)) (by rfl) none (by rfl) (by kernel_rfl) (by kernel_rfl) ?_
     intro _ _
     refine Rg.done (by kernel_rfl) ?_ _
     refine go [4,0] ?_
     refine Ls.qE 27 (Ev.subN (b := 1) rfl (by rfl) (by rfl) (by omega)) ?_
     refine go [5,2] ?_
     refine Ent.pick [4, 1, 2, 3, 5] (by rfl) ?_
     have hrow : row qA (L.length + 1) qc 42 4 (tbs L ++ tbs [t]) = rowTb qA (L ++ [t]).length qc (L ++ [t]) := by
      rw [← tbs_append, List.length_append]
      rfl
     rw [← ht] at hdec
     refine Ent.inv ((j, L ++ [t], (qA, qc), l5, a.2.2 || bq.2.2 || x.2.2 || y.2.2, (B5, b5))) ?_ ?_ ?_
     · (try dsimp only); exact ⟨⟨⟨by omega, by omega, hb5, by rw [List.length_append, List.length_singleton]; omega⟩, fun hb => by have := ht1.2 hb; rw [List.length_append, List.length_singleton]; omega, hdec⟩, by omega⟩
     · (repeat (first | exact trivial | refine ⟨by rfl, ?_⟩ | refine ⟨by simp only [lenS]; rfl, ?_⟩ | refine ⟨by push_cast; rfl, ?_⟩))
     · (show [_, _, _, _, _] = [_, _, _, _, _]; dsimp only; rw [← hrow, List.length_append]; rfl)
   have h2 := of_decide_eq_false h2
   have hmx : l1.length ≤ maxLen := by unfold maxLen; omega
   obtain ⟨e, he⟩ : ∃ e, e = numC l1 := ⟨_, rfl⟩
   obtain ⟨l2, hl2⟩ : ∃ l2, l2 = l1.drop e.2.1 := ⟨_, rfl⟩
   have hd2 : decP l = if (bad || e.2.2) = true then none else stC L e.1 [] l2 := by
    rw [hdec]
    cases bad with
    | true => rfl
    | false =>
     obtain rfl : j = 0 := by
      rcases Nat.eq_zero_or_pos j with h | h
      · exact h
      · exact absurd ⟨h, rfl⟩ h2
     rw [if_neg (by decide), stA, stB, ← he, ← hl2, Bool.false_or]
   have hn1 : l2.length ≤ l1.length ∧ (e.2.2 = false → l2.length + 1 ≤ l1.length) := by rw [hl2, he]; exact numC_drop l1
   have he1 : e.1 ≤ 4611686018427387904 := by rw [he]; exact numC_le2 l1
   clear hdec h2 hj
   have c1 := number_sl g3 B1 b1 l1 bad hb1 hmx
   rw [← he, ← hl2] at c1
   refine Cd.exit ?_
   refine go [3,3,4,0] ?_
   refine Ls.does (some 43) (Does.call [1, 2, 0, 3, 4] rfl Tryz.func89 (by kernel_rfl) (by kernel_rfl) (c1) (by rfl) (by rfl) (by rfl)) (by rfl) (by rfl) ?_
   rintro ⟨B2, b2⟩ hb2
   dsimp only at hb2
   refine go [5,2,21] ?_
   refine Ent.nil 3 1 ?_
   refine Ent.pick [0, 1, 2, 4, 5, 3] (by rfl) ?_
   have hLl : L.length ≤ 5000 := by omega
   have hl24 : l2.length ≤ 4096 := by omega
   clear hL1 hL2 c1
   refine Cd.loop (ι := Nat × List Int × (Option Addr × Nat) × List UInt8 × Bool × (Option Addr × Nat)) (fun p => [(2, ptrW g1), (3, .int .i64 0), (4, ptrW g2), (5, ptrW g3), (7, .int .i64 p.1)]) (fun p => [rowI p.2.2.1.1 p.2.1.length p.2.2.1.2 p.2.1, blk g3 148 [.slice p.2.2.2.2.2.1 p.2.2.2.1.length p.2.2.2.2.2.2, .bool p.2.2.2.2.1], rdB p.2.2.2.2.2.1 p.2.2.2.1, blk g2 27 [.slice aA L.length ac, .slice p.2.2.1.1 p.2.1.length p.2.2.1.2, .int .i64 0, .int .i64 0, .int .i64 0], blk g1 27 [.slice none 0 0, .slice none 0 0, .int .i64 0, .int .i64 0, .int .i64 0], rowTb aA L.length ac L]) (fun p => (p.1 ≤ 4611686018427387904 ∧ p.2.2.2.1.length ≤ 4096 ∧ p.2.2.2.1.length ≤ p.2.2.2.2.2.2 ∧ p.2.1.length + p.2.2.2.1.length ≤ 5000) ∧ (p.2.2.2.2.1 = false → p.2.1.length + p.2.2.2.1.length ≤ 4096) ∧ decP l = if p.2.2.2.2.1 = true then none else stC L p.1 p.2.1 p.2.2.2.1) (fun p => p.1) ((e.1, [], (none, 0), l2, (bad || e.2.2), (B2, b2))) (⟨⟨he1, hl24, hb2, by dsimp only [List.length_nil]; omega⟩, fun _ => by dsimp only [List.length_nil]; omega, hd2⟩) ?_ rfl ?_
   · (repeat (first | exact trivial | refine ⟨by rfl, ?_⟩))
   clear hd2 hn1 he1 hl24 hb2 hl1 hb1 hmx hd1 hd0 hb
   rintro ⟨j2, D, ⟨dA, dc⟩, l3, bad2, ⟨B3, b3⟩⟩ ⟨⟨hj, hl1, hb1, hL1⟩, hL2, hdec⟩
   dsimp only at hj hl1 hb1 hL1 hL2 hdec ⊢
   have hmx : l3.length ≤ maxLen := by unfold maxLen; omega
   refine go [3,3] ?_
   refine Cd.cut (ι := Unit) (fun _ => [(2, ptrW g1), (3, .int .i64 0), (4, ptrW g2), (5, ptrW g3), (7, .int .i64 j2), (52, .bool (decide (0 < j2 ∧ bad2 = false)))]) (fun _ => [rowI dA D.length dc D, blk g3 148 [.slice B3 l3.length b3, .bool bad2], rdB B3 l3, blk g2 27 [.slice aA L.length ac, .slice dA D.length dc, .int .i64 0, .int .i64 0, .int .i64 0], blk g1 27 [.slice none 0 0, .slice none 0 0, .int .i64 0, .int .i64 0, .int .i64 0], rowTb aA L.length ac L]) (fun _ => True) ?_ ?_
   · refine go [4,0,18,0] ?_
     by_cases h0 : 0 < j2
     · refine Ent.known 46 true (by rfl) (by exact (decide_eq_true (show (0 : Int) < (j2 : Int) by omega))) ?_
       refine go [0,14,7,1,8,1,20,9,2] ?_
       refine Ent.inv (()) ?_ ?_ ?_
       · (try dsimp only); skip
       · (repeat (first | exact trivial | refine ⟨by rfl, ?_⟩ | refine ⟨by simp only [lenS]; rfl, ?_⟩ | refine ⟨by push_cast; rfl, ?_⟩ | refine ⟨by (show some (Value.bool _) = some (Value.bool _); congr 2; cases bad2 <;> simp [h0]), ?_⟩))
       · rfl
     · refine Ent.known 46 false (by rfl) (by exact (decide_eq_false (show ¬ ((0 : Int) < (j2 : Int)) by omega))) ?_
       refine go [1,1,1,1,1,10,2] ?_
       refine Ent.inv (()) ?_ ?_ ?_
       · (try dsimp only); skip
       · (repeat (first | exact trivial | refine ⟨by rfl, ?_⟩ | refine ⟨by simp only [lenS]; rfl, ?_⟩ | refine ⟨by push_cast; rfl, ?_⟩ | refine ⟨by (show some (Value.bool _) = some (Value.bool _); congr 2; exact (decide_eq_false (fun e => h0 e.1)).symm), ?_⟩))
       · rfl
   rintro _ -
   obtain ⟨f, hf⟩ : ∃ f, f = numC l3 := ⟨_, rfl⟩
   obtain ⟨l4, hl4⟩ : ∃ l4, l4 = l3.drop f.2.1 := ⟨_, rfl⟩
   have hn1 : l4.length ≤ l3.length ∧ (f.2.2 = false → l4.length + 1 ≤ l3.length) := by rw [hl4, hf]; exact numC_drop l3
   have c1 := number_sl g3 B3 b3 l3 bad2 hb1 hmx
   rw [← hf, ← hl4] at c1
   refine Cd.cond _ (by rfl) (fun h2 => ?_) (fun h2 => ?_)
   · obtain ⟨h0, rfl⟩ := of_decide_eq_true h2
     obtain ⟨j2, rfl⟩ : ∃ k, j2 = k + 1 := ⟨j2 - 1, by omega⟩
     have hL3 := hL2 rfl
     rw [if_neg (by decide), stC, ← hf, ← hl4] at hdec
     rw [Bool.false_or] at c1
     refine go [6,3,21] ?_
     refine Ent.pick [3, 0, 1, 2, 4, 5] (by rfl) ?_
     refine Cd.drawS [0] [7] (by kernel_rfl) ?_
     refine Rg.ev 0 (by rfl) (fun _ h => h.pick [0] rfl) (Ev.fieldAddr (k := 1) rfl (by rfl) (by kernel_rfl) (by rfl)) (by rfl) (some 55) (by rfl) (by kernel_rfl) (by kernel_rfl) (by kernel_rfl) (by kernel_rfl) ?_
     refine Rg.ev 1 (by rfl) (fun _ h => h.pick [0] rfl) (Ev.load 0 rfl (by rfl) (by rfl) (by kernel_rfl) (by rfl)) (by rfl) (some 56) (by rfl) (by kernel_rfl) (by kernel_rfl) (by kernel_rfl) (by kernel_rfl) ?_
     refine Rg.ev 2 (by rfl) (fun _ h => h.pick [0] rfl) (Ev.move rfl (by rfl)) (by rfl) (some 57) (by rfl) (by kernel_rfl) (by kernel_rfl) (by kernel_rfl) (by kernel_rfl) ?_
     refine Rg.one 3 (by kernel_rfl) ?_
     refine RgO.does 3 (by rfl) (Does.call [2, 3, 0, 1, 4, 5] rfl Tryz.func89 (by kernel_rfl) (by kernel_rfl) (c1) (by rfl) (by rfl) (by rfl)) (by rfl) (some 58) (by rfl) (by exact fun _ _ h => h.pick [2] (by rfl)) ?_
     rintro ⟨B4, b4⟩ hb4
     refine Rg.one 4 (by kernel_rfl) ?_
     refine RgO.does 4 (by rfl) (Does.lit (sz := 1) rfl (by rfl) Tryz.underlying25 (by kernel_rfl) (by rfl) (by kernel_rfl)) (by rfl) (some 59) (by rfl) (by exact fun _ _ h => h.pick [3] (by rfl)) ?_
     intro g4 _
     refine Rg.one 5 (by kernel_rfl) ?_
     refine RgO.does 5 (by rfl) (Does.app (xs := ints D) (news := ints [(f.1 : Int)]) 4 rfl (by rfl) (by rfl) (by rfl) (ReadsIn.row 0 (by rfl)) elem_int (one_ints _) (show (D.length + 1) * 8 ≤ 140737488355328 by omega)) (by rfl) (some 60) (by rfl) (by exact fun _ _ h => h.pick [3] (by rfl)) ?_
     rintro ⟨qA, qc⟩ -
     refine Rg.ev 6 (by rfl) (by exact fun _ h => h.pick [3] (by rfl)) (Ev.fieldAddr (k := 1) rfl (by rfl) (by kernel_rfl) (by rfl)) (by rfl) (some 61) (by rfl) (by kernel_rfl) (by kernel_rfl) (by kernel_rfl) (by kernel_rfl) ?_
     refine Rg.one 7 (by kernel_rfl) ?_
     refine RgO.tail 7 (by rfl) (Does.store 3 rfl (by rfl) (by rfl) (by rfl) (by kernel_rfl) (by rfl) (by kernel_rfl) (by rfl)) (by rfl) none (by rfl) (by kernel_rfl) (by kernel_rfl) ?_
     intro _ _
     refine Rg.done (by kernel_rfl) ?_ _
     refine go [4,0] ?_
     refine Ls.qE 54 (Ev.subN (b := 1) rfl (by rfl) (by rfl) (by omega)) ?_
     refine go [5,2] ?_
     refine Ent.pick [4, 1, 2, 3, 5, 6] (by rfl) ?_
     have hrow : row qA (D.length + 1) qc 3 1 (ints D ++ ints [(f.1 : Int)]) = rowI qA (D ++ [(f.1 : Int)]).length qc (D ++ [(f.1 : Int)]) := by
      rw [List.length_append]
      unfold rowI ints
      rw [List.map_append]
      rfl
     refine Ent.inv ((j2, D ++ [(f.1 : Int)], (qA, qc), l4, f.2.2, (B4, b4))) ?_ ?_ ?_
     · (try dsimp only); exact ⟨⟨⟨by omega, by omega, hb4, by rw [List.length_append, List.length_singleton]; omega⟩, fun hb => by have := hn1.2 hb; rw [List.length_append, List.length_singleton]; omega, hdec⟩, by omega⟩
     · (repeat (first | exact trivial | refine ⟨by rfl, ?_⟩ | refine ⟨by simp only [lenS]; rfl, ?_⟩ | refine ⟨by push_cast; rfl, ?_⟩))
     · (show [_, _, _, _, _, _] = [_, _, _, _, _, _]; dsimp only; rw [← hrow, List.length_append]; rfl)
   have h2 := of_decide_eq_false h2
   obtain ⟨g, hg⟩ : ∃ g, g = numC l4 := ⟨_, rfl⟩
   obtain ⟨l5, hl5⟩ : ∃ l5, l5 = l4.drop g.2.1 := ⟨_, rfl⟩
   obtain ⟨h, hh⟩ : ∃ h, h = numC l5 := ⟨_, rfl⟩
   obtain ⟨l6, hl6⟩ : ∃ l6, l6 = l5.drop h.2.1 := ⟨_, rfl⟩
   have hn2 : l5.length ≤ l4.length := by rw [hl5, hg]; exact (numC_drop l4).1
   have hd2 : decP l = if (bad2 || f.2.2 || g.2.2 || h.2.2) = true ∨ l6 ≠ [] then none else some ⟨L, D, f.1, g.1, h.1⟩ := by
    rw [hdec]
    cases bad2 with
    | true => simp
    | false =>
     obtain rfl : j2 = 0 := by
      rcases Nat.eq_zero_or_pos j2 with h | h
      · exact h
      · exact absurd ⟨h, rfl⟩ h2
     rw [if_neg (by decide), stC, stE, Bool.false_or, hl6, hh, hl5, hg, hl4, hf]
   clear hdec h2 hj
   refine Cd.exit ?_
   refine go [3,4,0] ?_
   refine Ls.does (some 63) (Does.call [1, 2, 0, 3, 4, 5] rfl Tryz.func89 (by kernel_rfl) (by kernel_rfl) (c1) (by rfl) (by rfl) (by rfl)) (by rfl) (by rfl) ?_
   rintro ⟨B4, b4⟩ hb4
   have c2 := number_sl g3 B4 b4 l4 (bad2 || f.2.2) hb4 (by omega)
   rw [← hg, ← hl5] at c2
   refine Ls.qM 64 ?_
   refine Ls.does (some 65) (Does.call [0, 1, 2, 3, 4, 5] rfl Tryz.func89 (by kernel_rfl) (by kernel_rfl) (c2) (by rfl) (by rfl) (by rfl)) (by rfl) (by rfl) ?_
   rintro ⟨B5, b5⟩ hb5
   have c3 := number_sl g3 B5 b5 l5 (bad2 || f.2.2 || g.2.2) hb5 (by omega)
   rw [← hh, ← hl6] at c3
   refine Ls.qM 66 ?_
   refine Ls.does (some 67) (Does.call [0, 1, 2, 3, 4, 5] rfl Tryz.func89 (by kernel_rfl) (by kernel_rfl) (c3) (by rfl) (by rfl) (by rfl)) (by rfl) (by rfl) ?_
   rintro ⟨B6, b6⟩ hb6
   refine go [7,2,15,3,7,3,15,3,7,4,15,3,2,3,3] ?_
   refine Cd.cut (ι := Unit) (fun _ => [(2, ptrW g1), (4, ptrW g2), (82, .bool (decide ((bad2 || f.2.2 || g.2.2 || h.2.2) = true ∨ l6 ≠ [])))]) (fun _ => [blk g2 27 [.slice aA L.length ac, .slice dA D.length dc, .int .i64 f.1, .int .i64 g.1, .int .i64 h.1], blk g1 27 [.slice none 0 0, .slice none 0 0, .int .i64 0, .int .i64 0, .int .i64 0], rowTb aA L.length ac L, rowI dA D.length dc D]) (fun _ => True) ?_ ?_
   · refine go [4,0,14,7,1,8,0,0] ?_
     cases hbd : (bad2 || f.2.2 || g.2.2 || h.2.2) with
     | true =>
      refine Ent.known 75 true (by rfl) (by exact (rfl)) ?_
      refine go [1,1,1,1,1,1,9,2] ?_
      refine Ent.pick [3, 4, 5, 2] (by rfl) ?_
      refine Ent.inv (()) ?_ ?_ ?_
      · (try dsimp only); skip
      · (repeat (first | exact trivial | refine ⟨by rfl, ?_⟩ | refine ⟨by simp only [lenS]; rfl, ?_⟩ | refine ⟨by push_cast; rfl, ?_⟩ | refine ⟨by (show some (Value.bool _) = some (Value.bool _); congr 2; simp), ?_⟩))
      · rfl
     | false =>
      refine Ent.known 75 false (by rfl) (by exact (rfl)) ?_
      refine go [0,14,7,0,8,0] ?_
      refine Ls.qE 80 (Ev.len rfl (by rfl) Tryz.underlying47) ?_
      refine go [18,10,2] ?_
      refine Ent.pick [3, 4, 5, 2] (by rfl) ?_
      refine Ent.inv (()) ?_ ?_ ?_
      · (try dsimp only); skip
      · (repeat (first | exact trivial | refine ⟨by rfl, ?_⟩ | refine ⟨by simp only [lenS]; rfl, ?_⟩ | refine ⟨by push_cast; rfl, ?_⟩ | refine ⟨by (show some (Value.bool _) = some (Value.bool _); congr 2; rw [decide_eq_decide]; rcases l6 with _ | ⟨z, l6⟩ <;> simp <;> omega), ?_⟩))
      · rfl
   rintro _ -
   refine Cd.cond _ (by rfl) (fun h3 => ?_) (fun h3 => ?_)
   · rw [hd2, if_pos (of_decide_eq_true h3)]
     refine go [3,4] ?_
     refine Ls.qE 83 (Ev.buildP (pl := [(0, 1), (1, 1), (2, 1), (3, 1), (4, 1)]) (zs := [.slice none 0 0, .slice none 0 0, .int .i64 0, .int .i64 0, .int .i64 0]) rfl (by rfl) (by kernel_rfl) (by rfl)) ?_
     refine go [15,1,5,2,22] ?_
     exact Ent.rA (((none, 0), (none, 0))) [] trivial (Res.cell_tmp 1 (by rfl) (by rfl) (by rfl) (n := 5) (by kernel_rfl) (by rfl) (by rfl) (by rfl))
   · rw [hd2, if_neg (of_decide_eq_false h3)]
     refine go [6,3,4,12,0,5,15,1,5,2,22] ?_
     exact Ent.rA (((aA, ac), (dA, dc))) [2,3] trivial (Res.cell_tmp 1 (by rfl) (by rfl) (by rfl) (n := 5) (by kernel_rfl) (by rfl) (by rfl) (by rfl))
theorem Sat.rdNilB {Γ : Ctx} {H : List Chunk} {w : World} (h : Sat Γ H w) : Sat Γ (rdB none [] :: H) w :=
 h.free rfl (fun k hk => absurd hk.1 (Nat.lt_irrefl 0)) ⟨rfl, fun hn => absurd hn (Nat.lt_irrefl 0)⟩
def takL (l : List UInt8) : List UInt8 := if (numC l).2.2 = true then [] else l.drop (numC l).2.1
theorem takL_le (l : List UInt8) : (takL l).length ≤ l.length := by
 have := (numC_drop l).1
 unfold takL
 split
 · exact Nat.zero_le _
 · exact this
theorem take_sl (A : Option Addr) (c : Nat) (l : List UInt8) (hc : l.length ≤ c) (hm : l.length ≤ maxLen) : Fn Tryz.prog 110 #[.slice A l.length c] [rdB A l] (Option Addr × Nat) (fun p => .tuple #[.int .i64 (numC l).1, .slice p.1 (takL l).length p.2, .bool (!(numC l).2.2)]) (fun p => [rdB p.1 (takL l)]) (fun p => (takL l).length ≤ p.2) := by
 have hle := takeU_le l
 refine Fn.enter Tryz.func110 rfl Tryz.ntmps110 (by rfl) ?_
 intro w0
 refine go [3,4,5,5,5,25,0] ?_
 refine Ls.does (some 9) (Does.read rfl Tryz.func140 (by kernel_rfl) (by kernel_rfl) (refTakeUint_sl A c l hc hm) (by rfl) (by rfl) ⟨ReadsIn.rd 0 (by rfl), trivial⟩) (by rfl) (by rfl) ?_
 rintro _ -
 refine go [0,11,11,5,5,2,3,3] ?_
 refine Cd.cut (ι := Unit) (fun _ => [(0, .slice A l.length c), (5, .int .u64 (takeU l).1), (6, .int .i64 (takeU l).2), (17, .bool (decide ((takeU l).2 = 0 ∨ 4611686018427387904 < (takeU l).1)))]) (fun _ => [rdB A l]) (fun _ => True) ?_ ?_
 · refine go [4,0,19,0] ?_
   refine Ent.split 14 (by rfl) (fun h => ?_) (fun h => ?_)
   · have h1 : (takeU l).2 ≠ 0 := by have := of_decide_eq_false h; omega
     refine go [0,18,10,2] ?_
     refine Ent.inv (()) ?_ ?_ ?_
     · (try dsimp only); skip
     · (repeat (first | exact trivial | refine ⟨by rfl, ?_⟩ | refine ⟨by simp only [lenS]; rfl, ?_⟩ | refine ⟨by push_cast; rfl, ?_⟩ | refine ⟨by (show some (Value.bool _) = some (Value.bool _); congr 2; rw [decide_eq_decide]; omega), ?_⟩))
     · rfl
   · have h1 : (takeU l).2 = 0 := by have := of_decide_eq_true h; omega
     refine go [1,1,9,2] ?_
     refine Ent.inv (()) ?_ ?_ ?_
     · (try dsimp only); skip
     · (repeat (first | exact trivial | refine ⟨by rfl, ?_⟩ | refine ⟨by simp only [lenS]; rfl, ?_⟩ | refine ⟨by push_cast; rfl, ?_⟩ | refine ⟨by (show some (Value.bool _) = some (Value.bool _); congr 2; exact (decide_eq_true (.inl h1)).symm), ?_⟩))
     · rfl
 rintro _ -
 refine Cd.cond _ (by rfl) (fun h => ?_) (fun h => ?_)
 · have hn : numC l = (0, 0, true) := by unfold numC; rw [if_pos (of_decide_eq_true h)]
   have ht : takL l = [] := by unfold takL; rw [if_pos (by rw [hn])]
   rw [hn, ht]
   refine go [3,4,5,5,5,2] ?_
   refine Ent.map (fun w hs => hs.rdNilB) ?_
   refine Cd.ret ?_
   exact Ent.rA ((none, 0)) [0] (Nat.zero_le _) (Res.tmp3 (by rfl) (by rfl) (by rfl) (by rfl))
 · have hbig := of_decide_eq_false h
   have hn : numC l = ((takeU l).1, (takeU l).2, false) := by unfold numC; rw [if_neg hbig]
   have ht : takL l = l.drop (takeU l).2 := by unfold takL; rw [hn, if_neg Bool.false_ne_true]
   rw [hn, ht]
   refine go [6,3] ?_
   refine Cd.draw [] (by kernel_rfl) ?_
   refine Rg.qE 0 18 (by rfl) (Ev.move rfl (by rfl)) ?_
   refine Rg.qE 1 19 (by rfl) (Ev.convI rfl (by rfl) (by kernel_rfl) Tryz.underlying3 (by omega)) ?_
   refine Rg.qE 2 20 (by rfl) (Ev.move rfl (by rfl)) ?_
   refine Rg.qE 3 21 (by rfl) (Ev.move rfl (by rfl)) ?_
   refine Rg.qE 4 22 (by rfl) (Ev.dropB rfl (by rfl) (by rfl) Tryz.underlying47 (by kernel_rfl) hle.1) ?_
   refine Rg.qE 5 2 (by rfl) (Ev.assign rfl (by rfl)) ?_
   refine Rg.qE 6 3 (by rfl) (Ev.assign rfl (by rfl)) ?_
   refine Rg.qE 7 4 (by rfl) (Ev.assign rfl (by rfl)) ?_
   refine Rg.done (by kernel_rfl) ?_ _
   refine Ent.dropB 0 (takeU l).2 c (by rfl) ⟨hle.1, hc⟩ ?_
   refine Cd.ret ?_
   exact Ent.rA ((cutA A c (takeU l).2 1, c - (takeU l).2)) [0] ((by dsimp only; rw [List.length_drop]; omega)) (Res.tmp3 (by rfl) (by rfl) (by rfl) (by rfl))
theorem takL_ok {l : List UInt8} (h : (numC l).2.2 = false) : takL l = l.drop (numC l).2.1 := by
 unfold takL
 rw [h, if_neg Bool.false_ne_true]
def stE2 (L : List TbP) (D : List Int) (x y : Int) (l : List UInt8) : Option EdP := if (numC l).2.2 = true ∨ l.drop (numC l).2.1 ≠ [] then none else some ⟨L, D, x, y, (numC l).1⟩
def stE1 (L : List TbP) (D : List Int) (x : Int) (l : List UInt8) : Option EdP := if (numC l).2.2 = true then none else stE2 L D x (numC l).1 (l.drop (numC l).2.1)
theorem stE_eq (L : List TbP) (D : List Int) (l : List UInt8) : stE L D l = if (numC l).2.2 = true then none else stE1 L D (numC l).1 (l.drop (numC l).2.1) := by
 unfold stE stE1 stE2
 dsimp only
 cases (numC l).2.2 <;> cases (numC (l.drop (numC l).2.1)).2.2 <;> simp
theorem txtC_bad {l : List UInt8} (h : (takeT l).2 = 0) : (txtC l).2.2 = true := by
 unfold txtC
 rw [if_pos h]
theorem txtC_ok {l : List UInt8} (h : (takeT l).2 ≠ 0) : txtC l = (txt (takeT l).1, (takeT l).2, false) := by
 unfold txtC
 rw [if_neg h]
set_option maxHeartbeats 4000000 in
theorem rdecode_sl (A : Option Addr) (c : Nat) (l : List UInt8) (hc : l.length ≤ c) (hm : l.length ≤ maxLen) : Fn Tryz.prog 69 #[.slice A l.length c] [rdB A l] ((Option Addr × Nat) × (Option Addr × Nat)) (decW (decP l)) (decC (decP l)) (fun _ => True) := by
 refine Fn.enter Tryz.func69 rfl Tryz.ntmps69 (by rfl) ?_
 intro w0
 refine go [3,4] ?_
 refine Ls.does (some 2) (Does.alloc (cs := [.slice none 0 0, .slice none 0 0, .int .i64 0, .int .i64 0, .int .i64 0]) rfl (ZeroIs.mk (.agg #[.slice none 0 0, .slice none 0 0, .int .i64 0, .int .i64 0, .int .i64 0]) (by kernel_rfl) (by rfl))) (by rfl) (by rfl) ?_
 intro g1 _
 refine go [5,25] ?_
 refine Ls.qE 14 (Ev.buildP (pl := [(0, 1), (1, 1), (2, 1), (3, 1), (4, 1)]) (zs := [.slice none 0 0, .slice none 0 0, .int .i64 0, .int .i64 0, .int .i64 0]) rfl (by rfl) (by kernel_rfl) (by rfl)) ?_
 refine Ls.does (some 4) (Does.alloc (cs := [.slice none 0 0, .slice none 0 0, .int .i64 0, .int .i64 0, .int .i64 0]) rfl (ZeroIs.mk (.agg #[.slice none 0 0, .slice none 0 0, .int .i64 0, .int .i64 0, .int .i64 0]) (by kernel_rfl) (by rfl))) (by rfl) (by rfl) ?_
 intro g2 _
 refine go [15,0,2,3,3,4,0] ?_
 refine Ls.qE 16 (Ev.len rfl (by rfl) Tryz.underlying47) ?_
 refine go [18,2] ?_
 by_cases hlong : 4096 < l.length
 · rw [show decP l = none from if_pos (.inl hlong)]
   refine Cd.cond_true (by rfl) (decide_eq_true (show (4096 : Int) < (l.length : Int) by omega)) ?_
   refine go [3,4,12,0,5,15,1,5,2,22] ?_
   exact Ent.rA (((none, 0), (none, 0))) [] trivial (Res.cell_tmp 1 (by rfl) (by rfl) (by rfl) (n := 5) (by kernel_rfl) (by rfl) (by rfl) (by rfl))
 refine Cd.cond_false (by rfl) (decide_eq_false (show ¬ ((4096 : Int) < (l.length : Int)) by omega)) ?_
 have c0 := take_sl A c l hc hm
 have hd0 : decP l = if (!(numC l).2.2) = true then stA (numC l).1 [] (takL l) else none := by
  unfold decP
  cases hx : (numC l).2.2 with
  | true => rw [if_pos (.inr rfl)]; rfl
  | false => rw [if_neg (fun e => e.elim hlong (fun e => by cases e)), takL_ok hx]; rfl
 have hl1 := takL_le l
 have hn0 := numC_le2 l
 obtain ⟨n0, hn0e⟩ : ∃ n0, n0 = (numC l).1 := ⟨_, rfl⟩
 obtain ⟨ok0, hok0⟩ : ∃ ok0, ok0 = !(numC l).2.2 := ⟨_, rfl⟩
 obtain ⟨lq, hlq⟩ : ∃ lq, lq = takL l := ⟨_, rfl⟩
 rw [← hn0e, ← hok0, ← hlq] at c0
 rw [← hn0e, ← hok0, ← hlq] at hd0
 rw [← hlq] at hl1
 rw [← hn0e] at hn0
 refine go [6,3,4,0] ?_
 refine Ls.does (some 21) (Does.call [2, 0, 1] rfl Tryz.func110 (by kernel_rfl) (by kernel_rfl) (c0) (by rfl) (by rfl) (by rfl)) (by rfl) (by rfl) ?_
 rintro ⟨B, b⟩ hb
 dsimp only at hb
 refine go [0,11,11,11,5,5,5,2,3,3,4,5,2,21] ?_
 refine Ent.nil 42 4 ?_
 refine Cd.loop (ι := Nat × List TbP × (Option Addr × Nat) × List UInt8 × Bool × (Option Addr × Nat)) (fun p => [(0, .slice p.2.2.2.2.2.1 p.2.2.2.1.length p.2.2.2.2.2.2), (2, ptrW g1), (4, ptrW g2), (5, .int .i64 n0), (6, .bool p.2.2.2.2.1), (7, .int .i64 p.1)]) (fun p => [rowTb p.2.2.1.1 p.2.1.length p.2.2.1.2 p.2.1, rdB p.2.2.2.2.2.1 p.2.2.2.1, blk g2 27 [.slice p.2.2.1.1 p.2.1.length p.2.2.1.2, .slice none 0 0, .int .i64 0, .int .i64 0, .int .i64 0], blk g1 27 [.slice none 0 0, .slice none 0 0, .int .i64 0, .int .i64 0, .int .i64 0]]) (fun p => (p.1 ≤ n0 ∧ p.2.2.2.1.length ≤ 4096 ∧ p.2.2.2.1.length ≤ p.2.2.2.2.2.2 ∧ p.2.1.length ≤ 4097) ∧ (p.2.2.2.2.1 = true → p.2.1.length + p.2.2.2.1.length ≤ 4096) ∧ decP l = if p.2.2.2.2.1 = true then stA (n0 - p.1) p.2.1 p.2.2.2.1 else none) (fun p => n0 - p.1) ((0, [], (none, 0), lq, ok0, (B, b))) (⟨⟨Nat.zero_le _, by dsimp only; omega, hb, by dsimp only [List.length_nil]; omega⟩, fun _ => by dsimp only [List.length_nil]; omega, hd0⟩) ?_ rfl ?_
 · (repeat (first | exact trivial | refine ⟨by rfl, ?_⟩))
 clear hd0 hb hl1 c0 hok0 hlq hn0e hm hc
 rintro ⟨i, L, ⟨aA, ac⟩, l1, ok, ⟨B1, b1⟩⟩ ⟨⟨hi, hl1, hb1, hL1⟩, hL2, hdec⟩
 dsimp only at hi hl1 hb1 hL1 hL2 hdec ⊢
 have hmx : l1.length ≤ maxLen := by unfold maxLen; omega
 refine go [3,3] ?_
 refine Cd.cut (ι := Unit) (fun _ => [(0, .slice B1 l1.length b1), (2, ptrW g1), (4, ptrW g2), (5, .int .i64 n0), (6, .bool ok), (7, .int .i64 i), (30, .bool (decide (i < n0 ∧ ok = true)))]) (fun _ => [rowTb aA L.length ac L, rdB B1 l1, blk g2 27 [.slice aA L.length ac, .slice none 0 0, .int .i64 0, .int .i64 0, .int .i64 0], blk g1 27 [.slice none 0 0, .slice none 0 0, .int .i64 0, .int .i64 0, .int .i64 0]]) (fun _ => True) ?_ ?_
 · refine go [4,0,0,16,0] ?_
   by_cases h0 : i < n0
   · refine Ent.known 28 true (by rfl) (by exact (decide_eq_true (show (i : Int) < (n0 : Int) by omega))) ?_
     refine go [0,9,2] ?_
     refine Ent.inv (()) ?_ ?_ ?_
     · (try dsimp only); skip
     · (repeat (first | exact trivial | refine ⟨by rfl, ?_⟩ | refine ⟨by simp only [lenS]; rfl, ?_⟩ | refine ⟨by push_cast; rfl, ?_⟩ | refine ⟨by (show some (Value.bool _) = some (Value.bool _); congr 2; cases ok <;> simp [h0]), ?_⟩))
     · rfl
   · refine Ent.known 28 false (by rfl) (by exact (decide_eq_false (show ¬ ((i : Int) < (n0 : Int)) by omega))) ?_
     refine go [1,10,2] ?_
     refine Ent.inv (()) ?_ ?_ ?_
     · (try dsimp only); skip
     · (repeat (first | exact trivial | refine ⟨by rfl, ?_⟩ | refine ⟨by simp only [lenS]; rfl, ?_⟩ | refine ⟨by push_cast; rfl, ?_⟩ | refine ⟨by (show some (Value.bool _) = some (Value.bool _); congr 2; exact (decide_eq_false (fun e => h0 e.1)).symm), ?_⟩))
     · rfl
 rintro _ -
 refine Cd.cond _ (by rfl) (fun h2 => ?_) (fun h2 => ?_)
 · obtain ⟨h0, rfl⟩ := of_decide_eq_true h2
   have hL3 := hL2 rfl
   obtain ⟨j, hj⟩ : ∃ j, n0 - i = j + 1 := ⟨n0 - i - 1, by omega⟩
   rw [if_pos rfl, hj, stA] at hdec
   have ht1 := tabR_le l1
   have c1 := take_sl B1 b1 l1 hb1 hmx
   have hlt1 := takL_le l1
   obtain ⟨a, ha⟩ : ∃ a, a = numC l1 := ⟨_, rfl⟩
   obtain ⟨l2, hl2⟩ : ∃ l2, l2 = l1.drop a.2.1 := ⟨_, rfl⟩
   obtain ⟨bq, hbq⟩ : ∃ b, b = numC l2 := ⟨_, rfl⟩
   obtain ⟨l3, hl3⟩ : ∃ l3, l3 = l2.drop bq.2.1 := ⟨_, rfl⟩
   obtain ⟨x, hx⟩ : ∃ x, x = txtC l3 := ⟨_, rfl⟩
   obtain ⟨l4, hl4⟩ : ∃ l4, l4 = l3.drop x.2.1 := ⟨_, rfl⟩
   obtain ⟨y, hy⟩ : ∃ y, y = txtC l4 := ⟨_, rfl⟩
   obtain ⟨l5, hl5⟩ : ∃ l5, l5 = l4.drop y.2.1 := ⟨_, rfl⟩
   have hT : tabR l1 = (⟨a.1, bq.1, x.1.data.toList, y.1.data.toList⟩, l5, a.2.2 || bq.2.2 || x.2.2 || y.2.2) := by
    rw [hl5, hy, hl4, hx, hl3, hbq, hl2, ha]
    rfl
   rw [hT] at hdec ht1
   dsimp only at hdec ht1
   have htk1 : a.2.2 = false → takL l1 = l2 := fun h => by rw [ha] at h; rw [hl2, ha]; exact takL_ok h
   have htk2 : bq.2.2 = false → takL l2 = l3 := fun h => by rw [hbq] at h; rw [hl3, hbq]; exact takL_ok h
   rw [← ha] at c1
   obtain ⟨r1, hr1⟩ : ∃ r1, r1 = takL l1 := ⟨_, rfl⟩
   rw [← hr1] at c1 htk1 hlt1
   refine go [6,3,21,3,4] ?_
   refine Ls.qE 33 (Ev.buildP (pl := [(0, 1), (1, 1), (2, 1), (3, 1)]) (zs := [.int .i64 0, .int .i64 0, .string ⟨#[]⟩, .string ⟨#[]⟩]) rfl (by rfl) (by kernel_rfl) (by rfl)) ?_
   refine Ls.does (some 8) (Does.alloc (cs := [.int .i64 0, .int .i64 0, .string ⟨#[]⟩, .string ⟨#[]⟩]) rfl (ZeroIs.mk (.agg #[.int .i64 0, .int .i64 0, .string ⟨#[]⟩, .string ⟨#[]⟩]) (by kernel_rfl) (by rfl))) (by rfl) (by rfl) ?_
   intro g3 _
   refine go [15,0,25,0] ?_
   refine Ls.does (some 36) (Does.call [2, 0, 1, 3, 4] rfl Tryz.func110 (by kernel_rfl) (by kernel_rfl) (c1) (by rfl) (by rfl) (by rfl)) (by rfl) (by rfl) ?_
   rintro ⟨B2, b2⟩ hb2
   dsimp only at hb2
   refine go [0,11,11,11,7,0,15,1,5,5,2,3,3,4,0,2] ?_
   refine Cd.cut (ι := List UInt8 × Bool × Nat × (Option Addr × Nat)) (fun q => [(0, .slice q.2.2.2.1 q.1.length q.2.2.2.2), (2, ptrW g1), (4, ptrW g2), (5, .int .i64 n0), (6, .bool q.2.1), (7, .int .i64 i), (8, ptrW g3)]) (fun q => [rdB q.2.2.2.1 q.1, blk g3 42 [.int .i64 a.1, .int .i64 q.2.2.1, .string ⟨#[]⟩, .string ⟨#[]⟩], rowTb aA L.length ac L, blk g2 27 [.slice aA L.length ac, .slice none 0 0, .int .i64 0, .int .i64 0, .int .i64 0], blk g1 27 [.slice none 0 0, .slice none 0 0, .int .i64 0, .int .i64 0, .int .i64 0]]) (fun q => q.1.length ≤ q.2.2.2.2 ∧ q.1.length ≤ l1.length ∧ (q.2.1 = true → a.2.2 = false ∧ bq.2.2 = false ∧ q.1 = l3 ∧ q.2.2.1 = bq.1) ∧ (q.2.1 = false → (a.2.2 || bq.2.2) = true)) ?_ ?_
   · cases hab : a.2.2 with
     | true =>
      refine go [24,6] ?_
      refine Ent.iA ((r1, false, 0, (B2, b2))) ?_
      (try dsimp only); exact ⟨hb2, hlt1, fun h => (by cases h), fun _ => rfl⟩
     | false =>
      obtain rfl := htk1 hab
      have c2 := take_sl B2 b2 r1 hb2 (by omega)
      have hlt2 := takL_le r1
      rw [← hbq] at c2
      refine go [23,4,0] ?_
      refine Ls.does (some 44) (Does.call [0, 1, 2, 3, 4] rfl Tryz.func110 (by kernel_rfl) (by kernel_rfl) (c2) (by rfl) (by rfl) (by rfl)) (by rfl) (by rfl) ?_
      rintro ⟨B3, b3⟩ hb3
      dsimp only at hb3
      refine go [0,11,11,11,7,1,15,1,5,5,2] ?_
      refine Ent.iA ((takL r1, !bq.2.2, bq.1, (B3, b3))) ?_
      (try dsimp only); exact ⟨hb3, by omega, fun h => (have h' : bq.2.2 = false := (by simpa using h); ⟨rfl, h', htk2 h', rfl⟩), fun h => (by simpa using h)⟩
   rintro ⟨u, ok1, lev, ⟨B3, b3⟩⟩ ⟨hub, hul, hu1, hu2⟩
   dsimp only at hub hul hu1 hu2 ⊢
   refine go [3,3,4,5,2,21] ?_
   refine Cd.loop (ι := Nat × List UInt8 × Bool × (List UInt8 × List UInt8) × (Option Addr × Nat)) (fun q => [(0, .slice q.2.2.2.2.1 q.2.1.length q.2.2.2.2.2), (2, ptrW g1), (4, ptrW g2), (5, .int .i64 n0), (6, .bool q.2.2.1), (7, .int .i64 i), (8, ptrW g3), (9, .int .i64 q.1)]) (fun q => [rdB q.2.2.2.2.1 q.2.1, blk g3 42 [.int .i64 a.1, .int .i64 lev, .string (txt q.2.2.2.1.1), .string (txt q.2.2.2.1.2)], rowTb aA L.length ac L, blk g2 27 [.slice aA L.length ac, .slice none 0 0, .int .i64 0, .int .i64 0, .int .i64 0], blk g1 27 [.slice none 0 0, .slice none 0 0, .int .i64 0, .int .i64 0, .int .i64 0]]) (fun q => (q.1 ≤ 2 ∧ q.2.1.length ≤ q.2.2.2.2.2 ∧ q.2.1.length ≤ l1.length) ∧ (q.2.2.1 = true → (a.2.2 = false ∧ bq.2.2 = false ∧ lev = bq.1) ∧ (q.1 = 0 → q.2.1 = l3) ∧ (1 ≤ q.1 → x.2.2 = false ∧ q.2.2.2.1.1 = x.1.data.toList) ∧ (q.1 = 1 → q.2.1 = l4) ∧ (q.1 = 2 → (y.2.2 = false ∧ q.2.2.2.1.2 = y.1.data.toList) ∧ q.2.1 = l5)) ∧ (q.2.2.1 = false → (a.2.2 || bq.2.2 || x.2.2 || y.2.2) = true)) (fun q => 2 - q.1) ((0, u, ok1, ([], []), (B3, b3))) (⟨⟨Nat.zero_le _, hub, hul⟩, fun h => (have k := hu1 h; ⟨⟨k.1, k.2.1, k.2.2.2⟩, fun _ => k.2.2.1, fun (e : 1 ≤ 0) => absurd e (by decide), fun (e : 0 = 1) => absurd e (by decide), fun (e : 0 = 2) => absurd e (by decide)⟩), fun h => (by have := hu2 h; simp only [Bool.or_eq_true] at this ⊢; exact .inl (.inl this))⟩) ?_ rfl ?_
   · (repeat (first | exact trivial | refine ⟨by rfl, ?_⟩))
   clear hub hul hu1 hu2 u ok1 hlt1 htk1 hr1
   rintro ⟨k, u, ok1, ⟨fs, ls⟩, ⟨B4, b4⟩⟩ ⟨⟨hk, hub, hul⟩, hu1, hu2⟩
   dsimp only at hk hub hul hu1 hu2 ⊢
   refine go [3,3] ?_
   refine Cd.cut (ι := Unit) (fun _ => [(0, .slice B4 u.length b4), (2, ptrW g1), (4, ptrW g2), (5, .int .i64 n0), (6, .bool ok1), (7, .int .i64 i), (8, ptrW g3), (9, .int .i64 k), (53, .bool (decide (k < 2 ∧ ok1 = true)))]) (fun _ => [rdB B4 u, blk g3 42 [.int .i64 a.1, .int .i64 lev, .string (txt fs), .string (txt ls)], rowTb aA L.length ac L, blk g2 27 [.slice aA L.length ac, .slice none 0 0, .int .i64 0, .int .i64 0, .int .i64 0], blk g1 27 [.slice none 0 0, .slice none 0 0, .int .i64 0, .int .i64 0, .int .i64 0]]) (fun _ => True) ?_ ?_
   · refine go [4,0,16,0] ?_
     by_cases h0 : k < 2
     · refine Ent.known 51 true (by rfl) (by exact (decide_eq_true (show (k : Int) < 2 by omega))) ?_
       refine go [0,9,2] ?_
       refine Ent.inv (()) ?_ ?_ ?_
       · (try dsimp only); skip
       · (repeat (first | exact trivial | refine ⟨by rfl, ?_⟩ | refine ⟨by simp only [lenS]; rfl, ?_⟩ | refine ⟨by push_cast; rfl, ?_⟩ | refine ⟨by (show some (Value.bool _) = some (Value.bool _); congr 2; cases ok1 <;> simp [h0]), ?_⟩))
       · rfl
     · refine Ent.known 51 false (by rfl) (by exact (decide_eq_false (show ¬ ((k : Int) < 2) by omega))) ?_
       refine go [1,10,2] ?_
       refine Ent.inv (()) ?_ ?_ ?_
       · (try dsimp only); skip
       · (repeat (first | exact trivial | refine ⟨by rfl, ?_⟩ | refine ⟨by simp only [lenS]; rfl, ?_⟩ | refine ⟨by push_cast; rfl, ?_⟩ | refine ⟨by (show some (Value.bool _) = some (Value.bool _); congr 2; exact (decide_eq_false (fun e => h0 e.1)).symm), ?_⟩))
       · rfl
   rintro _ -
   refine Cd.cond _ (by rfl) (fun h3 => ?_) (fun h3 => ?_)
   · obtain ⟨h00, rfl⟩ := of_decide_eq_true h3
     obtain ⟨⟨w1, w2, w3⟩, w4, w5, w6, -⟩ := hu1 rfl
     have hz := takeT_le u
     have c3 := refTakeText_sl B4 b4 u hub (by omega)
     obtain ⟨zt, hzt⟩ : ∃ zt, zt = (takeT u).1 := ⟨_, rfl⟩
     obtain ⟨zn, hzn⟩ : ∃ zn, zn = (takeT u).2 := ⟨_, rfl⟩
     rw [← hzt, ← hzn] at c3 hz
     refine go [6,3,21,3,4,0] ?_
     refine Ls.does (some 58) (Does.read rfl Tryz.func111 (by kernel_rfl) (by kernel_rfl) (c3) (by rfl) (by rfl) ⟨ReadsIn.rd 0 (by rfl), trivial⟩) (by rfl) (by rfl) ?_
     rintro _ -
     refine go [0,11,11,5,5,25,0,18,5,25,0,0] ?_
     refine Ls.qE 65 (Ev.dropB rfl (by rfl) (by rfl) Tryz.underlying47 (by kernel_rfl) hz.1) ?_
     refine Ent.dropB 0 zn b4 (by rfl) ⟨hz.1, hub⟩ ?_
     refine Ent.pick [0, 2, 3, 4, 5] (by rfl) ?_
     refine go [5,25,0,19,2] ?_
     by_cases hk0 : k = 0
     · obtain rfl := hk0
       obtain rfl := w4 rfl
       refine Cd.cond_true (by rfl) (decide_eq_true rfl) ?_
       refine go [4,0,7,2,15,1,2,4,0] ?_
       refine Ls.qE 55 (Ev.addN (b := 1) rfl (by rfl) (by rfl) (by omega)) ?_
       refine go [5,2] ?_
       refine Ent.iA ((1, u.drop zn, decide (0 < (zn : Int)), (zt, ls), (cutA B4 b4 zn 1, b4 - zn))) ?_
       (try dsimp only); exact ⟨⟨⟨by decide, by rw [List.length_drop]; omega, by rw [List.length_drop]; omega⟩, fun h => (by
        have h := of_decide_eq_true h
        have hxx : x = (txt zt, zn, false) := by rw [hx, hzt, hzn]; exact txtC_ok (by omega)
        exact ⟨⟨w1, w2, w3⟩, fun e => (by cases e), fun _ => ⟨by rw [hxx], by rw [hxx]; rfl⟩, fun _ => by rw [hl4, hxx], fun e => (by cases e)⟩), fun h => (by
        have h := of_decide_eq_false h
        have : x.2.2 = true := by rw [hx]; exact txtC_bad (by omega)
        rw [this]; simp)⟩, by decide⟩
     · obtain rfl : k = 1 := by omega
       obtain rfl := w6 rfl
       obtain ⟨v1, v2⟩ := w5 (by decide)
       refine Cd.cond_false (by rfl) (decide_eq_false (by decide)) ?_
       refine go [4,0,7,3,15,1,2,4,0] ?_
       refine Ls.qE 55 (Ev.addN (b := 1) rfl (by rfl) (by rfl) (by omega)) ?_
       refine go [5,2] ?_
       refine Ent.iA ((2, u.drop zn, decide (0 < (zn : Int)), (fs, zt), (cutA B4 b4 zn 1, b4 - zn))) ?_
       (try dsimp only); exact ⟨⟨⟨by decide, by rw [List.length_drop]; omega, by rw [List.length_drop]; omega⟩, fun h => (by
        have h := of_decide_eq_true h
        have hxx : y = (txt zt, zn, false) := by rw [hy, hzt, hzn]; exact txtC_ok (by omega)
        exact ⟨⟨w1, w2, w3⟩, fun e => (by cases e), fun _ => ⟨v1, v2⟩, fun e => (by cases e), fun _ => ⟨⟨by rw [hxx], by rw [hxx]; rfl⟩, by rw [hl5, hxx]⟩⟩), fun h => (by
        have h := of_decide_eq_false h
        have : y.2.2 = true := by rw [hy]; exact txtC_bad (by omega)
        rw [this]; simp)⟩, by decide⟩
   have h3 := of_decide_eq_false h3
   obtain ⟨t, ht⟩ : ∃ t : TbP, t = ⟨a.1, lev, fs, ls⟩ := ⟨_, rfl⟩
   have hfin : ok1 = true → (a.2.2 || bq.2.2 || x.2.2 || y.2.2) = false ∧ (⟨a.1, bq.1, x.1.data.toList, y.1.data.toList⟩ : TbP) = t ∧ u = l5 := fun h => by
    subst h
    obtain rfl : k = 2 := by
     rcases Nat.lt_or_ge k 2 with h | h
     · exact absurd ⟨h, rfl⟩ h3
     · omega
    obtain ⟨⟨w1, w2, w3⟩, -, w5, -, w7⟩ := hu1 rfl
    obtain ⟨v1, v2⟩ := w5 (by decide)
    obtain ⟨⟨v3, v4⟩, v5⟩ := w7 rfl
    exact ⟨by rw [w1, w2, v1, v3]; rfl, by rw [ht, w3, v2, v4], v5⟩
   refine Cd.exit ?_
   refine go [4,7,0,8,3,12,1,4] ?_
   refine Ls.does (some 75) (Does.lit (sz := 4) rfl (by rfl) Tryz.underlying22 (by kernel_rfl) (by rfl) (by kernel_rfl)) (by rfl) (by rfl) ?_
   intro g4 _
   refine Ls.does (some 76) (Does.app (xs := tbs L) (news := tbs [⟨a.1, lev, fs, ls⟩]) 3 rfl (by rfl) (by rfl) (by rfl) (ReadsIn.row 0 (by rfl)) elem_tb (one_tb _) (show (L.length + 1) * 48 ≤ 140737488355328 by omega)) (by rfl) (by rfl) ?_
   rw [← ht]
   rintro ⟨qA, qc⟩ -
   refine go [7,0,15,4,2,4,0] ?_
   refine Ls.qE 32 (Ev.addN (b := 1) rfl (by rfl) (by rfl) (by omega)) ?_
   refine go [5,2] ?_
   refine Ent.pick [3, 1, 4, 5] (by rfl) ?_
   have hrow : row qA (L.length + 1) qc 42 4 (tbs L ++ tbs [t]) = rowTb qA (L ++ [t]).length qc (L ++ [t]) := by
    rw [← tbs_append, List.length_append]
    rfl
   refine Ent.inv ((i + 1, L ++ [t], (qA, qc), u, ok1, (B4, b4))) ?_ ?_ ?_
   · (try dsimp only); exact ⟨⟨⟨by omega, by omega, hub, by rw [List.length_append, List.length_singleton]; omega⟩, fun h => (by
      obtain ⟨e1, e2, e3⟩ := hfin h
      have := ht1.2 e1
      rw [List.length_append, List.length_singleton, e3]
      omega), (by
      rw [hdec]
      cases ok1 with
      | true =>
       obtain ⟨e1, e2, e3⟩ := hfin rfl
       rw [e1, if_neg Bool.false_ne_true, if_pos rfl, e2, e3, show n0 - (i + 1) = j by omega]
      | false => rw [hu2 rfl, if_pos rfl, if_neg Bool.false_ne_true])⟩, by omega⟩
   · (repeat (first | exact trivial | refine ⟨by rfl, ?_⟩ | refine ⟨by simp only [lenS]; rfl, ?_⟩ | refine ⟨by push_cast; rfl, ?_⟩))
   · (show [_, _, _, _] = [_, _, _, _]; dsimp only; rw [← hrow, List.length_append]; rfl)
 have h2 := of_decide_eq_false h2
 have hE1 : decP l = if ok = true then stB L l1 else none := by
  rw [hdec]
  cases ok with
  | true =>
   rw [show n0 - i = 0 by
    rcases Nat.lt_or_ge i n0 with h | h
    · exact absurd ⟨h, rfl⟩ h2
    · omega, stA]
  | false => rfl
 clear hdec h2 hi
 refine Cd.exit ?_
 refine go [3,3,4,0,2] ?_
 refine Cd.cut (ι := Nat × List UInt8 × Bool × (Option Addr × Nat)) (fun q => [(0, .slice q.2.2.2.1 q.2.1.length q.2.2.2.2), (2, ptrW g1), (4, ptrW g2), (5, .int .i64 q.1), (6, .bool q.2.2.1)]) (fun q => [rowTb aA L.length ac L, rdB q.2.2.2.1 q.2.1, blk g2 27 [.slice aA L.length ac, .slice none 0 0, .int .i64 0, .int .i64 0, .int .i64 0], blk g1 27 [.slice none 0 0, .slice none 0 0, .int .i64 0, .int .i64 0, .int .i64 0]]) (fun q => q.1 ≤ 4611686018427387904 ∧ q.2.1.length ≤ q.2.2.2.2 ∧ q.2.1.length ≤ 4096 ∧ decP l = if q.2.2.1 = true then stC L q.1 [] q.2.1 else none) ?_ ?_
 · cases ok with
   | true =>
    refine go [23] ?_
    have c1 := take_sl B1 b1 l1 hb1 hmx
    have hlt1 := takL_le l1
    refine go [4,0] ?_
    refine Ls.does (some 81) (Does.call [1, 0, 2, 3] rfl Tryz.func110 (by kernel_rfl) (by kernel_rfl) (c1) (by rfl) (by rfl) (by rfl)) (by rfl) (by rfl) ?_
    rintro ⟨B2, b2⟩ hb2
    dsimp only at hb2
    refine go [0,11,11,11,5,5,5,2] ?_
    refine Ent.pick [1, 0, 2, 3] (by rfl) ?_
    refine Ent.iA (((numC l1).1, takL l1, !(numC l1).2.2, (B2, b2))) ?_
    (try dsimp only); exact ⟨numC_le2 l1, hb2, by omega, by
    rw [hE1, if_pos rfl, stB]
    cases hx : (numC l1).2.2 with
    | true => rfl
    | false => rw [takL_ok hx, if_neg Bool.false_ne_true]; rfl⟩
   | false =>
    refine go [24,6] ?_
    refine Ent.iA ((n0, l1, false, (B1, b1))) ?_
    (try dsimp only); exact ⟨hn0, hb1, hl1, by rw [hE1]; rfl⟩
 clear hE1 hl1 hb1 hmx
 rintro ⟨n1, l2, ok1, ⟨B2, b2⟩⟩ ⟨hn1, hb2, hl2, hE2⟩
 dsimp only at hn1 hb2 hl2 hE2 ⊢
 refine go [3,3,4,5,2,21] ?_
 refine Ent.nil 3 1 ?_
 refine Ent.pick [0, 2, 3, 4, 1] (by rfl) ?_
 refine Cd.loop (ι := Nat × List Int × (Option Addr × Nat) × List UInt8 × Bool × (Option Addr × Nat)) (fun p => [(0, .slice p.2.2.2.2.2.1 p.2.2.2.1.length p.2.2.2.2.2.2), (2, ptrW g1), (4, ptrW g2), (5, .int .i64 n1), (6, .bool p.2.2.2.2.1), (12, .int .i64 p.1)]) (fun p => [rowI p.2.2.1.1 p.2.1.length p.2.2.1.2 p.2.1, rdB p.2.2.2.2.2.1 p.2.2.2.1, blk g2 27 [.slice aA L.length ac, .slice p.2.2.1.1 p.2.1.length p.2.2.1.2, .int .i64 0, .int .i64 0, .int .i64 0], blk g1 27 [.slice none 0 0, .slice none 0 0, .int .i64 0, .int .i64 0, .int .i64 0], rowTb aA L.length ac L]) (fun p => (p.1 ≤ n1 ∧ p.2.2.2.1.length ≤ 4096 ∧ p.2.2.2.1.length ≤ p.2.2.2.2.2.2 ∧ p.2.1.length ≤ 4097) ∧ (p.2.2.2.2.1 = true → p.2.1.length + p.2.2.2.1.length ≤ 4096) ∧ decP l = if p.2.2.2.2.1 = true then stC L (n1 - p.1) p.2.1 p.2.2.2.1 else none) (fun p => n1 - p.1) ((0, [], (none, 0), l2, ok1, (B2, b2))) (⟨⟨Nat.zero_le _, hl2, hb2, by dsimp only [List.length_nil]; omega⟩, fun _ => by dsimp only [List.length_nil]; omega, hE2⟩) ?_ rfl ?_
 · (repeat (first | exact trivial | refine ⟨by rfl, ?_⟩))
 clear hE2 hb2 hl2
 rintro ⟨i2, D, ⟨dA, dc⟩, l3, ok2, ⟨B3, b3⟩⟩ ⟨⟨hi, hl3, hb3, hD1⟩, hD2, hdec⟩
 dsimp only at hi hl3 hb3 hD1 hD2 hdec ⊢
 have hmx : l3.length ≤ maxLen := by unfold maxLen; omega
 have c3 := take_sl B3 b3 l3 hb3 hmx
 have hlt3 := takL_le l3
 refine go [3,3] ?_
 refine Cd.cut (ι := Unit) (fun _ => [(0, .slice B3 l3.length b3), (2, ptrW g1), (4, ptrW g2), (5, .int .i64 n1), (6, .bool ok2), (12, .int .i64 i2), (90, .bool (decide (i2 < n1 ∧ ok2 = true)))]) (fun _ => [rowI dA D.length dc D, rdB B3 l3, blk g2 27 [.slice aA L.length ac, .slice dA D.length dc, .int .i64 0, .int .i64 0, .int .i64 0], blk g1 27 [.slice none 0 0, .slice none 0 0, .int .i64 0, .int .i64 0, .int .i64 0], rowTb aA L.length ac L]) (fun _ => True) ?_ ?_
 · refine go [4,0,0,16,0] ?_
   by_cases h0 : i2 < n1
   · refine Ent.known 88 true (by rfl) (by exact (decide_eq_true (show (i2 : Int) < (n1 : Int) by omega))) ?_
     refine go [0,9,2] ?_
     refine Ent.inv (()) ?_ ?_ ?_
     · (try dsimp only); skip
     · (repeat (first | exact trivial | refine ⟨by rfl, ?_⟩ | refine ⟨by simp only [lenS]; rfl, ?_⟩ | refine ⟨by push_cast; rfl, ?_⟩ | refine ⟨by (show some (Value.bool _) = some (Value.bool _); congr 2; cases ok2 <;> simp [h0]), ?_⟩))
     · rfl
   · refine Ent.known 88 false (by rfl) (by exact (decide_eq_false (show ¬ ((i2 : Int) < (n1 : Int)) by omega))) ?_
     refine go [1,10,2] ?_
     refine Ent.inv (()) ?_ ?_ ?_
     · (try dsimp only); skip
     · (repeat (first | exact trivial | refine ⟨by rfl, ?_⟩ | refine ⟨by simp only [lenS]; rfl, ?_⟩ | refine ⟨by push_cast; rfl, ?_⟩ | refine ⟨by (show some (Value.bool _) = some (Value.bool _); congr 2; exact (decide_eq_false (fun e => h0 e.1)).symm), ?_⟩))
     · rfl
 rintro _ -
 refine Cd.cond _ (by rfl) (fun h2 => ?_) (fun h2 => ?_)
 · obtain ⟨h0, rfl⟩ := of_decide_eq_true h2
   have hL3 := hD2 rfl
   obtain ⟨j, hj⟩ : ∃ j, n1 - i2 = j + 1 := ⟨n1 - i2 - 1, by omega⟩
   rw [if_pos rfl, hj, stC] at hdec
   have hnd := numC_drop l3
   refine go [6,3,21,3,4,5,25,0] ?_
   refine Ls.does (some 95) (Does.call [1, 0, 2, 3, 4] rfl Tryz.func110 (by kernel_rfl) (by kernel_rfl) (c3) (by rfl) (by rfl) (by rfl)) (by rfl) (by rfl) ?_
   rintro ⟨B4, b4⟩ hb4
   dsimp only at hb4
   refine go [0,11,11,11,5,5,5,2,4,7,1,8,2,0] ?_
   refine Ls.does (some 102) (Does.lit (sz := 1) rfl (by rfl) Tryz.underlying25 (by kernel_rfl) (by rfl) (by kernel_rfl)) (by rfl) (by rfl) ?_
   intro g3 _
   refine Ls.does (some 103) (Does.app (xs := ints D) (news := ints [((numC l3).1 : Int)]) 2 rfl (by rfl) (by rfl) (by rfl) (ReadsIn.row 0 (by rfl)) elem_int (one_ints _) (show (D.length + 1) * 8 ≤ 140737488355328 by omega)) (by rfl) (by rfl) ?_
   rintro ⟨qA, qc⟩ -
   refine go [7,1,15,3,2,4,0] ?_
   refine Ls.qE 92 (Ev.addN (b := 1) rfl (by rfl) (by rfl) (by omega)) ?_
   refine go [5,2] ?_
   refine Ent.pick [2, 1, 3, 4, 5] (by rfl) ?_
   have hrow : row qA (D.length + 1) qc 3 1 (ints D ++ ints [((numC l3).1 : Int)]) = rowI qA (D ++ [((numC l3).1 : Int)]).length qc (D ++ [((numC l3).1 : Int)]) := by
    rw [List.length_append]
    unfold rowI ints
    rw [List.map_append]
    rfl
   refine Ent.inv ((i2 + 1, D ++ [((numC l3).1 : Int)], (qA, qc), takL l3, !(numC l3).2.2, (B4, b4))) ?_ ?_ ?_
   · (try dsimp only); exact ⟨⟨⟨by omega, by omega, hb4, by rw [List.length_append, List.length_singleton]; omega⟩, fun h => (by
      have h : (numC l3).2.2 = false := by simpa using h
      have := hnd.2 h
      rw [List.length_append, List.length_singleton, takL_ok h]
      omega), (by
      rw [hdec]
      cases hx : (numC l3).2.2 with
      | true => rfl
      | false => rw [takL_ok hx, if_neg Bool.false_ne_true, show n1 - (i2 + 1) = j by omega]; rfl)⟩, by omega⟩
   · (repeat (first | exact trivial | refine ⟨by rfl, ?_⟩ | refine ⟨by simp only [lenS]; rfl, ?_⟩ | refine ⟨by push_cast; rfl, ?_⟩))
   · (show [_, _, _, _, _] = [_, _, _, _, _]; dsimp only; rw [← hrow, List.length_append]; rfl)
 have h2 := of_decide_eq_false h2
 have hE3 : decP l = if ok2 = true then stE L D l3 else none := by
  rw [hdec]
  cases ok2 with
  | true =>
   rw [show n1 - i2 = 0 by
    rcases Nat.lt_or_ge i2 n1 with h | h
    · exact absurd ⟨h, rfl⟩ h2
    · omega, stC]
  | false => rfl
 clear hdec h2 hi hD2
 refine Cd.exit ?_
 refine go [3,3,4,0,2] ?_
 refine Cd.cut (ι := Int × List UInt8 × Bool × (Option Addr × Nat)) (fun q => [(0, .slice q.2.2.2.1 q.2.1.length q.2.2.2.2), (2, ptrW g1), (4, ptrW g2), (6, .bool q.2.2.1)]) (fun q => [rdB q.2.2.2.1 q.2.1, blk g2 27 [.slice aA L.length ac, .slice dA D.length dc, .int .i64 q.1, .int .i64 0, .int .i64 0], blk g1 27 [.slice none 0 0, .slice none 0 0, .int .i64 0, .int .i64 0, .int .i64 0], rowTb aA L.length ac L, rowI dA D.length dc D]) (fun q => q.2.1.length ≤ q.2.2.2.2 ∧ q.2.1.length ≤ 4096 ∧ decP l = if q.2.2.1 = true then stE1 L D q.1 q.2.1 else none) ?_ ?_
 · cases ok2 with
   | true =>
    refine go [23,4,0] ?_
    refine Ls.does (some 108) (Does.call [1, 0, 2, 3, 4] rfl Tryz.func110 (by kernel_rfl) (by kernel_rfl) (c3) (by rfl) (by rfl) (by rfl)) (by rfl) (by rfl) ?_
    rintro ⟨B4, b4⟩ hb4
    dsimp only at hb4
    refine go [0,11,11,11,7,2,15,2,5,5,2] ?_
    refine Ent.pick [0, 2, 3, 4, 1] (by rfl) ?_
    refine Ent.iA ((((numC l3).1 : Int), takL l3, !(numC l3).2.2, (B4, b4))) ?_
    (try dsimp only); exact ⟨hb4, by omega, by
    rw [hE3, if_pos rfl, stE_eq]
    cases hx : (numC l3).2.2 with
    | true => rfl
    | false => rw [takL_ok hx, if_neg Bool.false_ne_true]; rfl⟩
   | false =>
    refine go [24,6] ?_
    refine Ent.pick [1, 2, 3, 4, 0] (by rfl) ?_
    refine Ent.iA ((0, l3, false, (B3, b3))) ?_
    (try dsimp only); exact ⟨hb3, hl3, by rw [hE3]; rfl⟩
 clear hE3 hl3 hb3 hmx c3 hlt3
 rintro ⟨x, l4, ok3, ⟨B4, b4⟩⟩ ⟨hb4, hl4, hE4⟩
 dsimp only at hb4 hl4 hE4 ⊢
 have c4 := take_sl B4 b4 l4 hb4 (by unfold maxLen; omega)
 have hlt4 := takL_le l4
 refine go [3,3,4,0,2] ?_
 refine Cd.cut (ι := Int × List UInt8 × Bool × (Option Addr × Nat)) (fun q => [(0, .slice q.2.2.2.1 q.2.1.length q.2.2.2.2), (2, ptrW g1), (4, ptrW g2), (6, .bool q.2.2.1)]) (fun q => [rdB q.2.2.2.1 q.2.1, blk g2 27 [.slice aA L.length ac, .slice dA D.length dc, .int .i64 x, .int .i64 q.1, .int .i64 0], blk g1 27 [.slice none 0 0, .slice none 0 0, .int .i64 0, .int .i64 0, .int .i64 0], rowTb aA L.length ac L, rowI dA D.length dc D]) (fun q => q.2.1.length ≤ q.2.2.2.2 ∧ q.2.1.length ≤ 4096 ∧ decP l = if q.2.2.1 = true then stE2 L D x q.1 q.2.1 else none) ?_ ?_
 · cases ok3 with
   | true =>
    refine go [23,4,0] ?_
    refine Ls.does (some 116) (Does.call [0, 1, 2, 3, 4] rfl Tryz.func110 (by kernel_rfl) (by kernel_rfl) (c4) (by rfl) (by rfl) (by rfl)) (by rfl) (by rfl) ?_
    rintro ⟨B5, b5⟩ hb5
    dsimp only at hb5
    refine go [0,11,11,11,7,3,15,1,5,5,2] ?_
    refine Ent.iA ((((numC l4).1 : Int), takL l4, !(numC l4).2.2, (B5, b5))) ?_
    (try dsimp only); exact ⟨hb5, by omega, by
    rw [hE4, if_pos rfl, stE1]
    cases hx : (numC l4).2.2 with
    | true => rfl
    | false => rw [takL_ok hx, if_neg Bool.false_ne_true]; rfl⟩
   | false =>
    refine go [24,6] ?_
    refine Ent.iA ((0, l4, false, (B4, b4))) ?_
    (try dsimp only); exact ⟨hb4, hl4, by rw [hE4]; rfl⟩
 clear hE4 hl4 hb4 c4 hlt4
 rintro ⟨y, l5, ok4, ⟨B5, b5⟩⟩ ⟨hb5, hl5, hE5⟩
 dsimp only at hb5 hl5 hE5 ⊢
 have c5 := take_sl B5 b5 l5 hb5 (by unfold maxLen; omega)
 have hlt5 := takL_le l5
 refine go [3,3,4,0,2] ?_
 refine Cd.cut (ι := Int × List UInt8 × Bool × (Option Addr × Nat)) (fun q => [(0, .slice q.2.2.2.1 q.2.1.length q.2.2.2.2), (2, ptrW g1), (4, ptrW g2), (6, .bool q.2.2.1)]) (fun q => [rdB q.2.2.2.1 q.2.1, blk g2 27 [.slice aA L.length ac, .slice dA D.length dc, .int .i64 x, .int .i64 y, .int .i64 q.1], blk g1 27 [.slice none 0 0, .slice none 0 0, .int .i64 0, .int .i64 0, .int .i64 0], rowTb aA L.length ac L, rowI dA D.length dc D]) (fun q => q.2.1.length ≤ q.2.2.2.2 ∧ decP l = if q.2.2.1 = true ∧ q.2.1 = [] then some ⟨L, D, x, y, q.1⟩ else none) ?_ ?_
 · cases ok4 with
   | true =>
    refine go [23,4,0] ?_
    refine Ls.does (some 124) (Does.call [0, 1, 2, 3, 4] rfl Tryz.func110 (by kernel_rfl) (by kernel_rfl) (c5) (by rfl) (by rfl) (by rfl)) (by rfl) (by rfl) ?_
    rintro ⟨B6, b6⟩ hb6
    dsimp only at hb6
    refine go [0,11,11,11,7,4,15,1,5,5,2] ?_
    refine Ent.iA ((((numC l5).1 : Int), takL l5, !(numC l5).2.2, (B6, b6))) ?_
    (try dsimp only); exact ⟨hb6, by
    rw [hE5, if_pos rfl, stE2]
    cases hx : (numC l5).2.2 with
    | true => simp
    | false =>
     rw [takL_ok hx]
     by_cases hz : l5.drop (numC l5).2.1 = []
     · rw [if_neg (fun e => e.elim (fun e => by cases e) (fun e => e hz)), if_pos ⟨rfl, hz⟩]
     · rw [if_pos (.inr hz), if_neg (fun e => hz e.2)]⟩
   | false =>
    refine go [24,6] ?_
    refine Ent.iA ((0, l5, false, (B5, b5))) ?_
    (try dsimp only); exact ⟨hb5, by rw [hE5]; simp⟩
 clear hE5 hl5 hb5 c5 hlt5
 rintro ⟨z, l6, ok5, ⟨B6, b6⟩⟩ ⟨hb6, hE6⟩
 dsimp only at hb6 hE6 ⊢
 refine go [3,3] ?_
 refine Cd.cut (ι := Unit) (fun _ => [(2, ptrW g1), (4, ptrW g2), (135, .bool (decide (¬ (ok5 = true ∧ l6 = []))))]) (fun _ => [blk g2 27 [.slice aA L.length ac, .slice dA D.length dc, .int .i64 x, .int .i64 y, .int .i64 z], blk g1 27 [.slice none 0 0, .slice none 0 0, .int .i64 0, .int .i64 0, .int .i64 0], rowTb aA L.length ac L, rowI dA D.length dc D]) (fun _ => True) ?_ ?_
 · refine go [4,0,20,0] ?_
   cases ok5 with
   | true =>
    refine Ent.known 131 false (by rfl) (by exact (rfl)) ?_
    refine Ls.qM 132 ?_
    refine Ls.qE 133 (Ev.len rfl (by rfl) Tryz.underlying47) ?_
    refine go [18,10,2] ?_
    refine Ent.pick [1, 2, 3, 4] (by rfl) ?_
    refine Ent.inv (()) ?_ ?_ ?_
    · (try dsimp only); skip
    · (repeat (first | exact trivial | refine ⟨by rfl, ?_⟩ | refine ⟨by simp only [lenS]; rfl, ?_⟩ | refine ⟨by push_cast; rfl, ?_⟩ | refine ⟨by (show some (Value.bool _) = some (Value.bool _); congr 2; rw [decide_eq_decide]; rcases l6 with _ | ⟨z, l6⟩ <;> simp <;> omega), ?_⟩))
    · rfl
   | false =>
    refine Ent.known 131 true (by rfl) (by exact (rfl)) ?_
    refine go [1,1,1,9,2] ?_
    refine Ent.pick [1, 2, 3, 4] (by rfl) ?_
    refine Ent.inv (()) ?_ ?_ ?_
    · (try dsimp only); skip
    · (repeat (first | exact trivial | refine ⟨by rfl, ?_⟩ | refine ⟨by simp only [lenS]; rfl, ?_⟩ | refine ⟨by push_cast; rfl, ?_⟩ | refine ⟨by (show some (Value.bool _) = some (Value.bool _); congr 2; simp), ?_⟩))
    · rfl
 rintro _ -
 refine Cd.cond _ (by rfl) (fun h3 => ?_) (fun h3 => ?_)
 · rw [hE6, if_neg (of_decide_eq_true h3)]
   refine go [3,4] ?_
   refine Ls.qE 136 (Ev.buildP (pl := [(0, 1), (1, 1), (2, 1), (3, 1), (4, 1)]) (zs := [.slice none 0 0, .slice none 0 0, .int .i64 0, .int .i64 0, .int .i64 0]) rfl (by rfl) (by kernel_rfl) (by rfl)) ?_
   refine go [15,1,5,2,22] ?_
   exact Ent.rA (((none, 0), (none, 0))) [] trivial (Res.cell_tmp 1 (by rfl) (by rfl) (by rfl) (n := 5) (by kernel_rfl) (by rfl) (by rfl) (by rfl))
 · rw [hE6, if_pos (Decidable.not_not.1 (of_decide_eq_false h3))]
   refine go [6,3,4,12,0,5,15,1,5,2,22] ?_
   exact Ent.rA (((aA, ac), (dA, dc))) [2,3] trivial (Res.cell_tmp 1 (by rfl) (by rfl) (by rfl) (n := 5) (by kernel_rfl) (by rfl) (by rfl) (by rfl))
theorem fit_yes {v : VsP} {e : EdP} (h : FitOk v e) (A B D : Option Addr) (c b d : Nat) (he : e.add.length ≤ 10000000) (hd : e.drop.length ≤ 1000000000) (fe : Fine e.add) (hdr : ∀ x ∈ e.drop, in64 x) : Fn Tryz.prog 9 #[.agg (v.val A c).toArray, .agg (e.val B b D d).toArray] [rdT A v.tbs, rdT B e.add, rd D e.drop.length 1 (ints e.drop)] (Option Addr × Nat) (fun q => .tuple #[.agg ((outP v e).val q.1 q.2).toArray, .int .i64 0]) (fun q => [rowTb q.1 (outP v e).tbs.length q.2 (outP v e).tbs]) (fun _ => True) :=
 (fit_sl v e A B D c b d (by have := good_few h.1; omega) he hd (good_fine h.1) fe hdr).turn fun i hi => match i, hi with
  | some q, _ => ⟨q, trivial, rfl, fun _ _ hs => hs⟩
  | none, hi => absurd (hi.2 h) (by simp)
theorem fit_no {v : VsP} {e : EdP} (h : ¬ FitOk v e) (hv : v.tbs.length ≤ 70000000) (fv : Fine v.tbs) (A B D : Option Addr) (c b d : Nat) (he : e.add.length ≤ 10000000) (hd : e.drop.length ≤ 1000000000) (fe : Fine e.add) (hdr : ∀ x ∈ e.drop, in64 x) : Fn Tryz.prog 9 #[.agg (v.val A c).toArray, .agg (e.val B b D d).toArray] [rdT A v.tbs, rdT B e.add, rd D e.drop.length 1 (ints e.drop)] Unit (fun _ => .tuple #[noV, .int .i64 80]) (fun _ => []) (fun _ => True) :=
 (fit_sl v e A B D c b d hv he hd fv fe hdr).turn fun i hi => match i, hi with
  | none, _ => ⟨(), trivial, rfl, fun _ _ hs => hs⟩
  | some q, hi => absurd (hi.1 rfl) h
theorem EdS.fine {m : Nat} {e : EdP} (h : EdS m e) (hm : m ≤ 140737488355328) : Fine e.add := fun t ht => by
 have k := h.tab t ht
 have k1 := k.fst
 have k2 := k.lst
 have k3 := k.num
 exact ⟨by omega, by omega, by omega, by omega⟩
theorem EdS.ints {m : Nat} {e : EdP} (h : EdS m e) : ∀ x ∈ e.drop, in64 x := fun x hx => by
 have := h.drp x hx
 exact ⟨by omega, by omega⟩
theorem topN_snoc (l : List (List UInt8)) (q : List UInt8) (s : Nat) : topN (l ++ [q]) s = max (topN l s) (numK kMan q + 1) := by
 unfold topN
 rw [List.foldl_append]
 rfl
set_option maxHeartbeats 2000000 in
theorem mopen_sl {D : DrS} {P : DrP} (h : Drv D P) : Fn Tryz.prog 13 #[D.ptr] [D.rB, D.rM, D.rF, laidC] (Nat × (Option Addr × Nat)) (fun p => ptrV p.1) (fun p => [mfB p.1 D.d p.2.1 p.2.2 (openP P), rowTb p.2.1 (openP P).v.tbs.length p.2.2 (openP P).v.tbs]) (fun _ => True) := by
 have hpl := h.ok.len
 have hnm := names_sl h
 obtain ⟨ns, hns⟩ : ∃ ns, ns = P.fs.map FiP.nm := ⟨_, rfl⟩
 have hnl : P.fs.length = ns.length := by rw [hns, List.length_map]
 rw [hnl, ← hns] at hnm
 have hopn : openP P = ⟨repP firstV (scanF (P.bytes (nowP P))).1, topN ns 1, false, false⟩ := by rw [hns]; rfl
 rw [hopn]
 refine Fn.enter Tryz.func13 rfl Tryz.ntmps13 (by rfl) ?_
 intro w0
 refine go [3,4,5,2] ?_
 refine Cd.scope ?_
 refine go [3,4,0] ?_
 refine Ls.qE 16 (Ev.buildP (pl := [(0, 1), (1, 1), (2, 1), (3, 1)]) (zs := [.slice none 0 0, .int .i64 0, .int .i64 0, .int .i64 0]) rfl (by rfl) (by kernel_rfl) (by rfl)) ?_
 refine Ls.qE 17 (Ev.buildP (pl := [(0, 1), (1, 4), (5, 1), (6, 1), (7, 1)]) (zs := [.pointer none, .slice none 0 0, .int .i64 0, .int .i64 0, .int .i64 0, .int .i64 0, .bool false, .bool false]) rfl (by rfl) (by kernel_rfl) (by rfl)) ?_
 refine Ls.does (some 18) (Does.box rfl (by rfl)) (by rfl) (by rfl) ?_
 intro g1 _
 refine go [5,2,3,3,4,0] ?_
 refine Ls.does (some 20) (Does.readN rfl Tryz.func42 (by kernel_rfl) (by kernel_rfl) (hnm) (by rfl) (by rfl) ⟨rblkIn 1 (by rfl), rmapIn_ 2 (by rfl), trivial⟩ (fun _ => by rfl)) (by rfl) (by rfl) ?_
 rintro ⟨nA, nc⟩ -
 refine Ent.see 0 (by rfl) ?_
 refine Ent.pick [1, 0, 2, 3, 4, 5] (by rfl) ?_
 refine Ls.qE 21 (Ev.len rfl (by rfl) Tryz.underlying49) ?_
 refine go [0,2,21] ?_
 refine Cd.loop (ι := Nat × Nat) (fun p => [(0, D.ptr), (3, ptrV g1), (20, .slice nA ns.length nc), (21, .int .i64 ns.length), (22, .int .i64 p.1)]) (fun p => [mfB g1 D.d none 0 ⟨firstV, p.2, false, false⟩, rd nA ns.length 1 (txts ns), D.rB, D.rM, D.rF, laidC]) (fun p => p.1 ≤ ns.length ∧ p.2 = topN (ns.take p.1) 1) (fun p => ns.length - p.1) ((0, 1)) (⟨Nat.zero_le _, rfl⟩) ?_ rfl ?_
 · (repeat (first | exact trivial | refine ⟨by rfl, ?_⟩))
 rintro ⟨k, n⟩ ⟨hk, hn⟩
 dsimp only at hk hn ⊢
 have hnb : n ≤ 1000000 := by rw [hn]; exact (topN_le (by decide)).1
 refine go [3,4,16,2,3] ?_
 refine Cd.cond _ (by rfl) (fun h2 => ?_) (fun h2 => ?_)
 · have hlt : k < ns.length := by have := of_decide_eq_true h2; omega
   obtain ⟨x, hx⟩ := get_of_lt hlt
   have hqt : (ns.map txt)[k]? = some (txt x) := by rw [List.getElem?_map, hx]; rfl
   have hxl : x.length ≤ 32 := by
    have hm : x ∈ ns := List.mem_of_getElem? hx
    rw [hns] at hm
    obtain ⟨f, hf, rfl⟩ := List.mem_map.1 hm
    exact (h.ok.good f hf).len
   have hmx : (if (n : Int) < ((numK kMan x + 1 : Nat) : Int) then ((numK kMan x + 1 : Nat) : Int) else (n : Int)) = ((max n (numK kMan x + 1) : Nat) : Int) := by split <;> omega
   have hxn := numK_le kMan x
   refine Ent.rdSome 1 (by rfl) (by omega) (fun ad had => ?_)
   subst had
   refine go [6,3,21,3,4] ?_
   refine Ls.qE 24 (Ev.indexAt (sz := 1) rfl (by rfl) (by rfl) Tryz.underlying49 (by kernel_rfl) (by omega)) ?_
   refine Ls.qE 25 (Ev.loadStr rfl (by rfl) (ReadsIn.rd 1 (by rfl)) (by kernel_rfl) (by assumption)) ?_
   refine go [5,2] ?_
   refine Cd.draw [11] (by kernel_rfl) ?_
   refine Rg.qE 0 26 (by rfl) (Ev.move rfl (by rfl)) ?_
   refine Rg.qE 1 27 (by rfl) (Ev.move rfl (by rfl)) ?_
   refine Rg.qE 2 28 (by rfl) (Ev.nilCheck rfl (by rfl)) ?_
   refine Rg.qE 3 29 (by rfl) (Ev.fieldAddr (k := 5) rfl (by rfl) (by kernel_rfl) (by rfl)) ?_
   refine Rg.qE 4 30 (by rfl) (Ev.load 0 rfl (by rfl) (by rfl) (by kernel_rfl) (by rfl)) ?_
   refine Rg.qE 5 31 (by rfl) (Ev.move rfl (by rfl)) ?_
   refine Rg.does 6 (by rfl) (by kernel_rfl) (Does.read rfl Tryz.func43 (by kernel_rfl) (by kernel_rfl) (nrk_sl kMan x (by decide) (by omega)) (by rfl) (by rfl) ⟨laidIn 5 (by rfl), trivial⟩) (by rfl) (some 32) (by rfl) (by exact fun _ _ h => h) ?_
   rintro _ -
   refine Rg.qE 7 33 (by rfl) (Ev.addN (b := 1) rfl (by rfl) (by rfl) (by omega)) ?_
   refine Rg.qE 8 34 (by rfl) (Ev.max rfl (by rfl) (by rfl)) ?_
   rw [hmx]
   refine Rg.qE 9 35 (by rfl) (Ev.nilCheck rfl (by rfl)) ?_
   refine Rg.qE 10 36 (by rfl) (Ev.fieldAddr (k := 5) rfl (by rfl) (by kernel_rfl) (by rfl)) ?_
   refine Rg.tail 11 [] (by rfl) (by kernel_rfl) (Does.store 0 rfl (by rfl) (by rfl) (by rfl) (by kernel_rfl) (by rfl) (by kernel_rfl) (by rfl)) (by rfl) none (by rfl) (by kernel_rfl) (by kernel_rfl) ?_
   intro _ _
   refine Rg.done (by kernel_rfl) ?_ _
   refine Cd.region ?_
   refine Ls.qE 37 (Ev.addN (b := 1) rfl (by rfl) (by rfl) (by omega)) ?_
   refine go [0,2] ?_
   refine Ent.iA ((k + 1, max n (numK kMan x + 1))) ?_
   (try dsimp only); exact ⟨⟨hlt, by rw [List.take_add_one, hx, hn]; exact (topN_snoc _ _ _).symm⟩, by omega⟩
 have hge : ns.length ≤ k := by have := of_decide_eq_false h2; omega
 rw [List.take_of_length_le hge] at hn
 subst hn
 obtain ⟨n, hn⟩ : ∃ n, n = topN ns 1 := ⟨_, rfl⟩
 rw [← hn]
 rw [← hn] at hnb hopn
 obtain ⟨nw, hnw⟩ : ∃ nw, nw = nowP P := ⟨_, rfl⟩
 obtain ⟨bl, hbl⟩ : ∃ bl, bl = P.bytes nw := ⟨_, rfl⟩
 rw [← hnw, ← hbl]
 have hc1 := now_sl h g1 none 0 ⟨firstV, n, false, false⟩
 rw [← hnw] at hc1
 refine Cd.exit ?_
 refine Cd.seq ?_
 refine Ent.pick [0, 2, 3, 4, 5] (by rfl) ?_
 refine Cd.cut (ι := Option Addr × Nat) (fun q => [(0, D.ptr), (3, ptrV g1), (6, .slice q.1 bl.length q.2)]) (fun q => [mfB g1 D.d none 0 ⟨firstV, n, false, false⟩, rdB q.1 bl, D.rB, D.rM, D.rF, laidC]) (fun q => (bl.length ≤ q.2 ∧ q.2 ≤ maxLen) ∧ bl.length ≤ 262144) ?_ ?_
 · refine go [4,0,0] ?_
   refine Ls.does (some 41) (Does.read rfl Tryz.func45 (by kernel_rfl) (by kernel_rfl) (hc1) (by rfl) (by rfl) ⟨blkIn 0 (by rfl), rblkIn 1 (by rfl), rmapIn_ 2 (by rfl), filRin 3 (by rfl), laidIn 4 (by rfl), trivial⟩) (by rfl) (by rfl) ?_
   rintro _ -
   cases hf : P.find nw with
   | none =>
    have hb0 : bl = [] := by rw [hbl]; unfold DrP.bytes; rw [hf]
    have hm := read_miss h nw hf
    subst hb0
    refine Ls.does (some 42) (Does.read rfl Tryz.func44 (by kernel_rfl) (by kernel_rfl) (hm) (by rfl) (by rfl) ⟨rblkIn 1 (by rfl), rmapIn_ 2 (by rfl), trivial⟩) (by rfl) (by rfl) ?_
    rintro _ -
    refine go [0,11,11,5,5,2] ?_
    refine Ent.map (fun w hs => hs.rdNilB) ?_
    refine Ent.pick [1, 0, 2, 3, 4, 5] (by rfl) ?_
    refine Ent.iA ((none, 0)) ?_
    (try dsimp only); exact ⟨⟨Nat.le_refl _, Nat.zero_le _⟩, Nat.zero_le _⟩
   | some f =>
    have hb0 : bl = f.b := by rw [hbl]; unfold DrP.bytes; rw [hf]
    have hfm := findG_some hf
    have hfs := h.ok.size f hfm.1
    have hgd : Good nw := hfm.2 ▸ h.ok.good f hfm.1
    subst hb0
    refine Ls.does (some 42) (Does.readN rfl Tryz.func44 (by kernel_rfl) (by kernel_rfl) (read_sl h nw hgd hf) (by rfl) (by rfl) ⟨rblkIn 1 (by rfl), rmapIn_ 2 (by rfl), filRin 3 (by rfl), trivial⟩ (fun _ => by rfl)) (by rfl) (by rfl) ?_
    rintro ⟨bA, bc⟩ -
    refine Ent.fact 0 (by rfl) (p := f.b.length ≤ bc ∧ bc ≤ maxLen) (fun w hw => ⟨Own.le hw, Own.capLe hw⟩) (fun hbc => ?_)
    refine Ent.see 0 (by rfl) ?_
    refine go [0,11,11,5,5,2] ?_
    refine Ent.pick [1, 0, 2, 3, 4, 5] (by rfl) ?_
    refine Ent.iA ((bA, bc)) ?_
    (try dsimp only); exact ⟨hbc, hfs⟩
 rintro ⟨bA, bc⟩ ⟨hbc, hbs⟩
 dsimp only at hbc ⊢
 have hsc := scan_sl bA bc bl (by omega) hbc
 have hsz := scanF_size bl
 obtain ⟨pl, hpl2⟩ : ∃ pl, pl = (scanF bl).1 := ⟨_, rfl⟩
 rw [← hpl2] at hsc hsz ⊢
 refine go [3,4,0] ?_
 refine Ls.does (some 47) (Does.readN rfl Tryz.func46 (by kernel_rfl) (by kernel_rfl) (hsc) (by rfl) (by rfl) ⟨ReadsIn.rd 1 (by rfl), trivial⟩ (fun _ => by rfl)) (by rfl) (by rfl) ?_
 rintro ⟨⟨pA, pc⟩, S⟩ hS
 dsimp only at hS ⊢
 have hSl : S.length = pl.length := by rw [← hS, List.length_map]
 refine Ent.fact 1 (by rfl) (p := ∀ x ∈ S, x.l.length ≤ x.c ∧ x.c ≤ maxLen) (fun w hw x hx => by
  have ho : Own w 0 5 1 x.A x.l.length x.c (u8s x.l) := hw.1 x.R (List.mem_map_of_mem hx)
  exact ⟨Own.le ho, Own.capLe ho⟩) (fun hSc => ?_)
 refine Ent.map (fun w hs => paySee 1 (by rfl) hs) ?_
 refine Ent.see 0 (by rfl) ?_
 refine go [0,11,11,5,5,2,3] ?_
 refine Cd.label ?_
 refine go [3,3,4,0] ?_
 refine Ls.qE 51 (Ev.len rfl (by rfl) Tryz.underlying48) ?_
 refine go [0,2,21] ?_
 refine Ent.nil 42 4 ?_
 refine Ent.pick [3, 0, 1, 2] (by rfl) ?_
 refine Cd.loop (ι := Nat × VsP × (Option Addr × Nat)) (fun p => [(3, ptrV g1), (50, .slice pA S.length pc), (51, .int .i64 S.length), (52, .int .i64 p.1)]) (fun p => [mfB g1 D.d p.2.2.1 p.2.2.2 ⟨p.2.1, n, false, false⟩, rowTb p.2.2.1 p.2.1.tbs.length p.2.2.2 p.2.1.tbs, rdV pA S, payR S]) (fun p => p.1 ≤ S.length ∧ goodP p.2.1 ∧ repP firstV pl = repP p.2.1 (pl.drop p.1)) (fun p => S.length - p.1) ((0, firstV, (none, 0))) (⟨Nat.zero_le _, firstV_good, by rw [List.drop_zero]⟩) ?_ rfl ?_
 · (repeat (first | exact trivial | refine ⟨by rfl, ?_⟩))
 clear hc1 hsc
 rintro ⟨k, v, ⟨A, c⟩⟩ ⟨hk, hvg, hrep⟩
 dsimp only at hk hvg hrep ⊢
 have hvf := good_few hvg
 refine go [3,4,16,2,3] ?_
 refine Cd.cond _ (by rfl) (fun h2 => ?_) (fun h2 => ?_)
 · have hlt : k < S.length := by have := of_decide_eq_true h2; omega
   obtain ⟨s, hs⟩ := get_of_lt hlt
   have hsm := List.mem_of_getElem? hs
   obtain ⟨hsc1, hsc2⟩ := hSc s hsm
   have hpk : pl.drop k = s.l :: pl.drop (k + 1) := by
    rw [List.drop_eq_getElem_cons (by omega)]
    congr 1
    have : pl[k]? = some s.l := by rw [← hS, List.getElem?_map, hs]; rfl
    rw [List.getElem?_eq_getElem (by omega)] at this
    exact Option.some.inj this
   rw [hpk, repP] at hrep
   refine Ent.rdSome 2 (by rfl) (by omega) (fun ad had => ?_)
   subst had
   refine go [6,3,21,3,4] ?_
   refine Ls.qE 54 (Ev.indexAt (sz := 1) rfl (by rfl) (by rfl) Tryz.underlying48 (by kernel_rfl) (by omega)) ?_
   refine Ls.qE 55 (Ev.loadV rfl (by rfl) (ReadsIn.rd 2 (by rfl)) (by kernel_rfl) hs) ?_
   refine Ent.map (fun w hw => payGet 3 (by rfl) hsm hw) ?_
   have c2 := decode_sl s.A s.c s.l hsc1 (by omega)
   refine go [5,25,0] ?_
   cases hd : decP s.l with
   | none =>
    rw [hd] at c2 hrep
    dsimp only [decV, decC] at c2 hrep
    refine Ls.does (some 58) (Does.readN rfl Tryz.func47 (by kernel_rfl) (by kernel_rfl) (c2) (by rfl) (by rfl) ⟨ReadsIn.rd 0 (by rfl), trivial⟩ (fun _ => by rfl)) (by rfl) (by rfl) ?_
    rintro _ -
    refine go [0,11,11] ?_
    refine Ls.does (some 12) (Does.alloc (cs := [.slice none 0 0, .slice none 0 0, .int .i64 0, .int .i64 0, .int .i64 0]) rfl (ZeroIs.mk (.agg #[.slice none 0 0, .slice none 0 0, .int .i64 0, .int .i64 0, .int .i64 0]) (by kernel_rfl) (by rfl))) (by rfl) (by rfl) ?_
    intro g2 _
    refine go [15,0,5,2,3,3,4,0,17,2] ?_
    refine Cd.cond_true (by rfl) (decide_eq_true (by decide)) ?_
    refine Cd.exit ?_
    refine go [3,4,0,5,2] ?_
    rw [hrep]
    refine Cd.ret ?_
    exact Ent.rA ((g1, (A, c))) [2,3] trivial rT_
   | some e =>
    rw [hd] at c2 hrep
    dsimp only [decV, decC] at c2 hrep
    have hes := decP_s hd
    have hea := hes.add
    have hed := hes.drl
    have hef := hes.fine (by decide)
    have hei := hes.ints
    refine Ls.does (some 58) (Does.readN rfl Tryz.func47 (by kernel_rfl) (by kernel_rfl) (c2) (by rfl) (by rfl) ⟨ReadsIn.rd 0 (by rfl), trivial⟩ (fun _ => by rfl)) (by rfl) (by rfl) ?_
    rintro ⟨⟨eA, ec⟩, ⟨fA, fc⟩⟩ -
    refine go [0,11,11] ?_
    refine Ls.does (some 12) (Does.alloc (cs := [.slice none 0 0, .slice none 0 0, .int .i64 0, .int .i64 0, .int .i64 0]) rfl (ZeroIs.mk (.agg #[.slice none 0 0, .slice none 0 0, .int .i64 0, .int .i64 0, .int .i64 0]) (by kernel_rfl) (by rfl))) (by rfl) (by rfl) ?_
    intro g2 _
    refine go [15,0,5,2,3,3,4,0,17,2] ?_
    refine Cd.cond_false (by rfl) (decide_eq_false (by decide)) ?_
    refine go [6,3] ?_
    refine Ent.pick [0, 1, 2, 4, 5, 6, 7] (by rfl) ?_
    refine Cd.draw [10] (by kernel_rfl) ?_
    refine Rg.qE 0 64 (by rfl) (Ev.move rfl (by rfl)) ?_
    refine Rg.qE 1 65 (by rfl) (Ev.nilCheck rfl (by rfl)) ?_
    refine Rg.qE 2 66 (by rfl) (Ev.fieldAddr (k := 1) rfl (by rfl) (by kernel_rfl) (by rfl)) ?_
    refine Rg.qE 3 67 (by rfl) (Ev.loads 3 rfl (by rfl) (by rfl) (n := 4) (by kernel_rfl) (by rfl) (by rfl)) ?_
    refine Rg.qE 4 68 (by rfl) (Ev.loads 0 rfl (by rfl) (by rfl) (n := 5) (by kernel_rfl) (by rfl) (by rfl)) ?_
    refine Rg.float1 9 (ι := Nat) (some 14) (fun g => ptrW g) (fun g => blk g 24 [.slice none 0 0, .int .i64 0, .int .i64 0, .int .i64 0]) ?_
    by_cases hfit : FitOk v e
    · rw [if_pos hfit] at hrep
      refine RgF.does 5 (by rfl) (by rfl) (.inr (by kernel_rfl)) (by kernel_rfl) (Does.alloc (cs := [.slice none 0 0, .int .i64 0, .int .i64 0, .int .i64 0]) rfl (ZeroIs.mk (.agg #[.slice none 0 0, .int .i64 0, .int .i64 0, .int .i64 0]) (by kernel_rfl) (by rfl))) (by rfl) (some 14) (by rfl) (fun _ => by repeat (first | exact trivial | refine ⟨by rfl, ?_⟩ | refine ⟨by simp only [List.length_append, List.length_cons, List.length_nil]; rfl, ?_⟩ | refine ⟨by push_cast; rfl, ?_⟩)) (by exact fun _ _ h => h.last) (by exact fun _ _ h => h.pick [0, 1, 2, 3, 4, 5, 6] (by rfl)) (Does.readN rfl Tryz.func9 (by kernel_rfl) (by kernel_rfl) (fit_yes hfit A eA fA c ec fc (by omega) (by omega) hef hei) (by rfl) (by rfl) ⟨ReadsIn.row 4 (by rfl), ReadsIn.row 1 (by rfl), ReadsIn.row 2 (by rfl), trivial⟩ (fun _ => by rfl)) (by rfl) (some 69) (by rfl) (by exact fun _ _ h => h.pick [1, 2, 3, 4, 5, 6, 7] (by rfl)) (fun _ => Does.readN rfl Tryz.func9 (by kernel_rfl) (by kernel_rfl) (fit_yes hfit A eA fA c ec fc (by omega) (by omega) hef hei) (by rfl) (by rfl) ⟨ReadsIn.row 4 (by rfl), ReadsIn.row 1 (by rfl), ReadsIn.row 2 (by rfl), trivial⟩ (fun _ => by rfl)) (fun _ => by rfl) (by exact fun _ _ _ h => h.pick [1, 2, 3, 4, 5, 6, 7] (by rfl)) ?_
      rintro ⟨qA, qc⟩ -
      refine RgF.ev 6 (by rfl) (by exact fun _ h => h.pick [1, 2, 3, 4, 5, 6, 7] (by rfl)) (by exact fun _ _ h => h.pick [1, 2, 3, 4, 5, 6, 7] (by rfl)) (Ev.move rfl (by rfl)) (fun _ => Ev.move rfl (by rfl)) (by rfl) (fun _ => by rfl) (some 63) (by rfl) (by kernel_rfl) (by kernel_rfl) (by kernel_rfl) (by kernel_rfl) ?_
      refine RgF.ev 7 (by rfl) (by exact fun _ h => h.pick [1, 2, 3, 4, 5, 6, 7] (by rfl)) (by exact fun _ _ h => h.pick [1, 2, 3, 4, 5, 6, 7] (by rfl)) (Ev.extract rfl (by rfl) (by rfl)) (fun _ => Ev.extract rfl (by rfl) (by rfl)) (by rfl) (fun _ => by rfl) (some 70) (by rfl) (by kernel_rfl) (by kernel_rfl) (by kernel_rfl) (by kernel_rfl) ?_
      refine RgF.pv 8 (by rfl) (by exact fun _ h => h.pick [1, 2, 3, 4, 5, 6, 7] (by rfl)) (by exact fun _ _ h => h.pick [1, 2, 3, 4, 5, 6, 7] (by rfl)) (fun _ => Ev.extract rfl (by rfl) (by rfl)) (fun _ _ => Ev.extract rfl (by rfl) (by rfl)) (by rfl) (fun _ => by rfl) (some 71) (by rfl) (by kernel_rfl) (by kernel_rfl) (by kernel_rfl) (by kernel_rfl) ?_
      refine RgF.land (by rfl) (by kernel_rfl) (Does.alloc (cs := [.slice none 0 0, .int .i64 0, .int .i64 0, .int .i64 0]) rfl (ZeroIs.mk (.agg #[.slice none 0 0, .int .i64 0, .int .i64 0, .int .i64 0]) (by kernel_rfl) (by rfl))) (by rfl) (some 14) (by rfl) (fun _ => by repeat (first | exact trivial | refine ⟨by rfl, ?_⟩ | refine ⟨by simp only [List.length_append, List.length_cons, List.length_nil]; rfl, ?_⟩ | refine ⟨by push_cast; rfl, ?_⟩)) (by exact fun _ _ h => h.last) (by exact fun _ _ h => h.pick [1, 2, 3, 4, 5, 6, 7] (by rfl)) ?_
      intro g3
      refine Rg.one 10 (by kernel_rfl) ?_
      refine RgO.tail 10 (by rfl) (Does.store 8 rfl (by rfl) (by rfl) (by rfl) (by kernel_rfl) (by rfl) (by kernel_rfl) (by rfl)) (by rfl) none (by rfl) (by kernel_rfl) (by kernel_rfl) ?_
      intro _ _
      refine Rg.ev 11 (by rfl) (fun _ h => h.pick [] (by rfl)) (Ev.assign rfl (by rfl)) (by rfl) (some 13) (by rfl) (by kernel_rfl) (by kernel_rfl) (by kernel_rfl) (by kernel_rfl) ?_
      refine Rg.done (by kernel_rfl) ?_ _
      refine go [3,3] ?_
      refine Ent.pick [8, 4, 0, 6, 7] (by rfl) ?_
      refine go [4,0,17,2] ?_
      refine Cd.cond_false (by rfl) (decide_eq_false (by decide)) ?_
      refine go [6,4,0,12,0,4,14,7,1,15,1,2,4] ?_
      refine Ls.qE 78 (Ev.addN (b := 1) rfl (by rfl) (by rfl) (by omega)) ?_
      refine go [0,2] ?_
      refine Ent.pick [1, 2, 3, 4] (by rfl) ?_
      refine Ent.iA ((k + 1, outP v e, (qA, qc))) ?_
      (try dsimp only); exact ⟨⟨hlt, hfit.out, hrep⟩, by omega⟩
    · rw [if_neg hfit] at hrep
      refine RgF.does 5 (by rfl) (by rfl) (.inr (by kernel_rfl)) (by kernel_rfl) (Does.alloc (cs := [.slice none 0 0, .int .i64 0, .int .i64 0, .int .i64 0]) rfl (ZeroIs.mk (.agg #[.slice none 0 0, .int .i64 0, .int .i64 0, .int .i64 0]) (by kernel_rfl) (by rfl))) (by rfl) (some 14) (by rfl) (fun _ => by repeat (first | exact trivial | refine ⟨by rfl, ?_⟩ | refine ⟨by simp only [List.length_append, List.length_cons, List.length_nil]; rfl, ?_⟩ | refine ⟨by push_cast; rfl, ?_⟩)) (by exact fun _ _ h => h.last) (by exact fun _ _ h => h.pick [0, 1, 2, 3, 4, 5, 6] (by rfl)) (Does.readN rfl Tryz.func9 (by kernel_rfl) (by kernel_rfl) (fit_no hfit (by omega) (good_fine hvg) A eA fA c ec fc (by omega) (by omega) hef hei) (by rfl) (by rfl) ⟨ReadsIn.row 4 (by rfl), ReadsIn.row 1 (by rfl), ReadsIn.row 2 (by rfl), trivial⟩ (fun _ => by rfl)) (by rfl) (some 69) (by rfl) (by exact fun _ _ h => h.pick [0, 1, 2, 3, 4, 5, 6] (by rfl)) (fun _ => Does.readN rfl Tryz.func9 (by kernel_rfl) (by kernel_rfl) (fit_no hfit (by omega) (good_fine hvg) A eA fA c ec fc (by omega) (by omega) hef hei) (by rfl) (by rfl) ⟨ReadsIn.row 4 (by rfl), ReadsIn.row 1 (by rfl), ReadsIn.row 2 (by rfl), trivial⟩ (fun _ => by rfl)) (fun _ => by rfl) (by exact fun _ _ _ h => h.pick [0, 1, 2, 3, 4, 5, 6] (by rfl)) ?_
      rintro _ -
      refine RgF.ev 6 (by rfl) (by exact fun _ h => h.pick [0, 1, 2, 3, 4, 5, 6] (by rfl)) (by exact fun _ _ h => h.pick [0, 1, 2, 3, 4, 5, 6] (by rfl)) (Ev.move rfl (by rfl)) (fun _ => Ev.move rfl (by rfl)) (by rfl) (fun _ => by rfl) (some 63) (by rfl) (by kernel_rfl) (by kernel_rfl) (by kernel_rfl) (by kernel_rfl) ?_
      refine RgF.ev 7 (by rfl) (by exact fun _ h => h.pick [0, 1, 2, 3, 4, 5, 6] (by rfl)) (by exact fun _ _ h => h.pick [0, 1, 2, 3, 4, 5, 6] (by rfl)) (Ev.extract rfl (by rfl) (by rfl)) (fun _ => Ev.extract rfl (by rfl) (by rfl)) (by rfl) (fun _ => by rfl) (some 70) (by rfl) (by kernel_rfl) (by kernel_rfl) (by kernel_rfl) (by kernel_rfl) ?_
      refine RgF.pv 8 (by rfl) (by exact fun _ h => h.pick [0, 1, 2, 3, 4, 5, 6] (by rfl)) (by exact fun _ _ h => h.pick [0, 1, 2, 3, 4, 5, 6] (by rfl)) (fun _ => Ev.extract rfl (by rfl) (by rfl)) (fun _ _ => Ev.extract rfl (by rfl) (by rfl)) (by rfl) (fun _ => by rfl) (some 71) (by rfl) (by kernel_rfl) (by kernel_rfl) (by kernel_rfl) (by kernel_rfl) ?_
      refine RgF.land (by rfl) (by kernel_rfl) (Does.alloc (cs := [.slice none 0 0, .int .i64 0, .int .i64 0, .int .i64 0]) rfl (ZeroIs.mk (.agg #[.slice none 0 0, .int .i64 0, .int .i64 0, .int .i64 0]) (by kernel_rfl) (by rfl))) (by rfl) (some 14) (by rfl) (fun _ => by repeat (first | exact trivial | refine ⟨by rfl, ?_⟩ | refine ⟨by simp only [List.length_append, List.length_cons, List.length_nil]; rfl, ?_⟩ | refine ⟨by push_cast; rfl, ?_⟩)) (by exact fun _ _ h => h.last) (by exact fun _ _ h => h.pick [0, 1, 2, 3, 4, 5, 6] (by rfl)) ?_
      intro g3
      refine Rg.one 10 (by kernel_rfl) ?_
      refine RgO.tail 10 (by rfl) (Does.store 7 rfl (by rfl) (by rfl) (by rfl) (by kernel_rfl) (by rfl) (by kernel_rfl) (by rfl)) (by rfl) none (by rfl) (by kernel_rfl) (by kernel_rfl) ?_
      intro _ _
      refine Rg.ev 11 (by rfl) (fun _ h => h.pick [] (by rfl)) (Ev.assign rfl (by rfl)) (by rfl) (some 13) (by rfl) (by kernel_rfl) (by kernel_rfl) (by kernel_rfl) (by kernel_rfl) ?_
      refine Rg.done (by kernel_rfl) ?_ _
      refine go [3,3] ?_
      refine Ent.pick [3, 4] (by rfl) ?_
      refine go [4,0,17,2] ?_
      refine Cd.cond_true (by rfl) (decide_eq_true (by decide)) ?_
      refine Cd.exit ?_
      refine go [3,4,0,5,2] ?_
      rw [hrep]
      refine Cd.ret ?_
      exact Ent.rA ((g1, (A, c))) [0,1] trivial rT_
 · have hge : S.length ≤ k := by have := of_decide_eq_false h2; omega
   have he : pl.drop k = [] := List.drop_of_length_le (by omega)
   rw [he, repP] at hrep
   refine Cd.exit ?_
   refine go [3,4,0,5,2] ?_
   rw [hrep]
   refine Cd.ret ?_
   exact Ent.rA ((g1, (A, c))) [0,1] trivial rT_
end Go.Proofs.YtacbkganjkipdaaGreatDoor
namespace Go.Proofs.YtacbkganjkipdaaGreatDoor
section
variable {P : Program} {f : FuncId} {args : Array Value} {ι : Type} {res : ι → Value} {φ : ι → Prop}
theorem Fn.lend {Hp : List Chunk} {R r : Chunk} {H' : ι → List Chunk} (h : Fn P f args (Hp ++ [r]) ι res H' φ) (hex : ∀ i, φ i → ∀ C ∈ H' i, C.excl = true) (hr : r.excl = false) (hR : R.excl = true) (hh : ∀ w, R.holds w → r.holds w) (hf : ∀ k, r.foot k → R.foot k) :
 Fn P f args (Hp ++ [R]) ι res (fun i => H' i ++ [R]) φ := fun w hs => by
 obtain ⟨s1, s2, s3⟩ := sat0_append.1 hs
 have hRw : R.holds w := s2.1 R (List.mem_singleton.2 rfl)
 have hap : ∀ C ∈ Hp, ∀ k, C.foot k → ¬ R.foot k := fun C hC => s3 C hC R (List.mem_singleton.2 rfl) (.inr hR)
 have hs0 : Sat0 (Hp ++ [r]) w := sat0_append.2 ⟨s1, ⟨fun C hC => by rw [List.mem_singleton.1 hC]; exact hh w hRw, List.pairwise_singleton _ _⟩, fun C hC D hD _ k hk hk' => by
  rw [List.mem_singleton.1 hD] at hk'
  exact hap C hC k hk (hf k hk')⟩
 refine (h w hs0).mono ?_
 rintro e w' ⟨i, hi, he, hs'⟩
 have hS : ∀ k, Ctx.S ⟨w, Hp ++ [r]⟩ k → ∃ D ∈ Hp, D.excl = true ∧ D.foot k := fun k ⟨D, hD, hx, hk⟩ => by
  rcases List.mem_append.1 hD with hD | hD
  · exact ⟨D, hD, hx, hk⟩
  · rw [List.mem_singleton.1 hD, hr] at hx
    cases hx
 have hS2 : ∀ k, Ctx.S ⟨w, Hp ++ [r]⟩ k → Ctx.S ⟨w, Hp ++ [R]⟩ k := fun k hk => by
  obtain ⟨D, hD, hx, hk⟩ := hS k hk
  exact ⟨D, List.mem_append_left _ hD, hx, hk⟩
 have hO : ∀ k, Ctx.old ⟨w, Hp ++ [r]⟩ k → Ctx.old ⟨w, Hp ++ [R]⟩ k := fun k ⟨D, hD, hk⟩ => by
  rcases List.mem_append.1 hD with hD | hD
  · exact ⟨D, List.mem_append_left _ hD, hk⟩
  · rw [List.mem_singleton.1 hD] at hk
    exact ⟨R, List.mem_append_right _ (List.mem_singleton.2 rfl), hf k hk⟩
 have hblk : ∀ k, R.foot k → w'.heap[k]? = w.heap[k]? := fun k hk => hs'.upd.block k (R.lt w k hRw hk) fun hc => by
  obtain ⟨D, hD, _, hk'⟩ := hS k hc
  exact hap D hD k hk' hk
 refine ⟨i, hi, he, ⟨hs'.upd.os, hs'.upd.tape, hs'.upd.output, hs'.upd.size, fun k hk hn => hs'.upd.block k hk fun hc => hn (hS2 k hc)⟩, sat0_append.2 ⟨hs'.sat, ⟨fun C hC => by rw [List.mem_singleton.1 hC]; exact R.loc w w' hs'.upd.size hblk hRw, List.pairwise_singleton _ _⟩, fun C hC D hD _ k hk hk' => ?_⟩, fun C hC => ?_⟩
 · rw [List.mem_singleton.1 hD] at hk'
   obtain ⟨D', hD', _, hk2⟩ := hS k ((hs'.fits C hC k hk (R.lt w k hRw hk')).2 (hex i hi C hC))
   exact hap D' hD' k hk2 hk'
 · rcases List.mem_append.1 hC with hC | hC
   · intro k hk hlt
     obtain ⟨o1, o2⟩ := hs'.fits C hC k hk hlt
     exact ⟨hO k o1, fun hx => hS2 k (o2 hx)⟩
   · rw [List.mem_singleton.1 hC]
     intro k hk _
     exact ⟨⟨R, List.mem_append_right _ (List.mem_singleton.2 rfl), hk⟩, fun _ => ⟨R, List.mem_append_right _ (List.mem_singleton.2 rfl), hR, hk⟩⟩
end
end Go.Proofs.YtacbkganjkipdaaGreatDoor
namespace Go.Proofs.YtacbkganjkipdaaGreatDoor
open Go.RowKit
theorem Fn.via {P : Program} {f : FuncId} {args : Array Value} {H1 H2 : List Chunk} {ι : Type} {res : ι → Value} {H' : ι → List Chunk} {φ : ι → Prop} (h : Fn P f args H1 ι res H' φ) (hs : ∀ w, Sat0 H2 w → Sat ⟨w, H2⟩ H1 w) : Fn P f args H2 ι res H' φ := fun w h2 => by
 have hv := hs w h2
 refine (h w hv.sat).mono fun e w' ⟨i, h1, h2, h3⟩ => ⟨i, h1, h2, ?_⟩
 refine ⟨h3.upd.mono fun k hk ⟨D, hD, he, hf⟩ => (hv.fits D hD k hf hk).2 he, h3.sat, fun C hC k hk hl => ?_⟩
 obtain ⟨⟨D, hD, hk2⟩, h5⟩ := h3.fits C hC k hk hl
 refine ⟨(hv.fits D hD k hk2 hl).1, fun he => ?_⟩
 obtain ⟨D', hD', he', hk'⟩ := h5 he
 exact (hv.fits D' hD' k hk' hl).2 he'
structure EdIn (e : EdP) : Prop where
 add : e.add.length ≤ 10000000
 drl : e.drop.length ≤ 1000000000
 fine : Fine e.add
 ints : ∀ x ∈ e.drop, in64 x
 nx : in64 e.nx
 lg : in64 e.lg
 sq : in64 e.sq
theorem EdIn.enc {v : VsP} {e : EdP} (h : EdIn e) (hf : FitOk v e) : EncOk e := hf.enc h.add ⟨h.nx.2, h.lg.2, h.sq.2⟩
theorem lend_swap {D : DrS} {P : DrP} (h : Drv D P) (mg : Nat) (B : Option Addr) (b : Nat) (m : MfP) (log : List UInt8) (hlog : Good log) (A : Option Addr) (c : Nat) (l : List UInt8) (hl : l.length ≤ 1099511627776) : Fn Tryz.prog 56 #[ptrV mg, .string (txt log), .slice A l.length c] ([rdB A l, laidC, D.B, D.M, D.F] ++ [mfB mg D.d B b m]) DrS (fun _ => .int .i64 (runP (swapL P log l) P).2) (fun D' => [D'.B, D'.M, D'.F] ++ [mfB mg D.d B b m]) (fun D' => Drv D' (runP (swapL P log l) P).1 ∧ D'.d = D.d ∧ D'.m = D.m) :=
 Fn.lend (r := rmfB mg D.d B b m) ((mswap_sl h mg B b m log hlog A c l hl).via (H2 := [rdB A l, laidC, D.B, D.M, D.F] ++ [rmfB mg D.d B b m]) fun w hs => (Sat.start hs).pick [5, 0, 1, 2, 3, 4] (by rfl)) (fun D' _ C hC => by
  simp only [List.mem_cons, List.not_mem_nil, or_false] at hC
  rcases hC with rfl | rfl | rfl <;> rfl) rfl rfl (fun _ hw => hw) (fun _ hk => hk)
def spMade (g gl gb : Nat) (q l : List UInt8) : List StP :=
 [⟨clV 52 [ptrV g, ptrV gl, ptrV gb], fun P => P.append q l, rfl⟩, ⟨clV 54 [ptrV g, ptrV gl], fun P => P.sync q, rfl⟩]
theorem lend_made {D : DrS} {P : DrP} (h : Drv D P) (g mg gl gb : Nat) (B : Option Addr) (b : Nat) (m : MfP) (q : List UInt8) (hq : Good q) (A : Option Addr) (c : Nat) (l : List UInt8) (hl : l.length ≤ 1099511627776) (lA : Option Addr) (lc : Nat) : Fn Tryz.prog 51 #[.slice lA 2 lc] ([rd lA 2 1 ((spMade g gl gb q l).map StP.v), bxM g mg, bxT gl q, bxB gb A l.length c, rdB A l, D.B, D.M, D.F] ++ [mfB mg D.d B b m]) DrS (fun _ => .int .i64 (runP [fun P => P.append q l, fun P => P.sync q] P).2) (fun D' => [D'.B, D'.M, D'.F] ++ [mfB mg D.d B b m]) (fun D' => Drv D' (runP [fun P => P.append q l, fun P => P.sync q] P).1 ∧ D'.d = D.d ∧ D'.m = D.m) := by
 obtain ⟨Cs, hCs⟩ : ∃ Cs, Cs = [bxM g mg, rmfB mg D.d B b m, bxT gl q, bxB gb A l.length c, rdB A l] := ⟨_, rfl⟩
 have cM : Cov Cs (bxM g mg) := by rw [hCs]; exact Cov.mem rfl (by simp)
 have cF : ∀ D' : DrS, D'.d = D.d → Cov Cs (rmfB mg D'.d B b m) := fun D' e => by rw [e, hCs]; exact Cov.mem rfl (by simp)
 have cT : Cov Cs (bxT gl q) := by rw [hCs]; exact Cov.mem rfl (by simp)
 have cB : Cov Cs (bxB gb A l.length c) := by rw [hCs]; exact Cov.mem rfl (by simp)
 have cR : Cov Cs (rdB A l) := by rw [hCs]; exact Cov.mem rfl (by simp)
 have hall : ∀ s ∈ spMade g gl gb q l, StepOk D.d D.m Cs s.v s.f := fun s hs => by
  unfold spMade at hs
  simp only [List.mem_cons, List.not_mem_nil, or_false] at hs
  rcases hs with rfl | rfl
  · exact step_of Tryz.func52 (by kernel_rfl) (by kernel_rfl) (fun D' => [bxM g mg, rmfB mg D'.d B b m, bxT gl q, bxB gb A l.length c, rdB A l]) (fun D' e C hC => by
     simp only [List.mem_cons, List.not_mem_nil, or_false] at hC
     rcases hC with rfl | rfl | rfl | rfl | rfl
     · exact cM
     · exact cF D' e
     · exact cT
     · exact cB
     · exact cR) (fun D' P' h' => ch1_sl h' g mg gl gb B b m q hq A c l hl)
  · exact step_of Tryz.func54 (by kernel_rfl) (by kernel_rfl) (fun D' => [bxM g mg, rmfB mg D'.d B b m, bxT gl q]) (fun D' e C hC => by
     simp only [List.mem_cons, List.not_mem_nil, or_false] at hC
     rcases hC with rfl | rfl | rfl
     · exact cM
     · exact cF D' e
     · exact cT) (fun D' P' h' => ch2_sl h' g mg gl B b m q hq)
 have c0 := msteps_sl (spMade g gl gb q l) hall (show 2 ≤ 1000000 by decide) h rfl rfl lA lc
 rw [hCs] at c0
 exact Fn.lend (r := rmfB mg D.d B b m) (c0.via (H2 := [rd lA 2 1 ((spMade g gl gb q l).map StP.v), bxM g mg, bxT gl q, bxB gb A l.length c, rdB A l, D.B, D.M, D.F] ++ [rmfB mg D.d B b m]) fun w hs => ((Sat.stars_close (A := [bxM g mg, rmfB mg D.d B b m, bxT gl q, bxB gb A l.length c, rdB A l]) (fun C hC => by
  simp only [List.mem_cons, List.not_mem_nil, or_false] at hC
  rcases hC with rfl | rfl | rfl | rfl | rfl <;> rfl) ((Sat.start hs).pick [1, 8, 2, 3, 4, 0, 5, 6, 7] (by rfl))).pick [1, 0, 2, 3, 4] (by rfl))) (fun D' _ C hC => by
  simp only [List.mem_cons, List.not_mem_nil, or_false] at hC
  rcases hC with rfl | rfl | rfl <;> rfl) rfl rfl (fun _ hw => hw) (fun _ hk => hk)
theorem snapB_le {v : VsP} (hv : goodP v) : (snapB v).length ≤ 1099511627776 := by
 have h1 := flat_le (g := fun e => sealL (edB e)) (b := 4110) (l := snapE v) (fun e he => sealL_le (snap_enc hv he).2.2)
 have h2 : (snapE v).length ≤ 1000001 := by
  have := good_few hv
  unfold snapE
  rw [List.length_cons, List.length_map]
  omega
 have h3 : (snapE v).length * 4110 ≤ 1000001 * 4110 := Nat.mul_le_mul_right _ h2
 exact Nat.le_trans (Nat.le_trans h1 h3) (by decide)
def chgC (g d : Nat) (m : MfP) (r : DrS × (Option Addr × Nat)) : List Chunk := [mfB g d r.2.1 r.2.2 m, rowTb r.2.1 m.v.tbs.length r.2.2 m.v.tbs, r.1.B, r.1.M, r.1.F]
set_option maxHeartbeats 4000000 in
theorem mchange_sl {D : DrS} {P : DrP} (h : Drv D P) (g : Nat) (A : Option Addr) (c : Nat) (m : MfP) (hg : goodP m.v) (hn : m.num ≤ 1000000) (e : EdP) (he : EdIn e) (B E : Option Addr) (b d : Nat) : Fn Tryz.prog 14 #[ptrV g, .agg (e.val B b E d).toArray] [mfB g D.d A c m, rowTb A m.v.tbs.length c m.v.tbs, rdT B e.add, rd E e.drop.length 1 (ints e.drop), laidC, D.B, D.M, D.F] (DrS × (Option Addr × Nat)) (fun _ => .int .i64 (chgP P m e).2.2) (chgC g D.d (chgP P m e).2.1) (fun r => Drv r.1 (chgP P m e).1 ∧ r.1.d = D.d ∧ r.1.m = D.m) := by
 have hfew := good_few hg
 refine Fn.enter Tryz.func14 rfl Tryz.ntmps14 (by rfl) ?_
 intro w0
 refine go [3,4] ?_
 refine Ls.does (some 2) (Does.box rfl (by rfl)) (by rfl) (by rfl) ?_
 intro g1 _
 refine Ls.does (some 3) (Does.box rfl (by rfl)) (by rfl) (by rfl) ?_
 intro g2 _
 refine go [5,2,3] ?_
 refine Cd.draw [10] (by kernel_rfl) ?_
 refine Rg.qE 0 12 (by rfl) (Ev.load 1 rfl (by rfl) (by rfl) (by kernel_rfl) (by rfl)) ?_
 refine Rg.qE 1 13 (by rfl) (Ev.nilCheck rfl (by rfl)) ?_
 refine Rg.qE 2 14 (by rfl) (Ev.fieldAddr (k := 1) rfl (by rfl) (by kernel_rfl) (by rfl)) ?_
 refine Rg.qE 3 15 (by rfl) (Ev.loads 2 rfl (by rfl) (by rfl) (n := 4) (by kernel_rfl) (by rfl) (by rfl)) ?_
 refine Rg.qE 4 16 (by rfl) (Ev.loads 0 rfl (by rfl) (by rfl) (n := 5) (by kernel_rfl) (by rfl) (by rfl)) ?_
 refine Rg.float1 9 (ι := Nat) (some 5) (fun g => ptrW g) (fun g => blk g 24 [.slice none 0 0, .int .i64 0, .int .i64 0, .int .i64 0]) ?_
 by_cases hfit : FitOk m.v e
 rotate_left
 · have hch : chgP P m e = (P, m, 80) := by unfold chgP; rw [if_pos hfit]
   rw [hch]
   refine RgF.does 5 (by rfl) (by rfl) (.inr (by kernel_rfl)) (by kernel_rfl) (Does.alloc (cs := [.slice none 0 0, .int .i64 0, .int .i64 0, .int .i64 0]) rfl (ZeroIs.mk (.agg #[.slice none 0 0, .int .i64 0, .int .i64 0, .int .i64 0]) (by kernel_rfl) (by rfl))) (by rfl) (some 5) (by rfl) (fun _ => by repeat (first | exact trivial | refine ⟨by rfl, ?_⟩ | refine ⟨by simp only [List.length_append, List.length_cons, List.length_nil]; rfl, ?_⟩ | refine ⟨by push_cast; rfl, ?_⟩)) (by exact fun _ _ h => h.last) (by exact fun _ _ h => h.pick [0, 1, 2, 3, 4, 5, 6, 7, 8, 9] (by rfl)) (Does.readN rfl Tryz.func9 (by kernel_rfl) (by kernel_rfl) (fit_no hfit (by omega) (good_fine hg) A B E c b d he.add he.drl he.fine he.ints) (by rfl) (by rfl) ⟨ReadsIn.row 3 (by rfl), ReadsIn.rd 4 (by rfl), ReadsIn.rd 5 (by rfl), trivial⟩ (fun _ => by rfl)) (by rfl) (some 17) (by rfl) (by exact fun _ _ h => h.pick [0, 1, 2, 3, 4, 5, 6, 7, 8, 9] (by rfl)) (fun _ => Does.readN rfl Tryz.func9 (by kernel_rfl) (by kernel_rfl) (fit_no hfit (by omega) (good_fine hg) A B E c b d he.add he.drl he.fine he.ints) (by rfl) (by rfl) ⟨ReadsIn.row 3 (by rfl), ReadsIn.rd 4 (by rfl), ReadsIn.rd 5 (by rfl), trivial⟩ (fun _ => by rfl)) (fun _ => by rfl) (by exact fun _ _ _ h => h.pick [0, 1, 2, 3, 4, 5, 6, 7, 8, 9] (by rfl)) ?_
   rintro _ -
   refine RgF.ev 6 (by rfl) (by exact fun _ h => h.pick [0, 1, 2, 3, 4, 5, 6, 7, 8, 9] (by rfl)) (by exact fun _ _ h => h.pick [0, 1, 2, 3, 4, 5, 6, 7, 8, 9] (by rfl)) (Ev.move rfl (by rfl)) (fun _ => Ev.move rfl (by rfl)) (by rfl) (fun _ => by rfl) (some 11) (by rfl) (by kernel_rfl) (by kernel_rfl) (by kernel_rfl) (by kernel_rfl) ?_
   refine RgF.ev 7 (by rfl) (by exact fun _ h => h.pick [0, 1, 2, 3, 4, 5, 6, 7, 8, 9] (by rfl)) (by exact fun _ _ h => h.pick [0, 1, 2, 3, 4, 5, 6, 7, 8, 9] (by rfl)) (Ev.extract rfl (by rfl) (by rfl)) (fun _ => Ev.extract rfl (by rfl) (by rfl)) (by rfl) (fun _ => by rfl) (some 18) (by rfl) (by kernel_rfl) (by kernel_rfl) (by kernel_rfl) (by kernel_rfl) ?_
   refine RgF.pv 8 (by rfl) (by exact fun _ h => h.pick [0, 1, 2, 3, 4, 5, 6, 7, 8, 9] (by rfl)) (by exact fun _ _ h => h.pick [0, 1, 2, 3, 4, 5, 6, 7, 8, 9] (by rfl)) (fun _ => Ev.extract rfl (by rfl) (by rfl)) (fun _ _ => Ev.extract rfl (by rfl) (by rfl)) (by rfl) (fun _ => by rfl) (some 19) (by rfl) (by kernel_rfl) (by kernel_rfl) (by kernel_rfl) (by kernel_rfl) ?_
   refine RgF.land (by rfl) (by kernel_rfl) (Does.alloc (cs := [.slice none 0 0, .int .i64 0, .int .i64 0, .int .i64 0]) rfl (ZeroIs.mk (.agg #[.slice none 0 0, .int .i64 0, .int .i64 0, .int .i64 0]) (by kernel_rfl) (by rfl))) (by rfl) (some 5) (by rfl) (fun _ => by repeat (first | exact trivial | refine ⟨by rfl, ?_⟩ | refine ⟨by simp only [List.length_append, List.length_cons, List.length_nil]; rfl, ?_⟩ | refine ⟨by push_cast; rfl, ?_⟩)) (by exact fun _ _ h => h.last) (by exact fun _ _ h => h.pick [0, 1, 2, 3, 4, 5, 6, 7, 8, 9] (by rfl)) ?_
   intro g3
   refine Rg.one 10 (by kernel_rfl) ?_
   refine RgO.tail 10 (by rfl) (Does.store 10 rfl (by rfl) (by rfl) (by rfl) (by kernel_rfl) (by rfl) (by kernel_rfl) (by rfl)) (by rfl) none (by rfl) (by kernel_rfl) (by kernel_rfl) ?_
   intro _ _
   refine Rg.ev 11 (by rfl) (fun _ h => h.pick [] (by rfl)) (Ev.assign rfl (by rfl)) (by rfl) (some 6) (by rfl) (by kernel_rfl) (by kernel_rfl) (by kernel_rfl) (by kernel_rfl) ?_
   refine Rg.done (by kernel_rfl) ?_ _
   refine go [3,3,4,0,17,2] ?_
   refine Cd.cond_true (by rfl) (decide_eq_true (by decide)) ?_
   refine go [3,4,0,5,2] ?_
   refine Ent.pick [2, 3, 7, 8, 9] (by rfl) ?_
   refine Cd.ret ?_
   exact Ent.rA ((D, (A, c))) [0,1,2,3,4] (⟨h, rfl, rfl⟩) rT_
 have hen := he.enc hfit
 refine RgF.does 5 (by rfl) (by rfl) (.inr (by kernel_rfl)) (by kernel_rfl) (Does.alloc (cs := [.slice none 0 0, .int .i64 0, .int .i64 0, .int .i64 0]) rfl (ZeroIs.mk (.agg #[.slice none 0 0, .int .i64 0, .int .i64 0, .int .i64 0]) (by kernel_rfl) (by rfl))) (by rfl) (some 5) (by rfl) (fun _ => by repeat (first | exact trivial | refine ⟨by rfl, ?_⟩ | refine ⟨by simp only [List.length_append, List.length_cons, List.length_nil]; rfl, ?_⟩ | refine ⟨by push_cast; rfl, ?_⟩)) (by exact fun _ _ h => h.last) (by exact fun _ _ h => h.pick [0, 1, 2, 3, 4, 5, 6, 7, 8, 9] (by rfl)) (Does.readN rfl Tryz.func9 (by kernel_rfl) (by kernel_rfl) (fit_yes hfit A B E c b d he.add he.drl he.fine he.ints) (by rfl) (by rfl) ⟨ReadsIn.row 3 (by rfl), ReadsIn.rd 4 (by rfl), ReadsIn.rd 5 (by rfl), trivial⟩ (fun _ => by rfl)) (by rfl) (some 17) (by rfl) (by exact fun _ _ h => h.pick [1, 2, 3, 4, 5, 6, 7, 8, 9, 10] (by rfl)) (fun _ => Does.readN rfl Tryz.func9 (by kernel_rfl) (by kernel_rfl) (fit_yes hfit A B E c b d he.add he.drl he.fine he.ints) (by rfl) (by rfl) ⟨ReadsIn.row 3 (by rfl), ReadsIn.rd 4 (by rfl), ReadsIn.rd 5 (by rfl), trivial⟩ (fun _ => by rfl)) (fun _ => by rfl) (by exact fun _ _ _ h => h.pick [1, 2, 3, 4, 5, 6, 7, 8, 9, 10] (by rfl)) ?_
 rintro ⟨nA, nc⟩ -
 refine RgF.ev 6 (by rfl) (by exact fun _ h => h.pick [1, 2, 3, 4, 5, 6, 7, 8, 9, 10] (by rfl)) (by exact fun _ _ h => h.pick [1, 2, 3, 4, 5, 6, 7, 8, 9, 10] (by rfl)) (Ev.move rfl (by rfl)) (fun _ => Ev.move rfl (by rfl)) (by rfl) (fun _ => by rfl) (some 11) (by rfl) (by kernel_rfl) (by kernel_rfl) (by kernel_rfl) (by kernel_rfl) ?_
 refine RgF.ev 7 (by rfl) (by exact fun _ h => h.pick [1, 2, 3, 4, 5, 6, 7, 8, 9, 10] (by rfl)) (by exact fun _ _ h => h.pick [1, 2, 3, 4, 5, 6, 7, 8, 9, 10] (by rfl)) (Ev.extract rfl (by rfl) (by rfl)) (fun _ => Ev.extract rfl (by rfl) (by rfl)) (by rfl) (fun _ => by rfl) (some 18) (by rfl) (by kernel_rfl) (by kernel_rfl) (by kernel_rfl) (by kernel_rfl) ?_
 refine RgF.pv 8 (by rfl) (by exact fun _ h => h.pick [1, 2, 3, 4, 5, 6, 7, 8, 9, 10] (by rfl)) (by exact fun _ _ h => h.pick [1, 2, 3, 4, 5, 6, 7, 8, 9, 10] (by rfl)) (fun _ => Ev.extract rfl (by rfl) (by rfl)) (fun _ _ => Ev.extract rfl (by rfl) (by rfl)) (by rfl) (fun _ => by rfl) (some 19) (by rfl) (by kernel_rfl) (by kernel_rfl) (by kernel_rfl) (by kernel_rfl) ?_
 refine RgF.land (by rfl) (by kernel_rfl) (Does.alloc (cs := [.slice none 0 0, .int .i64 0, .int .i64 0, .int .i64 0]) rfl (ZeroIs.mk (.agg #[.slice none 0 0, .int .i64 0, .int .i64 0, .int .i64 0]) (by kernel_rfl) (by rfl))) (by rfl) (some 5) (by rfl) (fun _ => by repeat (first | exact trivial | refine ⟨by rfl, ?_⟩ | refine ⟨by simp only [List.length_append, List.length_cons, List.length_nil]; rfl, ?_⟩ | refine ⟨by push_cast; rfl, ?_⟩)) (by exact fun _ _ h => h.last) (by exact fun _ _ h => h.pick [1, 2, 3, 4, 5, 6, 7, 8, 9, 10] (by rfl)) ?_
 intro g3
 refine Rg.one 10 (by kernel_rfl) ?_
 refine RgO.tail 10 (by rfl) (Does.store 11 rfl (by rfl) (by rfl) (by rfl) (by kernel_rfl) (by rfl) (by kernel_rfl) (by rfl)) (by rfl) none (by rfl) (by kernel_rfl) (by kernel_rfl) ?_
 intro _ _
 refine Rg.ev 11 (by rfl) (fun _ h => h.pick [] (by rfl)) (Ev.assign rfl (by rfl)) (by rfl) (some 6) (by rfl) (by kernel_rfl) (by kernel_rfl) (by kernel_rfl) (by kernel_rfl) ?_
 refine Rg.done (by kernel_rfl) ?_ _
 refine go [3,3] ?_
 refine Ent.pick [11, 2, 3, 1, 7, 0, 5, 6, 4, 8, 9, 10] (by rfl) ?_
 refine Ent.norm ([(2, ptrW g1), (3, ptrW g2), (4, .int .i64 0), (5, ptrW g3), (6, .int .i64 0)]) ([blk g3 24 [.slice nA (outP m.v e).tbs.length nc, .int .i64 (outP m.v e).nx, .int .i64 (outP m.v e).lg, .int .i64 (outP m.v e).sq], blk g1 39 [ptrV g], mfB g D.d A c m, blk g2 27 (e.val B b E d), laidC, rowTb nA (outP m.v e).tbs.length nc (outP m.v e).tbs, rdT B e.add, rd E e.drop.length 1 (ints e.drop), rowTb A m.v.tbs.length c m.v.tbs, D.B, D.M, D.F]) (by repeat (first | exact trivial | refine ⟨by rfl, ?_⟩ | refine ⟨by simp only [List.length_append, List.length_cons, List.length_nil]; rfl, ?_⟩ | refine ⟨by push_cast; rfl, ?_⟩)) (by rfl) ?_
 have hch0 : chgP P m e = if 4096 < (edB e).length then (P, m, 3) else if 999999 < m.num then (P, m, 5) else if m.dead = true then (P, m, 6) else (if (if m.made = true then runP [fun P => P.append (nameK kMan m.num) (sealL (edB e)), fun P => P.sync (nameK kMan m.num)] P else runP (swapL P (nameK kMan m.num) (snapB (outP m.v e))) P).2 ≠ 0 then ((if m.made = true then runP [fun P => P.append (nameK kMan m.num) (sealL (edB e)), fun P => P.sync (nameK kMan m.num)] P else runP (swapL P (nameK kMan m.num) (snapB (outP m.v e))) P).1, { m with dead := true }, 6) else ((if m.made = true then runP [fun P => P.append (nameK kMan m.num) (sealL (edB e)), fun P => P.sync (nameK kMan m.num)] P else runP (swapL P (nameK kMan m.num) (snapB (outP m.v e))) P).1, { m with made := true, v := outP m.v e }, 0)) := by
  unfold chgP
  rw [if_neg (fun k => k hfit)]
 have hwg := hfit.out
 generalize chgP P m e = R at hch0 ⊢
 generalize outP m.v e = w2 at hch0 hwg ⊢
 refine go [4,0,17,2] ?_
 refine Cd.cond_false (by rfl) (decide_eq_false (by decide)) ?_
 refine go [6,3,4,12,3,5] ?_
 by_cases hlong : 4096 < (edB e).length
 · rw [if_pos hlong] at hch0
   subst hch0
   refine Ls.does (some 25) (Does.readN rfl Tryz.func48 (by kernel_rfl) (by kernel_rfl) (encode_no hen hlong B E b d) (by rfl) (by rfl) ⟨ReadsIn.rd 6 (by rfl), ReadsIn.rd 7 (by rfl), trivial⟩ (fun _ => by rfl)) (by rfl) (by rfl) ?_
   rintro _ -
   refine go [0,11,11,5,5,2,3,21,3,4,0,17,5,2] ?_
   refine Cd.cond_true (by rfl) (decide_eq_true (by decide)) ?_
   refine go [3,4,0,5,2] ?_
   refine Ent.pick [2, 8, 9, 10, 11] (by rfl) ?_
   refine Cd.ret ?_
   exact Ent.rA ((D, (A, c))) [0,1,2,3,4] (⟨h, rfl, rfl⟩) rT_
 rw [if_neg hlong] at hch0
 refine Ls.does (some 25) (Does.readN rfl Tryz.func48 (by kernel_rfl) (by kernel_rfl) (encode_yes hen (by omega) B E b d) (by rfl) (by rfl) ⟨ReadsIn.rd 6 (by rfl), ReadsIn.rd 7 (by rfl), trivial⟩ (fun _ => by rfl)) (by rfl) (by rfl) ?_
 rintro ⟨bA, bc⟩ -
 refine go [0,11,11,5,5,2,3,21,3,4,0,17,5,2] ?_
 refine Cd.cond_false (by rfl) (decide_eq_false (by decide)) ?_
 refine go [3,4,8,2,14,7,5,8,3,18,5,2] ?_
 by_cases hfull : 999999 < m.num
 · rw [if_pos hfull] at hch0
   subst hch0
   refine Cd.cond_true (by rfl) (decide_eq_true (show (999999 : Int) < (m.num : Int) by omega)) ?_
   refine go [3,4,5,2] ?_
   refine Ent.pick [3, 9, 10, 11, 12] (by rfl) ?_
   refine Cd.ret ?_
   exact Ent.rA ((D, (A, c))) [0,1,2,3,4] (⟨h, rfl, rfl⟩) rT_
 rw [if_neg hfull] at hch0
 refine Cd.cond_false (by rfl) (decide_eq_false (show ¬ ((999999 : Int) < (m.num : Int)) by omega)) ?_
 refine go [3,4,8,2,14,7,7,8,3,5,2] ?_
 by_cases hdead : m.dead = true
 · rw [if_pos hdead] at hch0
   subst hch0
   refine Cd.cond_true (by rfl) (hdead) ?_
   refine go [3,4,5,2] ?_
   refine Ent.pick [3, 9, 10, 11, 12] (by rfl) ?_
   refine Cd.ret ?_
   exact Ent.rA ((D, (A, c))) [0,1,2,3,4] (⟨h, rfl, rfl⟩) rT_
 rw [if_neg hdead] at hch0
 refine Cd.cond_false (by rfl) ((by simpa using hdead)) ?_
 refine go [6,3,4,8,2,14,7,5,8,3] ?_
 refine Ls.does (some 47) (Does.read rfl Tryz.func49 (by kernel_rfl) (by kernel_rfl) (nmk_sl kMan m.num (by decide) (by omega)) (by rfl) (by rfl) ⟨laidIn 5 (by rfl), trivial⟩) (by rfl) (by rfl) ?_
 rintro _ -
 refine Ls.does (some 8) (Does.alloc (cs := [.string ⟨#[]⟩]) rfl (ZeroIs.mk (.string ⟨#[]⟩) (by kernel_rfl) (by rfl))) (by rfl) (by rfl) ?_
 intro g4 _
 refine go [15,0,2,3,3,4,8,3,14,7,6,8,4,2] ?_
 have hml := sealL_le (l := edB e) (by omega)
 have hsn := snapB_le hwg
 obtain ⟨r, hr⟩ : ∃ r, r = if m.made = true then runP [fun P => P.append (nameK kMan m.num) (sealL (edB e)), fun P => P.sync (nameK kMan m.num)] P else runP (swapL P (nameK kMan m.num) (snapB w2)) P := ⟨_, rfl⟩
 rw [← hr] at hch0
 refine Cd.cut (ι := DrS) (fun _ => [(2, ptrW g1), (5, ptrW g3), (6, .int .i64 r.2)]) (fun D' => [blk g3 24 [.slice nA w2.tbs.length nc, .int .i64 w2.nx, .int .i64 w2.lg, .int .i64 w2.sq], bxM g1 g, mfB g D.d A c m, rowTb nA w2.tbs.length nc w2.tbs, rowTb A m.v.tbs.length c m.v.tbs, D'.B, D'.M, D'.F]) (fun D' => Drv D' r.1 ∧ D'.d = D.d ∧ D'.m = D.m) ?_ ?_
 · by_cases hmade : m.made = true
   · rw [if_pos hmade] at hr
     subst hr
     refine Cd.cond_true (by rfl) (hmade) ?_
     refine go [3,4,0] ?_
     refine Ls.does (some 54) (Does.readN rfl Tryz.func50 (by kernel_rfl) (by kernel_rfl) (seal_sl bA bc (edB e) (by omega)) (by rfl) (by rfl) ⟨ReadsIn.row 1 (by rfl), trivial⟩ (fun _ => by rfl)) (by rfl) (by rfl) ?_
     rintro ⟨sA, sc⟩ -
     refine go [0,11,11] ?_
     refine Ls.does (some 9) (Does.alloc (cs := [.slice none 0 0]) rfl (ZeroIs.mk (.slice none 0 0) (by kernel_rfl) (by rfl))) (by rfl) (by rfl) ?_
     intro g5 _
     refine go [15,0,5,2,4] ?_
     refine Ls.qE 57 (Ev.makeFunc3 rfl (by rfl) (by rfl) (by rfl)) ?_
     refine Ls.qE 58 (Ev.makeFunc2 rfl (by rfl) (by rfl)) ?_
     refine Ls.does (some 59) (Does.lit (sz := 1) rfl (by rfl) Tryz.underlying157 (by kernel_rfl) (by rfl) (by kernel_rfl)) (by rfl) (by rfl) ?_
     intro g6 _
     refine Ent.see 0 (by rfl) (Ent.see 2 (by rfl) ?_)
     refine Ent.seeBlk 6 (by rfl) (Ent.seeBlk 3 (by rfl) (Ent.seeBlk 1 (by rfl) ?_))
     refine Ls.does (some 60) (Does.call [0, 6, 3, 1, 2, 14, 15, 16, 7, 5, 6, 10, 13] rfl Tryz.func51 (by kernel_rfl) (by kernel_rfl) (lend_made h g1 g g4 g5 A c m (nameK kMan m.num) (kMan_good _) sA sc (sealL (edB e)) (by omega) (some ⟨g6, 0, none⟩) 2) (by rfl) (by rfl) (by rfl)) (by rfl) (by rfl) ?_
     rintro D' ⟨h', hd, hm⟩
     refine go [5,2] ?_
     refine Ent.pick [4, 5, 3, 6, 7, 0, 1, 2] (by rfl) ?_
     refine Ent.iA (D') ?_
     (try dsimp only); exact ⟨h', hd, hm⟩
   · rw [if_neg hmade] at hr
     subst hr
     refine Cd.cond_false (by rfl) ((by simpa using hmade)) ?_
     refine Cd.draw [4] (by kernel_rfl) ?_
     refine Rg.qE 0 61 (by rfl) (Ev.load 3 rfl (by rfl) (by rfl) (by kernel_rfl) (by rfl)) ?_
     refine Rg.qE 1 62 (by rfl) (Ev.load 0 rfl (by rfl) (by rfl) (by kernel_rfl) (by rfl)) ?_
     refine Rg.qE 2 63 (by rfl) (Ev.loads 2 rfl (by rfl) (by rfl) (n := 4) (by kernel_rfl) (by rfl) (by rfl)) ?_
     refine Rg.does 3 (by rfl) (by kernel_rfl) (Does.readN rfl Tryz.func57 (by kernel_rfl) (by kernel_rfl) (msnap_sl w2 hwg nA nc) (by rfl) (by rfl) ⟨ReadsIn.row 7 (by rfl), trivial⟩ (fun _ => by rfl)) (by rfl) (some 64) (by rfl) (fun _ _ h => h.tail_) ?_
     rintro ⟨qA, qc⟩ -
     refine Ent.see 0 (by rfl) ?_
     refine Rg.tail 4 [] (by rfl) (by kernel_rfl) (Does.call [0, 7, 12, 13, 14, 5, 3, 4, 8, 11] rfl Tryz.func56 (by kernel_rfl) (by kernel_rfl) (lend_swap h g A c m (nameK kMan m.num) (kMan_good _) qA qc (snapB w2) hsn) (by rfl) (by rfl) (by rfl)) (by rfl) (some 65) (by rfl) (by kernel_rfl) (by kernel_rfl) ?_
     rintro D' ⟨h', hd, hm⟩
     refine Rg.qE 5 6 (by rfl) (Ev.assign rfl (by rfl)) ?_
     refine Rg.done (by kernel_rfl) ?_ _
     refine Ent.seeBlk 5 (by rfl) ?_
     refine Ent.pick [4, 5, 3, 6, 7, 0, 1, 2] (by rfl) ?_
     refine Ent.iA (D') ?_
     (try dsimp only); exact ⟨h', hd, hm⟩
 rintro D' ⟨h', hd, hm⟩
 dsimp only
 refine go [3,3,4,0,17,2] ?_
 by_cases hz : r.2 = 0
 rotate_left
 · rw [if_pos hz] at hch0
   subst hch0
   refine Cd.cond_true (by rfl) (decide_eq_true hz) ?_
   refine go [3,4,13,1,14,7,7,15,2,25,5,2,22] ?_
   exact Ent.rA ((D', (A, c))) [2,4,5,6,7] (⟨h', hd, hm⟩) rT_
 · rw [if_neg (fun k => k hz)] at hch0
   subst hch0
   refine Cd.cond_false (by rfl) (decide_eq_false (show ¬ (r.2 ≠ 0) from fun k => k hz)) ?_
   refine go [6,3] ?_
   refine Cd.drawS [0, 1] [8] (by kernel_rfl) ?_
   refine Rg.ev 0 (by rfl) (fun _ h => h.pick [0, 1] rfl) (Ev.loadB 1 rfl (by rfl) (by rfl) (by kernel_rfl) (by rfl)) (by rfl) (some 71) (by rfl) (by kernel_rfl) (by kernel_rfl) (by kernel_rfl) (by kernel_rfl) ?_
   refine Rg.ev 1 (by rfl) (fun _ h => h.pick [0, 1] rfl) (Ev.loadB 1 rfl (by rfl) (by rfl) (by kernel_rfl) (by rfl)) (by rfl) (some 72) (by rfl) (by kernel_rfl) (by kernel_rfl) (by kernel_rfl) (by kernel_rfl) ?_
   refine Rg.ev 2 (by rfl) (fun _ h => h.pick [0, 1] rfl) (Ev.loads 0 rfl (by rfl) (by rfl) (n := 4) (by kernel_rfl) (by rfl) (by rfl)) (by rfl) (some 73) (by rfl) (by kernel_rfl) (by kernel_rfl) (by kernel_rfl) (by kernel_rfl) ?_
   refine Rg.ev 3 (by rfl) (fun _ h => h.pick [0, 1] rfl) (Ev.nilCheck rfl (by rfl)) (by rfl) (some 74) (by rfl) (by kernel_rfl) (by kernel_rfl) (by kernel_rfl) (by kernel_rfl) ?_
   refine Rg.ev 4 (by rfl) (fun _ h => h.pick [0, 1] rfl) (Ev.fieldAddr (k := 6) rfl (by rfl) (by kernel_rfl) (by rfl)) (by rfl) (some 75) (by rfl) (by kernel_rfl) (by kernel_rfl) (by kernel_rfl) (by kernel_rfl) ?_
   refine Rg.keep 5 (by rfl) (by kernel_rfl) (Does.store 2 rfl (by rfl) (by rfl) (by rfl) (by kernel_rfl) (by rfl) (by kernel_rfl) (by rfl)) (by rfl) none (by rfl) (fun _ _ h => by have h2 := h.pick [0, 1] (by rfl); exact h2) ?_
   intro _ _
   refine Rg.ev 6 (by rfl) (fun _ h => h.pick [0, 1] rfl) (Ev.nilCheck rfl (by rfl)) (by rfl) (some 76) (by rfl) (by kernel_rfl) (by kernel_rfl) (by kernel_rfl) (by kernel_rfl) ?_
   refine Rg.ev 7 (by rfl) (fun _ h => h.pick [0, 1] rfl) (Ev.fieldAddr (k := 1) rfl (by rfl) (by kernel_rfl) (by rfl)) (by rfl) (some 77) (by rfl) (by kernel_rfl) (by kernel_rfl) (by kernel_rfl) (by kernel_rfl) ?_
   refine Rg.tail 8 [] (by rfl) (by kernel_rfl) (Does.store 2 rfl (by rfl) (by rfl) (by rfl) (by kernel_rfl) (by rfl) (by kernel_rfl) (by rfl)) (by rfl) none (by rfl) (by kernel_rfl) (by kernel_rfl) ?_
   intro _ _
   refine Rg.done (by kernel_rfl) ?_ _
   refine go [3,4,5,2,22] ?_
   exact Ent.rA ((D', (nA, nc))) [2,3,5,6,7] (⟨h', hd, hm⟩) rT_
def FiP.enc (f : FiP) : List Value := [.string (txt f.nm), .string (txt f.b), .int .i64 f.sy]
abbrev rdF (A : Option Addr) (fs : List FiP) : Chunk := rd A fs.length 3 (fs.flatMap FiP.enc)
def DrP.val (P : DrP) (A : Option Addr) (c : Nat) : List Value := [.slice A P.fs.length c, .int .i64 P.steps, .bool P.left.isSome, .int .i64 ((P.left.getD 0 : Nat) : Int)]
theorem dname_sl (q : List UInt8) (hql : q.length ≤ 1048576) : Fn Tryz.prog 62 #[.string (txt q)] [] Unit (fun _ => .bool (decide (Good q))) (fun _ => []) (fun _ => True) := by
 have hs : (txt q).size = q.length := rfl
 refine Fn.enter Tryz.func62 rfl Tryz.ntmps62 (by rfl) ?_
 intro w0
 refine go [3,4,5,2,3,3,4,5,2,21] ?_
 refine Cd.loop (ι := Nat) (fun k => [(0, .string (txt q)), (3, .int .i64 k)]) (fun _ => []) (fun k => k ≤ q.length ∧ ∀ x ∈ q.take k, okB x) (fun k => q.length - k) (0) (⟨Nat.zero_le _, fun _ h => by simp at h⟩) ?_ rfl ?_
 · (repeat (first | exact trivial | refine ⟨by rfl, ?_⟩))
 rintro k ⟨hk, hall⟩
 refine go [3,3,4,0,0] ?_
 refine Ls.qE 7 (Ev.lenS rfl (by rfl) Tryz.underlying9) ?_
 refine go [16,2] ?_
 refine Cd.cond _ (by rfl) (fun h => ?_) (fun h => ?_)
 · have hlt : k < q.length := by have := of_decide_eq_true h; omega
   obtain ⟨x, hx⟩ := get_of_lt hlt
   refine go [6,3,21,3,4,0,0] ?_
   refine Ls.qE 13 (Ev.indexT rfl (by rfl) (by rfl) Tryz.underlying9 (by assumption)) ?_
   refine go [5,2,3] ?_
   by_cases hok : okB x
   · have hok2 := hok
     unfold okB at hok2
     refine Cd.cut (ι := Unit) (fun _ => [(0, .string (txt q)), (3, .int .i64 k), (36, .bool false)]) (fun _ => []) (fun _ => True) ?_ ?_
     · refine go [4,0] ?_
       refine Ls.qE 15 (Ev.geq rfl (by rfl) (by rfl)) ?_
       refine Ls.qM 16 ?_
       refine Ent.split 16 (by rfl) (fun hT1 => ?_) (fun hT1 => ?_)
       · first | have hT1 := of_decide_eq_false hT1 | have hT1 := of_not_decide_false hT1 | skip
         refine go [1,1,10,0,0] ?_
         refine Ls.qE 22 (Ev.geq rfl (by rfl) (by rfl)) ?_
         refine Ls.qM 23 ?_
         refine Ent.split 23 (by rfl) (fun hT2 => ?_) (fun hT2 => ?_)
         · first | have hT2 := of_decide_eq_false hT2 | have hT2 := of_not_decide_false hT2 | skip
           refine go [1,1,10,10,0,0,19,10,0] ?_
           refine Ent.split 32 (by rfl) (fun hT3 => ?_) (fun hT3 => ?_)
           · first | have hT3 := of_decide_eq_false hT3 | have hT3 := of_not_decide_false hT3 | skip
             refine go [0,19,10,20,2] ?_
             refine Ent.inv () ?_ ?_ ?_
             · exact trivial
             · (repeat (first | exact trivial | refine ⟨by rfl, ?_⟩ | refine ⟨by simp only [lenS]; rfl, ?_⟩ | refine ⟨by push_cast; rfl, ?_⟩ | refine ⟨by (show some (Value.bool _) = some (Value.bool _); congr 2; all_goals ((first | rfl | (exact (decide_eq_false (by omega)).symm) | (exact (decide_eq_true (by omega)).symm) | (exact (decide_eq_false (by omega))) | (rw [decide_eq_true (by omega)]; rfl) | (rw [decide_eq_false (by omega)]; rfl) | omega))), ?_⟩))
             · rfl
           · first | have hT3 := of_decide_eq_true hT3 | have hT3 := of_not_decide_true hT3 | skip
             refine go [1,1,9,20,2] ?_
             refine Ent.inv () ?_ ?_ ?_
             · exact trivial
             · (repeat (first | exact trivial | refine ⟨by rfl, ?_⟩ | refine ⟨by simp only [lenS]; rfl, ?_⟩ | refine ⟨by push_cast; rfl, ?_⟩ | refine ⟨by (show some (Value.bool _) = some (Value.bool _); congr 2; all_goals ((first | rfl | (exact (decide_eq_false (by omega)).symm) | (exact (decide_eq_true (by omega)).symm) | (exact (decide_eq_false (by omega))) | (rw [decide_eq_true (by omega)]; rfl) | (rw [decide_eq_false (by omega)]; rfl) | omega))), ?_⟩))
             · rfl
         · first | have hT2 := of_decide_eq_true hT2 | have hT2 := of_not_decide_true hT2 | skip
           refine Ls.qM 24 ?_
           refine Ls.qE 25 (Ev.leq rfl (by rfl) (by rfl)) ?_
           refine go [9,10,0] ?_
           refine Ent.split 28 (by rfl) (fun hT3 => ?_) (fun hT3 => ?_)
           · first | have hT3 := of_decide_eq_false hT3 | have hT3 := of_not_decide_false hT3 | skip
             refine go [0,19,10,0] ?_
             refine Ent.split 32 (by rfl) (fun hT4 => ?_) (fun hT4 => ?_)
             · first | have hT4 := of_decide_eq_false hT4 | have hT4 := of_not_decide_false hT4 | skip
               refine go [0,19,10,20,2] ?_
               refine Ent.inv () ?_ ?_ ?_
               · exact trivial
               · (repeat (first | exact trivial | refine ⟨by rfl, ?_⟩ | refine ⟨by simp only [lenS]; rfl, ?_⟩ | refine ⟨by push_cast; rfl, ?_⟩ | refine ⟨by (show some (Value.bool _) = some (Value.bool _); congr 2; all_goals ((first | rfl | (exact (decide_eq_false (by omega)).symm) | (exact (decide_eq_true (by omega)).symm) | (exact (decide_eq_false (by omega))) | (rw [decide_eq_true (by omega)]; rfl) | (rw [decide_eq_false (by omega)]; rfl) | omega))), ?_⟩))
               · rfl
             · first | have hT4 := of_decide_eq_true hT4 | have hT4 := of_not_decide_true hT4 | skip
               refine go [1,1,9,20,2] ?_
               refine Ent.inv () ?_ ?_ ?_
               · exact trivial
               · (repeat (first | exact trivial | refine ⟨by rfl, ?_⟩ | refine ⟨by simp only [lenS]; rfl, ?_⟩ | refine ⟨by push_cast; rfl, ?_⟩ | refine ⟨by (show some (Value.bool _) = some (Value.bool _); congr 2; all_goals ((first | rfl | (exact (decide_eq_false (by omega)).symm) | (exact (decide_eq_true (by omega)).symm) | (exact (decide_eq_false (by omega))) | (rw [decide_eq_true (by omega)]; rfl) | (rw [decide_eq_false (by omega)]; rfl) | omega))), ?_⟩))
               · rfl
           · first | have hT3 := of_decide_eq_true hT3 | have hT3 := of_not_decide_true hT3 | skip
             refine go [1,1,9,0,1,1,9,20,2] ?_
             refine Ent.inv () ?_ ?_ ?_
             · exact trivial
             · (repeat (first | exact trivial | refine ⟨by rfl, ?_⟩ | refine ⟨by simp only [lenS]; rfl, ?_⟩ | refine ⟨by push_cast; rfl, ?_⟩ | refine ⟨by (show some (Value.bool _) = some (Value.bool _); congr 2; all_goals ((first | rfl | (exact (decide_eq_false (by omega)).symm) | (exact (decide_eq_true (by omega)).symm) | (exact (decide_eq_false (by omega))) | (rw [decide_eq_true (by omega)]; rfl) | (rw [decide_eq_false (by omega)]; rfl) | omega))), ?_⟩))
             · rfl
       · first | have hT1 := of_decide_eq_true hT1 | have hT1 := of_not_decide_true hT1 | skip
         refine Ls.qM 17 ?_
         refine Ls.qE 18 (Ev.leq rfl (by rfl) (by rfl)) ?_
         refine go [9,0] ?_
         refine Ent.split 20 (by rfl) (fun hT2 => ?_) (fun hT2 => ?_)
         · first | have hT2 := of_decide_eq_false hT2 | have hT2 := of_not_decide_false hT2 | skip
           refine Ls.qM 21 ?_
           refine Ls.qE 22 (Ev.geq rfl (by rfl) (by rfl)) ?_
           refine Ls.qM 23 ?_
           refine Ent.split 23 (by rfl) (fun hT3 => ?_) (fun hT3 => ?_)
           · first | have hT3 := of_decide_eq_false hT3 | have hT3 := of_not_decide_false hT3 | skip
             refine go [1,1,10,10,0,0,19,10,0] ?_
             refine Ent.split 32 (by rfl) (fun hT4 => ?_) (fun hT4 => ?_)
             · first | have hT4 := of_decide_eq_false hT4 | have hT4 := of_not_decide_false hT4 | skip
               refine go [0,19,10,20,2] ?_
               refine Ent.inv () ?_ ?_ ?_
               · exact trivial
               · (repeat (first | exact trivial | refine ⟨by rfl, ?_⟩ | refine ⟨by simp only [lenS]; rfl, ?_⟩ | refine ⟨by push_cast; rfl, ?_⟩ | refine ⟨by (show some (Value.bool _) = some (Value.bool _); congr 2; all_goals ((first | rfl | (exact (decide_eq_false (by omega)).symm) | (exact (decide_eq_true (by omega)).symm) | (exact (decide_eq_false (by omega))) | (rw [decide_eq_true (by omega)]; rfl) | (rw [decide_eq_false (by omega)]; rfl) | omega))), ?_⟩))
               · rfl
             · first | have hT4 := of_decide_eq_true hT4 | have hT4 := of_not_decide_true hT4 | skip
               refine go [1,1,9,20,2] ?_
               refine Ent.inv () ?_ ?_ ?_
               · exact trivial
               · (repeat (first | exact trivial | refine ⟨by rfl, ?_⟩ | refine ⟨by simp only [lenS]; rfl, ?_⟩ | refine ⟨by push_cast; rfl, ?_⟩ | refine ⟨by (show some (Value.bool _) = some (Value.bool _); congr 2; all_goals ((first | rfl | (exact (decide_eq_false (by omega)).symm) | (exact (decide_eq_true (by omega)).symm) | (exact (decide_eq_false (by omega))) | (rw [decide_eq_true (by omega)]; rfl) | (rw [decide_eq_false (by omega)]; rfl) | omega))), ?_⟩))
               · rfl
           · first | have hT3 := of_decide_eq_true hT3 | have hT3 := of_not_decide_true hT3 | skip
             refine Ls.qM 24 ?_
             refine Ls.qE 25 (Ev.leq rfl (by rfl) (by rfl)) ?_
             refine go [9,10,0] ?_
             refine Ent.split 28 (by rfl) (fun hT4 => ?_) (fun hT4 => ?_)
             · first | have hT4 := of_decide_eq_false hT4 | have hT4 := of_not_decide_false hT4 | skip
               refine go [0,19,10,0] ?_
               refine Ent.split 32 (by rfl) (fun hT5 => ?_) (fun hT5 => ?_)
               · first | have hT5 := of_decide_eq_false hT5 | have hT5 := of_not_decide_false hT5 | skip
                 refine go [0,19,10,20,2] ?_
                 refine Ent.inv () ?_ ?_ ?_
                 · exact trivial
                 · (repeat (first | exact trivial | refine ⟨by rfl, ?_⟩ | refine ⟨by simp only [lenS]; rfl, ?_⟩ | refine ⟨by push_cast; rfl, ?_⟩ | refine ⟨by (show some (Value.bool _) = some (Value.bool _); congr 2; all_goals ((first | rfl | (exact (decide_eq_false (by omega)).symm) | (exact (decide_eq_true (by omega)).symm) | (exact (decide_eq_false (by omega))) | (rw [decide_eq_true (by omega)]; rfl) | (rw [decide_eq_false (by omega)]; rfl) | omega))), ?_⟩))
                 · rfl
               · first | have hT5 := of_decide_eq_true hT5 | have hT5 := of_not_decide_true hT5 | skip
                 refine go [1,1,9,20,2] ?_
                 refine Ent.inv () ?_ ?_ ?_
                 · exact trivial
                 · (repeat (first | exact trivial | refine ⟨by rfl, ?_⟩ | refine ⟨by simp only [lenS]; rfl, ?_⟩ | refine ⟨by push_cast; rfl, ?_⟩ | refine ⟨by (show some (Value.bool _) = some (Value.bool _); congr 2; all_goals ((first | rfl | (exact (decide_eq_false (by omega)).symm) | (exact (decide_eq_true (by omega)).symm) | (exact (decide_eq_false (by omega))) | (rw [decide_eq_true (by omega)]; rfl) | (rw [decide_eq_false (by omega)]; rfl) | omega))), ?_⟩))
                 · rfl
             · first | have hT4 := of_decide_eq_true hT4 | have hT4 := of_not_decide_true hT4 | skip
               refine go [1,1,9,0,1,1,9,20,2] ?_
               refine Ent.inv () ?_ ?_ ?_
               · exact trivial
               · (repeat (first | exact trivial | refine ⟨by rfl, ?_⟩ | refine ⟨by simp only [lenS]; rfl, ?_⟩ | refine ⟨by push_cast; rfl, ?_⟩ | refine ⟨by (show some (Value.bool _) = some (Value.bool _); congr 2; all_goals ((first | rfl | (exact (decide_eq_false (by omega)).symm) | (exact (decide_eq_true (by omega)).symm) | (exact (decide_eq_false (by omega))) | (rw [decide_eq_true (by omega)]; rfl) | (rw [decide_eq_false (by omega)]; rfl) | omega))), ?_⟩))
               · rfl
         · first | have hT2 := of_decide_eq_true hT2 | have hT2 := of_not_decide_true hT2 | skip
           refine go [1,1,1,1,1,1,9,0,1,1,9,0,1,1,9,20,2] ?_
           refine Ent.inv () ?_ ?_ ?_
           · exact trivial
           · (repeat (first | exact trivial | refine ⟨by rfl, ?_⟩ | refine ⟨by simp only [lenS]; rfl, ?_⟩ | refine ⟨by push_cast; rfl, ?_⟩ | refine ⟨by (show some (Value.bool _) = some (Value.bool _); congr 2; all_goals ((first | rfl | (exact (decide_eq_false (by omega)).symm) | (exact (decide_eq_true (by omega)).symm) | (exact (decide_eq_false (by omega))) | (rw [decide_eq_true (by omega)]; rfl) | (rw [decide_eq_false (by omega)]; rfl) | omega))), ?_⟩))
           · rfl
     rintro _ -
     refine go [24,6,4,0] ?_
     refine Ls.qE 10 (Ev.addN (b := 1) rfl (by rfl) (by rfl) (by omega)) ?_
     refine go [5,2] ?_
     refine Ent.iA (k + 1) ?_
     (try dsimp only); exact ⟨⟨hlt, fun y hy => by rw [List.take_add_one, hx] at hy; rcases List.mem_append.1 hy with hy | hy; exact hall y hy; exact (List.mem_singleton.1 hy) ▸ hok⟩, by omega⟩
   · have hok2 := hok
     unfold okB at hok2
     refine Cd.cut (ι := Unit) (fun _ => [(0, .string (txt q)), (3, .int .i64 k), (36, .bool true)]) (fun _ => []) (fun _ => True) ?_ ?_
     · refine go [4,0] ?_
       refine Ls.qE 15 (Ev.geq rfl (by rfl) (by rfl)) ?_
       refine Ls.qM 16 ?_
       refine Ent.split 16 (by rfl) (fun hT1 => ?_) (fun hT1 => ?_)
       · first | have hT1 := of_decide_eq_false hT1 | have hT1 := of_not_decide_false hT1 | skip
         refine go [1,1,10,0,0] ?_
         refine Ls.qE 22 (Ev.geq rfl (by rfl) (by rfl)) ?_
         refine Ls.qM 23 ?_
         refine Ent.split 23 (by rfl) (fun hT2 => ?_) (fun hT2 => ?_)
         · first | have hT2 := of_decide_eq_false hT2 | have hT2 := of_not_decide_false hT2 | skip
           refine go [1,1,10,10,0,0,19,10,0] ?_
           refine Ent.split 32 (by rfl) (fun hT3 => ?_) (fun hT3 => ?_)
           · first | have hT3 := of_decide_eq_false hT3 | have hT3 := of_not_decide_false hT3 | skip
             refine go [0,19,10,20,2] ?_
             refine Ent.inv () ?_ ?_ ?_
             · exact trivial
             · (repeat (first | exact trivial | refine ⟨by rfl, ?_⟩ | refine ⟨by simp only [lenS]; rfl, ?_⟩ | refine ⟨by push_cast; rfl, ?_⟩ | refine ⟨by (show some (Value.bool _) = some (Value.bool _); congr 2; all_goals ((first | rfl | (exact (decide_eq_true (by omega)).symm) | (exact (decide_eq_true (by omega))) | (rw [decide_eq_true (by omega)]; rfl) | (rw [decide_eq_false (by omega)]; rfl) | omega))), ?_⟩))
             · rfl
           · first | have hT3 := of_decide_eq_true hT3 | have hT3 := of_not_decide_true hT3 | skip
             refine go [1,1,9,20,2] ?_
             refine Ent.inv () ?_ ?_ ?_
             · exact trivial
             · (repeat (first | exact trivial | refine ⟨by rfl, ?_⟩ | refine ⟨by simp only [lenS]; rfl, ?_⟩ | refine ⟨by push_cast; rfl, ?_⟩ | refine ⟨by (show some (Value.bool _) = some (Value.bool _); congr 2; all_goals ((first | rfl | (exact (decide_eq_true (by omega)).symm) | (exact (decide_eq_true (by omega))) | (rw [decide_eq_true (by omega)]; rfl) | (rw [decide_eq_false (by omega)]; rfl) | omega))), ?_⟩))
             · rfl
         · first | have hT2 := of_decide_eq_true hT2 | have hT2 := of_not_decide_true hT2 | skip
           refine Ls.qM 24 ?_
           refine Ls.qE 25 (Ev.leq rfl (by rfl) (by rfl)) ?_
           refine go [9,10,0] ?_
           refine Ent.split 28 (by rfl) (fun hT3 => ?_) (fun hT3 => ?_)
           · first | have hT3 := of_decide_eq_false hT3 | have hT3 := of_not_decide_false hT3 | skip
             refine go [0,19,10,0] ?_
             refine Ent.split 32 (by rfl) (fun hT4 => ?_) (fun hT4 => ?_)
             · first | have hT4 := of_decide_eq_false hT4 | have hT4 := of_not_decide_false hT4 | skip
               refine go [0,19,10,20,2] ?_
               refine Ent.inv () ?_ ?_ ?_
               · exact trivial
               · (repeat (first | exact trivial | refine ⟨by rfl, ?_⟩ | refine ⟨by simp only [lenS]; rfl, ?_⟩ | refine ⟨by push_cast; rfl, ?_⟩ | refine ⟨by (show some (Value.bool _) = some (Value.bool _); congr 2; all_goals ((first | rfl | (exact (decide_eq_true (by omega)).symm) | (exact (decide_eq_true (by omega))) | (rw [decide_eq_true (by omega)]; rfl) | (rw [decide_eq_false (by omega)]; rfl) | omega))), ?_⟩))
               · rfl
             · first | have hT4 := of_decide_eq_true hT4 | have hT4 := of_not_decide_true hT4 | skip
               refine go [1,1,9,20,2] ?_
               refine Ent.inv () ?_ ?_ ?_
               · exact trivial
               · (repeat (first | exact trivial | refine ⟨by rfl, ?_⟩ | refine ⟨by simp only [lenS]; rfl, ?_⟩ | refine ⟨by push_cast; rfl, ?_⟩ | refine ⟨by (show some (Value.bool _) = some (Value.bool _); congr 2; all_goals ((first | rfl | (exact (decide_eq_true (by omega)).symm) | (exact (decide_eq_true (by omega))) | (rw [decide_eq_true (by omega)]; rfl) | (rw [decide_eq_false (by omega)]; rfl) | omega))), ?_⟩))
               · rfl
           · first | have hT3 := of_decide_eq_true hT3 | have hT3 := of_not_decide_true hT3 | skip
             refine go [1,1,9,0,1,1,9,20,2] ?_
             refine Ent.inv () ?_ ?_ ?_
             · exact trivial
             · (repeat (first | exact trivial | refine ⟨by rfl, ?_⟩ | refine ⟨by simp only [lenS]; rfl, ?_⟩ | refine ⟨by push_cast; rfl, ?_⟩ | refine ⟨by (show some (Value.bool _) = some (Value.bool _); congr 2; all_goals ((first | rfl | (exact (decide_eq_true (by omega)).symm) | (exact (decide_eq_true (by omega))) | (rw [decide_eq_true (by omega)]; rfl) | (rw [decide_eq_false (by omega)]; rfl) | omega))), ?_⟩))
             · rfl
       · first | have hT1 := of_decide_eq_true hT1 | have hT1 := of_not_decide_true hT1 | skip
         refine Ls.qM 17 ?_
         refine Ls.qE 18 (Ev.leq rfl (by rfl) (by rfl)) ?_
         refine go [9,0] ?_
         refine Ent.split 20 (by rfl) (fun hT2 => ?_) (fun hT2 => ?_)
         · first | have hT2 := of_decide_eq_false hT2 | have hT2 := of_not_decide_false hT2 | skip
           refine Ls.qM 21 ?_
           refine Ls.qE 22 (Ev.geq rfl (by rfl) (by rfl)) ?_
           refine Ls.qM 23 ?_
           refine Ent.split 23 (by rfl) (fun hT3 => ?_) (fun hT3 => ?_)
           · first | have hT3 := of_decide_eq_false hT3 | have hT3 := of_not_decide_false hT3 | skip
             refine go [1,1,10,10,0,0,19,10,0] ?_
             refine Ent.split 32 (by rfl) (fun hT4 => ?_) (fun hT4 => ?_)
             · first | have hT4 := of_decide_eq_false hT4 | have hT4 := of_not_decide_false hT4 | skip
               refine go [0,19,10,20,2] ?_
               refine Ent.inv () ?_ ?_ ?_
               · exact trivial
               · (repeat (first | exact trivial | refine ⟨by rfl, ?_⟩ | refine ⟨by simp only [lenS]; rfl, ?_⟩ | refine ⟨by push_cast; rfl, ?_⟩ | refine ⟨by (show some (Value.bool _) = some (Value.bool _); congr 2; all_goals ((first | rfl | (exact (decide_eq_true (by omega)).symm) | (exact (decide_eq_true (by omega))) | (rw [decide_eq_true (by omega)]; rfl) | (rw [decide_eq_false (by omega)]; rfl) | omega))), ?_⟩))
               · rfl
             · first | have hT4 := of_decide_eq_true hT4 | have hT4 := of_not_decide_true hT4 | skip
               refine go [1,1,9,20,2] ?_
               refine Ent.inv () ?_ ?_ ?_
               · exact trivial
               · (repeat (first | exact trivial | refine ⟨by rfl, ?_⟩ | refine ⟨by simp only [lenS]; rfl, ?_⟩ | refine ⟨by push_cast; rfl, ?_⟩ | refine ⟨by (show some (Value.bool _) = some (Value.bool _); congr 2; all_goals ((first | rfl | (exact (decide_eq_true (by omega)).symm) | (exact (decide_eq_true (by omega))) | (rw [decide_eq_true (by omega)]; rfl) | (rw [decide_eq_false (by omega)]; rfl) | omega))), ?_⟩))
               · rfl
           · first | have hT3 := of_decide_eq_true hT3 | have hT3 := of_not_decide_true hT3 | skip
             refine Ls.qM 24 ?_
             refine Ls.qE 25 (Ev.leq rfl (by rfl) (by rfl)) ?_
             refine go [9,10,0] ?_
             refine Ent.split 28 (by rfl) (fun hT4 => ?_) (fun hT4 => ?_)
             · first | have hT4 := of_decide_eq_false hT4 | have hT4 := of_not_decide_false hT4 | skip
               refine go [0,19,10,0] ?_
               refine Ent.split 32 (by rfl) (fun hT5 => ?_) (fun hT5 => ?_)
               · first | have hT5 := of_decide_eq_false hT5 | have hT5 := of_not_decide_false hT5 | skip
                 refine go [0,19,10,20,2] ?_
                 refine Ent.inv () ?_ ?_ ?_
                 · exact trivial
                 · (repeat (first | exact trivial | refine ⟨by rfl, ?_⟩ | refine ⟨by simp only [lenS]; rfl, ?_⟩ | refine ⟨by push_cast; rfl, ?_⟩ | refine ⟨by (show some (Value.bool _) = some (Value.bool _); congr 2; all_goals ((first | rfl | (exact (decide_eq_true (by omega)).symm) | (exact (decide_eq_true (by omega))) | (rw [decide_eq_true (by omega)]; rfl) | (rw [decide_eq_false (by omega)]; rfl) | omega))), ?_⟩))
                 · rfl
               · first | have hT5 := of_decide_eq_true hT5 | have hT5 := of_not_decide_true hT5 | skip
                 refine go [1,1,9,20,2] ?_
                 refine Ent.inv () ?_ ?_ ?_
                 · exact trivial
                 · (repeat (first | exact trivial | refine ⟨by rfl, ?_⟩ | refine ⟨by simp only [lenS]; rfl, ?_⟩ | refine ⟨by push_cast; rfl, ?_⟩ | refine ⟨by (show some (Value.bool _) = some (Value.bool _); congr 2; all_goals ((first | rfl | (exact (decide_eq_true (by omega)).symm) | (exact (decide_eq_true (by omega))) | (rw [decide_eq_true (by omega)]; rfl) | (rw [decide_eq_false (by omega)]; rfl) | omega))), ?_⟩))
                 · rfl
             · first | have hT4 := of_decide_eq_true hT4 | have hT4 := of_not_decide_true hT4 | skip
               refine go [1,1,9,0,1,1,9,20,2] ?_
               refine Ent.inv () ?_ ?_ ?_
               · exact trivial
               · (repeat (first | exact trivial | refine ⟨by rfl, ?_⟩ | refine ⟨by simp only [lenS]; rfl, ?_⟩ | refine ⟨by push_cast; rfl, ?_⟩ | refine ⟨by (show some (Value.bool _) = some (Value.bool _); congr 2; all_goals ((first | rfl | (exact (decide_eq_true (by omega)).symm) | (exact (decide_eq_true (by omega))) | (rw [decide_eq_true (by omega)]; rfl) | (rw [decide_eq_false (by omega)]; rfl) | omega))), ?_⟩))
               · rfl
         · first | have hT2 := of_decide_eq_true hT2 | have hT2 := of_not_decide_true hT2 | skip
           refine go [1,1,1,1,1,1,9,0,1,1,9,0,1,1,9,20,2] ?_
           refine Ent.inv () ?_ ?_ ?_
           · exact trivial
           · (repeat (first | exact trivial | refine ⟨by rfl, ?_⟩ | refine ⟨by simp only [lenS]; rfl, ?_⟩ | refine ⟨by push_cast; rfl, ?_⟩ | refine ⟨by (show some (Value.bool _) = some (Value.bool _); congr 2; all_goals ((first | rfl | (exact (decide_eq_true (by omega)).symm) | (exact (decide_eq_true (by omega))) | (rw [decide_eq_true (by omega)]; rfl) | (rw [decide_eq_false (by omega)]; rfl) | omega))), ?_⟩))
           · rfl
     rintro _ -
     refine go [23,3,4,5,2,22] ?_
     refine Ent.ret (()) (trivial) (Res.tmp (by rfl) (by rfl)) ?_ [] (by rfl) ?_
     · show Value.bool false = _
       rw [decide_eq_false (fun h : Good q => hok (h.all x (List.mem_of_getElem? hx)))]
     · rfl
 · have hge : q.length ≤ k := by have := of_decide_eq_false h; omega
   rw [List.take_of_length_le hge] at hall
   have hgd : decide (Good q) = decide ((1 : Nat) ≤ q.length ∧ q.length ≤ 32) := decide_eq_decide.2 ⟨fun g => ⟨by
    have := g.ne
    cases q with
    | nil => exact absurd rfl this
    | cons _ _ => simp, g.len⟩, fun ⟨a, b⟩ => ⟨fun e => by rw [e] at a; simp at a, b, hall⟩⟩
   rw [hgd]
   refine Cd.exit ?_
   refine go [3,4,0] ?_
   refine Ls.qE 38 (Ev.lenS rfl (by rfl) Tryz.underlying9) ?_
   refine Ls.qE 39 (Ev.geq rfl (by rfl) (by rfl)) ?_
   refine Ls.qM 40 ?_
   by_cases h1 : (1 : Int) ≤ (q.length : Int)
   · refine Ent.known 40 true (by rfl) (by exact (decide_eq_true h1)) ?_
     refine Ls.qM 41 ?_
     refine Ls.qE 42 (Ev.lenS rfl (by rfl) Tryz.underlying9) ?_
     refine Ls.qE 43 (Ev.leq rfl (by rfl) (by rfl)) ?_
     refine go [9,5,2,22] ?_
     refine Ent.ret (()) (trivial) (Res.tmp (by rfl) (by rfl)) ?_ [] (by rfl) ?_
     · show Value.bool _ = Value.bool _
       congr 1
       exact decide_eq_decide.2 (by rw [hs]; omega)
     · rfl
   · refine Ent.known 40 false (by rfl) (by exact (decide_eq_false h1)) ?_
     refine go [1,1,1,10,5,2,22] ?_
     refine Ent.ret (()) (trivial) (Res.tmp (by rfl) (by rfl)) ?_ [] (by rfl) ?_
     · show Value.bool false = Value.bool _
       congr 1
       exact (decide_eq_false (by omega)).symm
     · rfl
def AtR (l : List FiP) (q : List UInt8) (r : Int) : Prop := (r = -1 ∧ findG FiP.nm q l = none) ∨ ∃ (k : Nat) (f : FiP), r = k ∧ l[k]? = some f ∧ f.nm = q ∧ findG FiP.nm q l = some f
theorem findG_take {l : List FiP} {q : List UInt8} {k : Nat} {f : FiP} (h : ∀ x ∈ l.take k, x.nm ≠ q) (hf : l[k]? = some f) (hq : f.nm = q) : findG FiP.nm q l = some f := by
 induction l generalizing k with
 | nil => simp at hf
 | cons y l ih =>
  cases k with
  | zero =>
   obtain rfl : y = f := by simpa using hf
   rw [findG_cons, if_pos hq]
  | succ k =>
   rw [findG_cons, if_neg (h y (by simp))]
   exact ih (fun x hx => h x (by rw [List.take_succ_cons]; exact List.mem_cons_of_mem _ hx)) (by simpa using hf)
theorem dat_sl (P : DrP) (A : Option Addr) (c : Nat) (q : List UInt8) (hn : P.fs.length ≤ 1000000) : Fn Tryz.prog 63 #[.agg (P.val A c).toArray, .string (txt q)] [rdF A P.fs] Int (fun r => .int .i64 r) (fun _ => []) (AtR P.fs q) := by
 obtain ⟨fs, steps, left⟩ := P
 dsimp only [DrP.val] at hn ⊢
 refine Fn.enter Tryz.func63 rfl Tryz.ntmps63 (by rfl) ?_
 intro w0
 refine go [3,4] ?_
 refine Ls.does (some 2) (Does.box rfl (by rfl)) (by rfl) (by rfl) ?_
 intro g1 _
 refine go [5,2,3,3,4,5,2,21] ?_
 refine Cd.loop (ι := Nat) (fun k => [(1, .string (txt q)), (2, ptrW g1), (5, .int .i64 k)]) (fun _ => [blk g1 55 [.slice A fs.length c, .int .i64 steps, .bool left.isSome, .int .i64 ((left.getD 0 : Nat) : Int)], rdF A fs]) (fun k => k ≤ fs.length ∧ ∀ x ∈ fs.take k, x.nm ≠ q) (fun k => fs.length - k) (0) (⟨Nat.zero_le _, fun _ h => by simp at h⟩) ?_ rfl ?_
 · (repeat (first | exact trivial | refine ⟨by rfl, ?_⟩))
 rintro k ⟨hk, hall⟩
 refine go [3,3,4,0,7,0,8,0] ?_
 refine Ls.qE 9 (Ev.len rfl (by rfl) Tryz.underlying53) ?_
 refine go [16,2] ?_
 refine Cd.cond _ (by rfl) (fun h => ?_) (fun h => ?_)
 · have hlt : k < fs.length := by have := of_decide_eq_true h; omega
   obtain ⟨f, hf⟩ := get_of_lt hlt
   refine Ent.rdSome 1 (by rfl) (by omega) (fun ad had => ?_)
   subst had
   refine go [6,3,21,3,4,7,0,8,0,0] ?_
   refine Ls.qE 16 (Ev.indexAt (sz := 3) rfl (by rfl) (by rfl) Tryz.underlying53 (by kernel_rfl) (by omega)) ?_
   refine Ls.qE 17 (Ev.fieldAddrE0 (k := 0) rfl (by rfl) (by kernel_rfl)) ?_
   refine Ls.qE 18 (Ev.loadElF rfl (by rfl) (ReadsIn.rd 1 (by rfl)) (by kernel_rfl) (by intro _; rfl) (by assumption) (by rfl)) ?_
   refine Ls.qM 19 ?_
   refine Ls.qE 20 (Ev.eqlS rfl (by rfl) (by rfl)) ?_
   refine Ls.nil ?_
   by_cases hq : f.nm = q
   · refine Cd.cond_true (by rfl) (decide_eq_true (txt_eq_iff.2 hq)) ?_
     refine go [3,4,0,5,2,22] ?_
     exact Ent.rA ((k : Int)) [] (.inr ⟨k, f, rfl, hf, hq, findG_take hall hf hq⟩) rT_
   · refine Cd.cond_false (by rfl) (decide_eq_false (fun e => hq (txt_eq_iff.1 e))) ?_
     refine go [6,4,0] ?_
     refine Ls.qE 12 (Ev.addN (b := 1) rfl (by rfl) (by rfl) (by omega)) ?_
     refine go [5,2] ?_
     refine Ent.iA (k + 1) ?_
     (try dsimp only); exact ⟨⟨hlt, fun x hx => by rw [List.take_add_one, hf] at hx; rcases List.mem_append.1 hx with hx | hx; exact hall x hx; exact (List.mem_singleton.1 hx) ▸ hq⟩, by omega⟩
 · have hge : fs.length ≤ k := by have := of_decide_eq_false h; omega
   rw [List.take_of_length_le hge] at hall
   refine Cd.exit ?_
   refine go [3,4] ?_
   refine Ls.qE 4 (Ev.assign (show Oper.op _ = Op.assign (Operand.const (Value.int IntKind.i64 (-1))) from rfl) (by rfl)) ?_
   refine go [2,22] ?_
   exact Ent.rA ((-1 : Int)) [] (.inl ⟨rfl, findG_none_of hall⟩) rT_
theorem ddead_sl (P : DrP) (A : Option Addr) (c : Nat) : Fn Tryz.prog 76 #[.agg (P.val A c).toArray] [] Unit (fun _ => .bool P.dead) (fun _ => []) (fun _ => True) := by
 obtain ⟨fs, steps, left⟩ := P
 dsimp only [DrP.val, DrP.dead]
 cases left with
 | none =>
  dsimp only [Option.isSome, Option.getD]
  refine Fn.enter Tryz.func76 rfl Tryz.ntmps76 (by rfl) ?_
  intro w0
  refine go [3,4] ?_
  refine Ls.does (some 1) (Does.box rfl (by rfl)) (by rfl) (by rfl) ?_
  intro g1 _
  refine go [5,25,7,2,8,0,0] ?_
  refine Ent.known 5 false (by rfl) (by exact (rfl)) ?_
  refine go [1,1,1,10,5,2,22] ?_
  exact Ent.rA (()) [] trivial rT_
 | some n =>
  dsimp only [Option.isSome, Option.getD]
  refine Fn.enter Tryz.func76 rfl Tryz.ntmps76 (by rfl) ?_
  intro w0
  refine go [3,4] ?_
  refine Ls.does (some 1) (Does.box rfl (by rfl)) (by rfl) (by rfl) ?_
  intro g1 _
  refine go [5,25,7,2,8,0,0] ?_
  refine Ent.known 5 true (by rfl) (by exact (rfl)) ?_
  refine go [7,3,8,0,19,9,5,2,22] ?_
  refine Ent.ret (()) (trivial) (Res.tmp (by rfl) (by rfl)) ?_ [] (by rfl) ?_
  · show Value.bool _ = Value.bool _
    congr 1
    exact decide_eq_decide.2 (by simp)
  · rfl
theorem dstep_sl (P : DrP) (hok : P.Ok) (hd : P.dead = false) (A : Option Addr) (c : Nat) : Fn Tryz.prog 114 #[.agg (P.val A c).toArray] [] Unit (fun _ => .agg (P.step.val A c).toArray) (fun _ => []) (fun _ => True) := by
 obtain ⟨fs, steps, left⟩ := P
 have hl := hok.left
 dsimp only at hl
 unfold DrP.dead at hd
 dsimp only at hd
 dsimp only [DrP.val, DrP.step]
 cases left with
 | none =>
  dsimp only [Option.isSome, Option.getD, Option.map]
  refine Fn.enter Tryz.func114 rfl Tryz.ntmps114 (by rfl) ?_
  intro w0
  refine go [3,4] ?_
  refine Ls.does (some 1) (Does.box rfl (by rfl)) (by rfl) (by rfl) ?_
  intro g1 _
  refine Ls.does (some 2) (Does.alloc (cs := [.slice none 0 0, .int .i64 0, .bool false, .int .i64 0]) rfl (ZeroIs.mk (.agg #[.slice none 0 0, .int .i64 0, .bool false, .int .i64 0]) (by kernel_rfl) (by rfl))) (by rfl) (by rfl) ?_
  intro g2 _
  refine go [25,7,1,8,1] ?_
  refine Ls.qE 5 (Ev.add rfl (by rfl) (by rfl)) ?_
  refine go [7,1,15,1,2,3,3,4,7,2,8,1,2,24,6,3,4,12,1,4,15,0,2,22] ?_
  exact Ent.rA (()) [] trivial (Res.cell 0 (by rfl) (by rfl) (by rfl) (n := 4) (by kernel_rfl) (by rfl) (by rfl))
 | some n =>
  have hn := hl n rfl
  have hn0 : n ≠ 0 := fun e => by rw [e] at hd; simp at hd
  dsimp only [Option.isSome, Option.getD, Option.map]
  refine Fn.enter Tryz.func114 rfl Tryz.ntmps114 (by rfl) ?_
  intro w0
  refine go [3,4] ?_
  refine Ls.does (some 1) (Does.box rfl (by rfl)) (by rfl) (by rfl) ?_
  intro g1 _
  refine Ls.does (some 2) (Does.alloc (cs := [.slice none 0 0, .int .i64 0, .bool false, .int .i64 0]) rfl (ZeroIs.mk (.agg #[.slice none 0 0, .int .i64 0, .bool false, .int .i64 0]) (by kernel_rfl) (by rfl))) (by rfl) (by rfl) ?_
  intro g2 _
  refine go [25,7,1,8,1] ?_
  refine Ls.qE 5 (Ev.add rfl (by rfl) (by rfl)) ?_
  refine go [7,1,15,1,2,3,3,4,7,2,8,1,2,23,4,7,3,8,1] ?_
  refine Ls.qE 11 (Ev.subN (b := 1) rfl (by rfl) (by rfl) (by omega)) ?_
  refine go [7,3,15,1,25,12,1,4,15,0,2,22] ?_
  exact Ent.rA (()) [] trivial (Res.cell 0 (by rfl) (by rfl) (by rfl) (n := 4) (by kernel_rfl) (by rfl) (by rfl))
section
variable {Γ : Ctx} {N : Frm} {P : Program} {E : Env} {H : List Chunk} {o : Oper} {x y : Operand}
theorem Ev.leqT {t t' : TypeId} {a b : List UInt8} (ho : o.op = .binOp .leq t x y t') (hx : E.ev x = some (.string (txt a))) (hy : E.ev y = some (.string (txt b))) : Ev Γ N P E H o (.bool (decide (a ≤ b))) :=
 Ev.to (Ev.leqS ho hx hy) (by
  rw [toList_txt, toList_txt, Go.Proofs.bytesLess_eq]
  congr 1
  by_cases h : a ≤ b
  · rw [decide_eq_true h]
    rcases lt_tri a b with h1 | h1 | h1
    · rw [decide_eq_true h1]; rfl
    · rw [h1]; simp
    · exact absurd h1 h
  · rw [decide_eq_false h]
    have h1 : ¬ a < b := fun e => h (List.le_of_lt e)
    have h2 : a ≠ b := fun e => h (e ▸ List.le_refl _)
    rw [decide_eq_false h1]
    simp [h2])
end
theorem elem_fi : Elem Tryz.prog 53 116 3 40 := elem_of (by kernel_rfl)
theorem one_fi (l : List FiP) : ∀ u ∈ l.flatMap FiP.enc, u.oneCell' = true := fun u hu => by
 obtain ⟨f, _, hu⟩ := List.mem_flatMap.1 hu
 unfold FiP.enc at hu
 simp only [List.mem_cons, List.not_mem_nil, or_false] at hu
 rcases hu with rfl | rfl | rfl <;> rfl
abbrev rowF (A : Option Addr) (c : Nat) (l : List FiP) : Chunk := row A l.length c 116 3 (l.flatMap FiP.enc)
theorem rowF_snoc (A : Option Addr) (c : Nat) (l : List FiP) (f : FiP) : row A (l.length + 1) c 116 3 (l.flatMap FiP.enc ++ f.enc) = rowF A c (l ++ [f]) := by
 dsimp only [rowF]
 rw [List.length_append, List.flatMap_append, List.flatMap_singleton]
 rfl
theorem putG_from {α : Type} {nm : α → List UInt8} {f : α} : ∀ {a : List α} (b : List α), (∀ x ∈ a, nm x < nm f) → putG nm f (a ++ b) = a ++ putG nm f b
 | [], _, _ => rfl
 | y :: a, b, h => by
  rw [List.cons_append, putG, if_pos (h y List.mem_cons_self), putG_from b (fun x hx => h x (List.mem_cons_of_mem _ hx))]
  rfl
set_option maxHeartbeats 1000000 in
theorem dwith_sl (P : DrP) (hr : Rise FiP.nm P.fs) (hn : P.fs.length ≤ 1000000) (A : Option Addr) (c : Nat) (f : FiP) : Fn Tryz.prog 64 #[.agg (P.val A c).toArray, .agg f.enc.toArray] [rdF A P.fs] (Option Addr × Nat) (fun p => .agg ((P.put f).val p.1 p.2).toArray) (fun p => [rowF p.1 p.2 (P.put f).fs]) (fun _ => True) := by
 obtain ⟨fs, steps, left⟩ := P
 obtain ⟨nm, b, sy⟩ := f
 dsimp only [DrP.val, FiP.enc, DrP.put] at hr hn ⊢
 refine Fn.enter Tryz.func64 rfl Tryz.ntmps64 (by rfl) ?_
 intro w0
 refine go [3,4] ?_
 refine Ls.does (some 2) (Does.box rfl (by rfl)) (by rfl) (by rfl) ?_
 intro g1 _
 refine Ls.does (some 3) (Does.box rfl (by rfl)) (by rfl) (by rfl) ?_
 intro g2 _
 refine Ls.does (some 4) (Does.alloc (cs := [.slice none 0 0, .int .i64 0, .bool false, .int .i64 0]) rfl (ZeroIs.mk (.agg #[.slice none 0 0, .int .i64 0, .bool false, .int .i64 0]) (by kernel_rfl) (by rfl))) (by rfl) (by rfl) ?_
 intro g3 _
 refine go [25,5,25,5,2,3,3,4,5,2,21] ?_
 refine Ent.nil 116 3 ?_
 refine Ent.pick [0, 3, 2, 1, 4] (by rfl) ?_
 refine Cd.loop (ι := Nat × Bool × (Option Addr × Nat × List FiP)) (fun p => [(2, ptrW g1), (3, ptrW g2), (4, ptrW g3), (5, .slice p.2.2.1 p.2.2.2.2.length p.2.2.2.1), (6, .bool p.2.1), (7, .int .i64 p.1)]) (fun p => [rowF p.2.2.1 p.2.2.2.1 p.2.2.2.2, blk g1 55 [.slice A fs.length c, .int .i64 steps, .bool left.isSome, .int .i64 ((left.getD 0 : Nat) : Int)], blk g2 116 [.string (txt nm), .string (txt b), .int .i64 sy], blk g3 55 [.slice none 0 0, .int .i64 0, .bool false, .int .i64 0], rdF A fs]) (fun p => p.1 ≤ fs.length ∧ p.2.2.2.2.length ≤ p.1 + 1 ∧ (p.2.1 = false → p.2.2.2.2 = fs.take p.1 ∧ ∀ x ∈ fs.take p.1, x.nm < nm) ∧ (p.2.1 = true → putG FiP.nm (⟨nm, b, sy⟩ : FiP) fs = p.2.2.2.2 ++ fs.drop p.1 ∧ ∀ x ∈ fs.drop p.1, nm < x.nm)) (fun p => fs.length - p.1) ((0, false, (none, 0, []))) (⟨Nat.zero_le _, Nat.zero_le _, fun _ => ⟨rfl, fun _ h => by simp at h⟩, fun h => by cases h⟩) ?_ rfl ?_
 · (repeat (first | exact trivial | refine ⟨by rfl, ?_⟩))
 rintro ⟨k, pt, wA, wc, l⟩ ⟨hk, hll, hF, hT⟩
 dsimp only at hk hll hF hT ⊢
 refine go [3,3,4,0,7,0,8,1] ?_
 refine Ls.qE 11 (Ev.len rfl (by rfl) Tryz.underlying53) ?_
 refine go [16,2] ?_
 refine Cd.cond _ (by rfl) (fun h => ?_) (fun h => ?_)
 · have hlt : k < fs.length := by have := of_decide_eq_true h; omega
   obtain ⟨x, hx⟩ := get_of_lt hlt
   have hdk : fs.drop k = x :: fs.drop (k + 1) := by
    rw [List.drop_eq_getElem_cons hlt]
    congr 1
    rw [List.getElem?_eq_getElem hlt] at hx
    exact Option.some.inj hx
   have htk : fs.take (k + 1) = fs.take k ++ [x] := by rw [List.take_add_one, hx]; rfl
   refine Ent.rdSome 4 (by rfl) (by omega) (fun ad had => ?_)
   subst had
   cases pt with
   | true =>
    obtain ⟨hT1, hT2⟩ := hT rfl
    rw [hdk] at hT1 hT2
    have hxn := hT2 x List.mem_cons_self
    refine go [6,3,21,3,3] ?_
    refine Cd.draw [] (by kernel_rfl) ?_
    refine Rg.qE 0 15 (by rfl) (Ev.move rfl (by rfl)) ?_
    refine Rg.qE 1 16 (by rfl) (Ev.not rfl (by rfl)) ?_
    refine Rg.qE 2 17 (by rfl) (Ev.move rfl (by rfl)) ?_
    refine Ent.known 17 false (by rfl) (by exact (rfl)) ?_
    refine Rg.qP 3 18 ?_
    refine Rg.qP 4 19 ?_
    refine Rg.qP 5 20 ?_
    refine Rg.qP 6 21 ?_
    refine Rg.qP 7 22 ?_
    refine Rg.qP 8 23 ?_
    refine Rg.qP 9 24 ?_
    refine Rg.qP 10 25 ?_
    refine Rg.qP 11 26 ?_
    refine Rg.qE 12 27 (by rfl) (Ev.pickF rfl (by rfl) (by rfl)) ?_
    refine Rg.done (by kernel_rfl) ?_ _
    refine go [24,6,3] ?_
    refine Cd.draw [] (by kernel_rfl) ?_
    refine Rg.qE 0 32 (by rfl) (Ev.fieldAddr (k := 0) rfl (by rfl) (by kernel_rfl) (by rfl)) ?_
    refine Rg.qE 1 33 (by rfl) (Ev.load 1 rfl (by rfl) (by rfl) (by kernel_rfl) (by rfl)) ?_
    refine Rg.qE 2 34 (by rfl) (Ev.move rfl (by rfl)) ?_
    refine Rg.qE 3 35 (by rfl) (Ev.indexAt (sz := 3) rfl (by rfl) (by rfl) Tryz.underlying53 (by kernel_rfl) (by omega)) ?_
    refine Rg.qE 4 36 (by rfl) (Ev.fieldAddrE0 (k := 0) rfl (by rfl) (by kernel_rfl)) ?_
    refine Rg.qE 5 37 (by rfl) (Ev.loadElF rfl (by rfl) (ReadsIn.rd 4 (by rfl)) (by kernel_rfl) (by intro _; rfl) (by assumption) (by rfl)) ?_
    refine Rg.qE 6 38 (by rfl) (Ev.fieldAddr (k := 0) rfl (by rfl) (by kernel_rfl) (by rfl)) ?_
    refine Rg.qE 7 39 (by rfl) (Ev.load 2 rfl (by rfl) (by rfl) (by kernel_rfl) (by rfl)) ?_
    refine Rg.qE 8 40 (by rfl) (Ev.neqS rfl (by rfl) (by rfl)) ?_
    refine Rg.done (by kernel_rfl) ?_ _
    refine Cd.cond_true (by rfl) (decide_eq_true (show txt x.nm ≠ txt nm from fun e => lt_ne hxn (txt_eq_iff.1 e).symm)) ?_
    refine go [4,0,7,0,8,1,0] ?_
    refine Ls.qE 45 (Ev.indexAt (sz := 3) rfl (by rfl) (by rfl) Tryz.underlying53 (by kernel_rfl) (by omega)) ?_
    refine Ls.qE 46 (Ev.loadEl (enc := FiP.enc) (sz := 3) rfl (by rfl) (ReadsIn.rd 4 (by rfl)) (by kernel_rfl) (fun _ => rfl) hx) ?_
    refine Ls.does (some 47) (Does.lit (sz := 3) rfl (by rfl) Tryz.underlying53 (by kernel_rfl) (by rfl) (by kernel_rfl)) (by rfl) (by rfl) ?_
    intro g4 _
    refine Ls.does (some 48) (Does.app (xs := l.flatMap FiP.enc) (news := x.enc) 1 rfl (by rfl) (by rfl) (by rfl) (ReadsIn.row 0 (by rfl)) elem_fi (by simpa using one_fi [x]) (show (l.length + 1) * 40 ≤ 140737488355328 by omega)) (by rfl) (by rfl) ?_
    rintro q -
    rw [rowF_snoc q.1 q.2 l x]
    refine go [5,2,4,0] ?_
    refine Ls.qE 14 (Ev.addN (b := 1) rfl (by rfl) (by rfl) (by omega)) ?_
    refine go [5,2] ?_
    refine Ent.pick [1, 2, 3, 4, 5] (by rfl) ?_
    refine Ent.inv ((k + 1, true, q.1, q.2, l ++ [x])) ?_ ?_ ?_
    · (try dsimp only); exact ⟨⟨hlt, by rw [List.length_append, List.length_singleton]; omega, fun e => (by cases e), fun _ => ⟨by rw [hT1, List.append_assoc]; rfl, fun y hy => hT2 y (List.mem_cons_of_mem _ hy)⟩⟩, by omega⟩
    · (repeat (first | exact trivial | refine ⟨by rfl, ?_⟩ | refine ⟨by simp only [lenS]; rfl, ?_⟩ | refine ⟨by push_cast; rfl, ?_⟩ | refine ⟨by (show some (Value.slice _ _ _) = some (Value.slice _ _ _); rw [List.length_append]; rfl), ?_⟩))
    · rfl
   | false =>
    obtain ⟨rfl, hF2⟩ := hF rfl
    by_cases hxn : x.nm < nm
    · refine go [6,3,21,3,3] ?_
      refine Cd.draw [] (by kernel_rfl) ?_
      refine Rg.qE 0 15 (by rfl) (Ev.move rfl (by rfl)) ?_
      refine Rg.qE 1 16 (by rfl) (Ev.not rfl (by rfl)) ?_
      refine Rg.qE 2 17 (by rfl) (Ev.move rfl (by rfl)) ?_
      refine Ent.known 17 true (by rfl) (by exact (rfl)) ?_
      refine Rg.qE 3 18 (by rfl) (Ev.fieldAddr (k := 0) rfl (by rfl) (by kernel_rfl) (by rfl)) ?_
      refine Rg.qE 4 19 (by rfl) (Ev.load 2 rfl (by rfl) (by rfl) (by kernel_rfl) (by rfl)) ?_
      refine Rg.qE 5 20 (by rfl) (Ev.fieldAddr (k := 0) rfl (by rfl) (by kernel_rfl) (by rfl)) ?_
      refine Rg.qE 6 21 (by rfl) (Ev.load 1 rfl (by rfl) (by rfl) (by kernel_rfl) (by rfl)) ?_
      refine Rg.qE 7 22 (by rfl) (Ev.move rfl (by rfl)) ?_
      refine Rg.qE 8 23 (by rfl) (Ev.indexAt (sz := 3) rfl (by rfl) (by rfl) Tryz.underlying53 (by kernel_rfl) (by omega)) ?_
      refine Rg.qE 9 24 (by rfl) (Ev.fieldAddrE0 (k := 0) rfl (by rfl) (by kernel_rfl)) ?_
      refine Rg.qE 10 25 (by rfl) (Ev.loadElF rfl (by rfl) (ReadsIn.rd 4 (by rfl)) (by kernel_rfl) (by intro _; rfl) (by assumption) (by rfl)) ?_
      refine Rg.qE 11 26 (by rfl) (Ev.leqT rfl (by rfl) (by rfl)) ?_
      refine Rg.qE 12 27 (by rfl) (Ev.pickT rfl (by rfl) (by rfl)) ?_
      refine Rg.done (by kernel_rfl) ?_ _
      refine Cd.cond_false (by rfl) (decide_eq_false (show ¬ (nm ≤ x.nm) from fun h => h hxn)) ?_
      refine go [6,3] ?_
      refine Cd.draw [] (by kernel_rfl) ?_
      refine Rg.qE 0 32 (by rfl) (Ev.fieldAddr (k := 0) rfl (by rfl) (by kernel_rfl) (by rfl)) ?_
      refine Rg.qE 1 33 (by rfl) (Ev.load 1 rfl (by rfl) (by rfl) (by kernel_rfl) (by rfl)) ?_
      refine Rg.qE 2 34 (by rfl) (Ev.move rfl (by rfl)) ?_
      refine Rg.qE 3 35 (by rfl) (Ev.indexAt (sz := 3) rfl (by rfl) (by rfl) Tryz.underlying53 (by kernel_rfl) (by omega)) ?_
      refine Rg.qE 4 36 (by rfl) (Ev.fieldAddrE0 (k := 0) rfl (by rfl) (by kernel_rfl)) ?_
      refine Rg.qE 5 37 (by rfl) (Ev.loadElF rfl (by rfl) (ReadsIn.rd 4 (by rfl)) (by kernel_rfl) (by intro _; rfl) (by assumption) (by rfl)) ?_
      refine Rg.qE 6 38 (by rfl) (Ev.fieldAddr (k := 0) rfl (by rfl) (by kernel_rfl) (by rfl)) ?_
      refine Rg.qE 7 39 (by rfl) (Ev.load 2 rfl (by rfl) (by rfl) (by kernel_rfl) (by rfl)) ?_
      refine Rg.qE 8 40 (by rfl) (Ev.neqS rfl (by rfl) (by rfl)) ?_
      refine Rg.done (by kernel_rfl) ?_ _
      refine Cd.cond_true (by rfl) (decide_eq_true (show txt x.nm ≠ txt nm from fun e => lt_ne hxn (txt_eq_iff.1 e))) ?_
      refine go [4,0,7,0,8,1,0] ?_
      refine Ls.qE 45 (Ev.indexAt (sz := 3) rfl (by rfl) (by rfl) Tryz.underlying53 (by kernel_rfl) (by omega)) ?_
      refine Ls.qE 46 (Ev.loadEl (enc := FiP.enc) (sz := 3) rfl (by rfl) (ReadsIn.rd 4 (by rfl)) (by kernel_rfl) (fun _ => rfl) hx) ?_
      refine Ls.does (some 47) (Does.lit (sz := 3) rfl (by rfl) Tryz.underlying53 (by kernel_rfl) (by rfl) (by kernel_rfl)) (by rfl) (by rfl) ?_
      intro g4 _
      refine Ls.does (some 48) (Does.app (xs := (fs.take k).flatMap FiP.enc) (news := x.enc) 1 rfl (by rfl) (by rfl) (by rfl) (ReadsIn.row 0 (by rfl)) elem_fi (by simpa using one_fi [x]) (show ((fs.take k).length + 1) * 40 ≤ 140737488355328 by omega)) (by rfl) (by rfl) ?_
      rintro q -
      rw [rowF_snoc q.1 q.2 (fs.take k) x]
      refine go [5,2,4,0] ?_
      refine Ls.qE 14 (Ev.addN (b := 1) rfl (by rfl) (by rfl) (by omega)) ?_
      refine go [5,2] ?_
      refine Ent.pick [1, 2, 3, 4, 5] (by rfl) ?_
      refine Ent.inv ((k + 1, false, q.1, q.2, fs.take k ++ [x])) ?_ ?_ ?_
      · (try dsimp only); exact ⟨⟨hlt, by rw [List.length_append, List.length_singleton]; omega, fun _ => ⟨htk.symm, fun y hy => by rw [htk] at hy; rcases List.mem_append.1 hy with hy | hy; exact hF2 y hy; exact (List.mem_singleton.1 hy) ▸ hxn⟩, fun e => by cases e⟩, by omega⟩
      · (repeat (first | exact trivial | refine ⟨by rfl, ?_⟩ | refine ⟨by simp only [lenS]; rfl, ?_⟩ | refine ⟨by push_cast; rfl, ?_⟩ | refine ⟨by (show some (Value.slice _ _ _) = some (Value.slice _ _ _); rw [List.length_append]; rfl), ?_⟩))
      · rfl
    · have hput : putG FiP.nm (⟨nm, b, sy⟩ : FiP) fs = fs.take k ++ putG FiP.nm (⟨nm, b, sy⟩ : FiP) (x :: fs.drop (k + 1)) := by
       rw [← hdk, ← putG_from (nm := FiP.nm) (f := (⟨nm, b, sy⟩ : FiP)) (fs.drop k) hF2, List.take_append_drop]
      have hgt : ∀ y ∈ fs.drop (k + 1), x.nm < y.nm := fun y hy => by
       have h1 : Rise FiP.nm (fs.drop k) := List.Pairwise.sublist (List.drop_sublist _ _) hr
       rw [hdk] at h1
       exact h1.head y hy
      refine go [6,3,21,3,3] ?_
      refine Cd.draw [] (by kernel_rfl) ?_
      refine Rg.qE 0 15 (by rfl) (Ev.move rfl (by rfl)) ?_
      refine Rg.qE 1 16 (by rfl) (Ev.not rfl (by rfl)) ?_
      refine Rg.qE 2 17 (by rfl) (Ev.move rfl (by rfl)) ?_
      refine Ent.known 17 true (by rfl) (by exact (rfl)) ?_
      refine Rg.qE 3 18 (by rfl) (Ev.fieldAddr (k := 0) rfl (by rfl) (by kernel_rfl) (by rfl)) ?_
      refine Rg.qE 4 19 (by rfl) (Ev.load 2 rfl (by rfl) (by rfl) (by kernel_rfl) (by rfl)) ?_
      refine Rg.qE 5 20 (by rfl) (Ev.fieldAddr (k := 0) rfl (by rfl) (by kernel_rfl) (by rfl)) ?_
      refine Rg.qE 6 21 (by rfl) (Ev.load 1 rfl (by rfl) (by rfl) (by kernel_rfl) (by rfl)) ?_
      refine Rg.qE 7 22 (by rfl) (Ev.move rfl (by rfl)) ?_
      refine Rg.qE 8 23 (by rfl) (Ev.indexAt (sz := 3) rfl (by rfl) (by rfl) Tryz.underlying53 (by kernel_rfl) (by omega)) ?_
      refine Rg.qE 9 24 (by rfl) (Ev.fieldAddrE0 (k := 0) rfl (by rfl) (by kernel_rfl)) ?_
      refine Rg.qE 10 25 (by rfl) (Ev.loadElF rfl (by rfl) (ReadsIn.rd 4 (by rfl)) (by kernel_rfl) (by intro _; rfl) (by assumption) (by rfl)) ?_
      refine Rg.qE 11 26 (by rfl) (Ev.leqT rfl (by rfl) (by rfl)) ?_
      refine Rg.qE 12 27 (by rfl) (Ev.pickT rfl (by rfl) (by rfl)) ?_
      refine Rg.done (by kernel_rfl) ?_ _
      refine Cd.cond_true (by rfl) (decide_eq_true (show nm ≤ x.nm from hxn)) ?_
      refine go [3,4,0,12,2,3] ?_
      refine Ls.does (some 30) (Does.lit (sz := 3) rfl (by rfl) Tryz.underlying53 (by kernel_rfl) (by rfl) (by kernel_rfl)) (by rfl) (by rfl) ?_
      intro g4 _
      refine Ls.does (some 31) (Does.app (xs := (fs.take k).flatMap FiP.enc) (news := (⟨nm, b, sy⟩ : FiP).enc) 1 rfl (by rfl) (by rfl) (by rfl) (ReadsIn.row 0 (by rfl)) elem_fi (one_fi [(⟨nm, b, sy⟩ : FiP)]) (show ((fs.take k).length + 1) * 40 ≤ 140737488355328 by rw [List.length_take]; omega)) (by rfl) (by rfl) ?_
      rintro p -
      rw [rowF_snoc p.1 p.2 (fs.take k) (⟨nm, b, sy⟩ : FiP)]
      refine go [5,2,4,5,2,3] ?_
      refine Cd.draw [] (by kernel_rfl) ?_
      refine Rg.qE 0 32 (by rfl) (Ev.fieldAddr (k := 0) rfl (by rfl) (by kernel_rfl) (by rfl)) ?_
      refine Rg.qE 1 33 (by rfl) (Ev.load 2 rfl (by rfl) (by rfl) (by kernel_rfl) (by rfl)) ?_
      refine Rg.qE 2 34 (by rfl) (Ev.move rfl (by rfl)) ?_
      refine Rg.qE 3 35 (by rfl) (Ev.indexAt (sz := 3) rfl (by rfl) (by rfl) Tryz.underlying53 (by kernel_rfl) (by omega)) ?_
      refine Rg.qE 4 36 (by rfl) (Ev.fieldAddrE0 (k := 0) rfl (by rfl) (by kernel_rfl)) ?_
      refine Rg.qE 5 37 (by rfl) (Ev.loadElF rfl (by rfl) (ReadsIn.rd 5 (by rfl)) (by kernel_rfl) (by intro _; rfl) (by assumption) (by rfl)) ?_
      refine Rg.qE 6 38 (by rfl) (Ev.fieldAddr (k := 0) rfl (by rfl) (by kernel_rfl) (by rfl)) ?_
      refine Rg.qE 7 39 (by rfl) (Ev.load 3 rfl (by rfl) (by rfl) (by kernel_rfl) (by rfl)) ?_
      refine Rg.qE 8 40 (by rfl) (Ev.neqS rfl (by rfl) (by rfl)) ?_
      refine Rg.done (by kernel_rfl) ?_ _
      by_cases hxe : x.nm = nm
      · rw [putG, if_neg hxn, if_pos hxe] at hput
        refine Cd.cond_false (by rfl) (decide_eq_false (show ¬ (txt x.nm ≠ txt nm) from fun h => h (txt_eq_iff.2 hxe))) ?_
        refine go [6,4,0] ?_
        refine Ls.qE 14 (Ev.addN (b := 1) rfl (by rfl) (by rfl) (by omega)) ?_
        refine go [5,2] ?_
        refine Ent.pick [1, 2, 3, 4, 5] (by rfl) ?_
        refine Ent.inv ((k + 1, true, p.1, p.2, fs.take k ++ [(⟨nm, b, sy⟩ : FiP)])) ?_ ?_ ?_
        · (try dsimp only); exact ⟨⟨hlt, by rw [List.length_append, List.length_singleton, List.length_take]; omega, fun e => (by cases e), fun _ => ⟨by rw [hput, List.append_assoc]; rfl, fun y hy => hxe ▸ hgt y hy⟩⟩, by omega⟩
        · (repeat (first | exact trivial | refine ⟨by rfl, ?_⟩ | refine ⟨by simp only [lenS]; rfl, ?_⟩ | refine ⟨by push_cast; rfl, ?_⟩ | refine ⟨by (show some (Value.slice _ _ _) = some (Value.slice _ _ _); rw [List.length_append]; rfl), ?_⟩))
        · rfl
      · rw [putG, if_neg hxn, if_neg hxe] at hput
        have hfl : (fs.take k ++ [(⟨nm, b, sy⟩ : FiP)]).length ≤ k + 1 := by rw [List.length_append, List.length_singleton, List.length_take]; omega
        have hlx : nm < x.nm := ((lt_tri x.nm nm).resolve_left hxn).resolve_left hxe
        refine Cd.cond_true (by rfl) (decide_eq_true (show txt x.nm ≠ txt nm from fun e => hxe (txt_eq_iff.1 e))) ?_
        refine Ent.pick [1, 2, 3, 4, 5] (by rfl) ?_
        refine Ent.norm ([(2, ptrW g1), (3, ptrW g2), (4, ptrW g3), (5, .slice p.1 (fs.take k ++ [(⟨nm, b, sy⟩ : FiP)]).length p.2), (6, .bool true), (7, .int .i64 k)]) ([rowF p.1 p.2 (fs.take k ++ [(⟨nm, b, sy⟩ : FiP)]), blk g1 55 [.slice (some ad) fs.length c, .int .i64 steps, .bool left.isSome, .int .i64 ((left.getD 0 : Nat) : Int)], blk g2 116 [.string (txt nm), .string (txt b), .int .i64 sy], blk g3 55 [.slice none 0 0, .int .i64 0, .bool false, .int .i64 0], rdF (some ad) fs]) (by repeat (first | refine ⟨by (show some (Value.slice _ _ _) = some (Value.slice _ _ _); rw [List.length_append]; rfl), ?_⟩ | exact trivial | refine ⟨by rfl, ?_⟩ | refine ⟨by simp only [List.length_append, List.length_cons, List.length_nil]; rfl, ?_⟩ | refine ⟨by push_cast; rfl, ?_⟩)) (by rfl) ?_
        refine go [4,0,7,0,8,1,0] ?_
        refine Ls.qE 45 (Ev.indexAt (sz := 3) rfl (by rfl) (by rfl) Tryz.underlying53 (by kernel_rfl) (by omega)) ?_
        refine Ls.qE 46 (Ev.loadEl (enc := FiP.enc) (sz := 3) rfl (by rfl) (ReadsIn.rd 4 (by rfl)) (by kernel_rfl) (fun _ => rfl) hx) ?_
        refine Ls.does (some 47) (Does.lit (sz := 3) rfl (by rfl) Tryz.underlying53 (by kernel_rfl) (by rfl) (by kernel_rfl)) (by rfl) (by rfl) ?_
        intro g5 _
        refine Ls.does (some 48) (Does.app (xs := (fs.take k ++ [(⟨nm, b, sy⟩ : FiP)]).flatMap FiP.enc) (news := x.enc) 1 rfl (by rfl) (by rfl) (by rfl) (ReadsIn.row 0 (by rfl)) elem_fi (by simpa using one_fi [x]) (show ((fs.take k ++ [(⟨nm, b, sy⟩ : FiP)]).length + 1) * 40 ≤ 140737488355328 by omega)) (by rfl) (by rfl) ?_
        rintro q -
        rw [rowF_snoc q.1 q.2 (fs.take k ++ [(⟨nm, b, sy⟩ : FiP)]) x]
        refine go [5,2,4,0] ?_
        refine Ls.qE 14 (Ev.addN (b := 1) rfl (by rfl) (by rfl) (by omega)) ?_
        refine go [5,2] ?_
        refine Ent.pick [1, 2, 3, 4, 5] (by rfl) ?_
        refine Ent.inv ((k + 1, true, q.1, q.2, fs.take k ++ [(⟨nm, b, sy⟩ : FiP)] ++ [x])) ?_ ?_ ?_
        · (try dsimp only); exact ⟨⟨hlt, by rw [List.length_append, List.length_append, List.length_singleton, List.length_singleton, List.length_take]; omega, fun e => (by cases e), fun _ => ⟨by rw [hput, List.append_assoc, List.append_assoc]; rfl, fun y hy => List.lt_trans hlx (hgt y hy)⟩⟩, by omega⟩
        · (repeat (first | exact trivial | refine ⟨by rfl, ?_⟩ | refine ⟨by simp only [lenS]; rfl, ?_⟩ | refine ⟨by push_cast; rfl, ?_⟩ | refine ⟨by (show some (Value.slice _ _ _) = some (Value.slice _ _ _); rw [List.length_append]; rfl), ?_⟩))
        · rfl
 · have hge : fs.length ≤ k := by have := of_decide_eq_false h; omega
   refine Cd.exit ?_
   refine go [3,3,4,0,20,2] ?_
   cases pt with
   | true =>
    obtain ⟨hT1, -⟩ := hT rfl
    rw [List.drop_of_length_le hge, List.append_nil] at hT1
    refine go [24,6,3,4,0,7,0,15,1,25,12,1,4,15,3,2] ?_
    rw [← hT1]
    refine Cd.ret ?_
    exact Ent.rA ((wA, wc)) [0] trivial (Res.cell 3 (by rfl) (by rfl) (by rfl) (n := 4) (by kernel_rfl) (by rfl) (by rfl))
   | false =>
    obtain ⟨rfl, hF2⟩ := hF rfl
    rw [List.take_of_length_le hge] at hF2 ⊢
    have hput : putG FiP.nm (⟨nm, b, sy⟩ : FiP) fs = fs ++ [(⟨nm, b, sy⟩ : FiP)] := by
     have := putG_from (nm := FiP.nm) (f := (⟨nm, b, sy⟩ : FiP)) [] hF2
     rw [List.append_nil] at this
     exact this
    refine go [23,4,0,12,2,3] ?_
    refine Ls.does (some 53) (Does.lit (sz := 3) rfl (by rfl) Tryz.underlying53 (by kernel_rfl) (by rfl) (by kernel_rfl)) (by rfl) (by rfl) ?_
    intro g4 _
    refine Ls.does (some 54) (Does.app (xs := fs.flatMap FiP.enc) (news := (⟨nm, b, sy⟩ : FiP).enc) 1 rfl (by rfl) (by rfl) (by rfl) (ReadsIn.row 0 (by rfl)) elem_fi (one_fi [(⟨nm, b, sy⟩ : FiP)]) (show (fs.length + 1) * 40 ≤ 140737488355328 by omega)) (by rfl) (by rfl) ?_
    rintro p -
    rw [rowF_snoc p.1 p.2 fs (⟨nm, b, sy⟩ : FiP)]
    refine go [5,25,0,7,0,15,2,25,12,2,4,15,4,2] ?_
    rw [hput]
    refine Cd.ret ?_
    refine Ent.ret (p) (trivial) (Res.cell 4 (by rfl) (by rfl) (by rfl) (n := 4) (by kernel_rfl) (by rfl) (by rfl)) ?_ [1] (by rfl) ?_
    · rw [List.length_append]
      rfl
    · rfl
def nmR (n : Nat) : List UInt8 := wal4 ++ (List.replicate (6 - (Lib.itoa n).length) 48 ++ Lib.itoa n)
theorem nmR_name {n : Nat} (h : n ≤ 999999) : nmR n = nameP n := by
 unfold nmR nameP
 rw [(pad6 (by omega)).1]
theorem itoa_len7 {n : Nat} (h : n ≤ 1000000) : (Lib.itoa (n : Int)).length ≤ 7 := by
 rcases Nat.lt_or_ge n 1000000 with h1 | h1
 · have := (pad6 h1).2
   omega
 · obtain rfl : n = 1000000 := by omega
   exact Nat.le_of_eq (by kernel_rfl)
theorem rname_sl (n : Nat) (hn : n ≤ 1000000) : Fn Tryz.prog 59 #[.int .i64 n] [] Unit (fun _ => .string (txt (nmR n))) (fun _ => []) (fun _ => True) := by
 have hl := itoa_len7 hn
 have hnr : nmR n = wal4 ++ (List.replicate (6 - (Lib.itoa n).length) 48 ++ Lib.itoa n) := rfl
 refine Fn.enter Tryz.func59 rfl Tryz.ntmps59 (by rfl) ?_
 intro w0
 refine go [3,4,5,25,0] ?_
 refine Ls.does (some 5) (Does.read rfl Tryz.func108 (by kernel_rfl) (by kernel_rfl) (digits_sl n (by unfold in64; omega)) (by rfl) (by rfl) trivial) (by rfl) (by rfl) ?_
 rintro _ -
 generalize Lib.itoa (n : Int) = ds at hl hnr ⊢
 refine go [5,2,3,21] ?_
 refine Cd.loop (ι := Nat) (fun j => [(3, .string (txt (List.replicate j 48 ++ ds)))]) (fun _ => []) (fun j => j ≤ 6 - ds.length) (fun j => 6 - j) (0) (Nat.zero_le _) ?_ rfl ?_
 · (repeat (first | exact trivial | refine ⟨by rfl, ?_⟩))
 rintro j hj
 have hs : (txt (List.replicate j 48 ++ ds)).size = j + ds.length := by
  rw [txt_size, List.length_append, List.length_replicate]
 refine go [3,3,4,0] ?_
 refine Ls.qE 7 (Ev.lenS rfl (by rfl) Tryz.underlying9) ?_
 refine go [16,2] ?_
 refine Cd.cond _ (by rfl) (fun h2 => ?_) (fun h2 => ?_)
 · have h2 := of_decide_eq_true h2
   refine go [6,21,4,0] ?_
   refine Ls.qE 10 (Ev.to (Ev.addS rfl (by rfl) (by rfl) (by rw [hs, txt_size]; simp only [List.length_cons, List.length_nil]; omega)) (congrArg Value.string (txt_app [48] _))) ?_
   refine go [5,2] ?_
   refine Ent.iA (j + 1) ?_
   (try dsimp only); exact ⟨by omega, by omega⟩
 · have h2 := of_decide_eq_false h2
   obtain rfl : j = 6 - ds.length := by omega
   refine Cd.exit ?_
   refine go [3,4,0] ?_
   refine Ls.qE 12 (Ev.to (Ev.addS rfl (by rfl) (by rfl) (by rw [hs, txt_size]; simp only [List.length_cons, List.length_nil]; omega)) (congrArg Value.string (txt_app wal4 _))) ?_
   refine go [5,2,22] ?_
   refine Ent.ret (()) (trivial) (Res.tmp (by rfl) (by rfl)) ?_ [] (by rfl) ?_
   · rw [hnr]
   · rfl
def digI (n : Int) (c : UInt8) : Int := 10 * n + (c.toNat : Int) - 48
def intF (l : List UInt8) (n : Int) : Int := l.foldl digI n
theorem intF_snoc (l : List UInt8) (n : Int) (c : UInt8) : intF (l ++ [c]) n = 10 * intF l n + (c.toNat : Int) - 48 := by
 unfold intF
 rw [List.foldl_append]
 rfl
theorem intF_nat : ∀ (l : List UInt8) (n : Nat), (∀ c ∈ l, 48 ≤ c.toNat) → intF l n = ((l.foldl (fun n c => 10 * n + (c.toNat - 48)) n : Nat) : Int)
 | [], _, _ => rfl
 | c :: l, n, h => by
  have h1 := h c List.mem_cons_self
  have := intF_nat l (10 * n + (c.toNat - 48)) (fun x hx => h x (List.mem_cons_of_mem _ hx))
  rw [List.foldl_cons, ← this]
  unfold intF
  rw [List.foldl_cons]
  congr 1
  unfold digI
  omega
theorem intF_le : ∀ (l : List UInt8) (n b : Int), -b ≤ n → n ≤ b → -((b + 40) * 10 ^ l.length) ≤ intF l n ∧ intF l n ≤ (b + 40) * 10 ^ l.length
 | [], n, b, h1, h2 => by
  show -((b + 40) * 1) ≤ n ∧ n ≤ (b + 40) * 1
  omega
 | c :: l, n, b, h1, h2 => by
  have hc := c.toNat_lt
  have := intF_le l (digI n c) (10 * b + 207) (by unfold digI; omega) (by unfold digI; omega)
  have e : (10 * b + 207 + 40) ≤ (b + 40) * 10 := by omega
  have hp : (0 : Int) ≤ 10 ^ l.length := Int.pow_nonneg (by decide)
  have hm := Int.mul_le_mul_of_nonneg_right e hp
  rw [List.length_cons, Int.pow_succ, Int.mul_comm (10 ^ l.length) 10, ← Int.mul_assoc]
  show _ ≤ intF l (digI n c) ∧ intF l (digI n c) ≤ _
  omega
theorem intF_small {l : List UInt8} (h : l.length ≤ 6) : -40000000 ≤ intF l 0 ∧ intF l 0 ≤ 40000000 := by
 obtain ⟨h1, h2⟩ := intF_le l 0 0 (by omega) (by omega)
 have : ∀ k, k ≤ 6 → ((0 : Int) + 40) * 10 ^ k ≤ 40000000 := fun k hk => by
  match k, hk with
  | 0, _ => exact (by decide)
  | 1, _ => exact (by decide)
  | 2, _ => exact (by decide)
  | 3, _ => exact (by decide)
  | 4, _ => exact (by decide)
  | 5, _ => exact (by decide)
  | 6, _ => exact (by decide)
 have := this _ h
 omega
end Go.Proofs.YtacbkganjkipdaaGreatDoor
