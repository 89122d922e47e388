/-
  Texts joined: SlX, SlY, SlS, SlZ, DvM, DvA, SlO, DvB, DvC, DvD, DvN, RfD, WlR, WlS, MoA, MnA, MnG, MnB, MnD.
-/
import Derived.Test.YtacbkganjkipdaaGreatDoorMMpL4a
import Derived.Test.YtacbkganjkipdaaGreatDoorMMpL4b
import Derived.Test.YtacbkganjkipdaaGreatDoorMMpL4c
import Derived.Test.YtacbkganjkipdaaGreatDoorMMpL4d
import Derived.Test.YtacbkganjkipdaaGreatDoorMMpL4f
import Derived.Test.YtacbkganjkipdaaGreatDoorMMpL4g
import Derived.Test.YtacbkganjkipdaaGreatDoorMMpL4k
import Derived.Test.YtacbkganjkipdaaGreatDoorMMpL4l
import Derived.Test.YtacbkganjkipdaaGreatDoorMMpL4m
import Derived.DeepKeys4
import Derived.WideKeyEntry
import Derived.Sort.KeysCollected
import Derived.Maps.OwnSet
import Derived.Lib.AtoiAllCases
import Derived.Lib.ItoaLen
import Derived.Sort.Walk0
namespace Go.Proofs.YtacbkganjkipdaaGreatDoor
open Go.RowKit
theorem of_not_decide_true {p : Prop} [Decidable p] (h : (!decide p) = true) : ¬ p := by simpa using h
theorem of_not_decide_false {p : Prop} [Decidable p] (h : (!decide p) = false) : p := by simpa using h
section
variable {ι : Type} {Q : ι → Value} {Γ : Ctx} {N : Frm} {P : Program} {E : Env} {H : List Chunk} {o : Oper} {x y u : Operand}
theorem Ent.seeBlk {A : Asrt} (i : Nat) {g : Nat} {t : TypeId} {cs : List Value} (hi : H[i]? = some (blk g t cs)) (h : Ent Γ N E (H.set i (rblk g t cs)) A) : Ent Γ N E H A :=
 fun a w hr hs => h a w hr (hs.see hi rfl (fun _ h => h) (fun _ h => h))
theorem Res.tmp3 {fn : Func} {t u s : Tmp} {v v' v'' : Value} (h : fn.results = #[.tmp t, .tmp u, .tmp s]) (hv : E.get t = some v) (hv' : E.get u = some v') (hv'' : E.get s = some v'') : Res Γ N P fn E H (.tuple #[v, v', v'']) := fun a w hr _ => by
 simp [results, h, hr.get t v hv, hr.get u v' hv', hr.get s v'' hv'']
end
section
variable {Γ : Ctx} {N : Frm} {P : Program} {E : Env} {H : List Chunk} {κ : Cont} {ops : Array Oper} {o : Oper}
theorem Rg.pv {Hs : List Chunk} {T : List Nat} {fuel : Nat} {listed : Array Bool} {v : Value} (i : Nat) (hi : ops[i]? = some o) (hsub : ∀ w, Sat Γ H w → Sat Γ Hs w) (h : ∀ Γ', Ev Γ' N P E [] o v) (hw : wantB ops E o = some true) (d : Option Tmp) (hd : (decide (o.dst = d) && dstB N d) = true)
 (hs : Region.noSelect ops = true) (hf : Region.free .any ops listed i = true) (hr : (Region.ready .any ops listed).contains i = true) (hT : (!T.contains i) = true)
 (k : Rg Γ N P (E.put d v) H Hs T ops fuel (listed.setIfInBounds i true) κ) : Rg Γ N P E H Hs T ops (fuel + 1) listed κ := by
 simp only [Bool.and_eq_true, decide_eq_true_eq] at hd
 obtain ⟨rfl, hd⟩ := hd
 intro a w hrep hsat
 exact wpAnyL_free hi (Region.noSelect_spec hs) (fun _ _ _ h => h) (by simpa using hT) fuel listed a w (Region.free_spec hi hf) (by simpa using hr) (.inl ⟨wanted_of hrep hw, fun w' _ => (h ⟨w', []⟩).run a w' hrep (Sat.start ⟨fun _ h => (List.not_mem_nil h).elim, List.Pairwise.nil⟩)⟩) (.inr (hsub w hsat)) (k _ _ (hrep.put hd v) hsat)
theorem RgF.pv {ι : Type} {E2 : ι → Env} {H2 : ι → List Chunk} {Hs : List Chunk} {T : List Nat} {fuel : Nat} {listed : Array Bool} {i : Nat} {v : Value} (m : Nat) (hi : ops[m]? = some o) (hsub : ∀ w, Sat Γ H w → Sat Γ Hs w) (hsub2 : ∀ x w, Sat Γ (H2 x) w → Sat Γ Hs w) (h : ∀ Γ', Ev Γ' N P E [] o v) (h2 : ∀ x Γ', Ev Γ' N P (E2 x) [] o v) (hw : wantB ops E o = some true) (hw2 : ∀ x, wantB ops (E2 x) o = some true) (d : Option Tmp) (hd : (decide (o.dst = d) && dstB N d) = true)
 (hs : Region.noSelect ops = true) (hf : (Region.free .any ops listed m && Region.free .any ops (listed.setIfInBounds i true) m) = true) (hr : ((Region.ready .any ops listed).contains m && (Region.ready .any ops (listed.setIfInBounds i true)).contains m) = true) (hT : (!T.contains m) = true)
 (k : RgF Γ N P (E.put d v) H (fun x => (E2 x).put d v) H2 Hs T ops fuel (listed.setIfInBounds m true) κ i) : RgF Γ N P E H E2 H2 Hs T ops (fuel + 1) listed κ i := by
 simp only [Bool.and_eq_true] at hf hr
 have hc : (listed.setIfInBounds i true).setIfInBounds m true = (listed.setIfInBounds m true).setIfInBounds i true := by
  by_cases e : i = m
  · rw [e]
  · exact Array.setIfInBounds_comm _ _ e
 refine ⟨Rg.pv m hi hsub h hw d hd hs hf.1 hr.1 hT k.1, fun x => Rg.pv m hi (hsub2 x) (h2 x) (hw2 x) d hd hs hf.2 hr.2 hT ?_⟩
 rw [hc]
 exact k.2 x
end
end Go.Proofs.YtacbkganjkipdaaGreatDoor
namespace Go.Proofs.YtacbkganjkipdaaGreatDoor
open Go.RowKit Go.WideElems Go.ChangeShapes Go.WideShapes Go.MapKept Go.ChangeMaps
section
variable {Γ : Ctx} {N : Frm} {P : Program} {E : Env} {H : List Chunk} {κ : Cont} {ops : Array Oper} {o : Oper}
theorem Rg.keep {Hs : List Chunk} {T : List Nat} {fuel : Nat} {listed : Array Bool} {ι : Type} {v : ι → Value} {H' : ι → List Chunk} {φ : ι → Prop} (i : Nat) (hi : ops[i]? = some o) (hr : Region.ready .any ops listed = [i]) (h : Does Γ N P E H o ι v H' φ) (hw : wantB ops E o = some true) (d : Option Tmp) (hd : (decide (o.dst = d) && dstB N d) = true)
 (hsub : ∀ j w, Sat Γ (H' j) w → Sat Γ Hs w) (k : ∀ j, φ j → Rg Γ N P (E.put d (v j)) (H' j) Hs T ops fuel (listed.setIfInBounds i true) κ) : Rg Γ N P E H Hs T ops (fuel + 1) listed κ := by
 simp only [Bool.and_eq_true, decide_eq_true_eq] at hd
 obtain ⟨rfl, hd⟩ := hd
 intro a w hrep hsat
 refine ⟨fun h => (by rw [hr] at h; cases h), fun j hj => ?_⟩
 rw [hr] at hj
 obtain rfl : j = i := by simpa using hj
 refine wpOp_step hi fun K hK => ?_
 rw [if_pos (wanted_of hrep hw)]
 exact h.run a w hrep hsat K _ fun x w' hx hs' => hK _ _ ⟨.inr (hsub x w' hs'), k x hx _ _ (hrep.put hd (v x)) hs'⟩
end
end Go.Proofs.YtacbkganjkipdaaGreatDoor
namespace Go.Proofs.YtacbkganjkipdaaGreatDoor
open Go.RowKit
section
variable {Γ : Ctx} {N : Frm} {P : Program} {E : Env} {H : List Chunk}
theorem setR_take {cs vs : List Value} {m k : Nat} (h : m + vs.length ≤ k) (hk : k ≤ cs.length) : (setR cs m vs).take k = setR (cs.take k) m vs := by
 have h1 : (cs.take m).length = m := by rw [List.length_take]; omega
 have h2 : (cs.take m ++ vs).length = m + vs.length := by rw [List.length_append, h1]
 unfold setR
 rw [List.take_append, List.take_of_length_le (by omega), h2, List.take_take, Nat.min_eq_left (by omega), List.drop_take]
theorem Does.storeRow {t n c e sz j : Nat} {A : Option Addr} {ad : Addr} {xs xs' : List Value} {v : Value} {o : Oper} {x y : Operand} (i : Nat) (ho : o.op = .store t x y) (hx : E.ev x = some (.pointer (some (ad.add j)))) (hy : E.ev y = some v) (hi : H[i]? = some (row A n c e sz xs)) (hA : A = some ad) (hsz : (P.info? t).map (·.size) = some v.cells.size) (h1 : v.cells.toList.all (·.oneCell') = true) (hm : j + v.cells.size ≤ xs.length) (hn : 0 < n) (hxs : setR xs j v.cells.toList = xs') :
 Does Γ N P E H o Unit (fun _ => undef) (fun _ => H.set i (row A n c e sz xs')) (fun _ => True) := .of fun ρ hρ w hs => by
 have ho' : Own w 0 e sz A n c xs := hs.mem hi
 subst hxs
 rcases ho'.form with ⟨rfl, rfl, _, rfl⟩ | ⟨g, cur, hg, _, hb, hnc, hcm, hcs, hxs⟩
 · exact absurd hn (Nat.lt_irrefl _)
 · have had : ad = ⟨g, 0, none⟩ := by rw [hA] at hg; exact Option.some.inj hg
   subst had
   have hadd' : (⟨g, 0, none⟩ : Addr).add j = ⟨g, j, none⟩ := by rw [add_at]; simp
   have hlx := ho'.length
   have hle : n * sz ≤ cur.toList.length := by rw [Array.length_toList, hcs]; exact Nat.mul_le_mul_right _ hnc
   have hm2 : j + v.cells.size ≤ cur.toList.length := by omega
   have hst := run_storeCells_at P g j e v.cells.toList 0 cur w hb (by simpa using hm2) (fun z hz => (List.all_eq_true.1 h1) z hz)
   simp only [Nat.add_zero] at hst
   obtain ⟨ti, hti, hsz⟩ := Option.map_eq_some_iff.1 hsz
   have hrun : (storeVar t ⟨g, j, none⟩ v).run P w = .ok () (w.setRow g (setR cur.toList j v.cells.toList).toArray) := by
    simp only [storeVar, sizeOf, typeInfo, hti, hsz, Sem.run_bind, run_program, Result.andThen_ok, Sem.run_pure, ne_eq, not_true_eq_false, if_false, hst]
    rfl
   refine ⟨(), w.setRow g (setR cur.toList j v.cells.toList).toArray, trivial, ?_, .inr ⟨rfl, ?_⟩⟩
   · have hf : blockOf A = some g := by rw [hg]; rfl
     refine hs.turn hi rfl ⟨rfl, rfl, rfl, by simp, fun k hk hn => setRow_other w g k _ (fun e => hn (by rw [e]; exact hf))⟩ ?_ (fun k hk => .inl hk)
     have hb2 := setRow_heap w g _ (setR cur.toList j v.cells.toList).toArray e (0, 0) hb
     have hlen : (setR cur.toList j v.cells.toList).toArray.size = c * sz := by
      rw [List.size_toArray, ← hcs]
      unfold setR
      simp only [List.length_append, List.length_take, List.length_drop, Array.length_toList] at hm2 ⊢
      omega
     have := Own.of_blk (base := 0) (n := n) hb2 (Nat.zero_le _) hnc hcm hlen
     rw [setR_take (by rw [Array.length_toList]; omega) hle, hxs, ← hg] at this
     exact this
   · simp [execOp, ho, hρ x _ hx, hρ y _ hy, Instr.storeAt, Instr.sureAddr, hadd', hrun]
theorem setR_enc {α : Type} {enc : α → List Value} {sz : Nat} (he : ∀ a, (enc a).length = sz) (l : List α) (k : Nat) (a : α) (hk : k < l.length) : setR (l.flatMap enc) (k * sz) (enc a) = (l.set k a).flatMap enc := by
 have e1 : ∀ (l : List α) (k : Nat), (l.flatMap enc).drop (k * sz) = (l.drop k).flatMap enc := by
  intro l
  induction l with
  | nil => intro k; simp
  | cons b l ih =>
   intro k
   cases k with
   | zero => simp
   | succ k => rw [List.flatMap_cons, List.drop_succ_cons, ← ih k, Nat.succ_mul, Nat.add_comm, ← List.drop_drop, List.drop_left' (he b)]
 have e2 : ∀ (l : List α) (k : Nat), (l.flatMap enc).take (k * sz) = (l.take k).flatMap enc := by
  intro l
  induction l with
  | nil => intro k; simp
  | cons b l ih =>
   intro k
   cases k with
   | zero => simp
   | succ k => rw [List.flatMap_cons, List.take_succ_cons, List.flatMap_cons, ← ih k, Nat.succ_mul, Nat.add_comm, List.take_append, he b, List.take_of_length_le (by rw [he b]; omega), Nat.add_sub_cancel_left]
 unfold setR
 rw [he a, ← Nat.succ_mul, e1, e2, List.set_eq_take_append_cons_drop, if_pos hk, List.flatMap_append, List.flatMap_cons, List.append_assoc]
end
def FnV (P : Program) (v : Value) (args : List Value) (H : List Chunk) (ι : Type) (res : ι → Value) (H' : ι → List Chunk) (φ : ι → Prop) : Prop :=
 ∃ (f : FuncId) (fn : Func) (caps : List Value), v = .func (.func f) #[] caps.toArray ∧ P.funcs[f]? = some fn ∧ (fn.name == "runtime.NumGoroutine") = false ∧ fn.body.isNone = false ∧ Fn P f (args ++ caps).toArray H ι res H' φ
section
variable {Γ : Ctx} {N : Frm} {P : Program} {E : Env} {H : List Chunk} {o : Oper} {x : Operand} {v : Value}
theorem runV {f : FuncId} {fn : Func} {caps vs : List Value} {args : Array Operand} {ats : Array TypeId} {a : Act} {w : World} (ho : o.op = .call { callee := .value x, args := args, argTypes := ats }) (hr : Rep N E a) (hx : E.ev x = some (.func (.func f) #[] caps.toArray)) (hf : P.funcs[f]? = some fn) (hname : (fn.name == "runtime.NumGoroutine") = false) (hb : fn.body.isNone = false) (hargs : args.toList.mapM E.ev = some vs) :
 (execOp a.eval o).run P w = .ok (.enter f (vs ++ caps).toArray) w := by
 have h1 : ¬ fn.name = "runtime.NumGoroutine" := by simpa using hname
 have h2 : ¬ fn.body = none := by cases hx : fn.body <;> simp_all
 have ha : args.map a.eval = vs.toArray := by
  have := args_ev (fun _ _ h => hr.ev h) _ _ hargs
  rw [← this, ← Array.toList_map]
 have hxx := hr.ev hx
 unfold execOp
 simp [ho, resolve, Deferred.ofValue, invoke, callFunc, hf, h1, h2, hxx, ha]
theorem Does.callV {args : Array Operand} {ats : Array TypeId} {vs : List Value} {ι : Type} {res : ι → Value} {Hp R : List Chunk} {H' : ι → List Chunk} {φ : ι → Prop} (is : List Nat)
 (ho : o.op = .call { callee := .value x, args := args, argTypes := ats }) (hx : E.ev x = some v)
 (hspec : FnV P v vs Hp ι res H' φ) (hargs : args.toList.mapM E.ev = some vs) (hsel : selB (H.map (·.excl)) is = true) (hsp : picks H is = Hp ++ R) :
 Does Γ N P E H o ι res (fun i => H' i ++ R) φ := by
 obtain ⟨f, fn, caps, rfl, hf, hname, hb, hspec⟩ := hspec
 refine ⟨fun a w hr hs K Q hK => ?_⟩
 unfold Oper.wp
 rw [runV ho hr hx hf hname hb hargs]
 have hs2 := hs.pick is hsel
 rw [hsp] at hs2
 refine (hspec w (sat0_append.1 hs2.sat).1).mono ?_
 rintro e w' ⟨i, hi, rfl, hs'⟩
 exact hK i w' hi (hs2.call hs')
theorem Does.readV {args : Array Operand} {ats : Array TypeId} {vs : List Value} {ι : Type} {res : ι → Value} {Hp : List Chunk} {φ : ι → Prop}
 (ho : o.op = .call { callee := .value x, args := args, argTypes := ats }) (hx : E.ev x = some v)
 (hspec : FnV P v vs Hp ι res (fun _ => []) φ) (hargs : args.toList.mapM E.ev = some vs) (hne : (Hp.all fun C => !C.excl) = true) (hh : AllIn Γ H Hp) :
 Does Γ N P E H o ι res (fun _ => H) φ := by
 obtain ⟨f, fn, caps, rfl, hf, hname, hb, hspec⟩ := hspec
 refine ⟨fun a w hr hs K Q hK => ?_⟩
 have hne : ∀ C ∈ Hp, C.excl = false := fun C hC => by simpa using List.all_eq_true.1 hne C hC
 have hs0 : Sat0 Hp w := ⟨hh.mem hs, List.pairwise_iff_getElem.2 fun i j hi hj _ he => by
  rw [hne _ (List.getElem_mem hi), hne _ (List.getElem_mem hj)] at he
  rcases he with he | he <;> cases he⟩
 unfold Oper.wp
 rw [runV ho hr hx hf hname hb hargs]
 refine (hspec w hs0).mono ?_
 rintro e w' ⟨i, hi, rfl, hs'⟩
 have hS : ∀ k, ¬ Ctx.S ⟨w, Hp⟩ k := fun k ⟨D, hD, he, _⟩ => by rw [hne D hD] at he; cases he
 refine hK i w' hi ⟨hs.upd.trans hs'.upd (fun k _ h => absurd h (hS k)), ⟨fun C hC => C.loc w w' hs'.upd.size (fun k hk => hs'.upd.block k (C.lt w k (hs.sat.1 C hC) hk) (hS k)) (hs.sat.1 C hC), hs.sat.2⟩, hs.fits⟩
theorem Ev.ifaceNilN {t t' u : TypeId} {p : Value} {y : Operand} (ho : o.op = .binOp .neq t x y t') (hx : E.ev x = some (.iface u p)) (hy : E.ev y = some .nilIface) (ht : P.underlying t = some (.interface (P.methodsAt t))) : Ev Γ N P E H o (.bool true) :=
 .bin ho hx hy (fun _ => rfl) (fun w => run_neq_held_nil w t u p ht)
theorem Ev.nilNilN {t t' : TypeId} (ho : o.op = .binOp .neq t x (.const .nilIface) t') (hx : E.ev x = some .nilIface) (ht : P.underlying t = some (.interface (P.methodsAt t))) : Ev Γ N P E H o (.bool false) :=
 .bin ho hx rfl (fun _ => by simp [eqGuard]) (fun w => run_neq_nil_nil w t ht)
end
section
variable {Γ : Ctx} {N : Frm} {P : Program} {E : Env} {H : List Chunk} {o : Oper} {x : Operand}
theorem Ev.neg {t : TypeId} {k : IntKind} {n : Int} (ho : o.op = .unOp .neg t x) (hx : E.ev x = some (.int k n)) : Ev Γ N P E H o (.int k (k.wrap (-n))) := .of fun ρ hρ w => by
 simp [execOp, ho, hρ x _ hx, Op.unary, Op.intArith]
end
section
variable {Γ : Ctx} {N : Frm} {P : Program} {E : Env} {H : List Chunk} {o : Oper} {x y z : Operand}
theorem extract_txt (l : List UInt8) (i j : Nat) : (txt l).extract i j = txt ((l.take j).drop i) := by
 apply ByteArray.ext
 rw [ByteArray.data_extract]
 apply Array.ext'
 simp [txt, List.extract, List.drop_take]
theorem Ev.indexT {t : TypeId} {l : List UInt8} {k : Nat} {b : UInt8} (ho : o.op = .index t x y) (hx : E.ev x = some (.string (txt l))) (hy : E.ev y = some (.int .i64 k)) (ht : P.underlying t = some .string) (hk : l[k]? = some b) : Ev Γ N P E H o (.int .u8 (b.toNat : Int)) := .of fun ρ hρ w => by
 obtain ⟨hlt, rfl⟩ := List.getElem?_eq_some_iff.1 hk
 have h2 := run_index_string w t (txt l) .i64 k ht
 have hs : (txt l).size = l.length := rfl
 simp [execOp, ho, hρ x _ hx, hρ y _ hy, h2, hs, hlt]
 rfl
end
abbrev Vals_ := Nat → Value → World → Prop
def MapT (w : World) (P : Program) (k : TypeId) (b : Nat) (z : Value) (ks : List (List UInt8)) (f : List UInt8 → Value) : Prop :=
 ∃ D : DataW Value, w.ownsMap P k asIs b ks.length D ∧ ks.Nodup ∧ (∀ x, Maps.has D (.string x) = decide (x ∈ ks)) ∧ ∀ x ∈ ks, D.atKey (.string x) (.held z) = .held (f x)
section
variable {P : Program} {w : World} {k e t : TypeId} {b : Nat} {z : Value} {ks : List (List UInt8)} {f : List UInt8 → Value}
theorem keyT (hk : P.underlying k = some .string) {x : List UInt8} (hx : x.length ≤ maxLen) : keyOf P k (.string (txt x)) = some (.string x) := by
 have : (txt x).size ≤ maxLen := hx
 simp only [keyOf, hk, mapKey]
 rw [if_pos this]
 rfl
theorem perm_of {D : DataW Value} {n : Nat} (h : w.ownsMap P k asIs b n D) (hk : P.underlying k = some .string) (hn : ks.Nodup) (hh : ∀ x, Maps.has D (.string x) = decide (x ∈ ks)) : ks.Perm (strKeys D) ∧ Maps.size D = ks.length := by
 have K := Maps.string_keyed hk
 obtain ⟨es, hD, hpw, _⟩ := h.entries K
 obtain ⟨es', hD', hko⟩ := h.keysOf
 obtain rfl : es = es' := by rw [hD] at hD'; simpa using hD'
 subst hD
 have hp := perm_strKeys hpw (fun p hp => by obtain ⟨v, hv⟩ := hko p hp; obtain ⟨x, _, hx, _⟩ := Maps.keyOf_str hk hv; exact ⟨x, hx⟩) hn (fun x => by rw [hh x]; simp)
 refine ⟨hp, ?_⟩
 rw [hp.length_eq]
 simp [Maps.size, strKeys]
theorem owns_size {D : DataW Value} {n : Nat} (h : w.ownsMap P k asIs b n D) : w.ownsMap P k asIs b (Maps.size D) D := by
 obtain ⟨es, clock, hb, F, _, rfl⟩ := h
 refine ⟨es, clock, hb, F, ?_, rfl⟩
 show es.size ≤ ((es.toList.map (Go.WideElems.rg P k asIs)).foldr DataW.insert []).length
 rw [length_sorted]
 simp
theorem MapT.lt (h : MapT w P k b z ks f) : b < w.heap.size := by
 obtain ⟨D, h, _⟩ := h
 exact h.lt
theorem MapT.block {w' : World} (h : MapT w P k b z ks f) (e : w'.heap[b]? = w.heap[b]?) : MapT w' P k b z ks f := by
 obtain ⟨D, ⟨es, clock, hb, F, hs, hD⟩, h2⟩ := h
 exact ⟨D, ⟨es, clock, e.trans hb, F, hs, hD⟩, h2⟩
theorem MapT.made (w : World) (P : Program) (k : TypeId) (z : Value) (f : List UInt8 → Value) : MapT (w.alloc (.map #[] 0)) P k w.heap.size z [] f :=
 ⟨.map [], World.ownsMap_made w P k asIs, List.nodup_nil, fun _ => rfl, fun _ h => absurd h List.not_mem_nil⟩
theorem MapT.look (h : MapT w P k b z ks f) (hk : P.underlying k = some .string) (ht : P.underlying t = some (.map k e)) (hz : ∀ w, (zeroValue e).run P w = .ok z w) {x : List UInt8} (hx : x.length ≤ maxLen) :
 (Instr.lookup t (.map (some b)) (.string (txt x)) false).run P w = .ok (if x ∈ ks then f x else z) w := by
 obtain ⟨D, h, _, h2, h3⟩ := h
 obtain ⟨v, ps, hrun, hv⟩ := h.lookup (Maps.string_keyed hk) ht (hz w) (zd := .held z) (zp := []) rfl (keyT hk hx)
 rw [hrun]
 by_cases hm : x ∈ ks
 · rw [h3 x hm] at hv
   simp only [asIs, Option.some.injEq, Prod.mk.injEq, DataW.held.injEq] at hv
   rw [if_pos hm, hv.1]
 · rw [Maps.atKey_of_not_has (by rw [h2 x]; exact decide_eq_false hm)] at hv
   simp only [asIs, Option.some.injEq, Prod.mk.injEq, DataW.held.injEq] at hv
   rw [if_neg hm, hv.1]
theorem MapT.put_ (h : MapT w P k b z ks f) (hk : P.underlying k = some .string) (ht : P.underlying t = some (.map k e)) (hn : ks.length < maxLen) {x : List UInt8} (hx : x.length ≤ maxLen) (hm : x ∉ ks) (v : Value) :
 ∃ w', (Instr.mapUpdate t (.map (some b)) (.string (txt x)) v).run P w = .ok () w' ∧ MapT w' P k b z (ks ++ [x]) (fun y => if y = x then v else f y) ∧ Upd (fun k => k = b) w w' := by
 obtain ⟨D, h, hnd, h2, h3⟩ := h
 have K := Maps.string_keyed hk
 have hD : Maps.IsMap D := by
  obtain ⟨es, clock, _, _, _, rfl⟩ := h
  exact ⟨_, rfl⟩
 obtain ⟨w', h4, h5, h6⟩ := h.update K ht hn (d := .held v) (ps := []) (val := v) (keyT hk hx) rfl
 have hkl := K.key (keyT hk hx)
 refine ⟨w', h4, ⟨_, by rw [List.length_append]; exact h5, List.nodup_append.2 ⟨hnd, by simp, fun a ha b hb => by simp at hb; subst hb; exact fun e => hm (e ▸ ha)⟩, fun y => ?_, fun y hy => ?_⟩, (Upd.refl (fun k => k = b) w).grown h6 (fun k e _ => by injection e with e; exact e.symm)⟩
 · by_cases he : y = x
   · subst he
     rw [Maps.has_put_same hD hkl]
     simp
   · rw [Maps.has_put_other (fun h => by injection h with h; exact he h), h2 y]
     simp [he]
 · by_cases he : y = x
   · subst he
     dsimp only
     rw [if_pos rfl]
     exact Maps.atKey_put_same hD hkl _ _
   · dsimp only
     rw [if_neg he, Maps.atKey_put_other (fun h => by injection h with h; exact he h)]
     exact h3 y ((List.mem_append.1 hy).resolve_right (fun h => he (List.mem_singleton.1 h)))
theorem MapT.drop_ (h : MapT w P k b z ks f) (hk : P.underlying k = some .string) (ht : P.underlying t = some (.map k e)) {x : List UInt8} (hx : x.length ≤ maxLen) (ty : TypeId) :
 ∃ w', (Builtin.delete_ #[t, k] ty #[.map (some b), .string (txt x)]).run P w = .ok (.tuple #[]) w' ∧ MapT w' P k b z (ks.filter fun y => decide (y ≠ x)) f ∧ Upd (fun k => k = b) w w' := by
 obtain ⟨D, h, hnd, h2, h3⟩ := h
 obtain ⟨w', h4, h5, h6⟩ := h.drop (Maps.string_keyed hk) ht (keyT hk hx) ty
 have hnd2 : (ks.filter fun y => decide (y ≠ x)).Nodup := hnd.filter _
 have hhas : ∀ y, Maps.has (D.del (.string x)) (.string y) = decide (y ∈ ks.filter fun y => decide (y ≠ x)) := fun y => by
  by_cases he : y = x
  · subst he
    rw [Maps.has_del_same]
    simp
  · rw [Maps.has_del_other (fun h => by injection h with h; exact he h), h2 y]
    simp [he]
 have hsz := (perm_of h5 hk hnd2 hhas).2
 refine ⟨w', h4, ⟨_, hsz ▸ owns_size h5, hnd2, hhas, fun y hy => ?_⟩, (Upd.refl (fun k => k = b) w).grown h6.grown (fun k e _ => by injection e with e; exact e.symm)⟩
 have hy2 := List.mem_filter.1 hy
 have he : y ≠ x := of_decide_eq_true hy2.2
 rw [Maps.atKey_del_other (fun h => by injection h with h; exact he h)]
 exact h3 y hy2.1
theorem MapT.len (h : MapT w P k b z ks f) (hk : P.underlying k = some .string) (ht : P.underlying t = some (.map k e)) (ty : TypeId) : (Builtin.len_ #[t] ty #[.map (some b)]).run P w = .ok (.int .i64 ks.length) w := by
 obtain ⟨D, h, hnd, h2, _⟩ := h
 rw [h.len ht ty, (perm_of h hk hnd h2).2]
end
def mapt (P : Program) (k : TypeId) (b : Nat) (z : Value) (ks : List (List UInt8)) (f : List UInt8 → Value) : Chunk where
 holds w := MapT w P k b z ks f
 foot i := i = b
 excl := true
 lt := fun _ i h e => by subst e; exact h.lt
 loc := fun _ _ _ he h => h.block (he b rfl)
def rmapt (P : Program) (k : TypeId) (b : Nat) (z : Value) (ks : List (List UInt8)) (f : List UInt8 → Value) : Chunk where
 holds w := MapT w P k b z ks f
 foot i := i = b
 excl := false
 lt := fun _ i h e => by subst e; exact h.lt
 loc := fun _ _ _ he h => h.block (he b rfl)
section
variable {Γ : Ctx} {N : Frm} {P : Program} {E : Env} {H : List Chunk} {o : Oper} {x y u : Operand} {k e t b : Nat} {z : Value} {ks : List (List UInt8)} {f : List UInt8 → Value} {q : List UInt8}
theorem maptIn (i : Nat) (hi : H[i]? = some (mapt P k b z ks f)) : ∀ w, Sat Γ H w → (rmapt P k b z ks f).holds w := fun w hs => show MapT w P k b z ks f from hs.mem hi
theorem rmaptIn (i : Nat) (hi : H[i]? = some (rmapt P k b z ks f)) : ∀ w, Sat Γ H w → (rmapt P k b z ks f).holds w := fun _ hs => hs.mem hi
theorem Ev.lookT (hm : ∀ w, Sat Γ H w → (rmapt P k b z ks f).holds w) (ho : o.op = .lookup t x y false) (hx : E.ev x = some (.map (some b))) (hy : E.ev y = some (.string (txt q))) (hk : P.underlying k = some .string) (ht : P.underlying t = some (.map k e)) (hz : ∀ w, (zeroValue e).run P w = .ok z w) (hq : q.length ≤ maxLen) :
 Ev Γ N P E H o (if q ∈ ks then f q else z) := ⟨fun a w hr hs => by
 have := MapT.look (hm w hs) hk ht hz hq
 simp [execOp, ho, hr.ev hx, hr.ev hy, this]⟩
theorem Ev.lenT (hm : ∀ w, Sat Γ H w → (rmapt P k b z ks f).holds w) (ho : o.op = .call { callee := .builtin .len, args := #[x], argTypes := #[t] }) (hx : E.ev x = some (.map (some b))) (hk : P.underlying k = some .string) (ht : P.underlying t = some (.map k e)) :
 Ev Γ N P E H o (.int .i64 ks.length) := ⟨fun a w hr hs => by
 have := MapT.len (hm w hs) hk ht o.type
 simp [execOp, ho, resolve, invoke, builtin, hr.ev hx, this]⟩
theorem Does.putT (i : Nat) {v : Value} (ho : o.op = .mapUpdate t x y u) (hx : E.ev x = some (.map (some b))) (hy : E.ev y = some (.string (txt q))) (hu : E.ev u = some v) (hi : H[i]? = some (mapt P k b z ks f)) (hk : P.underlying k = some .string) (ht : P.underlying t = some (.map k e)) (hn : ks.length ≤ 1000000) (hq : q.length ≤ maxLen) (hm : q ∉ ks) :
 Does Γ N P E H o Unit (fun _ => undef) (fun _ => H.set i (mapt P k b z (ks ++ [q]) (fun y => if y = q then v else f y))) (fun _ => True) := .of fun ρ hρ w hs => by
 obtain ⟨w', hrun, h1, h2⟩ := MapT.put_ (hs.mem hi) hk ht (show ks.length < maxLen by unfold maxLen; omega) hq hm v
 refine ⟨(), w', trivial, hs.turn hi rfl h2 h1 (fun k hk => .inl hk), .inr ⟨rfl, ?_⟩⟩
 simp [execOp, ho, hρ x _ hx, hρ y _ hy, hρ u _ hu, hrun]
theorem Does.delT (i : Nat) (ho : o.op = .call { callee := .builtin .delete, args := #[x, y], argTypes := #[t, k] }) (hx : E.ev x = some (.map (some b))) (hy : E.ev y = some (.string (txt q))) (hi : H[i]? = some (mapt P k b z ks f)) (hk : P.underlying k = some .string) (ht : P.underlying t = some (.map k e)) (hq : q.length ≤ maxLen) :
 Does Γ N P E H o Unit (fun _ => .tuple #[]) (fun _ => H.set i (mapt P k b z (ks.filter fun y => decide (y ≠ q)) f)) (fun _ => True) := .of fun ρ hρ w hs => by
 obtain ⟨w', hrun, h1, h2⟩ := MapT.drop_ (hs.mem hi) hk ht hq o.type
 refine ⟨(), w', trivial, hs.turn hi rfl h2 h1 (fun k hk => .inl hk), .inl ?_⟩
 simp [execOp, ho, resolve, invoke, builtin, hρ x _ hx, hρ y _ hy, hrun]
theorem Does.newT (k : Nat) (z : Value) (f : List UInt8 → Value) (ho : o.op = .makeMap t none) : Does Γ N P E H o Nat (fun b => .map (some b)) (fun b => mapt P k b z [] f :: H) (fun _ => True) := .of fun ρ hρ w hs => by
 have hlt : ∀ C ∈ H, ∀ k, C.foot k → k < w.heap.size := fun C hC k hk => C.lt w k (hs.sat.1 C hC) hk
 refine ⟨w.heap.size, w.alloc (.map #[] 0), trivial, ⟨hs.upd.alloc _, ⟨fun C hC => ?_, List.Pairwise.cons (fun D hD _ k hk hf => ?_) hs.sat.2⟩, fun C hC => ?_⟩, .inl ?_⟩
 · rcases List.mem_cons.1 hC with rfl | hC
   · exact MapT.made w P k z f
   · exact C.loc w _ (by simp) (fun k hk => Below.heap_alloc w _ k (hlt C hC k hk)) (hs.sat.1 C hC)
 · have := hlt D hD k hf
   obtain rfl : k = w.heap.size := hk
   omega
 · rcases List.mem_cons.1 hC with rfl | hC
   · intro k hk hk'
     obtain rfl : k = w.heap.size := hk
     exact absurd hs.upd.size (by omega)
   · exact hs.fits C hC
 · simp [execOp, ho, Instr.makeMap]
end
theorem txt_eq_iff {a b : List UInt8} : txt a = txt b ↔ a = b := ⟨fun h => by
 have := congrArg (fun s : ByteArray => s.data.toList) h
 simpa [txt] using this, fun h => by rw [h]⟩
theorem get_of_lt {α : Type} {l : List α} {k : Nat} (h : k < l.length) : ∃ x, l[k]? = some x := ⟨_, List.getElem?_eq_getElem h⟩
structure FiS where
 p : FiP
 g : Nat
 A : Option Addr
 c : Nat
 deriving Inhabited
abbrev FiS.nm (f : FiS) : List UInt8 := f.p.nm
abbrev FiS.b (f : FiS) : List UInt8 := f.p.b
abbrev FiS.sy (f : FiS) : Nat := f.p.sy
abbrev FiS.cs (f : FiS) : List Value := [.slice f.A f.b.length f.c, .int .i64 f.sy]
abbrev FiS.B (f : FiS) : Chunk := blk f.g 112 f.cs
abbrev FiS.R (f : FiS) : Chunk := row f.A f.b.length f.c 5 1 (u8s f.b)
abbrev FiS.rB (f : FiS) : Chunk := rblk f.g 112 f.cs
abbrev FiS.rR (f : FiS) : Chunk := rd f.A f.b.length 1 (u8s f.b)
abbrev filX (fs : List FiS) : Chunk := starx (fs.flatMap fun f => [f.B, f.R])
abbrev filR (fs : List FiS) : Chunk := stars (fs.flatMap fun f => [f.rB, f.rR])
abbrev findF (fs : List FiS) (q : List UInt8) : Option FiS := findG FiS.nm q fs
def ptrF (fs : List FiS) (q : List UInt8) : Value := match findF fs q with
 | some f => .pointer (some ⟨f.g, 0, none⟩)
 | none => .pointer none
structure DrS where
 d : Nat
 m : Nat
 fs : List FiS
 steps : Int
 armed : Bool
 left : Int
 deriving Inhabited
abbrev DrS.cs (D : DrS) : List Value := [.map (some D.m), .int .i64 D.steps, .bool D.armed, .int .i64 D.left]
abbrev DrS.B (D : DrS) : Chunk := blk D.d 88 D.cs
abbrev DrS.M (D : DrS) : Chunk := mapt Tryz.prog 9 D.m (.pointer none) (D.fs.map FiS.nm) (ptrF D.fs)
abbrev DrS.F (D : DrS) : Chunk := filX D.fs
abbrev DrS.rB (D : DrS) : Chunk := rblk D.d 88 D.cs
abbrev DrS.rM (D : DrS) : Chunk := rmapt Tryz.prog 9 D.m (.pointer none) (D.fs.map FiS.nm) (ptrF D.fs)
abbrev DrS.rF (D : DrS) : Chunk := filR D.fs
structure Drv (D : DrS) (P : DrP) : Prop where
 ok : P.Ok
 fs : D.fs.map FiS.p = P.fs
 steps : D.steps = P.steps
 armed : D.armed = P.left.isSome
 left : ∀ n, P.left = some n → D.left = n
section
variable {D : DrS} {P : DrP}
theorem Drv.rise (h : Drv D P) : Rise FiS.nm D.fs := (Rise.map (nm' := FiP.nm) (g := FiS.p) (fun _ => rfl)).1 (by rw [h.fs]; exact h.ok.rise)
theorem Drv.find (h : Drv D P) (q : List UInt8) : P.find q = (findF D.fs q).map FiS.p := by
 unfold DrP.find
 rw [← h.fs]
 exact findG_map (fun _ => rfl) q D.fs
theorem Drv.hit (h : Drv D P) {q : List UInt8} {f : FiP} (hf : P.find q = some f) : ∃ x, findF D.fs q = some x ∧ x.p = f := by
 rw [h.find] at hf
 cases hx : findF D.fs q with
 | none => rw [hx] at hf; cases hf
 | some x =>
  rw [hx] at hf
  exact ⟨x, rfl, Option.some.inj hf⟩
theorem Drv.miss (h : Drv D P) {q : List UInt8} (hf : P.find q = none) : findF D.fs q = none := by
 rw [h.find] at hf
 cases hx : findF D.fs q with
 | none => rfl
 | some x => rw [hx] at hf; cases hf
theorem Drv.len (h : Drv D P) : D.fs.length = P.fs.length := by rw [← h.fs, List.length_map]
theorem Drv.mem (h : Drv D P) {x : FiS} (hx : x ∈ D.fs) : x.p ∈ P.fs := by
 rw [← h.fs]
 exact List.mem_map_of_mem hx
theorem Drv.names (h : Drv D P) : D.fs.map FiS.nm = P.fs.map FiP.nm := by rw [← h.fs, List.map_map]; rfl
end
section
variable {Γ : Ctx} {H : List Chunk}
theorem filIn {fs : List FiS} (i : Nat) (hi : H[i]? = some (filX fs)) : ∀ w, Sat Γ H w → (filR fs).holds w := fun w hs C hC => by
 have hw := hs.mem hi
 obtain ⟨f, hf, hC⟩ := List.mem_flatMap.1 hC
 rcases List.mem_cons.1 hC with rfl | hC
 · exact ⟨rfl, hw.1 f.B (List.mem_flatMap.2 ⟨f, hf, List.mem_cons_self⟩)⟩
 · obtain rfl := List.mem_singleton.1 hC
   exact ⟨rfl, row_rd.1 w (hw.1 f.R (List.mem_flatMap.2 ⟨f, hf, List.mem_cons_of_mem _ List.mem_cons_self⟩))⟩
theorem filRin {fs : List FiS} (i : Nat) (hi : H[i]? = some (filR fs)) : ∀ w, Sat Γ H w → (filR fs).holds w := fun _ hs => hs.mem hi
theorem filGet {fs : List FiS} {f : FiS} {w : World} (i : Nat) (hi : H[i]? = some (filR fs)) (hf : f ∈ fs) (h : Sat Γ H w) : Sat Γ (f.rB :: f.rR :: H) w :=
 Sat.stars_get (i := i + 1) (by simpa using hi) (List.mem_flatMap.2 ⟨f, hf, List.mem_cons_self⟩) (Sat.stars_get hi (List.mem_flatMap.2 ⟨f, hf, List.mem_cons_of_mem _ List.mem_cons_self⟩) h)
theorem mapIn {D : DrS} (i : Nat) (hi : H[i]? = some D.M) : ∀ w, Sat Γ H w → D.rM.holds w := maptIn i hi
theorem rmapIn_ {D : DrS} (i : Nat) (hi : H[i]? = some D.rM) : ∀ w, Sat Γ H w → D.rM.holds w := rmaptIn i hi
end
theorem ptr_hit {fs : List FiS} {q : List UInt8} {f : FiS} (h : findF fs q = some f) : (if q ∈ fs.map FiS.nm then ptrF fs q else .pointer none) = .pointer (some ⟨f.g, 0, none⟩) := by
 obtain ⟨h1, h2⟩ := findG_some h
 rw [if_pos (List.mem_map.2 ⟨f, h1, h2⟩)]
 unfold ptrF
 rw [h]
theorem not_mem_of_find {fs : List FiS} {q : List UInt8} (h : findF fs q = none) : q ∉ fs.map FiS.nm := fun hm => by
 obtain ⟨f, hf, he⟩ := List.mem_map.1 hm
 exact findG_none h f hf he
theorem ptr_miss {fs : List FiS} {q : List UInt8} (h : findF fs q = none) : (if q ∈ fs.map FiS.nm then ptrF fs q else .pointer none) = (.pointer none : Value) := if_neg (not_mem_of_find h)
theorem good_no (q : List UInt8) (hq : ¬ (q ≠ [] ∧ q.length ≤ 32)) : Fn Tryz.prog 60 #[.string (txt q)] [] Unit (fun _ => .bool false) (fun _ => []) (fun _ => True) := by
 have hs : (txt q).size = q.length := rfl
 refine Fn.enter Tryz.func60 rfl Tryz.ntmps60 (by rfl) ?_
 intro w0
 refine go [3,4,5,2,3,3,4,0] ?_
 refine Ls.qE 6 (Ev.eqlS rfl (by rfl) (by rfl)) ?_
 refine Ls.qM 7 ?_
 by_cases hn : q = []
 · refine Ent.known 7 true (by rfl) (by exact (decide_eq_true (by rw [hn]; rfl))) ?_
   refine go [1,1,1,9,2,23,3,4,5,2,22] ?_
   exact Ent.rA (()) [] trivial rT_
 · have hlt : 32 < q.length := by
    rcases Nat.lt_or_ge 32 q.length with h | h
    · exact h
    · exact absurd ⟨hn, h⟩ hq
   refine Ent.known 7 false (by rfl) (by exact (decide_eq_false (fun e => hn ((txt_eq_iff (b := [])).1 e)))) ?_
   refine Ls.qM 8 ?_
   refine Ls.qE 9 (Ev.lenS rfl (by rfl) Tryz.underlying9) ?_
   refine go [18,10,2] ?_
   refine Cd.cond_true (by rfl) (decide_eq_true (show ((32 : Int) < (q.length : Int)) by omega)) ?_
   refine go [3,4,5,2,22] ?_
   exact Ent.rA (()) [] trivial rT_
theorem good_sl (q : List UInt8) : Fn Tryz.prog 60 #[.string (txt q)] [] Unit (fun _ => .bool (decide (Good q))) (fun _ => []) (fun _ => True) := by
 by_cases h12 : q ≠ [] ∧ q.length ≤ 32
 rotate_left
 · rw [show decide (Good q) = false from decide_eq_false (fun h => h12 ⟨h.ne, h.len⟩)]
   exact good_no q h12
 obtain ⟨h1, h2⟩ := h12
 have hs : (txt q).size = q.length := rfl
 refine Fn.enter Tryz.func60 rfl Tryz.ntmps60 (by rfl) ?_
 intro w0
 refine go [3,4,5,2,3,3,4,0] ?_
 refine Ls.qE 6 (Ev.eqlS rfl (by rfl) (by rfl)) ?_
 refine Ls.qM 7 ?_
 refine Ent.known 7 false (by rfl) (by exact (decide_eq_false (fun e => h1 ((txt_eq_iff (b := [])).1 e)))) ?_
 refine Ls.qM 8 ?_
 refine Ls.qE 9 (Ev.lenS rfl (by rfl) Tryz.underlying9) ?_
 refine go [18,10,2] ?_
 refine Cd.cond_false (by rfl) (decide_eq_false (show ¬ ((32 : Int) < (q.length : Int)) by omega)) ?_
 refine go [6,3,3,4,0] ?_
 refine Ls.qE 13 (Ev.lenS rfl (by rfl) Tryz.underlying9) ?_
 refine go [0,2,21] ?_
 refine Cd.loop (ι := Nat) (fun k => [(0, .string (txt q)), (13, .int .i64 q.length), (14, .int .i64 k)]) (fun _ => []) (fun k => k ≤ q.length ∧ ∀ x ∈ q.take k, okB x) (fun k => q.length - k) (0) (⟨Nat.zero_le _, fun _ h => by simp at h⟩) ?_ rfl ?_
 · (repeat (first | exact trivial | refine ⟨by rfl, ?_⟩))
 rintro k ⟨hk, hall⟩
 refine go [3,4,16,2,3] ?_
 refine Cd.cond _ (by rfl) (fun h => ?_) (fun h => ?_)
 · have hlt : k < q.length := by have := of_decide_eq_true h; omega
   obtain ⟨x, hx⟩ := get_of_lt hlt
   refine go [6,3,21,3,4,0,5,25,0,0] ?_
   refine Ls.qE 19 (Ev.indexT rfl (by rfl) (by rfl) Tryz.underlying9 (by assumption)) ?_
   refine go [5,2,3] ?_
   by_cases hok : okB x
   · have hok2 := hok
     unfold okB at hok2
     refine Cd.cut (ι := Unit) (fun _ => [(0, .string (txt q)), (13, .int .i64 q.length), (14, .int .i64 k), (41, .bool false)]) (fun _ => []) (fun _ => True) ?_ ?_
     · refine go [4,0,16,0] ?_
       refine Ent.split 22 (by rfl) (fun hT1 => ?_) (fun hT1 => ?_)
       · first | have hT1 := of_decide_eq_false hT1 | have hT1 := of_not_decide_false hT1 | skip
         refine go [0,18,10,0] ?_
         refine Ent.split 26 (by rfl) (fun hT2 => ?_) (fun hT2 => ?_)
         · first | have hT2 := of_decide_eq_false hT2 | have hT2 := of_not_decide_false hT2 | skip
           refine go [1,1,1,1,1,1,10,0,1,1,10,0,1,1,10,2] ?_
           refine Ent.inv () ?_ ?_ ?_
           · exact trivial
           · (repeat (first | exact trivial | refine ⟨by rfl, ?_⟩ | refine ⟨by simp only [lenS]; rfl, ?_⟩ | refine ⟨by push_cast; rfl, ?_⟩ | refine ⟨by (show some (Value.bool _) = some (Value.bool _); congr 2; all_goals ((first | rfl | (exact (decide_eq_false (by omega)).symm) | (exact (decide_eq_false (by omega))) | omega))), ?_⟩))
           · rfl
         · first | have hT2 := of_decide_eq_true hT2 | have hT2 := of_not_decide_true hT2 | skip
           refine go [0,16,0] ?_
           refine Ent.split 29 (by rfl) (fun hT3 => ?_) (fun hT3 => ?_)
           · first | have hT3 := of_decide_eq_false hT3 | have hT3 := of_not_decide_false hT3 | skip
             refine go [0,18,10,9,0] ?_
             refine Ent.split 34 (by rfl) (fun hT4 => ?_) (fun hT4 => ?_)
             · first | have hT4 := of_decide_eq_false hT4 | have hT4 := of_not_decide_false hT4 | skip
               refine go [1,1,10,0,1,1,10,2] ?_
               refine Ent.inv () ?_ ?_ ?_
               · exact trivial
               · (repeat (first | exact trivial | refine ⟨by rfl, ?_⟩ | refine ⟨by simp only [lenS]; rfl, ?_⟩ | refine ⟨by push_cast; rfl, ?_⟩ | refine ⟨by (show some (Value.bool _) = some (Value.bool _); congr 2; all_goals ((first | rfl | (exact (decide_eq_false (by omega)).symm) | (exact (decide_eq_false (by omega))) | omega))), ?_⟩))
               · rfl
             · first | have hT4 := of_decide_eq_true hT4 | have hT4 := of_not_decide_true hT4 | skip
               refine go [0,17,9,0] ?_
               refine Ent.split 38 (by rfl) (fun hT5 => ?_) (fun hT5 => ?_)
               · first | have hT5 := of_decide_eq_false hT5 | have hT5 := of_not_decide_false hT5 | skip
                 refine go [1,1,10,2] ?_
                 refine Ent.inv () ?_ ?_ ?_
                 · exact trivial
                 · (repeat (first | exact trivial | refine ⟨by rfl, ?_⟩ | refine ⟨by simp only [lenS]; rfl, ?_⟩ | refine ⟨by push_cast; rfl, ?_⟩ | refine ⟨by (show some (Value.bool _) = some (Value.bool _); congr 2; all_goals ((first | rfl | (exact (decide_eq_false (by omega)).symm) | (exact (decide_eq_false (by omega))) | omega))), ?_⟩))
                 · rfl
               · first | have hT5 := of_decide_eq_true hT5 | have hT5 := of_not_decide_true hT5 | skip
                 refine go [0,17,9,2] ?_
                 refine Ent.inv () ?_ ?_ ?_
                 · exact trivial
                 · (repeat (first | exact trivial | refine ⟨by rfl, ?_⟩ | refine ⟨by simp only [lenS]; rfl, ?_⟩ | refine ⟨by push_cast; rfl, ?_⟩ | refine ⟨by (show some (Value.bool _) = some (Value.bool _); congr 2; all_goals ((first | rfl | (exact (decide_eq_false (by omega)).symm) | (exact (decide_eq_false (by omega))) | omega))), ?_⟩))
                 · rfl
           · first | have hT3 := of_decide_eq_true hT3 | have hT3 := of_not_decide_true hT3 | skip
             refine go [1,1,9,9,0,0,17,9,0] ?_
             refine Ent.split 38 (by rfl) (fun hT4 => ?_) (fun hT4 => ?_)
             · first | have hT4 := of_decide_eq_false hT4 | have hT4 := of_not_decide_false hT4 | skip
               refine go [1,1,10,2] ?_
               refine Ent.inv () ?_ ?_ ?_
               · exact trivial
               · (repeat (first | exact trivial | refine ⟨by rfl, ?_⟩ | refine ⟨by simp only [lenS]; rfl, ?_⟩ | refine ⟨by push_cast; rfl, ?_⟩ | refine ⟨by (show some (Value.bool _) = some (Value.bool _); congr 2; all_goals ((first | rfl | (exact (decide_eq_false (by omega)).symm) | (exact (decide_eq_false (by omega))) | omega))), ?_⟩))
               · rfl
             · first | have hT4 := of_decide_eq_true hT4 | have hT4 := of_not_decide_true hT4 | skip
               refine go [0,17,9,2] ?_
               refine Ent.inv () ?_ ?_ ?_
               · exact trivial
               · (repeat (first | exact trivial | refine ⟨by rfl, ?_⟩ | refine ⟨by simp only [lenS]; rfl, ?_⟩ | refine ⟨by push_cast; rfl, ?_⟩ | refine ⟨by (show some (Value.bool _) = some (Value.bool _); congr 2; all_goals ((first | rfl | (exact (decide_eq_false (by omega)).symm) | (exact (decide_eq_false (by omega))) | omega))), ?_⟩))
               · rfl
       · first | have hT1 := of_decide_eq_true hT1 | have hT1 := of_not_decide_true hT1 | skip
         refine go [1,1,9,0,0,16,0] ?_
         refine Ent.split 29 (by rfl) (fun hT2 => ?_) (fun hT2 => ?_)
         · first | have hT2 := of_decide_eq_false hT2 | have hT2 := of_not_decide_false hT2 | skip
           refine go [0,18,10,9,0] ?_
           refine Ent.split 34 (by rfl) (fun hT3 => ?_) (fun hT3 => ?_)
           · first | have hT3 := of_decide_eq_false hT3 | have hT3 := of_not_decide_false hT3 | skip
             refine go [1,1,10,0,1,1,10,2] ?_
             refine Ent.inv () ?_ ?_ ?_
             · exact trivial
             · (repeat (first | exact trivial | refine ⟨by rfl, ?_⟩ | refine ⟨by simp only [lenS]; rfl, ?_⟩ | refine ⟨by push_cast; rfl, ?_⟩ | refine ⟨by (show some (Value.bool _) = some (Value.bool _); congr 2; all_goals ((first | rfl | (exact (decide_eq_false (by omega)).symm) | (exact (decide_eq_false (by omega))) | omega))), ?_⟩))
             · rfl
           · first | have hT3 := of_decide_eq_true hT3 | have hT3 := of_not_decide_true hT3 | skip
             refine go [0,17,9,0] ?_
             refine Ent.split 38 (by rfl) (fun hT4 => ?_) (fun hT4 => ?_)
             · first | have hT4 := of_decide_eq_false hT4 | have hT4 := of_not_decide_false hT4 | skip
               refine go [1,1,10,2] ?_
               refine Ent.inv () ?_ ?_ ?_
               · exact trivial
               · (repeat (first | exact trivial | refine ⟨by rfl, ?_⟩ | refine ⟨by simp only [lenS]; rfl, ?_⟩ | refine ⟨by push_cast; rfl, ?_⟩ | refine ⟨by (show some (Value.bool _) = some (Value.bool _); congr 2; all_goals ((first | rfl | (exact (decide_eq_false (by omega)).symm) | (exact (decide_eq_false (by omega))) | omega))), ?_⟩))
               · rfl
             · first | have hT4 := of_decide_eq_true hT4 | have hT4 := of_not_decide_true hT4 | skip
               refine go [0,17,9,2] ?_
               refine Ent.inv () ?_ ?_ ?_
               · exact trivial
               · (repeat (first | exact trivial | refine ⟨by rfl, ?_⟩ | refine ⟨by simp only [lenS]; rfl, ?_⟩ | refine ⟨by push_cast; rfl, ?_⟩ | refine ⟨by (show some (Value.bool _) = some (Value.bool _); congr 2; all_goals ((first | rfl | (exact (decide_eq_false (by omega)).symm) | (exact (decide_eq_false (by omega))) | omega))), ?_⟩))
               · rfl
         · first | have hT2 := of_decide_eq_true hT2 | have hT2 := of_not_decide_true hT2 | skip
           refine go [1,1,9,9,0,0,17,9,0] ?_
           refine Ent.split 38 (by rfl) (fun hT3 => ?_) (fun hT3 => ?_)
           · first | have hT3 := of_decide_eq_false hT3 | have hT3 := of_not_decide_false hT3 | skip
             refine go [1,1,10,2] ?_
             refine Ent.inv () ?_ ?_ ?_
             · exact trivial
             · (repeat (first | exact trivial | refine ⟨by rfl, ?_⟩ | refine ⟨by simp only [lenS]; rfl, ?_⟩ | refine ⟨by push_cast; rfl, ?_⟩ | refine ⟨by (show some (Value.bool _) = some (Value.bool _); congr 2; all_goals ((first | rfl | (exact (decide_eq_false (by omega)).symm) | (exact (decide_eq_false (by omega))) | omega))), ?_⟩))
             · rfl
           · first | have hT3 := of_decide_eq_true hT3 | have hT3 := of_not_decide_true hT3 | skip
             refine go [0,17,9,2] ?_
             refine Ent.inv () ?_ ?_ ?_
             · exact trivial
             · (repeat (first | exact trivial | refine ⟨by rfl, ?_⟩ | refine ⟨by simp only [lenS]; rfl, ?_⟩ | refine ⟨by push_cast; rfl, ?_⟩ | refine ⟨by (show some (Value.bool _) = some (Value.bool _); congr 2; all_goals ((first | rfl | (exact (decide_eq_false (by omega)).symm) | (exact (decide_eq_false (by omega))) | omega))), ?_⟩))
             · rfl
     rintro _ -
     refine go [24,6,4] ?_
     refine Ls.qE 42 (Ev.addI rfl (by rfl) (by rfl) (by omega)) ?_
     refine go [0,2] ?_
     refine Ent.iA (k + 1) ?_
     (try dsimp only); exact ⟨⟨hlt, fun y hy => by rw [List.take_add_one, hx] at hy; rcases List.mem_append.1 hy with hy | hy; exact hall y hy; exact (List.mem_singleton.1 hy) ▸ hok⟩, by omega⟩
   · have hok2 := hok
     unfold okB at hok2
     refine Cd.cut (ι := Unit) (fun _ => [(0, .string (txt q)), (13, .int .i64 q.length), (14, .int .i64 k), (41, .bool true)]) (fun _ => []) (fun _ => True) ?_ ?_
     · refine go [4,0,16,0] ?_
       refine Ent.split 22 (by rfl) (fun hT1 => ?_) (fun hT1 => ?_)
       · first | have hT1 := of_decide_eq_false hT1 | have hT1 := of_not_decide_false hT1 | skip
         refine go [0,18,10,0] ?_
         refine Ent.split 26 (by rfl) (fun hT2 => ?_) (fun hT2 => ?_)
         · first | have hT2 := of_decide_eq_false hT2 | have hT2 := of_not_decide_false hT2 | skip
           refine go [1,1,1,1,1,1,10,0,1,1,10,0,1,1,10,2] ?_
           refine Ent.inv () ?_ ?_ ?_
           · exact trivial
           · (repeat (first | exact trivial | refine ⟨by rfl, ?_⟩ | refine ⟨by simp only [lenS]; rfl, ?_⟩ | refine ⟨by push_cast; rfl, ?_⟩ | refine ⟨by (show some (Value.bool _) = some (Value.bool _); congr 2; all_goals ((first | rfl | (exact (decide_eq_true (by omega)).symm) | (exact (decide_eq_true (by omega))) | omega))), ?_⟩))
           · rfl
         · first | have hT2 := of_decide_eq_true hT2 | have hT2 := of_not_decide_true hT2 | skip
           refine go [0,16,0] ?_
           refine Ent.split 29 (by rfl) (fun hT3 => ?_) (fun hT3 => ?_)
           · first | have hT3 := of_decide_eq_false hT3 | have hT3 := of_not_decide_false hT3 | skip
             refine go [0,18,10,9,0] ?_
             refine Ent.split 34 (by rfl) (fun hT4 => ?_) (fun hT4 => ?_)
             · first | have hT4 := of_decide_eq_false hT4 | have hT4 := of_not_decide_false hT4 | skip
               refine go [1,1,10,0,1,1,10,2] ?_
               refine Ent.inv () ?_ ?_ ?_
               · exact trivial
               · (repeat (first | exact trivial | refine ⟨by rfl, ?_⟩ | refine ⟨by simp only [lenS]; rfl, ?_⟩ | refine ⟨by push_cast; rfl, ?_⟩ | refine ⟨by (show some (Value.bool _) = some (Value.bool _); congr 2; all_goals ((first | rfl | (exact (decide_eq_true (by omega)).symm) | (exact (decide_eq_true (by omega))) | omega))), ?_⟩))
               · rfl
             · first | have hT4 := of_decide_eq_true hT4 | have hT4 := of_not_decide_true hT4 | skip
               refine go [0,17,9,0] ?_
               refine Ent.split 38 (by rfl) (fun hT5 => ?_) (fun hT5 => ?_)
               · first | have hT5 := of_decide_eq_false hT5 | have hT5 := of_not_decide_false hT5 | skip
                 refine go [1,1,10,2] ?_
                 refine Ent.inv () ?_ ?_ ?_
                 · exact trivial
                 · (repeat (first | exact trivial | refine ⟨by rfl, ?_⟩ | refine ⟨by simp only [lenS]; rfl, ?_⟩ | refine ⟨by push_cast; rfl, ?_⟩ | refine ⟨by (show some (Value.bool _) = some (Value.bool _); congr 2; all_goals ((first | rfl | (exact (decide_eq_true (by omega)).symm) | (exact (decide_eq_true (by omega))) | omega))), ?_⟩))
                 · rfl
               · first | have hT5 := of_decide_eq_true hT5 | have hT5 := of_not_decide_true hT5 | skip
                 refine go [0,17,9,2] ?_
                 refine Ent.inv () ?_ ?_ ?_
                 · exact trivial
                 · (repeat (first | exact trivial | refine ⟨by rfl, ?_⟩ | refine ⟨by simp only [lenS]; rfl, ?_⟩ | refine ⟨by push_cast; rfl, ?_⟩ | refine ⟨by (show some (Value.bool _) = some (Value.bool _); congr 2; all_goals ((first | rfl | (exact (decide_eq_true (by omega)).symm) | (exact (decide_eq_true (by omega))) | omega))), ?_⟩))
                 · rfl
           · first | have hT3 := of_decide_eq_true hT3 | have hT3 := of_not_decide_true hT3 | skip
             refine go [1,1,9,9,0,0,17,9,0] ?_
             refine Ent.split 38 (by rfl) (fun hT4 => ?_) (fun hT4 => ?_)
             · first | have hT4 := of_decide_eq_false hT4 | have hT4 := of_not_decide_false hT4 | skip
               refine go [1,1,10,2] ?_
               refine Ent.inv () ?_ ?_ ?_
               · exact trivial
               · (repeat (first | exact trivial | refine ⟨by rfl, ?_⟩ | refine ⟨by simp only [lenS]; rfl, ?_⟩ | refine ⟨by push_cast; rfl, ?_⟩ | refine ⟨by (show some (Value.bool _) = some (Value.bool _); congr 2; all_goals ((first | rfl | (exact (decide_eq_true (by omega)).symm) | (exact (decide_eq_true (by omega))) | omega))), ?_⟩))
               · rfl
             · first | have hT4 := of_decide_eq_true hT4 | have hT4 := of_not_decide_true hT4 | skip
               refine go [0,17,9,2] ?_
               refine Ent.inv () ?_ ?_ ?_
               · exact trivial
               · (repeat (first | exact trivial | refine ⟨by rfl, ?_⟩ | refine ⟨by simp only [lenS]; rfl, ?_⟩ | refine ⟨by push_cast; rfl, ?_⟩ | refine ⟨by (show some (Value.bool _) = some (Value.bool _); congr 2; all_goals ((first | rfl | (exact (decide_eq_true (by omega)).symm) | (exact (decide_eq_true (by omega))) | omega))), ?_⟩))
               · rfl
       · first | have hT1 := of_decide_eq_true hT1 | have hT1 := of_not_decide_true hT1 | skip
         refine go [1,1,9,0,0,16,0] ?_
         refine Ent.split 29 (by rfl) (fun hT2 => ?_) (fun hT2 => ?_)
         · first | have hT2 := of_decide_eq_false hT2 | have hT2 := of_not_decide_false hT2 | skip
           refine go [0,18,10,9,0] ?_
           refine Ent.split 34 (by rfl) (fun hT3 => ?_) (fun hT3 => ?_)
           · first | have hT3 := of_decide_eq_false hT3 | have hT3 := of_not_decide_false hT3 | skip
             refine go [1,1,10,0,1,1,10,2] ?_
             refine Ent.inv () ?_ ?_ ?_
             · exact trivial
             · (repeat (first | exact trivial | refine ⟨by rfl, ?_⟩ | refine ⟨by simp only [lenS]; rfl, ?_⟩ | refine ⟨by push_cast; rfl, ?_⟩ | refine ⟨by (show some (Value.bool _) = some (Value.bool _); congr 2; all_goals ((first | rfl | (exact (decide_eq_true (by omega)).symm) | (exact (decide_eq_true (by omega))) | omega))), ?_⟩))
             · rfl
           · first | have hT3 := of_decide_eq_true hT3 | have hT3 := of_not_decide_true hT3 | skip
             refine go [0,17,9,0] ?_
             refine Ent.split 38 (by rfl) (fun hT4 => ?_) (fun hT4 => ?_)
             · first | have hT4 := of_decide_eq_false hT4 | have hT4 := of_not_decide_false hT4 | skip
               refine go [1,1,10,2] ?_
               refine Ent.inv () ?_ ?_ ?_
               · exact trivial
               · (repeat (first | exact trivial | refine ⟨by rfl, ?_⟩ | refine ⟨by simp only [lenS]; rfl, ?_⟩ | refine ⟨by push_cast; rfl, ?_⟩ | refine ⟨by (show some (Value.bool _) = some (Value.bool _); congr 2; all_goals ((first | rfl | (exact (decide_eq_true (by omega)).symm) | (exact (decide_eq_true (by omega))) | omega))), ?_⟩))
               · rfl
             · first | have hT4 := of_decide_eq_true hT4 | have hT4 := of_not_decide_true hT4 | skip
               refine go [0,17,9,2] ?_
               refine Ent.inv () ?_ ?_ ?_
               · exact trivial
               · (repeat (first | exact trivial | refine ⟨by rfl, ?_⟩ | refine ⟨by simp only [lenS]; rfl, ?_⟩ | refine ⟨by push_cast; rfl, ?_⟩ | refine ⟨by (show some (Value.bool _) = some (Value.bool _); congr 2; all_goals ((first | rfl | (exact (decide_eq_true (by omega)).symm) | (exact (decide_eq_true (by omega))) | omega))), ?_⟩))
               · rfl
         · first | have hT2 := of_decide_eq_true hT2 | have hT2 := of_not_decide_true hT2 | skip
           refine go [1,1,9,9,0,0,17,9,0] ?_
           refine Ent.split 38 (by rfl) (fun hT3 => ?_) (fun hT3 => ?_)
           · first | have hT3 := of_decide_eq_false hT3 | have hT3 := of_not_decide_false hT3 | skip
             refine go [1,1,10,2] ?_
             refine Ent.inv () ?_ ?_ ?_
             · exact trivial
             · (repeat (first | exact trivial | refine ⟨by rfl, ?_⟩ | refine ⟨by simp only [lenS]; rfl, ?_⟩ | refine ⟨by push_cast; rfl, ?_⟩ | refine ⟨by (show some (Value.bool _) = some (Value.bool _); congr 2; all_goals ((first | rfl | (exact (decide_eq_true (by omega)).symm) | (exact (decide_eq_true (by omega))) | omega))), ?_⟩))
             · rfl
           · first | have hT3 := of_decide_eq_true hT3 | have hT3 := of_not_decide_true hT3 | skip
             refine go [0,17,9,2] ?_
             refine Ent.inv () ?_ ?_ ?_
             · exact trivial
             · (repeat (first | exact trivial | refine ⟨by rfl, ?_⟩ | refine ⟨by simp only [lenS]; rfl, ?_⟩ | refine ⟨by push_cast; rfl, ?_⟩ | refine ⟨by (show some (Value.bool _) = some (Value.bool _); congr 2; all_goals ((first | rfl | (exact (decide_eq_true (by omega)).symm) | (exact (decide_eq_true (by omega))) | omega))), ?_⟩))
             · rfl
     rintro _ -
     refine go [23,3,4,5,2,22] ?_
     refine Ent.ret (()) (trivial) (Res.tmp (by rfl) (by rfl)) ?_ [] (by rfl) ?_
     · show Value.bool false = _
       rw [decide_eq_false (fun h : Good q => hok (h.all x (List.mem_of_getElem? hx)))]
     · rfl
 · have hge : q.length ≤ k := by have := of_decide_eq_false h; omega
   rw [List.take_of_length_le hge] at hall
   refine Cd.exit ?_
   refine go [3,4,5,2,22] ?_
   refine Ent.ret (()) (trivial) (Res.tmp (by rfl) (by rfl)) ?_ [] (by rfl) ?_
   · show Value.bool true = _
     rw [decide_eq_true (⟨h1, h2, hall⟩ : Good q)]
   · rfl
section
variable {Γ : Ctx} {N : Frm} {P : Program} {E : Env} {H : List Chunk} {o : Oper} {x y : Operand}
theorem Ev.nilEq {t t' : TypeId} {e : TypeId} (ho : o.op = .binOp .eql t x y t') (hx : E.ev x = some (.pointer none)) (hy : E.ev y = some (.pointer none)) (ht : P.underlying t = some (.pointer e)) : Ev Γ N P E H o (.bool true) :=
 .bin ho hx hy (fun _ => rfl) (fun w => by
  have : (Op.equal t (.pointer none) (.pointer none)).run P w = .ok true w := by
   show (Op.equalIn (9999 + 1) t _ _).run P w = _
   unfold Op.equalIn
   simp [run_underlying ht]
  simp [binOp, this])
theorem Ev.nilNe {t t' : TypeId} {e : TypeId} (ho : o.op = .binOp .neq t x y t') (hx : E.ev x = some (.pointer none)) (hy : E.ev y = some (.pointer none)) (ht : P.underlying t = some (.pointer e)) : Ev Γ N P E H o (.bool false) :=
 .bin ho hx hy (fun _ => rfl) (fun w => by
  have : (Op.equal t (.pointer none) (.pointer none)).run P w = .ok true w := by
   show (Op.equalIn (9999 + 1) t _ _).run P w = _
   unfold Op.equalIn
   simp [run_underlying ht]
  simp [binOp, this])
end
section
variable {P : Program} {f : FuncId} {args : Array Value} {H : List Chunk}
theorem sat_nil {w w' : World} (hb : Below w.heap.size w w') : Sat ⟨w, H⟩ [] w' :=
 ⟨Upd.of_below hb, ⟨fun _ h => (List.not_mem_nil h).elim, List.Pairwise.nil⟩, fun _ h => (List.not_mem_nil h).elim⟩
theorem sat_row {w w' : World} {A : Option Addr} {n c e sz : Nat} {xs : List Value} (ho : Own w' w.heap.size e sz A n c xs) (hb : Below w.heap.size w w') : Sat ⟨w, H⟩ [row A n c e sz xs] w' :=
 ⟨Upd.of_below hb, ⟨fun C hC => by
  obtain rfl : C = _ := by simpa using hC
  exact ho.mono (Nat.zero_le _), List.pairwise_singleton _ _⟩, fun C hC => by
  obtain rfl : C = _ := by simpa using hC
  intro k hk hlt
  have := (ho.ge k hk).1
  dsimp only at hlt
  omega⟩
theorem Fn.of_same {v : Value} (h : ∀ w, Sat0 H w → Calls P f args w fun e w' => e = .returned v ∧ w = w') : Fn P f args H Unit (fun _ => v) (fun _ => []) (fun _ => True) := fun w hs =>
 (h w hs).mono fun e w' ⟨he, hw⟩ => ⟨(), trivial, he, by subst hw; exact sat_nil (Below.refl _ _)⟩
theorem Fn.of_below {v : Value} (h : ∀ w, Sat0 H w → Calls P f args w fun e w' => e = .returned v ∧ Below w.heap.size w w') : Fn P f args H Unit (fun _ => v) (fun _ => []) (fun _ => True) := fun w hs =>
 (h w hs).mono fun _ _ ⟨he, hb⟩ => ⟨(), trivial, he, sat_nil hb⟩
theorem Fn.of_own {res : Option Addr × Nat → Value} {n e sz : Nat} {xs : List Value} (h : ∀ w, Sat0 H w → Calls P f args w fun e' w' => ∃ A c, e' = .returned (res (A, c)) ∧ Own w' w.heap.size e sz A n c xs ∧ Below w.heap.size w w') : Fn P f args H (Option Addr × Nat) res (fun p => [row p.1 n p.2 e sz xs]) (fun _ => True) := fun w hs =>
 (h w hs).mono fun _ _ ⟨A, c, he, ho, hb⟩ => ⟨(A, c), trivial, he, sat_row ho hb⟩
theorem sat_rd {w : World} {A : Option Addr} {n sz : Nat} {xs : List Value} (i : Nat) (hi : H[i]? = some (rd A n sz xs)) (h : Sat0 H w) : Reads w w.heap.size sz A n xs := h.1 _ (List.mem_of_getElem? hi)
end
abbrev DrS.ptr (D : DrS) : Value := .pointer (some ⟨D.d, 0, none⟩)
def DrS.dead (D : DrS) : Bool := D.armed && decide (D.left ≤ 0)
theorem Drv.dead {D : DrS} {P : DrP} (h : Drv D P) : D.dead = P.dead := by
 have h1 := h.armed
 have h2 := h.left
 unfold DrS.dead DrP.dead
 rw [h1]
 cases hl : P.left with
 | none => simp
 | some n => rw [h2 n hl]; simp
def DrS.stepD (D : DrS) : DrS := { D with steps := IntKind.i64.wrap (D.steps + 1), left := IntKind.i64.wrap (D.left - 1) }
theorem Drv.step {D : DrS} {P : DrP} (h : Drv D P) (hd : P.dead = false) : Drv D.stepD P.step := ⟨h.ok.step, h.fs, by show IntKind.i64.wrap (D.steps + 1) = IntKind.i64.wrap (P.steps + 1); rw [h.steps], by
 show D.armed = (P.left.map (· - 1)).isSome
 rw [h.armed, Option.isSome_map], fun n hn => by
 cases hl : P.left with
 | none => rw [DrP.step, hl] at hn; cases hn
 | some m =>
  rw [DrP.step, hl] at hn
  have h1 := h.left m hl
  have h2 := h.ok.left m hl
  have h3 : m - 1 = n := Option.some.inj hn
  have h4 : m ≠ 0 := fun e => by rw [DrP.dead, hl, e] at hd; simp at hd
  show IntKind.i64.wrap (D.left - 1) = n
  rw [h1, IntKind.wrap_i64]
  omega⟩
theorem dead_sl {D : DrS} {P : DrP} (h : Drv D P) : Fn Tryz.prog 75 #[D.ptr] [D.rB] Unit (fun _ => .bool P.dead) (fun _ => []) (fun _ => True) := by
 rw [← h.dead]
 clear h
 obtain ⟨d, m, fs, steps, armed, left⟩ := D
 dsimp only [DrS.rB, DrS.cs, DrS.dead, DrS.ptr]
 refine Fn.enter Tryz.func75 rfl Tryz.ntmps75 (by rfl) ?_
 intro w0
 cases armed
 · refine go [3,4,5,25,0,14,7,2,13,0,0,1,1,1,1,1,10,5,2,22] ?_
   exact Ent.rA (()) [] trivial rT_
 · refine go [3,4,5,25,0,14,7,2,13,0,0,0,14,7,3,13,0] ?_
   refine Ls.qE 12 (Ev.leq rfl (by rfl) (by rfl)) ?_
   refine go [9,5,2,22] ?_
   exact Ent.rA (()) [] trivial rT_
theorem step_dead {D : DrS} {P : DrP} (h : Drv D P) (hd : P.dead = true) : Fn Tryz.prog 98 #[D.ptr] [D.rB] Unit (fun _ => .int .i64 6) (fun _ => []) (fun _ => True) := by
 refine Fn.enter Tryz.func98 rfl Tryz.ntmps98 (by rfl) ?_
 intro w0
 refine go [3,4,5,2,3,3,4,0] ?_
 refine Ls.does (some 4) (Does.read rfl Tryz.func75 (by kernel_rfl) (by kernel_rfl) (dead_sl h) (by rfl) (by rfl) ⟨rblkIn 0 (by rfl), trivial⟩) (by rfl) (by rfl) ?_
 rintro _ -
 rw [hd]
 refine go [2,23,3,4,5,2,22] ?_
 exact Ent.rA (()) [] trivial rT_
theorem step_ok {D : DrS} {P : DrP} (h : Drv D P) (hd : P.dead = false) : Fn Tryz.prog 98 #[D.ptr] [D.B] Unit (fun _ => .int .i64 0) (fun _ => [D.stepD.B]) (fun _ => True) := by
 refine Fn.enter Tryz.func98 rfl Tryz.ntmps98 (by rfl) ?_
 intro w0
 refine go [3,4,5,2,3,3,4,0] ?_
 refine Ls.does (some 4) (Does.read rfl Tryz.func75 (by kernel_rfl) (by kernel_rfl) (dead_sl h) (by rfl) (by rfl) ⟨blkIn 0 (by rfl), trivial⟩) (by rfl) (by rfl) ?_
 rintro _ -
 rw [hd]
 refine go [2,24,6,3,4,0,14,7,3,8,0] ?_
 refine Ls.qE 9 (Ev.sub rfl (by rfl) (by rfl)) ?_
 refine go [14,7,3,15,0,25,0,14,7,1,8,0] ?_
 refine Ls.qE 16 (Ev.add rfl (by rfl) (by rfl)) ?_
 refine go [14,7,1,15,0,25,5,2,22] ?_
 exact Ent.rA (()) [0] trivial rT_
theorem find_hit (D : DrS) (q : List UInt8) (hq : Good q) (f : FiS) (hf : findF D.fs q = some f) : Fn Tryz.prog 86 #[D.ptr, .string (txt q)] [D.rB, D.rM] Unit (fun _ => .tuple #[.pointer (some ⟨f.g, 0, none⟩), .int .i64 0]) (fun _ => []) (fun _ => True) := by
 have hp := ptr_hit hf
 have hl := hq.len
 refine Fn.enter Tryz.func86 rfl Tryz.ntmps86 (by rfl) ?_
 intro w0
 refine go [3,4,5,5,2,3,3,4,0] ?_
 refine Ls.does (some 8) (Does.read rfl Tryz.func60 (by kernel_rfl) (by kernel_rfl) (good_sl q) (by rfl) (by rfl) trivial) (by rfl) (by rfl) ?_
 rintro _ -
 refine go [20,2] ?_
 refine Cd.cond_false (by rfl) ((by rw [decide_eq_true hq]; rfl)) ?_
 refine go [6,3,4,0,14,7,0,13,0,0] ?_
 refine Ls.qE 15 (Ev.to (Ev.lookT (rmapIn_ 1 (by rfl)) rfl (by rfl) (by rfl) Tryz.underlying9 Tryz.underlying86 (zero_of (by kernel_rfl)) (by unfold maxLen; omega)) hp) ?_
 refine go [5,2,3,3,4,0] ?_
 refine Ls.qE 17 (Ev.ptrNil rfl (by rfl) (by rfl) Tryz.underlying109) ?_
 refine go [2,24,6,3,4,0,5,5,2,22] ?_
 exact Ent.rA (()) [] trivial (Res.tmp2 (by rfl) (by rfl) (by rfl))
theorem find_miss (D : DrS) (q : List UInt8) (hq : Good q) (hf : findF D.fs q = none) : Fn Tryz.prog 86 #[D.ptr, .string (txt q)] [D.rB, D.rM] Unit (fun _ => .tuple #[.pointer none, .int .i64 4]) (fun _ => []) (fun _ => True) := by
 have hp := ptr_miss hf
 have hl := hq.len
 refine Fn.enter Tryz.func86 rfl Tryz.ntmps86 (by rfl) ?_
 intro w0
 refine go [3,4,5,5,2,3,3,4,0] ?_
 refine Ls.does (some 8) (Does.read rfl Tryz.func60 (by kernel_rfl) (by kernel_rfl) (good_sl q) (by rfl) (by rfl) trivial) (by rfl) (by rfl) ?_
 rintro _ -
 refine go [20,2] ?_
 refine Cd.cond_false (by rfl) ((by rw [decide_eq_true hq]; rfl)) ?_
 refine go [6,3,4,0,14,7,0,13,0,0] ?_
 refine Ls.qE 15 (Ev.to (Ev.lookT (rmapIn_ 1 (by rfl)) rfl (by rfl) (by rfl) Tryz.underlying9 Tryz.underlying86 (zero_of (by kernel_rfl)) (by unfold maxLen; omega)) hp) ?_
 refine go [5,2,3,3,4,0] ?_
 refine Ls.qE 17 (Ev.nilEq rfl (by rfl) (by rfl) Tryz.underlying109) ?_
 refine go [2,23,3,4,5,5,2,22] ?_
 exact Ent.rA (()) [] trivial (Res.tmp2 (by rfl) (by rfl) (by rfl))
theorem find_bad (D : DrS) (q : List UInt8) (hq : ¬ Good q) : Fn Tryz.prog 86 #[D.ptr, .string (txt q)] [] Unit (fun _ => .tuple #[.pointer none, .int .i64 20]) (fun _ => []) (fun _ => True) := by
 refine Fn.enter Tryz.func86 rfl Tryz.ntmps86 (by rfl) ?_
 intro w0
 refine go [3,4,5,5,2,3,3,4,0] ?_
 refine Ls.does (some 8) (Does.read rfl Tryz.func60 (by kernel_rfl) (by kernel_rfl) (good_sl q) (by rfl) (by rfl) trivial) (by rfl) (by rfl) ?_
 rintro _ -
 refine go [20,2] ?_
 refine Cd.cond_true (by rfl) ((by rw [decide_eq_false hq]; rfl)) ?_
 refine go [3,4,5,5,2,22] ?_
 exact Ent.rA (()) [] trivial (Res.tmp2 (by rfl) (by rfl) (by rfl))
theorem size_sl {D : DrS} {P : DrP} (h : Drv D P) (q : List UInt8) (hl : q.length ≤ 32) : Fn Tryz.prog 33 #[D.ptr, .string (txt q)] [D.rB, D.rM, D.rF] Unit (fun _ => .int .i64 (P.bytes q).length) (fun _ => []) (fun _ => True) := by
 unfold DrP.bytes
 rw [h.find]
 cases hf : findF D.fs q with
 | some f =>
  have hp := ptr_hit hf
  dsimp only [Option.map_some]
  refine Fn.enter Tryz.func33 rfl Tryz.ntmps33 (by rfl) ?_
  intro w0
  refine Ent.map (fun w hs => filGet 2 rfl (findG_some hf).1 hs) ?_
  refine go [3,4,5,2,3,3,4,0,14,7,0,13,2,0] ?_
  refine Ls.qE 11 (Ev.to (Ev.lookT (rmapIn_ 3 (by rfl)) rfl (by rfl) (by rfl) Tryz.underlying9 Tryz.underlying86 (zero_of (by kernel_rfl)) (by unfold maxLen; omega)) hp) ?_
  refine go [5,25,0] ?_
  refine Ls.qE 13 (Ev.ptrSome rfl (by rfl) (by rfl) Tryz.underlying109) ?_
  refine go [2,23,3,4,0,14,7,0,13,0] ?_
  refine Ls.qE 18 (Ev.len rfl (by rfl) Tryz.underlying47) ?_
  refine go [5,2,22] ?_
  exact Ent.rA (()) [] trivial rT_
 | none =>
  have hp := ptr_miss hf
  dsimp only [Option.map_none]
  refine Fn.enter Tryz.func33 rfl Tryz.ntmps33 (by rfl) ?_
  intro w0
  refine go [3,4,5,2,3,3,4,0,14,7,0,13,0,0] ?_
  refine Ls.qE 11 (Ev.to (Ev.lookT (rmapIn_ 1 (by rfl)) rfl (by rfl) (by rfl) Tryz.underlying9 Tryz.underlying86 (zero_of (by kernel_rfl)) (by unfold maxLen; omega)) hp) ?_
  refine go [5,25,0] ?_
  refine Ls.qE 13 (Ev.nilNe rfl (by rfl) (by rfl) Tryz.underlying109) ?_
  refine go [2,24,6,3,4,5,2,22] ?_
  exact Ent.rA (()) [] trivial rT_
theorem loose_sl {D : DrS} {P : DrP} (h : Drv D P) (q : List UInt8) (hl : q.length ≤ 32) : Fn Tryz.prog 77 #[D.ptr, .string (txt q)] [D.rB, D.rM, D.rF] Unit (fun _ => .int .i64 (P.loose q)) (fun _ => []) (fun _ => True) := by
 unfold DrP.loose
 rw [h.find]
 cases hf : findF D.fs q with
 | some f =>
  have hp := ptr_hit hf
  have h1 := h.ok.sync _ (h.mem (findG_some hf).1)
  have h3 := h.ok.size _ (h.mem (findG_some hf).1)
  have hw : IntKind.i64.wrap ((f.p.b.length : Int) - (f.p.sy : Int)) = ((f.p.b.length - f.p.sy : Nat) : Int) := by rw [IntKind.wrap_i64]; omega
  dsimp only [Option.map_some]
  refine Fn.enter Tryz.func77 rfl Tryz.ntmps77 (by rfl) ?_
  intro w0
  refine Ent.map (fun w hs => filGet 2 rfl (findG_some hf).1 hs) ?_
  refine go [3,4,5,2,3,3,4,0,14,7,0,13,2,0] ?_
  refine Ls.qE 11 (Ev.to (Ev.lookT (rmapIn_ 3 (by rfl)) rfl (by rfl) (by rfl) Tryz.underlying9 Tryz.underlying86 (zero_of (by kernel_rfl)) (by unfold maxLen; omega)) hp) ?_
  refine go [5,25,0] ?_
  refine Ls.qE 13 (Ev.ptrSome rfl (by rfl) (by rfl) Tryz.underlying109) ?_
  refine go [2,23,3] ?_
  refine Cd.draw [] (by kernel_rfl) ?_
  refine Rg.qE 0 14 (by rfl) (Ev.move rfl (by rfl)) ?_
  refine Rg.qE 1 15 (by rfl) (Ev.nilCheck rfl (by rfl)) ?_
  refine Rg.qE 2 16 (by rfl) (Ev.fieldAddr (k := 0) rfl (by rfl) (by kernel_rfl) (by rfl)) ?_
  refine Rg.qE 3 17 (by rfl) (Ev.loadB 0 rfl (by rfl) (by rfl) (by kernel_rfl) (by rfl)) ?_
  refine Rg.qE 4 18 (by rfl) (Ev.len rfl (by rfl) Tryz.underlying47) ?_
  refine Rg.qE 5 19 (by rfl) (Ev.move rfl (by rfl)) ?_
  refine Rg.qE 6 20 (by rfl) (Ev.nilCheck rfl (by rfl)) ?_
  refine Rg.qE 7 21 (by rfl) (Ev.fieldAddr (k := 1) rfl (by rfl) (by kernel_rfl) (by rfl)) ?_
  refine Rg.qE 8 22 (by rfl) (Ev.loadB 0 rfl (by rfl) (by rfl) (by kernel_rfl) (by rfl)) ?_
  refine Rg.qE 9 23 (by rfl) (Ev.sub rfl (by rfl) (by rfl)) ?_
  refine Rg.qE 10 4 (by rfl) (Ev.assign rfl (by rfl)) ?_
  refine Rg.done (by kernel_rfl) ?_ _
  refine Cd.ret ?_
  refine Ent.ret (()) (trivial) (Res.tmp (by rfl) (by rfl)) ?_ [] (by rfl) ?_
  · first | rfl | exact congrArg (Value.int .i64) hw | exact congrArg (Value.int .i64) (by omega)
  · rfl
 | none =>
  have hp := ptr_miss hf
  dsimp only [Option.map_none]
  refine Fn.enter Tryz.func77 rfl Tryz.ntmps77 (by rfl) ?_
  intro w0
  refine go [3,4,5,2,3,3,4,0,14,7,0,13,0,0] ?_
  refine Ls.qE 11 (Ev.to (Ev.lookT (rmapIn_ 1 (by rfl)) rfl (by rfl) (by rfl) Tryz.underlying9 Tryz.underlying86 (zero_of (by kernel_rfl)) (by unfold maxLen; omega)) hp) ?_
  refine go [5,25,0] ?_
  refine Ls.qE 13 (Ev.nilNe rfl (by rfl) (by rfl) Tryz.underlying109) ?_
  refine go [2,24,6,3,4,5,2,22] ?_
  exact Ent.rA (()) [] trivial rT_
theorem steps_sl {D : DrS} {P : DrP} (h : Drv D P) : Fn Tryz.prog 26 #[D.ptr] [D.rB] Unit (fun _ => .int .i64 P.steps) (fun _ => []) (fun _ => True) := by
 rw [← h.steps]
 refine Fn.enter Tryz.func26 rfl Tryz.ntmps26 (by rfl) ?_
 intro w0
 refine go [3,4,5,25,0,14,7,1,13,0,5,2,22] ?_
 exact Ent.rA (()) [] trivial rT_
abbrev rowB (A : Option Addr) (c : Nat) (l : List UInt8) : Chunk := row A l.length c 5 1 (u8s l)
abbrev rdB (A : Option Addr) (l : List UInt8) : Chunk := rd A l.length 1 (u8s l)
theorem clone_sl (A : Option Addr) (c : Nat) (l : List UInt8) (hn : l.length ≤ 1048576) : Fn Tryz.prog 61 #[.slice A l.length c] [rdB A l] (Option Addr × Nat) (fun p => .slice p.1 l.length p.2) (fun p => [rowB p.1 p.2 l]) (fun _ => True) :=
 Fn.of_own (res := fun p => .slice p.1 l.length p.2) fun w hs => clone_any A l.length c l w (sat_rd 0 rfl hs) (by omega)
theorem read_sl {D : DrS} {P : DrP} (h : Drv D P) (q : List UInt8) (hq : Good q) {f : FiP} (hf : P.find q = some f) : Fn Tryz.prog 44 #[D.ptr, .string (txt q)] [D.rB, D.rM, D.rF] (Option Addr × Nat) (fun p => .tuple #[.slice p.1 f.b.length p.2, .int .i64 0]) (fun p => [rowB p.1 p.2 f.b]) (fun _ => True) := by
 obtain ⟨f, hf2, rfl⟩ := h.hit hf
 have hb := h.ok.size _ (h.mem (findG_some hf2).1)
 refine Fn.enter Tryz.func44 rfl Tryz.ntmps44 (by rfl) ?_
 intro w0
 refine Ent.map (fun w hs => filGet 2 rfl (findG_some hf2).1 hs) ?_
 refine go [3,4,5,5,25,0,0] ?_
 refine Ls.does (some 11) (Does.read rfl Tryz.func86 (by kernel_rfl) (by kernel_rfl) (find_hit D q hq f hf2) (by rfl) (by rfl) ⟨rblkIn 2 (by rfl), rmapIn_ 3 (by rfl), trivial⟩) (by rfl) (by rfl) ?_
 rintro _ -
 refine go [0,11,11,5,5,2,3,3,4,0,17,2] ?_
 refine Cd.cond_false (by rfl) (decide_eq_false (show ¬ ((0 : Int) ≠ 0) from fun h => h rfl)) ?_
 refine go [6,3,4,0,14,7,0,13,0] ?_
 refine Ls.does (some 21) (Does.readN rfl Tryz.func61 (by kernel_rfl) (by kernel_rfl) (clone_sl f.A f.c f.b (by show f.p.b.length ≤ _; omega)) (by rfl) (by rfl) ⟨ReadsIn.rd 1 (by rfl), trivial⟩ (fun _ => by rfl)) (by rfl) (by rfl) ?_
 rintro p -
 refine go [5,5,2,22] ?_
 exact Ent.rA (p) [0] trivial (Res.tmp2 (by rfl) (by rfl) (by rfl))
theorem read_miss {D : DrS} {P : DrP} (h : Drv D P) (q : List UInt8) (hf : P.find q = none) : Fn Tryz.prog 44 #[D.ptr, .string (txt q)] [D.rB, D.rM] Unit (fun _ => .tuple #[.slice none 0 0, .int .i64 (if Good q then 4 else 20)]) (fun _ => []) (fun _ => True) := by
 have hf := h.miss hf
 by_cases hq : Good q
 · rw [if_pos hq]
   refine Fn.enter Tryz.func44 rfl Tryz.ntmps44 (by rfl) ?_
   intro w0
   refine go [3,4,5,5,25,0,0] ?_
   refine Ls.does (some 11) (Does.read rfl Tryz.func86 (by kernel_rfl) (by kernel_rfl) (find_miss D q hq hf) (by rfl) (by rfl) ⟨rblkIn 0 (by rfl), rmapIn_ 1 (by rfl), trivial⟩) (by rfl) (by rfl) ?_
   rintro _ -
   refine go [0,11,11,5,5,2,3,3,4,0,17,2] ?_
   refine Cd.cond_true (by rfl) (decide_eq_true (show ((4 : Int) ≠ 0) by decide)) ?_
   refine go [3,4,0,5,5,2,22] ?_
   exact Ent.rA (()) [] trivial (Res.tmp2 (by rfl) (by rfl) (by rfl))
 · rw [if_neg hq]
   refine Fn.enter Tryz.func44 rfl Tryz.ntmps44 (by rfl) ?_
   intro w0
   refine go [3,4,5,5,25,0,0] ?_
   refine Ls.does (some 11) (Does.read rfl Tryz.func86 (by kernel_rfl) (by kernel_rfl) (find_bad D q hq) (by rfl) (by rfl) trivial) (by rfl) (by rfl) ?_
   rintro _ -
   refine go [0,11,11,5,5,2,3,3,4,0,17,2] ?_
   refine Cd.cond_true (by rfl) (decide_eq_true (show ((20 : Int) ≠ 0) by decide)) ?_
   refine go [3,4,0,5,5,2,22] ?_
   exact Ent.rA (()) [] trivial (Res.tmp2 (by rfl) (by rfl) (by rfl))
section
variable {P : Program} {f : FuncId} {args : Array Value} {H : List Chunk} {ι ι' : Type} {res : ι → Value} {H' : ι → List Chunk} {φ : ι → Prop} {res' : ι' → Value} {H'' : ι' → List Chunk} {φ' : ι' → Prop}
theorem Fn.turn (h : Fn P f args H ι res H' φ) (hi : ∀ i, φ i → ∃ j, φ' j ∧ res i = res' j ∧ ∀ Γ w, Sat Γ (H' i) w → Sat Γ (H'' j) w) : Fn P f args H ι' res' H'' φ' := fun w hs =>
 (h w hs).mono fun e w' ⟨i, h1, h2, h3⟩ => by
  obtain ⟨j, k1, k2, k3⟩ := hi i h1
  exact ⟨j, k1, by rw [h2, k2], k3 _ _ h3⟩
end
section
variable {Γ : Ctx} {H : List Chunk} {w : World} {α : Type} {F G : α → Chunk}
theorem fam_perm {a b : List α} {z : α} : (((a ++ z :: b).flatMap fun z => [F z, G z])).Perm (F z :: G z :: ((a ++ b).flatMap fun z => [F z, G z])) := by
 rw [List.flatMap_append, List.flatMap_cons, List.flatMap_append]
 exact (List.perm_append_comm_assoc _ [F z, G z] _)
theorem fam_ex (hF : ∀ z, (F z).excl = true) (hG : ∀ z, (G z).excl = true) {l : List α} : ∀ C ∈ (l.flatMap fun z => [F z, G z]), C.excl = true := fun C hC => by
 obtain ⟨y, _, hC⟩ := List.mem_flatMap.1 hC
 rcases List.mem_cons.1 hC with rfl | hC
 · exact hF y
 · rw [List.mem_singleton.1 hC]
   exact hG y
theorem fam_open (hF : ∀ z, (F z).excl = true) (hG : ∀ z, (G z).excl = true) {a b : List α} {z : α} (h : Sat Γ (starx ((a ++ z :: b).flatMap fun z => [F z, G z]) :: H) w) : Sat Γ (F z :: G z :: starx ((a ++ b).flatMap fun z => [F z, G z]) :: H) w := by
 have h1 := (Sat.starx_open h).perm (List.Perm.append_right H fam_perm)
 have h2 : Sat Γ (((a ++ b).flatMap fun z => [F z, G z]) ++ (F z :: G z :: H)) w := h1.perm (by
  show (F z :: G z :: (((a ++ b).flatMap fun z => [F z, G z]) ++ H)).Perm _
  exact (List.perm_append_comm_assoc [F z, G z] _ H))
 have h3 := Sat.starx_close (fam_ex hF hG) h2
 exact h3.perm (by
  show (starx ((a ++ b).flatMap fun z => [F z, G z]) :: ([F z, G z] ++ H)).Perm ([F z, G z] ++ (starx ((a ++ b).flatMap fun z => [F z, G z]) :: H))
  exact (List.perm_append_comm_assoc [starx ((a ++ b).flatMap fun z => [F z, G z])] [F z, G z] H))
theorem fam_shut (hF : ∀ z, (F z).excl = true) (hG : ∀ z, (G z).excl = true) {a b : List α} {z : α} (h : Sat Γ (F z :: G z :: starx ((a ++ b).flatMap fun z => [F z, G z]) :: H) w) : Sat Γ (starx ((a ++ z :: b).flatMap fun z => [F z, G z]) :: H) w := by
 have h1 : Sat Γ (starx ((a ++ b).flatMap fun z => [F z, G z]) :: (F z :: G z :: H)) w := h.perm (by
  show ([F z, G z] ++ (starx ((a ++ b).flatMap fun z => [F z, G z]) :: H)).Perm (starx ((a ++ b).flatMap fun z => [F z, G z]) :: ([F z, G z] ++ H))
  exact (List.perm_append_comm_assoc [F z, G z] [starx ((a ++ b).flatMap fun z => [F z, G z])] H))
 have h2 := Sat.starx_open h1
 have h3 : Sat Γ (((a ++ z :: b).flatMap fun z => [F z, G z]) ++ H) w := h2.perm (by
  refine List.Perm.trans ?_ (List.Perm.append_right H (fam_perm (a := a) (b := b) (z := z)).symm)
  show (((a ++ b).flatMap fun z => [F z, G z]) ++ ([F z, G z] ++ H)).Perm ([F z, G z] ++ (((a ++ b).flatMap fun z => [F z, G z]) ++ H))
  exact List.perm_append_comm_assoc _ _ _)
 exact Sat.starx_close (fam_ex hF hG) h3
theorem starx_perm {l l' : List Chunk} (hp : l.Perm l') (h : Sat Γ (starx l :: H) w) : Sat Γ (starx l' :: H) w :=
 h.see (i := 0) rfl rfl (fun _ hw => ⟨fun C hC => hw.1 C (hp.mem_iff.2 hC), hp.pairwise hw.2 (fun h => h.symm)⟩) (fun k hk => by
  obtain ⟨C, hC, hk⟩ := hk
  exact ⟨C, hp.mem_iff.2 hC, hk⟩)
end
section
variable {Γ : Ctx} {H : List Chunk} {w : World}
theorem fil_open {a b : List FiS} {f : FiS} (h : Sat Γ (filX (a ++ f :: b) :: H) w) : Sat Γ (f.B :: f.R :: filX (a ++ b) :: H) w := fam_open (F := FiS.B) (G := FiS.R) (fun _ => rfl) (fun _ => rfl) h
theorem fil_shut {a b : List FiS} {f : FiS} (h : Sat Γ (f.B :: f.R :: filX (a ++ b) :: H) w) : Sat Γ (filX (a ++ f :: b) :: H) w := fam_shut (F := FiS.B) (G := FiS.R) (fun _ => rfl) (fun _ => rfl) h
theorem fil_perm {a b : List FiS} (hp : a.Perm b) (h : Sat Γ (filX a :: H) w) : Sat Γ (filX b :: H) w := starx_perm (hp.flatMap_right _) h
theorem mapt_perm {P : Program} {k b : Nat} {z : Value} {ks ks' : List (List UInt8)} {f f' : List UInt8 → Value} (hp : ks.Perm ks') (hf : ∀ x ∈ ks', f x = f' x) (h : Sat Γ (mapt P k b z ks f :: H) w) : Sat Γ (mapt P k b z ks' f' :: H) w :=
 h.see (i := 0) rfl rfl (fun w hw => by
  obtain ⟨D, h1, h2, h3, h4⟩ := hw
  refine ⟨D, hp.length_eq ▸ h1, hp.nodup_iff.1 h2, fun x => (h3 x).trans (by rw [decide_eq_decide]; exact hp.mem_iff), fun x hx => ?_⟩
  rw [h4 x (hp.mem_iff.2 hx), hf x hx]) (fun k hk => hk)
end
theorem ptrF_put {l : List FiS} (hl : Rise FiS.nm l) (f : FiS) (q : List UInt8) : ptrF (putG FiS.nm f l) q = if q = f.nm then .pointer (some ⟨f.g, 0, none⟩) else ptrF l q := by
 unfold ptrF
 rw [findF, findG_put q hl]
 by_cases hq : q = f.nm
 · rw [if_pos hq.symm, if_pos hq]
 · rw [if_neg (fun e => hq e.symm), if_neg hq]
theorem ptrF_same {l : List FiS} (hl : Rise FiS.nm l) {f f' : FiS} (hf : findF l f.nm = some f) (h1 : f'.nm = f.nm) (h2 : f'.g = f.g) : ptrF (putG FiS.nm f' l) = ptrF l ∧ (putG FiS.nm f' l).map FiS.nm = l.map FiS.nm := by
 refine ⟨funext fun q => ?_, ?_⟩
 · rw [ptrF_put hl]
   split
   · rename_i hq
     rw [hq, h1, h2]
     unfold ptrF
     rw [hf]
   · rfl
 · obtain ⟨a, b, e1, e2⟩ := put_split hl hf
   rw [e2 f' h1]
   conv => rhs; rw [e1]
   simp [h1]
theorem new_sl : Fn Tryz.prog 12 #[] [] DrS DrS.ptr (fun D => [D.B, D.M, D.F]) (fun D => Drv D DrP.new) := by
 refine Fn.enter Tryz.func12 rfl Tryz.ntmps12 (by rfl) ?_
 intro w0
 refine go [3,4,5,25] ?_
 refine Ls.does (some 1) (Does.newT 9 (.pointer none) (ptrF []) rfl) (by rfl) (by rfl) ?_
 rintro m -
 refine Ls.qE 2 (Ev.buildP (pl := [(0, 1), (1, 1), (2, 1), (3, 1)]) (zs := [.map none, .int .i64 0, .bool false, .int .i64 0]) rfl (by rfl) (by kernel_rfl) (by rfl)) ?_
 refine Ls.does (some 3) (Does.box rfl (by rfl)) (by rfl) (by rfl) ?_
 intro g1 _
 refine go [5,2] ?_
 refine Ent.map (fun w hs => hs.starx_nil) ?_
 refine Cd.ret ?_
 exact Ent.rA (⟨g1, m, [], 0, false, 0⟩) [1,2,0] (⟨DrP.new_ok, rfl, rfl, rfl, fun _ h => by cases h⟩) rT_
theorem elem_b : Elem Tryz.prog 47 5 1 1 := elem_of (by kernel_rfl)
section
variable {D : DrS} {P : DrP}
theorem Drv.put (h : Drv D P) {f : FiS} (hok : (P.put f.p).Ok) : Drv { D with fs := putG FiS.nm f D.fs } (P.put f.p) := ⟨hok, by
 show (putG FiS.nm f D.fs).map FiS.p = putG FiP.nm f.p P.fs
 rw [putG_map (nm' := FiP.nm) (g := FiS.p) (fun _ => rfl), h.fs], h.steps, h.armed, h.left⟩
end
theorem append_full {D : DrS} {P : DrP} (h : Drv D P) (q : List UInt8) (hq : Good q) (A : Option Addr) (c : Nat) (l : List UInt8) (hl : l.length ≤ 1099511627776) (hx : (P.find q = none ∧ 256 ≤ P.fs.length) ∨ 262144 < (P.bytes q).length + l.length) :
 Fn Tryz.prog 53 #[D.ptr, .string (txt q), .slice A l.length c] [D.rB, D.rM, D.rF] Unit (fun _ => .int .i64 5) (fun _ => []) (fun _ => True) := by
 have hsz := size_sl h q hq.len
 have hnl : (D.fs.map FiS.nm).length = P.fs.length := by rw [List.length_map, h.len]
 have hbb : (P.bytes q).length ≤ 262144 := by
  unfold DrP.bytes
  cases hf : P.find q with
  | none => exact Nat.zero_le _
  | some f => exact h.ok.size _ (findG_some hf).1
 cases hf : P.find q with
 | none =>
  have hf2 := h.miss hf
  refine Fn.enter Tryz.func53 rfl Tryz.ntmps53 (by rfl) ?_
  intro w0
  refine go [3,4,5,25,0,0] ?_
  refine Ls.does (some 13) (Does.read rfl Tryz.func86 (by kernel_rfl) (by kernel_rfl) (find_miss D q hq hf2) (by rfl) (by rfl) ⟨rblkIn 0 (by rfl), rmapIn_ 1 (by rfl), trivial⟩) (by rfl) (by rfl) ?_
  rintro _ -
  refine go [0,11,11,5,5,2,3,21,3,4,0,19,5,2] ?_
  refine Cd.cond_false (by rfl) (decide_eq_false (show ¬ ((4 : Int) = 20) by decide)) ?_
  refine go [3,3,4,0] ?_
  refine Ls.qE 22 (Ev.nilEq rfl (by rfl) (by rfl) Tryz.underlying109) ?_
  refine Ls.qM 23 ?_
  refine Ent.known 23 true (by rfl) (by exact (rfl)) ?_
  refine go [0,14,7,0,13,0] ?_
  refine Ls.qE 28 (Ev.lenT (rmapIn_ 1 (by rfl)) rfl (by rfl) Tryz.underlying9 Tryz.underlying86) ?_
  by_cases h256 : 256 ≤ P.fs.length
  · refine Ls.qE 29 (Ev.geq rfl (by rfl) (by rfl)) ?_
    refine go [9,5,2] ?_
    refine Cd.cond_true (by rfl) (decide_eq_true (show ((256 : Int) ≤ ((D.fs.map FiS.nm).length : Int)) by omega)) ?_
    refine Cd.skip ?_
    refine Cd.cond_true (by rfl) (decide_eq_true (show ((256 : Int) ≤ ((D.fs.map FiS.nm).length : Int)) by omega)) ?_
    refine go [3,4,5,2,22] ?_
    exact Ent.rA (()) [] trivial rT_
  · refine Ls.qE 29 (Ev.geq rfl (by rfl) (by rfl)) ?_
    refine go [9,5,2] ?_
    refine Cd.cond_false (by rfl) (decide_eq_false (show ¬ ((256 : Int) ≤ ((D.fs.map FiS.nm).length : Int)) by omega)) ?_
    refine go [4,0,0] ?_
    refine Ls.does (some 33) (Does.read rfl Tryz.func33 (by kernel_rfl) (by kernel_rfl) (hsz) (by rfl) (by rfl) ⟨rblkIn 0 (by rfl), rmapIn_ 1 (by rfl), filRin 2 (by rfl), trivial⟩) (by rfl) (by rfl) ?_
    rintro _ -
    refine Ls.qM 34 ?_
    refine Ls.qE 35 (Ev.len rfl (by rfl) Tryz.underlying47) ?_
    refine Ls.qE 36 (Ev.addI rfl (by rfl) (by rfl) (by omega)) ?_
    refine go [18,5,2] ?_
    refine Cd.cond_true (by rfl) (decide_eq_true (show ((262144 : Int) < ((P.bytes q).length : Int) + (l.length : Int)) by have := hx.resolve_left (fun h => h256 h.2); omega)) ?_
    refine go [3,4,5,2,22] ?_
    exact Ent.rA (()) [] trivial rT_
 | some f0 =>
  obtain ⟨f, hf2, rfl⟩ := h.hit hf
  refine Fn.enter Tryz.func53 rfl Tryz.ntmps53 (by rfl) ?_
  intro w0
  refine go [3,4,5,25,0,0] ?_
  refine Ls.does (some 13) (Does.read rfl Tryz.func86 (by kernel_rfl) (by kernel_rfl) (find_hit D q hq f hf2) (by rfl) (by rfl) ⟨rblkIn 0 (by rfl), rmapIn_ 1 (by rfl), trivial⟩) (by rfl) (by rfl) ?_
  rintro _ -
  refine go [0,11,11,5,5,2,3,21,3,4,0,19,5,2] ?_
  refine Cd.cond_false (by rfl) (decide_eq_false (show ¬ ((0 : Int) = 20) by decide)) ?_
  refine go [3,3,4,0] ?_
  refine Ls.qE 22 (Ev.ptrNil rfl (by rfl) (by rfl) Tryz.underlying109) ?_
  refine go [0,1,1,1,1,1,1,10,5,2,24,4,0,0] ?_
  refine Ls.does (some 33) (Does.read rfl Tryz.func33 (by kernel_rfl) (by kernel_rfl) (hsz) (by rfl) (by rfl) ⟨rblkIn 0 (by rfl), rmapIn_ 1 (by rfl), filRin 2 (by rfl), trivial⟩) (by rfl) (by rfl) ?_
  rintro _ -
  refine Ls.qM 34 ?_
  refine Ls.qE 35 (Ev.len rfl (by rfl) Tryz.underlying47) ?_
  refine Ls.qE 36 (Ev.addI rfl (by rfl) (by rfl) (by omega)) ?_
  refine go [18,5,2] ?_
  refine Cd.cond_true (by rfl) (decide_eq_true (show ((262144 : Int) < ((P.bytes q).length : Int) + (l.length : Int)) by have := hx.resolve_left (fun h => by rw [hf] at h; cases h.1); omega)) ?_
  refine go [3,4,5,2,22] ?_
  exact Ent.rA (()) [] trivial rT_
theorem append_dead {D : DrS} {P : DrP} (h : Drv D P) (q : List UInt8) (hq : Good q) (A : Option Addr) (c : Nat) (l : List UInt8) (hx : ¬ ((P.find q = none ∧ 256 ≤ P.fs.length) ∨ 262144 < (P.bytes q).length + l.length)) (hd : P.dead = true) :
 Fn Tryz.prog 53 #[D.ptr, .string (txt q), .slice A l.length c] [D.rB, D.rM, D.rF] Unit (fun _ => .int .i64 6) (fun _ => []) (fun _ => True) := by
 have hsz := size_sl h q hq.len
 have hnl : (D.fs.map FiS.nm).length = P.fs.length := by rw [List.length_map, h.len]
 cases hf : P.find q with
 | none =>
  have hf2 := h.miss hf
  refine Fn.enter Tryz.func53 rfl Tryz.ntmps53 (by rfl) ?_
  intro w0
  refine go [3,4,5,25,0,0] ?_
  refine Ls.does (some 13) (Does.read rfl Tryz.func86 (by kernel_rfl) (by kernel_rfl) (find_miss D q hq hf2) (by rfl) (by rfl) ⟨rblkIn 0 (by rfl), rmapIn_ 1 (by rfl), trivial⟩) (by rfl) (by rfl) ?_
  rintro _ -
  refine go [0,11,11,5,5,2,3,21,3,4,0,19,5,2] ?_
  refine Cd.cond_false (by rfl) (decide_eq_false (show ¬ ((4 : Int) = 20) by decide)) ?_
  refine go [3,3,4,0] ?_
  refine Ls.qE 22 (Ev.nilEq rfl (by rfl) (by rfl) Tryz.underlying109) ?_
  refine Ls.qM 23 ?_
  refine Ent.known 23 true (by rfl) (by exact (rfl)) ?_
  refine go [0,14,7,0,13,0] ?_
  refine Ls.qE 28 (Ev.lenT (rmapIn_ 1 (by rfl)) rfl (by rfl) Tryz.underlying9 Tryz.underlying86) ?_
  refine Ls.qE 29 (Ev.geq rfl (by rfl) (by rfl)) ?_
  refine go [9,5,2] ?_
  refine Cd.cond_false (by rfl) (decide_eq_false (show ¬ ((256 : Int) ≤ ((D.fs.map FiS.nm).length : Int)) by have : ¬ 256 ≤ P.fs.length := fun e => hx (.inl ⟨hf, e⟩); omega)) ?_
  refine go [4,0,0] ?_
  refine Ls.does (some 33) (Does.read rfl Tryz.func33 (by kernel_rfl) (by kernel_rfl) (hsz) (by rfl) (by rfl) ⟨rblkIn 0 (by rfl), rmapIn_ 1 (by rfl), filRin 2 (by rfl), trivial⟩) (by rfl) (by rfl) ?_
  rintro _ -
  refine Ls.qM 34 ?_
  refine Ls.qE 35 (Ev.len rfl (by rfl) Tryz.underlying47) ?_
  refine Ls.qE 36 (Ev.addI rfl (by rfl) (by rfl) (by omega)) ?_
  refine go [18,5,2] ?_
  refine Cd.cond_false (by rfl) (decide_eq_false (show ¬ ((262144 : Int) < ((P.bytes q).length : Int) + (l.length : Int)) by have : ¬ 262144 < (P.bytes q).length + l.length := fun e => hx (.inr e); omega)) ?_
  refine go [6,3,3,4,0] ?_
  refine Ls.does (some 39) (Does.read rfl Tryz.func98 (by kernel_rfl) (by kernel_rfl) (step_dead h hd) (by rfl) (by rfl) ⟨rblkIn 0 (by rfl), trivial⟩) (by rfl) (by rfl) ?_
  rintro _ -
  refine go [5,25,0,17,2] ?_
  refine Cd.cond_true (by rfl) (decide_eq_true (show ((6 : Int) ≠ 0) by decide)) ?_
  refine go [3,4,0,5,2,22] ?_
  exact Ent.rA (()) [] trivial rT_
 | some f0 =>
  obtain ⟨f, hf2, rfl⟩ := h.hit hf
  refine Fn.enter Tryz.func53 rfl Tryz.ntmps53 (by rfl) ?_
  intro w0
  refine go [3,4,5,25,0,0] ?_
  refine Ls.does (some 13) (Does.read rfl Tryz.func86 (by kernel_rfl) (by kernel_rfl) (find_hit D q hq f hf2) (by rfl) (by rfl) ⟨rblkIn 0 (by rfl), rmapIn_ 1 (by rfl), trivial⟩) (by rfl) (by rfl) ?_
  rintro _ -
  refine go [0,11,11,5,5,2,3,21,3,4,0,19,5,2] ?_
  refine Cd.cond_false (by rfl) (decide_eq_false (show ¬ ((0 : Int) = 20) by decide)) ?_
  refine go [3,3,4,0] ?_
  refine Ls.qE 22 (Ev.ptrNil rfl (by rfl) (by rfl) Tryz.underlying109) ?_
  refine go [0,1,1,1,1,1,1,10,5,2,24,4,0,0] ?_
  refine Ls.does (some 33) (Does.read rfl Tryz.func33 (by kernel_rfl) (by kernel_rfl) (hsz) (by rfl) (by rfl) ⟨rblkIn 0 (by rfl), rmapIn_ 1 (by rfl), filRin 2 (by rfl), trivial⟩) (by rfl) (by rfl) ?_
  rintro _ -
  refine Ls.qM 34 ?_
  refine Ls.qE 35 (Ev.len rfl (by rfl) Tryz.underlying47) ?_
  refine Ls.qE 36 (Ev.addI rfl (by rfl) (by rfl) (by omega)) ?_
  refine go [18,5,2] ?_
  refine Cd.cond_false (by rfl) (decide_eq_false (show ¬ ((262144 : Int) < ((P.bytes q).length : Int) + (l.length : Int)) by have : ¬ 262144 < (P.bytes q).length + l.length := fun e => hx (.inr e); omega)) ?_
  refine go [6,3,3,4,0] ?_
  refine Ls.does (some 39) (Does.read rfl Tryz.func98 (by kernel_rfl) (by kernel_rfl) (step_dead h hd) (by rfl) (by rfl) ⟨rblkIn 0 (by rfl), trivial⟩) (by rfl) (by rfl) ?_
  rintro _ -
  refine go [5,25,0,17,2] ?_
  refine Cd.cond_true (by rfl) (decide_eq_true (show ((6 : Int) ≠ 0) by decide)) ?_
  refine go [3,4,0,5,2,22] ?_
  exact Ent.rA (()) [] trivial rT_
theorem append_hit {D : DrS} {P : DrP} (h : Drv D P) (q : List UInt8) (hq : Good q) (f : FiS) (hf : findF D.fs q = some f) (A : Option Addr) (c : Nat) (l : List UInt8) (hs : f.b.length + l.length ≤ 262144) (hd : P.dead = false) :
 Fn Tryz.prog 53 #[D.ptr, .string (txt q), .slice A l.length c] [D.B, D.M, D.F, rdB A l] (Option Addr × Nat) (fun _ => .int .i64 0) (fun p => [DrS.B { D.stepD with fs := putG FiS.nm ⟨{ f.p with b := f.b ++ l }, f.g, p.1, p.2⟩ D.fs }, DrS.M { D.stepD with fs := putG FiS.nm ⟨{ f.p with b := f.b ++ l }, f.g, p.1, p.2⟩ D.fs }, DrS.F { D.stepD with fs := putG FiS.nm ⟨{ f.p with b := f.b ++ l }, f.g, p.1, p.2⟩ D.fs }]) (fun _ => True) := by
 have hsz := size_sl h q hq.len
 rw [show P.bytes q = f.b by unfold DrP.bytes; rw [h.find, hf]; rfl] at hsz
 have h8 : (u8s f.b).length = f.b.length := u8s_length _
 have hqn := (findG_some hf).2
 refine Fn.enter Tryz.func53 rfl Tryz.ntmps53 (by rfl) ?_
 intro w0
 refine go [3,4,5,25,0,0] ?_
 refine Ls.does (some 13) (Does.read rfl Tryz.func86 (by kernel_rfl) (by kernel_rfl) (find_hit D q hq f hf) (by rfl) (by rfl) ⟨blkIn 0 (by rfl), mapIn 1 (by rfl), trivial⟩) (by rfl) (by rfl) ?_
 rintro _ -
 refine go [0,11,11,5,5,2,3,21,3,4,0,19,5,2] ?_
 refine Cd.cond_false (by rfl) (decide_eq_false (show ¬ ((0 : Int) = 20) by decide)) ?_
 refine go [3,3,4,0] ?_
 refine Ls.qE 22 (Ev.ptrNil rfl (by rfl) (by rfl) Tryz.underlying109) ?_
 refine go [0,1,1,1,1,1,1,10,5,2,24,4,0,0] ?_
 refine Ls.does (some 33) (Does.read rfl Tryz.func33 (by kernel_rfl) (by kernel_rfl) (hsz) (by rfl) (by rfl) ⟨blkIn 0 (by rfl), mapIn 1 (by rfl), filIn 2 (by rfl), trivial⟩) (by rfl) (by rfl) ?_
 rintro _ -
 refine Ls.qM 34 ?_
 refine Ls.qE 35 (Ev.len rfl (by rfl) Tryz.underlying47) ?_
 refine Ls.qE 36 (Ev.addI rfl (by rfl) (by rfl) (by omega)) ?_
 refine go [18,5,2] ?_
 refine Cd.cond_false (by rfl) (decide_eq_false (show ¬ ((262144 : Int) < (f.b.length : Int) + (l.length : Int)) by omega)) ?_
 refine go [6,3,3,4,0] ?_
 refine Ls.does (some 39) (Does.call [0, 1, 2, 3] rfl Tryz.func98 (by kernel_rfl) (by kernel_rfl) (step_ok h hd) (by rfl) (by rfl) (by rfl)) (by rfl) (by rfl) ?_
 rintro _ -
 refine go [5,25,0,17,2] ?_
 refine Cd.cond_false (by rfl) (decide_eq_false (show ¬ ((0 : Int) ≠ 0) from fun h => h rfl)) ?_
 refine go [6,3,3,4,0] ?_
 refine Ls.qE 44 (Ev.ptrNil rfl (by rfl) (by rfl) Tryz.underlying109) ?_
 refine go [2,24,6,3] ?_
 refine Ent.pick [2, 0, 1, 3] (by rfl) ?_
 obtain ⟨a, b, hD, hP⟩ := put_split h.rise hf
 refine Ent.map (fun w hs => fil_open (by rw [← hD]; exact hs)) ?_
 refine go [4,0,0,14,7,0,8,0,0] ?_
 refine Ls.does (some 59) (Does.app (xs := u8s f.b) (news := u8s l) 1 rfl (by rfl) (by rfl) (by rfl) (ReadsIn.rd 5 (by rfl)) elem_b (u8s_one l) (by omega)) (by rfl) (by rfl) ?_
 rintro p -
 refine go [14,7,0,15,0,25,5,2] ?_
 obtain ⟨f', hf'⟩ : ∃ f' : FiS, f' = ⟨{ f.p with b := f.b ++ l }, f.g, p.1, p.2⟩ := ⟨_, rfl⟩
 have hB : row p.1 (f.b.length + l.length) p.2 5 1 (u8s f.b ++ u8s l) = f'.R := by
  subst hf'
  dsimp only [FiS.R]
  rw [List.length_append, u8s_append]
 have hC : blk f.g 112 [.slice p.1 (f.b.length + l.length) p.2, .int .i64 f.sy] = f'.B := by
  subst hf'
  dsimp only [FiS.B, FiS.cs]
  rw [List.length_append]
 obtain ⟨h1, h2⟩ := ptrF_same (f := f) (f' := f') h.rise (by rw [hqn]; exact hf) (by rw [hf']) (by rw [hf'])
 have hput : putG FiS.nm f' D.fs = a ++ f' :: b := hP f' (by rw [hf']; exact hqn)
 refine Ent.map (fun w hs => fil_shut (a := a) (b := b) (f := f') (by rw [← hB, ← hC]; exact hs)) ?_
 refine Cd.ret ?_
 refine Ent.ret (p) (trivial) (Res.tmp (by rfl) (by rfl)) ?_ [1, 2, 0] (by rfl) ?_
 · rfl
 · rw [← hf']
   show [_, mapt _ _ _ _ _ _, _] = [_, mapt _ _ _ _ _ _, _]
   dsimp only
   rw [h1, h2, hput]
   rfl
theorem append_new {D : DrS} {P : DrP} (h : Drv D P) (q : List UInt8) (hf : findF D.fs q = none) (hq : Good q) (A : Option Addr) (c : Nat) (l : List UInt8) (hn : D.fs.length < 256) (hs : l.length ≤ 262144) (hd : P.dead = false) :
 Fn Tryz.prog 53 #[D.ptr, .string (txt q), .slice A l.length c] [D.B, D.M, D.F, rdB A l] (Nat × Option Addr × Nat) (fun _ => .int .i64 0) (fun p => [DrS.B { D.stepD with fs := putG FiS.nm ⟨⟨q, l, 0⟩, p.1, p.2.1, p.2.2⟩ D.fs }, DrS.M { D.stepD with fs := putG FiS.nm ⟨⟨q, l, 0⟩, p.1, p.2.1, p.2.2⟩ D.fs }, DrS.F { D.stepD with fs := putG FiS.nm ⟨⟨q, l, 0⟩, p.1, p.2.1, p.2.2⟩ D.fs }]) (fun _ => True) := by
 have hsz := size_sl h q hq.len
 rw [show P.bytes q = [] by unfold DrP.bytes; rw [h.find, hf]; rfl, List.length_nil] at hsz
 have hl := hq.len
 have hnl : (D.fs.map FiS.nm).length = D.fs.length := List.length_map ..
 refine Fn.enter Tryz.func53 rfl Tryz.ntmps53 (by rfl) ?_
 intro w0
 refine go [3,4,5,25,0,0] ?_
 refine Ls.does (some 13) (Does.read rfl Tryz.func86 (by kernel_rfl) (by kernel_rfl) (find_miss D q hq hf) (by rfl) (by rfl) ⟨blkIn 0 (by rfl), mapIn 1 (by rfl), trivial⟩) (by rfl) (by rfl) ?_
 rintro _ -
 refine go [0,11,11,5,5,2,3,21,3,4,0,19,5,2] ?_
 refine Cd.cond_false (by rfl) (decide_eq_false (show ¬ ((4 : Int) = 20) by decide)) ?_
 refine go [3,3,4,0] ?_
 refine Ls.qE 22 (Ev.nilEq rfl (by rfl) (by rfl) Tryz.underlying109) ?_
 refine Ls.qM 23 ?_
 refine Ent.known 23 true (by rfl) (by exact (rfl)) ?_
 refine go [0,14,7,0,8,0] ?_
 refine Ls.qE 28 (Ev.lenT (mapIn 1 (by rfl)) rfl (by rfl) Tryz.underlying9 Tryz.underlying86) ?_
 refine Ls.qE 29 (Ev.geq rfl (by rfl) (by rfl)) ?_
 refine go [9,5,2] ?_
 refine Cd.cond_false (by rfl) (decide_eq_false (show ¬ ((256 : Int) ≤ ((D.fs.map FiS.nm).length : Int)) by omega)) ?_
 refine go [4,0,0] ?_
 refine Ls.does (some 33) (Does.read rfl Tryz.func33 (by kernel_rfl) (by kernel_rfl) (hsz) (by rfl) (by rfl) ⟨blkIn 0 (by rfl), mapIn 1 (by rfl), filIn 2 (by rfl), trivial⟩) (by rfl) (by rfl) ?_
 rintro _ -
 refine Ls.qM 34 ?_
 refine Ls.qE 35 (Ev.len rfl (by rfl) Tryz.underlying47) ?_
 refine Ls.qE 36 (Ev.addI rfl (by rfl) (by rfl) (by omega)) ?_
 refine go [18,5,2] ?_
 refine Cd.cond_false (by rfl) (decide_eq_false (show ¬ ((262144 : Int) < ((0 : Nat) : Int) + (l.length : Int)) by omega)) ?_
 refine go [6,3,3,4,0] ?_
 refine Ls.does (some 39) (Does.call [0, 1, 2, 3] rfl Tryz.func98 (by kernel_rfl) (by kernel_rfl) (step_ok h hd) (by rfl) (by rfl) (by rfl)) (by rfl) (by rfl) ?_
 rintro _ -
 refine go [5,25,0,17,2] ?_
 refine Cd.cond_false (by rfl) (decide_eq_false (show ¬ ((0 : Int) ≠ 0) from fun h => h rfl)) ?_
 refine go [6,3,3,4,0] ?_
 refine Ls.qE 44 (Ev.nilEq rfl (by rfl) (by rfl) Tryz.underlying109) ?_
 refine go [2,23,3,4] ?_
 refine Ls.qE 45 (Ev.buildP (pl := [(0, 1), (1, 1)]) (zs := [.slice none 0 0, .int .i64 0]) rfl (by rfl) (by kernel_rfl) (by rfl)) ?_
 refine Ls.does (some 46) (Does.box rfl (by rfl)) (by rfl) (by rfl) ?_
 intro g1 _
 refine go [5,2,4,0,14,7,0,8,1,0,0] ?_
 refine Ls.qD (Does.putT 2 rfl (by rfl) (by rfl) (by rfl) (by rfl) Tryz.underlying9 Tryz.underlying86 (by omega) (by unfold maxLen; omega) (not_mem_of_find hf)) ?_
 rintro _ -
 refine Ent.nil 5 1 ?_
 refine go [25,0,0,14,7,0,8,1,0] ?_
 refine Ls.does (some 59) (Does.app0 (news := u8s l) 0 rfl (by rfl) (by rfl) (by rfl) (ReadsIn.rd 5 (by rfl)) elem_b (u8s_one l) (by omega)) (by rfl) (by rfl) ?_
 rintro p -
 refine go [14,7,0,15,1,25,5,2] ?_
 have hperm : (putG FiS.nm ⟨⟨q, l, 0⟩, g1, p.1, p.2⟩ D.fs).Perm (⟨⟨q, l, 0⟩, g1, p.1, p.2⟩ :: D.fs) := put_perm (nm := FiS.nm) (f := ⟨⟨q, l, 0⟩, g1, p.1, p.2⟩) hf
 have hpn : (D.fs.map FiS.nm ++ [q]).Perm ((putG FiS.nm ⟨⟨q, l, 0⟩, g1, p.1, p.2⟩ D.fs).map FiS.nm) := List.perm_append_comm.trans ((hperm.map FiS.nm).symm)
 refine Ent.pick [1, 0, 4, 2, 3] (by rfl) ?_
 refine Ent.map (fun w hs => fil_perm hperm.symm (fil_shut (a := []) (b := D.fs) (f := ⟨⟨q, l, 0⟩, g1, p.1, p.2⟩) hs)) ?_
 refine Ent.pick [2, 0, 1] (by rfl) ?_
 refine Ent.map (fun w hs => mapt_perm hpn (f' := ptrF (putG FiS.nm ⟨⟨q, l, 0⟩, g1, p.1, p.2⟩ D.fs)) (fun x _ => (ptrF_put h.rise ⟨⟨q, l, 0⟩, g1, p.1, p.2⟩ x).symm) hs) ?_
 refine Cd.ret ?_
 exact Ent.rA ((g1, p.1, p.2)) [2,0,1] trivial rT_
section
variable {P : Program} {f : FuncId} {args : Array Value} {H Hr : List Chunk} {ι ι' : Type} {res : ι → Value} {φ : ι → Prop}
theorem Fn.keep (h : Fn P f args Hr ι res (fun _ => []) φ) (hx : ∀ D ∈ Hr, D.excl = false) (hh : ∀ w, Sat0 H w → Sat0 Hr w) : Fn P f args H ι res (fun _ => H) φ := fun w hs =>
 (h w (hh w hs)).mono fun e w' ⟨i, h1, h2, h3⟩ => ⟨i, h1, h2, by
  have hn : ∀ k, ¬ Ctx.S ⟨w, Hr⟩ k := fun k ⟨D, hD, he, _⟩ => by rw [hx D hD] at he; cases he
  have hb : ∀ k, k < w.heap.size → w'.heap[k]? = w.heap[k]? := fun k hk => h3.upd.block k hk (hn k)
  exact ⟨⟨h3.upd.os, h3.upd.tape, h3.upd.output, h3.upd.size, fun k hk _ => hb k hk⟩, ⟨fun C hC => C.loc w w' h3.upd.size (fun k hk => hb k (C.lt w k (hs.1 C hC) hk)) (hs.1 C hC), hs.2⟩, fun C hC _ hk _ => ⟨⟨C, hC, hk⟩, fun he => ⟨C, hC, he, hk⟩⟩⟩⟩
end
theorem drv_see {D : DrS} {H : List Chunk} {w : World} (h : Sat0 (D.B :: D.M :: D.F :: H) w) : D.rB.holds w ∧ D.rM.holds w ∧ D.rF.holds w := by
 have hs := Sat.start h
 exact ⟨(hs.mem (C := D.B) (i := 0) rfl : D.B.holds w), mapIn 1 rfl w hs, filIn 2 rfl w hs⟩
theorem sat0_ro3 {A B C : Chunk} {w : World} (hx : A.excl = false) (hy : B.excl = false) (hz : C.excl = false) (h : A.holds w ∧ B.holds w ∧ C.holds w) : Sat0 [A, B, C] w := by
 refine ⟨fun D hD => ?_, ?_⟩
 · simp only [List.mem_cons, List.not_mem_nil, or_false] at hD
   rcases hD with rfl | rfl | rfl
   · exact h.1
   · exact h.2.1
   · exact h.2.2
 · refine List.pairwise_iff_getElem.2 fun i j hi hj _ he => ?_
   have hall : ∀ D ∈ [A, B, C], D.excl = false := fun D hD => by
    simp only [List.mem_cons, List.not_mem_nil, or_false] at hD
    rcases hD with rfl | rfl | rfl <;> assumption
   rw [hall _ (List.getElem_mem hi), hall _ (List.getElem_mem hj)] at he
   rcases he with he | he <;> cases he
section
variable {D : DrS} {P : DrP}
theorem Fn.dkeep {f : FuncId} {args : Array Value} {H : List Chunk} {v : Value} (h : Fn Tryz.prog f args [D.rB, D.rM, D.rF] Unit (fun _ => v) (fun _ => []) (fun _ => True)) {Q : DrP} (hD : Drv D Q) :
 Fn Tryz.prog f args (D.B :: D.M :: D.F :: H) DrS (fun _ => v) (fun D' => [D'.B, D'.M, D'.F]) (fun D' => Drv D' Q ∧ D'.d = D.d ∧ D'.m = D.m) :=
 ((h.keep (H := D.B :: D.M :: D.F :: H) (fun C hC => by
  simp only [List.mem_cons, List.not_mem_nil, or_false] at hC
  rcases hC with rfl | rfl | rfl <;> rfl) (fun w hs => sat0_ro3 rfl rfl rfl (drv_see hs)))).turn fun _ _ => ⟨D, ⟨hD, rfl, rfl⟩, rfl, fun Γ w hs => by
  have : (D.B :: D.M :: D.F :: H) = [D.B, D.M, D.F] ++ H := rfl
  rw [this] at hs
  obtain ⟨h1, h2, h3⟩ := hs
  obtain ⟨s1, _, _⟩ := sat0_append.1 h2
  exact ⟨h1, s1, fun C hC => h3 C (List.mem_append_left _ hC)⟩⟩
theorem append_sl (h : Drv D P) (q : List UInt8) (hq : Good q) (A : Option Addr) (c : Nat) (l : List UInt8) (hl : l.length ≤ 1099511627776) :
 Fn Tryz.prog 53 #[D.ptr, .string (txt q), .slice A l.length c] [D.B, D.M, D.F, rdB A l] DrS (fun _ => .int .i64 (P.append q l).2) (fun D' => [D'.B, D'.M, D'.F]) (fun D' => Drv D' (P.append q l).1 ∧ D'.d = D.d ∧ D'.m = D.m) := by
 have hok := h.ok.append q l
 unfold DrP.append at hok ⊢
 rw [if_neg (fun hn => hn hq)] at hok ⊢
 by_cases hx : (P.find q = none ∧ 256 ≤ P.fs.length) ∨ 262144 < (P.bytes q).length + l.length
 · rw [if_pos hx]
   exact (append_full h q hq A c l hl hx).dkeep h
 · rw [if_neg hx] at hok ⊢
   by_cases hd : P.dead = true
   · rw [if_pos hd]
     exact (append_dead h q hq A c l hx hd).dkeep h
   · have hd : P.dead = false := by simpa using hd
     rw [hd] at hok ⊢
     rw [if_neg (by decide)] at hok ⊢
     have h2 : ¬ 262144 < (P.bytes q).length + l.length := fun e => hx (.inr e)
     cases hf : P.find q with
     | some f0 =>
      obtain ⟨f, hf2, rfl⟩ := h.hit hf
      have hb : P.bytes q = f.b := by unfold DrP.bytes; rw [hf]
      rw [hb] at h2
      rw [hf] at hok
      refine (append_hit h q hq f hf2 A c l (by omega) hd).turn fun p _ => ⟨{ D.stepD with fs := putG FiS.nm ⟨{ f.p with b := f.b ++ l }, f.g, p.1, p.2⟩ D.fs }, ⟨(h.step hd).put hok, rfl, rfl⟩, rfl, fun Γ w hs => hs⟩
     | none =>
      have hb : P.bytes q = [] := by unfold DrP.bytes; rw [hf]
      rw [hb] at h2
      rw [hf] at hok
      have hf2 := h.miss hf
      have hn : D.fs.length < 256 := by
       rw [h.len]
       have : ¬ 256 ≤ P.fs.length := fun e => hx (.inl ⟨hf, e⟩)
       omega
      refine (append_new h q hf2 hq A c l hn (by simpa using h2) hd).turn fun p _ => ⟨{ D.stepD with fs := putG FiS.nm ⟨⟨q, l, 0⟩, p.1, p.2.1, p.2.2⟩ D.fs }, ⟨(h.step hd).put hok, rfl, rfl⟩, rfl, fun Γ w hs => hs⟩
theorem sync_sl (h : Drv D P) (q : List UInt8) (hq : Good q) : Fn Tryz.prog 55 #[D.ptr, .string (txt q)] [D.B, D.M, D.F] DrS (fun _ => .int .i64 (P.sync q).2) (fun D' => [D'.B, D'.M, D'.F]) (fun D' => Drv D' (P.sync q).1 ∧ D'.d = D.d ∧ D'.m = D.m) := by
 have hok := h.ok.sync_ q
 unfold DrP.sync at hok ⊢
 cases hf : P.find q with
 | none =>
  have hf2 := h.miss hf
  dsimp only
  rw [if_pos hq]
  refine Fn.enter Tryz.func55 rfl Tryz.ntmps55 (by rfl) ?_
  intro w0
  refine go [3,4,5,25,0,0] ?_
  refine Ls.does (some 10) (Does.read rfl Tryz.func86 (by kernel_rfl) (by kernel_rfl) (find_miss D q hq hf2) (by rfl) (by rfl) ⟨blkIn 0 (by rfl), mapIn 1 (by rfl), trivial⟩) (by rfl) (by rfl) ?_
  rintro _ -
  refine go [0,11,11,5,5,2,3,3,4,0,19,2] ?_
  refine Cd.cond_false (by rfl) (decide_eq_false (show ¬ ((4 : Int) = 0) by decide)) ?_
  refine go [6,3,3,4,0,19,2] ?_
  refine Cd.cond_false (by rfl) (decide_eq_false (show ¬ ((4 : Int) = 0) by decide)) ?_
  refine go [6,3,4,0,5,2,22] ?_
  exact Ent.rA (D) [0,1,2] (⟨h, rfl, rfl⟩) rT_
 | some f0 =>
  obtain ⟨f, hf2, rfl⟩ := h.hit hf
  rw [hf] at hok
  by_cases hd : P.dead = true
  · dsimp only
    rw [if_pos hd]
    refine Fn.enter Tryz.func55 rfl Tryz.ntmps55 (by rfl) ?_
    intro w0
    refine go [3,4,5,25,0,0] ?_
    refine Ls.does (some 10) (Does.read rfl Tryz.func86 (by kernel_rfl) (by kernel_rfl) (find_hit D q hq f hf2) (by rfl) (by rfl) ⟨blkIn 0 (by rfl), mapIn 1 (by rfl), trivial⟩) (by rfl) (by rfl) ?_
    rintro _ -
    refine go [0,11,11,5,5,2,3,3,4,0,19,2] ?_
    refine Cd.cond_true (by rfl) (decide_eq_true rfl) ?_
    refine go [4,0] ?_
    refine Ls.does (some 16) (Does.read rfl Tryz.func98 (by kernel_rfl) (by kernel_rfl) (step_dead h hd) (by rfl) (by rfl) ⟨blkIn 0 (by rfl), trivial⟩) (by rfl) (by rfl) ?_
    rintro _ -
    refine go [5,2,3,3,4,0,19,2] ?_
    refine Cd.cond_false (by rfl) (decide_eq_false (show ¬ ((6 : Int) = 0) by decide)) ?_
    refine go [6,3,4,0,5,2,22] ?_
    exact Ent.rA (D) [0,1,2] (⟨h, rfl, rfl⟩) rT_
  · have hd : P.dead = false := by simpa using hd
    rw [hd] at hok ⊢
    dsimp only at hok ⊢
    rw [if_neg (by decide)] at hok ⊢
    refine Fn.enter Tryz.func55 rfl Tryz.ntmps55 (by rfl) ?_
    intro w0
    refine go [3,4,5,25,0,0] ?_
    refine Ls.does (some 10) (Does.read rfl Tryz.func86 (by kernel_rfl) (by kernel_rfl) (find_hit D q hq f hf2) (by rfl) (by rfl) ⟨blkIn 0 (by rfl), mapIn 1 (by rfl), trivial⟩) (by rfl) (by rfl) ?_
    rintro _ -
    refine go [0,11,11,5,5,2,3,3,4,0,19,2] ?_
    refine Cd.cond_true (by rfl) (decide_eq_true rfl) ?_
    refine go [4,0] ?_
    refine Ls.does (some 16) (Does.call [0, 1, 2] rfl Tryz.func98 (by kernel_rfl) (by kernel_rfl) (step_ok h hd) (by rfl) (by rfl) (by rfl)) (by rfl) (by rfl) ?_
    rintro _ -
    refine go [5,2,3,3,4,0,19,2] ?_
    refine Cd.cond_true (by rfl) (decide_eq_true rfl) ?_
    refine Ent.pick [2, 0, 1] (by rfl) ?_
    obtain ⟨a, b, hD, hP⟩ := put_split h.rise hf2
    have hqn := (findG_some hf2).2
    refine Ent.map (fun w hs => fil_open (by rw [← hD]; exact hs)) ?_
    refine go [4,0,0,14,7,0,8,0] ?_
    refine Ls.qE 24 (Ev.len rfl (by rfl) Tryz.underlying47) ?_
    refine go [14,7,1,15,0,25,0,5,2] ?_
    refine Ent.map (fun w hs => fil_shut (a := a) (b := b) (f := ⟨{ f.p with sy := f.b.length }, f.g, f.A, f.c⟩) hs) ?_
    refine Cd.ret ?_
    refine Ent.ret ({ D.stepD with fs := putG FiS.nm ⟨{ f.p with sy := f.b.length }, f.g, f.A, f.c⟩ D.fs }) (⟨(h.step hd).put hok, rfl, rfl⟩) (Res.tmp (by rfl) (by rfl)) ?_ [1, 2, 0] (by rfl) ?_
    · rfl
    · obtain ⟨h1, h2⟩ := ptrF_same (f := f) (f' := ⟨{ f.p with sy := f.b.length }, f.g, f.A, f.c⟩) h.rise (by rw [hqn]; exact hf2) rfl rfl
      have hput := hP ⟨{ f.p with sy := f.b.length }, f.g, f.A, f.c⟩ hqn
      show [_, mapt _ _ _ _ _ _, _] = [_, mapt _ _ _ _ _ _, _]
      dsimp only
      rw [h1, h2, hput]
      rfl
theorem Drv.without (h : Drv D P) (q : List UInt8) : Drv { D with fs := delG FiS.nm q D.fs } (P.without q) := ⟨h.ok.without q, by
 show (delG FiS.nm q D.fs).map FiS.p = delG FiP.nm q P.fs
 rw [delG_map (nm' := FiP.nm) (g := FiS.p) (fun _ => rfl), h.fs], h.steps, h.armed, h.left⟩
theorem del_names (q : List UInt8) (l : List FiS) : (delG FiS.nm q l).map FiS.nm = (l.map FiS.nm).filter fun y => decide (y ≠ q) := by
 unfold delG
 rw [List.filter_map]
 rfl
theorem ptrF_del {q x : List UInt8} {l : List FiS} (h : x ≠ q) : ptrF l x = ptrF (delG FiS.nm q l) x := by
 unfold ptrF findF
 rw [findG_del, if_neg h]
theorem starx_sub {Γ : Ctx} {H : List Chunk} {w : World} {l l' : List Chunk} (hp : l'.Sublist l) (h : Sat Γ (starx l :: H) w) : Sat Γ (starx l' :: H) w :=
 h.see (i := 0) rfl rfl (fun _ hw => ⟨fun C hC => hw.1 C (hp.subset hC), hw.2.sublist hp⟩) (fun k hk => by
  obtain ⟨C, hC, hk⟩ := hk
  exact ⟨C, hp.subset hC, hk⟩)
theorem flat_sub {α β : Type} {g : α → List β} : ∀ {l l' : List α}, l'.Sublist l → (l'.flatMap g).Sublist (l.flatMap g)
 | _, _, .slnil => List.Sublist.refl _
 | _, _, .cons a h => by
  rw [List.flatMap_cons]
  exact (flat_sub h).trans (List.sublist_append_right _ _)
 | _, _, .cons_cons a h => by
  rw [List.flatMap_cons, List.flatMap_cons]
  exact (List.Sublist.refl _).append (flat_sub h)
theorem delete_sl (h : Drv D P) (q : List UInt8) (hq : Good q) : Fn Tryz.prog 100 #[D.ptr, .string (txt q)] [D.B, D.M, D.F] DrS (fun _ => .int .i64 (P.delete q).2) (fun D' => [D'.B, D'.M, D'.F]) (fun D' => Drv D' (P.delete q).1 ∧ D'.d = D.d ∧ D'.m = D.m) := by
 have hl := hq.len
 unfold DrP.delete
 cases hf : P.find q with
 | none =>
  have hf2 := h.miss hf
  dsimp only
  rw [if_pos hq]
  refine Fn.enter Tryz.func100 rfl Tryz.ntmps100 (by rfl) ?_
  intro w0
  refine go [3,4,5,25,0,0] ?_
  refine Ls.does (some 10) (Does.read rfl Tryz.func86 (by kernel_rfl) (by kernel_rfl) (find_miss D q hq hf2) (by rfl) (by rfl) ⟨blkIn 0 (by rfl), mapIn 1 (by rfl), trivial⟩) (by rfl) (by rfl) ?_
  rintro _ -
  refine go [0,11,11,5,5,2,3,3,4,0,19,2] ?_
  refine Cd.cond_false (by rfl) (decide_eq_false (show ¬ ((4 : Int) = 0) by decide)) ?_
  refine go [6,3,3,4,0,19,2] ?_
  refine Cd.cond_false (by rfl) (decide_eq_false (show ¬ ((4 : Int) = 0) by decide)) ?_
  refine go [6,3,4,0,5,2,22] ?_
  exact Ent.rA (D) [0,1,2] (⟨h, rfl, rfl⟩) rT_
 | some f0 =>
  obtain ⟨f, hf2, rfl⟩ := h.hit hf
  by_cases hd : P.dead = true
  · dsimp only
    rw [if_pos hd]
    refine Fn.enter Tryz.func100 rfl Tryz.ntmps100 (by rfl) ?_
    intro w0
    refine go [3,4,5,25,0,0] ?_
    refine Ls.does (some 10) (Does.read rfl Tryz.func86 (by kernel_rfl) (by kernel_rfl) (find_hit D q hq f hf2) (by rfl) (by rfl) ⟨blkIn 0 (by rfl), mapIn 1 (by rfl), trivial⟩) (by rfl) (by rfl) ?_
    rintro _ -
    refine go [0,11,11,5,5,2,3,3,4,0,19,2] ?_
    refine Cd.cond_true (by rfl) (decide_eq_true rfl) ?_
    refine go [4,0] ?_
    refine Ls.does (some 16) (Does.read rfl Tryz.func98 (by kernel_rfl) (by kernel_rfl) (step_dead h hd) (by rfl) (by rfl) ⟨blkIn 0 (by rfl), trivial⟩) (by rfl) (by rfl) ?_
    rintro _ -
    refine go [5,2,3,3,4,0,19,2] ?_
    refine Cd.cond_false (by rfl) (decide_eq_false (show ¬ ((6 : Int) = 0) by decide)) ?_
    refine go [6,3,4,0,5,2,22] ?_
    exact Ent.rA (D) [0,1,2] (⟨h, rfl, rfl⟩) rT_
  · have hd : P.dead = false := by simpa using hd
    rw [hd]
    dsimp only
    rw [if_neg (by decide)]
    refine Fn.enter Tryz.func100 rfl Tryz.ntmps100 (by rfl) ?_
    intro w0
    refine go [3,4,5,25,0,0] ?_
    refine Ls.does (some 10) (Does.read rfl Tryz.func86 (by kernel_rfl) (by kernel_rfl) (find_hit D q hq f hf2) (by rfl) (by rfl) ⟨blkIn 0 (by rfl), mapIn 1 (by rfl), trivial⟩) (by rfl) (by rfl) ?_
    rintro _ -
    refine go [0,11,11,5,5,2,3,3,4,0,19,2] ?_
    refine Cd.cond_true (by rfl) (decide_eq_true rfl) ?_
    refine go [4,0] ?_
    refine Ls.does (some 16) (Does.call [0, 1, 2] rfl Tryz.func98 (by kernel_rfl) (by kernel_rfl) (step_ok h hd) (by rfl) (by rfl) (by rfl)) (by rfl) (by rfl) ?_
    rintro _ -
    refine go [5,2,3,3,4,0,19,2] ?_
    refine Cd.cond_true (by rfl) (decide_eq_true rfl) ?_
    refine go [4,0,14,7,0,8,0,0] ?_
    refine Ls.qD (Does.delT 1 rfl (by rfl) (by rfl) (by rfl) Tryz.underlying9 Tryz.underlying86 (by unfold maxLen; omega)) ?_
    rintro _ -
    refine go [25,0,5,2] ?_
    refine Ent.pick [1, 0, 2] (by rfl) ?_
    refine Ent.map (fun w hs => mapt_perm (ks' := (delG FiS.nm q D.fs).map FiS.nm) (f' := ptrF (delG FiS.nm q D.fs)) (by rw [del_names]) (fun x hx => ptrF_del (fun e => by
     rw [del_names, e] at hx
     simp at hx)) hs) ?_
    refine Ent.pick [2, 1, 0] (by rfl) ?_
    refine Ent.map (fun w hs => starx_sub (l' := (delG FiS.nm q D.fs).flatMap fun f => [f.B, f.R]) (flat_sub List.filter_sublist) hs) ?_
    refine Cd.ret ?_
    exact Ent.rA ({ D.stepD with fs := delG FiS.nm q D.fs }) [1,2,0] (⟨(h.step hd).without q, rfl, rfl⟩) rT_
end
abbrev txts (l : List (List UInt8)) : List Value := strs (l.map txt)
theorem sat_one {w w' : World} {H : List Chunk} {C : Chunk} (hb : Below w.heap.size w w') (h : C.holds w') (hf : ∀ k, C.foot k → w.heap.size ≤ k) : Sat ⟨w, H⟩ [C] w' :=
 ⟨Upd.of_below hb, ⟨fun D hD => by
  obtain rfl : D = C := by simpa using hD
  exact h, List.pairwise_singleton _ _⟩, fun D hD => by
  obtain rfl : D = C := by simpa using hD
  intro k hk hlt
  have := hf k hk
  dsimp only at hlt
  omega⟩
theorem keys_sl (m : Nat) : Fn Tryz.prog 83 #[.map (some m)] [] Nat (fun g => .func (.func 124) #[] #[ptrW g]) (fun g => [blk g 86 [.map (some m)]]) (fun _ => True) := fun w _ => by
 refine (Tryz.maps_Keys (some m) w).mono ?_
 rintro e w' ⟨rfl, rfl⟩
 exact ⟨w.heap.size, trivial, rfl, sat_one (Below.alloc (Below.refl _ _) (Nat.le_refl _) _) (Blk.new w _ _) (fun k hk => Nat.le_of_eq hk.symm)⟩
theorem sorted_sl {D : DrS} {P : DrP} (h : Drv D P) (g : Nat) : Fn Tryz.prog 82 #[.func (.func 124) #[] #[ptrW g]] [rblk g 86 [.map (some D.m)], D.rM] (Option Addr × Nat) (fun p => .slice p.1 P.fs.length p.2) (fun p => [row p.1 P.fs.length p.2 9 1 (txts (P.fs.map FiP.nm))]) (fun _ => True) := fun w hs => by
 have hb : Blk w g 86 #[.map (some D.m)] := hs.1 _ List.mem_cons_self
 obtain ⟨D0, hown, hnd, hh, _⟩ := (hs.1 _ (List.mem_cons_of_mem _ List.mem_cons_self) : MapT w Tryz.prog 9 D.m (.pointer none) (D.fs.map FiS.nm) (ptrF D.fs))
 obtain ⟨hp, hsz⟩ := perm_of hown Tryz.underlying9 hnd hh
 have hn := h.ok.len
 rw [List.length_map, h.len] at hsz
 refine (Tryz.slices_Sorted_keys g D.m _ D0 asIs w hb.lt (by simpa using hb.cell 0) hown (by unfold maxLen; omega) (by omega)).mono ?_
 rintro e w' ⟨v, ss, rfl, hS, hrow, _, hbl⟩
 have h1 : ss.mergeSort (fun x y => decide (x ≤ y)) = P.fs.map FiP.nm := by
  rw [mergeSort_of_perm (hS.trans hp.symm), h.names]
  exact rise_sorted (List.pairwise_map.2 h.ok.rise)
 have h2 : ss.length = P.fs.length := by rw [(hS.trans hp.symm).length_eq, List.length_map, h.len]
 rw [h1, h2] at hrow
 have h3 : (P.fs.map FiP.nm).map encStr = txts (P.fs.map FiP.nm) := by
  unfold txts strs
  rw [List.map_map, List.map_map, List.map_map]
  rfl
 rw [h3] at hrow
 obtain ⟨A, c, rfl⟩ : ∃ A c, v = .slice A P.fs.length c := by
  rcases hrow.2 with ⟨rfl, h0⟩ | ⟨g', cap, cur, rfl, _⟩
  · exact ⟨none, 0, by rw [h0]⟩
  · exact ⟨_, _, rfl⟩
 exact ⟨(A, c), trivial, rfl, sat_row hrow hbl⟩
theorem names_sl {D : DrS} {P : DrP} (h : Drv D P) : Fn Tryz.prog 42 #[D.ptr] [D.rB, D.rM] (Option Addr × Nat) (fun p => .slice p.1 P.fs.length p.2) (fun p => [row p.1 P.fs.length p.2 9 1 (txts (P.fs.map FiP.nm))]) (fun _ => True) := by
 refine Fn.enter Tryz.func42 rfl Tryz.ntmps42 (by rfl) ?_
 intro w0
 refine go [3,4,5,25,0,14,7,0,13,0] ?_
 refine Ls.does (some 7) (Does.call [0, 1] rfl Tryz.func83 (by kernel_rfl) (by kernel_rfl) (keys_sl D.m) (by rfl) (by rfl) (by rfl)) (by rfl) (by rfl) ?_
 rintro g -
 refine Ent.seeBlk 0 (by rfl) ?_
 refine Ls.does (some 8) (Does.call [0, 2] rfl Tryz.func82 (by kernel_rfl) (by kernel_rfl) (sorted_sl h g) (by rfl) (by rfl) (by rfl)) (by rfl) (by rfl) ?_
 rintro p -
 refine go [5,2,22] ?_
 exact Ent.rA (p) [0] trivial rT_
abbrev in64 (n : Int) : Prop := -9223372036854775808 ≤ n ∧ n ≤ 9223372036854775807
theorem wrapI {n : Int} (h : in64 n) : IntKind.i64.wrap n = n := by
 rw [IntKind.wrap_i64]
 omega
theorem txt_app (a b : List UInt8) : txt a ++ txt b = txt (a ++ b) := by
 apply ByteArray.ext
 rw [ByteArray.data_append]
 exact List.append_toArray _ _
theorem txt_size (l : List UInt8) : (txt l).size = l.length := rfl
def digZ (m : Nat) : List UInt8 := if m = 0 then [] else Lib.decDigits m
theorem digZ_step {m : Nat} (h : m ≠ 0) : digZ m = digZ (m / 10) ++ [UInt8.ofNat (48 + m % 10)] := by
 unfold digZ
 rw [if_neg h, Lib.decDigits]
 split
 · rename_i h10
   rw [if_pos (by omega), List.nil_append, Nat.mod_eq_of_lt h10]
 · rw [if_neg (by omega)]
theorem digZ_len (m : Nat) (h : m < 18446744073709551616) : (digZ m).length ≤ 20 := by
 unfold digZ
 split
 · simp
 · rw [Lib.decDigits_length]
   exact Lib.nDigits_le20 m h
theorem u8nat {m : Nat} (h : m < 256) : (UInt8.ofNat m).toNat = m := by simp; omega
theorem dig_wrap (k : Nat) : IntKind.u8.wrap (48 + ((k % 10 : Nat) : Int)) = ((UInt8.ofNat (48 + k % 10)).toNat : Int) := by
 rw [u8nat (by omega)]
 have : (48 + ((k % 10 : Nat) : Int)) = ((48 + k % 10 : Nat) : Int) := by omega
 rw [this]
 generalize hm : 48 + k % 10 = m
 have h : m < 256 := by omega
 clear hm this
 unfold IntKind.wrap
 simp [IntKind.bits, IntKind.signed]
 omega
theorem digits_sl (n : Int) (hn : in64 n) : Fn Tryz.prog 108 #[.int .i64 n] [] Unit (fun _ => .string (txt (Lib.itoa n))) (fun _ => []) (fun _ => True) := by
 refine Fn.enter Tryz.func108 rfl Tryz.ntmps108 (by rfl) ?_
 intro w0
 refine go [3,4,5,2,3,3,4,0,19,2] ?_
 refine Cd.cond _ (by rfl) (fun h2 => ?_) (fun h2 => ?_)
 · have h2 : n = 0 := of_decide_eq_true h2
   subst h2
   refine go [3,4,5,2,22] ?_
   refine Ent.ret (()) (trivial) (Res.tmp (by rfl) (by rfl)) ?_ [] (by rfl) ?_
   · exact congrArg (fun l => Value.string (txt l)) (show [48] = Lib.itoa 0 by kernel_rfl)
   · rfl
 have h2 : n ≠ 0 := of_decide_eq_false h2
 have hdl := digZ_len n.natAbs (by omega)
 refine go [6,3,4,5,2,3,3,4,0,5,2,21] ?_
 refine Cd.loop (ι := Int × List UInt8) (fun j => [(0, .int .i64 n), (3, .string (txt j.2)), (4, .int .i64 j.1)]) (fun _ => []) (fun j => in64 j.1 ∧ digZ n.natAbs = digZ j.1.natAbs ++ j.2) (fun j => j.1.natAbs) ((n, [])) (⟨hn, by simp⟩) ?_ rfl ?_
 · (repeat (first | exact trivial | refine ⟨by rfl, ?_⟩))
 rintro ⟨k, a⟩ ⟨hk, hdg⟩
 dsimp only at hk hdg ⊢
 have hal : a.length ≤ 20 := by
  have := congrArg List.length hdg
  rw [List.length_append] at this
  omega
 refine go [3,3,4,0,17,2] ?_
 refine Cd.cond _ (by rfl) (fun h3 => ?_) (fun h3 => ?_)
 · have h3 : k ≠ 0 := of_decide_eq_true h3
   have hm : (k.tmod 10).natAbs = k.natAbs % 10 := Int.natAbs_tmod k 10
   have hq : (k.tdiv 10).natAbs = k.natAbs / 10 := Int.natAbs_tdiv k 10
   refine go [6,3,21,3,4,0] ?_
   refine Ls.qE 14 (Ev.rem rfl (by rfl) (by rfl) (by decide)) ?_
   refine go [5,2,3,3,4,0,16,2] ?_
   refine Cd.cut (ι := Unit) (fun _ => [(0, .int .i64 n), (3, .string (txt a)), (4, .int .i64 k), (5, .int .i64 ((k.natAbs % 10 : Nat) : Int))]) (fun _ => []) (fun _ => True) ?_ ?_
   · refine Cd.cond _ (by rfl) (fun h4 => ?_) (fun h4 => ?_)
     · have h4 := of_decide_eq_true h4
       refine go [4,0] ?_
       refine Ls.qE 18 (Ev.to (Ev.neg rfl (by rfl)) (show Value.int .i64 (IntKind.i64.wrap (-(k.tmod 10))) = Value.int .i64 ((k.natAbs % 10 : Nat) : Int) by rw [wrapI (by omega)]; congr 1; omega)) ?_
       refine go [5,2] ?_
       exact Ent.iA (()) trivial
     · have h4 := of_decide_eq_false h4
       refine Cd.skip ?_
       refine Ent.inv (()) ?_ ?_ ?_
       · (try dsimp only); skip
       · (repeat (first | exact trivial | refine ⟨by rfl, ?_⟩ | refine ⟨by simp only [lenS]; rfl, ?_⟩ | refine ⟨by push_cast; rfl, ?_⟩ | refine ⟨by (show some (Value.int .i64 (k.tmod 10)) = some (Value.int .i64 ((k.natAbs % 10 : Nat) : Int)); congr 2; omega), ?_⟩))
       · rfl
   rintro _ -
   refine go [4,0] ?_
   refine Ls.qE 20 (Ev.addI rfl (by rfl) (by rfl) (by omega)) ?_
   refine Ls.qE 21 (Ev.convW (m := ((UInt8.ofNat (48 + k.natAbs % 10)).toNat : Int)) rfl (by rfl) (by kernel_rfl) Tryz.underlying5 (dig_wrap k.natAbs)) ?_
   refine Ls.does (some 22) (Does.lit (sz := 1) rfl (by rfl) Tryz.underlying47 (by kernel_rfl) (by rfl) (by kernel_rfl)) (by rfl) (by rfl) ?_
   intro g1 _
   refine Ls.qE 23 (Ev.textOf (l := [UInt8.ofNat (48 + k.natAbs % 10)]) rfl (by rfl) (ReadsIn.row 0 (by rfl)) Tryz.underlying47 Tryz.underlying5 Tryz.underlying9) ?_
   refine Ls.qM 24 ?_
   refine Ls.qE 25 (Ev.to (Ev.addS rfl (by rfl) (by rfl) (by rw [txt_size, txt_size]; simp only [List.length_cons, List.length_nil]; omega)) (congrArg Value.string (txt_app _ _))) ?_
   refine go [5,2,4,0] ?_
   refine Ls.qE 12 (Ev.to (Ev.quo rfl (by rfl) (by rfl) (by decide)) (show Value.int .i64 (IntKind.i64.wrap (k.tdiv 10)) = Value.int .i64 (k.tdiv 10) by rw [wrapI (by omega)])) ?_
   refine go [5,2] ?_
   refine Ent.pick [] (by rfl) ?_
   refine Ent.iA ((k.tdiv 10, UInt8.ofNat (48 + k.natAbs % 10) :: a)) ?_
   (try dsimp only); exact ⟨⟨by omega, by rw [hdg, digZ_step (m := k.natAbs) (by omega), hq, List.append_assoc]; rfl⟩, by rw [hq]; exact Nat.div_lt_self (by omega) (by decide)⟩
 · have h3 : k = 0 := by have := of_decide_eq_false h3; omega
   subst h3
   have hda : Lib.decDigits n.natAbs = a := by
    unfold digZ at hdg
    rw [if_neg (by omega)] at hdg
    simpa using hdg
   refine Cd.exit ?_
   refine go [3,3,4,0,16,2] ?_
   refine Cd.cond _ (by rfl) (fun h4 => ?_) (fun h4 => ?_)
   · have h4 := of_decide_eq_true h4
     refine go [3,4,0] ?_
     refine Ls.qE 29 (Ev.to (Ev.addS rfl (by rfl) (by rfl) (by rw [txt_size]; show 1 + a.length ≤ _; omega)) (congrArg Value.string (txt_app [45] a))) ?_
     refine go [5,2,22] ?_
     refine Ent.ret (()) (trivial) (Res.tmp (by rfl) (by rfl)) ?_ [] (by rfl) ?_
     · unfold Lib.itoa
       rw [if_pos h4, hda]
       rfl
     · rfl
   · have h4 := of_decide_eq_false h4
     refine go [6,3,4,0,5,2,22] ?_
     refine Ent.ret (()) (trivial) (Res.tmp (by rfl) (by rfl)) ?_ [] (by rfl) ?_
     · unfold Lib.itoa
       rw [if_neg h4, show n.toNat = n.natAbs by omega, hda]
     · rfl
def laidH (w : World) : Prop := Lib.TabIs Tryz.prog w "internal/strconv.uint64pow10" .u64 Lib.pow10Tab ∧ (∃ tp p, w.var? Tryz.prog "strconv.ErrSyntax" = some #[.iface tp p]) ∧ ∃ tp p, w.var? Tryz.prog "strconv.ErrRange" = some #[.iface tp p]
theorem cell_lt {w : World} {g k : Nat} {v : Value} (h : w.cell? ⟨g, k, none⟩ = some v) : g < w.heap.size := by
 rcases Nat.lt_or_ge g w.heap.size with h1 | h1
 · exact h1
 · simp [World.cell?, Array.getElem?_eq_none h1] at h
theorem var_heap {P : Program} {w w' : World} {n : String} {g : Nat} (hg : P.globalNamed n = some g) (h : w'.heap[g]? = w.heap[g]?) : w'.var? P n = w.var? P n := by
 simp only [World.var?, hg, Option.bind_some, h]
theorem var_lt {P : Program} {w : World} {n : String} {g : Nat} {cs : Array Value} {v : Value} (hg : P.globalNamed n = some g) (h : w.var? P n = some cs) (h0 : cs[0]? = some v) : g < w.heap.size := cell_lt ((World.var?_cell hg h 0).trans h0)
theorem gT : Tryz.prog.globalNamed "internal/strconv.uint64pow10" = some 2 := by kernel_rfl
theorem gS : Tryz.prog.globalNamed "strconv.ErrSyntax" = some 0 := by kernel_rfl
theorem gR : Tryz.prog.globalNamed "strconv.ErrRange" = some 1 := by kernel_rfl
def laidC : Chunk where
 holds := laidH
 foot k := k = 2 ∨ k = 0 ∨ k = 1
 excl := false
 lt := by
  rintro w k ⟨h2, ⟨tp, p, h3⟩, ⟨tp', p', h4⟩⟩ (rfl | rfl | rfl)
  · exact var_lt gT h2 (v := .int .u64 1) rfl
  · exact var_lt gS h3 rfl
  · exact var_lt gR h4 rfl
 loc := by
  rintro w w' _ he ⟨h2, h3, h4⟩
  refine ⟨?_, ?_, ?_⟩
  · exact (var_heap gT (he _ (.inl rfl))).trans h2
  · rw [var_heap gS (he _ (.inr (.inl rfl)))]
    exact h3
  · rw [var_heap gR (he _ (.inr (.inr rfl)))]
    exact h4
theorem sat_laid {w : World} {H : List Chunk} (i : Nat) (hi : H[i]? = some laidC) (h : Sat0 H w) : laidH w := h.1 _ (List.mem_of_getElem? hi)
theorem laidIn {Γ : Ctx} {H : List Chunk} (i : Nat) (hi : H[i]? = some laidC) : ∀ w, Sat Γ H w → laidC.holds w := fun _ hs => hs.mem hi
theorem below_gd (w : World) (k : Nat) (os : Array Obj) : Below w.heap.size w (Go.Sort.grow (w.drewN k) os) :=
 ⟨rfl, rfl, rfl, by show w.heap.size ≤ (w.heap ++ os).size; rw [Array.size_append]; omega, fun j hj => by
  show (w.heap ++ os)[j]? = _
  rw [Array.getElem?_append_left hj]⟩
theorem itoa_sl (n : Int) (h : in64 n) : Fn Tryz.prog 95 #[.int .i64 n] [laidC] Unit (fun _ => .string (txt (Lib.itoa n))) (fun _ => []) (fun _ => True) :=
 Fn.of_below fun w hs => (Tryz.strconv_Itoa n h.1 h.2 w (sat_laid 0 rfl hs).1).mono fun _ _ ⟨he, k, os, hw⟩ => ⟨he, hw ▸ below_gd w k os⟩
def atoiR (t : List UInt8) (p : Int × Value) : Prop := match Lib.atoiAll t with
 | .ok v => p.1 = v ∧ p.2 = .nilIface
 | _ => ∃ te pe, p.2 = .iface te pe
theorem atoi_sl (t : List UInt8) (ht : t.length ≤ 1048576) : Fn Tryz.prog 85 #[.string (txt t)] [laidC] (Int × Value) (fun p => .tuple #[.int .i64 p.1, p.2]) (fun _ => []) (atoiR t) := fun w hs => by
 obtain ⟨_, ⟨tp, p, h3⟩, ⟨tp', p', h4⟩⟩ := sat_laid 0 rfl hs
 have hz : (txt t).size = t.length := rfl
 have hd : (txt t).data.toList = t := rfl
 unfold atoiR
 cases he : Lib.atoiAll t with
 | ok v =>
  refine (Tryz.strconv_Atoi_ok (txt t) (by omega) v (by rw [hd, he]) w).mono ?_
  rintro e w' ⟨rfl, hw⟩
  refine ⟨(v, .nilIface), ⟨rfl, rfl⟩, rfl, sat_nil ?_⟩
  rcases hw with rfl | ⟨s', rfl⟩
  · exact Below.refl _ _
  · exact Lib.bytesWorld_below w _ s'
 | range =>
  refine (Tryz.strconv_Atoi_range_var (txt t) (by omega) (by rw [hd, he]) tp' p' w h4).mono ?_
  rintro e w' ⟨N, rfl, _, _, hb⟩
  exact ⟨(Lib.atoiSat (txt t).data.toList, _), ⟨_, _, rfl⟩, rfl, sat_nil hb⟩
 | _ =>
  refine (Tryz.strconv_Atoi_syntax_var (txt t) (by omega) (fun v h => by rw [hd, he] at h; cases h) (fun h => by rw [hd, he] at h; cases h) tp p w h3).mono ?_
  rintro e w' ⟨N, rfl, _, _, hb⟩
  exact ⟨(0, _), ⟨_, _, rfl⟩, rfl, sat_nil hb⟩
theorem repL (c : UInt8) : ∀ k, Lib.repeatL [c] k = List.replicate k c
 | 0 => by simp [Lib.repeatL]
 | k + 1 => by
  have := repL c k
  simp only [Lib.repeatL] at this ⊢
  simp_all [List.replicate_succ]
theorem repeat_sl (k : Nat) (hk : k ≤ 6) : Fn Tryz.prog 96 #[.string (txt [48]), .int .i64 k] [] Unit (fun _ => .string (txt (List.replicate k 48))) (fun _ => []) (fun _ => True) :=
 Fn.of_below fun w _ => (Tryz.strings_Repeat (txt [48]) k w (by omega) (by show 1 * k ≤ _; omega)).mono fun _ _ ⟨he, hw⟩ => ⟨he.trans (by
  show Ending.returned (.string ⟨(Lib.repeatL [48] k).toArray⟩) = _
  rw [repL]
  rfl), hw⟩
theorem cut_sl (s p : List UInt8) : Fn Tryz.prog 84 #[.string (txt s), .string (txt p)] [] Unit (fun _ => .tuple #[.string (txt (Lib.trimPrefix s p)), .bool (Lib.hasPrefix s p)]) (fun _ => []) (fun _ => True) :=
 Fn.of_same fun w _ => (Tryz.strings_CutPrefix (txt s) (txt p) w).mono fun _ _ ⟨he, hw⟩ => ⟨he, hw.symm⟩
abbrev wal4 : List UInt8 := [119, 97, 108, 45]
end Go.Proofs.YtacbkganjkipdaaGreatDoor

namespace Go.Proofs.YtacbkganjkipdaaGreatDoor
open Go.RowKit
theorem nmk_sl (k : List UInt8) (n : Nat) (hk : k.length ≤ 8) (hn : n ≤ 999999) : Fn Tryz.prog 49 #[.string (txt k), .int .i64 n] [laidC] Unit (fun _ => .string (txt (nameK k n))) (fun _ => []) (fun _ => True) := by
 obtain ⟨h1, h2⟩ := pad6 (n := n) (by omega)
 have hs : (txt (Lib.itoa n)).size = (Lib.itoa n).length := rfl
 have hks : (txt k).size = k.length := rfl
 refine Fn.enter Tryz.func49 rfl Tryz.ntmps49 (by rfl) ?_
 intro w0
 refine go [3,4,5,25,0] ?_
 refine Ls.does (some 7) (Does.read rfl Tryz.func95 (by kernel_rfl) (by kernel_rfl) (itoa_sl n (by constructor <;> omega)) (by rfl) (by rfl) ⟨laidIn 0 (by rfl), trivial⟩) (by rfl) (by rfl) ?_
 rintro _ -
 refine go [5,25,0] ?_
 refine Ls.qE 9 (Ev.to (Ev.addS rfl (by rfl) (by rfl) (by rw [txt_size, txt_size]; simp only [List.length_cons, List.length_nil]; omega)) (congrArg Value.string (txt_app k [45]))) ?_
 refine Ls.qM 10 ?_
 refine Ls.qE 11 (Ev.lenS rfl (by rfl) Tryz.underlying9) ?_
 refine Ls.qE 12 (Ev.subN (a := 6) rfl (by rfl) (by rfl) (by omega)) ?_
 refine Ls.does (some 13) (Does.read rfl Tryz.func96 (by kernel_rfl) (by kernel_rfl) (repeat_sl (6 - (Lib.itoa n).length) (by omega)) (by rfl) (by rfl) trivial) (by rfl) (by rfl) ?_
 rintro _ -
 refine Ls.qE 14 (Ev.to (Ev.addS rfl (by rfl) (by rfl) (by rw [txt_size, txt_size]; simp only [List.length_append, List.length_cons, List.length_nil, List.length_replicate]; omega)) (congrArg Value.string (txt_app (k ++ [45]) (List.replicate (6 - (Lib.itoa n).length) 48)))) ?_
 refine Ls.qM 15 ?_
 refine Ls.qE 16 (Ev.to (Ev.addS rfl (by rfl) (by rfl) (by rw [txt_size, txt_size]; simp only [List.length_append, List.length_cons, List.length_nil, List.length_replicate]; omega)) (congrArg Value.string (txt_app ((k ++ [45]) ++ List.replicate (6 - (Lib.itoa n).length) 48) (Lib.itoa n)))) ?_
 refine go [5,2,22] ?_
 refine Ent.ret (()) (trivial) (Res.tmp (by rfl) (by rfl)) ?_ [] (by rfl) ?_
 · rw [nameK, ← h1]
   simp
 · rfl
theorem nrk_sl (k q : List UInt8) (hk : k.length ≤ 8) (hq : q.length ≤ 1048576) : Fn Tryz.prog 43 #[.string (txt k), .string (txt q)] [laidC] Unit (fun _ => .int .i64 (numK k q)) (fun _ => []) (fun _ => True) := by
 have hc := cut_sl q (k ++ [45])
 have hkl : (k ++ [45]).length = k.length + 1 := by simp
 by_cases hp : (k ++ [45]) <+: q
 · have hh : Lib.hasPrefix q (k ++ [45]) = true := List.isPrefixOf_iff_prefix.2 hp
   rw [Lib.trimPrefix, hh, if_pos rfl, hkl] at hc
   refine Fn.enter Tryz.func43 rfl Tryz.ntmps43 (by rfl) ?_
   intro w0
   refine go [3,4,5,25,0,0] ?_
   refine Ls.qE 12 (Ev.to (Ev.addS rfl (by rfl) (by rfl) (by rw [txt_size, txt_size]; simp only [List.length_cons, List.length_nil]; omega)) (congrArg Value.string (txt_app k [45]))) ?_
   refine Ls.does (some 13) (Does.read rfl Tryz.func84 (by kernel_rfl) (by kernel_rfl) (hc) (by rfl) (by rfl) trivial) (by rfl) (by rfl) ?_
   rintro _ -
   refine go [0,11,11,5,5,25,0] ?_
   refine Ls.does (some 18) (Does.read rfl Tryz.func85 (by kernel_rfl) (by kernel_rfl) (atoi_sl (q.drop (k.length + 1)) (by rw [List.length_drop]; omega)) (by rfl) (by rfl) ⟨laidIn 0 (by rfl), trivial⟩) (by rfl) (by rfl) ?_
   rintro ⟨v, e⟩ he
   refine go [0,11,11,5,5,2,3,3,4,0,20,0] ?_
   by_cases hok : ∃ v, Lib.atoiAll (q.drop (k.length + 1)) = .ok v
   · obtain ⟨v', hv⟩ := hok
     unfold atoiR at he
     rw [hv] at he
     obtain ⟨rfl, rfl⟩ := he
     refine Ent.known 23 false (by rfl) (by exact (rfl)) ?_
     refine Ls.qM 24 ?_
     refine Ls.qE 25 (Ev.nilNilN rfl (by rfl) (by kernel_rfl)) ?_
     refine go [10,0] ?_
     refine Ent.known 27 false (by rfl) (by exact (rfl)) ?_
     refine go [0,16,10,0] ?_
     by_cases h1 : v < 1
     · rw [numK_none (fun ⟨_, v2, hv2, h3, h4⟩ => by rw [hv] at hv2; injection hv2 with e; omega)]
       refine Ent.known 31 true (by rfl) (by exact (decide_eq_true h1)) ?_
       refine go [1,1,9,0,1,1,1,1,1,9,2,23,3,4,5,2,22] ?_
       exact Ent.rA (()) [] trivial rT_
     · refine Ent.known 31 false (by rfl) (by exact (decide_eq_false h1)) ?_
       refine go [0,18,10,0] ?_
       by_cases h2 : 999999 < v
       · rw [numK_none (fun ⟨_, v2, hv2, h3, h4⟩ => by rw [hv] at hv2; injection hv2 with e; omega)]
         refine Ent.known 35 true (by rfl) (by exact (decide_eq_true h2)) ?_
         refine go [1,1,1,1,1,9,2,23,3,4,5,2,22] ?_
         exact Ent.rA (()) [] trivial rT_
       · obtain ⟨n, rfl⟩ : ∃ n : Nat, v = n := ⟨v.toNat, by omega⟩
         have hn := numK_atoi hv (by omega) (by omega)
         rw [show ((n : Int).toNat) = n from rfl] at hn
         refine Ent.known 35 false (by rfl) (by exact (decide_eq_false h2)) ?_
         refine go [0,0] ?_
         refine Ls.does (some 38) (Does.read rfl Tryz.func49 (by kernel_rfl) (by kernel_rfl) (nmk_sl k n hk (by omega)) (by rfl) (by rfl) ⟨laidIn 0 (by rfl), trivial⟩) (by rfl) (by rfl) ?_
         rintro _ -
         refine Ls.qM 39 ?_
         refine Ls.qE 40 (Ev.neqS rfl (by rfl) (by rfl)) ?_
         refine go [10,2] ?_
         by_cases hx : nameK k n = q
         · rw [if_pos hx] at hn
           rw [hn]
           refine Cd.cond_false (by rfl) (decide_eq_false (show ¬ (txt (nameK k n) ≠ txt q) from fun h => h (txt_eq_iff.2 hx))) ?_
           refine go [6,3,4,0,5,2,22] ?_
           exact Ent.rA (()) [] trivial rT_
         · rw [if_neg hx] at hn
           rw [hn]
           refine Cd.cond_true (by rfl) (decide_eq_true (show txt (nameK k n) ≠ txt q from fun h => hx (txt_eq_iff.1 h))) ?_
           refine go [3,4,5,2,22] ?_
           exact Ent.rA (()) [] trivial rT_
   · have he2 : ∃ te pe, e = .iface te pe := by
      unfold atoiR at he
      split at he
      · rename_i v2 hv2
        exact absurd ⟨v2, hv2⟩ hok
      · exact he
     obtain ⟨te, pe, rfl⟩ := he2
     rw [numK_none (fun ⟨_, v2, hv2, _⟩ => hok ⟨v2, hv2⟩)]
     refine Ent.known 23 false (by rfl) (by exact (rfl)) ?_
     refine Ls.qM 24 ?_
     refine Ls.qE 25 (Ev.ifaceNilN rfl (by rfl) (by rfl) (by kernel_rfl)) ?_
     refine go [10,0,1,1,9,0,1,1,9,0,1,1,1,1,1,9,2,23,3,4,5,2,22] ?_
     exact Ent.rA (()) [] trivial rT_
 · have hh : Lib.hasPrefix q (k ++ [45]) = false := Bool.eq_false_iff.2 fun h => hp (List.isPrefixOf_iff_prefix.1 h)
   rw [Lib.trimPrefix, hh, if_neg (by decide)] at hc
   rw [numK_none (fun h => hp h.1)]
   refine Fn.enter Tryz.func43 rfl Tryz.ntmps43 (by rfl) ?_
   intro w0
   refine go [3,4,5,25,0,0] ?_
   refine Ls.qE 12 (Ev.to (Ev.addS rfl (by rfl) (by rfl) (by rw [txt_size, txt_size]; simp only [List.length_cons, List.length_nil]; omega)) (congrArg Value.string (txt_app k [45]))) ?_
   refine Ls.does (some 13) (Does.read rfl Tryz.func84 (by kernel_rfl) (by kernel_rfl) (hc) (by rfl) (by rfl) trivial) (by rfl) (by rfl) ?_
   rintro _ -
   refine go [0,11,11,5,5,25,0] ?_
   refine Ls.does (some 18) (Does.read rfl Tryz.func85 (by kernel_rfl) (by kernel_rfl) (atoi_sl q (by omega)) (by rfl) (by rfl) ⟨laidIn 0 (by rfl), trivial⟩) (by rfl) (by rfl) ?_
   rintro ⟨v, e⟩ he
   refine go [0,11,11,5,5,2,3,3,4,0,20,0,1,1,9,0,1,1,9,0,1,1,9,0] ?_
   refine go [1,1,1,1,1,9,2,23,3,4,5,2,22] ?_
   exact Ent.rA (()) [] trivial rT_
def TbP.enc (t : TbP) : List Value := [.int .i64 t.num, .int .i64 t.lev, .string (txt t.fst), .string (txt t.lst)]
theorem tb_len (t : TbP) : t.enc.length = 4 := rfl
abbrev tbs (l : List TbP) : List Value := l.flatMap TbP.enc
abbrev rdT (A : Option Addr) (l : List TbP) : Chunk := rd A l.length 4 (tbs l)
abbrev rowTb (A : Option Addr) (n c : Nat) (l : List TbP) : Chunk := row A n c 42 4 (tbs l)
theorem elem_tb : Elem Tryz.prog 22 42 4 48 := elem_of (by kernel_rfl)
theorem one_tb (l : List TbP) : ∀ u ∈ tbs l, u.oneCell' = true := fun u hu => by
 obtain ⟨t, _, hu⟩ := List.mem_flatMap.1 hu
 unfold TbP.enc at hu
 simp only [List.mem_cons, List.not_mem_nil, or_false] at hu
 rcases hu with rfl | rfl | rfl | rfl <;> rfl
def cmpI (a b : Int) : Int := if a < b then -1 else if b < a then 1 else 0
def ordI (t u : TbP) : Int := if cmpI t.lev u.lev ≠ 0 then cmpI t.lev u.lev else cmpI t.num u.num
theorem ordI_lt (t u : TbP) : decide (ordI t u < 0) = ltT t u := by
 unfold ltT
 rw [decide_eq_decide]
 unfold ordI cmpI
 repeat' split
 all_goals omega
theorem isnan_sl (a : Int) : Fn Tryz.prog 121 #[.int .i64 a] [] Unit (fun _ => .bool false) (fun _ => []) (fun _ => True) := by
 refine Fn.enter Tryz.func121 rfl Tryz.ntmps121 (by rfl) ?_
 intro w0
 refine go [3,4,5,25,0,0,17,5,2,22] ?_
 refine Ent.ret (()) (trivial) (Res.tmp (by rfl) (by rfl)) ?_ [] (by rfl) ?_
 · exact congrArg Value.bool (decide_eq_false (fun h => h rfl))
 · rfl
theorem compare_sl (a b : Int) : Fn Tryz.prog 81 #[.int .i64 a, .int .i64 b] [] Unit (fun _ => .int .i64 (cmpI a b)) (fun _ => []) (fun _ => True) := by
 refine Fn.enter Tryz.func81 rfl Tryz.ntmps81 (by rfl) ?_
 intro w0
 refine go [3,4,5,25,0] ?_
 refine Ls.does (some 8) (Does.read rfl Tryz.func121 (by kernel_rfl) (by kernel_rfl) (isnan_sl a) (by rfl) (by rfl) trivial) (by rfl) (by rfl) ?_
 rintro _ -
 refine go [5,25,0] ?_
 refine Ls.does (some 10) (Does.read rfl Tryz.func121 (by kernel_rfl) (by kernel_rfl) (isnan_sl b) (by rfl) (by rfl) trivial) (by rfl) (by rfl) ?_
 rintro _ -
 refine go [5,2,3,3,4,0,2,24,6,3,3,4,0,2,24,6,3,3,4,0,0,16,2] ?_
 unfold cmpI
 refine Cd.cond _ (by rfl) (fun h1 => ?_) (fun h1 => ?_)
 · rw [if_pos (of_decide_eq_true h1)]
   refine go [3,4] ?_
   refine Ls.qE 4 (Ev.assign (show Oper.op _ = Op.assign (Operand.const (Value.int IntKind.i64 (-1))) from rfl) (by rfl)) ?_
   refine go [2,22] ?_
   exact Ent.rA (()) [] trivial rT_
 · rw [if_neg (of_decide_eq_false h1)]
   refine go [6,3,3,4,0,0,18,2] ?_
   refine Cd.cond _ (by rfl) (fun h2 => ?_) (fun h2 => ?_)
   · rw [if_pos (of_decide_eq_true h2)]
     refine go [3,4,5,2,22] ?_
     exact Ent.rA (()) [] trivial rT_
   · rw [if_neg (of_decide_eq_false h2)]
     refine go [6,3,4,5,2,22] ?_
     exact Ent.rA (()) [] trivial rT_
theorem or_sl (A : Option Addr) (c : Nat) (a b : Int) : Fn Tryz.prog 80 #[.slice A 2 c] [rd A 2 1 (ints [a, b])] Unit (fun _ => .int .i64 (if a ≠ 0 then a else b)) (fun _ => []) (fun _ => True) := by
 refine Fn.enter Tryz.func80 rfl Tryz.ntmps80 (by rfl) ?_
 intro w0
 refine Ent.rdSome 0 (by rfl) (by decide) (fun ad had => ?_)
 subst had
 refine go [3,4,5,25,5,2,3,3,4,0] ?_
 refine Ls.qE 7 (Ev.len rfl (by rfl) Tryz.underlying25) ?_
 refine go [0,2,21] ?_
 refine Cd.loop (ι := Nat) (fun k => [(3, .int .i64 0), (6, .slice (some ad) 2 c), (7, .int .i64 2), (8, .int .i64 k)]) (fun _ => [rd (some ad) 2 1 (ints [a, b])]) (fun k => k ≤ 2 ∧ (1 ≤ k → a = 0) ∧ (2 ≤ k → b = 0)) (fun k => 2 - k) (0) (⟨by decide, fun h => absurd h (by decide), fun h => absurd h (by decide)⟩) ?_ rfl ?_
 · (repeat (first | exact trivial | refine ⟨by rfl, ?_⟩))
 rintro k ⟨hk, ha, hb⟩
 refine go [3,4,16,2,3] ?_
 refine Cd.cond _ (by rfl) (fun h2 => ?_) (fun h2 => ?_)
 · have hlt : k < 2 := by have := of_decide_eq_true h2; omega
   obtain ⟨x, hx⟩ : ∃ x, [a, b][k]? = some x := ⟨_, List.getElem?_eq_getElem (show k < [a, b].length from hlt)⟩
   have hxv : x = (if k = 0 then a else b) := by
    rcases (show k = 0 ∨ k = 1 by omega) with rfl | rfl
    · exact (Option.some.inj hx).symm
    · exact (Option.some.inj hx).symm
   refine go [6,3,21,3,4] ?_
   refine Ls.qE 10 (Ev.indexAt (sz := 1) rfl (by rfl) (by rfl) Tryz.underlying25 (by kernel_rfl) (by omega)) ?_
   refine Ls.qE 11 (Ev.loadInt rfl (by rfl) (ReadsIn.rd 0 (by rfl)) (by kernel_rfl) (by assumption)) ?_
   refine go [5,25,0,0,17,2] ?_
   refine Cd.cond _ (by rfl) (fun h3 => ?_) (fun h3 => ?_)
   · have h3 : x ≠ 0 := of_decide_eq_true h3
     refine go [3,4,0,5,2,22] ?_
     refine Ent.ret (()) (trivial) (Res.tmp (by rfl) (by rfl)) ?_ [] (by rfl) ?_
     · congr 1
       by_cases e : k = 0
       · rw [if_pos e] at hxv
         rw [if_pos (hxv ▸ h3)]
         exact hxv
       · rw [if_neg e] at hxv
         rw [if_neg (fun h => h (ha (by omega)))]
         exact hxv
     · rfl
   · have h3 : x = 0 := Decidable.not_not.1 (of_decide_eq_false h3)
     refine go [6,4] ?_
     refine Ls.qE 16 (Ev.addN (b := 1) rfl (by rfl) (by rfl) (by omega)) ?_
     refine go [0,2] ?_
     refine Ent.iA (k + 1) ?_
     (try dsimp only); exact ⟨⟨hlt, fun _ => by
      by_cases e : k = 0
      · rw [if_pos e] at hxv
        omega
      · exact ha (by omega), fun _ => by
      rw [if_neg (by omega)] at hxv
      omega⟩, by omega⟩
 · have hge : 2 ≤ k := by have := of_decide_eq_false h2; omega
   refine Cd.exit ?_
   refine go [3,4,0,5,2,22] ?_
   refine Ent.ret (()) (trivial) (Res.tmp (by rfl) (by rfl)) ?_ [] (by rfl) ?_
   · rw [if_neg (fun h => h (ha (by omega))), hb hge]
   · rfl
theorem order_sl (t u : TbP) : Fn Tryz.prog 40 #[.agg t.enc.toArray, .agg u.enc.toArray] [] Unit (fun _ => .int .i64 (ordI t u)) (fun _ => []) (fun _ => True) := by
 dsimp only [TbP.enc]
 refine Fn.enter Tryz.func40 rfl Tryz.ntmps40 (by rfl) ?_
 intro w0
 refine go [3,4] ?_
 refine Ls.does (some 2) (Does.box rfl (by rfl)) (by rfl) (by rfl) ?_
 intro g1 _
 refine Ls.does (some 3) (Does.box rfl (by rfl)) (by rfl) (by rfl) ?_
 intro g2 _
 refine go [5,2,3] ?_
 refine Cd.draw [] (by kernel_rfl) ?_
 refine Rg.qE 0 5 (by rfl) (Ev.fieldAddr (k := 1) rfl (by rfl) (by kernel_rfl) (by rfl)) ?_
 refine Rg.qE 1 6 (by rfl) (Ev.load 1 rfl (by rfl) (by rfl) (by kernel_rfl) (by rfl)) ?_
 refine Rg.qE 2 7 (by rfl) (Ev.fieldAddr (k := 1) rfl (by rfl) (by kernel_rfl) (by rfl)) ?_
 refine Rg.qE 3 8 (by rfl) (Ev.load 0 rfl (by rfl) (by rfl) (by kernel_rfl) (by rfl)) ?_
 refine Rg.qE 5 10 (by rfl) (Ev.fieldAddr (k := 0) rfl (by rfl) (by kernel_rfl) (by rfl)) ?_
 refine Rg.qE 6 11 (by rfl) (Ev.load 1 rfl (by rfl) (by rfl) (by kernel_rfl) (by rfl)) ?_
 refine Rg.qE 7 12 (by rfl) (Ev.fieldAddr (k := 0) rfl (by rfl) (by kernel_rfl) (by rfl)) ?_
 refine Rg.qE 8 13 (by rfl) (Ev.load 0 rfl (by rfl) (by rfl) (by kernel_rfl) (by rfl)) ?_
 refine Rg.does 4 (by rfl) (by kernel_rfl) (Does.read rfl Tryz.func81 (by kernel_rfl) (by kernel_rfl) (compare_sl t.lev u.lev) (by rfl) (by rfl) trivial) (by rfl) (some 9) (by rfl) (by exact fun _ _ h => h) ?_
 rintro _ -
 refine Rg.does 9 (by rfl) (by kernel_rfl) (Does.read rfl Tryz.func81 (by kernel_rfl) (by kernel_rfl) (compare_sl t.num u.num) (by rfl) (by rfl) trivial) (by rfl) (some 14) (by rfl) (by exact fun _ _ h => h) ?_
 rintro _ -
 refine Rg.does 10 (by rfl) (by kernel_rfl) (Does.lit (sz := 1) rfl (by rfl) Tryz.underlying25 (by kernel_rfl) (by rfl) (by kernel_rfl)) (by rfl) (some 15) (by rfl) (fun _ _ h => h.tail_) ?_
 intro g3 _
 refine Rg.does 11 (by rfl) (by kernel_rfl) (Does.read rfl Tryz.func80 (by kernel_rfl) (by kernel_rfl) (or_sl (some ⟨g3, 0, none⟩) 2 (cmpI t.lev u.lev) (cmpI t.num u.num)) (by rfl) (by rfl) ⟨ReadsIn.row 0 (by rfl), trivial⟩) (by rfl) (some 16) (by rfl) (by exact fun _ _ h => h) ?_
 rintro _ -
 refine Rg.qE 12 4 (by rfl) (Ev.assign rfl (by rfl)) ?_
 refine Rg.done (by kernel_rfl) ?_ _
 refine Cd.ret ?_
 exact Ent.rA (()) [] trivial rT_
abbrev ordV : Value := .func (.func 40) #[] #[]
theorem toList_txt (a : List UInt8) : (txt a).toList = a := by rw [ByteArray.toList_eq]; rfl
theorem gtr_txt (a b : List UInt8) : (!(Op.bytesLess (txt a).toList (txt b).toList || ((txt a).toList == (txt b).toList))) = decide (b < a) := by
 rw [toList_txt, toList_txt, Go.Proofs.bytesLess_eq]
 rcases lt_tri a b with h | h | h
 · rw [decide_eq_true h, decide_eq_false (fun k => List.lt_irrefl _ (List.lt_trans h k))]
   rfl
 · subst h
   rw [decide_eq_false (List.lt_irrefl _)]
   simp
 · rw [decide_eq_true h, decide_eq_false (fun k => List.lt_irrefl _ (List.lt_trans h k))]
   have : a ≠ b := fun e => List.lt_irrefl _ (e ▸ h)
   simp [this]
abbrev VsP.val (v : VsP) (A : Option Addr) (c : Nat) : List Value := [.slice A v.tbs.length c, .int .i64 v.nx, .int .i64 v.lg, .int .i64 v.sq]
theorem ahead_sl (t u : TbP) : Fn Tryz.prog 41 #[.agg t.enc.toArray, .agg u.enc.toArray] [] Unit (fun _ => .bool (ltT t u)) (fun _ => []) (fun _ => True) := by
 dsimp only [TbP.enc]
 refine Fn.enter Tryz.func41 rfl Tryz.ntmps41 (by rfl) ?_
 intro w0
 refine go [3,4] ?_
 refine Ls.does (some 2) (Does.box rfl (by rfl)) (by rfl) (by rfl) ?_
 intro g1 _
 refine Ls.does (some 3) (Does.box rfl (by rfl)) (by rfl) (by rfl) ?_
 intro g2 _
 refine go [5,25,7,1,8,1,7,1,8,0,16,0] ?_
 by_cases h1 : t.lev < u.lev
 · refine Ent.known 10 true (by rfl) (by exact (decide_eq_true h1)) ?_
   refine go [1,1,1,1,1,1,1,1,1,1,1,1,9,5,2,22] ?_
   refine Ent.ret (()) (trivial) (Res.tmp (by rfl) (by rfl)) ?_ [] (by rfl) ?_
   · exact congrArg Value.bool (ltT_iff.2 (.inl h1)).symm
   · rfl
 · refine Ent.known 10 false (by rfl) (by exact (decide_eq_false h1)) ?_
   refine go [7,1,8,1,7,1,8,0,19,0] ?_
   by_cases h2 : t.lev = u.lev
   · refine Ent.known 16 true (by rfl) (by exact (decide_eq_true h2)) ?_
     refine go [7,0,8,1,7,0,8,0,16,9,10,5,2,22] ?_
     refine Ent.ret (()) (trivial) (Res.tmp (by rfl) (by rfl)) ?_ [] (by rfl) ?_
     · show Value.bool (decide _) = Value.bool (decide _)
       congr 1
       exact decide_eq_decide.2 (by omega)
     · rfl
   · refine Ent.known 16 false (by rfl) (by exact (decide_eq_false h2)) ?_
     refine go [1,1,1,1,1,10,10,5,2,22] ?_
     refine Ent.ret (()) (trivial) (Res.tmp (by rfl) (by rfl)) ?_ [] (by rfl) ?_
     · exact congrArg Value.bool (ltT_not.2 (by omega)).symm
     · rfl
set_option maxHeartbeats 4000000 in
theorem rgood_sl (v : VsP) (A : Option Addr) (c : Nat) (hn : v.tbs.length ≤ 90000000) (hz : ∀ t ∈ v.tbs, t.fst.length ≤ 140737488355328 ∧ t.lst.length ≤ 140737488355328) : Fn Tryz.prog 22 #[.agg (v.val A c).toArray] [rdT A v.tbs] Unit (fun _ => .bool (decide (goodP v))) (fun _ => []) (fun _ => True) := by
 obtain ⟨l, nx, lg, sq⟩ := v
 dsimp only [VsP.val] at hn hz ⊢
 refine Fn.enter Tryz.func22 rfl Tryz.ntmps22 (by rfl) ?_
 intro w0
 refine go [3,4] ?_
 refine Ls.does (some 1) (Does.box rfl (by rfl)) (by rfl) (by rfl) ?_
 intro g1 _
 refine go [5,2,3,3] ?_
 by_cases hr : RngOk ⟨l, nx, lg, sq⟩
 rotate_left
 · have hr2 := hr
   unfold RngOk at hr2
   dsimp only at hr2
   refine Cd.cut (ι := Unit) (fun _ => [(1, ptrW g1), (33, .bool true)]) (fun _ => []) (fun _ => True) ?_ ?_
   · refine go [4,7,1,8,0,16,0] ?_
     refine Ent.split 9 (by rfl) (fun hT1 => ?_) (fun hT1 => ?_)
     · first | have hT1 := of_decide_eq_false hT1 | have hT1 := of_not_decide_false hT1 | skip
       refine go [7,1,8,0,18,10,0] ?_
       refine Ent.split 14 (by rfl) (fun hT2 => ?_) (fun hT2 => ?_)
       · first | have hT2 := of_decide_eq_false hT2 | have hT2 := of_not_decide_false hT2 | skip
         refine go [7,2,8,0,16,10,0] ?_
         refine Ent.split 19 (by rfl) (fun hT3 => ?_) (fun hT3 => ?_)
         · first | have hT3 := of_decide_eq_false hT3 | have hT3 := of_not_decide_false hT3 | skip
           refine go [7,2,8,0,18,10,0] ?_
           refine Ent.split 24 (by rfl) (fun hT4 => ?_) (fun hT4 => ?_)
           · first | have hT4 := of_decide_eq_false hT4 | have hT4 := of_not_decide_false hT4 | skip
             refine go [7,3,8,0,16,10,0] ?_
             refine Ent.split 29 (by rfl) (fun hT5 => ?_) (fun hT5 => ?_)
             · first | have hT5 := of_decide_eq_false hT5 | have hT5 := of_not_decide_false hT5 | skip
               refine go [7,3,8,0,18,10,2] ?_
               refine Ent.pick [] (by rfl) ?_
               refine Ent.inv () ?_ ?_ ?_
               · exact trivial
               · (repeat (first | exact trivial | refine ⟨by rfl, ?_⟩ | refine ⟨by simp only [lenS]; rfl, ?_⟩ | refine ⟨by push_cast; rfl, ?_⟩ | refine ⟨by (show some (Value.bool _) = some (Value.bool _); congr 2; all_goals ((first | rfl | exact (decide_eq_true (by omega)).symm | exact (decide_eq_true (by omega)) | omega))), ?_⟩))
               · rfl
             · first | have hT5 := of_decide_eq_true hT5 | have hT5 := of_not_decide_true hT5 | skip
               refine go [1,1,1,9,2] ?_
               refine Ent.pick [] (by rfl) ?_
               refine Ent.inv () ?_ ?_ ?_
               · exact trivial
               · (repeat (first | exact trivial | refine ⟨by rfl, ?_⟩ | refine ⟨by simp only [lenS]; rfl, ?_⟩ | refine ⟨by push_cast; rfl, ?_⟩ | refine ⟨by (show some (Value.bool _) = some (Value.bool _); congr 2; all_goals ((first | rfl | exact (decide_eq_true (by omega)).symm | exact (decide_eq_true (by omega)) | omega))), ?_⟩))
               · rfl
           · first | have hT4 := of_decide_eq_true hT4 | have hT4 := of_not_decide_true hT4 | skip
             refine go [1,1,1,9,0,1,1,1,9,2] ?_
             refine Ent.pick [] (by rfl) ?_
             refine Ent.inv () ?_ ?_ ?_
             · exact trivial
             · (repeat (first | exact trivial | refine ⟨by rfl, ?_⟩ | refine ⟨by simp only [lenS]; rfl, ?_⟩ | refine ⟨by push_cast; rfl, ?_⟩ | refine ⟨by (show some (Value.bool _) = some (Value.bool _); congr 2; all_goals ((first | rfl | exact (decide_eq_true (by omega)).symm | exact (decide_eq_true (by omega)) | omega))), ?_⟩))
             · rfl
         · first | have hT3 := of_decide_eq_true hT3 | have hT3 := of_not_decide_true hT3 | skip
           refine go [1,1,1,9,0,1,1,1,9,0,1,1,1,9,2] ?_
           refine Ent.pick [] (by rfl) ?_
           refine Ent.inv () ?_ ?_ ?_
           · exact trivial
           · (repeat (first | exact trivial | refine ⟨by rfl, ?_⟩ | refine ⟨by simp only [lenS]; rfl, ?_⟩ | refine ⟨by push_cast; rfl, ?_⟩ | refine ⟨by (show some (Value.bool _) = some (Value.bool _); congr 2; all_goals ((first | rfl | exact (decide_eq_true (by omega)).symm | exact (decide_eq_true (by omega)) | omega))), ?_⟩))
           · rfl
       · first | have hT2 := of_decide_eq_true hT2 | have hT2 := of_not_decide_true hT2 | skip
         refine go [1,1,1,9,0,1,1,1,9,0,1,1,1,9,0,1,1,1,9,2] ?_
         refine Ent.pick [] (by rfl) ?_
         refine Ent.inv () ?_ ?_ ?_
         · exact trivial
         · (repeat (first | exact trivial | refine ⟨by rfl, ?_⟩ | refine ⟨by simp only [lenS]; rfl, ?_⟩ | refine ⟨by push_cast; rfl, ?_⟩ | refine ⟨by (show some (Value.bool _) = some (Value.bool _); congr 2; all_goals ((first | rfl | exact (decide_eq_true (by omega)).symm | exact (decide_eq_true (by omega)) | omega))), ?_⟩))
         · rfl
     · first | have hT1 := of_decide_eq_true hT1 | have hT1 := of_not_decide_true hT1 | skip
       refine go [1,1,1,9,0,1,1,1,9,0,1,1,1,9,0,1,1,1,9,0,1,1,1,9] ?_
       refine Ls.nil ?_
       refine Ent.pick [] (by rfl) ?_
       refine Ent.inv () ?_ ?_ ?_
       · exact trivial
       · (repeat (first | exact trivial | refine ⟨by rfl, ?_⟩ | refine ⟨by simp only [lenS]; rfl, ?_⟩ | refine ⟨by push_cast; rfl, ?_⟩ | refine ⟨by (show some (Value.bool _) = some (Value.bool _); congr 2; all_goals ((first | rfl | exact (decide_eq_true (by omega)).symm | exact (decide_eq_true (by omega)) | omega))), ?_⟩))
       · rfl
   rintro _ -
   refine go [23,3,4,5,2,22] ?_
   refine Ent.ret (()) (trivial) (Res.tmp (by rfl) (by rfl)) ?_ [] (by rfl) ?_
   · exact congrArg Value.bool (decide_eq_false (fun h => hr h.1)).symm
   · rfl
 · have hr2 := hr
   unfold RngOk at hr2
   dsimp only at hr2
   refine Cd.cut (ι := Unit) (fun _ => [(1, ptrW g1), (33, .bool false)]) (fun _ => [blk g1 24 [.slice A l.length c, .int .i64 nx, .int .i64 lg, .int .i64 sq], rdT A l]) (fun _ => True) ?_ ?_
   · refine go [4,7,1,8,0,16,0] ?_
     refine Ent.split 9 (by rfl) (fun hT1 => ?_) (fun hT1 => ?_)
     · first | have hT1 := of_decide_eq_false hT1 | have hT1 := of_not_decide_false hT1 | skip
       refine go [7,1,8,0,18,10,0] ?_
       refine Ent.split 14 (by rfl) (fun hT2 => ?_) (fun hT2 => ?_)
       · first | have hT2 := of_decide_eq_false hT2 | have hT2 := of_not_decide_false hT2 | skip
         refine go [7,2,8,0,16,10,0] ?_
         refine Ent.split 19 (by rfl) (fun hT3 => ?_) (fun hT3 => ?_)
         · first | have hT3 := of_decide_eq_false hT3 | have hT3 := of_not_decide_false hT3 | skip
           refine go [7,2,8,0,18,10,0] ?_
           refine Ent.split 24 (by rfl) (fun hT4 => ?_) (fun hT4 => ?_)
           · first | have hT4 := of_decide_eq_false hT4 | have hT4 := of_not_decide_false hT4 | skip
             refine go [7,3,8,0,16,10,0] ?_
             refine Ent.split 29 (by rfl) (fun hT5 => ?_) (fun hT5 => ?_)
             · first | have hT5 := of_decide_eq_false hT5 | have hT5 := of_not_decide_false hT5 | skip
               refine go [7,3,8,0,18,10,2] ?_
               refine Ent.inv () ?_ ?_ ?_
               · exact trivial
               · (repeat (first | exact trivial | refine ⟨by rfl, ?_⟩ | refine ⟨by simp only [lenS]; rfl, ?_⟩ | refine ⟨by push_cast; rfl, ?_⟩ | refine ⟨by (show some (Value.bool _) = some (Value.bool _); congr 2; all_goals ((first | rfl | exact (decide_eq_false (by omega)).symm | exact (decide_eq_false (by omega)) | omega))), ?_⟩))
               · rfl
             · first | have hT5 := of_decide_eq_true hT5 | have hT5 := of_not_decide_true hT5 | skip
               refine go [1,1,1,9,2] ?_
               refine Ent.inv () ?_ ?_ ?_
               · exact trivial
               · (repeat (first | exact trivial | refine ⟨by rfl, ?_⟩ | refine ⟨by simp only [lenS]; rfl, ?_⟩ | refine ⟨by push_cast; rfl, ?_⟩ | refine ⟨by (show some (Value.bool _) = some (Value.bool _); congr 2; all_goals ((first | rfl | exact (decide_eq_false (by omega)).symm | exact (decide_eq_false (by omega)) | omega))), ?_⟩))
               · rfl
           · first | have hT4 := of_decide_eq_true hT4 | have hT4 := of_not_decide_true hT4 | skip
             refine go [1,1,1,9,0,1,1,1,9,2] ?_
             refine Ent.inv () ?_ ?_ ?_
             · exact trivial
             · (repeat (first | exact trivial | refine ⟨by rfl, ?_⟩ | refine ⟨by simp only [lenS]; rfl, ?_⟩ | refine ⟨by push_cast; rfl, ?_⟩ | refine ⟨by (show some (Value.bool _) = some (Value.bool _); congr 2; all_goals ((first | rfl | exact (decide_eq_false (by omega)).symm | exact (decide_eq_false (by omega)) | omega))), ?_⟩))
             · rfl
         · first | have hT3 := of_decide_eq_true hT3 | have hT3 := of_not_decide_true hT3 | skip
           refine go [1,1,1,9,0,1,1,1,9,0,1,1,1,9,2] ?_
           refine Ent.inv () ?_ ?_ ?_
           · exact trivial
           · (repeat (first | exact trivial | refine ⟨by rfl, ?_⟩ | refine ⟨by simp only [lenS]; rfl, ?_⟩ | refine ⟨by push_cast; rfl, ?_⟩ | refine ⟨by (show some (Value.bool _) = some (Value.bool _); congr 2; all_goals ((first | rfl | exact (decide_eq_false (by omega)).symm | exact (decide_eq_false (by omega)) | omega))), ?_⟩))
           · rfl
       · first | have hT2 := of_decide_eq_true hT2 | have hT2 := of_not_decide_true hT2 | skip
         refine go [1,1,1,9,0,1,1,1,9,0,1,1,1,9,0,1,1,1,9,2] ?_
         refine Ent.inv () ?_ ?_ ?_
         · exact trivial
         · (repeat (first | exact trivial | refine ⟨by rfl, ?_⟩ | refine ⟨by simp only [lenS]; rfl, ?_⟩ | refine ⟨by push_cast; rfl, ?_⟩ | refine ⟨by (show some (Value.bool _) = some (Value.bool _); congr 2; all_goals ((first | rfl | exact (decide_eq_false (by omega)).symm | exact (decide_eq_false (by omega)) | omega))), ?_⟩))
         · rfl
     · first | have hT1 := of_decide_eq_true hT1 | have hT1 := of_not_decide_true hT1 | skip
       refine go [1,1,1,9,0,1,1,1,9,0,1,1,1,9,0,1,1,1,9,0,1,1,1,9] ?_
       refine Ls.nil ?_
       refine Ent.inv () ?_ ?_ ?_
       · exact trivial
       · (repeat (first | exact trivial | refine ⟨by rfl, ?_⟩ | refine ⟨by simp only [lenS]; rfl, ?_⟩ | refine ⟨by push_cast; rfl, ?_⟩ | refine ⟨by (show some (Value.bool _) = some (Value.bool _); congr 2; all_goals ((first | rfl | exact (decide_eq_false (by omega)).symm | exact (decide_eq_false (by omega)) | omega))), ?_⟩))
       · rfl
   rintro _ -
   refine go [24,6,3,3,4,5,2,21] ?_
   refine Cd.loop (ι := Nat) (fun i => [(1, ptrW g1), (3, .int .i64 i)]) (fun _ => [blk g1 24 [.slice A l.length c, .int .i64 nx, .int .i64 lg, .int .i64 sq], rdT A l]) (fun i => i ≤ l.length ∧ ∀ (j : Nat) (t : TbP), j < i → l[j]? = some t → OkAt nx l j t) (fun i => l.length - i) (0) (⟨Nat.zero_le _, fun j t h => absurd h (Nat.not_lt_zero _)⟩) ?_ rfl ?_
   · (repeat (first | exact trivial | refine ⟨by rfl, ?_⟩))
   rintro i ⟨hi, hall⟩
   refine go [3,3,4,0,7,0,8,0] ?_
   refine Ls.qE 37 (Ev.len rfl (by rfl) Tryz.underlying22) ?_
   refine go [16,2] ?_
   refine Cd.cond _ (by rfl) (fun h2 => ?_) (fun h2 => ?_)
   · have hlt : i < l.length := by have := of_decide_eq_true h2; omega
     obtain ⟨t, ht⟩ := get_of_lt hlt
     have htz := hz t (List.mem_of_getElem? ht)
     have hfs : (txt t.fst).size = t.fst.length := rfl
     have hls2 : (txt t.lst).size = t.lst.length := rfl
     refine Ent.rdSome 1 (by rfl) (by omega) (fun ad had => ?_)
     subst had
     refine go [6,3,21,3,4,7,0,8,0,0] ?_
     refine Ls.qE 44 (Ev.indexAt (sz := 4) rfl (by rfl) (by rfl) Tryz.underlying22 (by kernel_rfl) (by omega)) ?_
     refine Ls.qE 45 (Ev.loadEl (enc := TbP.enc) (sz := 4) rfl (by rfl) (ReadsIn.rd 1 (by rfl)) (by kernel_rfl) (fun _ => rfl) ht) ?_
     refine Ls.does (some 4) (Does.alloc (cs := [.int .i64 0, .int .i64 0, .string ⟨#[]⟩, .string ⟨#[]⟩]) rfl (ZeroIs.mk (.agg #[.int .i64 0, .int .i64 0, .string ⟨#[]⟩, .string ⟨#[]⟩]) (by kernel_rfl) (by rfl))) (by rfl) (by rfl) ?_
     intro g2 _
     refine go [15,0,2,3,3] ?_
     by_cases hk : t.lst < t.fst
     · refine Cd.cut (ι := Unit) (fun _ => [(1, ptrW g1), (3, .int .i64 i), (4, ptrW g2), (89, .bool true)]) (fun _ => []) (fun _ => True) ?_ ?_
       · refine go [4,7,1,8,0,16,0] ?_
         refine Ent.split 49 (by rfl) (fun hT1 => ?_) (fun hT1 => ?_)
         · first | have hT1 := of_decide_eq_false hT1 | have hT1 := of_not_decide_false hT1 | skip
           refine go [7,1,8,0,18,10,0] ?_
           refine Ent.split 54 (by rfl) (fun hT2 => ?_) (fun hT2 => ?_)
           · first | have hT2 := of_decide_eq_false hT2 | have hT2 := of_not_decide_false hT2 | skip
             refine go [7,0,8,0,16,10,0] ?_
             refine Ent.split 59 (by rfl) (fun hT3 => ?_) (fun hT3 => ?_)
             · first | have hT3 := of_decide_eq_false hT3 | have hT3 := of_not_decide_false hT3 | skip
               refine go [7,0,8,0,18,10,0] ?_
               refine Ent.split 64 (by rfl) (fun hT4 => ?_) (fun hT4 => ?_)
               · first | have hT4 := of_decide_eq_false hT4 | have hT4 := of_not_decide_false hT4 | skip
                 refine go [7,0,8,0,7,1,8,1] ?_
                 refine Ls.qE 69 (Ev.geq rfl (by rfl) (by rfl)) ?_
                 refine go [10,0] ?_
                 refine Ent.split 71 (by rfl) (fun hT5 => ?_) (fun hT5 => ?_)
                 · first | have hT5 := of_decide_eq_false hT5 | have hT5 := of_not_decide_false hT5 | skip
                   refine go [7,2,8,0,7,3,8,0] ?_
                   refine Ls.qE 76 (Ev.gtrS rfl (by rfl) (by rfl)) ?_
                   refine go [10,0] ?_
                   refine Ent.split 78 (by rfl) (fun hT6 => ?_) (fun hT6 => ?_)
                   · first | have hT6 := of_decide_eq_false hT6 | have hT6 := of_not_decide_false hT6 | skip
                     refine go [7,2,8,0] ?_
                     refine Ls.qE 81 (Ev.lenS rfl (by rfl) Tryz.underlying9) ?_
                     refine go [18,10,0] ?_
                     refine Ent.split 84 (by rfl) (fun hT7 => ?_) (fun hT7 => ?_)
                     · first | have hT7 := of_decide_eq_false hT7 | have hT7 := of_not_decide_false hT7 | skip
                       refine go [7,3,8,0] ?_
                       refine Ls.qE 87 (Ev.lenS rfl (by rfl) Tryz.underlying9) ?_
                       refine go [18,10,2] ?_
                       refine Ent.pick [] (by rfl) ?_
                       refine Ent.inv () ?_ ?_ ?_
                       · exact trivial
                       · (repeat (first | exact trivial | refine ⟨by rfl, ?_⟩ | refine ⟨by simp only [lenS]; rfl, ?_⟩ | refine ⟨by push_cast; rfl, ?_⟩ | refine ⟨by (show some (Value.bool _) = some (Value.bool _); congr 2; all_goals ((first | rfl | (exfalso; rw [gtr_txt] at hT6; exact of_decide_eq_false hT6 hk)))), ?_⟩))
                       · rfl
                     · first | have hT7 := of_decide_eq_true hT7 | have hT7 := of_not_decide_true hT7 | skip
                       refine go [1,1,1,1,9,2] ?_
                       refine Ent.pick [] (by rfl) ?_
                       refine Ent.inv () ?_ ?_ ?_
                       · exact trivial
                       · (repeat (first | exact trivial | refine ⟨by rfl, ?_⟩ | refine ⟨by simp only [lenS]; rfl, ?_⟩ | refine ⟨by push_cast; rfl, ?_⟩ | refine ⟨by (show some (Value.bool _) = some (Value.bool _); congr 2; all_goals ((first | rfl | (exfalso; rw [gtr_txt] at hT6; exact of_decide_eq_false hT6 hk)))), ?_⟩))
                       · rfl
                   · first | have hT6 := of_decide_eq_true hT6 | have hT6 := of_not_decide_true hT6 | skip
                     refine go [1,1,1,1,9,0,1,1,1,1,9,2] ?_
                     refine Ent.pick [] (by rfl) ?_
                     refine Ent.inv () ?_ ?_ ?_
                     · exact trivial
                     · (repeat (first | exact trivial | refine ⟨by rfl, ?_⟩ | refine ⟨by simp only [lenS]; rfl, ?_⟩ | refine ⟨by push_cast; rfl, ?_⟩ | refine ⟨by (show some (Value.bool _) = some (Value.bool _); congr 2; all_goals ((first | rfl | (exfalso; rw [gtr_txt] at hT6; exact of_decide_eq_false hT6 hk)))), ?_⟩))
                     · rfl
                 · first | have hT5 := of_decide_eq_true hT5 | have hT5 := of_not_decide_true hT5 | skip
                   refine go [1,1,1,1,1,9,0,1,1,1,1,9,0,1,1,1,1,9,2] ?_
                   refine Ent.pick [] (by rfl) ?_
                   refine Ent.inv () ?_ ?_ ?_
                   · exact trivial
                   · (repeat (first | exact trivial | refine ⟨by rfl, ?_⟩ | refine ⟨by simp only [lenS]; rfl, ?_⟩ | refine ⟨by push_cast; rfl, ?_⟩ | refine ⟨by (show some (Value.bool _) = some (Value.bool _); congr 2; all_goals ((first | rfl | (exfalso; rw [gtr_txt] at hT6; exact of_decide_eq_false hT6 hk)))), ?_⟩))
                   · rfl
               · first | have hT4 := of_decide_eq_true hT4 | have hT4 := of_not_decide_true hT4 | skip
                 refine go [1,1,1,1,1,9,0,1,1,1,1,1,9,0,1,1,1,1,9,0,1,1,1,1] ?_
                 refine go [9,2] ?_
                 refine Ent.pick [] (by rfl) ?_
                 refine Ent.inv () ?_ ?_ ?_
                 · exact trivial
                 · (repeat (first | exact trivial | refine ⟨by rfl, ?_⟩ | refine ⟨by simp only [lenS]; rfl, ?_⟩ | refine ⟨by push_cast; rfl, ?_⟩ | refine ⟨by (show some (Value.bool _) = some (Value.bool _); congr 2; all_goals ((first | rfl | (exfalso; rw [gtr_txt] at hT6; exact of_decide_eq_false hT6 hk)))), ?_⟩))
                 · rfl
             · first | have hT3 := of_decide_eq_true hT3 | have hT3 := of_not_decide_true hT3 | skip
               refine go [1,1,1,9,0,1,1,1,1,1,9,0,1,1,1,1,1,9,0,1,1,1,1,9] ?_
               refine go [0,1,1,1,1,9,2] ?_
               refine Ent.pick [] (by rfl) ?_
               refine Ent.inv () ?_ ?_ ?_
               · exact trivial
               · (repeat (first | exact trivial | refine ⟨by rfl, ?_⟩ | refine ⟨by simp only [lenS]; rfl, ?_⟩ | refine ⟨by push_cast; rfl, ?_⟩ | refine ⟨by (show some (Value.bool _) = some (Value.bool _); congr 2; all_goals ((first | rfl | (exfalso; rw [gtr_txt] at hT6; exact of_decide_eq_false hT6 hk)))), ?_⟩))
               · rfl
           · first | have hT2 := of_decide_eq_true hT2 | have hT2 := of_not_decide_true hT2 | skip
             refine go [1,1,1,9,0,1,1,1,9,0,1,1,1,1,1,9,0,1,1,1,1,1,9,0] ?_
             refine go [1,1,1,1,9,0,1,1,1,1,9,2] ?_
             refine Ent.pick [] (by rfl) ?_
             refine Ent.inv () ?_ ?_ ?_
             · exact trivial
             · (repeat (first | exact trivial | refine ⟨by rfl, ?_⟩ | refine ⟨by simp only [lenS]; rfl, ?_⟩ | refine ⟨by push_cast; rfl, ?_⟩ | refine ⟨by (show some (Value.bool _) = some (Value.bool _); congr 2; all_goals ((first | rfl | (exfalso; rw [gtr_txt] at hT6; exact of_decide_eq_false hT6 hk)))), ?_⟩))
             · rfl
         · first | have hT1 := of_decide_eq_true hT1 | have hT1 := of_not_decide_true hT1 | skip
           refine go [1,1,1,9,0,1,1,1,9,0,1,1,1,9,0,1,1,1,1,1,9,0,1,1] ?_
           refine go [1,1,1,9,0,1,1,1,1,9,0,1,1,1,1,9,2] ?_
           refine Ent.pick [] (by rfl) ?_
           refine Ent.inv () ?_ ?_ ?_
           · exact trivial
           · (repeat (first | exact trivial | refine ⟨by rfl, ?_⟩ | refine ⟨by simp only [lenS]; rfl, ?_⟩ | refine ⟨by push_cast; rfl, ?_⟩ | refine ⟨by (show some (Value.bool _) = some (Value.bool _); congr 2; all_goals ((first | rfl | (exfalso; rw [gtr_txt] at hT6; exact of_decide_eq_false hT6 hk)))), ?_⟩))
           · rfl
       rintro _ -
       refine go [23,3,4,5,2,22] ?_
       refine Ent.ret (()) (trivial) (Res.tmp (by rfl) (by rfl)) ?_ [] (by rfl) ?_
       · exact congrArg Value.bool (decide_eq_false (fun h => (fun h=>h.ok.keys hk) (h.2 i t ht))).symm
       · rfl
     · by_cases hx : (t.lev = 0 ∨ t.lev = 1) ∧ 1 ≤ t.num ∧ t.num ≤ 999999 ∧ t.num < nx ∧ t.fst.length ≤ 64 ∧ t.lst.length ≤ 64
       rotate_left
       · refine Cd.cut (ι := Unit) (fun _ => [(1, ptrW g1), (3, .int .i64 i), (4, ptrW g2), (89, .bool true)]) (fun _ => []) (fun _ => True) ?_ ?_
         · refine go [4,7,1,8,0,16,0] ?_
           refine Ent.split 49 (by rfl) (fun hT1 => ?_) (fun hT1 => ?_)
           · first | have hT1 := of_decide_eq_false hT1 | have hT1 := of_not_decide_false hT1 | skip
             refine go [7,1,8,0,18,10,0] ?_
             refine Ent.split 54 (by rfl) (fun hT2 => ?_) (fun hT2 => ?_)
             · first | have hT2 := of_decide_eq_false hT2 | have hT2 := of_not_decide_false hT2 | skip
               refine go [7,0,8,0,16,10,0] ?_
               refine Ent.split 59 (by rfl) (fun hT3 => ?_) (fun hT3 => ?_)
               · first | have hT3 := of_decide_eq_false hT3 | have hT3 := of_not_decide_false hT3 | skip
                 refine go [7,0,8,0,18,10,0] ?_
                 refine Ent.split 64 (by rfl) (fun hT4 => ?_) (fun hT4 => ?_)
                 · first | have hT4 := of_decide_eq_false hT4 | have hT4 := of_not_decide_false hT4 | skip
                   refine go [7,0,8,0,7,1,8,1] ?_
                   refine Ls.qE 69 (Ev.geq rfl (by rfl) (by rfl)) ?_
                   refine go [10,0] ?_
                   refine Ent.split 71 (by rfl) (fun hT5 => ?_) (fun hT5 => ?_)
                   · first | have hT5 := of_decide_eq_false hT5 | have hT5 := of_not_decide_false hT5 | skip
                     refine go [7,2,8,0,7,3,8,0] ?_
                     refine Ls.qE 76 (Ev.gtrS rfl (by rfl) (by rfl)) ?_
                     refine go [10,0] ?_
                     refine Ent.split 78 (by rfl) (fun hT6 => ?_) (fun hT6 => ?_)
                     · first | have hT6 := of_decide_eq_false hT6 | have hT6 := of_not_decide_false hT6 | skip
                       refine go [7,2,8,0] ?_
                       refine Ls.qE 81 (Ev.lenS rfl (by rfl) Tryz.underlying9) ?_
                       refine go [18,10,0] ?_
                       refine Ent.split 84 (by rfl) (fun hT7 => ?_) (fun hT7 => ?_)
                       · first | have hT7 := of_decide_eq_false hT7 | have hT7 := of_not_decide_false hT7 | skip
                         refine go [7,3,8,0] ?_
                         refine Ls.qE 87 (Ev.lenS rfl (by rfl) Tryz.underlying9) ?_
                         refine go [18,10,2] ?_
                         refine Ent.pick [] (by rfl) ?_
                         refine Ent.inv () ?_ ?_ ?_
                         · exact trivial
                         · (repeat (first | exact trivial | refine ⟨by rfl, ?_⟩ | refine ⟨by simp only [lenS]; rfl, ?_⟩ | refine ⟨by push_cast; rfl, ?_⟩ | refine ⟨by (show some (Value.bool _) = some (Value.bool _); congr 2; all_goals ((first | rfl | exact (decide_eq_true (by omega)).symm | exact decide_eq_true (by omega) | (exfalso; omega) | (exfalso; rw [gtr_txt] at hT6; exact hk (of_decide_eq_true hT6))))), ?_⟩))
                         · rfl
                       · first | have hT7 := of_decide_eq_true hT7 | have hT7 := of_not_decide_true hT7 | skip
                         refine go [1,1,1,1,9,2] ?_
                         refine Ent.pick [] (by rfl) ?_
                         refine Ent.inv () ?_ ?_ ?_
                         · exact trivial
                         · (repeat (first | exact trivial | refine ⟨by rfl, ?_⟩ | refine ⟨by simp only [lenS]; rfl, ?_⟩ | refine ⟨by push_cast; rfl, ?_⟩ | refine ⟨by (show some (Value.bool _) = some (Value.bool _); congr 2; all_goals ((first | rfl | exact (decide_eq_true (by omega)).symm | exact decide_eq_true (by omega) | (exfalso; omega) | (exfalso; rw [gtr_txt] at hT6; exact hk (of_decide_eq_true hT6))))), ?_⟩))
                         · rfl
                     · first | have hT6 := of_decide_eq_true hT6 | have hT6 := of_not_decide_true hT6 | skip
                       refine go [1,1,1,1,9,0,1,1,1,1,9,2] ?_
                       refine Ent.pick [] (by rfl) ?_
                       refine Ent.inv () ?_ ?_ ?_
                       · exact trivial
                       · (repeat (first | exact trivial | refine ⟨by rfl, ?_⟩ | refine ⟨by simp only [lenS]; rfl, ?_⟩ | refine ⟨by push_cast; rfl, ?_⟩ | refine ⟨by (show some (Value.bool _) = some (Value.bool _); congr 2; all_goals ((first | rfl | exact (decide_eq_true (by omega)).symm | exact decide_eq_true (by omega) | (exfalso; omega) | (exfalso; rw [gtr_txt] at hT6; exact hk (of_decide_eq_true hT6))))), ?_⟩))
                       · rfl
                   · first | have hT5 := of_decide_eq_true hT5 | have hT5 := of_not_decide_true hT5 | skip
                     refine go [1,1,1,1,1,9,0,1,1,1,1,9,0,1,1,1,1,9,2] ?_
                     refine Ent.pick [] (by rfl) ?_
                     refine Ent.inv () ?_ ?_ ?_
                     · exact trivial
                     · (repeat (first | exact trivial | refine ⟨by rfl, ?_⟩ | refine ⟨by simp only [lenS]; rfl, ?_⟩ | refine ⟨by push_cast; rfl, ?_⟩ | refine ⟨by (show some (Value.bool _) = some (Value.bool _); congr 2; all_goals ((first | rfl | exact (decide_eq_true (by omega)).symm | exact decide_eq_true (by omega) | (exfalso; omega) | (exfalso; rw [gtr_txt] at hT6; exact hk (of_decide_eq_true hT6))))), ?_⟩))
                     · rfl
                 · first | have hT4 := of_decide_eq_true hT4 | have hT4 := of_not_decide_true hT4 | skip
                   refine go [1,1,1,1,1,9,0,1,1,1,1,1,9,0,1,1,1,1,9,0,1,1,1,1] ?_
                   refine go [9,2] ?_
                   refine Ent.pick [] (by rfl) ?_
                   refine Ent.inv () ?_ ?_ ?_
                   · exact trivial
                   · (repeat (first | exact trivial | refine ⟨by rfl, ?_⟩ | refine ⟨by simp only [lenS]; rfl, ?_⟩ | refine ⟨by push_cast; rfl, ?_⟩ | refine ⟨by (show some (Value.bool _) = some (Value.bool _); congr 2; all_goals ((first | rfl | exact (decide_eq_true (by omega)).symm | exact decide_eq_true (by omega) | (exfalso; omega) | (exfalso; rw [gtr_txt] at hT6; exact hk (of_decide_eq_true hT6))))), ?_⟩))
                   · rfl
               · first | have hT3 := of_decide_eq_true hT3 | have hT3 := of_not_decide_true hT3 | skip
                 refine go [1,1,1,9,0,1,1,1,1,1,9,0,1,1,1,1,1,9,0,1,1,1,1,9] ?_
                 refine go [0,1,1,1,1,9,2] ?_
                 refine Ent.pick [] (by rfl) ?_
                 refine Ent.inv () ?_ ?_ ?_
                 · exact trivial
                 · (repeat (first | exact trivial | refine ⟨by rfl, ?_⟩ | refine ⟨by simp only [lenS]; rfl, ?_⟩ | refine ⟨by push_cast; rfl, ?_⟩ | refine ⟨by (show some (Value.bool _) = some (Value.bool _); congr 2; all_goals ((first | rfl | exact (decide_eq_true (by omega)).symm | exact decide_eq_true (by omega) | (exfalso; omega) | (exfalso; rw [gtr_txt] at hT6; exact hk (of_decide_eq_true hT6))))), ?_⟩))
                 · rfl
             · first | have hT2 := of_decide_eq_true hT2 | have hT2 := of_not_decide_true hT2 | skip
               refine go [1,1,1,9,0,1,1,1,9,0,1,1,1,1,1,9,0,1,1,1,1,1,9,0] ?_
               refine go [1,1,1,1,9,0,1,1,1,1,9,2] ?_
               refine Ent.pick [] (by rfl) ?_
               refine Ent.inv () ?_ ?_ ?_
               · exact trivial
               · (repeat (first | exact trivial | refine ⟨by rfl, ?_⟩ | refine ⟨by simp only [lenS]; rfl, ?_⟩ | refine ⟨by push_cast; rfl, ?_⟩ | refine ⟨by (show some (Value.bool _) = some (Value.bool _); congr 2; all_goals ((first | rfl | exact (decide_eq_true (by omega)).symm | exact decide_eq_true (by omega) | (exfalso; omega) | (exfalso; rw [gtr_txt] at hT6; exact hk (of_decide_eq_true hT6))))), ?_⟩))
               · rfl
           · first | have hT1 := of_decide_eq_true hT1 | have hT1 := of_not_decide_true hT1 | skip
             refine go [1,1,1,9,0,1,1,1,9,0,1,1,1,9,0,1,1,1,1,1,9,0,1,1] ?_
             refine go [1,1,1,9,0,1,1,1,1,9,0,1,1,1,1,9,2] ?_
             refine Ent.pick [] (by rfl) ?_
             refine Ent.inv () ?_ ?_ ?_
             · exact trivial
             · (repeat (first | exact trivial | refine ⟨by rfl, ?_⟩ | refine ⟨by simp only [lenS]; rfl, ?_⟩ | refine ⟨by push_cast; rfl, ?_⟩ | refine ⟨by (show some (Value.bool _) = some (Value.bool _); congr 2; all_goals ((first | rfl | exact (decide_eq_true (by omega)).symm | exact decide_eq_true (by omega) | (exfalso; omega) | (exfalso; rw [gtr_txt] at hT6; exact hk (of_decide_eq_true hT6))))), ?_⟩))
             · rfl
         rintro _ -
         refine go [23,3,4,5,2,22] ?_
         refine Ent.ret (()) (trivial) (Res.tmp (by rfl) (by rfl)) ?_ [] (by rfl) ?_
         · exact congrArg Value.bool (decide_eq_false (fun h => (fun h=>hx ⟨h.ok.lev, h.ok.lo, h.ok.hi, h.ok.next, h.ok.fst, h.ok.lst⟩) (h.2 i t ht))).symm
         · rfl
       · refine Cd.cut (ι := Unit) (fun _ => [(1, ptrW g1), (3, .int .i64 i), (4, ptrW g2), (89, .bool false)]) (fun _ => [blk g2 42 t.enc, blk g1 24 [.slice (some ad) l.length c, .int .i64 nx, .int .i64 lg, .int .i64 sq], rdT (some ad) l]) (fun _ => True) ?_ ?_
         · refine go [4,7,1,8,0,16,0] ?_
           refine Ent.split 49 (by rfl) (fun hT1 => ?_) (fun hT1 => ?_)
           · first | have hT1 := of_decide_eq_false hT1 | have hT1 := of_not_decide_false hT1 | skip
             refine go [7,1,8,0,18,10,0] ?_
             refine Ent.split 54 (by rfl) (fun hT2 => ?_) (fun hT2 => ?_)
             · first | have hT2 := of_decide_eq_false hT2 | have hT2 := of_not_decide_false hT2 | skip
               refine go [7,0,8,0,16,10,0] ?_
               refine Ent.split 59 (by rfl) (fun hT3 => ?_) (fun hT3 => ?_)
               · first | have hT3 := of_decide_eq_false hT3 | have hT3 := of_not_decide_false hT3 | skip
                 refine go [7,0,8,0,18,10,0] ?_
                 refine Ent.split 64 (by rfl) (fun hT4 => ?_) (fun hT4 => ?_)
                 · first | have hT4 := of_decide_eq_false hT4 | have hT4 := of_not_decide_false hT4 | skip
                   refine go [7,0,8,0,7,1,8,1] ?_
                   refine Ls.qE 69 (Ev.geq rfl (by rfl) (by rfl)) ?_
                   refine go [10,0] ?_
                   refine Ent.split 71 (by rfl) (fun hT5 => ?_) (fun hT5 => ?_)
                   · first | have hT5 := of_decide_eq_false hT5 | have hT5 := of_not_decide_false hT5 | skip
                     refine go [7,2,8,0,7,3,8,0] ?_
                     refine Ls.qE 76 (Ev.gtrS rfl (by rfl) (by rfl)) ?_
                     refine go [10,0] ?_
                     refine Ent.split 78 (by rfl) (fun hT6 => ?_) (fun hT6 => ?_)
                     · first | have hT6 := of_decide_eq_false hT6 | have hT6 := of_not_decide_false hT6 | skip
                       refine go [7,2,8,0] ?_
                       refine Ls.qE 81 (Ev.lenS rfl (by rfl) Tryz.underlying9) ?_
                       refine go [18,10,0] ?_
                       refine Ent.split 84 (by rfl) (fun hT7 => ?_) (fun hT7 => ?_)
                       · first | have hT7 := of_decide_eq_false hT7 | have hT7 := of_not_decide_false hT7 | skip
                         refine go [7,3,8,0] ?_
                         refine Ls.qE 87 (Ev.lenS rfl (by rfl) Tryz.underlying9) ?_
                         refine go [18,10,2] ?_
                         refine Ent.inv () ?_ ?_ ?_
                         · exact trivial
                         · (repeat (first | exact trivial | refine ⟨by rfl, ?_⟩ | refine ⟨by simp only [lenS]; rfl, ?_⟩ | refine ⟨by push_cast; rfl, ?_⟩ | refine ⟨by (show some (Value.bool _) = some (Value.bool _); congr 2; all_goals ((first | rfl | exact (decide_eq_false (by omega)).symm | exact decide_eq_false (by omega) | (exfalso; omega) | (exfalso; rw [gtr_txt] at hT6; exact hk (of_decide_eq_true hT6))))), ?_⟩))
                         · rfl
                       · first | have hT7 := of_decide_eq_true hT7 | have hT7 := of_not_decide_true hT7 | skip
                         refine go [1,1,1,1,9,2] ?_
                         refine Ent.inv () ?_ ?_ ?_
                         · exact trivial
                         · (repeat (first | exact trivial | refine ⟨by rfl, ?_⟩ | refine ⟨by simp only [lenS]; rfl, ?_⟩ | refine ⟨by push_cast; rfl, ?_⟩ | refine ⟨by (show some (Value.bool _) = some (Value.bool _); congr 2; all_goals ((first | rfl | exact (decide_eq_false (by omega)).symm | exact decide_eq_false (by omega) | (exfalso; omega) | (exfalso; rw [gtr_txt] at hT6; exact hk (of_decide_eq_true hT6))))), ?_⟩))
                         · rfl
                     · first | have hT6 := of_decide_eq_true hT6 | have hT6 := of_not_decide_true hT6 | skip
                       refine go [1,1,1,1,9,0,1,1,1,1,9,2] ?_
                       refine Ent.inv () ?_ ?_ ?_
                       · exact trivial
                       · (repeat (first | exact trivial | refine ⟨by rfl, ?_⟩ | refine ⟨by simp only [lenS]; rfl, ?_⟩ | refine ⟨by push_cast; rfl, ?_⟩ | refine ⟨by (show some (Value.bool _) = some (Value.bool _); congr 2; all_goals ((first | rfl | exact (decide_eq_false (by omega)).symm | exact decide_eq_false (by omega) | (exfalso; omega) | (exfalso; rw [gtr_txt] at hT6; exact hk (of_decide_eq_true hT6))))), ?_⟩))
                       · rfl
                   · first | have hT5 := of_decide_eq_true hT5 | have hT5 := of_not_decide_true hT5 | skip
                     refine go [1,1,1,1,1,9,0,1,1,1,1,9,0,1,1,1,1,9,2] ?_
                     refine Ent.inv () ?_ ?_ ?_
                     · exact trivial
                     · (repeat (first | exact trivial | refine ⟨by rfl, ?_⟩ | refine ⟨by simp only [lenS]; rfl, ?_⟩ | refine ⟨by push_cast; rfl, ?_⟩ | refine ⟨by (show some (Value.bool _) = some (Value.bool _); congr 2; all_goals ((first | rfl | exact (decide_eq_false (by omega)).symm | exact decide_eq_false (by omega) | (exfalso; omega) | (exfalso; rw [gtr_txt] at hT6; exact hk (of_decide_eq_true hT6))))), ?_⟩))
                     · rfl
                 · first | have hT4 := of_decide_eq_true hT4 | have hT4 := of_not_decide_true hT4 | skip
                   refine go [1,1,1,1,1,9,0,1,1,1,1,1,9,0,1,1,1,1,9,0,1,1,1,1] ?_
                   refine go [9,2] ?_
                   refine Ent.inv () ?_ ?_ ?_
                   · exact trivial
                   · (repeat (first | exact trivial | refine ⟨by rfl, ?_⟩ | refine ⟨by simp only [lenS]; rfl, ?_⟩ | refine ⟨by push_cast; rfl, ?_⟩ | refine ⟨by (show some (Value.bool _) = some (Value.bool _); congr 2; all_goals ((first | rfl | exact (decide_eq_false (by omega)).symm | exact decide_eq_false (by omega) | (exfalso; omega) | (exfalso; rw [gtr_txt] at hT6; exact hk (of_decide_eq_true hT6))))), ?_⟩))
                   · rfl
               · first | have hT3 := of_decide_eq_true hT3 | have hT3 := of_not_decide_true hT3 | skip
                 refine go [1,1,1,9,0,1,1,1,1,1,9,0,1,1,1,1,1,9,0,1,1,1,1,9] ?_
                 refine go [0,1,1,1,1,9,2] ?_
                 refine Ent.inv () ?_ ?_ ?_
                 · exact trivial
                 · (repeat (first | exact trivial | refine ⟨by rfl, ?_⟩ | refine ⟨by simp only [lenS]; rfl, ?_⟩ | refine ⟨by push_cast; rfl, ?_⟩ | refine ⟨by (show some (Value.bool _) = some (Value.bool _); congr 2; all_goals ((first | rfl | exact (decide_eq_false (by omega)).symm | exact decide_eq_false (by omega) | (exfalso; omega) | (exfalso; rw [gtr_txt] at hT6; exact hk (of_decide_eq_true hT6))))), ?_⟩))
                 · rfl
             · first | have hT2 := of_decide_eq_true hT2 | have hT2 := of_not_decide_true hT2 | skip
               refine go [1,1,1,9,0,1,1,1,9,0,1,1,1,1,1,9,0,1,1,1,1,1,9,0] ?_
               refine go [1,1,1,1,9,0,1,1,1,1,9,2] ?_
               refine Ent.inv () ?_ ?_ ?_
               · exact trivial
               · (repeat (first | exact trivial | refine ⟨by rfl, ?_⟩ | refine ⟨by simp only [lenS]; rfl, ?_⟩ | refine ⟨by push_cast; rfl, ?_⟩ | refine ⟨by (show some (Value.bool _) = some (Value.bool _); congr 2; all_goals ((first | rfl | exact (decide_eq_false (by omega)).symm | exact decide_eq_false (by omega) | (exfalso; omega) | (exfalso; rw [gtr_txt] at hT6; exact hk (of_decide_eq_true hT6))))), ?_⟩))
               · rfl
           · first | have hT1 := of_decide_eq_true hT1 | have hT1 := of_not_decide_true hT1 | skip
             refine go [1,1,1,9,0,1,1,1,9,0,1,1,1,9,0,1,1,1,1,1,9,0,1,1] ?_
             refine go [1,1,1,9,0,1,1,1,1,9,0,1,1,1,1,9,2] ?_
             refine Ent.inv () ?_ ?_ ?_
             · exact trivial
             · (repeat (first | exact trivial | refine ⟨by rfl, ?_⟩ | refine ⟨by simp only [lenS]; rfl, ?_⟩ | refine ⟨by push_cast; rfl, ?_⟩ | refine ⟨by (show some (Value.bool _) = some (Value.bool _); congr 2; all_goals ((first | rfl | exact (decide_eq_false (by omega)).symm | exact decide_eq_false (by omega) | (exfalso; omega) | (exfalso; rw [gtr_txt] at hT6; exact hk (of_decide_eq_true hT6))))), ?_⟩))
             · rfl
         rintro _ -
         have hok : TbOk nx t := ⟨hx.1, hx.2.1, hx.2.2.1, hx.2.2.2.1, hk, hx.2.2.2.2.1, hx.2.2.2.2.2⟩
         refine go [24,6,3,3,4,5,2,21] ?_
         refine Cd.loop (ι := Nat) (fun k => [(1, ptrW g1), (3, .int .i64 i), (4, ptrW g2), (5, .int .i64 k)]) (fun _ => [blk g2 42 t.enc, blk g1 24 [.slice (some ad) l.length c, .int .i64 nx, .int .i64 lg, .int .i64 sq], rdT (some ad) l]) (fun k => k ≤ i ∧ ∀ (j : Nat) (u : TbP), j < k → l[j]? = some u → u.num ≠ t.num) (fun k => i - k) (0) (⟨Nat.zero_le _, fun j u h => absurd h (Nat.not_lt_zero _)⟩) ?_ rfl ?_
         · (repeat (first | exact trivial | refine ⟨by rfl, ?_⟩))
         rintro k ⟨hki, honce⟩
         refine go [3,3,4,0,0,16,2] ?_
         refine Cd.cond _ (by rfl) (fun h3 => ?_) (fun h3 => ?_)
         · have hkl : k < i := by have := of_decide_eq_true h3; omega
           obtain ⟨u, hu⟩ := get_of_lt (show k < l.length by omega)
           refine go [6,3,21,3] ?_
           refine Cd.draw [] (by kernel_rfl) ?_
           refine Rg.qE 0 95 (by rfl) (Ev.fieldAddr (k := 0) rfl (by rfl) (by kernel_rfl) (by rfl)) ?_
           refine Rg.qE 1 96 (by rfl) (Ev.load 1 rfl (by rfl) (by rfl) (by kernel_rfl) (by rfl)) ?_
           refine Rg.qE 2 97 (by rfl) (Ev.move rfl (by rfl)) ?_
           refine Rg.qE 3 98 (by rfl) (Ev.indexAt (sz := 4) rfl (by rfl) (by rfl) Tryz.underlying22 (by kernel_rfl) (by omega)) ?_
           refine Rg.qE 4 99 (by rfl) (Ev.fieldAddrE0 (k := 0) rfl (by rfl) (by kernel_rfl)) ?_
           refine Rg.qE 5 100 (by rfl) (Ev.loadElF rfl (by rfl) (ReadsIn.rd 2 (by rfl)) (by kernel_rfl) (by intro _; rfl) (by assumption) (by rfl)) ?_
           refine Rg.qE 6 101 (by rfl) (Ev.fieldAddr (k := 0) rfl (by rfl) (by kernel_rfl) (by rfl)) ?_
           refine Rg.qE 7 102 (by rfl) (Ev.load 0 rfl (by rfl) (by rfl) (by kernel_rfl) (by rfl)) ?_
           refine Rg.qE 8 103 (by rfl) (Ev.eql rfl (by rfl) (by rfl)) ?_
           refine Rg.done (by kernel_rfl) ?_ _
           by_cases he : u.num = t.num
           · refine Cd.cond_true (by rfl) (decide_eq_true he) ?_
             refine go [3,4,5,2,22] ?_
             refine Ent.ret (()) (trivial) (Res.tmp (by rfl) (by rfl)) ?_ [] (by rfl) ?_
             · exact congrArg Value.bool (decide_eq_false (fun h => (h.2 i t ht).once k u hkl hu he)).symm
             · rfl
           · refine Cd.cond_false (by rfl) (decide_eq_false he) ?_
             refine go [6,4,0] ?_
             refine Ls.qE 94 (Ev.addN (b := 1) rfl (by rfl) (by rfl) (by omega)) ?_
             refine go [5,2] ?_
             refine Ent.iA (k + 1) ?_
             (try dsimp only); exact ⟨⟨hkl, fun j w hj hw => by
             by_cases e : j = k
             · subst e
               rw [hu] at hw
               obtain rfl := Option.some.inj hw
               exact he
             · exact honce j w (by omega) hw⟩, by omega⟩
         · obtain rfl : k = i := by have := of_decide_eq_false h3; omega
           refine Cd.exit ?_
           refine Cd.seq ?_
           by_cases h0 : 1 ≤ k
           · obtain ⟨u, hu⟩ := get_of_lt (show k - 1 < l.length by omega)
             refine Cd.draw [] (by kernel_rfl) ?_
             refine Rg.qE 0 104 (by rfl) (Ev.move rfl (by rfl)) ?_
             refine Rg.qE 1 105 (by rfl) (Ev.gtr rfl (by rfl) (by rfl)) ?_
             refine Rg.qE 2 106 (by rfl) (Ev.move rfl (by rfl)) ?_
             refine Ent.known 106 true (by rfl) (by exact (decide_eq_true (show (0 : Int) < (k : Int) by omega))) ?_
             refine Rg.qE 3 107 (by rfl) (Ev.fieldAddr (k := 0) rfl (by rfl) (by kernel_rfl) (by rfl)) ?_
             refine Rg.qE 4 108 (by rfl) (Ev.load 1 rfl (by rfl) (by rfl) (by kernel_rfl) (by rfl)) ?_
             refine Rg.qE 5 109 (by rfl) (Ev.move rfl (by rfl)) ?_
             refine Rg.qE 6 110 (by rfl) (Ev.subN (b := 1) rfl (by rfl) (by rfl) (by omega)) ?_
             refine Rg.qE 7 111 (by rfl) (Ev.indexAt (sz := 4) rfl (by rfl) (by rfl) Tryz.underlying22 (by kernel_rfl) (by omega)) ?_
             refine Rg.qE 8 112 (by rfl) (Ev.loadEl rfl (by rfl) (ReadsIn.rd 2 (by rfl)) (by kernel_rfl) (by intro _; rfl) (by assumption)) ?_
             refine Rg.qE 9 113 (by rfl) (Ev.loads 0 rfl (by rfl) (by rfl) (n := 4) (by kernel_rfl) (by rfl) (by rfl)) ?_
             refine Rg.does 10 (by rfl) (by kernel_rfl) (Does.read rfl Tryz.func41 (by kernel_rfl) (by kernel_rfl) (ahead_sl u t) (by rfl) (by rfl) trivial) (by rfl) (some 114) (by rfl) (by exact fun _ _ h => h) ?_
             rintro _ -
             refine Rg.qE 11 115 (by rfl) (Ev.not rfl (by rfl)) ?_
             refine Rg.qE 12 116 (by rfl) (Ev.pickT rfl (by rfl) (by rfl)) ?_
             refine Rg.done (by kernel_rfl) ?_ _
             cases hlu : ltT u t with
             | true =>
              refine go [24,6,4,0] ?_
              refine Ls.qE 40 (Ev.addN (b := 1) rfl (by rfl) (by rfl) (by omega)) ?_
              refine go [5,2] ?_
              refine Ent.pick [1, 2] (by rfl) ?_
              refine Ent.iA (k + 1) ?_
              (try dsimp only); exact ⟨⟨hlt, fun j w hj hw => by
              by_cases e : j = k
              · subst e
                rw [ht] at hw
                obtain rfl := Option.some.inj hw
                exact ⟨hok, honce, fun w _ hw => by rw [hu] at hw; obtain rfl := Option.some.inj hw; exact hlu⟩
              · exact hall j w (by omega) hw⟩, by omega⟩
             | false =>
              refine go [23,3,4,5,2,22] ?_
              refine Ent.ret (()) (trivial) (Res.tmp (by rfl) (by rfl)) ?_ [] (by rfl) ?_
              · exact congrArg Value.bool (decide_eq_false (fun h => by
                 have := (h.2 k t ht).ahead u h0 hu
                 rw [hlu] at this
                 cases this)).symm
              · rfl
           · obtain rfl : k = 0 := by omega
             refine Cd.draw [] (by kernel_rfl) ?_
             refine Rg.qE 0 104 (by rfl) (Ev.move rfl (by rfl)) ?_
             refine Rg.qE 1 105 (by rfl) (Ev.gtr rfl (by rfl) (by rfl)) ?_
             refine Rg.qE 2 106 (by rfl) (Ev.move rfl (by rfl)) ?_
             refine Ent.known 106 false (by rfl) (by exact (decide_eq_false (show ¬ ((0 : Int) < ((0 : Nat) : Int)) by decide))) ?_
             refine Rg.qP 3 107 ?_
             refine Rg.qP 4 108 ?_
             refine Rg.qP 5 109 ?_
             refine Rg.qP 6 110 ?_
             refine Rg.qP 7 111 ?_
             refine Rg.qP 8 112 ?_
             refine Rg.qP 9 113 ?_
             refine Rg.qP 10 114 ?_
             refine Rg.qP 11 115 ?_
             refine Rg.qE 12 116 (by rfl) (Ev.pickF rfl (by rfl) (by rfl)) ?_
             refine Rg.done (by kernel_rfl) ?_ _
             refine go [24,6,4,0] ?_
             refine Ls.qE 40 (Ev.addN (b := 1) rfl (by rfl) (by rfl) (by omega)) ?_
             refine go [5,2] ?_
             refine Ent.pick [1, 2] (by rfl) ?_
             refine Ent.iA (1) ?_
             (try dsimp only); exact ⟨⟨hlt, fun j w hj hw => by
             obtain rfl : j = 0 := by omega
             rw [ht] at hw
             obtain rfl := Option.some.inj hw
             exact ⟨hok, honce, fun w h => absurd h (by decide)⟩⟩, by omega⟩
   · have hge : l.length ≤ i := by have := of_decide_eq_false h2; omega
     refine Cd.exit ?_
     refine go [3,4,5,2,22] ?_
     refine Ent.ret (()) (trivial) (Res.tmp (by rfl) (by rfl)) ?_ [] (by rfl) ?_
     · refine congrArg Value.bool (decide_eq_true ⟨hr, fun j t ht => hall j t ?_ ht⟩).symm
       have := (List.getElem?_eq_some_iff.1 ht).1
       dsimp only at this
       omega
     · rfl
section
variable {Γ : Ctx} {N : Frm} {P : Program} {E : Env} {H : List Chunk} {o : Oper} {x y : Operand}
theorem Does.storeTb {t n c e k : Nat} {A : Option Addr} {ad : Addr} {D : List TbP} {v : TbP} (i : Nat) (ho : o.op = .store t x y) (hx : E.ev x = some (.pointer (some (ad.add (k * 4))))) (hy : E.ev y = some (.agg v.enc.toArray)) (hi : H[i]? = some (row A n c e 4 (tbs D))) (hA : A = some ad) (hsz : (P.info? t).map (·.size) = some 4) (hk : k < D.length) (hn : D.length = n) :
 Does Γ N P E H o Unit (fun _ => undef) (fun _ => H.set i (row A n c e 4 (tbs (D.set k v)))) (fun _ => True) :=
 Does.storeRow i ho hx hy hi hA hsz (List.all_eq_true.2 fun u hu => one_tb [v] u (by rw [show tbs [v] = v.enc from List.append_nil _]; exact hu)) (by
  have hl : (tbs D).length = D.length * 4 := by
   unfold tbs
   rw [List.length_flatMap]
   simp only [tb_len]
   rw [List.map_const', List.sum_replicate_nat]
  rw [hl]
  show k * 4 + 4 ≤ D.length * 4
  omega) (by omega) (setR_enc (sz := 4) (fun _ => rfl) D k v hk)
end
theorem ord_fnv (t u : TbP) : FnV Tryz.prog ordV [.agg t.enc.toArray, .agg u.enc.toArray] [] Unit (fun _ => .int .i64 (ordI t u)) (fun _ => []) (fun _ => True) :=
 ⟨40, Tryz.f40, [], rfl, Tryz.func40, by kernel_rfl, by kernel_rfl, order_sl t u⟩
set_option maxHeartbeats 1000000 in
theorem ins_sl (A : Option Addr) (n c : Nat) (D : List TbP) (a b : Nat) (hn : D.length = n) (hb : b ≤ n) (hab : a ≤ b) (hm : n ≤ 1000000000000) : Fn Tryz.prog 119 #[.slice A n c, .int .i64 a, .int .i64 b, ordV] [rowTb A n c D] (List TbP) (fun _ => .tuple #[]) (fun D' => [rowTb A n c D']) (fun D' => Mv a b D D' ∧ SOn ltT D' a b) := by
 refine Fn.enter Tryz.func119 rfl Tryz.ntmps119 (by rfl) ?_
 intro w0
 refine go [3,4,0] ?_
 refine Ls.qE 11 (Ev.addN (b := 1) rfl (by rfl) (by rfl) (by omega)) ?_
 refine go [5,2,21] ?_
 refine Cd.loop (ι := Nat × List TbP) (fun p => [(0, .slice A n c), (1, .int .i64 a), (2, .int .i64 b), (3, ordV), (8, .int .i64 p.1)]) (fun p => [rowTb A n c p.2]) (fun p => a < p.1 ∧ (p.1 ≤ b ∨ p.1 = a + 1) ∧ Mv a b D p.2 ∧ SOn ltT p.2 a p.1) (fun p => b - p.1) ((a + 1, D)) (⟨Nat.lt_succ_self _, .inr rfl, Mv.refl _ _ _, SOn.one (Nat.le_refl _)⟩) ?_ rfl ?_
 · (repeat (first | exact trivial | refine ⟨by rfl, ?_⟩))
 rintro ⟨i, D1⟩ ⟨hi1, hi2, hmv, hso⟩
 dsimp only at hi1 hi2 hmv hso ⊢
 refine go [3,3,4,0,0,16,2] ?_
 refine Cd.cond _ (by rfl) (fun h2 => ?_) (fun h2 => ?_)
 · have hib : i < b := by have := of_decide_eq_true h2; omega
   refine go [6,3,21,3,4,0,5,2,21] ?_
   refine Cd.loop (ι := Nat × List TbP) (fun p => [(0, .slice A n c), (1, .int .i64 a), (2, .int .i64 b), (3, ordV), (8, .int .i64 i), (9, .int .i64 p.1)]) (fun p => [rowTb A n c p.2]) (fun p => a ≤ p.1 ∧ p.1 ≤ i ∧ Mv a b D p.2 ∧ InsJ ltT p.2 a i p.1) (fun p => p.1) ((i, D1)) (⟨Nat.le_of_lt hi1, Nat.le_refl _, hmv, InsJ.start hso⟩) ?_ rfl ?_
   · (repeat (first | exact trivial | refine ⟨by rfl, ?_⟩))
   rintro ⟨j, D2⟩ ⟨hj1, hj2, hmv2, hin⟩
   dsimp only at hj1 hj2 hmv2 hin ⊢
   have hl2 : D2.length = n := hmv2.len.trans hn
   refine go [3,3] ?_
   by_cases haj : a < j
   · obtain ⟨k, rfl⟩ : ∃ k, j = k + 1 := ⟨j - 1, by omega⟩
     obtain ⟨x, hx⟩ := get_of_lt (show k + 1 < D2.length by omega)
     obtain ⟨y, hy⟩ := get_of_lt (show k < D2.length by omega)
     refine Ent.rowSome 0 (by rfl) (by omega) (fun ad had => ?_)
     obtain rfl : A = some ad := had
     refine Cd.draw [] (by kernel_rfl) ?_
     refine Rg.qE 0 18 (by rfl) (Ev.move rfl (by rfl)) ?_
     refine Rg.qE 1 19 (by rfl) (Ev.move rfl (by rfl)) ?_
     refine Rg.qE 2 20 (by rfl) (Ev.gtr rfl (by rfl) (by rfl)) ?_
     refine Rg.qE 3 21 (by rfl) (Ev.move rfl (by rfl)) ?_
     refine Ent.known 21 true (by rfl) (by exact (decide_eq_true (show (a : Int) < ((k + 1 : Nat) : Int) by omega))) ?_
     refine Rg.qE 4 22 (by rfl) (Ev.move rfl (by rfl)) ?_
     refine Rg.qE 5 23 (by rfl) (Ev.move rfl (by rfl)) ?_
     refine Rg.qE 6 24 (by rfl) (Ev.move rfl (by rfl)) ?_
     refine Rg.qE 7 25 (by rfl) (Ev.indexAt (sz := 4) rfl (by rfl) (by rfl) Tryz.underlying22 (by kernel_rfl) (by omega)) ?_
     refine Rg.qE 8 26 (by rfl) (Ev.loadEl rfl (by rfl) (ReadsIn.row 0 (by rfl)) (by kernel_rfl) (by intro _; rfl) (by assumption)) ?_
     refine Rg.qE 9 27 (by rfl) (Ev.move rfl (by rfl)) ?_
     refine Rg.qE 10 28 (by rfl) (Ev.move rfl (by rfl)) ?_
     refine Rg.qE 11 29 (by rfl) (Ev.subN (b := 1) rfl (by rfl) (by rfl) (by omega)) ?_
     refine Rg.qE 12 30 (by rfl) (Ev.indexAt (sz := 4) rfl (by rfl) (by rfl) Tryz.underlying22 (by kernel_rfl) (by omega)) ?_
     refine Rg.qE 13 31 (by rfl) (Ev.loadEl rfl (by rfl) (ReadsIn.row 0 (by rfl)) (by kernel_rfl) (by intro _; rfl) (by assumption)) ?_
     refine Rg.does 14 (by rfl) (by kernel_rfl) (Does.readV rfl (by rfl) (ord_fnv x y) (by rfl) (by rfl) trivial) (by rfl) (some 32) (by rfl) (by exact fun _ _ h => h) ?_
     rintro _ -
     refine Rg.qE 15 33 (by rfl) (Ev.lss rfl (by rfl) (by rfl)) ?_
     rw [ordI_lt]
     refine Rg.qE 16 34 (by rfl) (Ev.pickT rfl (by rfl) (by rfl)) ?_
     refine Rg.done (by kernel_rfl) ?_ _
     cases hlt : ltT x y with
     | true =>
      refine go [23,6,3,21] ?_
      refine Cd.draw [15] (by kernel_rfl) ?_
      refine Rg.qE 0 37 (by rfl) (Ev.move rfl (by rfl)) ?_
      refine Rg.qE 1 38 (by rfl) (Ev.move rfl (by rfl)) ?_
      refine Rg.mv 2 (by rfl) (fun _ h => h) rfl (by rfl) (by rfl) (some 39) (by rfl) (by kernel_rfl) (by kernel_rfl) (by kernel_rfl) (by kernel_rfl) ?_
      refine Rg.mv 3 (by rfl) (fun _ h => h) rfl (by rfl) (by rfl) (some 40) (by rfl) (by kernel_rfl) (by kernel_rfl) (by kernel_rfl) (by kernel_rfl) ?_
      refine Rg.pv 4 (by rfl) (fun _ h => h) (fun _ => Ev.subN (b := 1) rfl (by rfl) (by rfl) (by omega)) (by rfl) (some 41) (by rfl) (by kernel_rfl) (by kernel_rfl) (by kernel_rfl) (by kernel_rfl) ?_
      refine Rg.qE 5 42 (by rfl) (Ev.move rfl (by rfl)) ?_
      refine Rg.qE 6 43 (by rfl) (Ev.move rfl (by rfl)) ?_
      refine Rg.qE 7 44 (by rfl) (Ev.subN (b := 1) rfl (by rfl) (by rfl) (by omega)) ?_
      refine Rg.qE 8 45 (by rfl) (Ev.indexAt (sz := 4) rfl (by rfl) (by rfl) Tryz.underlying22 (by kernel_rfl) (by omega)) ?_
      refine Rg.qE 9 46 (by rfl) (Ev.loadEl rfl (by rfl) (ReadsIn.row 0 (by rfl)) (by kernel_rfl) (by intro _; rfl) (by assumption)) ?_
      refine Rg.qE 10 47 (by rfl) (Ev.move rfl (by rfl)) ?_
      refine Rg.qE 11 48 (by rfl) (Ev.move rfl (by rfl)) ?_
      refine Rg.qE 12 49 (by rfl) (Ev.indexAt (sz := 4) rfl (by rfl) (by rfl) Tryz.underlying22 (by kernel_rfl) (by omega)) ?_
      refine Rg.qE 13 50 (by rfl) (Ev.loadEl rfl (by rfl) (ReadsIn.row 0 (by rfl)) (by kernel_rfl) (by intro _; rfl) (by assumption)) ?_
      refine Rg.qE 14 51 (by rfl) (Ev.indexAt (sz := 4) rfl (by rfl) (by rfl) Tryz.underlying22 (by kernel_rfl) (by omega)) ?_
      refine Rg.tail 15 [17] (by rfl) (by kernel_rfl) (Does.storeTb (k := k + 1) (v := y) 0 rfl (by rfl) (by rfl) (by rfl) rfl (by kernel_rfl) (by omega) hl2) (by rfl) none (by rfl) (by kernel_rfl) (by kernel_rfl) ?_
      rintro _ -
      refine Rg.qE 16 52 (by rfl) (Ev.indexAt (sz := 4) rfl (by rfl) (by rfl) Tryz.underlying22 (by kernel_rfl) (by omega)) ?_
      refine Rg.tail 17 [] (by rfl) (by kernel_rfl) (Does.storeTb (k := k) (v := x) 0 rfl (by rfl) (by rfl) (by rfl) rfl (by kernel_rfl) (by rw [List.length_set]; omega) (by rw [List.length_set]; exact hl2)) (by rfl) none (by rfl) (by kernel_rfl) (by kernel_rfl) ?_
      rintro _ -
      refine Rg.done (by kernel_rfl) ?_ _
      refine go [4,0] ?_
      refine Ls.qE 36 (Ev.subN (b := 1) rfl (by rfl) (by rfl) (by omega)) ?_
      refine go [5,2] ?_
      refine Ent.iA ((k, (D2.set (k + 1) y).set k x)) ?_
      (try dsimp only); exact ⟨⟨by omega, by omega, hmv2.trans (Mv.swap hx hy (by omega) (by omega) (by omega) (by omega)), hin.step ltT_ord (by omega) hj2 hx hy hlt⟩, by omega⟩
     | false =>
      refine go [24] ?_
      refine Cd.exit ?_
      refine go [4,0] ?_
      refine Ls.qE 16 (Ev.addN (b := 1) rfl (by rfl) (by rfl) (by omega)) ?_
      refine go [5,2] ?_
      refine Ent.iA ((i + 1, D2)) ?_
      (try dsimp only); exact ⟨⟨by omega, by omega, hmv2, hin.stop ltT_ord hj2 (.inr ⟨x, y, by omega, by omega, hx, by rw [Nat.add_sub_cancel]; exact hy, hlt⟩)⟩, by omega⟩
   · refine Cd.draw [] (by kernel_rfl) ?_
     refine Rg.qE 0 18 (by rfl) (Ev.move rfl (by rfl)) ?_
     refine Rg.qE 1 19 (by rfl) (Ev.move rfl (by rfl)) ?_
     refine Rg.qE 2 20 (by rfl) (Ev.gtr rfl (by rfl) (by rfl)) ?_
     refine Rg.qE 3 21 (by rfl) (Ev.move rfl (by rfl)) ?_
     refine Ent.known 21 false (by rfl) (by exact (decide_eq_false (show ¬ ((a : Int) < (j : Int)) by omega))) ?_
     refine Rg.qP 4 22 ?_
     refine Rg.qP 5 23 ?_
     refine Rg.qP 6 24 ?_
     refine Rg.qP 7 25 ?_
     refine Rg.qP 8 26 ?_
     refine Rg.qP 9 27 ?_
     refine Rg.qP 10 28 ?_
     refine Rg.qP 11 29 ?_
     refine Rg.qP 12 30 ?_
     refine Rg.qP 13 31 ?_
     refine Rg.qP 14 32 ?_
     refine Rg.qP 15 33 ?_
     refine Rg.qE 16 34 (by rfl) (Ev.pickF rfl (by rfl) (by rfl)) ?_
     refine Rg.done (by kernel_rfl) ?_ _
     refine go [24] ?_
     refine Cd.exit ?_
     refine go [4,0] ?_
     refine Ls.qE 16 (Ev.addN (b := 1) rfl (by rfl) (by rfl) (by omega)) ?_
     refine go [5,2] ?_
     refine Ent.iA ((i + 1, D2)) ?_
     (try dsimp only); exact ⟨⟨by omega, by omega, hmv2, hin.stop ltT_ord hj2 (.inl (by omega))⟩, by omega⟩
 · have hge : b ≤ i := by have := of_decide_eq_false h2; omega
   refine Cd.exit ?_
   refine Ent.fin (D1) (⟨hmv, hso.sub (Nat.le_refl _) hge⟩) (Res.nothing (by rfl)) ?_ [0] (by rfl) ?_
   · rfl
   · rfl
set_option maxHeartbeats 1000000 in
theorem swap_sl (A : Option Addr) (n c : Nat) (D : List TbP) (a b k : Nat) (hn : D.length = n) (hab : a + k ≤ b) (hb : b + k ≤ n) (hm : n ≤ 1000000000000) : Fn Tryz.prog 158 #[.slice A n c, .int .i64 a, .int .i64 b, .int .i64 k, ordV] [rowTb A n c D] (List TbP) (fun _ => .tuple #[]) (fun D' => [rowTb A n c D']) (fun D' => Sw a b k D D') := by
 refine Fn.enter Tryz.func158 rfl Tryz.ntmps158 (by rfl) ?_
 intro w0
 refine go [3,4,5,2,21] ?_
 refine Cd.loop (ι := Nat × List TbP) (fun p => [(0, .slice A n c), (1, .int .i64 a), (2, .int .i64 b), (3, .int .i64 k), (10, .int .i64 p.1)]) (fun p => [rowTb A n c p.2]) (fun p => p.1 ≤ k ∧ Sw a b p.1 D p.2) (fun p => k - p.1) ((0, D)) (⟨Nat.zero_le _, Sw.none_ _ _ _⟩) ?_ rfl ?_
 · (repeat (first | exact trivial | refine ⟨by rfl, ?_⟩))
 rintro ⟨i, D1⟩ ⟨hi, hsw⟩
 dsimp only at hi hsw ⊢
 have hl1 : D1.length = n := hsw.mv.len.trans hn
 refine go [3,3,4,0,0,16,2] ?_
 refine Cd.cond _ (by rfl) (fun h2 => ?_) (fun h2 => ?_)
 · have hik : i < k := by have := of_decide_eq_true h2; omega
   obtain ⟨x, hx⟩ := get_of_lt (show a + i < D1.length by omega)
   obtain ⟨y, hy⟩ := get_of_lt (show b + i < D1.length by omega)
   refine Ent.rowSome 0 (by rfl) (by omega) (fun ad had => ?_)
   obtain rfl : A = some ad := had
   refine go [6,3,21] ?_
   refine Cd.draw [21] (by kernel_rfl) ?_
   refine Rg.qE 0 16 (by rfl) (Ev.move rfl (by rfl)) ?_
   refine Rg.qE 1 17 (by rfl) (Ev.move rfl (by rfl)) ?_
   refine Rg.qE 2 18 (by rfl) (Ev.move rfl (by rfl)) ?_
   refine Rg.qE 3 19 (by rfl) (Ev.addN rfl (by rfl) (by rfl) (by omega)) ?_
   refine Rg.mv 4 (by rfl) (fun _ h => h) rfl (by rfl) (by rfl) (some 20) (by rfl) (by kernel_rfl) (by kernel_rfl) (by kernel_rfl) (by kernel_rfl) ?_
   refine Rg.mv 5 (by rfl) (fun _ h => h) rfl (by rfl) (by rfl) (some 21) (by rfl) (by kernel_rfl) (by kernel_rfl) (by kernel_rfl) (by kernel_rfl) ?_
   refine Rg.mv 6 (by rfl) (fun _ h => h) rfl (by rfl) (by rfl) (some 22) (by rfl) (by kernel_rfl) (by kernel_rfl) (by kernel_rfl) (by kernel_rfl) ?_
   refine Rg.pv 7 (by rfl) (fun _ h => h) (fun _ => Ev.addN rfl (by rfl) (by rfl) (by omega)) (by rfl) (some 23) (by rfl) (by kernel_rfl) (by kernel_rfl) (by kernel_rfl) (by kernel_rfl) ?_
   refine Rg.qE 8 24 (by rfl) (Ev.move rfl (by rfl)) ?_
   refine Rg.qE 9 25 (by rfl) (Ev.move rfl (by rfl)) ?_
   refine Rg.qE 10 26 (by rfl) (Ev.move rfl (by rfl)) ?_
   refine Rg.qE 11 27 (by rfl) (Ev.addN rfl (by rfl) (by rfl) (by omega)) ?_
   refine Rg.qE 12 28 (by rfl) (Ev.indexAt (sz := 4) rfl (by rfl) (by rfl) Tryz.underlying22 (by kernel_rfl) (by omega)) ?_
   refine Rg.qE 13 29 (by rfl) (Ev.loadEl rfl (by rfl) (ReadsIn.row 0 (by rfl)) (by kernel_rfl) (by intro _; rfl) (by assumption)) ?_
   refine Rg.qE 14 30 (by rfl) (Ev.move rfl (by rfl)) ?_
   refine Rg.qE 15 31 (by rfl) (Ev.move rfl (by rfl)) ?_
   refine Rg.qE 16 32 (by rfl) (Ev.move rfl (by rfl)) ?_
   refine Rg.qE 17 33 (by rfl) (Ev.addN rfl (by rfl) (by rfl) (by omega)) ?_
   refine Rg.qE 18 34 (by rfl) (Ev.indexAt (sz := 4) rfl (by rfl) (by rfl) Tryz.underlying22 (by kernel_rfl) (by omega)) ?_
   refine Rg.qE 19 35 (by rfl) (Ev.loadEl rfl (by rfl) (ReadsIn.row 0 (by rfl)) (by kernel_rfl) (by intro _; rfl) (by assumption)) ?_
   refine Rg.qE 20 36 (by rfl) (Ev.indexAt (sz := 4) rfl (by rfl) (by rfl) Tryz.underlying22 (by kernel_rfl) (by omega)) ?_
   refine Rg.tail 21 [23] (by rfl) (by kernel_rfl) (Does.storeTb (k := a + i) (v := y) 0 rfl (by rfl) (by rfl) (by rfl) rfl (by kernel_rfl) (by omega) hl1) (by rfl) none (by rfl) (by kernel_rfl) (by kernel_rfl) ?_
   rintro _ -
   refine Rg.qE 22 37 (by rfl) (Ev.indexAt (sz := 4) rfl (by rfl) (by rfl) Tryz.underlying22 (by kernel_rfl) (by omega)) ?_
   refine Rg.tail 23 [] (by rfl) (by kernel_rfl) (Does.storeTb (k := b + i) (v := x) 0 rfl (by rfl) (by rfl) (by rfl) rfl (by kernel_rfl) (by rw [List.length_set]; omega) (by rw [List.length_set]; exact hl1)) (by rfl) none (by rfl) (by kernel_rfl) (by kernel_rfl) ?_
   rintro _ -
   refine Rg.done (by kernel_rfl) ?_ _
   refine go [4,0] ?_
   refine Ls.qE 15 (Ev.addN (b := 1) rfl (by rfl) (by rfl) (by omega)) ?_
   refine go [5,2] ?_
   refine Ent.iA ((i + 1, (D1.set (a + i) y).set (b + i) x)) ?_
   (try dsimp only); exact ⟨⟨hik, hsw.step (by omega) hx hy⟩, by omega⟩
 · have hge : i = k := by have := of_decide_eq_false h2; omega
   subst hge
   refine Cd.exit ?_
   refine Ent.fin (D1) (hsw) (Res.nothing (by rfl)) ?_ [0] (by rfl) ?_
   · rfl
   · rfl
set_option maxHeartbeats 1000000 in
theorem rot_sl (A : Option Addr) (n c : Nat) (D : List TbP) (a m b : Nat) (hn : D.length = n) (ham : a < m) (hmb : m < b) (hb : b ≤ n) (hm : n ≤ 1000000000000) : Fn Tryz.prog 142 #[.slice A n c, .int .i64 a, .int .i64 m, .int .i64 b, ordV] [rowTb A n c D] (List TbP) (fun _ => .tuple #[]) (fun D' => [rowTb A n c D']) (fun D' => Rot a m b D D') := by
 refine Fn.enter Tryz.func142 rfl Tryz.ntmps142 (by rfl) ?_
 intro w0
 refine go [3,4,0,0] ?_
 refine Ls.qE 14 (Ev.subN rfl (by rfl) (by rfl) (by omega)) ?_
 refine go [5,25,0,0] ?_
 refine Ls.qE 17 (Ev.subN rfl (by rfl) (by rfl) (by omega)) ?_
 refine go [5,2,3,21] ?_
 refine Cd.loop (ι := Nat × Nat × List TbP) (fun p => [(0, .slice A n c), (2, .int .i64 m), (4, ordV), (10, .int .i64 p.1), (11, .int .i64 p.2.1)]) (fun p => [rowTb A n c p.2.2]) (fun p => 1 ≤ p.1 ∧ 1 ≤ p.2.1 ∧ p.1 ≤ m ∧ m + p.2.1 ≤ n ∧ p.2.2.length = n ∧ ∀ D', Rot (m - p.1) m (m + p.2.1) p.2.2 D' → Rot a m b D D') (fun p => p.1 + p.2.1) ((m - a, b - m, D)) (⟨by dsimp only; omega, by dsimp only; omega, by dsimp only; omega, by dsimp only; omega, hn, fun D' h => by
  dsimp only at h
  rw [show m - (m - a) = a by omega, show m + (b - m) = b by omega] at h
  exact h⟩) ?_ rfl ?_
 · (repeat (first | exact trivial | refine ⟨by rfl, ?_⟩))
 rintro ⟨i, j, D1⟩ ⟨hi, hj, him, hjn, hl1, hrot⟩
 dsimp only at hi hj him hjn hl1 hrot ⊢
 refine go [3,3,4,0,0,17,2] ?_
 refine Cd.cond _ (by rfl) (fun h2 => ?_) (fun h2 => ?_)
 · have hne : i ≠ j := by have := of_decide_eq_true h2; omega
   refine go [6,21,3,4,0,0,18,2] ?_
   refine Cd.cond _ (by rfl) (fun h3 => ?_) (fun h3 => ?_)
   · have hlt : j < i := by have := of_decide_eq_true h3; omega
     refine go [3,4,0,0,0] ?_
     refine Ls.qE 27 (Ev.subN rfl (by rfl) (by rfl) (by omega)) ?_
     refine go [0,0,0] ?_
     refine Ls.does (some 31) (Does.call [0] rfl Tryz.func158 (by kernel_rfl) (by kernel_rfl) (swap_sl A n c D1 (m - i) m j hl1 (by omega) (by omega) hm) (by rfl) (by rfl) (by rfl)) (by rfl) (by rfl) ?_
     rintro D2 hsw
     refine go [2,4,0,0] ?_
     refine Ls.qE 34 (Ev.subN rfl (by rfl) (by rfl) (by omega)) ?_
     refine go [5,2] ?_
     refine Ent.iA ((i - j, j, D2)) ?_
     (try dsimp only); exact ⟨⟨by omega, hj, by omega, hjn, hsw.mv.len.trans hl1, fun D' h => hrot D' (Rot.more hsw hlt him h)⟩, by omega⟩
   · have hlt : i < j := by have := of_decide_eq_false h3; omega
     refine go [3,4,0,0,0] ?_
     refine Ls.qE 38 (Ev.subN rfl (by rfl) (by rfl) (by omega)) ?_
     refine go [0,0] ?_
     refine Ls.qE 41 (Ev.addN rfl (by rfl) (by rfl) (by omega)) ?_
     refine Ls.qM 42 ?_
     refine Ls.qE 43 (Ev.subN rfl (by rfl) (by rfl) (by omega)) ?_
     refine go [0,0] ?_
     refine Ls.does (some 46) (Does.call [0] rfl Tryz.func158 (by kernel_rfl) (by kernel_rfl) (swap_sl A n c D1 (m - i) (m + j - i) i hl1 (by omega) (by omega) hm) (by rfl) (by rfl) (by rfl)) (by rfl) (by rfl) ?_
     rintro D2 hsw
     refine go [2,4,0,0] ?_
     refine Ls.qE 49 (Ev.subN rfl (by rfl) (by rfl) (by omega)) ?_
     refine go [5,2] ?_
     refine Ent.iA ((i, j - i, D2)) ?_
     (try dsimp only); exact ⟨⟨hi, by omega, him, by omega, hsw.mv.len.trans hl1, fun D' h => hrot D' (Rot.less hsw hlt him h)⟩, by omega⟩
 · have he : i = j := by have := of_decide_eq_false h2; omega
   subst he
   refine Cd.exit ?_
   refine go [4,0,0,0] ?_
   refine Ls.qE 53 (Ev.subN rfl (by rfl) (by rfl) (by omega)) ?_
   refine go [0,0,0] ?_
   refine Ls.does (some 57) (Does.call [0] rfl Tryz.func158 (by kernel_rfl) (by kernel_rfl) (swap_sl A n c D1 (m - i) m i hl1 (by omega) (by omega) hm) (by rfl) (by rfl) (by rfl)) (by rfl) (by rfl) ?_
   rintro D2 hsw
   refine Ls.nil ?_
   refine Ent.fin (D2) (hrot D2 (Rot.same hsw him)) (Res.nothing (by rfl)) ?_ [0] (by rfl) ?_
   · rfl
   · rfl
end Go.Proofs.YtacbkganjkipdaaGreatDoor
