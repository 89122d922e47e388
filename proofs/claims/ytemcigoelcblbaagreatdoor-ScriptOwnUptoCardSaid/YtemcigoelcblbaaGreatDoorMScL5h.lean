/-
  Texts joined: SlY, SlS, SlZ, SlO, ScA, ScC, ScD, ScE, ScF, ScG, ScH, ScI.
-/
import Derived.Test.YtemcigoelcblbaaGreatDoorMScL5a
import Derived.Test.YtemcigoelcblbaaGreatDoorMScL5b
import Derived.Test.YtemcigoelcblbaaGreatDoorMScL5c
import Derived.Test.YtemcigoelcblbaaGreatDoorMScL5d
import Derived.Test.YtemcigoelcblbaaGreatDoorMScL5g
import Derived.WideKeyEntry
import Derived.Lib.SliceRun
/-
  A map's entry, laid ahead of its store (m[k], n[j] = x, y): mapEntry, then entryStore.
-/
namespace Go.Proofs.YtemcigoelcblbaaGreatDoor
open Go.RowKit Go.WideElems Go.ChangeShapes Go.WideShapes Go.MapKept Go.ChangeMaps
section
variable {ι : Type} {P : Program} {w : World} {k e t : TypeId} {b n : Nat} {z : Value} {Q : ι → Value} {f : ι → Option Value}
theorem upd_setBlock {w : World} {b : Nat} {es es' : Array MapEntry} {c c' : Nat} (hb : w.heap[b]? = some (.map es c)) : Upd (fun i => i = b) w (setBlock w b (.map es' c')) :=
  ⟨rfl, rfl, rfl, by simp [setBlock], fun i _ hi => heap_setBlock_other hb _ hi⟩
/-- What the entry of x is, between mapEntry and entryStore. -/
theorem MapO.entry [DecidableEq ι] (hQ : ∀ x y, Q x = Q y → x = y) (h : MapO w P k b n z Q f) (K : Maps.Keyed P k) (ht : P.underlying t = some (.map k e)) (hz : ∀ w, (zeroValue e).run P w = .ok z w) (hn : n < maxLen) {x : ι} {l : Lit} (hx : keyOf P k (Q x) = some l) :
    ∃ (v0 : Value) (st : Nat) (es1 : Array MapEntry) (c1 : Nat), (Instr.mapEntry t (.map (some b)) (Q x)).run P w = .ok (.tuple #[v0, goInt st]) (setBlock w b (.map es1 c1)) ∧ Upd (fun i => i = b) w (setBlock w b (.map es1 c1)) ∧ (setBlock w b (.map es1 c1)).heap[b]? = some (.map es1 c1) ∧
      ∀ (v : Value) (w2 : World), w2.heap[b]? = some (.map es1 c1) → ∃ w3, (Instr.entryStore t (.map (some b)) (goInt st) v).run P w2 = .ok () w3 ∧ MapO w3 P k b (n + 1) z Q (putI f x v) ∧ Upd (fun i => i = b) w2 w3 := by
  have hput := fun v => h.put_ hQ K ht hn hx v
  obtain ⟨D, ⟨es, c, hb, F, -, -⟩, -⟩ := h
  obtain ⟨born, fresh, -⟩ := F.stamped
  -- from the whole update to the two halves
  have fin : ∀ (st : Nat) (es1 : Array MapEntry) (c1 : Nat) (upd : Value → Array MapEntry), (∀ v, (Instr.mapUpdate t (.map (some b)) (Q x) v).run P w = .ok () (setBlock w b (.map (upd v) c1))) →
      (∀ v w2, w2.heap[b]? = some (.map es1 c1) → (Instr.entryStore t (.map (some b)) (goInt st) v).run P w2 = .ok () (setBlock w2 b (.map (upd v) c1))) →
      ∀ (v : Value) (w2 : World), w2.heap[b]? = some (.map es1 c1) → ∃ w3, (Instr.entryStore t (.map (some b)) (goInt st) v).run P w2 = .ok () w3 ∧ MapO w3 P k b (n + 1) z Q (putI f x v) ∧ Upd (fun i => i = b) w2 w3 := by
    intro st es1 c1 upd h1 h2 v w2 hw2
    obtain ⟨w', hr, hm, _⟩ := hput v
    rw [h1 v] at hr
    injection hr with _ hr
    subst hr
    exact ⟨_, h2 v w2 hw2, hm.block ((heap_setBlock_same hw2 _).trans (heap_setBlock_same hb _).symm), upd_setBlock hw2⟩
  rcases K.find w hx es.toList F.keys with ⟨hno, _⟩ | ⟨j, e0, hfd, hj, hk⟩
  · -- a new entry
    refine ⟨z, c, es.push ⟨Q x, z, c⟩, c + 1, ?_, upd_setBlock hb, heap_setBlock_same hb _, fin c _ _ (fun v => es.push ⟨Q x, v, c⟩) (fun v => ?_) (fun v w2 hw2 => ?_)⟩
    · simp [Instr.mapEntry, run_underlying ht, MapKept.run_getObj_map hb, K.check w false hx, hno, hz, MapKept.run_setObj_map _ hb, Result.andThen, setBlock]
    · simp [Instr.mapUpdate, run_underlying ht, MapKept.run_getObj_map hb, K.check w false hx, hno, MapKept.run_setObj_map _ hb, Result.andThen, setBlock]
    · have hfi : (es.push ⟨Q x, z, c⟩).findIdx? (fun u => ((u.born : Nat) : Int) == ((c : Nat) : Int)) = some es.size := by
        rw [findIdx_arr]
        refine findIdx_born (l := (es.push ⟨Q x, z, c⟩).toList) (j := es.size) (e0 := ⟨Q x, z, c⟩) ?_ (by simp)
        rw [Array.toList_push, List.map_append]
        refine List.nodup_append.2 ⟨fresh, by simp, fun a ha d hd had => ?_⟩
        obtain ⟨u, hu, rfl⟩ := List.mem_map.1 ha
        have h1 := born u hu
        simp at hd
        omega
      have hmd : (es.push ⟨Q x, z, c⟩).modify es.size (fun u => { u with val := v }) = es.push ⟨Q x, v, c⟩ := by
        refine Array.ext' ?_
        rw [Array.toList_modify, Array.toList_push, Array.toList_push, ← Array.length_toList, modify_last]
      simp [Instr.entryStore, MapKept.run_getObj_map hw2, asInt, asIntOf, goInt, hfi, hmd, MapKept.run_setObj_map _ hw2, Result.andThen, setBlock]
  · -- one that stands
    have hj2 : es[j]? = some e0 := by simpa using hj
    have hid : es.modify j (fun u => { u with key := Q x }) = es := by
      refine Array.ext' ?_
      rw [Array.toList_modify, modify_eq_set _ _ _ _ hj, show ({ e0 with key := Q x } : MapEntry) = e0 by rw [← hk]]
      exact set_self _ _ _ hj
    refine ⟨e0.val, e0.born, es, c, ?_, upd_setBlock hb, heap_setBlock_same hb _, fin e0.born _ _ (fun v => es.modify j (fun u => { u with key := Q x, val := v })) (fun v => ?_) (fun v w2 hw2 => ?_)⟩
    · simp [Instr.mapEntry, run_underlying ht, MapKept.run_getObj_map hb, K.check w false hx, hfd, hj2, hk, K.stays w hx, hid, MapKept.run_setObj_map _ hb, Result.andThen, setBlock]
    · simp [Instr.mapUpdate, run_underlying ht, MapKept.run_getObj_map hb, K.check w false hx, hfd, hj2, hk, K.stays w hx, MapKept.run_setObj_map _ hb, Result.andThen, setBlock]
    · have hfi : es.findIdx? (fun u => ((u.born : Nat) : Int) == ((e0.born : Nat) : Int)) = some j := by
        rw [findIdx_arr]
        exact findIdx_born fresh hj
      have hmd : es.modify j (fun u => { u with val := v }) = es.modify j (fun u => { u with key := Q x, val := v }) := by
        refine Array.ext' ?_
        rw [Array.toList_modify, Array.toList_modify, modify_eq_set _ _ _ _ hj, modify_eq_set _ _ _ _ hj, ← hk]
      simp [Instr.entryStore, MapKept.run_getObj_map hw2, asInt, asIntOf, goInt, hfi, hmd, MapKept.run_setObj_map _ hw2, Result.andThen, setBlock]
/-- A map with the entry of x laid, ahead of its store. -/
def mape [DecidableEq ι] (P : Program) (t k : TypeId) (b n : Nat) (z : Value) (Q : ι → Value) (f : ι → Option Value) (x : ι) (st : Nat) : Chunk where
  holds w := ∃ es c, w.heap[b]? = some (.map es c) ∧ ∃ m, m ≤ n ∧ ∀ (v : Value) (w2 : World), w2.heap[b]? = some (.map es c) → ∃ w3, (Instr.entryStore t (.map (some b)) (goInt st) v).run P w2 = .ok () w3 ∧ MapO w3 P k b m z Q (putI f x v) ∧ Upd (fun i => i = b) w2 w3
  foot i := i = b
  excl := true
  lt := fun _ i ⟨_, _, h, _⟩ e => by subst e; exact (Array.getElem?_eq_some_iff.1 h).1
  loc := fun _ _ _ he ⟨es, c, h, h2⟩ => ⟨es, c, (he b rfl).trans h, h2⟩
end
section
variable {ι : Type} [DecidableEq ι] {Q : ι → Value} {Γ : Ctx} {N : Frm} {P : Program} {E : Env} {H : List Chunk} {o : Oper} {x y u : Operand}
theorem Does.mapEntry (hQ : ∀ x y, Q x = Q y → x = y) {t k e b n : Nat} {z : Value} {q : ι} {f : ι → Option Value} {l : Lit} (i : Nat) (ho : o.op = .mapEntry t x y) (hx : E.ev x = some (.map (some b))) (hy : E.ev y = some (Q q)) (hi : H[i]? = some (mapo P k b n z Q f)) (K : Maps.Keyed P k) (ht : P.underlying t = some (.map k e)) (hz : ∀ w, (zeroValue e).run P w = .ok z w) (hn : n < 9223372036854775807) (hq : keyOf P k (Q q) = some l) :
    Does Γ N P E H o (Value × Nat) (fun s => .tuple #[s.1, .int .i64 s.2]) (fun s => H.set i (mape P t k b (n + 1) z Q f q s.2)) (fun _ => True) := .of fun ρ hρ w hs => by
  obtain ⟨m, hm, h⟩ := hs.mem hi
  obtain ⟨v0, st, es, c, hrun, hu, hb, hst⟩ := h.entry hQ K ht hz (show m < maxLen by unfold maxLen; omega) hq
  refine ⟨(v0, st), _, trivial, hs.turn hi rfl hu ⟨es, c, hb, m + 1, by omega, hst⟩ (fun k hk => .inl hk), .inl ?_⟩
  simp [execOp, ho, hρ x _ hx, hρ y _ hy, hrun, goInt]
theorem Does.entryStore {t k b n st : Nat} {z v : Value} {q : ι} {f : ι → Option Value} (i : Nat) (ho : o.op = .entryStore t x y u) (hx : E.ev x = some (.map (some b))) (hy : E.ev y = some (.int .i64 st)) (hu : E.ev u = some v) (hi : H[i]? = some (mape P t k b n z Q f q st)) :
    Does Γ N P E H o Unit (fun _ => undef) (fun _ => H.set i (mapo P k b n z Q (putI f q v))) (fun _ => True) := .of fun ρ hρ w hs => by
  obtain ⟨es, c, hb, m, hm, h⟩ := hs.mem hi
  obtain ⟨w3, hrun, hmo, hup⟩ := h v w hb
  refine ⟨(), w3, trivial, hs.turn hi rfl hup ⟨m, hm, hmo⟩ (fun k hk => .inl hk), .inr ⟨rfl, ?_⟩⟩
  have hy' : ∀ s : Nat, (Value.int .i64 s) = goInt s := fun _ => rfl
  simp [execOp, ho, hρ x _ hx, hρ y _ hy, hρ u _ hu, hy', hrun]
end
section
variable {Γ : Ctx} {N : Frm} {P : Program} {E : Env} {H : List Chunk} {κ : Cont} {ops : Array Oper} {o : Oper}
/-- The one operation that is ready makes memory; the same pieces stay. -/
theorem Rg.keep {Hs : List Chunk} {T : List Nat} {fuel : Nat} {listed : Array Bool} {ι : Type} {v : ι → Value} {H' : ι → List Chunk} {φ : ι → Prop} (i : Nat) (hi : ops[i]? = some o) (hr : Region.ready .any ops listed = [i]) (h : Does Γ N P E H o ι v H' φ) (hw : wantB ops E o = some true) (d : Option Tmp) (hd : (decide (o.dst = d) && dstB N d) = true)
    (hsub : ∀ j w, Sat Γ (H' j) w → Sat Γ Hs w) (k : ∀ j, φ j → Rg Γ N P (E.put d (v j)) (H' j) Hs T ops fuel (listed.setIfInBounds i true) κ) : Rg Γ N P E H Hs T ops (fuel + 1) listed κ := by
  simp only [Bool.and_eq_true, decide_eq_true_eq] at hd
  obtain ⟨rfl, hd⟩ := hd
  intro a w hrep hsat
  refine ⟨fun h => (by rw [hr] at h; cases h), fun j hj => ?_⟩
  rw [hr] at hj
  obtain rfl : j = i := by simpa using hj
  refine wpOp_step hi fun K hK => ?_
  rw [if_pos (wanted_of hrep hw)]
  exact h.run a w hrep hsat K _ fun x w' hx hs' => hK _ _ ⟨.inr (hsub x w' hs'), k x hx _ _ (hrep.put hd (v x)) hs'⟩
end
end Go.Proofs.YtemcigoelcblbaaGreatDoor
/- a result that lies in one cell of memory; capacities -/
namespace Go.Proofs.YtemcigoelcblbaaGreatDoor
open Go.RowKit
section
variable {Γ : Ctx} {N : Frm} {P : Program} {E : Env} {H : List Chunk}
theorem Res.cell1 {fn : Func} {p t g m u : Nat} {cs : List Value} {v : Value} (i : Nat) (h : fn.results = #[.cell p t]) (hp : E.get p = some (.pointer (some ⟨g, m, none⟩))) (hi : H[i]? = some (blk g u cs)) (ht : one P t = true) (hv : cs[m]? = some v) : Res Γ N P fn E H v := fun a w hr hs => by
  simp [results, h, hr.get p _ hp, asAddr, run_loadVar_one ht (blk_cell (hs.mem hi) hv)]
theorem setR_take {cs vs : List Value} {m k : Nat} (h : m + vs.length ≤ k) (hk : k ≤ cs.length) : (setR cs m vs).take k = setR (cs.take k) m vs := by
  have h1 : (cs.take m).length = m := by rw [List.length_take]; omega
  have h2 : (cs.take m ++ vs).length = m + vs.length := by rw [List.length_append, h1]
  unfold setR
  rw [List.take_append, List.take_of_length_le (by omega), h2, List.take_take, Nat.min_eq_left (by omega), List.drop_take]
/-- A store of some cells into a slice of one's own. -/
theorem Does.storeRow {t n c e sz j : Nat} {A : Option Addr} {ad : Addr} {xs xs' : List Value} {v : Value} {o : Oper} {x y : Operand} (i : Nat) (ho : o.op = .store t x y) (hx : E.ev x = some (.pointer (some (ad.add j)))) (hy : E.ev y = some v) (hi : H[i]? = some (row A n c e sz xs)) (hA : A = some ad) (hsz : (P.info? t).map (·.size) = some v.cells.size) (h1 : v.cells.toList.all (·.oneCell') = true) (hm : j + v.cells.size ≤ xs.length) (hn : 0 < n) (hxs : setR xs j v.cells.toList = xs') :
    Does Γ N P E H o Unit (fun _ => undef) (fun _ => H.set i (row A n c e sz xs')) (fun _ => True) := .of fun ρ hρ w hs => by
  have ho' : Own w 0 e sz A n c xs := hs.mem hi
  subst hxs
  rcases ho'.form with ⟨rfl, rfl, _, rfl⟩ | ⟨g, cur, hg, _, hb, hnc, hcm, hcs, hxs⟩
  · exact absurd hn (Nat.lt_irrefl _)
  · have had : ad = ⟨g, 0, none⟩ := by rw [hA] at hg; exact Option.some.inj hg
    subst had
    have hadd' : (⟨g, 0, none⟩ : Addr).add j = ⟨g, j, none⟩ := by rw [add_at]; simp
    have hlx := ho'.length
    have hle : n * sz ≤ cur.toList.length := by rw [Array.length_toList, hcs]; exact Nat.mul_le_mul_right _ hnc
    have hm2 : j + v.cells.size ≤ cur.toList.length := by omega
    have hst := run_storeCells_at P g j e v.cells.toList 0 cur w hb (by simpa using hm2) (fun z hz => (List.all_eq_true.1 h1) z hz)
    simp only [Nat.add_zero] at hst
    obtain ⟨ti, hti, hsz⟩ := Option.map_eq_some_iff.1 hsz
    have hrun : (storeVar t ⟨g, j, none⟩ v).run P w = .ok () (w.setRow g (setR cur.toList j v.cells.toList).toArray) := by
      simp only [storeVar, sizeOf, typeInfo, hti, hsz, Sem.run_bind, run_program, Result.andThen_ok, Sem.run_pure, ne_eq, not_true_eq_false, if_false, hst]
      rfl
    refine ⟨(), w.setRow g (setR cur.toList j v.cells.toList).toArray, trivial, ?_, .inr ⟨rfl, ?_⟩⟩
    · have hf : blockOf A = some g := by rw [hg]; rfl
      refine hs.turn hi rfl ⟨rfl, rfl, rfl, by simp, fun k hk hn => setRow_other w g k _ (fun e => hn (by rw [e]; exact hf))⟩ ?_ (fun k hk => .inl hk)
      have hb2 := setRow_heap w g _ (setR cur.toList j v.cells.toList).toArray e (0, 0) hb
      have hlen : (setR cur.toList j v.cells.toList).toArray.size = c * sz := by
        rw [List.size_toArray, ← hcs]
        unfold setR
        simp only [List.length_append, List.length_take, List.length_drop, Array.length_toList] at hm2 ⊢
        omega
      have := Own.of_blk (base := 0) (n := n) hb2 (Nat.zero_le _) hnc hcm hlen
      rw [setR_take (by rw [Array.length_toList]; omega) hle, hxs, ← hg] at this
      exact this
    · simp [execOp, ho, hρ x _ hx, hρ y _ hy, Instr.storeAt, Instr.sureAddr, hadd', hrun]
theorem setR_enc {α : Type} {enc : α → List Value} {sz : Nat} (he : ∀ a, (enc a).length = sz) (l : List α) (k : Nat) (a : α) (hk : k < l.length) : setR (l.flatMap enc) (k * sz) (enc a) = (l.set k a).flatMap enc := by
  have e1 : ∀ (l : List α) (k : Nat), (l.flatMap enc).drop (k * sz) = (l.drop k).flatMap enc := by
    intro l
    induction l with
    | nil => intro k; simp
    | cons b l ih =>
      intro k
      cases k with
      | zero => simp
      | succ k => rw [List.flatMap_cons, List.drop_succ_cons, ← ih k, Nat.succ_mul, Nat.add_comm, ← List.drop_drop, List.drop_left' (he b)]
  have e2 : ∀ (l : List α) (k : Nat), (l.flatMap enc).take (k * sz) = (l.take k).flatMap enc := by
    intro l
    induction l with
    | nil => intro k; simp
    | cons b l ih =>
      intro k
      cases k with
      | zero => simp
      | succ k => rw [List.flatMap_cons, List.take_succ_cons, List.flatMap_cons, ← ih k, Nat.succ_mul, Nat.add_comm, List.take_append, he b, List.take_of_length_le (by rw [he b]; omega), Nat.add_sub_cancel_left]
  unfold setR
  rw [he a, ← Nat.succ_mul, e1, e2, List.set_eq_take_append_cons_drop, if_pos hk, List.flatMap_append, List.flatMap_cons, List.append_assoc]
end
end Go.Proofs.YtemcigoelcblbaaGreatDoor
/-
  Function values called; drawn regions whose operations only read and lay new memory, in whatever order.
-/
namespace Go.Proofs.YtemcigoelcblbaaGreatDoor
open Go.RowKit

/-- The function value v comes back with res i and the pieces H' i. -/
def FnV (P : Program) (v : Value) (args : List Value) (H : List Chunk) (ι : Type) (res : ι → Value) (H' : ι → List Chunk) (φ : ι → Prop) : Prop :=
  ∃ (f : FuncId) (fn : Func) (caps : List Value), v = .func (.func f) #[] caps.toArray ∧ P.funcs[f]? = some fn ∧ (fn.name == "runtime.NumGoroutine") = false ∧ fn.body.isNone = false ∧ Fn P f (args ++ caps).toArray H ι res H' φ
section
variable {Γ : Ctx} {N : Frm} {P : Program} {E : Env} {H : List Chunk} {o : Oper} {x : Operand} {v : Value}
theorem runV {f : FuncId} {fn : Func} {caps vs : List Value} {args : Array Operand} {ats : Array TypeId} {a : Act} {w : World} (ho : o.op = .call { callee := .value x, args := args, argTypes := ats }) (hr : Rep N E a) (hx : E.ev x = some (.func (.func f) #[] caps.toArray)) (hf : P.funcs[f]? = some fn) (hname : (fn.name == "runtime.NumGoroutine") = false) (hb : fn.body.isNone = false) (hargs : args.toList.mapM E.ev = some vs) :
    (execOp a.eval o).run P w = .ok (.enter f (vs ++ caps).toArray) w := by
  have h1 : ¬ fn.name = "runtime.NumGoroutine" := by simpa using hname
  have h2 : ¬ fn.body = none := by cases hx : fn.body <;> simp_all
  have ha : args.map a.eval = vs.toArray := by
    have := args_ev (fun _ _ h => hr.ev h) _ _ hargs
    rw [← this, ← Array.toList_map]
  have hxx := hr.ev hx
  unfold execOp
  simp [ho, resolve, Deferred.ofValue, invoke, callFunc, hf, h1, h2, hxx, ha]
theorem Does.callV {args : Array Operand} {ats : Array TypeId} {vs : List Value} {ι : Type} {res : ι → Value} {Hp R : List Chunk} {H' : ι → List Chunk} {φ : ι → Prop} (is : List Nat)
    (ho : o.op = .call { callee := .value x, args := args, argTypes := ats }) (hx : E.ev x = some v)
    (hspec : FnV P v vs Hp ι res H' φ) (hargs : args.toList.mapM E.ev = some vs) (hsel : selB (H.map (·.excl)) is = true) (hsp : picks H is = Hp ++ R) :
    Does Γ N P E H o ι res (fun i => H' i ++ R) φ := by
  obtain ⟨f, fn, caps, rfl, hf, hname, hb, hspec⟩ := hspec
  refine ⟨fun a w hr hs K Q hK => ?_⟩
  unfold Oper.wp
  rw [runV ho hr hx hf hname hb hargs]
  have hs2 := hs.pick is hsel
  rw [hsp] at hs2
  refine (hspec w (sat0_append.1 hs2.sat).1).mono ?_
  rintro e w' ⟨i, hi, rfl, hs'⟩
  exact hK i w' hi (hs2.call hs')
theorem Does.readV {args : Array Operand} {ats : Array TypeId} {vs : List Value} {ι : Type} {res : ι → Value} {Hp : List Chunk} {φ : ι → Prop}
    (ho : o.op = .call { callee := .value x, args := args, argTypes := ats }) (hx : E.ev x = some v)
    (hspec : FnV P v vs Hp ι res (fun _ => []) φ) (hargs : args.toList.mapM E.ev = some vs) (hne : (Hp.all fun C => !C.excl) = true) (hh : AllIn Γ H Hp) :
    Does Γ N P E H o ι res (fun _ => H) φ := by
  obtain ⟨f, fn, caps, rfl, hf, hname, hb, hspec⟩ := hspec
  refine ⟨fun a w hr hs K Q hK => ?_⟩
  have hne : ∀ C ∈ Hp, C.excl = false := fun C hC => by simpa using List.all_eq_true.1 hne C hC
  have hs0 : Sat0 Hp w := ⟨hh.mem hs, List.pairwise_iff_getElem.2 fun i j hi hj _ he => by
    rw [hne _ (List.getElem_mem hi), hne _ (List.getElem_mem hj)] at he
    rcases he with he | he <;> cases he⟩
  unfold Oper.wp
  rw [runV ho hr hx hf hname hb hargs]
  refine (hspec w hs0).mono ?_
  rintro e w' ⟨i, hi, rfl, hs'⟩
  have hS : ∀ k, ¬ Ctx.S ⟨w, Hp⟩ k := fun k ⟨D, hD, he, _⟩ => by rw [hne D hD] at he; cases he
  refine hK i w' hi ⟨hs.upd.trans hs'.upd (fun k _ h => absurd h (hS k)), ⟨fun C hC => C.loc w w' hs'.upd.size (fun k hk => hs'.upd.block k (C.lt w k (hs.sat.1 C hC) hk) (hS k)) (hs.sat.1 C hC), hs.sat.2⟩, hs.fits⟩
theorem Ev.ifaceNil {t t' u : TypeId} {p : Value} {y : Operand} (ho : o.op = .binOp .eql t x y t') (hx : E.ev x = some (.iface u p)) (hy : E.ev y = some .nilIface) (ht : P.underlying t = some (.interface (P.methodsAt t))) : Ev Γ N P E H o (.bool false) :=
  .bin ho hx hy (fun _ => rfl) (fun w => run_eql_held_nil w t u p ht)
theorem Ev.nilNil {t t' : TypeId} (ho : o.op = .binOp .eql t x (.const .nilIface) t') (hx : E.ev x = some .nilIface) (ht : P.underlying t = some (.interface (P.methodsAt t))) : Ev Γ N P E H o (.bool true) :=
  .bin ho hx rfl (fun _ => by simp [eqGuard]) (fun w => run_eql_nil_nil w t ht)
theorem Ev.ifaceNilN {t t' u : TypeId} {p : Value} {y : Operand} (ho : o.op = .binOp .neq t x y t') (hx : E.ev x = some (.iface u p)) (hy : E.ev y = some .nilIface) (ht : P.underlying t = some (.interface (P.methodsAt t))) : Ev Γ N P E H o (.bool true) :=
  .bin ho hx hy (fun _ => rfl) (fun w => run_neq_held_nil w t u p ht)
theorem Ev.nilNilN {t t' : TypeId} (ho : o.op = .binOp .neq t x (.const .nilIface) t') (hx : E.ev x = some .nilIface) (ht : P.underlying t = some (.interface (P.methodsAt t))) : Ev Γ N P E H o (.bool false) :=
  .bin ho hx rfl (fun _ => by simp [eqGuard]) (fun w => run_neq_nil_nil w t ht)
end

section
variable {Γ : Ctx} {N : Frm} {P : Program} {E : Env} {H : List Chunk} {o : Oper} {x : Operand}
theorem Ev.neg {t : TypeId} {k : IntKind} {n : Int} (ho : o.op = .unOp .neg t x) (hx : E.ev x = some (.int k n)) : Ev Γ N P E H o (.int k (k.wrap (-n))) := .of fun ρ hρ w => by
  simp [execOp, ho, hρ x _ hx, Op.unary, Op.intArith]
end
section
variable {Γ : Ctx} {N : Frm} {P : Program} {E : Env} {H : List Chunk}
theorem Res.tmp_cell_tmp {fn : Func} {p q r t n g m u : Nat} {cs vs : List Value} {v v' : Value} (i : Nat) (h : fn.results = #[.tmp q, .cell p t, .tmp r]) (hq : E.get q = some v) (hp : E.get p = some (.pointer (some ⟨g, m, none⟩))) (hi : H[i]? = some (blk g u cs)) (ht : agg P t n = true) (hv : rangeOf cs m n = vs) (hn : vs.length = n) (hr' : E.get r = some v') : Res Γ N P fn E H (.tuple #[v, .agg vs.toArray, v']) := fun a w hr hs => by
  simp [results, h, hr.get p _ hp, hr.get q _ hq, hr.get r _ hr', asAddr, run_cell i hs hi ht hv hn]
end
/-! ### Texts -/
section
variable {Γ : Ctx} {N : Frm} {P : Program} {E : Env} {H : List Chunk} {o : Oper} {x y z : Operand}
theorem extract_txt (l : List UInt8) (i j : Nat) : (txt l).extract i j = txt ((l.take j).drop i) := by
  apply ByteArray.ext
  rw [ByteArray.data_extract]
  apply Array.ext'
  simp [txt, List.extract, List.drop_take]
theorem Ev.sliceHT {t : TypeId} {l : List UInt8} {h : Nat} (ho : o.op = .slice t x none (some y) none) (hx : E.ev x = some (.string (txt l))) (hy : E.ev y = some (.int .i64 h)) (ht : P.underlying t = some .string) (hh : h ≤ l.length) : Ev Γ N P E H o (.string (txt (l.take h))) := .of fun ρ hρ w => by
  have h2 := run_slice_string_h w t (txt l) ht .i64 h (by omega) (by show (h : Int) ≤ (l.length : Int); omega)
  rw [Int.toNat_natCast, extract_txt, List.drop_zero] at h2
  simp [execOp, ho, hρ x _ hx, hρ y _ hy, run_sliceAt_string w t _ _ _ _ ht, h2]
theorem Ev.sliceLHT {t : TypeId} {l : List UInt8} {i j : Nat} (ho : o.op = .slice t x (some y) (some z) none) (hx : E.ev x = some (.string (txt l))) (hy : E.ev y = some (.int .i64 i)) (hz : E.ev z = some (.int .i64 j)) (ht : P.underlying t = some .string) (hij : i ≤ j) (hj : j ≤ l.length) : Ev Γ N P E H o (.string (txt ((l.take j).drop i))) := .of fun ρ hρ w => by
  have h2 := run_slice_string w t (txt l) .i64 .i64 i j ht (by omega) (by omega) (by show (j : Int) ≤ (l.length : Int); omega)
  rw [Int.toNat_natCast, Int.toNat_natCast, extract_txt] at h2
  simp [execOp, ho, hρ x _ hx, hρ y _ hy, hρ z _ hz, run_sliceAt_string w t _ _ _ _ ht, h2]
theorem Ev.indexT {t : TypeId} {l : List UInt8} {k : Nat} {b : UInt8} (ho : o.op = .index t x y) (hx : E.ev x = some (.string (txt l))) (hy : E.ev y = some (.int .i64 k)) (ht : P.underlying t = some .string) (hk : l[k]? = some b) : Ev Γ N P E H o (.int .u8 (b.toNat : Int)) := .of fun ρ hρ w => by
  obtain ⟨hlt, rfl⟩ := List.getElem?_eq_some_iff.1 hk
  have h2 := run_index_string w t (txt l) .i64 k ht
  have hs : (txt l).size = l.length := rfl
  simp [execOp, ho, hρ x _ hx, hρ y _ hy, h2, hs, hlt]
  rfl
end

/-! ### Regions that lay -/
theorem count_set : ∀ (l : List Bool) (i : Nat), l[i]? = some false → (l.set i true).count false + 1 = l.count false
  | [], i, h => by simp at h
  | b :: l, 0, h => by
    obtain rfl : b = false := by simpa using h
    simp
  | b :: l, i + 1, h => by
    have := count_set l i (by simpa using h)
    simp only [List.set_cons_succ, List.count_cons]
    omega
/-- The operations whose answers one takes, with their slots. -/
def depsL (ops : Array Oper) (l : List Edge) : List (Nat × Nat) := l.filterMap fun e => match e.ground with
  | .data => ((ops[e.on]?).bind (·.dst)).map (e.on, ·)
  | _ => none
def depsOf (ops : Array Oper) (o : Oper) : List (Nat × Nat) := depsL ops o.after.toList
abbrev Vals_ := Nat → Value → World → Prop
def DepsK (V : Vals_) (a : Act) (w : World) : List (Nat × Nat) → Prop
  | [] => True
  | (j, d) :: r => (∃ v, a.tmps[d]? = some v ∧ V j v w) ∧ DepsK V a w r
theorem Rep.add {N : Frm} {E : Env} {a : Act} {d : Nat} {v : Value} (h : Rep N E a) (hd : a.tmps[d]? = some v) : Rep N ((d, v) :: E) a := ⟨h.size, h.defers, fun t u ht => by
  simp only [Env.get] at ht
  by_cases e : d = t
  · subst e
    simp at ht
    subst ht
    exact hd
  · have e' : (d == t) = false := by simpa using e
    rw [e'] at ht
    exact h.get t u ht⟩
/-- No guards; each has a slot of its own, none of E's; each waits for earlier ones. -/
def layB (N : Frm) (ops : List Oper) (E : Env) : Nat → List Nat → Bool
  | i, used => match ops with
    | [] => true
    | o :: r => o.guard.isNone && (match o.dst with
        | some d => decide (d < N.size) && !used.contains d && (E.get d).isNone
        | none => false) && (o.after.all fun e => decide (e.on < i)) && layB N r E (i + 1) (match o.dst with
        | some d => d :: used
        | none => used)
section
variable {Γ : Ctx} {N : Frm} {P : Program} {E : Env} {H : List Chunk} {κ : Cont} {V : Vals_}
def LayStep (N : Frm) (P : Program) (E : Env) (S : World → Prop) (V : Vals_) (ops : Array Oper) (i : Nat) (o : Oper) : Prop :=
  ∀ a w, Rep N E a → S w → DepsK V a w (depsOf ops o) → ∀ (K : Asrt) (Q : Exit → Act → World → Prop), (∀ v w', V i v w' → Below w.heap.size w w' → K (a.put o.dst v) w') → o.wp P a w K Q
theorem lay_spec : ∀ (l : List Oper) (i0 : Nat) (used : List Nat), layB N l E i0 used = true → ∀ j o, l[j]? = some o → o.guard = none ∧ (∃ d, o.dst = some d ∧ d < N.size ∧ d ∉ used ∧ E.get d = none) ∧ (∀ e ∈ o.after, e.on < i0 + j) ∧ (∀ k o' d, k ≠ j → l[k]? = some o' → o.dst = some d → o'.dst ≠ some d)
  | [], _, _, _, j, o, h => by simp at h
  | p :: l, i0, used, hb, j, o, h => by
    unfold layB at hb
    simp only [Bool.and_eq_true] at hb
    obtain ⟨⟨⟨h1, h2⟩, h3⟩, h4⟩ := hb
    cases hp : p.dst with
    | none => rw [hp] at h2; cases h2
    | some dp =>
      rw [hp] at h2 h4
      simp only [Bool.and_eq_true, decide_eq_true_eq, Bool.not_eq_true', List.contains_eq_mem, decide_eq_false_iff_not, Option.isNone_iff_eq_none] at h2
      have ih := lay_spec l (i0 + 1) (dp :: used) h4
      cases j with
      | zero =>
        obtain rfl : p = o := by simpa using h
        refine ⟨by simpa using h1, ⟨dp, hp, h2.1.1, h2.1.2, h2.2⟩, fun e he => by
          have := (Array.all_eq_true_iff_forall_mem.1 h3) e he
          simpa using this, fun k o' d hk ho' hd hd' => ?_⟩
        cases k with
        | zero => exact hk rfl
        | succ k =>
          obtain ⟨_, ⟨d2, e2, _, hn, _⟩, _⟩ := ih k o' (by simpa using ho')
          rw [hd'] at e2
          rw [hp] at hd
          obtain rfl := Option.some.inj hd
          obtain rfl := Option.some.inj e2
          exact hn List.mem_cons_self
      | succ j =>
        obtain ⟨a1, ⟨d, e1, e2, e3, e4⟩, a3, a4⟩ := ih j o (by simpa using h)
        refine ⟨a1, ⟨d, e1, e2, fun hm => e3 (List.mem_cons_of_mem _ hm), e4⟩, fun e he => by have := a3 e he; omega, fun k o' d' hk ho' hd hd' => ?_⟩
        cases k with
        | zero =>
          obtain rfl : p = o' := by simpa using ho'
          rw [hp] at hd'
          rw [e1] at hd
          obtain rfl := Option.some.inj hd
          obtain rfl := Option.some.inj hd'
          exact e3 List.mem_cons_self
        | succ k => exact a4 k o' d' (by omega) (by simpa using ho') hd hd'
theorem depsK_of {ops : Array Oper} {a : Act} {w : World} {listed : Array Bool} (hk : ∀ j oj d, ops[j]? = some oj → listed.getD j false = true → oj.dst = some d → ∃ v, a.tmps[d]? = some v ∧ V j v w) : ∀ (l : List Edge), (∀ e ∈ l, Region.binds .any e = true → listed.getD e.on false = true) → DepsK V a w (depsL ops l)
  | [], _ => trivial
  | e :: l, h => by
    have ih := depsK_of hk l (fun e he => h e (List.mem_cons_of_mem _ he))
    unfold depsL at ih ⊢
    rw [List.filterMap_cons]
    cases hg : e.ground with
    | data =>
      have hl := h e List.mem_cons_self (by unfold Region.binds; rw [hg])
      dsimp only
      cases ho : ops[e.on]? with
      | none => simpa using ih
      | some o =>
        cases hd : o.dst with
        | none => simpa [hd] using ih
        | some d =>
          simp only [Option.bind_some, hd, Option.map_some]
          exact ⟨hk e.on o d ho hl hd, ih⟩
    | _ => exact ih
theorem wpAny_lay {ops : Array Oper} {Q : Exit → Act → World → Prop} {S : World → Prop} (hb : layB N ops.toList E 0 [] = true) (hV : ∀ j v w w', V j v w → Below w.heap.size w w' → V j v w') (hS : ∀ w w', S w → Below w.heap.size w w' → S w')
    (step : ∀ i o, ops[i]? = some o → LayStep N P E S V ops i o)
    (hend : ∀ a w, Rep N E a → S w → (∀ j oj d, ops[j]? = some oj → oj.dst = some d → ∃ v, a.tmps[d]? = some v ∧ V j v w) → Q .normal a w) :
    ∀ (fuel : Nat) (listed : Array Bool) (a : Act) (w : World), listed.size = ops.size → listed.toList.count false ≤ fuel → Rep N E a → S w →
      (∀ j oj d, ops[j]? = some oj → listed.getD j false = true → oj.dst = some d → ∃ v, a.tmps[d]? = some v ∧ V j v w) → wpAny P .any ops Q fuel listed a w := by
  have spec := fun j o (h : ops[j]? = some o) => lay_spec ops.toList 0 [] hb j o (by simpa using h)
  have fin : ∀ (listed : Array Bool) (a : Act) (w : World), listed.size = ops.size → Rep N E a → S w → (∀ j oj d, ops[j]? = some oj → listed.getD j false = true → oj.dst = some d → ∃ v, a.tmps[d]? = some v ∧ V j v w) → Region.ready .any ops listed = [] → Q .normal a w := by
    intro listed a w hz hr hs hk hrd
    have all : ∀ n j, j < n → j < ops.size → listed.getD j false = true := by
      intro n
      induction n with
      | zero => intro j h; omega
      | succ n ih =>
        intro j hj hjo
        cases hl : listed.getD j false with
        | true => rfl
        | false =>
          have hoj : ops[j]? = some ops[j] := Array.getElem?_eq_getElem hjo
          have : j ∈ Region.ready .any ops listed := mem_ready.2 ⟨by
            have hjl : j < listed.size := by omega
            simp [hjl] at hl ⊢
            exact hl, ops[j], hoj, fun e he hbd => ih e.on (by have := (spec j _ hoj).2.2.1 e he; omega) (by have := (spec j _ hoj).2.2.1 e he; omega)⟩
          rw [hrd] at this
          cases this
    exact hend a w hr hs fun j oj d ho hd => hk j oj d ho (all (j + 1) j (by omega) (Array.getElem?_eq_some_iff.1 ho).1) hd
  intro fuel
  induction fuel with
  | zero =>
    intro listed a w hz hc hr hs hk
    have hrd : Region.ready .any ops listed = [] := by
      rw [List.eq_nil_iff_forall_not_mem]
      intro j hj
      obtain ⟨h1, o, ho, _⟩ := mem_ready.1 hj
      have hjl : j < listed.size := by
        have := (Array.getElem?_eq_some_iff.1 ho).1
        omega
      have : false ∈ listed.toList := by
        simp [hjl] at h1
        rw [← h1]
        exact Array.mem_toList_iff.2 (Array.getElem_mem hjl)
      have := List.count_pos_iff.2 this
      omega
    exact ⟨hrd, fin listed a w hz hr hs hk hrd⟩
  | succ fuel ih =>
    intro listed a w hz hc hr hs hk
    refine ⟨fin listed a w hz hr hs hk, fun i hi => ?_⟩
    obtain ⟨h1, o, ho, hall⟩ := mem_ready.1 hi
    obtain ⟨s1, ⟨d, sd, sn, _, sE⟩, s3, s4⟩ := spec i o ho
    refine wpOp_step ho fun K hK => ?_
    rw [if_pos (by unfold Region.wanted; rw [s1])]
    have hil : i < listed.size := by
      have := (Array.getElem?_eq_some_iff.1 ho).1
      omega
    refine step i o ho a w hr hs (depsK_of hk _ fun e he hbd => hall e (by simpa using he) hbd) K _ fun v w' hv hbl => hK _ _ ?_
    have hset : (listed.setIfInBounds i true).toList = listed.toList.set i true := by simp
    refine ih _ _ _ (by simpa using hz) ?_ ⟨by simp [Act.put, sd, hr.size], by simp [Act.put, sd, hr.defers], fun t u ht => ?_⟩ (hS _ _ hs hbl) fun j oj dj hoj hlj hdj => ?_
    · rw [hset]
      have := count_set listed.toList i (by
        simp [hil] at h1 ⊢
        exact h1)
      omega
    · rw [sd]
      simp only [Act.put, Array.getElem?_setIfInBounds]
      rw [if_neg (fun e => by subst e; rw [sE] at ht; cases ht)]
      exact hr.get t u ht
    · rw [sd]
      simp only [Act.put, Array.getElem?_setIfInBounds]
      by_cases hji : i = j
      · subst hji
        rw [ho] at hoj
        obtain rfl := Option.some.inj hoj
        rw [sd] at hdj
        obtain rfl := Option.some.inj hdj
        refine ⟨v, by simp [hr.size, sn], hv⟩
      · rw [getD_set_ne false hji] at hlj
        obtain ⟨u, hu, hVu⟩ := hk j oj dj hoj hlj hdj
        refine ⟨u, ?_, hV _ _ _ _ hVu hbl⟩
        rw [if_neg (fun e => s4 j oj d (fun e => hji e.symm) (by simpa using hoj) sd (by rw [hdj, e]))]
        exact hu
/-- Each of the operations, one by one. -/
def LayAll (N : Frm) (P : Program) (E : Env) (S : World → Prop) (V : Vals_) (ops : Array Oper) : Nat → List Oper → Prop
  | _, [] => True
  | i, o :: r => LayStep N P E S V ops i o ∧ LayAll N P E S V ops (i + 1) r
theorem layAll_get {S : World → Prop} {ops : Array Oper} : ∀ (l : List Oper) (i : Nat), LayAll N P E S V ops i l → ∀ j o, l[j]? = some o → LayStep N P E S V ops (i + j) o
  | [], _, _, j, o, h => by simp at h
  | p :: l, i, hl, 0, o, h => by
    obtain rfl : p = o := by simpa using h
    exact hl.1
  | p :: l, i, hl, j + 1, o, h => by
    have := layAll_get l (i + 1) hl.2 j o (by simpa using h)
    rwa [show i + (j + 1) = i + 1 + j by omega]
theorem Sat.grow {w w' : World} (h : Sat Γ H w) (hb : Below w.heap.size w w') : Sat Γ H w' :=
  ⟨h.upd.trans (Upd.of_below (S := fun _ => False) hb) (fun _ _ hf => hf.elim), ⟨fun C hC => C.loc w w' (Upd.of_below (S := fun _ => False) hb).size (fun k hk => (Upd.of_below (S := fun _ => False) hb).block k (C.lt w k (h.sat.1 C hC) hk) (fun hf => hf)) (h.sat.1 C hC), h.sat.2⟩, h.fits⟩
theorem Cd.lay {id : Nat} {ops : Array Oper} (V : Vals_) (hm : P.follows .mixedOrders = true) (hb : layB N ops.toList E 0 [] = true) (hV : ∀ j v w w', V j v w → Below w.heap.size w w' → V j v w')
    (step : LayAll N P E (Sat Γ H) V ops 0 ops.toList) (last : Nat) (d : Nat) (hl : (ops[last]?).bind (·.dst) = some d)
    (hend : ∀ v a w, Rep N ((d, v) :: E) a → Sat Γ H w → V last v w → κ.normal a w) (hc : ops.all calmOp = true := by kernel_rfl) : Cd Γ N P E H (.region id ops true) κ := fun a _ hr hs =>
  wpIn_region_any hm (any_in (all_calm hc) _ _ _ _ (wpAny_lay (S := Sat Γ H) hb hV (fun _ _ h hb => h.grow hb) (fun i o ho => by have := layAll_get _ 0 step i o (by simpa using ho); rwa [Nat.zero_add] at this)
    (fun a w hr hs hk => by
      obtain ⟨o, ho, hd⟩ := Option.bind_eq_some_iff.1 hl
      obtain ⟨v, hv, hVv⟩ := hk last o d ho hd
      exact hend v a w (hr.add hv) hs hVv) _ _ _ _ (by simp) (by simp) hr hs.drew (fun j oj d _ hlj => by
        rw [Array.getD_eq_getD_getElem?, Array.getElem?_replicate] at hlj
        split at hlj <;> simp at hlj)))
theorem below_upd {w w' : World} {S : Nat → Prop} (h : Upd S w w') (hS : ∀ k, ¬ S k) : Below w.heap.size w w' := ⟨h.os, h.tape, h.output, h.size, fun k hk => h.block k hk (hS k)⟩
/-- An operation that only answers. -/
theorem lay_ev {S : World → Prop} {ops : Array Oper} {i : Nat} {o : Oper} (L : List (Nat × Nat)) (hL : depsOf ops o = L) (h : ∀ a w, Rep N E a → S w → DepsK V a w L → ∃ v, (execOp a.eval o).run P w = .ok (.value v) w ∧ V i v w) : LayStep N P E S V ops i o := fun a w hr hs hd K Q hK => by
  obtain ⟨v, hrun, hv⟩ := h a w hr hs (hL ▸ hd)
  unfold Oper.wp
  rw [hrun]
  exact hK v w hv (Below.refl _ _)
/-- An operation that lays new memory. -/
theorem lay_does {ops : Array Oper} {i : Nat} {o : Oper} (L : List (Nat × Nat)) (hL : depsOf ops o = L)
    (h : ∀ a w, Rep N E a → Sat Γ H w → DepsK V a w L → ∃ (E' : Env) (ι : Type) (v : ι → Value) (H' : ι → List Chunk) (φ : ι → Prop), Rep N E' a ∧ Does ⟨w, []⟩ N P E' [] o ι v H' φ ∧ ∀ j w', φ j → Below w.heap.size w w' → Sat Γ (H' j ++ H) w' → V i (v j) w') : LayStep N P E (Sat Γ H) V ops i o := fun a w hr hs hd K Q hK => by
  obtain ⟨E', ι, v, H', φ, hr', hdo, hv⟩ := h a w hr hs (hL ▸ hd)
  refine hdo.run a w hr' (Sat.start ⟨fun _ hc => (List.not_mem_nil hc).elim, List.Pairwise.nil⟩) K Q fun j w' hj hs' => ?_
  have hb : Below w.heap.size w w' := below_upd hs'.upd fun k hk => by
    obtain ⟨D, hD, _⟩ := hk
    cases hD
  exact hK _ _ (hv j w' hj hb (Sat.call (H := []) hs hs')) hb
/-- Pieces that are read alone, side by side. -/
theorem Sat.joinR {Cs : List Chunk} {w : World} (hu : Upd Γ.S Γ.w0 w) (hx : ∀ C ∈ Cs, C.excl = false) (h : ∀ C ∈ Cs, Sat Γ [C] w) : Sat Γ Cs w :=
  ⟨hu, ⟨fun C hC => (h C hC).sat.1 C List.mem_cons_self, List.pairwise_iff_getElem.2 fun i j hi hj _ he => by
    rw [hx _ (List.getElem_mem hi), hx _ (List.getElem_mem hj)] at he
    rcases he with he | he <;> cases he⟩, fun C hC => (h C hC).fits C List.mem_cons_self⟩
theorem Sat.starfR {ι : Type} {F : ι → Chunk} {w : World} (hu : Upd Γ.S Γ.w0 w) (hx : ∀ i, (F i).excl = false) (h : ∀ i, Sat Γ [F i] w) : Sat Γ [starf F] w :=
  ⟨hu, ⟨fun C hC => by
    obtain rfl : C = starf F := by simpa using hC
    exact fun i => ⟨hx i, (h i).sat.1 _ List.mem_cons_self⟩, List.pairwise_singleton _ _⟩, fun C hC => by
    obtain rfl : C = starf F := by simpa using hC
    rintro k ⟨i, hk⟩ hlt
    obtain ⟨h1, _⟩ := (h i).fits _ List.mem_cons_self k hk hlt
    exact ⟨h1, fun e => by cases e⟩⟩
theorem Sat.one {w : World} {C : Chunk} (i : Nat) (hi : H[i]? = some C) (h : Sat Γ H w) : Sat Γ [C] w := by
  have := h.pick [i] (by simp [selB])
  rwa [show picks H [i] = [C] by simp [picks, hi]] at this
abbrev blkOf (x : Nat × TypeId × List Value) : Chunk := blk x.1 x.2.1 x.2.2
abbrev rblkOf (x : Nat × TypeId × List Value) : Chunk := rblk x.1 x.2.1 x.2.2
theorem Sat.seeL {R : List Chunk} {w : World} : ∀ (L : List (Nat × TypeId × List Value)) (Pre : List Chunk), Sat Γ (Pre ++ (L.map blkOf ++ R)) w → Sat Γ (Pre ++ (L.map rblkOf ++ R)) w
  | [], _, h => h
  | x :: L, Pre, h => by
    have h1 := h.see (i := Pre.length) (C := blkOf x) (C' := rblkOf x) (by simp) rfl (fun _ h => h) (fun _ h => h)
    rw [List.set_append_right _ _ (Nat.le_refl _), Nat.sub_self] at h1
    have h2 := Sat.seeL L (Pre ++ [rblkOf x]) (by simpa using h1)
    simpa using h2
theorem Ent.seeL {A : Asrt} (L : List (Nat × TypeId × List Value)) (R : List Chunk) (hH : H = L.map blkOf ++ R) (h : Ent Γ N E (L.map rblkOf ++ R) A) : Ent Γ N E H A := fun a w hr hs => h a w hr (Sat.seeL L [] (hH ▸ hs))
end
end Go.Proofs.YtemcigoelcblbaaGreatDoor
/-
  Contracts that were shown by worlds, as contracts by pieces.
-/
namespace Go.Proofs.YtemcigoelcblbaaGreatDoor
open Go.RowKit
section
variable {P : Program} {f : FuncId} {args : Array Value} {H : List Chunk}
theorem sat_nil {w w' : World} (hb : Below w.heap.size w w') : Sat ⟨w, H⟩ [] w' :=
  ⟨Upd.of_below hb, ⟨fun _ h => (List.not_mem_nil h).elim, List.Pairwise.nil⟩, fun _ h => (List.not_mem_nil h).elim⟩
theorem sat_row {w w' : World} {A : Option Addr} {n c e sz : Nat} {xs : List Value} (ho : Own w' w.heap.size e sz A n c xs) (hb : Below w.heap.size w w') : Sat ⟨w, H⟩ [row A n c e sz xs] w' :=
  ⟨Upd.of_below hb, ⟨fun C hC => by
    obtain rfl : C = _ := by simpa using hC
    exact ho.mono (Nat.zero_le _), List.pairwise_singleton _ _⟩, fun C hC => by
    obtain rfl : C = _ := by simpa using hC
    intro k hk hlt
    have := (ho.ge k hk).1
    dsimp only at hlt
    omega⟩
theorem Fn.of_same {v : Value} (h : ∀ w, Sat0 H w → Calls P f args w fun e w' => e = .returned v ∧ w = w') : Fn P f args H Unit (fun _ => v) (fun _ => []) (fun _ => True) := fun w hs =>
  (h w hs).mono fun e w' ⟨he, hw⟩ => ⟨(), trivial, he, by subst hw; exact sat_nil (Below.refl _ _)⟩
theorem Fn.of_below {v : Value} (h : ∀ w, Sat0 H w → Calls P f args w fun e w' => e = .returned v ∧ Below w.heap.size w w') : Fn P f args H Unit (fun _ => v) (fun _ => []) (fun _ => True) := fun w hs =>
  (h w hs).mono fun _ _ ⟨he, hb⟩ => ⟨(), trivial, he, sat_nil hb⟩
theorem Fn.of_own {res : Option Addr × Nat → Value} {n e sz : Nat} {xs : List Value} (h : ∀ w, Sat0 H w → Calls P f args w fun e' w' => ∃ A c, e' = .returned (res (A, c)) ∧ Own w' w.heap.size e sz A n c xs ∧ Below w.heap.size w w') : Fn P f args H (Option Addr × Nat) res (fun p => [row p.1 n p.2 e sz xs]) (fun _ => True) := fun w hs =>
  (h w hs).mono fun _ _ ⟨A, c, he, ho, hb⟩ => ⟨(A, c), trivial, he, sat_row ho hb⟩
theorem sat_rd {w : World} {A : Option Addr} {n sz : Nat} {xs : List Value} (i : Nat) (hi : H[i]? = some (rd A n sz xs)) (h : Sat0 H w) : Reads w w.heap.size sz A n xs := h.1 _ (List.mem_of_getElem? hi)
end
end Go.Proofs.YtemcigoelcblbaaGreatDoor
/- what the library's functions answer, over pieces -/
namespace Go.Proofs.YtemcigoelcblbaaGreatDoor
open Go.RowKit
abbrev in64 (n : Int) : Prop := -9223372036854775808 ≤ n ∧ n ≤ 9223372036854775807
/-- What the library's variables hold. -/
def laidH (w : World) : Prop := (∃ m, w.cell? ⟨0, 0, none⟩ = some (.int .i64 m)) ∧ Lib.TabIs Tryz.prog w "internal/strconv.uint64pow10" .u64 Lib.pow10Tab ∧ (∃ tp p, w.var? Tryz.prog "strconv.ErrSyntax" = some #[.iface tp p]) ∧ ∃ tp p, w.var? Tryz.prog "strconv.ErrRange" = some #[.iface tp p]
theorem cell_lt {w : World} {g k : Nat} {v : Value} (h : w.cell? ⟨g, k, none⟩ = some v) : g < w.heap.size := by
  rcases Nat.lt_or_ge g w.heap.size with h1 | h1
  · exact h1
  · simp [World.cell?, Array.getElem?_eq_none h1] at h
theorem var_heap {P : Program} {w w' : World} {n : String} {g : Nat} (hg : P.globalNamed n = some g) (h : w'.heap[g]? = w.heap[g]?) : w'.var? P n = w.var? P n := by
  simp only [World.var?, hg, Option.bind_some, h]
theorem var_lt {P : Program} {w : World} {n : String} {g : Nat} {cs : Array Value} {v : Value} (hg : P.globalNamed n = some g) (h : w.var? P n = some cs) (h0 : cs[0]? = some v) : g < w.heap.size := cell_lt ((World.var?_cell hg h 0).trans h0)
theorem gT : Tryz.prog.globalNamed "internal/strconv.uint64pow10" = some 5 := by kernel_rfl
theorem gS : Tryz.prog.globalNamed "strconv.ErrSyntax" = some 3 := by kernel_rfl
theorem gR : Tryz.prog.globalNamed "strconv.ErrRange" = some 4 := by kernel_rfl
def laidC : Chunk where
  holds := laidH
  foot k := k = 0 ∨ k = 5 ∨ k = 3 ∨ k = 4
  excl := false
  lt := by
    rintro w k ⟨⟨m, h1⟩, h2, ⟨tp, p, h3⟩, ⟨tp', p', h4⟩⟩ (rfl | rfl | rfl | rfl)
    · exact cell_lt h1
    · exact var_lt gT h2 (v := .int .u64 1) rfl
    · exact var_lt gS h3 rfl
    · exact var_lt gR h4 rfl
  loc := by
    rintro w w' _ he ⟨⟨m, h1⟩, h2, h3, h4⟩
    refine ⟨⟨m, ?_⟩, ?_, ?_, ?_⟩
    · rw [← h1]
      exact World.cell?_of_block (he _ (.inl rfl))
    · exact (var_heap gT (he _ (.inr (.inl rfl)))).trans h2
    · rw [var_heap gS (he _ (.inr (.inr (.inl rfl))))]
      exact h3
    · rw [var_heap gR (he _ (.inr (.inr (.inr rfl))))]
      exact h4
theorem sat_laid {w : World} {H : List Chunk} (i : Nat) (hi : H[i]? = some laidC) (h : Sat0 H w) : laidH w := h.1 _ (List.mem_of_getElem? hi)
theorem below_gd (w : World) (k : Nat) (os : Array Obj) : Below w.heap.size w (Go.Sort.grow (w.drewN k) os) :=
  ⟨rfl, rfl, rfl, by show w.heap.size ≤ (w.heap ++ os).size; rw [Array.size_append]; omega, fun j hj => by
    show (w.heap ++ os)[j]? = _
    rw [Array.getElem?_append_left hj]⟩
theorem itoa_sl (n : Int) (h : in64 n) : Fn Tryz.prog 62 #[.int .i64 n] [laidC] Unit (fun _ => .string (txt (Lib.itoa n))) (fun _ => []) (fun _ => True) :=
  Fn.of_below fun w hs => (Tryz.strconv_Itoa n h.1 h.2 w (sat_laid 0 rfl hs).2.1).mono fun _ _ ⟨he, k, os, hw⟩ => ⟨he, hw ▸ below_gd w k os⟩
/-- How Atoi ends. -/
def atoiR (t : List UInt8) (p : Int × Value) : Prop := match Lib.atoiAll t with
  | .ok v => p.1 = v ∧ p.2 = .nilIface
  | _ => ∃ te pe, p.2 = .iface te pe
theorem atoi_sl (t : List UInt8) (ht : t.length ≤ 1048576) : Fn Tryz.prog 61 #[.string (txt t)] [laidC] (Int × Value) (fun p => .tuple #[.int .i64 p.1, p.2]) (fun _ => []) (atoiR t) := fun w hs => by
  obtain ⟨_, _, ⟨tp, p, h3⟩, ⟨tp', p', h4⟩⟩ := sat_laid 0 rfl hs
  have hz : (txt t).size = t.length := rfl
  have hd : (txt t).data.toList = t := rfl
  unfold atoiR
  cases he : Lib.atoiAll t with
  | ok v =>
    refine (Tryz.strconv_Atoi_ok (txt t) (by omega) v (by rw [hd, he]) w).mono ?_
    rintro e w' ⟨rfl, hw⟩
    refine ⟨(v, .nilIface), ⟨rfl, rfl⟩, rfl, sat_nil ?_⟩
    rcases hw with rfl | ⟨s', rfl⟩
    · exact Below.refl _ _
    · exact Lib.bytesWorld_below w _ s'
  | range =>
    refine (Tryz.strconv_Atoi_range_var (txt t) (by omega) (by rw [hd, he]) tp' p' w h4).mono ?_
    rintro e w' ⟨N, rfl, _, _, hb⟩
    exact ⟨(Lib.atoiSat (txt t).data.toList, _), ⟨_, _, rfl⟩, rfl, sat_nil hb⟩
  | _ =>
    refine (Tryz.strconv_Atoi_syntax_var (txt t) (by omega) (fun v h => by rw [hd, he] at h; cases h) (fun h => by rw [hd, he] at h; cases h) tp p w h3).mono ?_
    rintro e w' ⟨N, rfl, _, _, hb⟩
    exact ⟨(0, _), ⟨_, _, rfl⟩, rfl, sat_nil hb⟩
end Go.Proofs.YtemcigoelcblbaaGreatDoor
/- the library's Split, DeleteFunc, Join, Equal over pieces; words -/
namespace Go.Proofs.YtemcigoelcblbaaGreatDoor
open Go.RowKit
/-- Texts in a row. -/
abbrev txts (l : List (List UInt8)) : List Value := strs (l.map txt)
theorem txts_len (l : List (List UInt8)) : (txts l).length = l.length := by simp [strs]
theorem sat_one {w w' : World} {H : List Chunk} {C : Chunk} (hb : Below w.heap.size w w') (h : C.holds w') (hf : ∀ k, C.foot k → w.heap.size ≤ k) : Sat ⟨w, H⟩ [C] w' :=
  ⟨Upd.of_below hb, ⟨fun D hD => by
    obtain rfl : D = C := by simpa using hD
    exact h, List.pairwise_singleton _ _⟩, fun D hD => by
    obtain rfl : D = C := by simpa using hD
    intro k hk hlt
    have := hf k hk
    dsimp only at hlt
    omega⟩
theorem split_sl (c : UInt8) (t : List UInt8) (ht : t.length ≤ 1048576) : Fn Tryz.prog 14 #[.string (txt t), .string (txt [c])] [laidC] Nat (fun g => .slice (some ⟨g, 0, none⟩) (splitP c t).length (splitP c t).length) (fun g => [row (some ⟨g, 0, none⟩) (splitP c t).length (splitP c t).length 9 1 (txts (splitP c t))]) (fun _ => True) := fun w hs => by
  obtain ⟨⟨m, hm⟩, _⟩ := sat_laid 0 rfl hs
  have hz : (txt t).size = t.length := rfl
  have hlen := splitB_len c t
  have heq := splitB_eq c t
  refine (Tryz.strings_Split (txt t) (txt [c]) m w (by omega) hm (Nat.le_refl 1)).mono ?_
  rintro e w' ⟨rfl, rfl⟩
  have h1 : Lib.countB (txt t) (txt [c]) + 1 = (splitP c t).length := hlen
  have h2 : (Lib.splitB (txt [c]) 0 (Lib.countB (txt t) (txt [c])) (txt t)).map Value.string = txts (splitP c t) := by
    have : Lib.splitB (txt [c]) 0 (Lib.countB (txt t) (txt [c])) (txt t) = (splitP c t).map txt := heq
    rw [this]
    rfl
  rw [h1, h2]
  have hl := (splitP_len c t).1
  refine ⟨w.heap.size, trivial, rfl, sat_one (Below.alloc (Below.refl _ _) (Nat.le_refl _) _) ?_ (fun k hk => ?_)⟩
  · have h0 : Blk (w.alloc (.cells (txts (splitP c t)).toArray 9)) w.heap.size 9 (txts (splitP c t)).toArray := Blk.new w _ _
    have := Own.of_blk (e := 9) (base := 0) (size := 1) (n := (splitP c t).length) (c := (splitP c t).length) h0 (Nat.zero_le _) (Nat.le_refl _) (by unfold maxLen; omega) (by simp [strs])
    rwa [List.take_of_length_le (by simp [strs])] at this
  · have : w.heap.size = k := by simpa [row, blockOf] using hk
    omega
theorem fn_of_own {f : FuncId} {args : Array Value} {A : Option Addr} {n c e sz : Nat} {xs : List Value} {n' : Nat} {xs' : List Value} {v : Value}
    (h : ∀ w, Own w 0 e sz A n c xs → Calls Tryz.prog f args w fun en w' => en = .returned v ∧ Own w' 0 e sz A n' c xs' ∧ Upd (fun i => blockOf A = some i) w w') :
    Fn Tryz.prog f args [row A n c e sz xs] Unit (fun _ => v) (fun _ => [row A n' c e sz xs']) (fun _ => True) := fun w hs =>
  (h w (hs.1 _ List.mem_cons_self)).mono fun en w' ⟨h1, h2, h3⟩ => ⟨(), trivial, h1, by
    have := (Sat.start hs).turn (C' := row A n' c e sz xs') (i := 0) rfl rfl h3 h2 (fun k hk => .inl hk)
    exact this⟩
theorem turn_strs {w : World} {g n c e : Nat} {xs : List Value} (ho : Own w 0 e 1 (some ⟨g, 0, none⟩) n c xs) (arr : Array ByteArray) (ha : arr.size = n) (m : Nat) (hm : m ≤ n) (k : Nat) :
    Own (Go.Sort.putRow Value.string (Go.Sort.ahead w k) g 0 arr) 0 e 1 (some ⟨g, 0, none⟩) m c (strs (arr.toList.take m)) ∧ Upd (fun i => i = g) w (Go.Sort.putRow Value.string (Go.Sort.ahead w k) g 0 arr) := by
  rcases ho.form with ⟨h, _⟩ | ⟨g', cur, h1, _, hb, hn, hc, hs, hx⟩
  · cases h
  · obtain rfl : g = g' := by simpa using h1
    have hlt := hb.lt
    have hblk : (Go.Sort.putRow Value.string (Go.Sort.ahead w k) g 0 arr).heap[g]? = some (.cells (Go.Sort.putCells Value.string 0 arr cur) e (0, 0)) := by
      have hb' : w.heap[g]? = some (.cells cur e (0, 0)) := hb
      simp only [Go.Sort.putRow, Go.Sort.mapBlock, Go.Sort.ahead]
      rw [Array.getElem?_modify, if_pos rfl, hb']
      rfl
    have hsz : (Go.Sort.putCells Value.string 0 arr cur).size = c * 1 := by rw [← hs]; simp [Go.Sort.putCells]
    have := Own.of_blk (e := e) (base := 0) (size := 1) (n := m) hblk (Nat.zero_le _) (by omega) hc hsz
    have hx2 : (Go.Sort.putCells Value.string 0 arr cur).toList.take (m * 1) = strs (arr.toList.take m) := by
      refine List.ext_getElem? fun i => ?_
      rw [Nat.mul_one, List.getElem?_take, strs_get, Array.getElem?_toList]
      by_cases hi : i < m
      · rw [if_pos hi, List.getElem?_take_of_lt hi]
        have hic : i < cur.size := by rw [hs]; omega
        have e1 : (Go.Sort.putCells Value.string 0 arr cur)[i]? = some (.string arr[i]!) := by
          simp only [Go.Sort.putCells, Array.getElem?_mapIdx]
          rw [Array.getElem?_eq_getElem hic]
          simp [ha, show i < n by omega]
        rw [e1, Array.getElem?_toList, Array.getElem?_eq_getElem (by omega), getElem!_pos arr i (by omega)]
        rfl
      · rw [if_neg hi, List.getElem?_eq_none (by simp; omega)]
        rfl
    rw [hx2] at this
    refine ⟨this, rfl, rfl, rfl, by simp [Go.Sort.putRow, Go.Sort.mapBlock, Go.Sort.ahead], fun i hi hn => ?_⟩
    simp only [Go.Sort.putRow, Go.Sort.mapBlock, Go.Sort.ahead]
    rw [Array.getElem?_modify, if_neg (fun e => hn e.symm)]
theorem empty_gives (x : ByteArray) (W : World) : FnGives Tryz.prog 51 #[] #[.string x] (.bool (decide (x = ⟨#[]⟩))) W := by
  show Calls Tryz.prog 51 #[.string x] W _
  go_enter Tryz.func51, Tryz.ntmps51
  go_wp2
  all_goals (go_ret; refine ⟨?_, 0, rfl⟩)
  have h := decide_eq_emptyBytes x
  show Ending.returned (Value.bool x.toList.isEmpty) = _
  rw [← h]
  rfl
theorem txt_empty (t : List UInt8) : (!decide (txt t = ⟨#[]⟩)) = decide (t ≠ []) := by
  cases t with
  | nil => rfl
  | cons x r =>
    have : ¬ txt (x :: r) = ⟨#[]⟩ := fun e => by
      have := congrArg ByteArray.size e
      simp [txt, ByteArray.size] at this
    rw [decide_eq_false this]
    simp
theorem del_sl (g c : Nat) (l : List (List UInt8)) (hl : l.length ≤ 1048577) : Fn Tryz.prog 50 #[.slice (some ⟨g, 0, none⟩) l.length c, .func (.func 51) #[] #[]] [row (some ⟨g, 0, none⟩) l.length c 9 1 (txts l)] Unit (fun _ => .slice (some ⟨g, 0, none⟩) (l.filter fun w => decide (w ≠ [])).length c) (fun _ => [row (some ⟨g, 0, none⟩) (l.filter fun w => decide (w ≠ [])).length c 9 1 (txts (l.filter fun w => decide (w ≠ [])))]) (fun _ => True) :=
  fn_of_own fun w ho => by
    have eg : ∀ args w, (callFunc 51 args).run Tryz.prog w = .ok (.enter 51 args) w := enters_of Tryz.func51 (by kernel_rfl) rfl
    have hH : Go.Sort.Holds Value.string w g 0 (l.map txt).toArray := fun j hj => by
      have hj : j < l.length := by simpa using hj
      refine ⟨?_, ?_⟩
      · rw [Nat.zero_add]
        refine ho.cell rfl ?_
        rw [strs_get, List.getElem?_eq_getElem (by simpa using hj)]
        simp [hj]
      · rw [Nat.zero_add]
        exact ho.frozen rfl j
    have hc : l.length ≤ c := by
      rcases ho.form with ⟨h, _⟩ | ⟨_, _, _, _, _, hn, _⟩
      · cases h
      · exact hn
    have hcon := Tryz.slices_DeleteFunc Value.string (fun _ => rfl) (fun x => decide (x = ⟨#[]⟩)) 51 #[] eg ByteArray.empty Tryz.zeroValue9 g 0 c (l.map txt).toArray w (fun W x _ => empty_gives x W) (fun n os dk x _ => empty_gives x _) hH (by simp; omega) (by simpa using hc)
    have hf : ((l.map txt).toArray.toList.filter fun x => !decide (x = ⟨#[]⟩)) = (l.filter fun w => decide (w ≠ [])).map txt := by
      rw [List.filter_map]
      congr 1
      exact List.filter_congr fun x _ => txt_empty x
    rw [hf, List.length_map] at hcon
    have hs : (l.map txt).toArray.size = l.length := by simp
    rw [hs] at hcon
    refine hcon.mono ?_
    rintro e w' ⟨rfl, q, rfl⟩
    have hle : (l.filter fun w => decide (w ≠ [])).length ≤ l.length := List.length_filter_le _ _
    have ht := turn_strs ho ((l.filter fun w => decide (w ≠ [])).map txt ++ List.replicate (l.length - (l.filter fun w => decide (w ≠ [])).length) ByteArray.empty).toArray (by rw [List.size_toArray, List.length_append, List.length_map, List.length_replicate]; omega) (l.filter fun w => decide (w ≠ [])).length hle q
    rw [show ((l.filter fun w => decide (w ≠ [])).map txt ++ List.replicate (l.length - (l.filter fun w => decide (w ≠ [])).length) ByteArray.empty).toArray.toList.take (l.filter fun w => decide (w ≠ [])).length = (l.filter fun w => decide (w ≠ [])).map txt by simp [List.take_append]] at ht
    exact ⟨rfl, ht.1, (by
      have := ht.2
      exact ⟨this.1, this.2, this.3, this.4, fun i hi hn => this.5 i hi (fun e => hn (by rw [e]; rfl))⟩)⟩
end Go.Proofs.YtemcigoelcblbaaGreatDoor
/- words, texts joined, lists and steps compared, over pieces -/
namespace Go.Proofs.YtemcigoelcblbaaGreatDoor
open Go.RowKit
abbrev rowI (A : Option Addr) (c : Nat) (l : List Int) : Chunk := row A l.length c 3 1 (ints l)
abbrev rdI (A : Option Addr) (l : List Int) : Chunk := rd A l.length 1 (ints l)
theorem elem_str : Elem Tryz.prog 54 9 1 16 := elem_of (by kernel_rfl)
theorem one_strs (l : List (List UInt8)) : ∀ u ∈ txts l, u.oneCell' = true := strs_one _
theorem elem_int : Elem Tryz.prog 29 3 1 8 := elem_of (by kernel_rfl)

theorem one_ints (xs : List Int) : ∀ u ∈ ints xs, u.oneCell' = true := fun u hu => by
  simp only [ints, List.mem_map] at hu
  obtain ⟨x, _, rfl⟩ := hu
  rfl
theorem take_eq_step {α : Type} {xs ys : List α} {k : Nat} {u v : α} (h : xs.take k = ys.take k) (hu : xs[k]? = some u) (hv : ys[k]? = some v) (e : u = v) : xs.take (k + 1) = ys.take (k + 1) := by
  rw [List.take_add_one, List.take_add_one, h, hu, hv, e]
theorem get_of_lt {α : Type} {xs : List α} {k : Nat} (h : k < xs.length) : ∃ u, xs[k]? = some u := ⟨xs[k], List.getElem?_eq_getElem h⟩

theorem ints_sl (A D : Option Addr) (c d : Nat) (xs ys : List Int) (hn : xs.length ≤ 17592186044415) :
    Fn Tryz.prog 18 #[.slice A xs.length c, .slice D ys.length d] [rd A xs.length 1 (ints xs), rd D ys.length 1 (ints ys)] Unit (fun _ => .bool (decide (xs = ys))) (fun _ => []) (fun _ => True) := by
  refine Fn.enter Tryz.func18 rfl Tryz.ntmps18 (by rfl) ?_
  intro w0
  refine Cd.seq ?_
  refine Cd.region ?_
  refine Ls.ev (some 4) (Ev.assign (show Oper.op _ = Op.assign (Operand.const (Value.bool false)) from rfl) (by rfl)) (by rfl) (by rfl) ?_
  refine Ls.nil ?_
  refine Cd.seq ?_
  refine Cd.seq ?_
  refine Cd.region ?_
  refine Ls.ev (some 6) (Ev.move (show Oper.op _ = Op.move (Operand.tmp 0) from rfl) (by rfl)) (by rfl) (by rfl) ?_
  refine Ls.ev (some 7) (Ev.len (show Oper.op _ = Op.call { callee := Callee.builtin Builtin.len, args := #[Operand.tmp 6], argTypes := #[29] } from rfl) (by rfl) Tryz.underlying29) (by rfl) (by rfl) ?_
  refine Ls.ev (some 8) (Ev.move (show Oper.op _ = Op.move (Operand.tmp 1) from rfl) (by rfl)) (by rfl) (by rfl) ?_
  refine Ls.ev (some 9) (Ev.len (show Oper.op _ = Op.call { callee := Callee.builtin Builtin.len, args := #[Operand.tmp 8], argTypes := #[29] } from rfl) (by rfl) Tryz.underlying29) (by rfl) (by rfl) ?_
  refine Ls.ev (some 10) (Ev.neq (show Oper.op _ = Op.binOp BinOp.neq 3 (Operand.tmp 7) (Operand.tmp 9) 3 from rfl) (by rfl) (by rfl)) (by rfl) (by rfl) ?_
  refine Ls.nil ?_
  refine Cd.cond _ (by rfl) (fun h => ?_) (fun h => ?_)
  · skip
    have h : (xs.length : Int) ≠ ys.length := of_decide_eq_true h
    have hne : xs ≠ ys := fun e => h (by rw [e])
    refine Cd.seq ?_
    refine Cd.region ?_
    refine Ls.ev (some 4) (Ev.assign (show Oper.op _ = Op.assign (Operand.const (Value.bool false)) from rfl) (by rfl)) (by rfl) (by rfl) ?_
    refine Ls.nil ?_
    refine Cd.ret ?_
    refine Ent.ret (()) (trivial) (Res.tmp (by rfl) (by rfl)) ?_ [] (by rfl) ?_
    · rw [decide_eq_false hne]
    · rfl
  · skip
    have h : (xs.length : Int) = ys.length := by simpa using of_decide_eq_false h
    have hl : ys.length = xs.length := by omega
    refine Cd.skip ?_
    refine Cd.seq ?_
    refine Cd.seq ?_
    refine Cd.region ?_
    refine Ls.ev (some 11) (Ev.move (show Oper.op _ = Op.move (Operand.tmp 0) from rfl) (by rfl)) (by rfl) (by rfl) ?_
    refine Ls.ev (some 12) (Ev.len (show Oper.op _ = Op.call { callee := Callee.builtin Builtin.len, args := #[Operand.tmp 11], argTypes := #[29] } from rfl) (by rfl) Tryz.underlying29) (by rfl) (by rfl) ?_
    refine Ls.ev (some 13) (Ev.move (show Oper.op _ = Op.move (Operand.const (Value.int IntKind.i64 0)) from rfl) (by rfl)) (by rfl) (by rfl) ?_
    refine Ls.nil ?_
    refine Cd.block ?_
    refine Cd.loop (ι := Nat) (fun k => [(0, .slice A xs.length c), (1, .slice D ys.length d), (12, .int .i64 xs.length), (13, .int .i64 k)]) (fun _ => [rd A xs.length 1 (ints xs), rd D ys.length 1 (ints ys)]) (fun k => k ≤ xs.length ∧ xs.take k = ys.take k) (fun k => xs.length - k) (0) (⟨Nat.zero_le _, rfl⟩) ?_ rfl ?_
    · (repeat (first | exact trivial | refine ⟨by rfl, ?_⟩))
    intro k ⟨hk, htk⟩
    refine Cd.seq ?_
    refine Cd.region ?_
    refine Ls.ev (some 14) (Ev.lss (show Oper.op _ = Op.binOp BinOp.lss 3 (Operand.tmp 13) (Operand.tmp 12) 3 from rfl) (by rfl) (by rfl)) (by rfl) (by rfl) ?_
    refine Ls.nil ?_
    refine Cd.seq ?_
    refine Cd.cond _ (by rfl) (fun h => ?_) (fun h => ?_)
    · skip
      have hlt : k < xs.length := by have := of_decide_eq_true h; omega
      obtain ⟨u, hu⟩ := get_of_lt hlt
      obtain ⟨v, hv⟩ := get_of_lt (show k < ys.length by omega)
      refine Ent.rdSome 0 (by rfl) (by omega) (fun ax hax => ?_)
      refine Ent.rdSome 1 (by rfl) (by omega) (fun ay hay => ?_)
      subst hax hay
      refine Cd.skip ?_
      refine Cd.seq ?_
      refine Cd.block ?_
      refine Cd.seq ?_
      refine Cd.region ?_
      refine Ls.ev (some 15) (Ev.move (show Oper.op _ = Op.move (Operand.tmp 13) from rfl) (by rfl)) (by rfl) (by rfl) ?_
      refine Ls.ev (some 5) (Ev.assign (show Oper.op _ = Op.assign (Operand.tmp 15) from rfl) (by rfl)) (by rfl) (by rfl) ?_
      refine Ls.nil ?_
      refine Cd.seq ?_
      refine Cd.draw [] (by kernel_rfl) ?_
      refine Rg.ev 0 (by rfl) (fun _ h => h) (Ev.move (show Oper.op _ = Op.move (Operand.tmp 0) from rfl) (by rfl)) (by rfl) (some 16) (by rfl) (by kernel_rfl) (by kernel_rfl) (by kernel_rfl) (by kernel_rfl) ?_
      refine Rg.ev 1 (by rfl) (fun _ h => h) (Ev.move (show Oper.op _ = Op.move (Operand.tmp 5) from rfl) (by rfl)) (by rfl) (some 17) (by rfl) (by kernel_rfl) (by kernel_rfl) (by kernel_rfl) (by kernel_rfl) ?_
      refine Rg.ev 2 (by rfl) (fun _ h => h) (Ev.indexAt (sz := 1) (show Oper.op _ = Op.indexAddr 29 (Operand.tmp 16) (Operand.tmp 17) from rfl) (by rfl) (by rfl) Tryz.underlying29 (by kernel_rfl) (by omega)) (by rfl) (some 18) (by rfl) (by kernel_rfl) (by kernel_rfl) (by kernel_rfl) (by kernel_rfl) ?_
      refine Rg.ev 3 (by rfl) (fun _ h => h) (Ev.loadInt (show Oper.op _ = Op.load 3 (Operand.tmp 18) from rfl) (by rfl) (ReadsIn.rd 0 (by rfl)) (by kernel_rfl) (by assumption)) (by rfl) (some 19) (by rfl) (by kernel_rfl) (by kernel_rfl) (by kernel_rfl) (by kernel_rfl) ?_
      refine Rg.ev 4 (by rfl) (fun _ h => h) (Ev.move (show Oper.op _ = Op.move (Operand.tmp 1) from rfl) (by rfl)) (by rfl) (some 20) (by rfl) (by kernel_rfl) (by kernel_rfl) (by kernel_rfl) (by kernel_rfl) ?_
      refine Rg.ev 5 (by rfl) (fun _ h => h) (Ev.move (show Oper.op _ = Op.move (Operand.tmp 5) from rfl) (by rfl)) (by rfl) (some 21) (by rfl) (by kernel_rfl) (by kernel_rfl) (by kernel_rfl) (by kernel_rfl) ?_
      refine Rg.ev 6 (by rfl) (fun _ h => h) (Ev.indexAt (sz := 1) (show Oper.op _ = Op.indexAddr 29 (Operand.tmp 20) (Operand.tmp 21) from rfl) (by rfl) (by rfl) Tryz.underlying29 (by kernel_rfl) (by omega)) (by rfl) (some 22) (by rfl) (by kernel_rfl) (by kernel_rfl) (by kernel_rfl) (by kernel_rfl) ?_
      refine Rg.ev 7 (by rfl) (fun _ h => h) (Ev.loadInt (show Oper.op _ = Op.load 3 (Operand.tmp 22) from rfl) (by rfl) (ReadsIn.rd 1 (by rfl)) (by kernel_rfl) (by assumption)) (by rfl) (some 23) (by rfl) (by kernel_rfl) (by kernel_rfl) (by kernel_rfl) (by kernel_rfl) ?_
      refine Rg.ev 8 (by rfl) (fun _ h => h) (Ev.neq (show Oper.op _ = Op.binOp BinOp.neq 3 (Operand.tmp 19) (Operand.tmp 23) 3 from rfl) (by rfl) (by rfl)) (by rfl) (some 24) (by rfl) (by kernel_rfl) (by kernel_rfl) (by kernel_rfl) (by kernel_rfl) ?_
      refine Rg.done (by kernel_rfl) ?_ _
      refine Cd.cond _ (by rfl) (fun h => ?_) (fun h => ?_)
      · skip
        have huv : u ≠ v := of_decide_eq_true h
        have hne : xs ≠ ys := fun e => huv (by subst e; rw [hu] at hv; exact Option.some.inj hv)
        refine Cd.seq ?_
        refine Cd.region ?_
        refine Ls.ev (some 4) (Ev.assign (show Oper.op _ = Op.assign (Operand.const (Value.bool false)) from rfl) (by rfl)) (by rfl) (by rfl) ?_
        refine Ls.nil ?_
        refine Cd.ret ?_
        refine Ent.ret (()) (trivial) (Res.tmp (by rfl) (by rfl)) ?_ [] (by rfl) ?_
        · rw [decide_eq_false hne]
        · rfl
      · skip
        have huv : u = v := by simpa using of_decide_eq_false h
        refine Cd.skip ?_
        refine Cd.region ?_
        refine Ls.ev (some 25) (Ev.addI (show Oper.op _ = Op.binOp BinOp.add 3 (Operand.tmp 13) (Operand.const (Value.int IntKind.i64 1)) 3 from rfl) (by rfl) (by rfl) (by omega)) (by rfl) (by rfl) ?_
        refine Ls.ev (some 13) (Ev.move (show Oper.op _ = Op.move (Operand.tmp 25) from rfl) (by rfl)) (by rfl) (by rfl) ?_
        refine Ls.nil ?_
        refine Ent.inv (k + 1) ?_ ?_ ?_
        · (try dsimp only); exact ⟨⟨by omega, take_eq_step htk hu hv huv⟩, by omega⟩
        · (repeat (first | exact trivial | refine ⟨by rfl, ?_⟩ | refine ⟨by simp only [List.length_append, List.length_cons, List.length_nil]; rfl, ?_⟩ | refine ⟨by push_cast; rfl, ?_⟩))
        · rfl
    · skip
      have hlt : ¬ k < xs.length := by have := of_decide_eq_false h; omega
      have he : xs = ys := by rwa [List.take_of_length_le (by omega), List.take_of_length_le (by omega)] at htk
      refine Cd.exit ?_
      refine Cd.seq ?_
      refine Cd.region ?_
      refine Ls.ev (some 4) (Ev.assign (show Oper.op _ = Op.assign (Operand.const (Value.bool true)) from rfl) (by rfl)) (by rfl) (by rfl) ?_
      refine Ls.nil ?_
      refine Cd.ret ?_
      refine Ent.ret (()) (trivial) (Res.tmp (by rfl) (by rfl)) ?_ [] (by rfl) ?_
      · rw [decide_eq_true he]
      · rfl
theorem equalI_sl (A D : Option Addr) (c d : Nat) (xs ys : List Int) (hn : xs.length ≤ 17592186044415) :
    Fn Tryz.prog 49 #[.slice A xs.length c, .slice D ys.length d] [rd A xs.length 1 (ints xs), rd D ys.length 1 (ints ys)] Unit (fun _ => .bool (decide (xs = ys))) (fun _ => []) (fun _ => True) := by
  refine Fn.enter Tryz.func49 rfl Tryz.ntmps49 (by rfl) ?_
  intro w0
  refine Cd.seq ?_
  refine Cd.region ?_
  refine Ls.ev (some 4) (Ev.assign (show Oper.op _ = Op.assign (Operand.const (Value.bool false)) from rfl) (by rfl)) (by rfl) (by rfl) ?_
  refine Ls.nil ?_
  refine Cd.seq ?_
  refine Cd.seq ?_
  refine Cd.region ?_
  refine Ls.ev (some 6) (Ev.move (show Oper.op _ = Op.move (Operand.tmp 0) from rfl) (by rfl)) (by rfl) (by rfl) ?_
  refine Ls.ev (some 7) (Ev.len (show Oper.op _ = Op.call { callee := Callee.builtin Builtin.len, args := #[Operand.tmp 6], argTypes := #[29] } from rfl) (by rfl) Tryz.underlying29) (by rfl) (by rfl) ?_
  refine Ls.ev (some 8) (Ev.move (show Oper.op _ = Op.move (Operand.tmp 1) from rfl) (by rfl)) (by rfl) (by rfl) ?_
  refine Ls.ev (some 9) (Ev.len (show Oper.op _ = Op.call { callee := Callee.builtin Builtin.len, args := #[Operand.tmp 8], argTypes := #[29] } from rfl) (by rfl) Tryz.underlying29) (by rfl) (by rfl) ?_
  refine Ls.ev (some 10) (Ev.neq (show Oper.op _ = Op.binOp BinOp.neq 3 (Operand.tmp 7) (Operand.tmp 9) 3 from rfl) (by rfl) (by rfl)) (by rfl) (by rfl) ?_
  refine Ls.nil ?_
  refine Cd.cond _ (by rfl) (fun h => ?_) (fun h => ?_)
  · skip
    have h : (xs.length : Int) ≠ ys.length := of_decide_eq_true h
    have hne : xs ≠ ys := fun e => h (by rw [e])
    refine Cd.seq ?_
    refine Cd.region ?_
    refine Ls.ev (some 4) (Ev.assign (show Oper.op _ = Op.assign (Operand.const (Value.bool false)) from rfl) (by rfl)) (by rfl) (by rfl) ?_
    refine Ls.nil ?_
    refine Cd.ret ?_
    refine Ent.ret (()) (trivial) (Res.tmp (by rfl) (by rfl)) ?_ [] (by rfl) ?_
    · rw [decide_eq_false hne]
    · rfl
  · skip
    have h : (xs.length : Int) = ys.length := by simpa using of_decide_eq_false h
    have hl : ys.length = xs.length := by omega
    refine Cd.skip ?_
    refine Cd.seq ?_
    refine Cd.seq ?_
    refine Cd.region ?_
    refine Ls.ev (some 11) (Ev.move (show Oper.op _ = Op.move (Operand.tmp 0) from rfl) (by rfl)) (by rfl) (by rfl) ?_
    refine Ls.ev (some 12) (Ev.len (show Oper.op _ = Op.call { callee := Callee.builtin Builtin.len, args := #[Operand.tmp 11], argTypes := #[29] } from rfl) (by rfl) Tryz.underlying29) (by rfl) (by rfl) ?_
    refine Ls.ev (some 13) (Ev.move (show Oper.op _ = Op.move (Operand.const (Value.int IntKind.i64 0)) from rfl) (by rfl)) (by rfl) (by rfl) ?_
    refine Ls.nil ?_
    refine Cd.block ?_
    refine Cd.loop (ι := Nat) (fun k => [(0, .slice A xs.length c), (1, .slice D ys.length d), (12, .int .i64 xs.length), (13, .int .i64 k)]) (fun _ => [rd A xs.length 1 (ints xs), rd D ys.length 1 (ints ys)]) (fun k => k ≤ xs.length ∧ xs.take k = ys.take k) (fun k => xs.length - k) (0) (⟨Nat.zero_le _, rfl⟩) ?_ rfl ?_
    · (repeat (first | exact trivial | refine ⟨by rfl, ?_⟩))
    intro k ⟨hk, htk⟩
    refine Cd.seq ?_
    refine Cd.region ?_
    refine Ls.ev (some 14) (Ev.lss (show Oper.op _ = Op.binOp BinOp.lss 3 (Operand.tmp 13) (Operand.tmp 12) 3 from rfl) (by rfl) (by rfl)) (by rfl) (by rfl) ?_
    refine Ls.nil ?_
    refine Cd.seq ?_
    refine Cd.cond _ (by rfl) (fun h => ?_) (fun h => ?_)
    · skip
      have hlt : k < xs.length := by have := of_decide_eq_true h; omega
      obtain ⟨u, hu⟩ := get_of_lt hlt
      obtain ⟨v, hv⟩ := get_of_lt (show k < ys.length by omega)
      refine Ent.rdSome 0 (by rfl) (by omega) (fun ax hax => ?_)
      refine Ent.rdSome 1 (by rfl) (by omega) (fun ay hay => ?_)
      subst hax hay
      refine Cd.skip ?_
      refine Cd.seq ?_
      refine Cd.block ?_
      refine Cd.seq ?_
      refine Cd.region ?_
      refine Ls.ev (some 15) (Ev.move (show Oper.op _ = Op.move (Operand.tmp 13) from rfl) (by rfl)) (by rfl) (by rfl) ?_
      refine Ls.ev (some 5) (Ev.assign (show Oper.op _ = Op.assign (Operand.tmp 15) from rfl) (by rfl)) (by rfl) (by rfl) ?_
      refine Ls.nil ?_
      refine Cd.seq ?_
      refine Cd.draw [] (by kernel_rfl) ?_
      refine Rg.ev 0 (by rfl) (fun _ h => h) (Ev.move (show Oper.op _ = Op.move (Operand.tmp 0) from rfl) (by rfl)) (by rfl) (some 16) (by rfl) (by kernel_rfl) (by kernel_rfl) (by kernel_rfl) (by kernel_rfl) ?_
      refine Rg.ev 1 (by rfl) (fun _ h => h) (Ev.move (show Oper.op _ = Op.move (Operand.tmp 5) from rfl) (by rfl)) (by rfl) (some 17) (by rfl) (by kernel_rfl) (by kernel_rfl) (by kernel_rfl) (by kernel_rfl) ?_
      refine Rg.ev 2 (by rfl) (fun _ h => h) (Ev.indexAt (sz := 1) (show Oper.op _ = Op.indexAddr 29 (Operand.tmp 16) (Operand.tmp 17) from rfl) (by rfl) (by rfl) Tryz.underlying29 (by kernel_rfl) (by omega)) (by rfl) (some 18) (by rfl) (by kernel_rfl) (by kernel_rfl) (by kernel_rfl) (by kernel_rfl) ?_
      refine Rg.ev 3 (by rfl) (fun _ h => h) (Ev.loadInt (show Oper.op _ = Op.load 3 (Operand.tmp 18) from rfl) (by rfl) (ReadsIn.rd 0 (by rfl)) (by kernel_rfl) (by assumption)) (by rfl) (some 19) (by rfl) (by kernel_rfl) (by kernel_rfl) (by kernel_rfl) (by kernel_rfl) ?_
      refine Rg.ev 4 (by rfl) (fun _ h => h) (Ev.move (show Oper.op _ = Op.move (Operand.tmp 1) from rfl) (by rfl)) (by rfl) (some 20) (by rfl) (by kernel_rfl) (by kernel_rfl) (by kernel_rfl) (by kernel_rfl) ?_
      refine Rg.ev 5 (by rfl) (fun _ h => h) (Ev.move (show Oper.op _ = Op.move (Operand.tmp 5) from rfl) (by rfl)) (by rfl) (some 21) (by rfl) (by kernel_rfl) (by kernel_rfl) (by kernel_rfl) (by kernel_rfl) ?_
      refine Rg.ev 6 (by rfl) (fun _ h => h) (Ev.indexAt (sz := 1) (show Oper.op _ = Op.indexAddr 29 (Operand.tmp 20) (Operand.tmp 21) from rfl) (by rfl) (by rfl) Tryz.underlying29 (by kernel_rfl) (by omega)) (by rfl) (some 22) (by rfl) (by kernel_rfl) (by kernel_rfl) (by kernel_rfl) (by kernel_rfl) ?_
      refine Rg.ev 7 (by rfl) (fun _ h => h) (Ev.loadInt (show Oper.op _ = Op.load 3 (Operand.tmp 22) from rfl) (by rfl) (ReadsIn.rd 1 (by rfl)) (by kernel_rfl) (by assumption)) (by rfl) (some 23) (by rfl) (by kernel_rfl) (by kernel_rfl) (by kernel_rfl) (by kernel_rfl) ?_
      refine Rg.ev 8 (by rfl) (fun _ h => h) (Ev.neq (show Oper.op _ = Op.binOp BinOp.neq 3 (Operand.tmp 19) (Operand.tmp 23) 3 from rfl) (by rfl) (by rfl)) (by rfl) (some 24) (by rfl) (by kernel_rfl) (by kernel_rfl) (by kernel_rfl) (by kernel_rfl) ?_
      refine Rg.done (by kernel_rfl) ?_ _
      refine Cd.cond _ (by rfl) (fun h => ?_) (fun h => ?_)
      · skip
        have huv : u ≠ v := of_decide_eq_true h
        have hne : xs ≠ ys := fun e => huv (by subst e; rw [hu] at hv; exact Option.some.inj hv)
        refine Cd.seq ?_
        refine Cd.region ?_
        refine Ls.ev (some 4) (Ev.assign (show Oper.op _ = Op.assign (Operand.const (Value.bool false)) from rfl) (by rfl)) (by rfl) (by rfl) ?_
        refine Ls.nil ?_
        refine Cd.ret ?_
        refine Ent.ret (()) (trivial) (Res.tmp (by rfl) (by rfl)) ?_ [] (by rfl) ?_
        · rw [decide_eq_false hne]
        · rfl
      · skip
        have huv : u = v := by simpa using of_decide_eq_false h
        refine Cd.skip ?_
        refine Cd.region ?_
        refine Ls.ev (some 25) (Ev.addI (show Oper.op _ = Op.binOp BinOp.add 3 (Operand.tmp 13) (Operand.const (Value.int IntKind.i64 1)) 3 from rfl) (by rfl) (by rfl) (by omega)) (by rfl) (by rfl) ?_
        refine Ls.ev (some 13) (Ev.move (show Oper.op _ = Op.move (Operand.tmp 25) from rfl) (by rfl)) (by rfl) (by rfl) ?_
        refine Ls.nil ?_
        refine Ent.inv (k + 1) ?_ ?_ ?_
        · (try dsimp only); exact ⟨⟨by omega, take_eq_step htk hu hv huv⟩, by omega⟩
        · (repeat (first | exact trivial | refine ⟨by rfl, ?_⟩ | refine ⟨by simp only [List.length_append, List.length_cons, List.length_nil]; rfl, ?_⟩ | refine ⟨by push_cast; rfl, ?_⟩))
        · rfl
    · skip
      have hlt : ¬ k < xs.length := by have := of_decide_eq_false h; omega
      have he : xs = ys := by rwa [List.take_of_length_le (by omega), List.take_of_length_le (by omega)] at htk
      refine Cd.exit ?_
      refine Cd.seq ?_
      refine Cd.region ?_
      refine Ls.ev (some 4) (Ev.assign (show Oper.op _ = Op.assign (Operand.const (Value.bool true)) from rfl) (by rfl)) (by rfl) (by rfl) ?_
      refine Ls.nil ?_
      refine Cd.ret ?_
      refine Ent.ret (()) (trivial) (Res.tmp (by rfl) (by rfl)) ?_ [] (by rfl) ?_
      · rw [decide_eq_true he]
      · rfl

theorem sameRoute_sl (s1 s2 : Int) (A D : Option Addr) (c d : Nat) (xs ys : List Int) (hn : xs.length ≤ 17592186044415) :
    Fn Tryz.prog 32 #[.agg #[.int .i64 s1, .slice A xs.length c], .agg #[.int .i64 s2, .slice D ys.length d]] [rd A xs.length 1 (ints xs), rd D ys.length 1 (ints ys)] Unit (fun _ => .bool (decide (s1 = s2 ∧ xs = ys))) (fun _ => []) (fun _ => True) := by
  refine Fn.enter Tryz.func32 rfl Tryz.ntmps32 (by rfl) ?_
  intro w0
  refine Cd.seq ?_
  refine Cd.region ?_
  refine Ls.does (some 2) (Does.box (show Oper.op _ = Op.box 37 (Operand.tmp 0) from rfl) (by rfl)) (by rfl) (by rfl) ?_
  intro g1 _
  refine Ls.does (some 3) (Does.box (show Oper.op _ = Op.box 37 (Operand.tmp 1) from rfl) (by rfl)) (by rfl) (by rfl) ?_
  intro g2 _
  refine Ls.ev (some 4) (Ev.assign (show Oper.op _ = Op.assign (Operand.const (Value.bool false)) from rfl) (by rfl)) (by rfl) (by rfl) ?_
  refine Ls.nil ?_
  refine Cd.seq ?_
  refine Cd.region ?_
  refine Ls.ev (some 5) (Ev.fieldAddr (k := 0) (show Oper.op _ = Op.fieldAddr 37 (Operand.tmp 2) 0 from rfl) (by rfl) (by kernel_rfl) (by rfl)) (by rfl) (by rfl) ?_
  refine Ls.ev (some 6) (Ev.load 1 (show Oper.op _ = Op.load 3 (Operand.tmp 5) from rfl) (by rfl) (by rfl) (by kernel_rfl) (by rfl)) (by rfl) (by rfl) ?_
  refine Ls.ev (some 7) (Ev.fieldAddr (k := 0) (show Oper.op _ = Op.fieldAddr 37 (Operand.tmp 3) 0 from rfl) (by rfl) (by kernel_rfl) (by rfl)) (by rfl) (by rfl) ?_
  refine Ls.ev (some 8) (Ev.load 0 (show Oper.op _ = Op.load 3 (Operand.tmp 7) from rfl) (by rfl) (by rfl) (by kernel_rfl) (by rfl)) (by rfl) (by rfl) ?_
  refine Ls.ev (some 9) (Ev.eql (show Oper.op _ = Op.binOp BinOp.eql 3 (Operand.tmp 6) (Operand.tmp 8) 3 from rfl) (by rfl) (by rfl)) (by rfl) (by rfl) ?_
  refine Ls.ev (some 10) (Ev.move (show Oper.op _ = Op.move (Operand.tmp 9) from rfl) (by rfl)) (by rfl) (by rfl) ?_
  refine Ent.split 10 (by rfl) (fun h => ?_) (fun h => ?_)
  · skip
    refine Ls.pass (some 11) (by rfl) (by rfl) ?_
    refine Ls.pass (some 12) (by rfl) (by rfl) ?_
    refine Ls.pass (some 13) (by rfl) (by rfl) ?_
    refine Ls.pass (some 14) (by rfl) (by rfl) ?_
    refine Ls.pass (some 15) (by rfl) (by rfl) ?_
    refine Ls.ev (some 16) (Ev.pickF (show Oper.op _ = Op.pick (Operand.tmp 10) (Operand.tmp 15) (Operand.const (Value.bool false)) from rfl) (by rfl) (by rfl)) (by rfl) (by rfl) ?_
    refine Ls.ev (some 4) (Ev.assign (show Oper.op _ = Op.assign (Operand.tmp 16) from rfl) (by rfl)) (by rfl) (by rfl) ?_
    refine Ls.nil ?_
    refine Cd.ret ?_
    refine Ent.ret (()) (trivial) (Res.tmp (by rfl) (by rfl)) ?_ [] (by rfl) ?_
    · rw [decide_eq_false (fun e => (of_decide_eq_false h) e.1)]
    · rfl
  skip
  refine Ls.ev (some 11) (Ev.fieldAddr (k := 1) (show Oper.op _ = Op.fieldAddr 37 (Operand.tmp 2) 1 from rfl) (by rfl) (by kernel_rfl) (by rfl)) (by rfl) (by rfl) ?_
  refine Ls.ev (some 12) (Ev.load 1 (show Oper.op _ = Op.load 29 (Operand.tmp 11) from rfl) (by rfl) (by rfl) (by kernel_rfl) (by rfl)) (by rfl) (by rfl) ?_
  refine Ls.ev (some 13) (Ev.fieldAddr (k := 1) (show Oper.op _ = Op.fieldAddr 37 (Operand.tmp 3) 1 from rfl) (by rfl) (by kernel_rfl) (by rfl)) (by rfl) (by rfl) ?_
  refine Ls.ev (some 14) (Ev.load 0 (show Oper.op _ = Op.load 29 (Operand.tmp 13) from rfl) (by rfl) (by rfl) (by kernel_rfl) (by rfl)) (by rfl) (by rfl) ?_
  refine Ls.does (some 15) (Does.call [2, 3] (show Oper.op _ = Op.call { callee := Callee.value (Operand.func 18), args := #[Operand.tmp 12, Operand.tmp 14], argTypes := #[29, 29] } from rfl) Tryz.func18 (by kernel_rfl) (by kernel_rfl) (ints_sl A D c d xs ys hn) (by rfl) (by rfl) (by rfl)) (by rfl) (by rfl) ?_
  intro _ _
  refine Ls.ev (some 16) (Ev.pickT (show Oper.op _ = Op.pick (Operand.tmp 10) (Operand.tmp 15) (Operand.const (Value.bool false)) from rfl) (by rfl) (by rfl)) (by rfl) (by rfl) ?_
  refine Ls.ev (some 4) (Ev.assign (show Oper.op _ = Op.assign (Operand.tmp 16) from rfl) (by rfl)) (by rfl) (by rfl) ?_
  refine Ls.nil ?_
  refine Cd.ret ?_
  refine Ent.ret (()) (trivial) (Res.tmp (by rfl) (by rfl)) ?_ [] (by rfl) ?_
  · simp [of_decide_eq_true h]
  · rfl
theorem sameCall_sl (v1 v2 e1 e2 s1 s2 : Int) (A D : Option Addr) (c d : Nat) (xs ys : List Int) (hn : xs.length ≤ 17592186044415) :
    Fn Tryz.prog 19 #[.agg #[.int .i64 v1, .int .i64 e1, .int .i64 s1, .slice A xs.length c], .agg #[.int .i64 v2, .int .i64 e2, .int .i64 s2, .slice D ys.length d]] [rd A xs.length 1 (ints xs), rd D ys.length 1 (ints ys)] Unit (fun _ => .bool (decide (v1 = v2 ∧ e1 = e2 ∧ s1 = s2 ∧ xs = ys))) (fun _ => []) (fun _ => True) := by
  refine Fn.enter Tryz.func19 rfl Tryz.ntmps19 (by rfl) ?_
  intro w0
  refine Cd.seq ?_
  refine Cd.region ?_
  refine Ls.does (some 2) (Does.box (show Oper.op _ = Op.box 39 (Operand.tmp 0) from rfl) (by rfl)) (by rfl) (by rfl) ?_
  intro g1 _
  refine Ls.does (some 3) (Does.box (show Oper.op _ = Op.box 39 (Operand.tmp 1) from rfl) (by rfl)) (by rfl) (by rfl) ?_
  intro g2 _
  refine Ls.ev (some 4) (Ev.assign (show Oper.op _ = Op.assign (Operand.const (Value.bool false)) from rfl) (by rfl)) (by rfl) (by rfl) ?_
  refine Ls.nil ?_
  refine Cd.seq ?_
  refine Cd.region ?_
  refine Ls.ev (some 5) (Ev.fieldAddr (k := 0) (show Oper.op _ = Op.fieldAddr 39 (Operand.tmp 2) 0 from rfl) (by rfl) (by kernel_rfl) (by rfl)) (by rfl) (by rfl) ?_
  refine Ls.ev (some 6) (Ev.load 1 (show Oper.op _ = Op.load 35 (Operand.tmp 5) from rfl) (by rfl) (by rfl) (by kernel_rfl) (by rfl)) (by rfl) (by rfl) ?_
  refine Ls.ev (some 7) (Ev.fieldAddr (k := 0) (show Oper.op _ = Op.fieldAddr 39 (Operand.tmp 3) 0 from rfl) (by rfl) (by kernel_rfl) (by rfl)) (by rfl) (by rfl) ?_
  refine Ls.ev (some 8) (Ev.load 0 (show Oper.op _ = Op.load 35 (Operand.tmp 7) from rfl) (by rfl) (by rfl) (by kernel_rfl) (by rfl)) (by rfl) (by rfl) ?_
  refine Ls.ev (some 9) (Ev.eql (show Oper.op _ = Op.binOp BinOp.eql 35 (Operand.tmp 6) (Operand.tmp 8) 35 from rfl) (by rfl) (by rfl)) (by rfl) (by rfl) ?_
  refine Ls.ev (some 10) (Ev.move (show Oper.op _ = Op.move (Operand.tmp 9) from rfl) (by rfl)) (by rfl) (by rfl) ?_
  refine Ent.split 10 (by rfl) (fun h => ?_) (fun h => ?_)
  · skip
    refine Ls.pass (some 11) (by rfl) (by rfl) ?_
    refine Ls.pass (some 12) (by rfl) (by rfl) ?_
    refine Ls.pass (some 13) (by rfl) (by rfl) ?_
    refine Ls.pass (some 14) (by rfl) (by rfl) ?_
    refine Ls.pass (some 15) (by rfl) (by rfl) ?_
    refine Ls.ev (some 16) (Ev.pickF (show Oper.op _ = Op.pick (Operand.tmp 10) (Operand.tmp 15) (Operand.const (Value.bool false)) from rfl) (by rfl) (by rfl)) (by rfl) (by rfl) ?_
    refine Ls.ev (some 17) (Ev.move (show Oper.op _ = Op.move (Operand.tmp 16) from rfl) (by rfl)) (by rfl) (by rfl) ?_
    refine Ls.pass (some 18) (by rfl) (by rfl) ?_
    refine Ls.pass (some 19) (by rfl) (by rfl) ?_
    refine Ls.pass (some 20) (by rfl) (by rfl) ?_
    refine Ls.pass (some 21) (by rfl) (by rfl) ?_
    refine Ls.pass (some 22) (by rfl) (by rfl) ?_
    refine Ls.ev (some 23) (Ev.pickF (show Oper.op _ = Op.pick (Operand.tmp 17) (Operand.tmp 22) (Operand.const (Value.bool false)) from rfl) (by rfl) (by rfl)) (by rfl) (by rfl) ?_
    refine Ls.ev (some 4) (Ev.assign (show Oper.op _ = Op.assign (Operand.tmp 23) from rfl) (by rfl)) (by rfl) (by rfl) ?_
    refine Ls.nil ?_
    refine Cd.ret ?_
    refine Ent.ret (()) (trivial) (Res.tmp (by rfl) (by rfl)) ?_ [] (by rfl) ?_
    · rw [decide_eq_false (fun e => (of_decide_eq_false h) e.1)]
    · rfl
  skip
  refine Ls.ev (some 11) (Ev.fieldAddr (k := 1) (show Oper.op _ = Op.fieldAddr 39 (Operand.tmp 2) 1 from rfl) (by rfl) (by kernel_rfl) (by rfl)) (by rfl) (by rfl) ?_
  refine Ls.ev (some 12) (Ev.load 1 (show Oper.op _ = Op.load 3 (Operand.tmp 11) from rfl) (by rfl) (by rfl) (by kernel_rfl) (by rfl)) (by rfl) (by rfl) ?_
  refine Ls.ev (some 13) (Ev.fieldAddr (k := 1) (show Oper.op _ = Op.fieldAddr 39 (Operand.tmp 3) 1 from rfl) (by rfl) (by kernel_rfl) (by rfl)) (by rfl) (by rfl) ?_
  refine Ls.ev (some 14) (Ev.load 0 (show Oper.op _ = Op.load 3 (Operand.tmp 13) from rfl) (by rfl) (by rfl) (by kernel_rfl) (by rfl)) (by rfl) (by rfl) ?_
  refine Ls.ev (some 15) (Ev.eql (show Oper.op _ = Op.binOp BinOp.eql 3 (Operand.tmp 12) (Operand.tmp 14) 3 from rfl) (by rfl) (by rfl)) (by rfl) (by rfl) ?_
  refine Ls.ev (some 16) (Ev.pickT (show Oper.op _ = Op.pick (Operand.tmp 10) (Operand.tmp 15) (Operand.const (Value.bool false)) from rfl) (by rfl) (by rfl)) (by rfl) (by rfl) ?_
  refine Ls.ev (some 17) (Ev.move (show Oper.op _ = Op.move (Operand.tmp 16) from rfl) (by rfl)) (by rfl) (by rfl) ?_
  refine Ent.split 17 (by rfl) (fun h2 => ?_) (fun h2 => ?_)
  · skip
    refine Ls.pass (some 18) (by rfl) (by rfl) ?_
    refine Ls.pass (some 19) (by rfl) (by rfl) ?_
    refine Ls.pass (some 20) (by rfl) (by rfl) ?_
    refine Ls.pass (some 21) (by rfl) (by rfl) ?_
    refine Ls.pass (some 22) (by rfl) (by rfl) ?_
    refine Ls.ev (some 23) (Ev.pickF (show Oper.op _ = Op.pick (Operand.tmp 17) (Operand.tmp 22) (Operand.const (Value.bool false)) from rfl) (by rfl) (by rfl)) (by rfl) (by rfl) ?_
    refine Ls.ev (some 4) (Ev.assign (show Oper.op _ = Op.assign (Operand.tmp 23) from rfl) (by rfl)) (by rfl) (by rfl) ?_
    refine Ls.nil ?_
    refine Cd.ret ?_
    refine Ent.ret (()) (trivial) (Res.tmp (by rfl) (by rfl)) ?_ [] (by rfl) ?_
    · rw [decide_eq_false (fun e => (of_decide_eq_false h2) e.2.1)]
    · rfl
  skip
  refine Ls.ev (some 18) (Ev.fieldAddr (k := 2) (show Oper.op _ = Op.fieldAddr 39 (Operand.tmp 2) 2 from rfl) (by rfl) (by kernel_rfl) (by rfl)) (by rfl) (by rfl) ?_
  refine Ls.ev (some 19) (Ev.loads 1 (show Oper.op _ = Op.load 37 (Operand.tmp 18) from rfl) (by rfl) (by rfl) (n := 2) (by kernel_rfl) (by rfl) (by rfl)) (by rfl) (by rfl) ?_
  refine Ls.ev (some 20) (Ev.fieldAddr (k := 2) (show Oper.op _ = Op.fieldAddr 39 (Operand.tmp 3) 2 from rfl) (by rfl) (by kernel_rfl) (by rfl)) (by rfl) (by rfl) ?_
  refine Ls.ev (some 21) (Ev.loads 0 (show Oper.op _ = Op.load 37 (Operand.tmp 20) from rfl) (by rfl) (by rfl) (n := 2) (by kernel_rfl) (by rfl) (by rfl)) (by rfl) (by rfl) ?_
  refine Ls.does (some 22) (Does.call [2, 3] (show Oper.op _ = Op.call { callee := Callee.value (Operand.func 32), args := #[Operand.tmp 19, Operand.tmp 21], argTypes := #[37, 37] } from rfl) Tryz.func32 (by kernel_rfl) (by kernel_rfl) (sameRoute_sl s1 s2 A D c d xs ys hn) (by rfl) (by rfl) (by rfl)) (by rfl) (by rfl) ?_
  intro _ _
  refine Ls.ev (some 23) (Ev.pickT (show Oper.op _ = Op.pick (Operand.tmp 17) (Operand.tmp 22) (Operand.const (Value.bool false)) from rfl) (by rfl) (by rfl)) (by rfl) (by rfl) ?_
  refine Ls.ev (some 4) (Ev.assign (show Oper.op _ = Op.assign (Operand.tmp 23) from rfl) (by rfl)) (by rfl) (by rfl) ?_
  refine Ls.nil ?_
  refine Cd.ret ?_
  refine Ent.ret (()) (trivial) (Res.tmp (by rfl) (by rfl)) ?_ [] (by rfl) ?_
  · simp [of_decide_eq_true h, of_decide_eq_true h2]
  · rfl
theorem words_sl (t : List UInt8) (ht : t.length ≤ 1048576) : Fn Tryz.prog 23 #[.string (txt t)] [laidC] (Nat × Nat) (fun p => .slice (some ⟨p.1, 0, none⟩) (wordsP t).length p.2) (fun p => [row (some ⟨p.1, 0, none⟩) (wordsP t).length p.2 9 1 (txts (wordsP t))]) (fun _ => True) := by
  refine Fn.enter Tryz.func23 rfl Tryz.ntmps23 (by rfl) ?_
  intro w0
  refine Cd.seq ?_
  refine Cd.region ?_
  refine Ls.ev (some 2) (Ev.assign (show Oper.op _ = Op.assign (Operand.const (Value.slice none 0 0)) from rfl) (by rfl)) (by rfl) (by rfl) ?_
  refine Ls.nil ?_
  refine Cd.seq ?_
  refine Cd.region ?_
  refine Ls.ev (some 3) (Ev.move (show Oper.op _ = Op.move (Operand.tmp 0) from rfl) (by rfl)) (by rfl) (by rfl) ?_
  refine Ls.does (some 4) (Does.call [0] (show Oper.op _ = Op.call { callee := Callee.value (Operand.func 14), args := #[Operand.tmp 3, Operand.const (Value.string { data := #[32] })], argTypes := #[9, 9] } from rfl) Tryz.func14 (by kernel_rfl) (by kernel_rfl) (split_sl 32 t ht) (by rfl) (by rfl) (by rfl)) (by rfl) (by rfl) ?_
  rintro g -
  skip
  refine Ls.does (some 5) (Does.call [0] (show Oper.op _ = Op.call { callee := Callee.value (Operand.func 50), args := #[Operand.tmp 4, Operand.func 51], argTypes := #[54, 48] } from rfl) Tryz.func50 (by kernel_rfl) (by kernel_rfl) (del_sl g (splitP 32 t).length (splitP 32 t) (by have := (splitP_len 32 t).1; omega)) (by rfl) (by rfl) (by rfl)) (by rfl) (by rfl) ?_
  rintro _ -
  refine Ls.ev (some 2) (Ev.assign (show Oper.op _ = Op.assign (Operand.tmp 5) from rfl) (by rfl)) (by rfl) (by rfl) ?_
  refine Ls.nil ?_
  refine Cd.ret ?_
  refine Ent.ret ((g, (splitP 32 t).length)) (trivial) (Res.tmp (by rfl) (by rfl)) ?_ [0] (by rfl) ?_
  · rfl
  · rfl
theorem join_sl (c : UInt8) (g n : Nat) (l : List (List UInt8)) (hn : l.length ≤ n) (hl : l.length ≤ 140737488355328) (hj : (Lib.join l [c]).length ≤ 140737488355328) : Fn Tryz.prog 21 #[.slice (some ⟨g, 0, none⟩) l.length n, .string (txt [c])] [rd (some ⟨g, 0, none⟩) l.length 1 (txts l)] Unit (fun _ => .string (txt (Lib.join l [c]))) (fun _ => []) (fun _ => True) :=
  Fn.of_below fun w hs => by
    have hr := sat_rd 0 rfl hs
    have hd : (l.map txt).map (fun b => b.data.toList) = l := by rw [List.map_map]; exact List.map_id _
    have hd2 : (txt [c]).data.toList = [c] := rfl
    cases l with
    | nil =>
      refine (Tryz.strings_Join_none _ n (txt [c]) w).mono ?_
      rintro e w' ⟨rfl, rfl⟩
      exact ⟨rfl, Below.refl _ _⟩
    | cons x r =>
      obtain ⟨ad, had, hb, hc⟩ := hr.2 (Nat.succ_pos _)
      obtain rfl := Option.some.inj had
      have h := Tryz.strings_Join g 0 n ((x :: r).map txt) (txt [c]) w (fun j y hy => by
        have := hc j (.string y) (by rw [strs_get, hy]; rfl)
        rcases Nat.eq_zero_or_pos j with rfl | hj0
        · simpa [Addr.add] using this
        · simpa [Addr.add, Nat.pos_iff_ne_zero.1 hj0] using this) hb (by simpa using hl) (by simpa using hn) (by rw [hd, hd2]; exact hj)
      rw [hd, hd2, List.length_map] at h
      exact h
end Go.Proofs.YtemcigoelcblbaaGreatDoor
/- steps as they lie; words that are numbers -/
namespace Go.Proofs.YtemcigoelcblbaaGreatDoor
open Go.RowKit
/-- A step as it lies. -/
structure StS where
  kind : Int
  a : Int
  b : Int
  c : Int
  ik : Int
  x : Int
  y : Int
  verb : Int
  ep : Int
  st : Int
  C : Option Addr
  cc : Nat
  cells : List Int
  K : Option Addr
  kc : Nat
  keeps : List Int
  deriving Inhabited
def StS.enc (z : StS) : List Value := [.int .i64 z.kind, .int .i64 z.a, .int .i64 z.b, .int .i64 z.c, .int .i64 z.ik, .int .i64 z.x, .int .i64 z.y, .int .i64 z.verb, .int .i64 z.ep, .int .i64 z.st, .slice z.C z.cells.length z.cc, .slice z.K z.keeps.length z.kc]
def StS.p (z : StS) : StP := ⟨z.kind, z.a, z.b, z.c, z.ik, z.x, z.y, z.verb, z.ep, z.st, z.cells, z.keeps⟩
abbrev StS.wC (z : StS) : Chunk := rowI z.C z.cc z.cells
abbrev StS.wK (z : StS) : Chunk := rowI z.K z.kc z.keeps
abbrev StS.rC (z : StS) : Chunk := rdI z.C z.cells
abbrev StS.rK (z : StS) : Chunk := rdI z.K z.keeps
def noStS : StS := ⟨0, 0, 0, 0, 0, 0, 0, 0, 0, 0, none, 0, [], none, 0, []⟩
def Wk.off : Wk → Nat
  | .a => 1
  | .b => 2
  | .c => 3
  | .x => 5
  | .y => 6
  | .e => 8
  | .s => 9
  | .r => 10
  | .k => 11
/-- The function that finds a word's place. -/
def Wk.at : Wk → Nat
  | .a => 34
  | .b => 35
  | .c => 36
  | .x => 37
  | .y => 38
  | .e => 39
  | .s => 40
  | .r => 42
  | .k => 43
theorem at_a (g : Nat) : Fn Tryz.prog 34 #[.pointer (some ⟨g, 0, none⟩)] [] Unit (fun _ => .pointer (some ⟨g, 1, none⟩)) (fun _ => []) (fun _ => True) := by
  refine Fn.enter Tryz.func34 rfl Tryz.ntmps34 (by rfl) ?_
  intro w0
  refine Cd.seq ?_
  refine Cd.region ?_
  refine Ls.ev (some 2) (Ev.assign (show Oper.op _ = Op.assign (Operand.const (Value.pointer none)) from rfl) (by rfl)) (by rfl) (by rfl) ?_
  refine Ls.nil ?_
  refine Cd.seq ?_
  refine Cd.region ?_
  refine Ls.ev (some 3) (Ev.move (show Oper.op _ = Op.move (Operand.tmp 0) from rfl) (by rfl)) (by rfl) (by rfl) ?_
  refine Ls.ev (some 4) (Ev.nilCheck (show Oper.op _ = Op.nilCheck (Operand.tmp 3) from rfl) (by rfl)) (by rfl) (by rfl) ?_
  refine Ls.ev (some 5) (Ev.fieldAddr (k := 1) (show Oper.op _ = Op.fieldAddr 47 (Operand.tmp 4) 1 from rfl) (by rfl) (by kernel_rfl) (by rfl)) (by rfl) (by rfl) ?_
  refine Ls.ev (some 2) (Ev.assign (show Oper.op _ = Op.assign (Operand.tmp 5) from rfl) (by rfl)) (by rfl) (by rfl) ?_
  refine Ls.nil ?_
  refine Cd.ret ?_
  refine Ent.ret (()) (trivial) (Res.tmp (by rfl) (by rfl)) ?_ [] (by rfl) ?_
  · rfl
  · rfl
theorem at_b (g : Nat) : Fn Tryz.prog 35 #[.pointer (some ⟨g, 0, none⟩)] [] Unit (fun _ => .pointer (some ⟨g, 2, none⟩)) (fun _ => []) (fun _ => True) := by
  refine Fn.enter Tryz.func35 rfl Tryz.ntmps35 (by rfl) ?_
  intro w0
  refine Cd.seq ?_
  refine Cd.region ?_
  refine Ls.ev (some 2) (Ev.assign (show Oper.op _ = Op.assign (Operand.const (Value.pointer none)) from rfl) (by rfl)) (by rfl) (by rfl) ?_
  refine Ls.nil ?_
  refine Cd.seq ?_
  refine Cd.region ?_
  refine Ls.ev (some 3) (Ev.move (show Oper.op _ = Op.move (Operand.tmp 0) from rfl) (by rfl)) (by rfl) (by rfl) ?_
  refine Ls.ev (some 4) (Ev.nilCheck (show Oper.op _ = Op.nilCheck (Operand.tmp 3) from rfl) (by rfl)) (by rfl) (by rfl) ?_
  refine Ls.ev (some 5) (Ev.fieldAddr (k := 2) (show Oper.op _ = Op.fieldAddr 47 (Operand.tmp 4) 2 from rfl) (by rfl) (by kernel_rfl) (by rfl)) (by rfl) (by rfl) ?_
  refine Ls.ev (some 2) (Ev.assign (show Oper.op _ = Op.assign (Operand.tmp 5) from rfl) (by rfl)) (by rfl) (by rfl) ?_
  refine Ls.nil ?_
  refine Cd.ret ?_
  refine Ent.ret (()) (trivial) (Res.tmp (by rfl) (by rfl)) ?_ [] (by rfl) ?_
  · rfl
  · rfl
theorem at_c (g : Nat) : Fn Tryz.prog 36 #[.pointer (some ⟨g, 0, none⟩)] [] Unit (fun _ => .pointer (some ⟨g, 3, none⟩)) (fun _ => []) (fun _ => True) := by
  refine Fn.enter Tryz.func36 rfl Tryz.ntmps36 (by rfl) ?_
  intro w0
  refine Cd.seq ?_
  refine Cd.region ?_
  refine Ls.ev (some 2) (Ev.assign (show Oper.op _ = Op.assign (Operand.const (Value.pointer none)) from rfl) (by rfl)) (by rfl) (by rfl) ?_
  refine Ls.nil ?_
  refine Cd.seq ?_
  refine Cd.region ?_
  refine Ls.ev (some 3) (Ev.move (show Oper.op _ = Op.move (Operand.tmp 0) from rfl) (by rfl)) (by rfl) (by rfl) ?_
  refine Ls.ev (some 4) (Ev.nilCheck (show Oper.op _ = Op.nilCheck (Operand.tmp 3) from rfl) (by rfl)) (by rfl) (by rfl) ?_
  refine Ls.ev (some 5) (Ev.fieldAddr (k := 3) (show Oper.op _ = Op.fieldAddr 47 (Operand.tmp 4) 3 from rfl) (by rfl) (by kernel_rfl) (by rfl)) (by rfl) (by rfl) ?_
  refine Ls.ev (some 2) (Ev.assign (show Oper.op _ = Op.assign (Operand.tmp 5) from rfl) (by rfl)) (by rfl) (by rfl) ?_
  refine Ls.nil ?_
  refine Cd.ret ?_
  refine Ent.ret (()) (trivial) (Res.tmp (by rfl) (by rfl)) ?_ [] (by rfl) ?_
  · rfl
  · rfl
theorem at_x (g : Nat) : Fn Tryz.prog 37 #[.pointer (some ⟨g, 0, none⟩)] [] Unit (fun _ => .pointer (some ⟨g, 5, none⟩)) (fun _ => []) (fun _ => True) := by
  refine Fn.enter Tryz.func37 rfl Tryz.ntmps37 (by rfl) ?_
  intro w0
  refine Cd.seq ?_
  refine Cd.region ?_
  refine Ls.ev (some 2) (Ev.assign (show Oper.op _ = Op.assign (Operand.const (Value.pointer none)) from rfl) (by rfl)) (by rfl) (by rfl) ?_
  refine Ls.nil ?_
  refine Cd.seq ?_
  refine Cd.region ?_
  refine Ls.ev (some 3) (Ev.move (show Oper.op _ = Op.move (Operand.tmp 0) from rfl) (by rfl)) (by rfl) (by rfl) ?_
  refine Ls.ev (some 4) (Ev.nilCheck (show Oper.op _ = Op.nilCheck (Operand.tmp 3) from rfl) (by rfl)) (by rfl) (by rfl) ?_
  refine Ls.ev (some 5) (Ev.fieldAddr (k := 4) (show Oper.op _ = Op.fieldAddr 47 (Operand.tmp 4) 4 from rfl) (by rfl) (by kernel_rfl) (by rfl)) (by rfl) (by rfl) ?_
  refine Ls.ev (some 6) (Ev.fieldAddr (k := 1) (show Oper.op _ = Op.fieldAddr 41 (Operand.tmp 5) 1 from rfl) (by rfl) (by kernel_rfl) (by rfl)) (by rfl) (by rfl) ?_
  refine Ls.ev (some 2) (Ev.assign (show Oper.op _ = Op.assign (Operand.tmp 6) from rfl) (by rfl)) (by rfl) (by rfl) ?_
  refine Ls.nil ?_
  refine Cd.ret ?_
  refine Ent.ret (()) (trivial) (Res.tmp (by rfl) (by rfl)) ?_ [] (by rfl) ?_
  · rfl
  · rfl
theorem at_y (g : Nat) : Fn Tryz.prog 38 #[.pointer (some ⟨g, 0, none⟩)] [] Unit (fun _ => .pointer (some ⟨g, 6, none⟩)) (fun _ => []) (fun _ => True) := by
  refine Fn.enter Tryz.func38 rfl Tryz.ntmps38 (by rfl) ?_
  intro w0
  refine Cd.seq ?_
  refine Cd.region ?_
  refine Ls.ev (some 2) (Ev.assign (show Oper.op _ = Op.assign (Operand.const (Value.pointer none)) from rfl) (by rfl)) (by rfl) (by rfl) ?_
  refine Ls.nil ?_
  refine Cd.seq ?_
  refine Cd.region ?_
  refine Ls.ev (some 3) (Ev.move (show Oper.op _ = Op.move (Operand.tmp 0) from rfl) (by rfl)) (by rfl) (by rfl) ?_
  refine Ls.ev (some 4) (Ev.nilCheck (show Oper.op _ = Op.nilCheck (Operand.tmp 3) from rfl) (by rfl)) (by rfl) (by rfl) ?_
  refine Ls.ev (some 5) (Ev.fieldAddr (k := 4) (show Oper.op _ = Op.fieldAddr 47 (Operand.tmp 4) 4 from rfl) (by rfl) (by kernel_rfl) (by rfl)) (by rfl) (by rfl) ?_
  refine Ls.ev (some 6) (Ev.fieldAddr (k := 2) (show Oper.op _ = Op.fieldAddr 41 (Operand.tmp 5) 2 from rfl) (by rfl) (by kernel_rfl) (by rfl)) (by rfl) (by rfl) ?_
  refine Ls.ev (some 2) (Ev.assign (show Oper.op _ = Op.assign (Operand.tmp 6) from rfl) (by rfl)) (by rfl) (by rfl) ?_
  refine Ls.nil ?_
  refine Cd.ret ?_
  refine Ent.ret (()) (trivial) (Res.tmp (by rfl) (by rfl)) ?_ [] (by rfl) ?_
  · rfl
  · rfl
theorem at_e (g : Nat) : Fn Tryz.prog 39 #[.pointer (some ⟨g, 0, none⟩)] [] Unit (fun _ => .pointer (some ⟨g, 8, none⟩)) (fun _ => []) (fun _ => True) := by
  refine Fn.enter Tryz.func39 rfl Tryz.ntmps39 (by rfl) ?_
  intro w0
  refine Cd.seq ?_
  refine Cd.region ?_
  refine Ls.ev (some 2) (Ev.assign (show Oper.op _ = Op.assign (Operand.const (Value.pointer none)) from rfl) (by rfl)) (by rfl) (by rfl) ?_
  refine Ls.nil ?_
  refine Cd.seq ?_
  refine Cd.region ?_
  refine Ls.ev (some 3) (Ev.move (show Oper.op _ = Op.move (Operand.tmp 0) from rfl) (by rfl)) (by rfl) (by rfl) ?_
  refine Ls.ev (some 4) (Ev.nilCheck (show Oper.op _ = Op.nilCheck (Operand.tmp 3) from rfl) (by rfl)) (by rfl) (by rfl) ?_
  refine Ls.ev (some 5) (Ev.fieldAddr (k := 4) (show Oper.op _ = Op.fieldAddr 47 (Operand.tmp 4) 4 from rfl) (by rfl) (by kernel_rfl) (by rfl)) (by rfl) (by rfl) ?_
  refine Ls.ev (some 6) (Ev.fieldAddr (k := 3) (show Oper.op _ = Op.fieldAddr 41 (Operand.tmp 5) 3 from rfl) (by rfl) (by kernel_rfl) (by rfl)) (by rfl) (by rfl) ?_
  refine Ls.ev (some 7) (Ev.fieldAddr (k := 1) (show Oper.op _ = Op.fieldAddr 39 (Operand.tmp 6) 1 from rfl) (by rfl) (by kernel_rfl) (by rfl)) (by rfl) (by rfl) ?_
  refine Ls.ev (some 2) (Ev.assign (show Oper.op _ = Op.assign (Operand.tmp 7) from rfl) (by rfl)) (by rfl) (by rfl) ?_
  refine Ls.nil ?_
  refine Cd.ret ?_
  refine Ent.ret (()) (trivial) (Res.tmp (by rfl) (by rfl)) ?_ [] (by rfl) ?_
  · rfl
  · rfl
theorem at_s (g : Nat) : Fn Tryz.prog 40 #[.pointer (some ⟨g, 0, none⟩)] [] Unit (fun _ => .pointer (some ⟨g, 9, none⟩)) (fun _ => []) (fun _ => True) := by
  refine Fn.enter Tryz.func40 rfl Tryz.ntmps40 (by rfl) ?_
  intro w0
  refine Cd.seq ?_
  refine Cd.region ?_
  refine Ls.ev (some 2) (Ev.assign (show Oper.op _ = Op.assign (Operand.const (Value.pointer none)) from rfl) (by rfl)) (by rfl) (by rfl) ?_
  refine Ls.nil ?_
  refine Cd.seq ?_
  refine Cd.region ?_
  refine Ls.ev (some 3) (Ev.move (show Oper.op _ = Op.move (Operand.tmp 0) from rfl) (by rfl)) (by rfl) (by rfl) ?_
  refine Ls.ev (some 4) (Ev.nilCheck (show Oper.op _ = Op.nilCheck (Operand.tmp 3) from rfl) (by rfl)) (by rfl) (by rfl) ?_
  refine Ls.ev (some 5) (Ev.fieldAddr (k := 4) (show Oper.op _ = Op.fieldAddr 47 (Operand.tmp 4) 4 from rfl) (by rfl) (by kernel_rfl) (by rfl)) (by rfl) (by rfl) ?_
  refine Ls.ev (some 6) (Ev.fieldAddr (k := 3) (show Oper.op _ = Op.fieldAddr 41 (Operand.tmp 5) 3 from rfl) (by rfl) (by kernel_rfl) (by rfl)) (by rfl) (by rfl) ?_
  refine Ls.ev (some 7) (Ev.fieldAddr (k := 2) (show Oper.op _ = Op.fieldAddr 39 (Operand.tmp 6) 2 from rfl) (by rfl) (by kernel_rfl) (by rfl)) (by rfl) (by rfl) ?_
  refine Ls.ev (some 8) (Ev.fieldAddr (k := 0) (show Oper.op _ = Op.fieldAddr 37 (Operand.tmp 7) 0 from rfl) (by rfl) (by kernel_rfl) (by rfl)) (by rfl) (by rfl) ?_
  refine Ls.ev (some 2) (Ev.assign (show Oper.op _ = Op.assign (Operand.tmp 8) from rfl) (by rfl)) (by rfl) (by rfl) ?_
  refine Ls.nil ?_
  refine Cd.ret ?_
  refine Ent.ret (()) (trivial) (Res.tmp (by rfl) (by rfl)) ?_ [] (by rfl) ?_
  · rfl
  · rfl
theorem at_r (g : Nat) : Fn Tryz.prog 42 #[.pointer (some ⟨g, 0, none⟩)] [] Unit (fun _ => .pointer (some ⟨g, 10, none⟩)) (fun _ => []) (fun _ => True) := by
  refine Fn.enter Tryz.func42 rfl Tryz.ntmps42 (by rfl) ?_
  intro w0
  refine Cd.seq ?_
  refine Cd.region ?_
  refine Ls.ev (some 2) (Ev.assign (show Oper.op _ = Op.assign (Operand.const (Value.pointer none)) from rfl) (by rfl)) (by rfl) (by rfl) ?_
  refine Ls.nil ?_
  refine Cd.seq ?_
  refine Cd.region ?_
  refine Ls.ev (some 3) (Ev.move (show Oper.op _ = Op.move (Operand.tmp 0) from rfl) (by rfl)) (by rfl) (by rfl) ?_
  refine Ls.ev (some 4) (Ev.nilCheck (show Oper.op _ = Op.nilCheck (Operand.tmp 3) from rfl) (by rfl)) (by rfl) (by rfl) ?_
  refine Ls.ev (some 5) (Ev.fieldAddr (k := 4) (show Oper.op _ = Op.fieldAddr 47 (Operand.tmp 4) 4 from rfl) (by rfl) (by kernel_rfl) (by rfl)) (by rfl) (by rfl) ?_
  refine Ls.ev (some 6) (Ev.fieldAddr (k := 3) (show Oper.op _ = Op.fieldAddr 41 (Operand.tmp 5) 3 from rfl) (by rfl) (by kernel_rfl) (by rfl)) (by rfl) (by rfl) ?_
  refine Ls.ev (some 7) (Ev.fieldAddr (k := 2) (show Oper.op _ = Op.fieldAddr 39 (Operand.tmp 6) 2 from rfl) (by rfl) (by kernel_rfl) (by rfl)) (by rfl) (by rfl) ?_
  refine Ls.ev (some 8) (Ev.fieldAddr (k := 1) (show Oper.op _ = Op.fieldAddr 37 (Operand.tmp 7) 1 from rfl) (by rfl) (by kernel_rfl) (by rfl)) (by rfl) (by rfl) ?_
  refine Ls.ev (some 2) (Ev.assign (show Oper.op _ = Op.assign (Operand.tmp 8) from rfl) (by rfl)) (by rfl) (by rfl) ?_
  refine Ls.nil ?_
  refine Cd.ret ?_
  refine Ent.ret (()) (trivial) (Res.tmp (by rfl) (by rfl)) ?_ [] (by rfl) ?_
  · rfl
  · rfl
theorem at_k (g : Nat) : Fn Tryz.prog 43 #[.pointer (some ⟨g, 0, none⟩)] [] Unit (fun _ => .pointer (some ⟨g, 11, none⟩)) (fun _ => []) (fun _ => True) := by
  refine Fn.enter Tryz.func43 rfl Tryz.ntmps43 (by rfl) ?_
  intro w0
  refine Cd.seq ?_
  refine Cd.region ?_
  refine Ls.ev (some 2) (Ev.assign (show Oper.op _ = Op.assign (Operand.const (Value.pointer none)) from rfl) (by rfl)) (by rfl) (by rfl) ?_
  refine Ls.nil ?_
  refine Cd.seq ?_
  refine Cd.region ?_
  refine Ls.ev (some 3) (Ev.move (show Oper.op _ = Op.move (Operand.tmp 0) from rfl) (by rfl)) (by rfl) (by rfl) ?_
  refine Ls.ev (some 4) (Ev.nilCheck (show Oper.op _ = Op.nilCheck (Operand.tmp 3) from rfl) (by rfl)) (by rfl) (by rfl) ?_
  refine Ls.ev (some 5) (Ev.fieldAddr (k := 4) (show Oper.op _ = Op.fieldAddr 47 (Operand.tmp 4) 4 from rfl) (by rfl) (by kernel_rfl) (by rfl)) (by rfl) (by rfl) ?_
  refine Ls.ev (some 6) (Ev.fieldAddr (k := 7) (show Oper.op _ = Op.fieldAddr 41 (Operand.tmp 5) 4 from rfl) (by rfl) (by kernel_rfl) (by rfl)) (by rfl) (by rfl) ?_
  refine Ls.ev (some 2) (Ev.assign (show Oper.op _ = Op.assign (Operand.tmp 6) from rfl) (by rfl)) (by rfl) (by rfl) ?_
  refine Ls.nil ?_
  refine Cd.ret ?_
  refine Ent.ret (()) (trivial) (Res.tmp (by rfl) (by rfl)) ?_ [] (by rfl) ?_
  · rfl
  · rfl
abbrev Wk.val (κ : Wk) : Value := .func (.func κ.at) #[] #[]
theorem at_fnv (κ : Wk) (g : Nat) : FnV Tryz.prog κ.val [.pointer (some ⟨g, 0, none⟩)] [] Unit (fun _ => .pointer (some ⟨g, κ.off, none⟩)) (fun _ => []) (fun _ => True) := by
  cases κ
  · exact ⟨_, _, [], rfl, Tryz.func34, by kernel_rfl, by kernel_rfl, at_a g⟩
  · exact ⟨_, _, [], rfl, Tryz.func35, by kernel_rfl, by kernel_rfl, at_b g⟩
  · exact ⟨_, _, [], rfl, Tryz.func36, by kernel_rfl, by kernel_rfl, at_c g⟩
  · exact ⟨_, _, [], rfl, Tryz.func37, by kernel_rfl, by kernel_rfl, at_x g⟩
  · exact ⟨_, _, [], rfl, Tryz.func38, by kernel_rfl, by kernel_rfl, at_y g⟩
  · exact ⟨_, _, [], rfl, Tryz.func39, by kernel_rfl, by kernel_rfl, at_e g⟩
  · exact ⟨_, _, [], rfl, Tryz.func40, by kernel_rfl, by kernel_rfl, at_s g⟩
  · exact ⟨_, _, [], rfl, Tryz.func42, by kernel_rfl, by kernel_rfl, at_r g⟩
  · exact ⟨_, _, [], rfl, Tryz.func43, by kernel_rfl, by kernel_rfl, at_k g⟩
def StS.putN (z : StS) (n : Int) : Wk → StS
  | .a => { z with a := n }
  | .b => { z with b := n }
  | .c => { z with c := n }
  | .x => { z with x := n }
  | .y => { z with y := n }
  | .e => { z with ep := n }
  | .s => { z with st := n }
  | .r => z
  | .k => z
theorem StS.putN_p (z : StS) (n : Int) (κ : Wk) : (z.putN n κ).p = z.p.putN n κ := by cases κ <;> rfl
theorem StS.putN_w (z : StS) (n : Int) (κ : Wk) : (z.putN n κ).wC = z.wC ∧ (z.putN n κ).wK = z.wK := by cases κ <;> exact ⟨rfl, rfl⟩
theorem put_enc {κ : Wk} (h : κ.num = true) (z : StS) (n : Int) : setR z.enc κ.off (Value.int .i64 n).cells.toList = (z.putN n κ).enc := by cases κ <;> first | rfl | cases h
theorem off_lt (κ : Wk) (z : StS) (v : Value) (hv : v.cells.size = 1) : decide (κ.off + v.cells.size ≤ z.enc.length) = true := by
  rw [hv]
  cases κ <;> rfl
theorem get_enc {κ : Wk} (h : κ.num = true) (z : StS) : z.enc[κ.off]? = some (Value.int .i64 (z.p.getN κ)) := by cases κ <;> first | rfl | cases h
/-- What a number's word answers. -/
theorem numP_atoi {t : List UInt8} {p : Int × Value} (h : atoiR t p) : (p.2 = .nilIface ∧ numP t = (if Lib.itoa p.1 = t then some p.1 else none) ∧ in64 p.1) ∨ ((∃ te pe, p.2 = .iface te pe) ∧ numP t = none) := by
  unfold atoiR at h
  unfold numP
  cases he : Lib.atoiAll t with
  | ok v =>
    rw [he] at h
    obtain ⟨h1, h2⟩ := h
    left
    rw [h1]
    exact ⟨h2, rfl, Lib.atoiAll_bounds he⟩
  | _ =>
    rw [he] at h
    exact .inr ⟨h, rfl⟩
theorem txt_eq_iff {a b : List UInt8} : txt a = txt b ↔ a = b := ⟨fun h => by
  have := congrArg (fun s : ByteArray => s.data.toList) h
  simpa [txt] using this, fun h => by rw [h]⟩
theorem anyIn {Γ : Ctx} {H : List Chunk} {C : Chunk} (i : Nat) (hi : H[i]? = some C) : ∀ w, Sat Γ H w → C.holds w := fun _ hs => hs.mem hi
theorem num_read (κ : Wk) (hκ : κ.num = true) (g b : Nat) (z : StS) (t : List UInt8) (ht : t.length ≤ 1048576) : Fn Tryz.prog 60 #[.pointer (some ⟨g, 0, none⟩), .string (txt t), .pointer (some ⟨b, 0, none⟩)] [blk g 47 z.enc, rblk b 90 [κ.val], laidC] Int (fun _ => .bool (numP t).isSome) (fun n => [blk g 47 (z.putN n κ).enc]) (fun n => ∀ v, numP t = some v → v = n) := by
  refine Fn.enter Tryz.func60 rfl Tryz.ntmps60 (by rfl) ?_
  intro w0
  skip
  refine Cd.seq ?_
  refine Cd.region ?_
  refine Ls.ev (some 5) (Ev.assign (show Oper.op _ = Op.assign (Operand.const (Value.bool false)) from rfl) (by rfl)) (by rfl) (by rfl) ?_
  refine Ls.nil ?_
  refine Cd.seq ?_
  refine Cd.region ?_
  refine Ls.ev (some 9) (Ev.move (show Oper.op _ = Op.move (Operand.tmp 1) from rfl) (by rfl)) (by rfl) (by rfl) ?_
  refine Ls.does (some 10) (Does.read (show Oper.op _ = Op.call { callee := Callee.value (Operand.func 61), args := #[Operand.tmp 9], argTypes := #[9] } from rfl) Tryz.func61 (by kernel_rfl) (by kernel_rfl) (atoi_sl t ht) (by rfl) (by rfl) ⟨anyIn 2 (by rfl), trivial⟩) (by rfl) (by rfl) ?_
  rintro ⟨n, e⟩ hp
  refine Ls.ev (some 8) (Ev.move (show Oper.op _ = Op.move (Operand.tmp 10) from rfl) (by rfl)) (by rfl) (by rfl) ?_
  refine Ls.ev (some 11) (Ev.extract (show Oper.op _ = Op.extract (Operand.tmp 8) 0 from rfl) (by rfl) (by rfl)) (by rfl) (by rfl) ?_
  refine Ls.ev (some 12) (Ev.extract (show Oper.op _ = Op.extract (Operand.tmp 8) 1 from rfl) (by rfl) (by rfl)) (by rfl) (by rfl) ?_
  refine Ls.ev (some 6) (Ev.assign (show Oper.op _ = Op.assign (Operand.tmp 11) from rfl) (by rfl)) (by rfl) (by rfl) ?_
  refine Ls.ev (some 7) (Ev.assign (show Oper.op _ = Op.assign (Operand.tmp 12) from rfl) (by rfl)) (by rfl) (by rfl) ?_
  refine Ls.nil ?_
  refine Cd.seq ?_
  refine Cd.regionI ?_
  refine Li.ev (some 13) (Ev.loadB 1 (show Oper.op _ = Op.load 90 (Operand.tmp 2) from rfl) (by rfl) (by rfl) (by kernel_rfl) (by rfl)) (by rfl) (by rfl) ?_
  refine Li.ev (some 14) (Ev.move (show Oper.op _ = Op.move (Operand.tmp 0) from rfl) (by rfl)) (by rfl) (by rfl) ?_
  refine Li.does (some 15) (Does.readV (show Oper.op _ = Op.call { callee := Callee.value (Operand.tmp 13), args := #[Operand.tmp 14], argTypes := #[73] } from rfl) (by rfl) (at_fnv κ g) (by rfl) (by rfl) trivial) (by rfl) (by rfl) ?_
  rintro _ -
  refine Li.ev (some 16) (Ev.move (show Oper.op _ = Op.move (Operand.tmp 6) from rfl) (by rfl)) (by rfl) (by rfl) ?_
  refine Li.ev (some 17) (Ev.nilCheck (show Oper.op _ = Op.nilCheck (Operand.tmp 15) from rfl) (by rfl)) (by rfl) (by rfl) ?_
  refine Li.does none (Does.store 0 (show Oper.op _ = Op.store 3 (Operand.tmp 17) (Operand.tmp 16) from rfl) (by rfl) (by rfl) (by rfl) (by kernel_rfl) (by rfl) (off_lt κ z _ rfl) (put_enc hκ z n)) (by rfl) (by rfl) ?_
  rintro _ -
  refine Li.nil ?_
  refine Cd.seq ?_
  refine Cd.region ?_
  refine Ls.ev (some 18) (Ev.move (show Oper.op _ = Op.move (Operand.tmp 7) from rfl) (by rfl)) (by rfl) (by rfl) ?_
  rcases numP_atoi hp with ⟨he, hn, hb⟩ | ⟨⟨te, pe, he⟩, hn⟩
  · skip
    dsimp only at he hn hb
    subst he
    refine Ls.ev (some 19) (Ev.nilNil (show Oper.op _ = Op.binOp BinOp.eql 102 (Operand.tmp 18) (Operand.const Value.nilIface) 102 from rfl) (by rfl) (by kernel_rfl)) (by rfl) (by rfl) ?_
    refine Ls.ev (some 20) (Ev.move (show Oper.op _ = Op.move (Operand.tmp 19) from rfl) (by rfl)) (by rfl) (by rfl) ?_
    refine Ls.ev (some 21) (Ev.move (show Oper.op _ = Op.move (Operand.tmp 6) from rfl) (by rfl)) (by rfl) (by rfl) ?_
    refine Ls.does (some 22) (Does.read (show Oper.op _ = Op.call { callee := Callee.value (Operand.func 62), args := #[Operand.tmp 21], argTypes := #[3] } from rfl) Tryz.func62 (by kernel_rfl) (by kernel_rfl) (itoa_sl n hb) (by rfl) (by rfl) ⟨anyIn 2 (by rfl), trivial⟩) (by rfl) (by rfl) ?_
    rintro _ -
    refine Ls.ev (some 23) (Ev.move (show Oper.op _ = Op.move (Operand.tmp 1) from rfl) (by rfl)) (by rfl) (by rfl) ?_
    refine Ls.ev (some 24) (Ev.eqlS (show Oper.op _ = Op.binOp BinOp.eql 9 (Operand.tmp 22) (Operand.tmp 23) 9 from rfl) (by rfl) (by rfl)) (by rfl) (by rfl) ?_
    refine Ls.ev (some 25) (Ev.pickT (show Oper.op _ = Op.pick (Operand.tmp 20) (Operand.tmp 24) (Operand.const (Value.bool false)) from rfl) (by rfl) (by rfl)) (by rfl) (by rfl) ?_
    refine Ls.ev (some 5) (Ev.assign (show Oper.op _ = Op.assign (Operand.tmp 25) from rfl) (by rfl)) (by rfl) (by rfl) ?_
    refine Ls.nil ?_
    refine Cd.ret ?_
    refine Ent.ret (n) ((fun v hv => by rw [hn] at hv; split at hv <;> first | exact (Option.some.inj hv).symm | cases hv)) (Res.tmp (by rfl) (by rfl)) ?_ [0] (by rfl) ?_
    · rw [hn]
      by_cases hh : Lib.itoa n = t
      · rw [if_pos hh, decide_eq_true (congrArg txt hh)]
        rfl
      · rw [if_neg hh, decide_eq_false (fun e => hh (txt_eq_iff.1 e))]
        rfl
    · rfl
  · skip
    dsimp only at he hn
    subst he
    refine Ls.ev (some 19) (Ev.ifaceNil (show Oper.op _ = Op.binOp BinOp.eql 102 (Operand.tmp 18) (Operand.const Value.nilIface) 102 from rfl) (by rfl) (by rfl) (by kernel_rfl)) (by rfl) (by rfl) ?_
    refine Ls.ev (some 20) (Ev.move (show Oper.op _ = Op.move (Operand.tmp 19) from rfl) (by rfl)) (by rfl) (by rfl) ?_
    refine Ls.pass (some 21) (by rfl) (by rfl) ?_
    refine Ls.pass (some 22) (by rfl) (by rfl) ?_
    refine Ls.pass (some 23) (by rfl) (by rfl) ?_
    refine Ls.pass (some 24) (by rfl) (by rfl) ?_
    refine Ls.ev (some 25) (Ev.pickF (show Oper.op _ = Op.pick (Operand.tmp 20) (Operand.tmp 24) (Operand.const (Value.bool false)) from rfl) (by rfl) (by rfl)) (by rfl) (by rfl) ?_
    refine Ls.ev (some 5) (Ev.assign (show Oper.op _ = Op.assign (Operand.tmp 25) from rfl) (by rfl)) (by rfl) (by rfl) ?_
    refine Ls.nil ?_
    refine Cd.ret ?_
    refine Ent.ret (n) ((fun v hv => by rw [hn] at hv; cases hv)) (Res.tmp (by rfl) (by rfl)) ?_ [0] (by rfl) ?_
    · rw [hn]
      rfl
    · rfl
theorem num_write (κ : Wk) (hκ : κ.num = true) (b : Nat) (z : StS) (hz : in64 (z.p.getN κ)) : Fn Tryz.prog 63 #[.agg z.enc.toArray, .pointer (some ⟨b, 0, none⟩)] [rblk b 90 [κ.val], laidC] Unit (fun _ => .string (txt (Lib.itoa (z.p.getN κ)))) (fun _ => []) (fun _ => True) := by
  refine Fn.enter Tryz.func63 rfl Tryz.ntmps63 (by rfl) ?_
  intro w0
  skip
  refine Cd.seq ?_
  refine Cd.region ?_
  refine Ls.does (some 2) (Does.box (show Oper.op _ = Op.box 47 (Operand.tmp 0) from rfl) (by rfl)) (by rfl) (by rfl) ?_
  intro g1 _
  refine Ls.ev (some 3) (Ev.assign (show Oper.op _ = Op.assign (Operand.const (Value.string { data := #[] })) from rfl) (by rfl)) (by rfl) (by rfl) ?_
  refine Ls.nil ?_
  refine Cd.seq ?_
  refine Cd.regionI ?_
  refine Li.ev (some 4) (Ev.loadB 1 (show Oper.op _ = Op.load 90 (Operand.tmp 1) from rfl) (by rfl) (by rfl) (by kernel_rfl) (by rfl)) (by rfl) (by rfl) ?_
  refine Li.does (some 5) (Does.readV (show Oper.op _ = Op.call { callee := Callee.value (Operand.tmp 4), args := #[Operand.tmp 2], argTypes := #[73] } from rfl) (by rfl) (at_fnv κ g1) (by rfl) (by rfl) trivial) (by rfl) (by rfl) ?_
  rintro _ -
  refine Li.ev (some 6) (Ev.nilCheck (show Oper.op _ = Op.nilCheck (Operand.tmp 5) from rfl) (by rfl)) (by rfl) (by rfl) ?_
  refine Li.ev (some 7) (Ev.load 0 (show Oper.op _ = Op.load 3 (Operand.tmp 6) from rfl) (by rfl) (by rfl) (by kernel_rfl) (get_enc hκ z)) (by rfl) (by rfl) ?_
  skip
  refine Li.does (some 8) (Does.read (show Oper.op _ = Op.call { callee := Callee.value (Operand.func 62), args := #[Operand.tmp 7], argTypes := #[3] } from rfl) Tryz.func62 (by kernel_rfl) (by kernel_rfl) (itoa_sl (z.p.getN κ) hz) (by rfl) (by rfl) ⟨anyIn 2 (by rfl), trivial⟩) (by rfl) (by rfl) ?_
  rintro _ -
  refine Li.ev (some 3) (Ev.assign (show Oper.op _ = Op.assign (Operand.tmp 8) from rfl) (by rfl)) (by rfl) (by rfl) ?_
  refine Li.nil ?_
  refine Cd.ret ?_
  refine Ent.ret (()) (trivial) (Res.tmp (by rfl) (by rfl)) ?_ [] (by rfl) ?_
  · rfl
  · rfl
end Go.Proofs.YtemcigoelcblbaaGreatDoor
/- words that are lists -/
namespace Go.Proofs.YtemcigoelcblbaaGreatDoor
open Go.RowKit
def StS.putL (z : StS) (q : Option Addr × Nat) (l : List Int) : Wk → StS
  | .r => { z with C := q.1, cc := q.2, cells := l }
  | .k => { z with K := q.1, kc := q.2, keeps := l }
  | _ => z
theorem StS.putL_p (z : StS) (q : Option Addr × Nat) (l : List Int) (κ : Wk) : (z.putL q l κ).p = z.p.putL l κ := by cases κ <;> rfl
/-- No list yet. -/
def StS.nil (z : StS) (κ : Wk) : Prop := z.putL (none, 0) [] κ = z
def StS.gA (z : StS) : Wk → Option Addr × Nat
  | .r => (z.C, z.cc)
  | .k => (z.K, z.kc)
  | _ => (none, 0)
theorem get_list {κ : Wk} (h : κ.num = false) (z : StS) : z.enc[κ.off]? = some (.slice (z.gA κ).1 (z.p.getL κ).length (z.gA κ).2) := by cases κ <;> first | rfl | cases h
theorem put_list {κ : Wk} (h : κ.num = false) (z : StS) (q q' : Option Addr × Nat) (a a' : List Int) (n : Nat) (hn : n = a'.length) : setR (z.putL q a κ).enc κ.off (Value.slice q'.1 n q'.2).cells.toList = (z.putL q' a' κ).enc := by subst hn; cases κ <;> first | rfl | cases h
theorem get_listL {κ : Wk} (h : κ.num = false) (z : StS) (q : Option Addr × Nat) (a : List Int) : (z.putL q a κ).enc[κ.off]? = some (.slice q.1 a.length q.2) := by cases κ <;> first | rfl | cases h
theorem putL_get {κ : Wk} (h : κ.num = false) (z : StS) (q : Option Addr × Nat) (a : List Int) : ((z.putL q a κ).gA κ) = q ∧ ((z.putL q a κ).p.getL κ) = a := by cases κ <;> first | exact ⟨rfl, rfl⟩ | cases h
theorem nums_step {l : List (List UInt8)} {k : Nat} {w : List UInt8} (h : l[k]? = some w) : numsP (l.drop k) = (numP w).bind fun n => (numsP (l.drop (k + 1))).map (n :: ·) := by
  obtain ⟨hk, rfl⟩ := List.getElem?_eq_some_iff.1 h
  rw [List.drop_eq_getElem_cons hk]
  rfl
theorem row_add (A : Option Addr) (c : Nat) (a : List Int) (n : Int) : rowI A c (a ++ [n]) = row A (a.length + 1) c 3 1 (ints a ++ ints [n]) := by
  show row _ _ _ _ _ _ = _
  rw [List.length_append, show ints (a ++ [n]) = ints a ++ ints [n] from List.map_append]
  rfl
theorem num_ne {n : Int} {w : List UInt8} (h : numP w = if Lib.itoa n = w then some n else none) : decide (txt (Lib.itoa n) ≠ txt w) = decide (numP w ≠ some n) := by
  rw [h]
  refine decide_eq_decide.2 ?_
  rw [ne_eq, txt_eq_iff]
  by_cases hh : Lib.itoa n = w <;> simp [hh]
theorem list_read (κ : Wk) (hκ : κ.num = false) (g b : Nat) (z : StS) (hz : z.nil κ) (t : List UInt8) (ht : t.length ≤ 1048576) : Fn Tryz.prog 64 #[.pointer (some ⟨g, 0, none⟩), .string (txt t), .pointer (some ⟨b, 0, none⟩)] [blk g 47 z.enc, rblk b 93 [κ.val], laidC] ((Option Addr × Nat) × List Int) (fun _ => .bool (listP t).isSome) (fun p => [blk g 47 (z.putL p.1 p.2 κ).enc, rowI p.1.1 p.1.2 p.2]) (fun p => ∀ v, listP t = some v → v = p.2) := by
  have hls := splitP_len 44 t
  refine Fn.enter Tryz.func64 rfl Tryz.ntmps64 (by rfl) ?_
  intro w0
  skip
  refine Ent.nil 3 1 ?_
  refine Cd.seq ?_
  refine Cd.region ?_
  refine Ls.ev (some 5) (Ev.assign (show Oper.op _ = Op.assign (Operand.const (Value.bool false)) from rfl) (by rfl)) (by rfl) (by rfl) ?_
  refine Ls.nil ?_
  refine Cd.seq ?_
  refine Cd.seq ?_
  refine Cd.region ?_
  refine Ls.ev (some 10) (Ev.move (show Oper.op _ = Op.move (Operand.tmp 1) from rfl) (by rfl)) (by rfl) (by rfl) ?_
  refine Ls.ev (some 11) (Ev.eqlS (show Oper.op _ = Op.binOp BinOp.eql 9 (Operand.tmp 10) (Operand.const (Value.string { data := #[45] })) 9 from rfl) (by rfl) (by rfl)) (by rfl) (by rfl) ?_
  refine Ls.nil ?_
  refine Cd.cond _ (by rfl) (fun h1 => ?_) (fun h1 => ?_)
  · skip
    have h1 : t = [45] := txt_eq_iff.1 (of_decide_eq_true h1)
    have hl : listP t = some [] := by unfold listP; rw [if_pos h1]
    refine Cd.seq ?_
    refine Cd.region ?_
    refine Ls.ev (some 5) (Ev.assign (show Oper.op _ = Op.assign (Operand.const (Value.bool true)) from rfl) (by rfl)) (by rfl) (by rfl) ?_
    refine Ls.nil ?_
    refine Cd.ret ?_
    refine Ent.ret (((none, 0), [])) ((fun v hv => by rw [hl] at hv; exact (Option.some.inj hv).symm)) (Res.tmp (by rfl) (by rfl)) ?_ [1, 0] (by rfl) ?_
    · rw [hl]
      rfl
    · show [blk g _ _, _] = [blk g _ _, _]
      rw [show z.putL (none, 0) [] κ = z from hz]
      rfl
  skip
  have h1 : t ≠ [45] := fun e => (of_decide_eq_false h1) (congrArg txt e)
  have hl : listP t = numsP (splitP 44 t) := by unfold listP; rw [if_neg h1]
  refine Cd.skip ?_
  refine Cd.seq ?_
  refine Cd.seq ?_
  refine Cd.region ?_
  refine Ls.ev (some 12) (Ev.move (show Oper.op _ = Op.move (Operand.tmp 1) from rfl) (by rfl)) (by rfl) (by rfl) ?_
  refine Ls.does (some 13) (Does.call [3, 0, 1, 2, 3] (show Oper.op _ = Op.call { callee := Callee.value (Operand.func 14), args := #[Operand.tmp 12, Operand.const (Value.string { data := #[44] })], argTypes := #[9, 9] } from rfl) Tryz.func14 (by kernel_rfl) (by kernel_rfl) (split_sl 44 t ht) (by rfl) (by rfl) (by rfl)) (by rfl) (by rfl) ?_
  rintro gs -
  refine Ent.see 0 (by rfl) ?_
  refine Ls.ev (some 14) (Ev.len (show Oper.op _ = Op.call { callee := Callee.builtin Builtin.len, args := #[Operand.tmp 13], argTypes := #[54] } from rfl) (by rfl) Tryz.underlying54) (by rfl) (by rfl) ?_
  refine Ls.ev (some 15) (Ev.move (show Oper.op _ = Op.move (Operand.const (Value.int IntKind.i64 0)) from rfl) (by rfl)) (by rfl) (by rfl) ?_
  refine Ls.nil ?_
  refine Cd.block ?_
  refine Ent.pick [2, 1, 0, 3, 4] (by rfl) ?_
  have hz' : z.enc = (z.putL (none, 0) [] κ).enc := by rw [show z.putL (none, 0) [] κ = z from hz]
  rw [hz']
  refine Cd.loop (ι := Nat × (Option Addr × Nat) × List Int) (fun p => [(0, .pointer (some ⟨g, 0, none⟩)), (2, .pointer (some ⟨b, 0, none⟩)), (13, .slice (some ⟨gs, 0, none⟩) (splitP 44 t).length (splitP 44 t).length), (14, .int .i64 (splitP 44 t).length), (15, .int .i64 p.1)]) (fun p => [blk g 47 (z.putL p.2.1 p.2.2 κ).enc, rowI p.2.1.1 p.2.1.2 p.2.2, rd (some ⟨gs, 0, none⟩) (splitP 44 t).length 1 (txts (splitP 44 t)), rblk b 93 [κ.val], laidC]) (fun p => p.1 ≤ (splitP 44 t).length ∧ p.2.2.length = p.1 ∧ listP t = (numsP ((splitP 44 t).drop p.1)).map (p.2.2 ++ ·)) (fun p => (splitP 44 t).length - p.1) ((0, (none, 0), [])) (⟨Nat.zero_le _, rfl, by rw [hl]; simp⟩) ?_ rfl ?_
  · (repeat (first | exact trivial | refine ⟨by rfl, ?_⟩))
  rintro ⟨k, q, a⟩ ⟨hk, hak, hst⟩
  dsimp only at hk hak hst ⊢
  refine Cd.seq ?_
  refine Cd.region ?_
  refine Ls.ev (some 16) (Ev.lss (show Oper.op _ = Op.binOp BinOp.lss 3 (Operand.tmp 15) (Operand.tmp 14) 3 from rfl) (by rfl) (by rfl)) (by rfl) (by rfl) ?_
  refine Ls.nil ?_
  refine Cd.seq ?_
  refine Cd.cond _ (by rfl) (fun h2 => ?_) (fun h2 => ?_)
  · skip
    have hlt : k < (splitP 44 t).length := by have := of_decide_eq_true h2; omega
    obtain ⟨w, hw⟩ := get_of_lt hlt
    have hwm : ((splitP 44 t).map txt)[k]? = some (txt w) := by rw [List.getElem?_map, hw]; rfl
    have hwl := hls.2 w (List.mem_of_getElem? hw)
    rw [nums_step hw] at hst
    refine Cd.skip ?_
    refine Cd.seq ?_
    refine Cd.block ?_
    refine Cd.seq ?_
    refine Cd.region ?_
    refine Ls.ev (some 17) (Ev.indexAt (sz := 1) (show Oper.op _ = Op.indexAddr 54 (Operand.tmp 13) (Operand.tmp 15) from rfl) (by rfl) (by rfl) Tryz.underlying54 (by kernel_rfl) (by omega)) (by rfl) (by rfl) ?_
    refine Ls.ev (some 18) (Ev.loadStr (show Oper.op _ = Op.load 9 (Operand.tmp 17) from rfl) (by rfl) (ReadsIn.rd 2 (by rfl)) (by kernel_rfl) (by assumption)) (by rfl) (by rfl) ?_
    refine Ls.ev (some 7) (Ev.assign (show Oper.op _ = Op.assign (Operand.tmp 18) from rfl) (by rfl)) (by rfl) (by rfl) ?_
    refine Ls.nil ?_
    refine Cd.seq ?_
    refine Cd.region ?_
    refine Ls.ev (some 20) (Ev.move (show Oper.op _ = Op.move (Operand.tmp 7) from rfl) (by rfl)) (by rfl) (by rfl) ?_
    refine Ls.does (some 21) (Does.read (show Oper.op _ = Op.call { callee := Callee.value (Operand.func 61), args := #[Operand.tmp 20], argTypes := #[9] } from rfl) Tryz.func61 (by kernel_rfl) (by kernel_rfl) (atoi_sl w (by omega)) (by rfl) (by rfl) ⟨anyIn 4 (by rfl), trivial⟩) (by rfl) (by rfl) ?_
    rintro ⟨n, e⟩ hp
    have hnn : numP w = some n ∨ numP w = none := by
      rcases numP_atoi hp with ⟨_, hn, _⟩ | ⟨_, hn⟩
      · rw [hn]
        split
        · exact .inl rfl
        · exact .inr rfl
      · exact .inr hn
    refine Ls.ev (some 19) (Ev.move (show Oper.op _ = Op.move (Operand.tmp 21) from rfl) (by rfl)) (by rfl) (by rfl) ?_
    refine Ls.ev (some 22) (Ev.extract (show Oper.op _ = Op.extract (Operand.tmp 19) 0 from rfl) (by rfl) (by rfl)) (by rfl) (by rfl) ?_
    refine Ls.ev (some 23) (Ev.extract (show Oper.op _ = Op.extract (Operand.tmp 19) 1 from rfl) (by rfl) (by rfl)) (by rfl) (by rfl) ?_
    refine Ls.ev (some 8) (Ev.assign (show Oper.op _ = Op.assign (Operand.tmp 22) from rfl) (by rfl)) (by rfl) (by rfl) ?_
    refine Ls.ev (some 9) (Ev.assign (show Oper.op _ = Op.assign (Operand.tmp 23) from rfl) (by rfl)) (by rfl) (by rfl) ?_
    refine Ls.nil ?_
    refine Cd.seq ?_
    refine Cd.seq ?_
    refine Ent.norm ([(0, .pointer (some ⟨g, 0, none⟩)), (2, .pointer (some ⟨b, 0, none⟩)), (13, .slice (some ⟨gs, 0, none⟩) (splitP 44 t).length (splitP 44 t).length), (14, .int .i64 (splitP 44 t).length), (15, .int .i64 k), (7, .string (txt w)), (8, .int .i64 n), (9, e)]) ([blk g 47 (z.putL q a κ).enc, rowI q.1 q.2 a, rd (some ⟨gs, 0, none⟩) (splitP 44 t).length 1 (txts (splitP 44 t)), rblk b 93 [κ.val], laidC]) (by repeat (first | exact trivial | refine ⟨by rfl, ?_⟩ | refine ⟨by simp only [List.length_append, List.length_cons, List.length_nil]; rfl, ?_⟩ | refine ⟨by push_cast; rfl, ?_⟩)) (by rfl) ?_
    refine Cd.cut (ι := Unit) (fun _ => [(0, .pointer (some ⟨g, 0, none⟩)), (2, .pointer (some ⟨b, 0, none⟩)), (13, .slice (some ⟨gs, 0, none⟩) (splitP 44 t).length (splitP 44 t).length), (14, .int .i64 (splitP 44 t).length), (15, .int .i64 k), (8, .int .i64 n), (31, .bool (decide (numP w ≠ some n)))]) (fun _ => [blk g 47 (z.putL q a κ).enc, rowI q.1 q.2 a, rd (some ⟨gs, 0, none⟩) (splitP 44 t).length 1 (txts (splitP 44 t)), rblk b 93 [κ.val], laidC]) (fun _ => True) ?_ ?_
    · skip
      refine Cd.region ?_
      refine Ls.ev (some 24) (Ev.move (show Oper.op _ = Op.move (Operand.tmp 9) from rfl) (by rfl)) (by rfl) (by rfl) ?_
      rcases numP_atoi hp with ⟨he, hn, hb⟩ | ⟨⟨te, pe, he⟩, hn⟩
      · skip
        dsimp only at he hn hb
        subst he
        refine Ls.ev (some 25) (Ev.nilNilN (show Oper.op _ = Op.binOp BinOp.neq 102 (Operand.tmp 24) (Operand.const Value.nilIface) 102 from rfl) (by rfl) (by kernel_rfl)) (by rfl) (by rfl) ?_
        refine Ls.ev (some 26) (Ev.move (show Oper.op _ = Op.move (Operand.tmp 25) from rfl) (by rfl)) (by rfl) (by rfl) ?_
        refine Ls.ev (some 27) (Ev.move (show Oper.op _ = Op.move (Operand.tmp 8) from rfl) (by rfl)) (by rfl) (by rfl) ?_
        refine Ls.does (some 28) (Does.read (show Oper.op _ = Op.call { callee := Callee.value (Operand.func 62), args := #[Operand.tmp 27], argTypes := #[3] } from rfl) Tryz.func62 (by kernel_rfl) (by kernel_rfl) (itoa_sl n hb) (by rfl) (by rfl) ⟨anyIn 4 (by rfl), trivial⟩) (by rfl) (by rfl) ?_
        rintro _ -
        refine Ls.ev (some 29) (Ev.move (show Oper.op _ = Op.move (Operand.tmp 7) from rfl) (by rfl)) (by rfl) (by rfl) ?_
        refine Ls.ev (some 30) (Ev.neqS (show Oper.op _ = Op.binOp BinOp.neq 9 (Operand.tmp 28) (Operand.tmp 29) 9 from rfl) (by rfl) (by rfl)) (by rfl) (by rfl) ?_
        refine Ls.ev (some 31) (Ev.pickF (show Oper.op _ = Op.pick (Operand.tmp 26) (Operand.const (Value.bool true)) (Operand.tmp 30) from rfl) (by rfl) (by rfl)) (by rfl) (by rfl) ?_
        refine Ls.nil ?_
        refine Ent.inv (()) ?_ ?_ ?_
        · (try dsimp only); skip
        · (repeat (first | exact trivial | refine ⟨by rfl, ?_⟩ | refine ⟨by simp only [List.length_append, List.length_cons, List.length_nil]; rfl, ?_⟩ | refine ⟨by push_cast; rfl, ?_⟩ | refine ⟨by exact congrArg (fun b => some (Value.bool b)) (num_ne hn), ?_⟩))
        · rfl
      · skip
        dsimp only at he hn
        subst he
        refine Ls.ev (some 25) (Ev.ifaceNilN (show Oper.op _ = Op.binOp BinOp.neq 102 (Operand.tmp 24) (Operand.const Value.nilIface) 102 from rfl) (by rfl) (by rfl) (by kernel_rfl)) (by rfl) (by rfl) ?_
        refine Ls.ev (some 26) (Ev.move (show Oper.op _ = Op.move (Operand.tmp 25) from rfl) (by rfl)) (by rfl) (by rfl) ?_
        refine Ls.pass (some 27) (by rfl) (by rfl) ?_
        refine Ls.pass (some 28) (by rfl) (by rfl) ?_
        refine Ls.pass (some 29) (by rfl) (by rfl) ?_
        refine Ls.pass (some 30) (by rfl) (by rfl) ?_
        refine Ls.ev (some 31) (Ev.pickT (show Oper.op _ = Op.pick (Operand.tmp 26) (Operand.const (Value.bool true)) (Operand.tmp 30) from rfl) (by rfl) (by rfl)) (by rfl) (by rfl) ?_
        refine Ls.nil ?_
        refine Ent.inv (()) ?_ ?_ ?_
        · (try dsimp only); skip
        · (repeat (first | exact trivial | refine ⟨by rfl, ?_⟩ | refine ⟨by simp only [List.length_append, List.length_cons, List.length_nil]; rfl, ?_⟩ | refine ⟨by push_cast; rfl, ?_⟩ | refine ⟨by exact congrArg (fun b => some (Value.bool b)) (decide_eq_true (by rw [hn]; exact fun e => by cases e)).symm, ?_⟩))
        · rfl
    skip
    rintro _ -
    refine Cd.cond _ (by rfl) (fun h3 => ?_) (fun h3 => ?_)
    · skip
      have h3 : numP w = none := hnn.resolve_left (of_decide_eq_true h3)
      have hln : listP t = none := by rw [hst, h3]; rfl
      refine Cd.seq ?_
      refine Cd.region ?_
      refine Ls.ev (some 5) (Ev.assign (show Oper.op _ = Op.assign (Operand.const (Value.bool false)) from rfl) (by rfl)) (by rfl) (by rfl) ?_
      refine Ls.nil ?_
      refine Cd.ret ?_
      refine Ent.ret ((q, a)) ((fun v hv => by rw [hln] at hv; cases hv)) (Res.tmp (by rfl) (by rfl)) ?_ [0, 1] (by rfl) ?_
      · rw [hln]
        rfl
      · rfl
    skip
    have h3 : numP w = some n := Decidable.not_not.1 (of_decide_eq_false h3)
    have hst2 : listP t = (numsP ((splitP 44 t).drop (k + 1))).map ((a ++ [n]) ++ ·) := by
      rw [hst, h3]
      simp [Option.map_map, Function.comp_def]
    refine Cd.skip ?_
    refine Ent.pick [0, 2, 3, 4, 1] (by rfl) ?_
    skip
    skip
    refine Cd.drawS [0, 1, 2, 3] [12] (by kernel_rfl) ?_
    refine Rg.ev 0 (by rfl) (fun _ h => h.pick [0, 1, 2, 3] rfl) (Ev.loadB 2 (show Oper.op _ = Op.load 93 (Operand.tmp 2) from rfl) (by rfl) (by rfl) (by kernel_rfl) (by rfl)) (by rfl) (some 32) (by rfl) (by kernel_rfl) (by kernel_rfl) (by kernel_rfl) (by kernel_rfl) ?_
    refine Rg.ev 1 (by rfl) (fun _ h => h.pick [0, 1, 2, 3] rfl) (Ev.move (show Oper.op _ = Op.move (Operand.tmp 0) from rfl) (by rfl)) (by rfl) (some 33) (by rfl) (by kernel_rfl) (by kernel_rfl) (by kernel_rfl) (by kernel_rfl) ?_
    refine Rg.ev 3 (by rfl) (fun _ h => h.pick [0, 1, 2, 3] rfl) (Ev.loadB 2 (show Oper.op _ = Op.load 93 (Operand.tmp 2) from rfl) (by rfl) (by rfl) (by kernel_rfl) (by rfl)) (by rfl) (some 35) (by rfl) (by kernel_rfl) (by kernel_rfl) (by kernel_rfl) (by kernel_rfl) ?_
    refine Rg.ev 4 (by rfl) (fun _ h => h.pick [0, 1, 2, 3] rfl) (Ev.move (show Oper.op _ = Op.move (Operand.tmp 0) from rfl) (by rfl)) (by rfl) (some 36) (by rfl) (by kernel_rfl) (by kernel_rfl) (by kernel_rfl) (by kernel_rfl) ?_
    refine Rg.ev 8 (by rfl) (fun _ h => h.pick [0, 1, 2, 3] rfl) (Ev.move (show Oper.op _ = Op.move (Operand.tmp 8) from rfl) (by rfl)) (by rfl) (some 40) (by rfl) (by kernel_rfl) (by kernel_rfl) (by kernel_rfl) (by kernel_rfl) ?_
    skip
    refine Rg.float1 9 (ι := Nat) (some 41) (fun g' => .slice (some ⟨g', 0, none⟩) 1 1) (fun g' => row (some ⟨g', 0, none⟩) 1 1 3 1 (ints [n])) ?_
    skip
    skip
    refine RgF.does 2 (by rfl) (by rfl) (.inr (by kernel_rfl)) (by kernel_rfl) (Does.lit (sz := 1) (show Oper.op _ = Op.buildSlice 29 1 #[(0, Operand.tmp 40)] from rfl) (by rfl) Tryz.underlying29 (by kernel_rfl) (by rfl) (by kernel_rfl)) (by rfl) (some 41) (by rfl) (fun _ => by repeat (first | exact trivial | refine ⟨by rfl, ?_⟩ | refine ⟨by simp only [List.length_append, List.length_cons, List.length_nil]; rfl, ?_⟩ | refine ⟨by push_cast; rfl, ?_⟩)) (by exact fun _ _ h => h.last) (by exact fun _ _ h => h.pick [0, 1, 2, 3] (by rfl)) (Does.readV (show Oper.op _ = Op.call { callee := Callee.value (Operand.tmp 32), args := #[Operand.tmp 33], argTypes := #[73] } from rfl) (by rfl) (at_fnv κ g) (by rfl) (by rfl) trivial) (by rfl) (some 34) (by rfl) (by exact fun _ _ h => h.pick [0, 1, 2, 3] (by rfl)) (fun _ => Does.readV (show Oper.op _ = Op.call { callee := Callee.value (Operand.tmp 32), args := #[Operand.tmp 33], argTypes := #[73] } from rfl) (by rfl) (at_fnv κ g) (by rfl) (by rfl) trivial) (fun _ => by rfl) (by exact fun _ _ _ h => h.pick [0, 1, 2, 3] (by rfl)) ?_
    rintro _ -
    skip
    refine RgF.does 5 (by rfl) (by rfl) (.inr (by kernel_rfl)) (by kernel_rfl) (Does.lit (sz := 1) (show Oper.op _ = Op.buildSlice 29 1 #[(0, Operand.tmp 40)] from rfl) (by rfl) Tryz.underlying29 (by kernel_rfl) (by rfl) (by kernel_rfl)) (by rfl) (some 41) (by rfl) (fun _ => by repeat (first | exact trivial | refine ⟨by rfl, ?_⟩ | refine ⟨by simp only [List.length_append, List.length_cons, List.length_nil]; rfl, ?_⟩ | refine ⟨by push_cast; rfl, ?_⟩)) (by exact fun _ _ h => h.last) (by exact fun _ _ h => h.pick [0, 1, 2, 3] (by rfl)) (Does.readV (show Oper.op _ = Op.call { callee := Callee.value (Operand.tmp 35), args := #[Operand.tmp 36], argTypes := #[73] } from rfl) (by rfl) (at_fnv κ g) (by rfl) (by rfl) trivial) (by rfl) (some 37) (by rfl) (by exact fun _ _ h => h.pick [0, 1, 2, 3] (by rfl)) (fun _ => Does.readV (show Oper.op _ = Op.call { callee := Callee.value (Operand.tmp 35), args := #[Operand.tmp 36], argTypes := #[73] } from rfl) (by rfl) (at_fnv κ g) (by rfl) (by rfl) trivial) (fun _ => by rfl) (by exact fun _ _ _ h => h.pick [0, 1, 2, 3] (by rfl)) ?_
    rintro _ -
    refine RgF.ev 6 (by rfl) (by exact fun _ h => h.pick [0, 1, 2, 3] (by rfl)) (by exact fun _ _ h => h.pick [0, 1, 2, 3] (by rfl)) (Ev.nilCheck (show Oper.op _ = Op.nilCheck (Operand.tmp 37) from rfl) (by rfl)) (fun _ => Ev.nilCheck (show Oper.op _ = Op.nilCheck (Operand.tmp 37) from rfl) (by rfl)) (by rfl) (fun _ => by rfl) (some 38) (by rfl) (by kernel_rfl) (by kernel_rfl) (by kernel_rfl) (by kernel_rfl) ?_
    refine RgF.ev 7 (by rfl) (by exact fun _ h => h.pick [0, 1, 2, 3] (by rfl)) (by exact fun _ _ h => h.pick [0, 1, 2, 3] (by rfl)) (Ev.load 0 (show Oper.op _ = Op.load 29 (Operand.tmp 38) from rfl) (by rfl) (by rfl) (by kernel_rfl) (get_listL hκ z q a)) (fun _ => Ev.load 0 (show Oper.op _ = Op.load 29 (Operand.tmp 38) from rfl) (by rfl) (by rfl) (by kernel_rfl) (get_listL hκ z q a)) (by rfl) (fun _ => by rfl) (some 39) (by rfl) (by kernel_rfl) (by kernel_rfl) (by kernel_rfl) (by kernel_rfl) ?_
    skip
    refine RgF.land (by rfl) (by kernel_rfl) (Does.lit (sz := 1) (show Oper.op _ = Op.buildSlice 29 1 #[(0, Operand.tmp 40)] from rfl) (by rfl) Tryz.underlying29 (by kernel_rfl) (by rfl) (by kernel_rfl)) (by rfl) (some 41) (by rfl) (fun _ => by repeat (first | exact trivial | refine ⟨by rfl, ?_⟩ | refine ⟨by simp only [List.length_append, List.length_cons, List.length_nil]; rfl, ?_⟩ | refine ⟨by push_cast; rfl, ?_⟩)) (by exact fun _ _ h => h.last) (by exact fun _ _ h => h.pick [0, 1, 2, 3] (by rfl)) ?_
    intro g1
    skip
    refine Rg.one 10 (by kernel_rfl) ?_; refine RgO.does 10 (by rfl) (Does.app (xs := ints a) (news := ints [n]) 4 (show Oper.op _ = Op.call { callee := Callee.builtin Builtin.append, args := #[Operand.tmp 39, Operand.tmp 41], argTypes := #[29, 29] } from rfl) (by rfl) (by rfl) (by rfl) (ReadsIn.row 5 (by rfl)) elem_int (one_ints _) (show (a.length + 1) * 8 ≤ 140737488355328 by omega)) (by rfl) (some 42) (by rfl) (by exact fun _ _ h => h.pick [0, 1, 2, 3] (by rfl)) ?_
    rintro q' -
    refine Rg.ev 11 (by rfl) (by exact fun _ h => h.pick [0, 1, 2, 3] (by rfl)) (Ev.nilCheck (show Oper.op _ = Op.nilCheck (Operand.tmp 34) from rfl) (by rfl)) (by rfl) (some 43) (by rfl) (by kernel_rfl) (by kernel_rfl) (by kernel_rfl) (by kernel_rfl) ?_
    refine Rg.one 12 (by kernel_rfl) ?_; refine RgO.tail 12 (by rfl) (Does.store 0 (show Oper.op _ = Op.store 29 (Operand.tmp 43) (Operand.tmp 42) from rfl) (by rfl) (by rfl) (by rfl) (by kernel_rfl) (by rfl) (off_lt κ _ _ rfl) (put_list hκ z q q' a (a ++ [n]) (a.length + 1) (by simp))) (by rfl) none (by rfl) (by kernel_rfl) (by kernel_rfl) ?_
    intro _ _
    skip
    refine Rg.done (by kernel_rfl) ?_ _
    refine Cd.region ?_
    refine Ls.ev (some 44) (Ev.addI (show Oper.op _ = Op.binOp BinOp.add 3 (Operand.tmp 15) (Operand.const (Value.int IntKind.i64 1)) 3 from rfl) (by rfl) (by rfl) (by omega)) (by rfl) (by rfl) ?_
    refine Ls.ev (some 15) (Ev.move (show Oper.op _ = Op.move (Operand.tmp 44) from rfl) (by rfl)) (by rfl) (by rfl) ?_
    refine Ls.nil ?_
    refine Ent.pick [0, 4, 1, 2, 3] (by rfl) ?_
    refine Ent.inv ((k + 1, q', a ++ [n])) ?_ ?_ ?_
    · (try dsimp only); exact ⟨⟨hlt, by simp [hak], hst2⟩, by omega⟩
    · (repeat (first | exact trivial | refine ⟨by rfl, ?_⟩ | refine ⟨by simp only [List.length_append, List.length_cons, List.length_nil]; rfl, ?_⟩ | refine ⟨by push_cast; rfl, ?_⟩))
    · (show [_, _, _, _, _] = [_, _, _, _, _]; dsimp only; rw [row_add])
  · skip
    have hkl : k = (splitP 44 t).length := by have := of_decide_eq_false h2; omega
    rw [hkl, List.drop_length] at hst
    have hst : listP t = some a := by rw [hst]; simp [numsP]
    refine Cd.exit ?_
    refine Cd.seq ?_
    refine Cd.region ?_
    refine Ls.ev (some 5) (Ev.assign (show Oper.op _ = Op.assign (Operand.const (Value.bool true)) from rfl) (by rfl)) (by rfl) (by rfl) ?_
    refine Ls.nil ?_
    refine Cd.ret ?_
    refine Ent.ret ((q, a)) ((fun v hv => by rw [hst] at hv; exact (Option.some.inj hv).symm)) (Res.tmp (by rfl) (by rfl)) ?_ [0, 1] (by rfl) ?_
    · rw [hst]
      rfl
    · rfl
end Go.Proofs.YtemcigoelcblbaaGreatDoor
/- lists written; words as function values -/
namespace Go.Proofs.YtemcigoelcblbaaGreatDoor
open Go.RowKit
theorem join_len (c : UInt8) : ∀ (l : List (List UInt8)) (m : Nat), (∀ w ∈ l, w.length ≤ m) → (Lib.join l [c]).length ≤ (m + 1) * l.length
  | [], m, _ => by simp [Lib.join, List.intercalate]
  | [w], m, h => by
    have := h w List.mem_cons_self
    simp [Lib.join, List.intercalate]
    omega
  | w :: v :: l, m, h => by
    have h1 := h w List.mem_cons_self
    have ih := join_len c (v :: l) m (fun x hx => h x (List.mem_cons_of_mem _ hx))
    have e : Lib.join (w :: v :: l) [c] = w ++ c :: Lib.join (v :: l) [c] := by
      simp [Lib.join, List.intercalate, List.intersperse]
    rw [e, List.length_append, List.length_cons]
    simp only [List.length_cons] at ih ⊢
    rw [show (m + 1) * (l.length + 1 + 1) = (m + 1) * (l.length + 1) + (m + 1) from Nat.mul_succ _ _]
    omega
theorem own_some {w : World} {e sz n c : Nat} {A : Option Addr} {xs : List Value} (h : Own w 0 e sz A n c xs) (hn : 0 < n) : ∃ g, A = some ⟨g, 0, none⟩ ∧ n ≤ c := by
  rcases h.form with ⟨_, h0, _⟩ | ⟨g, _, h1, _, _, h2, _⟩
  · omega
  · exact ⟨g, h1, h2⟩
theorem row_addT (A : Option Addr) (n c : Nat) (a : List (List UInt8)) (w : List UInt8) : row A (n + 1) c 9 1 (txts (a ++ [w])) = row A (n + 1) c 9 1 (txts a ++ txts [w]) := by
  show row _ _ _ _ _ (strs ((a ++ [w]).map txt)) = _
  rw [List.map_append, strs_append]
theorem list_write (κ : Wk) (hκ : κ.num = false) (b : Nat) (z : StS) (hz : (z.p.getL κ).length ≤ 1048576) (hb : ∀ n ∈ z.p.getL κ, in64 n) : Fn Tryz.prog 65 #[.agg z.enc.toArray, .pointer (some ⟨b, 0, none⟩)] [rdI (z.gA κ).1 (z.p.getL κ), rblk b 93 [κ.val], laidC] Unit (fun _ => .string (txt (listL (z.p.getL κ)))) (fun _ => []) (fun _ => True) := by
  have hge := get_list hκ z
  generalize hA : (z.gA κ).1 = A at hge ⊢
  generalize hc : (z.gA κ).2 = c at hge
  generalize hl : z.p.getL κ = l at hge hz hb ⊢
  have hlb : ∀ x ∈ l.map Lib.itoa, x.length ≤ 21 := fun x hx => by
    obtain ⟨n, hn, rfl⟩ := List.mem_map.1 hx
    exact Lib.itoa_length_le n (hb n hn).1 (hb n hn).2
  refine Fn.enter Tryz.func65 rfl Tryz.ntmps65 (by rfl) ?_
  intro w0
  skip
  refine Cd.seq ?_
  refine Cd.region ?_
  refine Ls.does (some 2) (Does.box (show Oper.op _ = Op.box 47 (Operand.tmp 0) from rfl) (by rfl)) (by rfl) (by rfl) ?_
  intro g1 _
  refine Ls.ev (some 3) (Ev.assign (show Oper.op _ = Op.assign (Operand.const (Value.string { data := #[] })) from rfl) (by rfl)) (by rfl) (by rfl) ?_
  refine Ls.nil ?_
  refine Cd.seq ?_
  refine Cd.region ?_
  refine Ls.ev (some 4) (Ev.assign (show Oper.op _ = Op.assign (Operand.const (Value.slice none 0 0)) from rfl) (by rfl)) (by rfl) (by rfl) ?_
  refine Ls.nil ?_
  refine Cd.seq ?_
  refine Cd.seq ?_
  refine Cd.regionI ?_
  refine Li.ev (some 7) (Ev.loadB 2 (show Oper.op _ = Op.load 93 (Operand.tmp 1) from rfl) (by rfl) (by rfl) (by kernel_rfl) (by rfl)) (by rfl) (by rfl) ?_
  refine Li.does (some 8) (Does.readV (show Oper.op _ = Op.call { callee := Callee.value (Operand.tmp 7), args := #[Operand.tmp 2], argTypes := #[73] } from rfl) (by rfl) (at_fnv κ g1) (by rfl) (by rfl) trivial) (by rfl) (by rfl) ?_
  rintro _ -
  refine Li.ev (some 9) (Ev.nilCheck (show Oper.op _ = Op.nilCheck (Operand.tmp 8) from rfl) (by rfl)) (by rfl) (by rfl) ?_
  refine Li.ev (some 10) (Ev.load 0 (show Oper.op _ = Op.load 29 (Operand.tmp 9) from rfl) (by rfl) (by rfl) (by kernel_rfl) hge) (by rfl) (by rfl) ?_
  refine Li.ev (some 11) (Ev.len (show Oper.op _ = Op.call { callee := Callee.builtin Builtin.len, args := #[Operand.tmp 10], argTypes := #[29] } from rfl) (by rfl) Tryz.underlying29) (by rfl) (by rfl) ?_
  refine Li.ev (some 12) (Ev.move (show Oper.op _ = Op.move (Operand.const (Value.int IntKind.i64 0)) from rfl) (by rfl)) (by rfl) (by rfl) ?_
  refine Li.nil ?_
  refine Cd.block ?_
  refine Ent.nil 9 1 ?_
  refine Ent.pick [0, 2, 4] (by rfl) ?_
  refine Cd.loop (ι := Nat × (Option Addr × Nat)) (fun p => [(4, .slice p.2.1 p.1 p.2.2), (10, .slice A l.length c), (11, .int .i64 l.length), (12, .int .i64 p.1)]) (fun p => [row p.2.1 p.1 p.2.2 9 1 (txts ((l.take p.1).map Lib.itoa)), rdI A l, laidC]) (fun p => p.1 ≤ l.length) (fun p => l.length - p.1) ((0, (none, 0))) (Nat.zero_le _) ?_ rfl ?_
  · (repeat (first | exact trivial | refine ⟨by rfl, ?_⟩))
  rintro ⟨k, q⟩ hk
  dsimp only at hk ⊢
  refine Cd.seq ?_
  refine Cd.region ?_
  refine Ls.ev (some 13) (Ev.lss (show Oper.op _ = Op.binOp BinOp.lss 3 (Operand.tmp 12) (Operand.tmp 11) 3 from rfl) (by rfl) (by rfl)) (by rfl) (by rfl) ?_
  refine Ls.nil ?_
  refine Cd.seq ?_
  refine Cd.cond _ (by rfl) (fun h2 => ?_) (fun h2 => ?_)
  · skip
    have hlt : k < l.length := by have := of_decide_eq_true h2; omega
    obtain ⟨n, hn⟩ := get_of_lt hlt
    have hnb := hb n (List.mem_of_getElem? hn)
    have hni : (ints l)[k * 1]? = some (.int .i64 n) := by unfold ints; simp [hn]
    refine Ent.rdSome 1 (by rfl) (by omega) (fun ad had => ?_)
    subst had
    refine Cd.skip ?_
    refine Cd.seq ?_
    refine Cd.block ?_
    refine Cd.seq ?_
    refine Cd.region ?_
    refine Ls.ev (some 14) (Ev.indexAt (sz := 1) (show Oper.op _ = Op.indexAddr 29 (Operand.tmp 10) (Operand.tmp 12) from rfl) (by rfl) (by rfl) Tryz.underlying29 (by kernel_rfl) (by omega)) (by rfl) (by rfl) ?_
    refine Ls.ev (some 15) (Ev.loadInt (show Oper.op _ = Op.load 3 (Operand.tmp 14) from rfl) (by rfl) (ReadsIn.rd 1 (by rfl)) (by kernel_rfl) (by assumption)) (by rfl) (by rfl) ?_
    refine Ls.ev (some 6) (Ev.assign (show Oper.op _ = Op.assign (Operand.tmp 15) from rfl) (by rfl)) (by rfl) (by rfl) ?_
    refine Ls.nil ?_
    refine Cd.region ?_
    refine Ls.ev (some 16) (Ev.move (show Oper.op _ = Op.move (Operand.tmp 4) from rfl) (by rfl)) (by rfl) (by rfl) ?_
    refine Ls.ev (some 17) (Ev.move (show Oper.op _ = Op.move (Operand.tmp 6) from rfl) (by rfl)) (by rfl) (by rfl) ?_
    refine Ls.does (some 18) (Does.read (show Oper.op _ = Op.call { callee := Callee.value (Operand.func 62), args := #[Operand.tmp 17], argTypes := #[3] } from rfl) Tryz.func62 (by kernel_rfl) (by kernel_rfl) (itoa_sl n hnb) (by rfl) (by rfl) ⟨anyIn 2 (by rfl), trivial⟩) (by rfl) (by rfl) ?_
    rintro _ -
    refine Ls.does (some 19) (Does.lit (sz := 1) (show Oper.op _ = Op.buildSlice 54 1 #[(0, Operand.tmp 18)] from rfl) (by rfl) Tryz.underlying54 (by kernel_rfl) (by rfl) (by kernel_rfl)) (by rfl) (by rfl) ?_
    intro g2 _
    refine Ls.does (some 20) (Does.app (xs := txts ((l.take k).map Lib.itoa)) (news := txts [Lib.itoa n]) 1 (show Oper.op _ = Op.call { callee := Callee.builtin Builtin.append, args := #[Operand.tmp 16, Operand.tmp 19], argTypes := #[54, 54] } from rfl) (by rfl) (by rfl) (by rfl) (ReadsIn.row 0 (by rfl)) elem_str (one_strs _) (show (k + 1) * 16 ≤ 140737488355328 by omega)) (by rfl) (by rfl) ?_
    rintro q' -
    refine Ls.ev (some 4) (Ev.assign (show Oper.op _ = Op.assign (Operand.tmp 20) from rfl) (by rfl)) (by rfl) (by rfl) ?_
    refine Ls.nil ?_
    refine Cd.region ?_
    refine Ls.ev (some 21) (Ev.addI (show Oper.op _ = Op.binOp BinOp.add 3 (Operand.tmp 12) (Operand.const (Value.int IntKind.i64 1)) 3 from rfl) (by rfl) (by rfl) (by omega)) (by rfl) (by rfl) ?_
    refine Ls.ev (some 12) (Ev.move (show Oper.op _ = Op.move (Operand.tmp 21) from rfl) (by rfl)) (by rfl) (by rfl) ?_
    refine Ls.nil ?_
    refine Ent.pick [1, 2, 3] (by rfl) ?_
    refine Ent.inv ((k + 1, q')) ?_ ?_ ?_
    · (try dsimp only); exact ⟨hlt, by omega⟩
    · (repeat (first | exact trivial | refine ⟨by rfl, ?_⟩ | refine ⟨by simp only [List.length_append, List.length_cons, List.length_nil]; rfl, ?_⟩ | refine ⟨by push_cast; rfl, ?_⟩))
    · (show [_, _, _] = [_, _, _]; dsimp only; rw [List.take_add_one, hn, List.map_append]; exact congrArg (fun C => [C, rdI (some ad) l, laidC]) (row_addT _ _ _ _ _).symm)
  · skip
    have hkl : k = l.length := by have := of_decide_eq_false h2; omega
    subst hkl
    rw [List.take_length]
    refine Cd.exit ?_
    refine Cd.seq ?_
    refine Cd.seq ?_
    refine Cd.region ?_
    refine Ls.ev (some 22) (Ev.move (show Oper.op _ = Op.move (Operand.tmp 4) from rfl) (by rfl)) (by rfl) (by rfl) ?_
    refine Ls.ev (some 23) (Ev.len (show Oper.op _ = Op.call { callee := Callee.builtin Builtin.len, args := #[Operand.tmp 22], argTypes := #[54] } from rfl) (by rfl) Tryz.underlying54) (by rfl) (by rfl) ?_
    refine Ls.ev (some 24) (Ev.eql (show Oper.op _ = Op.binOp BinOp.eql 3 (Operand.tmp 23) (Operand.const (Value.int IntKind.i64 0)) 3 from rfl) (by rfl) (by rfl)) (by rfl) (by rfl) ?_
    refine Ls.nil ?_
    refine Cd.cond _ (by rfl) (fun h3 => ?_) (fun h3 => ?_)
    · skip
      have h3 : l = [] := by have := of_decide_eq_true h3; exact List.eq_nil_of_length_eq_zero (by omega)
      refine Cd.seq ?_
      refine Cd.region ?_
      refine Ls.ev (some 3) (Ev.assign (show Oper.op _ = Op.assign (Operand.const (Value.string { data := #[45] })) from rfl) (by rfl)) (by rfl) (by rfl) ?_
      refine Ls.nil ?_
      refine Cd.ret ?_
      refine Ent.ret (()) (trivial) (Res.tmp (by rfl) (by rfl)) ?_ [] (by rfl) ?_
      · rw [h3]
        rfl
      · rfl
    · skip
      have h3 : l ≠ [] := fun e => (of_decide_eq_false h3) (by rw [e]; rfl)
      have hlen : 0 < l.length := List.length_pos_iff.2 h3
      refine Ent.fact 0 (by rfl) (p := ∃ g, q.1 = some ⟨g, 0, none⟩ ∧ l.length ≤ q.2) (fun w hw => own_some hw hlen) ?_
      rintro ⟨gq, hgq, hqc⟩
      obtain ⟨q1, q2⟩ := q
      dsimp only at hgq hqc
      subst hgq
      refine Ent.see 0 (by rfl) ?_
      have hjn := join_sl 44 gq q2 (l.map Lib.itoa) (by rw [List.length_map]; exact hqc) (by rw [List.length_map]; omega) (Nat.le_trans (join_len 44 _ 21 hlb) (by rw [List.length_map]; omega))
      rw [List.length_map] at hjn
      refine Cd.skip ?_
      refine Cd.seq ?_
      refine Cd.region ?_
      refine Ls.ev (some 25) (Ev.move (show Oper.op _ = Op.move (Operand.tmp 4) from rfl) (by rfl)) (by rfl) (by rfl) ?_
      refine Ls.does (some 26) (Does.read (show Oper.op _ = Op.call { callee := Callee.value (Operand.func 21), args := #[Operand.tmp 25, Operand.const (Value.string { data := #[44] })], argTypes := #[54, 9] } from rfl) Tryz.func21 (by kernel_rfl) (by kernel_rfl) (hjn) (by rfl) (by rfl) ⟨ReadsIn.rd 0 (by rfl), trivial⟩) (by rfl) (by rfl) ?_
      rintro _ -
      refine Ls.ev (some 3) (Ev.assign (show Oper.op _ = Op.assign (Operand.tmp 26) from rfl) (by rfl)) (by rfl) (by rfl) ?_
      refine Ls.nil ?_
      refine Cd.ret ?_
      refine Ent.ret (()) (trivial) (Res.tmp (by rfl) (by rfl)) ?_ [] (by rfl) ?_
      · unfold listL
        rw [if_neg h3]
      · rfl
end Go.Proofs.YtemcigoelcblbaaGreatDoor
/- words as function values -/
namespace Go.Proofs.YtemcigoelcblbaaGreatDoor
open Go.RowKit
section
variable {P : Program} {f : FuncId} {args : Array Value} {H H0 R : List Chunk} {ι κ' : Type} {res : ι → Value} {H' : ι → List Chunk} {φ : ι → Prop}
theorem Fn.pre (is : List Nat) (hsel : selB (H.map (·.excl)) is = true) (hp : picks H is = H0 ++ R) (h : Fn P f args H0 ι res H' φ) : Fn P f args H ι res (fun i => H' i ++ R) φ := fun w hs => by
  have h1 := (Sat.start hs).pick is hsel
  rw [hp] at h1
  exact (h w (sat0_append.1 h1.sat).1).mono fun e w' ⟨i, hi, he, hs'⟩ => ⟨i, hi, he, h1.call hs'⟩
theorem Fn.to {res2 : κ' → Value} {H2 : κ' → List Chunk} {ψ : κ' → Prop} (h : Fn P f args H ι res H' φ) (hto : ∀ i, φ i → ∃ j, ψ j ∧ res i = res2 j ∧ ∀ Γ w, Sat Γ (H' i) w → Sat Γ (H2 j) w) : Fn P f args H κ' res2 H2 ψ := fun w hs =>
  (h w hs).mono fun e w' ⟨i, hi, he, hs'⟩ => by
    obtain ⟨j, hj, hr, hk⟩ := hto i hi
    exact ⟨j, hj, he.trans (by rw [hr]), hk _ _ hs'⟩
end
def Wk.rid (κ : Wk) : Nat := bif κ.num then 60 else 64
def Wk.wid (κ : Wk) : Nat := bif κ.num then 63 else 65
def Wk.bt (κ : Wk) : Nat := bif κ.num then 90 else 93
def Wk.rv (κ : Wk) (b : Nat) : Value := .func (.func κ.rid) #[] #[.pointer (some ⟨b, 0, none⟩)]
def Wk.wv (κ : Wk) (b : Nat) : Value := .func (.func κ.wid) #[] #[.pointer (some ⟨b, 0, none⟩)]
abbrev Wk.word (κ : Wk) (b : Nat) : List Value := [κ.rv b, κ.wv b]
abbrev Wk.box (κ : Wk) (b : Nat) : Chunk := rblk b κ.bt [κ.val]
theorem putN_nil {z : StS} {n : Int} {κ κ' : Wk} (h : z.nil κ') : (z.putN n κ).nil κ' := by
  unfold StS.nil at h ⊢
  obtain ⟨kind, a, b, c, ik, x, y, verb, ep, st, C, cc, cells, K, kc, keeps⟩ := z
  cases κ <;> cases κ' <;> simp_all [StS.putL, StS.putN]
theorem putL_nil {z : StS} {q : Option Addr × Nat} {l : List Int} {κ κ' : Wk} (hk : κ' ≠ κ) (h : z.nil κ') : (z.putL q l κ).nil κ' := by
  unfold StS.nil at h ⊢
  obtain ⟨kind, a, b, c, ik, x, y, verb, ep, st, C, cc, cells, K, kc, keeps⟩ := z
  cases κ <;> cases κ' <;> simp_all [StS.putL]
theorem readW_fnv (κ : Wk) (g b : Nat) (z : StS) (hz : κ.num = false → z.nil κ) (t : List UInt8) (ht : t.length ≤ 1048576) : FnV Tryz.prog (κ.rv b) [.pointer (some ⟨g, 0, none⟩), .string (txt t)] [blk g 47 z.enc, z.wC, z.wK, κ.box b, laidC] StS (fun _ => .bool (readW z.p κ t).isSome) (fun z' => [blk g 47 z'.enc, z'.wC, z'.wK]) (fun z' => (∀ v, readW z.p κ t = some v → v = z'.p) ∧ ∀ κ', κ' ≠ κ → z.nil κ' → z'.nil κ') := by
  cases hκ : κ.num with
  | true =>
    have hr : κ.rid = 60 := by unfold Wk.rid; rw [hκ]; rfl
    have hb : κ.bt = 90 := by unfold Wk.bt; rw [hκ]; rfl
    have hrd : readW z.p κ t = (numP t).map fun n => z.p.putN n κ := by unfold readW; rw [if_pos hκ]
    refine ⟨60, _, [.pointer (some ⟨b, 0, none⟩)], by unfold Wk.rv; rw [hr], Tryz.func60, by kernel_rfl, by kernel_rfl, ?_⟩
    unfold Wk.box
    rw [hb, hrd]
    refine Fn.to (Fn.pre [0, 3, 4, 1, 2] (by rfl) (by rfl) (num_read κ hκ g b z t ht) (R := [z.wC, z.wK])) fun n hn => ⟨z.putN n κ, ⟨fun v hv => ?_, fun κ' _ hn' => putN_nil hn'⟩, ?_, fun Γ w hs => ?_⟩
    · obtain ⟨m, hm, rfl⟩ := Option.map_eq_some_iff.1 hv
      rw [StS.putN_p, hn m hm]
    · cases numP t <;> rfl
    · rw [(z.putN_w n κ).1, (z.putN_w n κ).2]
      exact hs
  | false =>
    have hr : κ.rid = 64 := by unfold Wk.rid; rw [hκ]; rfl
    have hb : κ.bt = 93 := by unfold Wk.bt; rw [hκ]; rfl
    have hrd : readW z.p κ t = (listP t).map fun n => z.p.putL n κ := by unfold readW; rw [if_neg (by rw [hκ]; decide)]
    refine ⟨64, _, [.pointer (some ⟨b, 0, none⟩)], by unfold Wk.rv; rw [hr], Tryz.func64, by kernel_rfl, by kernel_rfl, ?_⟩
    unfold Wk.box
    rw [hb, hrd]
    have hgo : ∀ R : List Chunk, Fn Tryz.prog 64 #[.pointer (some ⟨g, 0, none⟩), .string (txt t), .pointer (some ⟨b, 0, none⟩)] [blk g 47 z.enc, rblk b 93 [κ.val], laidC] ((Option Addr × Nat) × List Int) (fun _ => .bool (listP t).isSome) (fun p => [blk g 47 (z.putL p.1 p.2 κ).enc, rowI p.1.1 p.1.2 p.2]) (fun p => ∀ v, listP t = some v → v = p.2) := fun _ => list_read κ hκ g b z (hz hκ) t ht
    have hv : ∀ (p : (Option Addr × Nat) × List Int), (∀ v, listP t = some v → v = p.2) → ∀ v, ((listP t).map fun n => z.p.putL n κ) = some v → v = (z.putL p.1 p.2 κ).p := fun p hp v hv => by
      obtain ⟨m, hm, rfl⟩ := Option.map_eq_some_iff.1 hv
      rw [StS.putL_p, hp m hm]
    have he : ∀ (p : (Option Addr × Nat) × List Int), Value.bool (listP t).isSome = .bool ((listP t).map fun n => z.p.putL n κ).isSome := fun p => by cases listP t <;> rfl
    rcases (show κ = .r ∨ κ = .k by cases κ <;> first | exact .inl rfl | exact .inr rfl | cases hκ) with rfl | rfl
    · exact Fn.to (Fn.pre [0, 3, 4, 2] (by rfl) (by rfl) (hgo []) (R := [z.wK])) fun p hp => ⟨z.putL p.1 p.2 .r, ⟨hv p hp, fun κ' hk hn' => putL_nil hk hn'⟩, he p, fun Γ w hs => hs⟩
    · exact Fn.to (Fn.pre [0, 3, 4, 1] (by rfl) (by rfl) (hgo []) (R := [z.wC])) fun p hp => ⟨z.putL p.1 p.2 .k, ⟨hv p hp, fun κ' hk hn' => putL_nil hk hn'⟩, he p, fun Γ w hs => hs.pick [0, 2, 1] (by rfl)⟩
/-- A step whose numbers and lists a machine holds. -/
structure StS.Ok (z : StS) : Prop where
  num : ∀ κ, in64 (z.p.getN κ)
  len : ∀ κ, (z.p.getL κ).length ≤ 1048576
  lst : ∀ κ, ∀ n ∈ z.p.getL κ, in64 n
theorem writeW_fnv (κ : Wk) (b : Nat) (z : StS) (hz : z.Ok) : FnV Tryz.prog (κ.wv b) [.agg z.enc.toArray] [z.rC, z.rK, κ.box b, laidC] Unit (fun _ => .string (txt (writeW z.p κ))) (fun _ => []) (fun _ => True) := by
  cases hκ : κ.num with
  | true =>
    have hr : κ.wid = 63 := by unfold Wk.wid; rw [hκ]; rfl
    have hb : κ.bt = 90 := by unfold Wk.bt; rw [hκ]; rfl
    have hrd : writeW z.p κ = Lib.itoa (z.p.getN κ) := by unfold writeW; rw [if_pos hκ]
    refine ⟨63, _, [.pointer (some ⟨b, 0, none⟩)], by unfold Wk.wv; rw [hr], Tryz.func63, by kernel_rfl, by kernel_rfl, ?_⟩
    unfold Wk.box
    rw [hb, hrd]
    exact Fn.to (Fn.pre [2, 3] (by rfl) (by rfl) (num_write κ hκ b z (hz.num κ)) (R := [])) fun _ _ => ⟨(), trivial, rfl, fun Γ w hs => hs⟩
  | false =>
    have hr : κ.wid = 65 := by unfold Wk.wid; rw [hκ]; rfl
    have hb : κ.bt = 93 := by unfold Wk.bt; rw [hκ]; rfl
    have hrd : writeW z.p κ = listL (z.p.getL κ) := by unfold writeW; rw [if_neg (by rw [hκ]; decide)]
    refine ⟨65, _, [.pointer (some ⟨b, 0, none⟩)], by unfold Wk.wv; rw [hr], Tryz.func65, by kernel_rfl, by kernel_rfl, ?_⟩
    unfold Wk.box
    rw [hb, hrd]
    have hgo := list_write κ hκ b z (hz.len κ) (hz.lst κ)
    rcases (show κ = .r ∨ κ = .k by cases κ <;> first | exact .inl rfl | exact .inr rfl | cases hκ) with rfl | rfl
    · exact Fn.to (Fn.pre [0, 2, 3] (by rfl) (by rfl) hgo (R := [])) fun _ _ => ⟨(), trivial, rfl, fun Γ w hs => hs⟩
    · exact Fn.to (Fn.pre [1, 2, 3] (by rfl) (by rfl) hgo (R := [])) fun _ _ => ⟨(), trivial, rfl, fun Γ w hs => hs⟩
theorem number_sl (f : Nat) : Fn Tryz.prog 33 #[.func (.func f) #[] #[]] [] Nat (fun b => .agg #[.func (.func 60) #[] #[.pointer (some ⟨b, 0, none⟩)], .func (.func 63) #[] #[.pointer (some ⟨b, 0, none⟩)]]) (fun b => [blk b 90 [.func (.func f) #[] #[]]]) (fun _ => True) := by
  refine Fn.enter Tryz.func33 rfl Tryz.ntmps33 (by rfl) ?_
  intro w0
  refine Cd.seq ?_
  refine Cd.region ?_
  refine Ls.does (some 1) (Does.box (show Oper.op _ = Op.box 90 (Operand.tmp 0) from rfl) (by rfl)) (by rfl) (by rfl) ?_
  intro g1 _
  refine Ls.does (some 2) (Does.alloc (cs := [.nilFunc, .nilFunc]) (show Oper.op _ = Op.alloc 69 from rfl) (ZeroIs.mk (.agg #[.nilFunc, .nilFunc]) (by kernel_rfl) (by rfl))) (by rfl) (by rfl) ?_
  intro g2 _
  refine Ls.nil ?_
  refine Cd.seq ?_
  refine Cd.region ?_
  refine Ls.ev (some 3) (Ev.makeFunc1 (show Oper.op _ = Op.makeFunc (Fn.func 60) #[] #[Operand.tmp 1] from rfl) (by rfl)) (by rfl) (by rfl) ?_
  refine Ls.ev (some 4) (Ev.makeFunc1 (show Oper.op _ = Op.makeFunc (Fn.func 63) #[] #[Operand.tmp 1] from rfl) (by rfl)) (by rfl) (by rfl) ?_
  refine Ls.ev (some 5) (Ev.buildP (pl := [(0, 1), (1, 1)]) (zs := [.nilFunc, .nilFunc]) (show Oper.op _ = Op.build 69 #[(0, Operand.tmp 3), (1, Operand.tmp 4)] from rfl) (by rfl) (by kernel_rfl) (by rfl)) (by rfl) (by rfl) ?_
  refine Ls.does none (Does.store 0 (show Oper.op _ = Op.store 69 (Operand.tmp 2) (Operand.tmp 5) from rfl) (by rfl) (by rfl) (by rfl) (by kernel_rfl) (by rfl) (by kernel_rfl) (by rfl)) (by rfl) (by rfl) ?_
  intro _ _
  refine Ls.nil ?_
  refine Cd.ret ?_
  refine Ent.ret (g1) (trivial) (Res.cell 0 (by rfl) (by rfl) (by rfl) (n := 2) (by kernel_rfl) (by rfl) (by rfl)) ?_ [1] (by rfl) ?_
  · rfl
  · rfl
theorem listw_sl (f : Nat) : Fn Tryz.prog 41 #[.func (.func f) #[] #[]] [] Nat (fun b => .agg #[.func (.func 64) #[] #[.pointer (some ⟨b, 0, none⟩)], .func (.func 65) #[] #[.pointer (some ⟨b, 0, none⟩)]]) (fun b => [blk b 93 [.func (.func f) #[] #[]]]) (fun _ => True) := by
  refine Fn.enter Tryz.func41 rfl Tryz.ntmps41 (by rfl) ?_
  intro w0
  refine Cd.seq ?_
  refine Cd.region ?_
  refine Ls.does (some 1) (Does.box (show Oper.op _ = Op.box 93 (Operand.tmp 0) from rfl) (by rfl)) (by rfl) (by rfl) ?_
  intro g1 _
  refine Ls.does (some 2) (Does.alloc (cs := [.nilFunc, .nilFunc]) (show Oper.op _ = Op.alloc 69 from rfl) (ZeroIs.mk (.agg #[.nilFunc, .nilFunc]) (by kernel_rfl) (by rfl))) (by rfl) (by rfl) ?_
  intro g2 _
  refine Ls.nil ?_
  refine Cd.seq ?_
  refine Cd.region ?_
  refine Ls.ev (some 3) (Ev.makeFunc1 (show Oper.op _ = Op.makeFunc (Fn.func 64) #[] #[Operand.tmp 1] from rfl) (by rfl)) (by rfl) (by rfl) ?_
  refine Ls.ev (some 4) (Ev.makeFunc1 (show Oper.op _ = Op.makeFunc (Fn.func 65) #[] #[Operand.tmp 1] from rfl) (by rfl)) (by rfl) (by rfl) ?_
  refine Ls.ev (some 5) (Ev.buildP (pl := [(0, 1), (1, 1)]) (zs := [.nilFunc, .nilFunc]) (show Oper.op _ = Op.build 69 #[(0, Operand.tmp 3), (1, Operand.tmp 4)] from rfl) (by rfl) (by kernel_rfl) (by rfl)) (by rfl) (by rfl) ?_
  refine Ls.does none (Does.store 0 (show Oper.op _ = Op.store 69 (Operand.tmp 2) (Operand.tmp 5) from rfl) (by rfl) (by rfl) (by rfl) (by kernel_rfl) (by rfl) (by kernel_rfl) (by rfl)) (by rfl) (by rfl) ?_
  intro _ _
  refine Ls.nil ?_
  refine Cd.ret ?_
  refine Ent.ret (g1) (trivial) (Res.cell 0 (by rfl) (by rfl) (by rfl) (n := 2) (by kernel_rfl) (by rfl) (by rfl)) ?_ [1] (by rfl) ?_
  · rfl
  · rfl
def stepV (kind ik verb : Int) : List Value := [.int .i64 kind, .int .i64 0, .int .i64 0, .int .i64 0, .int .i64 ik, .int .i64 0, .int .i64 0, .int .i64 verb, .int .i64 0, .int .i64 0, .slice none 0 0, .slice none 0 0]
theorem in_sl (k : Int) : Fn Tryz.prog 44 #[.int .i64 k] [] Unit (fun _ => .agg (stepV 4 k 0).toArray) (fun _ => []) (fun _ => True) := by
  refine Fn.enter Tryz.func44 rfl Tryz.ntmps44 (by rfl) ?_
  intro w0
  refine Cd.seq ?_
  refine Cd.region ?_
  refine Ls.does (some 2) (Does.alloc (cs := [.int .i64 0, .int .i64 0, .int .i64 0, .int .i64 0, .int .i64 0, .int .i64 0, .int .i64 0, .int .i64 0, .int .i64 0, .int .i64 0, .slice none 0 0, .slice none 0 0]) (show Oper.op _ = Op.alloc 47 from rfl) (ZeroIs.mk (.agg #[.int .i64 0, .int .i64 0, .int .i64 0, .int .i64 0, .int .i64 0, .int .i64 0, .int .i64 0, .int .i64 0, .int .i64 0, .int .i64 0, .slice none 0 0, .slice none 0 0]) (by kernel_rfl) (by rfl))) (by rfl) (by rfl) ?_
  intro g1 _
  refine Ls.nil ?_
  refine Cd.seq ?_
  refine Cd.region ?_
  refine Ls.ev (some 3) (Ev.move (show Oper.op _ = Op.move (Operand.tmp 0) from rfl) (by rfl)) (by rfl) (by rfl) ?_
  refine Ls.ev (some 4) (Ev.buildP (pl := [(0, 1), (1, 1), (2, 1), (3, 4), (7, 1)]) (zs := [.int .i64 0, .int .i64 0, .int .i64 0, .int .i64 0, .int .i64 0, .int .i64 0, .slice none 0 0, .slice none 0 0]) (show Oper.op _ = Op.build 41 #[(0, Operand.tmp 3)] from rfl) (by rfl) (by kernel_rfl) (by rfl)) (by rfl) (by rfl) ?_
  refine Ls.ev (some 5) (Ev.buildP (pl := [(0, 1), (1, 1), (2, 1), (3, 1), (4, 8)]) (zs := [.int .i64 0, .int .i64 0, .int .i64 0, .int .i64 0, .int .i64 0, .int .i64 0, .int .i64 0, .int .i64 0, .int .i64 0, .int .i64 0, .slice none 0 0, .slice none 0 0]) (show Oper.op _ = Op.build 47 #[(0, Operand.const (Value.int IntKind.i64 4)), (4, Operand.tmp 4)] from rfl) (by rfl) (by kernel_rfl) (by rfl)) (by rfl) (by rfl) ?_
  refine Ls.does none (Does.store 0 (show Oper.op _ = Op.store 47 (Operand.tmp 2) (Operand.tmp 5) from rfl) (by rfl) (by rfl) (by rfl) (by kernel_rfl) (by rfl) (by kernel_rfl) (by rfl)) (by rfl) (by rfl) ?_
  intro _ _
  refine Ls.nil ?_
  refine Cd.ret ?_
  refine Ent.ret (()) (trivial) (Res.cell 0 (by rfl) (by rfl) (by rfl) (n := 12) (by kernel_rfl) (by rfl) (by rfl)) ?_ [] (by rfl) ?_
  · rfl
  · rfl
theorem says_sl (v : Int) : Fn Tryz.prog 45 #[.int .i64 v] [] Unit (fun _ => .agg (stepV 4 1 v).toArray) (fun _ => []) (fun _ => True) := by
  refine Fn.enter Tryz.func45 rfl Tryz.ntmps45 (by rfl) ?_
  intro w0
  refine Cd.seq ?_
  refine Cd.region ?_
  refine Ls.does (some 2) (Does.alloc (cs := [.int .i64 0, .int .i64 0, .int .i64 0, .int .i64 0, .int .i64 0, .int .i64 0, .int .i64 0, .int .i64 0, .int .i64 0, .int .i64 0, .slice none 0 0, .slice none 0 0]) (show Oper.op _ = Op.alloc 47 from rfl) (ZeroIs.mk (.agg #[.int .i64 0, .int .i64 0, .int .i64 0, .int .i64 0, .int .i64 0, .int .i64 0, .int .i64 0, .int .i64 0, .int .i64 0, .int .i64 0, .slice none 0 0, .slice none 0 0]) (by kernel_rfl) (by rfl))) (by rfl) (by rfl) ?_
  intro g1 _
  refine Ls.nil ?_
  refine Cd.seq ?_
  refine Cd.region ?_
  refine Ls.ev (some 3) (Ev.move (show Oper.op _ = Op.move (Operand.tmp 0) from rfl) (by rfl)) (by rfl) (by rfl) ?_
  refine Ls.ev (some 4) (Ev.buildP (pl := [(0, 1), (1, 1), (2, 2)]) (zs := [.int .i64 0, .int .i64 0, .int .i64 0, .slice none 0 0]) (show Oper.op _ = Op.build 39 #[(0, Operand.tmp 3)] from rfl) (by rfl) (by kernel_rfl) (by rfl)) (by rfl) (by rfl) ?_
  refine Ls.ev (some 5) (Ev.buildP (pl := [(0, 1), (1, 1), (2, 1), (3, 4), (7, 1)]) (zs := [.int .i64 0, .int .i64 0, .int .i64 0, .int .i64 0, .int .i64 0, .int .i64 0, .slice none 0 0, .slice none 0 0]) (show Oper.op _ = Op.build 41 #[(0, Operand.const (Value.int IntKind.i64 1)), (3, Operand.tmp 4)] from rfl) (by rfl) (by kernel_rfl) (by rfl)) (by rfl) (by rfl) ?_
  refine Ls.ev (some 6) (Ev.buildP (pl := [(0, 1), (1, 1), (2, 1), (3, 1), (4, 8)]) (zs := [.int .i64 0, .int .i64 0, .int .i64 0, .int .i64 0, .int .i64 0, .int .i64 0, .int .i64 0, .int .i64 0, .int .i64 0, .int .i64 0, .slice none 0 0, .slice none 0 0]) (show Oper.op _ = Op.build 47 #[(0, Operand.const (Value.int IntKind.i64 4)), (4, Operand.tmp 5)] from rfl) (by rfl) (by kernel_rfl) (by rfl)) (by rfl) (by rfl) ?_
  refine Ls.does none (Does.store 0 (show Oper.op _ = Op.store 47 (Operand.tmp 2) (Operand.tmp 6) from rfl) (by rfl) (by rfl) (by rfl) (by kernel_rfl) (by rfl) (by kernel_rfl) (by rfl)) (by rfl) (by rfl) ?_
  intro _ _
  refine Ls.nil ?_
  refine Cd.ret ?_
  refine Ent.ret (()) (trivial) (Res.cell 0 (by rfl) (by rfl) (by rfl) (n := 12) (by kernel_rfl) (by rfl) (by rfl)) ?_ [] (by rfl) ?_
  · rfl
  · rfl
end Go.Proofs.YtemcigoelcblbaaGreatDoor
/- all commands, made -/
namespace Go.Proofs.YtemcigoelcblbaaGreatDoor
open Go.RowKit
def cmdEnc (p : CmdP × Option Addr) : List Value := [.string (txt p.1.name)] ++ stepV p.1.kind p.1.ik p.1.verb ++ [.slice p.2 p.1.ws.length p.1.ws.length]
def cmdsA (As : Nat → Option Addr) : List (CmdP × Option Addr) := cmdsP.zipIdx.map fun p => (p.1, As p.2)
def wordsV (wb : Wk → Nat) (ws : List Wk) : List Value := ws.flatMap fun κ => κ.word (wb κ)
abbrev cmdW (wb : Wk → Nat) (c : CmdP) (A : Option Addr) : Chunk := rd A c.ws.length 2 (wordsV wb c.ws)
/-- The commands' pieces. -/
abbrev cmdF (wb : Wk → Nat) (As : Nat → Option Addr) : Chunk := starf fun i : Nat => cmdW wb (cmdsP.getD i ⟨[], 0, 0, 0, []⟩) (As i)
abbrev boxF (wb : Wk → Nat) : Chunk := starf fun κ : Wk => κ.box (wb κ)
abbrev cmdR (g : Nat) (As : Nat → Option Addr) : Chunk := rd (some ⟨g, 0, none⟩) 23 14 ((cmdsA As).flatMap cmdEnc)
def wbOf (a b c x y e s r k : Nat) : Wk → Nat
  | .a => a
  | .b => b
  | .c => c
  | .x => x
  | .y => y
  | .e => e
  | .s => s
  | .r => r
  | .k => k
/-- What an operation of the table's region answers. -/
inductive Sp where
  | con (v : Value)
  | ws (l : List Wk)
  | cm (c : CmdP)
  | all
def Sp.V (Γ : Ctx) (wb : Wk → Nat) : Sp → Value → World → Prop
  | .con v, u, _ => u = v
  | .ws l, u, w => ∃ A, u = .slice A l.length l.length ∧ Sat Γ [rd A l.length 2 (wordsV wb l)] w
  | .cm c, u, w => ∃ A, u = .agg (cmdEnc (c, A)).toArray ∧ Sat Γ [cmdW wb c A] w
  | .all, u, w => ∃ (g : Nat) (As : Nat → Option Addr), u = .slice (some ⟨g, 0, none⟩) 23 23 ∧ Sat Γ [cmdR g As] w ∧ ∀ i : Nat, Sat Γ [cmdW wb (cmdsP.getD i ⟨[], 0, 0, 0, []⟩) (As i)] w
theorem Sp.mono {Γ : Ctx} {wb : Wk → Nat} {v : Value} {w w' : World} (s : Sp) (h : s.V Γ wb v w) (hb : Below w.heap.size w w') : s.V Γ wb v w' := by
  cases s with
  | con u => exact h
  | ws l => obtain ⟨A, e, hs⟩ := h; exact ⟨A, e, hs.grow hb⟩
  | cm c => obtain ⟨A, e, hs⟩ := h; exact ⟨A, e, hs.grow hb⟩
  | all => obtain ⟨g, As, e, hs, hh⟩ := h; exact ⟨g, As, e, hs.grow hb, fun i => (hh i).grow hb⟩
theorem sat_nilR {Γ : Ctx} {H : List Chunk} {w : World} {A : Option Addr} {sz : Nat} (h : Sat Γ H w) : Sat Γ [rd A 0 sz []] w :=
  ⟨h.upd, ⟨fun C hC => by
    obtain rfl : C = rd A 0 sz [] := by simpa using hC
    exact ⟨by simp, fun h => absurd h (by omega)⟩, List.pairwise_singleton _ _⟩, fun C hC => by
    obtain rfl : C = rd A 0 sz [] := by simpa using hC
    exact fun k hk _ => absurd hk.1 (by omega)⟩
set_option maxRecDepth 20000 in
set_option maxHeartbeats 1000000 in
theorem commands_sl : Fn Tryz.prog 20 #[] [] (Nat × (Nat → Option Addr) × (Wk → Nat)) (fun p => .slice (some ⟨p.1, 0, none⟩) 23 23) (fun p => [cmdR p.1 p.2.1, cmdF p.2.2 p.2.1, boxF p.2.2]) (fun _ => True) := by
  refine Fn.enter Tryz.func20 rfl Tryz.ntmps20 (by rfl) ?_
  intro w0
  refine Cd.seq ?_
  refine Cd.region ?_
  refine Ls.ev (some 0) (Ev.assign (show Oper.op _ = Op.assign (Operand.const (Value.slice none 0 0)) from rfl) (by rfl)) (by rfl) (by rfl) ?_
  refine Ls.nil ?_
  refine Cd.seq ?_
  refine Cd.region ?_
  refine Ls.does (some 11) (Does.call [] (show Oper.op _ = Op.call { callee := Callee.value (Operand.func 33), args := #[Operand.func 34], argTypes := #[90] } from rfl) Tryz.func33 (by kernel_rfl) (by kernel_rfl) (number_sl 34) (by rfl) (by rfl) (by rfl)) (by rfl) (by rfl) ?_
  rintro ba -
  skip
  refine Ls.does (some 12) (Does.call [0] (show Oper.op _ = Op.call { callee := Callee.value (Operand.func 33), args := #[Operand.func 35], argTypes := #[90] } from rfl) Tryz.func33 (by kernel_rfl) (by kernel_rfl) (number_sl 35) (by rfl) (by rfl) (by rfl)) (by rfl) (by rfl) ?_
  rintro bb -
  skip
  refine Ls.does (some 13) (Does.call [0, 1] (show Oper.op _ = Op.call { callee := Callee.value (Operand.func 33), args := #[Operand.func 36], argTypes := #[90] } from rfl) Tryz.func33 (by kernel_rfl) (by kernel_rfl) (number_sl 36) (by rfl) (by rfl) (by rfl)) (by rfl) (by rfl) ?_
  rintro bc -
  refine Ls.does (some 1) (Does.alloc (cs := [.nilFunc, .nilFunc]) (show Oper.op _ = Op.alloc 69 from rfl) (ZeroIs.mk (.agg #[.nilFunc, .nilFunc]) (by kernel_rfl) (by rfl))) (by rfl) (by rfl) ?_
  intro g1 _
  refine Ls.does (some 2) (Does.alloc (cs := [.nilFunc, .nilFunc]) (show Oper.op _ = Op.alloc 69 from rfl) (ZeroIs.mk (.agg #[.nilFunc, .nilFunc]) (by kernel_rfl) (by rfl))) (by rfl) (by rfl) ?_
  intro g2 _
  refine Ls.does (some 3) (Does.alloc (cs := [.nilFunc, .nilFunc]) (show Oper.op _ = Op.alloc 69 from rfl) (ZeroIs.mk (.agg #[.nilFunc, .nilFunc]) (by kernel_rfl) (by rfl))) (by rfl) (by rfl) ?_
  intro g3 _
  refine Ls.does none (Does.store 2 (show Oper.op _ = Op.store 69 (Operand.tmp 1) (Operand.tmp 11) from rfl) (by rfl) (by rfl) (by rfl) (by kernel_rfl) (by rfl) (by kernel_rfl) (by rfl)) (by rfl) (by rfl) ?_
  intro _ _
  refine Ls.does none (Does.store 1 (show Oper.op _ = Op.store 69 (Operand.tmp 2) (Operand.tmp 12) from rfl) (by rfl) (by rfl) (by rfl) (by kernel_rfl) (by rfl) (by kernel_rfl) (by rfl)) (by rfl) (by rfl) ?_
  intro _ _
  refine Ls.does none (Does.store 0 (show Oper.op _ = Op.store 69 (Operand.tmp 3) (Operand.tmp 13) from rfl) (by rfl) (by rfl) (by rfl) (by kernel_rfl) (by rfl) (by kernel_rfl) (by rfl)) (by rfl) (by rfl) ?_
  intro _ _
  refine Ls.nil ?_
  refine Cd.seq ?_
  refine Ent.pick [2, 1, 0, 5, 4, 3] (by rfl) ?_
  refine Ent.norm ([(1, .pointer (some ⟨g1, 0, none⟩)), (2, .pointer (some ⟨g2, 0, none⟩)), (3, .pointer (some ⟨g3, 0, none⟩))]) ([blk g1 69 (Wk.word .a ba), blk g2 69 (Wk.word .b bb), blk g3 69 (Wk.word .c bc), blk ba (Wk.bt .a) [Wk.val .a], blk bb (Wk.bt .b) [Wk.val .b], blk bc (Wk.bt .c) [Wk.val .c]]) (by repeat (first | exact trivial | refine ⟨by rfl, ?_⟩ | refine ⟨by simp only [List.length_append, List.length_cons, List.length_nil]; rfl, ?_⟩ | refine ⟨by push_cast; rfl, ?_⟩)) (by rfl) ?_
  refine Cd.region ?_
  refine Ls.does (some 14) (Does.call [0, 1, 2, 3, 4, 5] (show Oper.op _ = Op.call { callee := Callee.value (Operand.func 33), args := #[Operand.func 37], argTypes := #[90] } from rfl) Tryz.func33 (by kernel_rfl) (by kernel_rfl) (number_sl 37) (by rfl) (by rfl) (by rfl)) (by rfl) (by rfl) ?_
  rintro bx -
  skip
  refine Ls.does (some 15) (Does.call [0, 1, 2, 3, 4, 5, 6] (show Oper.op _ = Op.call { callee := Callee.value (Operand.func 33), args := #[Operand.func 38], argTypes := #[90] } from rfl) Tryz.func33 (by kernel_rfl) (by kernel_rfl) (number_sl 38) (by rfl) (by rfl) (by rfl)) (by rfl) (by rfl) ?_
  rintro bY -
  refine Ls.does (some 4) (Does.alloc (cs := [.nilFunc, .nilFunc]) (show Oper.op _ = Op.alloc 69 from rfl) (ZeroIs.mk (.agg #[.nilFunc, .nilFunc]) (by kernel_rfl) (by rfl))) (by rfl) (by rfl) ?_
  intro g4 _
  refine Ls.does (some 5) (Does.alloc (cs := [.nilFunc, .nilFunc]) (show Oper.op _ = Op.alloc 69 from rfl) (ZeroIs.mk (.agg #[.nilFunc, .nilFunc]) (by kernel_rfl) (by rfl))) (by rfl) (by rfl) ?_
  intro g5 _
  refine Ls.does none (Does.store 1 (show Oper.op _ = Op.store 69 (Operand.tmp 4) (Operand.tmp 14) from rfl) (by rfl) (by rfl) (by rfl) (by kernel_rfl) (by rfl) (by kernel_rfl) (by rfl)) (by rfl) (by rfl) ?_
  intro _ _
  refine Ls.does none (Does.store 0 (show Oper.op _ = Op.store 69 (Operand.tmp 5) (Operand.tmp 15) from rfl) (by rfl) (by rfl) (by rfl) (by kernel_rfl) (by rfl) (by kernel_rfl) (by rfl)) (by rfl) (by rfl) ?_
  intro _ _
  refine Ls.nil ?_
  refine Cd.seq ?_
  refine Ent.pick [1, 0, 3, 2, 4, 5, 6, 7, 8, 9] (by rfl) ?_
  refine Ent.norm ([(1, .pointer (some ⟨g1, 0, none⟩)), (2, .pointer (some ⟨g2, 0, none⟩)), (3, .pointer (some ⟨g3, 0, none⟩)), (4, .pointer (some ⟨g4, 0, none⟩)), (5, .pointer (some ⟨g5, 0, none⟩))]) ([blk g4 69 (Wk.word .x bx), blk g5 69 (Wk.word .y bY), blk bx (Wk.bt .x) [Wk.val .x], blk bY (Wk.bt .y) [Wk.val .y], blk g1 69 (Wk.word .a ba), blk g2 69 (Wk.word .b bb), blk g3 69 (Wk.word .c bc), blk ba (Wk.bt .a) [Wk.val .a], blk bb (Wk.bt .b) [Wk.val .b], blk bc (Wk.bt .c) [Wk.val .c]]) (by repeat (first | exact trivial | refine ⟨by rfl, ?_⟩ | refine ⟨by simp only [List.length_append, List.length_cons, List.length_nil]; rfl, ?_⟩ | refine ⟨by push_cast; rfl, ?_⟩)) (by rfl) ?_
  refine Cd.region ?_
  refine Ls.does (some 16) (Does.call [0, 1, 2, 3, 4, 5, 6, 7, 8, 9] (show Oper.op _ = Op.call { callee := Callee.value (Operand.func 33), args := #[Operand.func 39], argTypes := #[90] } from rfl) Tryz.func33 (by kernel_rfl) (by kernel_rfl) (number_sl 39) (by rfl) (by rfl) (by rfl)) (by rfl) (by rfl) ?_
  rintro be -
  skip
  refine Ls.does (some 17) (Does.call [0, 1, 2, 3, 4, 5, 6, 7, 8, 9, 10] (show Oper.op _ = Op.call { callee := Callee.value (Operand.func 33), args := #[Operand.func 40], argTypes := #[90] } from rfl) Tryz.func33 (by kernel_rfl) (by kernel_rfl) (number_sl 40) (by rfl) (by rfl) (by rfl)) (by rfl) (by rfl) ?_
  rintro bs -
  refine Ls.does (some 6) (Does.alloc (cs := [.nilFunc, .nilFunc]) (show Oper.op _ = Op.alloc 69 from rfl) (ZeroIs.mk (.agg #[.nilFunc, .nilFunc]) (by kernel_rfl) (by rfl))) (by rfl) (by rfl) ?_
  intro g6 _
  refine Ls.does (some 7) (Does.alloc (cs := [.nilFunc, .nilFunc]) (show Oper.op _ = Op.alloc 69 from rfl) (ZeroIs.mk (.agg #[.nilFunc, .nilFunc]) (by kernel_rfl) (by rfl))) (by rfl) (by rfl) ?_
  intro g7 _
  refine Ls.does none (Does.store 1 (show Oper.op _ = Op.store 69 (Operand.tmp 6) (Operand.tmp 16) from rfl) (by rfl) (by rfl) (by rfl) (by kernel_rfl) (by rfl) (by kernel_rfl) (by rfl)) (by rfl) (by rfl) ?_
  intro _ _
  refine Ls.does none (Does.store 0 (show Oper.op _ = Op.store 69 (Operand.tmp 7) (Operand.tmp 17) from rfl) (by rfl) (by rfl) (by rfl) (by kernel_rfl) (by rfl) (by kernel_rfl) (by rfl)) (by rfl) (by rfl) ?_
  intro _ _
  refine Ls.nil ?_
  refine Cd.seq ?_
  refine Ent.pick [1, 0, 3, 2, 4, 5, 6, 7, 8, 9, 10, 11, 12, 13] (by rfl) ?_
  refine Ent.norm ([(1, .pointer (some ⟨g1, 0, none⟩)), (2, .pointer (some ⟨g2, 0, none⟩)), (3, .pointer (some ⟨g3, 0, none⟩)), (4, .pointer (some ⟨g4, 0, none⟩)), (5, .pointer (some ⟨g5, 0, none⟩)), (6, .pointer (some ⟨g6, 0, none⟩)), (7, .pointer (some ⟨g7, 0, none⟩))]) ([blk g6 69 (Wk.word .e be), blk g7 69 (Wk.word .s bs), blk be (Wk.bt .e) [Wk.val .e], blk bs (Wk.bt .s) [Wk.val .s], blk g4 69 (Wk.word .x bx), blk g5 69 (Wk.word .y bY), blk bx (Wk.bt .x) [Wk.val .x], blk bY (Wk.bt .y) [Wk.val .y], blk g1 69 (Wk.word .a ba), blk g2 69 (Wk.word .b bb), blk g3 69 (Wk.word .c bc), blk ba (Wk.bt .a) [Wk.val .a], blk bb (Wk.bt .b) [Wk.val .b], blk bc (Wk.bt .c) [Wk.val .c]]) (by repeat (first | exact trivial | refine ⟨by rfl, ?_⟩ | refine ⟨by simp only [List.length_append, List.length_cons, List.length_nil]; rfl, ?_⟩ | refine ⟨by push_cast; rfl, ?_⟩)) (by rfl) ?_
  refine Cd.region ?_
  refine Ls.does (some 18) (Does.call [0, 1, 2, 3, 4, 5, 6, 7, 8, 9, 10, 11, 12, 13] (show Oper.op _ = Op.call { callee := Callee.value (Operand.func 41), args := #[Operand.func 42], argTypes := #[93] } from rfl) Tryz.func41 (by kernel_rfl) (by kernel_rfl) (listw_sl 42) (by rfl) (by rfl) (by rfl)) (by rfl) (by rfl) ?_
  rintro br -
  skip
  refine Ls.does (some 19) (Does.call [0, 1, 2, 3, 4, 5, 6, 7, 8, 9, 10, 11, 12, 13, 14] (show Oper.op _ = Op.call { callee := Callee.value (Operand.func 41), args := #[Operand.func 43], argTypes := #[93] } from rfl) Tryz.func41 (by kernel_rfl) (by kernel_rfl) (listw_sl 43) (by rfl) (by rfl) (by rfl)) (by rfl) (by rfl) ?_
  rintro bk -
  refine Ls.does (some 8) (Does.alloc (cs := [.nilFunc, .nilFunc]) (show Oper.op _ = Op.alloc 69 from rfl) (ZeroIs.mk (.agg #[.nilFunc, .nilFunc]) (by kernel_rfl) (by rfl))) (by rfl) (by rfl) ?_
  intro g8 _
  refine Ls.does (some 9) (Does.alloc (cs := [.nilFunc, .nilFunc]) (show Oper.op _ = Op.alloc 69 from rfl) (ZeroIs.mk (.agg #[.nilFunc, .nilFunc]) (by kernel_rfl) (by rfl))) (by rfl) (by rfl) ?_
  intro g9 _
  refine Ls.does none (Does.store 1 (show Oper.op _ = Op.store 69 (Operand.tmp 8) (Operand.tmp 18) from rfl) (by rfl) (by rfl) (by rfl) (by kernel_rfl) (by rfl) (by kernel_rfl) (by rfl)) (by rfl) (by rfl) ?_
  intro _ _
  refine Ls.does none (Does.store 0 (show Oper.op _ = Op.store 69 (Operand.tmp 9) (Operand.tmp 19) from rfl) (by rfl) (by rfl) (by rfl) (by kernel_rfl) (by rfl) (by kernel_rfl) (by rfl)) (by rfl) (by rfl) ?_
  intro _ _
  refine Ls.nil ?_
  refine Cd.seq ?_
  refine Ent.pick [1, 0, 3, 2, 4, 5, 6, 7, 8, 9, 10, 11, 12, 13, 14, 15, 16, 17] (by rfl) ?_
  refine Ent.norm ([(1, .pointer (some ⟨g1, 0, none⟩)), (2, .pointer (some ⟨g2, 0, none⟩)), (3, .pointer (some ⟨g3, 0, none⟩)), (4, .pointer (some ⟨g4, 0, none⟩)), (5, .pointer (some ⟨g5, 0, none⟩)), (6, .pointer (some ⟨g6, 0, none⟩)), (7, .pointer (some ⟨g7, 0, none⟩)), (8, .pointer (some ⟨g8, 0, none⟩)), (9, .pointer (some ⟨g9, 0, none⟩))]) ([blk g8 69 (Wk.word .r br), blk g9 69 (Wk.word .k bk), blk br (Wk.bt .r) [Wk.val .r], blk bk (Wk.bt .k) [Wk.val .k], blk g6 69 (Wk.word .e be), blk g7 69 (Wk.word .s bs), blk be (Wk.bt .e) [Wk.val .e], blk bs (Wk.bt .s) [Wk.val .s], blk g4 69 (Wk.word .x bx), blk g5 69 (Wk.word .y bY), blk bx (Wk.bt .x) [Wk.val .x], blk bY (Wk.bt .y) [Wk.val .y], blk g1 69 (Wk.word .a ba), blk g2 69 (Wk.word .b bb), blk g3 69 (Wk.word .c bc), blk ba (Wk.bt .a) [Wk.val .a], blk bb (Wk.bt .b) [Wk.val .b], blk bc (Wk.bt .c) [Wk.val .c]]) (by repeat (first | exact trivial | refine ⟨by rfl, ?_⟩ | refine ⟨by simp only [List.length_append, List.length_cons, List.length_nil]; rfl, ?_⟩ | refine ⟨by push_cast; rfl, ?_⟩)) (by rfl) ?_
  refine Ent.pick [8, 12, 13, 14, 9, 4, 5, 0, 1, 15, 16, 17, 10, 11, 6, 7, 2, 3] (by rfl) ?_
  refine Cd.region ?_
  refine Ls.ev (some 20) (Ev.loads 0 (show Oper.op _ = Op.load 69 (Operand.tmp 4) from rfl) (by rfl) (by rfl) (n := 2) (by kernel_rfl) (by rfl) (by rfl)) (by rfl) (by rfl) ?_
  refine Ls.does (some 21) (Does.lit (sz := 2) (show Oper.op _ = Op.buildSlice 64 1 #[(0, Operand.tmp 20)] from rfl) (by rfl) Tryz.underlying64 (by kernel_rfl) (by rfl) (by kernel_rfl)) (by rfl) (by rfl) ?_
  intro g10 _
  refine Ls.ev (some 10) (Ev.assign (show Oper.op _ = Op.assign (Operand.tmp 21) from rfl) (by rfl)) (by rfl) (by rfl) ?_
  refine Ls.nil ?_
  refine Cd.seq ?_
  obtain ⟨wb, hwb⟩ : ∃ wb, wb = wbOf ba bb bc bx bY be bs br bk := ⟨_, rfl⟩
  refine Ent.see 0 (by rfl) ?_
  refine Ent.pick [1, 2, 3, 4, 5, 6, 7, 8, 9, 10, 11, 12, 13, 14, 15, 16, 17, 18, 0] (by rfl) ?_
  refine Ent.seeL [(g4, 69, Wk.word .x bx), (g1, 69, Wk.word .a ba), (g2, 69, Wk.word .b bb), (g3, 69, Wk.word .c bc), (g5, 69, Wk.word .y bY), (g6, 69, Wk.word .e be), (g7, 69, Wk.word .s bs), (g8, 69, Wk.word .r br), (g9, 69, Wk.word .k bk), (ba, Wk.bt .a, [Wk.val .a]), (bb, Wk.bt .b, [Wk.val .b]), (bc, Wk.bt .c, [Wk.val .c]), (bx, Wk.bt .x, [Wk.val .x]), (bY, Wk.bt .y, [Wk.val .y]), (be, Wk.bt .e, [Wk.val .e]), (bs, Wk.bt .s, [Wk.val .s]), (br, Wk.bt .r, [Wk.val .r]), (bk, Wk.bt .k, [Wk.val .k])] [rd (some ⟨g10, 0, none⟩) 1 2 (Wk.word .x bx)] (by rfl) ?_
  refine Ent.pick [18, 0, 1, 2, 3, 4, 5, 6, 7, 8, 9, 10, 11, 12, 13, 14, 15, 16, 17] (by rfl) ?_
  refine Ent.norm ([(1, .pointer (some ⟨g1, 0, none⟩)), (2, .pointer (some ⟨g2, 0, none⟩)), (3, .pointer (some ⟨g3, 0, none⟩)), (4, .pointer (some ⟨g4, 0, none⟩)), (5, .pointer (some ⟨g5, 0, none⟩)), (6, .pointer (some ⟨g6, 0, none⟩)), (7, .pointer (some ⟨g7, 0, none⟩)), (8, .pointer (some ⟨g8, 0, none⟩)), (9, .pointer (some ⟨g9, 0, none⟩)), (10, .slice (some ⟨g10, 0, none⟩) 1 1)]) ([rd (some ⟨g10, 0, none⟩) 1 2 (wordsV wb [.x]), rblk g4 69 (Wk.word .x (wb .x)), rblk g1 69 (Wk.word .a (wb .a)), rblk g2 69 (Wk.word .b (wb .b)), rblk g3 69 (Wk.word .c (wb .c)), rblk g5 69 (Wk.word .y (wb .y)), rblk g6 69 (Wk.word .e (wb .e)), rblk g7 69 (Wk.word .s (wb .s)), rblk g8 69 (Wk.word .r (wb .r)), rblk g9 69 (Wk.word .k (wb .k)), Wk.box .a (wb .a), Wk.box .b (wb .b), Wk.box .c (wb .c), Wk.box .x (wb .x), Wk.box .y (wb .y), Wk.box .e (wb .e), Wk.box .s (wb .s), Wk.box .r (wb .r), Wk.box .k (wb .k)]) (by repeat (first | exact trivial | refine ⟨by rfl, ?_⟩ | refine ⟨by simp only [List.length_append, List.length_cons, List.length_nil]; rfl, ?_⟩ | refine ⟨by push_cast; rfl, ?_⟩)) (by subst hwb; rfl) ?_
  refine Cd.lay (fun j => Sp.V ⟨w0, []⟩ wb (([.con (.agg (stepV 1 0 0).toArray), .con (.agg (Wk.word .a (wb .a)).toArray), .con (.agg (Wk.word .b (wb .b)).toArray), .con (.agg (Wk.word .c (wb .c)).toArray), .ws [.a, .b, .c], .cm (⟨[109, 97, 112], 1, 0, 0, [.a, .b, .c]⟩ : CmdP), .con (.agg (stepV 2 0 0).toArray), .con (.agg (Wk.word .a (wb .a)).toArray), .ws [.a], .cm (⟨[98, 108, 111, 99, 107], 2, 0, 0, [.a]⟩ : CmdP), .con (.agg (stepV 3 0 0).toArray), .con (.agg (Wk.word .a (wb .a)).toArray), .ws [.a], .cm (⟨[100, 111, 99, 107], 3, 0, 0, [.a]⟩ : CmdP), .con (.agg (stepV 5 0 0).toArray), .cm (⟨[104, 105, 115, 116, 111, 114, 121], 5, 0, 0, []⟩ : CmdP), .con (.agg (stepV 7 0 0).toArray), .cm (⟨[106, 117, 100, 103, 101], 7, 0, 0, []⟩ : CmdP), .con (.agg (stepV 8 0 0).toArray), .cm (⟨[115, 101, 101, 110], 8, 0, 0, []⟩ : CmdP), .con (.agg (stepV 6 0 0).toArray), .con (.agg (Wk.word .a (wb .a)).toArray), .con (.agg (Wk.word .k (wb .k)).toArray), .ws [.a, .k], .cm (⟨[115, 116, 111, 114, 101, 100], 6, 0, 0, [.a, .k]⟩ : CmdP), .con (.agg (stepV 4 2 0).toArray), .ws [.x], .cm (⟨[100, 101, 108, 105, 118, 101, 114], 4, 2, 0, [.x]⟩ : CmdP), .con (.agg (stepV 4 3 0).toArray), .ws [.x], .cm (⟨[100, 114, 111, 112], 4, 3, 0, [.x]⟩ : CmdP), .con (.agg (stepV 4 4 0).toArray), .ws [.x], .cm (⟨[99, 111, 112, 121], 4, 4, 0, [.x]⟩ : CmdP), .con (.agg (stepV 4 5 0).toArray), .ws [.x], .cm (⟨[116, 105, 99, 107], 4, 5, 0, [.x]⟩ : CmdP), .con (.agg (stepV 4 6 0).toArray), .ws [.x], .cm (⟨[115, 116, 101, 112], 4, 6, 0, [.x]⟩ : CmdP), .con (.agg (stepV 4 11 0).toArray), .ws [.x], .cm (⟨[112, 105, 108, 111, 116], 4, 11, 0, [.x]⟩ : CmdP), .con (.agg (stepV 4 7 0).toArray), .con (.agg (Wk.word .x (wb .x)).toArray), .con (.agg (Wk.word .y (wb .y)).toArray), .ws [.x, .y], .cm (⟨[97, 114, 109], 4, 7, 0, [.x, .y]⟩ : CmdP), .con (.agg (stepV 4 10 0).toArray), .con (.agg (Wk.word .x (wb .x)).toArray), .con (.agg (Wk.word .y (wb .y)).toArray), .ws [.x, .y], .cm (⟨[116, 97, 115, 107], 4, 10, 0, [.x, .y]⟩ : CmdP), .con (.agg (stepV 4 8 0).toArray), .con (.agg (Wk.word .x (wb .x)).toArray), .con (.agg (Wk.word .k (wb .k)).toArray), .ws [.x, .k], .cm (⟨[99, 114, 97, 115, 104], 4, 8, 0, [.x, .k]⟩ : CmdP), .con (.agg (stepV 4 9 0).toArray), .con (.agg (Wk.word .x (wb .x)).toArray), .con (.agg (Wk.word .k (wb .k)).toArray), .ws [.x, .k], .cm (⟨[115, 116, 97, 114, 116], 4, 9, 0, [.x, .k]⟩ : CmdP), .con (.agg (stepV 4 1 1).toArray), .ws [.x], .cm (⟨[114, 101, 103, 105, 115, 116, 101, 114], 4, 1, 1, [.x]⟩ : CmdP), .con (.agg (stepV 4 1 6).toArray), .ws [.x], .cm (⟨[113, 117, 101, 114, 121], 4, 1, 6, [.x]⟩ : CmdP), .con (.agg (stepV 4 1 2).toArray), .con (.agg (Wk.word .x (wb .x)).toArray), .con (.agg (Wk.word .e (wb .e)).toArray), .ws [.x, .e], .cm (⟨[98, 101, 97, 116], 4, 1, 2, [.x, .e]⟩ : CmdP), .con (.agg (stepV 4 1 5).toArray), .con (.agg (Wk.word .x (wb .x)).toArray), .con (.agg (Wk.word .e (wb .e)).toArray), .ws [.x, .e], .cm (⟨[114, 101, 108, 101, 97, 115, 101], 4, 1, 5, [.x, .e]⟩ : CmdP), .con (.agg (stepV 4 1 3).toArray), .con (.agg (Wk.word .x (wb .x)).toArray), .con (.agg (Wk.word .e (wb .e)).toArray), .con (.agg (Wk.word .s (wb .s)).toArray), .con (.agg (Wk.word .r (wb .r)).toArray), .ws [.x, .e, .s, .r], .cm (⟨[114, 101, 115, 101, 114, 118, 101], 4, 1, 3, [.x, .e, .s, .r]⟩ : CmdP), .con (.agg (stepV 4 1 4).toArray), .con (.agg (Wk.word .x (wb .x)).toArray), .con (.agg (Wk.word .e (wb .e)).toArray), .con (.agg (Wk.word .r (wb .r)).toArray), .ws [.x, .e, .r], .cm (⟨[101, 120, 116, 101, 110, 100], 4, 1, 4, [.x, .e, .r]⟩ : CmdP), .all, .all] : List Sp).getD j (.con undef))) (by kernel_rfl) (by kernel_rfl) (fun j v w w' => Sp.mono _) ⟨?_, ?_, ?_, ?_, ?_, ?_, ?_, ?_, ?_, ?_, ?_, ?_, ?_, ?_, ?_, ?_, ?_, ?_, ?_, ?_, ?_, ?_, ?_, ?_, ?_, ?_, ?_, ?_, ?_, ?_, ?_, ?_, ?_, ?_, ?_, ?_, ?_, ?_, ?_, ?_, ?_, ?_, ?_, ?_, ?_, ?_, ?_, ?_, ?_, ?_, ?_, ?_, ?_, ?_, ?_, ?_, ?_, ?_, ?_, ?_, ?_, ?_, ?_, ?_, ?_, ?_, ?_, ?_, ?_, ?_, ?_, ?_, ?_, ?_, ?_, ?_, ?_, ?_, ?_, ?_, ?_, ?_, ?_, ?_, ?_, ?_, ?_, ?_, ?_, ?_, ?_, ?_, ?_, ?_, trivial⟩ 93 0 (by kernel_rfl) ?_
  · exact lay_ev [] (by kernel_rfl) (fun a w hr hs _ => ⟨_, (Ev.buildP (pl := [(0, 1), (1, 1), (2, 1), (3, 1), (4, 8)]) (zs := [.int .i64 0, .int .i64 0, .int .i64 0, .int .i64 0, .int .i64 0, .int .i64 0, .int .i64 0, .int .i64 0, .int .i64 0, .int .i64 0, .slice none 0 0, .slice none 0 0]) (show Oper.op _ = Op.build 47 #[(0, Operand.const (Value.int IntKind.i64 1))] from rfl) (by rfl) (by kernel_rfl) (by rfl)).run a w hr hs, rfl⟩)
  · exact lay_ev [] (by kernel_rfl) (fun a w hr hs _ => ⟨_, (Ev.loadsB (n := 2) 2 (show Oper.op _ = Op.load 69 (Operand.tmp 1) from rfl) (by rfl) (by rfl) (by kernel_rfl) (by rfl) (by rfl)).run a w hr hs, rfl⟩)
  · exact lay_ev [] (by kernel_rfl) (fun a w hr hs _ => ⟨_, (Ev.loadsB (n := 2) 3 (show Oper.op _ = Op.load 69 (Operand.tmp 2) from rfl) (by rfl) (by rfl) (by kernel_rfl) (by rfl) (by rfl)).run a w hr hs, rfl⟩)
  · exact lay_ev [] (by kernel_rfl) (fun a w hr hs _ => ⟨_, (Ev.loadsB (n := 2) 4 (show Oper.op _ = Op.load 69 (Operand.tmp 3) from rfl) (by rfl) (by rfl) (by kernel_rfl) (by rfl) (by rfl)).run a w hr hs, rfl⟩)
  · exact lay_does [(1, 23), (2, 24), (3, 25)] (by kernel_rfl) (fun a w hr hs hd => by
          obtain ⟨⟨v0, h0, e0⟩, ⟨v1, h1, e1⟩, ⟨v2, h2, e2⟩, -⟩ := hd
          obtain rfl : v0 = .agg (Wk.word .a (wb .a)).toArray := e0
          obtain rfl : v1 = .agg (Wk.word .b (wb .b)).toArray := e1
          obtain rfl : v2 = .agg (Wk.word .c (wb .c)).toArray := e2
          exact ⟨_, Nat, _, _, _, (((hr.add h0).add h1).add h2), Does.lit (sz := 2) (show Oper.op _ = Op.buildSlice 64 3 #[(0, Operand.tmp 23), (1, Operand.tmp 24), (2, Operand.tmp 25)] from rfl) (by rfl) Tryz.underlying64 (by kernel_rfl) (by rfl) (by kernel_rfl), fun g w' _ hb hs' => ⟨_, rfl, (hs'.see (i := 0) rfl rfl row_rd.1 row_rd.2).one 0 rfl⟩⟩)
  · exact lay_ev [(0, 22), (4, 26)] (by kernel_rfl) (fun a w hr hs hd => by
          obtain ⟨⟨v0, h0, e0⟩, ⟨v1, h1, ⟨A1, e1, s1⟩⟩, -⟩ := hd
          obtain rfl : v0 = .agg (stepV 1 0 0).toArray := e0
          obtain rfl : v1 = .slice A1 3 3 := e1
          exact ⟨_, (Ev.buildP (pl := [(0, 1), (1, 12), (13, 1)]) (zs := [.string ⟨#[]⟩, .int .i64 0, .int .i64 0, .int .i64 0, .int .i64 0, .int .i64 0, .int .i64 0, .int .i64 0, .int .i64 0, .int .i64 0, .int .i64 0, .slice none 0 0, .slice none 0 0, .slice none 0 0]) (show Oper.op _ = Op.build 66 #[(0, Operand.const (Value.string { data := #[109, 97, 112] })), (1, Operand.tmp 22), (2, Operand.tmp 26)] from rfl) (by rfl) (by kernel_rfl) (by rfl)).run a w ((hr.add h0).add h1) hs, ⟨A1, rfl, s1⟩⟩)
  · exact lay_ev [] (by kernel_rfl) (fun a w hr hs _ => ⟨_, (Ev.buildP (pl := [(0, 1), (1, 1), (2, 1), (3, 1), (4, 8)]) (zs := [.int .i64 0, .int .i64 0, .int .i64 0, .int .i64 0, .int .i64 0, .int .i64 0, .int .i64 0, .int .i64 0, .int .i64 0, .int .i64 0, .slice none 0 0, .slice none 0 0]) (show Oper.op _ = Op.build 47 #[(0, Operand.const (Value.int IntKind.i64 2))] from rfl) (by rfl) (by kernel_rfl) (by rfl)).run a w hr hs, rfl⟩)
  · exact lay_ev [] (by kernel_rfl) (fun a w hr hs _ => ⟨_, (Ev.loadsB (n := 2) 2 (show Oper.op _ = Op.load 69 (Operand.tmp 1) from rfl) (by rfl) (by rfl) (by kernel_rfl) (by rfl) (by rfl)).run a w hr hs, rfl⟩)
  · exact lay_does [(7, 29)] (by kernel_rfl) (fun a w hr hs hd => by
          obtain ⟨⟨v0, h0, e0⟩, -⟩ := hd
          obtain rfl : v0 = .agg (Wk.word .a (wb .a)).toArray := e0
          exact ⟨_, Nat, _, _, _, (hr.add h0), Does.lit (sz := 2) (show Oper.op _ = Op.buildSlice 64 1 #[(0, Operand.tmp 29)] from rfl) (by rfl) Tryz.underlying64 (by kernel_rfl) (by rfl) (by kernel_rfl), fun g w' _ hb hs' => ⟨_, rfl, (hs'.see (i := 0) rfl rfl row_rd.1 row_rd.2).one 0 rfl⟩⟩)
  · exact lay_ev [(6, 28), (8, 30)] (by kernel_rfl) (fun a w hr hs hd => by
          obtain ⟨⟨v0, h0, e0⟩, ⟨v1, h1, ⟨A1, e1, s1⟩⟩, -⟩ := hd
          obtain rfl : v0 = .agg (stepV 2 0 0).toArray := e0
          obtain rfl : v1 = .slice A1 1 1 := e1
          exact ⟨_, (Ev.buildP (pl := [(0, 1), (1, 12), (13, 1)]) (zs := [.string ⟨#[]⟩, .int .i64 0, .int .i64 0, .int .i64 0, .int .i64 0, .int .i64 0, .int .i64 0, .int .i64 0, .int .i64 0, .int .i64 0, .int .i64 0, .slice none 0 0, .slice none 0 0, .slice none 0 0]) (show Oper.op _ = Op.build 66 #[(0, Operand.const (Value.string { data := #[98, 108, 111, 99, 107] })), (1, Operand.tmp 28), (2, Operand.tmp 30)] from rfl) (by rfl) (by kernel_rfl) (by rfl)).run a w ((hr.add h0).add h1) hs, ⟨A1, rfl, s1⟩⟩)
  · exact lay_ev [] (by kernel_rfl) (fun a w hr hs _ => ⟨_, (Ev.buildP (pl := [(0, 1), (1, 1), (2, 1), (3, 1), (4, 8)]) (zs := [.int .i64 0, .int .i64 0, .int .i64 0, .int .i64 0, .int .i64 0, .int .i64 0, .int .i64 0, .int .i64 0, .int .i64 0, .int .i64 0, .slice none 0 0, .slice none 0 0]) (show Oper.op _ = Op.build 47 #[(0, Operand.const (Value.int IntKind.i64 3))] from rfl) (by rfl) (by kernel_rfl) (by rfl)).run a w hr hs, rfl⟩)
  · exact lay_ev [] (by kernel_rfl) (fun a w hr hs _ => ⟨_, (Ev.loadsB (n := 2) 2 (show Oper.op _ = Op.load 69 (Operand.tmp 1) from rfl) (by rfl) (by rfl) (by kernel_rfl) (by rfl) (by rfl)).run a w hr hs, rfl⟩)
  · exact lay_does [(11, 33)] (by kernel_rfl) (fun a w hr hs hd => by
          obtain ⟨⟨v0, h0, e0⟩, -⟩ := hd
          obtain rfl : v0 = .agg (Wk.word .a (wb .a)).toArray := e0
          exact ⟨_, Nat, _, _, _, (hr.add h0), Does.lit (sz := 2) (show Oper.op _ = Op.buildSlice 64 1 #[(0, Operand.tmp 33)] from rfl) (by rfl) Tryz.underlying64 (by kernel_rfl) (by rfl) (by kernel_rfl), fun g w' _ hb hs' => ⟨_, rfl, (hs'.see (i := 0) rfl rfl row_rd.1 row_rd.2).one 0 rfl⟩⟩)
  · exact lay_ev [(10, 32), (12, 34)] (by kernel_rfl) (fun a w hr hs hd => by
          obtain ⟨⟨v0, h0, e0⟩, ⟨v1, h1, ⟨A1, e1, s1⟩⟩, -⟩ := hd
          obtain rfl : v0 = .agg (stepV 3 0 0).toArray := e0
          obtain rfl : v1 = .slice A1 1 1 := e1
          exact ⟨_, (Ev.buildP (pl := [(0, 1), (1, 12), (13, 1)]) (zs := [.string ⟨#[]⟩, .int .i64 0, .int .i64 0, .int .i64 0, .int .i64 0, .int .i64 0, .int .i64 0, .int .i64 0, .int .i64 0, .int .i64 0, .int .i64 0, .slice none 0 0, .slice none 0 0, .slice none 0 0]) (show Oper.op _ = Op.build 66 #[(0, Operand.const (Value.string { data := #[100, 111, 99, 107] })), (1, Operand.tmp 32), (2, Operand.tmp 34)] from rfl) (by rfl) (by kernel_rfl) (by rfl)).run a w ((hr.add h0).add h1) hs, ⟨A1, rfl, s1⟩⟩)
  · exact lay_ev [] (by kernel_rfl) (fun a w hr hs _ => ⟨_, (Ev.buildP (pl := [(0, 1), (1, 1), (2, 1), (3, 1), (4, 8)]) (zs := [.int .i64 0, .int .i64 0, .int .i64 0, .int .i64 0, .int .i64 0, .int .i64 0, .int .i64 0, .int .i64 0, .int .i64 0, .int .i64 0, .slice none 0 0, .slice none 0 0]) (show Oper.op _ = Op.build 47 #[(0, Operand.const (Value.int IntKind.i64 5))] from rfl) (by rfl) (by kernel_rfl) (by rfl)).run a w hr hs, rfl⟩)
  · exact lay_ev [(14, 36)] (by kernel_rfl) (fun a w hr hs hd => by
          obtain ⟨⟨v0, h0, e0⟩, -⟩ := hd
          obtain rfl : v0 = .agg (stepV 5 0 0).toArray := e0
          exact ⟨_, (Ev.buildP (pl := [(0, 1), (1, 12), (13, 1)]) (zs := [.string ⟨#[]⟩, .int .i64 0, .int .i64 0, .int .i64 0, .int .i64 0, .int .i64 0, .int .i64 0, .int .i64 0, .int .i64 0, .int .i64 0, .int .i64 0, .slice none 0 0, .slice none 0 0, .slice none 0 0]) (show Oper.op _ = Op.build 66 #[(0, Operand.const (Value.string { data := #[104, 105, 115, 116, 111, 114, 121] })), (1, Operand.tmp 36), (2, Operand.const (Value.slice none 0 0))] from rfl) (by rfl) (by kernel_rfl) (by rfl)).run a w (hr.add h0) hs, ⟨none, rfl, sat_nilR hs⟩⟩)
  · exact lay_ev [] (by kernel_rfl) (fun a w hr hs _ => ⟨_, (Ev.buildP (pl := [(0, 1), (1, 1), (2, 1), (3, 1), (4, 8)]) (zs := [.int .i64 0, .int .i64 0, .int .i64 0, .int .i64 0, .int .i64 0, .int .i64 0, .int .i64 0, .int .i64 0, .int .i64 0, .int .i64 0, .slice none 0 0, .slice none 0 0]) (show Oper.op _ = Op.build 47 #[(0, Operand.const (Value.int IntKind.i64 7))] from rfl) (by rfl) (by kernel_rfl) (by rfl)).run a w hr hs, rfl⟩)
  · exact lay_ev [(16, 38)] (by kernel_rfl) (fun a w hr hs hd => by
          obtain ⟨⟨v0, h0, e0⟩, -⟩ := hd
          obtain rfl : v0 = .agg (stepV 7 0 0).toArray := e0
          exact ⟨_, (Ev.buildP (pl := [(0, 1), (1, 12), (13, 1)]) (zs := [.string ⟨#[]⟩, .int .i64 0, .int .i64 0, .int .i64 0, .int .i64 0, .int .i64 0, .int .i64 0, .int .i64 0, .int .i64 0, .int .i64 0, .int .i64 0, .slice none 0 0, .slice none 0 0, .slice none 0 0]) (show Oper.op _ = Op.build 66 #[(0, Operand.const (Value.string { data := #[106, 117, 100, 103, 101] })), (1, Operand.tmp 38), (2, Operand.const (Value.slice none 0 0))] from rfl) (by rfl) (by kernel_rfl) (by rfl)).run a w (hr.add h0) hs, ⟨none, rfl, sat_nilR hs⟩⟩)
  · exact lay_ev [] (by kernel_rfl) (fun a w hr hs _ => ⟨_, (Ev.buildP (pl := [(0, 1), (1, 1), (2, 1), (3, 1), (4, 8)]) (zs := [.int .i64 0, .int .i64 0, .int .i64 0, .int .i64 0, .int .i64 0, .int .i64 0, .int .i64 0, .int .i64 0, .int .i64 0, .int .i64 0, .slice none 0 0, .slice none 0 0]) (show Oper.op _ = Op.build 47 #[(0, Operand.const (Value.int IntKind.i64 8))] from rfl) (by rfl) (by kernel_rfl) (by rfl)).run a w hr hs, rfl⟩)
  · exact lay_ev [(18, 40)] (by kernel_rfl) (fun a w hr hs hd => by
          obtain ⟨⟨v0, h0, e0⟩, -⟩ := hd
          obtain rfl : v0 = .agg (stepV 8 0 0).toArray := e0
          exact ⟨_, (Ev.buildP (pl := [(0, 1), (1, 12), (13, 1)]) (zs := [.string ⟨#[]⟩, .int .i64 0, .int .i64 0, .int .i64 0, .int .i64 0, .int .i64 0, .int .i64 0, .int .i64 0, .int .i64 0, .int .i64 0, .int .i64 0, .slice none 0 0, .slice none 0 0, .slice none 0 0]) (show Oper.op _ = Op.build 66 #[(0, Operand.const (Value.string { data := #[115, 101, 101, 110] })), (1, Operand.tmp 40), (2, Operand.const (Value.slice none 0 0))] from rfl) (by rfl) (by kernel_rfl) (by rfl)).run a w (hr.add h0) hs, ⟨none, rfl, sat_nilR hs⟩⟩)
  · exact lay_ev [] (by kernel_rfl) (fun a w hr hs _ => ⟨_, (Ev.buildP (pl := [(0, 1), (1, 1), (2, 1), (3, 1), (4, 8)]) (zs := [.int .i64 0, .int .i64 0, .int .i64 0, .int .i64 0, .int .i64 0, .int .i64 0, .int .i64 0, .int .i64 0, .int .i64 0, .int .i64 0, .slice none 0 0, .slice none 0 0]) (show Oper.op _ = Op.build 47 #[(0, Operand.const (Value.int IntKind.i64 6))] from rfl) (by rfl) (by kernel_rfl) (by rfl)).run a w hr hs, rfl⟩)
  · exact lay_ev [] (by kernel_rfl) (fun a w hr hs _ => ⟨_, (Ev.loadsB (n := 2) 2 (show Oper.op _ = Op.load 69 (Operand.tmp 1) from rfl) (by rfl) (by rfl) (by kernel_rfl) (by rfl) (by rfl)).run a w hr hs, rfl⟩)
  · exact lay_ev [] (by kernel_rfl) (fun a w hr hs _ => ⟨_, (Ev.loadsB (n := 2) 9 (show Oper.op _ = Op.load 69 (Operand.tmp 9) from rfl) (by rfl) (by rfl) (by kernel_rfl) (by rfl) (by rfl)).run a w hr hs, rfl⟩)
  · exact lay_does [(21, 43), (22, 44)] (by kernel_rfl) (fun a w hr hs hd => by
          obtain ⟨⟨v0, h0, e0⟩, ⟨v1, h1, e1⟩, -⟩ := hd
          obtain rfl : v0 = .agg (Wk.word .a (wb .a)).toArray := e0
          obtain rfl : v1 = .agg (Wk.word .k (wb .k)).toArray := e1
          exact ⟨_, Nat, _, _, _, ((hr.add h0).add h1), Does.lit (sz := 2) (show Oper.op _ = Op.buildSlice 64 2 #[(0, Operand.tmp 43), (1, Operand.tmp 44)] from rfl) (by rfl) Tryz.underlying64 (by kernel_rfl) (by rfl) (by kernel_rfl), fun g w' _ hb hs' => ⟨_, rfl, (hs'.see (i := 0) rfl rfl row_rd.1 row_rd.2).one 0 rfl⟩⟩)
  · exact lay_ev [(20, 42), (23, 45)] (by kernel_rfl) (fun a w hr hs hd => by
          obtain ⟨⟨v0, h0, e0⟩, ⟨v1, h1, ⟨A1, e1, s1⟩⟩, -⟩ := hd
          obtain rfl : v0 = .agg (stepV 6 0 0).toArray := e0
          obtain rfl : v1 = .slice A1 2 2 := e1
          exact ⟨_, (Ev.buildP (pl := [(0, 1), (1, 12), (13, 1)]) (zs := [.string ⟨#[]⟩, .int .i64 0, .int .i64 0, .int .i64 0, .int .i64 0, .int .i64 0, .int .i64 0, .int .i64 0, .int .i64 0, .int .i64 0, .int .i64 0, .slice none 0 0, .slice none 0 0, .slice none 0 0]) (show Oper.op _ = Op.build 66 #[(0, Operand.const (Value.string { data := #[115, 116, 111, 114, 101, 100] })), (1, Operand.tmp 42), (2, Operand.tmp 45)] from rfl) (by rfl) (by kernel_rfl) (by rfl)).run a w ((hr.add h0).add h1) hs, ⟨A1, rfl, s1⟩⟩)
  · exact lay_does [] (by kernel_rfl) (fun a w hr hs _ => ⟨_, Unit, _, _, _, hr, Does.read (show Oper.op _ = Op.call { callee := Callee.value (Operand.func 44), args := #[Operand.const (Value.int IntKind.i64 2)], argTypes := #[34] } from rfl) Tryz.func44 (by kernel_rfl) (by kernel_rfl) (in_sl 2) (by rfl) (by rfl) trivial, fun g w' _ hb hs' => rfl⟩)
  · exact lay_ev [] (by kernel_rfl) (fun a w hr hs _ => ⟨_, (Ev.move (show Oper.op _ = Op.move (Operand.tmp 10) from rfl) (by rfl)).run a w hr hs, ⟨_, rfl, hs.one 0 rfl⟩⟩)
  · exact lay_ev [(25, 47), (26, 48)] (by kernel_rfl) (fun a w hr hs hd => by
          obtain ⟨⟨v0, h0, e0⟩, ⟨v1, h1, ⟨A1, e1, s1⟩⟩, -⟩ := hd
          obtain rfl : v0 = .agg (stepV 4 2 0).toArray := e0
          obtain rfl : v1 = .slice A1 1 1 := e1
          exact ⟨_, (Ev.buildP (pl := [(0, 1), (1, 12), (13, 1)]) (zs := [.string ⟨#[]⟩, .int .i64 0, .int .i64 0, .int .i64 0, .int .i64 0, .int .i64 0, .int .i64 0, .int .i64 0, .int .i64 0, .int .i64 0, .int .i64 0, .slice none 0 0, .slice none 0 0, .slice none 0 0]) (show Oper.op _ = Op.build 66 #[(0, Operand.const (Value.string { data := #[100, 101, 108, 105, 118, 101, 114] })), (1, Operand.tmp 47), (2, Operand.tmp 48)] from rfl) (by rfl) (by kernel_rfl) (by rfl)).run a w ((hr.add h0).add h1) hs, ⟨A1, rfl, s1⟩⟩)
  · exact lay_does [] (by kernel_rfl) (fun a w hr hs _ => ⟨_, Unit, _, _, _, hr, Does.read (show Oper.op _ = Op.call { callee := Callee.value (Operand.func 44), args := #[Operand.const (Value.int IntKind.i64 3)], argTypes := #[34] } from rfl) Tryz.func44 (by kernel_rfl) (by kernel_rfl) (in_sl 3) (by rfl) (by rfl) trivial, fun g w' _ hb hs' => rfl⟩)
  · exact lay_ev [] (by kernel_rfl) (fun a w hr hs _ => ⟨_, (Ev.move (show Oper.op _ = Op.move (Operand.tmp 10) from rfl) (by rfl)).run a w hr hs, ⟨_, rfl, hs.one 0 rfl⟩⟩)
  · exact lay_ev [(28, 50), (29, 51)] (by kernel_rfl) (fun a w hr hs hd => by
          obtain ⟨⟨v0, h0, e0⟩, ⟨v1, h1, ⟨A1, e1, s1⟩⟩, -⟩ := hd
          obtain rfl : v0 = .agg (stepV 4 3 0).toArray := e0
          obtain rfl : v1 = .slice A1 1 1 := e1
          exact ⟨_, (Ev.buildP (pl := [(0, 1), (1, 12), (13, 1)]) (zs := [.string ⟨#[]⟩, .int .i64 0, .int .i64 0, .int .i64 0, .int .i64 0, .int .i64 0, .int .i64 0, .int .i64 0, .int .i64 0, .int .i64 0, .int .i64 0, .slice none 0 0, .slice none 0 0, .slice none 0 0]) (show Oper.op _ = Op.build 66 #[(0, Operand.const (Value.string { data := #[100, 114, 111, 112] })), (1, Operand.tmp 50), (2, Operand.tmp 51)] from rfl) (by rfl) (by kernel_rfl) (by rfl)).run a w ((hr.add h0).add h1) hs, ⟨A1, rfl, s1⟩⟩)
  · exact lay_does [] (by kernel_rfl) (fun a w hr hs _ => ⟨_, Unit, _, _, _, hr, Does.read (show Oper.op _ = Op.call { callee := Callee.value (Operand.func 44), args := #[Operand.const (Value.int IntKind.i64 4)], argTypes := #[34] } from rfl) Tryz.func44 (by kernel_rfl) (by kernel_rfl) (in_sl 4) (by rfl) (by rfl) trivial, fun g w' _ hb hs' => rfl⟩)
  · exact lay_ev [] (by kernel_rfl) (fun a w hr hs _ => ⟨_, (Ev.move (show Oper.op _ = Op.move (Operand.tmp 10) from rfl) (by rfl)).run a w hr hs, ⟨_, rfl, hs.one 0 rfl⟩⟩)
  · exact lay_ev [(31, 53), (32, 54)] (by kernel_rfl) (fun a w hr hs hd => by
          obtain ⟨⟨v0, h0, e0⟩, ⟨v1, h1, ⟨A1, e1, s1⟩⟩, -⟩ := hd
          obtain rfl : v0 = .agg (stepV 4 4 0).toArray := e0
          obtain rfl : v1 = .slice A1 1 1 := e1
          exact ⟨_, (Ev.buildP (pl := [(0, 1), (1, 12), (13, 1)]) (zs := [.string ⟨#[]⟩, .int .i64 0, .int .i64 0, .int .i64 0, .int .i64 0, .int .i64 0, .int .i64 0, .int .i64 0, .int .i64 0, .int .i64 0, .int .i64 0, .slice none 0 0, .slice none 0 0, .slice none 0 0]) (show Oper.op _ = Op.build 66 #[(0, Operand.const (Value.string { data := #[99, 111, 112, 121] })), (1, Operand.tmp 53), (2, Operand.tmp 54)] from rfl) (by rfl) (by kernel_rfl) (by rfl)).run a w ((hr.add h0).add h1) hs, ⟨A1, rfl, s1⟩⟩)
  · exact lay_does [] (by kernel_rfl) (fun a w hr hs _ => ⟨_, Unit, _, _, _, hr, Does.read (show Oper.op _ = Op.call { callee := Callee.value (Operand.func 44), args := #[Operand.const (Value.int IntKind.i64 5)], argTypes := #[34] } from rfl) Tryz.func44 (by kernel_rfl) (by kernel_rfl) (in_sl 5) (by rfl) (by rfl) trivial, fun g w' _ hb hs' => rfl⟩)
  · exact lay_ev [] (by kernel_rfl) (fun a w hr hs _ => ⟨_, (Ev.move (show Oper.op _ = Op.move (Operand.tmp 10) from rfl) (by rfl)).run a w hr hs, ⟨_, rfl, hs.one 0 rfl⟩⟩)
  · exact lay_ev [(34, 56), (35, 57)] (by kernel_rfl) (fun a w hr hs hd => by
          obtain ⟨⟨v0, h0, e0⟩, ⟨v1, h1, ⟨A1, e1, s1⟩⟩, -⟩ := hd
          obtain rfl : v0 = .agg (stepV 4 5 0).toArray := e0
          obtain rfl : v1 = .slice A1 1 1 := e1
          exact ⟨_, (Ev.buildP (pl := [(0, 1), (1, 12), (13, 1)]) (zs := [.string ⟨#[]⟩, .int .i64 0, .int .i64 0, .int .i64 0, .int .i64 0, .int .i64 0, .int .i64 0, .int .i64 0, .int .i64 0, .int .i64 0, .int .i64 0, .slice none 0 0, .slice none 0 0, .slice none 0 0]) (show Oper.op _ = Op.build 66 #[(0, Operand.const (Value.string { data := #[116, 105, 99, 107] })), (1, Operand.tmp 56), (2, Operand.tmp 57)] from rfl) (by rfl) (by kernel_rfl) (by rfl)).run a w ((hr.add h0).add h1) hs, ⟨A1, rfl, s1⟩⟩)
  · exact lay_does [] (by kernel_rfl) (fun a w hr hs _ => ⟨_, Unit, _, _, _, hr, Does.read (show Oper.op _ = Op.call { callee := Callee.value (Operand.func 44), args := #[Operand.const (Value.int IntKind.i64 6)], argTypes := #[34] } from rfl) Tryz.func44 (by kernel_rfl) (by kernel_rfl) (in_sl 6) (by rfl) (by rfl) trivial, fun g w' _ hb hs' => rfl⟩)
  · exact lay_ev [] (by kernel_rfl) (fun a w hr hs _ => ⟨_, (Ev.move (show Oper.op _ = Op.move (Operand.tmp 10) from rfl) (by rfl)).run a w hr hs, ⟨_, rfl, hs.one 0 rfl⟩⟩)
  · exact lay_ev [(37, 59), (38, 60)] (by kernel_rfl) (fun a w hr hs hd => by
          obtain ⟨⟨v0, h0, e0⟩, ⟨v1, h1, ⟨A1, e1, s1⟩⟩, -⟩ := hd
          obtain rfl : v0 = .agg (stepV 4 6 0).toArray := e0
          obtain rfl : v1 = .slice A1 1 1 := e1
          exact ⟨_, (Ev.buildP (pl := [(0, 1), (1, 12), (13, 1)]) (zs := [.string ⟨#[]⟩, .int .i64 0, .int .i64 0, .int .i64 0, .int .i64 0, .int .i64 0, .int .i64 0, .int .i64 0, .int .i64 0, .int .i64 0, .int .i64 0, .slice none 0 0, .slice none 0 0, .slice none 0 0]) (show Oper.op _ = Op.build 66 #[(0, Operand.const (Value.string { data := #[115, 116, 101, 112] })), (1, Operand.tmp 59), (2, Operand.tmp 60)] from rfl) (by rfl) (by kernel_rfl) (by rfl)).run a w ((hr.add h0).add h1) hs, ⟨A1, rfl, s1⟩⟩)
  · exact lay_does [] (by kernel_rfl) (fun a w hr hs _ => ⟨_, Unit, _, _, _, hr, Does.read (show Oper.op _ = Op.call { callee := Callee.value (Operand.func 44), args := #[Operand.const (Value.int IntKind.i64 11)], argTypes := #[34] } from rfl) Tryz.func44 (by kernel_rfl) (by kernel_rfl) (in_sl 11) (by rfl) (by rfl) trivial, fun g w' _ hb hs' => rfl⟩)
  · exact lay_ev [] (by kernel_rfl) (fun a w hr hs _ => ⟨_, (Ev.move (show Oper.op _ = Op.move (Operand.tmp 10) from rfl) (by rfl)).run a w hr hs, ⟨_, rfl, hs.one 0 rfl⟩⟩)
  · exact lay_ev [(40, 62), (41, 63)] (by kernel_rfl) (fun a w hr hs hd => by
          obtain ⟨⟨v0, h0, e0⟩, ⟨v1, h1, ⟨A1, e1, s1⟩⟩, -⟩ := hd
          obtain rfl : v0 = .agg (stepV 4 11 0).toArray := e0
          obtain rfl : v1 = .slice A1 1 1 := e1
          exact ⟨_, (Ev.buildP (pl := [(0, 1), (1, 12), (13, 1)]) (zs := [.string ⟨#[]⟩, .int .i64 0, .int .i64 0, .int .i64 0, .int .i64 0, .int .i64 0, .int .i64 0, .int .i64 0, .int .i64 0, .int .i64 0, .int .i64 0, .slice none 0 0, .slice none 0 0, .slice none 0 0]) (show Oper.op _ = Op.build 66 #[(0, Operand.const (Value.string { data := #[112, 105, 108, 111, 116] })), (1, Operand.tmp 62), (2, Operand.tmp 63)] from rfl) (by rfl) (by kernel_rfl) (by rfl)).run a w ((hr.add h0).add h1) hs, ⟨A1, rfl, s1⟩⟩)
  · exact lay_does [] (by kernel_rfl) (fun a w hr hs _ => ⟨_, Unit, _, _, _, hr, Does.read (show Oper.op _ = Op.call { callee := Callee.value (Operand.func 44), args := #[Operand.const (Value.int IntKind.i64 7)], argTypes := #[34] } from rfl) Tryz.func44 (by kernel_rfl) (by kernel_rfl) (in_sl 7) (by rfl) (by rfl) trivial, fun g w' _ hb hs' => rfl⟩)
  · exact lay_ev [] (by kernel_rfl) (fun a w hr hs _ => ⟨_, (Ev.loadsB (n := 2) 1 (show Oper.op _ = Op.load 69 (Operand.tmp 4) from rfl) (by rfl) (by rfl) (by kernel_rfl) (by rfl) (by rfl)).run a w hr hs, rfl⟩)
  · exact lay_ev [] (by kernel_rfl) (fun a w hr hs _ => ⟨_, (Ev.loadsB (n := 2) 5 (show Oper.op _ = Op.load 69 (Operand.tmp 5) from rfl) (by rfl) (by rfl) (by kernel_rfl) (by rfl) (by rfl)).run a w hr hs, rfl⟩)
  · exact lay_does [(44, 66), (45, 67)] (by kernel_rfl) (fun a w hr hs hd => by
          obtain ⟨⟨v0, h0, e0⟩, ⟨v1, h1, e1⟩, -⟩ := hd
          obtain rfl : v0 = .agg (Wk.word .x (wb .x)).toArray := e0
          obtain rfl : v1 = .agg (Wk.word .y (wb .y)).toArray := e1
          exact ⟨_, Nat, _, _, _, ((hr.add h0).add h1), Does.lit (sz := 2) (show Oper.op _ = Op.buildSlice 64 2 #[(0, Operand.tmp 66), (1, Operand.tmp 67)] from rfl) (by rfl) Tryz.underlying64 (by kernel_rfl) (by rfl) (by kernel_rfl), fun g w' _ hb hs' => ⟨_, rfl, (hs'.see (i := 0) rfl rfl row_rd.1 row_rd.2).one 0 rfl⟩⟩)
  · exact lay_ev [(43, 65), (46, 68)] (by kernel_rfl) (fun a w hr hs hd => by
          obtain ⟨⟨v0, h0, e0⟩, ⟨v1, h1, ⟨A1, e1, s1⟩⟩, -⟩ := hd
          obtain rfl : v0 = .agg (stepV 4 7 0).toArray := e0
          obtain rfl : v1 = .slice A1 2 2 := e1
          exact ⟨_, (Ev.buildP (pl := [(0, 1), (1, 12), (13, 1)]) (zs := [.string ⟨#[]⟩, .int .i64 0, .int .i64 0, .int .i64 0, .int .i64 0, .int .i64 0, .int .i64 0, .int .i64 0, .int .i64 0, .int .i64 0, .int .i64 0, .slice none 0 0, .slice none 0 0, .slice none 0 0]) (show Oper.op _ = Op.build 66 #[(0, Operand.const (Value.string { data := #[97, 114, 109] })), (1, Operand.tmp 65), (2, Operand.tmp 68)] from rfl) (by rfl) (by kernel_rfl) (by rfl)).run a w ((hr.add h0).add h1) hs, ⟨A1, rfl, s1⟩⟩)
  · exact lay_does [] (by kernel_rfl) (fun a w hr hs _ => ⟨_, Unit, _, _, _, hr, Does.read (show Oper.op _ = Op.call { callee := Callee.value (Operand.func 44), args := #[Operand.const (Value.int IntKind.i64 10)], argTypes := #[34] } from rfl) Tryz.func44 (by kernel_rfl) (by kernel_rfl) (in_sl 10) (by rfl) (by rfl) trivial, fun g w' _ hb hs' => rfl⟩)
  · exact lay_ev [] (by kernel_rfl) (fun a w hr hs _ => ⟨_, (Ev.loadsB (n := 2) 1 (show Oper.op _ = Op.load 69 (Operand.tmp 4) from rfl) (by rfl) (by rfl) (by kernel_rfl) (by rfl) (by rfl)).run a w hr hs, rfl⟩)
  · exact lay_ev [] (by kernel_rfl) (fun a w hr hs _ => ⟨_, (Ev.loadsB (n := 2) 5 (show Oper.op _ = Op.load 69 (Operand.tmp 5) from rfl) (by rfl) (by rfl) (by kernel_rfl) (by rfl) (by rfl)).run a w hr hs, rfl⟩)
  · exact lay_does [(49, 71), (50, 72)] (by kernel_rfl) (fun a w hr hs hd => by
          obtain ⟨⟨v0, h0, e0⟩, ⟨v1, h1, e1⟩, -⟩ := hd
          obtain rfl : v0 = .agg (Wk.word .x (wb .x)).toArray := e0
          obtain rfl : v1 = .agg (Wk.word .y (wb .y)).toArray := e1
          exact ⟨_, Nat, _, _, _, ((hr.add h0).add h1), Does.lit (sz := 2) (show Oper.op _ = Op.buildSlice 64 2 #[(0, Operand.tmp 71), (1, Operand.tmp 72)] from rfl) (by rfl) Tryz.underlying64 (by kernel_rfl) (by rfl) (by kernel_rfl), fun g w' _ hb hs' => ⟨_, rfl, (hs'.see (i := 0) rfl rfl row_rd.1 row_rd.2).one 0 rfl⟩⟩)
  · exact lay_ev [(48, 70), (51, 73)] (by kernel_rfl) (fun a w hr hs hd => by
          obtain ⟨⟨v0, h0, e0⟩, ⟨v1, h1, ⟨A1, e1, s1⟩⟩, -⟩ := hd
          obtain rfl : v0 = .agg (stepV 4 10 0).toArray := e0
          obtain rfl : v1 = .slice A1 2 2 := e1
          exact ⟨_, (Ev.buildP (pl := [(0, 1), (1, 12), (13, 1)]) (zs := [.string ⟨#[]⟩, .int .i64 0, .int .i64 0, .int .i64 0, .int .i64 0, .int .i64 0, .int .i64 0, .int .i64 0, .int .i64 0, .int .i64 0, .int .i64 0, .slice none 0 0, .slice none 0 0, .slice none 0 0]) (show Oper.op _ = Op.build 66 #[(0, Operand.const (Value.string { data := #[116, 97, 115, 107] })), (1, Operand.tmp 70), (2, Operand.tmp 73)] from rfl) (by rfl) (by kernel_rfl) (by rfl)).run a w ((hr.add h0).add h1) hs, ⟨A1, rfl, s1⟩⟩)
  · exact lay_does [] (by kernel_rfl) (fun a w hr hs _ => ⟨_, Unit, _, _, _, hr, Does.read (show Oper.op _ = Op.call { callee := Callee.value (Operand.func 44), args := #[Operand.const (Value.int IntKind.i64 8)], argTypes := #[34] } from rfl) Tryz.func44 (by kernel_rfl) (by kernel_rfl) (in_sl 8) (by rfl) (by rfl) trivial, fun g w' _ hb hs' => rfl⟩)
  · exact lay_ev [] (by kernel_rfl) (fun a w hr hs _ => ⟨_, (Ev.loadsB (n := 2) 1 (show Oper.op _ = Op.load 69 (Operand.tmp 4) from rfl) (by rfl) (by rfl) (by kernel_rfl) (by rfl) (by rfl)).run a w hr hs, rfl⟩)
  · exact lay_ev [] (by kernel_rfl) (fun a w hr hs _ => ⟨_, (Ev.loadsB (n := 2) 9 (show Oper.op _ = Op.load 69 (Operand.tmp 9) from rfl) (by rfl) (by rfl) (by kernel_rfl) (by rfl) (by rfl)).run a w hr hs, rfl⟩)
  · exact lay_does [(54, 76), (55, 77)] (by kernel_rfl) (fun a w hr hs hd => by
          obtain ⟨⟨v0, h0, e0⟩, ⟨v1, h1, e1⟩, -⟩ := hd
          obtain rfl : v0 = .agg (Wk.word .x (wb .x)).toArray := e0
          obtain rfl : v1 = .agg (Wk.word .k (wb .k)).toArray := e1
          exact ⟨_, Nat, _, _, _, ((hr.add h0).add h1), Does.lit (sz := 2) (show Oper.op _ = Op.buildSlice 64 2 #[(0, Operand.tmp 76), (1, Operand.tmp 77)] from rfl) (by rfl) Tryz.underlying64 (by kernel_rfl) (by rfl) (by kernel_rfl), fun g w' _ hb hs' => ⟨_, rfl, (hs'.see (i := 0) rfl rfl row_rd.1 row_rd.2).one 0 rfl⟩⟩)
  · exact lay_ev [(53, 75), (56, 78)] (by kernel_rfl) (fun a w hr hs hd => by
          obtain ⟨⟨v0, h0, e0⟩, ⟨v1, h1, ⟨A1, e1, s1⟩⟩, -⟩ := hd
          obtain rfl : v0 = .agg (stepV 4 8 0).toArray := e0
          obtain rfl : v1 = .slice A1 2 2 := e1
          exact ⟨_, (Ev.buildP (pl := [(0, 1), (1, 12), (13, 1)]) (zs := [.string ⟨#[]⟩, .int .i64 0, .int .i64 0, .int .i64 0, .int .i64 0, .int .i64 0, .int .i64 0, .int .i64 0, .int .i64 0, .int .i64 0, .int .i64 0, .slice none 0 0, .slice none 0 0, .slice none 0 0]) (show Oper.op _ = Op.build 66 #[(0, Operand.const (Value.string { data := #[99, 114, 97, 115, 104] })), (1, Operand.tmp 75), (2, Operand.tmp 78)] from rfl) (by rfl) (by kernel_rfl) (by rfl)).run a w ((hr.add h0).add h1) hs, ⟨A1, rfl, s1⟩⟩)
  · exact lay_does [] (by kernel_rfl) (fun a w hr hs _ => ⟨_, Unit, _, _, _, hr, Does.read (show Oper.op _ = Op.call { callee := Callee.value (Operand.func 44), args := #[Operand.const (Value.int IntKind.i64 9)], argTypes := #[34] } from rfl) Tryz.func44 (by kernel_rfl) (by kernel_rfl) (in_sl 9) (by rfl) (by rfl) trivial, fun g w' _ hb hs' => rfl⟩)
  · exact lay_ev [] (by kernel_rfl) (fun a w hr hs _ => ⟨_, (Ev.loadsB (n := 2) 1 (show Oper.op _ = Op.load 69 (Operand.tmp 4) from rfl) (by rfl) (by rfl) (by kernel_rfl) (by rfl) (by rfl)).run a w hr hs, rfl⟩)
  · exact lay_ev [] (by kernel_rfl) (fun a w hr hs _ => ⟨_, (Ev.loadsB (n := 2) 9 (show Oper.op _ = Op.load 69 (Operand.tmp 9) from rfl) (by rfl) (by rfl) (by kernel_rfl) (by rfl) (by rfl)).run a w hr hs, rfl⟩)
  · exact lay_does [(59, 81), (60, 82)] (by kernel_rfl) (fun a w hr hs hd => by
          obtain ⟨⟨v0, h0, e0⟩, ⟨v1, h1, e1⟩, -⟩ := hd
          obtain rfl : v0 = .agg (Wk.word .x (wb .x)).toArray := e0
          obtain rfl : v1 = .agg (Wk.word .k (wb .k)).toArray := e1
          exact ⟨_, Nat, _, _, _, ((hr.add h0).add h1), Does.lit (sz := 2) (show Oper.op _ = Op.buildSlice 64 2 #[(0, Operand.tmp 81), (1, Operand.tmp 82)] from rfl) (by rfl) Tryz.underlying64 (by kernel_rfl) (by rfl) (by kernel_rfl), fun g w' _ hb hs' => ⟨_, rfl, (hs'.see (i := 0) rfl rfl row_rd.1 row_rd.2).one 0 rfl⟩⟩)
  · exact lay_ev [(58, 80), (61, 83)] (by kernel_rfl) (fun a w hr hs hd => by
          obtain ⟨⟨v0, h0, e0⟩, ⟨v1, h1, ⟨A1, e1, s1⟩⟩, -⟩ := hd
          obtain rfl : v0 = .agg (stepV 4 9 0).toArray := e0
          obtain rfl : v1 = .slice A1 2 2 := e1
          exact ⟨_, (Ev.buildP (pl := [(0, 1), (1, 12), (13, 1)]) (zs := [.string ⟨#[]⟩, .int .i64 0, .int .i64 0, .int .i64 0, .int .i64 0, .int .i64 0, .int .i64 0, .int .i64 0, .int .i64 0, .int .i64 0, .int .i64 0, .slice none 0 0, .slice none 0 0, .slice none 0 0]) (show Oper.op _ = Op.build 66 #[(0, Operand.const (Value.string { data := #[115, 116, 97, 114, 116] })), (1, Operand.tmp 80), (2, Operand.tmp 83)] from rfl) (by rfl) (by kernel_rfl) (by rfl)).run a w ((hr.add h0).add h1) hs, ⟨A1, rfl, s1⟩⟩)
  · exact lay_does [] (by kernel_rfl) (fun a w hr hs _ => ⟨_, Unit, _, _, _, hr, Does.read (show Oper.op _ = Op.call { callee := Callee.value (Operand.func 45), args := #[Operand.const (Value.int IntKind.i64 1)], argTypes := #[35] } from rfl) Tryz.func45 (by kernel_rfl) (by kernel_rfl) (says_sl 1) (by rfl) (by rfl) trivial, fun g w' _ hb hs' => rfl⟩)
  · exact lay_ev [] (by kernel_rfl) (fun a w hr hs _ => ⟨_, (Ev.move (show Oper.op _ = Op.move (Operand.tmp 10) from rfl) (by rfl)).run a w hr hs, ⟨_, rfl, hs.one 0 rfl⟩⟩)
  · exact lay_ev [(63, 85), (64, 86)] (by kernel_rfl) (fun a w hr hs hd => by
          obtain ⟨⟨v0, h0, e0⟩, ⟨v1, h1, ⟨A1, e1, s1⟩⟩, -⟩ := hd
          obtain rfl : v0 = .agg (stepV 4 1 1).toArray := e0
          obtain rfl : v1 = .slice A1 1 1 := e1
          exact ⟨_, (Ev.buildP (pl := [(0, 1), (1, 12), (13, 1)]) (zs := [.string ⟨#[]⟩, .int .i64 0, .int .i64 0, .int .i64 0, .int .i64 0, .int .i64 0, .int .i64 0, .int .i64 0, .int .i64 0, .int .i64 0, .int .i64 0, .slice none 0 0, .slice none 0 0, .slice none 0 0]) (show Oper.op _ = Op.build 66 #[(0, Operand.const (Value.string { data := #[114, 101, 103, 105, 115, 116, 101, 114] })), (1, Operand.tmp 85), (2, Operand.tmp 86)] from rfl) (by rfl) (by kernel_rfl) (by rfl)).run a w ((hr.add h0).add h1) hs, ⟨A1, rfl, s1⟩⟩)
  · exact lay_does [] (by kernel_rfl) (fun a w hr hs _ => ⟨_, Unit, _, _, _, hr, Does.read (show Oper.op _ = Op.call { callee := Callee.value (Operand.func 45), args := #[Operand.const (Value.int IntKind.i64 6)], argTypes := #[35] } from rfl) Tryz.func45 (by kernel_rfl) (by kernel_rfl) (says_sl 6) (by rfl) (by rfl) trivial, fun g w' _ hb hs' => rfl⟩)
  · exact lay_ev [] (by kernel_rfl) (fun a w hr hs _ => ⟨_, (Ev.move (show Oper.op _ = Op.move (Operand.tmp 10) from rfl) (by rfl)).run a w hr hs, ⟨_, rfl, hs.one 0 rfl⟩⟩)
  · exact lay_ev [(66, 88), (67, 89)] (by kernel_rfl) (fun a w hr hs hd => by
          obtain ⟨⟨v0, h0, e0⟩, ⟨v1, h1, ⟨A1, e1, s1⟩⟩, -⟩ := hd
          obtain rfl : v0 = .agg (stepV 4 1 6).toArray := e0
          obtain rfl : v1 = .slice A1 1 1 := e1
          exact ⟨_, (Ev.buildP (pl := [(0, 1), (1, 12), (13, 1)]) (zs := [.string ⟨#[]⟩, .int .i64 0, .int .i64 0, .int .i64 0, .int .i64 0, .int .i64 0, .int .i64 0, .int .i64 0, .int .i64 0, .int .i64 0, .int .i64 0, .slice none 0 0, .slice none 0 0, .slice none 0 0]) (show Oper.op _ = Op.build 66 #[(0, Operand.const (Value.string { data := #[113, 117, 101, 114, 121] })), (1, Operand.tmp 88), (2, Operand.tmp 89)] from rfl) (by rfl) (by kernel_rfl) (by rfl)).run a w ((hr.add h0).add h1) hs, ⟨A1, rfl, s1⟩⟩)
  · exact lay_does [] (by kernel_rfl) (fun a w hr hs _ => ⟨_, Unit, _, _, _, hr, Does.read (show Oper.op _ = Op.call { callee := Callee.value (Operand.func 45), args := #[Operand.const (Value.int IntKind.i64 2)], argTypes := #[35] } from rfl) Tryz.func45 (by kernel_rfl) (by kernel_rfl) (says_sl 2) (by rfl) (by rfl) trivial, fun g w' _ hb hs' => rfl⟩)
  · exact lay_ev [] (by kernel_rfl) (fun a w hr hs _ => ⟨_, (Ev.loadsB (n := 2) 1 (show Oper.op _ = Op.load 69 (Operand.tmp 4) from rfl) (by rfl) (by rfl) (by kernel_rfl) (by rfl) (by rfl)).run a w hr hs, rfl⟩)
  · exact lay_ev [] (by kernel_rfl) (fun a w hr hs _ => ⟨_, (Ev.loadsB (n := 2) 6 (show Oper.op _ = Op.load 69 (Operand.tmp 6) from rfl) (by rfl) (by rfl) (by kernel_rfl) (by rfl) (by rfl)).run a w hr hs, rfl⟩)
  · exact lay_does [(70, 92), (71, 93)] (by kernel_rfl) (fun a w hr hs hd => by
          obtain ⟨⟨v0, h0, e0⟩, ⟨v1, h1, e1⟩, -⟩ := hd
          obtain rfl : v0 = .agg (Wk.word .x (wb .x)).toArray := e0
          obtain rfl : v1 = .agg (Wk.word .e (wb .e)).toArray := e1
          exact ⟨_, Nat, _, _, _, ((hr.add h0).add h1), Does.lit (sz := 2) (show Oper.op _ = Op.buildSlice 64 2 #[(0, Operand.tmp 92), (1, Operand.tmp 93)] from rfl) (by rfl) Tryz.underlying64 (by kernel_rfl) (by rfl) (by kernel_rfl), fun g w' _ hb hs' => ⟨_, rfl, (hs'.see (i := 0) rfl rfl row_rd.1 row_rd.2).one 0 rfl⟩⟩)
  · exact lay_ev [(69, 91), (72, 94)] (by kernel_rfl) (fun a w hr hs hd => by
          obtain ⟨⟨v0, h0, e0⟩, ⟨v1, h1, ⟨A1, e1, s1⟩⟩, -⟩ := hd
          obtain rfl : v0 = .agg (stepV 4 1 2).toArray := e0
          obtain rfl : v1 = .slice A1 2 2 := e1
          exact ⟨_, (Ev.buildP (pl := [(0, 1), (1, 12), (13, 1)]) (zs := [.string ⟨#[]⟩, .int .i64 0, .int .i64 0, .int .i64 0, .int .i64 0, .int .i64 0, .int .i64 0, .int .i64 0, .int .i64 0, .int .i64 0, .int .i64 0, .slice none 0 0, .slice none 0 0, .slice none 0 0]) (show Oper.op _ = Op.build 66 #[(0, Operand.const (Value.string { data := #[98, 101, 97, 116] })), (1, Operand.tmp 91), (2, Operand.tmp 94)] from rfl) (by rfl) (by kernel_rfl) (by rfl)).run a w ((hr.add h0).add h1) hs, ⟨A1, rfl, s1⟩⟩)
  · exact lay_does [] (by kernel_rfl) (fun a w hr hs _ => ⟨_, Unit, _, _, _, hr, Does.read (show Oper.op _ = Op.call { callee := Callee.value (Operand.func 45), args := #[Operand.const (Value.int IntKind.i64 5)], argTypes := #[35] } from rfl) Tryz.func45 (by kernel_rfl) (by kernel_rfl) (says_sl 5) (by rfl) (by rfl) trivial, fun g w' _ hb hs' => rfl⟩)
  · exact lay_ev [] (by kernel_rfl) (fun a w hr hs _ => ⟨_, (Ev.loadsB (n := 2) 1 (show Oper.op _ = Op.load 69 (Operand.tmp 4) from rfl) (by rfl) (by rfl) (by kernel_rfl) (by rfl) (by rfl)).run a w hr hs, rfl⟩)
  · exact lay_ev [] (by kernel_rfl) (fun a w hr hs _ => ⟨_, (Ev.loadsB (n := 2) 6 (show Oper.op _ = Op.load 69 (Operand.tmp 6) from rfl) (by rfl) (by rfl) (by kernel_rfl) (by rfl) (by rfl)).run a w hr hs, rfl⟩)
  · exact lay_does [(75, 97), (76, 98)] (by kernel_rfl) (fun a w hr hs hd => by
          obtain ⟨⟨v0, h0, e0⟩, ⟨v1, h1, e1⟩, -⟩ := hd
          obtain rfl : v0 = .agg (Wk.word .x (wb .x)).toArray := e0
          obtain rfl : v1 = .agg (Wk.word .e (wb .e)).toArray := e1
          exact ⟨_, Nat, _, _, _, ((hr.add h0).add h1), Does.lit (sz := 2) (show Oper.op _ = Op.buildSlice 64 2 #[(0, Operand.tmp 97), (1, Operand.tmp 98)] from rfl) (by rfl) Tryz.underlying64 (by kernel_rfl) (by rfl) (by kernel_rfl), fun g w' _ hb hs' => ⟨_, rfl, (hs'.see (i := 0) rfl rfl row_rd.1 row_rd.2).one 0 rfl⟩⟩)
  · exact lay_ev [(74, 96), (77, 99)] (by kernel_rfl) (fun a w hr hs hd => by
          obtain ⟨⟨v0, h0, e0⟩, ⟨v1, h1, ⟨A1, e1, s1⟩⟩, -⟩ := hd
          obtain rfl : v0 = .agg (stepV 4 1 5).toArray := e0
          obtain rfl : v1 = .slice A1 2 2 := e1
          exact ⟨_, (Ev.buildP (pl := [(0, 1), (1, 12), (13, 1)]) (zs := [.string ⟨#[]⟩, .int .i64 0, .int .i64 0, .int .i64 0, .int .i64 0, .int .i64 0, .int .i64 0, .int .i64 0, .int .i64 0, .int .i64 0, .int .i64 0, .slice none 0 0, .slice none 0 0, .slice none 0 0]) (show Oper.op _ = Op.build 66 #[(0, Operand.const (Value.string { data := #[114, 101, 108, 101, 97, 115, 101] })), (1, Operand.tmp 96), (2, Operand.tmp 99)] from rfl) (by rfl) (by kernel_rfl) (by rfl)).run a w ((hr.add h0).add h1) hs, ⟨A1, rfl, s1⟩⟩)
  · exact lay_does [] (by kernel_rfl) (fun a w hr hs _ => ⟨_, Unit, _, _, _, hr, Does.read (show Oper.op _ = Op.call { callee := Callee.value (Operand.func 45), args := #[Operand.const (Value.int IntKind.i64 3)], argTypes := #[35] } from rfl) Tryz.func45 (by kernel_rfl) (by kernel_rfl) (says_sl 3) (by rfl) (by rfl) trivial, fun g w' _ hb hs' => rfl⟩)
  · exact lay_ev [] (by kernel_rfl) (fun a w hr hs _ => ⟨_, (Ev.loadsB (n := 2) 1 (show Oper.op _ = Op.load 69 (Operand.tmp 4) from rfl) (by rfl) (by rfl) (by kernel_rfl) (by rfl) (by rfl)).run a w hr hs, rfl⟩)
  · exact lay_ev [] (by kernel_rfl) (fun a w hr hs _ => ⟨_, (Ev.loadsB (n := 2) 6 (show Oper.op _ = Op.load 69 (Operand.tmp 6) from rfl) (by rfl) (by rfl) (by kernel_rfl) (by rfl) (by rfl)).run a w hr hs, rfl⟩)
  · exact lay_ev [] (by kernel_rfl) (fun a w hr hs _ => ⟨_, (Ev.loadsB (n := 2) 7 (show Oper.op _ = Op.load 69 (Operand.tmp 7) from rfl) (by rfl) (by rfl) (by kernel_rfl) (by rfl) (by rfl)).run a w hr hs, rfl⟩)
  · exact lay_ev [] (by kernel_rfl) (fun a w hr hs _ => ⟨_, (Ev.loadsB (n := 2) 8 (show Oper.op _ = Op.load 69 (Operand.tmp 8) from rfl) (by rfl) (by rfl) (by kernel_rfl) (by rfl) (by rfl)).run a w hr hs, rfl⟩)
  · exact lay_does [(80, 102), (81, 103), (82, 104), (83, 105)] (by kernel_rfl) (fun a w hr hs hd => by
          obtain ⟨⟨v0, h0, e0⟩, ⟨v1, h1, e1⟩, ⟨v2, h2, e2⟩, ⟨v3, h3, e3⟩, -⟩ := hd
          obtain rfl : v0 = .agg (Wk.word .x (wb .x)).toArray := e0
          obtain rfl : v1 = .agg (Wk.word .e (wb .e)).toArray := e1
          obtain rfl : v2 = .agg (Wk.word .s (wb .s)).toArray := e2
          obtain rfl : v3 = .agg (Wk.word .r (wb .r)).toArray := e3
          exact ⟨_, Nat, _, _, _, ((((hr.add h0).add h1).add h2).add h3), Does.lit (sz := 2) (show Oper.op _ = Op.buildSlice 64 4 #[(0, Operand.tmp 102), (1, Operand.tmp 103), (2, Operand.tmp 104), (3, Operand.tmp 105)] from rfl) (by rfl) Tryz.underlying64 (by kernel_rfl) (by rfl) (by kernel_rfl), fun g w' _ hb hs' => ⟨_, rfl, (hs'.see (i := 0) rfl rfl row_rd.1 row_rd.2).one 0 rfl⟩⟩)
  · exact lay_ev [(79, 101), (84, 106)] (by kernel_rfl) (fun a w hr hs hd => by
          obtain ⟨⟨v0, h0, e0⟩, ⟨v1, h1, ⟨A1, e1, s1⟩⟩, -⟩ := hd
          obtain rfl : v0 = .agg (stepV 4 1 3).toArray := e0
          obtain rfl : v1 = .slice A1 4 4 := e1
          exact ⟨_, (Ev.buildP (pl := [(0, 1), (1, 12), (13, 1)]) (zs := [.string ⟨#[]⟩, .int .i64 0, .int .i64 0, .int .i64 0, .int .i64 0, .int .i64 0, .int .i64 0, .int .i64 0, .int .i64 0, .int .i64 0, .int .i64 0, .slice none 0 0, .slice none 0 0, .slice none 0 0]) (show Oper.op _ = Op.build 66 #[(0, Operand.const (Value.string { data := #[114, 101, 115, 101, 114, 118, 101] })), (1, Operand.tmp 101), (2, Operand.tmp 106)] from rfl) (by rfl) (by kernel_rfl) (by rfl)).run a w ((hr.add h0).add h1) hs, ⟨A1, rfl, s1⟩⟩)
  · exact lay_does [] (by kernel_rfl) (fun a w hr hs _ => ⟨_, Unit, _, _, _, hr, Does.read (show Oper.op _ = Op.call { callee := Callee.value (Operand.func 45), args := #[Operand.const (Value.int IntKind.i64 4)], argTypes := #[35] } from rfl) Tryz.func45 (by kernel_rfl) (by kernel_rfl) (says_sl 4) (by rfl) (by rfl) trivial, fun g w' _ hb hs' => rfl⟩)
  · exact lay_ev [] (by kernel_rfl) (fun a w hr hs _ => ⟨_, (Ev.loadsB (n := 2) 1 (show Oper.op _ = Op.load 69 (Operand.tmp 4) from rfl) (by rfl) (by rfl) (by kernel_rfl) (by rfl) (by rfl)).run a w hr hs, rfl⟩)
  · exact lay_ev [] (by kernel_rfl) (fun a w hr hs _ => ⟨_, (Ev.loadsB (n := 2) 6 (show Oper.op _ = Op.load 69 (Operand.tmp 6) from rfl) (by rfl) (by rfl) (by kernel_rfl) (by rfl) (by rfl)).run a w hr hs, rfl⟩)
  · exact lay_ev [] (by kernel_rfl) (fun a w hr hs _ => ⟨_, (Ev.loadsB (n := 2) 8 (show Oper.op _ = Op.load 69 (Operand.tmp 8) from rfl) (by rfl) (by rfl) (by kernel_rfl) (by rfl) (by rfl)).run a w hr hs, rfl⟩)
  · exact lay_does [(87, 109), (88, 110), (89, 111)] (by kernel_rfl) (fun a w hr hs hd => by
          obtain ⟨⟨v0, h0, e0⟩, ⟨v1, h1, e1⟩, ⟨v2, h2, e2⟩, -⟩ := hd
          obtain rfl : v0 = .agg (Wk.word .x (wb .x)).toArray := e0
          obtain rfl : v1 = .agg (Wk.word .e (wb .e)).toArray := e1
          obtain rfl : v2 = .agg (Wk.word .r (wb .r)).toArray := e2
          exact ⟨_, Nat, _, _, _, (((hr.add h0).add h1).add h2), Does.lit (sz := 2) (show Oper.op _ = Op.buildSlice 64 3 #[(0, Operand.tmp 109), (1, Operand.tmp 110), (2, Operand.tmp 111)] from rfl) (by rfl) Tryz.underlying64 (by kernel_rfl) (by rfl) (by kernel_rfl), fun g w' _ hb hs' => ⟨_, rfl, (hs'.see (i := 0) rfl rfl row_rd.1 row_rd.2).one 0 rfl⟩⟩)
  · exact lay_ev [(86, 108), (90, 112)] (by kernel_rfl) (fun a w hr hs hd => by
          obtain ⟨⟨v0, h0, e0⟩, ⟨v1, h1, ⟨A1, e1, s1⟩⟩, -⟩ := hd
          obtain rfl : v0 = .agg (stepV 4 1 4).toArray := e0
          obtain rfl : v1 = .slice A1 3 3 := e1
          exact ⟨_, (Ev.buildP (pl := [(0, 1), (1, 12), (13, 1)]) (zs := [.string ⟨#[]⟩, .int .i64 0, .int .i64 0, .int .i64 0, .int .i64 0, .int .i64 0, .int .i64 0, .int .i64 0, .int .i64 0, .int .i64 0, .int .i64 0, .slice none 0 0, .slice none 0 0, .slice none 0 0]) (show Oper.op _ = Op.build 66 #[(0, Operand.const (Value.string { data := #[101, 120, 116, 101, 110, 100] })), (1, Operand.tmp 108), (2, Operand.tmp 112)] from rfl) (by rfl) (by kernel_rfl) (by rfl)).run a w ((hr.add h0).add h1) hs, ⟨A1, rfl, s1⟩⟩)
  · exact lay_does [(5, 27), (9, 31), (13, 35), (15, 37), (17, 39), (19, 41), (24, 46), (27, 49), (30, 52), (33, 55), (36, 58), (39, 61), (42, 64), (47, 69), (52, 74), (57, 79), (62, 84), (65, 87), (68, 90), (73, 95), (78, 100), (85, 107), (91, 113)] (by kernel_rfl) (fun a w hr hs hd => by
          obtain ⟨⟨v0, h0, ⟨A0, e0, s0⟩⟩, ⟨v1, h1, ⟨A1, e1, s1⟩⟩, ⟨v2, h2, ⟨A2, e2, s2⟩⟩, ⟨v3, h3, ⟨A3, e3, s3⟩⟩, ⟨v4, h4, ⟨A4, e4, s4⟩⟩, ⟨v5, h5, ⟨A5, e5, s5⟩⟩, ⟨v6, h6, ⟨A6, e6, s6⟩⟩, ⟨v7, h7, ⟨A7, e7, s7⟩⟩, ⟨v8, h8, ⟨A8, e8, s8⟩⟩, ⟨v9, h9, ⟨A9, e9, s9⟩⟩, ⟨v10, h10, ⟨A10, e10, s10⟩⟩, ⟨v11, h11, ⟨A11, e11, s11⟩⟩, ⟨v12, h12, ⟨A12, e12, s12⟩⟩, ⟨v13, h13, ⟨A13, e13, s13⟩⟩, ⟨v14, h14, ⟨A14, e14, s14⟩⟩, ⟨v15, h15, ⟨A15, e15, s15⟩⟩, ⟨v16, h16, ⟨A16, e16, s16⟩⟩, ⟨v17, h17, ⟨A17, e17, s17⟩⟩, ⟨v18, h18, ⟨A18, e18, s18⟩⟩, ⟨v19, h19, ⟨A19, e19, s19⟩⟩, ⟨v20, h20, ⟨A20, e20, s20⟩⟩, ⟨v21, h21, ⟨A21, e21, s21⟩⟩, ⟨v22, h22, ⟨A22, e22, s22⟩⟩, -⟩ := hd
          obtain rfl : v0 = .agg (cmdEnc ((⟨[109, 97, 112], 1, 0, 0, [.a, .b, .c]⟩ : CmdP), A0)).toArray := e0
          obtain rfl : v1 = .agg (cmdEnc ((⟨[98, 108, 111, 99, 107], 2, 0, 0, [.a]⟩ : CmdP), A1)).toArray := e1
          obtain rfl : v2 = .agg (cmdEnc ((⟨[100, 111, 99, 107], 3, 0, 0, [.a]⟩ : CmdP), A2)).toArray := e2
          obtain rfl : v3 = .agg (cmdEnc ((⟨[104, 105, 115, 116, 111, 114, 121], 5, 0, 0, []⟩ : CmdP), A3)).toArray := e3
          obtain rfl : v4 = .agg (cmdEnc ((⟨[106, 117, 100, 103, 101], 7, 0, 0, []⟩ : CmdP), A4)).toArray := e4
          obtain rfl : v5 = .agg (cmdEnc ((⟨[115, 101, 101, 110], 8, 0, 0, []⟩ : CmdP), A5)).toArray := e5
          obtain rfl : v6 = .agg (cmdEnc ((⟨[115, 116, 111, 114, 101, 100], 6, 0, 0, [.a, .k]⟩ : CmdP), A6)).toArray := e6
          obtain rfl : v7 = .agg (cmdEnc ((⟨[100, 101, 108, 105, 118, 101, 114], 4, 2, 0, [.x]⟩ : CmdP), A7)).toArray := e7
          obtain rfl : v8 = .agg (cmdEnc ((⟨[100, 114, 111, 112], 4, 3, 0, [.x]⟩ : CmdP), A8)).toArray := e8
          obtain rfl : v9 = .agg (cmdEnc ((⟨[99, 111, 112, 121], 4, 4, 0, [.x]⟩ : CmdP), A9)).toArray := e9
          obtain rfl : v10 = .agg (cmdEnc ((⟨[116, 105, 99, 107], 4, 5, 0, [.x]⟩ : CmdP), A10)).toArray := e10
          obtain rfl : v11 = .agg (cmdEnc ((⟨[115, 116, 101, 112], 4, 6, 0, [.x]⟩ : CmdP), A11)).toArray := e11
          obtain rfl : v12 = .agg (cmdEnc ((⟨[112, 105, 108, 111, 116], 4, 11, 0, [.x]⟩ : CmdP), A12)).toArray := e12
          obtain rfl : v13 = .agg (cmdEnc ((⟨[97, 114, 109], 4, 7, 0, [.x, .y]⟩ : CmdP), A13)).toArray := e13
          obtain rfl : v14 = .agg (cmdEnc ((⟨[116, 97, 115, 107], 4, 10, 0, [.x, .y]⟩ : CmdP), A14)).toArray := e14
          obtain rfl : v15 = .agg (cmdEnc ((⟨[99, 114, 97, 115, 104], 4, 8, 0, [.x, .k]⟩ : CmdP), A15)).toArray := e15
          obtain rfl : v16 = .agg (cmdEnc ((⟨[115, 116, 97, 114, 116], 4, 9, 0, [.x, .k]⟩ : CmdP), A16)).toArray := e16
          obtain rfl : v17 = .agg (cmdEnc ((⟨[114, 101, 103, 105, 115, 116, 101, 114], 4, 1, 1, [.x]⟩ : CmdP), A17)).toArray := e17
          obtain rfl : v18 = .agg (cmdEnc ((⟨[113, 117, 101, 114, 121], 4, 1, 6, [.x]⟩ : CmdP), A18)).toArray := e18
          obtain rfl : v19 = .agg (cmdEnc ((⟨[98, 101, 97, 116], 4, 1, 2, [.x, .e]⟩ : CmdP), A19)).toArray := e19
          obtain rfl : v20 = .agg (cmdEnc ((⟨[114, 101, 108, 101, 97, 115, 101], 4, 1, 5, [.x, .e]⟩ : CmdP), A20)).toArray := e20
          obtain rfl : v21 = .agg (cmdEnc ((⟨[114, 101, 115, 101, 114, 118, 101], 4, 1, 3, [.x, .e, .s, .r]⟩ : CmdP), A21)).toArray := e21
          obtain rfl : v22 = .agg (cmdEnc ((⟨[101, 120, 116, 101, 110, 100], 4, 1, 4, [.x, .e, .r]⟩ : CmdP), A22)).toArray := e22
          exact ⟨_, Nat, _, _, _, (((((((((((((((((((((((hr.add h0).add h1).add h2).add h3).add h4).add h5).add h6).add h7).add h8).add h9).add h10).add h11).add h12).add h13).add h14).add h15).add h16).add h17).add h18).add h19).add h20).add h21).add h22), Does.lit (sz := 14) (show Oper.op _ = Op.buildSlice 62 23 #[(0, Operand.tmp 27), (1, Operand.tmp 31), (2, Operand.tmp 35), (3, Operand.tmp 37), (4, Operand.tmp 39), (5, Operand.tmp 41), (6, Operand.tmp 46), (7, Operand.tmp 49), (8, Operand.tmp 52), (9, Operand.tmp 55), (10, Operand.tmp 58), (11, Operand.tmp 61), (12, Operand.tmp 64), (13, Operand.tmp 69), (14, Operand.tmp 74), (15, Operand.tmp 79), (16, Operand.tmp 84), (17, Operand.tmp 87), (18, Operand.tmp 90), (19, Operand.tmp 95), (20, Operand.tmp 100), (21, Operand.tmp 107), (22, Operand.tmp 113)] from rfl) (by rfl) Tryz.underlying62 (by kernel_rfl) (by rfl) (by kernel_rfl), fun g w' _ hb hs' => ⟨g, fun i => [A0, A1, A2, A3, A4, A5, A6, A7, A8, A9, A10, A11, A12, A13, A14, A15, A16, A17, A18, A19, A20, A21, A22].getD i none, rfl, (hs'.see (i := 0) rfl rfl row_rd.1 row_rd.2).one 0 rfl, fun i => match i with
            | 0 => s0.grow hb
            | 1 => s1.grow hb
            | 2 => s2.grow hb
            | 3 => s3.grow hb
            | 4 => s4.grow hb
            | 5 => s5.grow hb
            | 6 => s6.grow hb
            | 7 => s7.grow hb
            | 8 => s8.grow hb
            | 9 => s9.grow hb
            | 10 => s10.grow hb
            | 11 => s11.grow hb
            | 12 => s12.grow hb
            | 13 => s13.grow hb
            | 14 => s14.grow hb
            | 15 => s15.grow hb
            | 16 => s16.grow hb
            | 17 => s17.grow hb
            | 18 => s18.grow hb
            | 19 => s19.grow hb
            | 20 => s20.grow hb
            | 21 => s21.grow hb
            | 22 => s22.grow hb
            | _ + 23 => sat_nilR hs'⟩⟩)
  · exact lay_ev [(92, 114)] (by kernel_rfl) (fun a w hr hs hd => by
          obtain ⟨⟨v0, h0, e0⟩, -⟩ := hd
          skip
          exact ⟨_, (Ev.assign (show Oper.op _ = Op.assign (Operand.tmp 114) from rfl) (by rfl)).run a w (hr.add h0) hs, e0⟩)
  · rintro v a w hr hs ⟨g, As, rfl, h1, h2⟩
    refine (Cd.ret (Ent.ret (g, As, wb) trivial (Res.tmp (by rfl) (by rfl)) rfl [0, 1, 2] (by rfl) (by rfl)) : Cd _ _ _ _ [cmdR g As, cmdF wb As, boxF wb] _ _) a w hr (Sat.joinR hs.upd (fun C hC => ?_) (fun C hC => ?_))
    · simp only [List.mem_cons, List.not_mem_nil, or_false] at hC
      rcases hC with rfl | rfl | rfl <;> rfl
    · simp only [List.mem_cons, List.not_mem_nil, or_false] at hC
      rcases hC with rfl | rfl | rfl
      · exact h1
      · exact Sat.starfR hs.upd (fun _ => rfl) h2
      · refine Sat.starfR hs.upd (fun _ => rfl) (fun κ => ?_)
        cases κ
        · exact hs.one 10 rfl
        · exact hs.one 11 rfl
        · exact hs.one 12 rfl
        · exact hs.one 13 rfl
        · exact hs.one 14 rfl
        · exact hs.one 15 rfl
        · exact hs.one 16 rfl
        · exact hs.one 17 rfl
        · exact hs.one 18 rfl
end Go.Proofs.YtemcigoelcblbaaGreatDoor
