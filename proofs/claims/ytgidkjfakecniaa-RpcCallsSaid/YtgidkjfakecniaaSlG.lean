/-
  Lists in slices: their elements by name; arguments as one piece.
-/
import Derived.Test.YtgidkjfakecniaaSlF
import Derived.Test.YtgidkjfakecniaaLibO
import Derived.Test.YtgidkjfakecniaaLibI
namespace Go.Proofs.Ytgidkjfakecniaa
open Go.RowKit
section
variable {Γ : Ctx} {N : Nat} {P : Program} {E : Env} {H : List Chunk} {o : Oper} {x y : Operand}

theorem Ent.rdSome {A : Asrt} {B : Option Addr} {n sz : Nat} {xs : List Value} (i : Nat) (hi : H[i]? = some (rd B n sz xs)) (hn : 0 < n) (h : ∀ ad, B = some ad → Ent Γ N E H A) : Ent Γ N E H A :=
  Ent.fact i hi (p := ∃ ad, B = some ad) (fun w hw => by obtain ⟨ad, e, _⟩ := hw.2 hn; exact ⟨ad, e⟩) (fun ⟨ad, e⟩ => h ad e)
theorem Ent.rowSome {A : Asrt} {B : Option Addr} {n c e sz : Nat} {xs : List Value} (i : Nat) (hi : H[i]? = some (row B n c e sz xs)) (hn : 0 < n) (h : ∀ ad, B = some ad → Ent Γ N E H A) : Ent Γ N E H A :=
  Ent.fact i hi (p := ∃ ad, B = some ad) (fun w hw => by obtain ⟨ad, e, _⟩ := (Own.reads hw).2 hn; exact ⟨ad, e⟩) (fun ⟨ad, e⟩ => h ad e)
theorem Ent.rdLen {A : Asrt} {B : Option Addr} {n sz : Nat} {xs : List Value} (i : Nat) (hi : H[i]? = some (rd B n sz xs)) (h : xs.length = n * sz → Ent Γ N E H A) : Ent Γ N E H A :=
  Ent.fact i hi (p := xs.length = n * sz) (fun _ hw => hw.1) h
theorem Ent.rowLen {A : Asrt} {B : Option Addr} {n c e sz : Nat} {xs : List Value} (i : Nat) (hi : H[i]? = some (row B n c e sz xs)) (h : xs.length = n * sz → Ent Γ N E H A) : Ent Γ N E H A :=
  Ent.fact i hi (p := xs.length = n * sz) (fun _ hw => Own.length hw) h

/-- The address of an element whose number is a Nat. -/
theorem Ev.indexAt {t e sz : Nat} {ad : Addr} {n c k : Nat} (ho : o.op = .indexAddr t x y) (hx : E.ev x = some (.slice (some ad) n c)) (hy : E.ev y = some (.int .i64 k)) (ht : P.underlying t = some (.slice e)) (he : (P.info? e).map (·.size) = some sz) (hk : k < n) : Ev Γ N P E H o (.pointer (some (ad.add (k * sz)))) := by
  have := Ev.indexAddr (Γ := Γ) (N := N) (H := H) ho hx hy ht he (by omega)
  simpa using this
theorem ints_at {xs : List Int} {k : Nat} {u : Int} (h : xs[k]? = some u) : (ints xs)[k * 1]? = some (.int .i64 u) := by simp [ints, h]
theorem Ev.loadInt {t n k : Nat} {ad : Addr} {xs : List Int} {u : Int} (ho : o.op = .load t x) (hx : E.ev x = some (.pointer (some (ad.add (k * 1))))) (hi : ReadsIn Γ H 1 (some ad) n (ints xs)) (ht : one P t = true) (hu : xs[k]? = some u) : Ev Γ N P E H o (.int .i64 u) :=
  .loadOf ho hx fun w hs => by
    have hh : Reads w w.heap.size 1 (some ad) n (ints xs) := hi w hs
    have hk : k < xs.length := (List.getElem?_eq_some_iff.1 hu).1
    have := hh.1
    exact run_loadVar_one ht (rd_cell hh (by simp [ints] at this; omega) (ints_at hu))
theorem strs_at {xs : List ByteArray} {k : Nat} {u : ByteArray} (h : xs[k]? = some u) : (strs xs)[k * 1]? = some (.string u) := by simp [strs, h]
theorem Ev.loadStr {t n k : Nat} {ad : Addr} {xs : List ByteArray} {u : ByteArray} (ho : o.op = .load t x) (hx : E.ev x = some (.pointer (some (ad.add (k * 1))))) (hi : ReadsIn Γ H 1 (some ad) n (strs xs)) (ht : one P t = true) (hu : xs[k]? = some u) : Ev Γ N P E H o (.string u) :=
  .loadOf ho hx fun w hs => by
    have hh : Reads w w.heap.size 1 (some ad) n (strs xs) := hi w hs
    have hk : k < xs.length := (List.getElem?_eq_some_iff.1 hu).1
    have := hh.1
    exact run_loadVar_one ht (rd_cell hh (by simp [strs] at this; omega) (strs_at hu))
/-- Elements of several cells. -/
theorem flatMap_at {α : Type} {enc : α → List Value} {sz : Nat} (he : ∀ a, (enc a).length = sz) : ∀ {l : List α} {k : Nat} {a : α}, l[k]? = some a → ((l.flatMap enc).drop (k * sz)).take sz = enc a
  | [], k, a, h => by simp at h
  | b :: l, 0, a, h => by
    simp only [List.getElem?_cons_zero, Option.some.injEq] at h
    subst h
    simp only [Nat.zero_mul, List.drop_zero, List.flatMap_cons]
    rw [List.take_append_of_le_length (by rw [he]; exact Nat.le_refl _), List.take_of_length_le (by rw [he]; exact Nat.le_refl _)]
  | b :: l, k + 1, a, h => by
    simp only [List.getElem?_cons_succ] at h
    rw [List.flatMap_cons, List.drop_append, List.drop_of_length_le (by rw [he, Nat.succ_mul]; omega), List.nil_append, he, Nat.succ_mul, Nat.add_sub_cancel]
    exact flatMap_at he h
theorem flatMap_len {α : Type} {enc : α → List Value} {sz : Nat} (he : ∀ a, (enc a).length = sz) (l : List α) : (l.flatMap enc).length = l.length * sz := by
  induction l with
  | nil => simp
  | cons a l ih => rw [List.flatMap_cons, List.length_append, he, ih, List.length_cons, Nat.succ_mul]; omega
theorem Ev.loadEl {t n k sz : Nat} {ad : Addr} {α : Type} {enc : α → List Value} {l : List α} {a : α} (ho : o.op = .load t x) (hx : E.ev x = some (.pointer (some (ad.add (k * sz))))) (hi : ReadsIn Γ H sz (some ad) n (l.flatMap enc)) (ht : agg P t sz = true) (he : ∀ a, (enc a).length = sz) (ha : l[k]? = some a) : Ev Γ N P E H o (.agg (enc a).toArray) :=
  .loadOf ho hx fun w hs => by
    have hh : Reads w w.heap.size sz (some ad) n (l.flatMap enc) := hi w hs
    refine run_loadVar_agg ht (he a) fun j v hj => ?_
    have hjs : j < sz := by rw [← he a]; exact (List.getElem?_eq_some_iff.1 hj).1
    have hn : 0 < n := by
      rcases Nat.eq_zero_or_pos n with h0 | h0
      · have := hh.1
        have hk : k < l.length := (List.getElem?_eq_some_iff.1 ha).1
        rw [flatMap_len he, h0, Nat.zero_mul] at this
        have : 0 < l.length * sz := Nat.mul_pos (by omega) (by omega)
        omega
      · exact h0
    rw [add_of_add]
    refine rd_cell hh hn ?_
    rw [← flatMap_at he ha, List.getElem?_take, if_pos hjs, List.getElem?_drop] at hj
    exact hj
/-- Inside an element of several cells. -/
theorem Ev.fieldAddrE0 {s f k b sz : Nat} {ad : Addr} (ho : o.op = .fieldAddr s x f) (hx : E.ev x = some (.pointer (some (ad.add (b * sz))))) (hf : fieldOff P s f = some k) : Ev Γ N P E H o (.pointer (some (ad.add (b * sz + k)))) := by
  have := Ev.fieldAddrA (Γ := Γ) (N := N) (H := H) ho hx hf
  rwa [add_of_add] at this
theorem Ev.fieldAddrE1 {s f k b sz j : Nat} {ad : Addr} (ho : o.op = .fieldAddr s x f) (hx : E.ev x = some (.pointer (some (ad.add (b * sz + j))))) (hf : fieldOff P s f = some k) : Ev Γ N P E H o (.pointer (some (ad.add (b * sz + (j + k))))) := by
  have := Ev.fieldAddrA (Γ := Γ) (N := N) (H := H) ho hx hf
  rwa [add_of_add, Nat.add_assoc] at this
theorem el_cell {w : World} {n k sz j : Nat} {ad : Addr} {α : Type} {enc : α → List Value} {l : List α} {a : α} {v : Value} (hh : Reads w w.heap.size sz (some ad) n (l.flatMap enc)) (he : ∀ a, (enc a).length = sz) (ha : l[k]? = some a) (hv : (enc a)[j]? = some v) : w.cell? (ad.add (k * sz + j)) = some v := by
  have hjs : j < sz := by rw [← he a]; exact (List.getElem?_eq_some_iff.1 hv).1
  have hn : 0 < n := by
    rcases Nat.eq_zero_or_pos n with h0 | h0
    · have := hh.1
      have hk : k < l.length := (List.getElem?_eq_some_iff.1 ha).1
      rw [flatMap_len he, h0, Nat.zero_mul] at this
      have : 0 < l.length * sz := Nat.mul_pos (by omega) (by omega)
      omega
    · exact h0
  refine rd_cell hh hn ?_
  rw [← flatMap_at he ha, List.getElem?_take, if_pos hjs, List.getElem?_drop] at hv
  exact hv
/-- One cell of an element of several. -/
theorem Ev.loadElF {t n k sz j : Nat} {ad : Addr} {α : Type} {enc : α → List Value} {l : List α} {a : α} {v : Value} (ho : o.op = .load t x) (hx : E.ev x = some (.pointer (some (ad.add (k * sz + j))))) (hi : ReadsIn Γ H sz (some ad) n (l.flatMap enc)) (ht : one P t = true) (he : ∀ a, (enc a).length = sz) (ha : l[k]? = some a) (hv : (enc a)[j]? = some v) : Ev Γ N P E H o v :=
  .loadOf ho hx fun w hs => run_loadVar_one ht (el_cell (hi w hs) he ha hv)
/-- Some cells of an element of several. -/
theorem Ev.loadElS {t n k sz j m : Nat} {ad : Addr} {α : Type} {enc : α → List Value} {l : List α} {a : α} {vs : List Value} (ho : o.op = .load t x) (hx : E.ev x = some (.pointer (some (ad.add (k * sz + j))))) (hi : ReadsIn Γ H sz (some ad) n (l.flatMap enc)) (ht : agg P t m = true) (he : ∀ a, (enc a).length = sz) (ha : l[k]? = some a) (hv : rangeOf (enc a) j m = vs) (hl : vs.length = m) : Ev Γ N P E H o (.agg vs.toArray) :=
  .loadOf ho hx fun w hs => run_loadVar_agg ht hl fun i v hiv => by
    rw [add_of_add, Nat.add_assoc]
    refine el_cell (hi w hs) he ha ?_
    rw [← hv, rangeOf, List.getElem?_take] at hiv
    split at hiv
    · rwa [List.getElem?_drop] at hiv
    · cases hiv
/-- A part of a struct that is one itself. -/
theorem Ev.fieldA {t f k m : Nat} {cs vs : List Value} {fs : Array Field} {fd : Field} (ho : o.op = .field t x f) (hx : E.ev x = some (.agg cs.toArray)) (ht : P.underlying t = some (.struct fs)) (hf : fs[f]? = some fd) (h1 : agg P fd.type m = true) (hk : fd.offset = k) (hv : rangeOf cs k m = vs) : Ev Γ N P E H o (.agg vs.toArray) := .of fun ρ hρ w => by
  simp only [agg, Bool.and_eq_true, beq_iff_eq] at h1
  obtain ⟨h1, h2⟩ := h1
  have hagg : (isAgg fd.type).run P w = .ok true w := by
    unfold isAgg
    cases hu : P.underlying fd.type with
    | none => simp [hu] at h1
    | some d => cases d <;> simp_all [run_underlying hu]
  obtain ⟨i, hi, hs⟩ := Option.map_eq_some_iff.1 h2
  subst hk hv
  simp [execOp, ho, hρ x _ hx, Instr.field, run_underlying ht, hf, asAgg, part, hagg, sizeOf, typeInfo, hi, hs]
  rfl
/-- A store into a slice of one's own. -/
theorem Does.storeEl {t k n c e : Nat} {A : Option Addr} {ad : Addr} {xs xs' : List Value} {v : Value} (i : Nat) (ho : o.op = .store t x y) (hx : E.ev x = some (.pointer (some (ad.add (k * 1))))) (hy : E.ev y = some v) (hi : H[i]? = some (row A n c e 1 xs)) (hA : A = some ad) (hsz : (P.info? t).map (·.size) = some 1) (h1 : v.oneCell' = true) (hk : k < n) (hxs : xs.set k v = xs') :
    Does Γ N P E H o Unit (fun _ => undef) (fun _ => H.set i (row A n c e 1 xs')) (fun _ => True) := .of fun ρ hρ w hs => by
  have ho' : Own w 0 e 1 A n c xs := hs.mem hi
  obtain ⟨g, hg, _, hlt, _, _⟩ := ho'.some_ (show 0 < n by omega)
  have had : ad = ⟨g, 0, none⟩ := by rw [hA] at hg; exact Option.some.inj hg
  subst had hxs
  have hadd' : (⟨g, 0, none⟩ : Addr).add k = ⟨g, k, none⟩ := by rw [add_at]; simp
  have hl : k < xs.length := by have := ho'.length; omega
  have hc := ho'.cell hg (List.getElem?_eq_getElem hl)
  have hf := ho'.frozen hg k
  obtain ⟨ti, hti, hsz⟩ := Option.map_eq_some_iff.1 hsz
  have hcs : v.cells.size = 1 ∧ v.cells.toList = [v] := by cases v <;> first | exact ⟨rfl, rfl⟩ | cases h1
  have hrun : (storeVar t ⟨g, k, none⟩ v).run P w = .ok () (w.setCell ⟨g, k, none⟩ v) := by
    have hst := run_store P w ⟨g, k, none⟩ v .plain h1
    rw [hc] at hst
    simp only [hf] at hst
    have hadd0 : (⟨g, k, none⟩ : Addr).add 0 = ⟨g, k, none⟩ := rfl
    simp [storeVar, sizeOf, typeInfo, hti, hsz, hcs.1, hcs.2, storeCells, hadd0, hst]
  refine ⟨(), w.setCell ⟨g, k, none⟩ v, trivial, ?_, .inr ⟨rfl, ?_⟩⟩
  · refine hs.turn hi rfl (Upd.setCell (S := (row A n c e 1 xs).foot) (p := ⟨g, k, none⟩) (Upd.refl _ _) (fun _ => by rw [hg]; rfl) v) (ho'.set_ hg v) (fun k hk => .inl hk)
  · simp [execOp, ho, hρ x _ hx, hρ y _ hy, Instr.storeAt, Instr.sureAddr, hadd', hrun]

/-- Pieces that are read alone are at hand, be it as one's own. -/
def AllIn (Γ : Ctx) (H : List Chunk) : List Chunk → Prop
  | [] => True
  | C :: r => (∀ w, Sat Γ H w → C.holds w) ∧ AllIn Γ H r
theorem AllIn.mem {Γ : Ctx} {H : List Chunk} {w : World} (hs : Sat Γ H w) : ∀ {Hp : List Chunk}, AllIn Γ H Hp → ∀ C ∈ Hp, C.holds w
  | [], _, C, hC => by cases hC
  | D :: r, h, C, hC => by
    rcases List.mem_cons.1 hC with rfl | hC
    · exact h.1 w hs
    · exact AllIn.mem hs h.2 C hC
/-- A call that only reads: nothing is handed over. -/
theorem Does.read {f : FuncId} {fn : Func} {args : Array Operand} {ats : Array TypeId} {vs : List Value} {ι : Type} {res : ι → Value} {Hp : List Chunk} {φ : ι → Prop}
    (ho : o.op = .call { callee := .value (.func f), args := args, argTypes := ats }) (hf : P.funcs[f]? = some fn) (hname : (fn.name == "runtime.NumGoroutine") = false) (hb : fn.body.isNone = false)
    (hspec : Fn P f vs.toArray Hp ι res (fun _ => []) φ) (hargs : args.toList.mapM E.ev = some vs) (hx : (Hp.all fun C => !C.excl) = true) (hh : AllIn Γ H Hp) :
    Does Γ N P E H o ι res (fun _ => H) φ := by
  refine ⟨fun a w hr hs K Q hK => ?_⟩
  have h1 : ¬ fn.name = "runtime.NumGoroutine" := by simpa using hname
  have h2 : ¬ fn.body = none := by cases hx : fn.body <;> simp_all
  have ha : args.map a.eval = vs.toArray := by
    have := args_ev (fun _ _ h => hr.ev h) _ _ hargs
    rw [← this, ← Array.toList_map]
  have hrun : (execOp a.eval o).run P w = .ok (.enter f vs.toArray) w := by
    unfold execOp
    simp [ho, resolve, Deferred.ofValue, invoke, callFunc, hf, h1, h2, Act.eval, ha]
  have hne : ∀ C ∈ Hp, C.excl = false := fun C hC => by simpa using List.all_eq_true.1 hx C hC
  have hs0 : Sat0 Hp w := ⟨hh.mem hs, List.pairwise_iff_getElem.2 fun i j hi hj _ he => by
    rw [hne _ (List.getElem_mem hi), hne _ (List.getElem_mem hj)] at he
    rcases he with he | he <;> cases he⟩
  unfold Oper.wp
  rw [hrun]
  refine (hspec w hs0).mono ?_
  rintro e w' ⟨i, hi, rfl, hs'⟩
  have hS : ∀ k, ¬ Ctx.S ⟨w, Hp⟩ k := fun k ⟨D, hD, he, _⟩ => by rw [hne D hD] at he; cases he
  refine hK i w' hi ⟨hs.upd.trans hs'.upd (fun k _ h => absurd h (hS k)), ⟨fun C hC => C.loc w w' hs'.upd.size (fun k hk => hs'.upd.block k (C.lt w k (hs.sat.1 C hC) hk) (hS k)) (hs.sat.1 C hC), hs.sat.2⟩, hs.fits⟩

/-! ### Arguments -/
/-- All that there was in W is as it was. -/
def argc (W : World) : Chunk where
  holds w := W.heap.size ≤ w.heap.size ∧ ∀ k, k < W.heap.size → w.heap[k]? = W.heap[k]?
  foot k := k < W.heap.size
  excl := false
  lt := fun _ k h hk => by omega
  loc := fun w w' hs he h => ⟨by omega, fun k hk => (he k hk).trans (h.2 k hk)⟩
theorem Sat.argc_start (W : World) : Sat0 [argc W] W := ⟨fun C hC => by
  obtain rfl : C = argc W := by simpa using hC
  exact ⟨Nat.le_refl _, fun _ _ => rfl⟩, List.pairwise_singleton _ _⟩
/-- Something that is read of the arguments. -/
theorem Sat.arg {W w : World} {A : Option Addr} {n sz : Nat} {xs : List Value} {i : Nat} (hi : H[i]? = some (argc W)) (hr : Reads W W.heap.size sz A n xs) (h : Sat Γ H w) : Sat Γ (rd A n sz xs :: H) w := by
  have hm : argc W ∈ H := List.mem_of_getElem? hi
  have hW : (argc W).holds w := h.sat.1 _ hm
  have hfoot : ∀ k, (rd A n sz xs).foot k → k < W.heap.size := by
    rintro k ⟨hn, hk⟩
    obtain ⟨ad, rfl, hb, _⟩ := hr.2 hn
    obtain rfl : ad.block = k := by simpa [blockOf] using hk
    exact hb
  refine ⟨h.upd, ⟨fun D hD => ?_, List.Pairwise.cons (fun D hD he k hk hk' => ?_) h.sat.2⟩, fun D hD => ?_⟩
  · rcases List.mem_cons.1 hD with rfl | hD
    · exact (hr.keep (fun p hp => World.cell?_of_block (hW.2 _ hp))).more hW.1
    · exact h.sat.1 D hD
  · have he2 : D.excl = true := by
      rcases he with he | he
      · cases he
      · exact he
    obtain ⟨il, e1⟩ := List.getElem?_eq_some_iff.1 hi
    obtain ⟨j, jl, e2⟩ := List.getElem_of_mem hD
    have hp := List.pairwise_iff_getElem.1 h.sat.2
    rcases Nat.lt_trichotomy i j with hlt | rfl | hlt
    · have := hp i j il jl hlt
      rw [e1, e2] at this
      exact this (.inr he2) k (hfoot k hk) hk'
    · rw [e1] at e2; subst e2; cases he2
    · have := hp j i jl il hlt
      rw [e1, e2] at this
      exact this (.inl he2) k hk' (hfoot k hk)
  · rcases List.mem_cons.1 hD with rfl | hD
    · intro k hk hlt
      exact ⟨(h.fits _ hm k (hfoot k hk) hlt).1, fun e => by cases e⟩
    · exact h.fits D hD
theorem Ent.arg {A : Asrt} {W : World} {B : Option Addr} {n sz : Nat} {xs : List Value} (i : Nat) (hi : H[i]? = some (argc W)) (hr : Reads W W.heap.size sz B n xs) (h : Ent Γ N E (rd B n sz xs :: H) A) : Ent Γ N E H A :=
  Ent.map (fun _ hs => hs.arg hi hr) h
/-- A law's walk, from its contract over pieces. -/
theorem Fn.law {f : FuncId} {args : Array Value} {W : World} (h : Fn P f args [argc W] Unit (fun _ => .bool true) (fun _ => []) (fun _ => True)) : Calls P f args W fun e w' => e = .returned (.bool true) ∧ Below W.heap.size W w' :=
  (h W (Sat.argc_start W)).mono fun e w' ⟨_, _, he, hs⟩ => ⟨he, hs.upd.to_below (Nat.le_refl _) fun k _ ⟨D, hD, hx, _⟩ => by
    obtain rfl : D = argc W := by simpa using hD
    cases hx⟩
end
end Go.Proofs.Ytgidkjfakecniaa
