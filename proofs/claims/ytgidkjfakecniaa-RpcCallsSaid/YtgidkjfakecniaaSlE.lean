/-
  More rules: choices, structs and slices that are built.
-/
import Derived.Test.YtgidkjfakecniaaSlD
import Derived.Lib.SliceRun
namespace Go.Proofs.Ytgidkjfakecniaa
open Go.RowKit

section
variable {Γ : Ctx} {N : Nat} {P : Program} {E : Env} {H : List Chunk} {κ : Cont} {ops : Array Oper} {rest : List Oper} {o : Oper} {x y z : Operand}

theorem Ev.pickT {v : Value} (ho : o.op = .pick x y z) (hx : E.ev x = some (.bool true)) (hy : E.ev y = some v) : Ev Γ N P E H o v := .of fun ρ hρ w => by simp [execOp, ho, hρ x _ hx, asBool, hρ y _ hy]
theorem Ev.pickF {v : Value} (ho : o.op = .pick x y z) (hx : E.ev x = some (.bool false)) (hz : E.ev z = some v) : Ev Γ N P E H o v := .of fun ρ hρ w => by simp [execOp, ho, hρ x _ hx, asBool, hρ z _ hz]
theorem Ev.pickB {c a b : Bool} (ho : o.op = .pick x y z) (hx : E.ev x = some (.bool c)) (hy : E.ev y = some (.bool a)) (hz : E.ev z = some (.bool b)) : Ev Γ N P E H o (.bool (bif c then a else b)) := .of fun ρ hρ w => by
  cases c <;> simp [execOp, ho, hρ x _ hx, asBool, hρ z _ hz, hρ y _ hy]

/-- The places of a struct's fields, and its zero. -/
def places (P : Program) (t : TypeId) : Option (List (Nat × Nat) × List Value) :=
  match P.underlying t, (P.info? t).bind (·.zero) with
  | some (.struct fs), some z => (fs.toList.mapM fun f => (P.info? f.type).map fun i => (f.offset, i.size)).map (·, z.cells.toList)
  | _, _ => none
theorem built_of {t : TypeId} {pl : List (Nat × Nat)} {zs : List Value} (hp : places P t = some (pl, zs)) (ps : List (Nat × Value)) : P.built t ps = Instr.fill (pl.toArray[·]?) zs.toArray ps := by
  unfold places at hp
  split at hp
  · rename_i fs z hu hz
    obtain ⟨l, hl, he⟩ := Option.map_eq_some_iff.1 hp
    simp only [Prod.mk.injEq] at he
    obtain ⟨rfl, rfl⟩ := he
    obtain ⟨i, hi, hiz⟩ := Option.bind_eq_some_iff.1 hz
    simp [Program.built, hi, hu, hiz, hl]
  · cases hp
theorem foldl_set (off : Nat) : ∀ (vs : List Value) (k : Nat) (cs : Array Value), off + k + vs.length ≤ cs.size →
    ((vs.zipIdx k).foldl (fun cs x => cs.setIfInBounds (off + x.2) x.1) cs).toList = cs.toList.take (off + k) ++ vs ++ cs.toList.drop (off + k + vs.length)
  | [], k, cs, _ => by simp
  | v :: r, k, cs, h => by
    simp only [List.length_cons] at h
    rw [List.zipIdx_cons, List.foldl_cons, foldl_set off r (k + 1) _ (by simp; omega)]
    have e := list_seg_step cs.toList (off + k) v r (by simp; omega)
    simpa [Array.toList_setIfInBounds, Nat.add_assoc] using e
/-- What a struct is built of, cell by cell. -/
def fillL (pl : List (Nat × Nat)) (cs : List Value) : List (Nat × Value) → Option (List Value)
  | [] => some cs
  | (i, v) :: r => match pl[i]? with
    | none => none
    | some (off, size) => bif v.cells.size == size && Nat.ble (off + size) cs.length then fillL pl (setR cs off v.cells.toList) r else none
theorem fill_of {pl : List (Nat × Nat)} : ∀ (ps : List (Nat × Value)) (cs cs' : List Value), fillL pl cs ps = some cs' → Instr.fill (pl.toArray[·]?) cs.toArray ps = some cs'.toArray
  | [], cs, cs', h => by
    simp only [fillL, Option.some.injEq] at h
    simp [Instr.fill, h]
  | (i, v) :: r, cs, cs', h => by
    unfold fillL at h
    unfold Instr.fill
    split at h
    · cases h
    · rename_i off size hpl
      by_cases hc : (v.cells.size == size && Nat.ble (off + size) cs.length) = true
      · rw [hc] at h
        simp only [cond_true] at h
        simp only [Bool.and_eq_true, beq_iff_eq, Nat.ble_eq] at hc
        have ih := fill_of r _ _ h
        have hpl' : pl.toArray[i]? = some (off, size) := by simpa using hpl
        rw [hpl']
        have hcond : ¬ (v.cells.size ≠ size || off + v.cells.size > cs.toArray.size) = true := by simp; omega
        simp only [hcond]
        rw [← ih, if_neg (by simp)]
        congr 1
        apply Array.ext'
        have := foldl_set off v.cells.toList 0 cs.toArray (by simp; omega)
        rw [← Array.foldl_toList, Array.toList_zipIdx, this]
        simp [setR]
      · have hc : (v.cells.size == size && Nat.ble (off + size) cs.length) = false := by cases hx : (v.cells.size == size && Nat.ble (off + size) cs.length) <;> simp_all
        rw [hc] at h
        simp at h
theorem Ev.buildP {t : TypeId} {parts : Array (Nat × Operand)} {ps : List (Nat × Value)} {cs : List Value} {pl : List (Nat × Nat)} {zs : List Value} (ho : o.op = .build t parts) (hp : parts.toList.mapM (fun p => (E.ev p.2).map (p.1, ·)) = some ps) (hpl : places P t = some (pl, zs)) (hb : fillL pl zs ps = some cs) : Ev Γ N P E H o (.agg cs.toArray) :=
  .build ho hp (by rw [built_of hpl]; exact fill_of _ _ _ hb)
/-- A literal slice: each of its elements in its turn. -/
def denseB (sz : Nat) : Nat → List (Nat × Value) → Bool
  | _, [] => true
  | k, (i, v) :: r => i == k && v.cells.size == sz && denseB sz (k + 1) r
def catC : List (Nat × Value) → List Value
  | [] => []
  | (_, v) :: r => v.cells.toList ++ catC r
theorem dense_fill {sz : Nat} : ∀ (ps : List (Nat × Value)) (k : Nat) (cs : List Value), denseB sz k ps = true → (k + ps.length) * sz ≤ cs.length →
    ∃ cs', Instr.fill (fun i => some (i * sz, sz)) cs.toArray ps = some cs'.toArray ∧ cs' = cs.take (k * sz) ++ catC ps ++ cs.drop ((k + ps.length) * sz) ∧ cs'.length = cs.length ∧ (catC ps).length = ps.length * sz
  | [], k, cs, _, _ => ⟨cs, by simp [Instr.fill], by simp [catC], rfl, by simp [catC]⟩
  | (i, v) :: r, k, cs, h, hl => by
    simp only [denseB, Bool.and_eq_true, beq_iff_eq] at h
    obtain ⟨⟨rfl, hv⟩, hr⟩ := h
    simp only [List.length_cons] at hl
    have e1 : (i + 1) * sz = i * sz + sz := Nat.succ_mul i sz
    have e2 : (i + (r.length + 1)) * sz = (i + 1 + r.length) * sz := by congr 1; omega
    have e3 : (i + 1 + r.length) * sz = (i + 1) * sz + r.length * sz := Nat.add_mul _ _ _
    have hvl : v.cells.toList.length = sz := by simpa using hv
    have hsl : (setR cs (i * sz) v.cells.toList).length = cs.length := by simp [setR]; omega
    obtain ⟨cs', h1, h2, h3, h4⟩ := dense_fill r (i + 1) (setR cs (i * sz) v.cells.toList) hr (by rw [hsl]; omega)
    refine ⟨cs', ?_, ?_, by omega, by simp only [catC, List.length_append, hvl, h4, List.length_cons]; rw [Nat.succ_mul]; omega⟩
    · unfold Instr.fill
      have hcond : ¬ (v.cells.size ≠ sz || i * sz + v.cells.size > cs.toArray.size) = true := by simp; omega
      simp only [hcond]
      rw [← h1, if_neg (by simp)]
      congr 1
      apply Array.ext'
      have := foldl_set (i * sz) v.cells.toList 0 cs.toArray (by simp; omega)
      rw [← Array.foldl_toList, Array.toList_zipIdx, this]
      simp [setR]
    · rw [h2, setR, catC, List.length_cons, e2]
      have ht : (cs.take (i * sz) ++ v.cells.toList ++ cs.drop (i * sz + v.cells.toList.length)).take ((i + 1) * sz) = cs.take (i * sz) ++ v.cells.toList := by
        rw [List.take_append_of_le_length (by simp; omega), List.take_of_length_le (by simp; omega)]
      have hd : (cs.take (i * sz) ++ v.cells.toList ++ cs.drop (i * sz + v.cells.toList.length)).drop ((i + 1 + r.length) * sz) = cs.drop ((i + 1 + r.length) * sz) := by
        rw [List.drop_append, List.drop_of_length_le (by simp; omega), List.nil_append, List.drop_drop]
        congr 1
        simp
        omega
      rw [ht, hd]
      simp
theorem Does.lit {t e sz len : Nat} {parts : Array (Nat × Operand)} {ps : List (Nat × Value)} (ho : o.op = .buildSlice t len parts) (hp : parts.toList.mapM (fun p => (E.ev p.2).map (p.1, ·)) = some ps) (ht : P.underlying t = some (.slice e)) (he : (P.info? e).map (fun i => (i.size, (i.zero.map (·.cells.size)))) = some (sz, some sz)) (hd : denseB sz 0 ps = true) (hn : (Nat.beq ps.length len && Nat.blt 0 len && Nat.blt 0 sz && Nat.ble (len * sz) 16777216) = true) :
    Does Γ N P E H o Nat (fun g => .slice (some ⟨g, 0, none⟩) len len) (fun g => row (some ⟨g, 0, none⟩) len len e sz (catC ps) :: H) (fun _ => True) := by
  simp only [Bool.and_eq_true, Nat.beq_eq, Nat.blt_eq, Nat.ble_eq] at hn
  obtain ⟨⟨⟨rfl, h0⟩, h1⟩, h2⟩ := hn
  obtain ⟨ie, hie, hz⟩ := Option.map_eq_some_iff.1 he
  simp only [Prod.mk.injEq] at hz
  obtain ⟨rfl, hz⟩ := hz
  obtain ⟨z, hz, hzs⟩ := Option.map_eq_some_iff.1 hz
  have hpos : 0 < ps.length * ie.size := Nat.mul_pos h0 h1
  obtain ⟨cs', k1, k2, k3, k4⟩ := dense_fill ps 0 ((Array.range (ps.length * ie.size)).map (z.cells[· % z.cells.size]!)).toList hd (by simp)
  have hlen : ps.length ≤ 16777216 := by
    have : ps.length ≤ ps.length * ie.size := Nat.le_mul_of_pos_right _ h1
    omega
  have hcs : cs' = catC ps := by
    rw [k2]
    have : (((Array.range (ps.length * ie.size)).map (z.cells[· % z.cells.size]!)).toList).drop ((0 + ps.length) * ie.size) = [] := List.drop_of_length_le (by simp)
    rw [this]
    simp
  subst hcs
  refine .buildSlice (cs := (catC ps).toArray) ho hp ?_ (decide_eq_true (by unfold maxLen; omega))
  unfold builtS
  rw [ht]
  simp only [hie, hz]
  have hdec : (decide (ps.length * ie.size > 2 ^ 24) || decide (ps.length * ie.size = 0)) = false := by simp; omega
  rw [hdec]
  simp only [cond_false]
  rw [Array.toArray_toList] at k1
  rw [k1]
  simp [k4]

theorem Sat.tail_ {C : Chunk} {w : World} (h : Sat Γ (C :: H) w) : Sat Γ H w :=
  ⟨h.upd, ⟨fun D hD => h.sat.1 D (List.mem_cons_of_mem _ hD), (List.pairwise_cons.1 h.sat.2).2⟩, fun D hD => h.fits D (List.mem_cons_of_mem _ hD)⟩

/-! ### Results that lie in memory -/
theorem run_cell {t n g m u : Nat} {cs vs : List Value} {w : World} (i : Nat) (hs : Sat Γ H w) (hi : H[i]? = some (blk g u cs)) (ht : agg P t n = true) (hv : rangeOf cs m n = vs) (hn : vs.length = n) : (loadVar t ⟨g, m, none⟩).run P w = .ok (.agg vs.toArray) w :=
  run_loadVar_agg ht hn fun j v hj => by
    rw [add_at]
    refine blk_cell (hs.mem hi) ?_
    rw [← hv, rangeOf, List.getElem?_take] at hj
    split at hj
    · rwa [List.getElem?_drop] at hj
    · cases hj
theorem Res.cell {fn : Func} {p t n g m u : Nat} {cs vs : List Value} (i : Nat) (h : fn.results = #[.cell p t]) (hp : E.get p = some (.pointer (some ⟨g, m, none⟩))) (hi : H[i]? = some (blk g u cs)) (ht : agg P t n = true) (hv : rangeOf cs m n = vs) (hn : vs.length = n) : Res Γ N P fn E H (.agg vs.toArray) := fun a w hr hs => by
  simp [results, h, hr.get p _ hp, asAddr, run_cell i hs hi ht hv hn]
theorem Res.cell_tmp {fn : Func} {p q t n g m u : Nat} {cs vs : List Value} {v : Value} (i : Nat) (h : fn.results = #[.cell p t, .tmp q]) (hp : E.get p = some (.pointer (some ⟨g, m, none⟩))) (hi : H[i]? = some (blk g u cs)) (ht : agg P t n = true) (hv : rangeOf cs m n = vs) (hn : vs.length = n) (hq : E.get q = some v) : Res Γ N P fn E H (.tuple #[.agg vs.toArray, v]) := fun a w hr hs => by
  simp [results, h, hr.get p _ hp, hr.get q _ hq, asAddr, run_cell i hs hi ht hv hn]
theorem Res.tmp_cell {fn : Func} {p q t n g m u : Nat} {cs vs : List Value} {v : Value} (i : Nat) (h : fn.results = #[.tmp q, .cell p t]) (hq : E.get q = some v) (hp : E.get p = some (.pointer (some ⟨g, m, none⟩))) (hi : H[i]? = some (blk g u cs)) (ht : agg P t n = true) (hv : rangeOf cs m n = vs) (hn : vs.length = n) : Res Γ N P fn E H (.tuple #[v, .agg vs.toArray]) := fun a w hr hs => by
  simp [results, h, hr.get p _ hp, hr.get q _ hq, asAddr, run_cell i hs hi ht hv hn]
theorem Res.tmp2_cell {fn : Func} {p q r t n g m u : Nat} {cs vs : List Value} {v v' : Value} (i : Nat) (h : fn.results = #[.tmp q, .tmp r, .cell p t]) (hq : E.get q = some v) (hr' : E.get r = some v') (hp : E.get p = some (.pointer (some ⟨g, m, none⟩))) (hi : H[i]? = some (blk g u cs)) (ht : agg P t n = true) (hv : rangeOf cs m n = vs) (hn : vs.length = n) : Res Γ N P fn E H (.tuple #[v, v', .agg vs.toArray]) := fun a w hr hs => by
  simp [results, h, hr.get p _ hp, hr.get q _ hq, hr.get r _ hr', asAddr, run_cell i hs hi ht hv hn]

/-! ### More -/
theorem Ent.split {A : Asrt} {c : Bool} (d : Nat) (hd : E.get d = some (.bool c)) (hF : c = false → Ent Γ N (E.put (some d) (.bool false)) H A) (hT : c = true → Ent Γ N (E.put (some d) (.bool true)) H A) : Ent Γ N E H A := fun a w hr hs => by
  have key : ∀ b, c = b → Rep N (E.put (some d) (.bool b)) a := fun b hb => ⟨hr.size, hr.defers, fun t v ht => by
    simp only [Env.put, Env.get] at ht
    by_cases e : d = t
    · subst e
      simp only [beq_self_eq_true, cond_true, Option.some.injEq] at ht
      subst ht
      rw [← hb]
      exact hr.get d _ hd
    · have e' : (d == t) = false := by simpa using e
      rw [e'] at ht
      exact hr.get t v ht⟩
  cases hc : c
  · exact hF hc a w (key false hc) hs
  · exact hT hc a w (key true hc) hs
theorem Ent.known {A : Asrt} {c : Bool} (d : Nat) (b : Bool) (hd : E.get d = some (.bool c)) (hc : c = b) (h : Ent Γ N (E.put (some d) (.bool b)) H A) : Ent Γ N E H A := by
  cases b
  · exact Ent.split d hd (fun _ => h) (fun e => by rw [hc] at e; cases e)
  · exact Ent.split d hd (fun e => by rw [hc] at e; cases e) (fun _ => h)
theorem Ev.isNil {t t' : TypeId} {A : Option Addr} {n c : Nat} {e : TypeId} (ho : o.op = .binOp .eql t x y t') (hx : E.ev x = some (.slice A n c)) (hy : E.ev y = some (.slice none 0 0)) (ht : P.underlying t = some (.slice e)) : Ev Γ N P E H o (.bool A.isNone) :=
  .bin ho hx hy (fun _ => rfl) (fun w => Lib.run_eql_slice_nil w _ _ A n c 0 0 ht)
theorem Ev.ptrNil {t t' : TypeId} {a : Addr} {e : TypeId} (ho : o.op = .binOp .eql t x y t') (hx : E.ev x = some (.pointer (some a))) (hy : E.ev y = some (.pointer none)) (ht : P.underlying t = some (.pointer e)) : Ev Γ N P E H o (.bool false) :=
  .bin ho hx hy (fun _ => rfl) (fun w => by
    have : (Op.equal t (.pointer (some a)) (.pointer none)).run P w = .ok false w := by
      show (Op.equalIn (9999 + 1) t _ _).run P w = _
      unfold Op.equalIn
      simp [run_underlying ht]
    simp [binOp, this])
/-- A literal slice without elements. -/
theorem Does.lit0 {t e sz : Nat} (ho : o.op = .buildSlice t 0 #[]) (ht : P.underlying t = some (.slice e)) (he : (P.info? e).map (·.size) = some sz) :
    Does Γ N P E H o Nat (fun g => .slice (some ⟨g, 0, none⟩) 0 0) (fun g => row (some ⟨g, 0, none⟩) 0 0 e sz [] :: H) (fun _ => True) := .of fun ρ hρ w hs => by
  obtain ⟨ie, hie, hsz⟩ := Option.map_eq_some_iff.1 he
  refine ⟨w.heap.size, w.alloc (.cells #[] e), trivial, ?_, .inl ?_⟩
  · have hn := hs.new e []
    have := hn.turn (i := 0) (C := blk w.heap.size e []) rfl rfl (Upd.refl _ _) (C' := row (some ⟨w.heap.size, 0, none⟩) 0 0 e sz []) ((Own.empty w e sz).mono (Nat.zero_le _)) (fun k hk => .inl (by simpa [row, blockOf, blk] using hk.symm))
    simpa using this
  · have e0 : Array.range 0 = #[] := Array.eq_empty_of_size_eq_zero (by simp)
    simp [execOp, ho, Instr.buildSlice, run_underlying ht, sizeOf, typeInfo, hie, newRow, Instr.fill, e0]
/-- An append onto nothing. -/
theorem Does.app0 {t e sz bytes c m d : Nat} {A D : Option Addr} {news : List Value} (i : Nat) (ho : o.op = .call { callee := .builtin .append, args := #[x, y], argTypes := #[t, t] }) (hx : E.ev x = some (.slice A 0 c)) (hy : E.ev y = some (.slice D m d))
    (hi : H[i]? = some (row A 0 c e sz [])) (hr : ReadsIn Γ H sz D m news) (hel : Elem P t e sz bytes) (h1 : ∀ u ∈ news, u.oneCell' = true) (hbytes : m * bytes ≤ 140737488355328) :
    Does Γ N P E H o (Option Addr × Nat) (fun p => .slice p.1 m p.2) (fun p => H.set i (row p.1 m p.2 e sz news)) (fun _ => True) := by
  have := Does.app (Γ := Γ) (N := N) (P := P) (E := E) (H := H) i ho hx hy hi hr hel h1 (by rw [Nat.zero_add]; exact hbytes)
  simpa only [Nat.zero_add, List.nil_append] using this
/-- Pieces that are read alone, together. -/
def stars (Cs : List Chunk) : Chunk where
  holds w := ∀ C ∈ Cs, C.excl = false ∧ C.holds w
  foot k := ∃ C ∈ Cs, C.foot k
  excl := false
  lt := fun w k h ⟨C, hC, hk⟩ => C.lt w k (h C hC).2 hk
  loc := fun w w' hs he h C hC => ⟨(h C hC).1, C.loc w w' hs (fun k hk => he k ⟨C, hC, hk⟩) (h C hC).2⟩
theorem Sat.stars_nil {w : World} (h : Sat Γ H w) : Sat Γ (stars [] :: H) w :=
  ⟨h.upd, ⟨fun C hC => by
    rcases List.mem_cons.1 hC with rfl | hC
    · intro C hC; cases hC
    · exact h.sat.1 C hC, List.Pairwise.cons (fun D _ _ k hk => by obtain ⟨C, hC, _⟩ := hk; cases hC) h.sat.2⟩, fun C hC => by
    rcases List.mem_cons.1 hC with rfl | hC
    · rintro k ⟨C, hC, _⟩; cases hC
    · exact h.fits C hC⟩
/-- One piece more, read alone, goes to those. -/
theorem Sat.stars_add {C : Chunk} {Cs : List Chunk} {w : World} (hx : C.excl = false) (h : Sat Γ (C :: stars Cs :: H) w) : Sat Γ (stars (Cs ++ [C]) :: H) w := by
  obtain ⟨hu, ⟨hh, hp⟩, hf⟩ := h
  rw [List.pairwise_cons, List.pairwise_cons] at hp
  obtain ⟨p1, p2, p3⟩ := hp
  refine ⟨hu, ⟨fun D hD => ?_, List.Pairwise.cons (fun D hD he k hk => ?_) p3⟩, fun D hD => ?_⟩
  · rcases List.mem_cons.1 hD with rfl | hD
    · intro F hF
      rcases List.mem_append.1 hF with hF | hF
      · exact hh (stars Cs) (List.mem_cons_of_mem _ List.mem_cons_self) F hF
      · obtain rfl : F = C := by simpa using hF
        exact ⟨hx, hh F List.mem_cons_self⟩
    · exact hh D (List.mem_cons_of_mem _ (List.mem_cons_of_mem _ hD))
  · obtain ⟨F, hF, hk⟩ := hk
    have he2 : D.excl = true := by
      rcases he with he | he
      · cases he
      · exact he
    rcases List.mem_append.1 hF with hF | hF
    · exact p2 D hD (.inr he2) k ⟨F, hF, hk⟩
    · obtain rfl : F = C := by simpa using hF
      exact p1 D (List.mem_cons_of_mem _ hD) (.inr he2) k hk
  · rcases List.mem_cons.1 hD with rfl | hD
    · rintro k ⟨F, hF, hk⟩ hlt
      rcases List.mem_append.1 hF with hF | hF
      · exact ⟨((hf (stars Cs) (List.mem_cons_of_mem _ List.mem_cons_self)) k ⟨F, hF, hk⟩ hlt).1, fun e => by cases e⟩
      · obtain rfl : F = C := by simpa using hF
        exact ⟨(hf F List.mem_cons_self k hk hlt).1, fun e => by cases e⟩
    · exact hf D (List.mem_cons_of_mem _ (List.mem_cons_of_mem _ hD))
/-- One of them, beside them. -/
theorem Sat.stars_get {C : Chunk} {Cs : List Chunk} {w : World} {i : Nat} (hi : H[i]? = some (stars Cs)) (hC : C ∈ Cs) (h : Sat Γ H w) : Sat Γ (C :: H) w := by
  have hm : stars Cs ∈ H := List.mem_of_getElem? hi
  have hx : C.excl = false := (h.sat.1 _ hm C hC).1
  refine ⟨h.upd, ⟨fun D hD => ?_, List.Pairwise.cons (fun D hD he k hk hk' => ?_) h.sat.2⟩, fun D hD => ?_⟩
  · rcases List.mem_cons.1 hD with rfl | hD
    · exact (h.sat.1 _ hm D hC).2
    · exact h.sat.1 D hD
  · have he : D.excl = true := by
      rcases he with he | he
      · rw [hx] at he; cases he
      · exact he
    obtain ⟨il, e1⟩ := List.getElem?_eq_some_iff.1 hi
    obtain ⟨j, jl, e2⟩ := List.getElem_of_mem hD
    have hp := List.pairwise_iff_getElem.1 h.sat.2
    rcases Nat.lt_trichotomy i j with hlt | rfl | hlt
    · have := hp i j il jl hlt
      rw [e1, e2] at this
      exact this (.inr he) k ⟨C, hC, hk⟩ hk'
    · rw [e1] at e2; subst e2; cases he
    · have := hp j i jl il hlt
      rw [e1, e2] at this
      exact this (.inl he) k hk' ⟨C, hC, hk⟩
  · rcases List.mem_cons.1 hD with rfl | hD
    · intro k hk hlt
      exact ⟨(h.fits _ hm k ⟨D, hC, hk⟩ hlt).1, fun e => by rw [hx] at e; cases e⟩
    · exact h.fits D hD
theorem Ent.map {A : Asrt} {H' : List Chunk} (hs : ∀ w, Sat Γ H w → Sat Γ H' w) (h : Ent Γ N E H' A) : Ent Γ N E H A := fun a w hr hsat => h a w hr (hs w hsat)
theorem cons_eq {a b : Chunk} {l m : List Chunk} (h : a = b) (k : l = m) : a :: l = b :: m := by rw [h, k]
end
end Go.Proofs.Ytgidkjfakecniaa
