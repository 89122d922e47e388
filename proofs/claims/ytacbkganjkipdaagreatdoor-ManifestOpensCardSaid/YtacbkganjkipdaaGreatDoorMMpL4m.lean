/-
  Texts joined: SlA, SlB, SlC, SlD, SlE, SlF, SlG, SlN, SlR, SlP, SlQ, SlJ, SlK, SlM, SlT.
-/
import Derived.Test.YtacbkganjkipdaaGreatDoorMMpL4a
import Derived.Deep.RegionHeld3
import Derived.Laws.CopyRow
import Derived.Laws.ResultCell
import Derived.Great.BuildSlice
import Derived.TacticsIn
import Derived.OrdersIn
import Derived.RangeFuncLeaves
import Derived.RangeFuncRecord
import Derived.Lib.SliceRun
import Derived.RangeFuncBound
import Derived.Lib.AppendZeros
namespace Go.Proofs.YtacbkganjkipdaaGreatDoor
open Go.RowKit
structure Chunk where
 holds : World → Prop
 foot : Nat → Prop
 excl : Bool
 lt : ∀ w k, holds w → foot k → k < w.heap.size
 loc : ∀ w w', w.heap.size ≤ w'.heap.size → (∀ k, foot k → w'.heap[k]? = w.heap[k]?) → holds w → holds w'
def blk (g : Nat) (t : TypeId) (cs : List Value) : Chunk where
 holds w := Blk w g t cs.toArray
 foot k := k = g
 excl := true
 lt := fun _ k h e => by subst e; exact h.lt
 loc := fun w w' _ he h => (he g rfl).trans h
theorem own_block {w w' : World} {base e size n c : Nat} {A : Option Addr} {xs : List Value} (h : Own w base e size A n c xs) (he : ∀ k, blockOf A = some k → w'.heap[k]? = w.heap[k]?) : Own w' base e size A n c xs := by
 obtain ⟨h1, h2⟩ := h
 rcases h2 with h2 | ⟨g, cap, cur, hv, hg, hh, r⟩
 · exact ⟨h1, .inl h2⟩
 · refine ⟨h1, .inr ⟨g, cap, cur, hv, hg, (he g ?_).trans hh, r⟩⟩
   injection hv with e1
   rw [e1]
   rfl
def row (A : Option Addr) (n c : Nat) (e size : Nat) (xs : List Value) : Chunk where
 holds w := Own w 0 e size A n c xs
 foot k := blockOf A = some k
 excl := true
 lt := fun _ k h e => (h.ge k e).2
 loc := fun _ _ _ he h => own_block h he
def rd (A : Option Addr) (n size : Nat) (xs : List Value) : Chunk where
 holds w := Reads w w.heap.size size A n xs
 foot k := 0 < n ∧ blockOf A = some k
 excl := false
 lt := fun w k h e => by
  obtain ⟨ad, rfl, hb, _⟩ := h.2 e.1
  obtain rfl : ad.block = k := by simpa [blockOf] using e.2
  exact hb
 loc := fun w w' hs he h => ⟨h.1, fun hn => by
  obtain ⟨ad, rfl, hb, hc⟩ := h.2 hn
  refine ⟨ad, rfl, by omega, fun j u hu => ?_⟩
  rw [← hc j u hu]
  exact World.cell?_of_block (by rw [block_of_add]; exact he _ ⟨hn, rfl⟩)⟩
def apart (C D : Chunk) : Prop := (C.excl = true ∨ D.excl = true) → ∀ k, C.foot k → ¬ D.foot k
theorem apart.symm {C D : Chunk} (h : apart C D) : apart D C := fun he k h1 h2 => h he.symm k h2 h1
def Sat0 (H : List Chunk) (w : World) : Prop := (∀ C ∈ H, C.holds w) ∧ H.Pairwise apart
structure Ctx where
 w0 : World
 H0 : List Chunk
def Ctx.S (Γ : Ctx) (k : Nat) : Prop := ∃ D ∈ Γ.H0, D.excl = true ∧ D.foot k
def Ctx.old (Γ : Ctx) (k : Nat) : Prop := ∃ D ∈ Γ.H0, D.foot k
def Ctx.fits (Γ : Ctx) (C : Chunk) : Prop := ∀ k, C.foot k → k < Γ.w0.heap.size → Γ.old k ∧ (C.excl = true → Γ.S k)
structure Sat (Γ : Ctx) (H : List Chunk) (w : World) : Prop where
 upd : Upd Γ.S Γ.w0 w
 sat : Sat0 H w
 fits : ∀ C ∈ H, Γ.fits C
theorem Sat.start {H : List Chunk} {w : World} (h : Sat0 H w) : Sat ⟨w, H⟩ H w := ⟨Upd.refl _ _, h, fun C hC _ hk _ => ⟨⟨C, hC, hk⟩, fun he => ⟨C, hC, he, hk⟩⟩⟩
def picks (H : List Chunk) : List Nat → List Chunk
 | [] => []
 | i :: r => match H[i]? with
  | some C => C :: picks H r
  | none => picks H r
theorem mem_picks {H : List Chunk} {C : Chunk} : ∀ {is : List Nat}, C ∈ picks H is → ∃ j ∈ is, H[j]? = some C
 | [], h => by cases h
 | i :: r, h => by
  unfold picks at h
  split at h
  · rename_i D hD
    rcases List.mem_cons.1 h with rfl | h
    · exact ⟨i, List.mem_cons_self, hD⟩
    · obtain ⟨j, hj, e⟩ := mem_picks h
      exact ⟨j, List.mem_cons_of_mem _ hj, e⟩
  · obtain ⟨j, hj, e⟩ := mem_picks h
    exact ⟨j, List.mem_cons_of_mem _ hj, e⟩
def selB (es : List Bool) : List Nat → Bool
 | [] => true
 | i :: r => (r.all fun j => i != j || es[i]? == some false) && selB es r
theorem pick_sat0 {H : List Chunk} {w : World} (h : Sat0 H w) : ∀ (is : List Nat), selB (H.map (·.excl)) is = true → Sat0 (picks H is) w
 | [], _ => ⟨fun C hC => (by cases hC), List.Pairwise.nil⟩
 | i :: r, hs => by
  simp only [selB, Bool.and_eq_true] at hs
  have ih := pick_sat0 h r hs.2
  have hmem : ∀ D ∈ picks H r, ∃ j ∈ r, H[j]? = some D := fun D hD => mem_picks hD
  cases hi : H[i]? with
  | none => simpa [picks, hi] using ih
  | some C =>
   have e : picks H (i :: r) = C :: picks H r := by simp [picks, hi]
   rw [e]
   refine ⟨fun D hD => ?_, List.Pairwise.cons (fun D hD => ?_) ih.2⟩
   · rcases List.mem_cons.1 hD with rfl | hD
     · exact h.1 _ (List.mem_of_getElem? hi)
     · exact ih.1 D hD
   · obtain ⟨j, hj, hD'⟩ := hmem D hD
     have hp := List.pairwise_iff_getElem.1 h.2
     obtain ⟨hil, rfl⟩ := List.getElem?_eq_some_iff.1 hi
     obtain ⟨hjl, rfl⟩ := List.getElem?_eq_some_iff.1 hD'
     rcases Nat.lt_trichotomy i j with hlt | rfl | hlt
     · exact hp i j hil hjl hlt
     · have := (List.all_eq_true.1 hs.1) i hj
       simp [hi] at this
       intro he
       simp [this] at he
     · exact (hp j i hjl hil hlt).symm
theorem Sat.pick {Γ : Ctx} {H : List Chunk} {w : World} (h : Sat Γ H w) (is : List Nat) (hs : selB (H.map (·.excl)) is = true) : Sat Γ (picks H is) w :=
 ⟨h.upd, pick_sat0 h.sat is hs, fun C hC => by
  obtain ⟨j, _, hj⟩ := mem_picks hC
  exact h.fits C (List.mem_of_getElem? hj)⟩
theorem Sat.mem {Γ : Ctx} {H : List Chunk} {w : World} (h : Sat Γ H w) {C : Chunk} {i : Nat} (hi : H[i]? = some C) : C.holds w := h.sat.1 C (List.mem_of_getElem? hi)
theorem sat0_append {H R : List Chunk} {w : World} : Sat0 (H ++ R) w ↔ Sat0 H w ∧ Sat0 R w ∧ ∀ C ∈ H, ∀ D ∈ R, apart C D := by
 unfold Sat0
 rw [List.pairwise_append]
 constructor
 · rintro ⟨h1, h2, h3, h4⟩
   exact ⟨⟨fun C hC => h1 C (List.mem_append_left _ hC), h2⟩, ⟨fun C hC => h1 C (List.mem_append_right _ hC), h3⟩, h4⟩
 · rintro ⟨⟨h1, h2⟩, ⟨h3, h4⟩, h5⟩
   exact ⟨fun C hC => (List.mem_append.1 hC).elim (h1 C) (h3 C), h2, h4, h5⟩
theorem Sat.call {Γ : Ctx} {H R H' : List Chunk} {w w' : World} (h : Sat Γ (H ++ R) w) (k : Sat ⟨w, H⟩ H' w') : Sat Γ (H' ++ R) w' := by
 obtain ⟨sH, sR, sap⟩ := sat0_append.1 h.sat
 have hR : ∀ C ∈ R, ∀ k, C.foot k → ¬ Ctx.S ⟨w, H⟩ k := fun C hC k hk ⟨D, hD, he, hf⟩ => sap D hD C hC (.inl he) k hf hk
 have hlt : ∀ C ∈ R, ∀ k, C.foot k → k < w.heap.size := fun C hC k hk => C.lt w k (sR.1 C hC) hk
 refine ⟨?_, sat0_append.2 ⟨k.sat, ⟨fun C hC => C.loc w w' k.upd.size (fun k' hk' => k.upd.block k' (hlt C hC k' hk') (hR C hC k' hk')) (sR.1 C hC), sR.2⟩, ?_⟩, ?_⟩
 · refine h.upd.trans k.upd ?_
   rintro i hi ⟨D, hD, he, hf⟩
   exact (h.fits D (List.mem_append_left _ hD) i hf hi).2 he
 · intro C hC D hD he i h1 h2
   have hi : i < w.heap.size := hlt D hD i h2
   obtain ⟨⟨E, hE, hEf⟩, hS⟩ := k.fits C hC i h1 hi
   rcases he with he | he
   · obtain ⟨E', hE', hx, hf⟩ := hS he
     exact sap E' hE' D hD (.inl hx) i hf h2
   · exact sap E hE D hD (.inr he) i hEf h2
 · intro C hC
   rcases List.mem_append.1 hC with hC | hC
   · intro i h1 h2
     obtain ⟨⟨E, hE, hEf⟩, hS⟩ := k.fits C hC i h1 (Nat.lt_of_lt_of_le h2 h.upd.size)
     refine ⟨(h.fits E (List.mem_append_left _ hE) i hEf h2).1, fun he => ?_⟩
     obtain ⟨E', hE', hx, hf⟩ := hS he
     exact (h.fits E' (List.mem_append_left _ hE') i hf h2).2 hx
   · exact h.fits C (List.mem_append_right _ hC)
theorem Sat.new {Γ : Ctx} {H : List Chunk} {w : World} (h : Sat Γ H w) (t : TypeId) (cs : List Value) : Sat Γ (blk w.heap.size t cs :: H) (w.alloc (.cells cs.toArray t)) := by
 have hlt : ∀ C ∈ H, ∀ k, C.foot k → k < w.heap.size := fun C hC k hk => C.lt w k (h.sat.1 C hC) hk
 refine ⟨h.upd.alloc _, ⟨fun C hC => ?_, List.Pairwise.cons (fun D hD _ k hk hf => ?_) h.sat.2⟩, fun C hC => ?_⟩
 · rcases List.mem_cons.1 hC with rfl | hC
   · exact Blk.new w t _
   · exact C.loc w _ (by simp) (fun k hk => Below.heap_alloc w _ k (hlt C hC k hk)) (h.sat.1 C hC)
 · have := hlt D hD k hf
   obtain rfl : k = w.heap.size := hk
   omega
 · rcases List.mem_cons.1 hC with rfl | hC
   · intro k hk hk'
     obtain rfl : k = w.heap.size := hk
     exact absurd h.upd.size (by omega)
   · exact h.fits C hC
theorem Sat.turn {Γ : Ctx} {H : List Chunk} {w w' : World} (h : Sat Γ H w) {i : Nat} {C C' : Chunk} (hi : H[i]? = some C) (hx : C.excl = true) (hu : Upd C.foot w w') (hh : C'.holds w') (hf : ∀ k, C'.foot k → C.foot k ∨ w.heap.size ≤ k) : Sat Γ (H.set i C') w' := by
 have hlt : ∀ C ∈ H, ∀ k, C.foot k → k < w.heap.size := fun C hC k hk => C.lt w k (h.sat.1 C hC) hk
 obtain ⟨hil, hiC⟩ := List.getElem?_eq_some_iff.1 hi
 have hp := List.pairwise_iff_getElem.1 h.sat.2
 have hCm : C ∈ H := List.mem_of_getElem? hi
 have hap : ∀ j (hj : j < H.length), j ≠ i → ∀ k, C.foot k → ¬ H[j].foot k := by
  intro j hj hne k hk hk'
  rcases Nat.lt_or_gt_of_ne hne with hlt' | hlt'
  · exact hp j i hj hil hlt' (.inr (by rw [hiC]; exact hx)) k hk' (by rw [hiC]; exact hk)
  · exact hp i j hil hj hlt' (.inl (by rw [hiC]; exact hx)) k (by rw [hiC]; exact hk) hk'
 have hap' : ∀ j (hj : j < H.length), j ≠ i → ∀ k, C'.foot k → ¬ H[j].foot k := by
  intro j hj hne k hk hk'
  rcases hf k hk with h1 | h1
  · exact hap j hj hne k h1 hk'
  · exact absurd (hlt _ (List.getElem_mem hj) k hk') (by omega)
 refine ⟨h.upd.trans hu (fun k hk hf' => (h.fits C hCm k hf' hk).2 hx), ⟨fun D hD => ?_, ?_⟩, fun D hD => ?_⟩
 · obtain ⟨j, hj, rfl⟩ := List.getElem_of_mem hD
   rw [List.length_set] at hj
   rw [List.getElem_set]
   split
   · exact hh
   · rename_i hne
     exact H[j].loc w w' hu.size (fun k hk => hu.block k (hlt _ (List.getElem_mem hj) k hk) (fun hc => hap j hj (fun e => hne e.symm) k hc hk)) (h.sat.1 _ (List.getElem_mem hj))
 · rw [List.pairwise_iff_getElem]
   intro a b ha hb hab
   rw [List.length_set] at ha hb
   rw [List.getElem_set, List.getElem_set]
   split
   · rename_i ha'
     rw [if_neg (by omega)]
     intro _ k hk hk'
     exact hap' b hb (by omega) k hk hk'
   · rename_i ha'
     split
     · intro _ k hk hk'
       exact hap' a ha (fun e => ha' e.symm) k hk' hk
     · exact hp a b ha hb hab
 · obtain ⟨j, hj, rfl⟩ := List.getElem_of_mem hD
   rw [List.length_set] at hj
   rw [List.getElem_set]
   split
   · intro k hk hk'
     rcases hf k hk with h1 | h1
     · obtain ⟨o1, o2⟩ := h.fits C hCm k h1 hk'
       exact ⟨o1, fun _ => o2 hx⟩
     · exact absurd h.upd.size (by omega)
   · exact h.fits _ (List.getElem_mem hj)
theorem Sat.see {Γ : Ctx} {H : List Chunk} {w : World} (h : Sat Γ H w) {i : Nat} {C C' : Chunk} (hi : H[i]? = some C) (hx : C.excl = true) (hh : ∀ w, C.holds w → C'.holds w) (hf : ∀ k, C'.foot k → C.foot k) : Sat Γ (H.set i C') w :=
 h.turn hi hx (Upd.refl _ _) (hh w (h.mem hi)) (fun k hk => .inl (hf k hk))
theorem row_rd {A : Option Addr} {n c e size : Nat} {xs : List Value} : (∀ w, (row A n c e size xs).holds w → (rd A n size xs).holds w) ∧ (∀ k, (rd A n size xs).foot k → (row A n c e size xs).foot k) :=
 ⟨fun _ h => Own.reads h, fun _ h => h.2⟩
theorem Sat.drew {Γ : Ctx} {H : List Chunk} {w : World} (h : Sat Γ H w) : Sat Γ H w.drew :=
 ⟨h.upd.drew, ⟨fun C hC => C.loc w _ (Nat.le_refl _) (fun _ _ => rfl) (h.sat.1 C hC), h.sat.2⟩, h.fits⟩
abbrev Env := List (Nat × Value)
def Env.get : Env → Nat → Option Value
 | [], _ => none
 | (k, v) :: r, t => bif k == t then some v else Env.get r t
def Env.ev (E : Env) : Operand → Option Value
 | .tmp t => E.get t
 | .const v => some v
 | .global g => some (.pointer (some ⟨g, 0, none⟩))
 | .func f => some (.func (.func f) #[] #[])
def Env.put (E : Env) (dst : Option Tmp) (v : Value) : Env :=
 match dst with
 | some d => (d, v) :: E
 | none => E
structure Frm where
 size : Nat
 ds : List Deferred
 round : Option Nat
def Frm.fence (N : Frm) : Fence := { Fence.wide with round := N.round }
structure Rep (N : Frm) (E : Env) (a : Act) : Prop where
 size : a.tmps.size = N.size
 defers : a.defers = N.ds
 get : ∀ t v, E.get t = some v → a.tmps[t]? = some v
theorem Rep.ev {N : Frm} {E : Env} {a : Act} (h : Rep N E a) {x : Operand} {v : Value} (hx : E.ev x = some v) : a.eval x = v := by
 cases x with
 | tmp t =>
  have := h.get t v hx
  simp [Act.eval, this]
 | const c => simpa [Env.ev, Act.eval] using hx
 | global g => simpa [Env.ev, Act.eval] using hx
 | func f => simpa [Env.ev, Act.eval] using hx
def dstB (N : Frm) : Option Tmp → Bool
 | some d => decide (d < N.size)
 | none => true
theorem Rep.put {N : Frm} {E : Env} {a : Act} (h : Rep N E a) {dst : Option Tmp} (hd : dstB N dst = true) (v : Value) : Rep N (E.put dst v) (a.put dst v) := by
 cases dst with
 | none => exact h
 | some d =>
  have hd : d < N.size := of_decide_eq_true hd
  refine ⟨by simp [Act.put, h.size], by simp [Act.put, h.defers], fun t u ht => ?_⟩
  simp only [Env.put, Env.get] at ht
  simp only [Act.put, Array.getElem?_setIfInBounds]
  by_cases e : d = t
  · subst e
    simp at ht
    subst ht
    simp [h.size, hd]
  · have e' : (d == t) = false := by simpa using e
    rw [e'] at ht
    rw [if_neg e]
    exact h.get t u ht
def Env.le (E : Env) : Env → Prop
 | [] => True
 | (t, v) :: r => E.get t = some v ∧ Env.le E r
theorem Env.le_get {E : Env} : ∀ {E' : Env}, E.le E' → ∀ t v, E'.get t = some v → E.get t = some v
 | [], _, t, v, h => by simp [Env.get] at h
 | (k, u) :: r, hle, t, v, h => by
  simp only [Env.get] at h
  by_cases e : k = t
  · subst e
    simp at h
    subst h
    exact hle.1
  · have e' : (k == t) = false := by simpa using e
    rw [e'] at h
    exact Env.le_get hle.2 t v h
theorem Rep.le {N : Frm} {E E' : Env} {a : Act} (h : Rep N E a) (hle : E.le E') : Rep N E' a := ⟨h.size, h.defers, fun t v ht => h.get t v (Env.le_get hle t v ht)⟩
abbrev Asrt := Act → World → Prop
def Ent (Γ : Ctx) (N : Frm) (E : Env) (H : List Chunk) (A : Asrt) : Prop := ∀ a w, Rep N E a → Sat Γ H w → A a w
structure Cont where
 normal : Asrt
 exits : Nat → Asrt
 ret : Asrt
def Cont.toQ (κ : Cont) : Exit → Act → World → Prop
 | .normal => κ.normal
 | .exit id => κ.exits id
 | .ret => κ.ret
 | .goto _ => fun _ _ => False
 | .panic _ => fun _ _ => False
 | .outgrown => fun _ _ => False
section
variable {Γ : Ctx} {N : Frm} {P : Program} {E : Env} {H : List Chunk} {κ : Cont} {ops : Array Oper} {rest : List Oper} {o : Oper}
theorem Ent.pick {A : Asrt} (is : List Nat) (hs : selB (H.map (·.excl)) is = true) (h : Ent Γ N E (picks H is) A) : Ent Γ N E H A :=
 fun a w hr hs' => h a w hr (hs'.pick is hs)
theorem Ent.le {A : Asrt} {E' : Env} (hle : E.le E') (h : Ent Γ N E' H A) : Ent Γ N E H A := fun a w hr hs => h a w (hr.le hle) hs
theorem Ent.see {A : Asrt} (i : Nat) {B : Option Addr} {n c e size : Nat} {xs : List Value} (hi : H[i]? = some (row B n c e size xs)) (h : Ent Γ N E (H.set i (rd B n size xs)) A) : Ent Γ N E H A :=
 fun a w hr hs => h a w hr (hs.see hi rfl row_rd.1 row_rd.2)
theorem Ent.fact {A : Asrt} (i : Nat) {C : Chunk} (hi : H[i]? = some C) {p : Prop} (hp : ∀ w, C.holds w → p) (h : p → Ent Γ N E H A) : Ent Γ N E H A :=
 fun a w hr hs => h (hp w (hs.mem hi)) a w hr hs
abbrev Cd (Γ : Ctx) (N : Frm) (P : Program) (E : Env) (H : List Chunk) (c : Code) (κ : Cont) : Prop := Ent Γ N E H fun a w => c.wpIn N.fence 0 P κ.toQ a w
abbrev Ls (Γ : Ctx) (N : Frm) (P : Program) (E : Env) (H : List Chunk) (ops : Array Oper) (l : List Oper) (κ : Cont) : Prop := Ent Γ N E H fun a w => wpList P ops κ.toQ l a w
theorem Cd.seq {x y : Code} (h : Cd Γ N P E H x { κ with normal := fun a w => y.wpIn N.fence 0 P κ.toQ a w }) : Cd Γ N P E H (.seq x y) κ := fun a w hr hs =>
 wpIn_seq (Code.wpIn_mono (fun e a w q => by cases e <;> exact q) (h a w hr hs))
theorem Cd.skip (h : Ent Γ N E H κ.normal) : Cd Γ N P E H .skip κ := fun a w hr hs => wpIn_skip (h a w hr hs)
theorem Cd.ret (h : Ent Γ N E H κ.ret) : Cd Γ N P E H .ret κ := fun a w hr hs => wpIn_ret (h a w hr hs)
theorem Cd.exit {id : Nat} (h : Ent Γ N E H (κ.exits id)) : Cd Γ N P E H (.exit id) κ := fun a w hr hs => wpIn_exit (h a w hr hs)
theorem Cd.block {id : Nat} {c : Code} (h : Cd Γ N P E H c { κ with exits := fun i => bif i == id then κ.normal else κ.exits i }) : Cd Γ N P E H (.block id c) κ := fun a w hr hs =>
 wpIn_block (Code.wpIn_mono (fun e a w q => by
  cases e with
  | exit i =>
   simp only [Cont.toQ] at q
   simp only [Exit.inBlock]
   by_cases hi : i = id
   · subst hi
     rw [if_pos rfl]
     show κ.normal a w
     simpa using q
   · rw [if_neg hi]
     have e' : (i == id) = false := by simpa using hi
     rw [e'] at q
     exact q
  | _ => exact q) (h a w hr hs))
def calmOp (o : Oper) : Bool := match o.op with
 | .defer _ => false
 | _ => true
theorem calm_spec {o : Oper} (h : calmOp o = true) : ∀ c, o.op ≠ .defer c := fun c e => by simp [calmOp, e] at h
theorem not_out (κ : Cont) : ¬ LetsOut κ.toQ := fun ⟨_, _, h⟩ => h
theorem rows_in {N : Frm} {n : Nat} {P : Program} {row : String} {args : Array Value} {w : World} {R : Value → World → Prop} (h : Rows P row args w R) : RowsIn N.fence n P row args w R := fun c cs _ =>
 let ⟨v, w', r, s⟩ := h c cs
 ⟨v, w', r, stepsIn_wide.2 s⟩
theorem calls_in {N : Frm} {n : Nat} {P : Program} {f : FuncId} {args : Array Value} {w : World} {R : Ending → World → Prop} (h : Calls P f args w R) : CallsIn N.fence n P f args w R :=
 ⟨trivial, fun cs _ => let ⟨e, w', fr, r, s, x⟩ := h cs; ⟨e, w', fr, r, comesIn_wide.2 s, x⟩⟩
theorem oper_in {N : Frm} {P : Program} {o : Oper} {a : Act} {w : World} {K : Asrt} {Q : Exit → Act → World → Prop} (hc : calmOp o = true) (h : o.wp P a w K Q) : o.wpIn N.fence 0 P a w K Q := by
 unfold Oper.wpIn Oper.wp at *
 refine ⟨fun _ _ => trivial, ?_⟩
 rw [Oper.semAt_eq _ _ _ (calm_spec hc)]
 generalize (execOp a.eval o).run P w = r at *
 cases r with
 | ok x w' =>
  cases x <;> simp only [Oper.upon, Oper.uponIn] at h ⊢ <;>
   first
    | exact h
    | exact ⟨fun e => by simp [Frm.fence, Fence.wide] at e, (calls_in h).mono (fun e w'' he => by cases e <;> exact he)⟩
    | exact ⟨fun e => by simp [Frm.fence, Fence.wide] at e, rows_in h⟩
    | exact h.elim
 | halt x w' => cases x <;> simp only [Oper.upon, Oper.uponIn] at h ⊢ <;> exact h
theorem list_in {N : Frm} {P : Program} {ops : Array Oper} {κ : Cont} : ∀ (l : List Oper) (a : Act) (w : World), l.all calmOp = true → wpList P ops κ.toQ l a w → wpListIn N.fence 0 P ops κ.toQ l a w
 | [], _, _, _, h => h
 | o :: l, a, w, hc, h => by
  simp only [List.all_cons, Bool.and_eq_true] at hc
  unfold wpList at h
  unfold wpListIn
  split
  · rename_i hw
    rw [if_pos hw] at h
    rcases h with h | ⟨_, h⟩
    · exact Oper.wpIn_mono (fun a w => list_in l a w hc.2) (oper_in hc.1 h)
    · exact absurd h (not_out κ)
  · rename_i hw
    rw [if_neg hw] at h
    exact ⟨fun _ _ => trivial, list_in l _ _ hc.2 h⟩
theorem any_in {N : Frm} {P : Program} {md : Region.Mode} {ops : Array Oper} {κ : Cont} (hc : ∀ (i : Nat) (o : Oper), ops[i]? = some o → calmOp o = true) : ∀ (fuel : Nat) (listed : Array Bool) (a : Act) (w : World), wpAny P md ops κ.toQ fuel listed a w → wpAnyIn N.fence 0 P md ops κ.toQ fuel listed a w
 | 0, _, _, _, h => h
 | fuel + 1, listed, a, w, h => ⟨h.1, fun i hi => by
  have h := h.2 i hi
  unfold wpOp at h
  unfold wpOpIn
  split
  · rename_i e
    rw [e] at h
    exact any_in hc fuel _ _ _ h
  · rename_i o e
    rw [e] at h
    dsimp only at h
    split
    · rename_i hw
      rw [if_pos hw] at h
      rcases h with h | ⟨_, h⟩
      · exact Oper.wpIn_mono (fun a w => any_in hc fuel _ a w) (oper_in (hc i o e) h)
      · exact absurd h (not_out κ)
    · rename_i hw
      rw [if_neg hw] at h
      exact ⟨fun _ _ => trivial, any_in hc fuel _ _ _ h⟩⟩
theorem Cd.region {id : Nat} {l : List Oper} (h : Ls Γ N P E H l.toArray l κ) (hc : l.all calmOp = true := by rfl) : Cd Γ N P E H (.region id l.toArray false) κ := fun a w hr hs => wpIn_region_lit (list_in l a w hc (h a w hr hs))
theorem Ls.nil (h : Ent Γ N E H κ.normal) : Ls Γ N P E H ops [] κ := fun a w hr hs => wpList_nil (h a w hr hs)
theorem Cd.cond {c : Operand} {x y : Code} (b : Bool) (hc : E.ev c = some (.bool b)) (h1 : b = true → Cd Γ N P E H x κ) (h2 : b = false → Cd Γ N P E H y κ) : Cd Γ N P E H (.cond c x y) κ := fun a w hr hs =>
 wpIn_cond_split (hr.ev hc) (fun hb => h1 hb a w hr hs) (fun hb => h2 hb a w hr hs)
theorem Cd.cond_true {c : Operand} {x y : Code} {b : Bool} (hc : E.ev c = some (.bool b)) (hb : b = true) (h : Cd Γ N P E H x κ) : Cd Γ N P E H (.cond c x y) κ := Cd.cond b hc (fun _ => h) (fun e => by rw [hb] at e; cases e)
theorem Cd.cond_false {c : Operand} {x y : Code} {b : Bool} (hc : E.ev c = some (.bool b)) (hb : b = false) (h : Cd Γ N P E H y κ) : Cd Γ N P E H (.cond c x y) κ := Cd.cond b hc (fun e => by rw [hb] at e; cases e) (fun _ => h)
def InvA (Γ : Ctx) (N : Frm) {ι : Type} (Es : ι → Env) (Hs : ι → List Chunk) (φ : ι → Prop) : Asrt := fun a w => ∃ j, φ j ∧ Rep N (Es j) a ∧ Sat Γ (Hs j) w
theorem Cd.loop {ι : Type} {c : Code} (Es : ι → Env) (Hs : ι → List Chunk) (φ : ι → Prop) (μ : ι → Nat) (j0 : ι) (h0 : φ j0) (hE : E.le (Es j0)) (hH : Hs j0 = H)
 (round : ∀ j, φ j → Cd Γ N P (Es j) (Hs j) c { κ with normal := InvA Γ N Es Hs (fun k => φ k ∧ μ k < μ j) }) : Cd Γ N P E H (.loop c) κ := by
 intro a w hr hs
 intro b k cs hro hb hrm
 have key : ∀ n j a w, μ j = n → φ j → Rep N (Es j) a → Sat Γ (Hs j) w →
  ∃ e a' w', κ.toQ e a' w' ∧ ArrivesIn (Machine.fenced P N.fence) P (lone (b.atR a (.code c :: .inLoop c :: k)) cs w) b k cs e a' w' := by
  intro n
  induction n using Nat.strongRecOn with
  | _ n ih =>
   intro j a w hn hj hr hs
   obtain ⟨e, a₁, w₁, hq, harr⟩ := round j hj a w hr hs b (.inLoop c :: k) cs hro hb hrm
   cases e with
   | normal =>
    obtain ⟨j', ⟨hj', hlt⟩, hr', hs'⟩ := hq
    obtain ⟨e₂, a₂, w₂, hq₂, harr₂⟩ := ih (μ j') (hn ▸ hlt) j' a₁ w₁ rfl hj' hr' hs'
    exact ⟨e₂, a₂, w₂, hq₂, .of_steps (StepsIn.trans harr (.one (fenced_calm hb hrm rfl) stepR_inLoop)) harr₂⟩
   | exit id => exact ⟨.exit id, a₁, w₁, hq, .pass (x := .inLoop c) rfl (fun _ _ => .inl (by simp)) harr⟩
   | goto l => exact hq.elim
   | ret => exact ⟨.ret, a₁, w₁, hq, .pass (x := .inLoop c) rfl (fun _ _ => .inl (by simp)) harr⟩
   | panic ch => exact hq.elim
   | outgrown => exact hq.elim
 obtain ⟨e, a', w', hq, harr⟩ := key _ j0 a w rfl h0 (hr.le hE) (hH ▸ hs)
 exact ⟨e, a', w', hq, .of_steps (.one (fenced_calm hb hrm rfl) stepR_loop) harr⟩
theorem Ent.inv {ι : Type} {Es : ι → Env} {Hs : ι → List Chunk} {φ : ι → Prop} (j : ι) (hj : φ j) (hE : E.le (Es j)) (hH : H = Hs j) : Ent Γ N E H (InvA Γ N Es Hs φ) := fun _ _ hr hs => ⟨j, hj, hr.le hE, hH ▸ hs⟩
theorem Cd.cut {c : Code} {ι : Type} (Es : ι → Env) (Hs : ι → List Chunk) (φ : ι → Prop) (h1 : Cd Γ N P E H c { κ with normal := InvA Γ N Es Hs φ }) (h2 : ∀ j, φ j → Ent Γ N (Es j) (Hs j) κ.normal) : Cd Γ N P E H c κ := fun a w hr hs =>
 Code.wpIn_mono (fun e a w q => by
  cases e with
  | normal => obtain ⟨j, hj, hr', hs'⟩ := q; exact h2 j hj a w hr' hs'
  | _ => exact q) (h1 a w hr hs)
structure Ev (Γ : Ctx) (N : Frm) (P : Program) (E : Env) (H : List Chunk) (o : Oper) (v : Value) : Prop where
 run : ∀ a w, Rep N E a → Sat Γ H w → (execOp a.eval o).run P w = .ok (.value v) w
structure Does (Γ : Ctx) (N : Frm) (P : Program) (E : Env) (H : List Chunk) (o : Oper) (ι : Type) (v : ι → Value) (H' : ι → List Chunk) (φ : ι → Prop) : Prop where
 run : ∀ a w, Rep N E a → Sat Γ H w → ∀ (K : Asrt) (Q : Exit → Act → World → Prop), (∀ i w', φ i → Sat Γ (H' i) w' → K (a.put o.dst (v i)) w') → o.wp P a w K Q
def wantB (ops : Array Oper) (E : Env) (o : Oper) : Option Bool :=
 match o.guard with
 | none => some true
 | some (g, b) => match (ops[g]?).bind (·.dst) with
  | some d => match E.get d with
   | some (.bool c) => some (c == b)
   | some (.tuple _) => some false
   | _ => none
  | none => none
theorem wanted_of {a : Act} (hr : Rep N E a) {b : Bool} (h : wantB ops E o = some b) : Region.wanted o (yielded ops a.tmps) = b := by
 unfold wantB at h
 unfold Region.wanted
 cases hg : o.guard with
 | none => simpa [hg] using h
 | some gb =>
  obtain ⟨g, c⟩ := gb
  simp only [hg] at h
  cases hd : (ops[g]?).bind (·.dst) with
  | none => simp [hd] at h
  | some d =>
   simp only [hd] at h
   split at h
   · rename_i c' hc
     have := hr.get d _ hc
     simp only [yielded, hd, Option.bind_some, this]
     cases c' <;> cases c <;> simp_all
   · rename_i vs hc
     have := hr.get d _ hc
     simp only [yielded, hd, Option.bind_some, this]
     simp_all
   · cases h
theorem Ls.ev {v : Value} (d : Option Tmp) (h : Ev Γ N P E H o v) (hw : wantB ops E o = some true) (hd : (decide (o.dst = d) && dstB N d) = true) (k : Ls Γ N P (E.put d v) H ops rest κ) : Ls Γ N P E H ops (o :: rest) κ := by
 simp only [Bool.and_eq_true, decide_eq_true_eq] at hd
 obtain ⟨rfl, hd⟩ := hd
 intro a w hr hs
 refine wpList_step fun K hK => ?_
 rw [if_pos (wanted_of hr hw)]
 unfold Oper.wp
 rw [h.run a w hr hs]
 exact hK _ _ (k _ _ (hr.put hd v) hs)
theorem Ls.pass (d : Option Tmp) (hw : wantB ops E o = some false) (hd : (decide (o.dst = d) && dstB N d) = true) (k : Ls Γ N P (E.put d undef) H ops rest κ) : Ls Γ N P E H ops (o :: rest) κ := by
 simp only [Bool.and_eq_true, decide_eq_true_eq] at hd
 obtain ⟨rfl, hd⟩ := hd
 intro a w hr hs
 refine wpList_step fun K hK => ?_
 rw [if_neg (by rw [wanted_of hr hw]; simp)]
 exact hK _ _ (k _ _ (hr.put hd undef) hs)
theorem Ls.does {ι : Type} {v : ι → Value} {H' : ι → List Chunk} {φ : ι → Prop} (d : Option Tmp) (h : Does Γ N P E H o ι v H' φ) (hw : wantB ops E o = some true) (hd : (decide (o.dst = d) && dstB N d) = true) (k : ∀ i, φ i → Ls Γ N P (E.put d (v i)) (H' i) ops rest κ) : Ls Γ N P E H ops (o :: rest) κ := by
 simp only [Bool.and_eq_true, decide_eq_true_eq] at hd
 obtain ⟨rfl, hd⟩ := hd
 intro a w hr hs
 refine wpList_step fun K hK => ?_
 rw [if_pos (wanted_of hr hw)]
 exact h.run a w hr hs K _ fun i w' hi hs' => hK _ _ (k i hi _ _ (hr.put hd (v i)) hs')
def Fn (P : Program) (f : FuncId) (args : Array Value) (H : List Chunk) (ι : Type) (res : ι → Value) (H' : ι → List Chunk) (φ : ι → Prop) : Prop :=
 ∀ w, Sat0 H w → Calls P f args w fun e w' => ∃ i, φ i ∧ e = .returned (res i) ∧ Sat ⟨w, H⟩ (H' i) w'
def startE (args : List Value) : Nat → Env
 | n => match args with
  | [] => []
  | v :: r => (n, v) :: startE r (n + 1)
theorem startE_get : ∀ (args : List Value) (n t : Nat) (v : Value), (startE args n).get t = some v → n ≤ t ∧ args[t - n]? = some v
 | [], n, t, v, h => by simp [startE, Env.get] at h
 | u :: r, n, t, v, h => by
  simp only [startE, Env.get] at h
  by_cases e : n = t
  · subst e
    simp at h
    simp [h]
  · have e' : (n == t) = false := by simpa using e
    rw [e'] at h
    obtain ⟨h1, h2⟩ := startE_get r (n + 1) t v h
    refine ⟨by omega, ?_⟩
    rw [show t - n = (t - (n + 1)) + 1 by omega]
    simpa using h2
theorem start_rep {fn : Func} {n : Nat} {args : List Value} (hn : fn.ntmps = n) (ha : args.length ≤ n) : Rep ⟨n, [], none⟩ (startE args 0) { tmps := args.toArray ++ Array.replicate (fn.ntmps - args.toArray.size) undef, defers := [] } := by
 refine ⟨?_, rfl, fun t v ht => ?_⟩
 · simp [hn]; omega
 · obtain ⟨_, h2⟩ := startE_get _ _ _ _ ht
   have hlt := (List.getElem?_eq_some_iff.1 h2).1
   simp only [Nat.sub_zero] at h2 hlt
   rw [Array.getElem?_append_left (by simpa using hlt)]
   simpa using h2
theorem Fn.enter {f : FuncId} {fn : Func} {n : Nat} {c : Code} {args : List Value} {ι : Type} {res : ι → Value} {H' : ι → List Chunk} {φ : ι → Prop} (hf : P.funcs[f]? = some fn) (hb : fn.body = some c) (hn : fn.ntmps = n) (ha : decide (args.length ≤ n) = true)
 (h : ∀ w, Cd ⟨w, H⟩ ⟨n, [], none⟩ P (startE args 0) H c ⟨bodyPost P fn (fun e w' => ∃ i, φ i ∧ e = .returned (res i) ∧ Sat ⟨w, H⟩ (H' i) w') .normal, fun _ _ _ => False, bodyPost P fn (fun e w' => ∃ i, φ i ∧ e = .returned (res i) ∧ Sat ⟨w, H⟩ (H' i) w') .ret⟩) : Fn P f args.toArray H ι res H' φ := by
 intro w hs
 refine calls_of_wp hf hb (Code.wp_mono (fun e a w q => ?_) (wpIn_wide.1 (h w _ w (start_rep hn (of_decide_eq_true ha)) (Sat.start hs))))
 cases e <;> first | exact q | exact q.elim
def Res (Γ : Ctx) (N : Frm) (P : Program) (fn : Func) (E : Env) (H : List Chunk) (v : Value) : Prop := ∀ a w, Rep N E a → Sat Γ H w → (results fn a.tmps).run P w = .ok v w
theorem Ent.ret {fn : Func} {ι : Type} {res : ι → Value} {H' : ι → List Chunk} {φ : ι → Prop} {v : Value} (i : ι) (hi : φ i) (hv : Res Γ N P fn E H v) (hres : v = res i) (is : List Nat) (hs : selB (H.map (·.excl)) is = true) (hH : picks H is = H' i) (hd : N.ds = [] := by rfl) :
 Ent Γ N E H (bodyPost P fn (fun e w' => ∃ i, φ i ∧ e = .returned (res i) ∧ Sat Γ (H' i) w') .ret) := fun a w hr hs' =>
 ⟨hr.defers.trans hd, v, hv a w hr hs', i, hi, by rw [hres], hH ▸ hs'.pick is hs⟩
theorem Ent.fin {fn : Func} {ι : Type} {res : ι → Value} {H' : ι → List Chunk} {φ : ι → Prop} {v : Value} (i : ι) (hi : φ i) (hv : Res Γ N P fn E H v) (hres : v = res i) (is : List Nat) (hs : selB (H.map (·.excl)) is = true) (hH : picks H is = H' i) (hd : N.ds = [] := by rfl) :
 Ent Γ N E H (bodyPost P fn (fun e w' => ∃ i, φ i ∧ e = .returned (res i) ∧ Sat Γ (H' i) w') .normal) := fun a w hr hs' =>
 ⟨hr.defers.trans hd, v, hv a w hr hs', i, hi, by rw [hres], hH ▸ hs'.pick is hs⟩
theorem Res.tmp {fn : Func} {t : Tmp} {v : Value} (h : fn.results = #[.tmp t]) (hv : E.get t = some v) : Res Γ N P fn E H v := fun a w hr _ => by
 rw [results_tmp h]
 simp [hr.get t v hv]
theorem Res.tmp2 {fn : Func} {t u : Tmp} {v v' : Value} (h : fn.results = #[.tmp t, .tmp u]) (hv : E.get t = some v) (hv' : E.get u = some v') : Res Γ N P fn E H (.tuple #[v, v']) := fun a w hr _ => by
 rw [results_tmp2 h]
 simp [hr.get t v hv, hr.get u v' hv']
theorem Res.nothing {fn : Func} (h : fn.results = #[]) : Res Γ N P fn E H (.tuple #[]) := fun _ _ _ _ => results_none h _ _ _
end
section
variable {Γ : Ctx} {N : Frm} {P : Program} {E : Env} {H : List Chunk} {κ : Cont} {ops : Array Oper} {rest : List Oper} {o : Oper} {x y z : Operand}
theorem Ev.of {v : Value} (h : ∀ (ρ : Operand → Value), (∀ x u, E.ev x = some u → ρ x = u) → ∀ w, (execOp ρ o).run P w = .ok (.value v) w) : Ev Γ N P E H o v := ⟨fun a w hr _ => h a.eval (fun _ _ h => hr.ev h) w⟩
theorem Ev.move {v : Value} (ho : o.op = .move x) (hx : E.ev x = some v) : Ev Γ N P E H o v := .of fun ρ hρ w => by simp [execOp, ho, hρ x v hx]
theorem Ev.assign {v : Value} (ho : o.op = .assign x) (hx : E.ev x = some v) : Ev Γ N P E H o v := .of fun ρ hρ w => by simp [execOp, ho, hρ x v hx]
theorem Ev.nilCheck {ad : Addr} (ho : o.op = .nilCheck x) (hx : E.ev x = some (.pointer (some ad))) : Ev Γ N P E H o (.pointer (some ad)) := .of fun ρ hρ w => by simp [execOp, ho, hρ x _ hx]
theorem Ev.bin {op : BinOp} {t t' : TypeId} {u v r : Value} (ho : o.op = .binOp op t x y t') (hx : E.ev x = some u) (hy : E.ev y = some v) (hg : ∀ w, (eqGuard op t x y u v).run P w = .ok () w) (hb : ∀ w, (binOp op t u v).run P w = .ok r w) : Ev Γ N P E H o r := .of fun ρ hρ w => by
 simp only [execOp, ho, hρ x _ hx, hρ y _ hy, Sem.run_bind, hg, hb, Result.andThen_ok, Sem.run_pure]
theorem Ev.add {t t' : TypeId} {k : IntKind} {a b : Int} (ho : o.op = .binOp .add t x y t') (hx : E.ev x = some (.int k a)) (hy : E.ev y = some (.int k b)) : Ev Γ N P E H o (.int k (k.wrap (a + b))) :=
 .bin ho hx hy (fun _ => rfl) (fun _ => by rw [binOp_add]; rfl)
theorem Ev.addI {t t' : TypeId} {a b : Int} (ho : o.op = .binOp .add t x y t') (hx : E.ev x = some (.int .i64 a)) (hy : E.ev y = some (.int .i64 b)) (h : -9223372036854775808 ≤ a + b ∧ a + b ≤ 9223372036854775807) : Ev Γ N P E H o (.int .i64 (a + b)) := by
 have := Ev.add (Γ := Γ) (N := N) (P := P) (H := H) ho hx hy
 rwa [IntWalk.i64_in _ h] at this
theorem Ev.sub {t t' : TypeId} {k : IntKind} {a b : Int} (ho : o.op = .binOp .sub t x y t') (hx : E.ev x = some (.int k a)) (hy : E.ev y = some (.int k b)) : Ev Γ N P E H o (.int k (k.wrap (a - b))) :=
 .bin ho hx hy (fun _ => rfl) (fun _ => by rw [binOp_sub]; rfl)
theorem Ev.subI {t t' : TypeId} {a b : Int} (ho : o.op = .binOp .sub t x y t') (hx : E.ev x = some (.int .i64 a)) (hy : E.ev y = some (.int .i64 b)) (h : -9223372036854775808 ≤ a - b ∧ a - b ≤ 9223372036854775807) : Ev Γ N P E H o (.int .i64 (a - b)) := by
 have := Ev.sub (Γ := Γ) (N := N) (P := P) (H := H) ho hx hy
 rwa [IntWalk.i64_in _ h] at this
theorem Ev.mul {t t' : TypeId} {k : IntKind} {a b : Int} (ho : o.op = .binOp .mul t x y t') (hx : E.ev x = some (.int k a)) (hy : E.ev y = some (.int k b)) : Ev Γ N P E H o (.int k (k.wrap (a * b))) :=
 .bin ho hx hy (fun _ => rfl) (fun _ => by rw [binOp_mul]; rfl)
theorem Ev.mulI {t t' : TypeId} {a b : Int} (ho : o.op = .binOp .mul t x y t') (hx : E.ev x = some (.int .i64 a)) (hy : E.ev y = some (.int .i64 b)) (h : -9223372036854775808 ≤ a * b ∧ a * b ≤ 9223372036854775807) : Ev Γ N P E H o (.int .i64 (a * b)) := by
 have := Ev.mul (Γ := Γ) (N := N) (P := P) (H := H) ho hx hy
 rwa [IntWalk.i64_in _ h] at this
theorem Ev.quo {t t' : TypeId} {k : IntKind} {a b : Int} (ho : o.op = .binOp .quo t x y t') (hx : E.ev x = some (.int k a)) (hy : E.ev y = some (.int k b)) (h : b ≠ 0) : Ev Γ N P E H o (.int k (k.wrap (a.tdiv b))) :=
 .bin ho hx hy (fun _ => rfl) (fun _ => by rw [binOp_quo]; simp [Op.intDiv, h])
theorem Ev.rem {t t' : TypeId} {k : IntKind} {a b : Int} (ho : o.op = .binOp .rem t x y t') (hx : E.ev x = some (.int k a)) (hy : E.ev y = some (.int k b)) (h : b ≠ 0) : Ev Γ N P E H o (.int k (a.tmod b)) :=
 .bin ho hx hy (fun _ => rfl) (fun _ => by rw [binOp_rem]; simp [Op.intDiv, h])
theorem Ev.shl {t t' : TypeId} {k k' : IntKind} {a b : Int} (ho : o.op = .binOp .shl t x y t') (hx : E.ev x = some (.int k a)) (hy : E.ev y = some (.int k' b)) (h : 0 ≤ b) : Ev Γ N P E H o (.int k (k.wrap (a * 2 ^ (min b.toNat k.bits)))) :=
 .bin ho hx hy (fun _ => rfl) (fun _ => by rw [binOp_shl]; simp [Op.shift, show ¬ b < 0 by omega])
theorem Ev.shr {t t' : TypeId} {k k' : IntKind} {a b : Int} (ho : o.op = .binOp .shr t x y t') (hx : E.ev x = some (.int k a)) (hy : E.ev y = some (.int k' b)) (h : 0 ≤ b) : Ev Γ N P E H o (.int k (a.fdiv (2 ^ (min b.toNat k.bits)))) :=
 .bin ho hx hy (fun _ => rfl) (fun _ => by rw [binOp_shr]; simp [Op.shift, show ¬ b < 0 by omega])
theorem Ev.lss {t t' : TypeId} {k : IntKind} {a b : Int} (ho : o.op = .binOp .lss t x y t') (hx : E.ev x = some (.int k a)) (hy : E.ev y = some (.int k b)) : Ev Γ N P E H o (.bool (decide (a < b))) :=
 .bin ho hx hy (fun _ => rfl) (fun _ => by rw [binOp_lss]; rfl)
theorem Ev.leq {t t' : TypeId} {k : IntKind} {a b : Int} (ho : o.op = .binOp .leq t x y t') (hx : E.ev x = some (.int k a)) (hy : E.ev y = some (.int k b)) : Ev Γ N P E H o (.bool (decide (a ≤ b))) :=
 .bin ho hx hy (fun _ => rfl) (fun _ => by rw [binOp_leq]; rfl)
theorem Ev.gtr {t t' : TypeId} {k : IntKind} {a b : Int} (ho : o.op = .binOp .gtr t x y t') (hx : E.ev x = some (.int k a)) (hy : E.ev y = some (.int k b)) : Ev Γ N P E H o (.bool (decide (b < a))) :=
 .bin ho hx hy (fun _ => rfl) (fun _ => by rw [binOp_gtr]; rfl)
theorem Ev.geq {t t' : TypeId} {k : IntKind} {a b : Int} (ho : o.op = .binOp .geq t x y t') (hx : E.ev x = some (.int k a)) (hy : E.ev y = some (.int k b)) : Ev Γ N P E H o (.bool (decide (b ≤ a))) :=
 .bin ho hx hy (fun _ => rfl) (fun _ => by rw [binOp_geq]; rfl)
theorem Ev.eql {t t' : TypeId} {k : IntKind} {a b : Int} (ho : o.op = .binOp .eql t x y t') (hx : E.ev x = some (.int k a)) (hy : E.ev y = some (.int k b)) : Ev Γ N P E H o (.bool (decide (a = b))) :=
 .bin ho hx hy (fun _ => rfl) (fun _ => by rw [binOp_eql]; rfl)
theorem Ev.neq {t t' : TypeId} {k : IntKind} {a b : Int} (ho : o.op = .binOp .neq t x y t') (hx : E.ev x = some (.int k a)) (hy : E.ev y = some (.int k b)) : Ev Γ N P E H o (.bool (decide (a ≠ b))) :=
 .bin ho hx hy (fun _ => rfl) (fun _ => by
  rw [binOp_neq]
  have : (a != b) = decide (a ≠ b) := by by_cases h : a = b <;> simp [h]
  rw [this]; rfl)
theorem Ev.neqG {t t' : TypeId} {u v : Value} {r : Bool} (ho : o.op = .binOp .neq t x y t') (hx : E.ev x = some u) (hy : E.ev y = some v) (hg : ∀ w, (eqGuard .neq t x y u v).run P w = .ok () w) (hb : ∀ w, (binOp .neq t u v).run P w = .ok (.bool r) w) : Ev Γ N P E H o (.bool r) :=
 .bin ho hx hy hg hb
theorem run_eqB {t : TypeId} (ht : P.underlying t = some .bool) (a b : Bool) (w : World) : (Op.equal t (.bool a) (.bool b)).run P w = .ok (a == b) w := by
 show (Op.equalIn (9999 + 1) t (.bool a) (.bool b)).run P w = _
 unfold Op.equalIn
 simp [run_underlying ht]
theorem Ev.neqB {t t' : TypeId} {a b : Bool} (ho : o.op = .binOp .neq t x y t') (hx : E.ev x = some (.bool a)) (hy : E.ev y = some (.bool b)) (ht : P.underlying t = some .bool) : Ev Γ N P E H o (.bool (!(a == b))) :=
 .bin ho hx hy (fun _ => rfl) (fun w => by simp [binOp, run_eqB ht])
theorem bytes_beq (a b : ByteArray) : (a.toList == b.toList) = decide (a = b) := by
 by_cases h : a = b
 · subst h; simp
 · have : a.toList ≠ b.toList := fun e => h (Go.WideShapes.bytes_inj (by rwa [ByteArray.toList_eq, ByteArray.toList_eq] at e))
   simp [h, this]
theorem Ev.eqlS {t t' : TypeId} {a b : ByteArray} (ho : o.op = .binOp .eql t x y t') (hx : E.ev x = some (.string a)) (hy : E.ev y = some (.string b)) : Ev Γ N P E H o (.bool (decide (a = b))) :=
 .bin ho hx hy (fun _ => rfl) (fun _ => by rw [← bytes_beq]; rfl)
theorem Ev.neqS {t t' : TypeId} {a b : ByteArray} (ho : o.op = .binOp .neq t x y t') (hx : E.ev x = some (.string a)) (hy : E.ev y = some (.string b)) : Ev Γ N P E H o (.bool (decide (a ≠ b))) :=
 .bin ho hx hy (fun _ => rfl) (fun _ => by
  have : decide (a ≠ b) = !(a.toList == b.toList) := by rw [bytes_beq]; by_cases h : a = b <;> simp [h]
  rw [this]; rfl)
theorem Ev.leqS {t t' : TypeId} {a b : ByteArray} (ho : o.op = .binOp .leq t x y t') (hx : E.ev x = some (.string a)) (hy : E.ev y = some (.string b)) : Ev Γ N P E H o (.bool (Op.bytesLess a.toList b.toList || (a.toList == b.toList))) :=
 .bin ho hx hy (fun _ => rfl) (fun _ => rfl)
theorem Ev.gtrS {t t' : TypeId} {a b : ByteArray} (ho : o.op = .binOp .gtr t x y t') (hx : E.ev x = some (.string a)) (hy : E.ev y = some (.string b)) : Ev Γ N P E H o (.bool (!(Op.bytesLess a.toList b.toList || (a.toList == b.toList)))) :=
 .bin ho hx hy (fun _ => rfl) (fun _ => rfl)
theorem Ev.addS {t t' : TypeId} {a b : ByteArray} (ho : o.op = .binOp .add t x y t') (hx : E.ev x = some (.string a)) (hy : E.ev y = some (.string b)) (h : a.size + b.size ≤ 9223372036854775807) : Ev Γ N P E H o (.string (a ++ b)) :=
 .bin ho hx hy (fun _ => rfl) (fun w => by
  have h0 : ¬ (((a.size + b.size : Nat) : Int) > IntKind.i64.max) := by
   have : IntKind.i64.max = 9223372036854775807 := by decide
   omega
  show (Op.stringOp .add a b).run P w = _
  unfold Op.stringOp
  simp only [if_neg h0]
  rfl)
theorem Ev.not {t : TypeId} {b : Bool} (ho : o.op = .unOp .not t x) (hx : E.ev x = some (.bool b)) : Ev Γ N P E H o (.bool !b) := .of fun ρ hρ w => by simp [execOp, ho, hρ x _ hx, Op.unary]
theorem Ev.conv {s d : TypeId} {k k' : IntKind} {n : Int} (ho : o.op = .convert s d x) (hx : E.ev x = some (.int k n)) (hs : (P.underlying s).isSome = true) (hd : P.underlying d = some (.int k')) : Ev Γ N P E H o (.int k' (k'.wrap n)) := .of fun ρ hρ w => by
 have e : P.intKind d = k' := by simp [Program.intKind, hd]
 have := run_convert_int (P := P) w s d k n hs (by rw [e]; exact hd)
 rw [e] at this
 simp [execOp, ho, hρ x _ hx, this]
theorem Ev.convI {s d : TypeId} {k : IntKind} {n : Int} (ho : o.op = .convert s d x) (hx : E.ev x = some (.int k n)) (hs : (P.underlying s).isSome = true) (hd : P.underlying d = some (.int .i64)) (h : -9223372036854775808 ≤ n ∧ n ≤ 9223372036854775807) : Ev Γ N P E H o (.int .i64 n) := by
 have := Ev.conv (Γ := Γ) (N := N) (H := H) ho hx hs hd
 rwa [IntWalk.i64_in _ h] at this
theorem Ev.len {t : TypeId} {A : Option Addr} {n c : Nat} {e : TypeId} (ho : o.op = .call { callee := .builtin .len, args := #[x], argTypes := #[t] }) (hx : E.ev x = some (.slice A n c)) (ht : P.underlying t = some (.slice e)) : Ev Γ N P E H o (.int .i64 n) := .of fun ρ hρ w => by
 have e' : P.elem t = e := by simp [Program.elem, ht]
 have := run_len_slice (P := P) w t o.type A n c (by rw [e']; exact ht)
 simp [execOp, ho, resolve, invoke, builtin, hρ x _ hx, this, goInt]
theorem Ev.lenS {t : TypeId} {s : ByteArray} (ho : o.op = .call { callee := .builtin .len, args := #[x], argTypes := #[t] }) (hx : E.ev x = some (.string s)) (ht : P.underlying t = some .string) : Ev Γ N P E H o (.int .i64 s.size) := .of fun ρ hρ w => by
 simp [execOp, ho, resolve, invoke, builtin, hρ x _ hx, Builtin.len_, run_underlying ht, goInt]
theorem Ev.min {ts : Array TypeId} {k : IntKind} {a b : Int} (ho : o.op = .call { callee := .builtin .min, args := #[x, y], argTypes := ts }) (hx : E.ev x = some (.int k a)) (hy : E.ev y = some (.int k b)) : Ev Γ N P E H o (.int k (if b < a then b else a)) := .of fun ρ hρ w => by
 simp [execOp, ho, resolve, invoke, builtin, hρ x _ hx, hρ y _ hy, Builtin.min_, Builtin.min2]
theorem Ev.max {ts : Array TypeId} {k : IntKind} {a b : Int} (ho : o.op = .call { callee := .builtin .max, args := #[x, y], argTypes := ts }) (hx : E.ev x = some (.int k a)) (hy : E.ev y = some (.int k b)) : Ev Γ N P E H o (.int k (if a < b then b else a)) := .of fun ρ hρ w => by
 simp [execOp, ho, resolve, invoke, builtin, hρ x _ hx, hρ y _ hy, Builtin.max_, Builtin.max2]
def fieldOff (P : Program) (s f : Nat) : Option Nat :=
 match P.underlying s with
 | some (.struct fs) => match fs[f]? with
  | some fd => match P.info? fd.type with
   | some i => bif i.size == 0 then none else some fd.offset
   | none => none
  | none => none
 | _ => none
theorem run_fieldAt {s f k : Nat} {ad : Addr} (h : fieldOff P s f = some k) (w : World) : (Instr.fieldAt s (.pointer (some ad)) f).run P w = .ok (.pointer (some (ad.add k))) w := by
 unfold fieldOff at h
 split at h
 · rename_i fs hs
   split at h
   · rename_i fd hfd
     split at h
     · rename_i i hi
       by_cases hz : i.size = 0
       · simp [hz] at h
       · have hz' : (i.size == 0) = false := by simpa using hz
         rw [hz'] at h
         simp only [cond_false, Option.some.injEq] at h
         subst h
         simp [Instr.fieldAt, run_underlying hs, hfd, Instr.sureAddr, fieldPlace, sizeOf, typeInfo, hi, hz]
     · cases h
   · cases h
 · cases h
theorem add_at (g m k : Nat) : (⟨g, m, none⟩ : Addr).add k = ⟨g, m + k, none⟩ := by unfold Addr.add; split <;> simp_all
theorem Ev.fieldAddr {s f k m j g : Nat} (ho : o.op = .fieldAddr s x f) (hx : E.ev x = some (.pointer (some ⟨g, m, none⟩))) (hf : fieldOff P s f = some k) (hj : m + k = j) : Ev Γ N P E H o (.pointer (some ⟨g, j, none⟩)) := .of fun ρ hρ w => by
 simp [execOp, ho, hρ x _ hx, run_fieldAt hf, add_at, hj]
theorem Ev.fieldAddrA {s f k : Nat} {ad : Addr} (ho : o.op = .fieldAddr s x f) (hx : E.ev x = some (.pointer (some ad))) (hf : fieldOff P s f = some k) : Ev Γ N P E H o (.pointer (some (ad.add k))) := .of fun ρ hρ w => by
 simp [execOp, ho, hρ x _ hx, run_fieldAt hf]
theorem Ev.indexAddr {t e sz : Nat} {ad : Addr} {n c : Nat} {i : Int} {k : IntKind} (ho : o.op = .indexAddr t x y) (hx : E.ev x = some (.slice (some ad) n c)) (hy : E.ev y = some (.int k i)) (ht : P.underlying t = some (.slice e)) (he : (P.info? e).map (·.size) = some sz) (hi : 0 ≤ i ∧ i < n) : Ev Γ N P E H o (.pointer (some (ad.add (i.toNat * sz)))) := .of fun ρ hρ w => by
 obtain ⟨ie, hie, hsz⟩ := Option.map_eq_some_iff.1 he
 have e' : P.elem t = e := by simp [Program.elem, ht]
 have := run_indexAt_slice (P := P) w t ad n c k i (by rw [e']; exact ht)
 rw [if_pos hi, e'] at this
 simp [execOp, ho, hρ x _ hx, hρ y _ hy, this, sizeOf, typeInfo, hie, hsz]
def one (P : Program) (t : TypeId) : Bool := match P.underlying t with | some (.struct _) | some (.array _ _) | none => false | _ => true
theorem run_loadVar_one {t : TypeId} (ht : one P t = true) {ad : Addr} {w : World} {v : Value} (hv : w.cell? ad = some v) : (loadVar t ad).run P w = .ok v w := by
 unfold one at ht
 have hagg : (isAgg t).run P w = .ok false w := by
  unfold isAgg
  cases hu : P.underlying t with
  | none => simp [hu] at ht
  | some d => cases d <;> simp_all [run_underlying hu]
 simp [loadVar, hagg, hv]
def agg (P : Program) (t : TypeId) (n : Nat) : Bool := (match P.underlying t with | some (.struct _) | some (.array _ _) => true | _ => false) && (P.info? t).map (·.size) == some n
theorem run_loadVar_agg {t n : Nat} (ht : agg P t n = true) {ad : Addr} {w : World} {vs : List Value} (hl : vs.length = n) (hv : ∀ j v, vs[j]? = some v → w.cell? (ad.add j) = some v) : (loadVar t ad).run P w = .ok (.agg vs.toArray) w := by
 simp only [agg, Bool.and_eq_true, beq_iff_eq] at ht
 obtain ⟨h1, h2⟩ := ht
 have hagg : (isAgg t).run P w = .ok true w := by
  unfold isAgg
  cases hu : P.underlying t with
  | none => simp [hu] at h1
  | some d => cases d <;> simp_all [run_underlying hu]
 obtain ⟨i, hi, hs⟩ := Option.map_eq_some_iff.1 h2
 have := run_loadCells_list (P := P) w ad vs hv
 simp [loadVar, hagg, sizeOf, typeInfo, hi, hs, ← hl, this]
theorem Ev.loadOf {t : TypeId} {ad : Addr} {v : Value} (ho : o.op = .load t x) (hx : E.ev x = some (.pointer (some ad))) (h : ∀ w, Sat Γ H w → (loadVar t ad).run P w = .ok v w) : Ev Γ N P E H o v := ⟨fun a w hr hs => by
 simp [execOp, ho, hr.ev hx, Instr.loadAt, Instr.sureAddr, h w hs]⟩
theorem blk_cell {w : World} {g t m : Nat} {cs : List Value} {v : Value} (h : (blk g t cs).holds w) (hv : cs[m]? = some v) : w.cell? ⟨g, m, none⟩ = some v := (Blk.cell h m).trans (by simpa using hv)
theorem Ev.load {t g m u : Nat} {cs : List Value} {v : Value} (i : Nat) (ho : o.op = .load t x) (hx : E.ev x = some (.pointer (some ⟨g, m, none⟩))) (hi : H[i]? = some (blk g u cs)) (ht : one P t = true) (hv : cs[m]? = some v) : Ev Γ N P E H o v :=
 .loadOf ho hx fun _ hs => run_loadVar_one ht (blk_cell (hs.mem hi) hv)
def rangeOf (cs : List Value) (m n : Nat) : List Value := (cs.drop m).take n
theorem Ev.loads {t g m n u : Nat} {cs vs : List Value} (i : Nat) (ho : o.op = .load t x) (hx : E.ev x = some (.pointer (some ⟨g, m, none⟩))) (hi : H[i]? = some (blk g u cs)) (ht : agg P t n = true) (hv : rangeOf cs m n = vs) (hn : vs.length = n) : Ev Γ N P E H o (.agg vs.toArray) :=
 .loadOf ho hx fun w hs => run_loadVar_agg ht hn fun j v hj => by
  rw [add_at]
  refine blk_cell (hs.mem hi) ?_
  rw [← hv, rangeOf, List.getElem?_take] at hj
  split at hj
  · rwa [List.getElem?_drop] at hj
  · cases hj
theorem rd_cell {w : World} {ad : Addr} {n sz j : Nat} {xs : List Value} {v : Value} (h : (rd (some ad) n sz xs).holds w) (hn : 0 < n) (hv : xs[j]? = some v) : w.cell? (ad.add j) = some v := by
 obtain ⟨ad', e, _, hc⟩ := h.2 hn
 injection e with e
 subst e
 exact hc j v hv
theorem Ev.loadR {t n sz j : Nat} {ad : Addr} {xs : List Value} {v : Value} (i : Nat) (ho : o.op = .load t x) (hx : E.ev x = some (.pointer (some (ad.add j)))) (hi : H[i]? = some (rd (some ad) n sz xs)) (ht : one P t = true) (hn : 0 < n) (hv : xs[j]? = some v) : Ev Γ N P E H o v :=
 .loadOf ho hx fun _ hs => run_loadVar_one ht (rd_cell (hs.mem hi) hn hv)
theorem Ev.build {t : TypeId} {parts : Array (Nat × Operand)} {ps : List (Nat × Value)} {cs : Array Value} (ho : o.op = .build t parts) (hp : parts.toList.mapM (fun p => (E.ev p.2).map (p.1, ·)) = some ps) (hb : P.built t ps = some cs) : Ev Γ N P E H o (.agg cs) := .of fun ρ hρ w => by
 have key : ∀ (l : List (Nat × Operand)) (ps : List (Nat × Value)), l.mapM (fun p => (E.ev p.2).map (p.1, ·)) = some ps → l.map (fun p => (p.1, ρ p.2)) = ps := by
  intro l
  induction l with
  | nil => intro ps h; simpa using h
  | cons p l ih =>
   intro ps h
   rw [List.mapM_cons] at h
   simp only [Option.bind_eq_bind, Option.bind_eq_some_iff, Option.map_eq_some_iff, Option.pure_def, Option.some.injEq] at h
   obtain ⟨q, ⟨u, hu, rfl⟩, qs, hqs, rfl⟩ := h
   simp only [List.map_cons, ih qs hqs, hρ _ _ hu]
 have h1 := key _ _ hp
 have h2 : (parts.map fun (i, x) => (i, ρ x)).toList = ps := by rw [← h1]; simp
 simp [execOp, ho, run_build (P := P) w t _ cs (by rw [h2]; exact hb)]
theorem Ev.extract {k : Nat} {vs : Array Value} {v : Value} (ho : o.op = .extract x k) (hx : E.ev x = some (.tuple vs)) (hv : vs[k]? = some v) : Ev Γ N P E H o v := .of fun ρ hρ w => by
 simp [execOp, ho, hρ x _ hx, Instr.extract, hv]
theorem Ev.field {t f k : Nat} {cs : Array Value} {v : Value} {fs : Array Field} {fd : Field} (ho : o.op = .field t x f) (hx : E.ev x = some (.agg cs)) (ht : P.underlying t = some (.struct fs)) (hf : fs[f]? = some fd) (h1 : one P fd.type = true) (hk : fd.offset = k) (hv : cs[k]? = some v) : Ev Γ N P E H o v := .of fun ρ hρ w => by
 have hagg : (isAgg fd.type).run P w = .ok false w := by
  unfold isAgg
  unfold one at h1
  cases hu : P.underlying fd.type with
  | none => simp [hu] at h1
  | some d => cases d <;> simp_all [run_underlying hu]
 subst hk
 simp [execOp, ho, hρ x _ hx, Instr.field, run_underlying ht, hf, asAgg, part, hagg, hv]
theorem Does.of {ι : Type} {v : ι → Value} {H' : ι → List Chunk} {φ : ι → Prop} (h : ∀ (ρ : Operand → Value), (∀ x u, E.ev x = some u → ρ x = u) → ∀ w, Sat Γ H w → ∃ i w', φ i ∧ Sat Γ (H' i) w' ∧ ((execOp ρ o).run P w = .ok (.value (v i)) w' ∨ (v i = undef ∧ (execOp ρ o).run P w = .ok .skip w'))) : Does Γ N P E H o ι v H' φ := by
 refine ⟨fun a w hr hs K Q hK => ?_⟩
 obtain ⟨i, w', hi, hs', hrun | ⟨hv, hrun⟩⟩ := h a.eval (fun _ _ h => hr.ev h) w hs
 · unfold Oper.wp
   rw [hrun]
   exact hK i w' hi hs'
 · unfold Oper.wp
   rw [hrun]
   have := hK i w' hi hs'
   rw [hv] at this
   exact this
theorem Does.box {t : TypeId} {v : Value} (ho : o.op = .box t x) (hx : E.ev x = some v) : Does Γ N P E H o Nat (fun g => .pointer (some ⟨g, 0, none⟩)) (fun g => blk g t v.cells.toList :: H) (fun _ => True) := .of fun ρ hρ w hs =>
 ⟨w.heap.size, w.alloc (.cells v.cells t), trivial, by simpa using hs.new t v.cells.toList, .inl (by simp [execOp, ho, hρ x _ hx, Instr.box, newVar, newRow])⟩
def ZeroIs (P : Program) (t : TypeId) (cs : List Value) : Prop := ∃ i z, P.info? t = some i ∧ i.zero = some z ∧ z.cells = cs.toArray
theorem ZeroIs.mk {t : TypeId} {cs : List Value} (z : Value) (hz : (P.info? t).bind (·.zero) = some z) (hc : z.cells = cs.toArray) : ZeroIs P t cs := by
 obtain ⟨i, hi, hz⟩ := Option.bind_eq_some_iff.1 hz
 exact ⟨i, z, hi, hz, hc⟩
theorem Does.alloc {t : TypeId} {cs : List Value} (ho : o.op = .alloc t) (hz : ZeroIs P t cs) : Does Γ N P E H o Nat (fun g => .pointer (some ⟨g, 0, none⟩)) (fun g => blk g t cs :: H) (fun _ => True) := .of fun ρ hρ w hs => by
 obtain ⟨i, z, hi, hz, hc⟩ := hz
 exact ⟨w.heap.size, w.alloc (.cells cs.toArray t), trivial, hs.new t cs, .inl (by simp [execOp, ho, Instr.alloc, zeroValue, typeInfo, hi, hz, hc, newVar, newRow])⟩
def setR (cs : List Value) (m : Nat) (vs : List Value) : List Value := cs.take m ++ vs ++ cs.drop (m + vs.length)
theorem Does.store {t g m u : Nat} {cs cs' : List Value} {v : Value} (i : Nat) (ho : o.op = .store t x y) (hx : E.ev x = some (.pointer (some ⟨g, m, none⟩))) (hy : E.ev y = some v) (hi : H[i]? = some (blk g u cs)) (hsz : (P.info? t).map (·.size) = some v.cells.size) (h1 : v.cells.toList.all (·.oneCell') = true) (hm : decide (m + v.cells.size ≤ cs.length) = true) (hcs : setR cs m v.cells.toList = cs') : Does Γ N P E H o Unit (fun _ => undef) (fun _ => H.set i (blk g u cs')) (fun _ => True) := .of fun ρ hρ w hs => by
 have hb : Blk w g u cs.toArray := hs.mem hi
 have hm : m + v.cells.size ≤ cs.length := of_decide_eq_true hm
 have hst := run_storeCells_at P g m u v.cells.toList 0 cs.toArray w hb (by simpa using hm) (fun z hz => (List.all_eq_true.1 h1) z hz)
 simp only [Nat.add_zero] at hst
 obtain ⟨ti, hti, hsz⟩ := Option.map_eq_some_iff.1 hsz
 have hrun : (storeVar t ⟨g, m, none⟩ v).run P w = .ok () (w.setRow g (setR cs m v.cells.toList).toArray) := by
  simp only [storeVar, sizeOf, typeInfo, hti, hsz, Sem.run_bind, run_program, Result.andThen_ok, Sem.run_pure, ne_eq, not_true_eq_false, if_false, hst]
  rfl
 refine ⟨(), w.setRow g (setR cs m v.cells.toList).toArray, trivial, ?_, .inr ⟨rfl, ?_⟩⟩
 · refine hs.turn hi rfl ⟨rfl, rfl, rfl, by simp, fun k hk hn => setRow_other w g k _ (fun e => hn e)⟩ ?_ (fun k hk => .inl hk)
   subst hcs
   exact setRow_heap w g _ _ u (0, 0) hb
 · simp [execOp, ho, hρ x _ hx, hρ y _ hy, Instr.storeAt, Instr.sureAddr, hrun]
theorem parts_ev {ρ : Operand → Value} (hρ : ∀ x u, E.ev x = some u → ρ x = u) : ∀ (l : List (Nat × Operand)) (ps : List (Nat × Value)), l.mapM (fun p => (E.ev p.2).map (p.1, ·)) = some ps → l.map (fun p => (p.1, ρ p.2)) = ps := by
 intro l
 induction l with
 | nil => intro ps h; simpa using h
 | cons p l ih =>
  intro ps h
  rw [List.mapM_cons] at h
  simp only [Option.bind_eq_bind, Option.bind_eq_some_iff, Option.map_eq_some_iff, Option.pure_def, Option.some.injEq] at h
  obtain ⟨q, ⟨u, hu, rfl⟩, qs, hqs, rfl⟩ := h
  simp only [List.map_cons, ih qs hqs, hρ _ _ hu]
theorem args_ev {ρ : Operand → Value} (hρ : ∀ x u, E.ev x = some u → ρ x = u) : ∀ (l : List Operand) (vs : List Value), l.mapM E.ev = some vs → l.map ρ = vs := by
 intro l
 induction l with
 | nil => intro ps h; simpa using h
 | cons p l ih =>
  intro ps h
  rw [List.mapM_cons] at h
  simp only [Option.bind_eq_bind, Option.bind_eq_some_iff, Option.pure_def, Option.some.injEq] at h
  obtain ⟨u, hu, qs, hqs, rfl⟩ := h
  simp only [List.map_cons, ih qs hqs, hρ _ _ hu]
def builtS (P : Program) (t len : Nat) (ps : List (Nat × Value)) : Option (Nat × Nat × Array Value) :=
 match P.underlying t with
 | some (.slice e) => match P.info? e with
  | some ie => match ie.zero with
   | some z => bif decide (len * ie.size > 2 ^ 24) || decide (len * ie.size = 0) then none else
    match Instr.fill (fun i => some (i * ie.size, ie.size)) ((Array.range (len * ie.size)).map (z.cells[· % z.cells.size]!)) ps with
    | some cs => bif cs.size == len * ie.size then some (e, ie.size, cs) else none
    | none => none
   | none => none
  | none => none
 | _ => none
theorem Does.buildSlice {t e sz len : Nat} {parts : Array (Nat × Operand)} {ps : List (Nat × Value)} {cs : Array Value} (ho : o.op = .buildSlice t len parts) (hp : parts.toList.mapM (fun p => (E.ev p.2).map (p.1, ·)) = some ps) (hb : builtS P t len ps = some (e, sz, cs)) (hl : decide (len ≤ maxLen) = true) :
 Does Γ N P E H o Nat (fun g => .slice (some ⟨g, 0, none⟩) len len) (fun g => row (some ⟨g, 0, none⟩) len len e sz cs.toList :: H) (fun _ => True) := .of fun ρ hρ w hs => by
 unfold builtS at hb
 split at hb
 · rename_i e' hu
   split at hb
   · rename_i ie hie
     split at hb
     · rename_i z hz
       by_cases hsm : (decide (len * ie.size > 2 ^ 24) || decide (len * ie.size = 0)) = true
       · rw [hsm] at hb; simp at hb
       · have hsm : (decide (len * ie.size > 2 ^ 24) || decide (len * ie.size = 0)) = false := by simpa using hsm
         rw [hsm] at hb
         simp only [cond_false] at hb
         simp only [Bool.or_eq_false_iff, decide_eq_false_iff_not] at hsm
         split at hb
         · rename_i cs' hf
           by_cases hcs : cs'.size = len * ie.size
           · have hcs' : (cs'.size == len * ie.size) = true := by simpa using hcs
             rw [hcs'] at hb
             simp only [cond_true, Option.some.injEq, Prod.mk.injEq] at hb
             obtain ⟨rfl, rfl, rfl⟩ := hb
             have h2 : (parts.map fun (i, x) => (i, ρ x)).toList = ps := by rw [← parts_ev hρ _ _ hp]; simp
             refine ⟨w.heap.size, w.alloc (.cells cs' e'), trivial, ?_, .inl ?_⟩
             · have hn := hs.new e' cs'.toList
               have hrow : (row (some ⟨w.heap.size, 0, none⟩) len len e' ie.size cs'.toList).holds (w.alloc (.cells cs' e')) := (Own.built w e' hcs (of_decide_eq_true hl)).mono (Nat.zero_le _)
               have := hn.turn (i := 0) (C := blk w.heap.size e' cs'.toList) rfl rfl (Upd.refl _ _) (C' := row (some ⟨w.heap.size, 0, none⟩) len len e' ie.size cs'.toList) (by simpa using hrow) (fun k hk => .inl (by simpa [row, blockOf, blk] using hk.symm))
               simpa using this
             · simp [execOp, ho, run_buildSlice w t e' len _ cs' ie z hu hie hz hsm.1 hsm.2 (by rw [h2]; exact hf)]
           · have hcs' : (cs'.size == len * ie.size) = false := by simpa using hcs
             rw [hcs'] at hb; simp at hb
         · cases hb
     · cases hb
   · cases hb
 · cases hb
def ReadsIn (Γ : Ctx) (H : List Chunk) (size : Nat) (A : Option Addr) (n : Nat) (xs : List Value) : Prop := ∀ w, Sat Γ H w → Reads w w.heap.size size A n xs
theorem ReadsIn.rd {A : Option Addr} {n sz : Nat} {xs : List Value} (i : Nat) (hi : H[i]? = some (rd A n sz xs)) : ReadsIn Γ H sz A n xs := fun _ hs => hs.mem hi
theorem ReadsIn.row {A : Option Addr} {n c e sz : Nat} {xs : List Value} (i : Nat) (hi : H[i]? = some (row A n c e sz xs)) : ReadsIn Γ H sz A n xs := fun _ hs => Own.reads (hs.mem hi)
theorem ReadsIn.nil_ {sz : Nat} {A : Option Addr} : ReadsIn Γ H sz A 0 [] := fun _ _ => ⟨by simp, fun h => absurd h (by omega)⟩
theorem Ent.nil {A : Asrt} (e sz : Nat) (h : Ent Γ N E (row none 0 0 e sz [] :: H) A) : Ent Γ N E H A := fun a w hr hs => h a w hr
 ⟨hs.upd, ⟨fun C hC => by
  rcases List.mem_cons.1 hC with rfl | hC
  · exact Own.nil_ w 0 e sz
  · exact hs.sat.1 C hC, List.Pairwise.cons (fun D _ _ k hk => by cases hk) hs.sat.2⟩, fun C hC => by
  rcases List.mem_cons.1 hC with rfl | hC
  · intro k hk; cases hk
  · exact hs.fits C hC⟩
theorem Does.app {t e sz bytes n c m d : Nat} {A D : Option Addr} {xs news : List Value} (i : Nat) (ho : o.op = .call { callee := .builtin .append, args := #[x, y], argTypes := #[t, t] }) (hx : E.ev x = some (.slice A n c)) (hy : E.ev y = some (.slice D m d))
 (hi : H[i]? = some (row A n c e sz xs)) (hr : ReadsIn Γ H sz D m news) (hel : Elem P t e sz bytes) (h1 : ∀ u ∈ news, u.oneCell' = true) (hbytes : (n + m) * bytes ≤ 140737488355328) :
 Does Γ N P E H o (Option Addr × Nat) (fun p => .slice p.1 (n + m) p.2) (fun p => H.set i (row p.1 (n + m) p.2 e sz (xs ++ news))) (fun _ => True) := .of fun ρ hρ w hs => by
 obtain ⟨A', c', w', hrun, hown, hupd, hat⟩ := run_app (P := P) (ty := o.type) (d := d) hel (hs.mem hi) (hr w hs) h1 hbytes (Nat.zero_le _)
 refine ⟨(A', c'), w', trivial, ?_, .inl ?_⟩
 · refine hs.turn hi rfl hupd hown fun k hk => ?_
   rcases hat with e | ⟨g, rfl, hg⟩
   · exact .inl (e.symm.trans hk)
   · right
     have : g = k := by simpa [row, blockOf] using hk
     omega
 · simp [execOp, ho, resolve, invoke, builtin, hρ x _ hx, hρ y _ hy, hrun]
theorem Does.call {f : FuncId} {fn : Func} {args : Array Operand} {ats : Array TypeId} {vs : List Value} {ι : Type} {res : ι → Value} {Hp R : List Chunk} {H' : ι → List Chunk} {φ : ι → Prop} (is : List Nat)
 (ho : o.op = .call { callee := .value (.func f), args := args, argTypes := ats }) (hf : P.funcs[f]? = some fn) (hname : (fn.name == "runtime.NumGoroutine") = false) (hb : fn.body.isNone = false)
 (hspec : Fn P f vs.toArray Hp ι res H' φ) (hargs : args.toList.mapM E.ev = some vs) (hsel : selB (H.map (·.excl)) is = true) (hsp : picks H is = Hp ++ R) :
 Does Γ N P E H o ι res (fun i => H' i ++ R) φ := by
 refine ⟨fun a w hr hs K Q hK => ?_⟩
 have h1 : ¬ fn.name = "runtime.NumGoroutine" := by simpa using hname
 have h2 : ¬ fn.body = none := by cases hx : fn.body <;> simp_all
 have ha : args.map a.eval = vs.toArray := by
  have := args_ev (fun _ _ h => hr.ev h) _ _ hargs
  rw [← this, ← Array.toList_map]
 have hrun : (execOp a.eval o).run P w = .ok (.enter f vs.toArray) w := by
  unfold execOp
  simp [ho, resolve, Deferred.ofValue, invoke, callFunc, hf, h1, h2, Act.eval, ha]
 unfold Oper.wp
 rw [hrun]
 have hs2 := hs.pick is hsel
 rw [hsp] at hs2
 refine (hspec w (sat0_append.1 hs2.sat).1).mono ?_
 rintro e w' ⟨i, hi, rfl, hs'⟩
 exact hK i w' hi (hs2.call hs')
end
section
variable {P : Program} {ops : Array Oper} {Q : Exit → Act → World → Prop} {md : Region.Mode}
def until_ (S : World → Prop) (T : List Nat) (listed : Array Bool) (w : World) : Prop := (∃ t ∈ T, listed.getD t false = true) ∨ S w
def wpAnyL (P : Program) (md : Region.Mode) (ops : Array Oper) (Q : Exit → Act → World → Prop) (S : World → Prop) (T : List Nat) : Nat → Array Bool → Act → World → Prop
 | 0, listed, a, w => Region.ready md ops listed = [] ∧ Q .normal a w
 | fuel + 1, listed, a, w =>
  (Region.ready md ops listed = [] → Q .normal a w) ∧
  ∀ i ∈ Region.ready md ops listed, wpOp P ops Q i (fun a' w' => until_ S T (listed.setIfInBounds i true) w' ∧ wpAnyL P md ops Q S T fuel (listed.setIfInBounds i true) a' w') a w
theorem wpAny_of_L {S : World → Prop} {T : List Nat} : ∀ (fuel : Nat) (listed : Array Bool) (a : Act) (w : World), wpAnyL P md ops Q S T fuel listed a w → wpAny P md ops Q fuel listed a w
 | 0, _, _, _, h => h
 | fuel + 1, _, _, _, h => ⟨h.1, fun i hi => wpOp_mono (fun a' w' h' => wpAny_of_L fuel _ a' w' h'.2) (h.2 i hi)⟩
theorem wpAnyL_turn {S S' : World → Prop} {T T' : List Nat} : ∀ (fuel : Nat) (listed : Array Bool) (a : Act) (w : World),
 (∀ (l : Array Bool) (w : World), (∀ j, listed.getD j false = true → l.getD j false = true) → until_ S' T' l w → until_ S T l w) → wpAnyL P md ops Q S' T' fuel listed a w → wpAnyL P md ops Q S T fuel listed a w
 | 0, _, _, _, _, h => h
 | fuel + 1, _, _, _, hS, h => ⟨h.1, fun i hi => wpOp_mono (fun a' w' h' => ⟨hS _ w' (fun _ hj => getD_set_true hj) h'.1, wpAnyL_turn fuel _ a' w' (fun l w hl => hS l w fun j hj => hl j (getD_set_true hj)) h'.2⟩) (h.2 i hi)⟩
def aheadT (md : Region.Mode) (ops : Array Oper) (i : Nat) : Nat → Nat → Bool
 | 0, _ => false
 | n + 1, t => match ops[t]? with
  | some o => o.after.any fun e => Region.binds md e && (e.on == i || aheadT md ops i n e.on)
  | none => false
def aheadB (md : Region.Mode) (ops : Array Oper) (T : List Nat) (i : Nat) : Bool := T.all fun t => aheadT md ops i ops.size t
def Closed (md : Region.Mode) (ops : Array Oper) (listed : Array Bool) : Prop := ∀ j o, ops[j]? = some o → listed.getD j false = true → ∀ e ∈ o.after, Region.binds md e = true → listed.getD e.on false = true
def closedB (md : Region.Mode) (ops : Array Oper) (listed : Array Bool) : Bool := (List.range ops.size).all fun j => match ops[j]? with
 | some o => !listed.getD j false || o.after.all fun e => !Region.binds md e || listed.getD e.on false
 | none => true
theorem closed_of {listed : Array Bool} (h : closedB md ops listed = true) : Closed md ops listed := fun j o ho hl e he hb => by
 have hj : j < ops.size := (Array.getElem?_eq_some_iff.1 ho).1
 have := List.all_eq_true.1 h j (List.mem_range.2 hj)
 rw [ho] at this
 simp only [hl, Bool.not_true, Bool.false_or, Array.all_eq_true_iff_forall_mem] at this
 have := this e he
 simpa [hb] using this
theorem Closed.set {listed : Array Bool} (h : Closed md ops listed) {j : Nat} (hj : j ∈ Region.ready md ops listed) : Closed md ops (listed.setIfInBounds j true) := fun k o ho hl e he hb => by
 obtain ⟨_, oj, hoj, hall⟩ := mem_ready.1 hj
 by_cases hjk : j = k
 · subst hjk
   rw [ho] at hoj
   obtain rfl : o = oj := Option.some.inj hoj
   exact getD_set_true (hall e he hb)
 · rw [getD_set_ne false hjk] at hl
   exact getD_set_true (h k o ho hl e he hb)
theorem ahead_listed {i : Nat} {listed : Array Bool} (hc : Closed md ops listed) : ∀ (n t : Nat), aheadT md ops i n t = true → listed.getD t false = true → listed.getD i false = true
 | 0, _, h, _ => by simp [aheadT] at h
 | n + 1, t, h, hl => by
  unfold aheadT at h
  split at h
  · rename_i o ho
    simp only [Array.any_eq_true', Bool.and_eq_true, Bool.or_eq_true, beq_iff_eq] at h
    obtain ⟨e, he, hb, hx⟩ := h
    have := hc t o ho hl e he hb
    rcases hx with rfl | hx
    · exact this
    · exact ahead_listed hc n e.on hx this
  · cases h
theorem ahead_ready {T : List Nat} {i t : Nat} {listed : Array Bool} (hc : Closed md ops listed) (h : aheadB md ops T i = true) (ht : t ∈ T) (hr : t ∈ Region.ready md ops listed) : listed.getD i false = true := by
 have := List.all_eq_true.1 h t ht
 obtain ⟨_, o, ho, hall⟩ := mem_ready.1 hr
 generalize ops.size = n at this
 cases n with
 | zero => simp [aheadT] at this
 | succ n =>
  unfold aheadT at this
  rw [ho] at this
  simp only [Array.any_eq_true', Bool.and_eq_true, Bool.or_eq_true, beq_iff_eq] at this
  obtain ⟨e, he, hb, hx⟩ := this
  have h1 := hall e he hb
  rcases hx with rfl | hx
  · exact h1
  · exact ahead_listed hc n e.on hx h1
theorem wpAnyL_first {S : World → Prop} {T : List Nat} {i : Nat} {oi : Oper} {v : Value} (hi : ops[i]? = some oi) (hsel : ∀ (j : Nat) (o : Oper) cs b, ops[j]? = some o → o.op ≠ .select cs b)
 (hQ : ∀ c a w, Q (.panic c) (a.put oi.dst v) w → Q (.panic c) a w) (hT : aheadB md ops T i = true) :
 ∀ (fuel : Nat) (listed : Array Bool) (a : Act) (w : World),
  (∀ j oj, ops[j]? = some oj → j ≠ i → listed.getD j true = false → (∀ e ∈ oj.after, Region.binds md e = true → e.on ≠ i) → oi.apart ops oj = true) →
  Closed md ops listed → i ∈ Region.ready md ops listed → (∀ t ∈ T, listed.getD t false = false) → i ∉ T → YieldsIf P ops S oi v a → S w →
  wpAnyL P md ops Q S T fuel (listed.setIfInBounds i true) (a.put oi.dst v) w → wpAnyL P md ops Q S T (fuel + 1) listed a w := by
 intro fuel
 induction fuel with
 | zero =>
  intro listed a w _ _ hr _ _ hy hS H
  refine ⟨fun h => (by rw [h] at hr; cases hr), fun j hj => ?_⟩
  by_cases hji : j = i
  · subst hji; exact hy.wpOp hi hS ⟨.inr hS, H⟩
  · have := ready_mono hj hji
    rw [H.1] at this
    cases this
 | succ fuel ih =>
  intro listed a w hfree hcl hr hno hiT hy hS H
  refine ⟨fun h => (by rw [h] at hr; cases hr), fun j hj => ?_⟩
  by_cases hji : j = i
  · subst hji; exact hy.wpOp hi hS ⟨.inr hS, H⟩
  · have h1 := H.2 j (ready_mono hj hji)
    obtain ⟨hjun, oj, hoj, hall⟩ := mem_ready.1 hj
    have hiun : listed.getD i false = false := by
     have h0 := (mem_ready.1 hr).1
     rcases Nat.lt_or_ge i listed.size with h' | h'
     · simp [h'] at h0 ⊢; exact h0
     · simp [Array.getElem?_eq_none h'] at h0
    have hjT : j ∉ T := fun hjT => by
     have := ahead_ready hcl hT hjT hj
     rw [hiun] at this
     cases this
    have hnot : ∀ e ∈ oj.after, Region.binds md e = true → e.on ≠ i := fun e he hb heq => by
     have h1 := hall e he hb
     rw [heq, hiun] at h1
     cases h1
    have h2 := wpOp_putIf hoj (hfree j oj hoj hji hjun hnot) (fun cs b => hsel i oi cs b hi) (fun cs b => hsel j oj cs b hoj) hQ hy h1
    have hfree' : ∀ k ok, ops[k]? = some ok → k ≠ i → (listed.setIfInBounds j true).getD k true = false →
     (∀ e ∈ ok.after, Region.binds md e = true → e.on ≠ i) → oi.apart ops ok = true := fun k ok hk hki hun hno' => by
     refine hfree k ok hk hki ?_ hno'
     by_cases hjk : j = k
     · subst hjk; exact hjun
     · rw [getD_set_ne true hjk] at hun; exact hun
    have hno2 : ∀ t ∈ T, (listed.setIfInBounds j true).getD t false = false := fun t ht => by
     rw [getD_set_ne false (show j ≠ t from fun e => hjT (by rw [e]; exact ht))]
     exact hno t ht
    refine wpOp_mono (fun a' w' h3 => ?_) h2
    have hS' : S w' := by
     rcases h3.2.1 with ⟨t, ht, hl⟩ | h
     · rw [Array.setIfInBounds_comm _ _ (fun e => hji e.symm), getD_set_ne false (show i ≠ t from fun e => hiT (by rw [e]; exact ht)), hno2 t ht] at hl
       cases hl
     · exact h
    refine ⟨.inr hS', ih (listed.setIfInBounds j true) a' w' hfree' (hcl.set hj) (ready_mono hr (Ne.symm hji)) hno2 hiT h3.1 hS' ?_⟩
    rw [Array.setIfInBounds_comm _ _ hji]
    exact h3.2.2
end
section
variable {Γ : Ctx} {N : Frm} {P : Program} {E : Env} {H : List Chunk} {κ : Cont} {ops : Array Oper} {o : Oper}
def Rg (Γ : Ctx) (N : Frm) (P : Program) (E : Env) (H Hs : List Chunk) (T : List Nat) (ops : Array Oper) (fuel : Nat) (listed : Array Bool) (κ : Cont) : Prop :=
 Ent Γ N E H fun a w => wpAnyL P .any ops κ.toQ (Sat Γ Hs) T fuel listed a w
theorem all_calm {ops : Array Oper} (h : ops.all calmOp = true) : ∀ (i : Nat) (o : Oper), ops[i]? = some o → calmOp o = true := fun i o hi => by
 rw [Array.all_eq_true] at h
 obtain ⟨hlt, rfl⟩ := Array.getElem?_eq_some_iff.1 hi
 exact h i hlt
theorem Cd.draw {id : Nat} (T : List Nat) (hm : P.follows .mixedOrders = true) (h : Rg Γ N P E H H T ops ops.size (Array.replicate ops.size false) κ) (hc : ops.all calmOp = true := by kernel_rfl) : Cd Γ N P E H (.region id ops true) κ := fun a _ hr hs =>
 wpIn_region_any hm (any_in (all_calm hc) _ _ _ _ (wpAny_of_L _ _ _ _ (h a _ hr hs.drew)))
def quietB (T : List Nat) (listed : Array Bool) : Bool := T.all fun t => !listed.getD t false
theorem Rg.ev {Hs : List Chunk} {T : List Nat} {fuel : Nat} {listed : Array Bool} {v : Value} (i : Nat) (hi : ops[i]? = some o) (hsub : ∀ w, Sat Γ H w → Sat Γ Hs w) (h : Ev Γ N P E Hs o v) (hw : wantB ops E o = some true) (d : Option Tmp) (hd : (decide (o.dst = d) && dstB N d) = true)
 (hs : Region.noSelect ops = true) (hf : Region.free .any ops listed i = true) (hr : (Region.ready .any ops listed).contains i = true) (hT : (aheadB .any ops T i && quietB T listed && !T.contains i && closedB .any ops listed) = true)
 (k : Rg Γ N P (E.put d v) H Hs T ops fuel (listed.setIfInBounds i true) κ) : Rg Γ N P E H Hs T ops (fuel + 1) listed κ := by
 simp only [Bool.and_eq_true, decide_eq_true_eq] at hd
 obtain ⟨rfl, hd⟩ := hd
 intro a w hrep hsat
 simp only [Bool.and_eq_true, Bool.not_eq_true'] at hT
 obtain ⟨⟨⟨h1, h2⟩, h3⟩, h4⟩ := hT
 exact wpAnyL_first hi (Region.noSelect_spec hs) (fun _ _ _ h => h) h1 fuel listed a w (Region.free_spec hi hf) (closed_of h4) (by simpa using hr) (fun t ht => by simpa using List.all_eq_true.1 h2 t ht) (by simpa using h3)
  (.inl ⟨wanted_of hrep hw, fun w' hs' => h.run a w' hrep hs'⟩) (hsub w hsat) (k _ _ (hrep.put hd v) hsat)
theorem Rg.pass {Hs : List Chunk} {T : List Nat} {fuel : Nat} {listed : Array Bool} (i : Nat) (hi : ops[i]? = some o) (hsub : ∀ w, Sat Γ H w → Sat Γ Hs w) (hw : wantB ops E o = some false) (d : Option Tmp) (hd : (decide (o.dst = d) && dstB N d) = true)
 (hs : Region.noSelect ops = true) (hf : Region.free .any ops listed i = true) (hr : (Region.ready .any ops listed).contains i = true) (hT : (aheadB .any ops T i && quietB T listed && !T.contains i && closedB .any ops listed) = true)
 (k : Rg Γ N P (E.put d undef) H Hs T ops fuel (listed.setIfInBounds i true) κ) : Rg Γ N P E H Hs T ops (fuel + 1) listed κ := by
 simp only [Bool.and_eq_true, decide_eq_true_eq] at hd
 obtain ⟨rfl, hd⟩ := hd
 intro a w hrep hsat
 simp only [Bool.and_eq_true, Bool.not_eq_true'] at hT
 obtain ⟨⟨⟨h1, h2⟩, h3⟩, h4⟩ := hT
 exact wpAnyL_first hi (Region.noSelect_spec hs) (fun _ _ _ h => h) h1 fuel listed a w (Region.free_spec hi hf) (closed_of h4) (by simpa using hr) (fun t ht => by simpa using List.all_eq_true.1 h2 t ht) (by simpa using h3)
  (.inr ⟨wanted_of hrep hw, rfl⟩) (hsub w hsat) (k _ _ (hrep.put hd undef) hsat)
theorem Rg.does {Hs : List Chunk} {T : List Nat} {fuel : Nat} {listed : Array Bool} {ι : Type} {v : ι → Value} {H' : ι → List Chunk} {φ : ι → Prop} (i : Nat) (hi : ops[i]? = some o) (hr : Region.ready .any ops listed = [i]) (h : Does Γ N P E H o ι v H' φ) (hw : wantB ops E o = some true) (d : Option Tmp) (hd : (decide (o.dst = d) && dstB N d) = true)
 (hsub : ∀ j w, Sat Γ (H' j) w → Sat Γ Hs w) (k : ∀ j, φ j → Rg Γ N P (E.put d (v j)) (H' j) (H' j) T ops fuel (listed.setIfInBounds i true) κ) : Rg Γ N P E H Hs T ops (fuel + 1) listed κ := by
 simp only [Bool.and_eq_true, decide_eq_true_eq] at hd
 obtain ⟨rfl, hd⟩ := hd
 intro a w hrep hsat
 refine ⟨fun h => (by rw [hr] at h; cases h), fun j hj => ?_⟩
 rw [hr] at hj
 obtain rfl : j = i := by simpa using hj
 refine wpOp_step hi fun K hK => ?_
 rw [if_pos (wanted_of hrep hw)]
 refine h.run a w hrep hsat K _ fun x w' hx hs' => hK _ _ ⟨.inr (hsub x w' hs'), ?_⟩
 exact wpAnyL_turn fuel _ _ _ (fun l w _ hl => hl.imp id (hsub x w)) (k x hx _ _ (hrep.put hd (v x)) hs')
theorem Rg.tail {Hs : List Chunk} {T : List Nat} {fuel : Nat} {listed : Array Bool} {ι : Type} {v : ι → Value} {H' : ι → List Chunk} {φ : ι → Prop} (i : Nat) (T' : List Nat) (hi : ops[i]? = some o) (hr : Region.ready .any ops listed = [i]) (h : Does Γ N P E H o ι v H' φ) (hw : wantB ops E o = some true) (d : Option Tmp) (hd : (decide (o.dst = d) && dstB N d) = true)
 (hT : T.contains i = true) (hl : decide (i < listed.size) = true) (k : ∀ j, φ j → Rg Γ N P (E.put d (v j)) (H' j) (H' j) T' ops fuel (listed.setIfInBounds i true) κ) : Rg Γ N P E H Hs T ops (fuel + 1) listed κ := by
 simp only [Bool.and_eq_true, decide_eq_true_eq] at hd
 obtain ⟨rfl, hd⟩ := hd
 intro a w hrep hsat
 have hil : (listed.setIfInBounds i true).getD i false = true := by
  have : i < listed.size := of_decide_eq_true hl
  simp [this]
 refine ⟨fun h => (by rw [hr] at h; cases h), fun j hj => ?_⟩
 rw [hr] at hj
 obtain rfl : j = i := by simpa using hj
 refine wpOp_step hi fun K hK => ?_
 rw [if_pos (wanted_of hrep hw)]
 refine h.run a w hrep hsat K _ fun x w' hx hs' => hK _ _ ⟨.inl ⟨j, by simpa using hT, hil⟩, ?_⟩
 exact wpAnyL_turn fuel _ _ _ (fun l w hm _ => .inl ⟨j, by simpa using hT, hm j hil⟩) (k x hx _ _ (hrep.put hd (v x)) hs')
theorem Rg.done {Hs : List Chunk} {T : List Nat} {listed : Array Bool} (hr : Region.ready .any ops listed = []) (h : Ent Γ N E H κ.normal) : ∀ fuel, Rg Γ N P E H Hs T ops fuel listed κ
 | 0 => fun a w hrep hs => ⟨hr, h a w hrep hs⟩
 | _ + 1 => fun a w hrep hs => ⟨fun _ => h a w hrep hs, fun i hi => by rw [hr] at hi; cases hi⟩
end
section
variable {Γ : Ctx} {N : Frm} {P : Program} {E : Env} {H : List Chunk} {κ : Cont} {ops : Array Oper} {rest : List Oper} {o : Oper} {x y z : Operand}
theorem Ev.pickT {v : Value} (ho : o.op = .pick x y z) (hx : E.ev x = some (.bool true)) (hy : E.ev y = some v) : Ev Γ N P E H o v := .of fun ρ hρ w => by simp [execOp, ho, hρ x _ hx, asBool, hρ y _ hy]
theorem Ev.pickF {v : Value} (ho : o.op = .pick x y z) (hx : E.ev x = some (.bool false)) (hz : E.ev z = some v) : Ev Γ N P E H o v := .of fun ρ hρ w => by simp [execOp, ho, hρ x _ hx, asBool, hρ z _ hz]
def places (P : Program) (t : TypeId) : Option (List (Nat × Nat) × List Value) :=
 match P.underlying t, (P.info? t).bind (·.zero) with
 | some (.struct fs), some z => (fs.toList.mapM fun f => (P.info? f.type).map fun i => (f.offset, i.size)).map (·, z.cells.toList)
 | _, _ => none
theorem built_of {t : TypeId} {pl : List (Nat × Nat)} {zs : List Value} (hp : places P t = some (pl, zs)) (ps : List (Nat × Value)) : P.built t ps = Instr.fill (pl.toArray[·]?) zs.toArray ps := by
 unfold places at hp
 split at hp
 · rename_i fs z hu hz
   obtain ⟨l, hl, he⟩ := Option.map_eq_some_iff.1 hp
   simp only [Prod.mk.injEq] at he
   obtain ⟨rfl, rfl⟩ := he
   obtain ⟨i, hi, hiz⟩ := Option.bind_eq_some_iff.1 hz
   simp [Program.built, hi, hu, hiz, hl]
 · cases hp
theorem foldl_set (off : Nat) : ∀ (vs : List Value) (k : Nat) (cs : Array Value), off + k + vs.length ≤ cs.size →
 ((vs.zipIdx k).foldl (fun cs x => cs.setIfInBounds (off + x.2) x.1) cs).toList = cs.toList.take (off + k) ++ vs ++ cs.toList.drop (off + k + vs.length)
 | [], k, cs, _ => by simp
 | v :: r, k, cs, h => by
  simp only [List.length_cons] at h
  rw [List.zipIdx_cons, List.foldl_cons, foldl_set off r (k + 1) _ (by simp; omega)]
  have e := list_seg_step cs.toList (off + k) v r (by simp; omega)
  simpa [Array.toList_setIfInBounds, Nat.add_assoc] using e
def fillL (pl : List (Nat × Nat)) (cs : List Value) : List (Nat × Value) → Option (List Value)
 | [] => some cs
 | (i, v) :: r => match pl[i]? with
  | none => none
  | some (off, size) => bif v.cells.size == size && Nat.ble (off + size) cs.length then fillL pl (setR cs off v.cells.toList) r else none
theorem fill_of {pl : List (Nat × Nat)} : ∀ (ps : List (Nat × Value)) (cs cs' : List Value), fillL pl cs ps = some cs' → Instr.fill (pl.toArray[·]?) cs.toArray ps = some cs'.toArray
 | [], cs, cs', h => by
  simp only [fillL, Option.some.injEq] at h
  simp [Instr.fill, h]
 | (i, v) :: r, cs, cs', h => by
  unfold fillL at h
  unfold Instr.fill
  split at h
  · cases h
  · rename_i off size hpl
    by_cases hc : (v.cells.size == size && Nat.ble (off + size) cs.length) = true
    · rw [hc] at h
      simp only [cond_true] at h
      simp only [Bool.and_eq_true, beq_iff_eq, Nat.ble_eq] at hc
      have ih := fill_of r _ _ h
      have hpl' : pl.toArray[i]? = some (off, size) := by simpa using hpl
      rw [hpl']
      have hcond : ¬ (v.cells.size ≠ size || off + v.cells.size > cs.toArray.size) = true := by simp; omega
      simp only [hcond]
      rw [← ih, if_neg (by simp)]
      congr 1
      apply Array.ext'
      have := foldl_set off v.cells.toList 0 cs.toArray (by simp; omega)
      rw [← Array.foldl_toList, Array.toList_zipIdx, this]
      simp [setR]
    · have hc : (v.cells.size == size && Nat.ble (off + size) cs.length) = false := by cases hx : (v.cells.size == size && Nat.ble (off + size) cs.length) <;> simp_all
      rw [hc] at h
      simp at h
theorem Ev.buildP {t : TypeId} {parts : Array (Nat × Operand)} {ps : List (Nat × Value)} {cs : List Value} {pl : List (Nat × Nat)} {zs : List Value} (ho : o.op = .build t parts) (hp : parts.toList.mapM (fun p => (E.ev p.2).map (p.1, ·)) = some ps) (hpl : places P t = some (pl, zs)) (hb : fillL pl zs ps = some cs) : Ev Γ N P E H o (.agg cs.toArray) :=
 .build ho hp (by rw [built_of hpl]; exact fill_of _ _ _ hb)
def denseB (sz : Nat) : Nat → List (Nat × Value) → Bool
 | _, [] => true
 | k, (i, v) :: r => i == k && v.cells.size == sz && denseB sz (k + 1) r
def catC : List (Nat × Value) → List Value
 | [] => []
 | (_, v) :: r => v.cells.toList ++ catC r
theorem dense_fill {sz : Nat} : ∀ (ps : List (Nat × Value)) (k : Nat) (cs : List Value), denseB sz k ps = true → (k + ps.length) * sz ≤ cs.length →
 ∃ cs', Instr.fill (fun i => some (i * sz, sz)) cs.toArray ps = some cs'.toArray ∧ cs' = cs.take (k * sz) ++ catC ps ++ cs.drop ((k + ps.length) * sz) ∧ cs'.length = cs.length ∧ (catC ps).length = ps.length * sz
 | [], k, cs, _, _ => ⟨cs, by simp [Instr.fill], by simp [catC], rfl, by simp [catC]⟩
 | (i, v) :: r, k, cs, h, hl => by
  simp only [denseB, Bool.and_eq_true, beq_iff_eq] at h
  obtain ⟨⟨rfl, hv⟩, hr⟩ := h
  simp only [List.length_cons] at hl
  have e1 : (i + 1) * sz = i * sz + sz := Nat.succ_mul i sz
  have e2 : (i + (r.length + 1)) * sz = (i + 1 + r.length) * sz := by congr 1; omega
  have e3 : (i + 1 + r.length) * sz = (i + 1) * sz + r.length * sz := Nat.add_mul _ _ _
  have hvl : v.cells.toList.length = sz := by simpa using hv
  have hsl : (setR cs (i * sz) v.cells.toList).length = cs.length := by simp [setR]; omega
  obtain ⟨cs', h1, h2, h3, h4⟩ := dense_fill r (i + 1) (setR cs (i * sz) v.cells.toList) hr (by rw [hsl]; omega)
  refine ⟨cs', ?_, ?_, by omega, by simp only [catC, List.length_append, hvl, h4, List.length_cons]; rw [Nat.succ_mul]; omega⟩
  · unfold Instr.fill
    have hcond : ¬ (v.cells.size ≠ sz || i * sz + v.cells.size > cs.toArray.size) = true := by simp; omega
    simp only [hcond]
    rw [← h1, if_neg (by simp)]
    congr 1
    apply Array.ext'
    have := foldl_set (i * sz) v.cells.toList 0 cs.toArray (by simp; omega)
    rw [← Array.foldl_toList, Array.toList_zipIdx, this]
    simp [setR]
  · rw [h2, setR, catC, List.length_cons, e2]
    have ht : (cs.take (i * sz) ++ v.cells.toList ++ cs.drop (i * sz + v.cells.toList.length)).take ((i + 1) * sz) = cs.take (i * sz) ++ v.cells.toList := by
     rw [List.take_append_of_le_length (by simp; omega), List.take_of_length_le (by simp; omega)]
    have hd : (cs.take (i * sz) ++ v.cells.toList ++ cs.drop (i * sz + v.cells.toList.length)).drop ((i + 1 + r.length) * sz) = cs.drop ((i + 1 + r.length) * sz) := by
     rw [List.drop_append, List.drop_of_length_le (by simp; omega), List.nil_append, List.drop_drop]
     congr 1
     simp
     omega
    rw [ht, hd]
    simp
theorem Does.lit {t e sz len : Nat} {parts : Array (Nat × Operand)} {ps : List (Nat × Value)} (ho : o.op = .buildSlice t len parts) (hp : parts.toList.mapM (fun p => (E.ev p.2).map (p.1, ·)) = some ps) (ht : P.underlying t = some (.slice e)) (he : (P.info? e).map (fun i => (i.size, (i.zero.map (·.cells.size)))) = some (sz, some sz)) (hd : denseB sz 0 ps = true) (hn : (Nat.beq ps.length len && Nat.blt 0 len && Nat.blt 0 sz && Nat.ble (len * sz) 16777216) = true) :
 Does Γ N P E H o Nat (fun g => .slice (some ⟨g, 0, none⟩) len len) (fun g => row (some ⟨g, 0, none⟩) len len e sz (catC ps) :: H) (fun _ => True) := by
 simp only [Bool.and_eq_true, Nat.beq_eq, Nat.blt_eq, Nat.ble_eq] at hn
 obtain ⟨⟨⟨rfl, h0⟩, h1⟩, h2⟩ := hn
 obtain ⟨ie, hie, hz⟩ := Option.map_eq_some_iff.1 he
 simp only [Prod.mk.injEq] at hz
 obtain ⟨rfl, hz⟩ := hz
 obtain ⟨z, hz, hzs⟩ := Option.map_eq_some_iff.1 hz
 have hpos : 0 < ps.length * ie.size := Nat.mul_pos h0 h1
 obtain ⟨cs', k1, k2, k3, k4⟩ := dense_fill ps 0 ((Array.range (ps.length * ie.size)).map (z.cells[· % z.cells.size]!)).toList hd (by simp)
 have hlen : ps.length ≤ 16777216 := by
  have : ps.length ≤ ps.length * ie.size := Nat.le_mul_of_pos_right _ h1
  omega
 have hcs : cs' = catC ps := by
  rw [k2]
  have : (((Array.range (ps.length * ie.size)).map (z.cells[· % z.cells.size]!)).toList).drop ((0 + ps.length) * ie.size) = [] := List.drop_of_length_le (by simp)
  rw [this]
  simp
 subst hcs
 refine .buildSlice (cs := (catC ps).toArray) ho hp ?_ (decide_eq_true (by unfold maxLen; omega))
 unfold builtS
 rw [ht]
 simp only [hie, hz]
 have hdec : (decide (ps.length * ie.size > 2 ^ 24) || decide (ps.length * ie.size = 0)) = false := by simp; omega
 rw [hdec]
 simp only [cond_false]
 rw [Array.toArray_toList] at k1
 rw [k1]
 simp [k4]
theorem Sat.tail_ {C : Chunk} {w : World} (h : Sat Γ (C :: H) w) : Sat Γ H w :=
 ⟨h.upd, ⟨fun D hD => h.sat.1 D (List.mem_cons_of_mem _ hD), (List.pairwise_cons.1 h.sat.2).2⟩, fun D hD => h.fits D (List.mem_cons_of_mem _ hD)⟩
theorem run_cell {t n g m u : Nat} {cs vs : List Value} {w : World} (i : Nat) (hs : Sat Γ H w) (hi : H[i]? = some (blk g u cs)) (ht : agg P t n = true) (hv : rangeOf cs m n = vs) (hn : vs.length = n) : (loadVar t ⟨g, m, none⟩).run P w = .ok (.agg vs.toArray) w :=
 run_loadVar_agg ht hn fun j v hj => by
  rw [add_at]
  refine blk_cell (hs.mem hi) ?_
  rw [← hv, rangeOf, List.getElem?_take] at hj
  split at hj
  · rwa [List.getElem?_drop] at hj
  · cases hj
theorem Res.cell {fn : Func} {p t n g m u : Nat} {cs vs : List Value} (i : Nat) (h : fn.results = #[.cell p t]) (hp : E.get p = some (.pointer (some ⟨g, m, none⟩))) (hi : H[i]? = some (blk g u cs)) (ht : agg P t n = true) (hv : rangeOf cs m n = vs) (hn : vs.length = n) : Res Γ N P fn E H (.agg vs.toArray) := fun a w hr hs => by
 simp [results, h, hr.get p _ hp, asAddr, run_cell i hs hi ht hv hn]
theorem Res.cell_tmp {fn : Func} {p q t n g m u : Nat} {cs vs : List Value} {v : Value} (i : Nat) (h : fn.results = #[.cell p t, .tmp q]) (hp : E.get p = some (.pointer (some ⟨g, m, none⟩))) (hi : H[i]? = some (blk g u cs)) (ht : agg P t n = true) (hv : rangeOf cs m n = vs) (hn : vs.length = n) (hq : E.get q = some v) : Res Γ N P fn E H (.tuple #[.agg vs.toArray, v]) := fun a w hr hs => by
 simp [results, h, hr.get p _ hp, hr.get q _ hq, asAddr, run_cell i hs hi ht hv hn]
theorem Ent.split {A : Asrt} {c : Bool} (d : Nat) (hd : E.get d = some (.bool c)) (hF : c = false → Ent Γ N (E.put (some d) (.bool false)) H A) (hT : c = true → Ent Γ N (E.put (some d) (.bool true)) H A) : Ent Γ N E H A := fun a w hr hs => by
 have key : ∀ b, c = b → Rep N (E.put (some d) (.bool b)) a := fun b hb => ⟨hr.size, hr.defers, fun t v ht => by
  simp only [Env.put, Env.get] at ht
  by_cases e : d = t
  · subst e
    simp only [beq_self_eq_true, cond_true, Option.some.injEq] at ht
    subst ht
    rw [← hb]
    exact hr.get d _ hd
  · have e' : (d == t) = false := by simpa using e
    rw [e'] at ht
    exact hr.get t v ht⟩
 cases hc : c
 · exact hF hc a w (key false hc) hs
 · exact hT hc a w (key true hc) hs
theorem Ent.known {A : Asrt} {c : Bool} (d : Nat) (b : Bool) (hd : E.get d = some (.bool c)) (hc : c = b) (h : Ent Γ N (E.put (some d) (.bool b)) H A) : Ent Γ N E H A := by
 cases b
 · exact Ent.split d hd (fun _ => h) (fun e => by rw [hc] at e; cases e)
 · exact Ent.split d hd (fun e => by rw [hc] at e; cases e) (fun _ => h)
theorem Ev.isNil {t t' : TypeId} {A : Option Addr} {n c : Nat} {e : TypeId} (ho : o.op = .binOp .eql t x y t') (hx : E.ev x = some (.slice A n c)) (hy : E.ev y = some (.slice none 0 0)) (ht : P.underlying t = some (.slice e)) : Ev Γ N P E H o (.bool A.isNone) :=
 .bin ho hx hy (fun _ => rfl) (fun w => Lib.run_eql_slice_nil w _ _ A n c 0 0 ht)
theorem Ev.ptrNil {t t' : TypeId} {a : Addr} {e : TypeId} (ho : o.op = .binOp .eql t x y t') (hx : E.ev x = some (.pointer (some a))) (hy : E.ev y = some (.pointer none)) (ht : P.underlying t = some (.pointer e)) : Ev Γ N P E H o (.bool false) :=
 .bin ho hx hy (fun _ => rfl) (fun w => by
  have : (Op.equal t (.pointer (some a)) (.pointer none)).run P w = .ok false w := by
   show (Op.equalIn (9999 + 1) t _ _).run P w = _
   unfold Op.equalIn
   simp [run_underlying ht]
  simp [binOp, this])
theorem Does.lit0 {t e sz : Nat} (ho : o.op = .buildSlice t 0 #[]) (ht : P.underlying t = some (.slice e)) (he : (P.info? e).map (·.size) = some sz) :
 Does Γ N P E H o Nat (fun g => .slice (some ⟨g, 0, none⟩) 0 0) (fun g => row (some ⟨g, 0, none⟩) 0 0 e sz [] :: H) (fun _ => True) := .of fun ρ hρ w hs => by
 obtain ⟨ie, hie, hsz⟩ := Option.map_eq_some_iff.1 he
 refine ⟨w.heap.size, w.alloc (.cells #[] e), trivial, ?_, .inl ?_⟩
 · have hn := hs.new e []
   have := hn.turn (i := 0) (C := blk w.heap.size e []) rfl rfl (Upd.refl _ _) (C' := row (some ⟨w.heap.size, 0, none⟩) 0 0 e sz []) ((Own.empty w e sz).mono (Nat.zero_le _)) (fun k hk => .inl (by simpa [row, blockOf, blk] using hk.symm))
   simpa using this
 · have e0 : Array.range 0 = #[] := Array.eq_empty_of_size_eq_zero (by simp)
   simp [execOp, ho, Instr.buildSlice, run_underlying ht, sizeOf, typeInfo, hie, newRow, Instr.fill, e0]
theorem Does.app0 {t e sz bytes c m d : Nat} {A D : Option Addr} {news : List Value} (i : Nat) (ho : o.op = .call { callee := .builtin .append, args := #[x, y], argTypes := #[t, t] }) (hx : E.ev x = some (.slice A 0 c)) (hy : E.ev y = some (.slice D m d))
 (hi : H[i]? = some (row A 0 c e sz [])) (hr : ReadsIn Γ H sz D m news) (hel : Elem P t e sz bytes) (h1 : ∀ u ∈ news, u.oneCell' = true) (hbytes : m * bytes ≤ 140737488355328) :
 Does Γ N P E H o (Option Addr × Nat) (fun p => .slice p.1 m p.2) (fun p => H.set i (row p.1 m p.2 e sz news)) (fun _ => True) := by
 have := Does.app (Γ := Γ) (N := N) (P := P) (E := E) (H := H) i ho hx hy hi hr hel h1 (by rw [Nat.zero_add]; exact hbytes)
 simpa only [Nat.zero_add, List.nil_append] using this
def stars (Cs : List Chunk) : Chunk where
 holds w := ∀ C ∈ Cs, C.excl = false ∧ C.holds w
 foot k := ∃ C ∈ Cs, C.foot k
 excl := false
 lt := fun w k h ⟨C, hC, hk⟩ => C.lt w k (h C hC).2 hk
 loc := fun w w' hs he h C hC => ⟨(h C hC).1, C.loc w w' hs (fun k hk => he k ⟨C, hC, hk⟩) (h C hC).2⟩
theorem Sat.stars_nil {w : World} (h : Sat Γ H w) : Sat Γ (stars [] :: H) w :=
 ⟨h.upd, ⟨fun C hC => by
  rcases List.mem_cons.1 hC with rfl | hC
  · intro C hC; cases hC
  · exact h.sat.1 C hC, List.Pairwise.cons (fun D _ _ k hk => by obtain ⟨C, hC, _⟩ := hk; cases hC) h.sat.2⟩, fun C hC => by
  rcases List.mem_cons.1 hC with rfl | hC
  · rintro k ⟨C, hC, _⟩; cases hC
  · exact h.fits C hC⟩
theorem Sat.stars_add {C : Chunk} {Cs : List Chunk} {w : World} (hx : C.excl = false) (h : Sat Γ (C :: stars Cs :: H) w) : Sat Γ (stars (Cs ++ [C]) :: H) w := by
 obtain ⟨hu, ⟨hh, hp⟩, hf⟩ := h
 rw [List.pairwise_cons, List.pairwise_cons] at hp
 obtain ⟨p1, p2, p3⟩ := hp
 refine ⟨hu, ⟨fun D hD => ?_, List.Pairwise.cons (fun D hD he k hk => ?_) p3⟩, fun D hD => ?_⟩
 · rcases List.mem_cons.1 hD with rfl | hD
   · intro F hF
     rcases List.mem_append.1 hF with hF | hF
     · exact hh (stars Cs) (List.mem_cons_of_mem _ List.mem_cons_self) F hF
     · obtain rfl : F = C := by simpa using hF
       exact ⟨hx, hh F List.mem_cons_self⟩
   · exact hh D (List.mem_cons_of_mem _ (List.mem_cons_of_mem _ hD))
 · obtain ⟨F, hF, hk⟩ := hk
   have he2 : D.excl = true := by
    rcases he with he | he
    · cases he
    · exact he
   rcases List.mem_append.1 hF with hF | hF
   · exact p2 D hD (.inr he2) k ⟨F, hF, hk⟩
   · obtain rfl : F = C := by simpa using hF
     exact p1 D (List.mem_cons_of_mem _ hD) (.inr he2) k hk
 · rcases List.mem_cons.1 hD with rfl | hD
   · rintro k ⟨F, hF, hk⟩ hlt
     rcases List.mem_append.1 hF with hF | hF
     · exact ⟨((hf (stars Cs) (List.mem_cons_of_mem _ List.mem_cons_self)) k ⟨F, hF, hk⟩ hlt).1, fun e => by cases e⟩
     · obtain rfl : F = C := by simpa using hF
       exact ⟨(hf F List.mem_cons_self k hk hlt).1, fun e => by cases e⟩
   · exact hf D (List.mem_cons_of_mem _ (List.mem_cons_of_mem _ hD))
theorem Sat.stars_get {C : Chunk} {Cs : List Chunk} {w : World} {i : Nat} (hi : H[i]? = some (stars Cs)) (hC : C ∈ Cs) (h : Sat Γ H w) : Sat Γ (C :: H) w := by
 have hm : stars Cs ∈ H := List.mem_of_getElem? hi
 have hx : C.excl = false := (h.sat.1 _ hm C hC).1
 refine ⟨h.upd, ⟨fun D hD => ?_, List.Pairwise.cons (fun D hD he k hk hk' => ?_) h.sat.2⟩, fun D hD => ?_⟩
 · rcases List.mem_cons.1 hD with rfl | hD
   · exact (h.sat.1 _ hm D hC).2
   · exact h.sat.1 D hD
 · have he : D.excl = true := by
    rcases he with he | he
    · rw [hx] at he; cases he
    · exact he
   obtain ⟨il, e1⟩ := List.getElem?_eq_some_iff.1 hi
   obtain ⟨j, jl, e2⟩ := List.getElem_of_mem hD
   have hp := List.pairwise_iff_getElem.1 h.sat.2
   rcases Nat.lt_trichotomy i j with hlt | rfl | hlt
   · have := hp i j il jl hlt
     rw [e1, e2] at this
     exact this (.inr he) k ⟨C, hC, hk⟩ hk'
   · rw [e1] at e2; subst e2; cases he
   · have := hp j i jl il hlt
     rw [e1, e2] at this
     exact this (.inl he) k hk' ⟨C, hC, hk⟩
 · rcases List.mem_cons.1 hD with rfl | hD
   · intro k hk hlt
     exact ⟨(h.fits _ hm k ⟨D, hC, hk⟩ hlt).1, fun e => by rw [hx] at e; cases e⟩
   · exact h.fits D hD
theorem Ent.map {A : Asrt} {H' : List Chunk} (hs : ∀ w, Sat Γ H w → Sat Γ H' w) (h : Ent Γ N E H' A) : Ent Γ N E H A := fun a w hr hsat => h a w hr (hs w hsat)
end
section
variable {Γ : Ctx} {N : Frm} {P : Program} {E : Env} {H : List Chunk}
def starx (Cs : List Chunk) : Chunk where
 holds w := Sat0 Cs w
 foot k := ∃ C ∈ Cs, C.foot k
 excl := true
 lt := fun w k h ⟨C, hC, hk⟩ => C.lt w k (h.1 C hC) hk
 loc := fun w w' hs he h => ⟨fun C hC => C.loc w w' hs (fun k hk => he k ⟨C, hC, hk⟩) (h.1 C hC), h.2⟩
theorem Sat.starx_nil {w : World} (h : Sat Γ H w) : Sat Γ (starx [] :: H) w :=
 ⟨h.upd, ⟨fun C hC => by
  rcases List.mem_cons.1 hC with rfl | hC
  · exact ⟨fun C hC => (by cases hC), List.Pairwise.nil⟩
  · exact h.sat.1 C hC, List.Pairwise.cons (fun D _ _ k hk => by obtain ⟨C, hC, _⟩ := hk; cases hC) h.sat.2⟩, fun C hC => by
  rcases List.mem_cons.1 hC with rfl | hC
  · rintro k ⟨C, hC, _⟩; cases hC
  · exact h.fits C hC⟩
theorem Sat.starx_add {C : Chunk} {Cs : List Chunk} {w : World} (hx : C.excl = true) (h : Sat Γ (C :: starx Cs :: H) w) : Sat Γ (starx (Cs ++ [C]) :: H) w := by
 obtain ⟨hu, ⟨hh, hp⟩, hf⟩ := h
 rw [List.pairwise_cons, List.pairwise_cons] at hp
 obtain ⟨p1, p2, p3⟩ := hp
 have hS : Sat0 Cs w := hh (starx Cs) (List.mem_cons_of_mem _ List.mem_cons_self)
 refine ⟨hu, ⟨fun D hD => ?_, List.Pairwise.cons (fun D hD _ k hk => ?_) p3⟩, fun D hD => ?_⟩
 · rcases List.mem_cons.1 hD with rfl | hD
   · refine ⟨fun F hF => ?_, List.pairwise_append.2 ⟨hS.2, List.pairwise_singleton _ _, fun F hF G hG _ k hk hk' => ?_⟩⟩
     · rcases List.mem_append.1 hF with hF | hF
       · exact hS.1 F hF
       · obtain rfl : F = C := by simpa using hF
         exact hh F List.mem_cons_self
     · obtain rfl : G = C := by simpa using hG
       exact p1 (starx Cs) List.mem_cons_self (.inr rfl) k hk' ⟨F, hF, hk⟩
   · exact hh D (List.mem_cons_of_mem _ (List.mem_cons_of_mem _ hD))
 · obtain ⟨F, hF, hk⟩ := hk
   rcases List.mem_append.1 hF with hF | hF
   · exact p2 D hD (.inl rfl) k ⟨F, hF, hk⟩
   · obtain rfl : F = C := by simpa using hF
     exact p1 D (List.mem_cons_of_mem _ hD) (.inl hx) k hk
 · rcases List.mem_cons.1 hD with rfl | hD
   · rintro k ⟨F, hF, hk⟩ hlt
     rcases List.mem_append.1 hF with hF | hF
     · exact (hf (starx Cs) (List.mem_cons_of_mem _ List.mem_cons_self)) k ⟨F, hF, hk⟩ hlt
     · obtain rfl : F = C := by simpa using hF
       obtain ⟨h1, h2⟩ := hf F List.mem_cons_self k hk hlt
       exact ⟨h1, fun _ => h2 hx⟩
   · exact hf D (List.mem_cons_of_mem _ (List.mem_cons_of_mem _ hD))
theorem Sat.starx_open {Cs : List Chunk} {w : World} (h : Sat Γ (starx Cs :: H) w) : Sat Γ (Cs ++ H) w := by
 obtain ⟨hu, ⟨hh, hp⟩, hf⟩ := h
 rw [List.pairwise_cons] at hp
 have hS : Sat0 Cs w := hh _ List.mem_cons_self
 refine ⟨hu, ⟨fun D hD => (List.mem_append.1 hD).elim (hS.1 D) (fun h => hh D (List.mem_cons_of_mem _ h)), List.pairwise_append.2 ⟨hS.2, hp.2, fun F hF G hG _ k hk hk' => hp.1 G hG (.inl rfl) k ⟨F, hF, hk⟩ hk'⟩⟩, fun D hD k hk hlt => ?_⟩
 rcases List.mem_append.1 hD with hD | hD
 · obtain ⟨h1, h2⟩ := hf _ List.mem_cons_self k ⟨D, hD, hk⟩ hlt
   exact ⟨h1, fun _ => h2 rfl⟩
 · exact hf D (List.mem_cons_of_mem _ hD) k hk hlt
theorem Sat.starx_see {ι : Type} {ps : List ι} {f g : ι → Chunk} {w : World} (hg : ∀ p, (g p).excl = false) (hh : ∀ p w, (f p).holds w → (g p).holds w) (hf : ∀ p k, (g p).foot k → (f p).foot k) (h : Sat Γ (starx (ps.map f) :: H) w) : Sat Γ (stars (ps.map g) :: H) w := by
 have := h.see (i := 0) (C := starx (ps.map f)) (C' := stars (ps.map g)) rfl rfl (fun w hw C hC => by
  obtain ⟨p, hp, rfl⟩ := List.mem_map.1 hC
  exact ⟨hg p, hh p w (hw.1 _ (List.mem_map_of_mem hp))⟩) (fun k ⟨C, hC, hk⟩ => by
  obtain ⟨p, hp, rfl⟩ := List.mem_map.1 hC
  exact ⟨f p, List.mem_map_of_mem hp, hf p k hk⟩)
 simpa using this
end
section
variable {Γ : Ctx} {N : Frm} {P : Program} {E : Env} {H : List Chunk} {o : Oper} {x y : Operand}
theorem Ent.rdSome {A : Asrt} {B : Option Addr} {n sz : Nat} {xs : List Value} (i : Nat) (hi : H[i]? = some (rd B n sz xs)) (hn : 0 < n) (h : ∀ ad, B = some ad → Ent Γ N E H A) : Ent Γ N E H A :=
 Ent.fact i hi (p := ∃ ad, B = some ad) (fun w hw => by obtain ⟨ad, e, _⟩ := hw.2 hn; exact ⟨ad, e⟩) (fun ⟨ad, e⟩ => h ad e)
theorem Ent.rowSome {A : Asrt} {B : Option Addr} {n c e sz : Nat} {xs : List Value} (i : Nat) (hi : H[i]? = some (row B n c e sz xs)) (hn : 0 < n) (h : ∀ ad, B = some ad → Ent Γ N E H A) : Ent Γ N E H A :=
 Ent.fact i hi (p := ∃ ad, B = some ad) (fun w hw => by obtain ⟨ad, e, _⟩ := (Own.reads hw).2 hn; exact ⟨ad, e⟩) (fun ⟨ad, e⟩ => h ad e)
theorem Ev.indexAt {t e sz : Nat} {ad : Addr} {n c k : Nat} (ho : o.op = .indexAddr t x y) (hx : E.ev x = some (.slice (some ad) n c)) (hy : E.ev y = some (.int .i64 k)) (ht : P.underlying t = some (.slice e)) (he : (P.info? e).map (·.size) = some sz) (hk : k < n) : Ev Γ N P E H o (.pointer (some (ad.add (k * sz)))) := by
 have := Ev.indexAddr (Γ := Γ) (N := N) (H := H) ho hx hy ht he (by omega)
 simpa using this
theorem ints_at {xs : List Int} {k : Nat} {u : Int} (h : xs[k]? = some u) : (ints xs)[k * 1]? = some (.int .i64 u) := by simp [ints, h]
theorem Ev.loadInt {t n k : Nat} {ad : Addr} {xs : List Int} {u : Int} (ho : o.op = .load t x) (hx : E.ev x = some (.pointer (some (ad.add (k * 1))))) (hi : ReadsIn Γ H 1 (some ad) n (ints xs)) (ht : one P t = true) (hu : xs[k]? = some u) : Ev Γ N P E H o (.int .i64 u) :=
 .loadOf ho hx fun w hs => by
  have hh : Reads w w.heap.size 1 (some ad) n (ints xs) := hi w hs
  have hk : k < xs.length := (List.getElem?_eq_some_iff.1 hu).1
  have := hh.1
  exact run_loadVar_one ht (rd_cell hh (by simp [ints] at this; omega) (ints_at hu))
theorem strs_at {xs : List ByteArray} {k : Nat} {u : ByteArray} (h : xs[k]? = some u) : (strs xs)[k * 1]? = some (.string u) := by simp [strs, h]
theorem Ev.loadStr {t n k : Nat} {ad : Addr} {xs : List ByteArray} {u : ByteArray} (ho : o.op = .load t x) (hx : E.ev x = some (.pointer (some (ad.add (k * 1))))) (hi : ReadsIn Γ H 1 (some ad) n (strs xs)) (ht : one P t = true) (hu : xs[k]? = some u) : Ev Γ N P E H o (.string u) :=
 .loadOf ho hx fun w hs => by
  have hh : Reads w w.heap.size 1 (some ad) n (strs xs) := hi w hs
  have hk : k < xs.length := (List.getElem?_eq_some_iff.1 hu).1
  have := hh.1
  exact run_loadVar_one ht (rd_cell hh (by simp [strs] at this; omega) (strs_at hu))
theorem flatMap_at {α : Type} {enc : α → List Value} {sz : Nat} (he : ∀ a, (enc a).length = sz) : ∀ {l : List α} {k : Nat} {a : α}, l[k]? = some a → ((l.flatMap enc).drop (k * sz)).take sz = enc a
 | [], k, a, h => by simp at h
 | b :: l, 0, a, h => by
  simp only [List.getElem?_cons_zero, Option.some.injEq] at h
  subst h
  simp only [Nat.zero_mul, List.drop_zero, List.flatMap_cons]
  rw [List.take_append_of_le_length (by rw [he]; exact Nat.le_refl _), List.take_of_length_le (by rw [he]; exact Nat.le_refl _)]
 | b :: l, k + 1, a, h => by
  simp only [List.getElem?_cons_succ] at h
  rw [List.flatMap_cons, List.drop_append, List.drop_of_length_le (by rw [he, Nat.succ_mul]; omega), List.nil_append, he, Nat.succ_mul, Nat.add_sub_cancel]
  exact flatMap_at he h
theorem flatMap_len {α : Type} {enc : α → List Value} {sz : Nat} (he : ∀ a, (enc a).length = sz) (l : List α) : (l.flatMap enc).length = l.length * sz := by
 induction l with
 | nil => simp
 | cons a l ih => rw [List.flatMap_cons, List.length_append, he, ih, List.length_cons, Nat.succ_mul]; omega
theorem Ev.loadEl {t n k sz : Nat} {ad : Addr} {α : Type} {enc : α → List Value} {l : List α} {a : α} (ho : o.op = .load t x) (hx : E.ev x = some (.pointer (some (ad.add (k * sz))))) (hi : ReadsIn Γ H sz (some ad) n (l.flatMap enc)) (ht : agg P t sz = true) (he : ∀ a, (enc a).length = sz) (ha : l[k]? = some a) : Ev Γ N P E H o (.agg (enc a).toArray) :=
 .loadOf ho hx fun w hs => by
  have hh : Reads w w.heap.size sz (some ad) n (l.flatMap enc) := hi w hs
  refine run_loadVar_agg ht (he a) fun j v hj => ?_
  have hjs : j < sz := by rw [← he a]; exact (List.getElem?_eq_some_iff.1 hj).1
  have hn : 0 < n := by
   rcases Nat.eq_zero_or_pos n with h0 | h0
   · have := hh.1
     have hk : k < l.length := (List.getElem?_eq_some_iff.1 ha).1
     rw [flatMap_len he, h0, Nat.zero_mul] at this
     have : 0 < l.length * sz := Nat.mul_pos (by omega) (by omega)
     omega
   · exact h0
  rw [add_of_add]
  refine rd_cell hh hn ?_
  rw [← flatMap_at he ha, List.getElem?_take, if_pos hjs, List.getElem?_drop] at hj
  exact hj
theorem Ev.fieldAddrE0 {s f k b sz : Nat} {ad : Addr} (ho : o.op = .fieldAddr s x f) (hx : E.ev x = some (.pointer (some (ad.add (b * sz))))) (hf : fieldOff P s f = some k) : Ev Γ N P E H o (.pointer (some (ad.add (b * sz + k)))) := by
 have := Ev.fieldAddrA (Γ := Γ) (N := N) (H := H) ho hx hf
 rwa [add_of_add] at this
theorem el_cell {w : World} {n k sz j : Nat} {ad : Addr} {α : Type} {enc : α → List Value} {l : List α} {a : α} {v : Value} (hh : Reads w w.heap.size sz (some ad) n (l.flatMap enc)) (he : ∀ a, (enc a).length = sz) (ha : l[k]? = some a) (hv : (enc a)[j]? = some v) : w.cell? (ad.add (k * sz + j)) = some v := by
 have hjs : j < sz := by rw [← he a]; exact (List.getElem?_eq_some_iff.1 hv).1
 have hn : 0 < n := by
  rcases Nat.eq_zero_or_pos n with h0 | h0
  · have := hh.1
    have hk : k < l.length := (List.getElem?_eq_some_iff.1 ha).1
    rw [flatMap_len he, h0, Nat.zero_mul] at this
    have : 0 < l.length * sz := Nat.mul_pos (by omega) (by omega)
    omega
  · exact h0
 refine rd_cell hh hn ?_
 rw [← flatMap_at he ha, List.getElem?_take, if_pos hjs, List.getElem?_drop] at hv
 exact hv
theorem Ev.loadElF {t n k sz j : Nat} {ad : Addr} {α : Type} {enc : α → List Value} {l : List α} {a : α} {v : Value} (ho : o.op = .load t x) (hx : E.ev x = some (.pointer (some (ad.add (k * sz + j))))) (hi : ReadsIn Γ H sz (some ad) n (l.flatMap enc)) (ht : one P t = true) (he : ∀ a, (enc a).length = sz) (ha : l[k]? = some a) (hv : (enc a)[j]? = some v) : Ev Γ N P E H o v :=
 .loadOf ho hx fun w hs => run_loadVar_one ht (el_cell (hi w hs) he ha hv)
def AllIn (Γ : Ctx) (H : List Chunk) : List Chunk → Prop
 | [] => True
 | C :: r => (∀ w, Sat Γ H w → C.holds w) ∧ AllIn Γ H r
theorem AllIn.mem {Γ : Ctx} {H : List Chunk} {w : World} (hs : Sat Γ H w) : ∀ {Hp : List Chunk}, AllIn Γ H Hp → ∀ C ∈ Hp, C.holds w
 | [], _, C, hC => by cases hC
 | D :: r, h, C, hC => by
  rcases List.mem_cons.1 hC with rfl | hC
  · exact h.1 w hs
  · exact AllIn.mem hs h.2 C hC
theorem Does.read {f : FuncId} {fn : Func} {args : Array Operand} {ats : Array TypeId} {vs : List Value} {ι : Type} {res : ι → Value} {Hp : List Chunk} {φ : ι → Prop}
 (ho : o.op = .call { callee := .value (.func f), args := args, argTypes := ats }) (hf : P.funcs[f]? = some fn) (hname : (fn.name == "runtime.NumGoroutine") = false) (hb : fn.body.isNone = false)
 (hspec : Fn P f vs.toArray Hp ι res (fun _ => []) φ) (hargs : args.toList.mapM E.ev = some vs) (hx : (Hp.all fun C => !C.excl) = true) (hh : AllIn Γ H Hp) :
 Does Γ N P E H o ι res (fun _ => H) φ := by
 refine ⟨fun a w hr hs K Q hK => ?_⟩
 have h1 : ¬ fn.name = "runtime.NumGoroutine" := by simpa using hname
 have h2 : ¬ fn.body = none := by cases hx : fn.body <;> simp_all
 have ha : args.map a.eval = vs.toArray := by
  have := args_ev (fun _ _ h => hr.ev h) _ _ hargs
  rw [← this, ← Array.toList_map]
 have hrun : (execOp a.eval o).run P w = .ok (.enter f vs.toArray) w := by
  unfold execOp
  simp [ho, resolve, Deferred.ofValue, invoke, callFunc, hf, h1, h2, Act.eval, ha]
 have hne : ∀ C ∈ Hp, C.excl = false := fun C hC => by simpa using List.all_eq_true.1 hx C hC
 have hs0 : Sat0 Hp w := ⟨hh.mem hs, List.pairwise_iff_getElem.2 fun i j hi hj _ he => by
  rw [hne _ (List.getElem_mem hi), hne _ (List.getElem_mem hj)] at he
  rcases he with he | he <;> cases he⟩
 unfold Oper.wp
 rw [hrun]
 refine (hspec w hs0).mono ?_
 rintro e w' ⟨i, hi, rfl, hs'⟩
 have hS : ∀ k, ¬ Ctx.S ⟨w, Hp⟩ k := fun k ⟨D, hD, he, _⟩ => by rw [hne D hD] at he; cases he
 refine hK i w' hi ⟨hs.upd.trans hs'.upd (fun k _ h => absurd h (hS k)), ⟨fun C hC => C.loc w w' hs'.upd.size (fun k hk => hs'.upd.block k (C.lt w k (hs.sat.1 C hC) hk) (hS k)) (hs.sat.1 C hC), hs.sat.2⟩, hs.fits⟩
def argc (W : World) : Chunk where
 holds w := W.heap.size ≤ w.heap.size ∧ ∀ k, k < W.heap.size → w.heap[k]? = W.heap[k]?
 foot k := k < W.heap.size
 excl := false
 lt := fun _ k h hk => by omega
 loc := fun w w' hs he h => ⟨by omega, fun k hk => (he k hk).trans (h.2 k hk)⟩
theorem Sat.arg {W w : World} {A : Option Addr} {n sz : Nat} {xs : List Value} {i : Nat} (hi : H[i]? = some (argc W)) (hr : Reads W W.heap.size sz A n xs) (h : Sat Γ H w) : Sat Γ (rd A n sz xs :: H) w := by
 have hm : argc W ∈ H := List.mem_of_getElem? hi
 have hW : (argc W).holds w := h.sat.1 _ hm
 have hfoot : ∀ k, (rd A n sz xs).foot k → k < W.heap.size := by
  rintro k ⟨hn, hk⟩
  obtain ⟨ad, rfl, hb, _⟩ := hr.2 hn
  obtain rfl : ad.block = k := by simpa [blockOf] using hk
  exact hb
 refine ⟨h.upd, ⟨fun D hD => ?_, List.Pairwise.cons (fun D hD he k hk hk' => ?_) h.sat.2⟩, fun D hD => ?_⟩
 · rcases List.mem_cons.1 hD with rfl | hD
   · exact (hr.keep (fun p hp => World.cell?_of_block (hW.2 _ hp))).more hW.1
   · exact h.sat.1 D hD
 · have he2 : D.excl = true := by
    rcases he with he | he
    · cases he
    · exact he
   obtain ⟨il, e1⟩ := List.getElem?_eq_some_iff.1 hi
   obtain ⟨j, jl, e2⟩ := List.getElem_of_mem hD
   have hp := List.pairwise_iff_getElem.1 h.sat.2
   rcases Nat.lt_trichotomy i j with hlt | rfl | hlt
   · have := hp i j il jl hlt
     rw [e1, e2] at this
     exact this (.inr he2) k (hfoot k hk) hk'
   · rw [e1] at e2; subst e2; cases he2
   · have := hp j i jl il hlt
     rw [e1, e2] at this
     exact this (.inl he2) k hk' (hfoot k hk)
 · rcases List.mem_cons.1 hD with rfl | hD
   · intro k hk hlt
     exact ⟨(h.fits _ hm k (hfoot k hk) hlt).1, fun e => by cases e⟩
   · exact h.fits D hD
theorem Ent.arg {A : Asrt} {W : World} {B : Option Addr} {n sz : Nat} {xs : List Value} (i : Nat) (hi : H[i]? = some (argc W)) (hr : Reads W W.heap.size sz B n xs) (h : Ent Γ N E (rd B n sz xs :: H) A) : Ent Γ N E H A :=
 Ent.map (fun _ hs => hs.arg hi hr) h
end
section
variable {Γ : Ctx} {N : Frm} {P : Program} {E : Env} {H : List Chunk} {κ : Cont} {ops : Array Oper} {o : Oper}
theorem Cd.drawS {id : Nat} (is : List Nat) (T : List Nat) (hm : P.follows .mixedOrders = true) (h : Rg Γ N P E H (picks H is) T ops ops.size (Array.replicate ops.size false) κ) (hc : ops.all calmOp = true := by kernel_rfl) : Cd Γ N P E H (.region id ops true) κ := fun a _ hr hs =>
 wpIn_region_any hm (any_in (all_calm hc) _ _ _ _ (wpAny_of_L _ _ _ _ (h a _ hr hs.drew)))
def RgO (Γ : Ctx) (N : Frm) (P : Program) (E : Env) (H Hs : List Chunk) (T : List Nat) (ops : Array Oper) (fuel : Nat) (listed : Array Bool) (κ : Cont) (i : Nat) : Prop :=
 Ent Γ N E H fun a w => wpOp P ops κ.toQ i (fun a' w' => until_ (Sat Γ Hs) T (listed.setIfInBounds i true) w' ∧ wpAnyL P .any ops κ.toQ (Sat Γ Hs) T fuel (listed.setIfInBounds i true) a' w') a w
theorem Rg.two {Hs : List Chunk} {T : List Nat} {fuel : Nat} {listed : Array Bool} (i j : Nat) (hr : Region.ready .any ops listed = [i, j]) (hi : RgO Γ N P E H Hs T ops fuel listed κ i) (hj : RgO Γ N P E H Hs T ops fuel listed κ j) : Rg Γ N P E H Hs T ops (fuel + 1) listed κ := fun a w hrep hs => by
 refine ⟨fun h => (by rw [hr] at h; cases h), fun k hk => ?_⟩
 rw [hr] at hk
 rcases List.mem_cons.1 hk with rfl | hk
 · exact hi a w hrep hs
 · obtain rfl : k = j := by simpa using hk
   exact hj a w hrep hs
theorem Rg.one {Hs : List Chunk} {T : List Nat} {fuel : Nat} {listed : Array Bool} (i : Nat) (hr : Region.ready .any ops listed = [i]) (hi : RgO Γ N P E H Hs T ops fuel listed κ i) : Rg Γ N P E H Hs T ops (fuel + 1) listed κ := fun a w hrep hs => by
 refine ⟨fun h => (by rw [hr] at h; cases h), fun k hk => ?_⟩
 rw [hr] at hk
 obtain rfl : k = i := by simpa using hk
 exact hi a w hrep hs
theorem RgO.does {Hs : List Chunk} {T : List Nat} {fuel : Nat} {listed : Array Bool} {ι : Type} {v : ι → Value} {H' : ι → List Chunk} {φ : ι → Prop} (i : Nat) (hi : ops[i]? = some o) (h : Does Γ N P E H o ι v H' φ) (hw : wantB ops E o = some true) (d : Option Tmp) (hd : (decide (o.dst = d) && dstB N d) = true)
 (hsub : ∀ j w, Sat Γ (H' j) w → Sat Γ Hs w) (k : ∀ j, φ j → Rg Γ N P (E.put d (v j)) (H' j) Hs T ops fuel (listed.setIfInBounds i true) κ) : RgO Γ N P E H Hs T ops fuel listed κ i := by
 simp only [Bool.and_eq_true, decide_eq_true_eq] at hd
 obtain ⟨rfl, hd⟩ := hd
 intro a w hrep hsat
 refine wpOp_step hi fun K hK => ?_
 rw [if_pos (wanted_of hrep hw)]
 refine h.run a w hrep hsat K _ fun x w' hx hs' => hK _ _ ⟨.inr (hsub x w' hs'), ?_⟩
 exact k x hx _ _ (hrep.put hd (v x)) hs'
theorem RgO.tail {Hs : List Chunk} {T : List Nat} {fuel : Nat} {listed : Array Bool} {ι : Type} {v : ι → Value} {H' : ι → List Chunk} {φ : ι → Prop} (i : Nat) (hi : ops[i]? = some o) (h : Does Γ N P E H o ι v H' φ) (hw : wantB ops E o = some true) (d : Option Tmp) (hd : (decide (o.dst = d) && dstB N d) = true)
 (hT : T.contains i = true) (hl : decide (i < listed.size) = true) (k : ∀ j, φ j → Rg Γ N P (E.put d (v j)) (H' j) [] [] ops fuel (listed.setIfInBounds i true) κ) : RgO Γ N P E H Hs T ops fuel listed κ i := by
 simp only [Bool.and_eq_true, decide_eq_true_eq] at hd
 obtain ⟨rfl, hd⟩ := hd
 intro a w hrep hsat
 have hil : (listed.setIfInBounds i true).getD i false = true := by
  have : i < listed.size := of_decide_eq_true hl
  simp [this]
 refine wpOp_step hi fun K hK => ?_
 rw [if_pos (wanted_of hrep hw)]
 refine h.run a w hrep hsat K _ fun x w' hx hs' => hK _ _ ⟨.inl ⟨i, by simpa using hT, hil⟩, ?_⟩
 exact wpAnyL_turn fuel _ _ _ (fun l w hm _ => .inl ⟨i, by simpa using hT, hm i hil⟩) (k x hx _ _ (hrep.put hd (v x)) hs')
end
section
variable {Γ : Ctx} {N : Frm} {P : Program} {E : Env} {H : List Chunk} {κ : Cont} {ops : Array Oper} {rest : List Oper} {o : Oper} {x y z : Operand}
abbrev Li (Γ : Ctx) (N : Frm) (P : Program) (E : Env) (H : List Chunk) (ops : Array Oper) (l : List Oper) (κ : Cont) : Prop := Ent Γ N E H fun a w => wpListIn N.fence 0 P ops κ.toQ l a w
theorem Cd.regionI {id : Nat} {l : List Oper} (h : Li Γ N P E H l.toArray l κ) : Cd Γ N P E H (.region id l.toArray false) κ := fun a w hr hs => wpIn_region_lit (h a w hr hs)
theorem Li.nil (h : Ent Γ N E H κ.normal) : Li Γ N P E H ops [] κ := fun a w hr hs => wpListIn_nil (h a w hr hs)
theorem Li.ev {v : Value} (d : Option Tmp) (h : Ev Γ N P E H o v) (hw : wantB ops E o = some true) (hd : (decide (o.dst = d) && dstB N d) = true) (k : Li Γ N P (E.put d v) H ops rest κ) (hc : calmOp o = true := by rfl) : Li Γ N P E H ops (o :: rest) κ := by
 simp only [Bool.and_eq_true, decide_eq_true_eq] at hd
 obtain ⟨rfl, hd⟩ := hd
 intro a w hr hs
 refine wpListIn_step fun K hK => ?_
 rw [if_pos (wanted_of hr hw)]
 refine oper_in hc ?_
 unfold Oper.wp
 rw [h.run a w hr hs]
 exact hK _ _ (k _ _ (hr.put hd v) hs)
theorem Li.does {ι : Type} {v : ι → Value} {H' : ι → List Chunk} {φ : ι → Prop} (d : Option Tmp) (h : Does Γ N P E H o ι v H' φ) (hw : wantB ops E o = some true) (hd : (decide (o.dst = d) && dstB N d) = true) (k : ∀ i, φ i → Li Γ N P (E.put d (v i)) (H' i) ops rest κ) (hc : calmOp o = true := by rfl) : Li Γ N P E H ops (o :: rest) κ := by
 simp only [Bool.and_eq_true, decide_eq_true_eq] at hd
 obtain ⟨rfl, hd⟩ := hd
 intro a w hr hs
 refine wpListIn_step fun K hK => ?_
 rw [if_pos (wanted_of hr hw)]
 refine oper_in hc ?_
 exact h.run a w hr hs K _ fun i w' hi hs' => hK _ _ (k i hi _ _ (hr.put hd (v i)) hs')
theorem apart_symm_ : ∀ {C D : Chunk}, apart C D → apart D C := fun h => h.symm
theorem Sat.perm {H' : List Chunk} {w : World} (h : Sat Γ H w) (hp : H.Perm H') : Sat Γ H' w :=
 ⟨h.upd, ⟨fun C hC => h.sat.1 C (hp.mem_iff.2 hC), (hp.pairwise_iff apart_symm_).1 h.sat.2⟩, fun C hC => h.fits C (hp.mem_iff.2 hC)⟩
theorem Sat.starx_close {A B : List Chunk} {w : World} (hA : ∀ C ∈ A, C.excl = true) (h : Sat Γ (A ++ B) w) : Sat Γ (starx A :: B) w := by
 obtain ⟨hu, hs, hf⟩ := h
 obtain ⟨a, b, c⟩ := sat0_append.1 hs
 refine ⟨hu, ⟨fun C hC => ?_, List.pairwise_cons.2 ⟨fun D hD _ k hk hk' => ?_, b.2⟩⟩, fun C hC => ?_⟩
 · rcases List.mem_cons.1 hC with rfl | hC
   · exact a
   · exact b.1 C hC
 · obtain ⟨C, hC, hk⟩ := hk
   exact c C hC D hD (.inl (hA C hC)) k hk hk'
 · rcases List.mem_cons.1 hC with rfl | hC
   · rintro k ⟨D, hD, hk⟩ hlt
     have := hf D (List.mem_append_left _ hD) k hk hlt
     exact ⟨this.1, fun _ => this.2 (hA D hD)⟩
   · exact hf C (List.mem_append_right _ hC)
theorem Sat.stars_close {A B : List Chunk} {w : World} (hA : ∀ C ∈ A, C.excl = false) (h : Sat Γ (A ++ B) w) : Sat Γ (stars A :: B) w := by
 obtain ⟨hu, hs, hf⟩ := h
 obtain ⟨a, b, c⟩ := sat0_append.1 hs
 refine ⟨hu, ⟨fun C hC => ?_, List.pairwise_cons.2 ⟨fun D hD he k hk hk' => ?_, b.2⟩⟩, fun C hC => ?_⟩
 · rcases List.mem_cons.1 hC with rfl | hC
   · exact fun D hD => ⟨hA D hD, a.1 D hD⟩
   · exact b.1 C hC
 · obtain ⟨C, hC, hk⟩ := hk
   rcases he with he | he
   · cases he
   · exact c C hC D hD (.inr he) k hk hk'
 · rcases List.mem_cons.1 hC with rfl | hC
   · rintro k ⟨D, hD, hk⟩ hlt
     exact ⟨(hf D (List.mem_append_left _ hD) k hk hlt).1, fun e => by cases e⟩
   · exact hf C (List.mem_append_right _ hC)
end
def cutA (A : Option Addr) (m l sz : Nat) : Option Addr := if m = l then A else A.map (·.add (l * sz))
section
variable {Γ : Ctx} {N : Frm} {P : Program} {E : Env} {H : List Chunk} {κ : Cont} {o : Oper} {x y z u : Operand}
theorem add_zero_ (A : Option Addr) : A.map (fun a => a.add 0) = A := by cases A <;> simp [Addr.add]
theorem Ev.sliceL {t e sz n c : Nat} {A : Option Addr} {k : IntKind} {l : Int} (ho : o.op = .slice t x (some y) none none) (hx : E.ev x = some (.slice A n c)) (hy : E.ev y = some (.int k l)) (ht : P.underlying t = some (.slice e)) (he : (P.info? e).map (·.size) = some sz) (hl : 0 ≤ l ∧ l ≤ n) :
 Ev Γ N P E H o (.slice (cutA A c l.toNat sz) (n - l.toNat) (c - l.toNat)) := .of fun ρ hρ w => by
 obtain ⟨i, hi, hs⟩ := Option.map_eq_some_iff.1 he
 simp [execOp, ho, hρ x _ hx, hρ y _ hy, Instr.sliceAt, Instr.slice, Instr.sliceBounds, Instr.sliceBound, asIntOf, run_underlying ht, sizeOf, typeInfo, hi, hs, hl.1, hl.2, cutA]
theorem Ev.sliceH {t e sz n c : Nat} {A : Option Addr} {k : IntKind} {h : Int} (ho : o.op = .slice t x none (some y) none) (hx : E.ev x = some (.slice A n c)) (hy : E.ev y = some (.int k h)) (ht : P.underlying t = some (.slice e)) (he : (P.info? e).map (·.size) = some sz) (hh : 0 ≤ h ∧ h ≤ c) :
 Ev Γ N P E H o (.slice A h.toNat c) := .of fun ρ hρ w => by
 obtain ⟨i, hi, _⟩ := Option.map_eq_some_iff.1 he
 simp [execOp, ho, hρ x _ hx, hρ y _ hy, Instr.sliceAt, Instr.slice, Instr.sliceBounds, Instr.sliceBound, asIntOf, run_underlying ht, sizeOf, typeInfo, hi, hh.1, hh.2, add_zero_]
theorem Ev.sliceLH {t e sz n c : Nat} {A : Option Addr} {k k' : IntKind} {l h : Int} (ho : o.op = .slice t x (some y) (some z) none) (hx : E.ev x = some (.slice A n c)) (hy : E.ev y = some (.int k l)) (hz : E.ev z = some (.int k' h)) (ht : P.underlying t = some (.slice e)) (he : (P.info? e).map (·.size) = some sz) (hl : 0 ≤ l ∧ l ≤ h ∧ h ≤ c) :
 Ev Γ N P E H o (.slice (cutA A c l.toNat sz) (h.toNat - l.toNat) (c - l.toNat)) := .of fun ρ hρ w => by
 obtain ⟨i, hi, hs⟩ := Option.map_eq_some_iff.1 he
 have h1 : 0 ≤ h := by omega
 simp [execOp, ho, hρ x _ hx, hρ y _ hy, hρ z _ hz, Instr.sliceAt, Instr.slice, Instr.sliceBounds, Instr.sliceBound, asIntOf, run_underlying ht, sizeOf, typeInfo, hi, hs, hl.1, hl.2.2, h1, hl.2.1, Int.toNat_of_nonneg h1, cutA]
theorem Ev.sliceLHM {t e sz n c : Nat} {A : Option Addr} {k k' k'' : IntKind} {l h m : Int} (ho : o.op = .slice t x (some y) (some z) (some u)) (hx : E.ev x = some (.slice A n c)) (hy : E.ev y = some (.int k l)) (hz : E.ev z = some (.int k' h)) (hu : E.ev u = some (.int k'' m)) (ht : P.underlying t = some (.slice e)) (he : (P.info? e).map (·.size) = some sz) (hl : 0 ≤ l ∧ l ≤ h ∧ h ≤ m ∧ m ≤ c) :
 Ev Γ N P E H o (.slice (cutA A m.toNat l.toNat sz) (h.toNat - l.toNat) (m.toNat - l.toNat)) := .of fun ρ hρ w => by
 obtain ⟨i, hi, hs⟩ := Option.map_eq_some_iff.1 he
 have h0 : 0 ≤ m := by omega
 have h1 : 0 ≤ h := by omega
 simp [execOp, ho, hρ x _ hx, hρ y _ hy, hρ z _ hz, hρ u _ hu, Instr.sliceAt, Instr.slice, Instr.sliceBounds, Instr.sliceBound, asIntOf, run_underlying ht, sizeOf, typeInfo, hi, hs, hl.1, hl.2.2.2, h0, h1, hl.2.1, hl.2.2.1, Int.toNat_of_nonneg h1, Int.toNat_of_nonneg h0, cutA]
theorem Ev.cap {t : TypeId} {A : Option Addr} {n c : Nat} {e : TypeId} (ho : o.op = .call { callee := .builtin .cap, args := #[x], argTypes := #[t] }) (hx : E.ev x = some (.slice A n c)) (ht : P.underlying t = some (.slice e)) : Ev Γ N P E H o (.int .i64 c) := .of fun ρ hρ w => by
 simp [execOp, ho, resolve, invoke, builtin, hρ x _ hx, Builtin.cap_, run_underlying ht, goInt]
theorem Ev.makeFunc2 {f : Nat} {v v' : Value} (ho : o.op = .makeFunc (.func f) #[] #[x, y]) (hx : E.ev x = some v) (hy : E.ev y = some v') : Ev Γ N P E H o (.func (.func f) #[] #[v, v']) := .of fun ρ hρ w => by
 simp [execOp, ho, hρ x _ hx, hρ y _ hy, Instr.makeFunc]
theorem Sat.cut {A : Option Addr} {n sz : Nat} {xs : List Value} {w : World} (i lo hi m : Nat) (hi' : H[i]? = some (rd A n sz xs)) (hlo : lo ≤ hi) (hhi : hi ≤ n) (hm : hi ≤ m) (h : Sat Γ H w) : Sat Γ (rd (cutA A m lo sz) (hi - lo) sz ((xs.drop (lo * sz)).take ((hi - lo) * sz)) :: H) w := by
 have hr : Reads w w.heap.size sz A n xs := h.mem hi'
 have hp : ∀ k, (rd (cutA A m lo sz) (hi - lo) sz ((xs.drop (lo * sz)).take ((hi - lo) * sz))).foot k → (rd A n sz xs).foot k := fun k ⟨hk, hb⟩ => ⟨by omega, by
  unfold cutA at hb
  split at hb
  · exact hb
  · cases A with
    | none => cases hb
    | some a => simpa [blockOf, block_of_add] using hb⟩
 have hC := List.mem_of_getElem? hi'
 refine ⟨h.upd, ⟨fun C hC' => ?_, List.pairwise_cons.2 ⟨fun C hC' => ?_, h.sat.2⟩⟩, fun C hC' => ?_⟩
 · rcases List.mem_cons.1 hC' with rfl | hC'
   · have h1 := hr.take hhi
     have h2 := h1.cut hlo hm
     unfold cutA
     have e : (xs.drop (lo * sz)).take ((hi - lo) * sz) = (xs.take (hi * sz)).drop (lo * sz) := by
      rw [List.drop_take, Nat.sub_mul]
     rw [e]
     exact h2
   · exact h.sat.1 C hC'
 · intro he k hk hk'
   rcases he with he | he
   · cases he
   · obtain ⟨j, hj, rfl⟩ := List.getElem_of_mem hC'
     obtain ⟨hil, hiC⟩ := List.getElem?_eq_some_iff.1 hi'
     by_cases hij : i = j
     · subst hij
       rw [hiC] at he
       cases he
     · have hp2 := List.pairwise_iff_getElem.1 h.sat.2
       rcases Nat.lt_or_gt_of_ne hij with hlt | hlt
       · exact hp2 i j hil hj hlt (.inr he) k (by rw [hiC]; exact hp k hk) hk'
       · exact hp2 j i hj hil hlt (.inl he) k hk' (by rw [hiC]; exact hp k hk)
 · rcases List.mem_cons.1 hC' with rfl | hC'
   · intro k hk hlt
     exact ⟨(h.fits _ hC k (hp k hk) hlt).1, fun e => by cases e⟩
   · exact h.fits C hC'
theorem Ent.cut {A : Option Addr} {n sz : Nat} {xs : List Value} {B : Asrt} (i lo hi m : Nat) (hi' : H[i]? = some (rd A n sz xs)) (hlo : lo ≤ hi ∧ hi ≤ n ∧ hi ≤ m) (h : Ent Γ N E (rd (cutA A m lo sz) (hi - lo) sz ((xs.drop (lo * sz)).take ((hi - lo) * sz)) :: H) B) : Ent Γ N E H B :=
 fun a w hr hs => h a w hr (hs.cut i lo hi m hi' hlo.1 hlo.2.1 hlo.2.2)
theorem Ent.trunc {A : Option Addr} {n c e sz : Nat} {xs : List Value} {B : Asrt} (i k : Nat) (hi : H[i]? = some (row A n c e sz xs)) (hk : k ≤ n) (h : Ent Γ N E (H.set i (row A k c e sz (xs.take (k * sz)))) B) : Ent Γ N E H B :=
 fun a w hr hs => h a w hr (hs.see hi rfl (fun w ho => by
  have ho : Own w 0 e sz A n c xs := ho
  rcases ho.form with ⟨rfl, rfl, rfl, rfl⟩ | ⟨g, cur, rfl, hg, hb, hn, hc, hs, hx⟩
  · obtain rfl : k = 0 := by omega
    show Own w 0 e sz none 0 0 _
    simpa using ho
  · have := Own.of_blk (n := k) hb hg (by omega) hc hs
    have e2 : xs.take (k * sz) = cur.toList.take (k * sz) := by
     rw [← hx, List.take_take, Nat.min_eq_left (Nat.mul_le_mul_right _ hk)]
    show Own w 0 e sz _ k c _
    rw [e2]
    exact this) (fun k hk => hk))
theorem Does.growZ {t tn e bytes : Nat} {kk : IntKind} {n : Int} {v : Value} (ho : o.op = .call { callee := .builtin .append, args := #[x, y], argTypes := #[t, tn] }) (hx : E.ev x = some (.slice none 0 0)) (hy : E.ev y = some (.int kk n)) (hel : Elem P t e 1 bytes) (hz : (P.info? e).bind (·.zero) = some v) (hv : v.cells = #[v]) (htn : P.underlying tn = some (.int kk)) (hn : 0 < n) (hb : n * bytes ≤ 140737488355328) :
 Does Γ N P E H o (Option Addr × Nat) (fun p => .slice p.1 n.toNat p.2) (fun p => row p.1 n.toNat p.2 e 1 (List.replicate n.toNat v) :: H) (fun _ => True) := .of fun ρ hρ w hs => by
 obtain ⟨i, z, ht, hi, hzi, hsz, hby, hzs, _, hb0⟩ := hel
 rw [hi, Option.bind_some, hzi, Option.some.injEq] at hz
 subst hz
 obtain ⟨m, rfl⟩ : ∃ m : Nat, n = m := ⟨n.toNat, by omega⟩
 have hmb : m * bytes ≤ 140737488355328 := by
  have : ((m * bytes : Nat) : Int) ≤ 140737488355328 := by rw [Int.natCast_mul]; exact hb
  omega
 have hm1 : m ≤ m * bytes := Nat.le_mul_of_pos_right _ hb0
 have hrun := Lib.run_append_nil_zeros (P := P) w t tn o.type e i z kk kk ht htn hi hzi m (by omega) (by omega) (by omega) (by rw [hby]; omega)
 have hcap : m ≤ grownCap w m 0 e ∧ grownCap w m 0 e ≤ maxLen := ⟨grownCap_ge w m 0 e, grownCap_le_maxLen w m 0 e (by unfold maxLen; omega)⟩
 have hzc : ∀ k, Builtin.zeroCells z.cells k = (List.replicate k z).toArray := fun k => by
  rw [hv]
  simp only [Builtin.zeroCells]
  apply Array.ext'
  apply List.ext_getElem <;> simp [Nat.mod_one]
 refine ⟨(some ⟨w.heap.size, 0, none⟩, grownCap w m 0 e), w.drew.alloc (.cells (Builtin.zeroCells z.cells m ++ Builtin.zeroCells z.cells (grownCap w m 0 e - m)) e), trivial, ?_, .inl ?_⟩
 rotate_left
 · simp [execOp, ho, resolve, invoke, builtin, hρ x _ hx, hρ y _ hy, hrun]
 · rw [hzc, hzc]
   have hsz2 : ((List.replicate m z).toArray ++ (List.replicate (grownCap w m 0 e - m) z).toArray).size = grownCap w m 0 e * 1 := by simp; omega
   have hn1 := (hs.drew).new e ((List.replicate m z) ++ (List.replicate (grownCap w m 0 e - m) z))
   have := hn1.turn (i := 0) (C := blk w.heap.size e ((List.replicate m z) ++ (List.replicate (grownCap w m 0 e - m) z))) rfl rfl (Upd.refl _ _) (C' := row (some ⟨w.heap.size, 0, none⟩) m (grownCap w m 0 e) e 1 (List.replicate m z)) (by
    have h0 := hn1.mem (i := 0) rfl
    have := Own.of_blk (n := m) (size := 1) (base := 0) (c := grownCap w m 0 e) h0 (Nat.zero_le _) hcap.1 hcap.2 (by simpa using hsz2)
    show Own _ 0 e 1 _ _ _ _
    simpa using this) (fun k hk => .inl (by simpa [row, blockOf, blk] using hk.symm))
   simpa using this
end
section
variable {Γ : Ctx} {N : Frm} {P : Program} {E : Env} {H : List Chunk} {κ : Cont} {ops : Array Oper} {o : Oper} {x y z : Operand}
def RgF (Γ : Ctx) (N : Frm) (P : Program) (E : Env) (H : List Chunk) {ι : Type} (E2 : ι → Env) (H2 : ι → List Chunk) (Hs : List Chunk) (T : List Nat) (ops : Array Oper) (fuel : Nat) (listed : Array Bool) (κ : Cont) (i : Nat) : Prop :=
 Rg Γ N P E H Hs T ops (fuel + 1) listed κ ∧ ∀ x, Rg Γ N P (E2 x) (H2 x) Hs T ops fuel (listed.setIfInBounds i true) κ
theorem Rg.float1 {ι : Type} {Hs : List Chunk} {T : List Nat} {fuel : Nat} {listed : Array Bool} (i : Nat) (d : Option Tmp) (v : ι → Value) (C : ι → Chunk) (h : RgF Γ N P E H (fun x => E.put d (v x)) (fun x => H ++ [C x]) Hs T ops fuel listed κ i) : Rg Γ N P E H Hs T ops (fuel + 1) listed κ := h.1
theorem RgF.ev {ι : Type} {E2 : ι → Env} {H2 : ι → List Chunk} {Hs : List Chunk} {T : List Nat} {fuel : Nat} {listed : Array Bool} {i : Nat} {v : Value} (m : Nat) (hi : ops[m]? = some o) (hsub : ∀ w, Sat Γ H w → Sat Γ Hs w) (hsub2 : ∀ x w, Sat Γ (H2 x) w → Sat Γ Hs w) (h : Ev Γ N P E Hs o v) (h2 : ∀ x, Ev Γ N P (E2 x) Hs o v) (hw : wantB ops E o = some true) (hw2 : ∀ x, wantB ops (E2 x) o = some true) (d : Option Tmp) (hd : (decide (o.dst = d) && dstB N d) = true)
 (hs : Region.noSelect ops = true) (hf : (Region.free .any ops listed m && Region.free .any ops (listed.setIfInBounds i true) m) = true) (hr : ((Region.ready .any ops listed).contains m && (Region.ready .any ops (listed.setIfInBounds i true)).contains m) = true) (hT : (aheadB .any ops T m && quietB T listed && !T.contains m && closedB .any ops listed && (quietB T (listed.setIfInBounds i true) && closedB .any ops (listed.setIfInBounds i true))) = true)
 (k : RgF Γ N P (E.put d v) H (fun x => (E2 x).put d v) H2 Hs T ops fuel (listed.setIfInBounds m true) κ i) : RgF Γ N P E H E2 H2 Hs T ops (fuel + 1) listed κ i := by
 simp only [Bool.and_eq_true] at hf hr hT
 obtain ⟨⟨⟨⟨t1, t2⟩, t3⟩, t4⟩, t5, t6⟩ := hT
 have hc : (listed.setIfInBounds i true).setIfInBounds m true = (listed.setIfInBounds m true).setIfInBounds i true := by
  by_cases e : i = m
  · rw [e]
  · exact Array.setIfInBounds_comm _ _ e
 refine ⟨Rg.ev m hi hsub h hw d hd hs hf.1 hr.1 (by simp only [t1, t2, t3, t4, Bool.and_self]) k.1, fun x => Rg.ev m hi (hsub2 x) (h2 x) (hw2 x) d hd hs hf.2 hr.2 (by simp only [t1, t5, t3, t6, Bool.and_self]) ?_⟩
 rw [hc]
 exact k.2 x
theorem RgF.does {ι ιj : Type} {E2 : ι → Env} {H2 : ι → List Chunk} {Hs : List Chunk} {T : List Nat} {fuel : Nat} {listed : Array Bool} {i : Nat} {oi oj : Oper} {vi : ι → Value} {Hi : ι → List Chunk} {φi : ι → Prop} {vj : ιj → Value} {HA : ιj → List Chunk} {HB : ι → ιj → List Chunk} {φj : ιj → Prop} (j : Nat) (hi : ops[i]? = some oi) (hj : ops[j]? = some oj)
 (hr : Region.ready .any ops listed = [i, j] ∨ Region.ready .any ops listed = [j, i]) (hr2 : Region.ready .any ops (listed.setIfInBounds i true) = [j])
 (hF : Does Γ N P E H oi ι vi Hi φi) (hwF : wantB ops E oi = some true) (di : Option Tmp) (hdi : (decide (oi.dst = di) && dstB N di) = true) (hleF : ∀ x, (E.put di (vi x)).le (E2 x)) (hcF : ∀ x w, Sat Γ (Hi x) w → Sat Γ (H2 x) w) (hsF : ∀ x w, Sat Γ (H2 x) w → Sat Γ Hs w)
 (hA : Does Γ N P E H oj ιj vj HA φj) (hwA : wantB ops E oj = some true) (dj : Option Tmp) (hdj : (decide (oj.dst = dj) && dstB N dj) = true) (hsA : ∀ y w, Sat Γ (HA y) w → Sat Γ Hs w)
 (hB : ∀ x, Does Γ N P (E2 x) (H2 x) oj ιj vj (HB x) φj) (hwB : ∀ x, wantB ops (E2 x) oj = some true) (hsB : ∀ x y w, Sat Γ (HB x y) w → Sat Γ Hs w)
 (k : ∀ y, φj y → RgF Γ N P (E.put dj (vj y)) (HA y) (fun x => (E2 x).put dj (vj y)) (fun x => HB x y) Hs T ops fuel (listed.setIfInBounds j true) κ i) : RgF Γ N P E H E2 H2 Hs T ops (fuel + 1) listed κ i := by
 have hij : i ≠ j := fun e => by
  subst e
  have hm : i ∈ Region.ready .any ops (listed.setIfInBounds i true) := by rw [hr2]; exact List.mem_cons_self
  have hm' : i ∈ Region.ready .any ops listed := by rcases hr with h | h <;> rw [h] <;> exact List.mem_cons_self
  have h1 := (mem_ready.1 hm).1
  have h2 := (mem_ready.1 hm').1
  rcases Nat.lt_or_ge i listed.size with h' | h'
  · simp [h'] at h1
  · simp [h'] at h2
 have hc : (listed.setIfInBounds i true).setIfInBounds j true = (listed.setIfInBounds j true).setIfInBounds i true := Array.setIfInBounds_comm _ _ hij
 have hB2 : ∀ x, Rg Γ N P (E2 x) (H2 x) Hs T ops (fuel + 1) (listed.setIfInBounds i true) κ := fun x =>
  Rg.one j hr2 (RgO.does j hj (hB x) (hwB x) dj hdj (hsB x) fun y hy => by rw [hc]; exact (k y hy).2 x)
 refine ⟨fun a w hrep hs => ?_, hB2⟩
 have goI : RgO Γ N P E H Hs T ops (fuel + 1) listed κ i := RgO.does i hi hF hwF di hdi (fun x w h => hsF x w (hcF x w h)) fun x _ => fun a' w' hr' hs' => hB2 x a' w' (hr'.le (hleF x)) (hcF x w' hs')
 have goJ : RgO Γ N P E H Hs T ops (fuel + 1) listed κ j := RgO.does j hj hA hwA dj hdj hsA fun y hy => (k y hy).1
 rcases hr with h | h
 · exact Rg.two i j h goI goJ a w hrep hs
 · exact Rg.two j i h goJ goI a w hrep hs
theorem RgF.land {ι : Type} {E2 : ι → Env} {H2 : ι → List Chunk} {Hs : List Chunk} {T : List Nat} {fuel : Nat} {listed : Array Bool} {i : Nat} {oi : Oper} {vi : ι → Value} {Hi : ι → List Chunk} {φi : ι → Prop} (hi : ops[i]? = some oi)
 (hr : Region.ready .any ops listed = [i])
 (hF : Does Γ N P E H oi ι vi Hi φi) (hwF : wantB ops E oi = some true) (di : Option Tmp) (hdi : (decide (oi.dst = di) && dstB N di) = true) (hleF : ∀ x, (E.put di (vi x)).le (E2 x)) (hcF : ∀ x w, Sat Γ (Hi x) w → Sat Γ (H2 x) w) (hsF : ∀ x w, Sat Γ (H2 x) w → Sat Γ Hs w)
 (k : ∀ x, Rg Γ N P (E2 x) (H2 x) Hs T ops fuel (listed.setIfInBounds i true) κ) : RgF Γ N P E H E2 H2 Hs T ops fuel listed κ i :=
 ⟨Rg.one i hr (RgO.does i hi hF hwF di hdi (fun x w h => hsF x w (hcF x w h)) fun x _ => fun a' w' hr' hs' => k x a' w' (hr'.le (hleF x)) (hcF x w' hs')), k⟩
theorem wpAnyL_free {Q : Exit → Act → World → Prop} {md : Region.Mode} {S : World → Prop} {T : List Nat} {i : Nat} {oi : Oper} {v : Value} (hi : ops[i]? = some oi) (hsel : ∀ (j : Nat) (o : Oper) cs b, ops[j]? = some o → o.op ≠ .select cs b)
 (hQ : ∀ c a w, Q (.panic c) (a.put oi.dst v) w → Q (.panic c) a w) (hiT : i ∉ T) :
 ∀ (fuel : Nat) (listed : Array Bool) (a : Act) (w : World),
  (∀ j oj, ops[j]? = some oj → j ≠ i → listed.getD j true = false → (∀ e ∈ oj.after, Region.binds md e = true → e.on ≠ i) → oi.apart ops oj = true) →
  i ∈ Region.ready md ops listed → YieldsIf P ops (fun _ => True) oi v a → until_ S T listed w →
  wpAnyL P md ops Q S T fuel (listed.setIfInBounds i true) (a.put oi.dst v) w → wpAnyL P md ops Q S T (fuel + 1) listed a w := by
 have hmono : ∀ (listed : Array Bool) (j : Nat) (w : World), until_ S T listed w → until_ S T (listed.setIfInBounds j true) w := fun listed j w h => h.imp (fun ⟨t, ht, hl⟩ => ⟨t, ht, getD_set_true hl⟩) id
 intro fuel
 induction fuel with
 | zero =>
  intro listed a w _ hr hy hu H
  refine ⟨fun h => (by rw [h] at hr; cases hr), fun j hj => ?_⟩
  by_cases hji : j = i
  · subst hji; exact hy.wpOp hi trivial ⟨hmono _ _ _ hu, H⟩
  · have := ready_mono hj hji
    rw [H.1] at this
    cases this
 | succ fuel ih =>
  intro listed a w hfree hr hy hu H
  refine ⟨fun h => (by rw [h] at hr; cases hr), fun j hj => ?_⟩
  by_cases hji : j = i
  · subst hji; exact hy.wpOp hi trivial ⟨hmono _ _ _ hu, H⟩
  · have h1 := H.2 j (ready_mono hj hji)
    obtain ⟨hjun, oj, hoj, hall⟩ := mem_ready.1 hj
    have hiun : listed.getD i false = false := by
     have h0 := (mem_ready.1 hr).1
     rcases Nat.lt_or_ge i listed.size with h' | h'
     · simp [h'] at h0 ⊢; exact h0
     · simp [Array.getElem?_eq_none h'] at h0
    have hnot : ∀ e ∈ oj.after, Region.binds md e = true → e.on ≠ i := fun e he hb heq => by
     have h1 := hall e he hb
     rw [heq, hiun] at h1
     cases h1
    have h2 := wpOp_putIf hoj (hfree j oj hoj hji hjun hnot) (fun cs b => hsel i oi cs b hi) (fun cs b => hsel j oj cs b hoj) hQ hy h1
    have hfree' : ∀ k ok, ops[k]? = some ok → k ≠ i → (listed.setIfInBounds j true).getD k true = false →
     (∀ e ∈ ok.after, Region.binds md e = true → e.on ≠ i) → oi.apart ops ok = true := fun k ok hk hki hun hno' => by
     refine hfree k ok hk hki ?_ hno'
     by_cases hjk : j = k
     · subst hjk; exact hjun
     · rw [getD_set_ne true hjk] at hun; exact hun
    refine wpOp_mono (fun a' w' h3 => ?_) h2
    have hu' : until_ S T (listed.setIfInBounds j true) w' := by
     rcases h3.2.1 with ⟨t, ht, hl⟩ | h
     · refine .inl ⟨t, ht, ?_⟩
       rwa [Array.setIfInBounds_comm _ _ (fun e => hji e.symm), getD_set_ne false (show i ≠ t from fun e => hiT (by rw [e]; exact ht))] at hl
     · exact .inr h
    refine ⟨hu', ih (listed.setIfInBounds j true) a' w' hfree' (ready_mono hr (Ne.symm hji)) h3.1 hu' ?_⟩
    rw [Array.setIfInBounds_comm _ _ hji]
    exact h3.2.2
theorem Rg.mv {Hs : List Chunk} {T : List Nat} {fuel : Nat} {listed : Array Bool} {v : Value} (i : Nat) (hi : ops[i]? = some o) (hsub : ∀ w, Sat Γ H w → Sat Γ Hs w) (ho : o.op = .move x) (hx : E.ev x = some v) (hw : wantB ops E o = some true) (d : Option Tmp) (hd : (decide (o.dst = d) && dstB N d) = true)
 (hs : Region.noSelect ops = true) (hf : Region.free .any ops listed i = true) (hr : (Region.ready .any ops listed).contains i = true) (hT : (!T.contains i) = true)
 (k : Rg Γ N P (E.put d v) H Hs T ops fuel (listed.setIfInBounds i true) κ) : Rg Γ N P E H Hs T ops (fuel + 1) listed κ := by
 simp only [Bool.and_eq_true, decide_eq_true_eq] at hd
 obtain ⟨rfl, hd⟩ := hd
 intro a w hrep hsat
 refine wpAnyL_free hi (Region.noSelect_spec hs) (fun _ _ _ h => h) (by simpa using hT) fuel listed a w (Region.free_spec hi hf) (by simpa using hr) (.inl ⟨wanted_of hrep hw, fun w' _ => ?_⟩) (.inr (hsub w hsat)) (k _ _ (hrep.put hd v) hsat)
 simp [execOp, ho, hrep.ev hx]
theorem Ent.closeR {A : Asrt} (k : Nat) (hk : (H.take k).all (fun C => !C.excl) = true) (h : Ent Γ N E (stars (H.take k) :: H.drop k) A) : Ent Γ N E H A :=
 Ent.map (fun w hs => Sat.stars_close (fun C hC => by simpa using List.all_eq_true.1 hk C hC) (by rw [List.take_append_drop]; exact hs)) h
theorem Sat.last {C : Chunk} {w : World} (h : Sat Γ (C :: H) w) : Sat Γ (H ++ [C]) w := h.perm (List.perm_append_singleton _ _).symm
theorem Cd.scope {c : Code} (h : Cd Γ N P E H c κ) (hro : N.round = none := by rfl) : Cd Γ N P E H (.scope c) κ := fun a w hr hs => by
 have h1 := h a w hr hs
 obtain ⟨n, d, r⟩ := N
 dsimp only at hro
 subst hro
 refine (wpIn_wide (n := 0)).2 (wp_scope_straight (Code.wp_mono (fun e a w q => ?_) (wpIn_wide.1 h1)))
 cases e <;> first | exact q | exact q.elim
theorem Cd.label {l : Nat} (h : Ent Γ N E H κ.normal) : Cd Γ N P E H (.label l) κ := fun a w hr hs => wpIn_label (h a w hr hs)
theorem Ev.sliceLn {t e sz n c l : Nat} {A : Option Addr} {k : IntKind} (ho : o.op = .slice t x (some y) none none) (hx : E.ev x = some (.slice A n c)) (hy : E.ev y = some (.int k l)) (ht : P.underlying t = some (.slice e)) (he : (P.info? e).map (·.size) = some sz) (hl : l ≤ n) :
 Ev Γ N P E H o (.slice (cutA A c l sz) (n - l) (c - l)) := Ev.sliceL ho hx hy ht he (by omega)
theorem Ev.sliceHn {t e sz n c h : Nat} {A : Option Addr} {k : IntKind} (ho : o.op = .slice t x none (some y) none) (hx : E.ev x = some (.slice A n c)) (hy : E.ev y = some (.int k h)) (ht : P.underlying t = some (.slice e)) (he : (P.info? e).map (·.size) = some sz) (hh : h ≤ c) :
 Ev Γ N P E H o (.slice A h c) := Ev.sliceH ho hx hy ht he (by omega)
theorem Ev.sliceLHn {t e sz n c l h : Nat} {A : Option Addr} {k k' : IntKind} (ho : o.op = .slice t x (some y) (some z) none) (hx : E.ev x = some (.slice A n c)) (hy : E.ev y = some (.int k l)) (hz : E.ev z = some (.int k' h)) (ht : P.underlying t = some (.slice e)) (he : (P.info? e).map (·.size) = some sz) (hl : l ≤ h ∧ h ≤ c) :
 Ev Γ N P E H o (.slice (cutA A c l sz) (h - l) (c - l)) := Ev.sliceLH ho hx hy hz ht he (by omega)
theorem Ev.sliceLHMn {u : Operand} {t e sz n c l h m : Nat} {A : Option Addr} {k k' k'' : IntKind} (ho : o.op = .slice t x (some y) (some z) (some u)) (hx : E.ev x = some (.slice A n c)) (hy : E.ev y = some (.int k l)) (hz : E.ev z = some (.int k' h)) (hu : E.ev u = some (.int k'' m)) (ht : P.underlying t = some (.slice e)) (he : (P.info? e).map (·.size) = some sz) (hl : l ≤ h ∧ h ≤ m ∧ m ≤ c) :
 Ev Γ N P E H o (.slice (cutA A m l sz) (h - l) (m - l)) := Ev.sliceLHM ho hx hy hz hu ht he (by omega)
theorem Ev.minN {ts : Array TypeId} {k : IntKind} {a b m : Nat} (ho : o.op = .call { callee := .builtin .min, args := #[x, y], argTypes := ts }) (hx : E.ev x = some (.int k a)) (hy : E.ev y = some (.int k b)) (hm : Min.min a b = m) : Ev Γ N P E H o (.int k m) := by
 subst hm
 have := Ev.min (Γ := Γ) (N := N) (P := P) (H := H) ho hx hy
 have e : (if (b : Int) < a then (b : Int) else a) = ((Min.min a b : Nat) : Int) := by split <;> omega
 rwa [e] at this
theorem Ev.subN {t t' : TypeId} {a b : Nat} (ho : o.op = .binOp .sub t x y t') (hx : E.ev x = some (.int .i64 a)) (hy : E.ev y = some (.int .i64 b)) (h : b ≤ a ∧ a ≤ 9223372036854775807) : Ev Γ N P E H o (.int .i64 (a - b : Nat)) := by
 have := Ev.subI (Γ := Γ) (N := N) (P := P) (H := H) ho hx hy (by omega)
 rwa [show (a : Int) - b = ((a - b : Nat) : Int) by omega] at this
theorem Ev.addN {t t' : TypeId} {a b : Nat} (ho : o.op = .binOp .add t x y t') (hx : E.ev x = some (.int .i64 a)) (hy : E.ev y = some (.int .i64 b)) (h : a + b ≤ 9223372036854775807) : Ev Γ N P E H o (.int .i64 (a + b : Nat)) := by
 have := Ev.addI (Γ := Γ) (N := N) (P := P) (H := H) ho hx hy (by omega)
 rwa [show (a : Int) + b = ((a + b : Nat) : Int) by omega] at this
theorem Ev.to {v v' : Value} (h : Ev Γ N P E H o v) (e : v = v') : Ev Γ N P E H o v' := e ▸ h
theorem cutA_some {ad : Addr} {m l sz : Nat} (h : l < m) : cutA (some ad) m l sz = some (ad.add (l * sz)) := by
 unfold cutA
 rw [if_neg (by omega)]
 rfl
theorem Ev.sliceLHMs {u : Operand} {t e sz n c l h m : Nat} {ad : Addr} {k k' k'' : IntKind} (ho : o.op = .slice t x (some y) (some z) (some u)) (hx : E.ev x = some (.slice (some ad) n c)) (hy : E.ev y = some (.int k l)) (hz : E.ev z = some (.int k' h)) (hu : E.ev u = some (.int k'' m)) (ht : P.underlying t = some (.slice e)) (he : (P.info? e).map (·.size) = some sz) (hl : l ≤ h ∧ h ≤ m ∧ m ≤ c ∧ l < m) :
 Ev Γ N P E H o (.slice (some (ad.add (l * sz))) (h - l) (m - l)) := by
 have := Ev.sliceLHMn (Γ := Γ) (N := N) (H := H) ho hx hy hz hu ht he ⟨hl.1, hl.2.1, hl.2.2.1⟩
 rwa [cutA_some hl.2.2.2] at this
theorem Ev.makeFunc1 {f : Nat} {v : Value} (ho : o.op = .makeFunc (.func f) #[] #[x]) (hx : E.ev x = some v) : Ev Γ N P E H o (.func (.func f) #[] #[v]) := .of fun ρ hρ w => by
 simp [execOp, ho, hρ x _ hx, Instr.makeFunc]
theorem Ev.convU {s d : TypeId} {k : IntKind} {n : Int} (ho : o.op = .convert s d x) (hx : E.ev x = some (.int k n)) (hs : (P.underlying s).isSome = true) (hd : P.underlying d = some (.int .u64)) (h : 0 ≤ n ∧ n ≤ 18446744073709551615) : Ev Γ N P E H o (.int .u64 n) := by
 have := Ev.conv (Γ := Γ) (N := N) (H := H) ho hx hs hd
 rwa [IntWalk.u64_in _ h] at this
theorem Ev.convW {s d : TypeId} {k k' : IntKind} {n m : Int} (ho : o.op = .convert s d x) (hx : E.ev x = some (.int k n)) (hs : (P.underlying s).isSome = true) (hd : P.underlying d = some (.int k')) (hw : k'.wrap n = m) : Ev Γ N P E H o (.int k' m) := by
 have := Ev.conv (Γ := Γ) (N := N) (H := H) ho hx hs hd
 rwa [hw] at this
theorem Does.readN {f : FuncId} {fn : Func} {args : Array Operand} {ats : Array TypeId} {vs : List Value} {ι : Type} {res : ι → Value} {Hp : List Chunk} {H' : ι → List Chunk} {φ : ι → Prop}
 (ho : o.op = .call { callee := .value (.func f), args := args, argTypes := ats }) (hf : P.funcs[f]? = some fn) (hname : (fn.name == "runtime.NumGoroutine") = false) (hb : fn.body.isNone = false)
 (hspec : Fn P f vs.toArray Hp ι res H' φ) (hargs : args.toList.mapM E.ev = some vs) (hx : (Hp.all fun C => !C.excl) = true) (hh : AllIn Γ H Hp) (he : ∀ i, (H' i).all (fun C => C.excl) = true) :
 Does Γ N P E H o ι res (fun i => H' i ++ H) φ := by
 refine ⟨fun a w hr hs K Q hK => ?_⟩
 have h1 : ¬ fn.name = "runtime.NumGoroutine" := by simpa using hname
 have h2 : ¬ fn.body = none := by cases hx : fn.body <;> simp_all
 have ha : args.map a.eval = vs.toArray := by
  have := args_ev (fun _ _ h => hr.ev h) _ _ hargs
  rw [← this, ← Array.toList_map]
 have hrun : (execOp a.eval o).run P w = .ok (.enter f vs.toArray) w := by
  unfold execOp
  simp [ho, resolve, Deferred.ofValue, invoke, callFunc, hf, h1, h2, Act.eval, ha]
 have hne : ∀ C ∈ Hp, C.excl = false := fun C hC => by simpa using List.all_eq_true.1 hx C hC
 have hs0 : Sat0 Hp w := ⟨hh.mem hs, List.pairwise_iff_getElem.2 fun i j hi hj _ he => by
  rw [hne _ (List.getElem_mem hi), hne _ (List.getElem_mem hj)] at he
  rcases he with he | he <;> cases he⟩
 unfold Oper.wp
 rw [hrun]
 refine (hspec w hs0).mono ?_
 rintro e w' ⟨i, hi, rfl, hs'⟩
 have hS : ∀ k, ¬ Ctx.S ⟨w, Hp⟩ k := fun k ⟨D, hD, he, _⟩ => by rw [hne D hD] at he; cases he
 have hold : Sat Γ H w' := ⟨hs.upd.trans hs'.upd (fun k _ h => absurd h (hS k)), ⟨fun C hC => C.loc w w' hs'.upd.size (fun k hk => hs'.upd.block k (C.lt w k (hs.sat.1 C hC) hk) (hS k)) (hs.sat.1 C hC), hs.sat.2⟩, hs.fits⟩
 have hnew : ∀ C ∈ H' i, ∀ k, C.foot k → w.heap.size ≤ k := fun C hC k hk => by
  rcases Nat.lt_or_ge k w.heap.size with hlt | hge
  · exact absurd ((hs'.fits C hC k hk hlt).2 (List.all_eq_true.1 (he i) C hC)) (hS k)
  · exact hge
 refine hK i w' hi ⟨hold.upd, sat0_append.2 ⟨hs'.sat, hold.sat, fun C hC D hD _ k hk hk' => ?_⟩, fun C hC => ?_⟩
 · have := hnew C hC k hk
   have := D.lt w k (hs.sat.1 D hD) hk'
   omega
 · rcases List.mem_append.1 hC with hC | hC
   · intro k hk hlt
     have := hnew C hC k hk
     have := hs.upd.size
     omega
   · exact hs.fits C hC
theorem Ent.norm {A : Asrt} (E' : Env) (H' : List Chunk) (hE : E.le E') (hH : H = H') (h : Ent Γ N E' H' A) : Ent Γ N E H A := by
 subst hH
 exact Ent.le hE h
def rblk (g : Nat) (t : TypeId) (cs : List Value) : Chunk where
 holds w := Blk w g t cs.toArray
 foot k := k = g
 excl := false
 lt := fun _ k h e => by subst e; exact h.lt
 loc := fun _ _ _ he h => (he g rfl).trans h
theorem Ev.loadB {t g m u : Nat} {cs : List Value} {v : Value} (i : Nat) (ho : o.op = .load t x) (hx : E.ev x = some (.pointer (some ⟨g, m, none⟩))) (hi : H[i]? = some (rblk g u cs)) (ht : one P t = true) (hv : cs[m]? = some v) : Ev Γ N P E H o v :=
 .loadOf ho hx fun w hs => run_loadVar_one ht (blk_cell (show (blk g u cs).holds w from (hs.mem hi : (rblk g u cs).holds w)) hv)
theorem Ev.loadsB {t g m n u : Nat} {cs vs : List Value} (i : Nat) (ho : o.op = .load t x) (hx : E.ev x = some (.pointer (some ⟨g, m, none⟩))) (hi : H[i]? = some (rblk g u cs)) (ht : agg P t n = true) (hv : rangeOf cs m n = vs) (hn : vs.length = n) : Ev Γ N P E H o (.agg vs.toArray) :=
 .loadOf ho hx fun w hs => run_loadVar_agg ht hn fun j v hj => by
  rw [add_at]
  refine blk_cell (show (blk g u cs).holds w from (hs.mem hi : (rblk g u cs).holds w)) ?_
  rw [← hv, rangeOf, List.getElem?_take] at hj
  split at hj
  · rwa [List.getElem?_drop] at hj
  · cases hj
theorem blkIn {g t : Nat} {cs : List Value} (i : Nat) (hi : H[i]? = some (blk g t cs)) : ∀ w, Sat Γ H w → (rblk g t cs).holds w := fun w hs => (show (blk g t cs).holds w from hs.mem hi)
theorem rblkIn {g t : Nat} {cs : List Value} (i : Nat) (hi : H[i]? = some (rblk g t cs)) : ∀ w, Sat Γ H w → (rblk g t cs).holds w := fun _ hs => hs.mem hi
def txt (l : List UInt8) : ByteArray := ⟨l.toArray⟩
theorem Ev.textOf {s d e : TypeId} {A : Option Addr} {n c : Nat} {l : List UInt8} (ho : o.op = .convert s d x) (hx : E.ev x = some (.slice A n c)) (hr : ReadsIn Γ H 1 A n (u8s l)) (hs : P.underlying s = some (.slice e)) (he : P.underlying e = some (.int .u8)) (hd : P.underlying d = some .string) : Ev Γ N P E H o (.string (txt l)) := ⟨fun a w hrep hsat => by
 have := run_string_of (c := c) hs he hd (hr w hsat)
 simp [execOp, ho, hrep.ev hx, txt, this]⟩
end
section
variable {Γ : Ctx} {N : Frm} {P : Program} {E : Env} {H : List Chunk} {κ : Cont} {ops : Array Oper} {rest : List Oper} {o : Oper}
theorem Ls.qE {v : Value} (d : Tmp) (h : Ev Γ N P E H o v) (k : Ls Γ N P (E.put (some d) v) H ops rest κ) (hw : wantB ops E o = some true := by rfl) (hd : (decide (o.dst = some d) && dstB N (some d)) = true := by rfl) : Ls Γ N P E H ops (o :: rest) κ := Ls.ev (some d) h hw hd k
theorem Ls.qM {x : Operand} {v : Value} (d : Tmp) (k : Ls Γ N P (E.put (some d) v) H ops rest κ) (ho : o.op = .move x := by rfl) (hx : E.ev x = some v := by rfl) (hw : wantB ops E o = some true := by rfl) (hd : (decide (o.dst = some d) && dstB N (some d)) = true := by rfl) : Ls Γ N P E H ops (o :: rest) κ := Ls.ev (some d) (Ev.move ho hx) hw hd k
theorem Ls.qD {ι : Type} {v : ι → Value} {H' : ι → List Chunk} {φ : ι → Prop} (h : Does Γ N P E H o ι v H' φ) (k : ∀ i, φ i → Ls Γ N P (E.put none (v i)) (H' i) ops rest κ) (hw : wantB ops E o = some true := by rfl) (hd : (decide (o.dst = none) && dstB N none) = true := by rfl) : Ls Γ N P E H ops (o :: rest) κ := Ls.does none h hw hd k
theorem Rg.qE {Hs : List Chunk} {T : List Nat} {fuel : Nat} {listed : Array Bool} {v : Value} (i : Nat) (d : Tmp) (hi : ops[i]? = some o) (h : Ev Γ N P E Hs o v) (k : Rg Γ N P (E.put (some d) v) H Hs T ops fuel (listed.setIfInBounds i true) κ) (hsub : ∀ w, Sat Γ H w → Sat Γ Hs w := by exact fun _ h => h) (hw : wantB ops E o = some true := by rfl) (hd : (decide (o.dst = some d) && dstB N (some d)) = true := by rfl)
 (hs : Region.noSelect ops = true := by kernel_rfl) (hf : Region.free .any ops listed i = true := by kernel_rfl) (hr : (Region.ready .any ops listed).contains i = true := by kernel_rfl) (hT : (aheadB .any ops T i && quietB T listed && !T.contains i && closedB .any ops listed) = true := by kernel_rfl) : Rg Γ N P E H Hs T ops (fuel + 1) listed κ := Rg.ev i hi hsub h hw (some d) hd hs hf hr hT k
theorem Rg.qP {Hs : List Chunk} {T : List Nat} {fuel : Nat} {listed : Array Bool} (i : Nat) (d : Tmp) (k : Rg Γ N P (E.put (some d) undef) H Hs T ops fuel (listed.setIfInBounds i true) κ) (hi : ops[i]? = some o := by rfl) (hsub : ∀ w, Sat Γ H w → Sat Γ Hs w := by exact fun _ h => h) (hw : wantB ops E o = some false := by rfl) (hd : (decide (o.dst = some d) && dstB N (some d)) = true := by rfl)
 (hs : Region.noSelect ops = true := by kernel_rfl) (hf : Region.free .any ops listed i = true := by kernel_rfl) (hr : (Region.ready .any ops listed).contains i = true := by kernel_rfl) (hT : (aheadB .any ops T i && quietB T listed && !T.contains i && closedB .any ops listed) = true := by kernel_rfl) : Rg Γ N P E H Hs T ops (fuel + 1) listed κ := Rg.pass i hi hsub hw (some d) hd hs hf hr hT k
end
structure St (l : List Nat) (A B : Prop) : Prop where
 run : B → A
section
variable {Γ : Ctx} {N : Frm} {P : Program} {E : Env} {H : List Chunk} {κ : Cont} {ops : Array Oper} {rest : List Oper} {o : Oper} {l : List Nat} {B : Prop} {d : Tmp} {x y z : Operand} {v : Value}
theorem hd_ (h : o.dst = some d) (hn : dstB N (some d) = true) : (decide (o.dst = some d) && dstB N (some d)) = true := by rw [hn, Bool.and_true, decide_eq_true_eq]; exact h
theorem St.z_ {A : Prop} : St [] A A := ⟨fun b => b⟩
theorem St.ev_ {c : Nat} (h : Ev Γ N P E H o v) (hw : wantB ops E o = some true) (hd : o.dst = some d) (hn : dstB N (some d) = true) (k : St l (Ls Γ N P (E.put (some d) v) H ops rest κ) B) : St (c :: l) (Ls Γ N P E H ops (o :: rest) κ) B := ⟨fun b => Ls.ev (some d) h hw (hd_ hd hn) (k.run b)⟩
theorem St.m_ (ho : o.op = .move x) (hx : E.ev x = some v) (hw : wantB ops E o = some true) (hd : o.dst = some d) (hn : dstB N (some d) = true) (k : St l (Ls Γ N P (E.put (some d) v) H ops rest κ) B) : St (0 :: l) (Ls Γ N P E H ops (o :: rest) κ) B := ⟨(St.ev_ (c := 0) (Ev.move ho hx) hw hd hn k).run⟩
theorem St.p_ (hw : wantB ops E o = some false) (hd : o.dst = some d) (hn : dstB N (some d) = true) (k : St l (Ls Γ N P (E.put (some d) undef) H ops rest κ) B) : St (1 :: l) (Ls Γ N P E H ops (o :: rest) κ) B := ⟨fun b => Ls.pass (some d) hw (hd_ hd hn) (k.run b)⟩
theorem St.n_ (k : St l (Ent Γ N E H κ.normal) B) : St (2 :: l) (Ls Γ N P E H ops [] κ) B := ⟨fun b => Ls.nil (k.run b)⟩
theorem St.s_ {x y : Code} (k : St l (Cd Γ N P E H x { κ with normal := fun a w => y.wpIn N.fence 0 P κ.toQ a w }) B) : St (3 :: l) (Cd Γ N P E H (.seq x y) κ) B := ⟨fun b => Cd.seq (k.run b)⟩
theorem St.r_ {id : Nat} {L : List Oper} (hc : L.all calmOp = true) (k : St l (Ls Γ N P E H L.toArray L κ) B) : St (4 :: l) (Cd Γ N P E H (.region id L.toArray false) κ) B := ⟨fun b => Cd.region (k.run b) hc⟩
theorem St.a_ (ho : o.op = .assign x) (hx : E.ev x = some v) (hw : wantB ops E o = some true) (hd : o.dst = some d) (hn : dstB N (some d) = true) (k : St l (Ls Γ N P (E.put (some d) v) H ops rest κ) B) : St (5 :: l) (Ls Γ N P E H ops (o :: rest) κ) B := ⟨(St.ev_ (c := 0) (Ev.assign ho hx) hw hd hn k).run⟩
theorem St.k_ (k : St l (Ent Γ N E H κ.normal) B) : St (6 :: l) (Cd Γ N P E H .skip κ) B := ⟨fun b => Cd.skip (k.run b)⟩
theorem St.f_ {s f m j g i : Nat} (ho : o.op = .fieldAddr s x f) (hx : E.ev x = some (.pointer (some ⟨g, m, none⟩))) (hf : fieldOff P s f = some i) (hj : m + i = j) (hw : wantB ops E o = some true) (hd : o.dst = some d) (hn : dstB N (some d) = true) (k : St l (Ls Γ N P (E.put (some d) (.pointer (some ⟨g, j, none⟩))) H ops rest κ) B) : St (7 :: i :: l) (Ls Γ N P E H ops (o :: rest) κ) B := ⟨(St.ev_ (c := 0) (Ev.fieldAddr ho hx hf hj) hw hd hn k).run⟩
theorem St.l_ {t g m u i : Nat} {cs : List Value} (ho : o.op = .load t x) (hx : E.ev x = some (.pointer (some ⟨g, m, none⟩))) (hi : H[i]? = some (blk g u cs)) (ht : one P t = true) (hv : cs[m]? = some v) (hw : wantB ops E o = some true) (hd : o.dst = some d) (hn : dstB N (some d) = true) (k : St l (Ls Γ N P (E.put (some d) v) H ops rest κ) B) : St (8 :: i :: l) (Ls Γ N P E H ops (o :: rest) κ) B := ⟨(St.ev_ (c := 0) (Ev.load i ho hx hi ht hv) hw hd hn k).run⟩
theorem St.t_ (ho : o.op = .pick x y z) (hx : E.ev x = some (.bool true)) (hy : E.ev y = some v) (hw : wantB ops E o = some true) (hd : o.dst = some d) (hn : dstB N (some d) = true) (k : St l (Ls Γ N P (E.put (some d) v) H ops rest κ) B) : St (9 :: l) (Ls Γ N P E H ops (o :: rest) κ) B := ⟨(St.ev_ (c := 0) (Ev.pickT ho hx hy) hw hd hn k).run⟩
theorem St.e_ (ho : o.op = .pick x y z) (hx : E.ev x = some (.bool false)) (hz : E.ev z = some v) (hw : wantB ops E o = some true) (hd : o.dst = some d) (hn : dstB N (some d) = true) (k : St l (Ls Γ N P (E.put (some d) v) H ops rest κ) B) : St (10 :: l) (Ls Γ N P E H ops (o :: rest) κ) B := ⟨(St.ev_ (c := 0) (Ev.pickF ho hx hz) hw hd hn k).run⟩
theorem St.x_ {i : Nat} {vs : Array Value} (ho : o.op = .extract x i) (hx : E.ev x = some (.tuple vs)) (hv : vs[i]? = some v) (hw : wantB ops E o = some true) (hd : o.dst = some d) (hn : dstB N (some d) = true) (k : St l (Ls Γ N P (E.put (some d) v) H ops rest κ) B) : St (11 :: l) (Ls Γ N P E H ops (o :: rest) κ) B := ⟨(St.ev_ (c := 0) (Ev.extract ho hx hv) hw hd hn k).run⟩
theorem St.g_ {t g m n u i : Nat} {cs vs : List Value} (ho : o.op = .load t x) (hx : E.ev x = some (.pointer (some ⟨g, m, none⟩))) (hi : H[i]? = some (blk g u cs)) (ht : agg P t n = true) (hv : rangeOf cs m n = vs) (hl : vs.length = n) (hw : wantB ops E o = some true) (hd : o.dst = some d) (hn : dstB N (some d) = true) (k : St l (Ls Γ N P (E.put (some d) (.agg vs.toArray)) H ops rest κ) B) : St (12 :: i :: n :: l) (Ls Γ N P E H ops (o :: rest) κ) B := ⟨(St.ev_ (c := 0) (Ev.loads i ho hx hi ht hv hl) hw hd hn k).run⟩
theorem St.q_ {t g m u i : Nat} {cs : List Value} (ho : o.op = .load t x) (hx : E.ev x = some (.pointer (some ⟨g, m, none⟩))) (hi : H[i]? = some (rblk g u cs)) (ht : one P t = true) (hv : cs[m]? = some v) (hw : wantB ops E o = some true) (hd : o.dst = some d) (hn : dstB N (some d) = true) (k : St l (Ls Γ N P (E.put (some d) v) H ops rest κ) B) : St (13 :: i :: l) (Ls Γ N P E H ops (o :: rest) κ) B := ⟨(St.ev_ (c := 0) (Ev.loadB i ho hx hi ht hv) hw hd hn k).run⟩
theorem St.c_ {ad : Addr} (ho : o.op = .nilCheck x) (hx : E.ev x = some (.pointer (some ad))) (hw : wantB ops E o = some true) (hd : o.dst = some d) (hn : dstB N (some d) = true) (k : St l (Ls Γ N P (E.put (some d) (.pointer (some ad))) H ops rest κ) B) : St (14 :: l) (Ls Γ N P E H ops (o :: rest) κ) B := ⟨(St.ev_ (c := 0) (Ev.nilCheck ho hx) hw hd hn k).run⟩
theorem St.w_ {t g m u i : Nat} {cs cs' : List Value} (ho : o.op = .store t x y) (hx : E.ev x = some (.pointer (some ⟨g, m, none⟩))) (hy : E.ev y = some v) (hi : H[i]? = some (blk g u cs)) (hsz : (P.info? t).map (·.size) = some v.cells.size) (h1 : v.cells.toList.all (·.oneCell') = true) (hm : decide (m + v.cells.size ≤ cs.length) = true) (hcs : setR cs m v.cells.toList = cs') (hw : wantB ops E o = some true) (hd : o.dst = none) (k : St l (Ls Γ N P E (H.set i (blk g u cs')) ops rest κ) B) : St (15 :: i :: l) (Ls Γ N P E H ops (o :: rest) κ) B := ⟨fun b =>
 Ls.does none (Does.store i ho hx hy hi hsz h1 hm hcs) hw (by rw [hd]; rfl) (fun _ _ => k.run b)⟩
theorem St.lt_ {t t' : TypeId} {kk : IntKind} {a b : Int} (ho : o.op = .binOp .lss t x y t') (hx : E.ev x = some (.int kk a)) (hy : E.ev y = some (.int kk b)) (hw : wantB ops E o = some true) (hd : o.dst = some d) (hn : dstB N (some d) = true) (k : St l (Ls Γ N P (E.put (some d) (.bool (decide (a < b)))) H ops rest κ) B) : St (16 :: l) (Ls Γ N P E H ops (o :: rest) κ) B := ⟨(St.ev_ (c := 0) (Ev.lss ho hx hy) hw hd hn k).run⟩
theorem St.ne_ {t t' : TypeId} {kk : IntKind} {a b : Int} (ho : o.op = .binOp .neq t x y t') (hx : E.ev x = some (.int kk a)) (hy : E.ev y = some (.int kk b)) (hw : wantB ops E o = some true) (hd : o.dst = some d) (hn : dstB N (some d) = true) (k : St l (Ls Γ N P (E.put (some d) (.bool (decide (a ≠ b)))) H ops rest κ) B) : St (17 :: l) (Ls Γ N P E H ops (o :: rest) κ) B := ⟨(St.ev_ (c := 0) (Ev.neq ho hx hy) hw hd hn k).run⟩
theorem St.gt_ {t t' : TypeId} {kk : IntKind} {a b : Int} (ho : o.op = .binOp .gtr t x y t') (hx : E.ev x = some (.int kk a)) (hy : E.ev y = some (.int kk b)) (hw : wantB ops E o = some true) (hd : o.dst = some d) (hn : dstB N (some d) = true) (k : St l (Ls Γ N P (E.put (some d) (.bool (decide (b < a)))) H ops rest κ) B) : St (18 :: l) (Ls Γ N P E H ops (o :: rest) κ) B := ⟨(St.ev_ (c := 0) (Ev.gtr ho hx hy) hw hd hn k).run⟩
theorem St.eq_ {t t' : TypeId} {kk : IntKind} {a b : Int} (ho : o.op = .binOp .eql t x y t') (hx : E.ev x = some (.int kk a)) (hy : E.ev y = some (.int kk b)) (hw : wantB ops E o = some true) (hd : o.dst = some d) (hn : dstB N (some d) = true) (k : St l (Ls Γ N P (E.put (some d) (.bool (decide (a = b)))) H ops rest κ) B) : St (19 :: l) (Ls Γ N P E H ops (o :: rest) κ) B := ⟨(St.ev_ (c := 0) (Ev.eql ho hx hy) hw hd hn k).run⟩
theorem St.no_ {t : TypeId} {b : Bool} (ho : o.op = .unOp .not t x) (hx : E.ev x = some (.bool b)) (hw : wantB ops E o = some true) (hd : o.dst = some d) (hn : dstB N (some d) = true) (k : St l (Ls Γ N P (E.put (some d) (.bool !b)) H ops rest κ) B) : St (20 :: l) (Ls Γ N P E H ops (o :: rest) κ) B := ⟨(St.ev_ (c := 0) (Ev.not ho hx) hw hd hn k).run⟩
theorem St.b_ {id : Nat} {c : Code} (k : St l (Cd Γ N P E H c { κ with exits := fun i => bif i == id then κ.normal else κ.exits i }) B) : St (21 :: l) (Cd Γ N P E H (.block id c) κ) B := ⟨fun b => Cd.block (k.run b)⟩
theorem St.j_ (k : St l (Ent Γ N E H κ.ret) B) : St (22 :: l) (Cd Γ N P E H .ret κ) B := ⟨fun b => Cd.ret (k.run b)⟩
theorem St.ct_ {c : Operand} {x y : Code} (hc : E.ev c = some (.bool true)) (k : St l (Cd Γ N P E H x κ) B) : St (23 :: l) (Cd Γ N P E H (.cond c x y) κ) B := ⟨fun b => Cd.cond_true hc rfl (k.run b)⟩
theorem St.cf_ {c : Operand} {x y : Code} (hc : E.ev c = some (.bool false)) (k : St l (Cd Γ N P E H y κ) B) : St (24 :: l) (Cd Γ N P E H (.cond c x y) κ) B := ⟨fun b => Cd.cond_false hc rfl (k.run b)⟩
theorem St.nsr_ {c : Code} {id : Nat} {L : List Oper} {a : Cont} (hk : κ.normal = fun a' w => (Code.seq (.region id L.toArray false) c).wpIn N.fence 0 P a.toQ a' w) (hc : L.all calmOp = true) (k : St l (Ls Γ N P E H L.toArray L { a with normal := fun a' w => c.wpIn N.fence 0 P a.toQ a' w }) B) : St (25 :: l) (Ls Γ N P E H ops [] κ) B := ⟨fun b => Ls.nil (by
 rw [hk]
 exact Cd.seq (Cd.region (k.run b) hc))⟩
section
variable {Hs : List Chunk} {T : List Nat} {fuel : Nat} {listed : Array Bool}
theorem St.rg_ {c : Nat} (i : Nat) (h : Ev Γ N P E H o v) (hi : ops[i]? = some o) (hw : wantB ops E o = some true) (hd : o.dst = some d) (hn : dstB N (some d) = true) (hs : Region.noSelect ops = true) (hf : Region.free .any ops listed i = true) (hr : (Region.ready .any ops listed).contains i = true) (hT : (aheadB .any ops T i && quietB T listed && !T.contains i && closedB .any ops listed) = true)
 (k : St l (Rg Γ N P (E.put (some d) v) H H T ops fuel (listed.setIfInBounds i true) κ) B) : St (c :: i :: l) (Rg Γ N P E H H T ops (fuel + 1) listed κ) B := ⟨fun b => Rg.ev i hi (fun _ h => h) h hw (some d) (hd_ hd hn) hs hf hr hT (k.run b)⟩
theorem St.rm_ {i : Nat} (hi : ops[i]? = some o) (ho : o.op = .move x) (hx : E.ev x = some v) (hw : wantB ops E o = some true) (hd : o.dst = some d) (hn : dstB N (some d) = true) (hs : Region.noSelect ops = true) (hf : Region.free .any ops listed i = true) (hr : (Region.ready .any ops listed).contains i = true) (hT : (aheadB .any ops T i && quietB T listed && !T.contains i && closedB .any ops listed) = true)
 (k : St l (Rg Γ N P (E.put (some d) v) H H T ops fuel (listed.setIfInBounds i true) κ) B) : St (30 :: i :: l) (Rg Γ N P E H H T ops (fuel + 1) listed κ) B := St.rg_ i (Ev.move ho hx) hi hw hd hn hs hf hr hT k
theorem St.rp_ {i : Nat} (hi : ops[i]? = some o) (hw : wantB ops E o = some false) (hd : o.dst = some d) (hn : dstB N (some d) = true) (hs : Region.noSelect ops = true) (hf : Region.free .any ops listed i = true) (hr : (Region.ready .any ops listed).contains i = true) (hT : (aheadB .any ops T i && quietB T listed && !T.contains i && closedB .any ops listed) = true)
 (k : St l (Rg Γ N P (E.put (some d) undef) H H T ops fuel (listed.setIfInBounds i true) κ) B) : St (31 :: i :: l) (Rg Γ N P E H H T ops (fuel + 1) listed κ) B := ⟨fun b => Rg.pass i hi (fun _ h => h) hw (some d) (hd_ hd hn) hs hf hr hT (k.run b)⟩
theorem St.rf_ {i s f m j g q : Nat} (hi : ops[i]? = some o) (ho : o.op = .fieldAddr s x f) (hx : E.ev x = some (.pointer (some ⟨g, m, none⟩))) (hq : fieldOff P s f = some q) (hj : m + q = j) (hw : wantB ops E o = some true) (hd : o.dst = some d) (hn : dstB N (some d) = true) (hs : Region.noSelect ops = true) (hf : Region.free .any ops listed i = true) (hr : (Region.ready .any ops listed).contains i = true) (hT : (aheadB .any ops T i && quietB T listed && !T.contains i && closedB .any ops listed) = true)
 (k : St l (Rg Γ N P (E.put (some d) (.pointer (some ⟨g, j, none⟩))) H H T ops fuel (listed.setIfInBounds i true) κ) B) : St (32 :: i :: q :: l) (Rg Γ N P E H H T ops (fuel + 1) listed κ) B := ⟨fun b => (St.rg_ (c := 0) i (Ev.fieldAddr ho hx hq hj) hi hw hd hn hs hf hr hT k).run b⟩
theorem St.rl_ {i t g m u q : Nat} {cs : List Value} (hi : ops[i]? = some o) (ho : o.op = .load t x) (hx : E.ev x = some (.pointer (some ⟨g, m, none⟩))) (hq : H[q]? = some (blk g u cs)) (ht : one P t = true) (hv : cs[m]? = some v) (hw : wantB ops E o = some true) (hd : o.dst = some d) (hn : dstB N (some d) = true) (hs : Region.noSelect ops = true) (hf : Region.free .any ops listed i = true) (hr : (Region.ready .any ops listed).contains i = true) (hT : (aheadB .any ops T i && quietB T listed && !T.contains i && closedB .any ops listed) = true)
 (k : St l (Rg Γ N P (E.put (some d) v) H H T ops fuel (listed.setIfInBounds i true) κ) B) : St (33 :: i :: q :: l) (Rg Γ N P E H H T ops (fuel + 1) listed κ) B := ⟨fun b => (St.rg_ (c := 0) i (Ev.load q ho hx hq ht hv) hi hw hd hn hs hf hr hT k).run b⟩
end
theorem go {A B : Prop} (l : List Nat) (b : B) (h : St l A B := by repeat (first
 | exact St.z_
 | (refine' St.m_ rfl (by rfl) (by rfl) (by rfl) (by rfl) ?_; rotate_left)
 | (refine' St.p_ (by rfl) (by rfl) (by rfl) ?_; rotate_left)
 | (refine' St.nsr_ (by rfl) (by rfl) ?_; rotate_left)
 | (refine' St.n_ ?_; rotate_left)
 | (refine' St.s_ ?_; rotate_left)
 | (refine' St.r_ (by rfl) ?_; rotate_left)
 | (refine' St.a_ rfl (by rfl) (by rfl) (by rfl) (by rfl) ?_; rotate_left)
 | (refine' St.f_ rfl (by rfl) (by kernel_rfl) (by rfl) (by rfl) (by rfl) (by rfl) ?_; rotate_left)
 | (refine' St.l_ rfl (by rfl) (by rfl) (by kernel_rfl) (by rfl) (by rfl) (by rfl) (by rfl) ?_; rotate_left)
 | (refine' St.t_ rfl (by rfl) (by rfl) (by rfl) (by rfl) (by rfl) ?_; rotate_left)
 | (refine' St.e_ rfl (by rfl) (by rfl) (by rfl) (by rfl) (by rfl) ?_; rotate_left)
 | (refine' St.x_ rfl (by rfl) (by rfl) (by rfl) (by rfl) (by rfl) ?_; rotate_left)
 | (refine' St.g_ rfl (by rfl) (by rfl) (by kernel_rfl) (by rfl) (by rfl) (by rfl) (by rfl) (by rfl) ?_; rotate_left)
 | (refine' St.q_ rfl (by rfl) (by rfl) (by kernel_rfl) (by rfl) (by rfl) (by rfl) (by rfl) ?_; rotate_left)
 | (refine' St.c_ rfl (by rfl) (by rfl) (by rfl) (by rfl) ?_; rotate_left)
 | (refine' St.w_ rfl (by rfl) (by rfl) (by rfl) (by kernel_rfl) (by rfl) (by kernel_rfl) (by rfl) (by rfl) (by rfl) ?_; rotate_left)
 | (refine' St.lt_ rfl (by rfl) (by rfl) (by rfl) (by rfl) (by rfl) ?_; rotate_left)
 | (refine' St.ne_ rfl (by rfl) (by rfl) (by rfl) (by rfl) (by rfl) ?_; rotate_left)
 | (refine' St.gt_ rfl (by rfl) (by rfl) (by rfl) (by rfl) (by rfl) ?_; rotate_left)
 | (refine' St.eq_ rfl (by rfl) (by rfl) (by rfl) (by rfl) (by rfl) ?_; rotate_left)
 | (refine' St.no_ rfl (by rfl) (by rfl) (by rfl) (by rfl) ?_; rotate_left)
 | (refine' St.k_ ?_; rotate_left)
 | (refine' St.b_ ?_; rotate_left)
 | (refine' St.j_ ?_; rotate_left)
 | (refine' St.ct_ (by rfl) ?_; rotate_left)
 | (refine' St.cf_ (by rfl) ?_; rotate_left)
 | (refine' St.rm_ (by rfl) rfl (by rfl) (by rfl) (by rfl) (by rfl) (by kernel_rfl) (by kernel_rfl) (by kernel_rfl) (by kernel_rfl) ?_; rotate_left)
 | (refine' St.rp_ (by rfl) (by rfl) (by rfl) (by rfl) (by kernel_rfl) (by kernel_rfl) (by kernel_rfl) (by kernel_rfl) ?_; rotate_left)
 | (refine' St.rf_ (by rfl) rfl (by rfl) (by kernel_rfl) (by rfl) (by rfl) (by rfl) (by rfl) (by kernel_rfl) (by kernel_rfl) (by kernel_rfl) (by kernel_rfl) ?_; rotate_left)
 | (refine' St.rl_ (by rfl) rfl (by rfl) (by rfl) (by kernel_rfl) (by rfl) (by rfl) (by rfl) (by rfl) (by kernel_rfl) (by kernel_rfl) (by kernel_rfl) (by kernel_rfl) ?_; rotate_left))) : A := h.run b
abbrev ptrW (g : Nat) : Value := .pointer (some ⟨g, 0, none⟩)
theorem lenS : (∀ {α : Type} (a b : List α), (a ++ b).length = a.length + b.length) ∧ (∀ {α : Type} (a : α) (b : List α), (a :: b).length = b.length + 1) ∧ (∀ {α : Type}, ([] : List α).length = 0) := ⟨fun _ _ => List.length_append, fun _ _ => rfl, rfl⟩
theorem rT_ {fn : Func} {t : Tmp} (h : fn.results = #[.tmp t] := by rfl) (hv : E.get t = some v := by rfl) : Res Γ N P fn E H v := Res.tmp h hv
theorem Ent.iA {ι : Type} {Es : ι → Env} {Hs : ι → List Chunk} {φ : ι → Prop} (j : ι) (hj : φ j) (hE : E.le (Es j) := by repeat (first | exact trivial | refine ⟨by rfl, ?_⟩ | refine ⟨by simp only [List.length_append, List.length_cons, List.length_nil]; rfl, ?_⟩ | refine ⟨by push_cast; rfl, ?_⟩)) (hH : H = Hs j := by rfl) : Ent Γ N E H (InvA Γ N Es Hs φ) := Ent.inv j hj hE hH
theorem Ent.rA {fn : Func} {ι : Type} {res : ι → Value} {H' : ι → List Chunk} {φ : ι → Prop} (i : ι) (is : List Nat) (hi : φ i) (hv : Res Γ N P fn E H v) (hres : v = res i := by rfl) (hs : selB (H.map (·.excl)) is = true := by rfl) (hH : picks H is = H' i := by rfl) (hd : N.ds = [] := by rfl) :
 Ent Γ N E H (bodyPost P fn (fun e w' => ∃ i, φ i ∧ e = .returned (res i) ∧ Sat Γ (H' i) w') .ret) := Ent.ret i hi hv hres is hs hH hd
end
theorem wf64 {x : Int} (h : -9223372036854775808 ≤ x ∧ x ≤ 9223372036854775807) : (Lit.int .i64 x).wf = true := by
 have h1 : IntKind.i64.min = -9223372036854775808 := by decide
 have h2 : IntKind.i64.max = 9223372036854775807 := by decide
 simp only [Lit.wf, h1, h2, Bool.and_eq_true, decide_eq_true_eq]
 exact h
def mapc (P : Program) (k : TypeId) (b n : Nat) (z : Value) (f : Int → Value) : Chunk where
 holds w := ∃ m, m ≤ n ∧ MapI w P k b m z f
 foot i := i = b
 excl := true
 lt := fun _ i ⟨_, _, h⟩ e => by subst e; exact h.lt
 loc := fun _ _ _ he ⟨m, hm, h⟩ => ⟨m, hm, h.block (he b rfl)⟩
section
variable {Γ : Ctx} {N : Frm} {P : Program} {E : Env} {H : List Chunk} {o : Oper} {x y u : Operand}
theorem Ev.look {t k e b n : Nat} {z : Value} {f : Int → Value} {q : Int} (i : Nat) (ho : o.op = .lookup t x y false) (hx : E.ev x = some (.map (some b))) (hy : E.ev y = some (.int .i64 q)) (hi : H[i]? = some (mapc P k b n z f)) (hk : P.underlying k = some (.int .i64)) (ht : P.underlying t = some (.map k e)) (hz : ∀ w, (zeroValue e).run P w = .ok z w) (hq : -9223372036854775808 ≤ q ∧ q ≤ 9223372036854775807) : Ev Γ N P E H o (f q) := ⟨fun a w hr hs => by
 obtain ⟨m, _, h⟩ := hs.mem hi
 have := h.look hk ht hz (wf64 hq)
 simp [execOp, ho, hr.ev hx, hr.ev hy, this]⟩
theorem zero_of {e : Nat} {z : Value} (h : (P.info? e).bind (·.zero) = some z) : ∀ w, (zeroValue e).run P w = .ok z w := fun w => by
 obtain ⟨i, hi, hz⟩ := Option.bind_eq_some_iff.1 h
 simp [zeroValue, typeInfo, hi, hz]
theorem Does.mapNew {t : Nat} (k : Nat) (z : Value) (ho : o.op = .makeMap t none) : Does Γ N P E H o Nat (fun b => .map (some b)) (fun b => mapc P k b 0 z (fun _ => z) :: H) (fun _ => True) := .of fun ρ hρ w hs => by
 have hlt : ∀ C ∈ H, ∀ k, C.foot k → k < w.heap.size := fun C hC k hk => C.lt w k (hs.sat.1 C hC) hk
 refine ⟨w.heap.size, w.alloc (.map #[] 0), trivial, ⟨hs.upd.alloc _, ⟨fun C hC => ?_, List.Pairwise.cons (fun D hD _ k hk hf => ?_) hs.sat.2⟩, fun C hC => ?_⟩, .inl ?_⟩
 · rcases List.mem_cons.1 hC with rfl | hC
   · exact ⟨0, Nat.le_refl _, MapI.made w P k z⟩
   · exact C.loc w _ (by simp) (fun k hk => Below.heap_alloc w _ k (hlt C hC k hk)) (hs.sat.1 C hC)
 · have := hlt D hD k hf
   obtain rfl : k = w.heap.size := hk
   omega
 · rcases List.mem_cons.1 hC with rfl | hC
   · intro k hk hk'
     obtain rfl : k = w.heap.size := hk
     exact absurd hs.upd.size (by omega)
   · exact hs.fits C hC
 · simp [execOp, ho, Instr.makeMap]
theorem Sat.free {C : Chunk} {w : World} (hx : C.excl = false) (hf : ∀ k, ¬ C.foot k) (hh : C.holds w) (h : Sat Γ H w) : Sat Γ (C :: H) w :=
 ⟨h.upd, ⟨fun D hD => by
  rcases List.mem_cons.1 hD with rfl | hD
  · exact hh
  · exact h.sat.1 D hD, List.Pairwise.cons (fun D _ _ k hk => absurd hk (hf k)) h.sat.2⟩, fun D hD => by
  rcases List.mem_cons.1 hD with rfl | hD
  · exact fun k hk => absurd hk (hf k)
  · exact h.fits D hD⟩
end
section
variable {Γ : Ctx} {N : Frm} {P : Program} {E : Env} {H : List Chunk} {o : Oper} {x y : Operand}
theorem Ev.ptrSome {t t' : TypeId} {a : Addr} {e : TypeId} (ho : o.op = .binOp .neq t x y t') (hx : E.ev x = some (.pointer (some a))) (hy : E.ev y = some (.pointer none)) (ht : P.underlying t = some (.pointer e)) : Ev Γ N P E H o (.bool true) :=
 .bin ho hx hy (fun _ => rfl) (fun w => by
  have : (Op.equal t (.pointer (some a)) (.pointer none)).run P w = .ok false w := by
   show (Op.equalIn (9999 + 1) t _ _).run P w = _
   unfold Op.equalIn
   simp [run_underlying ht]
  simp [binOp, this])
end
end Go.Proofs.YtacbkganjkipdaaGreatDoor
