/-
  Slots by number, and the rules of a walk over pieces of memory.
-/
import Derived.Test.YtgidkjfakecniaaSlA
import Derived.Great.BuildSlice
namespace Go.Proofs.Ytgidkjfakecniaa
open Go.RowKit

/-- The slots that are known. -/
abbrev Env := List (Nat × Value)
def Env.get : Env → Nat → Option Value
  | [], _ => none
  | (k, v) :: r, t => bif k == t then some v else Env.get r t
def Env.ev (E : Env) : Operand → Option Value
  | .tmp t => E.get t
  | .const v => some v
  | .global g => some (.pointer (some ⟨g, 0, none⟩))
  | .func f => some (.func (.func f) #[] #[])
def Env.put (E : Env) (dst : Option Tmp) (v : Value) : Env :=
  match dst with
  | some d => (d, v) :: E
  | none => E
/-- Only these slots. -/
def Env.only (E : Env) : List Nat → Env
  | [] => []
  | t :: r => match E.get t with
    | some v => (t, v) :: Env.only E r
    | none => Env.only E r

structure Rep (N : Nat) (E : Env) (a : Act) : Prop where
  size : a.tmps.size = N
  defers : a.defers = []
  get : ∀ t v, E.get t = some v → a.tmps[t]? = some v

theorem Rep.ev {N : Nat} {E : Env} {a : Act} (h : Rep N E a) {x : Operand} {v : Value} (hx : E.ev x = some v) : a.eval x = v := by
  cases x with
  | tmp t =>
    have := h.get t v hx
    simp [Act.eval, this]
  | const c => simpa [Env.ev, Act.eval] using hx
  | global g => simpa [Env.ev, Act.eval] using hx
  | func f => simpa [Env.ev, Act.eval] using hx

def dstB (N : Nat) : Option Tmp → Bool
  | some d => decide (d < N)
  | none => true
theorem Rep.put {N : Nat} {E : Env} {a : Act} (h : Rep N E a) {dst : Option Tmp} (hd : dstB N dst = true) (v : Value) : Rep N (E.put dst v) (a.put dst v) := by
  cases dst with
  | none => exact h
  | some d =>
    have hd : d < N := of_decide_eq_true hd
    refine ⟨by simp [Act.put, h.size], by simp [Act.put, h.defers], fun t u ht => ?_⟩
    simp only [Env.put, Env.get] at ht
    simp only [Act.put, Array.getElem?_setIfInBounds]
    by_cases e : d = t
    · subst e
      simp at ht
      subst ht
      simp [h.size, hd]
    · have e' : (d == t) = false := by simpa using e
      rw [e'] at ht
      rw [if_neg e]
      exact h.get t u ht
/-- E knows at least what E' says. -/
def Env.le (E : Env) : Env → Prop
  | [] => True
  | (t, v) :: r => E.get t = some v ∧ Env.le E r
theorem Env.le_get {E : Env} : ∀ {E' : Env}, E.le E' → ∀ t v, E'.get t = some v → E.get t = some v
  | [], _, t, v, h => by simp [Env.get] at h
  | (k, u) :: r, hle, t, v, h => by
    simp only [Env.get] at h
    by_cases e : k = t
    · subst e
      simp at h
      subst h
      exact hle.1
    · have e' : (k == t) = false := by simpa using e
      rw [e'] at h
      exact Env.le_get hle.2 t v h
theorem Rep.le {N : Nat} {E E' : Env} {a : Act} (h : Rep N E a) (hle : E.le E') : Rep N E' a := ⟨h.size, h.defers, fun t v ht => h.get t v (Env.le_get hle t v ht)⟩
theorem Env.only_get {E : Env} : ∀ (l : List Nat) (t : Nat) (v : Value), (E.only l).get t = some v → E.get t = some v
  | [], t, v, h => by simp [Env.only, Env.get] at h
  | k :: r, t, v, h => by
    unfold Env.only at h
    split at h
    · rename_i u hu
      simp only [Env.get] at h
      by_cases e : k = t
      · subst e
        simp at h
        subst h
        exact hu
      · have e' : (k == t) = false := by simpa using e
        rw [e'] at h
        exact Env.only_get r t v h
    · exact Env.only_get r t v h

abbrev Asrt := Act → World → Prop
/-- From these slots and pieces on, A. -/
def Ent (Γ : Ctx) (N : Nat) (E : Env) (H : List Chunk) (A : Asrt) : Prop := ∀ a w, Rep N E a → Sat Γ H w → A a w

/-- What follows. -/
structure Cont where
  normal : Asrt
  exits : Nat → Asrt
  ret : Asrt
def Cont.toQ (κ : Cont) : Exit → Act → World → Prop
  | .normal => κ.normal
  | .exit id => κ.exits id
  | .ret => κ.ret
  | .goto _ => fun _ _ => False
  | .panic _ => fun _ _ => False
  | .outgrown => fun _ _ => False

section
variable {Γ : Ctx} {N : Nat} {P : Program} {E : Env} {H : List Chunk} {κ : Cont} {ops : Array Oper} {rest : List Oper} {o : Oper}

theorem Ent.mono {A B : Asrt} (h : Ent Γ N E H A) (hab : ∀ a w, A a w → B a w) : Ent Γ N E H B := fun a w hr hs => hab _ _ (h a w hr hs)
theorem Ent.only {A : Asrt} (l : List Nat) (h : Ent Γ N (E.only l) H A) : Ent Γ N E H A :=
  fun a w hr hs => h a w ⟨hr.size, hr.defers, fun t v ht => hr.get t v (Env.only_get l t v ht)⟩ hs
theorem Ent.pick {A : Asrt} (is : List Nat) (hs : selB (H.map (·.excl)) is = true) (h : Ent Γ N E (picks H is) A) : Ent Γ N E H A :=
  fun a w hr hs' => h a w hr (hs'.pick is hs)
theorem Ent.le {A : Asrt} {E' : Env} (hle : E.le E') (h : Ent Γ N E' H A) : Ent Γ N E H A := fun a w hr hs => h a w (hr.le hle) hs
theorem Ent.see {A : Asrt} (i : Nat) {B : Option Addr} {n c e size : Nat} {xs : List Value} (hi : H[i]? = some (row B n c e size xs)) (h : Ent Γ N E (H.set i (rd B n size xs)) A) : Ent Γ N E H A :=
  fun a w hr hs => h a w hr (hs.see hi rfl row_rd.1 row_rd.2)
/-- A fact that a piece holds. -/
theorem Ent.fact {A : Asrt} (i : Nat) {C : Chunk} (hi : H[i]? = some C) {p : Prop} (hp : ∀ w, C.holds w → p) (h : p → Ent Γ N E H A) : Ent Γ N E H A :=
  fun a w hr hs => h (hp w (hs.mem hi)) a w hr hs

/-! ### Code -/
theorem Oper.wp_monoQ {P : Program} {o : Oper} {a : Act} {w : World} {K K' : Asrt} {Q Q' : Exit → Act → World → Prop} (hK : ∀ a w, K a w → K' a w) (hQ : ∀ e a w, Q e a w → Q' e a w) (h : o.wp P a w K Q) : o.wp P a w K' Q' := by
  unfold Oper.wp at *
  generalize (execOp a.eval o).run P w = r at *
  cases r with
  | ok n w' =>
    cases n <;> simp only [Oper.upon] at h ⊢ <;>
      first
        | exact hK _ _ h
        | exact Calls.mono h (fun e w'' he => by cases e <;> first | exact hK _ _ he | exact hQ _ _ _ he | exact he.imp fun _ h => h.imp fun _ h => hQ _ _ _ h)
        | exact Rows.mono h (fun _ _ he => hK _ _ he)
  | halt x w' => cases x <;> simp only [Oper.upon] at h ⊢ <;> exact hQ _ _ _ h
theorem wpList_mono {P : Program} {ops : Array Oper} {Q Q' : Exit → Act → World → Prop} (hQ : ∀ e a w, Q e a w → Q' e a w) : ∀ (l : List Oper) (a : Act) (w : World), wpList P ops Q l a w → wpList P ops Q' l a w
  | [], a, w, h => hQ _ _ _ h
  | o :: l, a, w, h => by
    unfold wpList at h ⊢
    split
    · rename_i hw
      rw [if_pos hw] at h
      rcases h with h | ⟨h1, h2⟩
      · exact .inl (Oper.wp_monoQ (wpList_mono hQ l) hQ h)
      · exact .inr ⟨h1, h2.imp fun _ h => h.imp fun _ h => hQ _ _ _ h⟩
    · rename_i hw
      rw [if_neg hw] at h
      exact wpList_mono hQ l _ _ h
abbrev Cd (Γ : Ctx) (N : Nat) (P : Program) (E : Env) (H : List Chunk) (c : Code) (κ : Cont) : Prop := Ent Γ N E H fun a w => c.wp P κ.toQ a w
abbrev Ls (Γ : Ctx) (N : Nat) (P : Program) (E : Env) (H : List Chunk) (ops : Array Oper) (l : List Oper) (κ : Cont) : Prop := Ent Γ N E H fun a w => wpList P ops κ.toQ l a w

theorem Cd.seq {x y : Code} (h : Cd Γ N P E H x { κ with normal := fun a w => y.wp P κ.toQ a w }) : Cd Γ N P E H (.seq x y) κ := fun a w hr hs =>
  wp_seq (Code.wp_mono (fun e a w q => by cases e <;> exact q) (h a w hr hs))
theorem Cd.skip (h : Ent Γ N E H κ.normal) : Cd Γ N P E H .skip κ := fun a w hr hs => wp_skip (h a w hr hs)
theorem Cd.ret (h : Ent Γ N E H κ.ret) : Cd Γ N P E H .ret κ := fun a w hr hs => wp_ret (h a w hr hs)
theorem Cd.exit {id : Nat} (h : Ent Γ N E H (κ.exits id)) : Cd Γ N P E H (.exit id) κ := fun a w hr hs => wp_exit (h a w hr hs)
theorem Cd.block {id : Nat} {c : Code} (h : Cd Γ N P E H c { κ with exits := fun i => bif i == id then κ.normal else κ.exits i }) : Cd Γ N P E H (.block id c) κ := fun a w hr hs =>
  wp_block (Code.wp_mono (fun e a w q => by
    cases e with
    | exit i =>
      simp only [Cont.toQ] at q
      simp only [Exit.inBlock]
      by_cases hi : i = id
      · subst hi
        rw [if_pos rfl]
        show κ.normal a w
        simpa using q
      · rw [if_neg hi]
        have e' : (i == id) = false := by simpa using hi
        rw [e'] at q
        exact q
    | _ => exact q) (h a w hr hs))
theorem Cd.region {id : Nat} {l : List Oper} (h : Ls Γ N P E H l.toArray l κ) : Cd Γ N P E H (.region id l.toArray false) κ := fun a w hr hs => wp_region_lit (h a w hr hs)
theorem Ls.nil (h : Ent Γ N E H κ.normal) : Ls Γ N P E H ops [] κ := fun a w hr hs => wpList_nil (h a w hr hs)
theorem Cd.cond {c : Operand} {x y : Code} (b : Bool) (hc : E.ev c = some (.bool b)) (h1 : b = true → Cd Γ N P E H x κ) (h2 : b = false → Cd Γ N P E H y κ) : Cd Γ N P E H (.cond c x y) κ := fun a w hr hs =>
  wp_cond_split (hr.ev hc) (fun hb => h1 hb a w hr hs) (fun hb => h2 hb a w hr hs)
theorem Cd.cond_true {c : Operand} {x y : Code} {b : Bool} (hc : E.ev c = some (.bool b)) (hb : b = true) (h : Cd Γ N P E H x κ) : Cd Γ N P E H (.cond c x y) κ := Cd.cond b hc (fun _ => h) (fun e => by rw [hb] at e; cases e)
theorem Cd.cond_false {c : Operand} {x y : Code} {b : Bool} (hc : E.ev c = some (.bool b)) (hb : b = false) (h : Cd Γ N P E H y κ) : Cd Γ N P E H (.cond c x y) κ := Cd.cond b hc (fun e => by rw [hb] at e; cases e) (fun _ => h)

/-- A loop: what holds at every round's head, by an index j; a measure. -/
def InvA (Γ : Ctx) (N : Nat) {ι : Type} (Es : ι → Env) (Hs : ι → List Chunk) (φ : ι → Prop) : Asrt := fun a w => ∃ j, φ j ∧ Rep N (Es j) a ∧ Sat Γ (Hs j) w
theorem Cd.loop {ι : Type} {c : Code} (Es : ι → Env) (Hs : ι → List Chunk) (φ : ι → Prop) (μ : ι → Nat) (j0 : ι) (h0 : φ j0) (hE : E.le (Es j0)) (hH : Hs j0 = H)
    (round : ∀ j, φ j → Cd Γ N P (Es j) (Hs j) c { κ with normal := InvA Γ N Es Hs (fun k => φ k ∧ μ k < μ j) }) : Cd Γ N P E H (.loop c) κ := by
  intro a w hr hs
  intro b k cs
  have key : ∀ n j a w, μ j = n → φ j → Rep N (Es j) a → Sat Γ (Hs j) w →
      ∃ e a' w', κ.toQ e a' w' ∧ Arrives P (lone (b.at a (.code c :: .inLoop c :: k)) cs w) b k cs e a' w' := by
    intro n
    induction n using Nat.strongRecOn with
    | _ n ih =>
      intro j a w hn hj hr hs
      obtain ⟨e, a₁, w₁, hq, harr⟩ := round j hj a w hr hs b (.inLoop c :: k) cs
      cases e with
      | normal =>
        obtain ⟨j', ⟨hj', hlt⟩, hr', hs'⟩ := hq
        obtain ⟨e₂, a₂, w₂, hq₂, harr₂⟩ := ih (μ j') (hn ▸ hlt) j' a₁ w₁ rfl hj' hr' hs'
        exact ⟨e₂, a₂, w₂, hq₂, .of_steps (Steps.trans harr (.one step_inLoop)) harr₂⟩
      | exit id => exact ⟨.exit id, a₁, w₁, hq, .pass (x := .inLoop c) rfl (fun _ _ => .inl (by simp)) harr⟩
      | goto l => exact hq.elim
      | ret => exact ⟨.ret, a₁, w₁, hq, .pass (x := .inLoop c) rfl (fun _ _ => .inl (by simp)) harr⟩
      | panic ch => exact hq.elim
      | outgrown => exact hq.elim
  obtain ⟨e, a', w', hq, harr⟩ := key _ j0 a w rfl h0 (hr.le hE) (hH ▸ hs)
  exact ⟨e, a', w', hq, .of_steps (.one step_loop) harr⟩
/-- At a round's end, or ahead of a meeting point. -/
theorem Ent.inv {ι : Type} {Es : ι → Env} {Hs : ι → List Chunk} {φ : ι → Prop} (j : ι) (hj : φ j) (hE : E.le (Es j)) (hH : H = Hs j) : Ent Γ N E H (InvA Γ N Es Hs φ) := fun _ _ hr hs => ⟨j, hj, hr.le hE, hH ▸ hs⟩
/-- Ways that meet: what holds there, by an index. -/
theorem Ls.cut {l : List Oper} {ι : Type} (Es : ι → Env) (Hs : ι → List Chunk) (φ : ι → Prop) (h1 : Ls Γ N P E H ops l { κ with normal := InvA Γ N Es Hs φ }) (h2 : ∀ j, φ j → Ent Γ N (Es j) (Hs j) κ.normal) : Ls Γ N P E H ops l κ := by
  intro a w hr hs
  exact wpList_mono (fun e a w q => by
    cases e with
    | normal => obtain ⟨j, hj, hr', hs'⟩ := q; exact h2 j hj a w hr' hs'
    | _ => exact q) _ a w (h1 a w hr hs)
theorem Cd.cut {c : Code} {ι : Type} (Es : ι → Env) (Hs : ι → List Chunk) (φ : ι → Prop) (h1 : Cd Γ N P E H c { κ with normal := InvA Γ N Es Hs φ }) (h2 : ∀ j, φ j → Ent Γ N (Es j) (Hs j) κ.normal) : Cd Γ N P E H c κ := fun a w hr hs =>
  Code.wp_mono (fun e a w q => by
    cases e with
    | normal => obtain ⟨j, hj, hr', hs'⟩ := q; exact h2 j hj a w hr' hs'
    | _ => exact q) (h1 a w hr hs)

/-! ### Operations -/
/-- The operation yields v and leaves the world. -/
structure Ev (Γ : Ctx) (N : Nat) (P : Program) (E : Env) (H : List Chunk) (o : Oper) (v : Value) : Prop where
  run : ∀ a w, Rep N E a → Sat Γ H w → (execOp a.eval o).run P w = .ok (.value v) w
/-- The operation yields v i and leaves the pieces H' i, for some i of which φ is known. -/
structure Does (Γ : Ctx) (N : Nat) (P : Program) (E : Env) (H : List Chunk) (o : Oper) (ι : Type) (v : ι → Value) (H' : ι → List Chunk) (φ : ι → Prop) : Prop where
  run : ∀ a w, Rep N E a → Sat Γ H w → ∀ (K : Asrt) (Q : Exit → Act → World → Prop), (∀ i w', φ i → Sat Γ (H' i) w' → K (a.put o.dst (v i)) w') → o.wp P a w K Q

def wantB (ops : Array Oper) (E : Env) (o : Oper) : Option Bool :=
  match o.guard with
  | none => some true
  | some (g, b) => match (ops[g]?).bind (·.dst) with
    | some d => match E.get d with
      | some (.bool c) => some (c == b)
      | _ => none
    | none => none
theorem wanted_of {a : Act} (hr : Rep N E a) {b : Bool} (h : wantB ops E o = some b) : Region.wanted o (yielded ops a.tmps) = b := by
  unfold wantB at h
  unfold Region.wanted
  cases hg : o.guard with
  | none => simpa [hg] using h
  | some gb =>
    obtain ⟨g, c⟩ := gb
    simp only [hg] at h
    cases hd : (ops[g]?).bind (·.dst) with
    | none => simp [hd] at h
    | some d =>
      simp only [hd] at h
      split at h
      · rename_i c' hc
        have := hr.get d _ hc
        simp only [yielded, hd, Option.bind_some, this]
        cases c' <;> cases c <;> simp_all
      · cases h

theorem Ls.ev {v : Value} (d : Option Tmp) (h : Ev Γ N P E H o v) (hw : wantB ops E o = some true) (hd : (decide (o.dst = d) && dstB N d) = true) (k : Ls Γ N P (E.put d v) H ops rest κ) : Ls Γ N P E H ops (o :: rest) κ := by
  simp only [Bool.and_eq_true, decide_eq_true_eq] at hd
  obtain ⟨rfl, hd⟩ := hd
  intro a w hr hs
  refine wpList_step fun K hK => ?_
  rw [if_pos (wanted_of hr hw)]
  unfold Oper.wp
  rw [h.run a w hr hs]
  exact hK _ _ (k _ _ (hr.put hd v) hs)
theorem Ls.pass (d : Option Tmp) (hw : wantB ops E o = some false) (hd : (decide (o.dst = d) && dstB N d) = true) (k : Ls Γ N P (E.put d undef) H ops rest κ) : Ls Γ N P E H ops (o :: rest) κ := by
  simp only [Bool.and_eq_true, decide_eq_true_eq] at hd
  obtain ⟨rfl, hd⟩ := hd
  intro a w hr hs
  refine wpList_step fun K hK => ?_
  rw [if_neg (by rw [wanted_of hr hw]; simp)]
  exact hK _ _ (k _ _ (hr.put hd undef) hs)
theorem Ls.does {ι : Type} {v : ι → Value} {H' : ι → List Chunk} {φ : ι → Prop} (d : Option Tmp) (h : Does Γ N P E H o ι v H' φ) (hw : wantB ops E o = some true) (hd : (decide (o.dst = d) && dstB N d) = true) (k : ∀ i, φ i → Ls Γ N P (E.put d (v i)) (H' i) ops rest κ) : Ls Γ N P E H ops (o :: rest) κ := by
  simp only [Bool.and_eq_true, decide_eq_true_eq] at hd
  obtain ⟨rfl, hd⟩ := hd
  intro a w hr hs
  refine wpList_step fun K hK => ?_
  rw [if_pos (wanted_of hr hw)]
  exact h.run a w hr hs K _ fun i w' hi hs' => hK _ _ (k i hi _ _ (hr.put hd (v i)) hs')

/-! ### Functions -/
/-- Given the pieces H the function comes back with res i and the pieces H' i, for some i of which φ is known. -/
def Fn (P : Program) (f : FuncId) (args : Array Value) (H : List Chunk) (ι : Type) (res : ι → Value) (H' : ι → List Chunk) (φ : ι → Prop) : Prop :=
  ∀ w, Sat0 H w → Calls P f args w fun e w' => ∃ i, φ i ∧ e = .returned (res i) ∧ Sat ⟨w, H⟩ (H' i) w'

def startE (args : List Value) : Nat → Env
  | n => match args with
    | [] => []
    | v :: r => (n, v) :: startE r (n + 1)
theorem startE_get : ∀ (args : List Value) (n t : Nat) (v : Value), (startE args n).get t = some v → n ≤ t ∧ args[t - n]? = some v
  | [], n, t, v, h => by simp [startE, Env.get] at h
  | u :: r, n, t, v, h => by
    simp only [startE, Env.get] at h
    by_cases e : n = t
    · subst e
      simp at h
      simp [h]
    · have e' : (n == t) = false := by simpa using e
      rw [e'] at h
      obtain ⟨h1, h2⟩ := startE_get r (n + 1) t v h
      refine ⟨by omega, ?_⟩
      rw [show t - n = (t - (n + 1)) + 1 by omega]
      simpa using h2

theorem Fn.enter {f : FuncId} {fn : Func} {c : Code} {args : List Value} {ι : Type} {res : ι → Value} {H' : ι → List Chunk} {φ : ι → Prop} (hf : P.funcs[f]? = some fn) (hb : fn.body = some c) (hn : fn.ntmps = N) (ha : decide (args.length ≤ N) = true)
    (h : ∀ w, Cd ⟨w, H⟩ N P (startE args 0) H c ⟨bodyPost P fn (fun e w' => ∃ i, φ i ∧ e = .returned (res i) ∧ Sat ⟨w, H⟩ (H' i) w') .normal, fun _ _ _ => False, bodyPost P fn (fun e w' => ∃ i, φ i ∧ e = .returned (res i) ∧ Sat ⟨w, H⟩ (H' i) w') .ret⟩) : Fn P f args.toArray H ι res H' φ := by
  intro w hs
  have ha : args.length ≤ N := of_decide_eq_true ha
  refine calls_of_wp hf hb (Code.wp_mono (fun e a w q => ?_) (h w _ w ⟨?_, rfl, fun t v ht => ?_⟩ (Sat.start hs)))
  · cases e <;> first | exact q | exact q.elim
  · simp [hn]; omega
  · obtain ⟨_, h2⟩ := startE_get _ _ _ _ ht
    have hlt := (List.getElem?_eq_some_iff.1 h2).1
    simp only [Nat.sub_zero] at h2 hlt
    rw [Array.getElem?_append_left (by simpa using hlt)]
    simpa using h2

/-- The end: what the function answers. -/
def Res (Γ : Ctx) (N : Nat) (P : Program) (fn : Func) (E : Env) (H : List Chunk) (v : Value) : Prop := ∀ a w, Rep N E a → Sat Γ H w → (results fn a.tmps).run P w = .ok v w
theorem Ent.ret {fn : Func} {ι : Type} {res : ι → Value} {H' : ι → List Chunk} {φ : ι → Prop} {v : Value} (i : ι) (hi : φ i) (hv : Res Γ N P fn E H v) (hres : v = res i) (is : List Nat) (hs : selB (H.map (·.excl)) is = true) (hH : picks H is = H' i) :
    Ent Γ N E H (bodyPost P fn (fun e w' => ∃ i, φ i ∧ e = .returned (res i) ∧ Sat Γ (H' i) w') .ret) := fun a w hr hs' =>
  ⟨hr.defers, v, hv a w hr hs', i, hi, by rw [hres], hH ▸ hs'.pick is hs⟩
theorem Ent.fin {fn : Func} {ι : Type} {res : ι → Value} {H' : ι → List Chunk} {φ : ι → Prop} {v : Value} (i : ι) (hi : φ i) (hv : Res Γ N P fn E H v) (hres : v = res i) (is : List Nat) (hs : selB (H.map (·.excl)) is = true) (hH : picks H is = H' i) :
    Ent Γ N E H (bodyPost P fn (fun e w' => ∃ i, φ i ∧ e = .returned (res i) ∧ Sat Γ (H' i) w') .normal) := fun a w hr hs' =>
  ⟨hr.defers, v, hv a w hr hs', i, hi, by rw [hres], hH ▸ hs'.pick is hs⟩
theorem Res.tmp {fn : Func} {t : Tmp} {v : Value} (h : fn.results = #[.tmp t]) (hv : E.get t = some v) : Res Γ N P fn E H v := fun a w hr _ => by
  rw [results_tmp h]
  simp [hr.get t v hv]
theorem Res.tmp2 {fn : Func} {t u : Tmp} {v v' : Value} (h : fn.results = #[.tmp t, .tmp u]) (hv : E.get t = some v) (hv' : E.get u = some v') : Res Γ N P fn E H (.tuple #[v, v']) := fun a w hr _ => by
  rw [results_tmp2 h]
  simp [hr.get t v hv, hr.get u v' hv']
theorem Res.nothing {fn : Func} (h : fn.results = #[]) : Res Γ N P fn E H (.tuple #[]) := fun _ _ _ _ => results_none h _ _ _
end
end Go.Proofs.Ytgidkjfakecniaa
