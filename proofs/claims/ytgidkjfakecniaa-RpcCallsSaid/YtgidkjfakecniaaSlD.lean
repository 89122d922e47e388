/-
  Regions that draw their order, over slots and pieces. Pure operations and loads are taken first; an operation that changes memory comes when it alone is ready.
-/
import Derived.Test.YtgidkjfakecniaaSlC
namespace Go.Proofs.Ytgidkjfakecniaa
open Go.RowKit

section
variable {P : Program} {ops : Array Oper} {Q : Exit → Act → World → Prop} {md : Region.Mode}

/-- S holds till one of the operations T has come up. -/
def until_ (S : World → Prop) (T : List Nat) (listed : Array Bool) (w : World) : Prop := (∃ t ∈ T, listed.getD t false = true) ∨ S w

def wpAnyL (P : Program) (md : Region.Mode) (ops : Array Oper) (Q : Exit → Act → World → Prop) (S : World → Prop) (T : List Nat) : Nat → Array Bool → Act → World → Prop
  | 0, listed, a, w => Region.ready md ops listed = [] ∧ Q .normal a w
  | fuel + 1, listed, a, w =>
    (Region.ready md ops listed = [] → Q .normal a w) ∧
    ∀ i ∈ Region.ready md ops listed, wpOp P ops Q i (fun a' w' => until_ S T (listed.setIfInBounds i true) w' ∧ wpAnyL P md ops Q S T fuel (listed.setIfInBounds i true) a' w') a w

theorem wpAny_of_L {S : World → Prop} {T : List Nat} : ∀ (fuel : Nat) (listed : Array Bool) (a : Act) (w : World), wpAnyL P md ops Q S T fuel listed a w → wpAny P md ops Q fuel listed a w
  | 0, _, _, _, h => h
  | fuel + 1, _, _, _, h => ⟨h.1, fun i hi => wpOp_mono (fun a' w' h' => wpAny_of_L fuel _ a' w' h'.2) (h.2 i hi)⟩

/-- Another condition from here on. -/
theorem wpAnyL_turn {S S' : World → Prop} {T T' : List Nat} : ∀ (fuel : Nat) (listed : Array Bool) (a : Act) (w : World),
    (∀ (l : Array Bool) (w : World), (∀ j, listed.getD j false = true → l.getD j false = true) → until_ S' T' l w → until_ S T l w) → wpAnyL P md ops Q S' T' fuel listed a w → wpAnyL P md ops Q S T fuel listed a w
  | 0, _, _, _, _, h => h
  | fuel + 1, _, _, _, hS, h => ⟨h.1, fun i hi => wpOp_mono (fun a' w' h' => ⟨hS _ w' (fun _ hj => getD_set_true hj) h'.1, wpAnyL_turn fuel _ a' w' (fun l w hl => hS l w fun j hj => hl j (getD_set_true hj)) h'.2⟩) (h.2 i hi)⟩

/-- i comes up ahead of t, be it by others. -/
def aheadT (md : Region.Mode) (ops : Array Oper) (i : Nat) : Nat → Nat → Bool
  | 0, _ => false
  | n + 1, t => match ops[t]? with
    | some o => o.after.any fun e => Region.binds md e && (e.on == i || aheadT md ops i n e.on)
    | none => false
def aheadB (md : Region.Mode) (ops : Array Oper) (T : List Nat) (i : Nat) : Bool := T.all fun t => aheadT md ops i ops.size t
/-- With each operation those have come up that it waits for. -/
def Closed (md : Region.Mode) (ops : Array Oper) (listed : Array Bool) : Prop := ∀ j o, ops[j]? = some o → listed.getD j false = true → ∀ e ∈ o.after, Region.binds md e = true → listed.getD e.on false = true
def closedB (md : Region.Mode) (ops : Array Oper) (listed : Array Bool) : Bool := (List.range ops.size).all fun j => match ops[j]? with
  | some o => !listed.getD j false || o.after.all fun e => !Region.binds md e || listed.getD e.on false
  | none => true
theorem closed_of {listed : Array Bool} (h : closedB md ops listed = true) : Closed md ops listed := fun j o ho hl e he hb => by
  have hj : j < ops.size := (Array.getElem?_eq_some_iff.1 ho).1
  have := List.all_eq_true.1 h j (List.mem_range.2 hj)
  rw [ho] at this
  simp only [hl, Bool.not_true, Bool.false_or, Array.all_eq_true_iff_forall_mem] at this
  have := this e he
  simpa [hb] using this
theorem Closed.set {listed : Array Bool} (h : Closed md ops listed) {j : Nat} (hj : j ∈ Region.ready md ops listed) : Closed md ops (listed.setIfInBounds j true) := fun k o ho hl e he hb => by
  obtain ⟨_, oj, hoj, hall⟩ := mem_ready.1 hj
  by_cases hjk : j = k
  · subst hjk
    rw [ho] at hoj
    obtain rfl : o = oj := Option.some.inj hoj
    exact getD_set_true (hall e he hb)
  · rw [getD_set_ne false hjk] at hl
    exact getD_set_true (h k o ho hl e he hb)
theorem ahead_listed {i : Nat} {listed : Array Bool} (hc : Closed md ops listed) : ∀ (n t : Nat), aheadT md ops i n t = true → listed.getD t false = true → listed.getD i false = true
  | 0, _, h, _ => by simp [aheadT] at h
  | n + 1, t, h, hl => by
    unfold aheadT at h
    split at h
    · rename_i o ho
      simp only [Array.any_eq_true', Bool.and_eq_true, Bool.or_eq_true, beq_iff_eq] at h
      obtain ⟨e, he, hb, hx⟩ := h
      have := hc t o ho hl e he hb
      rcases hx with rfl | hx
      · exact this
      · exact ahead_listed hc n e.on hx this
    · cases h
theorem ahead_ready {T : List Nat} {i t : Nat} {listed : Array Bool} (hc : Closed md ops listed) (h : aheadB md ops T i = true) (ht : t ∈ T) (hr : t ∈ Region.ready md ops listed) : listed.getD i false = true := by
  have := List.all_eq_true.1 h t ht
  obtain ⟨_, o, ho, hall⟩ := mem_ready.1 hr
  generalize ops.size = n at this
  cases n with
  | zero => simp [aheadT] at this
  | succ n =>
    unfold aheadT at this
    rw [ho] at this
    simp only [Array.any_eq_true', Bool.and_eq_true, Bool.or_eq_true, beq_iff_eq] at this
    obtain ⟨e, he, hb, hx⟩ := this
    have h1 := hall e he hb
    rcases hx with rfl | hx
    · exact h1
    · exact ahead_listed hc n e.on hx h1

theorem wpAnyL_first {S : World → Prop} {T : List Nat} {i : Nat} {oi : Oper} {v : Value} (hi : ops[i]? = some oi) (hsel : ∀ (j : Nat) (o : Oper) cs b, ops[j]? = some o → o.op ≠ .select cs b)
    (hQ : ∀ c a w, Q (.panic c) (a.put oi.dst v) w → Q (.panic c) a w) (hT : aheadB md ops T i = true) :
    ∀ (fuel : Nat) (listed : Array Bool) (a : Act) (w : World),
      (∀ j oj, ops[j]? = some oj → j ≠ i → listed.getD j true = false → (∀ e ∈ oj.after, Region.binds md e = true → e.on ≠ i) → oi.apart ops oj = true) →
      Closed md ops listed → i ∈ Region.ready md ops listed → (∀ t ∈ T, listed.getD t false = false) → i ∉ T → YieldsIf P ops S oi v a → S w →
      wpAnyL P md ops Q S T fuel (listed.setIfInBounds i true) (a.put oi.dst v) w → wpAnyL P md ops Q S T (fuel + 1) listed a w := by
  intro fuel
  induction fuel with
  | zero =>
    intro listed a w _ _ hr _ _ hy hS H
    refine ⟨fun h => (by rw [h] at hr; cases hr), fun j hj => ?_⟩
    by_cases hji : j = i
    · subst hji; exact hy.wpOp hi hS ⟨.inr hS, H⟩
    · have := ready_mono hj hji
      rw [H.1] at this
      cases this
  | succ fuel ih =>
    intro listed a w hfree hcl hr hno hiT hy hS H
    refine ⟨fun h => (by rw [h] at hr; cases hr), fun j hj => ?_⟩
    by_cases hji : j = i
    · subst hji; exact hy.wpOp hi hS ⟨.inr hS, H⟩
    · have h1 := H.2 j (ready_mono hj hji)
      obtain ⟨hjun, oj, hoj, hall⟩ := mem_ready.1 hj
      have hiun : listed.getD i false = false := by
        have h0 := (mem_ready.1 hr).1
        rcases Nat.lt_or_ge i listed.size with h' | h'
        · simp [h'] at h0 ⊢; exact h0
        · simp [Array.getElem?_eq_none h'] at h0
      have hjT : j ∉ T := fun hjT => by
        have := ahead_ready hcl hT hjT hj
        rw [hiun] at this
        cases this
      have hnot : ∀ e ∈ oj.after, Region.binds md e = true → e.on ≠ i := fun e he hb heq => by
        have h1 := hall e he hb
        rw [heq, hiun] at h1
        cases h1
      have h2 := wpOp_putIf hoj (hfree j oj hoj hji hjun hnot) (fun cs b => hsel i oi cs b hi) (fun cs b => hsel j oj cs b hoj) hQ hy h1
      have hfree' : ∀ k ok, ops[k]? = some ok → k ≠ i → (listed.setIfInBounds j true).getD k true = false →
          (∀ e ∈ ok.after, Region.binds md e = true → e.on ≠ i) → oi.apart ops ok = true := fun k ok hk hki hun hno' => by
        refine hfree k ok hk hki ?_ hno'
        by_cases hjk : j = k
        · subst hjk; exact hjun
        · rw [getD_set_ne true hjk] at hun; exact hun
      have hno2 : ∀ t ∈ T, (listed.setIfInBounds j true).getD t false = false := fun t ht => by
        rw [getD_set_ne false (show j ≠ t from fun e => hjT (by rw [e]; exact ht))]
        exact hno t ht
      refine wpOp_mono (fun a' w' h3 => ?_) h2
      have hS' : S w' := by
        rcases h3.2.1 with ⟨t, ht, hl⟩ | h
        · rw [Array.setIfInBounds_comm _ _ (fun e => hji e.symm), getD_set_ne false (show i ≠ t from fun e => hiT (by rw [e]; exact ht)), hno2 t ht] at hl
          cases hl
        · exact h
      refine ⟨.inr hS', ih (listed.setIfInBounds j true) a' w' hfree' (hcl.set hj) (ready_mono hr (Ne.symm hji)) hno2 hiT h3.1 hS' ?_⟩
      rw [Array.setIfInBounds_comm _ _ hji]
      exact h3.2.2
end

section
variable {Γ : Ctx} {N : Nat} {P : Program} {E : Env} {H : List Chunk} {κ : Cont} {ops : Array Oper} {o : Oper}

/-- The rest of a drawn region. Hs: the pieces that stay till one of T comes up. -/
def Rg (Γ : Ctx) (N : Nat) (P : Program) (E : Env) (H Hs : List Chunk) (T : List Nat) (ops : Array Oper) (fuel : Nat) (listed : Array Bool) (κ : Cont) : Prop :=
  Ent Γ N E H fun a w => wpAnyL P .any ops κ.toQ (Sat Γ Hs) T fuel listed a w

theorem Cd.draw {id : Nat} (T : List Nat) (hm : P.follows .mixedOrders = true) (h : Rg Γ N P E H H T ops ops.size (Array.replicate ops.size false) κ) : Cd Γ N P E H (.region id ops true) κ := fun a _ hr hs =>
  wp_region_any hm (wpAny_of_L _ _ _ _ (h a _ hr hs.drew))

def quietB (T : List Nat) (listed : Array Bool) : Bool := T.all fun t => !listed.getD t false
theorem Rg.ev {Hs : List Chunk} {T : List Nat} {fuel : Nat} {listed : Array Bool} {v : Value} (i : Nat) (hi : ops[i]? = some o) (hsub : ∀ w, Sat Γ H w → Sat Γ Hs w) (h : Ev Γ N P E Hs o v) (hw : wantB ops E o = some true) (d : Option Tmp) (hd : (decide (o.dst = d) && dstB N d) = true)
    (hs : Region.noSelect ops = true) (hf : Region.free .any ops listed i = true) (hr : (Region.ready .any ops listed).contains i = true) (hT : (aheadB .any ops T i && quietB T listed && !T.contains i && closedB .any ops listed) = true)
    (k : Rg Γ N P (E.put d v) H Hs T ops fuel (listed.setIfInBounds i true) κ) : Rg Γ N P E H Hs T ops (fuel + 1) listed κ := by
  simp only [Bool.and_eq_true, decide_eq_true_eq] at hd
  obtain ⟨rfl, hd⟩ := hd
  intro a w hrep hsat
  simp only [Bool.and_eq_true, Bool.not_eq_true'] at hT
  obtain ⟨⟨⟨h1, h2⟩, h3⟩, h4⟩ := hT
  exact wpAnyL_first hi (Region.noSelect_spec hs) (fun _ _ _ h => h) h1 fuel listed a w (Region.free_spec hi hf) (closed_of h4) (by simpa using hr) (fun t ht => by simpa using List.all_eq_true.1 h2 t ht) (by simpa using h3)
    (.inl ⟨wanted_of hrep hw, fun w' hs' => h.run a w' hrep hs'⟩) (hsub w hsat) (k _ _ (hrep.put hd v) hsat)
theorem Rg.pass {Hs : List Chunk} {T : List Nat} {fuel : Nat} {listed : Array Bool} (i : Nat) (hi : ops[i]? = some o) (hsub : ∀ w, Sat Γ H w → Sat Γ Hs w) (hw : wantB ops E o = some false) (d : Option Tmp) (hd : (decide (o.dst = d) && dstB N d) = true)
    (hs : Region.noSelect ops = true) (hf : Region.free .any ops listed i = true) (hr : (Region.ready .any ops listed).contains i = true) (hT : (aheadB .any ops T i && quietB T listed && !T.contains i && closedB .any ops listed) = true)
    (k : Rg Γ N P (E.put d undef) H Hs T ops fuel (listed.setIfInBounds i true) κ) : Rg Γ N P E H Hs T ops (fuel + 1) listed κ := by
  simp only [Bool.and_eq_true, decide_eq_true_eq] at hd
  obtain ⟨rfl, hd⟩ := hd
  intro a w hrep hsat
  simp only [Bool.and_eq_true, Bool.not_eq_true'] at hT
  obtain ⟨⟨⟨h1, h2⟩, h3⟩, h4⟩ := hT
  exact wpAnyL_first hi (Region.noSelect_spec hs) (fun _ _ _ h => h) h1 fuel listed a w (Region.free_spec hi hf) (closed_of h4) (by simpa using hr) (fun t ht => by simpa using List.all_eq_true.1 h2 t ht) (by simpa using h3)
    (.inr ⟨wanted_of hrep hw, rfl⟩) (hsub w hsat) (k _ _ (hrep.put hd undef) hsat)
/-- The one operation that is ready makes memory; the pieces that stay are among what it leaves. -/
theorem Rg.does {Hs : List Chunk} {T : List Nat} {fuel : Nat} {listed : Array Bool} {ι : Type} {v : ι → Value} {H' : ι → List Chunk} {φ : ι → Prop} (i : Nat) (hi : ops[i]? = some o) (hr : Region.ready .any ops listed = [i]) (h : Does Γ N P E H o ι v H' φ) (hw : wantB ops E o = some true) (d : Option Tmp) (hd : (decide (o.dst = d) && dstB N d) = true)
    (hsub : ∀ j w, Sat Γ (H' j) w → Sat Γ Hs w) (k : ∀ j, φ j → Rg Γ N P (E.put d (v j)) (H' j) (H' j) T ops fuel (listed.setIfInBounds i true) κ) : Rg Γ N P E H Hs T ops (fuel + 1) listed κ := by
  simp only [Bool.and_eq_true, decide_eq_true_eq] at hd
  obtain ⟨rfl, hd⟩ := hd
  intro a w hrep hsat
  refine ⟨fun h => (by rw [hr] at h; cases h), fun j hj => ?_⟩
  rw [hr] at hj
  obtain rfl : j = i := by simpa using hj
  refine wpOp_step hi fun K hK => ?_
  rw [if_pos (wanted_of hrep hw)]
  refine h.run a w hrep hsat K _ fun x w' hx hs' => hK _ _ ⟨.inr (hsub x w' hs'), ?_⟩
  exact wpAnyL_turn fuel _ _ _ (fun l w _ hl => hl.imp id (hsub x w)) (k x hx _ _ (hrep.put hd (v x)) hs')
/-- The one operation that is ready changes memory: it is one of T. T': those that come later. -/
theorem Rg.tail {Hs : List Chunk} {T : List Nat} {fuel : Nat} {listed : Array Bool} {ι : Type} {v : ι → Value} {H' : ι → List Chunk} {φ : ι → Prop} (i : Nat) (T' : List Nat) (hi : ops[i]? = some o) (hr : Region.ready .any ops listed = [i]) (h : Does Γ N P E H o ι v H' φ) (hw : wantB ops E o = some true) (d : Option Tmp) (hd : (decide (o.dst = d) && dstB N d) = true)
    (hT : T.contains i = true) (hl : decide (i < listed.size) = true) (k : ∀ j, φ j → Rg Γ N P (E.put d (v j)) (H' j) (H' j) T' ops fuel (listed.setIfInBounds i true) κ) : Rg Γ N P E H Hs T ops (fuel + 1) listed κ := by
  simp only [Bool.and_eq_true, decide_eq_true_eq] at hd
  obtain ⟨rfl, hd⟩ := hd
  intro a w hrep hsat
  have hil : (listed.setIfInBounds i true).getD i false = true := by
    have : i < listed.size := of_decide_eq_true hl
    simp [this]
  refine ⟨fun h => (by rw [hr] at h; cases h), fun j hj => ?_⟩
  rw [hr] at hj
  obtain rfl : j = i := by simpa using hj
  refine wpOp_step hi fun K hK => ?_
  rw [if_pos (wanted_of hrep hw)]
  refine h.run a w hrep hsat K _ fun x w' hx hs' => hK _ _ ⟨.inl ⟨j, by simpa using hT, hil⟩, ?_⟩
  exact wpAnyL_turn fuel _ _ _ (fun l w hm _ => .inl ⟨j, by simpa using hT, hm j hil⟩) (k x hx _ _ (hrep.put hd (v x)) hs')
theorem Rg.done {Hs : List Chunk} {T : List Nat} {listed : Array Bool} (hr : Region.ready .any ops listed = []) (h : Ent Γ N E H κ.normal) : ∀ fuel, Rg Γ N P E H Hs T ops fuel listed κ
  | 0 => fun a w hrep hs => ⟨hr, h a w hrep hs⟩
  | _ + 1 => fun a w hrep hs => ⟨fun _ => h a w hrep hs, fun i hi => by rw [hr] at hi; cases hi⟩
end
end Go.Proofs.Ytgidkjfakecniaa
