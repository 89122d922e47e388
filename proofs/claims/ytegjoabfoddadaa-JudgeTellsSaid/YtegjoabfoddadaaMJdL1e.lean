/-
  Texts joined: JdR.
-/
import Derived.Test.YtegjoabfoddadaaMJdL1d
/- the judge, plain: what it tells is what the document tells -/
namespace Go.Proofs.Ytegjoabfoddadaa
/-! ### The book -/
theorem wh_le {m : MapP} (h : goodM m = true) : m.w * m.h ≤ 256 ∧ 1 ≤ m.w ∧ m.w ≤ 16 ∧ 1 ≤ m.h ∧ m.h ≤ 16 ∧ 1 ≤ m.w * m.h := by
  unfold goodM at h
  simp only [Bool.and_eq_true, decide_eq_true_eq] at h
  obtain ⟨⟨h1, h2, h3, h4, _⟩, _⟩ := h
  have : m.w * m.h ≤ 16 * 16 := Int.mul_le_mul h2 h4 (by omega) (by omega)
  have : 0 < m.w * m.h := Int.mul_pos (by omega) (by omega)
  omega
theorem isM_iff {m : MapP} {c : Int} : isM m c = true ↔ 0 ≤ c ∧ c < m.w * m.h := by unfold isM; simp
theorem cellsE_zero {m : MapP} : ∀ {l : List Int}, cellsE m l = 0 → ∀ c ∈ l, isM m c = true ∧ freeM m c = true
  | [], _, c, h => by cases h
  | d :: l, h0, c, h => by
    unfold cellsE at h0
    split at h0
    · rename_i h1
      split at h0
      · rename_i h2
        rcases List.mem_cons.1 h with rfl | h
        · exact ⟨h1, h2⟩
        · exact cellsE_zero h0 c h
      · cases h0
    · cases h0
theorem checkR_zero {m : MapP} {r : RtP} (h : checkR m r = 0) : 1 ≤ r.cells.length ∧ r.cells.length ≤ 24 ∧ 0 ≤ r.start ∧ r.start + (r.cells.length : Int) - 1 ≤ 1073741824 ∧ ∀ c ∈ r.cells, isM m c = true := by
  unfold checkR at h
  split at h
  · cases h
  · split at h
    · cases h
    · split at h
      · rename_i h3; exact absurd h h3
      · rename_i h1 h2 h3
        refine ⟨by omega, by omega, by omega, by omega, fun c hc => (cellsE_zero (Decidable.not_not.1 h3) c hc).1⟩
def okR (m : MapP) (r : RtP) : Prop := r = noR ∨ checkR m r = 0
def planOk (r : RtP) : Prop := planR r = true ∧ smallR r
theorem planOk_no : planOk noR := ⟨by decide, fun c h => by cases h⟩
theorem planOk_check {m : MapP} (hm : goodM m = true) {r : RtP} (h : checkR m r = 0) : planOk r := by
  obtain ⟨h1, h2, h3, h4, h5⟩ := checkR_zero h
  refine ⟨planR_iff.2 ⟨h2, h3, by omega⟩, fun c hc => ?_⟩
  have := isM_iff.1 (h5 c hc)
  have := wh_le hm
  omega
theorem planOk_cut {m : MapP} (hm : goodM m = true) {r : RtP} (h : okR m r) (t : Int) : planOk (cutR r t) := by
  rcases h with rfl | h
  · have : cutR noR t = noR := by unfold cutR; rw [if_pos (by right; left; rfl)]
    rw [this]
    exact planOk_no
  · have hp := planOk_check hm h
    obtain ⟨h1, h2, h3, h4, h5⟩ := checkR_zero h
    unfold cutR
    split
    · exact planOk_no
    · split
      · exact hp
      · rename_i h6 h7
        refine ⟨planR_iff.2 ⟨by dsimp only; rw [List.length_drop]; omega, by dsimp only; omega, by dsimp only; omega⟩, fun c hc => hp.2 c (List.mem_of_mem_drop hc)⟩
structure BkOk (m : MapP) (b : BkP) : Prop where
  eps : b.eps.length = 16
  rts : b.rts.length = 16
  ok : ∀ k, okR m (b.rts.getD k noR)
theorem newB_ok (m : MapP) : BkOk m newB := ⟨rfl, rfl, fun k => .inl (by
  unfold newB
  dsimp only
  rw [List.getD_eq_getElem?_getD, List.getElem?_replicate]
  split <;> rfl)⟩
theorem conf_eq {m : MapP} (hm : goodM m = true) {b : BkP} (hb : BkOk m b) (r : Int) {x : RtP} (hx : checkR m x = 0) (tick : Int) : ∀ n k, confP b r x tick n k = confR b r x tick n k
  | 0, _ => rfl
  | n + 1, k => by
    have hp := planOk_check hm hx
    have hc := planOk_cut hm (hb.ok k) tick
    rw [confP, confR, conf_eq hm hb r hx tick n (k + 1), meet_common hp.1 hc.1 hp.2 hc.2]
theorem setRt_ok {m : MapP} {b : BkP} (hb : BkOk m b) (r : Int) {x : RtP} (hx : okR m x) : BkOk m (b.setRt r x) := ⟨hb.eps, by
  show (b.rts.set _ _).length = 16
  rw [List.length_set, hb.rts], fun k => by
  show okR m ((b.rts.set _ _).getD k noR)
  rw [List.getD_eq_getElem?_getD, List.getElem?_set]
  split
  · split
    · exact hx
    · exact .inl rfl
  · have := hb.ok k
    rwa [List.getD_eq_getElem?_getD] at this⟩
theorem take_ok {m : MapP} {b : BkP} (hb : BkOk m b) (r : Int) (x : RtP) (tick : Int) : BkOk m (takeP m b r x tick).1 := by
  unfold takeP
  split
  · exact hb
  · rename_i h
    split
    · exact hb
    · exact setRt_ok hb r (.inr (Decidable.not_not.1 h))
theorem apply_ok {m : MapP} {b : BkP} (hb : BkOk m b) (r : Int) (c : CallP) (tick : Int) : BkOk m (applyP m b r c tick).1 := by
  unfold applyP resvP
  repeat' split
  all_goals first | exact hb | exact take_ok hb _ _ _ | exact setRt_ok hb _ (.inl rfl) | exact ⟨by dsimp only; rw [List.length_set]; exact hb.eps, hb.rts, hb.ok⟩
theorem ite_eq2 {c : Prop} [Decidable c] {α : Type} {a b a' b' : α} (h1 : c → a = a') (h2 : ¬ c → b = b') : (if c then a else b) = (if c then a' else b') := by
  split
  · exact h1 ‹_›
  · exact h2 ‹_›
theorem take_eq2 {m : MapP} (hm : goodM m = true) {b : BkP} (hb : BkOk m b) (r : Int) (x : RtP) (tick : Int) : takeP m b r x tick = if checkR m x ≠ 0 then (b, refusedP (checkR m x)) else if confR b r x tick 16 0 then (b, refusedP 140) else (b.setRt r x, ⟨0, b.ep r, x⟩) := by
  unfold takeP
  refine ite_eq2 (fun _ => rfl) (fun h => ?_)
  rw [conf_eq hm hb r (Decidable.not_not.1 h) tick]
theorem apply_eq {m : MapP} (hm : goodM m = true) {b : BkP} (hb : BkOk m b) (r : Int) (c : CallP) (tick : Int) : applyP m b r c tick = applyR m b r c tick := by
  unfold applyP applyR
  refine ite_eq2 (fun _ => rfl) (fun h1 => ite_eq2 (fun _ => rfl) (fun v1 => ite_eq2 (fun _ => rfl) (fun _ => ite_eq2 (fun _ => rfl) (fun v6 => ite_eq2 (fun _ => rfl) (fun _ => ite_eq2 (fun _ => rfl) (fun v2 => ite_eq2 (fun v3 => ?_) (fun v3 => ite_eq2 (fun _ => rfl) (fun _ => ?_))))))))
  · unfold resvP
    refine ite_eq2 (fun _ => rfl) (fun hc => ite_eq2 (fun _ => rfl) (fun _ => ite_eq2 (fun _ => rfl) (fun _ => ?_)))
    rw [take_eq2 hm hb, if_neg hc]
  · by_cases v4 : c.verb = 4
    · rw [if_pos v4, if_neg (show ¬ c.verb = 5 by omega), take_eq2 hm hb]
    · rw [if_neg v4, if_pos (show c.verb = 5 by omega)]
/-! ### Histories -/
section
variable {l : List EvP} {i : Nat} {x : EvP}
theorem lastF_lt (l : List EvP) (kind robot id : Int) : ∀ n, lastF l kind robot id n < n
  | 0 => by simp [lastF]
  | n + 1 => by
    have := lastF_lt l kind robot id n
    unfold lastF
    split
    · split <;> omega
    · omega
theorem lastF_step (hx : l[i]? = some x) (kind robot id : Int) : lastF l kind robot id (i + 1) = if x.kind = kind ∧ x.robot = robot ∧ (id = 0 ∨ x.id = id) then (i : Int) else lastF l kind robot id i := by
  rw [lastF, hx]
theorem callF_step (hx : l[i]? = some x) (robot id : Int) : callF l robot id (i + 1) = if x.kind = 1 ∧ x.robot = robot ∧ x.id = id then some x.call else callF l robot id i := by
  rw [callF, hx]
/-- What stands at the last such event. -/
def atF {α : Type} (l : List EvP) (kind robot id : Int) (f : EvP → α) (n : Nat) : Option α := if 0 ≤ lastF l kind robot id n then (l[(lastF l kind robot id n).toNat]?).map f else none
theorem atF_step {α : Type} (hx : l[i]? = some x) (kind robot id : Int) (f : EvP → α) : atF l kind robot id f (i + 1) = if x.kind = kind ∧ x.robot = robot ∧ (id = 0 ∨ x.id = id) then some (f x) else atF l kind robot id f i := by
  unfold atF
  rw [lastF_step hx]
  split
  · rw [if_pos (by omega), show ((i : Int)).toNat = i by omega, hx]
    rfl
  · rfl
theorem atF_some {α : Type} (kind robot id : Int) (f : EvP → α) (hi : i ≤ l.length) : (atF l kind robot id f i).isSome = decide (0 ≤ lastF l kind robot id i) := by
  have := lastF_lt l kind robot id i
  unfold atF
  split
  · rename_i h
    rw [List.getElem?_eq_getElem (by omega)]
    simp [h]
  · rename_i h
    simp [h]
end
structure Inv (m : MapP) (l : List EvP) (i : Nat) (s : JdS) : Prop where
  bk : BkOk m s.bk
  last : ∀ r, s.last r = (atF l 1 r 0 EvP.id i).getD 0
  lastP : ∀ r, 0 ≤ s.last r
  ask : ∀ r id, s.asked (r, id) = callF l r id i
  askP : ∀ r id c, s.asked (r, id) = some c → 1 ≤ id
  dec : ∀ r id, id ≠ 0 → s.dec (r, id) = atF l 3 r id EvP.reply i
  decP : ∀ r id, s.dec (r, id) ≠ none → s.asked (r, id) ≠ none
  ans : ∀ r id, id ≠ 0 → s.ans (r, id) = (atF l 2 r id EvP.id i).isSome
  tick : ∀ t, (l.take i).any (fun y => decide (y.kind = 4 ∧ t < y.tick)) = (s.ticked && decide (t < s.tick))
theorem inv_new (m : MapP) (l : List EvP) : Inv m l 0 JdS.new := ⟨newB_ok m, fun _ => rfl, fun _ => Int.le_refl _, fun _ _ => rfl, fun _ _ _ h => (by cases h), fun _ _ _ => rfl, fun _ _ h => absurd rfl h, fun _ _ _ => rfl, fun _ => rfl⟩
theorem any_take {l : List EvP} {i : Nat} {x : EvP} (hx : l[i]? = some x) (f : EvP → Bool) : (l.take (i + 1)).any f = ((l.take i).any f || f x) := by
  rw [List.take_add_one, hx, List.any_append]
  simp
section
variable {m : MapP} {l : List EvP} {i : Nat} {s : JdS} {x : EvP}
theorem greatest_eq (hI : Inv m l i s) : (if 0 ≤ lastF l 1 x.robot 0 i then ((l[(lastF l 1 x.robot 0 i).toNat]?).map EvP.id).getD 0 else 0) = s.last x.robot := by
  rw [hI.last]
  unfold atF
  split <;> rfl
theorem le_len (hx : l[i]? = some x) : i ≤ l.length := by
  have := (List.getElem?_eq_some_iff.1 hx).1
  omega
variable (hm : goodM m = true) (hI : Inv m l i s) (hx : l[i]? = some x)
include hI hx
theorem step_asked (hk : x.kind = 1) (hid : ¬ x.id ≤ s.last x.robot) : Inv m l (i + 1) { s with last := upd s.last x.robot x.id, asked := upd s.asked (x.robot, x.id) (some x.call) } where
  bk := hI.bk
  last r := by
    rw [atF_step hx]
    dsimp only [upd]
    by_cases h : r = x.robot
    · rw [if_pos h, if_pos ⟨hk, h.symm, .inl rfl⟩]; rfl
    · rw [if_neg h, if_neg (fun e => h e.2.1.symm)]; exact hI.last r
  lastP r := by
    dsimp only [upd]
    have := hI.lastP x.robot
    split
    · omega
    · exact hI.lastP r
  ask r id := by
    rw [callF_step hx]
    dsimp only [upd]
    by_cases h : (r, id) = (x.robot, x.id)
    · obtain ⟨h1, h2⟩ := Prod.mk.inj h
      rw [if_pos h, if_pos ⟨hk, h1.symm, h2.symm⟩]
    · rw [if_neg h, if_neg (fun e => h (by rw [e.2.1, e.2.2]))]; exact hI.ask r id
  askP r id c := by
    dsimp only [upd]
    have := hI.lastP x.robot
    split
    · rename_i h
      obtain ⟨_, h2⟩ := Prod.mk.inj h
      intro _
      omega
    · exact hI.askP r id c
  dec r id h := by
    rw [atF_step hx, if_neg (fun e => by rw [hk] at e; exact absurd e.1 (by decide))]
    exact hI.dec r id h
  decP r id h := by
    dsimp only [upd]
    split
    · exact fun e => by cases e
    · exact hI.decP r id h
  ans r id h := by
    rw [atF_step hx, if_neg (fun e => by rw [hk] at e; exact absurd e.1 (by decide))]
    exact hI.ans r id h
  tick t := by
    rw [any_take hx, hI.tick t, decide_eq_false (p := x.kind = 4 ∧ t < x.tick) (fun e => by rw [hk] at e; exact absurd e.1 (by decide)), Bool.or_false]
theorem step_dec (hk : x.kind = 3) {bk : BkP} (hb : BkOk m bk) (ha : s.asked (x.robot, x.id) ≠ none) : Inv m l (i + 1) { s with bk := bk, dec := upd s.dec (x.robot, x.id) (some x.reply) } where
  bk := hb
  last r := by
    rw [atF_step hx, if_neg (fun e => by rw [hk] at e; exact absurd e.1 (by decide))]
    exact hI.last r
  lastP := hI.lastP
  ask r id := by
    rw [callF_step hx, if_neg (fun e => by rw [hk] at e; exact absurd e.1 (by decide))]
    exact hI.ask r id
  askP := hI.askP
  dec r id h := by
    rw [atF_step hx]
    dsimp only [upd]
    by_cases h1 : (r, id) = (x.robot, x.id)
    · obtain ⟨e1, e2⟩ := Prod.mk.inj h1
      rw [if_pos h1, if_pos ⟨hk, e1.symm, .inr e2.symm⟩]
    · rw [if_neg h1, if_neg (fun e => h1 (by rw [e.2.1, e.2.2.resolve_left h]))]; exact hI.dec r id h
  decP r id h := by
    dsimp only [upd] at h
    split at h
    · rename_i h1
      obtain ⟨e1, e2⟩ := Prod.mk.inj h1
      rw [e1, e2]
      exact ha
    · exact hI.decP r id h
  ans r id h := by
    rw [atF_step hx, if_neg (fun e => by rw [hk] at e; exact absurd e.1 (by decide))]
    exact hI.ans r id h
  tick t := by
    rw [any_take hx, hI.tick t, decide_eq_false (p := x.kind = 4 ∧ t < x.tick) (fun e => by rw [hk] at e; exact absurd e.1 (by decide)), Bool.or_false]
theorem step_ans (hk : x.kind = 2) : Inv m l (i + 1) { s with ans := upd s.ans (x.robot, x.id) true } where
  bk := hI.bk
  last r := by
    rw [atF_step hx, if_neg (fun e => by rw [hk] at e; exact absurd e.1 (by decide))]
    exact hI.last r
  lastP := hI.lastP
  ask r id := by
    rw [callF_step hx, if_neg (fun e => by rw [hk] at e; exact absurd e.1 (by decide))]
    exact hI.ask r id
  askP := hI.askP
  dec r id h := by
    rw [atF_step hx, if_neg (fun e => by rw [hk] at e; exact absurd e.1 (by decide))]
    exact hI.dec r id h
  decP := hI.decP
  ans r id h := by
    rw [atF_step hx]
    dsimp only [upd]
    by_cases h1 : (r, id) = (x.robot, x.id)
    · obtain ⟨e1, e2⟩ := Prod.mk.inj h1
      rw [if_pos h1, if_pos ⟨hk, e1.symm, .inr e2.symm⟩]; rfl
    · rw [if_neg h1, if_neg (fun e => h1 (by rw [e.2.1, e.2.2.resolve_left h]))]; exact hI.ans r id h
  tick t := by
    rw [any_take hx, hI.tick t, decide_eq_false (p := x.kind = 4 ∧ t < x.tick) (fun e => by rw [hk] at e; exact absurd e.1 (by decide)), Bool.or_false]
theorem step_tick (hk : x.kind = 4) (ht : ¬ (s.ticked = true ∧ x.tick < s.tick)) : Inv m l (i + 1) { s with tick := x.tick, ticked := true } where
  bk := hI.bk
  last r := by
    rw [atF_step hx, if_neg (fun e => by rw [hk] at e; exact absurd e.1 (by decide))]
    exact hI.last r
  lastP := hI.lastP
  ask r id := by
    rw [callF_step hx, if_neg (fun e => by rw [hk] at e; exact absurd e.1 (by decide))]
    exact hI.ask r id
  askP := hI.askP
  dec r id h := by
    rw [atF_step hx, if_neg (fun e => by rw [hk] at e; exact absurd e.1 (by decide))]
    exact hI.dec r id h
  decP := hI.decP
  ans r id h := by
    rw [atF_step hx, if_neg (fun e => by rw [hk] at e; exact absurd e.1 (by decide))]
    exact hI.ans r id h
  tick t := by
    rw [any_take hx, hI.tick t, Bool.eq_iff_iff]
    simp only [Bool.or_eq_true, Bool.and_eq_true, decide_eq_true_eq, true_and]
    constructor
    · rintro (⟨h1, h2⟩ | ⟨_, h⟩)
      · by_cases h3 : x.tick < s.tick
        · exact absurd ⟨h1, h3⟩ ht
        · omega
      · exact h
    · exact fun h => .inr ⟨hk, h⟩
include hm
theorem inv_step : ruleR m l i s.bk x = (seeP m s x).2 ∧ ((seeP m s x).2 = 0 → Inv m l (i + 1) (seeP m s x).1 ∧ (seeP m s x).1.bk = bookR m l i s.bk x) := by
  have hg := greatest_eq (x := x) hI
  have hl := le_len hx
  have hc := hI.ask x.robot x.id
  unfold ruleR seeP bookR
  dsimp only
  rw [hg, ← hc]
  by_cases k14 : x.kind < 1 ∨ 4 < x.kind
  · rw [if_pos (.inl k14), if_neg (by omega), if_neg (by omega), if_neg (by omega), if_neg (by omega), if_neg (by omega)]
    exact ⟨rfl, fun h => (by cases h)⟩
  by_cases kr : x.kind < 4 ∧ isR x.robot = false
  · rw [if_pos (.inr kr), if_pos ⟨by omega, by omega, kr.2⟩]
    exact ⟨rfl, fun h => (by cases h)⟩
  have n1 : ¬ (1 ≤ x.kind ∧ x.kind ≤ 3 ∧ isR x.robot = false) := fun h => kr ⟨by omega, h.2.2⟩
  rw [if_neg (fun h => h.elim k14 kr), if_neg n1]
  by_cases k1 : x.kind = 1
  · have n3 : ¬ x.kind = 3 := by omega
    rw [if_pos k1, if_pos k1, if_neg n3]
    by_cases hid : x.id ≤ s.last x.robot
    · rw [if_pos hid, if_pos hid]
      exact ⟨rfl, fun h => (by cases h)⟩
    · rw [if_neg hid, if_neg hid]
      exact ⟨rfl, fun _ => ⟨step_asked hI hx k1 hid, rfl⟩⟩
  rw [if_neg k1, if_neg k1]
  by_cases k3 : x.kind = 3
  · have n2 : ¬ x.kind = 2 := by omega
    rw [if_neg n2, if_pos k3, if_pos k3, if_pos k3]
    unfold decP
    cases ha : s.asked (x.robot, x.id) with
    | none =>
      have hd : s.dec (x.robot, x.id) = none := by
        cases h : s.dec (x.robot, x.id) with
        | none => rfl
        | some r => exact absurd ha (hI.decP _ _ (by rw [h]; exact fun e => by cases e))
      rw [hd, if_pos (.inl rfl)]
      exact ⟨rfl, fun h => (by cases h)⟩
    | some c =>
      have hid := hI.askP _ _ _ ha
      have hd := hI.dec x.robot x.id (by omega)
      have hs := atF_some 3 x.robot x.id EvP.reply hl
      rw [← hd] at hs
      rw [Option.isSome_some, if_pos rfl, Option.getD_some, ← apply_eq hm hI.bk]
      cases hdc : s.dec (x.robot, x.id) with
      | some r =>
        rw [hdc] at hs
        rw [if_pos (.inr (of_decide_eq_true hs.symm))]
        exact ⟨rfl, fun h => (by cases h)⟩
      | none =>
        rw [hdc] at hs
        rw [if_neg (fun h => h.elim (fun h => by cases h) (of_decide_eq_false hs.symm))]
        dsimp only
        split
        · exact ⟨rfl, fun h => (by cases h)⟩
        · exact ⟨rfl, fun _ => ⟨step_dec hI hx k3 (apply_ok hI.bk _ _ _) (by rw [ha]; exact fun e => by cases e), rfl⟩⟩
  rw [if_neg k3, if_neg k3]
  by_cases k2 : x.kind = 2
  · rw [if_pos k2, if_pos k2, if_neg k3]
    unfold ansP
    cases ha : s.asked (x.robot, x.id) with
    | none =>
      rw [if_pos (.inl rfl), if_pos (.inr (.inl rfl))]
      exact ⟨rfl, fun h => (by cases h)⟩
    | some c =>
      have hid := hI.askP _ _ _ ha
      have hd := hI.dec x.robot x.id (by omega)
      have hs := atF_some 3 x.robot x.id EvP.reply hl
      have hn := hI.ans x.robot x.id (by omega)
      have hs2 := atF_some 2 x.robot x.id EvP.id hl
      rw [← hn] at hs2
      rw [Option.isSome_some, if_pos rfl]
      have e5 : (some c = none ∨ x.id ≠ s.last x.robot ∨ 0 ≤ lastF l 2 x.robot x.id i) ↔ (x.id ≠ s.last x.robot ∨ some c = none ∨ s.ans (x.robot, x.id) = true) := by
        rw [hs2, decide_eq_true_eq]
        constructor
        · rintro (h | h | h)
          · cases h
          · exact .inl h
          · exact .inr (.inr h)
        · rintro (h | h | h)
          · exact .inr (.inl h)
          · cases h
          · exact .inr (.inr h)
      by_cases h5 : x.id ≠ s.last x.robot ∨ some c = none ∨ s.ans (x.robot, x.id) = true
      · rw [if_pos (e5.2 h5), if_pos h5]
        exact ⟨rfl, fun h => (by cases h)⟩
      rw [if_neg (fun h => h5 (e5.1 h)), if_neg h5]
      have e6 : ((x.reply.code = 0 ∧ (lastF l 3 x.robot x.id i < 0 ∨ (l[(max (lastF l 3 x.robot x.id i) 0).toNat]?).map EvP.reply ≠ some x.reply)) ∨ (x.reply.code ≠ 0 ∧ 0 ≤ lastF l 3 x.robot x.id i)) ↔ ((x.reply.code = 0 ∧ s.dec (x.robot, x.id) ≠ some x.reply) ∨ (x.reply.code ≠ 0 ∧ s.dec (x.robot, x.id) ≠ none)) := by
        rw [hd]
        unfold atF
        by_cases h0 : 0 ≤ lastF l 3 x.robot x.id i
        · rw [if_pos h0, show max (lastF l 3 x.robot x.id i) 0 = lastF l 3 x.robot x.id i by omega]
          have hlt := lastF_lt l 3 x.robot x.id i
          have hne : (l[(lastF l 3 x.robot x.id i).toNat]?).map EvP.reply ≠ none := by
            rw [List.getElem?_eq_getElem (by omega)]
            exact fun e => by cases e
          constructor
          · rintro (⟨h1, h2⟩ | ⟨h1, _⟩)
            · exact .inl ⟨h1, h2.resolve_left (by omega)⟩
            · exact .inr ⟨h1, hne⟩
          · rintro (⟨h1, h2⟩ | ⟨h1, _⟩)
            · exact .inl ⟨h1, .inr h2⟩
            · exact .inr ⟨h1, h0⟩
        · rw [if_neg h0]
          constructor
          · rintro (⟨h1, _⟩ | ⟨_, h2⟩)
            · exact .inl ⟨h1, fun e => by cases e⟩
            · exact absurd h2 h0
          · rintro (⟨h1, _⟩ | ⟨_, h2⟩)
            · exact .inl ⟨h1, .inl (by omega)⟩
            · exact absurd rfl h2
      by_cases h6 : (x.reply.code = 0 ∧ s.dec (x.robot, x.id) ≠ some x.reply) ∨ (x.reply.code ≠ 0 ∧ s.dec (x.robot, x.id) ≠ none)
      · rw [if_pos (e6.2 h6), if_pos h6]
        exact ⟨rfl, fun h => (by cases h)⟩
      · rw [if_neg (fun h => h6 (e6.1 h)), if_neg h6]
        exact ⟨rfl, fun _ => ⟨step_ans hI hx k2, rfl⟩⟩
  have k4 : x.kind = 4 := by omega
  rw [if_neg k2, if_neg k2, if_neg k3, if_pos k4, hI.tick x.tick]
  by_cases ht : s.ticked = true ∧ x.tick < s.tick
  · have ht2 : (s.ticked && decide (x.tick < s.tick)) = true := by rw [ht.1, decide_eq_true ht.2]; rfl
    rw [if_pos ht, if_pos ht2]
    exact ⟨rfl, fun h => (by cases h)⟩
  · have ht2 : ¬ (s.ticked && decide (x.tick < s.tick)) = true := fun h => ht (by simpa using h)
    rw [if_neg ht, if_neg ht2]
    exact ⟨rfl, fun _ => ⟨step_tick hI hx (by omega) ht, rfl⟩⟩
end
theorem go_eq {m : MapP} (hm : goodM m = true) (l : List EvP) : ∀ (r : List EvP) (i : Nat) (s : JdS), Inv m l i s → l.drop i = r → goP m s i r = goR m l s.bk i r
  | [], _, _, _, _ => rfl
  | x :: r, i, s, hI, hr => by
    have hx : l[i]? = some x := by
      have := congrArg (fun z : List EvP => z[0]?) hr
      simpa using this
    obtain ⟨h1, h2⟩ := inv_step hm hI hx
    rw [goP, goR, h1]
    by_cases h0 : (seeP m s x).2 = 0
    · obtain ⟨h3, h4⟩ := h2 h0
      rw [if_pos h0, if_neg (fun h => h h0), ← h4]
      exact go_eq hm l r (i + 1) _ h3 (by rw [← List.drop_drop, hr]; rfl)
    · rw [if_neg h0, if_pos h0]
/-- **The judge tells what the document tells.** -/
theorem check_eq {m : MapP} (hm : goodM m = true) (l : List EvP) : checkP m l = refCheckP m l := go_eq hm l l 0 JdS.new (inv_new m l) rfl
/-! ### Beginnings -/
theorem goP_append (m : MapP) : ∀ (l r : List EvP) (s : JdS) (i : Nat), (goP m s i l).2 ≠ 0 → goP m s i (l ++ r) = goP m s i l
  | [], _, _, _, h => absurd rfl h
  | x :: l, r, s, i, h => by
    rw [List.cons_append, goP, goP]
    rw [goP] at h
    split
    · rename_i h0
      rw [if_pos h0] at h
      exact goP_append m l r _ _ h
    · rfl
theorem goP_ge (m : MapP) : ∀ (l : List EvP) (s : JdS) (i : Nat), (goP m s i l).2 ≠ 0 → (i : Int) ≤ (goP m s i l).1
  | [], _, _, h => absurd rfl h
  | x :: l, s, i, h => by
    rw [goP] at h ⊢
    split
    · rename_i h0
      rw [if_pos h0] at h
      have := goP_ge m l _ _ h
      omega
    · exact Int.le_refl _
theorem goP_behind (m : MapP) : ∀ (l r : List EvP) (s : JdS) (i : Nat), (goP m s i l).2 = 0 → (goP m s i (l ++ r)).2 = 0 ∨ ((i + l.length : Nat) : Int) ≤ (goP m s i (l ++ r)).1
  | [], r, s, i, _ => by
    by_cases h : (goP m s i r).2 = 0
    · exact .inl h
    · exact .inr (goP_ge m r s i h)
  | x :: l, r, s, i, h => by
    rw [List.cons_append, goP]
    rw [goP] at h
    split
    · rename_i h0
      rw [if_pos h0] at h
      have := goP_behind m l r _ _ h
      rw [show i + 1 + l.length = i + (x :: l).length by rw [List.length_cons]; omega] at this
      exact this
    · rename_i h0
      rw [if_neg h0] at h
      exact absurd h h0
end Go.Proofs.Ytegjoabfoddadaa
