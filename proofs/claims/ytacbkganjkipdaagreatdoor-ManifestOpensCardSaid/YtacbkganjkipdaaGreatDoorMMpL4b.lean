/-
  Texts joined: DvP.
-/
import Derived.Test.YtacbkganjkipdaaGreatDoorMMpL4a
namespace Go.Proofs.YtacbkganjkipdaaGreatDoor
section
variable {α β : Type} (nm : α → List UInt8)
def putG (f : α) : List α → List α
 | [] => [f]
 | x :: r => if nm x < nm f then x :: putG f r else if nm x = nm f then f :: r else f :: x :: r
def findG (q : List UInt8) (l : List α) : Option α := l.find? fun x => decide (nm x = q)
def delG (q : List UInt8) (l : List α) : List α := l.filter fun x => decide (nm x ≠ q)
def Rise (l : List α) : Prop := l.Pairwise fun x y => nm x < nm y
end
theorem lt_tri (a b : List UInt8) : a < b ∨ a = b ∨ b < a := by
 by_cases h1 : a < b
 · exact .inl h1
 · by_cases h2 : b < a
   · exact .inr (.inr h2)
   · exact .inr (.inl (List.le_antisymm h2 h1))
theorem lt_ne {a b : List UInt8} (h : a < b) : a ≠ b := fun e => List.lt_irrefl _ (e ▸ h)
section
variable {α β : Type} {nm : α → List UInt8} {nm' : β → List UInt8}
theorem findG_cons (q : List UInt8) (x : α) (l : List α) : findG nm q (x :: l) = if nm x = q then some x else findG nm q l := by
 unfold findG
 rw [List.find?_cons]
 by_cases h : nm x = q <;> simp [h]
theorem findG_some {q : List UInt8} {l : List α} {x : α} (h : findG nm q l = some x) : x ∈ l ∧ nm x = q := ⟨List.mem_of_find?_eq_some h, of_decide_eq_true (by simpa using List.find?_some h)⟩
theorem findG_none {q : List UInt8} {l : List α} (h : findG nm q l = none) : ∀ x ∈ l, nm x ≠ q := fun x hx => by
 have := List.find?_eq_none.1 h x hx
 simpa using this
theorem findG_none_of {q : List UInt8} {l : List α} (h : ∀ x ∈ l, nm x ≠ q) : findG nm q l = none := List.find?_eq_none.2 fun x hx => by simpa using h x hx
theorem Rise.tail {x : α} {l : List α} (h : Rise nm (x :: l)) : Rise nm l := (List.pairwise_cons.1 h).2
theorem Rise.head {x : α} {l : List α} (h : Rise nm (x :: l)) : ∀ y ∈ l, nm x < nm y := (List.pairwise_cons.1 h).1
theorem findG_mem {l : List α} (h : Rise nm l) {x : α} (hx : x ∈ l) : findG nm (nm x) l = some x := by
 induction l with
 | nil => cases hx
 | cons y l ih =>
  rw [findG_cons]
  rcases List.mem_cons.1 hx with rfl | hx
  · rw [if_pos rfl]
  · rw [if_neg (lt_ne (h.head x hx)), ih h.tail hx]
theorem putG_mem {f : α} : ∀ {l : List α} {x : α}, x ∈ putG nm f l → x = f ∨ (x ∈ l)
 | [], x, h => .inl (List.mem_singleton.1 h)
 | y :: l, x, h => by
  unfold putG at h
  split at h
  · rcases List.mem_cons.1 h with rfl | h
    · exact .inr List.mem_cons_self
    · exact (putG_mem h).imp id (List.mem_cons_of_mem _)
  · split at h
    · exact (List.mem_cons.1 h).imp id (List.mem_cons_of_mem _)
    · exact List.mem_cons.1 h
theorem putG_rise {f : α} : ∀ {l : List α}, Rise nm l → Rise nm (putG nm f l)
 | [], _ => List.pairwise_singleton _ _
 | y :: l, h => by
  unfold putG
  split
  · rename_i hlt
    exact List.pairwise_cons.2 ⟨fun x hx => (putG_mem hx).elim (fun e => e ▸ hlt) (h.head x), putG_rise h.tail⟩
  · rename_i hlt
    split
    · rename_i he
      exact List.pairwise_cons.2 ⟨fun x hx => he ▸ h.head x hx, h.tail⟩
    · rename_i hne
      have : nm f < nm y := ((lt_tri (nm y) (nm f)).resolve_left hlt).resolve_left hne
      exact List.pairwise_cons.2 ⟨fun x hx => (List.mem_cons.1 hx).elim (fun e => e ▸ this) (fun hx => List.lt_trans this (h.head x hx)), h⟩
theorem findG_put {f : α} (q : List UInt8) : ∀ {l : List α}, Rise nm l → findG nm q (putG nm f l) = if nm f = q then some f else findG nm q l
 | [], _ => by rw [putG, findG_cons]
 | y :: l, h => by
  unfold putG
  split
  · rename_i hlt
    rw [findG_cons, findG_cons, findG_put q h.tail]
    by_cases hq : nm f = q
    · rw [if_pos hq, if_pos hq, if_neg (hq ▸ lt_ne hlt)]
    · rw [if_neg hq, if_neg hq]
  · split
    · rename_i he
      rw [findG_cons, findG_cons]
      by_cases hq : nm f = q
      · rw [if_pos hq, if_pos hq]
      · rw [if_neg hq, if_neg hq, if_neg (he ▸ hq)]
    · rw [findG_cons]
theorem putG_map {g : α → β} (hg : ∀ x, nm' (g x) = nm x) (f : α) : ∀ l : List α, (putG nm f l).map g = putG nm' (g f) (l.map g)
 | [] => rfl
 | y :: l => by
  rw [putG, List.map_cons, putG, hg, hg]
  split
  · rw [List.map_cons, putG_map hg f l]
  · split <;> rfl
theorem findG_map {g : α → β} (hg : ∀ x, nm' (g x) = nm x) (q : List UInt8) (l : List α) : findG nm' q (l.map g) = (findG nm q l).map g := by
 unfold findG
 rw [List.find?_map]
 congr 2
 funext x
 simp [hg]
theorem delG_map {g : α → β} (hg : ∀ x, nm' (g x) = nm x) (q : List UInt8) (l : List α) : (delG nm q l).map g = delG nm' q (l.map g) := by
 unfold delG
 rw [List.filter_map]
 congr 2
 funext x
 simp [hg]
theorem Rise.map {g : α → β} (hg : ∀ x, nm' (g x) = nm x) {l : List α} : Rise nm' (l.map g) ↔ Rise nm l := by
 unfold Rise
 rw [List.pairwise_map]
 simp [hg]
theorem delG_rise {q : List UInt8} {l : List α} (h : Rise nm l) : Rise nm (delG nm q l) := List.Pairwise.sublist List.filter_sublist h
theorem findG_del {q p : List UInt8} : ∀ {l : List α}, findG nm p (delG nm q l) = if p = q then none else findG nm p l
 | [] => by simp [delG, findG]
 | y :: l => by
  have ih := findG_del (q := q) (p := p) (l := l)
  unfold delG at ih ⊢
  rw [List.filter_cons]
  by_cases hy : nm y = q
  · rw [if_neg (by simp [hy]), ih, findG_cons]
    by_cases hp : p = q
    · rw [if_pos hp, if_pos hp]
    · rw [if_neg hp, if_neg hp, if_neg (fun e => hp (e.symm.trans hy))]
  · rw [if_pos (by simp [hy]), findG_cons, findG_cons, ih]
    by_cases hp : p = q
    · subst hp
      rw [if_neg hy, if_pos rfl, if_pos rfl]
    · rw [if_neg hp, if_neg hp]
theorem delG_len (q : List UInt8) (l : List α) : (delG nm q l).length ≤ l.length := List.length_filter_le _ _
theorem putG_len {f : α} : ∀ {l : List α}, (putG nm f l).length ≤ l.length + 1
 | [] => Nat.le_refl _
 | y :: l => by
  unfold putG
  split
  · have := putG_len (f := f) (l := l)
    simp only [List.length_cons]
    omega
  · split <;> simp
theorem put_split {g : α} {q : List UInt8} {l : List α} (hl : Rise nm l) (h : findG nm q l = some g) : ∃ a b, l = a ++ g :: b ∧ ∀ f, nm f = q → putG nm f l = a ++ f :: b := by
 induction l with
 | nil => cases h
 | cons y l ih =>
  rw [findG_cons] at h
  by_cases hy : nm y = q
  · rw [if_pos hy] at h
    obtain rfl := Option.some.inj h
    refine ⟨[], l, rfl, fun f hf => ?_⟩
    rw [putG, if_neg (by rw [hy, hf]; exact List.lt_irrefl _), if_pos (by rw [hy, hf])]
    rfl
  · rw [if_neg hy] at h
    obtain ⟨a, b, rfl, h2⟩ := ih hl.tail h
    refine ⟨y :: a, b, rfl, fun f hf => ?_⟩
    have : nm y < nm f := by
     rw [hf, ← (findG_some h).2]
     exact hl.head g (by simp)
    rw [putG, if_pos this, h2 f hf]
    rfl
theorem put_len_hit {f g : α} {l : List α} (hl : Rise nm l) (h : findG nm (nm f) l = some g) : (putG nm f l).length = l.length := by
 obtain ⟨a, b, e, h2⟩ := put_split hl h
 rw [h2 f rfl, e]
 simp
theorem put_perm {f : α} : ∀ {l : List α}, findG nm (nm f) l = none → (putG nm f l).Perm (f :: l)
 | [], _ => List.Perm.refl _
 | y :: l, h => by
  rw [findG_cons] at h
  by_cases hy : nm y = nm f
  · rw [if_pos hy] at h
    cases h
  · rw [if_neg hy] at h
    rw [putG]
    split
    · exact ((put_perm h).cons y).trans (List.Perm.swap _ _ _)
    · exact List.Perm.refl _
theorem rise_sorted {l : List (List UInt8)} (h : Rise id l) : l.mergeSort (fun x y => decide (x ≤ y)) = l :=
 List.mergeSort_of_pairwise (h.imp fun h => decide_eq_true (List.le_of_lt h))
end
def okB (x : UInt8) : Prop := (97 ≤ x.toNat ∧ x.toNat ≤ 122) ∨ (48 ≤ x.toNat ∧ x.toNat ≤ 57) ∨ x.toNat = 45 ∨ x.toNat = 46
instance (x : UInt8) : Decidable (okB x) := by unfold okB; infer_instance
structure Good (q : List UInt8) : Prop where
 ne : q ≠ []
 len : q.length ≤ 32
 all : ∀ x ∈ q, okB x
instance (q : List UInt8) : Decidable (Good q) := decidable_of_iff (q ≠ [] ∧ q.length ≤ 32 ∧ ∀ x ∈ q, okB x) ⟨fun ⟨a, b, c⟩ => ⟨a, b, c⟩, fun ⟨a, b, c⟩ => ⟨a, b, c⟩⟩
structure FiP where
 nm : List UInt8
 b : List UInt8
 sy : Nat
 deriving DecidableEq, Inhabited
structure DrP where
 fs : List FiP
 steps : Int
 left : Option Nat
 deriving DecidableEq, Inhabited
def DrP.new : DrP := ⟨[], 0, none⟩
structure DrP.Ok (P : DrP) : Prop where
 rise : Rise FiP.nm P.fs
 good : ∀ f ∈ P.fs, Good f.nm
 len : P.fs.length ≤ 256
 size : ∀ f ∈ P.fs, f.b.length ≤ 262144
 sync : ∀ f ∈ P.fs, f.sy ≤ f.b.length
 left : ∀ n, P.left = some n → n ≤ 9223372036854775807
abbrev DrP.find (P : DrP) (q : List UInt8) : Option FiP := findG FiP.nm q P.fs
def DrP.bytes (P : DrP) (q : List UInt8) : List UInt8 := match P.find q with
 | some f => f.b
 | none => []
def DrP.loose (P : DrP) (q : List UInt8) : Nat := match P.find q with
 | some f => f.b.length - f.sy
 | none => 0
def DrP.dead (P : DrP) : Bool := decide (P.left = some 0)
def DrP.step (P : DrP) : DrP := { P with steps := IntKind.i64.wrap (P.steps + 1), left := P.left.map (· - 1) }
def DrP.put (P : DrP) (f : FiP) : DrP := { P with fs := putG FiP.nm f P.fs }
def DrP.without (P : DrP) (q : List UInt8) : DrP := { P with fs := delG FiP.nm q P.fs }
def DrP.append (P : DrP) (q l : List UInt8) : DrP × Int :=
 if ¬ Good q then (P, 20)
 else if (P.find q = none ∧ 256 ≤ P.fs.length) ∨ 262144 < (P.bytes q).length + l.length then (P, 5)
 else if P.dead then (P, 6)
 else match P.find q with
  | some f => (P.step.put { f with b := f.b ++ l }, 0)
  | none => (P.step.put ⟨q, l, 0⟩, 0)
def DrP.sync (P : DrP) (q : List UInt8) : DrP × Int := match P.find q with
 | none => (P, if Good q then 4 else 20)
 | some f => if P.dead then (P, 6) else (P.step.put { f with sy := f.b.length }, 0)
def DrP.delete (P : DrP) (q : List UInt8) : DrP × Int := match P.find q with
 | none => (P, if Good q then 4 else 20)
 | some _ => if P.dead then (P, 6) else (P.step.without q, 0)
def DrP.rename (P : DrP) (q p : List UInt8) : DrP × Int :=
 if ¬ Good p then (P, 20) else match P.find q with
 | none => (P, if Good q then 4 else 20)
 | some f => if P.dead then (P, 6) else (((P.step.without q).put { f with nm := p }), 0)
section
variable {P : DrP}
theorem DrP.new_ok : DrP.new.Ok := ⟨List.Pairwise.nil, fun _ h => absurd h List.not_mem_nil, Nat.zero_le _, fun _ h => absurd h List.not_mem_nil, fun _ h => absurd h List.not_mem_nil, fun _ h => by cases h⟩
theorem DrP.Ok.step (h : P.Ok) : P.step.Ok := ⟨h.rise, h.good, h.len, h.size, h.sync, fun n hn => by
 cases hl : P.left with
 | none => rw [DrP.step, hl] at hn; cases hn
 | some m =>
  rw [DrP.step, hl] at hn
  have := h.left m hl
  simp at hn
  omega⟩
theorem DrP.Ok.put (h : P.Ok) {f : FiP} (h1 : Good f.nm) (h2 : f.b.length ≤ 262144) (h3 : f.sy ≤ f.b.length) (h4 : P.find f.nm ≠ none ∨ P.fs.length < 256) : (P.put f).Ok := ⟨putG_rise h.rise,
 fun g hg => (putG_mem hg).elim (fun e => e ▸ h1) (h.good g), by
  rcases h4 with h4 | h4
  · cases hf : P.find f.nm with
    | none => exact absurd hf h4
    | some g =>
     show (putG _ _ _).length ≤ _
     rw [put_len_hit h.rise hf]
     exact h.len
  · have := putG_len (nm := FiP.nm) (f := f) (l := P.fs)
    show (putG _ _ _).length ≤ _
    omega,
 fun g hg => (putG_mem hg).elim (fun e => e ▸ h2) (h.size g), fun g hg => (putG_mem hg).elim (fun e => e ▸ h3) (h.sync g), h.left⟩
theorem DrP.Ok.without (h : P.Ok) (q : List UInt8) : (P.without q).Ok := ⟨delG_rise h.rise, fun f hf => h.good f (List.mem_filter.1 hf).1, Nat.le_trans (delG_len _ _) h.len, fun f hf => h.size f (List.mem_filter.1 hf).1, fun f hf => h.sync f (List.mem_filter.1 hf).1, h.left⟩
theorem DrP.Ok.append (h : P.Ok) (q l : List UInt8) : (P.append q l).1.Ok := by
 unfold DrP.append
 split
 · exact h
 · rename_i hg
   have hg : Good q := Decidable.not_not.1 hg
   split
   · exact h
   · rename_i hn
     have h1 : ¬ (P.find q = none ∧ 256 ≤ P.fs.length) := fun h => hn (.inl h)
     have h2 : ¬ 262144 < (P.bytes q).length + l.length := fun h => hn (.inr h)
     split
     · exact h
     · cases hf : P.find q with
       | none =>
        refine h.step.put hg ?_ (Nat.zero_le _) (.inr ?_)
        · dsimp only
          omega
        · rw [hf] at h1
          have : ¬ 256 ≤ P.fs.length := fun e => h1 ⟨rfl, e⟩
          show P.fs.length < 256
          omega
       | some f =>
        obtain ⟨hm, rfl⟩ := findG_some hf
        have hb : P.bytes f.nm = f.b := by unfold DrP.bytes; rw [hf]
        rw [hb] at h2
        refine h.step.put hg ?_ ?_ (.inl ?_)
        · simp only [List.length_append]
          omega
        · have := h.sync f hm
          simp only [List.length_append]
          omega
        · show P.find f.nm ≠ none
          rw [hf]
          simp
theorem DrP.Ok.sync_ (h : P.Ok) (q : List UInt8) : (P.sync q).1.Ok := by
 unfold DrP.sync
 cases hf : P.find q with
 | none => exact h
 | some f =>
  obtain ⟨hm, rfl⟩ := findG_some hf
  dsimp only
  split
  · exact h
  · exact h.step.put (h.good f hm) (h.size f hm) (Nat.le_refl _) (.inl (by show P.find f.nm ≠ none; rw [hf]; simp))
theorem DrP.Ok.delete (h : P.Ok) (q : List UInt8) : (P.delete q).1.Ok := by
 unfold DrP.delete
 cases hf : P.find q with
 | none => exact h
 | some f =>
  dsimp only
  split
  · exact h
  · exact h.step.without q
end
end Go.Proofs.YtacbkganjkipdaaGreatDoor
