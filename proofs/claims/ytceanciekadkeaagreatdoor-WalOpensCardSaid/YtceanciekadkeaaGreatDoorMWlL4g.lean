/-
  Texts joined: WlL.
-/
import Derived.Test.YtceanciekadkeaaGreatDoorMWlL4f
/- lives of a log, plain: what is appended is there -/
namespace Go.Proofs.YtceanciekadkeaaGreatDoor
section
variable {α : Type} {nm : α → List UInt8}
theorem putG_end {f : α} : ∀ {l : List α}, (∀ x ∈ l, nm x < nm f) → putG nm f l = l ++ [f]
  | [], _ => rfl
  | y :: l, h => by
    rw [putG, if_pos (h y List.mem_cons_self), putG_end (fun x hx => h x (List.mem_cons_of_mem _ hx))]
    rfl
theorem putG_over {f g : α} : ∀ {l : List α}, (∀ x ∈ l, nm x < nm f) → nm g = nm f → putG nm f (l ++ [g]) = l ++ [f]
  | [], _, h => by
    rw [List.nil_append, putG, if_neg (by rw [h]; exact List.lt_irrefl _), if_pos h]
    rfl
  | y :: l, h, he => by
    rw [List.cons_append, putG, if_pos (h y List.mem_cons_self), putG_over (fun x hx => h x (List.mem_cons_of_mem _ hx)) he]
    rfl
theorem findG_end {g : α} {q : List UInt8} {l : List α} (h : ∀ x ∈ l, nm x ≠ q) (hg : nm g = q) : findG nm q (l ++ [g]) = some g := by
  induction l with
  | nil => rw [List.nil_append, findG_cons, if_pos hg]
  | cons y l ih =>
    rw [List.cons_append, findG_cons, if_neg (h y List.mem_cons_self)]
    exact ih fun x hx => h x (List.mem_cons_of_mem _ hx)
end
def segFile (n : Nat) (b : List UInt8) (y : Nat) : FiP := ⟨nameP n, b, y⟩
/-- Whole segments, from a number on. -/
def clF : Nat → List (List (List UInt8)) → List FiP
  | _, [] => []
  | s, G :: C => segFile s (seals G) (seals G).length :: clF (s + 1) C
def curF (s : Nat) (G : List (List UInt8)) (k : Nat) : List FiP := if G = [] then [] else [segFile s (seals G) (seals (G.take k)).length]
theorem clF_snoc : ∀ (s : Nat) (C : List (List (List UInt8))) (G : List (List UInt8)), clF s (C ++ [G]) = clF s C ++ [segFile (s + C.length) (seals G) (seals G).length]
  | s, [], G => rfl
  | s, D :: C, G => by
    rw [List.cons_append, clF, clF_snoc (s + 1) C G, clF, List.length_cons, show s + 1 + C.length = s + (C.length + 1) by omega]
    rfl
theorem clF_mem : ∀ {s : Nat} {C : List (List (List UInt8))} {f : FiP}, f ∈ clF s C → ∃ n G, s ≤ n ∧ n < s + C.length ∧ G ∈ C ∧ f = segFile n (seals G) (seals G).length
  | s, G :: C, f, h => by
    rcases List.mem_cons.1 h with rfl | h
    · exact ⟨s, G, Nat.le_refl _, by simp, List.mem_cons_self, rfl⟩
    · obtain ⟨n, G', h1, h2, h3, rfl⟩ := clF_mem h
      exact ⟨n, G', by omega, by simp only [List.length_cons]; omega, List.mem_cons_of_mem _ h3, rfl⟩
theorem clF_len : ∀ (s : Nat) (C : List (List (List UInt8))), (clF s C).length = C.length
  | _, [] => rfl
  | s, G :: C => by simp [clF, clF_len (s + 1) C]
theorem seals_take_le' (G : List (List UInt8)) (k : Nat) : (seals (G.take k)).length ≤ (seals G).length := by
  conv => rhs; rw [← List.take_append_drop k G]
  rw [seals_append, List.length_append]
  omega
theorem sync_dead {P : DrP} {q : List UInt8} {f : FiP} (hf : P.find q = some f) (hd : P.dead = true) : P.sync q = (P, 6) := by
  unfold DrP.sync
  rw [hf]
  exact if_pos hd
theorem sync_ok {P : DrP} {q : List UInt8} {f : FiP} (hf : P.find q = some f) (hd : ¬ P.dead = true) : P.sync q = (P.step.put { f with sy := f.b.length }, 0) := by
  unfold DrP.sync
  rw [hf]
  exact if_neg hd
theorem append_deadP {P : DrP} {q l : List UInt8} (hq : Good q) (hn : P.fs.length < 256) (hb : (P.bytes q).length + l.length ≤ 262144) (hd : P.dead = true) : P.append q l = (P, 6) := by
  unfold DrP.append
  rw [if_neg (fun e => e hq), if_neg (fun e => e.elim (fun e => by omega) (fun e => by omega)), if_pos hd]
theorem append_hitP {P : DrP} {q l : List UInt8} {f : FiP} (hq : Good q) (hf : P.find q = some f) (hn : P.fs.length < 256) (hb : (P.bytes q).length + l.length ≤ 262144) (hd : ¬ P.dead = true) : P.append q l = (P.step.put { f with b := f.b ++ l }, 0) := by
  unfold DrP.append
  rw [if_neg (fun e => e hq), if_neg (fun e => e.elim (fun e => by omega) (fun e => by omega)), if_neg hd, hf]
theorem append_newP {P : DrP} {q l : List UInt8} (hq : Good q) (hf : P.find q = none) (hn : P.fs.length < 256) (hb : (P.bytes q).length + l.length ≤ 262144) (hd : ¬ P.dead = true) : P.append q l = (P.step.put ⟨q, l, 0⟩, 0) := by
  unfold DrP.append
  rw [if_neg (fun e => e hq), if_neg (fun e => e.elim (fun e => by omega) (fun e => by omega)), if_neg hd, hf]
/-- A log in the midst of its life: B the files that were there (number below s0), C whole segments, G the payloads of its own, k of them synced. -/
structure Liv (P : DrP) (L : LgP) (B : List FiP) (s0 : Nat) (C : List (List (List UInt8))) (G : List (List UInt8)) (k : Nat) : Prop where
  ok : P.Ok
  fs : P.fs = B ++ clF s0 C ++ curF L.seg G k
  base : ∀ f ∈ B, ∃ n, 1 ≤ n ∧ n < s0 ∧ f.nm = nameP n
  sync : ∀ f ∈ B, f.sy = f.b.length
  pos : 1 ≤ s0
  seg : L.seg = s0 + C.length
  k : k ≤ G.length
  pl : ∀ p ∈ C.flatten ++ G, p.length ≤ 4096
  sz : (seals G).length ≤ 5200
section
variable {P : DrP} {L : LgP} {B : List FiP} {s0 : Nat} {C : List (List (List UInt8))} {G : List (List UInt8)} {k : Nat}
theorem Liv.below (h : Liv P L B s0 C G k) (hs : L.seg ≤ 999999) : ∀ f ∈ B ++ clF s0 C, f.nm < nameP L.seg := fun f hf => by
  rcases List.mem_append.1 hf with hf | hf
  · obtain ⟨n, h1, h2, h3⟩ := h.base f hf
    rw [h3]
    exact nameP_lt (by omega) (by rw [h.seg]; omega)
  · obtain ⟨n, _, h1, h2, _, rfl⟩ := clF_mem hf
    exact nameP_lt (by omega) (by rw [h.seg]; exact h2)
theorem Liv.find_nil (h : Liv P L B s0 C [] k) (hs : L.seg ≤ 999999) : P.find (nameP L.seg) = none := by
  unfold DrP.find
  rw [h.fs]
  show findG _ _ (B ++ clF s0 C ++ []) = none
  rw [List.append_nil]
  exact findG_none_of fun f hf => lt_ne (h.below hs f hf)
theorem Liv.fs_cur (h : Liv P L B s0 C G k) (hG : G ≠ []) : P.fs = B ++ clF s0 C ++ [segFile L.seg (seals G) (seals (G.take k)).length] := by
  rw [h.fs, curF, if_neg hG]
theorem Liv.find_cur (h : Liv P L B s0 C G k) (hs : L.seg ≤ 999999) (hG : G ≠ []) : P.find (nameP L.seg) = some (segFile L.seg (seals G) (seals (G.take k)).length) := by
  unfold DrP.find
  rw [h.fs_cur hG]
  exact findG_end (fun f hf => lt_ne (h.below hs f hf)) rfl
theorem Liv.size (h : Liv P L B s0 C G k) (hs : L.seg ≤ 999999) : sizeL P L = (seals G).length := by
  unfold sizeL DrP.bytes
  rw [if_pos hs]
  by_cases hG : G = []
  · subst hG
    rw [h.find_nil hs]
    rfl
  · rw [h.find_cur hs hG]
    rfl
theorem Liv.loose (h : Liv P L B s0 C G k) (hs : L.seg ≤ 999999) : P.loose (nameP L.seg) = (seals G).length - (seals (G.take k)).length := by
  unfold DrP.loose
  by_cases hG : G = []
  · subst hG
    rw [h.find_nil hs]
    simp [seals]
  · rw [h.find_cur hs hG]
    rfl
/-- All that is loose is synced, or the drive is dead. -/
theorem Liv.sync_ (h : Liv P L B s0 C G k) (hs : L.seg ≤ 999999) (hd : L.dead = false) :
    ((syncL P L).2.2 = 0 ∧ Liv (syncL P L).1 (syncL P L).2.1 B s0 C G G.length ∧ (syncL P L).2.1 = L ∧ (P.left = none → (syncL P L).1.left = none)) ∨
    ((syncL P L).2.2 = 6 ∧ Liv (syncL P L).1 (syncL P L).2.1 B s0 C G k ∧ (syncL P L).2.1.dead = true ∧ P.left ≠ none) := by
  obtain ⟨s, b⟩ := L
  obtain rfl : b = false := hd
  have hlo := h.loose hs
  unfold syncL
  dsimp only at hs hlo ⊢
  rw [if_neg (by decide)]
  by_cases hz : 999999 < s ∨ P.loose (nameP s) = 0
  · rw [if_pos hz]
    left
    refine ⟨rfl, ?_, rfl, id⟩
    have hz : P.loose (nameP s) = 0 := hz.resolve_left (by omega)
    rw [hz] at hlo
    have hl2 := seals_take_le' G k
    refine ⟨h.ok, ?_, h.base, h.sync, h.pos, h.seg, Nat.le_refl _, h.pl, h.sz⟩
    rw [h.fs, curF, curF, List.take_length, show (seals (G.take k)).length = (seals G).length by omega]
  · rw [if_neg hz]
    have hG : G ≠ [] := fun e => hz (.inr (by rw [hlo, e]; simp [seals]))
    have hf := h.find_cur hs hG
    dsimp only at hf
    have hok := h.ok.sync_ (nameP s)
    by_cases hdd : P.dead = true
    · right
      rw [sync_dead hf hdd]
      refine ⟨rfl, ⟨h.ok, h.fs, h.base, h.sync, h.pos, h.seg, h.k, h.pl, h.sz⟩, rfl, fun e => ?_⟩
      rw [DrP.dead, e] at hdd
      simp at hdd
    · left
      rw [sync_ok hf hdd] at hok ⊢
      refine ⟨rfl, ⟨hok, ?_, h.base, h.sync, h.pos, h.seg, Nat.le_refl _, h.pl, h.sz⟩, rfl, fun e => ?_⟩
      · show putG FiP.nm _ P.fs = _
        rw [h.fs_cur hG]
        refine Eq.trans (putG_over (by exact h.below hs) rfl) ?_
        rw [curF, if_neg hG, List.take_length]
        rfl
      · show P.left.map _ = none
        rw [e]
        rfl
/-- A frame is put behind the log's own, or the drive is dead. -/
theorem Liv.put (h : Liv P L B s0 C G k) (hs : L.seg ≤ 999999) (hd : L.dead = false) {p : List UInt8} (hp : p.length ≤ 4096) (hn : P.fs.length < 256) (hsz : (seals G).length + (sealL p).length ≤ 5200) :
    ((putL P L (sealL p)).2.2 = 0 ∧ Liv (putL P L (sealL p)).1 (putL P L (sealL p)).2.1 B s0 C (G ++ [p]) k ∧ (putL P L (sealL p)).2.1 = L ∧ (P.left = none → (putL P L (sealL p)).1.left = none)) ∨
    ((putL P L (sealL p)).2.2 = 6 ∧ Liv (putL P L (sealL p)).1 (putL P L (sealL p)).2.1 B s0 C G k ∧ (putL P L (sealL p)).2.1.dead = true ∧ P.left ≠ none) := by
  obtain ⟨s, b⟩ := L
  obtain rfl : b = false := hd
  have hszL := h.size hs
  unfold putL
  dsimp only at hs ⊢
  unfold sizeL at hszL
  rw [if_pos hs] at hszL
  dsimp only at hszL
  rw [if_neg (by omega)]
  have hok := h.ok.append (nameP s) (sealL p)
  have hk2 : (G ++ [p]).take k = G.take k := List.take_append_of_le_length h.k
  have hpl : ∀ x ∈ C.flatten ++ (G ++ [p]), x.length ≤ 4096 := fun x hx => by
    rw [← List.append_assoc] at hx
    rcases List.mem_append.1 hx with hx | hx
    · exact h.pl x hx
    · rw [List.mem_singleton.1 hx]
      exact hp
  have hss : (seals (G ++ [p])).length ≤ 5200 := by
    rw [seals_snoc, List.length_append]
    exact hsz
  have hkk : k ≤ (G ++ [p]).length := by
    rw [List.length_append]
    exact Nat.le_trans h.k (Nat.le_add_right _ _)
  have hb : (P.bytes (nameP s)).length + (sealL p).length ≤ 262144 := by omega
  by_cases hdd : P.dead = true
  · right
    rw [append_deadP (nameP_good s) hn hb hdd]
    refine ⟨rfl, ⟨h.ok, h.fs, h.base, h.sync, h.pos, h.seg, h.k, h.pl, h.sz⟩, rfl, fun e => ?_⟩
    rw [DrP.dead, e] at hdd
    simp at hdd
  · left
    have hleft : P.left = none → P.step.left = none := fun e => by
      show P.left.map _ = none
      rw [e]
      rfl
    by_cases hG : G = []
    · subst hG
      have hf := h.find_nil hs
      dsimp only at hf
      rw [append_newP (nameP_good s) hf hn hb hdd] at hok ⊢
      refine ⟨rfl, ⟨hok, ?_, h.base, h.sync, h.pos, h.seg, hkk, hpl, hss⟩, rfl, hleft⟩
      show putG FiP.nm _ P.fs = _
      have hfs := h.fs
      rw [curF, if_pos rfl, List.append_nil] at hfs
      rw [hfs]
      refine Eq.trans (putG_end (by exact h.below hs)) ?_
      rw [curF, if_neg (by simp), hk2]
      have : k = 0 := Nat.le_zero.1 h.k
      subst this
      simp [segFile, seals]
    · have hf := h.find_cur hs hG
      dsimp only at hf
      rw [append_hitP (nameP_good s) hf hn hb hdd] at hok ⊢
      refine ⟨rfl, ⟨hok, ?_, h.base, h.sync, h.pos, h.seg, hkk, hpl, hss⟩, rfl, hleft⟩
      show putG FiP.nm _ P.fs = _
      rw [h.fs_cur hG]
      refine Eq.trans (putG_over (by exact h.below hs) rfl) ?_
      rw [curF, if_neg (by simp), hk2, seals_snoc]
      rfl
/-- What the log has, one behind the other. -/
abbrev allP (C : List (List (List UInt8))) (G : List (List UInt8)) : List (List UInt8) := C.flatten ++ G
/-- A payload is appended, or the drive is dead. -/
theorem Liv.app (h : Liv P L B s0 C G k) (hs : L.seg ≤ 999998) (hd : L.dead = false) {p : List UInt8} (hp : p.length ≤ 4096) (hn : B.length + C.length < 250) (hp2 : (sealL p).length ≤ 4110) :
    ∃ C' G' k', Liv (appL P L p).1 (appL P L p).2.1 B s0 C' G' k' ∧ C'.length ≤ C.length + 1 ∧ C.flatten.length + k ≤ C'.flatten.length + k' ∧
      (((appL P L p).2.2 = 0 ∧ allP C' G' = allP C G ++ [p] ∧ (appL P L p).2.1.dead = false ∧ (P.left = none → (appL P L p).1.left = none) ∧ ((C' = C ∧ G' = G ++ [p]) ∨ (C' = C ++ [G] ∧ G' = [p]))) ∨
       ((appL P L p).2.2 = 6 ∧ allP C' G' = allP C G ∧ (appL P L p).2.1.dead = true ∧ P.left ≠ none)) := by
  have hsz := h.size (by omega)
  have hlen : P.fs.length ≤ B.length + C.length + 1 := by
    rw [h.fs, List.length_append, List.length_append, clF_len, curF]
    split <;> simp
  unfold appL
  rw [if_neg (by omega), if_neg (by rw [hd]; decide), hsz]
  by_cases hr : 0 < (seals G).length ∧ 1024 < (seals G).length + (sealL p).length
  · rw [if_pos hr]
    have hGne : G ≠ [] := fun e => by rw [e] at hr; exact absurd hr.1 (by simp [seals])
    rcases h.sync_ (by omega) hd with ⟨h1, h2, h3, h4⟩ | ⟨h1, h2, h3, h4⟩
    · have hroll : rollL P L = ((syncL P L).1, { (syncL P L).2.1 with seg := min (syncL P L).2.1.seg 999999 + 1 }, ((min (syncL P L).2.1.seg 999999 + 1 : Nat) : Int), 0) := by
        unfold rollL
        rw [if_neg (fun e => e h1)]
      rw [hroll]
      dsimp only
      rw [if_neg (fun e => e rfl)]
      generalize syncL P L = r at h1 h2 h3 h4 ⊢
      obtain ⟨Q, L', e⟩ := r
      dsimp only at h1 h2 h3 h4 ⊢
      subst h3
      have hL' : Liv Q { L' with seg := min L'.seg 999999 + 1 } B s0 (C ++ [G]) [] 0 := by
        refine ⟨h2.ok, ?_, h2.base, h2.sync, h2.pos, ?_, Nat.zero_le _, ?_, by simp [seals]⟩
        · rw [h2.fs_cur hGne, clF_snoc, ← h2.seg, List.take_length, curF, if_pos rfl, List.append_nil, List.append_assoc]
        · show min L'.seg 999999 + 1 = _
          rw [List.length_append, List.length_singleton, Nat.min_eq_left (by omega), h2.seg]
          omega
        · rw [List.append_nil, List.flatten_append, List.flatten_singleton]
          exact h2.pl
      have hQ : Q.fs.length < 256 := by
        have := h2.fs
        rw [this, List.length_append, List.length_append, clF_len, curF]
        split <;> simp <;> omega
      have hmin : min L'.seg 999999 + 1 ≤ 999999 := by omega
      have hfl : (C ++ [G]).flatten = C.flatten ++ G := by rw [List.flatten_append, List.flatten_singleton]
      rcases hL'.put hmin hd hp hQ (by simp [seals]; omega) with ⟨k1, k2, k3, k4⟩ | ⟨k1, k2, k3, k4⟩
      · refine ⟨C ++ [G], [] ++ [p], 0, k2, by simp, ?_, .inl ⟨k1, ?_, ?_, fun e => k4 (h4 e), .inr ⟨rfl, rfl⟩⟩⟩
        · rw [hfl, List.length_append]
          have := h.k
          omega
        · show (C ++ [G]).flatten ++ ([] ++ [p]) = _
          rw [hfl]
          rfl
        · rw [k3]
          exact hd
      · refine ⟨C ++ [G], [], 0, k2, by simp, ?_, .inr ⟨k1, ?_, k3, fun e => k4 (h4 e)⟩⟩
        · rw [hfl, List.length_append]
          have := h.k
          omega
        · show (C ++ [G]).flatten ++ [] = _
          rw [hfl, List.append_nil]
    · have hroll : rollL P L = ((syncL P L).1, (syncL P L).2.1, 0, (syncL P L).2.2) := by
        unfold rollL
        rw [if_pos (by rw [h1]; decide)]
      rw [hroll]
      dsimp only
      rw [if_pos (by rw [h1]; decide)]
      exact ⟨C, G, k, h2, by omega, Nat.le_refl _, .inr ⟨h1, rfl, h3, h4⟩⟩
  · rw [if_neg hr]
    have hsz2 : (seals G).length + (sealL p).length ≤ 5200 := by
      rcases Nat.eq_zero_or_pos (seals G).length with h0 | h0
      · omega
      · have : ¬ 1024 < (seals G).length + (sealL p).length := fun e => hr ⟨h0, e⟩
        omega
    rcases h.put (by omega) hd hp (by omega) hsz2 with ⟨k1, k2, k3, k4⟩ | ⟨k1, k2, k3, k4⟩
    · exact ⟨C, G ++ [p], k, k2, by omega, Nat.le_refl _, .inl ⟨k1, by show C.flatten ++ (G ++ [p]) = _; rw [List.append_assoc], by rw [k3]; exact hd, k4, .inl ⟨rfl, rfl⟩⟩⟩
    · exact ⟨C, G, k, k2, by omega, Nat.le_refl _, .inr ⟨k1, rfl, k3, k4⟩⟩
end
end Go.Proofs.YtceanciekadkeaaGreatDoor
