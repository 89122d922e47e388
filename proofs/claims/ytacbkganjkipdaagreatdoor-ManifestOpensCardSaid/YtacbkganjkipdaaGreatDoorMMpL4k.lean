/-
  Texts joined: MnP.
-/
import Derived.Test.YtacbkganjkipdaaGreatDoorMMpL4j
namespace Go.Proofs.YtacbkganjkipdaaGreatDoor
structure TbP where
 num : Int
 lev : Int
 fst : List UInt8
 lst : List UInt8
 deriving DecidableEq, Inhabited
structure VsP where
 tbs : List TbP
 nx : Int
 lg : Int
 sq : Int
 deriving DecidableEq, Inhabited
structure EdP where
 add : List TbP
 drop : List Int
 nx : Int
 lg : Int
 sq : Int
 deriving DecidableEq, Inhabited
def ltT (a b : TbP) : Bool := decide (a.lev < b.lev ∨ a.lev = b.lev ∧ a.num < b.num)
theorem ltT_iff {a b : TbP} : ltT a b = true ↔ a.lev < b.lev ∨ a.lev = b.lev ∧ a.num < b.num := by simp [ltT]
theorem ltT_not {a b : TbP} : ltT a b = false ↔ ¬ (a.lev < b.lev ∨ a.lev = b.lev ∧ a.num < b.num) := by simp [ltT]
theorem ltT_ord : Ord ltT where
 asym := fun x y h => by rw [ltT_iff] at h; rw [ltT_not]; omega
 tr := fun x y z h1 h2 => by rw [ltT_not] at h1 h2 ⊢; omega
theorem ltT_trans {a b c : TbP} (h1 : ltT a b = true) (h2 : ltT b c = true) : ltT a c = true := by
 rw [ltT_iff] at h1 h2 ⊢
 omega
structure TbOk (nx : Int) (t : TbP) : Prop where
 lev : t.lev = 0 ∨ t.lev = 1
 lo : 1 ≤ t.num
 hi : t.num ≤ 999999
 next : t.num < nx
 keys : ¬ t.lst < t.fst
 fst : t.fst.length ≤ 64
 lst : t.lst.length ≤ 64
structure OkAt (nx : Int) (l : List TbP) (i : Nat) (t : TbP) : Prop where
 ok : TbOk nx t
 once : ∀ (j : Nat) (u : TbP), j < i → l[j]? = some u → u.num ≠ t.num
 ahead : ∀ u : TbP, 1 ≤ i → l[i - 1]? = some u → ltT u t = true
def RngOk (v : VsP) : Prop := (1 ≤ v.nx ∧ v.nx ≤ 1000000) ∧ (1 ≤ v.lg ∧ v.lg ≤ 999999) ∧ 0 ≤ v.sq ∧ v.sq ≤ 4611686018427387904
def goodP (v : VsP) : Prop := RngOk v ∧ ∀ (i : Nat) (t : TbP), v.tbs[i]? = some t → OkAt v.nx v.tbs i t
noncomputable instance (v : VsP) : Decidable (goodP v) := Classical.propDecidable _
theorem good_rise {nx : Int} {l : List TbP} (h : ∀ (i : Nat) (t : TbP), l[i]? = some t → OkAt nx l i t) : ∀ (j i : Nat) (t u : TbP), i < j → l[i]? = some t → l[j]? = some u → ltT t u = true
 | 0, i, _, _, hij, _, _ => absurd hij (Nat.not_lt_zero _)
 | j + 1, i, t, u, hij, ht, hu => by
  have hj : j < l.length := by have := (List.getElem?_eq_some_iff.1 hu).1; omega
  obtain ⟨w, hw⟩ : ∃ w, l[j]? = some w := ⟨_, List.getElem?_eq_getElem hj⟩
  have h1 := (h (j + 1) u hu).ahead w (by omega) hw
  by_cases e : i = j
  · subst e
    rw [hw] at ht
    obtain rfl := Option.some.inj ht
    exact h1
  · exact ltT_trans (good_rise h j i t w (by omega) ht hw) h1
theorem good_once {nx : Int} {l : List TbP} (h : ∀ (i : Nat) (t : TbP), l[i]? = some t → OkAt nx l i t) {t u : TbP} (ht : t ∈ l) (hu : u ∈ l) (he : t.num = u.num) : t = u := by
 obtain ⟨i, hi⟩ := List.getElem?_of_mem ht
 obtain ⟨j, hj⟩ := List.getElem?_of_mem hu
 rcases Nat.lt_trichotomy i j with k | k | k
 · exact absurd he ((h j u hj).once i t k hi)
 · subst k
   rw [hi] at hj
   exact Option.some.inj hj
 · exact absurd he.symm ((h i t hi).once j u k hj)
theorem good_uniq {nx : Int} {l m : List TbP} (h : ∀ (i : Nat) (t : TbP), l[i]? = some t → OkAt nx l i t) (hp : m.Perm l) (hs : m.Pairwise fun x y => ltT y x = false) : m = l := by
 refine List.Perm.eq_of_pairwise (le := fun x y => ltT y x = false) (fun a b ha hb h1 h2 => ?_) hs ?_ hp
 · refine good_once h (hp.mem_iff.1 ha) hb ?_
   rw [ltT_not] at h1 h2
   omega
 · rw [List.pairwise_iff_getElem]
   intro i j hi hj hij
   exact ltT_ord.asym _ _ (good_rise h j i _ _ hij (List.getElem?_eq_getElem hi) (List.getElem?_eq_getElem hj))
def sortT (l : List TbP) : List TbP := l.mergeSort fun x y => !ltT y x
theorem sortT_perm (l : List TbP) : (sortT l).Perm l := List.mergeSort_perm _ _
theorem sortT_sorted (l : List TbP) : (sortT l).Pairwise fun x y => ltT y x = false := by
 have := List.pairwise_mergeSort (le := fun x y => !ltT y x) (fun a b c h1 h2 => by
  simp only [Bool.not_eq_true'] at h1 h2 ⊢
  exact ltT_ord.tr a b c h1 h2) (fun a b => by
  cases h : ltT b a with
  | false => rfl
  | true => rw [ltT_ord.asym _ _ h]; rfl) l
 exact this.imp fun h => by simpa using h
theorem good_sort {l m : List TbP} {nx lg sq : Int} (hp : m.Perm l) (hs : m.Pairwise fun x y => ltT y x = false) : (goodP ⟨m, nx, lg, sq⟩ ↔ goodP ⟨sortT l, nx, lg, sq⟩) ∧ (goodP ⟨m, nx, lg, sq⟩ → m = sortT l) := by
 have h1 : goodP ⟨m, nx, lg, sq⟩ → m = sortT l := fun h => (good_uniq h.2 ((sortT_perm l).trans hp.symm) (sortT_sorted l)).symm
 have h2 : goodP ⟨sortT l, nx, lg, sq⟩ → m = sortT l := fun h => good_uniq h.2 (hp.trans (sortT_perm l).symm) hs
 exact ⟨⟨fun h => h1 h ▸ h, fun h => (h2 h).symm ▸ h⟩, h1⟩
def keptT (v : VsP) (ds : List Int) : List TbP := v.tbs.filter fun t => decide (t.num ∉ ds)
def DropOk (v : VsP) (ds : List Int) : Prop := ds.Nodup ∧ ∀ n ∈ ds, ∃ t ∈ v.tbs, t.num = n
def RiseOk (v : VsP) (e : EdP) : Prop := ¬ (e.nx ≠ 0 ∧ e.nx < v.nx) ∧ ¬ (e.lg ≠ 0 ∧ e.lg < v.lg) ∧ ¬ (e.sq ≠ 0 ∧ e.sq < v.sq)
def outP (v : VsP) (e : EdP) : VsP := ⟨sortT (keptT v e.drop ++ e.add), max v.nx e.nx, max v.lg e.lg, max v.sq e.sq⟩
def FitOk (v : VsP) (e : EdP) : Prop := goodP v ∧ RiseOk v e ∧ DropOk v e.drop ∧ goodP (outP v e)
noncomputable instance (v : VsP) (e : EdP) : Decidable (FitOk v e) := Classical.propDecidable _
noncomputable instance (v : VsP) (ds : List Int) : Decidable (DropOk v ds) := Classical.propDecidable _
noncomputable instance (v : VsP) (e : EdP) : Decidable (RiseOk v e) := Classical.propDecidable _
theorem kept_step {v : VsP} (hv : goodP v) {ds : List Int} {n : Int} {i : Nat} {t : TbP} (hi : (keptT v ds)[i]? = some t) (ht : t.num = n) : (keptT v ds).eraseIdx i = keptT v (ds ++ [n]) ∧ n ∉ ds ∧ ∃ u ∈ v.tbs, u.num = n := by
 have hm := List.mem_of_getElem? hi
 obtain ⟨hm1, hm2⟩ := List.mem_filter.1 hm
 have hnd : n ∉ ds := by rw [← ht]; exact of_decide_eq_true hm2
 refine ⟨?_, hnd, t, hm1, ht⟩
 have he : keptT v (ds ++ [n]) = (keptT v ds).filter fun u => decide (u.num ≠ n) := by
  unfold keptT
  rw [List.filter_filter]
  congr 1
  funext u
  simp only [List.mem_append, List.mem_singleton, not_or, ne_eq, Bool.decide_and, decide_not]
  exact Bool.and_comm _ _
 rw [he]
 obtain ⟨hl, hg⟩ := List.getElem?_eq_some_iff.1 hi
 have hspl : keptT v ds = (keptT v ds).take i ++ t :: (keptT v ds).drop (i + 1) := by
  rw [← hg, ← List.drop_eq_getElem_cons hl, List.take_append_drop]
 have hrise : (keptT v ds).Pairwise fun x y => x.num ≠ y.num := by
  refine List.Pairwise.filter _ ?_
  rw [List.pairwise_iff_getElem]
  intro a b ha hb hab
  exact (hv.2 b _ (List.getElem?_eq_getElem hb)).once a _ hab (List.getElem?_eq_getElem ha)
 rw [List.eraseIdx_eq_take_drop_succ]
 generalize (keptT v ds).take i = p at hspl ⊢
 generalize (keptT v ds).drop (i + 1) = s at hspl ⊢
 rw [hspl] at hrise ⊢
 obtain ⟨h1, h2, h3⟩ := List.pairwise_append.1 hrise
 obtain ⟨h4, h5⟩ := List.pairwise_cons.1 h2
 rw [List.filter_append, List.filter_cons, if_neg (by simp [ht])]
 congr 1
 · exact (List.filter_eq_self.2 fun u hu => decide_eq_true (by rw [← ht]; exact h3 u hu t List.mem_cons_self)).symm
 · exact (List.filter_eq_self.2 fun u hu => decide_eq_true (by rw [← ht]; exact fun e => h4 u hu e.symm)).symm
theorem DropOk.nil (v : VsP) : DropOk v [] := ⟨List.nodup_nil, fun _ h => absurd h List.not_mem_nil⟩
theorem DropOk.snoc {v : VsP} {ds : List Int} {n : Int} (h : DropOk v ds) (hn : n ∉ ds) (hu : ∃ u ∈ v.tbs, u.num = n) : DropOk v (ds ++ [n]) :=
 ⟨List.nodup_append.2 ⟨h.1, List.pairwise_singleton _ _, fun a ha b hb => by rw [List.mem_singleton.1 hb]; exact fun e => hn (e ▸ ha)⟩, fun m hm => by
  rcases List.mem_append.1 hm with hm | hm
  · exact h.2 m hm
  · rw [List.mem_singleton.1 hm]
    exact hu⟩
theorem drop_bad {v : VsP} {ds : List Int} {n : Int} {r : List Int} (h : ∀ t ∈ keptT v ds, t.num ≠ n) : ¬ DropOk v (ds ++ n :: r) := fun hd => by
 obtain ⟨t, ht, hn⟩ := hd.2 n (by simp)
 refine h t (List.mem_filter.2 ⟨ht, decide_eq_true ?_⟩) hn
 rw [hn]
 have := (List.nodup_append.1 hd.1).2.2
 exact fun hm => this n hm n List.mem_cons_self rfl
end Go.Proofs.YtacbkganjkipdaaGreatDoor
