/-
  Texts joined: MnQ.
-/
import Derived.Test.YtacbkganjkipdaaGreatDoorMMpL4k
namespace Go.Proofs.YtacbkganjkipdaaGreatDoor
theorem filter_more (x : Int) (ns : List Int) (hx : x ∉ ns) : ∀ ds : List Int, (ds.filter fun n => decide (n ∈ x :: ns)).length = ds.count x + (ds.filter fun n => decide (n ∈ ns)).length
 | [] => rfl
 | d :: ds => by
  have ih := filter_more x ns hx ds
  by_cases h1 : d = x
  · subst h1
    rw [List.filter_cons_of_pos (p := fun n => decide (n ∈ d :: ns)) (decide_eq_true List.mem_cons_self), List.filter_cons_of_neg (p := fun n => decide (n ∈ ns)) (by rw [decide_eq_true_eq]; exact hx), List.count_cons_self, List.length_cons, ih]
    omega
  · by_cases h2 : d ∈ ns
    · rw [List.filter_cons_of_pos (p := fun n => decide (n ∈ x :: ns)) (decide_eq_true (List.mem_cons_of_mem _ h2)), List.filter_cons_of_pos (p := fun n => decide (n ∈ ns)) (decide_eq_true h2), List.count_cons_of_ne h1, List.length_cons, List.length_cons, ih]
      omega
    · rw [List.filter_cons_of_neg (p := fun n => decide (n ∈ x :: ns)) (by rw [decide_eq_true_eq]; exact fun h => (List.mem_cons.1 h).elim h1 h2), List.filter_cons_of_neg (p := fun n => decide (n ∈ ns)) (by rw [decide_eq_true_eq]; exact h2), List.count_cons_of_ne h1, ih]
theorem count_sum (ds : List Int) : ∀ ns : List Int, ns.Nodup → (ns.map fun n => ds.count n).sum = (ds.filter fun n => decide (n ∈ ns)).length
 | [], _ => by
  have : ds.filter (fun n => decide (n ∈ ([] : List Int))) = [] := List.filter_eq_nil_iff.2 fun a _ => by simp
  rw [this]
  rfl
 | x :: ns, h => by
  obtain ⟨h1, h2⟩ := List.nodup_cons.1 h
  rw [List.map_cons, List.sum_cons, count_sum ds ns h2, filter_more x ns h1]
theorem good_nums {v : VsP} (h : goodP v) : (v.tbs.map TbP.num).Nodup := by
 show List.Pairwise _ _
 rw [List.pairwise_map, List.pairwise_iff_getElem]
 intro i j hi hj hij
 exact (h.2 j _ (List.getElem?_eq_getElem hj)).once i _ hij (List.getElem?_eq_getElem hi)
theorem drop_iff {v : VsP} (h : goodP v) (ds : List Int) : DropOk v ds ↔ (∀ t ∈ v.tbs, ds.count t.num ≤ 1) ∧ ((v.tbs.map TbP.num).map fun n => ds.count n).sum = ds.length := by
 rw [count_sum ds _ (good_nums h)]
 constructor
 · rintro ⟨h1, h2⟩
   refine ⟨fun t _ => List.nodup_iff_count.1 h1 _, ?_⟩
   rw [List.filter_eq_self.2]
   intro n hn
   obtain ⟨t, ht, e⟩ := h2 n hn
   exact decide_eq_true (e ▸ List.mem_map_of_mem ht)
 · rintro ⟨h1, h2⟩
   have h3 := List.length_filter_eq_length_iff.1 h2
   have h4 : ∀ n ∈ ds, ∃ t ∈ v.tbs, t.num = n := fun n hn => by
    obtain ⟨t, ht, e⟩ := List.mem_map.1 (of_decide_eq_true (h3 n hn))
    exact ⟨t, ht, e⟩
   refine ⟨List.nodup_iff_count.2 fun a => ?_, h4⟩
   by_cases ha : a ∈ ds
   · obtain ⟨t, ht, e⟩ := h4 a ha
     rw [← e]
     exact h1 t ht
   · rw [List.count_eq_zero.2 ha]
     exact Nat.zero_le _
theorem kept_count (v : VsP) (ds : List Int) : keptT v ds = v.tbs.filter fun t => decide (ds.count t.num = 0) := by
 unfold keptT
 congr 1
 funext t
 exact decide_eq_decide.2 List.count_eq_zero.symm
structure Sel (L out l : List TbP) : Prop where
 perm : (out ++ l).Perm L
 sorted : out.Pairwise fun x y => ltT y x = false
 below : ∀ x ∈ out, ∀ y ∈ l, ltT y x = false
theorem Sel.start (L : List TbP) : Sel L [] L := ⟨.refl _, .nil, fun _ h => absurd h List.not_mem_nil⟩
theorem Sel.step {L out l : List TbP} (h : Sel L out l) {b : Nat} {t : TbP} (hb : l[b]? = some t) (hm : ∀ x ∈ l, ltT x t = false) : Sel L (out ++ [t]) (l.eraseIdx b) := by
 obtain ⟨hl, hg⟩ := List.getElem?_eq_some_iff.1 hb
 have ht := List.mem_of_getElem? hb
 have hsub : ∀ x ∈ l.eraseIdx b, x ∈ l := fun x hx => List.mem_of_mem_eraseIdx hx
 refine ⟨?_, ?_, fun x hx y hy => ?_⟩
 · refine List.Perm.trans ?_ h.perm
   rw [List.append_assoc]
   refine List.Perm.append_left out ?_
   have hspl : l.take b ++ t :: l.drop (b + 1) = l := by
    rw [← hg, ← List.drop_eq_getElem_cons hl, List.take_append_drop]
   have h2 := (List.perm_middle (a := t) (l₁ := l.take b) (l₂ := l.drop (b + 1))).symm
   rw [hspl, ← List.eraseIdx_eq_take_drop_succ] at h2
   exact h2
 · rw [List.pairwise_append]
   exact ⟨h.sorted, List.pairwise_singleton _ _, fun x hx y hy => by rw [List.mem_singleton.1 hy]; exact h.below x hx t ht⟩
 · rcases List.mem_append.1 hx with hx | hx
   · exact h.below x hx y (hsub y hy)
   · rw [List.mem_singleton.1 hx]
     exact hm y (hsub y hy)
theorem Sel.done {L out : List TbP} (h : Sel L out []) : out.Perm L ∧ out.Pairwise fun x y => ltT y x = false := ⟨by have := h.perm; rwa [List.append_nil] at this, h.sorted⟩
theorem best_step {l : List TbP} {k : Nat} {t u : TbP} (h : ∀ x ∈ l.take k, ltT x t = false) (hu : l[k]? = some u) : ∀ x ∈ l.take (k + 1), ltT x (if ltT u t = true then u else t) = false := fun x hx => by
 rw [List.take_add_one, hu] at hx
 by_cases c : ltT u t = true
 · rw [if_pos c]
   rcases List.mem_append.1 hx with hx | hx
   · exact ltT_ord.tr u t x (ltT_ord.asym _ _ c) (h x hx)
   · obtain rfl : x = u := by simpa using hx
     exact ltT_ord.self x
 · rw [if_neg c]
   rcases List.mem_append.1 hx with hx | hx
   · exact h x hx
   · obtain rfl : x = u := by simpa using hx
     simpa using c
end Go.Proofs.YtacbkganjkipdaaGreatDoor
