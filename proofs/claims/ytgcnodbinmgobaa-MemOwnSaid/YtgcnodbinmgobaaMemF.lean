/- walks: All, Same -/
import Derived.Test.YtgcnodbinmgobaaMemE
namespace Go.Proofs.Ytgcnodbinmgobaa
open Go.RowKit

/-- A list of entries as cells. -/
def ents (l : List Ent) : List Value := l.flatMap Ent.cells
theorem ents_length (l : List Ent) : (ents l).length = l.length * 4 := by
  induction l with
  | nil => rfl
  | cons a l ih => unfold ents at ih ⊢; rw [List.flatMap_cons, List.length_append, ih, List.length_cons]; simp [Ent.cells]; omega
theorem ents_append (a b : List Ent) : ents (a ++ b) = ents a ++ ents b := by simp [ents, List.flatMap_append]
theorem ents_sing (e : Ent) : ents [e] = [.string e.key, .int .i64 e.seq, .bool e.del, .string e.val] := by simp [ents, Ent.cells]
theorem ents_one (l : List Ent) : ∀ u ∈ ents l, u.oneCell' = true := by
  intro u hu
  unfold ents at hu
  obtain ⟨e, _, h⟩ := List.mem_flatMap.1 hu
  simp only [Ent.cells, List.mem_cons, List.not_mem_nil, or_false] at h
  rcases h with rfl | rfl | rfl | rfl <;> rfl
theorem ents_get : ∀ {l : List Ent} {k : Nat} {e : Ent}, l[k]? = some e → ∀ j, j < 4 → (ents l)[k * 4 + j]? = e.cells[j]?
  | [], k, e, h, _, _ => by simp at h
  | a :: l, 0, e, h, j, hj => by
    simp at h
    subst h
    unfold ents
    rw [List.flatMap_cons, List.getElem?_append_left (by simp [Ent.cells]; omega), Nat.zero_mul, Nat.zero_add]
  | a :: l, k + 1, e, h, j, hj => by
    have ih := ents_get (l := l) (k := k) (by simpa using h) j hj
    unfold ents at ih ⊢
    rw [List.flatMap_cons, List.getElem?_append_right (by simp [Ent.cells]; omega)]
    rw [← ih]
    congr 1
    simp [Ent.cells]
    omega
theorem Reads.ent {w : World} {B n : Nat} {A : Option Addr} {l : List Ent} (h : Reads w B 4 A n (ents l)) {k : Nat} (hk : k < n) : ∃ ad e, A = some ad ∧ ad.block < B ∧ l[k]? = some e ∧
    w.cell? (ad.add (k * 4)) = some (.string e.key) ∧ w.cell? ⟨(ad.add (k * 4)).block, (ad.add (k * 4)).off + 1, none⟩ = some (.int .i64 e.seq) ∧ w.cell? ⟨(ad.add (k * 4)).block, (ad.add (k * 4)).off + 2, none⟩ = some (.bool e.del) ∧ w.cell? ⟨(ad.add (k * 4)).block, (ad.add (k * 4)).off + 3, none⟩ = some (.string e.val) := by
  obtain ⟨ad, rfl, hb, hc⟩ := h.2 (by omega)
  have hl : k < l.length := by have := h.1; rw [ents_length] at this; omega
  have he : l[k]? = some l[k] := List.getElem?_eq_getElem hl
  have hj : ∀ j, w.cell? ⟨(ad.add (k * 4)).block, (ad.add (k * 4)).off + (j + 1), none⟩ = w.cell? (ad.add (k * 4 + (j + 1))) := fun j => by rw [← add_of_add]; rfl
  exact ⟨ad, l[k], rfl, hb, he, hc (k * 4) _ (ents_get he 0 (by omega)), (hj 0).trans (hc _ _ (ents_get he 1 (by omega))), (hj 1).trans (hc _ _ (ents_get he 2 (by omega))), (hj 2).trans (hc _ _ (ents_get he 3 (by omega)))⟩
theorem Reads.ents_length {w : World} {B n : Nat} {A : Option Addr} {l : List Ent} (h : Reads w B 4 A n (ents l)) : l.length = n := by
  have := h.1
  rw [Go.Proofs.Ytgcnodbinmgobaa.ents_length] at this
  omega
theorem elem_ent : Elem Try.prog 26 28 4 48 := elem_of (by kernel_rfl)

set_option maxRecDepth 100000 in
set_option maxHeartbeats 1000000 in
theorem same_any (A A' : Option Addr) (n n' c c' : Nat) (l l' : List Ent) (w : World) (h : Reads w w.heap.size 4 A n (ents l)) (h' : Reads w w.heap.size 4 A' n' (ents l')) (hn : n ≤ 1000000) (hn' : n' ≤ 1000000) :
    Calls Try.prog 11 #[.slice A n c, .slice A' n' c'] w fun e w' => e = .returned (.bool (decide (l = l'))) ∧ Below w.heap.size w w' := by
  have hl := h.ents_length
  have hl' := h'.ents_length
  obtain ⟨r, hr⟩ : ∃ r, r = decide (l = l') := ⟨_, rfl⟩
  rw [← hr]
  have HR := Lib.hid hr
  have HX := Lib.hid (h.keeps (Nat.le_refl _))
  have HX' := Lib.hid (h'.keeps (Nat.le_refl _))
  have HL := Lib.hid hl
  have HL' := Lib.hid hl'
  clear hl hl' h h' hr
  by_cases hnn : n = n'
  · subst hnn
    go_enter Try.func11, Try.ntmps11
    go_wp2_with fail
    go_loopw [13] (fun iv wr => ∃ k : Nat, iv = .int .i64 k ∧ k ≤ n ∧ (∀ i, i < k → l[i]? = l'[i]?) ∧ Below w.heap.size w wr) (fun iv _ => n - (intOf iv).toNat)
    case atStart => exact ⟨0, rfl, by omega, fun i hi => by omega, Below.refl _ _⟩
    case round =>
      obtain ⟨k, rfl, hk, hs, hb⟩ := hrel
      have HS := Lib.hid hs
      have HB := Lib.hid hb
      clear hs hb
      by_cases hkn : (k : Int) < (n : Int)
      · obtain ⟨ad, e, rfl, _, he, hc⟩ := (HX.out.at_ HB.out).ent (k := k) (by omega)
        obtain ⟨ad', e', rfl, _, he', hc'⟩ := (HX'.out.at_ HB.out).ent (k := k) (by omega)
        have hq := ent_neq e e'
        unfold Ent.agg at hq
        have hk0 : (0 : Int) ≤ (k : Int) := by omega
        have HE := Lib.hid he
        have HE' := Lib.hid he'
        clear he he'
        cases hd : decide (e = e') with
        | true =>
          rw [hd] at hq
          have HD := Lib.hid hd
          clear hd
          go_wp2_with fail
          go_quiet (fail)
          go_wp2_with fail
          go_roundw
          case rel => 
            have he := of_decide_eq_true HD.out
            subst he
            exact ⟨k + 1, by go_num, by omega, fun i hi => by
              rcases Nat.lt_or_ge i k with h | h
              · exact HS.out i h
              · obtain rfl : i = k := by omega
                rw [HE.out, HE'.out], below_drewN HB.out _⟩
          case measure => simp [intOf]; omega
        | false =>
          rw [hd] at hq
          have HD := Lib.hid hd
          clear hd
          go_wp2_with fail
          go_quiet (fail)
          go_wp2_with fail
          go_ret
          refine ⟨?_, below_drewN HB.out _⟩
          have e : decide (l = l') = false := decide_eq_false (by
            rintro rfl
            have h := HE.out
            rw [HE'.out] at h
            injection h with h
            exact of_decide_eq_false HD.out h.symm)
          rw [HR.out, e]
          rfl
      · go_wp2_with fail
        go_ret
        refine ⟨?_, HB.out⟩
        have e : decide (l = l') = true := decide_eq_true (by
          apply List.ext_getElem?
          intro i
          rcases Nat.lt_or_ge i k with h | h
          · exact HS.out i h
          · rw [List.getElem?_eq_none (by have := HL.out; omega), List.getElem?_eq_none (by have := HL'.out; omega)])
        rw [HR.out, e]
        rfl
  · have hnn' : ((n : Int) == (n' : Int)) = false := by simpa using (by omega : ¬ (n : Int) = n')
    have hnn2 : ((n : Int) != (n' : Int)) = true := by simpa using (by omega : ¬ (n : Int) = n')
    go_enter Try.func11, Try.ntmps11
    go_wp2_with fail
    go_ret
    refine ⟨?_, Below.refl _ _⟩
    have e : decide (l = l') = false := decide_eq_false (by
      rintro rfl
      exact hnn (HL.out.symm.trans HL'.out))
    rw [HR.out, e]
    rfl

set_option maxRecDepth 100000 in
set_option maxHeartbeats 1000000 in
theorem all_any (T hb : Nat) (ns : List Nd) (w : World) (h : Mem w T hb ns) (hlen : ns.length ≤ 1000) :
    Calls Try.prog 12 #[ptr T] w fun e w' => ∃ A c, e = .returned (.slice A ns.length c) ∧ Own w' w.heap.size 28 4 A ns.length c (ents (ns.map (·.e))) ∧ Below w.heap.size w w' := by
  obtain ⟨l, hl⟩ : ∃ l, l = ns.length := ⟨_, rfl⟩
  rw [← hl]
  have HL := Lib.hid hl
  have HM := Lib.hid h.keeps
  rw [← hl] at hlen
  have hc4 := h.tab.top.cell 4
  rw [show (tops hb ns.length (bytesL (ns.map (·.e))))[4]? = some (.slice (some ⟨hb, 0, none⟩) 12 12) from rfl] at hc4
  have hc0 := (h.tab.row0.cell 0).trans (row_get _ _ _ (by omega))
  clear hl h
  unfold ptr
  go_enter Try.func12, Try.ntmps12
  go_wp2_with fail
  clear hc4 hc0
  go_loopw [3, 4] (fun v nv wr => ∃ (k : Nat) (A : Option Addr) (c : Nat), v = .slice A k c ∧ nv = nxv ns k 0 ∧ k ≤ l ∧ Own wr w.heap.size 28 4 A k c (ents ((ns.map (·.e)).take k)) ∧ Below w.heap.size w wr) (fun v _ _ => l - (match v with | .slice _ k _ => k | _ => 0))
  case atStart => exact ⟨0, none, 0, rfl, rfl, by omega, by simpa [ents] using Own.nil_ w w.heap.size 28 4, Below.refl _ _⟩
  case round =>
    obtain ⟨k, A, c, rfl, rfl, hk, ho, hb'⟩ := hrel
    have HO := Lib.hid ho
    have HB := Lib.hid hb'
    clear ho hb'
    have hm := HM.out.at_ HB.out
    rcases hm.first (p := k) (by have := HL.out; omega) with ⟨hpl, hnx⟩ | ⟨n, hn, hnx⟩
    · rw [hnx]
      have HP := Lib.hid (hpl.trans HL.out.symm)
      clear hm hpl hnx
      go_wp2_with fail
      go_ret
      have e := HP.out
      subst e
      have ho := HO.out
      rw [List.take_of_length_le (by rw [List.length_map, ← HL.out]; exact Nat.le_refl _)] at ho
      exact ⟨A, c, rfl, ho, HB.out⟩
    · rw [hnx]
      unfold ptr
      have hent := hm.tab.ent hn
      have hkl : k < ns.length := (List.getElem?_eq_some_iff.1 hn).1
      have hkl2 : k < l := by have := HL.out; omega
      have htake : ents ((ns.map (·.e)).take (k + 1)) = ents ((ns.map (·.e)).take k) ++ n.e.cells := by
        rw [List.take_add_one, List.getElem?_map, hn, ents_append]
        simp [ents]
      have HTK := Lib.hid htake
      have HM2 := Lib.hid (HM.out.on HB.out)
      have hsz := HB.out.size
      have HN := Lib.hid hn
      clear hm hnx hn htake hkl
      go_wp2_with (at_builtin; refine halt_ ?_)
      refine unhalt ?_
      have hnw := reads_new (size := 4) (cs := #[.string n.e.key, .int .i64 n.e.seq, .bool n.e.del, .string n.e.val]) wr 28 1 rfl
      refine wpList_app elem_ent (HO.out.alloc _) hnw (by simp [Value.oneCell']) (by omega) (by simp; omega) _ _ rfl rfl rfl rfl ?_
      intro A' c' w1 ho1 hu1 hat1
      have hb1 := below_app (HB.out.alloc hsz (.cells #[.string n.e.key, .int .i64 n.e.seq, .bool n.e.del, .string n.e.val] 28)) (by simp; omega) (HO.out.alloc _) (Nat.le_refl _) hu1
      have HO1 := Lib.hid ho1
      have HB1 := Lib.hid hb1
      clear ho1 hu1 hat1 hb1 hnw
      have hm := HM.out.at_ HB1.out
      have hn := HN.out
      obtain ⟨b2, nb2, hh2, hat2, hc42, hcL2, hLh2⟩ := hm.tab.place (j := k + 1) (L := 0) (by omega) (fun _ => ⟨n, hn, by have := (hm.tab.node k n hn).2.2.1; omega⟩)
      have hb2 : b2 = n.b := by
        simp [at_, hn, ptr] at hat2
        exact hat2.symm
      subst hb2
      have hLh3 : (0 : Int) < (hh2 : Int) := by omega
      clear hm hn hat2
      go_wp2_with fail
      go_roundw
      case rel => exact ⟨k + 1, A', c', by go_num, rfl, by omega, by rw [HTK.out]; exact HO1.out, HB1.out⟩
      case measure => simp; omega
end Go.Proofs.Ytgcnodbinmgobaa
