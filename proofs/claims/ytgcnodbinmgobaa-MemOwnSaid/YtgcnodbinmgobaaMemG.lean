/- the table under one name; walk: convoylaw04.awake -/
import Derived.Test.YtgcnodbinmgobaaMemF
namespace Go.Proofs.Ytgcnodbinmgobaa
open Go.RowKit

/-- A table at T that holds l; F: its blocks. -/
def Tbl (w : World) (T : Nat) (l : List Ent) (F : Nat → Prop) : Prop := ∃ hb ns, Mem w T hb ns ∧ ns.map (·.e) = l ∧ F = Foot T hb ns
/-- The same, all its blocks from B on. -/
def TblB (w : World) (B T : Nat) (l : List Ent) : Prop := ∃ F, Tbl w T l F ∧ ∀ k, F k → B ≤ k

section
variable {w w' : World} {B T : Nat} {l : List Ent} {F S : Nat → Prop}
theorem Tbl.lt (h : Tbl w T l F) : ∀ k, F k → k < w.heap.size := by
  obtain ⟨hb, ns, h, _, rfl⟩ := h
  exact h.tab.foot_lt
theorem Tbl.ord (h : Tbl w T l F) : Ordered l := by
  obtain ⟨hb, ns, h, rfl, _⟩ := h
  exact h.ord
theorem Tbl.small (h : Tbl w T l F) : ∀ e ∈ l, e.key.size ≤ 64 ∧ e.val.size ≤ 1024 := by
  obtain ⟨hb, ns, h, rfl, _⟩ := h
  intro e he
  obtain ⟨n, hn, rfl⟩ := List.mem_map.1 he
  exact h.small n hn
theorem Tbl.upd (h : Tbl w T l F) (hu : Upd S w w') (hs : ∀ k, F k → ¬ S k) : Tbl w' T l F := by
  obtain ⟨hb, ns, h, rfl, rfl⟩ := h
  exact ⟨hb, ns, h.upd hu hs, rfl, rfl⟩
theorem Tbl.below (h : Tbl w T l F) (hb : Below w.heap.size w w') : Tbl w' T l F := h.upd (Go.Proofs.Ytgcnodbinmgobaa.Below.upd hb) fun _ _ x => x
theorem TblB.below (h : TblB w B T l) (hb : Below w.heap.size w w') : TblB w' B T l := by
  obtain ⟨F, h, h2⟩ := h
  exact ⟨F, h.below hb, h2⟩
theorem TblB.ord (h : TblB w B T l) : Ordered l := by
  obtain ⟨F, h, _⟩ := h
  exact h.ord
theorem TblB.small (h : TblB w B T l) : ∀ e ∈ l, e.key.size ≤ 64 ∧ e.val.size ≤ 1024 := by
  obtain ⟨F, h, _⟩ := h
  exact h.small
theorem TblB.upd (h : TblB w B T l) (hu : Upd S w w') (hs : ∀ k, B ≤ k → k < w.heap.size → ¬ S k) : TblB w' B T l := by
  obtain ⟨F, h, h2⟩ := h
  exact ⟨F, h.upd hu fun k hk => hs k (h2 k hk) (h.lt k hk), h2⟩
end

theorem new_t (w : World) : Calls Try.prog 7 #[] w fun e w' => ∃ T F, e = .returned (.pointer (some ⟨T, 0, none⟩)) ∧ Tbl w' T [] F ∧ (∀ k, F k → w.heap.size ≤ k) ∧ Below w.heap.size w w' :=
  (new_any w).mono fun _ _ ⟨T, hb, he, hm, hf, hb'⟩ => ⟨T, _, he, ⟨hb, [], hm, rfl, rfl⟩, hf, hb'⟩
theorem new_b (w : World) : Calls Try.prog 7 #[] w fun e w' => ∃ T, e = .returned (.pointer (some ⟨T, 0, none⟩)) ∧ TblB w' w.heap.size T [] ∧ Below w.heap.size w w' :=
  (new_t w).mono fun _ _ ⟨T, F, he, hm, hf, hb'⟩ => ⟨T, he, ⟨F, hm, hf⟩, hb'⟩
theorem put_t (T : Nat) (l : List Ent) (F : Nat → Prop) (x : Ent) (height : Int) (w : World) (h : Tbl w T l F) (hlen : l.length ≤ 1000) :
    Calls Try.prog 9 #[.pointer (some ⟨T, 0, none⟩), .agg #[.string x.key, .int .i64 x.seq, .bool x.del, .string x.val], .int .i64 height] w fun r w' =>
      r = .returned (.int .i64 (putL l x).2) ∧ ∃ F', Tbl w' T (putL l x).1 F' ∧ (∀ k, F' k → F k ∨ w.heap.size ≤ k) ∧ Upd F w w' := by
  obtain ⟨hb, ns, h, rfl, rfl⟩ := h
  refine (put_any T hb ns x height w h (by rwa [List.length_map] at hlen)).mono ?_
  rintro r w' ⟨h1, ⟨ns', h2, h3, h4⟩, h5⟩
  exact ⟨h1, _, ⟨hb, ns', h3, h2, rfl⟩, h4, h5⟩
/-- What a Put leaves alone: rows of entries. -/
def Past (w w' : World) : Prop := ∀ (base size : Nat) (A : Option Addr) (n c : Nat) (xs : List Value), Own w base 28 size A n c xs → Own w' base 28 size A n c xs
theorem Tbl.past {w w' : World} {T : Nat} {l : List Ent} {F : Nat → Prop} (h : Tbl w T l F) (hu : Upd F w w') : Past w w' := by
  obtain ⟨hb, ns, h, rfl, rfl⟩ := h
  intro base size A n c xs ho
  refine ho.upd hu fun g hg => ?_
  rcases ho.form with ⟨rfl, _⟩ | ⟨g', cur, rfl, _, hh, _⟩
  · cases hg
  · cases hg
    exact h.tab.notFoot hh (by decide) (by decide) (by decide)
theorem Tbl.app {w w' : World} {T : Nat} {l : List Ent} {F : Nat → Prop} {base size n c : Nat} {A : Option Addr} {xs : List Value} (h : Tbl w T l F) (ho : Own w base 28 size A n c xs) (hu : Upd (fun k => blockOf A = some k) w w') : Tbl w' T l F := by
  refine h.upd hu fun k hk e => ?_
  obtain ⟨hb, ns, h, rfl, rfl⟩ := h
  rcases ho.form with ⟨rfl, _⟩ | ⟨g', cur, rfl, _, hh, _⟩
  · cases e
  · cases e
    exact h.tab.notFoot hh (by decide) (by decide) (by decide) hk
theorem TblB.app {w w' : World} {B T : Nat} {l : List Ent} {base size n c : Nat} {A : Option Addr} {xs : List Value} (h : TblB w B T l) (ho : Own w base 28 size A n c xs) (hu : Upd (fun k => blockOf A = some k) w w') : TblB w' B T l := by
  obtain ⟨F, h, h2⟩ := h
  exact ⟨F, h.app ho hu, h2⟩
theorem put_b (B T : Nat) (l : List Ent) (x : Ent) (height : Int) (w : World) (h : TblB w B T l) (hlen : l.length ≤ 1000) (hB : B ≤ w.heap.size) :
    Calls Try.prog 9 #[.pointer (some ⟨T, 0, none⟩), .agg #[.string x.key, .int .i64 x.seq, .bool x.del, .string x.val], .int .i64 height] w fun r w' =>
      r = .returned (.int .i64 (putL l x).2) ∧ TblB w' B T (putL l x).1 ∧ Below B w w' ∧ Past w w' := by
  obtain ⟨F, h, h2⟩ := h
  refine (put_t T l F x height w h hlen).mono ?_
  rintro r w' ⟨h1, F', h3, h4, h5⟩
  exact ⟨h1, ⟨F', h3, fun k hk => (h4 k hk).elim (h2 k) (fun h => by omega)⟩, h5.to_below hB fun k hk hF => by have := h2 k hF; omega, h.past h5⟩
theorem get_t (T : Nat) (l : List Ent) (F : Nat → Prop) (key : ByteArray) (s : Int) (w : World) (h : Tbl w T l F) :
    Calls Try.prog 10 #[.pointer (some ⟨T, 0, none⟩), .string key, .int .i64 s] w fun e w' =>
      e = .returned (.tuple #[(getE (getL l key s)).agg, .bool (getL l key s).isSome]) ∧ Below w.heap.size w w' := by
  obtain ⟨hb, ns, h, rfl, rfl⟩ := h
  exact get_any T hb ns key s w h
theorem get_b (B T : Nat) (l : List Ent) (key : ByteArray) (s : Int) (w : World) (h : TblB w B T l) :
    Calls Try.prog 10 #[.pointer (some ⟨T, 0, none⟩), .string key, .int .i64 s] w fun e w' =>
      e = .returned (.tuple #[(getE (getL l key s)).agg, .bool (getL l key s).isSome]) ∧ TblB w' B T l ∧ Below w.heap.size w w' := by
  obtain ⟨F, h, h2⟩ := h
  exact (get_t T l F key s w h).mono fun _ _ ⟨h1, h3⟩ => ⟨h1, ⟨F, h.below h3, h2⟩, h3⟩
theorem all_t (T : Nat) (l : List Ent) (F : Nat → Prop) (w : World) (h : Tbl w T l F) (hlen : l.length ≤ 1000) :
    Calls Try.prog 12 #[.pointer (some ⟨T, 0, none⟩)] w fun e w' => ∃ A c, e = .returned (.slice A l.length c) ∧ Own w' w.heap.size 28 4 A l.length c (ents l) ∧ Below w.heap.size w w' := by
  obtain ⟨hb, ns, h, rfl, rfl⟩ := h
  rw [List.length_map] at hlen ⊢
  exact all_any T hb ns w h hlen
theorem len_t (T : Nat) (l : List Ent) (F : Nat → Prop) (w : World) (h : Tbl w T l F) :
    Calls Try.prog 13 #[.pointer (some ⟨T, 0, none⟩)] w fun e w' => e = .returned (.int .i64 l.length) ∧ w = w' := by
  obtain ⟨hb, ns, h, rfl, rfl⟩ := h
  rw [List.length_map]
  exact len_any T hb ns _ _ _ w h.tab
theorem bytes_t (T : Nat) (l : List Ent) (F : Nat → Prop) (w : World) (h : Tbl w T l F) :
    Calls Try.prog 14 #[.pointer (some ⟨T, 0, none⟩)] w fun e w' => e = .returned (.int .i64 (bytesL l)) ∧ w = w' := by
  obtain ⟨hb, ns, h, rfl, rfl⟩ := h
  exact bytes_any T hb ns _ _ _ w h.tab
theorem len_b (B T : Nat) (l : List Ent) (w : World) (h : TblB w B T l) :
    Calls Try.prog 13 #[.pointer (some ⟨T, 0, none⟩)] w fun e w' => e = .returned (.int .i64 l.length) ∧ w = w' := by
  obtain ⟨F, h, _⟩ := h
  exact len_t T l F w h
theorem bytes_b (B T : Nat) (l : List Ent) (w : World) (h : TblB w B T l) :
    Calls Try.prog 14 #[.pointer (some ⟨T, 0, none⟩)] w fun e w' => e = .returned (.int .i64 (bytesL l)) ∧ w = w' := by
  obtain ⟨F, h, _⟩ := h
  exact bytes_t T l F w h
theorem all_b (B T : Nat) (l : List Ent) (w : World) (h : TblB w B T l) (hlen : l.length ≤ 1000) :
    Calls Try.prog 12 #[.pointer (some ⟨T, 0, none⟩)] w fun e w' => ∃ A c, e = .returned (.slice A l.length c) ∧ Own w' w.heap.size 28 4 A l.length c (ents l) ∧ Below w.heap.size w w' := by
  obtain ⟨F, h, _⟩ := h
  exact all_t T l F w h hlen

def ex1 : Ent := ⟨⟨#[97]⟩, 1, false, ⟨#[120]⟩⟩
def ex3 : Ent := ⟨⟨#[97]⟩, 3, false, ⟨#[122]⟩⟩
theorem ex_a : putL [] ex1 = ([ex1], 0) := by decide +kernel
theorem ex_b : putL [ex1] ex3 = ([ex3, ex1], 0) := by decide +kernel
theorem ex_c : getL [ex3, ex1] ⟨#[97]⟩ 2 = some ex1 := by decide +kernel
theorem ex_d : bytesL [ex3, ex1] = 4 := by decide +kernel

set_option maxRecDepth 100000 in
set_option maxHeartbeats 2000000 in
theorem awake_any (w : World) : Calls Try.prog 8 #[] w fun e w' => e = .returned (.bool true) ∧ Below w.heap.size w w' := by
  go_enter Try.func8, Try.ntmps8
  go_wp2_with fail
  refine (new_b w).mono ?_
  rintro e w1 ⟨T, rfl, ht, hb⟩
  have HT := Lib.hid ht
  have HB := Lib.hid hb
  have hsz := hb.size
  clear ht hb
  go_wp2_with fail
  refine (put_b _ T [] ex1 1 w1 HT.out (by simp) hsz).mono ?_
  rw [ex_a]
  rintro e w2 ⟨rfl, ht, hb, -⟩
  have HT2 := Lib.hid ht
  have HB2 := Lib.hid (HB.out.trans hb)
  have hsz2 := (HB.out.trans hb).size
  clear ht hb HT HB hsz
  go_wp2_with fail
  refine (put_b _ T [ex1] ex3 9 w2 HT2.out (by simp) hsz2).mono ?_
  rw [ex_b]
  rintro e w3 ⟨rfl, ht, hb, -⟩
  have HT := Lib.hid ht
  have HB := Lib.hid (HB2.out.trans hb)
  have hsz := (HB2.out.trans hb).size
  clear ht hb HT2 HB2 hsz2
  go_wp2_with fail
  refine (get_b _ T [ex3, ex1] ⟨#[97]⟩ 2 w3 HT.out).mono ?_
  rw [ex_c]
  rintro e w4 ⟨rfl, ht, hb⟩
  have HT2 := Lib.hid ht
  have HB2 := Lib.hid (HB.out.trans (hb.mono hsz))
  have hsz2 := (HB.out.trans (hb.mono hsz)).size
  clear ht hb HT HB hsz
  unfold getE ex1 Ent.agg
  go_wp2_with fail
  obtain ⟨w5, hw5⟩ : ∃ v, v = w4.alloc (.cells #[.string ⟨#[97]⟩, .int .i64 1, .bool false, .string ⟨#[120]⟩] 28) := ⟨_, rfl⟩
  rw [← hw5]
  have HT5 := Lib.hid (HT2.out.below (w' := w5) (by rw [hw5]; exact (Below.refl _ _).alloc (Nat.le_refl _) _))
  have hb5 : Below w.heap.size w w5 := by rw [hw5]; exact HB2.out.alloc hsz2 _
  have HB5 := Lib.hid hb5
  clear hw5 hb5 HT2 HB2 hsz2
  refine (len_b _ T [ex3, ex1] w5 HT5.out).mono ?_
  rintro e w6 ⟨rfl, rfl⟩
  rw [show (([ex3, ex1].length : Nat) : Int) = 2 from rfl]
  go_wp2_with fail
  refine (bytes_b _ T [ex3, ex1] w5 HT5.out).mono ?_
  rw [ex_d]
  rintro e w6 ⟨rfl, rfl⟩
  rw [show ((4 : Nat) : Int) = 4 from rfl]
  go_wp2_with fail
  go_ret
  exact ⟨rfl, HB5.out⟩
end Go.Proofs.Ytgcnodbinmgobaa
