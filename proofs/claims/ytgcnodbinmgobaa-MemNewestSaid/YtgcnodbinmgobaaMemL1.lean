/-
  PROVED HERE: MemNewest: for every input the law of layer 4 answers true and its input reads as before: what Get answers is the newest entry of the key that was put in and isn't above the number. No conditions.
-/
import Derived.Test.YtgcnodbinmgobaaMemH
import Derived.Test.YtgcnodbinmgobaaLibI
import Derived.Deep.QuietTactic
namespace Go.Proofs.Ytgcnodbinmgobaa
open Go.ChangeShapes Go.WideShapes Go.ChangeAt Go.RowKit

/-- What the table holds is what was put in. -/
def SameIn (l ins : List Ent) : Prop := ∀ x, x ∈ l ↔ x ∈ ins
/-- Of what Get answers. -/
structure Newest (ins : List Ent) (key : ByteArray) (s : Int) (OK : Bool) (E : Ent) : Prop where
  no : ∀ x ∈ ins, x.key.toList = key.toList → x.seq ≤ s → OK = true ∧ x.seq ≤ E.seq
  yes : OK = true → E ∈ ins ∧ E.key.toList = key.toList ∧ E.seq ≤ s
  zero : OK = false → E = zeroE
theorem newest_of {l ins : List Ent} (ho : Ordered l) (h : SameIn l ins) (key : ByteArray) (s : Int) : Newest ins key s (getL l key s).isSome (getE (getL l key s)) := by
  cases hg : getL l key s with
  | none => exact ⟨fun x hx hk hs => absurd hs (getL_none ho hg x ((h x).2 hx) hk), fun h => Bool.noConfusion h, fun _ => rfl⟩
  | some a =>
    obtain ⟨h1, h2, h3, h4⟩ := getL_some ho hg
    exact ⟨fun x hx hk hs => ⟨rfl, h4 x ((h x).2 hx) hk hs⟩, fun _ => ⟨(h a).1 h1, h2, h3⟩, fun h => Bool.noConfusion h⟩
theorem sameIn_put {l ins : List Ent} (h : SameIn l ins) {x : Ent} (hc : (putL l x).2 = 0) : SameIn (putL l x).1 (ins ++ [x]) := by
  unfold putL at hc ⊢
  split at hc
  · contradiction
  · split at hc
    · cases hc
    · rename_i h1 h2
      rw [if_neg h1, if_neg h2]
      intro y
      show y ∈ insL l x ↔ _
      rw [mem_ins, h y]
      simp [or_comm]
theorem putL_same {l : List Ent} {x : Ent} (hc : (putL l x).2 ≠ 0) : (putL l x).1 = l := by
  unfold putL at hc ⊢
  split
  · rfl
  · split
    · rfl
    · rename_i h1 h2
      rw [if_neg h1, if_neg h2] at hc
      exact absurd rfl hc

set_option maxRecDepth 100000 in
set_option maxHeartbeats 4000000 in
theorem newest_walk (A : Option Addr) (n c : Nat) (l : List Ope) (key : ByteArray) (s : Int) (w : World) (hr : Reads w w.heap.size 6 A n (flat Ope.cells l)) (hn : n ≤ 140737488355328) :
    Calls Try.prog 3 #[.slice A n c, .string key, .int .i64 s] w fun e w' => e = .returned (.bool true) ∧ Below w.heap.size w w' := by
  have HX := Lib.hid (hr.keeps (Nat.le_refl _))
  have hn2 := hn
  clear hr hn
  go_enter Try.func3, Try.ntmps3
  go_wp2_with fail
  refine (new_b w).mono ?_
  rintro e w1 ⟨T, rfl, ht, hb⟩
  have HT := Lib.hid ht
  have HB := Lib.hid hb
  have hsz := hb.size
  clear ht hb
  go_wp2_with fail
  refine (awake_any w1).mono ?_
  rintro e w2 ⟨rfl, hb⟩
  have HT2 := Lib.hid (HT.out.below hb)
  have HB2 := Lib.hid (HB.out.trans (hb.mono hsz))
  clear HT HB hsz hb
  obtain ⟨B, hB⟩ : ∃ B, B = w.heap.size := ⟨_, rfl⟩
  have HBB := Lib.hid hB
  rw [← hB] at HT2
  clear hB
  go_wp2_with fail
  go_loopw [8, 9] (fun v iv wr => ∃ (k m : Nat) (A' : Option Addr) (c' : Nat) (tl ins : List Ent), iv = .int .i64 k ∧ v = .slice A' m c' ∧ k ≤ 100 ∧ m ≤ k ∧ tl.length ≤ k ∧ Own wr B 28 4 A' m c' (ents ins) ∧ TblB wr B T tl ∧ SameIn tl ins ∧ Below w.heap.size w wr) (fun _ iv _ => 100 - (intOf iv).toNat)
  case atStart => exact ⟨0, 0, none, 0, [], [], rfl, rfl, by omega, by omega, by simp, Own.nil_ _ _ _ _, HT2.out, fun x => by simp, HB2.out⟩
  case round =>
    obtain ⟨k, m, A', c', tl, ins, rfl, rfl, hk, hmk, htl, ho, ht, hsi, hb⟩ := hrel
    have HO := Lib.hid ho
    have HT := Lib.hid ht
    have HS := Lib.hid hsi
    have HB := Lib.hid hb
    clear ho ht hsi hb
    by_cases hin : (k : Int) < (n : Int) ∧ (k : Int) < 100
    · obtain ⟨hkn, hk100⟩ := hin
      obtain ⟨ad, o, rfl, hab, hol, hc⟩ := (HX.out.at_ HB.out).ope (k := k) (by omega)
      have hk0 : (0 : Int) ≤ (k : Int) := by omega
      have hkw : IntKind.i64.wrap (k : Int) = k := IntWalk.i64_in _ (by omega)
      have HOL := Lib.hid hol
      clear hol
      cases hask : o.ask with
      | true =>
        rw [hask] at hc
        have HA := Lib.hid hask
        clear hask
        go_wp2_with fail
        go_quiet (fail)
        go_wp2_with fail
        go_roundw
        case rel => exact ⟨k + 1, m, A', c', tl, ins, by go_num, rfl, by omega, by omega, by omega, HO.out.drewN _, HT.out.below (below_drewN (Below.refl _ _) _), HS.out, below_drewN HB.out _⟩
        case measure => simp [intOf]; omega
      | false =>
        rw [hask] at hc
        have HA := Lib.hid hask
        clear hask
        go_wp2_with fail
        go_still_tail 18, (by kernel_rfl)
        change wpList _ _ _ _ _ wr.drew
        go_wp2_with fail
        have hszr : B ≤ wr.heap.size := by rw [HBB.out]; exact HB.out.size
        have hszr2 : w.heap.size ≤ wr.heap.size := HB.out.size
        refine (put_b B T tl o.e o.h wr.drew (HT.out.below (Below.refl _ wr).drew) (by omega) hszr).mono ?_
        rintro e w4 ⟨rfl, ht, hb, hp⟩
        have hb4 := HB.out.drew.trans (hb.mono (by rw [HBB.out]; exact Nat.le_refl _))
        have ho4 := hp _ _ _ _ _ _ HO.out.drew
        have hpl := put_length tl o.e
        obtain ⟨code, hcode⟩ : ∃ code, code = (putL tl o.e).2 := ⟨_, rfl⟩
        rw [← hcode]
        have hs0 : code = 0 → SameIn (putL tl o.e).1 (ins ++ [o.e]) := fun h => sameIn_put HS.out (by rw [← hcode, h])
        have hs1 : code ≠ 0 → SameIn (putL tl o.e).1 ins := fun h => by rw [putL_same (by rw [← hcode]; exact h)]; exact HS.out
        obtain ⟨tl', htl'⟩ : ∃ tl', tl' = (putL tl o.e).1 := ⟨_, rfl⟩
        rw [← htl'] at ht hpl hs0 hs1
        have HT4 := Lib.hid ht
        have HB4 := Lib.hid hb4
        have HO4 := Lib.hid ho4
        have HS0 := Lib.hid hs0
        have HS1 := Lib.hid hs1
        clear ht hb hp hb4 ho4 hs0 hs1 htl' hcode HT HO HB hc hab
        by_cases hz : code = 0
        · subst hz
          have hce := (HX.out.at_ HB4.out).opeE (by omega) HOL.out
          go_wp2_with (at_builtin; refine halt_ ?_)
          refine unhalt ?_
          have hsz4 : B ≤ w4.heap.size := by rw [HBB.out]; exact HB4.out.size
          have hsz5 : w.heap.size ≤ w4.heap.size := HB4.out.size
          refine wpList_app elem_ent (HO4.out.alloc _) (reads_new (size := 4) (cs := #[.string o.e.key, .int .i64 o.e.seq, .bool o.e.del, .string o.e.val]) w4 28 1 rfl) (by simp [Value.oneCell']) (by omega) (by simp; omega) _ _ rfl rfl rfl rfl ?_
          intro A5 c5 w5 ho5 hu5 hat5
          have hb5 : Below w.heap.size w w5 := below_app (HB4.out.alloc hsz5 (.cells #[.string o.e.key, .int .i64 o.e.seq, .bool o.e.del, .string o.e.val] 28)) (by simp; omega) (HO4.out.alloc _) (by rw [HBB.out]; exact Nat.le_refl _) hu5
          have ht5 := (HT4.out.below ((Below.refl _ w4).alloc (Nat.le_refl _) (.cells #[.string o.e.key, .int .i64 o.e.seq, .bool o.e.del, .string o.e.val] 28))).app (HO4.out.alloc _) hu5
          have HO5 := Lib.hid ho5
          have HB5 := Lib.hid hb5
          have HT5 := Lib.hid (ht5 : TblB w5 B T tl')
          clear hce ho5 hu5 hat5 hb5 ht5
          go_wp2_with fail
          go_roundw
          case rel => exact ⟨k + 1, m + 1, A5, c5, tl', ins ++ [o.e], by go_num, by first | rfl | go_num, by omega, by omega, by omega, by rw [ents_append, ents_sing]; exact HO5.out, HT5.out, HS0.out trivial, HB5.out⟩
          case measure => simp [intOf]; omega
        · have hz1 : ((code : Int) == 0) = false := by rw [beq_eq_false_iff_ne]; omega
          have hz2 : ((code : Int) != 0) = true := by rw [bne_iff_ne]; omega
          go_wp2_with fail
          go_roundw
          case rel => exact ⟨k + 1, m, A', c', tl', ins, by go_num, rfl, by omega, by omega, by omega, HO4.out, HT4.out, HS1.out hz, HB4.out⟩
          case measure => simp [intOf]; omega
    · have hor : ¬ (k : Int) < n ∨ ((k : Int) < n ∧ ¬ (k : Int) < 100) := by omega
      clear hin
      have hnw := newest_of HT.out.ord HS.out key s
      rcases hor with h1 | ⟨h1, h2⟩
      all_goals
        go_wp2_with fail
        refine (get_b B T tl key s wr HT.out).mono ?_
        rintro e w4 ⟨rfl, -, hb⟩
        obtain ⟨OK, hOK⟩ : ∃ OK, OK = (getL tl key s).isSome := ⟨_, rfl⟩
        obtain ⟨E, hE⟩ : ∃ E, E = getE (getL tl key s) := ⟨_, rfl⟩
        rw [← hOK, ← hE] at hnw ⊢
        unfold Ent.agg
        have HNW := Lib.hid hnw
        have HB4 := Lib.hid (HB.out.trans (hb.mono HB.out.size))
        have HO4 := Lib.hid (HO.out.below hb (Nat.le_refl _))
        have hsz4 : w.heap.size ≤ w4.heap.size := HB4.out.size
        clear hnw hb hE hOK HT HS HB HO HT2 HB2
        go_wp2_with fail
        obtain ⟨w5, hw5⟩ : ∃ v, v = w4.alloc (.cells #[.string E.key, .int .i64 E.seq, .bool E.del, .string E.val] 28) := ⟨_, rfl⟩
        obtain ⟨g, hg⟩ : ∃ g, g = w4.heap.size := ⟨_, rfl⟩
        rw [← hw5, ← hg]
        have hE5 : Blk w5 g 28 #[.string E.key, .int .i64 E.seq, .bool E.del, .string E.val] := by rw [hw5, hg]; exact Blk.new _ _ _
        have hb5 : Below w.heap.size w w5 := by rw [hw5]; exact HB4.out.alloc hsz4 _
        have ho5 : Own w5 B 28 4 A' m c' (ents ins) := by rw [hw5]; exact HO4.out.alloc _
        have HK := Lib.hid ((hE5.keeps.and ho5.keepsR).and (below_keeps hb5 hb5.size))
        clear hw5 hg hE5 hb5 ho5 HB4 HO4 hsz4
        cases OK
        all_goals
          go_loopw [12, 70] (fun fv jv wi => ∃ (j : Nat) (b : Bool), fv = .bool b ∧ jv = .int .i64 j ∧ j ≤ m ∧ (∀ i, i < j → ins[i]? = some E → b = true) ∧ Below w5.heap.size w5 wi) (fun _ jv _ => m - (intOf jv).toNat)
          case atStart => exact ⟨0, false, rfl, rfl, by omega, fun i hi => by omega, Below.refl _ _⟩
          case round =>
            obtain ⟨j, b, rfl, rfl, hj, hf, hb⟩ := hrel
            have HF := Lib.hid hf
            have HB := Lib.hid hb
            have hszi : w5.heap.size ≤ wr.heap.size := hb.size
            clear hf hb
            by_cases hjm : (j : Int) < (m : Int)
            · obtain ⟨ad, x, rfl, hab, hx, hc⟩ := (HK.out.at_ HB.out).1.2.ent (k := j) (by omega)
              have hce := ((HK.out.at_ HB.out).1.1).c4
              have hj0 : (0 : Int) ≤ (j : Int) := by omega
              have hq := ent_eql x E
              unfold Ent.agg at hq
              have hxin := List.mem_of_getElem? hx
              have HX1 := Lib.hid hx
              have HXI := Lib.hid hxin
              have HBI := Lib.hid (HB.out.alloc hszi (.cells #[.string x.key, .int .i64 x.seq, .bool x.del, .string x.val] 28))
              have hgl : g < wr.heap.size := ((HK.out.at_ HB.out).1.1).lt
              clear hx hxin hab
              cases hd : decide (x = E)
              all_goals
                rw [hd] at hq
                have HD := Lib.hid hd
                clear hd
                by_cases hke : x.key.toList = key.toList
                · have hkb : (x.key.toList == key.toList) = true := by simpa using hke
                  by_cases hs : x.seq ≤ s
                  · have hno := HNW.out.no x HXI.out hke hs
                    have hno1 := hno.1
                    have hno2 := hno.2
                    clear hno
                    have HKE := Lib.hid hke
                    clear hke
                    first
                    | exact absurd hno1 (by decide)
                    | clear hno1
                      cases b
                      all_goals
                        go_wp2_with fail
                        go_roundw
                        case rel =>
                          first
                          | exact ⟨j + 1, true, rfl, by go_num, by omega, fun _ _ _ => rfl, HBI.out⟩
                          | exact ⟨j + 1, false, rfl, by go_num, by omega, (fun i hi he => by
                              rcases Nat.lt_or_ge i j with h | h
                              · exact HF.out i h he
                              · obtain rfl : i = j := by omega
                                rw [HX1.out] at he
                                injection he with he
                                exact absurd he (of_decide_eq_false HD.out)), HBI.out⟩
                        case measure => simp [intOf]; omega
                  · have HKE := Lib.hid hke
                    clear hke
                    cases b
                    all_goals
                      go_wp2_with fail
                      go_roundw
                      case rel =>
                        first
                        | exact ⟨j + 1, true, rfl, by go_num, by omega, fun _ _ _ => rfl, HBI.out⟩
                        | exact ⟨j + 1, false, rfl, by go_num, by omega, (fun i hi he => by
                            rcases Nat.lt_or_ge i j with h | h
                            · exact HF.out i h he
                            · obtain rfl : i = j := by omega
                              rw [HX1.out] at he
                              injection he with he
                              exact absurd he (of_decide_eq_false HD.out)), HBI.out⟩
                      case measure => simp [intOf]; omega
                · have hkb : (x.key.toList == key.toList) = false := by simpa using hke
                  cases b
                  all_goals
                    go_wp2_with fail
                    go_roundw
                    case rel =>
                      first
                      | exact ⟨j + 1, true, rfl, by go_num, by omega, fun _ _ _ => rfl, HBI.out⟩
                      | exact ⟨j + 1, false, rfl, by go_num, by omega, (fun i hi he => by
                          rcases Nat.lt_or_ge i j with h | h
                          · exact HF.out i h he
                          · obtain rfl : i = j := by omega
                            rw [HX1.out] at he
                            injection he with he
                            exact absurd he (of_decide_eq_false HD.out)), HBI.out⟩
                    case measure => simp [intOf]; omega
            · have hjm2 : j = m := by omega
              subst hjm2
              have hE := (HK.out.at_ HB.out).1.1.c4
              have hlen := (HK.out.at_ HB.out).1.2.ents_length
              have hbb := (HK.out.at_ HB.out).2
              have HBB2 := Lib.hid hbb
              have hfnd : E ∈ ins → b = true := fun h => by
                obtain ⟨i, hi⟩ := List.mem_iff_getElem?.1 h
                exact HF.out i (by have := (List.getElem?_eq_some_iff.1 hi).1; omega) hi
              have HFND := Lib.hid hfnd
              clear hlen hbb hfnd
              first
              | have hz := HNW.out.zero rfl
                have hq := ent_eql E zeroE
                rw [decide_eq_true hz] at hq
                unfold Ent.agg zeroE at hq
                have HZ := Lib.hid hz
                clear hz
                go_wp2_with fail
                go_ret
                exact ⟨rfl, HBB2.out⟩
              | obtain ⟨y1, y2, y3⟩ := HNW.out.yes rfl
                have hkb : (E.key.toList == key.toList) = true := by simpa using y2
                have hbt := HFND.out y1
                subst hbt
                clear y1 y2
                go_wp2_with fail
                go_ret
                exact ⟨rfl, HBB2.out⟩

theorem newest_vals (W : World) (args : Array Value) (hv : Vals Try.prog W [22, 9, 3] args.toList) :
    Calls Try.prog 3 args W fun e W' => e = .returned (.bool true) ∧ Below W.heap.size W W' := by
  obtain ⟨v0, r0, e0, h0, v1, r1, rfl, h1, v2, r2, rfl, h2, rfl⟩ := hv
  obtain rfl : args = #[v0, v1, v2] := by cases args; simp_all
  obtain ⟨A, n, c, l, rfl, hr, hnc, hc⟩ := val_ops h0
  obtain ⟨key, rfl, _⟩ := val_string Try.underlying9 h1
  obtain ⟨s, rfl, _⟩ := val_int Try.underlying3 h2
  exact newest_walk A n c l key s W hr (by omega)

set_option maxRecDepth 100000 in
theorem newest_lifted (os : Os) (started : os.Started) (H : Type) (enc : TypeId × Value → H) :
    ReturnsInHanded {} Try.checked os 3 .any (Rows.memNewestSpec.pre6 enc Try.prog Try.f3 Rows.memNewestRow.domain false) (Rows.memNewestSpec.post enc Try.prog Try.f3 false true false false) :=
  lift_law (C := Try.checked) #[22, 9, 3] (by kernel_rfl) (by kernel_rfl) started (by kernel_rfl) Try.func3
    (ChangeSpec.witness6 (enc := enc) (C := Try.checked) false ⟨#[], #[.slice none 0 0, .string .empty, .int .i64 0], []⟩ 8 (by kernel_rfl) (by kernel_rfl) (by kernel_rfl) (by kernel_rfl))
    Try.params3 (by kernel_rfl) rfl rfl Try.underlying4 (fun ds hl => match ds, hl with | [_, _, _], _ => rfl) (fun W args hv => newest_vals W args hv)

theorem newest_holds : Rows.MemNewestSaid :=
  OpenClaim.holds_of_wide 3 Try.f3 rfl rfl rfl rfl rfl rfl rfl ⟨rfl, rfl, rfl, rfl, rfl⟩ rfl rfl rfl rfl rfl (by kernel_rfl) Try.func3 (by kernel_rfl)
    (of_decide_eq_true (by kernel_rfl)) (by unfold Func.isWrapper; rw [if_neg (of_decide_eq_false (by kernel_rfl))]; exact ⟨rfl, rfl⟩)
    (fun os started H enc _ => newest_lifted os started H enc)
end Go.Proofs.Ytgcnodbinmgobaa
