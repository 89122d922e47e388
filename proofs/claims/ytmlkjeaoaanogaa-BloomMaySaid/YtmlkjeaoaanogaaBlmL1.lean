/- law: BloomMay -/
import Derived.Test.YtmlkjeaoaanogaaBlmG
import Derived.Test.YtmlkjeaoaanogaaComBytes
namespace Go.Proofs.Ytmlkjeaoaanogaa
open Go.RowKit

theorem wpList_appG {P : Program} {e : TypeId} {size base n c : Nat} {A : Option Addr} {xs : List Value} {w : World} {t : TypeId} {bytes : Nat} {ops : Array Oper} {rest : List Oper} {o : Oper} {a : Act} {Q : Exit → Act → World → Prop} (hi : Elem P t e size bytes) (hown : Own w base e size A n c xs)
    {B : Nat} {D : Option Addr} {m d : Nat} {news : List Value} (hr : Reads w B size D m news) (h1 : ∀ u ∈ news, u.oneCell' = true) (hbytes : (n + m) * bytes ≤ 140737488355328) (hbase : base ≤ w.heap.size)
    (s x : Operand) (hgd : Region.wanted o (yielded ops a.tmps) = true) (ho : o.op = .call { callee := .builtin .append, args := #[s, x], argTypes := #[t, t] }) (hs : a.eval s = .slice A n c) (hx : a.eval x = .slice D m d)
    (h : ∀ A' c' w', Own w' base e size A' (n + m) c' (xs ++ news) → Upd (fun k => blockOf A = some k) w w' → (blockOf A' = blockOf A ∨ ∃ g, A' = some ⟨g, 0, none⟩ ∧ w.heap.size ≤ g) → wpList P ops Q rest (a.put o.dst (.slice A' (n + m) c')) w') : wpList P ops Q (o :: rest) a w :=
  wpList_step fun _ hK => by
    rw [if_pos hgd]
    exact wp_app hi hown hr h1 hbytes hbase s x ho hs hx fun A' c' w' h2 h3 h4 => hK _ _ (h A' c' w' h2 h3 h4)

set_option maxRecDepth 100000 in
set_option maxHeartbeats 4000000 in
theorem mayLaw_walk (A : Option Addr) (n c : Nat) (f : List UInt8) (s : ByteArray) (w : World) (hx : Reads w w.heap.size 1 A n (u8s f)) (hn : n ≤ 140737488351232) (hs : s.size ≤ maxLen) :
    Calls Try.prog 4 #[.slice A n c, .string s] w fun e w' => e = .returned (.bool true) ∧ Below w.heap.size w w' := by
  have HK := Lib.hid ((Keeps.start w).and (hx.keeps (Nat.le_refl _)))
  clear hx
  go_enter Try.func4, Try.ntmps4
  go_wp2_with fail
  refine (awake_any w).mono ?_
  rintro e w1 ⟨rfl, hb⟩
  have HK1 := Lib.hid (HK.out.on hb)
  clear HK hb
  go_wp2_with (at_builtin; refine halt_ ?_)
  refine unhalt ?_
  refine wpList_appG elem_u8 (Own.empty w1 _ 1) (HK1.out.now.2.alloc (Nat.le_refl _) _) (u8s_one f) (by omega) (by simp) _ _ rfl rfl rfl rfl ?_
  intro A2 c2 w2 ho hup hat
  rw [Nat.zero_add, List.nil_append] at ho
  have hb2 : Below w1.heap.size w1 w2 := (Upd.trans (S := fun _ => False) ((Upd.refl _ w1).alloc _) hup (by intro i hi e; simp [blockOf] at e; omega)).none_
  have HK2 := Lib.hid ((HK1.out.on hb2).and ho.keepsR)
  clear HK1 hup hat hb2 ho
  go_wp2_with fail
  refine (may_any A2 _ c2 f s w2 (by simpa using HK2.out.now.2) (by unfold maxLen; omega) hs).mono ?_
  rintro e w3 ⟨rfl, hb⟩
  have HK3 := Lib.hid (HK2.out.on hb)
  clear HK2 hb
  go_wp2_with fail
  refine (refMay_any A n c f s w3 HK3.out.now.1.2 (by unfold maxLen; omega) hs).mono ?_
  rintro e w4 ⟨rfl, hb⟩
  have HB4 := Lib.hid (HK3.out.on hb).now.1.1
  clear HK3 hb
  go_wp2_with fail
  go_ret
  exact ⟨by simp, HB4.out⟩

theorem mayLaw_vals (W : World) (args : Array Value) (hv : Vals Try.prog W [25, 9] args.toList) :
    Calls Try.prog 4 args W fun e W' => e = .returned (.bool true) ∧ Below W.heap.size W W' := by
  obtain ⟨v0, r0, e0, h0, v1, r1, rfl, h1, rfl⟩ := hv
  obtain rfl : args = #[v0, v1] := by cases args; simp_all
  obtain ⟨A, n, c, f, rfl, hr, hnc, hc⟩ := val_bytes h0
  obtain ⟨s, rfl, hs⟩ := val_string Try.underlying9 h1
  exact mayLaw_walk A n c f s W hr (by omega) hs.1

set_option maxRecDepth 100000 in
theorem mayLaw_lifted (os : Os) (started : os.Started) (H : Type) (enc : TypeId × Value → H) :
    ReturnsInHanded {} Try.checked os 4 .any (Rows.bloomMaySpec.pre6 enc Try.prog Try.f4 Rows.bloomMayRow.domain false) (Rows.bloomMaySpec.post enc Try.prog Try.f4 false true false false) :=
  lift_law (C := Try.checked) #[25, 9] (by kernel_rfl) (by kernel_rfl) started (by kernel_rfl) Try.func4
    (ChangeSpec.witness6 (enc := enc) (C := Try.checked) false ⟨#[], #[.slice none 0 0, .string .empty], []⟩ 8 (by kernel_rfl) (by kernel_rfl) (by kernel_rfl) (by kernel_rfl))
    Try.params4 (by kernel_rfl) rfl rfl Try.underlying4 (fun ds hl => match ds, hl with | [_, _], _ => rfl) (fun W args hv => mayLaw_vals W args hv)

theorem mayLaw_holds : Rows.BloomMaySaid :=
  OpenClaim.holds_of_wide 4 Try.f4 rfl rfl rfl rfl rfl rfl rfl ⟨rfl, rfl, rfl, rfl, rfl⟩ rfl rfl rfl rfl rfl (by kernel_rfl) Try.func4 (by kernel_rfl)
    (of_decide_eq_true (by kernel_rfl)) (by unfold Func.isWrapper; rw [if_neg (of_decide_eq_false (by kernel_rfl))]; exact ⟨rfl, rfl⟩)
    (fun os started H enc _ => mayLaw_lifted os started H enc)
end Go.Proofs.Ytmlkjeaoaanogaa
