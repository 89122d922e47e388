/-
  append with more room: the sum may be a little above 2^47 bytes.
-/
import Derived.Test.YtgidkjfakecniaaLibE
import Derived.Deep.DeepAppendWide
namespace Go.Proofs.Ytgidkjfakecniaa
open Go.RowKit

section
variable {P : Program} {w : World} {base size n c : Nat} {e : TypeId} {A : Option Addr} {xs : List Value}
theorem run_appW {t ty : TypeId} {bytes : Nat} (hi : Elem P t e size bytes) (hown : Own w base e size A n c xs)
    {B : Nat} {D : Option Addr} {m d : Nat} {news : List Value} (hr : Reads w B size D m news) (h1 : ∀ u ∈ news, u.oneCell' = true) (hbytes : ((n + m) + (n + m) / 4 + 192) * bytes ≤ 281474976710656) (hbase : base ≤ w.heap.size) :
    ∃ A' c' w', (Builtin.append_ #[t, t] ty #[.slice A n c, .slice D m d]).run P w = .ok (.slice A' (n + m) c') w' ∧ Own w' base e size A' (n + m) c' (xs ++ news) ∧ Upd (fun k => blockOf A = some k) w w' := by
  rcases D with _ | ad
  · have hm : m = 0 := by
      rcases Nat.eq_zero_or_pos m with h0 | h0
      · exact h0
      · obtain ⟨ad, h, _⟩ := hr.2 h0
        cases h
    subst hm
    obtain ⟨i, z, ht, hi, hz, hsize, hby, hzs, hsz, hb0⟩ := hi
    have hn : news = [] := List.eq_nil_of_length_eq_zero (by simpa using hr.1)
    subst hn
    refine ⟨A, c, w, ?_, by simpa using hown, Upd.refl _ _⟩
    rcases hown.2 with ⟨hv, rfl⟩ | ⟨g, cap, cur, hv, _, _, hnc, _⟩
    · injection hv with e1 e2 e3
      subst e1 e3
      simp [Builtin.append_, run_underlying ht, sizeOf, typeInfo, hi, Builtin.lenOf, Builtin.firstCells]
    · injection hv with e1 e2 e3
      subst e1 e3
      simp [Builtin.append_, run_underlying ht, sizeOf, typeInfo, hi, Builtin.lenOf, Builtin.firstCells, hnc, storeCells]
  · obtain ⟨i, z, ht, hi, hz, hsize, hby, hzs, hsz, hb0⟩ := hi
    have ho : ∀ v : Value, v = .slice A n c → v.ownBlock = blockOf A := by rintro v rfl; cases A <;> rfl
    have hcells : ∀ j u, news[j]? = some u → w.cell? (ad.add j) = some u := by
      intro j u hu
      rcases Nat.eq_zero_or_pos m with h0 | h0
      · subst h0
        have hn : news = [] := List.eq_nil_of_length_eq_zero (by simpa using hr.1)
        subst hn
        simp at hu
      · obtain ⟨ad', h, _, hc⟩ := hr.2 h0
        injection h with h
        subst h
        exact hc j u hu
    have h63 : n + m ≤ maxLen := by
      have h2 : (n + m) ≤ ((n + m) + (n + m) / 4 + 192) * bytes := Nat.le_trans (by omega) (Nat.le_mul_of_pos_right _ hb0)
      unfold maxLen
      omega
    obtain ⟨v', w', hrun, h2, h3, _⟩ := run_append_own_wide (P := P) w base t ty e i z size bytes ht hi hz hsize hby hzs hsz _ n xs hown ad m d news hr.1 hcells h1 h63 hbytes hbase
    rw [ho _ rfl] at h3
    have hform : ∃ A' c', v' = .slice A' (n + m) c' := by
      rcases h2.2 with ⟨rfl, e0⟩ | ⟨g, cap, cur, rfl, _⟩
      · exact ⟨none, 0, by rw [e0]⟩
      · exact ⟨_, _, rfl⟩
    obtain ⟨A', c', rfl⟩ := hform
    exact ⟨A', c', w', hrun, h2, ⟨h3.os, h3.tape, h3.output, h3.size, fun k hk hn => h3.block k hk (fun e => hn e.symm)⟩⟩
theorem wpList_appW {t : TypeId} {bytes : Nat} {ops : Array Oper} {rest : List Oper} {o : Oper} {a : Act} {Q : Exit → Act → World → Prop} (hi : Elem P t e size bytes) (hown : Own w base e size A n c xs)
    {B : Nat} {D : Option Addr} {m d : Nat} {news : List Value} (hr : Reads w B size D m news) (h1 : ∀ u ∈ news, u.oneCell' = true) (hbytes : ((n + m) + (n + m) / 4 + 192) * bytes ≤ 281474976710656) (hbase : base ≤ w.heap.size)
    (s x : Operand) (hgd : o.guard = none) (ho : o.op = .call { callee := .builtin .append, args := #[s, x], argTypes := #[t, t] }) (hs : a.eval s = .slice A n c) (hx : a.eval x = .slice D m d)
    (h : ∀ A' c' w', Own w' base e size A' (n + m) c' (xs ++ news) → Upd (fun k => blockOf A = some k) w w' → wpList P ops Q rest (a.put o.dst (.slice A' (n + m) c')) w') : wpList P ops Q (o :: rest) a w :=
  wpList_plain hgd fun _ hK => by
    obtain ⟨A', c', w', hrun, h2, h3⟩ := run_appW (P := P) (ty := o.type) (d := d) hi hown hr h1 hbytes hbase
    unfold Oper.wp execOp
    simp only [ho, resolve, invoke, builtin, Sem.run_bind, Sem.run_pure, Result.andThen_ok, List.map_toArray, List.map_cons, List.map_nil, hs, hx, hrun]
    exact hK _ _ (h A' c' w' h2 h3)
end
end Go.Proofs.Ytgidkjfakecniaa
