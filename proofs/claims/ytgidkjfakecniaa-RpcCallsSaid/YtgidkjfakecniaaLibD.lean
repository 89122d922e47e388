/-
  Bytes: 'u8s l' are a list of bytes as cells; a slice of bytes as a string; append of a string.
-/
import Derived.Test.YtgidkjfakecniaaLibC
import Derived.Laws.BytesArg
import Derived.Lib.AppendStr
namespace Go.Proofs.Ytgidkjfakecniaa
open Go.RowKit

/-- A list of bytes as cells. -/
def u8s (l : List UInt8) : List Value := l.map fun b => .int .u8 b.toNat
theorem u8s_length (l : List UInt8) : (u8s l).length = l.length := by simp [u8s]
theorem u8s_append (a b : List UInt8) : u8s (a ++ b) = u8s a ++ u8s b := by simp [u8s]
theorem u8s_cons (a : UInt8) (b : List UInt8) : u8s (a :: b) = .int .u8 a.toNat :: u8s b := rfl
theorem u8s_take (l : List UInt8) (k : Nat) : (u8s l).take k = u8s (l.take k) := by simp [u8s, List.map_take]
theorem u8s_drop (l : List UInt8) (k : Nat) : (u8s l).drop k = u8s (l.drop k) := by simp [u8s, List.map_drop]
theorem u8s_get (l : List UInt8) (k : Nat) : (u8s l)[k]? = (l[k]?).map fun b => .int .u8 b.toNat := by simp [u8s]
theorem u8s_one (l : List UInt8) : ∀ u ∈ u8s l, u.oneCell' = true := by
  intro u hu
  simp only [u8s, List.mem_map] at hu
  obtain ⟨x, _, rfl⟩ := hu
  rfl
theorem strCells_eq (s : ByteArray) : Lib.strCells s = u8s s.data.toList := rfl

section
variable {P : Program} {w w' : World} {B n c base e : Nat} {A : Option Addr} {l : List UInt8}

theorem Reads.len_ (h : Reads w B 1 A n (u8s l)) : l.length = n := by have := h.1; rw [u8s_length] at this; omega
theorem Reads.u8_ (h : Reads w B 1 A n (u8s l)) {k : Nat} (hk : k < n) : ∃ ad, A = some ad ∧ ad.block < B ∧ w.cell? (ad.add k) = some (.int .u8 (l.getD k 0).toNat) := by
  obtain ⟨ad, u, e, hb, hx, hc⟩ := h.at_ hk
  refine ⟨ad, e, hb, ?_⟩
  have hl : k < l.length := by rw [h.len_]; exact hk
  rw [u8s_get, List.getElem?_eq_getElem hl] at hx
  rw [hc, ← hx]
  simp [List.getD, List.getElem?_eq_getElem hl]

/-- 'string(b)'. -/
theorem run_string_of {src dst e : TypeId} (hs : P.underlying src = some (.slice e)) (he : P.underlying e = some (.int .u8)) (hd : P.underlying dst = some .string) (h : Reads w B 1 A n (u8s l)) :
    (convert src dst (.slice A n c)).run P w = .ok (.string ⟨l.toArray⟩) w := by
  have hl := h.len_
  rcases A with _ | ad
  · have h0 : n = 0 := by
      rcases Nat.eq_zero_or_pos n with h1 | h1
      · exact h1
      · obtain ⟨_, h2, _⟩ := h.2 h1; cases h2
    subst h0
    have hx : l = [] := List.eq_nil_of_length_eq_zero hl
    subst hx
    exact run_convert_bytes_nil (P := P) w src e hs he 0 c dst hd
  · have hl2 : (loadCells ad n).run P w = .ok (u8s l).toArray w := by
      have := run_loadCells_list (P := P) w ad (u8s l) (fun j v hj => by
        have hjl : j < l.length := by
          rcases Nat.lt_or_ge j l.length with h1 | h1
          · exact h1
          · rw [List.getElem?_eq_none (by rw [u8s_length]; exact h1)] at hj; cases hj
        obtain ⟨ad', e1, _, hc⟩ := h.2 (by omega)
        injection e1 with e1
        subst e1
        exact hc j v hj)
      rwa [u8s_length, hl] at this
    have hm : u8s l = (l.map fun b => (b.toNat : Int)).map (Value.int .u8) := by simp [u8s]
    rw [hm] at hl2
    rw [run_convert_bytes_string w src dst e _ n c hs he hd, run_bytesToString w ad n c _ hl2, foldl_push_bytes]
    simp [Function.comp_def]
end
section
variable {P : Program} {w : World} {base e n c : Nat} {A : Option Addr} {xs : List Value}

/-- 'append(b, s...)', s a string. -/
theorem run_appStr {t u ty : TypeId} (hi : Elem P t e 1 1) (hz : (P.info? e).bind (·.zero) = some (.int .u8 0)) (hu : P.underlying u = some .string) (hown : Own w base e 1 A n c xs) (s : ByteArray)
    (hbytes : n + s.size ≤ 140737488355328) (hbase : base ≤ w.heap.size) :
    ∃ A' c' w', (Builtin.append_ #[t, u] ty #[.slice A n c, .string s]).run P w = .ok (.slice A' (n + s.size) c') w' ∧ Own w' base e 1 A' (n + s.size) c' (xs ++ u8s s.data.toList) ∧ Upd (fun k => blockOf A = some k) w w' ∧
      (blockOf A' = blockOf A ∨ ∃ g, A' = some ⟨g, 0, none⟩ ∧ w.heap.size ≤ g) := by
  obtain ⟨i, z, ht, hi, hzi, hsize, hby, hzs, hsz, hb0⟩ := hi
  rw [hi, Option.bind_some] at hz
  have h63 : n + s.size ≤ maxLen := by unfold maxLen; omega
  obtain ⟨v', w', hr, h2, h3, _⟩ := Lib.run_append_own_string (P := P) w base t u ty e i ht hu hi hz hsize hby _ n xs hown s h63 hbytes hbase
  have ho : (Value.slice A n c).ownBlock = blockOf A := by cases A <;> rfl
  rw [ho] at h3
  have hform : ∃ A' c', v' = .slice A' (n + s.size) c' := by
    rcases h2.2 with ⟨rfl, e0⟩ | ⟨g, cap, cur, rfl, _⟩
    · exact ⟨none, 0, by rw [e0]⟩
    · exact ⟨_, _, rfl⟩
  obtain ⟨A', c', rfl⟩ := hform
  refine ⟨A', c', w', hr, h2, ⟨h3.os, h3.tape, h3.output, h3.size, fun k hk hn => h3.block k hk (fun e => hn e.symm)⟩, ?_⟩
  rcases hown.form with ⟨rfl, rfl, rfl, rfl⟩ | ⟨g, cur, rfl, hbg, hg, hnc, hcm, hcs, htake⟩
  · by_cases hm : s.size = 0
    · left
      rcases Own.form h2 with ⟨rfl, _⟩ | ⟨g', cur', rfl, _, hh, _⟩
      · rfl
      · exfalso
        have hf := Lib.run_firstCells_string (P := P) w 1 s
        rw [hm] at hf
        have : (Builtin.append_ #[t, u] ty #[.slice none 0 0, .string s]).run P w = .ok (.slice none 0 0) w := by
          simp [Builtin.append_, run_underlying ht, run_underlying hu, sizeOf, typeInfo, hi, hsize, Builtin.lenOf, hm, hf]
        rw [this] at hr
        injection hr with h1
        cases h1
    · right
      have hr' := run_append_nil_string (P := P) w t u ty e i (.int .u8 0) ht hu hi hz s (by omega) (by omega) (by rw [hby]; omega)
      rw [hr'] at hr
      injection hr with h1
      injection h1 with h1
      exact ⟨w.heap.size, h1.symm, Nat.le_refl _⟩
  · by_cases hroom : n + s.size ≤ c
    · left
      have hr' := Lib.run_append_room_string (P := P) w t u ty e i ht hu hi hsize g n c cur hg s hroom (by omega)
      rw [hr'] at hr
      injection hr with h1
      injection h1 with h1
      rw [← h1]
    · right
      have hxl : xs.length = n := by simpa using hown.length
      have holds : ∀ j u, xs[j]? = some u → w.cell? ((⟨g, 0, none⟩ : Addr).add j) = some u := World.ownsRow.cells (g := g) hown rfl
      have hr' := Lib.run_append_grow_string (P := P) w t u ty e i (.int .u8 0) ht hu hi hz ⟨g, 0, none⟩ n c xs (by rw [hsize]; simpa using hxl) holds s (by omega) (by omega) (by rw [hby]; exact growslice_fits (by omega) (by omega))
      rw [hr'] at hr
      injection hr with h1
      injection h1 with h1
      exact ⟨w.heap.size, h1.symm, Nat.le_refl _⟩

theorem wpList_appStr {t u : TypeId} {ops : Array Oper} {rest : List Oper} {o : Oper} {a : Act} {Q : Exit → Act → World → Prop} (hi : Elem P t e 1 1) (hz : (P.info? e).bind (·.zero) = some (.int .u8 0)) (hu : P.underlying u = some .string) (hown : Own w base e 1 A n c xs) (s : ByteArray)
    (hbytes : n + s.size ≤ 140737488355328) (hbase : base ≤ w.heap.size)
    (sl x : Operand) (hgd : o.guard = none) (ho : o.op = .call { callee := .builtin .append, args := #[sl, x], argTypes := #[t, u] }) (hs : a.eval sl = .slice A n c) (hx : a.eval x = .string s)
    (h : ∀ A' c' w', Own w' base e 1 A' (n + s.size) c' (xs ++ u8s s.data.toList) → Upd (fun k => blockOf A = some k) w w' → (blockOf A' = blockOf A ∨ ∃ g, A' = some ⟨g, 0, none⟩ ∧ w.heap.size ≤ g) → wpList P ops Q rest (a.put o.dst (.slice A' (n + s.size) c')) w') : wpList P ops Q (o :: rest) a w := by
  refine wpList_plain hgd fun K hK => ?_
  obtain ⟨A', c', w', hr, h2, h3, h4⟩ := run_appStr (P := P) (ty := o.type) hi hz hu hown s hbytes hbase
  unfold Oper.wp execOp
  simp only [ho, resolve, invoke, builtin, Sem.run_bind, Sem.run_pure, Result.andThen_ok, List.map_toArray, List.map_cons, List.map_nil, hs, hx, hr]
  exact hK _ _ (h A' c' w' h2 h3 h4)
end
end Go.Proofs.Ytgidkjfakecniaa
