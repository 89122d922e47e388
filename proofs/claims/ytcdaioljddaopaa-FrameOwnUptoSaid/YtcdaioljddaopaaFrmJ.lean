/- The frame at the front, as a plain function. -/
import Derived.Test.YtcdaioljddaopaaFrmG
namespace Go.Proofs.Ytcdaioljddaopaa

theorem takeL_split : ∀ {b : List UInt8} {v s : Nat}, takeL b = some (v, s) → ∃ pre c r, b = pre ++ c :: r ∧ (∀ x ∈ pre, 128 ≤ UInt8.toNat x) ∧ c.toNat < 128 ∧ s = pre.length + 1 ∧ v = valp (pre ++ [c])
  | c :: r, v, s, h => by
    simp only [takeL] at h
    split at h
    · rename_i hc
      simp only [Option.some.injEq, Prod.mk.injEq] at h
      obtain ⟨rfl, rfl⟩ := h
      refine ⟨[], c, r, rfl, by simp, hc, rfl, ?_⟩
      simp [valp]
      omega
    · rename_i hc
      cases h2 : takeL r with
      | none => rw [h2] at h; cases h
      | some x =>
        rw [h2] at h
        simp only [Option.map_some, Option.some.injEq, Prod.mk.injEq] at h
        obtain ⟨rfl, rfl⟩ := h
        obtain ⟨pre, c', r', rfl, h3, h4, h5, h6⟩ := takeL_split (v := x.1) (s := x.2) h2
        refine ⟨c :: pre, c', r', rfl, ?_, h4, by rw [h5]; rfl, by rw [h6]; rfl⟩
        intro y hy
        rcases List.mem_cons.1 hy with rfl | hy
        · omega
        · exact h3 y hy
/-- What was read stands there in its one form. -/
theorem takeU_front {b : List UInt8} {m s : Nat} (h : takeU b = (m, s)) (hs : s ≠ 0) : b.take s = uintL m ∧ (uintL m).length = s := by
  unfold takeU at h
  cases h2 : takeL b with
  | none => rw [h2] at h; simp only [Prod.mk.injEq] at h; omega
  | some x =>
    obtain ⟨v, s'⟩ := x
    rw [h2] at h
    simp only at h
    split at h
    · rename_i hc
      simp only [Prod.mk.injEq] at h
      obtain ⟨rfl, rfl⟩ := h
      obtain ⟨pre, c, r, rfl, h3, h4, rfl, rfl⟩ := takeL_split h2
      have e2 : (pre ++ c :: r).getD (pre.length + 1 - 1) 0 = c := by simp [List.getD]
      rw [e2] at hc
      have e3 := uintL_valp pre c h3 h4 (by omega)
      rw [e3]
      constructor
      · rw [List.append_cons, List.take_left' (by simp)]
      · simp
    · simp only [Prod.mk.injEq] at h; omega

def le32 (a b c d : UInt8) : Nat := a.toNat + b.toNat * 256 + c.toNat * 65536 + d.toNat * 16777216
theorem sum4_le32 {s : Nat} (h : s < 4294967296) (a b c d : UInt8) : sum4 s = [a, b, c, d] ↔ s = le32 a b c d := by
  have ha := a.toNat_lt
  have hb := b.toNat_lt
  have hc := c.toNat_lt
  have hd := d.toNat_lt
  unfold sum4 le32
  simp only [List.cons.injEq, and_true]
  rw [← UInt8.toNat_inj, ← UInt8.toNat_inj, ← UInt8.toNat_inj, ← UInt8.toNat_inj]
  simp only [UInt8.toNat_ofNat']
  omega
/-- The payload of the frame at the front, and its size. -/
def takeF (b : List UInt8) : Option (List UInt8 × Nat) :=
  if (takeU b).2 = 0 ∨ 4096 < (takeU b).1 ∨ b.length < (takeU b).2 + 4 + (takeU b).1 then none
  else if sealL ((b.drop ((takeU b).2 + 4)).take (takeU b).1) = b.take ((takeU b).2 + 4 + (takeU b).1) then some ((b.drop ((takeU b).2 + 4)).take (takeU b).1, (takeU b).2 + 4 + (takeU b).1) else none
end Go.Proofs.Ytcdaioljddaopaa
