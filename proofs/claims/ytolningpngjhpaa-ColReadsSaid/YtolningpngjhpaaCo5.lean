/- col.numbers' contract in plain words; col.Unlock. -/
import Derived.Test.YtolningpngjhpaaCo4
import Derived.Handy
import Derived.Outline
namespace Go.Proofs.Ytolningpngjhpaa.Col
open Go.RowKit Go.Proofs.YtolningpngjhpaaW.PrintWords Go.Proofs.YtolningpngjhpaaW.PrintLast Go.Proofs.YtolningpngjhpaaW.PrintMore
open Go.Proofs.Ytolningpngjhpaa.Nm Go.Proofs.Ytolningpngjhpaa.PColWrites
set_option linter.unusedVariables false
set_option linter.unusedSimpArgs false

theorem numsM_len : ∀ (n : Nat) (s : List UInt8) (l : List Nat) (r : List UInt8), numsM n s = some (l, r) → l.length = n ∧ ∀ x ∈ l, x < 2 ^ 64 := by
  intro n
  induction n with
  | zero =>
    intro s l r h
    simp only [numsM, Option.some.injEq, Prod.mk.injEq] at h
    obtain ⟨rfl, rfl⟩ := h
    simp
  | succ n ih =>
    intro s l r h
    simp only [numsM] at h
    split at h
    · simp at h
    · rename_i a q hq
      split at h
      · simp at h
      · rename_i l' q' hn
        simp only [Option.some.injEq, Prod.mk.injEq] at h
        obtain ⟨rfl, rfl⟩ := h
        obtain ⟨h1, h2⟩ := ih _ _ _ hn
        refine ⟨by simp [h1], fun x hx => ?_⟩
        rcases List.mem_cons.1 hx with rfl | hx
        · exact ((take_iff _ _ _).1 hq).1
        · exact h2 x hx

theorem numbers_none (a : ByteArray) (n : Nat) (hn : n ≤ 10) (hs : a.size ≤ 9223372036854775807) (h : numsM n a.data.toList = none) (w : World) :
    Calls Try.prog 53 #[.string a, .int .i64 (n : Int)] w fun e w' => (∃ v, e = .returned (.tuple #[v, .string ⟨#[]⟩, .bool false])) ∧ Below w.heap.size w w' := by
  have hf := numbers_f a.data.toList n hn (by rw [data_length]; exact hs)
  rw [str_of, h] at hf
  refine (col_numbers.calls (n + 1) a n _ _ _ w hf).mono ?_
  rintro e w' ⟨v, rfl, hr, hb⟩
  exact ⟨⟨v, rfl⟩, hb⟩
theorem numbers_some (a : ByteArray) (n : Nat) (l : List Nat) (r : List UInt8) (hn : n ≤ 10) (h0 : 0 < n) (hs : a.size ≤ 9223372036854775807) (h : numsM n a.data.toList = some (l, r)) (w : World) :
    Calls Try.prog 53 #[.string a, .int .i64 (n : Int)] w fun e w' => ∃ g cap, e = .returned (.tuple #[.slice (some ⟨g, 0, none⟩) n cap, .string (str r), .bool true]) ∧
      (∀ (i x : Nat), l[i]? = some x → w'.cell? ⟨g, i, none⟩ = some (.int .u64 (x : Int))) ∧ w.heap.size ≤ g ∧ g < w'.heap.size ∧ Below w.heap.size w w' := by
  have hf := numbers_f a.data.toList n hn (by rw [data_length]; exact hs)
  have hlen := (numsM_len _ _ _ _ h).1
  rw [str_of, h] at hf
  refine (col_numbers.calls (n + 1) a n _ _ _ w hf).mono ?_
  rintro e w' ⟨v, rfl, hr, hb⟩
  simp only [List.nil_append] at hr
  obtain ⟨g, cap, rfl, hg1, hg2, _⟩ := Kd.R_form hr (by simp; omega)
  refine ⟨g, cap, by simp [hlen], ?_, hg1, hg2, hb⟩
  intro i x hx
  obtain ⟨hi, hx'⟩ := List.getElem?_eq_some_iff.1 hx
  have hc := (Kd.R_cell (enc := Value.int .u64) (h1 := fun _ => rfl) (0 : Int) hr (i : Int) (by omega) (by simp; omega)).1
  simp only [Int.toNat_natCast] at hc
  rw [hc]
  simp [rdOf, hx]
end Go.Proofs.Ytolningpngjhpaa.Col
