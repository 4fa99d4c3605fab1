/- The reference's Take: what it answers. -/
import Derived.Test.YtolningpngjhpaaBa10
import Derived.Test.YtolningpngjhpaaBa7
import Derived.Test.YtolningpngjhpaaCpRTake
namespace Go.Proofs.Ytolningpngjhpaa.Bat
open Go.RowKit Go.Proofs.YtolningpngjhpaaW.PrintWords Go.Proofs.YtolningpngjhpaaW.PrintLast Go.Proofs.YtolningpngjhpaaW.PrintMore
open Go.Proofs.Ytolningpngjhpaa.Nm Go.Proofs.Ytolningpngjhpaa.PColWrites
set_option linter.unusedVariables false
set_option linter.unusedSimpArgs false

theorem toList_inj {a b : ByteArray} (h : a.toList = b.toList) : a = b := by
  rw [ByteArray.toList_eq, ByteArray.toList_eq] at h
  rw [← str_of a, h, str_of]
theorem rshortN_f (n : Nat) (h : n < 2 ^ 64) : ∀ k, screeref01_Short.f (k + 10) (n : Int) = some (str (short n)) := by
  intro k
  induction k with
  | zero => exact rshort_l 9 n [] h (by omega) (by simp)
  | succ k ih => exact screeref01_Short.mono (n : Int) (k + 10) _ ih
theorem rshort_ge (n k : Nat) (h : n < 2 ^ 64) (hk : 10 ≤ k) : screeref01_Short.f k (n : Int) = some (str (short n)) := by
  obtain ⟨j, rfl⟩ : ∃ j, k = j + 10 := ⟨k - 10, by omega⟩
  exact rshortN_f n h j
theorem wrapu_in {x : Int} (h0 : 0 ≤ x) (h1 : x < 18446744073709551616) : IntKind.u64.wrap x = x := by rw [IntKind.wrap_u64]; omega
theorem wrapu_bd (x : Int) : 0 ≤ IntKind.u64.wrap x ∧ IntKind.u64.wrap x < 18446744073709551616 := by rw [IntKind.wrap_u64]; omega
theorem bt_u (s : ByteArray) (i : Int) : IntKind.u64.wrap (bt s i) = bt s i := wrapu_in (bt_range s i).1 (by have := (bt_range s i).2; omega)

theorem rtake_a (s : ByteArray) (hs : s.size ≤ 9223372036854775807) : ∀ (d i k : Nat) (x5 x6 : Int), i + d = 10 → 2 * d + 13 ≤ k →
    ∃ r, screeref01_Take.l0 k s x5 x6 (i : Int) = some r ∧ (r = (0, ⟨#[]⟩, false) ∨ ∃ n j : Nat, n < 2 ^ 64 ∧ j ≤ s.size ∧ r = ((n : Int), s.extract j s.size, true) ∧ str (short n) = s.extract 0 j) := by
  intro d
  induction d with
  | zero =>
    intro i k x5 x6 hi hk
    obtain ⟨k, rfl⟩ : ∃ m, k = m + 2 := ⟨k - 2, by omega⟩
    refine ⟨(0, ⟨#[]⟩, false), ?_, .inl rfl⟩
    simp only [screeref01_Take.l0]
    split
    · simp only [screeref01_Take.j1]
      rw [if_neg (by simp; omega)]
    · simp only [screeref01_Take.j1]
      rw [if_neg (by simp)]
  | succ d ih =>
    intro i k x5 x6 hi hk
    obtain ⟨k, rfl⟩ : ∃ m, k = m + 2 := ⟨k - 2, by omega⟩
    by_cases hlt : i < s.size
    · have hw : wrap64 ((i : Int) + 1) = ((i + 1 : Nat) : Int) := wrap_succ i (by omega)
      simp only [screeref01_Take.l0]
      rw [if_pos (by omega)]
      simp only [screeref01_Take.j1]
      rw [if_pos (by simp; omega), if_pos (by omega), if_pos (by omega), hw]
      by_cases hc : IntKind.u64.wrap (bt s i) < 128
      · rw [if_pos hc]
        generalize hN : IntKind.u64.wrap (x5 + IntKind.u64.wrap (Int.tmod (IntKind.u64.wrap (bt s i)) 128 * x6)) = N
        have hb : 0 ≤ N ∧ N < 18446744073709551616 := by rw [← hN]; exact wrapu_bd _
        obtain ⟨n, rfl⟩ := Int.eq_ofNat_of_zero_le hb.1
        rw [rshort_ge n k (by omega) (by omega)]
        simp only [Option.bind_some]
        rw [if_pos (by omega), if_pos (by omega)]
        by_cases he : (str (short n)).toList = (s.extract 0 ((i + 1 : Nat) : Int).toNat).toList
        · rw [if_pos he]
          exact ⟨_, rfl, .inr ⟨n, i + 1, by omega, by omega, rfl, toList_inj he⟩⟩
        · rw [if_neg he]
          exact ⟨_, rfl, .inl rfl⟩
      · rw [if_neg hc]
        exact ih (i + 1) k _ _ (by omega) (by omega)
    · refine ⟨(0, ⟨#[]⟩, false), ?_, .inl rfl⟩
      simp only [screeref01_Take.l0]
      rw [if_neg (by omega)]
      simp only [screeref01_Take.j1]
      rw [if_neg (by simp)]

theorem short_at : ∀ (i m : Nat), (i = 0 ∨ 128 ^ i ≤ m) → (short m)[i]? = some (if m / 128 ^ i < 128 then (m / 128 ^ i).toUInt8 else (m / 128 ^ i % 128 + 128).toUInt8) ∧ (m / 128 ^ i < 128 → (short m).length = i + 1) := by
  intro i
  induction i with
  | zero =>
    intro m _
    by_cases h : m < 128
    · rw [short_lt m h]; simp [h]
    · rw [short_ge m h]; simp [h]
  | succ i ih =>
    intro m hm
    have hm' : 128 ^ (i + 1) ≤ m := by rcases hm with h | h; exact absurd h (by omega); exact h
    have h1 : ¬ m < 128 := by
      have : 128 ≤ 128 ^ (i + 1) := by rw [Nat.pow_succ]; have := Nat.pos_of_ne_zero (show 128 ^ i ≠ 0 by simp); omega
      omega
    have hd : m / 128 ^ (i + 1) = m / 128 / 128 ^ i := by rw [Nat.div_div_eq_div_mul, Nat.pow_succ, Nat.mul_comm]
    obtain ⟨h2, h3⟩ := ih (m / 128) (by right; rw [Nat.le_div_iff_mul_le (by decide)]; rw [Nat.pow_succ] at hm'; exact hm')
    rw [short_ge m h1, hd]
    exact ⟨by simpa using h2, fun h => by simp [h3 h]⟩
theorem data_inj {a b : ByteArray} (h : a.data.toList = b.data.toList) : a = b := by rw [← str_of a, h, str_of]
theorem bt_of {s : ByteArray} {i : Nat} {c : UInt8} (h : s.data.toList[i]? = some c) : bt s (i : Int) = (c.toNat : Int) := by
  obtain ⟨h1, h2⟩ := List.getElem?_eq_some_iff.1 h
  have h3 : i < s.size := by simpa using h1
  have h4 : s[i] = c := h2
  unfold bt
  rw [dif_pos (by simpa using h3)]
  simp [h4]
theorem rtake_b1 (s : ByteArray) (m : Nat) (rest : List UInt8) (hs : s.size ≤ 9223372036854775807) (he : s.data.toList = short m ++ rest) (hm : m < 2 ^ 64) (i k : Nat) (hi : i ≤ 9) (hk : 13 ≤ k) (him : i = 0 ∨ 128 ^ i ≤ m)
    (ih : 128 ≤ m / 128 ^ i → screeref01_Take.l0 (k - 2) s ((m % 128 ^ (i + 1) : Nat) : Int) ((128 ^ (i + 1) : Nat) : Int) ((i + 1 : Nat) : Int) = some ((m : Int), str rest, true)) :
    screeref01_Take.l0 k s ((m % 128 ^ i : Nat) : Int) ((128 ^ i : Nat) : Int) (i : Int) = some ((m : Int), str rest, true) := by
  obtain ⟨k, rfl⟩ : ∃ m, k = m + 2 := ⟨k - 2, by omega⟩
  obtain ⟨ha, hlen⟩ := short_at i m him
  have hil : i < (short m).length := (List.getElem?_eq_some_iff.1 ha).1
  have hsz : s.size = (short m).length + rest.length := by
    have := congrArg List.length he
    rw [List.length_append] at this
    rw [← this]; simp
  have hw : wrap64 ((i : Int) + 1) = ((i + 1 : Nat) : Int) := wrap_succ i (by omega)
  have hb := bt_of (s := s) (i := i) (c := _) (by rw [he, List.getElem?_append_left hil]; exact ha)
  simp only [screeref01_Take.l0]
  rw [if_pos (by omega)]
  simp only [screeref01_Take.j1]
  rw [if_pos (by simp; omega), if_pos (by omega), if_pos (by omega), hw, bt_u]
  generalize hq : m / 128 ^ i = q at hb ih hlen
  have hq2 : m % 128 ^ (i + 1) = m % 128 ^ i + 128 ^ i * (q % 128) := by rw [Nat.mod_pow_succ, hq]
  have hp : (128 : Nat) ^ i ≤ 2 ^ 63 := by
    have : (128 : Nat) ^ i ≤ 128 ^ 9 := Nat.pow_le_pow_right (by decide) hi
    omega
  have hmod : m % 128 ^ (i + 1) ≤ m := Nat.mod_le _ _
  have key : IntKind.u64.wrap (((m % 128 ^ i : Nat) : Int) + IntKind.u64.wrap (((q % 128 : Nat) : Int) * ((128 ^ i : Nat) : Int))) = ((m % 128 ^ (i + 1) : Nat) : Int) := by
    rw [← Int.natCast_mul, Nat.mul_comm, wrapu_in (x := ((128 ^ i * (q % 128) : Nat) : Int)) (by omega) (by omega), ← Int.natCast_add, ← hq2, wrapu_in (by omega) (by omega)]
  by_cases hc : q < 128
  · rw [if_pos hc, u8_lo _ (by omega)] at hb
    rw [hb, if_pos (by omega)]
    have ht : Int.tmod (q : Int) 128 = ((q % 128 : Nat) : Int) := by rw [Int.tmod_eq_emod_of_nonneg (by omega)]; omega
    have hm1 : m % 128 ^ (i + 1) = m := by
      rw [hq2, Nat.mod_eq_of_lt hc, ← hq, Nat.mod_add_div]
    rw [ht, key, hm1, rshort_ge m k hm (by omega)]
    simp only [Option.bind_some]
    have hl := hlen hc
    rw [if_pos (by omega), if_pos (by omega), if_pos (by
      apply congrArg
      apply data_inj
      rw [str_list, Lib.extract_data, he, List.drop_zero, show ((i + 1 : Nat) : Int).toNat - 0 = (short m).length by omega, List.take_left]),
      show s.extract ((i + 1 : Nat) : Int).toNat s.size = str rest from data_inj (by
        rw [str_list, Lib.extract_to_end, he, show ((i + 1 : Nat) : Int).toNat = (short m).length by omega, List.drop_left])]
  · rw [if_neg hc, u8_lo _ (by omega)] at hb
    rw [hb, if_neg (by omega)]
    have ht : Int.tmod ((q % 128 + 128 : Nat) : Int) 128 = ((q % 128 : Nat) : Int) := by rw [Int.tmod_eq_emod_of_nonneg (by omega)]; omega
    have hi8 : i ≤ 8 := by
      by_cases h9 : i = 9
      · subst h9
        have : m / 128 ^ 9 < 128 := by rw [Nat.div_lt_iff_lt_mul (by decide)]; omega
        omega
      · omega
    have hp2 : (128 : Nat) ^ (i + 1) ≤ 2 ^ 63 := by
      have : (128 : Nat) ^ (i + 1) ≤ 128 ^ 9 := Nat.pow_le_pow_right (by decide) (by omega)
      omega
    have h128 : IntKind.u64.wrap (((128 ^ i : Nat) : Int) * 128) = ((128 ^ (i + 1) : Nat) : Int) := by
      rw [show ((128 ^ i : Nat) : Int) * 128 = ((128 ^ (i + 1) : Nat) : Int) by rw [Nat.pow_succ]; omega, wrapu_in (by omega) (by omega)]
    rw [ht, key, h128]
    exact ih (by omega)
theorem rtake_b (s : ByteArray) (m : Nat) (rest : List UInt8) (hs : s.size ≤ 9223372036854775807) (he : s.data.toList = short m ++ rest) (hm : m < 2 ^ 64) : ∀ (d i k : Nat), i + d = 9 → 2 * d + 13 ≤ k → (i = 0 ∨ 128 ^ i ≤ m) →
    screeref01_Take.l0 k s ((m % 128 ^ i : Nat) : Int) ((128 ^ i : Nat) : Int) (i : Int) = some ((m : Int), str rest, true) := by
  intro d
  induction d with
  | zero =>
    intro i k hi hk him
    exact rtake_b1 s m rest hs he hm i k (by omega) (by omega) him (fun hq => absurd hq (by
      have : i = 9 := by omega
      subst this
      have : m / 128 ^ 9 < 128 := by rw [Nat.div_lt_iff_lt_mul (by decide)]; omega
      omega))
  | succ d ih =>
    intro i k hi hk him
    exact rtake_b1 s m rest hs he hm i k (by omega) (by omega) him (fun hq => ih (i + 1) (k - 2) (by omega) (by omega) (by
      right
      have := Nat.pos_of_ne_zero (show 128 ^ i ≠ 0 by simp)
      rw [Nat.pow_succ]
      have h2 := Nat.mul_le_of_le_div _ _ _ hq
      rw [Nat.mul_comm]
      exact h2))
theorem rtake_f (s : ByteArray) (hs : s.size ≤ 9223372036854775807) : screeref01_Take.f 40 s = some (tkN s, tkR s, tkB s) := by
  unfold screeref01_Take.f
  cases hq : take s.data.toList with
  | none =>
    obtain ⟨r, hr, h⟩ := rtake_a s hs 10 0 40 0 1 (by omega) (by omega)
    have e : (tkN s, tkR s, tkB s) = (0, ⟨#[]⟩, false) := by unfold tkN tkR tkB; rw [hq]; rfl
    rw [e]
    rcases h with rfl | ⟨n, j, hn, hj, rfl, hx⟩
    · exact hr
    · have : take s.data.toList = some (n, s.data.toList.drop j) := by
        rw [take_iff]
        refine ⟨hn, ?_⟩
        have h1 := congrArg (fun b : ByteArray => b.data.toList) hx
        simp only [str_list, Lib.extract_data, List.drop_zero, Nat.sub_zero] at h1
        rw [h1, List.take_append_drop]
      rw [hq] at this
      cases this
  | some x =>
    obtain ⟨m, rest⟩ := x
    obtain ⟨hm, he⟩ := (take_iff _ _ _).1 hq
    have e : (tkN s, tkR s, tkB s) = ((m : Int), str rest, true) := by unfold tkN tkR tkB; rw [hq]; rfl
    rw [e]
    have := rtake_b s m rest hs he hm 9 0 40 (by omega) (by omega) (.inl rfl)
    simpa [Nat.mod_one] using this

end Go.Proofs.Ytolningpngjhpaa.Bat
