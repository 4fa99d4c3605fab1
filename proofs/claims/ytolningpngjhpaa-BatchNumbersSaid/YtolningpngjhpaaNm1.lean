/- Plain facts on numbers' short bytes: what they are, and which number stands at the beginning of bytes. -/
import Derived.Test.YtolningpngjhpaaWWords
import Derived.Test.YtolningpngjhpaaWMore
import Derived.Laws.BitsAllLaws
import Derived.Lib.Strings
namespace Go.Proofs.Ytolningpngjhpaa.Nm
open Go.RowKit Go.Proofs.YtolningpngjhpaaW.PrintWords
set_option linter.unusedVariables false

/-- A text out of its bytes. -/
def str (l : List UInt8) : ByteArray := ⟨l.toArray⟩
theorem str_list (l : List UInt8) : (str l).data.toList = l := by simp [str]
theorem str_of (s : ByteArray) : str s.data.toList = s := by cases s; simp [str]
theorem str_inj {a b : List UInt8} (h : str a = str b) : a = b := by rw [← str_list a, h, str_list]
theorem str_size (l : List UInt8) : (str l).size = l.length := by simp [str, ByteArray.size]
theorem str_append (a b : List UInt8) : str a ++ str b = str (a ++ b) := by
  apply ByteArray.ext
  simp [str]

/-- A number's short bytes. -/
def short (n : Nat) : List UInt8 := if h : n < 128 then [n.toUInt8] else (n % 128 + 128).toUInt8 :: short (n / 128)
termination_by n
decreasing_by omega
theorem short_lt (n : Nat) (h : n < 128) : short n = [n.toUInt8] := by rw [short, dif_pos h]
theorem short_ge (n : Nat) (h : ¬ n < 128) : short n = (n % 128 + 128).toUInt8 :: short (n / 128) := by rw [short, dif_neg h]
theorem u8_lo (n : Nat) (h : n < 256) : n.toUInt8.toNat = n := by simp [Nat.toUInt8]; omega
theorem short_ne (n : Nat) : short n ≠ [] := by
  by_cases h : n < 128
  · rw [short_lt n h]; simp
  · rw [short_ge n h]; simp
theorem short_len (d : Nat) : ∀ n, n < 128 ^ (d + 1) → (short n).length ≤ d + 1 := by
  induction d with
  | zero => intro n h; rw [short_lt n (by omega)]; simp
  | succ d ih =>
    intro n h
    by_cases h1 : n < 128
    · rw [short_lt n h1]; simp
    · rw [short_ge n h1]
      have := ih (n / 128) (by rw [Nat.div_lt_iff_lt_mul (by decide)]; rw [Nat.pow_succ] at h; exact h)
      simp only [List.length_cons]
      omega
/-- No number's short bytes are a beginning of another one's: what stands at the beginning is one. -/
theorem short_prefix : ∀ (n m : Nat) (r q : List UInt8), short n ++ r = short m ++ q → n = m ∧ r = q := by
  intro n
  induction n using Nat.strongRecOn with
  | ind n ih =>
    intro m r q h
    by_cases hn : n < 128
    · by_cases hm : m < 128
      · rw [short_lt n hn, short_lt m hm] at h
        simp only [List.cons_append, List.nil_append, List.cons.injEq] at h
        have := congrArg UInt8.toNat h.1
        rw [u8_lo n (by omega), u8_lo m (by omega)] at this
        exact ⟨this, h.2⟩
      · rw [short_lt n hn, short_ge m hm] at h
        simp only [List.cons_append, List.nil_append, List.cons.injEq] at h
        have := congrArg UInt8.toNat h.1
        rw [u8_lo n (by omega), u8_lo _ (by omega)] at this
        omega
    · by_cases hm : m < 128
      · rw [short_ge n hn, short_lt m hm] at h
        simp only [List.cons_append, List.nil_append, List.cons.injEq] at h
        have := congrArg UInt8.toNat h.1
        rw [u8_lo _ (by omega), u8_lo m (by omega)] at this
        omega
      · rw [short_ge n hn, short_ge m hm] at h
        simp only [List.cons_append, List.cons.injEq] at h
        have h1 := congrArg UInt8.toNat h.1
        rw [u8_lo _ (by omega), u8_lo _ (by omega)] at h1
        obtain ⟨h2, h3⟩ := ih (n / 128) (by omega) (m / 128) r q h.2
        exact ⟨by omega, h3⟩

/-- The number at the beginning of bytes, of which so many (i) were read: it stands behind the seven bits of each. -/
def takeFrom : List UInt8 → Nat → Nat → Option (Nat × List UInt8)
  | [], _, _ => none
  | c :: r, i, n =>
    if 64 ≤ 7 * i ∨ 2 ^ 64 ≤ c.toNat % 128 * 2 ^ (7 * i) then none
    else if c.toNat < 128 then (if c.toNat = 0 ∧ 0 < i then none else some (n + c.toNat % 128 * 2 ^ (7 * i), r))
    else takeFrom r (i + 1) (n + c.toNat % 128 * 2 ^ (7 * i))
/-- The number at the beginning of bytes, and what follows. -/
def take (s : List UInt8) : Option (Nat × List UInt8) := takeFrom s 0 0

/-- What is read: the short bytes of a number below 2^64. -/
theorem takeFrom_short : ∀ (i m n : Nat) (r : List UInt8), (0 < m ∨ i = 0) → m * 2 ^ (7 * i) < 2 ^ 64 → takeFrom (short m ++ r) i n = some (n + m * 2 ^ (7 * i), r) := by
  intro i m
  induction m using Nat.strongRecOn generalizing i with
  | ind m ih =>
    intro n r h0 hm
    have hi : 7 * i < 64 ∨ m = 0 := by
      by_cases hz : m = 0
      · exact .inr hz
      · refine .inl ?_
        rcases Nat.lt_or_ge (7 * i) 64 with h | h
        · exact h
        · have : 2 ^ 64 ≤ 2 ^ (7 * i) := Nat.pow_le_pow_right (by decide) h
          have : 1 * 2 ^ (7 * i) ≤ m * 2 ^ (7 * i) := Nat.mul_le_mul_right _ (by omega)
          omega
    have hi' : ¬ 64 ≤ 7 * i := by
      rcases hi with h | h
      · omega
      · rcases h0 with h1 | h1 <;> omega
    by_cases hlt : m < 128
    · rw [short_lt m hlt]
      simp only [List.cons_append, List.nil_append, takeFrom]
      rw [u8_lo m (by omega), Nat.mod_eq_of_lt hlt, if_neg (by omega), if_pos hlt, if_neg (by omega)]
    · rw [short_ge m hlt]
      simp only [List.cons_append, takeFrom]
      have e : (m % 128 + 128) % 128 = m % 128 := by omega
      rw [u8_lo _ (by omega), e]
      have hmul : m % 128 * 2 ^ (7 * i) ≤ m * 2 ^ (7 * i) := Nat.mul_le_mul_right _ (Nat.mod_le _ _)
      rw [if_neg (by omega), if_neg (by omega)]
      have hp : 2 ^ (7 * (i + 1)) = 128 * 2 ^ (7 * i) := by rw [show 7 * (i + 1) = 7 * i + 7 by omega, Nat.pow_add]; omega
      have hsplit : m * 2 ^ (7 * i) = m % 128 * 2 ^ (7 * i) + m / 128 * (128 * 2 ^ (7 * i)) := by
        have : m = m % 128 + 128 * (m / 128) := (Nat.mod_add_div m 128).symm
        conv => lhs; rw [this]
        rw [Nat.add_mul]
        congr 1
        rw [Nat.mul_comm 128, Nat.mul_assoc]
      rw [ih (m / 128) (by omega) (i + 1) _ r (.inl (by omega)) (by rw [hp]; omega), hp]
      congr 2
      omega
theorem take_short (m : Nat) (r : List UInt8) (h : m < 2 ^ 64) : take (short m ++ r) = some (m, r) := by
  have := takeFrom_short 0 m 0 r (.inr rfl) (by simpa using h)
  simpa [take] using this
theorem takeFrom_some : ∀ (s : List UInt8) (i n k : Nat) (r : List UInt8), n < 2 ^ (7 * i) → takeFrom s i n = some (k, r) → ∃ m, k = n + m * 2 ^ (7 * i) ∧ s = short m ++ r ∧ (0 < m ∨ i = 0) ∧ m * 2 ^ (7 * i) + n < 2 ^ 64 := by
  intro s
  induction s with
  | nil => intro i n k r hn h; simp [takeFrom] at h
  | cons c t ih =>
    intro i n k r hn h
    have hc := c.toNat_lt
    have hp : 2 ^ (7 * (i + 1)) = 128 * 2 ^ (7 * i) := by rw [show 7 * (i + 1) = 7 * i + 7 by omega, Nat.pow_add]; omega
    simp only [takeFrom] at h
    by_cases h1 : 64 ≤ 7 * i ∨ 2 ^ 64 ≤ c.toNat % 128 * 2 ^ (7 * i)
    · rw [if_pos h1] at h; simp at h
    rw [if_neg h1] at h
    -- so few bits, times a power: what is added fits in 64 bits
    have hfit : ∀ x, x * 2 ^ (7 * i) < 2 ^ 64 → x * 2 ^ (7 * i) + n < 2 ^ 64 := by
      intro x hx
      have hi : 7 * i < 64 := by omega
      have hd : 2 ^ 64 = 2 ^ (64 - 7 * i) * 2 ^ (7 * i) := by rw [← Nat.pow_add]; congr 1; omega
      rw [hd] at hx ⊢
      have hx' : x < 2 ^ (64 - 7 * i) := Nat.lt_of_mul_lt_mul_right hx
      have : (x + 1) * 2 ^ (7 * i) ≤ 2 ^ (64 - 7 * i) * 2 ^ (7 * i) := Nat.mul_le_mul_right _ hx'
      rw [Nat.add_mul] at this
      omega
    by_cases h2 : c.toNat < 128
    · rw [if_pos h2] at h
      by_cases h3 : c.toNat = 0 ∧ 0 < i
      · rw [if_pos h3] at h; simp at h
      rw [if_neg h3] at h
      simp only [Option.some.injEq, Prod.mk.injEq] at h
      rw [Nat.mod_eq_of_lt h2] at h h1
      refine ⟨c.toNat, h.1.symm, ?_, by omega, hfit _ (by omega)⟩
      rw [short_lt _ h2, h.2]
      simp
    · rw [if_neg h2] at h
      have hlow : c.toNat % 128 * 2 ^ (7 * i) + n < 2 ^ (7 * (i + 1)) := by
        have : (c.toNat % 128 + 1) * 2 ^ (7 * i) ≤ 128 * 2 ^ (7 * i) := Nat.mul_le_mul_right _ (by omega)
        rw [Nat.add_mul] at this
        omega
      obtain ⟨m, hk, hs, hm, hb⟩ := ih (i + 1) _ k r (by omega) h
      have hm0 : 0 < m := by omega
      refine ⟨128 * m + c.toNat % 128, ?_, ?_, by omega, ?_⟩
      · rw [hk, hp, Nat.add_mul, Nat.mul_comm 128 m, Nat.mul_assoc]
        omega
      · rw [short_ge _ (by omega), hs]
        have e1 : (128 * m + c.toNat % 128) % 128 + 128 = c.toNat := by omega
        have e2 : (128 * m + c.toNat % 128) / 128 = m := by omega
        rw [e1, e2]
        simp
      · rw [hp] at hb
        rw [Nat.add_mul, Nat.mul_comm 128 m, Nat.mul_assoc]
        omega
/-- JUST THE SHORT BYTES OF NUMBERS BELOW 2^64 ARE READ. -/
theorem take_iff (s : List UInt8) (k : Nat) (r : List UInt8) : take s = some (k, r) ↔ k < 2 ^ 64 ∧ s = short k ++ r := by
  constructor
  · intro h
    obtain ⟨m, hk, hs, _, hb⟩ := takeFrom_some s 0 0 k r (by simp) h
    simp at hk hb
    subst hk
    exact ⟨hb, hs⟩
  · rintro ⟨h1, rfl⟩
    exact take_short k r h1
end Go.Proofs.Ytolningpngjhpaa.Nm
