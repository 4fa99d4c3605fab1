/- What col.Lock, col.Write, col.Leases and the reference's come to: closed forms of the printed functions. -/
import Derived.Test.YtolningpngjhpaaCpLock
import Derived.Test.YtolningpngjhpaaCpLeases
import Derived.Test.YtolningpngjhpaaCpRLock
import Derived.Test.YtolningpngjhpaaCpRWrite
import Derived.Test.YtolningpngjhpaaCpRLeases
import Derived.Test.YtolningpngjhpaaPColWritesx3
import Derived.Test.YtolningpngjhpaaPColWritesx9
namespace Go.Proofs.Ytolningpngjhpaa.Col
open Go.RowKit Go.Proofs.YtolningpngjhpaaW.PrintWords Go.Proofs.YtolningpngjhpaaW.PrintLast Go.Proofs.YtolningpngjhpaaW.PrintMore
open Go.Proofs.Ytolningpngjhpaa.Nm Go.Proofs.Ytolningpngjhpaa.PColWrites
set_option linter.unusedVariables false
set_option linter.unusedSimpArgs false

theorem strOf_size (xs : List Int) : (strOfNums xs).size = xs.length := by
  have := data_length (strOfNums xs)
  rw [← this]
  simp [strOfNums]
theorem short_l (d : Nat) : ∀ (n : Nat) (acc : List UInt8), n < 128 ^ (d + 1) → acc.length + d < 140737488355328 → num_Short.l0 (d + 1) (n : Int) (ints acc) = some (str (acc ++ short n)) := by
  induction d with
  | zero =>
    intro n acc h hl
    have hn : n < 128 := by omega
    simp only [num_Short.l0]
    rw [if_neg (by omega), if_pos (by simp [ints]; omega), short_lt n hn, ← strOf_ints, ints_append, one_int n hn]
  | succ d ih =>
    intro n acc h hl
    by_cases hn : n < 128
    · simp only [num_Short.l0]
      rw [if_neg (by omega), if_pos (by simp [ints]; omega), short_lt n hn, ← strOf_ints, ints_append, one_int n hn]
    · obtain ⟨m, hm⟩ : ∃ m, m = d + 1 := ⟨_, rfl⟩
      rw [← hm]
      simp only [num_Short.l0]
      rw [if_pos (by omega), if_pos (by simp [ints]; omega), hm]
      have e1 : Go.bits .or .u8 ((n : Int) % 256) 128 = (((n % 128 + 128).toUInt8.toNat : Nat) : Int) := by
        have h := or128 ⟨n % 256, by omega⟩
        simp only at h
        rw [u8_lo _ (by omega), show ((n : Int) % 256) = ((n % 256 : Nat) : Int) by omega, h]
        congr 2
        omega
      have e2 : ints acc ++ [Go.bits .or .u8 ((n : Int) % 256) 128] = ints (acc ++ [(n % 128 + 128).toUInt8]) := by
        rw [ints_append, e1]; rfl
      have e3 : ((n : Int) / 128) = ((n / 128 : Nat) : Int) := by omega
      rw [e2, e3, ih (n / 128) (acc ++ [(n % 128 + 128).toUInt8]) (by rw [Nat.div_lt_iff_lt_mul (by decide)]; rw [Nat.pow_succ] at h; exact h) (by simp; omega), short_ge n hn]
      simp
theorem rshort_l (d : Nat) : ∀ (n : Nat) (acc : List UInt8), n < 2 ^ 64 → n < 128 ^ (d + 1) → acc.length + d < 140737488355328 → screeref01_Short.l0 (d + 1) (n : Int) (ints acc) = some (str (acc ++ short n)) := by
  induction d with
  | zero =>
    intro n acc h64 h hl
    have hn : n < 128 := by omega
    simp only [screeref01_Short.l0]
    rw [if_neg (by omega), if_pos (by simp [ints]; omega), short_lt n hn, ← strOf_ints, ints_append, one_int n hn]
  | succ d ih =>
    intro n acc h64 h hl
    by_cases hn : n < 128
    · simp only [screeref01_Short.l0]
      rw [if_neg (by omega), if_pos (by simp [ints]; omega), short_lt n hn, ← strOf_ints, ints_append, one_int n hn]
    · obtain ⟨m, hm⟩ : ∃ m, m = d + 1 := ⟨_, rfl⟩
      rw [← hm]
      simp only [screeref01_Short.l0]
      rw [if_pos (by omega), if_pos (by simp [ints]; omega), hm]
      have e1 : (IntKind.u64.wrap (Int.tmod (n : Int) 128 + 128)) % 256 = (((n % 128 + 128).toUInt8.toNat : Nat) : Int) := by
        rw [u8_lo _ (by omega), IntKind.wrap_u64, Int.tmod_eq_emod_of_nonneg (by omega)]
        omega
      have e2 : ints acc ++ [(IntKind.u64.wrap (Int.tmod (n : Int) 128 + 128)) % 256] = ints (acc ++ [(n % 128 + 128).toUInt8]) := by
        rw [ints_append, e1]; rfl
      have e3 : IntKind.u64.wrap (Int.tdiv (n : Int) 128) = ((n / 128 : Nat) : Int) := by
        rw [IntKind.wrap_u64, Int.tdiv_eq_ediv_of_nonneg (by omega)]
        omega
      rw [e2, e3, ih (n / 128) (acc ++ [(n % 128 + 128).toUInt8]) (by omega) (by rw [Nat.div_lt_iff_lt_mul (by decide)]; rw [Nat.pow_succ] at h; exact h) (by simp; omega), short_ge n hn]
      simp
/-- A number's short bytes, of an Int. -/
def sh (x : Int) : ByteArray := str (short x.toNat)
theorem sh_size (x : Int) (h : x < 18446744073709551616) : (sh x).size ≤ 10 := by
  unfold sh
  rw [str_size]
  exact short_len 9 _ (by omega)
theorem short_f (x : Int) (h0 : 0 ≤ x) (h1 : x < 18446744073709551616) (k : Nat) (hk : 10 ≤ k) : num_Short.f k x = some (sh x) := by
  refine at_rounds (g := fun k => num_Short.f k x) (fun k => num_Short.mono x k) hk ?_
  have h := short_l 9 x.toNat [] (by omega) (by simp)
  rw [Int.toNat_of_nonneg h0] at h
  exact h
theorem rshort_f (x : Int) (h0 : 0 ≤ x) (h1 : x < 18446744073709551616) (k : Nat) (hk : 10 ≤ k) : screeref01_Short.f k x = some (sh x) := by
  refine at_rounds (g := fun k => screeref01_Short.f k x) (fun k => screeref01_Short.mono x k) hk ?_
  have h := rshort_l 9 x.toNat [] (by omega) (by omega) (by simp)
  rw [Int.toNat_of_nonneg h0] at h
  exact h

/-- May a text be a key? -/
def mayK (s : ByteArray) : Bool := decide (0 < s.size) && decide (s.size ≤ 24)
/-- May a number be a time? -/
def timeB (n : Int) : Bool := decide (0 < n) && decide (n ≤ 1099511627776)
theorem may_f (s : ByteArray) : key_May.f s = some (mayK s) := by
  unfold key_May.f mayK
  rw [ByteArray.toList_eq]
  by_cases h : s.data.toList = []
  · have : s.size = 0 := by rw [← data_length, h]; rfl
    rw [if_pos h, this]
    rfl
  · have : 0 < s.size := by
      rw [← data_length]
      exact List.length_pos_iff.2 h
    rw [if_neg h]
    simp [this]
    omega
theorem rmay_f (s : ByteArray) : screeref02_May.f s = some (mayK s) := by
  unfold screeref02_May.f mayK
  split
  · have : 0 < s.size := by omega
    simp [this]
    omega
  · have : ¬ 0 < s.size := by omega
    simp [this]
theorem time_f (n : Int) : col_time.f n = some (timeB n) := by
  unfold col_time.f timeB
  split
  · rename_i h; have : 0 < n := h; simp [this]
  · rename_i h; have : ¬ 0 < n := h; simp [this]
theorem rtime_f (n : Int) : screeref15_time.f n = some (timeB n) := by
  unfold screeref15_time.f timeB
  split
  · have : 0 < n := by omega
    simp [this]
  · have : ¬ 0 < n := by omega
    simp [this]
theorem timeB_true {n : Int} (h : timeB n = true) : 0 < n ∧ n ≤ 1099511627776 := by unfold timeB at h; simpa using h
theorem timeB_false {n : Int} (h : ¬ timeB n = true) : ¬ (0 < n ∧ n ≤ 1099511627776) := by unfold timeB at h; simpa using h

/-! Locks -/
def lockB (p : ByteArray) (st k at_ : Int) : Bool := mayK p && timeB st && (decide (k = 1) || decide (k = 2)) && decide (at_ ≤ 1099511627776)
/-- A lock's bytes, and the error. -/
def lockM (p : ByteArray) (st k at_ : Int) : ByteArray × Int := if lockB p st k at_ = true then (strOfNums [k % 256] ++ sh st ++ sh at_ ++ p, 0) else (⟨#[]⟩, 2)
theorem lock_f (p : ByteArray) (st k at_ : Int) (h0 : 0 ≤ st) (h1 : st < 18446744073709551616) (ha0 : 0 ≤ at_) (ha1 : at_ < 18446744073709551616) : col_Lock.f 11 p st k at_ = some (lockM p st k at_) := by
  unfold col_Lock.f
  rw [may_f, time_f]
  simp only [Option.bind_some]
  unfold lockM lockB
  by_cases hp : mayK p = true
  · have hps : p.size ≤ 24 := by unfold mayK at hp; simp at hp; exact hp.2
    rw [if_pos hp]
    by_cases ht : timeB st = true
    · rw [if_pos ht]
      have z1 := sh_size st h1
      have z2 := sh_size at_ ha1
      have z3 := strOf_size [k % 256]
      have body : ∀ b, b = decide (at_ > 1099511627776) → col_Lock.j0 11 b p st k at_ = some (if decide (at_ ≤ 1099511627776) = true then (strOfNums [k % 256] ++ sh st ++ sh at_ ++ p, 0) else (⟨#[]⟩, 2)) := by
        rintro b rfl
        simp only [col_Lock.j0]
        by_cases hb : at_ > 1099511627776
        · rw [if_pos (decide_eq_true hb), if_neg (by simp; omega)]
        · rw [if_neg (by simpa using hb), if_pos (by simp; omega)]
          simp only [Option.bind_some]
          rw [short_f st h0 h1 10 (by omega), short_f at_ ha0 ha1 10 (by omega)]
          simp only [Option.bind_some]
          simp only [List.length_cons, List.length_nil] at z3
          rw [if_pos (by omega), if_pos (by rw [ByteArray.size_append]; omega), if_pos (by rw [ByteArray.size_append, ByteArray.size_append]; omega)]
      by_cases k1 : k = 1
      · rw [if_pos k1, body _ rfl]
        simp [hp, ht, k1]
      · rw [if_neg k1]
        by_cases k2 : k = 2
        · rw [if_pos k2, body _ rfl]
          simp [hp, ht, k2]
        · rw [if_neg k2]
          simp [col_Lock.j0, k1, k2]
    · rw [if_neg ht]
      simp [col_Lock.j0, ht]
  · rw [if_neg hp]
    simp [col_Lock.j0, hp]
theorem rlock_f (p : ByteArray) (st k at_ : Int) (h0 : 0 ≤ st) (h1 : st < 18446744073709551616) (ha0 : 0 ≤ at_) (ha1 : at_ < 18446744073709551616) : screeref15_Lock.f 11 p st k at_ = some (lockM p st k at_) := by
  unfold screeref15_Lock.f
  rw [rmay_f, rtime_f]
  simp only [Option.bind_some]
  unfold lockM lockB
  by_cases hp : mayK p = true
  · have hps : p.size ≤ 24 := by unfold mayK at hp; simp at hp; exact hp.2
    rw [if_pos hp]
    by_cases ht : timeB st = true
    · rw [if_pos ht]
      have z1 := sh_size st h1
      have z2 := sh_size at_ ha1
      have z3 := strOf_size [k % 256]
      by_cases k1 : k < 1
      · rw [if_pos k1]
        have e1 : ¬ k = 1 := by omega
        have e2 : ¬ k = 2 := by omega
        simp [screeref15_Lock.j0, e1, e2]
      · rw [if_neg k1]
        by_cases k2 : k > 2
        · rw [if_pos k2]
          have e1 : ¬ k = 1 := by omega
          have e2 : ¬ k = 2 := by omega
          simp [screeref15_Lock.j0, e1, e2]
        · rw [if_neg k2]
          have e : (decide (k = 1) || decide (k = 2)) = true := by simp; omega
          simp only [screeref15_Lock.j0]
          by_cases hb : at_ > 1099511627776
          · rw [if_pos (decide_eq_true hb), if_neg (by simp; omega)]
          · rw [if_neg (by simpa using hb), if_pos (by rw [hp, ht, e]; simp; omega)]
            simp only [Option.bind_some]
            rw [rshort_f st h0 h1 10 (by omega), rshort_f at_ ha0 ha1 10 (by omega)]
            simp only [Option.bind_some]
            simp only [List.length_cons, List.length_nil] at z3
            rw [if_pos (by omega), if_pos (by rw [ByteArray.size_append]; omega), if_pos (by rw [ByteArray.size_append, ByteArray.size_append]; omega)]
    · rw [if_neg ht]
      simp [screeref15_Lock.j0, ht]
  · rw [if_neg hp]
    simp [screeref15_Lock.j0, hp]

/-! Writes -/
/-- A write's bytes, and the error. -/
def writeM (st k : Int) : ByteArray × Int := if timeB st = true ∧ 1 ≤ k ∧ k ≤ 3 then (strOfNums [k % 256] ++ sh st, 0) else (⟨#[]⟩, 2)
theorem write_f (st k : Int) (h0 : 0 ≤ st) (h1 : st < 18446744073709551616) : col_Write.f 10 st k = some (writeM st k) := by
  unfold col_Write.f writeM
  rw [time_f]
  simp only [Option.bind_some]
  have z1 := sh_size st h1
  have z3 := strOf_size [k % 256]
  simp only [List.length_cons, List.length_nil] at z3
  by_cases ht : timeB st = true
  · rw [if_pos ht]
    by_cases k1 : k < 1
    · rw [if_pos k1, if_neg (by omega)]
    · rw [if_neg k1]
      by_cases k2 : k > 3
      · rw [if_pos k2, if_neg (by omega)]
      · rw [if_neg k2, short_f st h0 h1 10 (by omega)]
        simp only [Option.bind_some]
        rw [if_pos (by omega), if_pos ⟨ht, by omega, by omega⟩]
  · rw [if_neg ht, if_neg (fun h => ht h.1)]
theorem rwrite_f (st k : Int) (h0 : 0 ≤ st) (h1 : st < 18446744073709551616) : screeref15_Write.f 10 st k = some (writeM st k) := by
  unfold screeref15_Write.f writeM
  rw [rtime_f]
  simp only [Option.bind_some]
  have z1 := sh_size st h1
  have z3 := strOf_size [k % 256]
  simp only [List.length_cons, List.length_nil] at z3
  by_cases ht : timeB st = true
  · rw [if_pos ht]
    by_cases k1 : k < 1
    · rw [if_pos k1, if_neg (by omega)]
    · rw [if_neg k1]
      by_cases k2 : k > 3
      · rw [if_pos k2, if_neg (by omega)]
      · rw [if_neg k2, rshort_f st h0 h1 10 (by omega)]
        simp only [Option.bind_some]
        rw [if_pos (by omega), if_pos ⟨ht, by omega, by omega⟩]
  · rw [if_neg ht, if_neg (fun h => ht h.1)]
end Go.Proofs.Ytolningpngjhpaa.Col
