/- Plain facts: a filter has as many bits set as there are different ones among its keys' bits. -/
import Derived.Test.YtolningpngjhpaaBl7
import Derived.Maps.OwnSet
namespace Go.Proofs.Ytolningpngjhpaa.Bloom
open Go.RowKit Go.Proofs.YtolningpngjhpaaW.PrintWords Go.Proofs.YtolningpngjhpaaW.PrintLast Go.Proofs.YtolningpngjhpaaW.PrintMore
open Go.Proofs.Ytolningpngjhpaa.PBloomFull
set_option linter.unusedVariables false

/-- All are bytes. -/
def Bytes8 (xs : List Int) : Prop := ∀ x ∈ xs, 0 ≤ x ∧ x < 256
/-- Is a bit set? -/
def bitOf (xs : List Int) (b : Int) : Bool := (rd xs (b / 8)).toNat.testBit (b % 8).toNat
theorem rd_at (xs : List Int) (i : Int) (h : i.toNat < xs.length) : rd xs i = xs[i.toNat] := by
  unfold rd; rw [List.getD_eq_getElem?_getD, List.getElem?_eq_getElem h]; rfl
theorem rd_bytes {xs : List Int} (h : Bytes8 xs) (i : Int) : 0 ≤ rd xs i ∧ rd xs i < 256 := by
  by_cases hi : i.toNat < xs.length
  · rw [rd_at xs i hi]; exact h _ (List.getElem_mem hi)
  · unfold rd; rw [List.getD_eq_getElem?_getD, List.getElem?_eq_none (by omega)]; simp
theorem pow8 (b : Int) : (2 : Int) ^ (b % 8).toNat % 256 = ((2 ^ (b % 8).toNat : Nat) : Int) ∧ 2 ^ (b % 8).toNat < 256 ∧ (b % 8).toNat < 8 := by
  have h : (b % 8).toNat < 8 := by omega
  generalize (b % 8).toNat = j at h
  have : ∀ j : Nat, j < 8 → (2 : Int) ^ j % 256 = ((2 ^ j : Nat) : Int) ∧ 2 ^ j < 256 ∧ j < 8 := by decide
  exact this j h
/-- The byte in which a bit is set. -/
theorem setBit_byte {xs : List Int} (h : Bytes8 xs) (b : Int) : Go.bits .or .u8 (rd xs (b / 8)) (2 ^ (b % 8).toNat % 256) = (((rd xs (b / 8)).toNat ||| 2 ^ (b % 8).toNat : Nat) : Int) := by
  have hr := rd_bytes h (b / 8)
  have hp := pow8 b
  rw [hp.1, u8_or _ _ hr.1 hr.2 (by omega) (by omega), Int.toNat_natCast]
theorem setBit_bytes {xs : List Int} (h : Bytes8 xs) (b : Int) : Bytes8 (setBit xs b) := by
  intro x hx
  unfold setBit at hx
  rcases List.mem_or_eq_of_mem_set hx with hx | hx
  · exact h x hx
  · rw [hx, setBit_byte h]
    have hr := rd_bytes h (b / 8)
    have hp := pow8 b
    have : (rd xs (b / 8)).toNat ||| 2 ^ (b % 8).toNat < 2 ^ 8 := Nat.or_lt_two_pow (by omega) (by omega)
    omega
theorem setBit_bit {xs : List Int} (h : Bytes8 xs) (b c : Int) (hb : 0 ≤ b) (hb1 : b < 8 * (xs.length : Int)) (hc : 0 ≤ c) : bitOf (setBit xs b) c = (bitOf xs c || decide (c = b)) := by
  have hlt : (b / 8).toNat < xs.length := by omega
  unfold bitOf
  by_cases e : c / 8 = b / 8
  · have e1 : rd (setBit xs b) (c / 8) = (((rd xs (b / 8)).toNat ||| 2 ^ (b % 8).toNat : Nat) : Int) := by
      rw [rd_at _ _ (by rw [setBit_length]; omega)]
      unfold setBit
      rw [List.getElem_set, if_pos (by omega), setBit_byte h]
    rw [e1, Int.toNat_natCast, Nat.testBit_or, Nat.testBit_two_pow, e]
    congr 1
    have : ((b % 8).toNat = (c % 8).toNat) ↔ c = b := by omega
    simp [this]
  · have e1 : rd (setBit xs b) (c / 8) = rd xs (c / 8) := by
      unfold rd setBit
      rw [List.getD_eq_getElem?_getD, List.getD_eq_getElem?_getD, List.getElem?_set_ne (by omega)]
    have hne : ¬ c = b := by rintro rfl; exact e rfl
    rw [e1]
    simp [hne]
/-- How many bits of bytes are set. -/
def popL (xs : List Int) : Nat := (xs.map fun x => pop x.toNat).sum
theorem pop_or : ∀ x : Fin 256, ∀ j : Fin 8, pop (x.val ||| 2 ^ j.val) = pop x.val + if x.val.testBit j.val then 0 else 1 := by decide +kernel
theorem sum_set (l : List Nat) : ∀ (i : Nat) (h : i < l.length) (v : Nat), (l.set i v).sum + l[i] = l.sum + v := by
  induction l with
  | nil => intro i h; simp at h
  | cons a r ih =>
    intro i h v
    cases i with
    | zero => simp; omega
    | succ i =>
      have := ih i (by simpa using h) v
      simp only [List.set_cons_succ, List.sum_cons, List.getElem_cons_succ]
      omega
theorem setBit_pop {xs : List Int} (h : Bytes8 xs) (b : Int) (hb : 0 ≤ b) (hb1 : b < 8 * (xs.length : Int)) : popL (setBit xs b) = popL xs + if bitOf xs b then 0 else 1 := by
  have hlt : (b / 8).toNat < xs.length := by omega
  have hr := rd_bytes h (b / 8)
  have hp := pow8 b
  have h1 := sum_set (xs.map fun x => pop x.toNat) (b / 8).toNat (by simpa using hlt) (pop (((rd xs (b / 8)).toNat ||| 2 ^ (b % 8).toNat : Nat) : Int).toNat)
  have h2 : popL (setBit xs b) = ((xs.map fun x => pop x.toNat).set (b / 8).toNat (pop (((rd xs (b / 8)).toNat ||| 2 ^ (b % 8).toNat : Nat) : Int).toNat)).sum := by
    unfold popL setBit
    rw [List.map_set, setBit_byte h]
  have h3 := pop_or ⟨(rd xs (b / 8)).toNat, by omega⟩ ⟨(b % 8).toNat, hp.2.2⟩
  simp only at h3
  rw [h2]
  simp only [List.getElem_map, Int.toNat_natCast] at h1 ⊢
  rw [← rd_at xs _ hlt] at h1
  unfold popL bitOf
  omega

/-! The keys' bits -/
/-- The first j bits of a key. -/
def bitsKey (N : Int) (s : ByteArray) : Nat → List Int
  | 0 => []
  | j + 1 => bitsKey N s j ++ [probe s N j]
/-- The bits of the first k keys. -/
def bitsTo (N : Int) (keys : List ByteArray) : Nat → List Int
  | 0 => []
  | k + 1 => bitsTo N keys k ++ bitsKey N (rdOf ByteArray.empty keys k) 4
/-- A list's different ones. -/
def addI (acc : List Int) (x : Int) : List Int := if acc.contains x then acc else acc ++ [x]
/-- The bytes are such that just the bits of a list are set. -/
structure Says (n : Nat) (xs : List Int) (l : List Int) : Prop where
  len : xs.length = n
  byt : Bytes8 xs
  bit : ∀ c : Int, 0 ≤ c → c < 8 * (n : Int) → bitOf xs c = l.contains c
  cnt : popL xs = (l.foldl addI []).length
theorem addI_contains (l : List Int) : ∀ (acc : List Int) (c : Int), (l.foldl addI acc).contains c = (acc.contains c || l.contains c) := by
  induction l with
  | nil => intro acc c; simp
  | cons a r ih =>
    intro acc c
    rw [List.foldl_cons, ih]
    unfold addI
    by_cases h : acc.contains a = true
    · rw [if_pos h]
      by_cases e : c = a
      · subst e; simp only [h, Bool.true_or]
      · simp [e]
    · rw [if_neg h]
      simp [Bool.or_assoc]
theorem Says.snoc {n : Nat} {xs l : List Int} (h : Says n xs l) (b : Int) (hb : 0 ≤ b) (hb1 : b < 8 * (n : Int)) : Says n (setBit xs b) (l ++ [b]) := by
  have hb2 : b < 8 * (xs.length : Int) := by rw [h.len]; exact hb1
  refine ⟨by rw [setBit_length, h.len], setBit_bytes h.byt b, fun c hc hc1 => ?_, ?_⟩
  · rw [setBit_bit h.byt b c hb hb2 hc, h.bit c hc hc1]
    simp
  · rw [setBit_pop h.byt b hb hb2, h.bit b hb hb1, h.cnt, List.foldl_append, List.foldl_cons, List.foldl_nil]
    have hk := addI_contains l [] b
    simp only [List.contains_nil, Bool.false_or] at hk
    generalize l.foldl addI [] = L at hk
    unfold addI
    rw [hk]
    split <;> simp
theorem Says.key {n : Nat} {xs l : List Int} (h : Says n xs l) (s : ByteArray) (hn : 0 < n) (hn1 : n ≤ 100000) : ∀ j, Says n (setKey (8 * (n : Int)) s xs j) (l ++ bitsKey (8 * (n : Int)) s j)
  | 0 => by simpa [setKey, bitsKey] using h
  | j + 1 => by
    have hp := probe_bd s (8 * (n : Int)) (by omega) (by omega) j
    have := (Says.key h s hn hn1 j).snoc (probe s (8 * (n : Int)) j) hp.1 hp.2
    rw [setKey, bitsKey, ← List.append_assoc]
    exact this
theorem says_keys (keys : List ByteArray) (hk : keys.length ≤ 1000) : ∀ k, Says (keys.length + 1) (setKeys (8 * ((keys.length : Int) + 1)) keys (List.replicate (keys.length + 1) 0) k) (bitsTo (8 * ((keys.length : Int) + 1)) keys k)
  | 0 => by
    refine ⟨by simp [setKeys], ?_, ?_, ?_⟩
    · intro x hx
      simp only [setKeys] at hx
      rw [List.eq_of_mem_replicate hx]
      omega
    · intro c hc hc1
      simp only [setKeys, bitsTo]
      unfold bitOf
      rw [rd_at _ _ (by simp; omega)]
      simp
    · simp only [setKeys, bitsTo]
      unfold popL
      rw [List.map_replicate, List.sum_replicate_nat]
      simp [pop_zero]
  | k + 1 => by
    have h := (says_keys keys hk k).key (rdOf ByteArray.empty keys k) (by omega) (by omega) 4
    rw [show ((keys.length + 1 : Nat) : Int) = (keys.length : Int) + 1 from by omega] at h
    exact h
theorem bt_str {xs : List Int} (h : Bytes8 xs) (i : Int) : bt (strOfNums xs) i = rd xs i := by
  by_cases hi : i.toNat < xs.length
  · rw [bt_strOf xs h i hi, rd_at xs i hi]
  · rw [bt_out _ _ (by rw [strOf_size]; omega)]
    unfold rd
    rw [List.getD_eq_getElem?_getD, List.getElem?_eq_none (by omega)]
    rfl
theorem popFrom_str {xs : List Int} (h : Bytes8 xs) : ∀ (d i : Nat), i + d = xs.length → popFrom (strOfNums xs) d (i : Int) = (popL (xs.drop i) : Int) := by
  intro d
  induction d with
  | zero =>
    intro i hi
    rw [List.drop_of_length_le (by omega)]
    rfl
  | succ d ih =>
    intro i hi
    have hlt : i < xs.length := by omega
    have e : xs.drop i = xs[i] :: xs.drop (i + 1) := List.drop_eq_getElem_cons hlt
    have h2 := ih (i + 1) (by omega)
    rw [show ((i + 1 : Nat) : Int) = (i : Int) + 1 from by omega] at h2
    simp only [popFrom]
    rw [h2, e, bt_str h, rd_at xs i (by simpa using hlt)]
    unfold popL
    rw [List.map_cons, List.sum_cons]
    simp only [Int.toNat_natCast]
    omega
theorem full_str {xs : List Int} (h : Bytes8 xs) : fullN (strOfNums xs) = (popL xs : Int) := by
  have := popFrom_str h xs.length 0 (by omega)
  unfold fullN
  rw [strOf_size]
  simpa using this
/-- As many bits are set as there are different ones among the keys' bits. -/
theorem make_full (keys : List ByteArray) (hk : keys.length ≤ 1000) : fullN (strOfNums (makeL keys)) = (((bitsTo (8 * ((keys.length : Int) + 1)) keys keys.length).foldl addI []).length : Int) := by
  have h := says_keys keys hk keys.length
  unfold makeL
  rw [full_str h.byt, h.cnt]
theorem make_size (keys : List ByteArray) (hk : keys.length ≤ 1000) : (strOfNums (makeL keys)).size = keys.length + 1 := by
  rw [strOf_size]; exact (says_keys keys hk keys.length).len
/-- Each of the keys' bits is set. -/
theorem make_bit (keys : List ByteArray) (hk : keys.length ≤ 1000) (b : Int) (hb : 0 ≤ b) (hb1 : b < 8 * ((keys.length : Int) + 1)) (hm : b ∈ bitsTo (8 * ((keys.length : Int) + 1)) keys keys.length) :
    (Go.bits .and .u8 (bt (strOfNums (makeL keys)) (b / 8) / 2 ^ (b % 8).toNat) 1 != 1) = false := by
  have h := says_keys keys hk keys.length
  have h1 := h.bit b hb (by omega)
  rw [List.contains_iff_mem.2 hm] at h1
  have h2 : bt (strOfNums (makeL keys)) (b / 8) = rd (makeL keys) (b / 8) := bt_str h.byt _
  have hr : 0 ≤ rd (makeL keys) (b / 8) ∧ rd (makeL keys) (b / 8) < 256 := rd_bytes h.byt (b / 8)
  have h3 : (rd (makeL keys) (b / 8)).toNat.testBit (b % 8).toNat = true := h1
  rw [h2]
  generalize rd (makeL keys) (b / 8) = x at hr h3
  obtain ⟨x, rfl⟩ := Int.eq_ofNat_of_zero_le hr.1
  rw [Int.toNat_natCast] at h3
  generalize (b % 8).toNat = j at h3
  have e : ((x : Int) / 2 ^ j) = ((x / 2 ^ j : Nat) : Int) := by simp
  have hb : x / 2 ^ j < 256 := Nat.lt_of_le_of_lt (Nat.div_le_self _ _) (by omega)
  have h := u8_and_nat (x / 2 ^ j) 1 hb (by decide)
  rw [show ((1 : Nat) : Int) = (1 : Int) from rfl] at h
  rw [e, h]
  rw [Nat.testBit, Nat.shiftRight_eq_div_pow, Nat.and_comm] at h3
  have h4 : x / 2 ^ j &&& 1 < 2 := by
    have := Nat.and_le_right (n := x / 2 ^ j) (m := 1)
    omega
  generalize x / 2 ^ j &&& 1 = y at h3 h4
  have : y = 1 := by
    have : y ≠ 0 := by simpa using h3
    omega
  subst this
  rfl
theorem bitsTo_mono (N : Int) (keys : List ByteArray) (k m : Nat) (h : k ≤ m) (b : Int) (hb : b ∈ bitsTo N keys k) : b ∈ bitsTo N keys m := by
  induction m with
  | zero => obtain rfl : k = 0 := by omega
            exact hb
  | succ m ih =>
    by_cases e : k = m + 1
    · subst e; exact hb
    · exact List.mem_append_left _ (ih (by omega))
theorem bitsKey_mem (N : Int) (s : ByteArray) (m j : Nat) (h : j < m) : probe s N j ∈ bitsKey N s m := by
  induction m with
  | zero => omega
  | succ m ih =>
    by_cases e : j = m
    · subst e; exact List.mem_append_right _ (by simp)
    · exact List.mem_append_left _ (ih (by omega))
theorem bits_mem (N : Int) (keys : List ByteArray) (k j : Nat) (hk : k < keys.length) (hj : j < 4) : probe (rdOf ByteArray.empty keys k) N j ∈ bitsTo N keys keys.length :=
  bitsTo_mono N keys (k + 1) keys.length (by omega) _ (List.mem_append_right _ (bitsKey_mem N _ 4 j hj))
end Go.Proofs.Ytolningpngjhpaa.Bloom
