/- Plain facts on the bits of bytes: what may be with more bits set; how many bits are set. -/
import Derived.Test.YtolningpngjhpaaBl5
import Derived.Laws.BitsAllLaws
namespace Go.Proofs.Ytolningpngjhpaa.Bloom
open Go.RowKit Go.Proofs.YtolningpngjhpaaW.PrintWords Go.Proofs.YtolningpngjhpaaW.PrintLast Go.Proofs.YtolningpngjhpaaW.PrintMore
open Go.Proofs.Ytolningpngjhpaa.PBloomFull
set_option linter.unusedVariables false

/-! A bit of a byte -/
theorem clear_nat (x j : Nat) (hx : x < 256) : (Go.bits .and .u8 ((x : Int) / 2 ^ j) 1 == 0) = !x.testBit j := by
  have e : ((x : Int) / 2 ^ j) = ((x / 2 ^ j : Nat) : Int) := by simp
  have hb : x / 2 ^ j < 256 := Nat.lt_of_le_of_lt (Nat.div_le_self _ _) hx
  rw [e]
  have h := u8_and_nat (x / 2 ^ j) 1 hb (by decide)
  rw [show ((1 : Nat) : Int) = (1 : Int) from rfl] at h
  rw [h, Nat.testBit, Nat.shiftRight_eq_div_pow, Nat.and_comm]
  generalize 1 &&& x / 2 ^ j = y
  cases y with
  | zero => rfl
  | succ y => simp; omega
theorem clear_eq (f : ByteArray) (b : Int) : clear f b = !(bt f (b / 8)).toNat.testBit (b % 8).toNat := by
  have hr := bt_range f (b / 8)
  have h := clear_nat (bt f (b / 8)).toNat (b % 8).toNat (by omega)
  rw [Int.toNat_of_nonneg hr.1] at h
  exact h
/-- Each byte of one has the bits of the other's. -/
def More (f f' : ByteArray) : Prop := f'.size = f.size ∧ ∀ i : Int, ∀ j : Nat, (bt f i).toNat.testBit j = true → (bt f' i).toNat.testBit j = true
theorem may_more {f f' : ByteArray} (h : More f f') (s : ByteArray) (hm : mayB f s = true) : mayB f' s = true := by
  have hc : ∀ b, clear f' b = true → clear f b = true := by
    intro b hb
    rw [clear_eq] at hb ⊢
    cases ht : (bt f (b / 8)).toNat.testBit (b % 8).toNat with
    | false => rfl
    | true => rw [h.2 _ _ ht] at hb; exact absurd hb (by simp)
  have hmiss : ∀ i, miss f' s i = true → miss f s i = true := by
    intro i hi
    unfold miss at hi ⊢
    rw [h.1] at hi
    exact hc _ hi
  have hmiss' : ∀ i, miss f s i = false → miss f' s i = false := by
    intro i hi
    cases ht : miss f' s i with
    | false => rfl
    | true => rw [hmiss i ht] at hi; exact absurd hi (by simp)
  unfold mayB at hm ⊢
  rw [h.1]
  rcases Bool.or_eq_true_iff.1 hm with h0 | h0
  · rw [h0]; rfl
  · simp only [Bool.not_eq_true', Bool.or_eq_false_iff] at h0
    simp [hmiss' 0 h0.1.1.1, hmiss' 1 h0.1.1.2, hmiss' 2 h0.1.2, hmiss' 3 h0.2]
theorem may_ones {f : ByteArray} (h : ∀ i : Int, 0 ≤ i → i < f.size → bt f i = 255) (hf : f.size ≤ 140737488351232) (s : ByteArray) : mayB f s = true := by
  by_cases h0 : f.size = 0
  · unfold mayB; rw [h0]; rfl
  have hmiss : ∀ i, miss f s i = false := by
    intro i
    have hp := probe_bd s (8 * (f.size : Int)) (by omega) (by omega) i
    unfold miss
    rw [clear_eq, h _ (by omega) (by omega)]
    have hj : (probe s (8 * (f.size : Int)) i % 8).toNat < 8 := by omega
    generalize (probe s (8 * (f.size : Int)) i % 8).toNat = j at hj
    have : ∀ j : Nat, j < 8 → (!(255 : Int).toNat.testBit j) = false := by decide
    exact this j hj
  unfold mayB
  simp [hmiss]

/-! How many bits are set -/
/-- A byte's bits. -/
def pop (x : Nat) : Nat := (List.range 8).countP (x.testBit ·)
theorem pop_step : ∀ x : Fin 256, x.val ≠ 0 → pop (x.val &&& (x.val - 1)) + 1 = pop x.val := by decide +kernel
theorem pop_zero : pop 0 = 0 := by decide +kernel
theorem pop_le8 (x : Nat) : pop x ≤ 8 := by
  have := List.countP_le_length (p := (x.testBit ·)) (l := List.range 8)
  simpa [pop] using this
theorem pop_mono {x y : Nat} (h : ∀ j, x.testBit j = true → y.testBit j = true) : pop x ≤ pop y := List.countP_mono_left fun j _ hj => h j hj
/-- The bits of d bytes from place i on. -/
def popFrom (s : ByteArray) : Nat → Int → Int
  | 0, _ => 0
  | d + 1, i => (pop (bt s i).toNat : Int) + popFrom s d (i + 1)
theorem popFrom_bd (s : ByteArray) : ∀ (d : Nat) (i : Int), 0 ≤ popFrom s d i ∧ popFrom s d i ≤ 8 * d
  | 0, _ => ⟨Int.le_refl _, by simp [popFrom]⟩
  | d + 1, i => by
    have h := popFrom_bd s d (i + 1)
    have := pop_le8 (bt s i).toNat
    simp only [popFrom]
    omega
theorem popFrom_mono {f f' : ByteArray} (h : ∀ i : Int, ∀ j : Nat, (bt f i).toNat.testBit j = true → (bt f' i).toNat.testBit j = true) : ∀ (d : Nat) (i : Int), popFrom f d i ≤ popFrom f' d i
  | 0, _ => Int.le_refl _
  | d + 1, i => by
    have h1 := popFrom_mono h d (i + 1)
    have h2 := pop_mono (h i)
    simp only [popFrom]
    omega
/-- How many bits of a filter are set. -/
def fullN (s : ByteArray) : Int := popFrom s s.size 0

theorem full_l1 (s : ByteArray) (n i : Int) : ∀ (d x k : Nat) (acc : Int), pop x = d → x < 256 → 0 ≤ acc → acc + d ≤ 9223372036854775807 →
    bloom_Full.l1 (k + d + 1) s acc (x : Int) n i = bloom_Full.l0 k s (acc + d) n (wrap64 (i + 1)) := by
  intro d
  induction d with
  | zero =>
    intro x k acc hp hx h0 h1
    have hx0 : x = 0 := by
      cases Nat.eq_zero_or_pos x with
      | inl h => exact h
      | inr h => have := pop_step ⟨x, hx⟩ (by simp; omega); simp only at this; omega
    subst hx0
    simp only [bloom_Full.l1]
    rw [if_pos (by omega)]
    simp
  | succ d ih =>
    intro x k acc hp hx h0 h1
    have hne : x ≠ 0 := by
      rintro rfl
      rw [pop_zero] at hp
      omega
    have hs := pop_step ⟨x, hx⟩ hne
    simp only at hs
    obtain ⟨m, hm⟩ : ∃ m, m = k + d + 1 := ⟨_, rfl⟩
    rw [show k + (d + 1) + 1 = m + 1 by omega]
    simp only [bloom_Full.l1]
    rw [if_neg (by omega), hm]
    have e1 : wrap64 (acc + 1) = acc + 1 := by unfold wrap64; omega
    have e2 : ((x : Int) - 1) % 256 = ((x - 1 : Nat) : Int) := by omega
    have hlt : x &&& (x - 1) < 256 := Nat.lt_of_le_of_lt Nat.and_le_left hx
    rw [e1, e2, u8_and_nat x (x - 1) hx (by omega), ih (x &&& (x - 1)) k (acc + 1) (by omega) hlt (by omega) (by omega)]
    congr 1
    omega
theorem full_l0 (s : ByteArray) (hs : s.size ≤ 140737488351232) : ∀ (d : Nat) (i acc : Int), 0 ≤ i → (s.size : Int) - i = d → 0 ≤ acc → acc ≤ 8 * i →
    ∃ k, bloom_Full.l0 k s acc (s.size : Int) i = some (acc + popFrom s d i) := by
  intro d
  induction d with
  | zero =>
    intro i acc h0 hd ha hb
    exact ⟨1, by simp only [bloom_Full.l0]; rw [if_neg (by omega)]; simp [popFrom]⟩
  | succ d ih =>
    intro i acc h0 hd ha hb
    have hr := bt_range s i
    have h8 := pop_le8 (bt s i).toNat
    obtain ⟨k, hk⟩ := ih (i + 1) (acc + pop (bt s i).toNat) (by omega) (by omega) (by omega) (by omega)
    refine ⟨(k + pop (bt s i).toNat + 1) + 1, ?_⟩
    simp only [bloom_Full.l0]
    rw [if_pos (by omega), if_pos h0, if_pos (by omega)]
    have h := full_l1 s (s.size : Int) i _ (bt s i).toNat k acc rfl (by omega) ha (by omega)
    rw [Int.toNat_of_nonneg hr.1] at h
    have e : wrap64 (i + 1) = i + 1 := by unfold wrap64; omega
    rw [h, e, hk]
    simp only [popFrom, Int.add_assoc]
theorem full_f (s : ByteArray) (hs : s.size ≤ 140737488351232) : ∃ k, bloom_Full.f k s = some (fullN s) := by
  obtain ⟨k, hk⟩ := full_l0 s hs s.size 0 0 (by omega) (by omega) (by omega) (by omega)
  exact ⟨k, by unfold bloom_Full.f fullN; rw [hk]; simp⟩
theorem full_all (s : ByteArray) (w : World) (hs : s.size ≤ 140737488351232) : Calls Try.prog 14 #[.string s] w fun e w' => e = .returned (.int .i64 (fullN s)) ∧ Below w.heap.size w w' := by
  obtain ⟨k, hk⟩ := full_f s hs
  exact full_any s k _ w hk
theorem full_more {f f' : ByteArray} (h : More f f') : fullN f ≤ fullN f' := by
  unfold fullN
  rw [h.1]
  exact popFrom_mono h.2 _ _
end Go.Proofs.Ytolningpngjhpaa.Bloom
