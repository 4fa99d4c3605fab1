/- bloom.Mix and bloom.probes: what they compute, for every key and every positive number of bits. -/
import Derived.Test.YtolningpngjhpaaPBloomFullx1
import Derived.Handy
import Derived.Outline
namespace Go.Proofs.Ytolningpngjhpaa.Bloom
open Go.RowKit Go.Proofs.YtolningpngjhpaaW.PrintWords Go.Proofs.YtolningpngjhpaaW.PrintLast Go.Proofs.YtolningpngjhpaaW.PrintMore
open Go.Proofs.Ytolningpngjhpaa.PBloomFull
set_option linter.unusedVariables false

/-- The mix of the bytes from place i on, of d more ones. -/
def mixFrom (s : ByteArray) : Nat → Int → Int → Int
  | 0, _, h => h
  | d + 1, i, h => mixFrom s d (i + 1) (IntKind.u64.wrap ((Go.bits .xor .u64 h (IntKind.u64.wrap (bt s i))) * 1099511628211))
/-- A key's mix. -/
def mix (s : ByteArray) : Int := mixFrom s s.size 0 14695981039346656037

theorem mix_l (s : ByteArray) (hs : s.size ≤ 140737488351232) : ∀ (d k : Nat) (i h : Int), 0 ≤ i → (s.size : Int) - i = d → d < k → bloom_Mix.l0 k s h (s.size : Int) i = some (mixFrom s d i h) := by
  intro d
  induction d with
  | zero =>
    intro k i h h0 hd hk
    obtain ⟨k, rfl⟩ : ∃ m, k = m + 1 := ⟨k - 1, by omega⟩
    simp only [bloom_Mix.l0]; rw [if_neg (by omega)]; rfl
  | succ d ih =>
    intro k i h h0 hd hk
    obtain ⟨k, rfl⟩ : ∃ m, k = m + 1 := ⟨k - 1, by omega⟩
    simp only [bloom_Mix.l0]; rw [if_pos (by omega), if_pos h0, if_pos (by omega)]
    have e : wrap64 (i + 1) = i + 1 := by unfold wrap64; omega
    rw [e, ih k (i + 1) _ (by omega) (by omega) (by omega)]; rfl

theorem mix_f (s : ByteArray) (hs : s.size ≤ 140737488351232) : bloom_Mix.f (s.size + 1) s = some (mix s) :=
  mix_l s hs s.size (s.size + 1) 0 _ (by omega) (by omega) (by omega)

theorem wrap_u64_bd (x : Int) : 0 ≤ IntKind.u64.wrap x ∧ IntKind.u64.wrap x < 18446744073709551616 := by
  rw [IntKind.wrap_u64]; omega

theorem mixFrom_bd (s : ByteArray) : ∀ (d : Nat) (i h : Int), 0 ≤ h → h < 18446744073709551616 → 0 ≤ mixFrom s d i h ∧ mixFrom s d i h < 18446744073709551616 := by
  intro d
  induction d with
  | zero => intro i h h0 h1; exact ⟨h0, h1⟩
  | succ d ih =>
    intro i h h0 h1
    have := wrap_u64_bd ((Go.bits .xor .u64 h (IntKind.u64.wrap (bt s i))) * 1099511628211)
    exact ih _ _ this.1 this.2
theorem mix_bd (s : ByteArray) : 0 ≤ mix s ∧ mix s < 18446744073709551616 := mixFrom_bd s _ _ _ (by omega) (by omega)

theorem mix_any (s : ByteArray) (w : World) (hs : s.size ≤ 140737488351232) : Calls Try.prog 45 #[.string s] w fun e w' => e = .returned (.int .u64 (mix s)) ∧ Below w.heap.size w w' := by
  have h := bloom_Mix.calls (s.size + 1) s (mix s) w (mix_f s hs)
  exact h.mono fun e w' h => ⟨h.1, h.2.below⟩

/-- How far a key's bits are apart. -/
def stepOf (h : Int) : Int := Go.bits .or .u64 (h / 131072) (IntKind.u64.wrap (h * 140737488355328))
/-- The i-th mix of a key. -/
def mixAt (s : ByteArray) : Nat → Int
  | 0 => mix s
  | i + 1 => IntKind.u64.wrap (mixAt s i + stepOf (mix s))
theorem mixAt_bd (s : ByteArray) (i : Nat) : 0 ≤ mixAt s i ∧ mixAt s i < 18446744073709551616 := by
  cases i with
  | zero => exact mix_bd s
  | succ i => exact wrap_u64_bd _
/-- The i-th bit of a key among n. -/
def probe (s : ByteArray) (n : Int) (i : Nat) : Int := wrap64 ((mixAt s i).tmod n)
theorem probe_eq (s : ByteArray) (n : Int) (h0 : 0 < n) (h1 : n < 9223372036854775808) (i : Nat) : probe s n i = mixAt s i % n := by
  have hm := mixAt_bd s i
  unfold probe
  rw [Int.tmod_eq_emod_of_nonneg hm.1]
  have a := Int.emod_nonneg (mixAt s i) (b := n) (by omega)
  have b := Int.emod_lt_of_pos (mixAt s i) h0
  generalize mixAt s i % n = x at a b
  unfold wrap64
  omega
theorem probe_bd (s : ByteArray) (n : Int) (h0 : 0 < n) (h1 : n < 9223372036854775808) (i : Nat) : 0 ≤ probe s n i ∧ probe s n i < n := by
  rw [probe_eq s n h0 h1]
  exact ⟨Int.emod_nonneg _ (by omega), Int.emod_lt_of_pos _ h0⟩

set_option maxHeartbeats 1000000 in
theorem probes_any (s : ByteArray) (n : Int) (w : World) (hs : s.size ≤ 140737488351232) (h0 : 0 < n) (h1 : n < 9223372036854775808) :
    Calls Try.prog 46 #[.string s, .int .i64 n] w fun e w' => e = .returned (.agg #[.int .i64 (probe s n 0), .int .i64 (probe s n 1), .int .i64 (probe s n 2), .int .i64 (probe s n 3)]) ∧ Below w.heap.size w w' := by
  have m0 := mixAt_bd s 0
  have m1 := mixAt_bd s 1
  have m2 := mixAt_bd s 2
  have m3 := mixAt_bd s 3
  go_enter Try.func46, Try.ntmps46
  go_wp2_with (go_at_call 45; refine (mix_any _ _ hs).mono ?_; rintro e w1 ⟨rfl, hb⟩)
  have hz : w.heap.size + 2 ≤ w1.heap.size := by have := hb.size; simp at this; omega
  have c0 : w1.cell? ⟨w.heap.size + 1, 0, none⟩ = some (.int .i64 0) := (hb.cell (p := ⟨w.heap.size + 1, 0, none⟩) (by simp; try omega)).trans (by go_simp)
  have f0 : w1.frozen? ⟨w.heap.size + 1, 0, none⟩ = false := (hb.frozen (p := ⟨w.heap.size + 1, 0, none⟩) (by simp; try omega)).trans (by go_simp)
  have d0 : w1.cell? ⟨w.heap.size, 0, none⟩ = some (.int .i64 0) := (hb.cell (p := ⟨w.heap.size, 0, none⟩) (by simp; try omega)).trans (by go_simp)
  have g0 : w1.frozen? ⟨w.heap.size, 0, none⟩ = false := (hb.frozen (p := ⟨w.heap.size, 0, none⟩) (by simp; try omega)).trans (by go_simp)
  have c1 : w1.cell? ⟨w.heap.size + 1, 1, none⟩ = some (.int .i64 0) := (hb.cell (p := ⟨w.heap.size + 1, 1, none⟩) (by simp; try omega)).trans (by go_simp)
  have f1 : w1.frozen? ⟨w.heap.size + 1, 1, none⟩ = false := (hb.frozen (p := ⟨w.heap.size + 1, 1, none⟩) (by simp; try omega)).trans (by go_simp)
  have d1 : w1.cell? ⟨w.heap.size, 1, none⟩ = some (.int .i64 0) := (hb.cell (p := ⟨w.heap.size, 1, none⟩) (by simp; try omega)).trans (by go_simp)
  have g1 : w1.frozen? ⟨w.heap.size, 1, none⟩ = false := (hb.frozen (p := ⟨w.heap.size, 1, none⟩) (by simp; try omega)).trans (by go_simp)
  have c2 : w1.cell? ⟨w.heap.size + 1, 2, none⟩ = some (.int .i64 0) := (hb.cell (p := ⟨w.heap.size + 1, 2, none⟩) (by simp; try omega)).trans (by go_simp)
  have f2 : w1.frozen? ⟨w.heap.size + 1, 2, none⟩ = false := (hb.frozen (p := ⟨w.heap.size + 1, 2, none⟩) (by simp; try omega)).trans (by go_simp)
  have d2 : w1.cell? ⟨w.heap.size, 2, none⟩ = some (.int .i64 0) := (hb.cell (p := ⟨w.heap.size, 2, none⟩) (by simp; try omega)).trans (by go_simp)
  have g2 : w1.frozen? ⟨w.heap.size, 2, none⟩ = false := (hb.frozen (p := ⟨w.heap.size, 2, none⟩) (by simp; try omega)).trans (by go_simp)
  have c3 : w1.cell? ⟨w.heap.size + 1, 3, none⟩ = some (.int .i64 0) := (hb.cell (p := ⟨w.heap.size + 1, 3, none⟩) (by simp; try omega)).trans (by go_simp)
  have f3 : w1.frozen? ⟨w.heap.size + 1, 3, none⟩ = false := (hb.frozen (p := ⟨w.heap.size + 1, 3, none⟩) (by simp; try omega)).trans (by go_simp)
  have d3 : w1.cell? ⟨w.heap.size, 3, none⟩ = some (.int .i64 0) := (hb.cell (p := ⟨w.heap.size, 3, none⟩) (by simp; try omega)).trans (by go_simp)
  have g3 : w1.frozen? ⟨w.heap.size, 3, none⟩ = false := (hb.frozen (p := ⟨w.heap.size, 3, none⟩) (by simp; try omega)).trans (by go_simp)
  go_rounds 5
  refine bodyPost_ret (v := .agg #[.int .i64 (probe s n 0), .int .i64 (probe s n 1), .int .i64 (probe s n 2), .int .i64 (probe s n 3)]) ?_ rfl ⟨rfl, ?_⟩
  · clear hb
    simp only [probe, mixAt, stepOf]
    simp [results, Try.results46, go_sem, *]
  · have hb' : Below w.heap.size w w1 := (((Below.refl w.heap.size w).alloc (Nat.le_refl _) _).alloc (by simp) _).trans (hb.mono (by simp; omega))
    clear hb
    repeat (refine Below.setCell ?_ ?_ _)
    all_goals first | exact hb' | (simp; done) | (simp; omega)
end Go.Proofs.Ytolningpngjhpaa.Bloom
