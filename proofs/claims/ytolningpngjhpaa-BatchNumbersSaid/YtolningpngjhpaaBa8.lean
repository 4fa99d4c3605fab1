/- Closed forms of what was printed for the batch laws. -/
import Derived.Test.YtolningpngjhpaaBa7
import Derived.Test.YtolningpngjhpaaPBatchWritesx4
namespace Go.Proofs.Ytolningpngjhpaa.Bat
open Go.RowKit Go.Proofs.YtolningpngjhpaaW.PrintWords Go.Proofs.YtolningpngjhpaaW.PrintLast Go.Proofs.YtolningpngjhpaaW.PrintMore
open Go.Proofs.Ytolningpngjhpaa.Nm
open Go.Proofs.Ytolningpngjhpaa.PBatchWrites
set_option linter.unusedVariables false
set_option linter.unusedSimpArgs false

theorem wrap_succ (i : Nat) (h : i < 1000) : wrap64 ((i : Int) + 1) = ((i + 1 : Nat) : Int) := by unfold wrap64; omega
/-- Is an operation too large to be looked at? -/
def bigB (x : S66) : Bool := decide (300 < x.f1.size) || decide (300 < x.f2.size)
def largeB (xs : List S66) : Bool := decide (40 < xs.length) || xs.any bigB
theorem large_l (xs : List S66) (hl : xs.length ≤ 40) : ∀ (d k i : Nat), xs.length - i = d → i ≤ xs.length → d + 1 ≤ k → screelaw05_large.l0 k xs (xs.length : Int) (i : Int) = some ((xs.drop i).any bigB) := by
  intro d
  induction d with
  | zero =>
    intro k i hd hi hk
    obtain ⟨k, rfl⟩ : ∃ m, k = m + 1 := ⟨k - 1, by omega⟩
    simp only [screelaw05_large.l0]
    rw [if_neg (by omega), List.drop_eq_nil_of_le (by omega)]
    rfl
  | succ d ih =>
    intro k i hd hi hk
    obtain ⟨k, rfl⟩ : ∃ m, k = m + 1 := ⟨k - 1, by omega⟩
    simp only [screelaw05_large.l0]
    rw [if_pos (by omega), if_pos (by omega), if_pos (by omega), drop_rd (show i < xs.length by omega), List.any_cons, wrap_succ i (by omega), ih k (i + 1) (by omega) (by omega) (by omega)]
    unfold bigB
    by_cases h1 : 300 < (rd_T66 xs (i : Int)).f1.size
    · rw [if_pos (by omega)]
      simp [h1]
    · rw [if_neg (by omega)]
      by_cases h2 : 300 < (rd_T66 xs (i : Int)).f2.size
      · rw [if_pos (by omega)]
        simp [h2]
      · rw [if_neg (by omega)]
        simp [h1, h2]
theorem large_any (A : Option Addr) (c : Nat) (xs : List S66) (w : World) (hr : Kd.C k66 w A xs.length xs) (hc : xs.length ≤ c) :
    Calls Try.prog 34 #[.slice A xs.length c] w fun e w' => e = .returned (.bool (largeB xs)) ∧ Below w.heap.size w w' := by
  have h : screelaw05_large.f 42 xs = some (largeB xs) := by
    unfold screelaw05_large.f largeB
    by_cases h1 : 40 < xs.length
    · rw [if_pos (by omega)]
      simp [h1]
    · rw [if_neg (by omega)]
      have := large_l xs (by omega) xs.length 42 0 (by omega) (by omega) (by omega)
      rw [List.drop_zero] at this
      simp only [h1, decide_false, Bool.false_or]
      exact this
  refine (screelaw05_large.calls 42 A c xs _ w hr hc h).mono ?_
  rintro e w' ⟨he, hd⟩
  exact ⟨he, hd.below⟩
theorem large_no {xs : List S66} (h : largeB xs = false) : xs.length ≤ 40 ∧ ∀ x ∈ xs, x.f1.size ≤ 300 ∧ x.f2.size ≤ 300 := by
  unfold largeB at h
  rw [Bool.or_eq_false_iff] at h
  refine ⟨by have := of_decide_eq_false h.1; omega, fun x hx => ?_⟩
  have h2 := h.2
  rw [List.any_eq_false] at h2
  have h3 := h2 x hx
  unfold bigB at h3
  simp at h3
  exact h3

theorem same_l (xs : List S66) (hl : xs.length < 1000) : ∀ (d k i : Nat), xs.length - i = d → i ≤ xs.length → d + 1 ≤ k → screeref05_Same.l0 k xs xs (i : Int) = some true := by
  intro d
  induction d with
  | zero =>
    intro k i hd hi hk
    obtain ⟨k, rfl⟩ : ∃ m, k = m + 1 := ⟨k - 1, by omega⟩
    simp only [screeref05_Same.l0]
    rw [if_neg (by omega)]
  | succ d ih =>
    intro k i hd hi hk
    obtain ⟨k, rfl⟩ : ∃ m, k = m + 1 := ⟨k - 1, by omega⟩
    simp only [screeref05_Same.l0]
    rw [if_pos (by omega), if_pos (by omega), if_pos (by omega), if_neg (by simp), wrap_succ i (by omega)]
    exact ih k (i + 1) (by omega) (by omega) (by omega)
theorem same_any (A B : Option Addr) (c d : Nat) (xs : List S66) (w : World) (hr : Kd.C k66 w A xs.length xs) (hc : xs.length ≤ c) (hr2 : Kd.C k66 w B xs.length xs) (hd : xs.length ≤ d) (hl : xs.length < 1000) :
    Calls Try.prog 42 #[.slice A xs.length c, .slice B xs.length d] w fun e w' => e = .returned (.bool true) ∧ Below w.heap.size w w' := by
  have h : screeref05_Same.f (xs.length + 1) xs xs = some true := by
    unfold screeref05_Same.f
    rw [if_pos rfl]
    exact same_l xs hl xs.length (xs.length + 1) 0 (by omega) (by omega) (by omega)
  refine (screeref05_Same.calls (xs.length + 1) A c xs B d xs true w hr hc hr2 hd h).mono ?_
  rintro e w' ⟨he, hd⟩
  exact ⟨he, hd.below⟩

/-- How many bytes keys and values have. -/
def sizeO : List S66 → Nat
  | [] => 0
  | x :: l => x.f1.size + x.f2.size + sizeO l
theorem size_l (xs : List S66) (hl : xs.length ≤ 40) (hb : ∀ x ∈ xs, x.f1.size ≤ 300 ∧ x.f2.size ≤ 300) : ∀ (d k i a : Nat), xs.length - i = d → i ≤ xs.length → d + 1 ≤ k → a ≤ 600 * i → batch_Size.l0 k (a : Int) xs (xs.length : Int) (i : Int) = some ((a + sizeO (xs.drop i) : Nat) : Int) := by
  intro d
  induction d with
  | zero =>
    intro k i a hd hi hk ha
    obtain ⟨k, rfl⟩ : ∃ m, k = m + 1 := ⟨k - 1, by omega⟩
    simp only [batch_Size.l0]
    rw [if_neg (by omega), List.drop_eq_nil_of_le (by omega)]
    rfl
  | succ d ih =>
    intro k i a hd hi hk ha
    obtain ⟨k, rfl⟩ : ∃ m, k = m + 1 := ⟨k - 1, by omega⟩
    obtain ⟨h1, h2⟩ := hb _ (rd_mem (show i < xs.length by omega))
    simp only [batch_Size.l0]
    rw [if_pos (by omega), if_pos (by omega), if_pos (by omega), drop_rd (show i < xs.length by omega), wrap_succ i (by omega)]
    generalize rd_T66 xs (i : Int) = x at h1 h2 ⊢
    have e : wrap64 ((a : Int) + wrap64 ((x.f1.size : Int) + (x.f2.size : Int))) = ((a + (x.f1.size + x.f2.size) : Nat) : Int) := by unfold wrap64; omega
    rw [e, ih k (i + 1) (a + (x.f1.size + x.f2.size)) (by omega) (by omega) (by omega) (by omega)]
    simp only [sizeO]
    congr 2
    omega
theorem size_any (A : Option Addr) (c : Nat) (xs : List S66) (w : World) (hr : Kd.C k66 w A xs.length xs) (hc : xs.length ≤ c) (hl : xs.length ≤ 40) (hb : ∀ x ∈ xs, x.f1.size ≤ 300 ∧ x.f2.size ≤ 300) :
    Calls Try.prog 41 #[.slice A xs.length c] w fun e w' => e = .returned (.int .i64 (sizeO xs : Nat)) ∧ Below w.heap.size w w' := by
  have h : batch_Size.f 42 xs = some ((sizeO xs : Nat) : Int) := by
    unfold batch_Size.f
    have := size_l xs hl hb xs.length 42 0 0 (by omega) (by omega) (by omega) (by omega)
    simpa using this
  exact batch_Size.calls 42 A c xs _ w hr hc h

theorem rmay_l (xs : List S66) (hl : xs.length ≤ 40) : ∀ (d k i : Nat), xs.length - i = d → i ≤ xs.length → d + 1 ≤ k → screeref05_May.l0 k xs (i : Int) = some ((xs.drop i).all oneB && (decide (0 < xs.length) && decide (xs.length ≤ 16))) := by
  intro d
  induction d with
  | zero =>
    intro k i hd hi hk
    obtain ⟨k, rfl⟩ : ∃ m, k = m + 1 := ⟨k - 1, by omega⟩
    simp only [screeref05_May.l0]
    rw [if_neg (by omega), List.drop_eq_nil_of_le (by omega)]
    by_cases h : 0 < xs.length
    · rw [if_pos (by omega)]
      simp only [List.all_nil, h, decide_true, Bool.true_and, Option.some.injEq]
      rw [Bool.eq_iff_iff]
      simp
      omega
    · rw [if_neg (by omega)]
      simp [h]
  | succ d ih =>
    intro k i hd hi hk
    obtain ⟨k, rfl⟩ : ∃ m, k = m + 1 := ⟨k - 1, by omega⟩
    simp only [screeref05_May.l0]
    rw [if_pos (by omega), if_pos (by omega), drop_rd (show i < xs.length by omega), List.all_cons, wrap_succ i (by omega), ih k (i + 1) (by omega) (by omega) (by omega)]
    generalize rd_T66 xs (i : Int) = x
    by_cases a : x.f1.size < 1
    · rw [if_pos (by omega), show oneB x = false from decide_eq_false (fun h => by have := h.1; omega)]
      rfl
    · rw [if_neg (by omega)]
      by_cases b : 100 < x.f1.size
      · rw [if_pos (by omega), show oneB x = false from decide_eq_false (fun h => by have := h.2.1; omega)]
        rfl
      · rw [if_neg (by omega)]
        by_cases c : 100 < x.f2.size
        · rw [if_pos (by omega), show oneB x = false from decide_eq_false (fun h => by have := h.2.2.1; omega)]
          rfl
        · rw [if_neg (by omega)]
          by_cases e : x.f0 = true
          · rw [if_pos e]
            by_cases f : 0 < x.f2.size
            · rw [if_pos (by omega), show oneB x = false from decide_eq_false (fun h => by have := h.2.2.2 e; omega)]
              rfl
            · rw [if_neg (by omega), show oneB x = true from decide_eq_true ⟨by omega, by omega, by omega, fun _ => by omega⟩]
              rfl
          · rw [if_neg e, show oneB x = true from decide_eq_true ⟨by omega, by omega, by omega, fun h => absurd h e⟩]
            rfl
theorem rmay_any (A : Option Addr) (c : Nat) (xs : List S66) (w : World) (hr : Kd.C k66 w A xs.length xs) (hc : xs.length ≤ c) (hl : xs.length ≤ 40) :
    Calls Try.prog 40 #[.slice A xs.length c] w fun e w' => e = .returned (.bool (mayB xs)) ∧ Below w.heap.size w w' := by
  have h : screeref05_May.f 42 xs = some (mayB xs) := by
    unfold screeref05_May.f mayB
    have := rmay_l xs hl xs.length 42 0 (by omega) (by omega) (by omega)
    rw [List.drop_zero] at this
    rw [show (0 : Int) = ((0 : Nat) : Int) from rfl, this, Bool.and_comm]
  exact screeref05_May.calls 42 A c xs _ w hr hc h

theorem rent_l (seq : Nat) (xs : List S66) (hl : xs.length ≤ 40) : ∀ (d k i : Nat) (acc : List S64), xs.length - i = d → i ≤ xs.length → d + 1 ≤ k → acc.length = i →
    screeref05_Entries.l0 k (IntKind.u64.wrap ((seq : Int) + (i : Int))) xs acc (i : Int) = some (acc ++ entFrom seq (xs.drop i) i) := by
  intro d
  induction d with
  | zero =>
    intro k i acc hd hi hk ha
    obtain ⟨k, rfl⟩ : ∃ m, k = m + 1 := ⟨k - 1, by omega⟩
    simp only [screeref05_Entries.l0]
    rw [if_neg (by omega), List.drop_eq_nil_of_le (by omega)]
    simp [entFrom]
  | succ d ih =>
    intro k i acc hd hi hk ha
    obtain ⟨k, rfl⟩ : ∃ m, k = m + 1 := ⟨k - 1, by omega⟩
    simp only [screeref05_Entries.l0]
    have e : IntKind.u64.wrap (IntKind.u64.wrap ((seq : Int) + (i : Int)) + 1) = IntKind.u64.wrap ((seq : Int) + ((i + 1 : Nat) : Int)) := by simp only [IntKind.wrap_u64]; omega
    rw [if_pos (by omega), if_pos (by omega), if_pos (by omega), drop_rd (show i < xs.length by omega), wrap_succ i (by omega), e, ih k (i + 1) _ (by omega) (by omega) (by omega) (by simp; omega)]
    simp only [entFrom, List.append_assoc, List.singleton_append]
theorem rentries_any (seq : Nat) (A : Option Addr) (c : Nat) (xs : List S66) (w : World) (hs : seq < 2 ^ 64) (hr : Kd.C k66 w A xs.length xs) (hc : xs.length ≤ c) (hl : xs.length ≤ 40) :
    Calls Try.prog 38 #[.int .u64 (seq : Int), .slice A xs.length c] w fun e w' => ∃ v, e = .returned v ∧ Kd.R k64 64 w' w.heap.size (fun _ => True) v (entFrom seq xs 0) ∧ Below w.heap.size w w' := by
  have h : screeref05_Entries.f 42 (seq : Int) xs = some (entFrom seq xs 0) := by
    unfold screeref05_Entries.f
    have := rent_l seq xs hl xs.length 42 0 [] (by omega) (by omega) (by omega) rfl
    rw [List.drop_zero, List.nil_append] at this
    rw [← this]
    congr 1
    rw [IntKind.wrap_u64]
    omega
  exact screeref05_Entries.calls 42 (seq : Int) A c xs _ w hr hc h
end Go.Proofs.Ytolningpngjhpaa.Bat
