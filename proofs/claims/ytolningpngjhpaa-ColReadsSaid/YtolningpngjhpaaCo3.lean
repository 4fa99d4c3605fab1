/- col.numbers' closed form; col.checked. -/
import Derived.Test.YtolningpngjhpaaCo2
import Derived.Handy
import Derived.Outline
namespace Go.Proofs.Ytolningpngjhpaa.Col
open Go.RowKit Go.Proofs.YtolningpngjhpaaW.PrintWords Go.Proofs.YtolningpngjhpaaW.PrintLast Go.Proofs.YtolningpngjhpaaW.PrintMore
open Go.Proofs.Ytolningpngjhpaa.Nm Go.Proofs.Ytolningpngjhpaa.PColWrites
set_option linter.unusedVariables false
set_option linter.unusedSimpArgs false

/-- So many numbers at the beginning of bytes, and what follows. -/
def numsM : Nat → List UInt8 → Option (List Nat × List UInt8)
  | 0, s => some ([], s)
  | n + 1, s => match take s with
    | none => none
    | some (a, r) => match numsM n r with
      | none => none
      | some (l, q) => some (a :: l, q)
def numsR (acc : List Int) (o : Option (List Nat × List UInt8)) : List Int × ByteArray × Bool := match o with
  | some (l, q) => (acc ++ l.map (fun n : Nat => (n : Int)), str q, true)
  | none => ([], ⟨#[]⟩, false)
theorem numbers_l (n : Nat) (hn : n ≤ 10) : ∀ (d k i : Nat) (s : List UInt8) (acc : List Int), n - i = d → i ≤ n → d + 1 ≤ k → s.length ≤ 9223372036854775807 → acc.length = i →
    col_numbers.l0 k (str s) acc (n : Int) (i : Int) = some (numsR acc (numsM d s)) := by
  intro d
  induction d with
  | zero =>
    intro k i s acc hd hi hk hs ha
    obtain ⟨k, rfl⟩ : ∃ m, k = m + 1 := ⟨k - 1, by omega⟩
    simp only [col_numbers.l0]
    rw [if_neg (by omega)]
    simp [numsR, numsM]
  | succ d ih =>
    intro k i s acc hd hi hk hs ha
    obtain ⟨k, rfl⟩ : ∃ m, k = m + 1 := ⟨k - 1, by omega⟩
    simp only [col_numbers.l0]
    rw [if_pos (by omega)]
    have ht : num_Take.f k (str s) = some (tkN (str s), tkR (str s), tkB (str s)) := by
      unfold num_Take.f
      rw [if_pos (by rw [str_size]; exact hs)]
    rw [ht]
    simp only [Option.bind_some]
    cases hq : take s with
    | none =>
      have hb : tkB (str s) = false := by unfold tkB; rw [str_list, hq]; rfl
      rw [hb]
      simp [numsM, numsR, hq]
    | some x =>
      obtain ⟨a, r⟩ := x
      have hb : tkB (str s) = true := by unfold tkB; rw [str_list, hq]; rfl
      have hn' : tkN (str s) = (a : Int) := by unfold tkN; rw [str_list, hq]
      have hr : tkR (str s) = str r := by unfold tkR; rw [str_list, hq]
      rw [hb, hn', hr, if_pos rfl, if_pos (by omega)]
      have hsr := ((take_iff s a r).1 hq).2
      have hrl : r.length ≤ 9223372036854775807 := by
        have := congrArg List.length hsr
        simp only [List.length_append] at this
        omega
      rw [wrap_succ i (by omega), ih k (i + 1) r (acc ++ [(a : Int)]) (by omega) (by omega) (by omega) hrl (by simp; omega)]
      simp only [numsM, hq]
      cases numsM d r with
      | none => rfl
      | some y => simp [numsR]
theorem numbers_f (s : List UInt8) (n : Nat) (hn : n ≤ 10) (hs : s.length ≤ 9223372036854775807) : col_numbers.f (n + 1) (str s) (n : Int) = some (numsR [] (numsM n s)) :=
  numbers_l n hn n (n + 1) 0 s [] (by omega) (by omega) (by omega) hs rfl

/-- A function's value. -/
abbrev fnV (f : FuncId) : Value := .func (.func f) #[] #[]

theorem two_blocks {w w1 : World} {c d : Array Value} {t u : TypeId} (hb : Below ((w.alloc (.cells c t)).alloc (.cells d u)).heap.size ((w.alloc (.cells c t)).alloc (.cells d u)) w1) :
    (∀ j : Nat, w1.cell? ⟨w.heap.size, j, none⟩ = c[j]?) ∧ (∀ j : Nat, w1.cell? ⟨w.heap.size + 1, j, none⟩ = d[j]?) ∧ (∀ j : Nat, w1.frozen? ⟨w.heap.size + 1, j, none⟩ = false) ∧ w.heap.size + 2 ≤ w1.heap.size := by
  refine ⟨fun j => ?_, fun j => ?_, fun j => ?_, ?_⟩
  · rw [hb.cell (p := ⟨w.heap.size, j, none⟩) (by simp; omega), World.cell?_alloc_lt _ _ _ (by simp), World.cell?_alloc_new]
  · rw [hb.cell (p := ⟨w.heap.size + 1, j, none⟩) (by simp)]
    have := World.cell?_alloc_new (w := w.alloc (.cells c t)) d u j
    simp
  · rw [hb.frozen (p := ⟨w.heap.size + 1, j, none⟩) (by simp)]
    go_simp
  · have := hb.size
    simp at this
    omega
theorem two_after {w w1 : World} {c d : Array Value} {t u : TypeId} (hb : Below ((w.alloc (.cells c t)).alloc (.cells d u)).heap.size ((w.alloc (.cells c t)).alloc (.cells d u)) w1) :
    (∀ (j : Nat) o, (w1.alloc o).cell? ⟨w.heap.size + 1, j, none⟩ = d[j]?) ∧ (∀ (j : Nat) o, (w1.alloc o).frozen? ⟨w.heap.size + 1, j, none⟩ = false) := by
  obtain ⟨h1, h2, h3, h4⟩ := two_blocks hb
  refine ⟨fun j o => ?_, fun j o => ?_⟩
  · rw [((Below.refl w1.heap.size w1).alloc (Nat.le_refl _) o).cell (by simp only; omega)]
    exact h2 j
  · rw [((Below.refl w1.heap.size w1).alloc (Nat.le_refl _) o).frozen (by simp only; omega)]
    exact h3 j
theorem toList_inj {a b : ByteArray} (h : a.toList = b.toList) : a = b := by
  rw [ByteArray.toList_eq, ByteArray.toList_eq] at h
  rw [← str_of a, h, str_of]

set_option maxHeartbeats 4000000 in
set_option maxRecDepth 100000 in
theorem checkedLock_any (p s : ByteArray) (st k at_ : Int) (w : World) (h0 : 0 ≤ st) (h1 : st < 18446744073709551616) (ha0 : 0 ≤ at_) (ha1 : at_ < 18446744073709551616) :
    Calls Try.prog 54 #[.agg #[.string p, .int .u64 st, .int .i64 k, .int .u64 at_], .string s, fnV 19] w fun e w' =>
      e = .returned (if lockM p st k at_ = (s, 0) then .tuple #[.agg #[.string p, .int .u64 st, .int .i64 k, .int .u64 at_], .int .i64 0] else .tuple #[.agg #[.string ⟨#[]⟩, .int .u64 0, .int .i64 0, .int .u64 0], .int .i64 2]) ∧ Below w.heap.size w w' := by
  have hl := lock_f p st k at_ h0 h1 ha0 ha1
  by_cases hB : lockB p st k at_ = true
  · obtain ⟨b, hb⟩ : ∃ b, lockM p st k at_ = (b, 0) := ⟨_, by unfold lockM; rw [if_pos hB]⟩
    rw [hb] at hl ⊢
    have HL := Aside0.mk hl
    clear hl hb hB
    by_cases hs : b = s
    · subst hs
      rw [if_pos rfl]
      go_enter Try.func54, Try.ntmps54
      go_wp2_with (go_at_call 19; refine (col_Lock.calls 11 p st k at_ _ _ _ HL.out).mono ?_; rintro e w1 ⟨rfl, hb1⟩; obtain ⟨hc, hd, hf, hz⟩ := two_blocks hb1; have hz1 : w.heap.size + 1 < w1.heap.size := hz; have hz0 : w.heap.size < w1.heap.size := Nat.lt_of_succ_lt hz; have c0 : w1.cell? ⟨w.heap.size, 0, none⟩ = some (.string p) := hc 0; have c1 : w1.cell? ⟨w.heap.size, 1, none⟩ = some (.int .u64 st) := hc 1; have c2 : w1.cell? ⟨w.heap.size, 2, none⟩ = some (.int .i64 k) := hc 2; have c3 : w1.cell? ⟨w.heap.size, 3, none⟩ = some (.int .u64 at_) := hc 3; have d0 : w1.cell? ⟨w.heap.size + 1, 0, none⟩ = some (.string ⟨#[]⟩) := hd 0; have d1 : w1.cell? ⟨w.heap.size + 1, 1, none⟩ = some (.int .u64 0) := hd 1; have d2 : w1.cell? ⟨w.heap.size + 1, 2, none⟩ = some (.int .i64 0) := hd 2; have d3 : w1.cell? ⟨w.heap.size + 1, 3, none⟩ = some (.int .u64 0) := hd 3; have f0 : w1.frozen? ⟨w.heap.size + 1, 0, none⟩ = false := hf 0; have f1 : w1.frozen? ⟨w.heap.size + 1, 1, none⟩ = false := hf 1; have f2 : w1.frozen? ⟨w.heap.size + 1, 2, none⟩ = false := hf 2; have f3 : w1.frozen? ⟨w.heap.size + 1, 3, none⟩ = false := hf 3; clear hc hd hf)
      refine bodyPost_ret (v := .tuple #[.agg #[.string p, .int .u64 st, .int .i64 k, .int .u64 at_], .int .i64 0]) ?_ rfl ⟨?_, ?_⟩
      · simp [results, Try.results54, go_sem, *]
      · rfl
      have hB1 : Below w.heap.size w w1 := (((Below.refl w.heap.size w).alloc (Nat.le_refl _) _).alloc (by simp) _).trans (hb1.mono (by simp; omega))
      clear hb1
      repeat (first | refine Below.setCell ?_ ?_ _ | refine Below.alloc ?_ ?_ _)
      all_goals first | exact hB1 | (simp; done) | (simp; omega) | omega
    · have hne : (b.toList == s.toList) = false := by rw [beq_eq_false_iff_ne]; intro h; exact hs (toList_inj h)
      rw [if_neg (by intro h; simp at h; exact hs h)]
      go_enter Try.func54, Try.ntmps54
      go_wp2_with (go_at_call 19; refine (col_Lock.calls 11 p st k at_ _ _ _ HL.out).mono ?_; rintro e w1 ⟨rfl, hb1⟩; obtain ⟨hc, hd, hf, hz⟩ := two_blocks hb1; have hz1 : w.heap.size + 1 < w1.heap.size := hz; have hz0 : w.heap.size < w1.heap.size := Nat.lt_of_succ_lt hz; have c0 : w1.cell? ⟨w.heap.size, 0, none⟩ = some (.string p) := hc 0; have c1 : w1.cell? ⟨w.heap.size, 1, none⟩ = some (.int .u64 st) := hc 1; have c2 : w1.cell? ⟨w.heap.size, 2, none⟩ = some (.int .i64 k) := hc 2; have c3 : w1.cell? ⟨w.heap.size, 3, none⟩ = some (.int .u64 at_) := hc 3; have d0 : w1.cell? ⟨w.heap.size + 1, 0, none⟩ = some (.string ⟨#[]⟩) := hd 0; have d1 : w1.cell? ⟨w.heap.size + 1, 1, none⟩ = some (.int .u64 0) := hd 1; have d2 : w1.cell? ⟨w.heap.size + 1, 2, none⟩ = some (.int .i64 0) := hd 2; have d3 : w1.cell? ⟨w.heap.size + 1, 3, none⟩ = some (.int .u64 0) := hd 3; have f0 : w1.frozen? ⟨w.heap.size + 1, 0, none⟩ = false := hf 0; have f1 : w1.frozen? ⟨w.heap.size + 1, 1, none⟩ = false := hf 1; have f2 : w1.frozen? ⟨w.heap.size + 1, 2, none⟩ = false := hf 2; have f3 : w1.frozen? ⟨w.heap.size + 1, 3, none⟩ = false := hf 3; clear hc hd hf)
      refine bodyPost_ret (v := .tuple #[.agg #[.string ⟨#[]⟩, .int .u64 0, .int .i64 0, .int .u64 0], .int .i64 2]) ?_ rfl ⟨?_, ?_⟩
      · simp [results, Try.results54, go_sem, *]
      · rfl
      have hB1 : Below w.heap.size w w1 := (((Below.refl w.heap.size w).alloc (Nat.le_refl _) _).alloc (by simp) _).trans (hb1.mono (by simp; omega))
      clear hb1
      repeat (first | refine Below.setCell ?_ ?_ _ | refine Below.alloc ?_ ?_ _)
      all_goals first | exact hB1 | (simp; done) | (simp; omega) | omega
  · have hb : lockM p st k at_ = (⟨#[]⟩, 2) := by unfold lockM; rw [if_neg hB]
    rw [hb] at hl ⊢
    have HL := Aside0.mk hl
    clear hl hb hB
    skip
    rw [if_neg (by intro h; simp at h)]
    go_enter Try.func54, Try.ntmps54
    go_wp2_with (go_at_call 19; refine (col_Lock.calls 11 p st k at_ _ _ _ HL.out).mono ?_; rintro e w1 ⟨rfl, hb1⟩; obtain ⟨hc, hd, hf, hz⟩ := two_blocks hb1; have hz1 : w.heap.size + 1 < w1.heap.size := hz; have hz0 : w.heap.size < w1.heap.size := Nat.lt_of_succ_lt hz; have c0 : w1.cell? ⟨w.heap.size, 0, none⟩ = some (.string p) := hc 0; have c1 : w1.cell? ⟨w.heap.size, 1, none⟩ = some (.int .u64 st) := hc 1; have c2 : w1.cell? ⟨w.heap.size, 2, none⟩ = some (.int .i64 k) := hc 2; have c3 : w1.cell? ⟨w.heap.size, 3, none⟩ = some (.int .u64 at_) := hc 3; have d0 : w1.cell? ⟨w.heap.size + 1, 0, none⟩ = some (.string ⟨#[]⟩) := hd 0; have d1 : w1.cell? ⟨w.heap.size + 1, 1, none⟩ = some (.int .u64 0) := hd 1; have d2 : w1.cell? ⟨w.heap.size + 1, 2, none⟩ = some (.int .i64 0) := hd 2; have d3 : w1.cell? ⟨w.heap.size + 1, 3, none⟩ = some (.int .u64 0) := hd 3; have f0 : w1.frozen? ⟨w.heap.size + 1, 0, none⟩ = false := hf 0; have f1 : w1.frozen? ⟨w.heap.size + 1, 1, none⟩ = false := hf 1; have f2 : w1.frozen? ⟨w.heap.size + 1, 2, none⟩ = false := hf 2; have f3 : w1.frozen? ⟨w.heap.size + 1, 3, none⟩ = false := hf 3; clear hc hd hf)
    refine bodyPost_ret (v := .tuple #[.agg #[.string ⟨#[]⟩, .int .u64 0, .int .i64 0, .int .u64 0], .int .i64 2]) ?_ rfl ⟨?_, ?_⟩
    · simp [results, Try.results54, go_sem, *]
    · rfl
    have hB1 : Below w.heap.size w w1 := (((Below.refl w.heap.size w).alloc (Nat.le_refl _) _).alloc (by simp) _).trans (hb1.mono (by simp; omega))
    clear hb1
    repeat (first | refine Below.setCell ?_ ?_ _ | refine Below.alloc ?_ ?_ _)
    all_goals first | exact hB1 | (simp; done) | (simp; omega) | omega

set_option maxHeartbeats 4000000 in
set_option maxRecDepth 100000 in
theorem checkedWrite_any (s : ByteArray) (st k : Int) (w : World) (h0 : 0 ≤ st) (h1 : st < 18446744073709551616) :
    Calls Try.prog 56 #[.agg #[.int .u64 st, .int .i64 k], .string s, fnV 21] w fun e w' =>
      e = .returned (if writeM st k = (s, 0) then .tuple #[.agg #[.int .u64 st, .int .i64 k], .int .i64 0] else .tuple #[.agg #[.int .u64 0, .int .i64 0], .int .i64 2]) ∧ Below w.heap.size w w' := by
  have hl := write_f st k h0 h1
  by_cases hB : timeB st = true ∧ 1 ≤ k ∧ k ≤ 3
  · obtain ⟨b, hb⟩ : ∃ b, writeM st k = (b, 0) := ⟨_, by unfold writeM; rw [if_pos hB]⟩
    rw [hb] at hl ⊢
    have HL := Aside0.mk hl
    clear hl hb hB
    by_cases hs : b = s
    · subst hs
      rw [if_pos rfl]
      go_enter Try.func56, Try.ntmps56
      go_wp2_with (go_at_call 21; refine (col_Write.calls 10 st k _ _ _ HL.out).mono ?_; rintro e w1 ⟨rfl, hb1⟩; obtain ⟨hc, hd, hf, hz⟩ := two_blocks hb1; have hz1 : w.heap.size + 1 < w1.heap.size := hz; have hz0 : w.heap.size < w1.heap.size := Nat.lt_of_succ_lt hz; have c0 : w1.cell? ⟨w.heap.size, 0, none⟩ = some (.int .u64 st) := hc 0; have c1 : w1.cell? ⟨w.heap.size, 1, none⟩ = some (.int .i64 k) := hc 1; have d0 : w1.cell? ⟨w.heap.size + 1, 0, none⟩ = some (.int .u64 0) := hd 0; have d1 : w1.cell? ⟨w.heap.size + 1, 1, none⟩ = some (.int .i64 0) := hd 1; have f0 : w1.frozen? ⟨w.heap.size + 1, 0, none⟩ = false := hf 0; have f1 : w1.frozen? ⟨w.heap.size + 1, 1, none⟩ = false := hf 1; clear hc hd hf)
      refine bodyPost_ret (v := .tuple #[.agg #[.int .u64 st, .int .i64 k], .int .i64 0]) ?_ rfl ⟨?_, ?_⟩
      · simp [results, Try.results56, go_sem, *]
      · rfl
      have hB1 : Below w.heap.size w w1 := (((Below.refl w.heap.size w).alloc (Nat.le_refl _) _).alloc (by simp) _).trans (hb1.mono (by simp; omega))
      clear hb1
      repeat (first | refine Below.setCell ?_ ?_ _ | refine Below.alloc ?_ ?_ _)
      all_goals first | exact hB1 | (simp; done) | (simp; omega) | omega
    · have hne : (b.toList == s.toList) = false := by rw [beq_eq_false_iff_ne]; intro h; exact hs (toList_inj h)
      rw [if_neg (by intro h; simp at h; exact hs h)]
      go_enter Try.func56, Try.ntmps56
      go_wp2_with (go_at_call 21; refine (col_Write.calls 10 st k _ _ _ HL.out).mono ?_; rintro e w1 ⟨rfl, hb1⟩; obtain ⟨hc, hd, hf, hz⟩ := two_blocks hb1; have hz1 : w.heap.size + 1 < w1.heap.size := hz; have hz0 : w.heap.size < w1.heap.size := Nat.lt_of_succ_lt hz; have c0 : w1.cell? ⟨w.heap.size, 0, none⟩ = some (.int .u64 st) := hc 0; have c1 : w1.cell? ⟨w.heap.size, 1, none⟩ = some (.int .i64 k) := hc 1; have d0 : w1.cell? ⟨w.heap.size + 1, 0, none⟩ = some (.int .u64 0) := hd 0; have d1 : w1.cell? ⟨w.heap.size + 1, 1, none⟩ = some (.int .i64 0) := hd 1; have f0 : w1.frozen? ⟨w.heap.size + 1, 0, none⟩ = false := hf 0; have f1 : w1.frozen? ⟨w.heap.size + 1, 1, none⟩ = false := hf 1; clear hc hd hf)
      refine bodyPost_ret (v := .tuple #[.agg #[.int .u64 0, .int .i64 0], .int .i64 2]) ?_ rfl ⟨?_, ?_⟩
      · simp [results, Try.results56, go_sem, *]
      · rfl
      have hB1 : Below w.heap.size w w1 := (((Below.refl w.heap.size w).alloc (Nat.le_refl _) _).alloc (by simp) _).trans (hb1.mono (by simp; omega))
      clear hb1
      repeat (first | refine Below.setCell ?_ ?_ _ | refine Below.alloc ?_ ?_ _)
      all_goals first | exact hB1 | (simp; done) | (simp; omega) | omega
  · have hb : writeM st k = (⟨#[]⟩, 2) := by unfold writeM; rw [if_neg hB]
    rw [hb] at hl ⊢
    have HL := Aside0.mk hl
    clear hl hb hB
    skip
    rw [if_neg (by intro h; simp at h)]
    go_enter Try.func56, Try.ntmps56
    go_wp2_with (go_at_call 21; refine (col_Write.calls 10 st k _ _ _ HL.out).mono ?_; rintro e w1 ⟨rfl, hb1⟩; obtain ⟨hc, hd, hf, hz⟩ := two_blocks hb1; have hz1 : w.heap.size + 1 < w1.heap.size := hz; have hz0 : w.heap.size < w1.heap.size := Nat.lt_of_succ_lt hz; have c0 : w1.cell? ⟨w.heap.size, 0, none⟩ = some (.int .u64 st) := hc 0; have c1 : w1.cell? ⟨w.heap.size, 1, none⟩ = some (.int .i64 k) := hc 1; have d0 : w1.cell? ⟨w.heap.size + 1, 0, none⟩ = some (.int .u64 0) := hd 0; have d1 : w1.cell? ⟨w.heap.size + 1, 1, none⟩ = some (.int .i64 0) := hd 1; have f0 : w1.frozen? ⟨w.heap.size + 1, 0, none⟩ = false := hf 0; have f1 : w1.frozen? ⟨w.heap.size + 1, 1, none⟩ = false := hf 1; clear hc hd hf)
    refine bodyPost_ret (v := .tuple #[.agg #[.int .u64 0, .int .i64 0], .int .i64 2]) ?_ rfl ⟨?_, ?_⟩
    · simp [results, Try.results56, go_sem, *]
    · rfl
    have hB1 : Below w.heap.size w w1 := (((Below.refl w.heap.size w).alloc (Nat.le_refl _) _).alloc (by simp) _).trans (hb1.mono (by simp; omega))
    clear hb1
    repeat (first | refine Below.setCell ?_ ?_ _ | refine Below.alloc ?_ ?_ _)
    all_goals first | exact hB1 | (simp; done) | (simp; omega) | omega
end Go.Proofs.Ytolningpngjhpaa.Col
