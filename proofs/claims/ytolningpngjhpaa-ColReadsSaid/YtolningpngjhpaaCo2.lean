/- What col.Leases, the reference's, and the law's own() come to. -/
import Derived.Test.YtolningpngjhpaaCo1
namespace Go.Proofs.Ytolningpngjhpaa.Col
open Go.RowKit Go.Proofs.YtolningpngjhpaaW.PrintWords Go.Proofs.YtolningpngjhpaaW.PrintLast Go.Proofs.YtolningpngjhpaaW.PrintMore
open Go.Proofs.Ytolningpngjhpaa.Nm Go.Proofs.Ytolningpngjhpaa.PColWrites
set_option linter.unusedVariables false
set_option linter.unusedSimpArgs false

/-- All three are of 64 bits. -/
def Wf (x : S78) : Prop := (0 ≤ x.f0 ∧ x.f0 < 18446744073709551616) ∧ (0 ≤ x.f1 ∧ x.f1 < 18446744073709551616) ∧ 0 ≤ x.f2 ∧ x.f2 < 18446744073709551616
/-- The i-th of leases. -/
def at8 (xs : List S78) (i : Nat) : S78 := xs.getD i z78
/-- May the i-th not stand there? -/
def badAt (xs : List S78) (i : Nat) : Bool := !timeB (at8 xs i).f0 || !timeB (at8 xs i).f1 || decide ((at8 xs i).f2 > 1099511627776) || (decide (0 < i) && decide ((at8 xs (i - 1)).f0 ≥ (at8 xs i).f0))
/-- The i-th one's bytes. -/
def shorts (x : S78) : ByteArray := sh x.f0 ++ sh x.f1 ++ sh x.f2
/-- The bytes of d leases from the i-th on, behind some. -/
def lzFrom (xs : List S78) : Nat → Nat → ByteArray → Option ByteArray
  | 0, _, acc => some acc
  | d + 1, i, acc => if badAt xs i = true then none else lzFrom xs d (i + 1) (acc ++ shorts (at8 xs i))
def fin (o : Option ByteArray) : ByteArray × Int := match o with
  | some s => (s, 0)
  | none => (⟨#[]⟩, 2)
/-- Leases' bytes, and the error. -/
def leasesM (xs : List S78) : ByteArray × Int := if 5 < xs.length then (⟨#[]⟩, 2) else fin (lzFrom xs xs.length 0 ⟨#[]⟩)
theorem shorts_size {x : S78} (h : Wf x) : (shorts x).size ≤ 30 := by
  unfold shorts
  have a := sh_size _ h.1.2
  have b := sh_size _ h.2.1.2
  have c := sh_size _ h.2.2.2
  rw [ByteArray.size_append, ByteArray.size_append]
  omega
theorem at8_wf {xs : List S78} (h : ∀ x ∈ xs, Wf x) {i : Nat} (hi : i < xs.length) : Wf (at8 xs i) := by
  unfold at8
  rw [List.getD_eq_getElem?_getD, List.getElem?_eq_getElem hi]
  exact h _ (List.getElem_mem hi)

theorem wrap_succ (i : Nat) (h : i < 1000) : wrap64 ((i : Int) + 1) = ((i + 1 : Nat) : Int) := by unfold wrap64; omega
theorem wrap_pred (i : Nat) (h : i < 1000) (h0 : 0 < i) : wrap64 ((i : Int) - 1) = ((i - 1 : Nat) : Int) := by unfold wrap64; omega
theorem leases_l (xs : List S78) (hw : ∀ x ∈ xs, Wf x) (hl : xs.length ≤ 5) : ∀ (d k i : Nat) (acc : ByteArray), xs.length - i = d → i ≤ xs.length → 2 * d + 12 ≤ k → acc.size ≤ 30 * i →
    col_Leases.l0 k xs acc xs (xs.length : Int) (i : Int) = some (fin (lzFrom xs d i acc)) := by
  intro d
  induction d with
  | zero =>
    intro k i acc hd hi hk ha
    obtain ⟨k, rfl⟩ : ∃ m, k = m + 1 := ⟨k - 1, by omega⟩
    simp only [col_Leases.l0]
    rw [if_neg (by omega)]
    rfl
  | succ d ih =>
    intro k i acc hd hi hk ha
    obtain ⟨k, rfl⟩ : ∃ m, k = m + 2 := ⟨k - 2, by omega⟩
    have hlt : i < xs.length := by omega
    have hx := at8_wf hw hlt
    have hsz := shorts_size hx
    have e : rd_T78 xs (i : Int) = at8 xs i := by unfold rd_T78 at8; simp
    have body : ∀ b : Bool, b = badAt xs i → col_Leases.j1 (k + 1) xs acc xs (xs.length : Int) (i : Int) b (at8 xs i).f0 (at8 xs i).f1 (at8 xs i).f2 = some (fin (lzFrom xs (d + 1) i acc)) := by
      rintro b rfl
      simp only [col_Leases.j1, lzFrom]
      by_cases hb : badAt xs i = true
      · rw [if_pos hb, if_pos hb]
        rfl
      · rw [if_neg hb, if_neg hb, short_f _ hx.1.1 hx.1.2 k (by omega), short_f _ hx.2.1.1 hx.2.1.2 k (by omega), short_f _ hx.2.2.1 hx.2.2.2 k (by omega)]
        simp only [Option.bind_some]
        have a := sh_size _ hx.1.2
        have b := sh_size _ hx.2.1.2
        have c := sh_size _ hx.2.2.2
        rw [if_pos (by omega), if_pos (by rw [ByteArray.size_append]; omega), if_pos (by rw [ByteArray.size_append, ByteArray.size_append]; omega)]
        have ew := wrap_succ i (by omega)
        rw [ew]
        clear ew
        have hsh : sh (at8 xs i).f0 ++ sh (at8 xs i).f1 ++ sh (at8 xs i).f2 = shorts (at8 xs i) := rfl
        rw [hsh]
        have hac : (acc ++ shorts (at8 xs i)).size ≤ 30 * (i + 1) := by rw [ByteArray.size_append]; omega
        exact ih k (i + 1) (acc ++ shorts (at8 xs i)) (by omega) (by omega) (by omega) hac
    simp only [col_Leases.l0]
    rw [if_pos (by omega), if_pos (by omega), if_pos (by omega), e, time_f, time_f]
    simp only [Option.bind_some]
    by_cases h0 : timeB (at8 xs i).f0 = true
    · rw [if_pos h0]
      by_cases h1 : timeB (at8 xs i).f1 = true
      · rw [if_pos h1]
        by_cases h2 : (at8 xs i).f2 > 1099511627776
        · rw [if_pos h2]
          exact body true (by simp [badAt, h2])
        · rw [if_neg h2]
          by_cases h3 : (i : Int) > 0
          · have ew := wrap_pred i (by omega) (by omega)
            have e' : rd_T78 xs (((i - 1 : Nat) : Int)) = at8 xs (i - 1) := by unfold rd_T78 at8; rw [Int.toNat_natCast]
            rw [if_pos h3, ew]
            clear ew
            rw [if_pos (by omega), if_pos (by omega), e']
            have h3' : 0 < i := by omega
            exact body _ (by simp [badAt, h0, h1, h2, h3'])
          · rw [if_neg h3]
            have h3' : ¬ 0 < i := by omega
            exact body false (by simp only [badAt, h0, h1, decide_eq_false h2, decide_eq_false h3']; rfl)
      · rw [if_neg h1]
        exact body true (by simp [badAt, h1])
    · rw [if_neg h0]
      exact body true (by simp [badAt, h0])
theorem leases_f (xs : List S78) (hw : ∀ x ∈ xs, Wf x) : ∃ k, col_Leases.f k xs = some (leasesM xs) := by
  refine ⟨2 * xs.length + 12, ?_⟩
  unfold col_Leases.f leasesM
  by_cases h : (xs.length : Int) > 5
  · rw [if_pos h, if_pos (by omega)]
  · rw [if_neg h, if_neg (by omega)]
    exact leases_l xs hw (by omega) xs.length _ 0 ⟨#[]⟩ (by omega) (by omega) (by omega) (Nat.le_refl _)

/-! own -/
def own1 (x : S78) : S81 := ⟨x.f0, x.f1, x.f2⟩
theorem own_l (xs : List S78) (hl : xs.length ≤ 40) : ∀ (d k i : Nat), xs.length - i = d → i ≤ xs.length → d + 1 ≤ k → screelaw15_own.l0 k xs ((xs.take i).map own1) (xs.length : Int) (i : Int) = some (xs.map own1) := by
  intro d
  induction d with
  | zero =>
    intro k i hd hi hk
    obtain ⟨k, rfl⟩ : ∃ m, k = m + 1 := ⟨k - 1, by omega⟩
    simp only [screelaw15_own.l0]
    rw [if_neg (by omega), List.take_of_length_le (by omega)]
  | succ d ih =>
    intro k i hd hi hk
    obtain ⟨k, rfl⟩ : ∃ m, k = m + 1 := ⟨k - 1, by omega⟩
    have hlt : i < xs.length := by omega
    have e : rd_T78 xs (i : Int) = xs[i] := by unfold rd_T78; rw [Int.toNat_natCast, List.getD_eq_getElem?_getD, List.getElem?_eq_getElem hlt]; rfl
    simp only [screelaw15_own.l0]
    rw [if_pos (by omega), if_pos (by omega), if_pos (by omega), if_pos (by simp; omega), e]
    have ew := wrap_succ i (by omega)
    rw [ew]
    clear ew
    have h := ih k (i + 1) (by omega) (by omega) (by omega)
    rw [List.take_succ_eq_append_getElem hlt, List.map_append] at h
    exact h
theorem own_f (xs : List S78) (hl : xs.length ≤ 40) : screelaw15_own.f (xs.length + 1) xs = some (xs.map own1) := by
  have h := own_l xs hl xs.length (xs.length + 1) 0 (by omega) (by omega) (by omega)
  simpa [screelaw15_own.f] using h

theorem rleases_l (xs : List S78) (hw : ∀ x ∈ xs, Wf x) : ∀ (d k i : Nat) (acc : ByteArray), xs.length - i = d → i ≤ xs.length → i ≤ 5 → 2 * d + 12 ≤ k → acc.size ≤ 30 * i →
    screeref15_Leases.l0 k (xs.map own1) acc (i : Int) = some (if 5 < xs.length then (⟨#[]⟩, 2) else fin (lzFrom xs d i acc)) := by
  intro d
  induction d with
  | zero =>
    intro k i acc hd hi h5 hk ha
    obtain ⟨k, rfl⟩ : ∃ m, k = m + 1 := ⟨k - 1, by omega⟩
    simp only [screeref15_Leases.l0]
    rw [if_neg (by simp; omega), if_neg (by omega)]
    rfl
  | succ d ih =>
    intro k i acc hd hi h5 hk ha
    obtain ⟨k, rfl⟩ : ∃ m, k = m + 2 := ⟨k - 2, by omega⟩
    have hlt : i < xs.length := by omega
    have hx := at8_wf hw hlt
    have hsz := shorts_size hx
    have e : ∀ j : Nat, j < xs.length → rd_T81 (xs.map own1) (j : Int) = own1 (at8 xs j) := by
      intro j hj
      unfold rd_T81 at8
      rw [Int.toNat_natCast, List.getD_eq_getElem?_getD, List.getD_eq_getElem?_getD, List.getElem?_map, List.getElem?_eq_getElem hj]
      rfl
    have body : ∀ b : Bool, (i ≤ 4 → b = badAt xs i) → (5 ≤ i → b = true) → screeref15_Leases.j1 (k + 1) (xs.map own1) acc (i : Int) b (own1 (at8 xs i)).f0 (own1 (at8 xs i)).f1 (own1 (at8 xs i)).f2 = some (if 5 < xs.length then (⟨#[]⟩, 2) else fin (lzFrom xs (d + 1) i acc)) := by
      intro b hb4 hb5
      simp only [screeref15_Leases.j1, lzFrom]
      by_cases hb : b = true
      · rw [if_pos hb]
        by_cases h6 : 5 < xs.length
        · rw [if_pos h6]
        · rw [if_neg h6, ← hb4 (by omega), if_pos hb]
          rfl
      · have h4 : i ≤ 4 := by
          rcases Nat.lt_or_ge i 5 with h | h
          · omega
          · exact absurd (hb5 h) hb
        rw [if_neg hb, show (own1 (at8 xs i)).f0 = (at8 xs i).f0 from rfl, show (own1 (at8 xs i)).f1 = (at8 xs i).f1 from rfl, show (own1 (at8 xs i)).f2 = (at8 xs i).f2 from rfl, rshort_f _ hx.1.1 hx.1.2 k (by omega), rshort_f _ hx.2.1.1 hx.2.1.2 k (by omega), rshort_f _ hx.2.2.1 hx.2.2.2 k (by omega)]
        simp only [Option.bind_some]
        have a := sh_size _ hx.1.2
        have b := sh_size _ hx.2.1.2
        have c := sh_size _ hx.2.2.2
        have e0 : (own1 (at8 xs i)).f0 = (at8 xs i).f0 := rfl
        rw [if_pos (by omega), if_pos (by rw [ByteArray.size_append]; omega), if_pos (by rw [ByteArray.size_append, ByteArray.size_append]; omega)]
        have ew := wrap_succ i (by omega)
        rw [ew]
        clear ew
        have hn : ¬ badAt xs i = true := by rw [← hb4 h4]; exact hb
        rw [if_neg hn]
        have hsh : sh (at8 xs i).f0 ++ sh (at8 xs i).f1 ++ sh (at8 xs i).f2 = shorts (at8 xs i) := rfl
        rw [hsh]
        have hac : (acc ++ shorts (at8 xs i)).size ≤ 30 * (i + 1) := by rw [ByteArray.size_append]; omega
        exact ih k (i + 1) (acc ++ shorts (at8 xs i)) (by omega) (by omega) (by omega) (by omega) hac
    simp only [screeref15_Leases.l0]
    rw [if_pos (by simp; omega), if_pos (by omega), e i hlt]
    by_cases h5 : (i : Int) > 4
    · rw [if_pos h5]
      exact body true (fun h => by omega) (fun _ => rfl)
    rw [if_neg h5, rtime_f, rtime_f]
    simp only [Option.bind_some]
    by_cases h0 : timeB (own1 (at8 xs i)).f0 = true
    · rw [if_pos h0]
      by_cases h1 : timeB (own1 (at8 xs i)).f1 = true
      · rw [if_pos h1]
        have h0' : timeB (at8 xs i).f0 = true := h0
        have h1' : timeB (at8 xs i).f1 = true := h1
        by_cases h2 : (own1 (at8 xs i)).f2 > 1099511627776
        · rw [if_pos h2]
          have h2' : (at8 xs i).f2 > 1099511627776 := h2
          exact body true (fun _ => by simp [badAt, h2']) (fun _ => rfl)
        · rw [if_neg h2]
          have h2' : ¬ (at8 xs i).f2 > 1099511627776 := h2
          by_cases h3 : (i : Int) > 0
          · have ew := wrap_pred i (by omega) (by omega)
            rw [if_pos h3, ew]
            clear ew
            rw [if_pos (by omega), if_pos (by simp; omega), e (i - 1) (by omega)]
            have h3' : 0 < i := by omega
            exact body (decide ((own1 (at8 xs (i - 1))).f0 ≥ (own1 (at8 xs i)).f0)) (fun _ => by simp [badAt, h0', h1', h2', h3', own1]) (fun h => by omega)
          · rw [if_neg h3]
            have h3' : ¬ 0 < i := by omega
            exact body false (fun _ => by simp only [badAt, h0', h1', decide_eq_false h2', decide_eq_false h3']; rfl) (fun h => by omega)
      · rw [if_neg h1]
        have h1' : ¬ timeB (at8 xs i).f1 = true := h1
        exact body true (fun _ => by simp [badAt, h1']) (fun _ => rfl)
    · rw [if_neg h0]
      have h0' : ¬ timeB (at8 xs i).f0 = true := h0
      exact body true (fun _ => by simp [badAt, h0']) (fun _ => rfl)
theorem rleases_f (xs : List S78) (hw : ∀ x ∈ xs, Wf x) : ∃ k, screeref15_Leases.f k (xs.map own1) = some (leasesM xs) :=
  ⟨2 * xs.length + 12, rleases_l xs hw xs.length _ 0 ⟨#[]⟩ (by omega) (by omega) (by omega) (by omega) (Nat.le_refl _)⟩
end Go.Proofs.Ytolningpngjhpaa.Col
