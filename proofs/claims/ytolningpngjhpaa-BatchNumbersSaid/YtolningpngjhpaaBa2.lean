/- batch.one, batch.May. -/
import Derived.Test.YtolningpngjhpaaBa1
import Derived.Test.YtolningpngjhpaaPBatchWritesx2
import Derived.Handy
import Derived.Outline
import Derived.Deep.QuietTactic
import Derived.BigQuiet
namespace Go.Proofs.Ytolningpngjhpaa.Bat
open Go.RowKit Go.Proofs.YtolningpngjhpaaW.PrintWords Go.Proofs.YtolningpngjhpaaW.PrintLast Go.Proofs.YtolningpngjhpaaW.PrintMore
open Go.Proofs.Ytolningpngjhpaa.Nm
open Go.Proofs.Ytolningpngjhpaa.PBatchWrites (S66 k66 z66 rd_T66 at_T66 k66_mk k66_mkM k66_open S64 k64)
set_option linter.unusedVariables false
set_option linter.unusedSimpArgs false

/-- May an operation be? -/
def oneB (x : S66) : Bool := decide (0 < x.f1.size ∧ x.f1.size ≤ 100 ∧ x.f2.size ≤ 100 ∧ (x.f0 = true → x.f2.size = 0))
def opV (x : S66) : Value := .agg #[.bool x.f0, .string x.f1, .string x.f2]
theorem isEmpty_pos {s : ByteArray} (h : 0 < s.size) : s.toList.isEmpty = false := by
  rw [ByteArray.toList_eq]
  cases h2 : s.data.toList with
  | nil => have : s.data.toList.length = s.size := by simp
           rw [h2] at this; simp at this; omega
  | cons => rfl
theorem isEmpty_zero {s : ByteArray} (h : ¬ 0 < s.size) : s.toList.isEmpty = true := by
  rw [ByteArray.toList_eq]
  have : s.data.toList.length = s.size := by simp
  rw [List.eq_nil_of_length_eq_zero (show s.data.toList.length = 0 by omega)]
  rfl

set_option maxHeartbeats 4000000 in
set_option maxRecDepth 100000 in
theorem one_any (x : S66) (w : World) (h1 : x.f1.size ≤ 9223372036854775807) (h2 : x.f2.size ≤ 9223372036854775807) :
    Calls Try.prog 66 #[opV x] w fun e w' => e = .returned (.bool (oneB x)) ∧ Below w.heap.size w w' := by
  obtain ⟨d, k, v⟩ := x
  have hB : Aside0 (Below w.heap.size w (w.alloc (.cells #[.bool d, .string k, .string v] 66))) := ⟨below_alloc (Below.refl _ _) _⟩
  show Calls Try.prog 66 #[.agg #[.bool d, .string k, .string v]] w fun e w' => e = .returned (.bool (oneB ⟨d, k, v⟩)) ∧ Below w.heap.size w w'
  simp only at h1 h2
  by_cases a : 0 < k.size
  · have k0 := isEmpty_pos a
    by_cases b : k.size ≤ 100
    · have d1 : decide ((k.size : Int) ≤ 100) = true := decide_eq_true (by omega)
      by_cases c : v.size ≤ 100
      · have d2 : decide ((v.size : Int) ≤ 100) = true := decide_eq_true (by omega)
        cases d with
        | false =>
          have hv : oneB ⟨false, k, v⟩ = true := decide_eq_true ⟨by simp only; omega, by simp only; omega, by simp only; omega, fun h => by first | (cases h; done) | (simp only; omega)⟩
          rw [hv]
          clear hv
          go_enter Try.func66, Try.ntmps66
          go_wp2_with fail
          go_ret
          exact ⟨rfl, hB.out⟩
        | true =>
          by_cases e : 0 < v.size
          · have v0 := isEmpty_pos e
            have hv : oneB ⟨true, k, v⟩ = false := decide_eq_false (fun h => by have h1 := h.1; have h2 := h.2.1; have h3 := h.2.2.1; have h4 := h.2.2.2; simp only at h1 h2 h3; first | omega | (have := h4 rfl; simp only at this; omega))
            rw [hv]
            clear hv
            go_enter Try.func66, Try.ntmps66
            go_wp2_with fail
            go_ret
            exact ⟨rfl, hB.out⟩
          · have v0 := isEmpty_zero e
            have hv : oneB ⟨true, k, v⟩ = true := decide_eq_true ⟨by simp only; omega, by simp only; omega, by simp only; omega, fun h => by first | (cases h; done) | (simp only; omega)⟩
            rw [hv]
            clear hv
            go_enter Try.func66, Try.ntmps66
            go_wp2_with fail
            go_ret
            exact ⟨rfl, hB.out⟩
      · have d2 : decide ((v.size : Int) ≤ 100) = false := decide_eq_false (by omega)
        have hv : oneB ⟨d, k, v⟩ = false := decide_eq_false (fun h => by have h1 := h.1; have h2 := h.2.1; have h3 := h.2.2.1; have h4 := h.2.2.2; simp only at h1 h2 h3; first | omega | (have := h4 rfl; simp only at this; omega))
        rw [hv]
        clear hv
        go_enter Try.func66, Try.ntmps66
        go_wp2_with fail
        go_ret
        exact ⟨rfl, hB.out⟩
    · have d1 : decide ((k.size : Int) ≤ 100) = false := decide_eq_false (by omega)
      have hv : oneB ⟨d, k, v⟩ = false := decide_eq_false (fun h => by have h1 := h.1; have h2 := h.2.1; have h3 := h.2.2.1; have h4 := h.2.2.2; simp only at h1 h2 h3; first | omega | (have := h4 rfl; simp only at this; omega))
      rw [hv]
      clear hv
      go_enter Try.func66, Try.ntmps66
      go_wp2_with fail
      go_ret
      exact ⟨rfl, hB.out⟩
  · have k0 := isEmpty_zero a
    have hv : oneB ⟨d, k, v⟩ = false := decide_eq_false (fun h => by have h1 := h.1; have h2 := h.2.1; have h3 := h.2.2.1; have h4 := h.2.2.2; simp only at h1 h2 h3; first | omega | (have := h4 rfl; simp only at this; omega))
    rw [hv]
    clear hv
    go_enter Try.func66, Try.ntmps66
    go_wp2_with fail
    go_ret
    exact ⟨rfl, hB.out⟩

set_option maxHeartbeats 4000000 in
set_option maxRecDepth 100000 in
theorem may1_any (x : S66) (w : World) (h1 : x.f1.size ≤ 9223372036854775807) (h2 : x.f2.size ≤ 9223372036854775807) :
    Calls Try.prog 65 #[opV x] w fun e w' => e = .returned (.bool (!oneB x)) ∧ Below w.heap.size w w' := by
  have H := Aside0.mk (fun W => one_any x W h1 h2)
  have HB : Aside0 (Below w.heap.size w (w.alloc (.cells #[.bool x.f0, .string x.f1, .string x.f2] 66))) := ⟨below_alloc (Below.refl _ _) _⟩
  show Calls Try.prog 65 #[.agg #[.bool x.f0, .string x.f1, .string x.f2]] w fun e w' => e = .returned (.bool (!oneB x)) ∧ Below w.heap.size w w'
  clear h1 h2
  generalize oneB x = o at H ⊢
  go_enter Try.func65, Try.ntmps65
  go_wp2_with fail
  refine (H.out _).mono ?_
  rintro e w1 ⟨rfl, hb⟩
  have B1 := Aside0.mk (below_then HB.out HB.out.size hb)
  clear hb
  go_wp2_with fail
  go_ret
  exact ⟨rfl, B1.out⟩

/-- Operations of sizes that are Go's. -/
def WfO (x : S66) : Prop := x.f1.size ≤ 9223372036854775807 ∧ x.f2.size ≤ 9223372036854775807
/-- Where the first operation is that may not be, from place i on. -/
def idxO : List S66 → Int → Int
  | [], _ => -1
  | x :: l, i => if oneB x = true then idxO l (i + 1) else i
theorem idxO_all : ∀ (l : List S66) (i : Int), 0 ≤ i → (decide (0 ≤ idxO l i) = !l.all oneB) := by
  intro l
  induction l with
  | nil => intro i _; simp [idxO]
  | cons x l ih =>
    intro i hi
    rw [List.all_cons]
    by_cases h : oneB x = true
    · have e : idxO (x :: l) i = idxO l (i + 1) := if_pos h
      rw [e, ih (i + 1) (by omega), h]
      rfl
    · have e : idxO (x :: l) i = i := if_neg h
      rw [e]
      simp at h
      simp [h, hi]
theorem drop_rd {xs : List S66} {i : Nat} (h : i < xs.length) : xs.drop i = rd_T66 xs (i : Int) :: xs.drop (i + 1) := by
  rw [List.drop_eq_getElem_cons h]
  congr 1
  unfold rd_T66
  simp [List.getD_eq_getElem?_getD, h]
theorem rd_mem {xs : List S66} {i : Nat} (h : i < xs.length) : rd_T66 xs (i : Int) ∈ xs := by
  unfold rd_T66
  simp [List.getD_eq_getElem?_getD, h]

set_option maxHeartbeats 4000000 in
set_option maxRecDepth 100000 in
theorem indexFunc_any (A : Option Addr) (c : Nat) (xs : List S66) (w : World) (hr : Kd.C k66 w A xs.length xs) (hc : xs.length ≤ c) (hl : xs.length ≤ 1000) (hw : ∀ x ∈ xs, WfO x) :
    Calls Try.prog 73 #[.slice A xs.length c, .func (.func 65) #[] #[]] w fun e w' => e = .returned (.int .i64 (idxO xs 0)) ∧ Below w.heap.size w w' := by
  have HR := Aside0.mk hr
  have HW := Aside0.mk hw
  clear hr hw
  go_enter Try.func73, Try.ntmps73
  go_wp2_with fail
  go_loopg [5, 8] (xs.length + 1) (fun kq v5 v8 w' => ∃ (i : Nat), v8 = .int .i64 (i : Int) ∧ Aside0 (kq + i = xs.length + 1) ∧ i ≤ xs.length ∧ Aside0 (idxO (xs.drop i) (i : Int) = idxO xs 0) ∧ Aside0 (Kd.C k66 w' A xs.length xs) ∧ Aside0 (Below w.heap.size w w'))
  case atStart => exact ⟨0, rfl, ⟨rfl⟩, Nat.zero_le _, ⟨rfl⟩, HR, ⟨Below.refl _ _⟩⟩
  case round =>
    clear HR
    obtain ⟨i, rfl, HK, hi, HE, HR, HB⟩ := hrel
    by_cases hlt : i < xs.length
    · obtain ⟨k1, rfl⟩ : ∃ m, gk = m + 1 := ⟨gk - 1, by have := HK.out; omega⟩
      obtain ⟨ad, rfl, c0, c1, c2⟩ := at_T66 HR.out (i : Int) (by omega) (by omega)
      simp only [Int.toNat_natCast] at c0 c1 c2
      have hE := HE.out
      rw [drop_rd hlt, idxO] at hE
      have HM := Aside0.mk (HW.out _ (rd_mem hlt))
      generalize rd_T66 xs (i : Int) = x at c0 c1 c2 hE HM
      clear HE
      cases ho : oneB x with
      | true =>
        rw [if_pos ho] at hE
        have HE := Aside0.mk hE
        have HO := Aside0.mk ho
        clear hE ho
        go_wp2_with fail
        refine (may1_any x _ HM.out.1 HM.out.2).mono ?_
        rintro e w2 ⟨rfl, hb⟩
        rw [HO.out]
        have HR2 := Aside0.mk (Kd.C_below HR.out hb)
        have HB2 := Aside0.mk (below_then HB.out HB.out.size hb)
        clear hb HR HB c0 c1 c2
        go_wp2_with fail
        go_roundg k1
        case measure => omega
        case rel => exact ⟨i + 1, by go_num, ⟨by have := HK.out; omega⟩, by omega, HE, HR2, HB2⟩
      | false =>
        rw [if_neg (by simp [ho])] at hE
        have HE := Aside0.mk hE
        have HO := Aside0.mk ho
        clear hE ho
        go_wp2_with fail
        refine (may1_any x _ HM.out.1 HM.out.2).mono ?_
        rintro e w2 ⟨rfl, hb⟩
        rw [HO.out]
        have HB2 := Aside0.mk (below_then HB.out HB.out.size hb)
        clear hb HR HB c0 c1 c2
        go_wp2_with fail
        go_ret
        exact ⟨by rw [← HE.out]; rfl, HB2.out⟩
    · have hE := HE.out
      rw [List.drop_eq_nil_of_le (by omega)] at hE
      have HE2 := Aside0.mk hE
      clear hE HE
      go_wp2_with fail
      go_ret
      exact ⟨by rw [← HE2.out]; rfl, HB.out⟩

set_option maxHeartbeats 4000000 in
set_option maxRecDepth 100000 in
theorem containsFunc_any (A : Option Addr) (c : Nat) (xs : List S66) (w : World) (hr : Kd.C k66 w A xs.length xs) (hc : xs.length ≤ c) (hl : xs.length ≤ 1000) (hw : ∀ x ∈ xs, WfO x) :
    Calls Try.prog 64 #[.slice A xs.length c, .func (.func 65) #[] #[]] w fun e w' => e = .returned (.bool (!xs.all oneB)) ∧ Below w.heap.size w w' := by
  have HI := Aside0.mk (indexFunc_any A c xs w hr hc hl hw)
  have hb := idxO_all xs 0 (Int.le_refl _)
  generalize xs.all oneB = o at hb ⊢
  generalize idxO xs 0 = n at hb HI
  clear hr hw
  go_enter Try.func64, Try.ntmps64
  go_wp2_with fail
  refine HI.out.mono ?_
  rintro e w1 ⟨rfl, hb1⟩
  have HB := Aside0.mk hb1
  clear hb1
  go_wp2_with fail
  go_ret
  exact ⟨rfl, HB.out⟩

/-- May operations be a batch? -/
def mayB (l : List S66) : Bool := decide (0 < l.length) && decide (l.length ≤ 16) && l.all oneB

set_option maxHeartbeats 4000000 in
set_option maxRecDepth 100000 in
theorem may_any (A : Option Addr) (c : Nat) (xs : List S66) (w : World) (hr : Kd.C k66 w A xs.length xs) (hc : xs.length ≤ c) (hl : xs.length ≤ 9223372036854775807) (hw : ∀ x ∈ xs, WfO x) :
    Calls Try.prog 39 #[.slice A xs.length c] w fun e w' => e = .returned (.bool (mayB xs)) ∧ Below w.heap.size w w' := by
  by_cases h0 : 0 < xs.length
  · have d0 : decide ((0 : Int) < (xs.length : Int)) = true := decide_eq_true (by omega)
    by_cases h1 : xs.length ≤ 16
    · have d1 : decide ((xs.length : Int) ≤ 16) = true := decide_eq_true (by omega)
      have HC := Aside0.mk (fun W hb => containsFunc_any A c xs W (Kd.C_below hr hb) hc (by omega) hw)
      have hm : mayB xs = xs.all oneB := by unfold mayB; simp [h0, h1]
      rw [hm]
      generalize xs.all oneB = o at HC ⊢
      clear hr hw hm
      go_enter Try.func39, Try.ntmps39
      go_wp2_with fail
      refine (HC.out _ (Below.refl _ _)).mono ?_
      rintro e w1 ⟨rfl, hb1⟩
      have HB := Aside0.mk hb1
      clear hb1
      go_wp2_with fail
      go_ret
      exact ⟨by simp, HB.out⟩
    · have d1 : decide ((xs.length : Int) ≤ 16) = false := decide_eq_false (by omega)
      have hm : mayB xs = false := by unfold mayB; simp [h1]
      rw [hm]
      clear hr hw hm
      go_enter Try.func39, Try.ntmps39
      go_wp2_with fail
      go_ret
      exact ⟨rfl, Below.refl _ _⟩
  · have d0 : decide ((0 : Int) < (xs.length : Int)) = false := decide_eq_false (by omega)
    have hm : mayB xs = false := by unfold mayB; simp [h0]
    rw [hm]
    clear hr hw hm
    go_enter Try.func39, Try.ntmps39
    go_wp2_with fail
    go_ret
    exact ⟨rfl, Below.refl _ _⟩
end Go.Proofs.Ytolningpngjhpaa.Bat
