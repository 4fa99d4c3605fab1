/- screelaw05.BatchMay answers true for all operations: no condition. -/
import Derived.Test.YtolningpngjhpaaRows
import Derived.Test.YtolningpngjhpaaBaOp
namespace Go.Proofs.Ytolningpngjhpaa.batchMay
open Go.ChangeShapes Go.WideShapes Go.ChangeAt Go.RowKit Go.Joins
open Go.ChangeMaps (open_string shut_string)
open Go.Proofs.YtolningpngjhpaaW.PrintWords Go.Proofs.YtolningpngjhpaaW.PrintLast Go.Proofs.YtolningpngjhpaaW.PrintMore
open Go.Proofs.Ytolningpngjhpaa.Nm Go.Proofs.Ytolningpngjhpaa.Bat
open Go.Proofs.Ytolningpngjhpaa.PBatchWrites (S66 k66 z66 rd_T66 at_T66 k66_mk k66_mkM k66_open S64 k64 info64 k64_mkM)
set_option linter.unusedVariables false
set_option linter.unusedSimpArgs false

theorem C_one {w : World} {ad : Addr} {n : Nat} {xs : List S66} (h : Kd.C k66 w (some ad) n xs) (hl : n = xs.length) {i : Nat} (hi : i < n) : Kd.C k66 w (some (ad.add (i * 3))) 1 [rd_T66 xs (i : Int)] := by
  obtain ⟨ad', e, c0, c1, c2⟩ := at_T66 h (i : Int) (by omega) (by omega)
  obtain rfl := Option.some.inj e
  simp only [Int.toNat_natCast] at c0 c1 c2
  refine C66_of_cells (xs := [rd_T66 xs (i : Int)]) (by simp) (fun _ => ⟨_, rfl, fun j x hx => ?_⟩)
  match j, hx with
  | 0, hx =>
    obtain rfl : _ = x := Option.some.inj hx
    refine ⟨?_, ?_, ?_⟩
    · simpa [Addr.add] using c0
    · show w.cell? ⟨(ad.add (i * 3)).block, (ad.add (i * 3)).off + 1, none⟩ = _
      exact c1
    · show w.cell? ⟨(ad.add (i * 3)).block, (ad.add (i * 3)).off + 2, none⟩ = _
      exact c2
  | n + 1, hx => simp at hx
theorem mayB_one (x : S66) : mayB [x] = oneB x := by
  unfold mayB
  simp
/-- All, so far. -/
def allB (xs : List S66) (i : Nat) : Bool := decide (0 < xs.length) && decide (xs.length ≤ 16) && (xs.take i).all oneB
theorem allB_succ {xs : List S66} {i : Nat} (h : i < xs.length) : allB xs (i + 1) = (allB xs i && oneB (rd_T66 xs (i : Int))) := by
  unfold allB
  have : xs.take (i + 1) = xs.take i ++ [rd_T66 xs (i : Int)] := by
    rw [List.take_succ_eq_append_getElem h]
    congr 2
    unfold rd_T66
    simp [List.getD_eq_getElem?_getD, h]
  rw [this, List.all_append]
  simp [Bool.and_assoc]
theorem allB_end {xs : List S66} : allB xs xs.length = mayB xs := by unfold allB mayB; rw [List.take_length]
theorem enc1 (xs : List S66) : (encM 1 xs).2 = if mayB xs = true then 0 else 2 := by
  unfold encM
  by_cases h : mayB xs = true
  · obtain ⟨h1, h2, _⟩ := mayB_all h
    rw [if_pos h, if_pos h, if_pos (by unfold numB; simp; omega)]
  · rw [if_neg h, if_neg h]

set_option maxHeartbeats 4000000 in
set_option maxRecDepth 100000 in
theorem walk (A : Option Addr) (c : Nat) (xs : List S66) (w : World) (hr : Kd.C k66 w A xs.length xs) (hc : xs.length ≤ c) (hcm : c ≤ 9223372036854775807) (hl : xs.length ≤ 9223372036854775807) (hw : ∀ x ∈ xs, WfO x) :
    Calls Try.prog 11 #[.slice A xs.length c] w fun e w' => e = .returned (.bool true) ∧ Below w.heap.size w w' := by
  have HR := Aside0.mk hr
  have HW := Aside0.mk hw
  have HL0 := Aside0.mk hl
  clear hr hw
  cases hlg : largeB xs with
  | true =>
    have HG := Aside0.mk hlg
    clear hlg
    go_enter Try.func11, Try.ntmps11
    go_wp2_with fail
    refine (awake_any _).mono ?_
    rintro e w1 ⟨rfl, hb⟩
    have R1 := Aside0.mk (Kd.C_below HR.out hb)
    have B1 := Aside0.mk hb
    clear hb HR
    go_wp2_with fail
    refine (large_any A c xs _ R1.out hc).mono ?_
    rintro e w2 ⟨rfl, hb⟩
    rw [HG.out]
    have B2 := Aside0.mk (below_then B1.out B1.out.size hb)
    clear hb R1 B1
    go_wp2_with fail
    go_ret
    exact ⟨rfl, B2.out⟩
  | false =>
    have HG := Aside0.mk hlg
    have hlen := (large_no hlg).1
    clear hlg
    clear hl
    by_cases h0 : 0 < xs.length
    · by_cases h16 : xs.length ≤ 16
      · have d1 : decide ((0 : Int) < (xs.length : Int)) = true := decide_eq_true (by omega)
        have d2 : decide ((xs.length : Int) ≤ 16) = true := decide_eq_true (by omega)
        have HB0 : Aside0 (allB xs 0 = true) := ⟨by unfold allB; simp; try omega⟩
        go_enter Try.func11, Try.ntmps11
        go_wp2_with fail
        refine (awake_any _).mono ?_
        rintro e w1 ⟨rfl, hb⟩
        have R1 := Aside0.mk (Kd.C_below HR.out hb)
        have B1 := Aside0.mk hb
        clear hb HR
        go_wp2_with fail
        refine (large_any A c xs _ R1.out hc).mono ?_
        rintro e w2 ⟨rfl, hb⟩
        rw [HG.out]
        have R2 := Aside0.mk (Kd.C_below R1.out hb)
        have B2 := Aside0.mk (below_then B1.out B1.out.size hb)
        clear hb R1 B1
        go_wp2_with fail
        clear d1 d2
        go_loopg [3, 4, 21] (xs.length + 1) (fun kq v3 v4 v21 w' => ∃ (i : Nat) (b : Bool), v21 = .int .i64 (i : Int) ∧ v3 = .bool b ∧ Aside0 (kq + i = xs.length + 1) ∧ i ≤ xs.length ∧ Aside0 (allB xs i = b) ∧ Aside0 (Kd.C k66 w' A xs.length xs) ∧ Aside0 (Below w.heap.size w w'))
        case atStart => exact ⟨0, _, rfl, rfl, ⟨rfl⟩, Nat.zero_le _, HB0, R2, B2⟩
        case round =>
          clear HB0 R2 B2
          obtain ⟨i, b, rfl, rfl, HK, hi, HA, HR, HB⟩ := hrel
          by_cases hlt : i < xs.length
          · obtain ⟨k1, rfl⟩ : ∃ m, gk = m + 1 := ⟨gk - 1, by have := HK.out; omega⟩
            have hs := allB_succ hlt
            rw [HA.out] at hs
            have HS := Aside0.mk hs
            clear hs
            cases b with
            | false =>
              go_wp2_with fail
              go_roundg k1
              case measure => omega
              case rel => exact ⟨i + 1, false, by go_num, rfl, ⟨by have := HK.out; omega⟩, by omega, ⟨by rw [HS.out]; rfl⟩, HR, HB⟩
            | true =>
              obtain ⟨ad, hA, _⟩ := at_T66 HR.out (i : Int) (by omega) (by omega)
              subst hA
              have HM := Aside0.mk (HW.out _ (rd_mem hlt))
              have HC1 := Aside0.mk (C_one HR.out rfl hlt)
              have hci : ¬ c = i := by omega
              go_wp2_with fail
              refine (may_any _ _ [rd_T66 xs (i : Int)] _ HC1.out (by simp; omega) (by simp) (fun x hx => by rw [List.mem_singleton.1 hx]; exact HM.out)).mono ?_
              rintro e w3 ⟨rfl, hb⟩
              rw [mayB_one]
              have R3 := Aside0.mk (Kd.C_below HR.out hb)
              have B3 := Aside0.mk (below_then HB.out HB.out.size hb)
              have HS2 : Aside0 (allB xs (i + 1) = oneB (rd_T66 xs (i : Int))) := ⟨by rw [HS.out]; rfl⟩
              clear hb HR HB HC1 HM HS
              go_wp2_with fail
              go_roundg k1
              case measure => omega
              case rel => exact ⟨i + 1, _, by go_num, rfl, ⟨by have := HK.out; omega⟩, by omega, HS2, R3, B3⟩
          · have hA := HA.out
            rw [show i = xs.length by omega, allB_end] at hA
            have HAm := Aside0.mk hA
            have he := enc1 xs
            rw [hA] at he
            obtain ⟨s, e1, hse⟩ : ∃ s e1, encM 1 xs = (s, e1) := ⟨_, _, rfl⟩
            rw [hse] at he
            simp only at he
            have HE := Aside0.mk hse
            clear HA hA hse
            cases b with
            | true =>
              obtain rfl : e1 = 0 := he
              go_wp2_with fail
              refine (encode_any 1 A c xs _ (by decide) HR.out hc HL0.out HW.out).mono ?_
              rintro e w3 ⟨rfl, hb⟩
              rw [HE.out]
              simp only
              have R3 := Aside0.mk (Kd.C_below HR.out hb)
              have B3 := Aside0.mk (below_then HB.out HB.out.size hb)
              clear hb HR HB
              go_wp2_with fail
              refine (may_any A c xs _ R3.out hc HL0.out HW.out).mono ?_
              rintro e w4 ⟨rfl, hb⟩
              rw [HAm.out]
              have B4 := Aside0.mk (below_then B3.out B3.out.size hb)
              clear hb R3 B3
              go_wp2_with fail
              go_ret
              exact ⟨rfl, B4.out⟩
            | false =>
              obtain rfl : e1 = 2 := he
              go_wp2_with fail
              refine (encode_any 1 A c xs _ (by decide) HR.out hc HL0.out HW.out).mono ?_
              rintro e w3 ⟨rfl, hb⟩
              rw [HE.out]
              simp only
              have R3 := Aside0.mk (Kd.C_below HR.out hb)
              have B3 := Aside0.mk (below_then HB.out HB.out.size hb)
              clear hb HR HB
              go_wp2_with fail
              refine (may_any A c xs _ R3.out hc HL0.out HW.out).mono ?_
              rintro e w4 ⟨rfl, hb⟩
              rw [HAm.out]
              have B4 := Aside0.mk (below_then B3.out B3.out.size hb)
              clear hb R3 B3
              go_wp2_with fail
              go_ret
              exact ⟨rfl, B4.out⟩
      · have d1 : decide ((0 : Int) < (xs.length : Int)) = true := decide_eq_true (by omega)
        have d2 : decide ((xs.length : Int) ≤ 16) = false := decide_eq_false (by omega)
        have HB0 : Aside0 (allB xs 0 = false) := ⟨by unfold allB; simp; try omega⟩
        go_enter Try.func11, Try.ntmps11
        go_wp2_with fail
        refine (awake_any _).mono ?_
        rintro e w1 ⟨rfl, hb⟩
        have R1 := Aside0.mk (Kd.C_below HR.out hb)
        have B1 := Aside0.mk hb
        clear hb HR
        go_wp2_with fail
        refine (large_any A c xs _ R1.out hc).mono ?_
        rintro e w2 ⟨rfl, hb⟩
        rw [HG.out]
        have R2 := Aside0.mk (Kd.C_below R1.out hb)
        have B2 := Aside0.mk (below_then B1.out B1.out.size hb)
        clear hb R1 B1
        go_wp2_with fail
        clear d1 d2
        go_loopg [3, 4, 21] (xs.length + 1) (fun kq v3 v4 v21 w' => ∃ (i : Nat) (b : Bool), v21 = .int .i64 (i : Int) ∧ v3 = .bool b ∧ Aside0 (kq + i = xs.length + 1) ∧ i ≤ xs.length ∧ Aside0 (allB xs i = b) ∧ Aside0 (Kd.C k66 w' A xs.length xs) ∧ Aside0 (Below w.heap.size w w'))
        case atStart => exact ⟨0, _, rfl, rfl, ⟨rfl⟩, Nat.zero_le _, HB0, R2, B2⟩
        case round =>
          clear HB0 R2 B2
          obtain ⟨i, b, rfl, rfl, HK, hi, HA, HR, HB⟩ := hrel
          by_cases hlt : i < xs.length
          · obtain ⟨k1, rfl⟩ : ∃ m, gk = m + 1 := ⟨gk - 1, by have := HK.out; omega⟩
            have hs := allB_succ hlt
            rw [HA.out] at hs
            have HS := Aside0.mk hs
            clear hs
            cases b with
            | false =>
              go_wp2_with fail
              go_roundg k1
              case measure => omega
              case rel => exact ⟨i + 1, false, by go_num, rfl, ⟨by have := HK.out; omega⟩, by omega, ⟨by rw [HS.out]; rfl⟩, HR, HB⟩
            | true =>
              obtain ⟨ad, hA, _⟩ := at_T66 HR.out (i : Int) (by omega) (by omega)
              subst hA
              have HM := Aside0.mk (HW.out _ (rd_mem hlt))
              have HC1 := Aside0.mk (C_one HR.out rfl hlt)
              have hci : ¬ c = i := by omega
              go_wp2_with fail
              refine (may_any _ _ [rd_T66 xs (i : Int)] _ HC1.out (by simp; omega) (by simp) (fun x hx => by rw [List.mem_singleton.1 hx]; exact HM.out)).mono ?_
              rintro e w3 ⟨rfl, hb⟩
              rw [mayB_one]
              have R3 := Aside0.mk (Kd.C_below HR.out hb)
              have B3 := Aside0.mk (below_then HB.out HB.out.size hb)
              have HS2 : Aside0 (allB xs (i + 1) = oneB (rd_T66 xs (i : Int))) := ⟨by rw [HS.out]; rfl⟩
              clear hb HR HB HC1 HM HS
              go_wp2_with fail
              go_roundg k1
              case measure => omega
              case rel => exact ⟨i + 1, _, by go_num, rfl, ⟨by have := HK.out; omega⟩, by omega, HS2, R3, B3⟩
          · have hA := HA.out
            rw [show i = xs.length by omega, allB_end] at hA
            have HAm := Aside0.mk hA
            have he := enc1 xs
            rw [hA] at he
            obtain ⟨s, e1, hse⟩ : ∃ s e1, encM 1 xs = (s, e1) := ⟨_, _, rfl⟩
            rw [hse] at he
            simp only at he
            have HE := Aside0.mk hse
            clear HA hA hse
            cases b with
            | true =>
              obtain rfl : e1 = 0 := he
              go_wp2_with fail
              refine (encode_any 1 A c xs _ (by decide) HR.out hc HL0.out HW.out).mono ?_
              rintro e w3 ⟨rfl, hb⟩
              rw [HE.out]
              simp only
              have R3 := Aside0.mk (Kd.C_below HR.out hb)
              have B3 := Aside0.mk (below_then HB.out HB.out.size hb)
              clear hb HR HB
              go_wp2_with fail
              refine (may_any A c xs _ R3.out hc HL0.out HW.out).mono ?_
              rintro e w4 ⟨rfl, hb⟩
              rw [HAm.out]
              have B4 := Aside0.mk (below_then B3.out B3.out.size hb)
              clear hb R3 B3
              go_wp2_with fail
              go_ret
              exact ⟨rfl, B4.out⟩
            | false =>
              obtain rfl : e1 = 2 := he
              go_wp2_with fail
              refine (encode_any 1 A c xs _ (by decide) HR.out hc HL0.out HW.out).mono ?_
              rintro e w3 ⟨rfl, hb⟩
              rw [HE.out]
              simp only
              have R3 := Aside0.mk (Kd.C_below HR.out hb)
              have B3 := Aside0.mk (below_then HB.out HB.out.size hb)
              clear hb HR HB
              go_wp2_with fail
              refine (may_any A c xs _ R3.out hc HL0.out HW.out).mono ?_
              rintro e w4 ⟨rfl, hb⟩
              rw [HAm.out]
              have B4 := Aside0.mk (below_then B3.out B3.out.size hb)
              clear hb R3 B3
              go_wp2_with fail
              go_ret
              exact ⟨rfl, B4.out⟩
    · have d1 : decide ((0 : Int) < (xs.length : Int)) = false := decide_eq_false (by omega)
      have d2 : decide ((xs.length : Int) ≤ 16) = true := decide_eq_true (by omega)
      have HB0 : Aside0 (allB xs 0 = false) := ⟨by unfold allB; simp; try omega⟩
      go_enter Try.func11, Try.ntmps11
      go_wp2_with fail
      refine (awake_any _).mono ?_
      rintro e w1 ⟨rfl, hb⟩
      have R1 := Aside0.mk (Kd.C_below HR.out hb)
      have B1 := Aside0.mk hb
      clear hb HR
      go_wp2_with fail
      refine (large_any A c xs _ R1.out hc).mono ?_
      rintro e w2 ⟨rfl, hb⟩
      rw [HG.out]
      have R2 := Aside0.mk (Kd.C_below R1.out hb)
      have B2 := Aside0.mk (below_then B1.out B1.out.size hb)
      clear hb R1 B1
      go_wp2_with fail
      clear d1 d2
      go_loopg [3, 4, 21] (xs.length + 1) (fun kq v3 v4 v21 w' => ∃ (i : Nat) (b : Bool), v21 = .int .i64 (i : Int) ∧ v3 = .bool b ∧ Aside0 (kq + i = xs.length + 1) ∧ i ≤ xs.length ∧ Aside0 (allB xs i = b) ∧ Aside0 (Kd.C k66 w' A xs.length xs) ∧ Aside0 (Below w.heap.size w w'))
      case atStart => exact ⟨0, _, rfl, rfl, ⟨rfl⟩, Nat.zero_le _, HB0, R2, B2⟩
      case round =>
        clear HB0 R2 B2
        obtain ⟨i, b, rfl, rfl, HK, hi, HA, HR, HB⟩ := hrel
        by_cases hlt : i < xs.length
        · exact absurd hlt (by omega)
        · have hA := HA.out
          rw [show i = xs.length by omega, allB_end] at hA
          have HAm := Aside0.mk hA
          have he := enc1 xs
          rw [hA] at he
          obtain ⟨s, e1, hse⟩ : ∃ s e1, encM 1 xs = (s, e1) := ⟨_, _, rfl⟩
          rw [hse] at he
          simp only at he
          have HE := Aside0.mk hse
          clear HA hA hse
          cases b with
          | true =>
            obtain rfl : e1 = 0 := he
            go_wp2_with fail
            refine (encode_any 1 A c xs _ (by decide) HR.out hc HL0.out HW.out).mono ?_
            rintro e w3 ⟨rfl, hb⟩
            rw [HE.out]
            simp only
            have R3 := Aside0.mk (Kd.C_below HR.out hb)
            have B3 := Aside0.mk (below_then HB.out HB.out.size hb)
            clear hb HR HB
            go_wp2_with fail
            refine (may_any A c xs _ R3.out hc HL0.out HW.out).mono ?_
            rintro e w4 ⟨rfl, hb⟩
            rw [HAm.out]
            have B4 := Aside0.mk (below_then B3.out B3.out.size hb)
            clear hb R3 B3
            go_wp2_with fail
            go_ret
            exact ⟨rfl, B4.out⟩
          | false =>
            obtain rfl : e1 = 2 := he
            go_wp2_with fail
            refine (encode_any 1 A c xs _ (by decide) HR.out hc HL0.out HW.out).mono ?_
            rintro e w3 ⟨rfl, hb⟩
            rw [HE.out]
            simp only
            have R3 := Aside0.mk (Kd.C_below HR.out hb)
            have B3 := Aside0.mk (below_then HB.out HB.out.size hb)
            clear hb HR HB
            go_wp2_with fail
            refine (may_any A c xs _ R3.out hc HL0.out HW.out).mono ?_
            rintro e w4 ⟨rfl, hb⟩
            rw [HAm.out]
            have B4 := Aside0.mk (below_then B3.out B3.out.size hb)
            clear hb R3 B3
            go_wp2_with fail
            go_ret
            exact ⟨rfl, B4.out⟩

set_option maxRecDepth 100000 in
theorem lifted (os : Os) (started : os.Started) (H : Type) (enc : TypeId × Value → H) :
    ReturnsInHanded {} Try.checked os 11 .any (Rows.batchMaySpec.pre6 enc Try.prog Try.f11 Rows.batchMayRow.domain false) (Rows.batchMaySpec.post enc Try.prog Try.f11 false true false false) := by
  refine returnsInHanded_of_change (C := Try.checked) ownKn started (by kernel_rfl) Try.func11
    (ChangeSpec.witness6 (enc := enc) (C := Try.checked) false ⟨#[], #[.slice none 0 0], []⟩ 8 (by kernel_rfl) (by kernel_rfl) (by kernel_rfl) (by kernel_rfl)) ?_
  intro W base args ds gs before hval0 hW hcnd _
  have hval : ∀ (j : Nat) t v, Try.f11.params[j]? = some t → args[j]? = some v → Value.okWide Try.prog W .any base t v := hval0
  have hW' := hW
  obtain ⟨p, q, hA0, hV, rfl, hfz, hnd⟩ := hW
  have hA : DataW.TrodAll enc Try.prog W 0 (fun _ => true) true Try.f11.params.toList args.toList ds p := hA0
  rw [Try.params11] at hA hval
  obtain ⟨v0, vs0, d0, ds0, p0, q0, hargs, rfl, rfl, h0, r0⟩ := trodAll_cons hA
  obtain ⟨rfl, rfl, rfl⟩ := trodAll_nil r0
  obtain rfl : args = #[v0] := by cases args; simp_all
  obtain ⟨rfl, rfl⟩ := trodVars_none hV
  have lt0 : ∀ x ∈ p0, x.block < W.heap.size := by obtain ⟨m, hm⟩ := h0; exact DataW.trod_lt m _ _ _ hm
  have k0 := h0
  obtain ⟨A0, len0, cap0, rfl⟩ := okWide_slice Try.underlying58 (hval 0 58 v0 rfl rfl)
  obtain ⟨xs0, rfl, hlc0, hcm0, hC0, hwf0⟩ := open_ops h0
  have hxl0 : xs0.length ≤ 9223372036854775807 := by unfold maxLen at hcm0; omega
  clear hA0 hval0
  refine (walk A0 cap0 xs0 W hC0 hlc0 (by unfold maxLen at hcm0; exact hcm0) hxl0 hwf0).mono fun e W' ⟨he, bel⟩ => ?_
  subst he
  exact ⟨_, rfl, _, _, _, [], _, [], hW', trodAll_mk1 (shut_bool Try.underlying4 _), (trodAll_cons_mk (Below.trod laidOut (by kernel_rfl) (of_decide_eq_true (by kernel_rfl)) k0 bel lt0) trodAll_mk0), rfl, bel.frame _, fun h => by cases h⟩

theorem over : Rows.batchMayRow.holds Try.pinned (OpenSpec.ofChange Rows.batchMaySpec) :=
  OpenClaim.holds_of_wide 11 Try.f11 rfl rfl rfl rfl rfl rfl rfl ⟨rfl, rfl, rfl, rfl, rfl⟩ rfl rfl rfl rfl rfl (by kernel_rfl) Try.func11 (by kernel_rfl)
    (of_decide_eq_true (by kernel_rfl)) (by unfold Func.isWrapper; first | (rw [if_pos (by decide +kernel)]; kernel_rfl) | (rw [if_neg (by decide +kernel)]; exact ⟨rfl, rfl⟩))
    (fun os started H enc _ => lifted os started H enc)

/-- ████ THE STATEMENT ████ -/
theorem proved : Rows.BatchMaySaid :=
  over
end Go.Proofs.Ytolningpngjhpaa.batchMay
