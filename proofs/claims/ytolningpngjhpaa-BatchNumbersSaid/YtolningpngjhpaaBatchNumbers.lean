/- screelaw05.BatchNumbers answers true for every number and all operations: no condition. -/
import Derived.Test.YtolningpngjhpaaRows
import Derived.Test.YtolningpngjhpaaBaOp
import Derived.Deep.QuietTactic
import Derived.BigQuiet
namespace Go.Proofs.Ytolningpngjhpaa.batchNumbers
open Go.ChangeShapes Go.WideShapes Go.ChangeAt Go.RowKit Go.Joins
open Go.ChangeMaps (open_string shut_string)
open Go.Proofs.YtolningpngjhpaaW.PrintWords Go.Proofs.YtolningpngjhpaaW.PrintLast Go.Proofs.YtolningpngjhpaaW.PrintMore
open Go.Proofs.Ytolningpngjhpaa.Nm Go.Proofs.Ytolningpngjhpaa.Bat
open Go.Proofs.Ytolningpngjhpaa.PBatchWrites (S66 k66 z66 rd_T66 at_T66 k66_mk k66_mkM k66_open S64 k64 z64 info64 k64_mkM rd_T64 at_T64)
set_option linter.unusedVariables false
set_option linter.unusedSimpArgs false

theorem ent_at (seq : Nat) : ∀ (xs : List S66) (i0 i : Nat), i < xs.length → (entFrom seq xs i0)[i]? = some ⟨(rd_T66 xs (i : Int)).f1, IntKind.u64.wrap ((seq : Int) + ((i0 + i : Nat) : Int)), (rd_T66 xs (i : Int)).f0, (rd_T66 xs (i : Int)).f2⟩ := by
  intro xs
  induction xs with
  | nil => intro i0 i h; simp at h
  | cons x xs ih =>
    intro i0 i h
    cases i with
    | zero => simp [entFrom, rd_T66]
    | succ i =>
      simp only [entFrom, List.getElem?_cons_succ]
      rw [ih (i0 + 1) i (by simpa using h)]
      have : rd_T66 (x :: xs) ((i + 1 : Nat) : Int) = rd_T66 xs (i : Int) := by unfold rd_T66; simp
      rw [this, show i0 + 1 + i = i0 + (i + 1) by omega]
theorem ent_rd (seq : Nat) (xs : List S66) (i : Nat) (h : i < xs.length) : rd_T64 (entFrom seq xs 0) (i : Int) = ⟨(rd_T66 xs (i : Int)).f1, IntKind.u64.wrap ((seq : Int) + (i : Int)), (rd_T66 xs (i : Int)).f0, (rd_T66 xs (i : Int)).f2⟩ := by
  have := ent_at seq xs 0 i h
  unfold rd_T64
  rw [List.getD_eq_getElem?_getD, Int.toNat_natCast, this, Nat.zero_add]
  rfl

theorem wrap_i (i : Nat) (h : i < 1000) : IntKind.u64.wrap (i : Int) = (i : Int) := by rw [IntKind.wrap_u64]; omega
theorem wrap_sum (seq i : Nat) (h : i < 1000) : IntKind.u64.wrap ((seq : Int) + (i : Int)) = IntKind.u64.wrap ((seq : Int) + IntKind.u64.wrap (i : Int)) := by rw [wrap_i i h]

set_option maxHeartbeats 40000000 in
set_option maxRecDepth 100000 in
theorem walk (seq : Nat) (A : Option Addr) (c : Nat) (xs : List S66) (w : World) (hs : seq < 2 ^ 64) (hr : Kd.C k66 w A xs.length xs) (hc : xs.length ≤ c) (hl : xs.length ≤ 9223372036854775807) (hw : ∀ x ∈ xs, WfO x) :
    Calls Try.prog 9 #[.int .u64 (seq : Int), .slice A xs.length c] w fun e w' => e = .returned (.bool true) ∧ Below w.heap.size w w' := by
  have HR := Aside0.mk hr
  have HW := Aside0.mk hw
  have HS := Aside0.mk hs
  have HL0 := Aside0.mk hl
  clear hr hw hs hl
  cases hlg : largeB xs with
  | true =>
    have HG := Aside0.mk hlg
    clear hlg
    go_enter Try.func9, Try.ntmps9
    go_wp2_with fail
    refine (awake_any _).mono ?_
    rintro e w1 ⟨rfl, hb⟩
    have R1 := Aside0.mk (Kd.C_below HR.out hb)
    have B1 := Aside0.mk hb
    clear hb HR
    go_wp2_with fail
    refine (large_any A c xs _ R1.out hc).mono ?_
    rintro e w2 ⟨rfl, hb⟩
    rw [HG.out]
    have B2 := Aside0.mk (below_then B1.out B1.out.size hb)
    clear hb R1 B1
    go_wp2_with fail
    go_ret
    exact ⟨rfl, B2.out⟩
  | false =>
    have HG := Aside0.mk hlg
    have hlen := (large_no hlg).1
    clear hlg
    obtain ⟨S, E, hE⟩ : ∃ S E, encM seq xs = (S, E) := ⟨_, _, rfl⟩
    have hq : E = 0 → numB seq xs.length = true := by
      intro h0
      unfold encM at hE
      split at hE
      · split at hE
        · assumption
        · simp only [Prod.mk.injEq] at hE; omega
      · simp only [Prod.mk.injEq] at hE; omega
    have HQ := Aside0.mk hq
    have HE := Aside0.mk hE
    have HN := Aside0.mk (ent_rd seq xs)
    have HLe := Aside0.mk (ent_len seq xs 0)
    clear hq hE
    generalize hY : entFrom seq xs 0 = Y at HN HLe
    have HY := Aside0.mk hY
    clear hY
    go_enter Try.func9, Try.ntmps9
    go_wp2_with fail
    refine (awake_any _).mono ?_
    rintro e w1 ⟨rfl, hb⟩
    have R1 := Aside0.mk (Kd.C_below HR.out hb)
    have B1 := Aside0.mk hb
    clear hb HR
    go_wp2_with fail
    refine (large_any A c xs _ R1.out hc).mono ?_
    rintro e w2 ⟨rfl, hb⟩
    rw [HG.out]
    have R2 := Aside0.mk (Kd.C_below R1.out hb)
    have B2 := Aside0.mk (below_then B1.out B1.out.size hb)
    clear hb R1 B1
    go_wp2_with fail
    refine (encode_any seq A c xs _ HS.out R2.out hc HL0.out HW.out).mono ?_
    rintro e w3 ⟨rfl, hb⟩
    rw [HE.out]
    simp only
    have R3 := Aside0.mk (Kd.C_below R2.out hb)
    have B3 := Aside0.mk (below_then B2.out B2.out.size hb)
    clear hb R2 B2
    go_wp2_with fail
    refine (entries_any seq A c xs _ HS.out R3.out hc (by omega)).mono ?_
    rintro e w4 ⟨v, rfl, hR, hb⟩
    rw [HY.out] at hR
    obtain ⟨Ay, cy, hv, hcy, hCy⟩ := Kd.R_reads hR
    rw [HLe.out] at hv hcy hCy
    subst hv
    have Y4 := Aside0.mk hCy
    have R4 := Aside0.mk (Kd.C_below R3.out hb)
    have B4 := Aside0.mk (below_then B3.out B3.out.size hb)
    clear hb hR hCy R3 B3
    go_wp2_with fail
    go_loopg [8, 29] (xs.length + 1) (fun kq v8 v29 w' => ∃ (i : Nat), v29 = .int .i64 (i : Int) ∧ Aside0 (kq + i = xs.length + 1) ∧ i ≤ xs.length ∧ Aside0 (Kd.C k66 w' A xs.length xs) ∧ Aside0 (Kd.C k64 w' Ay xs.length Y) ∧ Aside0 (Below w.heap.size w w'))
    case atStart => exact ⟨0, rfl, ⟨rfl⟩, Nat.zero_le _, R4, Y4, B4⟩
    case round =>
      clear R4 Y4 B4
      obtain ⟨i, rfl, HK, hi, R4, Y4, B4⟩ := hrel
      by_cases hlt : i < xs.length
      · obtain ⟨k1, rfl⟩ : ∃ m, gk = m + 1 := ⟨gk - 1, by have := HK.out; omega⟩
        obtain ⟨ad, rfl, c0, c1, c2⟩ := at_T66 R4.out (i : Int) (by omega) (by omega)
        obtain ⟨ay, rfl, y0, y1, y2, y3⟩ := at_T64 Y4.out (i : Int) (by omega) (by omega)
        rw [HN.out i hlt] at y0 y1 y2 y3
        simp only [Int.toNat_natCast] at c0 c1 c2 y0 y1 y2 y3
        generalize rd_T66 xs (i : Int) = x at c0 c1 c2 y0 y1 y2 y3
        obtain ⟨d, k, v⟩ := x
        simp only at c0 c1 c2 y0 y1 y2 y3
        by_cases he : E = 0
        · have hn := HQ.out he
          unfold numB at hn
          simp only [Bool.and_eq_true, decide_eq_true_eq] at hn
          obtain ⟨⟨n1, n2⟩, n3⟩ := hn
          have e1 : IntKind.u64.wrap ((seq : Int) + (i : Int)) = (seq : Int) + (i : Int) := by rw [IntKind.wrap_u64]; omega
          rw [e1] at y1
          have q1 : (1 : Int) ≤ (seq : Int) + (i : Int) := by omega
          have q2 : (seq : Int) + (i : Int) ≤ 1099511627776 := by omega
          subst he
          clear e1
          go_wp2_with fail
          refine wp_region_quiet_lit (by kernel_rfl) (by kernel_rfl) ?_
          try simp only [List.append_eq, List.cons_append, List.nil_append]
          repeat (first | go_big_quiet_step (fail) | quiet_step (fail))
          refine wpQuiet_nil ?_
          intro _ hw'
          obtain ⟨nq, hw''⟩ := hw'
          subst hw''
          go_wp2_with fail
          go_roundg k1
          case measure => omega
          case rel => exact ⟨i + 1, by go_num, ⟨by have := HK.out; omega⟩, by omega, ⟨Kd.C_drewN R4.out _⟩, ⟨Kd.C_drewN Y4.out _⟩, ⟨pw_below_drewN B4.out _⟩⟩
        · have he1 : (E == 0) = false := by simp [he]
          clear he
          rw [wrap_sum seq i (by omega)] at y1
          obtain ⟨q2, hq2⟩ : ∃ q, IntKind.u64.wrap (i : Int) = q := ⟨_, rfl⟩
          rw [hq2] at y1
          obtain ⟨q1, hq1⟩ : ∃ q, IntKind.u64.wrap ((seq : Int) + q2) = q := ⟨_, rfl⟩
          rw [hq1] at y1
          go_wp2_with fail
          refine wp_region_quiet_lit (by kernel_rfl) (by kernel_rfl) ?_
          try simp only [List.append_eq, List.cons_append, List.nil_append]
          repeat go_big_quiet_step (fail)
          refine wpQuiet_nil ?_
          intro _ hw'
          obtain ⟨nq, hw''⟩ := hw'
          subst hw''
          clear y0 y1 y2 y3 c0 c1 c2
          clear hq1 hq2
          go_wp2_with fail
          go_roundg k1
          case measure => omega
          case rel => exact ⟨i + 1, by go_num, ⟨by have := HK.out; omega⟩, by omega, ⟨Kd.C_drewN R4.out _⟩, ⟨Kd.C_drewN Y4.out _⟩, ⟨pw_below_drewN B4.out _⟩⟩
      · go_wp2_with fail
        go_ret
        exact ⟨rfl, B4.out⟩

set_option maxRecDepth 100000 in
theorem lifted (os : Os) (started : os.Started) (H : Type) (enc : TypeId × Value → H) :
    ReturnsInHanded {} Try.checked os 9 .any (Rows.batchNumbersSpec.pre6 enc Try.prog Try.f9 Rows.batchNumbersRow.domain false) (Rows.batchNumbersSpec.post enc Try.prog Try.f9 false true false false) := by
  refine returnsInHanded_of_change (C := Try.checked) ownKn started (by kernel_rfl) Try.func9
    (ChangeSpec.witness6 (enc := enc) (C := Try.checked) false ⟨#[], #[.int .u64 0, .slice none 0 0], []⟩ 8 (by kernel_rfl) (by kernel_rfl) (by kernel_rfl) (by kernel_rfl)) ?_
  intro W base args ds gs before hval0 hW hcnd _
  have hval : ∀ (j : Nat) t v, Try.f9.params[j]? = some t → args[j]? = some v → Value.okWide Try.prog W .any base t v := hval0
  have hW' := hW
  obtain ⟨p, q, hA0, hV, rfl, hfz, hnd⟩ := hW
  have hA : DataW.TrodAll enc Try.prog W 0 (fun _ => true) true Try.f9.params.toList args.toList ds p := hA0
  rw [Try.params9] at hA hval
  obtain ⟨v0, vs0, d0, ds0, p0, q0, hargs, rfl, rfl, h0, r0⟩ := trodAll_cons hA
  obtain ⟨v1, vs1, d1, ds1, p1, q1, rfl, rfl, rfl, h1, r1⟩ := trodAll_cons r0
  obtain ⟨rfl, rfl, rfl⟩ := trodAll_nil r1
  obtain rfl : args = #[v0, v1] := by cases args; simp_all
  obtain ⟨rfl, rfl⟩ := trodVars_none hV
  have lt0 : ∀ x ∈ p0, x.block < W.heap.size := by obtain ⟨m, hm⟩ := h0; exact DataW.trod_lt m _ _ _ hm
  have k0 := h0
  have lt1 : ∀ x ∈ p1, x.block < W.heap.size := by obtain ⟨m, hm⟩ := h1; exact DataW.trod_lt m _ _ _ hm
  have k1 := h1
  obtain ⟨a0, rfl, _, _, w0⟩ := open_int Try.underlying35 (hval 0 35 v0 rfl rfl) h0
  have b0 := u64_wf w0
  obtain ⟨n0, rfl⟩ := Int.eq_ofNat_of_zero_le b0.1
  obtain ⟨A1, len1, cap1, rfl⟩ := okWide_slice Try.underlying58 (hval 1 58 v1 rfl rfl)
  obtain ⟨xs1, rfl, hlc1, hcm1, hC1, hwf1⟩ := open_ops h1
  have hxl1 : xs1.length ≤ 9223372036854775807 := by unfold maxLen at hcm1; omega
  clear hA0 hval0
  refine (walk n0 A1 cap1 xs1 W (by omega) hC1 hlc1 hxl1 hwf1).mono fun e W' ⟨he, bel⟩ => ?_
  subst he
  exact ⟨_, rfl, _, _, _, [], _, [], hW', trodAll_mk1 (shut_bool Try.underlying4 _), (trodAll_cons_mk (Below.trod laidOut (by kernel_rfl) (of_decide_eq_true (by kernel_rfl)) k0 bel lt0) (trodAll_cons_mk (Below.trod laidOut (by kernel_rfl) (of_decide_eq_true (by kernel_rfl)) k1 bel lt1) trodAll_mk0)), rfl, bel.frame _, fun h => by cases h⟩

theorem over : Rows.batchNumbersRow.holds Try.pinned (OpenSpec.ofChange Rows.batchNumbersSpec) :=
  OpenClaim.holds_of_wide 9 Try.f9 rfl rfl rfl rfl rfl rfl rfl ⟨rfl, rfl, rfl, rfl, rfl⟩ rfl rfl rfl rfl rfl (by kernel_rfl) Try.func9 (by kernel_rfl)
    (of_decide_eq_true (by kernel_rfl)) (by unfold Func.isWrapper; first | (rw [if_pos (by decide +kernel)]; kernel_rfl) | (rw [if_neg (by decide +kernel)]; exact ⟨rfl, rfl⟩))
    (fun os started H enc _ => lifted os started H enc)

/-- ████ THE STATEMENT ████ -/
theorem proved : Rows.BatchNumbersSaid :=
  over
end Go.Proofs.Ytolningpngjhpaa.batchNumbers
