/- screelaw05.BatchWrites answers true for every number and all operations: no condition. -/
import Derived.Test.YtolningpngjhpaaRows
import Derived.Test.YtolningpngjhpaaBaOp
import Derived.Test.YtolningpngjhpaaBa10
import Derived.Deep.QuietTactic
import Derived.BigQuiet
namespace Go.Proofs.Ytolningpngjhpaa.batchWrites
open Go.ChangeShapes Go.WideShapes Go.ChangeAt Go.RowKit Go.Joins
open Go.ChangeMaps (open_string shut_string)
open Go.Proofs.YtolningpngjhpaaW.PrintWords Go.Proofs.YtolningpngjhpaaW.PrintLast Go.Proofs.YtolningpngjhpaaW.PrintMore
open Go.Proofs.Ytolningpngjhpaa.Nm Go.Proofs.Ytolningpngjhpaa.Bat
open Go.Proofs.Ytolningpngjhpaa.PBatchWrites (S66 k66 z66 rd_T66 at_T66 k66_mk k66_mkM k66_open S64 k64 z64 info64 k64_mkM rd_T64 at_T64)
set_option linter.unusedVariables false
set_option linter.unusedSimpArgs false

theorem eqA64 (d : Nat) (w : World) (x0 y0 : ByteArray) (x1 y1 : Int) (x2 y2 : Bool) (x3 y3 : ByteArray) :
    (Op.equalIn (d + 2) 64 (.agg #[.string x0, .int .u64 x1, .bool x2, .string x3]) (.agg #[.string y0, .int .u64 y1, .bool y2, .string y3])).run Try.prog w = .ok (x0.toList == y0.toList && (x1 == y1 && (x2 == y2 && (x3.toList == y3.toList)))) w := by
  refine eqA_of Try.underlying64 (by kernel_rfl) ?_
  refine eqf_cons (by rfl) (by go_simp; rfl) (by go_simp; rfl) (by go_simp) ?_
  refine eqf_cons (by rfl) (by go_simp; rfl) (by go_simp; rfl) (by go_simp) ?_
  refine eqf_cons (by rfl) (by go_simp; rfl) (by go_simp; rfl) (by go_simp) ?_
  exact eqf_last (by rfl) (by go_simp; rfl) (by go_simp; rfl) (by go_simp)
attribute [local go_sem high] eqA64
theorem size_take {xs : List S66} {i : Nat} (h : i < xs.length) : sizeO (xs.take (i + 1)) = sizeO (xs.take i) + ((rd_T66 xs (i : Int)).f1.size + (rd_T66 xs (i : Int)).f2.size) := by
  have e : xs.take (i + 1) = xs.take i ++ [rd_T66 xs (i : Int)] := by
    rw [List.take_succ_eq_append_getElem h]
    congr 2
    unfold rd_T66
    simp [List.getD_eq_getElem?_getD, h]
  have ap : ∀ (a b : List S66), sizeO (a ++ b) = sizeO a + sizeO b := by
    intro a b
    induction a with
    | nil => simp [sizeO]
    | cons x a ih => simp only [List.cons_append, sizeO, ih]; omega
  rw [e, ap]
  simp [sizeO]
theorem size_bd {xs : List S66} (h : ∀ x ∈ xs, x.f1.size ≤ 300 ∧ x.f2.size ≤ 300) : sizeO xs ≤ 600 * xs.length := by
  induction xs with
  | nil => simp [sizeO]
  | cons x xs ih =>
    have := h x List.mem_cons_self
    have := ih (fun y hy => h y (List.mem_cons_of_mem _ hy))
    simp only [sizeO, List.length_cons]
    omega

set_option maxHeartbeats 8000000 in
set_option maxRecDepth 100000 in
theorem walk (seq : Nat) (A : Option Addr) (c : Nat) (xs : List S66) (w : World) (hs : seq < 2 ^ 64) (hr : Kd.C k66 w A xs.length xs) (hc : xs.length ≤ c) (hl : xs.length ≤ 9223372036854775807) (hw : ∀ x ∈ xs, WfO x) :
    Calls Try.prog 7 #[.int .u64 (seq : Int), .slice A xs.length c] w fun e w' => e = .returned (.bool true) ∧ Below w.heap.size w w' := by
  have HR := Aside0.mk hr
  have HW := Aside0.mk hw
  have HS := Aside0.mk hs
  have HL0 := Aside0.mk hl
  clear hr hw hs hl
  cases hlg : largeB xs with
  | true =>
    have HG := Aside0.mk hlg
    clear hlg
    go_enter Try.func7, Try.ntmps7
    go_wp2_with fail
    refine (awake_any _).mono ?_
    rintro e w1 ⟨rfl, hb⟩
    have R1 := Aside0.mk (Kd.C_below HR.out hb)
    have B1 := Aside0.mk hb
    clear hb HR
    go_wp2_with fail
    refine (large_any A c xs _ R1.out hc).mono ?_
    rintro e w2 ⟨rfl, hb⟩
    rw [HG.out]
    have B2 := Aside0.mk (below_then B1.out B1.out.size hb)
    clear hb R1 B1
    go_wp2_with fail
    go_ret
    exact ⟨rfl, B2.out⟩
  | false =>
    have HG := Aside0.mk hlg
    have hno := large_no hlg
    have hlen := hno.1
    have HNo := Aside0.mk hno.2
    clear hlg hno
    obtain ⟨S, E, hE⟩ : ∃ S E, encM seq xs = (S, E) := ⟨_, _, rfl⟩
    obtain ⟨M, hM⟩ : ∃ M, mayB xs = M := ⟨_, rfl⟩
    have HE := Aside0.mk hE
    have HM := Aside0.mk hM
    have HLe := Aside0.mk (ent_len seq xs 0)
    clear hE hM
    generalize hY : entFrom seq xs 0 = Y at HLe
    have HY := Aside0.mk hY
    clear hY
    go_enter Try.func7, Try.ntmps7
    go_wp2_with fail
    refine (awake_any _).mono ?_
    rintro e w1 ⟨rfl, hb⟩
    have R1 := Aside0.mk (Kd.C_below HR.out hb)
    have B1 := Aside0.mk hb
    clear hb
    go_wp2_with fail
    refine (large_any A c xs _ R1.out hc).mono ?_
    rintro e w2 ⟨rfl, hb⟩
    rw [HG.out]
    have R2 := Aside0.mk (Kd.C_below R1.out hb)
    have B2 := Aside0.mk (below_then B1.out B1.out.size hb)
    clear hb R1 B1
    go_wp2_with (first | ((with_reducible refine gate_dst (N := 18) rfl ?_); refine Kd.R_lit k66 w.heap.size 66 ?hg (N := 18) ?hd (xs := ([] : List S66)) (inner := []) (ok := fun _ => True) (okp := fun _ => True) ?hr ?hp (fun _ hk => hk) trivial B2.out B2.out.size (by simp) ?_; (case hd => rfl); (case hg => rfl); (case hr => first | (go_simp; done) | (go_simp; rfl)); (case hp => exact (Reps.none _ _)); intro v3 w3 ho hb hg3 hn3; have O3 := Aside0.mk ho; have B3 := Aside0.mk hb; have R3 := Aside0.mk (Kd.C_below R2.out (show Below w2.heap.size w2 w3 from ⟨hg3.os, hg3.tape, hg3.output, hg3.size, fun k hk => hg3.block k hk (by simp)⟩)); clear ho hb hg3 hn3) | ((with_reducible refine gate_builtin (b := .append) (xs := #[.tmp 18, .tmp 19]) rfl ?_); refine Kd.R_append_rows k66 (w0 := w) w.heap.size (by rfl) (.tmp 18) (.tmp 19) 58 66 (.agg #[(.bool false), (.string ⟨#[]⟩), (.string ⟨#[]⟩)]) 40 rfl Try.underlying58 info66 rfl (by decide) (by omega) v3 [] xs A xs.length c (fun _ => True) (fun _ => False) rfl rfl O3.out R3.out ?aK (fun _ hk => hk.elim) (fun _ _ => trivial) B3.out B3.out.size (by simp; omega) ?_; (case aK => intro x cs hx; rw [k66_open hx]; exact k66_mkM _ _ _ x); intro v4 w4 ho hb hg4 hn4; have O4 := Aside0.mk ho; have B4 := Aside0.mk hb; have G4 := Aside0.mk hg4; clear ho hb hg4 hn4))
    obtain ⟨A4, c4, hv, hc4, hC4⟩ := Kd.R_reads O4.out
    rw [List.nil_append] at hv hc4 hC4
    subst hv
    have W4 := Aside0.mk hC4
    have R4 := Aside0.mk (Kd.C_below HR.out B4.out)
    clear hC4 O4 O3 B3 R3 R2 B2 G4
    refine (encode_any seq A4 c4 xs _ HS.out W4.out hc4 HL0.out HW.out).mono ?_
    rintro e w5 ⟨rfl, hb⟩
    rw [HE.out]
    simp only
    have W5 := Aside0.mk (Kd.C_below W4.out hb)
    have R5 := Aside0.mk (Kd.C_below R4.out hb)
    have B5 := Aside0.mk (below_then B4.out B4.out.size hb)
    clear hb W4 R4 B4
    go_wp2_with fail
    refine (rencode_any seq A c xs _ HS.out R5.out hc hlen).mono ?_
    rintro e w6 ⟨rfl, hb⟩
    rw [HE.out]
    simp only
    have W6 := Aside0.mk (Kd.C_below W5.out hb)
    have R6 := Aside0.mk (Kd.C_below R5.out hb)
    have B6 := Aside0.mk (below_then B5.out B5.out.size hb)
    clear hb W5 R5 B5
    go_wp2_with fail
    refine (entries_any seq A4 c4 xs _ HS.out W6.out hc4 (by omega)).mono ?_
    rintro e w7 ⟨v7, rfl, hR7, hb⟩
    rw [HY.out] at hR7
    obtain ⟨Ax, cx, hv, hcx, hCx⟩ := Kd.R_reads hR7
    rw [HLe.out] at hv hcx hCx
    subst hv
    have X7 := Aside0.mk hCx
    have W7 := Aside0.mk (Kd.C_below W6.out hb)
    have R7 := Aside0.mk (Kd.C_below R6.out hb)
    have B7 := Aside0.mk (below_then B6.out B6.out.size hb)
    clear hb W6 R6 B6 hCx hR7
    go_wp2_with fail
    refine (rentries_any seq A c xs _ HS.out R7.out hc hlen).mono ?_
    rintro e w8 ⟨v8, rfl, hR8, hb⟩
    rw [HY.out] at hR8
    obtain ⟨Ay, cy, hv, hcy, hCy⟩ := Kd.R_reads hR8
    rw [HLe.out] at hv hcy hCy
    subst hv
    have Y8 := Aside0.mk hCy
    have X8 := Aside0.mk (Kd.C_below X7.out hb)
    have W8 := Aside0.mk (Kd.C_below W7.out hb)
    have R8 := Aside0.mk (Kd.C_below R7.out hb)
    have B8 := Aside0.mk (below_then B7.out B7.out.size hb)
    clear hb W7 R7 B7 X7 hCy hR8
    go_wp2_with fail
    refine (may_any A4 c4 xs _ W8.out hc4 HL0.out HW.out).mono ?_
    rintro e w9 ⟨rfl, hb⟩
    rw [HM.out]
    have Y9 := Aside0.mk (Kd.C_below Y8.out hb)
    have X9 := Aside0.mk (Kd.C_below X8.out hb)
    have W9 := Aside0.mk (Kd.C_below W8.out hb)
    have R9 := Aside0.mk (Kd.C_below R8.out hb)
    have B9 := Aside0.mk (below_then B8.out B8.out.size hb)
    clear hb W8 R8 B8 X8 Y8
    go_wp2_with fail
    refine (rmay_any A c xs _ R9.out hc hlen).mono ?_
    rintro e w10 ⟨rfl, hb⟩
    rw [HM.out]
    have Y10 := Aside0.mk (Kd.C_below Y9.out hb)
    have X10 := Aside0.mk (Kd.C_below X9.out hb)
    have W10 := Aside0.mk (Kd.C_below W9.out hb)
    have R10 := Aside0.mk (Kd.C_below R9.out hb)
    have B10 := Aside0.mk (below_then B9.out B9.out.size hb)
    clear hb W9 R9 B9 X9 Y9
    go_wp2_with fail
    go_loopg [12, 13, 63] (xs.length + 1) (fun kq v12 v13 v63 w' => ∃ (i : Nat), v63 = .int .i64 (i : Int) ∧ v12 = .int .i64 ((sizeO (xs.take i) : Nat) : Int) ∧ Aside0 (kq + i = xs.length + 1) ∧ i ≤ xs.length ∧ Aside0 (Kd.C k64 w' Ax xs.length Y) ∧ Aside0 (Kd.C k64 w' Ay xs.length Y) ∧ Aside0 (Kd.C k66 w' A4 xs.length xs) ∧ Aside0 (Kd.C k66 w' A xs.length xs) ∧ Aside0 (Below w.heap.size w w'))
    case atStart => exact ⟨0, rfl, rfl, ⟨rfl⟩, Nat.zero_le _, X10, Y10, W10, R10, B10⟩
    case round =>
      clear X10 Y10 W10 R10 B10
      obtain ⟨i, rfl, rfl, HK, hi, X10, Y10, W10, R10, B10⟩ := hrel
      by_cases hlt : i < xs.length
      · obtain ⟨k1, rfl⟩ : ∃ m, gk = m + 1 := ⟨gk - 1, by have := HK.out; omega⟩
        obtain ⟨ad, rfl, c0, c1, c2⟩ := at_T66 R10.out (i : Int) (by omega) (by omega)
        obtain ⟨ax, rfl, x0, x1, x2, x3⟩ := at_T64 X10.out (i : Int) (by omega) (by omega)
        obtain ⟨ay, rfl, y0, y1, y2, y3⟩ := at_T64 Y10.out (i : Int) (by omega) (by omega)
        simp only [Int.toNat_natCast] at c0 c1 c2 x0 x1 x2 x3 y0 y1 y2 y3
        have hst := size_take hlt
        have hbd := HNo.out _ (rd_mem hlt)
        have hbt := size_bd (xs := xs.take i) (fun x hx => HNo.out x (List.mem_of_mem_take hx))
        rw [List.length_take, Nat.min_eq_left hi] at hbt
        generalize rd_T64 Y (i : Int) = y at x0 x1 x2 x3 y0 y1 y2 y3
        obtain ⟨yk, ys, yd, yv⟩ := y
        generalize rd_T66 xs (i : Int) = x at c0 c1 c2 hst hbd
        obtain ⟨d, k, v⟩ := x
        simp only at c0 c1 c2 x0 x1 x2 x3 y0 y1 y2 y3 hst hbd
        generalize hN : sizeO (xs.take i) = N at hst hbt
        have HSt := Aside0.mk hst
        have hk3 := hbd.1
        have hv3 := hbd.2
        clear hst hbd hN
        go_wp2_with fail
        go_quiet (fail)
        clear x0 x1 x2 x3 y0 y1 y2 y3
        go_wp2_with fail
        go_quiet (fail)
        go_wp2_with fail
        go_roundg k1
        case measure => omega
        case rel => exact ⟨i + 1, by go_num, congrArg (Value.int .i64) (by rw [HSt.out]; omega), ⟨by have := HK.out; omega⟩, by omega, ⟨by repeat (first | exact X10.out | apply Kd.C_drewN | apply Kd.C_drew)⟩, ⟨by repeat (first | exact Y10.out | apply Kd.C_drewN | apply Kd.C_drew)⟩, ⟨by repeat (first | exact W10.out | apply Kd.C_drewN | apply Kd.C_drew)⟩, ⟨by repeat (first | exact R10.out | apply Kd.C_drewN | apply Kd.C_drew)⟩, ⟨by repeat (first | exact B10.out | apply pw_below_drewN | apply below_drew1)⟩⟩
      · obtain rfl : i = xs.length := by omega
        rw [List.take_length]
        generalize hZ : sizeO xs = Z
        have HZ := Aside0.mk hZ
        clear hZ
        go_wp2_with fail
        refine (size_any A4 c4 xs _ W10.out hc4 hlen HNo.out).mono ?_
        rintro e w11 ⟨rfl, hb⟩
        rw [HZ.out]
        have W11 := Aside0.mk (Kd.C_below W10.out hb)
        have R11 := Aside0.mk (Kd.C_below R10.out hb)
        have B11 := Aside0.mk (below_then B10.out B10.out.size hb)
        clear hb W10 R10 B10 X10 Y10
        go_wp2_with fail
        refine (same_any A4 A c4 c xs _ W11.out hc4 R11.out hc (by omega)).mono ?_
        rintro e w12 ⟨rfl, hb⟩
        have B12 := Aside0.mk (below_then B11.out B11.out.size hb)
        clear hb W11 R11 B11
        go_wp2_with fail
        go_ret
        exact ⟨rfl, B12.out⟩

set_option maxRecDepth 100000 in
theorem lifted (os : Os) (started : os.Started) (H : Type) (enc : TypeId × Value → H) :
    ReturnsInHanded {} Try.checked os 7 .any (Rows.batchWritesSpec.pre6 enc Try.prog Try.f7 Rows.batchWritesRow.domain false) (Rows.batchWritesSpec.post enc Try.prog Try.f7 false true false false) := by
  refine returnsInHanded_of_change (C := Try.checked) ownKn started (by kernel_rfl) Try.func7
    (ChangeSpec.witness6 (enc := enc) (C := Try.checked) false ⟨#[], #[.int .u64 0, .slice none 0 0], []⟩ 8 (by kernel_rfl) (by kernel_rfl) (by kernel_rfl) (by kernel_rfl)) ?_
  intro W base args ds gs before hval0 hW hcnd _
  have hval : ∀ (j : Nat) t v, Try.f7.params[j]? = some t → args[j]? = some v → Value.okWide Try.prog W .any base t v := hval0
  have hW' := hW
  obtain ⟨p, q, hA0, hV, rfl, hfz, hnd⟩ := hW
  have hA : DataW.TrodAll enc Try.prog W 0 (fun _ => true) true Try.f7.params.toList args.toList ds p := hA0
  rw [Try.params7] at hA hval
  obtain ⟨v0, vs0, d0, ds0, p0, q0, hargs, rfl, rfl, h0, r0⟩ := trodAll_cons hA
  obtain ⟨v1, vs1, d1, ds1, p1, q1, rfl, rfl, rfl, h1, r1⟩ := trodAll_cons r0
  obtain ⟨rfl, rfl, rfl⟩ := trodAll_nil r1
  obtain rfl : args = #[v0, v1] := by cases args; simp_all
  obtain ⟨rfl, rfl⟩ := trodVars_none hV
  have lt0 : ∀ x ∈ p0, x.block < W.heap.size := by obtain ⟨m, hm⟩ := h0; exact DataW.trod_lt m _ _ _ hm
  have k0 := h0
  have lt1 : ∀ x ∈ p1, x.block < W.heap.size := by obtain ⟨m, hm⟩ := h1; exact DataW.trod_lt m _ _ _ hm
  have k1 := h1
  obtain ⟨a0, rfl, _, _, w0⟩ := open_int Try.underlying35 (hval 0 35 v0 rfl rfl) h0
  have b0 := u64_wf w0
  obtain ⟨n0, rfl⟩ := Int.eq_ofNat_of_zero_le b0.1
  obtain ⟨A1, len1, cap1, rfl⟩ := okWide_slice Try.underlying58 (hval 1 58 v1 rfl rfl)
  obtain ⟨xs1, rfl, hlc1, hcm1, hC1, hwf1⟩ := open_ops h1
  have hxl1 : xs1.length ≤ 9223372036854775807 := by unfold maxLen at hcm1; omega
  clear hA0 hval0
  refine (walk n0 A1 cap1 xs1 W (by omega) hC1 hlc1 hxl1 hwf1).mono fun e W' ⟨he, bel⟩ => ?_
  subst he
  exact ⟨_, rfl, _, _, _, [], _, [], hW', trodAll_mk1 (shut_bool Try.underlying4 _), (trodAll_cons_mk (Below.trod laidOut (by kernel_rfl) (of_decide_eq_true (by kernel_rfl)) k0 bel lt0) (trodAll_cons_mk (Below.trod laidOut (by kernel_rfl) (of_decide_eq_true (by kernel_rfl)) k1 bel lt1) trodAll_mk0)), rfl, bel.frame _, fun h => by cases h⟩

theorem over : Rows.batchWritesRow.holds Try.pinned (OpenSpec.ofChange Rows.batchWritesSpec) :=
  OpenClaim.holds_of_wide 7 Try.f7 rfl rfl rfl rfl rfl rfl rfl ⟨rfl, rfl, rfl, rfl, rfl⟩ rfl rfl rfl rfl rfl (by kernel_rfl) Try.func7 (by kernel_rfl)
    (of_decide_eq_true (by kernel_rfl)) (by unfold Func.isWrapper; first | (rw [if_pos (by decide +kernel)]; kernel_rfl) | (rw [if_neg (by decide +kernel)]; exact ⟨rfl, rfl⟩))
    (fun os started H enc _ => lifted os started H enc)

/-- ████ THE STATEMENT ████ -/
theorem proved : Rows.BatchWritesSaid :=
  over
end Go.Proofs.Ytolningpngjhpaa.batchWrites
