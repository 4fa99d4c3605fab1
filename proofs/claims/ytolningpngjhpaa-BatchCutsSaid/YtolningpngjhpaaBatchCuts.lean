/- screelaw05.BatchCuts answers true for every number, operations, place and more bytes: no condition. -/
import Derived.Test.YtolningpngjhpaaRows
import Derived.Test.YtolningpngjhpaaBaOp
namespace Go.Proofs.Ytolningpngjhpaa.batchCuts
open Go.ChangeShapes Go.WideShapes Go.ChangeAt Go.RowKit Go.Joins
open Go.ChangeMaps (open_string shut_string)
open Go.Proofs.YtolningpngjhpaaW.PrintWords Go.Proofs.YtolningpngjhpaaW.PrintLast Go.Proofs.YtolningpngjhpaaW.PrintMore
open Go.Proofs.Ytolningpngjhpaa.Nm Go.Proofs.Ytolningpngjhpaa.Bat
open Go.Proofs.Ytolningpngjhpaa.PBatchWrites (S66 k66 z66 rd_T66 at_T66 k66_mk k66_mkM k66_open S64 k64 info64 k64_mkM)
set_option linter.unusedVariables false
set_option linter.unusedSimpArgs false

theorem flat_len (l : List S66) (h : ∀ x ∈ l, oneB x = true) : (l.flatMap opB).length ≤ 300 * l.length := by
  induction l with
  | nil => simp
  | cons x l ih =>
    rw [List.flatMap_cons, List.length_append, List.length_cons]
    have := opB_len (h x List.mem_cons_self)
    have := ih (fun y hy => h y (List.mem_cons_of_mem _ hy))
    omega
theorem enc_len {n : Nat} {l : List S66} (hm : mayB l = true) (hn : n < 2 ^ 64) : 0 < (encB n l).length ∧ (encB n l).length ≤ 5000 := by
  obtain ⟨h1, h2, h3⟩ := mayB_all hm
  have a := flat_len l h3
  have b := short_len 9 n (by omega)
  have c := short_len 9 l.length (by omega)
  have d : (short n).length ≠ 0 := fun h => short_ne n (List.eq_nil_of_length_eq_zero h)
  unfold encB
  rw [List.length_append, List.length_append]
  omega

set_option maxHeartbeats 4000000 in
set_option maxRecDepth 100000 in
theorem walk (seq at_ : Nat) (A : Option Addr) (c : Nat) (xs : List S66) (more : ByteArray) (w : World) (hs : seq < 2 ^ 64) (hat : at_ < 65536) (hr : Kd.C k66 w A xs.length xs) (hc : xs.length ≤ c) (hl : xs.length ≤ 9223372036854775807) (hw : ∀ x ∈ xs, WfO x) (hz : more.size ≤ 9223372036854775807) :
    Calls Try.prog 10 #[.int .u64 (seq : Int), .slice A xs.length c, .int .u16 (at_ : Int), .string more] w fun e w' => e = .returned (.bool true) ∧ Below w.heap.size w w' := by
  have HR := Aside0.mk hr
  have HW := Aside0.mk hw
  have HS := Aside0.mk hs
  have HZ := Aside0.mk hz
  have HL0 := Aside0.mk hl
  clear hr hw hs hl
  cases hlg : largeB xs with
  | true =>
    have HG := Aside0.mk hlg
    clear hlg
    go_enter Try.func10, Try.ntmps10
    go_wp2_with fail
    refine (awake_any _).mono ?_
    rintro e w1 ⟨rfl, hb⟩
    have R1 := Aside0.mk (Kd.C_below HR.out hb)
    have B1 := Aside0.mk hb
    clear hb HR
    go_wp2_with fail
    refine (large_any A c xs _ R1.out hc).mono ?_
    rintro e w2 ⟨rfl, hb⟩
    rw [HG.out]
    have B2 := Aside0.mk (below_then B1.out B1.out.size hb)
    clear hb R1 B1
    go_wp2_with fail
    go_ret
    exact ⟨rfl, B2.out⟩
  | false =>
    have HG := Aside0.mk hlg
    have HLN := Aside0.mk (large_no hlg)
    clear hlg
    by_cases hmz : 300 < more.size
    · have d0 : decide ((300 : Int) < (more.size : Int)) = true := decide_eq_true (by omega)
      go_enter Try.func10, Try.ntmps10
      go_wp2_with fail
      refine (awake_any _).mono ?_
      rintro e w1 ⟨rfl, hb⟩
      have R1 := Aside0.mk (Kd.C_below HR.out hb)
      have B1 := Aside0.mk hb
      clear hb HR
      go_wp2_with fail
      refine (large_any A c xs _ R1.out hc).mono ?_
      rintro e w2 ⟨rfl, hb⟩
      rw [HG.out]
      have B2 := Aside0.mk (below_then B1.out B1.out.size hb)
      clear hb R1 B1
      go_wp2_with fail
      go_ret
      exact ⟨rfl, B2.out⟩
    · have d0 : decide ((300 : Int) < (more.size : Int)) = false := decide_eq_false (by omega)
      by_cases hok : mayB xs = true ∧ numB seq xs.length = true
      · obtain ⟨hm, hn⟩ := hok
        have HE : Aside0 (encM seq xs = (str (encB seq xs), 0)) := ⟨by unfold encM; rw [if_pos hm, if_pos hn]⟩
        have hle := enc_len hm HS.out
        have hcut := fun k hk => dec_cut hm hn k hk
        have hmore := dec_enc hm hn more.data.toList
        obtain ⟨S, hS⟩ : ∃ S, S = str (encB seq xs) := ⟨_, rfl⟩
        have hSl : S.data.toList = encB seq xs := by rw [hS, str_list]
        rw [← hS] at HE
        rw [← hSl] at hle hcut hmore
        have hSz : S.data.toList.length = S.size := by simp
        rw [hSz] at hle hcut
        obtain ⟨hS0, hS1⟩ := hle
        have HCut := Aside0.mk hcut
        have HMore := Aside0.mk hmore
        have m0 : (0 : Int) ≤ (at_ : Int) % (S.size : Int) := Int.emod_nonneg _ (by omega)
        have m1 : (at_ : Int) % (S.size : Int) < (S.size : Int) := Int.emod_lt_of_pos _ (by omega)
        clear hm hn hcut hmore hS hSl hSz
        go_enter Try.func10, Try.ntmps10
        go_wp2_with fail
        refine (awake_any _).mono ?_
        rintro e w1 ⟨rfl, hb⟩
        have R1 := Aside0.mk (Kd.C_below HR.out hb)
        have B1 := Aside0.mk hb
        clear hb HR
        go_wp2_with fail
        refine (large_any A c xs _ R1.out hc).mono ?_
        rintro e w2 ⟨rfl, hb⟩
        rw [HG.out]
        have R2 := Aside0.mk (Kd.C_below R1.out hb)
        have B2 := Aside0.mk (below_then B1.out B1.out.size hb)
        clear hb R1 B1
        go_wp2_with fail
        refine (encode_any seq A c xs _ HS.out R2.out hc HL0.out HW.out).mono ?_
        rintro e w3 ⟨rfl, hb⟩
        rw [HE.out]
        simp only
        have B3 := Aside0.mk (below_then B2.out B2.out.size hb)
        clear hb R2 B2
        go_wp2_with fail
        refine (decode_any _ _ (by rw [ByteArray.size_extract]; omega)).mono ?_
        rintro e w4 ⟨n1, v1, l1, x1, rfl, _, hb, hx⟩
        rw [Lib.extract_data, List.drop_zero, Nat.sub_zero, HCut.out _ (Nat.mod_lt _ hS0)] at hx
        obtain ⟨rfl, rfl, rfl⟩ := hx
        have B4 := Aside0.mk (below_then B3.out B3.out.size hb)
        clear hb B3
        have hsum : (9223372036854775807 < S.size + more.size) = False := eq_false (by omega)
        go_wp2_with fail
        have hsz : (S ++ more).size ≤ 9223372036854775807 := by rw [ByteArray.size_append]; omega
        refine (decode_any _ _ hsz).mono ?_
        rintro e w5 ⟨n2, v2, l2, x2, rfl, _, hb, hx⟩
        have B5 := Aside0.mk (below_then B4.out B4.out.size hb)
        have happ : (S ++ more).data.toList = S.data.toList ++ more.data.toList := by simp
        rw [happ, HMore.out] at hx
        clear hb B4 hsz happ hsum m0 m1
        by_cases hm0 : 0 < more.size
        · have hem := isEmpty_pos hm0
          rw [if_neg (by intro h; have : more.data.toList.length = more.size := by simp
                         rw [h] at this; simp at this; omega)] at hx
          obtain ⟨rfl, rfl, rfl⟩ := hx
          go_wp2_with fail
          go_ret
          exact ⟨rfl, B5.out⟩
        · have hem := isEmpty_zero hm0
          rw [if_pos (by
            have : more.data.toList.length = more.size := by simp
            exact List.eq_nil_of_length_eq_zero (by omega))] at hx
          obtain ⟨rfl, rfl, rfl⟩ := hx
          go_wp2_with fail
          go_ret
          exact ⟨rfl, B5.out⟩
      · obtain ⟨E, hE, hE0⟩ : ∃ E : Int, encM seq xs = (⟨#[]⟩, E) ∧ E ≠ 0 := by
          unfold encM
          by_cases hm : mayB xs = true
          · rw [if_pos hm, if_neg (fun h => hok ⟨hm, h⟩)]
            exact ⟨3, rfl, by decide⟩
          · rw [if_neg hm]
            exact ⟨2, rfl, by decide⟩
        have HE := Aside0.mk hE
        have hE1 : (E != 0) = true := by simp [hE0]
        have hE2 : (E == 0) = false := by simp [hE0]
        clear hE hE0 hok
        go_enter Try.func10, Try.ntmps10
        go_wp2_with fail
        refine (awake_any _).mono ?_
        rintro e w1 ⟨rfl, hb⟩
        have R1 := Aside0.mk (Kd.C_below HR.out hb)
        have B1 := Aside0.mk hb
        clear hb HR
        go_wp2_with fail
        refine (large_any A c xs _ R1.out hc).mono ?_
        rintro e w2 ⟨rfl, hb⟩
        rw [HG.out]
        have R2 := Aside0.mk (Kd.C_below R1.out hb)
        have B2 := Aside0.mk (below_then B1.out B1.out.size hb)
        clear hb R1 B1
        go_wp2_with fail
        refine (encode_any seq A c xs _ HS.out R2.out hc HL0.out HW.out).mono ?_
        rintro e w3 ⟨rfl, hb⟩
        rw [HE.out]
        simp only
        have B3 := Aside0.mk (below_then B2.out B2.out.size hb)
        clear hb R2 B2
        go_wp2_with fail
        go_ret
        exact ⟨rfl, B3.out⟩

set_option maxRecDepth 100000 in
theorem lifted (os : Os) (started : os.Started) (H : Type) (enc : TypeId × Value → H) :
    ReturnsInHanded {} Try.checked os 10 .any (Rows.batchCutsSpec.pre6 enc Try.prog Try.f10 Rows.batchCutsRow.domain false) (Rows.batchCutsSpec.post enc Try.prog Try.f10 false true false false) := by
  refine returnsInHanded_of_change (C := Try.checked) ownKn started (by kernel_rfl) Try.func10
    (ChangeSpec.witness6 (enc := enc) (C := Try.checked) false ⟨#[], #[.int .u64 0, .slice none 0 0, .int .u16 0, .string ByteArray.empty], []⟩ 8 (by kernel_rfl) (by kernel_rfl) (by kernel_rfl) (by kernel_rfl)) ?_
  intro W base args ds gs before hval0 hW hcnd _
  have hval : ∀ (j : Nat) t v, Try.f10.params[j]? = some t → args[j]? = some v → Value.okWide Try.prog W .any base t v := hval0
  have hW' := hW
  obtain ⟨p, q, hA0, hV, rfl, hfz, hnd⟩ := hW
  have hA : DataW.TrodAll enc Try.prog W 0 (fun _ => true) true Try.f10.params.toList args.toList ds p := hA0
  rw [Try.params10] at hA hval
  obtain ⟨v0, vs0, d0, ds0, p0, q0, hargs, rfl, rfl, h0, r0⟩ := trodAll_cons hA
  obtain ⟨v1, vs1, d1, ds1, p1, q1, rfl, rfl, rfl, h1, r1⟩ := trodAll_cons r0
  obtain ⟨v2, vs2, d2, ds2, p2, q2, rfl, rfl, rfl, h2, r2⟩ := trodAll_cons r1
  obtain ⟨v3, vs3, d3, ds3, p3, q3, rfl, rfl, rfl, h3, r3⟩ := trodAll_cons r2
  obtain ⟨rfl, rfl, rfl⟩ := trodAll_nil r3
  obtain rfl : args = #[v0, v1, v2, v3] := by cases args; simp_all
  obtain ⟨rfl, rfl⟩ := trodVars_none hV
  have lt0 : ∀ x ∈ p0, x.block < W.heap.size := by obtain ⟨m, hm⟩ := h0; exact DataW.trod_lt m _ _ _ hm
  have k0 := h0
  have lt1 : ∀ x ∈ p1, x.block < W.heap.size := by obtain ⟨m, hm⟩ := h1; exact DataW.trod_lt m _ _ _ hm
  have k1 := h1
  have lt2 : ∀ x ∈ p2, x.block < W.heap.size := by obtain ⟨m, hm⟩ := h2; exact DataW.trod_lt m _ _ _ hm
  have k2 := h2
  have lt3 : ∀ x ∈ p3, x.block < W.heap.size := by obtain ⟨m, hm⟩ := h3; exact DataW.trod_lt m _ _ _ hm
  have k3 := h3
  obtain ⟨a0, rfl, _, _, w0⟩ := open_int Try.underlying35 (hval 0 35 v0 rfl rfl) h0
  have b0 := u64_wf w0
  obtain ⟨n0, rfl⟩ := Int.eq_ofNat_of_zero_le b0.1
  obtain ⟨A1, len1, cap1, rfl⟩ := okWide_slice Try.underlying58 (hval 1 58 v1 rfl rfl)
  obtain ⟨xs1, rfl, hlc1, hcm1, hC1, hwf1⟩ := open_ops h1
  have hxl1 : xs1.length ≤ 9223372036854775807 := by unfold maxLen at hcm1; omega
  obtain ⟨a2, rfl, _, _, w2⟩ := open_int Try.underlying72 (hval 2 72 v2 rfl rfl) h2
  have b2 := u16_wf w2
  obtain ⟨n2, rfl⟩ := Int.eq_ofNat_of_zero_le b2.1
  obtain ⟨a3, rfl, _, _, w3⟩ := open_string Try.underlying9 (hval 3 9 v3 rfl rfl) h3
  have z3 : a3.size ≤ 9223372036854775807 := by unfold maxLen at w3; exact w3
  clear hA0 hval0
  refine (walk n0 n2 A1 cap1 xs1 a3 W (by omega) (by omega) hC1 hlc1 hxl1 hwf1 z3).mono fun e W' ⟨he, bel⟩ => ?_
  subst he
  exact ⟨_, rfl, _, _, _, [], _, [], hW', trodAll_mk1 (shut_bool Try.underlying4 _), (trodAll_cons_mk (Below.trod laidOut (by kernel_rfl) (of_decide_eq_true (by kernel_rfl)) k0 bel lt0) (trodAll_cons_mk (Below.trod laidOut (by kernel_rfl) (of_decide_eq_true (by kernel_rfl)) k1 bel lt1) (trodAll_cons_mk (Below.trod laidOut (by kernel_rfl) (of_decide_eq_true (by kernel_rfl)) k2 bel lt2) (trodAll_cons_mk (Below.trod laidOut (by kernel_rfl) (of_decide_eq_true (by kernel_rfl)) k3 bel lt3) trodAll_mk0)))), rfl, bel.frame _, fun h => by cases h⟩

theorem over : Rows.batchCutsRow.holds Try.pinned (OpenSpec.ofChange Rows.batchCutsSpec) :=
  OpenClaim.holds_of_wide 10 Try.f10 rfl rfl rfl rfl rfl rfl rfl ⟨rfl, rfl, rfl, rfl, rfl⟩ rfl rfl rfl rfl rfl (by kernel_rfl) Try.func10 (by kernel_rfl)
    (of_decide_eq_true (by kernel_rfl)) (by unfold Func.isWrapper; first | (rw [if_pos (by decide +kernel)]; kernel_rfl) | (rw [if_neg (by decide +kernel)]; exact ⟨rfl, rfl⟩))
    (fun os started H enc _ => lifted os started H enc)

/-- ████ THE STATEMENT ████ -/
theorem proved : Rows.BatchCutsSaid :=
  over
end Go.Proofs.Ytolningpngjhpaa.batchCuts
