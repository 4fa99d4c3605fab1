/- screelaw05.BatchReads answers true for every string: no condition. -/
import Derived.Test.YtolningpngjhpaaRows
import Derived.Test.YtolningpngjhpaaBaOp
import Derived.Test.YtolningpngjhpaaBa14
import Derived.Test.YtolningpngjhpaaBa9
namespace Go.Proofs.Ytolningpngjhpaa.batchReads
open Go.ChangeShapes Go.WideShapes Go.ChangeAt Go.RowKit Go.Joins
open Go.ChangeMaps (open_string shut_string)
open Go.Proofs.YtolningpngjhpaaW.PrintWords Go.Proofs.YtolningpngjhpaaW.PrintLast Go.Proofs.YtolningpngjhpaaW.PrintMore
open Go.Proofs.Ytolningpngjhpaa.Nm Go.Proofs.Ytolningpngjhpaa.Bat
open Go.Proofs.Ytolningpngjhpaa.PBatchWrites (S66 k66 z66 rd_T66 at_T66 k66_mk k66_mkM k66_open S64 k64 info64 k64_mkM)
set_option linter.unusedVariables false
set_option linter.unusedSimpArgs false

/-- Both Decodes' answers. -/
theorem both (s : List UInt8) : ∃ (N : Nat) (K : List S66) (X : Int), K.length ≤ 16 ∧
    (∀ (n : Nat) (l : List S66) (x : Int), (match decM s with | some (m, k) => n = m ∧ l = k ∧ x = 0 | none => n = 0 ∧ l = [] ∧ x = 2) → n = N ∧ l = K ∧ x = X) := by
  cases h : decM s with
  | none => exact ⟨0, [], 2, by simp, fun n l x h => h⟩
  | some y =>
    obtain ⟨m, k⟩ := y
    have h1 := mayB_all (dec_some h).1
    exact ⟨m, k, 0, h1.2.1, fun n l x h => h⟩

set_option maxHeartbeats 4000000 in
set_option maxRecDepth 100000 in
theorem walk (s : List UInt8) (w : World) (hs : s.length ≤ 9223372036854775807) :
    Calls Try.prog 8 #[.string (str s)] w fun e w' => e = .returned (.bool true) ∧ Below w.heap.size w w' := by
  have hz : (str s).size = s.length := str_size s
  by_cases hl : 8192 < (str s).size
  · have d0 : decide ((8192 : Int) < ((str s).size : Int)) = true := decide_eq_true (by omega)
    clear hz
    generalize str s = S at d0 hl
    clear hl
    go_enter Try.func8, Try.ntmps8
    go_wp2_with fail
    refine (awake_any _).mono ?_
    rintro e w1 ⟨rfl, hb⟩
    have B1 := Aside0.mk hb
    clear hb
    go_wp2_with fail
    go_ret
    exact ⟨rfl, B1.out⟩
  · have d0 : decide ((8192 : Int) < ((str s).size : Int)) = false := decide_eq_false (by omega)
    obtain ⟨N, K, X, hK, hB⟩ := both s
    have HD := Aside0.mk (fun W => decode_any (str s) W (by omega))
    have HRD := Aside0.mk (fun W => rdecode_any s W hs)
    rw [str_list] at HD
    rw [ref_dec] at HRD
    have HB := Aside0.mk hB
    clear hB hz hl hs
    generalize str s = S at d0 HD HRD
    go_enter Try.func8, Try.ntmps8
    go_wp2_with fail
    refine (awake_any _).mono ?_
    rintro e w1 ⟨rfl, hb⟩
    have B1 := Aside0.mk hb
    clear hb
    go_wp2_with fail
    refine (HD.out _).mono ?_
    rintro e w2 ⟨n, v, l, x, rfl, hR, hb, hm⟩
    obtain ⟨rfl, rfl, rfl⟩ := HB.out n l x hm
    obtain ⟨A1, c1, hv1, hc1, hC1⟩ := Kd.R_reads hR
    subst hv1
    have C1 := Aside0.mk hC1
    have B2 := Aside0.mk (below_then B1.out B1.out.size hb)
    clear hb hm hR hC1 B1 HD
    go_wp2_with fail
    refine (HRD.out _).mono ?_
    rintro e w3 ⟨n2, v, l2, x2, rfl, hR, hb, hm⟩
    obtain ⟨e1, e2, e3⟩ := HB.out n2 l2 x2 hm
    subst e1 e2 e3
    obtain ⟨A2, c2, hv2, hc2, hC2⟩ := Kd.R_reads hR
    subst hv2
    have C1b := Aside0.mk (Kd.C_below C1.out hb)
    have C2 := Aside0.mk hC2
    have B3 := Aside0.mk (below_then B2.out B2.out.size hb)
    clear hb hm hR hC2 B2 HRD C1 HB
    go_wp2_with fail
    refine (same_any A1 A2 c1 c2 _ _ C1b.out hc1 C2.out hc2 (by omega)).mono ?_
    rintro e w4 ⟨rfl, hb⟩
    have B4 := Aside0.mk (below_then B3.out B3.out.size hb)
    clear hb B3 C1b C2
    go_wp2_with fail
    go_ret
    exact ⟨rfl, B4.out⟩

set_option maxRecDepth 100000 in
theorem lifted (os : Os) (started : os.Started) (H : Type) (enc : TypeId × Value → H) :
    ReturnsInHanded {} Try.checked os 8 .any (Rows.batchReadsSpec.pre6 enc Try.prog Try.f8 Rows.batchReadsRow.domain false) (Rows.batchReadsSpec.post enc Try.prog Try.f8 false true false false) := by
  refine returnsInHanded_of_change (C := Try.checked) ownKn started (by kernel_rfl) Try.func8
    (ChangeSpec.witness6 (enc := enc) (C := Try.checked) false ⟨#[], #[.string ByteArray.empty], []⟩ 8 (by kernel_rfl) (by kernel_rfl) (by kernel_rfl) (by kernel_rfl)) ?_
  intro W base args ds gs before hval0 hW hcnd _
  have hval : ∀ (j : Nat) t v, Try.f8.params[j]? = some t → args[j]? = some v → Value.okWide Try.prog W .any base t v := hval0
  have hW' := hW
  obtain ⟨p, q, hA0, hV, rfl, hfz, hnd⟩ := hW
  have hA : DataW.TrodAll enc Try.prog W 0 (fun _ => true) true Try.f8.params.toList args.toList ds p := hA0
  rw [Try.params8] at hA hval
  obtain ⟨v0, vs0, d0, ds0, p0, q0, hargs, rfl, rfl, h0, r0⟩ := trodAll_cons hA
  obtain ⟨rfl, rfl, rfl⟩ := trodAll_nil r0
  obtain rfl : args = #[v0] := by cases args; simp_all
  obtain ⟨rfl, rfl⟩ := trodVars_none hV
  have lt0 : ∀ x ∈ p0, x.block < W.heap.size := by obtain ⟨m, hm⟩ := h0; exact DataW.trod_lt m _ _ _ hm
  have k0 := h0
  obtain ⟨a0, rfl, _, _, w0⟩ := open_string Try.underlying9 (hval 0 9 v0 rfl rfl) h0
  have z0 : a0.size ≤ 9223372036854775807 := by unfold maxLen at w0; exact w0
  clear hA0 hval0
  obtain ⟨t, rfl⟩ : ∃ t, a0 = str t := ⟨_, (str_of a0).symm⟩
  rw [str_size] at z0
  refine (walk t W z0).mono fun e W' ⟨he, bel⟩ => ?_
  subst he
  exact ⟨_, rfl, _, _, _, [], _, [], hW', trodAll_mk1 (shut_bool Try.underlying4 _), (trodAll_cons_mk (Below.trod laidOut (by kernel_rfl) (of_decide_eq_true (by kernel_rfl)) k0 bel lt0) trodAll_mk0), rfl, bel.frame _, fun h => by cases h⟩

theorem over : Rows.batchReadsRow.holds Try.pinned (OpenSpec.ofChange Rows.batchReadsSpec) :=
  OpenClaim.holds_of_wide 8 Try.f8 rfl rfl rfl rfl rfl rfl rfl ⟨rfl, rfl, rfl, rfl, rfl⟩ rfl rfl rfl rfl rfl (by kernel_rfl) Try.func8 (by kernel_rfl)
    (of_decide_eq_true (by kernel_rfl)) (by unfold Func.isWrapper; first | (rw [if_pos (by decide +kernel)]; kernel_rfl) | (rw [if_neg (by decide +kernel)]; exact ⟨rfl, rfl⟩))
    (fun os started H enc _ => lifted os started H enc)

/-- ████ THE STATEMENT ████ -/
theorem proved : Rows.BatchReadsSaid :=
  over
end Go.Proofs.Ytolningpngjhpaa.batchReads
