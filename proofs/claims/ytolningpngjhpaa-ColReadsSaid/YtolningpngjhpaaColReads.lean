/- screelaw15.ColReads answers true for every string: no condition. -/
import Derived.Test.YtolningpngjhpaaRows
import Derived.Test.YtolningpngjhpaaCo12
import Derived.Test.YtolningpngjhpaaCo16
import Derived.Test.YtolningpngjhpaaPost
import Derived.WalkKit
import Derived.ProofKit
import Derived.OpenShut
import Derived.ShutString
import Derived.Handy
import Derived.Outline
namespace Go.Proofs.Ytolningpngjhpaa.colReads
open Go.ChangeShapes Go.WideShapes Go.ChangeAt Go.RowKit
open Go.ChangeMaps (open_string shut_string)
open Go.Proofs.YtolningpngjhpaaW.PrintWords Go.Proofs.YtolningpngjhpaaW.PrintLast Go.Proofs.YtolningpngjhpaaW.PrintMore
open Go.Proofs.Ytolningpngjhpaa.Col Go.Proofs.Ytolningpngjhpaa.PColWrites Go.Proofs.Ytolningpngjhpaa.Nm
set_option linter.unusedVariables false
set_option linter.unusedSimpArgs false

theorem own : ownKnob Try.prog.godebug = none := by kernel_rfl
theorem eqA37 (d : Nat) (w : World) (x0 y0 : ByteArray) (x1 y1 x2 y2 x3 y3 : Int) :
    (Op.equalIn (d + 2) 37 (.agg #[.string x0, .int .u64 x1, .int .i64 x2, .int .u64 x3]) (.agg #[.string y0, .int .u64 y1, .int .i64 y2, .int .u64 y3])).run Try.prog w = .ok (x0.toList == y0.toList && (x1 == y1 && (x2 == y2 && (x3 == y3)))) w := by
  refine eqA_of Try.underlying37 (by kernel_rfl) ?_
  refine eqf_cons (by rfl) (by go_simp; rfl) (by go_simp; rfl) (by go_simp) ?_
  refine eqf_cons (by rfl) (by go_simp; rfl) (by go_simp; rfl) (by go_simp) ?_
  refine eqf_cons (by rfl) (by go_simp; rfl) (by go_simp; rfl) (by go_simp) ?_
  exact eqf_last (by rfl) (by go_simp; rfl) (by go_simp; rfl) (by go_simp)
theorem eqA39 (d : Nat) (w : World) (x0 y0 : Int) (x1 y1 : Int) :
    (Op.equalIn (d + 2) 39 (.agg #[.int .u64 x0, .int .i64 x1]) (.agg #[.int .u64 y0, .int .i64 y1])).run Try.prog w = .ok (x0 == y0 && (x1 == y1)) w := by
  refine eqA_of Try.underlying39 (by kernel_rfl) ?_
  refine eqf_cons (by rfl) (by go_simp; rfl) (by go_simp; rfl) (by go_simp) ?_
  exact eqf_last (by rfl) (by go_simp; rfl) (by go_simp; rfl) (by go_simp)
attribute [local go_sem high] eqA37 eqA39

theorem lockV_form (o : Option (ByteArray × Nat × Nat × Nat)) : ∃ (P : ByteArray) (A K B E : Int), lockV o = .tuple #[.agg #[.string P, .int .u64 A, .int .i64 K, .int .u64 B], .int .i64 E] := by
  cases o with
  | none => exact ⟨_, _, _, _, _, rfl⟩
  | some x => exact ⟨_, _, _, _, _, rfl⟩
theorem writeV_form (o : Option (Nat × Nat)) : ∃ (A K E : Int), writeV o = .tuple #[.agg #[.int .u64 A, .int .i64 K], .int .i64 E] := by
  cases o with
  | none => exact ⟨_, _, _, rfl⟩
  | some x => exact ⟨_, _, _, rfl⟩
theorem unlz_len : ∀ (d : Nat) (s : List UInt8) (acc xs : List S78), unlzFrom d s acc = some xs → xs.length ≤ acc.length + d := by
  intro d
  induction d with
  | zero =>
    intro s acc xs h
    simp only [unlzFrom, Option.some.injEq] at h
    rw [h]
    omega
  | succ d ih =>
    intro s acc xs h
    simp only [unlzFrom] at h
    split at h
    · simp only [Option.some.injEq] at h
      rw [h]
      omega
    · split at h
      · cases h
      · have := ih _ _ _ h
        simp at this
        omega
theorem unlease_len (s : ByteArray) : ((unleaseM s).getD []).length ≤ 6 := by
  unfold unleaseM
  split
  · simp
  · rename_i xs h
    have := unlz_len _ _ _ _ h
    split
    · simpa using this
    · simp

set_option maxHeartbeats 4000000 in
set_option maxRecDepth 100000 in
theorem walk (s : ByteArray) (w : World) (hz : s.size ≤ 9223372036854775807) :
    Calls Try.prog 6 #[.string s] w fun e w' => e = .returned (.bool true) ∧ Below w.heap.size w w' := by
  by_cases hs : s.size ≤ 1024
  · have d0 : decide ((1024 : Int) < (s.size : Int)) = false := decide_eq_false (by omega)
    obtain ⟨P, A, K, B, E, hL⟩ := lockV_form (unlockM s)
    obtain ⟨A2, K2, E2, hM⟩ := writeV_form (unwriteM s)
    have hlen := unlease_len s
    obtain ⟨xs, hxs⟩ : ∃ xs, xs = (unleaseM s).getD [] := ⟨_, rfl⟩
    rw [← hxs] at hlen
    obtain ⟨E3, hE3⟩ : ∃ E3, E3 = errI (unleaseM s) := ⟨_, rfl⟩
    have HL := Aside0.mk hL
    have HM := Aside0.mk hM
    have HX := Aside0.mk hxs
    have HE := Aside0.mk hE3
    have HZ := Aside0.mk hz
    clear hL hM hxs hE3 hz
    go_enter Try.func6, Try.ntmps6
    go_wp2_with fail
    refine (awake_any _).mono ?_
    rintro e w1 ⟨rfl, hb⟩
    have BB1 := Aside0.mk hb
    clear hb
    go_wp2_with fail
    refine (unlock_any s _ HZ.out).mono ?_
    rintro e w2 ⟨rfl, hb⟩
    have BB2 := Aside0.mk (below_then BB1.out BB1.out.size hb)
    rw [HL.out]
    clear hb BB1
    go_wp2_with fail
    refine (runlock_any s _ HZ.out).mono ?_
    rintro e w3 ⟨rfl, hb⟩
    have BB3 := Aside0.mk (below_then (below_alloc BB2.out _) (by have := BB2.out.size; simp; omega) hb)
    have H3 := (Held.new w2 #[.string P, .int .u64 A, .int .i64 K, .int .u64 B] 37).below hb
    rw [HL.out]
    have q0 : w3.cell? ⟨w2.heap.size, 0, none⟩ = some (.string P) := H3.1 0
    have q1 : w3.cell? ⟨w2.heap.size, 1, none⟩ = some (.int .u64 A) := H3.1 1
    have q2 : w3.cell? ⟨w2.heap.size, 2, none⟩ = some (.int .i64 K) := H3.1 2
    have q3 : w3.cell? ⟨w2.heap.size, 3, none⟩ = some (.int .u64 B) := H3.1 3
    have ql : w2.heap.size < w3.heap.size := H3.2
    clear hb BB2 H3
    go_wp2_with fail
    refine (unwrite_any s _ HZ.out).mono ?_
    rintro e w4 ⟨rfl, hb⟩
    have BB4 := Aside0.mk (below_then (below_alloc BB3.out _) (by have := BB3.out.size; simp; omega) hb)
    rw [HM.out]
    clear hb BB3 q0 q1 q2 q3 ql
    go_wp2_with fail
    refine (runwrite_any s _ HZ.out).mono ?_
    rintro e w5 ⟨rfl, hb⟩
    have BB5 := Aside0.mk (below_then (below_alloc BB4.out _) (by have := BB4.out.size; simp; omega) hb)
    have H3 := (Held.new w4 #[.int .u64 A2, .int .i64 K2] 39).below hb
    rw [HM.out]
    have q0 : w5.cell? ⟨w4.heap.size, 0, none⟩ = some (.int .u64 A2) := H3.1 0
    have q1 : w5.cell? ⟨w4.heap.size, 1, none⟩ = some (.int .i64 K2) := H3.1 1
    have ql : w4.heap.size < w5.heap.size := H3.2
    clear hb BB4 H3
    go_wp2_with fail
    refine (unlease_any s _ HZ.out).mono ?_
    rintro e w6 ⟨v6, rfl, hR, hb⟩
    have BB6 := Aside0.mk (below_then (below_alloc BB5.out _) (by have := BB5.out.size; simp; omega) hb)
    rw [← HX.out] at hR
    rw [← HE.out]
    obtain ⟨C6, c6, rfl, hc6, hC6⟩ := Kd.R_reads hR
    have HC6 := Aside0.mk hC6
    clear hb BB5 hR hC6 q0 q1 ql
    go_wp2_with fail
    refine (runlease_any s _ HZ.out).mono ?_
    rintro e w7 ⟨v7, rfl, hR, hb⟩
    have BB7 := Aside0.mk (below_then BB6.out BB6.out.size hb)
    rw [← HX.out] at hR
    rw [← HE.out]
    obtain ⟨C7, c7, rfl, hc7, hC7⟩ := Kd.R_reads hR
    rw [List.length_map] at hc7 hC7
    rw [List.length_map]
    have HC7 := Aside0.mk hC7
    have HC8 := Aside0.mk (Kd.C_below HC6.out hb)
    clear hb BB6 hR hC7 HC6
    go_wp2_with fail
    refine (own_any C6 c6 xs _ HC8.out hc6 (by omega)).mono ?_
    rintro e w8 ⟨v8, rfl, hR, hb⟩
    have BB8 := Aside0.mk (below_then BB7.out BB7.out.size hb)
    obtain ⟨C9, c9, rfl, hc9, hC9⟩ := Kd.R_reads hR
    have HC9 := Aside0.mk hC9
    have HC10 := Aside0.mk (Kd.C_below HC7.out hb)
    clear hb BB7 hR hC9 HC7 HC8
    go_wp2_with fail
    have hsm := screeref15_Same.calls ((xs.map own1).length + 1) C9 c9 (xs.map own1) C7 c7 (xs.map own1) true w8 HC9.out hc9 (by rw [List.length_map]; exact HC10.out) (by rw [List.length_map]; exact hc7) (same_f _ (by rw [List.length_map]; omega))
    rw [List.length_map] at hsm
    have HS := Aside0.mk hsm
    clear hsm
    refine HS.out.mono ?_
    rintro e w9 ⟨rfl, hd⟩
    have BB9 := Aside0.mk (below_then BB8.out BB8.out.size hd.below)
    clear hd
    go_wp2_with fail
    go_ret
    exact ⟨rfl, BB9.out⟩
  · have d0 : decide ((1024 : Int) < (s.size : Int)) = true := decide_eq_true (by omega)
    go_enter Try.func6, Try.ntmps6
    go_wp2_with fail
    refine (awake_any _).mono ?_
    rintro e w1 ⟨rfl, hb⟩
    go_wp2_with fail
    go_ret
    exact ⟨rfl, hb⟩

set_option maxRecDepth 100000 in
theorem lifted (os : Os) (started : os.Started) (H : Type) (enc : TypeId × Value → H) :
    ReturnsInHanded {} Try.checked os 6 .any (Rows.colReadsSpec.pre6 enc Try.prog Try.f6 Rows.colReadsRow.domain false) (Rows.colReadsSpec.post enc Try.prog Try.f6 false true false false) := by
  refine returnsInHanded_of_change (C := Try.checked) own started (by kernel_rfl) Try.func6
    (ChangeSpec.witness6 (enc := enc) (C := Try.checked) false ⟨#[], #[.string ByteArray.empty], []⟩ 8 (by kernel_rfl) (by kernel_rfl) (by kernel_rfl) (by kernel_rfl)) ?_
  intro W base args ds gs before hval0 hW hcnd _
  have hval : ∀ (j : Nat) t v, Try.f6.params[j]? = some t → args[j]? = some v → Value.okWide Try.prog W .any base t v := hval0
  have hW' := hW
  obtain ⟨p, q, hA0, hV, rfl, hfz, hnd⟩ := hW
  have hA : DataW.TrodAll enc Try.prog W 0 (fun _ => true) true Try.f6.params.toList args.toList ds p := hA0
  rw [Try.params6] at hA hval
  obtain ⟨v0, vs0, d0, ds0, p0, q0, hargs, rfl, rfl, h0, r0⟩ := trodAll_cons hA
  obtain ⟨rfl, rfl, rfl⟩ := trodAll_nil r0
  obtain rfl : args = #[v0] := by cases args; simp_all
  obtain ⟨rfl, rfl⟩ := trodVars_none hV
  obtain ⟨a0, rfl, rfl, rfl, w0⟩ := open_string Try.underlying9 (hval 0 9 v0 rfl rfl) h0
  clear hA0 hval0
  simp only [List.append_nil] at hW'
  have hz : a0.size ≤ 9223372036854775807 := by unfold maxLen at w0; exact w0
  refine (walk a0 W hz).mono fun e W' ⟨he, hg⟩ => ?_
  subst he
  exact ⟨_, rfl, Post.post_of_below (pa := []) (pv := []) hW' (fun _ _ _ => (trodAll_cons_mk (shut_bool Try.underlying4 _) trodAll_mk0)) (fun sp _ => (trodAll_cons_mk (shut_string Try.underlying9 w0) trodAll_mk0)) (fun _ _ => rfl) rfl
    hg (fun _ _ _ ht hr => (ok_one (by kernel_rfl) rfl (okWide_bool_mk Try.underlying4 _)) _ _ _ ht hr)⟩

theorem over : Rows.colReadsRow.holds Try.pinned (OpenSpec.ofChange Rows.colReadsSpec) :=
  OpenClaim.holds_of_wide 6 Try.f6 rfl rfl rfl rfl rfl rfl rfl ⟨rfl, rfl, rfl, rfl, rfl⟩ rfl rfl rfl rfl rfl (by kernel_rfl) Try.func6 (by kernel_rfl)
    (of_decide_eq_true (by kernel_rfl)) (by unfold Func.isWrapper; first | (rw [if_pos (by decide +kernel)]; kernel_rfl) | (rw [if_neg (by decide +kernel)]; exact ⟨rfl, rfl⟩))
    (fun os started H enc _ => lifted os started H enc)

/-- ████ THE STATEMENT ████ -/
theorem proved : Rows.ColReadsSaid :=
  over
end Go.Proofs.Ytolningpngjhpaa.colReads
