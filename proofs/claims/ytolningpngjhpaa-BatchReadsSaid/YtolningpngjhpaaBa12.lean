/- The reference's taken: a text at the beginning. -/
import Derived.Test.YtolningpngjhpaaBa11
import Derived.BigQuiet
import Derived.Deep.QuietTactic
namespace Go.Proofs.Ytolningpngjhpaa.Bat
open Go.RowKit Go.Proofs.YtolningpngjhpaaW.PrintWords Go.Proofs.YtolningpngjhpaaW.PrintLast Go.Proofs.YtolningpngjhpaaW.PrintMore
open Go.Proofs.Ytolningpngjhpaa.Nm
open Go.Proofs.Ytolningpngjhpaa.PColWrites (screeref01_Take.f screeref01_Take.calls)
open Go.Proofs.Ytolningpngjhpaa.PBatchWrites (S66 k66 z66 rd_T66 at_T66 k66_mk k66_mkM k66_open)
set_option linter.unusedVariables false
set_option linter.unusedSimpArgs false

theorem rtake_any (s : List UInt8) (w : World) (hs : s.length ≤ 9223372036854775807) :
    Calls Try.prog 70 #[.string (str s)] w fun e w' => e = .returned (match take s with | some (n, r) => .tuple #[.int .u64 (n : Int), .string (str r), .bool true] | none => .tuple #[.int .u64 0, .string ⟨#[]⟩, .bool false]) ∧ Below w.heap.size w w' := by
  refine (screeref01_Take.calls 40 (str s) _ _ _ w (rtake_f (str s) (by rw [str_size]; exact hs))).mono ?_
  rintro e w' ⟨rfl, hb⟩
  refine ⟨?_, hb⟩
  unfold tkN tkR tkB
  rw [str_list]
  cases take s with
  | none => rfl
  | some x => rfl

/-- A text at the beginning, and what follows. -/
def tkT (s : List UInt8) : Option (List UInt8 × List UInt8) := match take s with
  | some (n, r) => if n ≤ r.length then some (r.take n, r.drop n) else none
  | none => none
def tkV : Option (List UInt8 × List UInt8) → Value
  | some (k, r) => .tuple #[.string (str k), .string (str r), .bool true]
  | none => .tuple #[.string ⟨#[]⟩, .string ⟨#[]⟩, .bool false]
theorem tkT_iff (s k r : List UInt8) : tkT s = some (k, r) ↔ k.length < 2 ^ 64 ∧ s = txt k ++ r := by
  unfold tkT txt
  constructor
  · intro h
    split at h
    · next n q hq =>
      obtain ⟨h1, rfl⟩ := (take_iff _ _ _).1 hq
      split at h
      · next hle =>
        simp only [Option.some.injEq, Prod.mk.injEq] at h
        obtain ⟨rfl, rfl⟩ := h
        rw [List.length_take, Nat.min_eq_left hle]
        exact ⟨h1, by rw [List.append_assoc, List.take_append_drop]⟩
      · cases h
    · cases h
  · rintro ⟨h1, rfl⟩
    have : take (short k.length ++ (k ++ r)) = some (k.length, k ++ r) := (take_iff _ _ _).2 ⟨h1, rfl⟩
    rw [List.append_assoc, this]
    simp
theorem tkT_len {s k r : List UInt8} (h : tkT s = some (k, r)) : r.length ≤ s.length ∧ k.length ≤ s.length := by
  obtain ⟨_, rfl⟩ := (tkT_iff _ _ _).1 h
  unfold txt
  simp only [List.length_append]
  omega

set_option maxHeartbeats 4000000 in
set_option maxRecDepth 100000 in
theorem rtaken_any (s : List UInt8) (w : World) (hs : s.length ≤ 9223372036854775807) :
    Calls Try.prog 71 #[.string (str s)] w fun e w' => e = .returned (tkV (tkT s)) ∧ Below w.heap.size w w' := by
  obtain ⟨V, hV⟩ : ∃ V, V = tkV (tkT s) := ⟨_, rfl⟩
  rw [← hV]
  unfold tkT at hV
  cases hq : take s with
  | none =>
    rw [hq] at hV
    simp only [tkV] at hV
    subst hV
    have HS := Aside0.mk hs
    have HQ := Aside0.mk hq
    clear hs hq
    go_enter Try.func71, Try.ntmps71
    go_wp2_with fail
    refine (rtake_any s _ HS.out).mono ?_
    rintro e w1 ⟨rfl, hb⟩
    rw [HQ.out]
    have B1 := Aside0.mk hb
    clear hb
    simp only
    go_wp2_with fail
    refine bodyPost_ret (results_tmp3 rfl _ _ _) rfl ?_
    exact ⟨rfl, B1.out⟩
  | some x =>
    obtain ⟨n, r⟩ := x
    rw [hq] at hV
    obtain ⟨hn, he⟩ := (take_iff _ _ _).1 hq
    have hrl : r.length ≤ 9223372036854775807 := by
      have := congrArg List.length he
      rw [List.length_append] at this
      omega
    simp only at hV
    have hz : (str r).size = r.length := str_size r
    generalize hR : str r = R at hz
    by_cases hle : n ≤ r.length
    · rw [if_pos hle] at hV
      simp only [tkV] at hV
      have e1 : str (r.take n) = R.extract 0 n := data_inj (by rw [str_list, Lib.extract_data, ← hR, str_list]; simp)
      have e2 : str (r.drop n) = R.extract n R.size := data_inj (by rw [str_list, Lib.extract_to_end, ← hR, str_list])
      rw [e1, e2] at hV
      have hlt : decide (IntKind.u64.wrap (R.size : Int) < (n : Int)) = false := decide_eq_false (by rw [IntKind.wrap_u64]; omega)
      have hle2 : n ≤ R.size := by omega
      have hbb : R.size ≤ 9223372036854775807 := by omega
      have HV := Aside0.mk hV
      have HQ := Aside0.mk hq
      have HR := Aside0.mk hR
      have HS := Aside0.mk hs
      clear hV hq hR hs hn he hrl hz e1 e2 hle
      go_enter Try.func71, Try.ntmps71
      go_wp2_with fail
      refine (rtake_any s _ HS.out).mono ?_
      rintro e w1 ⟨rfl, hb⟩
      rw [HQ.out]
      simp only
      rw [HR.out]
      have B1 := Aside0.mk hb
      clear hb
      go_wp2_with fail
      refine wp_region_quiet_lit (by kernel_rfl) (by kernel_rfl) ?_
      repeat (first | go_big_quiet_step (fail) | quiet_step (fail))
      refine wpQuiet_nil ?_
      intro _ hw'
      obtain ⟨nq, hw''⟩ := hw'
      subst hw''
      go_wp2_with fail
      refine bodyPost_ret (results_tmp3 rfl _ _ _) rfl ?_
      exact ⟨by rw [HV.out]; rfl, pw_below_drewN B1.out _⟩
    · rw [if_neg hle] at hV
      simp only [tkV] at hV
      subst hV
      have hlt : decide (IntKind.u64.wrap (R.size : Int) < (n : Int)) = true := decide_eq_true (by rw [IntKind.wrap_u64]; omega)
      have HQ := Aside0.mk hq
      have HR := Aside0.mk hR
      have HS := Aside0.mk hs
      clear hq hR hs hn he hrl hz hle
      go_enter Try.func71, Try.ntmps71
      go_wp2_with fail
      refine (rtake_any s _ HS.out).mono ?_
      rintro e w1 ⟨rfl, hb⟩
      rw [HQ.out]
      simp only
      rw [HR.out]
      have B1 := Aside0.mk hb
      clear hb
      go_wp2_with fail
      refine bodyPost_ret (results_tmp3 rfl _ _ _) rfl ?_
      exact ⟨rfl, B1.out⟩
end Go.Proofs.Ytolningpngjhpaa.Bat
