/- col.checked for leases; col.Unlock and col.Unwrite. -/
import Derived.Test.YtolningpngjhpaaCo3
import Derived.Handy
import Derived.Outline
namespace Go.Proofs.Ytolningpngjhpaa.Col
open Go.RowKit Go.Proofs.YtolningpngjhpaaW.PrintWords Go.Proofs.YtolningpngjhpaaW.PrintLast Go.Proofs.YtolningpngjhpaaW.PrintMore
open Go.Proofs.Ytolningpngjhpaa.Nm Go.Proofs.Ytolningpngjhpaa.PColWrites
set_option linter.unusedVariables false
set_option linter.unusedSimpArgs false

theorem leasesM_cases (xs : List S78) : (∃ b, leasesM xs = (b, 0)) ∨ leasesM xs = (⟨#[]⟩, 2) := by
  unfold leasesM
  split
  · exact .inr rfl
  · cases lzFrom xs xs.length 0 ⟨#[]⟩ with
    | none => exact .inr rfl
    | some s => exact .inl ⟨s, rfl⟩

set_option maxHeartbeats 4000000 in
set_option maxRecDepth 100000 in
theorem checkedLease_any (A0 : Option Addr) (c0 : Nat) (xs : List S78) (s : ByteArray) (w : World) (hr : Kd.C k78 w A0 xs.length xs) (hc : xs.length ≤ c0) (hw : ∀ x ∈ xs, Wf x) :
    Calls Try.prog 57 #[.slice A0 xs.length c0, .string s, fnV 23] w fun e w' =>
      e = .returned (if leasesM xs = (s, 0) then .tuple #[.slice A0 xs.length c0, .int .i64 0] else .tuple #[.slice none 0 0, .int .i64 2]) ∧ Below w.heap.size w w' := by
  obtain ⟨kk, hl⟩ := leases_f xs hw
  have HR := Aside0.mk hr
  clear hr hw
  rcases leasesM_cases xs with ⟨b, hb⟩ | hb
  · rw [hb] at hl ⊢
    have HL := Aside0.mk hl
    clear hl hb
    by_cases hs : b = s
    · subst hs
      rw [if_pos rfl]
      go_enter Try.func57, Try.ntmps57
      go_wp2_with (go_at_call 23; refine (col_Leases.calls kk A0 c0 xs _ _ _ HR.out hc HL.out).mono ?_; rintro e w1 ⟨rfl, hb1⟩)
      refine bodyPost_ret (v := .tuple #[.slice A0 xs.length c0, .int .i64 0]) ?_ rfl ⟨?_, ?_⟩
      · simp [results, Try.results57, go_sem, *]
      · rfl
      · exact hb1
    · have hne : (b.toList == s.toList) = false := by rw [beq_eq_false_iff_ne]; intro h; exact hs (toList_inj h)
      rw [if_neg (by intro h; simp at h; exact hs h)]
      go_enter Try.func57, Try.ntmps57
      go_wp2_with (go_at_call 23; refine (col_Leases.calls kk A0 c0 xs _ _ _ HR.out hc HL.out).mono ?_; rintro e w1 ⟨rfl, hb1⟩)
      refine bodyPost_ret (v := .tuple #[.slice none 0 0, .int .i64 2]) ?_ rfl ⟨?_, ?_⟩
      · simp [results, Try.results57, go_sem, *]
      · rfl
      · exact hb1
  · rw [hb] at hl ⊢
    have HL := Aside0.mk hl
    clear hl hb
    rw [if_neg (by intro h; simp at h)]
    go_enter Try.func57, Try.ntmps57
    go_wp2_with (go_at_call 23; refine (col_Leases.calls kk A0 c0 xs _ _ _ HR.out hc HL.out).mono ?_; rintro e w1 ⟨rfl, hb1⟩)
    refine bodyPost_ret (v := .tuple #[.slice none 0 0, .int .i64 2]) ?_ rfl ⟨?_, ?_⟩
    · simp [results, Try.results57, go_sem, *]
    · rfl
    · exact hb1
end Go.Proofs.Ytolningpngjhpaa.Col
