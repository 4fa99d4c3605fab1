/- bloom.May: what it tells, for every filter and key. -/
import Derived.Test.YtolningpngjhpaaBl1
namespace Go.Proofs.Ytolningpngjhpaa.Bloom
open Go.RowKit Go.Proofs.YtolningpngjhpaaW.PrintWords Go.Proofs.YtolningpngjhpaaW.PrintLast Go.Proofs.YtolningpngjhpaaW.PrintMore
open Go.Proofs.Ytolningpngjhpaa.PBloomFull
set_option linter.unusedVariables false

/-- Is a bit of a filter not set? -/
def clear (f : ByteArray) (b : Int) : Bool := Go.bits .and .u8 (bt f (b / 8) / 2 ^ (b % 8).toNat) 1 == 0
/-- Is a key's i-th bit not set? -/
def miss (f s : ByteArray) (i : Nat) : Bool := clear f (probe s (8 * (f.size : Int)) i)
/-- May a key be among a filter's? -/
def mayB (f s : ByteArray) : Bool := f.size == 0 || !(miss f s 0 || miss f s 1 || miss f s 2 || miss f s 3)

theorem may_empty (s : ByteArray) (w : World) : Calls Try.prog 13 #[.string ⟨#[]⟩, .string s] w fun e w' => e = .returned (.bool true) ∧ Below w.heap.size w w' := by
  go_enter Try.func13, Try.ntmps13
  go_wp2
  go_ret
  exact ⟨rfl, Below.refl _ _⟩

set_option maxHeartbeats 1000000 in
theorem may_full (f s : ByteArray) (w : World) (hs : s.size ≤ 140737488351232) (hf : f.size ≤ 140737488351232) (hf0 : f.toList.isEmpty = false) (hf1 : 0 < f.size) :
    Calls Try.prog 13 #[.string f, .string s] w fun e w' => e = .returned (.bool (mayB f s)) ∧ Below w.heap.size w w' := by
  have hp := probe_bd s (8 * (f.size : Int)) (by omega) (by omega)
  have p0 := hp 0
  have p1 := hp 1
  have p2 := hp 2
  have p3 := hp 3
  clear hp
  have i0 : ∀ (a b c d : Value) w, (Instr.index 75 (.agg #[a, b, c, d]) (.int .i64 0)).run Try.prog w = .ok a w := fun _ _ _ _ _ => by kernel_rfl
  have i1 : ∀ (a b c d : Value) w, (Instr.index 75 (.agg #[a, b, c, d]) (.int .i64 1)).run Try.prog w = .ok b w := fun _ _ _ _ _ => by kernel_rfl
  have i2 : ∀ (a b c d : Value) w, (Instr.index 75 (.agg #[a, b, c, d]) (.int .i64 2)).run Try.prog w = .ok c w := fun _ _ _ _ _ => by kernel_rfl
  have i3 : ∀ (a b c d : Value) w, (Instr.index 75 (.agg #[a, b, c, d]) (.int .i64 3)).run Try.prog w = .ok d w := fun _ _ _ _ _ => by kernel_rfl
  go_enter Try.func13, Try.ntmps13
  go_wp2_with (go_at_call 46; refine (probes_any _ _ _ hs (by omega) (by omega)).mono ?_; rintro e w1 ⟨rfl, hb⟩)
  have hb' : Below w.heap.size w w1 := hb
  clear hb
  go_rounds 5
  all_goals
    go_ret
    refine ⟨?_, hb'⟩
    clear hb' i0 i1 i2 i3 p0 p1 p2 p3
    have hne : f ≠ ByteArray.empty := by rintro rfl; simp at hf1
    simp only [bt_at] at *
    simp [mayB, miss, clear, *]
theorem may_any (f s : ByteArray) (w : World) (hs : s.size ≤ 140737488351232) (hf : f.size ≤ 140737488351232) :
    Calls Try.prog 13 #[.string f, .string s] w fun e w' => e = .returned (.bool (mayB f s)) ∧ Below w.heap.size w w' := by
  by_cases h : f.size = 0
  · have e : f = ⟨#[]⟩ := by
      cases f with | mk d => simp only [ByteArray.mk.injEq]; exact Array.eq_empty_of_size_eq_zero h
    subst e
    exact may_empty s w
  · refine may_full f s w hs hf ?_ (by omega)
    cases f with | mk d =>
      rw [ByteArray.toList_eq]
      have h' : d.size ≠ 0 := h
      cases d with | mk l =>
        cases l with
        | nil => simp at h'
        | cons a r => rfl
end Go.Proofs.Ytolningpngjhpaa.Bloom
