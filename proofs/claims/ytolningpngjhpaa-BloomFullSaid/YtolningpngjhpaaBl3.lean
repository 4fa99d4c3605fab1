/- bloom.Bits: what it tells, for every key and number. -/
import Derived.Test.YtolningpngjhpaaBl2
import Derived.Laws.CopyRow
import Derived.Deep.WholeRow
namespace Go.Proofs.Ytolningpngjhpaa.Bloom
open Go.RowKit Go.Proofs.YtolningpngjhpaaW.PrintWords Go.Proofs.YtolningpngjhpaaW.PrintLast Go.Proofs.YtolningpngjhpaaW.PrintMore
open Go.Proofs.Ytolningpngjhpaa.PBloomFull
set_option linter.unusedVariables false

theorem copy4 (w1 : World) (a b c d : Int) : (Builtin.copy_ #[33, 33] 3 #[.slice (some ⟨w1.heap.size + 1, 0, none⟩) 4 4, .slice (some ⟨w1.heap.size, 0, none⟩) 4 4]).run Try.prog
      ((w1.alloc (.cells #[.int .i64 a, .int .i64 b, .int .i64 c, .int .i64 d] 75)).alloc (.cells #[.int .i64 0, .int .i64 0, .int .i64 0, .int .i64 0] 3)) =
    .ok (.int .i64 4) ((w1.alloc (.cells #[.int .i64 a, .int .i64 b, .int .i64 c, .int .i64 d] 75)).alloc (.cells #[.int .i64 a, .int .i64 b, .int .i64 c, .int .i64 d] 3)) := by
  have hg : ((w1.alloc (.cells #[.int .i64 a, .int .i64 b, .int .i64 c, .int .i64 d] 75)).alloc (.cells #[.int .i64 0, .int .i64 0, .int .i64 0, .int .i64 0] 3)).heap[w1.heap.size + 1]? = some (.cells #[.int .i64 0, .int .i64 0, .int .i64 0, .int .i64 0] 3 (0, 0)) := by
    have := heap_alloc_new (w1.alloc (.cells #[.int .i64 a, .int .i64 b, .int .i64 c, .int .i64 d] 75)) (.cells #[.int .i64 0, .int .i64 0, .int .i64 0, .int .i64 0] 3)
    simpa using this
  have h := run_copy_row (P := Try.prog) _ 33 33 3 3 (w1.heap.size + 1) 0 4 4 ⟨w1.heap.size, 0, none⟩ 4 4 _ 3 [.int .i64 a, .int .i64 b, .int .i64 c, .int .i64 d] Try.underlying33 (by kernel_rfl) hg rfl ?_ (by simp) (by simp [Value.oneCell'])
  · rw [h]
    have e := World.setRow_alloc_new (w1.alloc (.cells #[.int .i64 a, .int .i64 b, .int .i64 c, .int .i64 d] 75)) #[.int .i64 0, .int .i64 0, .int .i64 0, .int .i64 0] #[.int .i64 a, .int .i64 b, .int .i64 c, .int .i64 d] 3
    simp only [World.size_alloc] at e
    simp only [List.length_cons, List.length_nil]
    congr 1
  · intro j v hv
    rw [add_plain, World.cell?_alloc_lt _ _ _ (by simp), World.cell?_alloc_new]
    rw [← hv]
    simp

set_option maxHeartbeats 1000000 in
set_option maxRecDepth 100000 in
theorem bits_any (s : ByteArray) (n : Int) (w : World) (hs : s.size ≤ 140737488351232) (h0 : 0 < n) (h1 : n < 9223372036854775808) :
    Calls Try.prog 17 #[.string s, .int .i64 n] w fun e w' => ∃ g, e = .returned (.slice (some ⟨g, 0, none⟩) 4 4) ∧ w.heap.size ≤ g ∧ g < w'.heap.size ∧ (∀ i : Nat, i < 4 → w'.cell? ⟨g, i, none⟩ = some (.int .i64 (probe s n i))) ∧ Below w.heap.size w w' := by
  have hmk : ∀ w, (Instr.makeSlice 33 (.int .i64 4) (.int .i64 4)).run Try.prog w = .ok (.slice (some ⟨w.heap.size, 0, none⟩) 4 4) (w.alloc (.cells #[.int .i64 0, .int .i64 0, .int .i64 0, .int .i64 0] 3)) := fun _ => by kernel_rfl
  have kcp := copy4
  go_enter Try.func17, Try.ntmps17
  go_wp2_with (go_at_call 46; refine (probes_any _ _ _ hs (by omega) (by omega)).mono ?_; rintro e w1 ⟨rfl, hb⟩)
  go_ret
  refine ⟨w1.heap.size + 1, rfl, by have := hb.size; omega, by simp, ?_, (hb.alloc (by have := hb.size; omega) _).alloc (by have := hb.size; simp; omega) _⟩
  intro i hi
  have e := World.cell?_alloc_new (w := w1.alloc (.cells #[.int .i64 (probe s n 0), .int .i64 (probe s n 1), .int .i64 (probe s n 2), .int .i64 (probe s n 3)] 75)) #[.int .i64 (probe s n 0), .int .i64 (probe s n 1), .int .i64 (probe s n 2), .int .i64 (probe s n 3)] 3 i
  simp only [World.size_alloc] at e
  rw [e]
  match i, hi with
  | 0, _ => rfl
  | 1, _ => rfl
  | 2, _ => rfl
  | 3, _ => rfl
end Go.Proofs.Ytolningpngjhpaa.Bloom
