/- Operations that came in, opened. -/
import Derived.Test.YtolningpngjhpaaBa9
import Derived.Test.YtolningpngjhpaaRw
import Derived.Lib.SmallJoins
import Derived.WalkKit
import Derived.ProofKit
import Derived.OpenShut
import Derived.ShutString
import Derived.ChangeOld
import Derived.Below
import Derived.SizedLaws
namespace Go.Proofs.Ytolningpngjhpaa.Bat
open Go.ChangeShapes Go.WideShapes Go.ChangeAt Go.RowKit Go.Joins
open Go.ChangeMaps (open_string shut_string)
open Go.Proofs.YtolningpngjhpaaW.PrintWords
open Go.Proofs.Ytolningpngjhpaa.PBatchWrites (S66 k66 z66 rd_T66 at_T66 k66_mk k66_mkM k66_open S64 k64 info64 k64_mkM)
set_option linter.unusedVariables false

theorem ownKn : ownKnob Try.prog.godebug = none := by kernel_rfl
theorem laidOut : laidOutB Try.prog = true := by kernel_rfl
theorem u64_wf {n : Int} (h : (Lit.int .u64 n).wf = true) : 0 ≤ n ∧ n < 18446744073709551616 := by
  have h1 : IntKind.u64.min ≤ n ∧ n ≤ IntKind.u64.max := by simpa [Lit.wf] using h
  have h2 : IntKind.u64.min = 0 := by decide
  have h3 : IntKind.u64.max = 18446744073709551615 := by decide
  omega
theorem u16_wf {n : Int} (h : (Lit.int .u16 n).wf = true) : 0 ≤ n ∧ n < 65536 := by
  have h1 : IntKind.u16.min ≤ n ∧ n ≤ IntKind.u16.max := by simpa [Lit.wf] using h
  have h2 : IntKind.u16.min = 0 := by decide
  have h3 : IntKind.u16.max = 65535 := by decide
  omega
theorem open_ops {H : Type} {enc : TypeId × Value → H} {w : World} {base : Nat} {spare : Nat → Bool} {held : Bool} {A : Option Addr} {n c : Nat} {d : DataW H} {q : List MemPlace}
    (h : DataW.Trod enc Try.prog w base spare held 58 (.slice A n c) d q) : ∃ xs : List S66, xs.length = n ∧ n ≤ c ∧ c ≤ maxLen ∧ Kd.C k66 w A n xs ∧ ∀ x ∈ xs, WfO x := by
  obtain ⟨fuel, hf⟩ := h
  rcases Rw.open_slice_fields Try.underlying58 Try.underlying66 (by kernel_rfl) (by kernel_rfl) hf with ⟨hcs, _⟩ | ⟨a, len, cap, m, D, Pl, hcs, _, hl, hm, hmm, _, hi⟩
  · simp [Value.cells] at hcs
    obtain ⟨rfl, rfl, rfl⟩ := hcs
    refine ⟨[], rfl, Nat.le_refl _, Nat.zero_le _, ⟨rfl, by decide, fun h => by omega⟩, fun x hx => by cases hx⟩
  · simp [Value.cells] at hcs
    obtain ⟨rfl, rfl, rfl⟩ := hcs
    have hlm : n ≤ m := by rw [hmm]; split <;> omega
    have hx : ∀ i, i < n → ∃ x : S66, WfO x ∧ w.cell? (a.add (i * 3)) = some (.bool x.f0) ∧ w.cell? (a.add (i * 3 + 1)) = some (.string x.f1) ∧ w.cell? (a.add (i * 3 + 2)) = some (.string x.f2) := by
      intro i hin
      obtain ⟨ys, fu, _, _, _, hfi⟩ := hi i (by omega)
      obtain ⟨v0, y0, hc0, _, ht0⟩ := hfi 0 _ rfl
      obtain ⟨v1, y1, hc1, _, ht1⟩ := hfi 1 _ rfl
      obtain ⟨v2, y2, hc2, _, ht2⟩ := hfi 2 _ rfl
      obtain ⟨n0, e0, _⟩ := DataW.trod_bool (by kernel_rfl) ht0
      obtain ⟨n1, e1, _, wf1⟩ := DataW.trod_string (by kernel_rfl) ht1
      obtain ⟨n2, e2, _, wf2⟩ := DataW.trod_string (by kernel_rfl) ht2
      simp only [List.cons.injEq, and_true] at e0 e1 e2
      subst e0 e1 e2
      unfold maxLen at wf1 wf2
      exact ⟨⟨n0, n1, n2⟩, ⟨wf1, wf2⟩, hc0, hc1, hc2⟩
    let f : Nat → S66 := fun i => if h : i < n then (hx i h).choose else z66
    have hf' : ∀ i, i < n → WfO (f i) ∧ w.cell? (a.add (i * 3)) = some (.bool (f i).f0) ∧ w.cell? (a.add (i * 3 + 1)) = some (.string (f i).f1) ∧ w.cell? (a.add (i * 3 + 2)) = some (.string (f i).f2) := by
      intro i hin
      have := (hx i hin).choose_spec
      simp only [f, dif_pos hin]
      exact this
    refine ⟨(List.range n).map f, by simp, hl, hm, ?_, ?_⟩
    · have := C66_of_cells (w := w) (A := some a) (xs := (List.range n).map f) (by simp; unfold maxLen at hm; omega) (fun _ => ⟨a, rfl, fun j x hjx => by
        simp only [List.getElem?_map, Option.map_eq_some_iff] at hjx
        obtain ⟨i, hi1, rfl⟩ := hjx
        have hjn : j < n := by
          by_cases hj : j < n
          · exact hj
          · rw [List.getElem?_eq_none (by simp; omega)] at hi1; cases hi1
        rw [List.getElem?_range hjn] at hi1
        obtain rfl := Option.some.inj hi1
        exact (hf' _ hjn).2⟩)
      simpa using this
    · intro x hxm
      simp only [List.mem_map, List.mem_range] at hxm
      obtain ⟨i, hin, rfl⟩ := hxm
      exact (hf' i hin).1
end Go.Proofs.Ytolningpngjhpaa.Bat
