/- Contracts of the column family's functions, in plain words. -/
import Derived.Test.YtolningpngjhpaaCo9
namespace Go.Proofs.Ytolningpngjhpaa.Col
open Go.RowKit Go.Proofs.YtolningpngjhpaaW.PrintWords Go.Proofs.YtolningpngjhpaaW.PrintLast Go.Proofs.YtolningpngjhpaaW.PrintMore
open Go.Proofs.Ytolningpngjhpaa.Nm Go.Proofs.Ytolningpngjhpaa.PColWrites
set_option linter.unusedVariables false
set_option linter.unusedSimpArgs false

def pairV (r : ByteArray × Int) : Value := .tuple #[.string r.1, .int .i64 r.2]
theorem lock_any (p : ByteArray) (st k at_ : Int) (w : World) (h0 : 0 ≤ st) (h1 : st < 18446744073709551616) (ha0 : 0 ≤ at_) (ha1 : at_ < 18446744073709551616) :
    Calls Try.prog 19 #[.agg #[.string p, .int .u64 st, .int .i64 k, .int .u64 at_]] w fun e w' => e = .returned (pairV (lockM p st k at_)) ∧ Below w.heap.size w w' :=
  col_Lock.calls 11 p st k at_ _ _ w (lock_f p st k at_ h0 h1 ha0 ha1)
theorem rlock_any (p : ByteArray) (st k at_ : Int) (w : World) (h0 : 0 ≤ st) (h1 : st < 18446744073709551616) (ha0 : 0 ≤ at_) (ha1 : at_ < 18446744073709551616) :
    Calls Try.prog 20 #[.agg #[.string p, .int .u64 st, .int .i64 k, .int .u64 at_]] w fun e w' => e = .returned (pairV (lockM p st k at_)) ∧ Below w.heap.size w w' :=
  screeref15_Lock.calls 11 p st k at_ _ _ w (rlock_f p st k at_ h0 h1 ha0 ha1)
theorem write_any (st k : Int) (w : World) (h0 : 0 ≤ st) (h1 : st < 18446744073709551616) :
    Calls Try.prog 21 #[.agg #[.int .u64 st, .int .i64 k]] w fun e w' => e = .returned (pairV (writeM st k)) ∧ Below w.heap.size w w' :=
  col_Write.calls 10 st k _ _ w (write_f st k h0 h1)
theorem rwrite_any (st k : Int) (w : World) (h0 : 0 ≤ st) (h1 : st < 18446744073709551616) :
    Calls Try.prog 22 #[.agg #[.int .u64 st, .int .i64 k]] w fun e w' => e = .returned (pairV (writeM st k)) ∧ Below w.heap.size w w' :=
  screeref15_Write.calls 10 st k _ _ w (rwrite_f st k h0 h1)
theorem leases_any (A0 : Option Addr) (c0 : Nat) (xs : List S78) (w : World) (hr : Kd.C k78 w A0 xs.length xs) (hc : xs.length ≤ c0) (hw : ∀ x ∈ xs, Wf x) :
    Calls Try.prog 23 #[.slice A0 xs.length c0] w fun e w' => e = .returned (pairV (leasesM xs)) ∧ Below w.heap.size w w' := by
  obtain ⟨k, h⟩ := leases_f xs hw
  exact col_Leases.calls k A0 c0 xs _ _ w hr hc h
theorem rleases_any (A0 : Option Addr) (c0 : Nat) (xs : List S78) (w : World) (hr : Kd.C k81 w A0 xs.length (xs.map own1)) (hc : xs.length ≤ c0) (hw : ∀ x ∈ xs, Wf x) :
    Calls Try.prog 24 #[.slice A0 xs.length c0] w fun e w' => e = .returned (pairV (leasesM xs)) ∧ Below w.heap.size w w' := by
  obtain ⟨k, h⟩ := rleases_f xs hw
  have h1 := screeref15_Leases.calls k A0 c0 (xs.map own1) _ _ w (by rw [List.length_map]; exact hr) (by rw [List.length_map]; exact hc) h
  rw [List.length_map] at h1
  exact h1
theorem own_any (A0 : Option Addr) (c0 : Nat) (xs : List S78) (w : World) (hr : Kd.C k78 w A0 xs.length xs) (hc : xs.length ≤ c0) (hl : xs.length ≤ 40) :
    Calls Try.prog 25 #[.slice A0 xs.length c0] w fun e w' => ∃ v, e = .returned v ∧ Kd.R k81 81 w' w.heap.size (fun _ => True) v (xs.map own1) ∧ Below w.heap.size w w' :=
  screelaw15_own.calls (xs.length + 1) A0 c0 xs _ w hr hc (own_f xs hl)
theorem call_lock_1 (w : World) : Calls Try.prog 19 #[.agg #[.string ⟨#[97, 98]⟩, .int .u64 300, .int .i64 1, .int .u64 7]] w fun e w' => e = .returned (.tuple #[.string ⟨#[1, 172, 2, 7, 97, 98]⟩, .int .i64 0]) ∧ Below w.heap.size w w' := by
  have h := lock_any ⟨#[97, 98]⟩ 300 1 7 w (by decide) (by decide) (by decide) (by decide)
  rw [lock_1] at h
  exact h
theorem call_lock_0 (w : World) : Calls Try.prog 19 #[.agg #[.string ⟨#[]⟩, .int .u64 0, .int .i64 0, .int .u64 0]] w fun e w' => e = .returned (.tuple #[.string ⟨#[]⟩, .int .i64 2]) ∧ Below w.heap.size w w' := by
  have h := lock_any ⟨#[]⟩ 0 0 0 w (by decide) (by decide) (by decide) (by decide)
  rw [lock_0] at h
  exact h
theorem call_unlock_1 (w : World) : Calls Try.prog 26 #[.string ⟨#[1, 172, 2, 7, 97, 98]⟩] w fun e w' => e = .returned (.tuple #[.agg #[.string ⟨#[97, 98]⟩, .int .u64 300, .int .i64 1, .int .u64 7], .int .i64 0]) ∧ Below w.heap.size w w' := by
  have h := unlock_any ⟨#[1, 172, 2, 7, 97, 98]⟩ w (by decide)
  rw [unlock_1] at h
  exact h
theorem call_write_1 (w : World) : Calls Try.prog 21 #[.agg #[.int .u64 5, .int .i64 3]] w fun e w' => e = .returned (.tuple #[.string ⟨#[3, 5]⟩, .int .i64 0]) ∧ Below w.heap.size w w' := by
  have h := write_any 5 3 w (by decide) (by decide)
  rw [write_1] at h
  exact h
theorem call_unwrite_1 (w : World) : Calls Try.prog 28 #[.string ⟨#[3, 5]⟩] w fun e w' => e = .returned (.tuple #[.agg #[.int .u64 5, .int .i64 3], .int .i64 0]) ∧ Below w.heap.size w w' := by
  have h := unwrite_any ⟨#[3, 5]⟩ w (by decide)
  rw [unwrite_1] at h
  exact h
theorem call_unwrite_0 (w : World) : Calls Try.prog 28 #[.string ⟨#[]⟩] w fun e w' => e = .returned (.tuple #[.agg #[.int .u64 0, .int .i64 0], .int .i64 2]) ∧ Below w.heap.size w w' := by
  have h := unwrite_any ⟨#[]⟩ w (by decide)
  rw [unwrite_0] at h
  exact h
def two8 : List S78 := [⟨1, 2, 3⟩, ⟨4, 2, 300⟩]
theorem two8_wf : ∀ x ∈ two8, Wf x := by
  intro x hx
  rcases List.mem_cons.1 hx with rfl | hx
  · exact ⟨⟨by decide, by decide⟩, ⟨by decide, by decide⟩, by decide, by decide⟩
  · rw [List.mem_singleton.1 hx]
    exact ⟨⟨by decide, by decide⟩, ⟨by decide, by decide⟩, by decide, by decide⟩
theorem call_leases_1 (A : Option Addr) (c : Nat) (w : World) (hr : Kd.C k78 w A 2 two8) (hc : 2 ≤ c) : Calls Try.prog 23 #[.slice A 2 c] w fun e w' => e = .returned (.tuple #[.string ⟨#[1, 2, 3, 4, 2, 172, 2]⟩, .int .i64 0]) ∧ Below w.heap.size w w' := by
  have h := leases_any A c two8 w hr hc two8_wf
  rw [show leasesM two8 = _ from leases_1] at h
  exact h
theorem call_unlease_1 (w : World) : Calls Try.prog 30 #[.string ⟨#[1, 2, 3, 4, 2, 172, 2]⟩] w fun e w' => ∃ v, e = .returned (.tuple #[v, .int .i64 0]) ∧ Kd.R k78 78 w' w.heap.size (fun _ => True) v two8 ∧ Below w.heap.size w w' := by
  have h := unlease_any ⟨#[1, 2, 3, 4, 2, 172, 2]⟩ w (by decide)
  rw [unlease_1] at h
  exact h
end Go.Proofs.Ytolningpngjhpaa.Col
