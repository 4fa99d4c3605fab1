/- The answers that awake asks for, closed. -/
import Derived.Test.YtolningpngjhpaaCo8
namespace Go.Proofs.Ytolningpngjhpaa.Col
open Go.RowKit Go.Proofs.YtolningpngjhpaaW.PrintWords Go.Proofs.YtolningpngjhpaaW.PrintLast Go.Proofs.YtolningpngjhpaaW.PrintMore
open Go.Proofs.Ytolningpngjhpaa.Nm Go.Proofs.Ytolningpngjhpaa.PColWrites
set_option linter.unusedVariables false
set_option linter.unusedSimpArgs false

theorem short_300 : short 300 = [172, 2] := by rw [short_ge _ (by decide), short_lt _ (by decide)]; decide
theorem sh_300 : sh 300 = ⟨#[172, 2]⟩ := by unfold sh; rw [show (300 : Int).toNat = 300 from rfl, short_300]; rfl
theorem sh_lt (x : Int) (h : x.toNat < 128) : sh x = ⟨#[x.toNat.toUInt8]⟩ := by unfold sh; rw [short_lt _ h]; rfl
theorem lock_1 : lockM ⟨#[97, 98]⟩ 300 1 7 = (⟨#[1, 172, 2, 7, 97, 98]⟩, 0) := by
  unfold lockM
  rw [if_pos (by decide +kernel), sh_300, sh_lt 7 (by decide)]
  decide +kernel
theorem lock_0 : lockM ⟨#[]⟩ 0 0 0 = (⟨#[]⟩, 2) := by
  unfold lockM
  rw [if_neg (by decide +kernel)]
theorem write_1 : writeM 5 3 = (⟨#[3, 5]⟩, 0) := by
  unfold writeM
  rw [if_pos (by decide +kernel), sh_lt 5 (by decide)]
  decide +kernel
theorem leases_1 : leasesM [⟨1, 2, 3⟩, ⟨4, 2, 300⟩] = (⟨#[1, 2, 3, 4, 2, 172, 2]⟩, 0) := by
  unfold leasesM
  rw [if_neg (by decide)]
  simp only [List.length_cons, List.length_nil, lzFrom]
  rw [if_neg (by decide +kernel), if_neg (by decide +kernel)]
  simp only [fin, shorts, at8, List.getD_cons_zero, List.getD_cons_succ]
  rw [sh_lt 1 (by decide), sh_lt 2 (by decide), sh_lt 3 (by decide), sh_lt 4 (by decide), sh_300]
  decide +kernel
theorem unlock_1 : unlockM ⟨#[1, 172, 2, 7, 97, 98]⟩ = some (⟨#[97, 98]⟩, 300, 1, 7) := by
  have h : numsM 2 [172, 2, 7, 97, 98] = some ([300, 7], [97, 98]) := by decide +kernel
  rw [unlock_f _ 1 [172, 2, 7, 97, 98] rfl, h]
  simp only [List.getD_cons_zero, List.getD_cons_succ]
  rw [if_pos]
  · rfl
  · exact lock_1
theorem unwrite_1 : unwriteM ⟨#[3, 5]⟩ = some (5, 3) := by
  have h : numsM 1 [5] = some ([5], []) := by decide +kernel
  rw [unwrite_f _ 3 [5] rfl, h]
  simp only [List.getD_cons_zero, List.getD_cons_succ]
  rw [if_pos]
  · rfl
  · exact write_1
theorem unwrite_0 : unwriteM ⟨#[]⟩ = none := rfl
theorem unlease_1 : unleaseM ⟨#[1, 2, 3, 4, 2, 172, 2]⟩ = some [⟨1, 2, 3⟩, ⟨4, 2, 300⟩] := by
  have h1 : numsM 3 [1, 2, 3, 4, 2, 172, 2] = some ([1, 2, 3], [4, 2, 172, 2]) := by decide +kernel
  have h2 : numsM 3 [4, 2, 172, 2] = some ([4, 2, 300], []) := by decide +kernel
  have h : unlzFrom 6 [1, 2, 3, 4, 2, 172, 2] [] = some [⟨1, 2, 3⟩, ⟨4, 2, 300⟩] := by
    simp only [unlzFrom]
    rw [if_neg (by decide), h1]
    simp only
    rw [if_neg (by decide), h2]
    rfl
  unfold unleaseM
  rw [show (⟨#[1, 2, 3, 4, 2, 172, 2]⟩ : ByteArray).data.toList = [1, 2, 3, 4, 2, 172, 2] from rfl, h]
  simp only
  rw [if_pos leases_1]
end Go.Proofs.Ytolningpngjhpaa.Col
