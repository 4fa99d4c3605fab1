/- batch.Entries; closed forms of what was printed. -/
import Derived.Test.YtolningpngjhpaaBa3
import Derived.Laws.MakeOwn
namespace Go.Proofs.Ytolningpngjhpaa.Bat
open Go.RowKit Go.Proofs.YtolningpngjhpaaW.PrintWords Go.Proofs.YtolningpngjhpaaW.PrintLast Go.Proofs.YtolningpngjhpaaW.PrintMore
open Go.Proofs.Ytolningpngjhpaa.Nm
open Go.Proofs.Ytolningpngjhpaa.PBatchWrites (S66 k66 z66 rd_T66 at_T66 k66_mk k66_mkM k66_open S64 k64 info64 k64_mkM)
set_option linter.unusedVariables false
set_option linter.unusedSimpArgs false

/-- What operations do, from a number and a place on. -/
def entFrom (seq : Nat) : List S66 → Nat → List S64
  | [], _ => []
  | x :: l, i => ⟨x.f1, IntKind.u64.wrap ((seq : Int) + (i : Int)), x.f0, x.f2⟩ :: entFrom seq l (i + 1)
theorem ent_len (seq : Nat) : ∀ (l : List S66) (i : Nat), (entFrom seq l i).length = l.length := by
  intro l
  induction l with
  | nil => intro i; rfl
  | cons x l ih => intro i; simp [entFrom, ih]

set_option maxHeartbeats 4000000 in
set_option maxRecDepth 100000 in
theorem entries_any (seq : Nat) (A : Option Addr) (c : Nat) (xs : List S66) (w : World) (hs : seq < 2 ^ 64) (hr : Kd.C k66 w A xs.length xs) (hc : xs.length ≤ c) (hl : xs.length ≤ 1000) :
    Calls Try.prog 37 #[.int .u64 (seq : Int), .slice A xs.length c] w fun e w' => ∃ v, e = .returned v ∧ Kd.R k64 64 w' w.heap.size (fun _ => True) v (entFrom seq xs 0) ∧ Below w.heap.size w w' := by
  obtain ⟨i0, hi, hz0, hz1, hz2⟩ := info_parts info64
  obtain ⟨wm, hrun, hown, hgr⟩ := run_make_own (P := Try.prog) w w.heap.size 61 64 i0 _ 4 Try.underlying61 hi hz0 hz1 .i64 .i64 xs.length (by rw [hz2]; omega) (by unfold maxLen; omega) (Nat.le_refl _)
  have HBm := Aside0.mk (Below.grown (Below.refl w.heap.size w) hgr (Nat.le_refl _) (by simp))
  have HRm : Aside0 (Kd.R k64 64 wm w.heap.size (fun _ => True) (.slice (some ⟨w.heap.size, 0, none⟩) 0 xs.length) []) := ⟨⟨fun _ _ => trivial, [], hown, Reps.none _ _⟩⟩
  have HR := Aside0.mk hr
  have HS := Aside0.mk hs
  clear hown hgr hr hs hi hz0 hz1 hz2
  go_enter Try.func37, Try.ntmps37
  go_wp2_with fail
  clear hrun
  obtain ⟨V, hV⟩ : ∃ V, V = entFrom seq xs 0 := ⟨_, rfl⟩
  have HV := Aside0.mk hV
  clear hV
  go_loopg [5, 6, 7, 13] (xs.length + 1) (fun kq v5 v6 v7 v13 w' => ∃ (i : Nat) (acc : List S64), v13 = .int .i64 (i : Int) ∧ Aside0 (kq + i = xs.length + 1) ∧ i ≤ xs.length ∧ Aside0 (acc ++ entFrom seq (xs.drop i) i = V) ∧ Aside0 (acc.length = i) ∧ Aside0 (Kd.R k64 64 w' w.heap.size (fun _ => True) v5 acc) ∧ Aside0 (Below w.heap.size w w'))
  case atStart => exact ⟨0, [], rfl, ⟨rfl⟩, Nat.zero_le _, ⟨by rw [HV.out]; rfl⟩, ⟨rfl⟩, HRm, HBm⟩
  case round =>
    clear HRm HBm
    obtain ⟨i, acc, rfl, HK, hi, HE, HA, HRo, HB⟩ := hrel
    have HRs := HRo
    obtain ⟨Av, cp, hva, hcp, hC⟩ := Kd.R_reads HRo.out
    clear HRo hC
    subst hva
    by_cases hlt : i < xs.length
    · obtain ⟨k1, rfl⟩ : ∃ m, gk = m + 1 := ⟨gk - 1, by have := HK.out; omega⟩
      obtain ⟨ad, rfl, c0, c1, c2⟩ := at_T66 (Kd.C_below HR.out HB.out) (i : Int) (by omega) (by omega)
      simp only [Int.toNat_natCast] at c0 c1 c2
      have hE := HE.out
      rw [drop_rd hlt, entFrom] at hE
      obtain ⟨d, k, v, hxe⟩ : ∃ d k v, rd_T66 xs (i : Int) = ⟨d, k, v⟩ := ⟨_, _, _, rfl⟩
      rw [hxe] at c0 c1 c2 hE
      simp only at c0 c1 c2 hE
      have HE2 := Aside0.mk hE
      clear hE hxe HE
      have hlt2 : i < 1000 := by omega
      have HR1 := Aside0.mk (Kd.R_alloc HRs.out (.cells #[.bool d, .string k, .string v] 66))
      have HB1 := Aside0.mk (below_alloc HB.out (.cells #[.bool d, .string k, .string v] 66))
      have hsz5 : (wr.alloc (.cells #[.bool d, .string k, .string v] 66)).heap.size = wr.heap.size + 1 := by simp
      replace hsz5 := Aside0.mk hsz5
      go_wp2_with ((with_reducible refine gate_builtin (b := .append) (xs := #[.tmp 18, .tmp 30]) rfl ?_); generalize wr.alloc (.cells #[.bool d, .string k, .string v] 66) = w5 at HR1 HB1 hsz5 ⊢; refine Kd.R_append k64 (w0 := w) w.heap.size (by rfl) (.tmp 18) (.tmp 30) 61 64 (.agg #[(.string ⟨#[]⟩), (.int .u64 0), (.bool false), (.string ⟨#[]⟩)]) 48 rfl Try.underlying61 info64 rfl (by decide) (by omega) (.slice Av acc.length cp) acc (⟨k, IntKind.u64.wrap ((seq : Int) + (i : Int)), d, v⟩ : S64) [.string k, .int .u64 (IntKind.u64.wrap ((seq : Int) + (i : Int))), .bool d, .string v] (fun _ => True) (fun _ => False) rfl ?aX ?aP (fun _ hk => hk.elim) ?aF ?aO ?aB ?aS ?aL ?_)
      (case aX => rw [hsz5.out]; rfl)
      (case aP => exact k64_mkM _ _ _ (⟨k, IntKind.u64.wrap ((seq : Int) + (i : Int)), d, v⟩ : S64))
      (case aF => exact fun _ _ => trivial)
      (case aO => exact HR1.out)
      (case aB => exact HB1.out)
      (try (case aS => exact HB1.out.size))
      (case aL => have := HA.out; omega)
      intro v9 w9 ho hb hg9 hat9
      have HR9 := Aside0.mk ho
      have HB9 := Aside0.mk hb
      clear ho hb hg9 hat9 HR1 HB1 hsz5 HRs HB c0 c1 c2
      go_wp2
      go_roundg k1
      case measure => omega
      case rel => exact ⟨i + 1, acc ++ [(⟨k, IntKind.u64.wrap ((seq : Int) + (i : Int)), d, v⟩ : S64)], by go_num, ⟨by have := HK.out; omega⟩, by omega, ⟨by rw [List.append_assoc]; exact HE2.out⟩, ⟨by rw [List.length_append]; have := HA.out; simp; omega⟩, HR9, HB9⟩
    · have hE := HE.out
      rw [List.drop_eq_nil_of_le (by omega), entFrom, List.append_nil] at hE
      subst hE
      have HV2 := Aside0.mk HV.out.symm
      clear HV HE
      go_wp2
      go_ret
      exact ⟨_, rfl, by rw [HV2.out]; exact HRs.out, HB.out⟩
end Go.Proofs.Ytolningpngjhpaa.Bat
