/- screelaw15.ColWrites, walked. -/
import Derived.Test.YtolningpngjhpaaCo12
import Derived.Handy
import Derived.Outline
import Derived.Deep.QuietTactic
import Derived.BigQuiet
namespace Go.Proofs.Ytolningpngjhpaa.Col
open Go.RowKit Go.Proofs.YtolningpngjhpaaW.PrintWords Go.Proofs.YtolningpngjhpaaW.PrintLast Go.Proofs.YtolningpngjhpaaW.PrintMore
open Go.Proofs.Ytolningpngjhpaa.Nm Go.Proofs.Ytolningpngjhpaa.PColWrites
set_option linter.unusedVariables false
set_option linter.unusedSimpArgs false

set_option maxHeartbeats 4000000 in
set_option maxRecDepth 100000 in
theorem writes_walk (p : ByteArray) (st k at_ : Int) (st2 k2 : Int) (A : Option Addr) (c : Nat) (xs : List S78) (w : World)
    (h0 : 0 ≤ st) (h1 : st < 18446744073709551616) (ha0 : 0 ≤ at_) (ha1 : at_ < 18446744073709551616) (g0 : 0 ≤ st2) (g1 : st2 < 18446744073709551616)
    (hr : Kd.C k78 w A xs.length xs) (hc : xs.length ≤ c) (hw : ∀ x ∈ xs, Wf x) (hp : p.size ≤ 1024) (hx : xs.length ≤ 40) :
    Calls Try.prog 5 #[.agg #[.string p, .int .u64 st, .int .i64 k, .int .u64 at_], .agg #[.int .u64 st2, .int .i64 k2], .slice A xs.length c] w fun e w' => e = .returned (.bool true) ∧ Below w.heap.size w w' := by
  have d0 : decide ((1024 : Int) < (p.size : Int)) = false := decide_eq_false (by omega)
  have d1 : decide ((40 : Int) < (xs.length : Int)) = false := decide_eq_false (by omega)
  have HW := Aside0.mk hw
  have HR := Aside0.mk hr
  clear hw hr
  go_enter Try.func5, Try.ntmps5
  go_wp2_with fail
  refine (awake_any _).mono ?_
  rintro e w1 ⟨rfl, hb1⟩
  have HH1 := Aside0.mk (((Held.new w _ _).alloc _).below hb1)
  have HI1 := Held.new (w.alloc (.cells #[.string p, .int .u64 st, .int .i64 k, .int .u64 at_] 37)) #[.int .u64 st2, .int .i64 k2] 39
  rw [show (w.alloc (.cells #[.string p, .int .u64 st, .int .i64 k, .int .u64 at_] 37)).heap.size = w.heap.size + 1 by simp] at HI1
  replace HI1 := Aside0.mk (HI1.below hb1)
  have BB1 := Aside0.mk (below_then (below_alloc (below_alloc (Below.refl w.heap.size w) _) _) (by simp; omega) hb1)
  replace HR := Aside0.mk (Kd.C_below (Kd.C_alloc (Kd.C_alloc HR.out _) _) hb1)
  clear hb1
  generalize hL : lockM p st k at_ = L
  obtain ⟨L1, L2⟩ := L
  replace hL := Aside0.mk hL
  generalize hM : writeM st2 k2 = M
  obtain ⟨M1, M2⟩ := M
  replace hM := Aside0.mk hM
  generalize hN : leasesM xs = N
  obtain ⟨N1, N2⟩ := N
  replace hN := Aside0.mk hN
  have hc0 : w1.cell? ⟨w.heap.size, 0, none⟩ = some (.string p) := HH1.out.1 0
  have hc1 : w1.cell? ⟨w.heap.size, 1, none⟩ = some (.int .u64 st) := HH1.out.1 1
  have hc2 : w1.cell? ⟨w.heap.size, 2, none⟩ = some (.int .i64 k) := HH1.out.1 2
  have hc3 : w1.cell? ⟨w.heap.size, 3, none⟩ = some (.int .u64 at_) := HH1.out.1 3
  have hd0 : w1.cell? ⟨w.heap.size + 1, 0, none⟩ = some (.int .u64 st2) := HI1.out.1 0
  have hd1 : w1.cell? ⟨w.heap.size + 1, 1, none⟩ = some (.int .i64 k2) := HI1.out.1 1
  go_wp2_with fail
  refine (lock_any p st k at_ _ h0 h1 ha0 ha1).mono ?_
  rintro e w2 ⟨rfl, hb2⟩
  rw [hL.out]
  simp only [pairV]
  have HH2 := Aside0.mk (HH1.out.below hb2)
  have HI2 := Aside0.mk (HI1.out.below hb2)
  have BB2 := Aside0.mk (below_then BB1.out BB1.out.size hb2)
  replace HR := Aside0.mk (Kd.C_below HR.out hb2)
  clear hb2 HH1 HI1 BB1 hc0 hc1 hc2 hc3 hd0 hd1
  have hc0 : w2.cell? ⟨w.heap.size, 0, none⟩ = some (.string p) := HH2.out.1 0
  have hc1 : w2.cell? ⟨w.heap.size, 1, none⟩ = some (.int .u64 st) := HH2.out.1 1
  have hc2 : w2.cell? ⟨w.heap.size, 2, none⟩ = some (.int .i64 k) := HH2.out.1 2
  have hc3 : w2.cell? ⟨w.heap.size, 3, none⟩ = some (.int .u64 at_) := HH2.out.1 3
  have hd0 : w2.cell? ⟨w.heap.size + 1, 0, none⟩ = some (.int .u64 st2) := HI2.out.1 0
  have hd1 : w2.cell? ⟨w.heap.size + 1, 1, none⟩ = some (.int .i64 k2) := HI2.out.1 1
  go_wp2_with fail
  refine (rlock_any p st k at_ _ h0 h1 ha0 ha1).mono ?_
  rintro e w3 ⟨rfl, hb3⟩
  rw [hL.out]
  simp only [pairV]
  have HH3 := Aside0.mk (HH2.out.below hb3)
  have HI3 := Aside0.mk (HI2.out.below hb3)
  have BB3 := Aside0.mk (below_then BB2.out BB2.out.size hb3)
  replace HR := Aside0.mk (Kd.C_below HR.out hb3)
  clear hb3 HH2 HI2 BB2 hc0 hc1 hc2 hc3 hd0 hd1
  have hc0 : w3.cell? ⟨w.heap.size, 0, none⟩ = some (.string p) := HH3.out.1 0
  have hc1 : w3.cell? ⟨w.heap.size, 1, none⟩ = some (.int .u64 st) := HH3.out.1 1
  have hc2 : w3.cell? ⟨w.heap.size, 2, none⟩ = some (.int .i64 k) := HH3.out.1 2
  have hc3 : w3.cell? ⟨w.heap.size, 3, none⟩ = some (.int .u64 at_) := HH3.out.1 3
  have hd0 : w3.cell? ⟨w.heap.size + 1, 0, none⟩ = some (.int .u64 st2) := HI3.out.1 0
  have hd1 : w3.cell? ⟨w.heap.size + 1, 1, none⟩ = some (.int .i64 k2) := HI3.out.1 1
  go_wp2_with fail
  refine (write_any st2 k2 _ g0 g1).mono ?_
  rintro e w4 ⟨rfl, hb4⟩
  rw [hM.out]
  simp only [pairV]
  have HH4 := Aside0.mk (HH3.out.below hb4)
  have HI4 := Aside0.mk (HI3.out.below hb4)
  have BB4 := Aside0.mk (below_then BB3.out BB3.out.size hb4)
  replace HR := Aside0.mk (Kd.C_below HR.out hb4)
  clear hb4 HH3 HI3 BB3 hc0 hc1 hc2 hc3 hd0 hd1
  have hc0 : w4.cell? ⟨w.heap.size, 0, none⟩ = some (.string p) := HH4.out.1 0
  have hc1 : w4.cell? ⟨w.heap.size, 1, none⟩ = some (.int .u64 st) := HH4.out.1 1
  have hc2 : w4.cell? ⟨w.heap.size, 2, none⟩ = some (.int .i64 k) := HH4.out.1 2
  have hc3 : w4.cell? ⟨w.heap.size, 3, none⟩ = some (.int .u64 at_) := HH4.out.1 3
  have hd0 : w4.cell? ⟨w.heap.size + 1, 0, none⟩ = some (.int .u64 st2) := HI4.out.1 0
  have hd1 : w4.cell? ⟨w.heap.size + 1, 1, none⟩ = some (.int .i64 k2) := HI4.out.1 1
  go_wp2_with fail
  refine (rwrite_any st2 k2 _ g0 g1).mono ?_
  rintro e w5 ⟨rfl, hb5⟩
  rw [hM.out]
  simp only [pairV]
  have HH5 := Aside0.mk (HH4.out.below hb5)
  have HI5 := Aside0.mk (HI4.out.below hb5)
  have BB5 := Aside0.mk (below_then BB4.out BB4.out.size hb5)
  replace HR := Aside0.mk (Kd.C_below HR.out hb5)
  clear hb5 HH4 HI4 BB4 hc0 hc1 hc2 hc3 hd0 hd1
  go_wp2_with fail
  refine (leases_any A c xs _ HR.out hc HW.out).mono ?_
  rintro e w6 ⟨rfl, hb6⟩
  rw [hN.out]
  simp only [pairV]
  have BB6 := Aside0.mk (below_then BB5.out BB5.out.size hb6)
  replace HR := Aside0.mk (Kd.C_below HR.out hb6)
  clear hb6 BB5
  go_wp2_with fail
  refine (own_any A c xs _ HR.out hc hx).mono ?_
  rintro e w7 ⟨v, rfl, hQ, hb7⟩
  obtain ⟨A7, c7, rfl, hc7, hC7⟩ := Kd.R_reads hQ
  have BB7 := Aside0.mk (below_then BB6.out BB6.out.size hb7)
  rw [List.length_map] at hc7 hC7
  replace hC7 := Aside0.mk hC7
  clear hb7 BB6 hQ
  go_wp2_with fail
  refine (rleases_any A7 c7 xs _ hC7.out hc7 HW.out).mono ?_
  rintro e w8 ⟨rfl, hb8⟩
  rw [hN.out]
  simp only [pairV]
  have BB8 := Aside0.mk (below_then BB7.out BB7.out.size hb8)
  clear hb8 BB7
  go_wp2_with fail
  go_ret
  exact ⟨rfl, BB8.out⟩
end Go.Proofs.Ytolningpngjhpaa.Col
