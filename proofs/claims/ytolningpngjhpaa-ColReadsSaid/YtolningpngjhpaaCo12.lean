/- screelaw15.awake. -/
import Derived.Test.YtolningpngjhpaaCo11
import Derived.Handy
import Derived.Outline
import Derived.Deep.QuietTactic
import Derived.BigQuiet
namespace Go.Proofs.Ytolningpngjhpaa.Col
open Go.RowKit Go.Proofs.YtolningpngjhpaaW.PrintWords Go.Proofs.YtolningpngjhpaaW.PrintLast Go.Proofs.YtolningpngjhpaaW.PrintMore
open Go.Proofs.Ytolningpngjhpaa.Nm Go.Proofs.Ytolningpngjhpaa.PColWrites
set_option linter.unusedVariables false
set_option linter.unusedSimpArgs false

set_option maxHeartbeats 4000000 in
set_option maxRecDepth 100000 in
theorem awake_any (w : World) : Calls Try.prog 18 #[] w fun e w' => e = .returned (.bool true) ∧ Below w.heap.size w w' := by
  go_enter Try.func18, Try.ntmps18
  go_wp2_with fail
  refine (call_lock_1 _).mono ?_
  rintro e w1 ⟨rfl, hb1⟩
  have H1 := (Held.new w _ _).below hb1
  have B1 := (below_alloc (Below.refl w.heap.size w) _).trans (hb1.mono (by simp))
  clear hb1
  have HH1 := Aside0.mk H1
  have BB1 := Aside0.mk B1
  clear H1 B1
  go_wp2_with fail
  refine (call_unlock_1 _).mono ?_
  rintro e w2 ⟨rfl, hb2⟩
  have HH2 := Aside0.mk (HH1.out.below hb2)
  have BB2 := Aside0.mk (below_then BB1.out BB1.out.size hb2)
  clear hb2 HH1 BB1
  go_wp2_with fail
  refine (call_write_1 _).mono ?_
  rintro e w3 ⟨rfl, hb3⟩
  have HH3 := Aside0.mk ((HH2.out.alloc _).below hb3)
  have HI3 := Aside0.mk ((Held.new w2 _ _).below hb3)
  have BB3 := Aside0.mk (below_then (below_alloc BB2.out _) (by have := BB2.out.size; simp; omega) hb3)
  clear hb3 HH2 BB2
  go_wp2_with fail
  refine (call_unwrite_1 _).mono ?_
  rintro e w4 ⟨rfl, hb4⟩
  have HH4 := Aside0.mk (HH3.out.below hb4)
  have HI4 := Aside0.mk (HI3.out.below hb4)
  have BB4 := Aside0.mk (below_then BB3.out BB3.out.size hb4)
  clear hb4 HH3 HI3 BB3
  go_wp2_with fail
  have K4 := Held.new (w4.alloc (.cells #[.int .u64 5, .int .i64 3] 39)) #[.int .u64 1, .int .u64 2, .int .u64 3, .int .u64 4, .int .u64 2, .int .u64 300] 78
  rw [show (w4.alloc (.cells #[.int .u64 5, .int .i64 3] 39)).heap.size = w4.heap.size + 1 by simp] at K4
  refine (call_leases_1 _ _ _ K4.two8 (by decide)).mono ?_
  rintro e w5 ⟨rfl, hb5⟩
  have HH5 := Aside0.mk (((HH4.out.alloc _).alloc _).below hb5)
  have HI5 := Aside0.mk (((HI4.out.alloc _).alloc _).below hb5)
  have HJ5 := Aside0.mk (((Held.new w4 _ _).alloc _).below hb5)
  have HK5 := Aside0.mk (K4.below hb5)
  have BB5 := Aside0.mk (below_then (below_alloc (below_alloc BB4.out _) _) (by have := BB4.out.size; simp; omega) hb5)
  clear hb5 K4 HH4 HI4 BB4
  go_wp2_with fail
  refine (call_unlease_1 _).mono ?_
  rintro e w6 ⟨v, rfl, hR, hb6⟩
  obtain ⟨g, cap, hv, hg1, hg2, _⟩ := Kd.R_form hR (by decide)
  rw [show two8.length = 2 from rfl] at hv
  subst hv
  obtain ⟨A, c, hv, hc, hC⟩ := Kd.R_reads hR
  injection hv with hA h2 h3
  clear h2
  subst hA
  obtain ⟨ad, e, hx0, hx1, hx2⟩ := at_T78 hC 1 (by decide) (by decide)
  obtain rfl := Option.some.inj e
  have HH6 := Aside0.mk (HH5.out.below hb6)
  have HI6 := Aside0.mk (HI5.out.below hb6)
  have HJ6 := Aside0.mk (HJ5.out.below hb6)
  have HK6 := Aside0.mk (HK5.out.below hb6)
  have BB6 := Aside0.mk (below_then BB5.out BB5.out.size hb6)
  have HX6 : Aside0 (w6.cell? ⟨g, 3, none⟩ = some (.int .u64 4) ∧ w6.cell? ⟨g, 4, none⟩ = some (.int .u64 2) ∧ w6.cell? ⟨g, 5, none⟩ = some (.int .u64 300) ∧ g < w6.heap.size) := ⟨⟨hx0, hx1, hx2, hg2⟩⟩
  clear hb6 hR hC hx0 hx1 hx2 hg1 hg2 HH5 HI5 HJ5 HK5 BB5 hc
  go_wp2_with fail
  refine (call_lock_0 _).mono ?_
  rintro e w7 ⟨rfl, hb7⟩
  have HH7 := Aside0.mk (HH6.out.below hb7)
  have HI7 := Aside0.mk (HI6.out.below hb7)
  have HJ7 := Aside0.mk (HJ6.out.below hb7)
  have HK7 := Aside0.mk (HK6.out.below hb7)
  have BB7 := Aside0.mk (below_then BB6.out BB6.out.size hb7)
  have HX7 : Aside0 (w7.cell? ⟨g, 3, none⟩ = some (.int .u64 4) ∧ w7.cell? ⟨g, 4, none⟩ = some (.int .u64 2) ∧ w7.cell? ⟨g, 5, none⟩ = some (.int .u64 300) ∧ g < w7.heap.size) := ⟨⟨(hb7.cell (p := ⟨g, 3, none⟩) HX6.out.2.2.2).trans HX6.out.1, (hb7.cell (p := ⟨g, 4, none⟩) HX6.out.2.2.2).trans HX6.out.2.1, (hb7.cell (p := ⟨g, 5, none⟩) HX6.out.2.2.2).trans HX6.out.2.2.1, Nat.lt_of_lt_of_le HX6.out.2.2.2 hb7.size⟩⟩
  clear hb7 HH6 HI6 HJ6 HK6 BB6 HX6
  go_wp2_with fail
  refine (call_unwrite_0 _).mono ?_
  rintro e w8 ⟨rfl, hb8⟩
  have HH8 := (HH7.out.below hb8)
  have HI8 := (HI7.out.below hb8)
  have HJ8 := (HJ7.out.below hb8)
  have HK8 := (HK7.out.below hb8)
  have BB8 := Aside0.mk (below_then BB7.out BB7.out.size hb8)
  have HX8 : (w8.cell? ⟨g, 3, none⟩ = some (.int .u64 4) ∧ w8.cell? ⟨g, 4, none⟩ = some (.int .u64 2) ∧ w8.cell? ⟨g, 5, none⟩ = some (.int .u64 300) ∧ g < w8.heap.size) := ⟨(hb8.cell (p := ⟨g, 3, none⟩) HX7.out.2.2.2).trans HX7.out.1, (hb8.cell (p := ⟨g, 4, none⟩) HX7.out.2.2.2).trans HX7.out.2.1, (hb8.cell (p := ⟨g, 5, none⟩) HX7.out.2.2.2).trans HX7.out.2.2.1, Nat.lt_of_lt_of_le HX7.out.2.2.2 hb8.size⟩
  clear hb8 HH7 HI7 HJ7 HK7 BB7 HX7
  obtain ⟨x3, x4, x5, xg⟩ := HX8
  have h0 : w8.cell? ⟨w.heap.size, 0, none⟩ = some (.string ⟨#[97, 98]⟩) := HH8.1 0
  have h1 : w8.cell? ⟨w.heap.size, 1, none⟩ = some (.int .u64 300) := HH8.1 1
  have h2 : w8.cell? ⟨w.heap.size, 2, none⟩ = some (.int .i64 1) := HH8.1 2
  have h3 : w8.cell? ⟨w.heap.size, 3, none⟩ = some (.int .u64 7) := HH8.1 3
  have hg : w.heap.size < w8.heap.size := HH8.2
  have i0 : w8.cell? ⟨w2.heap.size, 0, none⟩ = some (.string ⟨#[97, 98]⟩) := HI8.1 0
  have i1 : w8.cell? ⟨w2.heap.size, 1, none⟩ = some (.int .u64 300) := HI8.1 1
  have i2 : w8.cell? ⟨w2.heap.size, 2, none⟩ = some (.int .i64 1) := HI8.1 2
  have i3 : w8.cell? ⟨w2.heap.size, 3, none⟩ = some (.int .u64 7) := HI8.1 3
  have ig : w2.heap.size < w8.heap.size := HI8.2
  have j0 : w8.cell? ⟨w4.heap.size, 0, none⟩ = some (.int .u64 5) := HJ8.1 0
  have j1 : w8.cell? ⟨w4.heap.size, 1, none⟩ = some (.int .i64 3) := HJ8.1 1
  have jg : w4.heap.size < w8.heap.size := HJ8.2
  have k3 : w8.cell? ⟨w4.heap.size + 1, 3, none⟩ = some (.int .u64 4) := HK8.1 3
  have k4 : w8.cell? ⟨w4.heap.size + 1, 4, none⟩ = some (.int .u64 2) := HK8.1 4
  have k5 : w8.cell? ⟨w4.heap.size + 1, 5, none⟩ = some (.int .u64 300) := HK8.1 5
  have kg : w4.heap.size + 1 < w8.heap.size := HK8.2
  clear HH8 HI8 HJ8 HK8
  go_wp2_with fail
  refine wp_region_quiet_lit (by kernel_rfl) (by kernel_rfl) ?_
  simp only [List.append_eq, List.cons_append, List.nil_append]
  repeat (any_goals (first | go_big_quiet_step (fail) | quiet_step (fail)))
  refine wpQuiet_nil ?_
  intro _ hw'
  obtain ⟨nq, hw''⟩ := hw'
  subst hw''

  go_wp2
  go_ret
  have hB := below_alloc BB8.out (.cells #[.int .u64 0, .int .i64 0] 39)
  exact ⟨rfl, ⟨hB.os, hB.tape, hB.output, hB.size, hB.block⟩⟩
end Go.Proofs.Ytolningpngjhpaa.Col
