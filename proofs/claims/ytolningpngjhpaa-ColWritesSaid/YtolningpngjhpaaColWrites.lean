/- screelaw15.ColWrites answers true for every lock, write and leases: no condition. -/
import Derived.Test.YtolningpngjhpaaRows
import Derived.Test.YtolningpngjhpaaCo13
import Derived.Test.YtolningpngjhpaaRw
import Derived.Lib.SmallJoins
import Derived.WalkKit
import Derived.ProofKit
import Derived.OpenShut
import Derived.ShutString
import Derived.ChangeOld
import Derived.Below
import Derived.SizedLaws
namespace Go.Proofs.Ytolningpngjhpaa.colWrites
open Go.ChangeShapes Go.WideShapes Go.ChangeAt Go.RowKit Go.Joins
open Go.ChangeMaps (open_string shut_string)
open Go.Proofs.Ytolningpngjhpaa.Col Go.Proofs.Ytolningpngjhpaa.PColWrites Go.Proofs.YtolningpngjhpaaW.PrintWords
set_option linter.unusedVariables false

theorem own : ownKnob Try.prog.godebug = none := by kernel_rfl
theorem laidOut : laidOutB Try.prog = true := by kernel_rfl

theorem u64_wf {n : Int} (h : (Lit.int .u64 n).wf = true) : 0 ≤ n ∧ n < 18446744073709551616 := by
  have h1 : IntKind.u64.min ≤ n ∧ n ≤ IntKind.u64.max := by simpa [Lit.wf] using h
  have h2 : IntKind.u64.min = 0 := by decide
  have h3 : IntKind.u64.max = 18446744073709551615 := by decide
  omega

set_option maxHeartbeats 4000000 in
set_option maxRecDepth 100000 in
theorem large_walk (p : ByteArray) (st k at_ : Int) (st2 k2 : Int) (A : Option Addr) (n c : Nat) (w : World) (hp : p.size ≤ 9223372036854775807) (hn : n ≤ 9223372036854775807) (h : 1024 < p.size ∨ 40 < n) :
    Calls Try.prog 5 #[.agg #[.string p, .int .u64 st, .int .i64 k, .int .u64 at_], .agg #[.int .u64 st2, .int .i64 k2], .slice A n c] w fun e w' => e = .returned (.bool true) ∧ Below w.heap.size w w' := by
  by_cases hp1 : 1024 < p.size
  · have d0 : decide ((1024 : Int) < (p.size : Int)) = true := decide_eq_true (by omega)
    clear h
    go_enter Try.func5, Try.ntmps5
    go_wp2_with fail
    refine (awake_any _).mono ?_
    rintro e w1 ⟨rfl, hb1⟩
    have HH1 := Aside0.mk (((Held.new w _ _).alloc _).below hb1)
    have BB1 := Aside0.mk (below_then (below_alloc (below_alloc (Below.refl w.heap.size w) _) _) (by simp; omega) hb1)
    clear hb1
    have hc0 : w1.cell? ⟨w.heap.size, 0, none⟩ = some (.string p) := HH1.out.1 0
    have hc1 : w1.cell? ⟨w.heap.size, 1, none⟩ = some (.int .u64 st) := HH1.out.1 1
    have hc2 : w1.cell? ⟨w.heap.size, 2, none⟩ = some (.int .i64 k) := HH1.out.1 2
    have hc3 : w1.cell? ⟨w.heap.size, 3, none⟩ = some (.int .u64 at_) := HH1.out.1 3
    go_wp2_with fail
    go_ret
    exact ⟨rfl, BB1.out⟩
  · have d0 : decide ((1024 : Int) < (p.size : Int)) = false := decide_eq_false (by omega)
    have d1 : decide ((40 : Int) < (n : Int)) = true := decide_eq_true (by omega)
    clear h
    go_enter Try.func5, Try.ntmps5
    go_wp2_with fail
    refine (awake_any _).mono ?_
    rintro e w1 ⟨rfl, hb1⟩
    have HH1 := Aside0.mk (((Held.new w _ _).alloc _).below hb1)
    have BB1 := Aside0.mk (below_then (below_alloc (below_alloc (Below.refl w.heap.size w) _) _) (by simp; omega) hb1)
    clear hb1
    have hc0 : w1.cell? ⟨w.heap.size, 0, none⟩ = some (.string p) := HH1.out.1 0
    have hc1 : w1.cell? ⟨w.heap.size, 1, none⟩ = some (.int .u64 st) := HH1.out.1 1
    have hc2 : w1.cell? ⟨w.heap.size, 2, none⟩ = some (.int .i64 k) := HH1.out.1 2
    have hc3 : w1.cell? ⟨w.heap.size, 3, none⟩ = some (.int .u64 at_) := HH1.out.1 3
    go_wp2_with fail
    go_ret
    exact ⟨rfl, BB1.out⟩

theorem walk (p : ByteArray) (st k at_ : Int) (st2 k2 : Int) (A : Option Addr) (c : Nat) (xs : List S78) (w : World)
    (h1 : 0 ≤ st ∧ st < 18446744073709551616) (h2 : 0 ≤ at_ ∧ at_ < 18446744073709551616) (h3 : 0 ≤ st2 ∧ st2 < 18446744073709551616)
    (hr : Kd.C k78 w A xs.length xs) (hc : xs.length ≤ c) (hw : ∀ x ∈ xs, Wf x) (hp : p.size ≤ 9223372036854775807) (hx : xs.length ≤ 9223372036854775807) :
    Calls Try.prog 5 #[.agg #[.string p, .int .u64 st, .int .i64 k, .int .u64 at_], .agg #[.int .u64 st2, .int .i64 k2], .slice A xs.length c] w fun e w' => e = .returned (.bool true) ∧ Below w.heap.size w w' := by
  by_cases h : p.size ≤ 1024 ∧ xs.length ≤ 40
  · exact writes_walk p st k at_ st2 k2 A c xs w h1.1 h1.2 h2.1 h2.2 h3.1 h3.2 hr hc hw h.1 h.2
  · exact large_walk p st k at_ st2 k2 A xs.length c w hp hx (by omega)

theorem add_off (a : Addr) (i j : Nat) : (a.add (i + j)) = (a.add i).add j := by
  unfold Addr.add
  by_cases hi : i = 0 <;> by_cases hj : j = 0 <;> simp [hi, hj, Nat.add_assoc]

/-- Leases that came in. -/
theorem open_leases {H : Type} {enc : TypeId × Value → H} {w : World} {base : Nat} {spare : Nat → Bool} {held : Bool} {A : Option Addr} {n c : Nat} {d : DataW H} {q : List MemPlace}
    (h : DataW.Trod enc Try.prog w base spare held 40 (.slice A n c) d q) : ∃ xs : List S78, xs.length = n ∧ n ≤ c ∧ c ≤ maxLen ∧ Kd.C k78 w A n xs ∧ ∀ x ∈ xs, Wf x := by
  obtain ⟨fuel, hf⟩ := h
  rcases Rw.open_slice_fields Try.underlying40 Try.underlying78 (by kernel_rfl) (by kernel_rfl) hf with ⟨hcs, _⟩ | ⟨a, len, cap, m, D, Pl, hcs, _, hl, hm, hmm, _, hi⟩
  · simp [Value.cells] at hcs
    obtain ⟨rfl, rfl, rfl⟩ := hcs
    refine ⟨[], rfl, Nat.le_refl _, Nat.zero_le _, ⟨rfl, by decide, fun h => by omega⟩, fun x hx => by cases hx⟩
  · simp [Value.cells] at hcs
    obtain ⟨rfl, rfl, rfl⟩ := hcs
    have hlm : n ≤ m := by rw [hmm]; split <;> omega
    have hx : ∀ i, i < n → ∃ x : S78, Wf x ∧ w.cell? (a.add (i * 3)) = some (.int .u64 x.f0) ∧ w.cell? (a.add (i * 3 + 1)) = some (.int .u64 x.f1) ∧ w.cell? (a.add (i * 3 + 2)) = some (.int .u64 x.f2) := by
      intro i hin
      obtain ⟨ys, fu, _, _, _, hfi⟩ := hi i (by omega)
      obtain ⟨v0, y0, hc0, _, ht0⟩ := hfi 0 _ rfl
      obtain ⟨v1, y1, hc1, _, ht1⟩ := hfi 1 _ rfl
      obtain ⟨v2, y2, hc2, _, ht2⟩ := hfi 2 _ rfl
      obtain ⟨n0, e0, _, wf0⟩ := DataW.trod_int (k := .u64) (by kernel_rfl) ht0
      obtain ⟨n1, e1, _, wf1⟩ := DataW.trod_int (k := .u64) (by kernel_rfl) ht1
      obtain ⟨n2, e2, _, wf2⟩ := DataW.trod_int (k := .u64) (by kernel_rfl) ht2
      simp only [List.cons.injEq, and_true] at e0 e1 e2
      subst e0 e1 e2
      exact ⟨⟨n0, n1, n2⟩, ⟨u64_wf wf0, u64_wf wf1, u64_wf wf2⟩, hc0, hc1, hc2⟩
    let f : Nat → S78 := fun i => if h : i < n then (hx i h).choose else ⟨0, 0, 0⟩
    have hf' : ∀ i, i < n → Wf (f i) ∧ w.cell? (a.add (i * 3)) = some (.int .u64 (f i).f0) ∧ w.cell? (a.add (i * 3 + 1)) = some (.int .u64 (f i).f1) ∧ w.cell? (a.add (i * 3 + 2)) = some (.int .u64 (f i).f2) := by
      intro i hin
      have := (hx i hin).choose_spec
      simp only [f, dif_pos hin]
      exact this
    refine ⟨(List.range n).map f, by simp, hl, hm, ?_, ?_⟩
    · have := C8_of_cells (w := w) (A := some a) (xs := (List.range n).map f) (by simp; unfold maxLen at hm; omega) (fun _ => ⟨a, rfl, fun j x hjx => by
        simp only [List.getElem?_map, Option.map_eq_some_iff] at hjx
        obtain ⟨i, hi1, rfl⟩ := hjx
        have hjn : j < n := by
          by_cases hj : j < n
          · exact hj
          · rw [List.getElem?_eq_none (by simp; omega)] at hi1; cases hi1
        rw [List.getElem?_range hjn] at hi1
        obtain rfl := Option.some.inj hi1
        exact (hf' _ hjn).2⟩)
      simpa using this
    · intro x hxm
      simp only [List.mem_map, List.mem_range] at hxm
      obtain ⟨i, hin, rfl⟩ := hxm
      exact (hf' i hin).1

set_option maxRecDepth 100000 in
theorem lifted (os : Os) (started : os.Started) (H : Type) (enc : TypeId × Value → H) :
    ReturnsInHanded {} Try.checked os 5 .any (Rows.colWritesSpec.pre6 enc Try.prog Try.f5 Rows.colWritesRow.domain false) (Rows.colWritesSpec.post enc Try.prog Try.f5 false true false false) := by
  refine returnsInHanded_of_change (C := Try.checked) own started (by kernel_rfl) Try.func5
    (ChangeSpec.witness6 (enc := enc) (C := Try.checked) false ⟨#[], #[.agg #[.string ByteArray.empty, .int .u64 0, .int .i64 0, .int .u64 0], .agg #[.int .u64 0, .int .i64 0], .slice none 0 0], []⟩ 8 (by kernel_rfl) (by kernel_rfl) (by kernel_rfl) (by kernel_rfl)) ?_
  intro W base args ds gs before hval0 hW hcnd _
  have hval : ∀ (j : Nat) t v, Try.f5.params[j]? = some t → args[j]? = some v → Value.okWide Try.prog W .any base t v := hval0
  have hW' := hW
  obtain ⟨p, q, hA0, hV, rfl, hfz, hnd⟩ := hW
  have hA : DataW.TrodAll enc Try.prog W 0 (fun _ => true) true Try.f5.params.toList args.toList ds p := hA0
  rw [Try.params5] at hA hval
  obtain ⟨v0, vs0, d0, ds0, p0, q0, hargs, rfl, rfl, h0, r0⟩ := trodAll_cons hA
  obtain ⟨v1, vs1, d1, ds1, p1, q1, rfl, rfl, rfl, h1, r1⟩ := trodAll_cons r0
  obtain ⟨v2, vs2, d2, ds2, p2, q2, rfl, rfl, rfl, h2, r2⟩ := trodAll_cons r1
  obtain ⟨rfl, rfl, rfl⟩ := trodAll_nil r2
  obtain rfl : args = #[v0, v1, v2] := by cases args; simp_all
  obtain ⟨rfl, rfl⟩ := trodVars_none hV
  have lt0 : ∀ x ∈ p0, x.block < W.heap.size := by obtain ⟨m, hm⟩ := h0; exact DataW.trod_lt m _ _ _ hm
  have lt1 : ∀ x ∈ p1, x.block < W.heap.size := by obtain ⟨m, hm⟩ := h1; exact DataW.trod_lt m _ _ _ hm
  have lt2 : ∀ x ∈ p2, x.block < W.heap.size := by obtain ⟨m, hm⟩ := h2; exact DataW.trod_lt m _ _ _ hm
  have k0 := h0
  have k1 := h1
  have k2 := h2
  obtain ⟨a0, a1, a2, a3, y0, y1, y2, y3, n0, rfl, _, _, t0, t1, t2, t3⟩ := open_agg4 Try.underlying37 (by kernel_rfl) (by kernel_rfl) (hval 0 37 v0 rfl rfl) h0
  obtain ⟨s, e0, _, ws⟩ := DataW.trod_string (by kernel_rfl) t0
  obtain ⟨st, e1, _, w1⟩ := DataW.trod_int (k := .u64) (by kernel_rfl) t1
  obtain ⟨kd, e2, _, w2⟩ := DataW.trod_int (k := .i64) (by kernel_rfl) t2
  obtain ⟨at_, e3, _, w3⟩ := DataW.trod_int (k := .u64) (by kernel_rfl) t3
  simp only [List.cons.injEq, and_true] at e0 e1 e2 e3
  subst e0 e1 e2 e3
  obtain ⟨b0, b1, z0, z1, n1, rfl, _, _, u0, u1⟩ := open_agg2 Try.underlying39 (by kernel_rfl) (by kernel_rfl) (hval 1 39 v1 rfl rfl) h1
  obtain ⟨st2, e0, _, w4⟩ := DataW.trod_int (k := .u64) (by kernel_rfl) u0
  obtain ⟨kd2, e1, _, w5⟩ := DataW.trod_int (k := .i64) (by kernel_rfl) u1
  simp only [List.cons.injEq, and_true] at e0 e1
  subst e0 e1
  obtain ⟨A, len, cap, rfl⟩ := okWide_slice Try.underlying40 (hval 2 40 v2 rfl rfl)
  obtain ⟨xs, rfl, hlc, hcm, hC, hwf⟩ := open_leases h2
  clear hA0 hval0
  unfold maxLen at ws hcm
  refine (walk s st kd at_ st2 kd2 A cap xs W (u64_wf w1) (u64_wf w3) (u64_wf w4) hC hlc hwf ws (by omega)).mono fun e W' ⟨he, bel⟩ => ?_
  subst he
  exact ⟨_, rfl, _, _, _, [], _, [], hW', trodAll_mk1 (shut_bool Try.underlying4 _), (trodAll_cons_mk (Below.trod laidOut (by kernel_rfl) (of_decide_eq_true (by kernel_rfl)) k0 bel lt0) (trodAll_cons_mk (Below.trod laidOut (by kernel_rfl) (of_decide_eq_true (by kernel_rfl)) k1 bel lt1) (trodAll_cons_mk (Below.trod laidOut (by kernel_rfl) (of_decide_eq_true (by kernel_rfl)) k2 bel lt2) trodAll_mk0))), rfl, bel.frame _, fun h => by cases h⟩

theorem over : Rows.colWritesRow.holds Try.pinned (OpenSpec.ofChange Rows.colWritesSpec) :=
  OpenClaim.holds_of_wide 5 Try.f5 rfl rfl rfl rfl rfl rfl rfl ⟨rfl, rfl, rfl, rfl, rfl⟩ rfl rfl rfl rfl rfl (by kernel_rfl) Try.func5 (by kernel_rfl)
    (of_decide_eq_true (by kernel_rfl)) (by unfold Func.isWrapper; first | (rw [if_pos (by decide +kernel)]; kernel_rfl) | (rw [if_neg (by decide +kernel)]; exact ⟨rfl, rfl⟩))
    (fun os started H enc _ => lifted os started H enc)

/-- ████ THE STATEMENT ████ -/
theorem proved : Rows.ColWritesSaid :=
  over
end Go.Proofs.Ytolningpngjhpaa.colWrites
