/- screelaw10.BloomFull answers true for every list of keys: no condition. -/
import Derived.Test.YtolningpngjhpaaRows
import Derived.Test.YtolningpngjhpaaBl9
import Derived.Test.YtolningpngjhpaaPost
import Derived.WalkKit
import Derived.ProofKit
import Derived.OpenShut
import Derived.ShutString
import Derived.SliceStrings
import Derived.ChangeOld
import Derived.SizedLaws
namespace Go.Proofs.Ytolningpngjhpaa.bloomFull
open Go.ChangeShapes Go.WideShapes Go.ChangeAt Go.RowKit
open Go.ChangeMaps (open_string shut_string)
open Go.Proofs.Ytolningpngjhpaa.Bloom Go.Proofs.Ytolningpngjhpaa.PBloomFull
open Go.Proofs.YtolningpngjhpaaW.PrintWords
set_option linter.unusedVariables false

theorem own : ownKnob Try.prog.godebug = none := by kernel_rfl
theorem laidOut : laidOutB Try.prog = true := by kernel_rfl

theorem walk {H : Type} (A : Option Addr) (c : Nat) (keys : List ByteArray) (w : World) (hk : Kd.C Kd.string w A keys.length keys) (hc : keys.length ≤ c) :
    Calls Try.prog 4 #[.slice A keys.length c] w fun e w' => e = .returned (.bool true) ∧ Below w.heap.size w w' := by
  obtain ⟨k, r, hr, hall⟩ := large_f keys
  have hm := hk.2.1
  cases r with
  | true =>
    go_enter Try.func4, Try.ntmps4
    go_wp2_with (go_at_call 12; refine (awake_any _).mono ?_; rintro e w1 ⟨rfl, hb1⟩)
    refine (screelaw10_large.calls k A c keys true _ (Kd.C_below hk hb1) hc hr).mono ?_
    rintro e w2 ⟨rfl, hd2⟩
    go_wp2_with fail
    go_ret
    exact ⟨rfl, below_then hb1 hb1.size hd2.below⟩
  | false =>
    by_cases h : keys.length ≤ 1000
    · obtain ⟨h1, h2⟩ := hall rfl h
      exact full_walk (H := H) A c keys w hk hc h1 h2 ⟨k, hr⟩
    · have d1 : decide ((1000 : Int) < (keys.length : Int)) = true := decide_eq_true (by omega)
      have d2 : decide (1000 < keys.length) = true := decide_eq_true (by omega)
      go_enter Try.func4, Try.ntmps4
      go_wp2_with (go_at_call 12; refine (awake_any _).mono ?_; rintro e w1 ⟨rfl, hb1⟩)
      refine (screelaw10_large.calls k A c keys false _ (Kd.C_below hk hb1) hc hr).mono ?_
      rintro e w2 ⟨rfl, hd2⟩
      go_wp2_with fail
      go_ret
      exact ⟨rfl, below_then hb1 hb1.size hd2.below⟩

theorem C_of_cells (w : World) (a : Addr) (ss : List ByteArray) (n : Nat) (hn : n ≤ ss.length) (hm : n ≤ 9223372036854775807) (h : ∀ i, i < ss.length → w.cell? (a.add i) = some (.string (ss.getD i ByteArray.empty))) : Kd.C Kd.string w (some a) n (ss.take n) := by
  refine ⟨by simp [hn], hm, fun _ => ⟨a, rfl, fun j p hp => ⟨[.string p], rfl, rfl, fun i u hu => ?_⟩⟩⟩
  cases i with
  | succ i => simp at hu
  | zero =>
    simp only [List.getElem?_cons_zero, Option.some.injEq] at hu
    subst hu
    have hj : j < n := by
      have := (List.getElem?_eq_some_iff.1 hp).1
      simp at this
      omega
    have e : Kd.string.sz = 1 := rfl
    rw [e, Nat.mul_one, Nat.add_zero, h j (by omega)]
    rw [List.getElem?_take_of_lt hj] at hp
    rw [List.getD_eq_getElem?_getD, hp]
    rfl

set_option maxRecDepth 100000 in
theorem lifted (os : Os) (started : os.Started) (H : Type) (enc : TypeId × Value → H) :
    ReturnsInHanded {} Try.checked os 4 .any (Rows.bloomFullSpec.pre6 enc Try.prog Try.f4 Rows.bloomFullRow.domain false) (Rows.bloomFullSpec.post enc Try.prog Try.f4 false true false false) := by
  refine returnsInHanded_of_change (C := Try.checked) own started (by kernel_rfl) Try.func4
    (ChangeSpec.witness6 (enc := enc) (C := Try.checked) false ⟨#[], #[.slice none 0 0], []⟩ 8 (by kernel_rfl) (by kernel_rfl) (by kernel_rfl) (by kernel_rfl)) ?_
  intro W base args ds gs before hval0 hW hcnd _
  have hval : ∀ (j : Nat) t v, Try.f4.params[j]? = some t → args[j]? = some v → Value.okWide Try.prog W .any base t v := hval0
  have hW' := hW
  obtain ⟨p, q, hA0, hV, rfl, hfz, hnd⟩ := hW
  have hA : DataW.TrodAll enc Try.prog W 0 (fun _ => true) true Try.f4.params.toList args.toList ds p := hA0
  rw [Try.params4] at hA hval
  obtain ⟨v0, vs0, d0, ds0, p0, q0, hargs, rfl, rfl, h0, r0⟩ := trodAll_cons hA
  obtain ⟨rfl, rfl, rfl⟩ := trodAll_nil r0
  obtain rfl : args = #[v0] := by cases args; simp_all
  obtain ⟨rfl, rfl⟩ := trodVars_none hV
  obtain ⟨a0, len0, cap0, rfl⟩ := okWide_slice Try.underlying27 (hval 0 27 v0 rfl rfl)
  have k0 := h0
  have lt0 : ∀ x ∈ p0, x.block < W.heap.size := by obtain ⟨m, hm⟩ := k0; exact DataW.trod_lt m _ _ _ hm
  obtain ⟨keys, hl, hC, hcap⟩ : ∃ keys : List ByteArray, keys.length = len0 ∧ Kd.C Kd.string W a0 len0 keys ∧ len0 ≤ cap0 := by
    obtain ⟨fuel, hf⟩ := h0
    rcases open_strings Try.underlying27 Try.underlying9 (by kernel_rfl) hf with ⟨hcs, _⟩ | ⟨x, l, c, ss, hcs, _, hl, hm, hz, _, hcell, _⟩
    · simp [Value.cells] at hcs
      obtain ⟨rfl, rfl, rfl⟩ := hcs
      exact ⟨[], rfl, Kd.C_nil _ W, Nat.le_refl _⟩
    · simp [Value.cells] at hcs
      obtain ⟨rfl, rfl, rfl⟩ := hcs
      have hz' : ss.length = cap0 := by simpa using hz
      exact ⟨ss.take len0, by simp; omega, C_of_cells W x ss len0 (by omega) (by unfold maxLen at hm; omega) hcell, hl⟩
  subst hl
  clear hA0 hval0
  refine (walk (H := H) a0 cap0 keys W hC hcap).mono fun e W' ⟨he, bel⟩ => ?_
  subst he
  exact ⟨_, rfl, _, _, _, [], _, [], hW', trodAll_mk1 (shut_bool Try.underlying4 _), (trodAll_cons_mk (Below.trod laidOut (by kernel_rfl) (of_decide_eq_true (by kernel_rfl)) k0 bel lt0) trodAll_mk0), rfl, bel.frame _, fun h => by cases h⟩

theorem over : Rows.bloomFullRow.holds Try.pinned (OpenSpec.ofChange Rows.bloomFullSpec) :=
  OpenClaim.holds_of_wide 4 Try.f4 rfl rfl rfl rfl rfl rfl rfl ⟨rfl, rfl, rfl, rfl, rfl⟩ rfl rfl rfl rfl rfl (by kernel_rfl) Try.func4 (by kernel_rfl)
    (of_decide_eq_true (by kernel_rfl)) (by unfold Func.isWrapper; first | (rw [if_pos (by decide +kernel)]; kernel_rfl) | (rw [if_neg (by decide +kernel)]; exact ⟨rfl, rfl⟩))
    (fun os started H enc _ => lifted os started H enc)

theorem proved : Rows.BloomFullSaid := over
end Go.Proofs.Ytolningpngjhpaa.bloomFull
