/- screelaw10.awake: it tells true. -/
import Derived.Test.YtolningpngjhpaaBl4
namespace Go.Proofs.Ytolningpngjhpaa.Bloom
open Go.RowKit Go.Proofs.YtolningpngjhpaaW.PrintWords Go.Proofs.YtolningpngjhpaaW.PrintLast Go.Proofs.YtolningpngjhpaaW.PrintMore
open Go.Proofs.Ytolningpngjhpaa.PBloomFull
set_option linter.unusedVariables false

theorem mix_e : mix ⟨#[]⟩ = 14695981039346656037 := by decide +kernel
theorem mix_a : mix ⟨#[97]⟩ = 12638187200555641996 := by decide +kernel
def fab : ByteArray := strOfNums (makeL [⟨#[97]⟩, ⟨#[98]⟩])
theorem fab_size : fab.size = 3 := by decide +kernel
theorem fab_le : fab.size ≤ 140737488351232 := by rw [fab_size]; decide
theorem fab_3 : ((fab.size : Int) == 3) = true := by rw [fab_size]; decide
theorem fab_a : mayB fab ⟨#[97]⟩ = true := by decide +kernel
theorem fab_b : mayB fab ⟨#[98]⟩ = true := by decide +kernel
theorem f_nil : strOfNums (makeL []) = ⟨#[0]⟩ := by decide +kernel
theorem f_nil_a : mayB ⟨#[0]⟩ ⟨#[97]⟩ = false := by decide +kernel
theorem f_empty_a : mayB ⟨#[]⟩ ⟨#[97]⟩ = true := by decide +kernel
theorem full_4 : bloom_Full.f 20 ⟨#[7, 128]⟩ = some 4 := by decide +kernel

theorem full_any (s : ByteArray) (k : Nat) (r : Int) (w : World) (h : bloom_Full.f k s = some r) : Calls Try.prog 14 #[.string s] w fun e w' => e = .returned (.int .i64 r) ∧ Below w.heap.size w w' :=
  (bloom_Full.calls k s r w h).mono fun e w' h => ⟨h.1, h.2.below⟩
theorem C_lit_scalar {α : Type} (enc : α → Value) (h1 : ∀ x, (enc x).oneCell' = true) (w : World) (e : TypeId) (xs : List α) (hn : xs.length ≤ 9223372036854775807) (cs : Array Value) (hcs : cs = (xs.map enc).toArray) :
    Kd.C (Kd.scalar enc h1) (w.alloc (.cells cs e)) (some ⟨w.heap.size, 0, none⟩) xs.length xs := by
  subst hcs
  refine ⟨rfl, hn, fun _ => ⟨_, rfl, fun j p hp => ⟨[enc p], rfl, rfl, fun i u hu => ?_⟩⟩⟩
  cases i with
  | succ i => simp at hu
  | zero =>
    simp only [List.getElem?_cons_zero, Option.some.injEq] at hu
    subst hu
    rw [add_plain, World.cell?_alloc_new]
    simp [Kd.scalar, hp]
theorem make_ab (w : World) : Calls Try.prog 16 #[.slice (some ⟨w.heap.size, 0, none⟩) 2 2] (w.alloc (.cells #[.string ⟨#[97]⟩, .string ⟨#[98]⟩] 9)) fun e w' => e = .returned (.tuple #[.string fab, .int .i64 0]) ∧ Below (w.heap.size + 1) (w.alloc (.cells #[.string ⟨#[97]⟩, .string ⟨#[98]⟩] 9)) w' := by
  have hC : Kd.C Kd.string (w.alloc (.cells #[.string ⟨#[97]⟩, .string ⟨#[98]⟩] 9)) (some ⟨w.heap.size, 0, none⟩) 2 [⟨#[97]⟩, ⟨#[98]⟩] := C_lit_scalar Value.string _ w 9 [⟨#[97]⟩, ⟨#[98]⟩] (by decide) _ rfl
  have h := make_any (some ⟨w.heap.size, 0, none⟩) 2 [⟨#[97]⟩, ⟨#[98]⟩] (w.alloc (.cells #[.string ⟨#[97]⟩, .string ⟨#[98]⟩] 9)) hC (by simp) (by simp) (by simp; decide)
  exact h.mono fun e w' h => ⟨h.1, by simpa using h.2⟩
theorem make_nil (w : World) : Calls Try.prog 16 #[.slice none 0 0] w fun e w' => e = .returned (.tuple #[.string ⟨#[0]⟩, .int .i64 0]) ∧ Below w.heap.size w w' := by
  have hC : Kd.C Kd.string w none 0 [] := Kd.C_nil _ w
  have h := make_any none 0 [] w hC (by simp) (by simp) (by simp)
  rw [f_nil] at h
  exact h
theorem info9 : (Try.prog.info? 9).map (fun i => (i.zero, i.size, i.bytes)) = some (some (.string ⟨#[]⟩), 1, 16) := by kernel_rfl
theorem hmk1001 (w : World) : (Instr.makeSlice 27 (.int .i64 1001) (.int .i64 1001)).run Try.prog w = .ok (.slice (some ⟨w.heap.size, 0, none⟩) 1001 1001) (w.alloc (.cells (madeCells #[.string ⟨#[]⟩] 1001) 9)) :=
  print_make_of (P := Try.prog) 27 9 (.string ⟨#[]⟩) 16 Try.underlying27 info9 rfl (by decide) 1001 (by decide) w

theorem call_mix_e (w : World) : Calls Try.prog 45 #[.string ⟨#[]⟩] w fun e w' => e = .returned (.int .u64 14695981039346656037) ∧ Below w.heap.size w w' := by
  have h := mix_any ⟨#[]⟩ w (by decide)
  rwa [mix_e] at h
theorem call_mix_a (w : World) : Calls Try.prog 45 #[.string ⟨#[97]⟩] w fun e w' => e = .returned (.int .u64 12638187200555641996) ∧ Below w.heap.size w w' := by
  have h := mix_any ⟨#[97]⟩ w (by decide)
  rwa [mix_a] at h
theorem call_may (f s : ByteArray) (w : World) (hs : s.size ≤ 140737488351232) (hf : f.size ≤ 140737488351232) {b : Bool} (h : mayB f s = b) :
    Calls Try.prog 13 #[.string f, .string s] w fun e w' => e = .returned (.bool b) ∧ Below w.heap.size w w' := by
  subst h
  exact may_any f s w hs hf

set_option maxHeartbeats 1000000 in
set_option maxRecDepth 100000 in
theorem awake_any (w : World) : Calls Try.prog 12 #[] w fun e w' => e = .returned (.bool true) ∧ Below w.heap.size w w' := by
  have hmk := hmk1001
  have hf3 := fab_3
  have z1 : (⟨#[97]⟩ : ByteArray).size ≤ 140737488351232 := by decide
  have z2 : (⟨#[98]⟩ : ByteArray).size ≤ 140737488351232 := by decide
  go_enter Try.func12, Try.ntmps12
  go_wp2_with fail
  refine (make_ab _).mono ?_
  rintro e w1 ⟨rfl, hb1⟩
  go_wp2_with fail
  refine (make_nil _).mono ?_
  rintro e w2 ⟨rfl, hb2⟩
  go_wp2_with fail
  refine (make_many _ _ _ _ (by decide) (by decide)).mono ?_
  rintro e w3 ⟨rfl, hb3⟩
  go_wp2_with fail
  refine (call_mix_e _).mono ?_
  rintro e w4 ⟨rfl, hb4⟩
  go_wp2_with fail
  refine (call_mix_a _).mono ?_
  rintro e w5 ⟨rfl, hb5⟩
  go_wp2_with fail
  refine (call_may _ _ _ (by decide) fab_le fab_a).mono ?_
  rintro e w6 ⟨rfl, hb6⟩
  go_wp2_with fail
  refine (call_may _ _ _ (by decide) fab_le fab_b).mono ?_
  rintro e w7 ⟨rfl, hb7⟩
  go_wp2_with fail
  refine (call_may _ _ _ (by decide) (by decide) f_nil_a).mono ?_
  rintro e w8 ⟨rfl, hb8⟩
  go_wp2_with fail
  refine (call_may _ _ _ (by decide) (by decide) f_empty_a).mono ?_
  rintro e w9 ⟨rfl, hb9⟩
  go_wp2_with fail
  refine (bits_any ⟨#[97]⟩ 10 _ z1 (by decide) (by decide)).mono ?_
  rintro e w10 ⟨g, rfl, hg1, hg2, hg3, hb10⟩
  clear hg1 hg2 hg3
  go_wp2_with fail
  refine (full_any _ 20 4 _ full_4).mono ?_
  rintro e w11 ⟨rfl, hb11⟩
  go_wp2_with fail
  go_ret
  refine ⟨rfl, ?_⟩
  have s1 := hb1.size
  have s2 := hb2.size
  have s3 := hb3.size
  have b1 : Below w.heap.size w w1 := (((Below.refl w.heap.size w).alloc (Nat.le_refl _) _)).trans (hb1.mono (by omega))
  have t1 := b1.size
  have b2 := below_then b1 t1 hb2
  have t2 := b2.size
  have b3 := below_then (below_alloc b2 (.cells (madeCells #[.string ⟨#[]⟩] 1001) 9)) (by simp; omega) hb3
  have b4 := below_then b3 b3.size hb4
  have b5 := below_then b4 b4.size hb5
  have b6 := below_then b5 b5.size hb6
  have b7 := below_then b6 b6.size hb7
  have b8 := below_then b7 b7.size hb8
  have b9 := below_then b8 b8.size hb9
  have b10 := below_then b9 b9.size hb10
  exact below_then b10 b10.size hb11
end Go.Proofs.Ytolningpngjhpaa.Bloom
