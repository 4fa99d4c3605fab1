/- screelaw05.awake. -/
import Derived.Test.YtolningpngjhpaaBa8
namespace Go.Proofs.Ytolningpngjhpaa.Bat
open Go.RowKit Go.Proofs.YtolningpngjhpaaW.PrintWords Go.Proofs.YtolningpngjhpaaW.PrintLast Go.Proofs.YtolningpngjhpaaW.PrintMore
open Go.Proofs.Ytolningpngjhpaa.Nm
open Go.Proofs.Ytolningpngjhpaa.PBatchWrites (S66 k66 z66 rd_T66 at_T66 k66_mk k66_mkM k66_open S64 k64 info64 k64_mkM at_T64 rd_T64)
set_option linter.unusedVariables false
set_option linter.unusedSimpArgs false

theorem C66_of_cells {w : World} {A : Option Addr} {xs : List S66} (hl : xs.length ≤ 9223372036854775807) (h : xs ≠ [] → ∃ ad, A = some ad ∧ ∀ j x, xs[j]? = some x → w.cell? (ad.add (j * 3)) = some (.bool x.f0) ∧ w.cell? (ad.add (j * 3 + 1)) = some (.string x.f1) ∧ w.cell? (ad.add (j * 3 + 2)) = some (.string x.f2)) :
    Kd.C k66 w A xs.length xs := by
  refine ⟨rfl, hl, fun hn => ?_⟩
  obtain ⟨ad, e, hc⟩ := h (by intro hx; rw [hx] at hn; exact absurd hn (Nat.lt_irrefl 0))
  refine ⟨ad, e, fun j x hx => ⟨[.bool x.f0, .string x.f1, .string x.f2], rfl, k66_mk w x, fun i u hu => ?_⟩⟩
  obtain ⟨h0, h1, h2⟩ := hc j x hx
  show w.cell? (ad.add (j * 3 + i)) = some u
  match i, hu with
  | 0, hu => simp only [List.getElem?_cons_zero, Option.some.injEq] at hu; rw [← hu]; exact h0
  | 1, hu => simp at hu; rw [← hu]; exact h1
  | 2, hu => simp at hu; rw [← hu]; exact h2
  | n + 3, hu => simp at hu
def twoO : List S66 := [⟨false, ⟨#[97]⟩, ⟨#[120, 121]⟩⟩, ⟨true, ⟨#[98]⟩, ⟨#[]⟩⟩]
theorem twoO_C (w : World) : Kd.C k66 (w.alloc (.cells #[.bool false, .string ⟨#[97]⟩, .string ⟨#[120, 121]⟩, .bool true, .string ⟨#[98]⟩, .string ⟨#[]⟩] 66)) (some ⟨w.heap.size, 0, none⟩) 2 twoO := by
  have hb := blk_new w (.cells #[.bool false, .string ⟨#[97]⟩, .string ⟨#[120, 121]⟩, .bool true, .string ⟨#[98]⟩, .string ⟨#[]⟩] 66)
  refine C66_of_cells (xs := twoO) (by decide) (fun _ => ⟨_, rfl, fun j x hx => ?_⟩)
  match j, hx with
  | 0, hx => obtain rfl : _ = x := Option.some.inj hx; exact ⟨blk_cell hb 0, blk_cell hb 1, blk_cell hb 2⟩
  | 1, hx => obtain rfl : _ = x := Option.some.inj hx; exact ⟨blk_cell hb 3, blk_cell hb 4, blk_cell hb 5⟩
  | n + 2, hx => simp [twoO] at hx
theorem twoO_may : mayB twoO = true := by decide +kernel
theorem twoO_num : numB 7 twoO.length = true := by decide +kernel
theorem twoO_wf : ∀ x ∈ twoO, WfO x := by
  intro x hx
  rcases List.mem_cons.1 hx with rfl | hx
  · exact ⟨by decide, by decide⟩
  · rw [List.mem_singleton.1 hx]; exact ⟨by decide, by decide⟩
theorem twoO_small : ∀ x ∈ twoO, x.f1.size ≤ 300 ∧ x.f2.size ≤ 300 := by
  intro x hx
  rcases List.mem_cons.1 hx with rfl | hx
  · exact ⟨by decide, by decide⟩
  · rw [List.mem_singleton.1 hx]; exact ⟨by decide, by decide⟩
theorem encB_two : encB 7 twoO = [7, 2, 0, 1, 97, 2, 120, 121, 1, 1, 98] := by
  unfold encB
  have e : twoO.flatMap opB = [0, 1, 97, 2, 120, 121, 1, 1, 98] := by
    simp only [twoO, List.flatMap_cons, List.flatMap_nil, opB, txt]
    simp [short_lt]
  rw [e, short_lt 7 (by decide), show twoO.length = 2 from rfl, short_lt 2 (by decide)]
  decide
theorem encM_two : encM 7 twoO = (⟨#[7, 2, 0, 1, 97, 2, 120, 121, 1, 1, 98]⟩, 0) := by
  unfold encM
  rw [if_pos twoO_may, if_pos twoO_num, encB_two]
  rfl
theorem encM_zero : encM 0 twoO = (⟨#[]⟩, 3) := by
  unfold encM
  rw [if_pos twoO_may, if_neg (by decide +kernel)]
theorem decM_two : decM [7, 2, 0, 1, 97, 2, 120, 121, 1, 1, 98] = some (7, twoO) := by
  have h := dec_enc twoO_may twoO_num []
  rw [encB_two] at h
  exact h
theorem decM_more : decM [7, 2, 0, 1, 97, 2, 120, 121, 1, 1, 98, 63] = none := by
  have h := dec_enc twoO_may twoO_num [63]
  rw [encB_two] at h
  exact h
theorem call_enc7 (A : Option Addr) (c : Nat) (w : World) (hr : Kd.C k66 w A 2 twoO) (hc : 2 ≤ c) :
    Calls Try.prog 35 #[.int .u64 7, .slice A 2 c] w fun e w' => e = .returned (.tuple #[.string ⟨#[7, 2, 0, 1, 97, 2, 120, 121, 1, 1, 98]⟩, .int .i64 0]) ∧ Below w.heap.size w w' := by
  have h := encode_any 7 A c twoO w (by decide) hr hc (by decide) twoO_wf
  rw [encM_two] at h
  exact h
theorem call_enc0 (A : Option Addr) (c : Nat) (w : World) (hr : Kd.C k66 w A 2 twoO) (hc : 2 ≤ c) :
    Calls Try.prog 35 #[.int .u64 0, .slice A 2 c] w fun e w' => e = .returned (.tuple #[.string ⟨#[]⟩, .int .i64 3]) ∧ Below w.heap.size w w' := by
  have h := encode_any 0 A c twoO w (by decide) hr hc (by decide) twoO_wf
  rw [encM_zero] at h
  exact h
theorem call_dec (w : World) : Calls Try.prog 43 #[.string ⟨#[7, 2, 0, 1, 97, 2, 120, 121, 1, 1, 98]⟩] w fun e w' => ∃ v, e = .returned (.tuple #[.int .u64 7, v, .int .i64 0]) ∧ Kd.R k66 66 w' w.heap.size (fun _ => True) v twoO ∧ Below w.heap.size w w' := by
  refine (decode_any ⟨#[7, 2, 0, 1, 97, 2, 120, 121, 1, 1, 98]⟩ w (by decide)).mono ?_
  rintro e w' ⟨n, v, l, x, rfl, hR, hb, hm⟩
  rw [show (⟨#[7, 2, 0, 1, 97, 2, 120, 121, 1, 1, 98]⟩ : ByteArray).data.toList = [7, 2, 0, 1, 97, 2, 120, 121, 1, 1, 98] from rfl, decM_two] at hm
  obtain ⟨rfl, rfl, rfl⟩ := hm
  exact ⟨v, rfl, hR, hb⟩
theorem call_dec2 (w : World) : Calls Try.prog 43 #[.string ⟨#[7, 2, 0, 1, 97, 2, 120, 121, 1, 1, 98, 63]⟩] w fun e w' => ∃ v, e = .returned (.tuple #[.int .u64 0, v, .int .i64 2]) ∧ Below w.heap.size w w' := by
  refine (decode_any ⟨#[7, 2, 0, 1, 97, 2, 120, 121, 1, 1, 98, 63]⟩ w (by decide)).mono ?_
  rintro e w' ⟨n, v, l, x, rfl, hR, hb, hm⟩
  rw [show (⟨#[7, 2, 0, 1, 97, 2, 120, 121, 1, 1, 98, 63]⟩ : ByteArray).data.toList = [7, 2, 0, 1, 97, 2, 120, 121, 1, 1, 98, 63] from rfl, decM_more] at hm
  obtain ⟨rfl, rfl, rfl⟩ := hm
  exact ⟨v, rfl, hb⟩
theorem call_ent (A : Option Addr) (c : Nat) (w : World) (hr : Kd.C k66 w A 2 twoO) (hc : 2 ≤ c) :
    Calls Try.prog 37 #[.int .u64 7, .slice A 2 c] w fun e w' => ∃ v, e = .returned v ∧ Kd.R k64 64 w' w.heap.size (fun _ => True) v (entFrom 7 twoO 0) ∧ Below w.heap.size w w' :=
  entries_any 7 A c twoO w (by decide) hr hc (by decide)
theorem call_may (A : Option Addr) (c : Nat) (w : World) (hr : Kd.C k66 w A 2 twoO) (hc : 2 ≤ c) :
    Calls Try.prog 39 #[.slice A 2 c] w fun e w' => e = .returned (.bool true) ∧ Below w.heap.size w w' := by
  have h := may_any A c twoO w hr hc (by decide) twoO_wf
  rw [twoO_may] at h
  exact h
theorem call_may0 (w : World) : Calls Try.prog 39 #[.slice none 0 0] w fun e w' => e = .returned (.bool false) ∧ Below w.heap.size w w' :=
  may_any none 0 [] w ⟨rfl, by decide, fun h => absurd h (Nat.lt_irrefl 0)⟩ (Nat.le_refl _) (by decide) (by simp)
theorem call_size (A : Option Addr) (c : Nat) (w : World) (hr : Kd.C k66 w A 2 twoO) (hc : 2 ≤ c) :
    Calls Try.prog 41 #[.slice A 2 c] w fun e w' => e = .returned (.int .i64 4) ∧ Below w.heap.size w w' :=
  size_any A c twoO w hr hc (by decide) twoO_small
theorem call_same (A B : Option Addr) (c d : Nat) (w : World) (hr : Kd.C k66 w A 2 twoO) (hc : 2 ≤ c) (hr2 : Kd.C k66 w B 2 twoO) (hd : 2 ≤ d) :
    Calls Try.prog 42 #[.slice A 2 c, .slice B 2 d] w fun e w' => e = .returned (.bool true) ∧ Below w.heap.size w w' :=
  same_any A B c d twoO w hr hc hr2 hd (by decide)

set_option maxHeartbeats 4000000 in
set_option maxRecDepth 100000 in
theorem awake_any (w : World) : Calls Try.prog 33 #[] w fun e w' => e = .returned (.bool true) ∧ Below w.heap.size w w' := by
  have HC := Aside0.mk (twoO_C w)
  have HB : Aside0 (Below w.heap.size w (w.alloc (.cells #[.bool false, .string ⟨#[97]⟩, .string ⟨#[120, 121]⟩, .bool true, .string ⟨#[98]⟩, .string ⟨#[]⟩] 66))) := ⟨below_alloc (Below.refl _ _) _⟩
  go_enter Try.func33, Try.ntmps33
  go_wp2_with fail
  refine (call_enc7 _ _ _ HC.out (by decide)).mono ?_
  rintro e w1 ⟨rfl, hb⟩
  have C1 := Aside0.mk (Kd.C_below HC.out hb)
  have B1 := Aside0.mk (below_then HB.out HB.out.size hb)
  clear hb HC HB
  go_wp2_with fail
  refine (call_dec _).mono ?_
  rintro e w2 ⟨v, rfl, hR, hb⟩
  have C2 := Aside0.mk (Kd.C_below C1.out hb)
  have B2 := Aside0.mk (below_then B1.out B1.out.size hb)
  obtain ⟨A, c, hv, hc2, hD⟩ := Kd.R_reads hR
  rw [show twoO.length = 2 from rfl] at hv hc2 hD
  subst hv
  have D2 := Aside0.mk hD
  clear hb hR hD C1 B1
  go_wp2_with fail
  refine (call_dec2 _).mono ?_
  rintro e w3 ⟨v3, rfl, hb⟩
  have C3 := Aside0.mk (Kd.C_below C2.out hb)
  have D3 := Aside0.mk (Kd.C_below D2.out hb)
  have B3 := Aside0.mk (below_then B2.out B2.out.size hb)
  clear hb C2 B2 D2
  go_wp2_with fail
  refine (call_enc0 _ _ _ C3.out (by decide)).mono ?_
  rintro e w4 ⟨rfl, hb⟩
  have C4 := Aside0.mk (Kd.C_below C3.out hb)
  have D4 := Aside0.mk (Kd.C_below D3.out hb)
  have B4 := Aside0.mk (below_then B3.out B3.out.size hb)
  clear hb C3 B3 D3
  go_wp2_with fail
  refine (call_ent _ _ _ C4.out (by decide)).mono ?_
  rintro e w5 ⟨v5, rfl, hR, hb⟩
  have C5 := Aside0.mk (Kd.C_below C4.out hb)
  have D5 := Aside0.mk (Kd.C_below D4.out hb)
  have B5 := Aside0.mk (below_then B4.out B4.out.size hb)
  obtain ⟨g, cap, hv0, _, _, _⟩ := Kd.R_form hR (by decide)
  obtain ⟨A5, c5, hv, hc5, hE⟩ := Kd.R_reads hR
  rw [show (entFrom 7 twoO 0).length = 2 from rfl] at hv hc5 hE hv0
  subst hv
  injection hv0 with hA5 hl5 hc5b
  clear hl5 hc5b
  subst hA5
  have E5 := Aside0.mk hE
  clear hb hR hE C4 B4 D4
  go_wp2_with fail
  refine (call_same _ _ _ _ _ C5.out (by decide) D5.out hc2).mono ?_
  rintro e w6 ⟨rfl, hb⟩
  have C6 := Aside0.mk (Kd.C_below C5.out hb)
  have E6 := Aside0.mk (Kd.C_below E5.out hb)
  have B6 := Aside0.mk (below_then B5.out B5.out.size hb)
  obtain ⟨ad, had, y0, y1, y2, y3⟩ := at_T64 E6.out 1 (by decide) (by decide)
  obtain rfl := Option.some.inj had
  have x0 : w6.cell? ⟨g, 4, none⟩ = some (.string ⟨#[98]⟩) := y0
  have x1 : w6.cell? ⟨g, 5, none⟩ = some (.int .u64 8) := y1
  have x2 : w6.cell? ⟨g, 6, none⟩ = some (.bool true) := y2
  have x3 : w6.cell? ⟨g, 7, none⟩ = some (.string ⟨#[]⟩) := y3
  clear hb C5 B5 D5 E5 y0 y1 y2 y3 had E6
  go_wp2_with fail
  refine (call_may _ _ _ C6.out (by decide)).mono ?_
  rintro e w7 ⟨rfl, hb⟩
  have C7 := Aside0.mk (Kd.C_below C6.out hb)
  have B7 := Aside0.mk (below_then B6.out B6.out.size hb)
  clear hb C6 B6 x0 x1 x2 x3
  go_wp2_with fail
  refine (call_may0 _).mono ?_
  rintro e w8 ⟨rfl, hb⟩
  have C8 := Aside0.mk (Kd.C_below C7.out hb)
  have B8 := Aside0.mk (below_then B7.out B7.out.size hb)
  clear hb C7 B7
  go_wp2_with fail
  refine (call_size _ _ _ C8.out (by decide)).mono ?_
  rintro e w9 ⟨rfl, hb⟩
  have B9 := Aside0.mk (below_then B8.out B8.out.size hb)
  clear hb C8 B8
  go_wp2_with fail
  go_ret
  exact ⟨rfl, B9.out⟩
end Go.Proofs.Ytolningpngjhpaa.Bat
