/- The reference's Text and Encode. -/
import Derived.Test.YtolningpngjhpaaBa8
namespace Go.Proofs.Ytolningpngjhpaa.Bat
open Go.RowKit Go.Proofs.YtolningpngjhpaaW.PrintWords Go.Proofs.YtolningpngjhpaaW.PrintLast Go.Proofs.YtolningpngjhpaaW.PrintMore
open Go.Proofs.Ytolningpngjhpaa.Nm
open Go.Proofs.Ytolningpngjhpaa.PBatchWrites (S66 k66 z66 rd_T66 at_T66 k66_mk k66_mkM k66_open S64 k64 info64 k64_mkM)
set_option linter.unusedVariables false
set_option linter.unusedSimpArgs false

theorem list_size (s : ByteArray) : s.data.toList.length = s.size := by simp
set_option maxHeartbeats 4000000 in
set_option maxRecDepth 100000 in
theorem rtext_any (s : ByteArray) (w : World) (hs : s.size ≤ 100) :
    Calls Try.prog 63 #[.string s] w fun e w' => e = .returned (.string (str (txt s.data.toList))) ∧ Below w.heap.size w w' := by
  have hsl := short_len 9 s.size (by omega)
  have hsz : (str (short s.size)).size ≤ 10 := by rw [str_size]; exact hsl
  have he : str (short s.size) ++ s = str (txt s.data.toList) := by
    unfold txt
    rw [list_size, ← str_append, str_of]
  have HE := Aside0.mk he
  have hsum : (9223372036854775807 < (str (short s.size)).size + s.size) = False := eq_false (by omega)
  clear he hsl
  go_enter Try.func63, Try.ntmps63
  go_wp2_with fail
  refine (rshort_any s.size _ (by omega)).mono ?_
  rintro e w1 ⟨rfl, hb⟩
  have B1 := Aside0.mk hb
  clear hb
  go_wp2_with fail
  go_ret
  exact ⟨by rw [← HE.out]; rfl, B1.out⟩

set_option maxHeartbeats 8000000 in
set_option maxRecDepth 100000 in
theorem rencode_any (seq : Nat) (A : Option Addr) (c : Nat) (xs : List S66) (w : World) (hs : seq < 2 ^ 64) (hr : Kd.C k66 w A xs.length xs) (hc : xs.length ≤ c) (hl : xs.length ≤ 40) :
    Calls Try.prog 36 #[.int .u64 (seq : Int), .slice A xs.length c] w fun e w' => e = .returned (.tuple #[.string (encM seq xs).1, .int .i64 (encM seq xs).2]) ∧ Below w.heap.size w w' := by
  have HM := Aside0.mk (rmay_any A c xs w hr hc hl)
  have HR := Aside0.mk hr
  have HS := Aside0.mk hs
  by_cases hm : mayB xs = true
  · rw [hm] at HM
    have hlen := mayB_all hm
    have hx1 := hlen.1
    have hx16 := hlen.2.1
    by_cases hn : numB seq xs.length = true
    · have he : encM seq xs = (str (encB seq xs), 0) := by unfold encM; rw [if_pos hm, if_pos hn]
      rw [he]
      have HO : Aside0 (∀ x ∈ xs, oneB x = true) := ⟨hlen.2.2⟩
      obtain ⟨V, hV⟩ : ∃ V, V = encB seq xs := ⟨_, rfl⟩
      rw [← hV]
      have HV := Aside0.mk hV
      unfold numB at hn
      simp only [Bool.and_eq_true, decide_eq_true_eq] at hn
      obtain ⟨⟨n1, n2⟩, n3⟩ := hn
      have d1 : decide ((seq : Int) < 1) = false := decide_eq_false (by omega)
      have d2 : decide (1099511627776 - (xs.length : Int) + 1 < (seq : Int)) = false := decide_eq_false (by omega)
      clear hV hm he hlen hr hs
      have hsl : (short seq).length ≤ 10 := short_len 9 seq (by omega)
      have hnl : (short xs.length).length ≤ 10 := short_len 9 xs.length (by omega)
      have hs1 : (str (short seq)).size ≤ 10 := by rw [str_size]; exact hsl
      have hs2 : (str (short xs.length)).size ≤ 10 := by rw [str_size]; exact hnl
      have HSL := Aside0.mk hsl
      have HNL := Aside0.mk hnl
      have hsum : (9223372036854775807 < (str (short seq)).size + (str (short xs.length)).size) = False := eq_false (by omega)
      clear hsl hnl
      go_enter Try.func36, Try.ntmps36
      go_wp2_with fail
      refine HM.out.mono ?_
      rintro e w1 ⟨rfl, hb⟩
      have R1 := Aside0.mk (Kd.C_below HR.out hb)
      have B1 := Aside0.mk hb
      clear hb HR HM
      go_wp2_with fail
      refine (rshort_any seq _ HS.out).mono ?_
      rintro e w2 ⟨rfl, hb⟩
      have R2 := Aside0.mk (Kd.C_below R1.out hb)
      have B2 := Aside0.mk (below_then B1.out B1.out.size hb)
      clear hb R1 B1
      go_wp2_with fail
      refine (rshort_any xs.length _ (by omega)).mono ?_
      rintro e w3 ⟨rfl, hb⟩
      have R3 := Aside0.mk (Kd.C_below R2.out hb)
      have B3 := Aside0.mk (below_then B2.out B2.out.size hb)
      clear hb R2 B2
      go_wp2_with fail
      clear hsum hs1 hs2 d1 d2
      have e0 : Aside0 (str (short seq) ++ str (short xs.length) = str (short seq ++ short xs.length)) := ⟨str_append _ _⟩
      rw [e0.out]
      go_loopg [6, 7] (xs.length + 1) (fun kq v6 v7 w' => ∃ (i : Nat) (l : List UInt8), v7 = .int .i64 (i : Int) ∧ v6 = .string (str l) ∧ Aside0 (kq + i = xs.length + 1) ∧ i ≤ xs.length ∧ Aside0 (l ++ (xs.drop i).flatMap opB = V) ∧ Aside0 (l.length ≤ 20 + 300 * i) ∧ Aside0 (Kd.C k66 w' A xs.length xs) ∧ Aside0 (Below w.heap.size w w'))
      case atStart => exact ⟨0, _, rfl, rfl, ⟨rfl⟩, Nat.zero_le _, ⟨by rw [HV.out]; rfl⟩, ⟨by rw [List.length_append]; have := HSL.out; have := HNL.out; omega⟩, R3, B3⟩
      case round =>
        clear R3 B3
        obtain ⟨i, l, rfl, rfl, HK, hi, HE, HLl, HR, HB⟩ := hrel
        by_cases hlt : i < xs.length
        · obtain ⟨k1, rfl⟩ : ∃ m, gk = m + 1 := ⟨gk - 1, by have := HK.out; omega⟩
          obtain ⟨ad, hA, c0, c1, c2⟩ := at_T66 HR.out (i : Int) (by omega) (by omega)
          subst hA
          simp only [Int.toNat_natCast] at c0 c1 c2
          have hE := HE.out
          rw [flat_drop hlt, ← List.append_assoc] at hE
          have hx := HO.out _ (rd_mem hlt)
          have hln := opB_len hx
          have HOl : Aside0 ((rd_T66 xs (i : Int)).f1.size ≤ 100 ∧ (rd_T66 xs (i : Int)).f2.size ≤ 100) := ⟨(oneB_sz hx).2⟩
          obtain ⟨d, k, v, hxe⟩ : ∃ d k v, rd_T66 xs (i : Int) = ⟨d, k, v⟩ := ⟨_, _, _, rfl⟩
          rw [hxe] at c0 c1 c2 hE hln HOl
          simp only at c0 c1 c2
          have HE2 := Aside0.mk hE
          have HLn := Aside0.mk hln
          have hks : k.size ≤ 100 := HOl.out.1
          have hvs : v.size ≤ 100 := HOl.out.2
          have htk : (txt k.data.toList).length ≤ 110 := by have := txt_len k.data.toList (by rw [list_size]; omega); rw [list_size] at this; omega
          have htv : (txt v.data.toList).length ≤ 110 := by have := txt_len v.data.toList (by rw [list_size]; omega); rw [list_size] at this; omega
          have HTK : Aside0 ((str (txt k.data.toList)).size ≤ 110) := ⟨by rw [str_size]; exact htk⟩
          have HTV : Aside0 ((str (txt v.data.toList)).size ≤ 110) := ⟨by rw [str_size]; exact htv⟩
          have HLz : Aside0 ((str l).size ≤ 20 + 300 * i) := ⟨by rw [str_size]; exact HLl.out⟩
          clear hE hx hln hxe HE htk htv hks hvs
          cases d with
          | true =>
            go_wp2_with fail
            refine (rtext_any k _ HOl.out.1).mono ?_
            rintro e w4 ⟨rfl, hb⟩
            have R4 := Aside0.mk (Kd.C_below HR.out hb)
            have B4 := Aside0.mk (below_then HB.out HB.out.size hb)
            clear hb HR HB c0 c1 c2
            have q1 : (9223372036854775807 < 1 + (str (txt k.data.toList)).size) = False := eq_false (by have := HTK.out; omega)
            have q2 : (9223372036854775807 < (str l).size + (1 + (str (txt k.data.toList)).size)) = False := eq_false (by have := HTK.out; have := HLz.out; omega)
            go_wp2_with fail
            go_roundg k1
            case measure => omega
            case rel => exact ⟨i + 1, l ++ opB ⟨true, k, v⟩, by go_num, congrArg Value.string (by rw [show (⟨#[1]⟩ : ByteArray) = str [1] from rfl, str_append, str_append]; rfl), ⟨by have := HK.out; omega⟩, by omega, HE2, ⟨by rw [List.length_append]; have := HLl.out; have := HLn.out; omega⟩, R4, B4⟩
          | false =>
            go_wp2_with fail
            have q1 : (9223372036854775807 < 1 + (str (txt k.data.toList)).size) = False := eq_false (by have := HTK.out; omega)
            have q2 : (9223372036854775807 < 1 + (str (txt k.data.toList)).size + (str (txt v.data.toList)).size) = False := eq_false (by have := HTK.out; have := HTV.out; omega)
            have q3 : (9223372036854775807 < (str l).size + (1 + (str (txt k.data.toList)).size + (str (txt v.data.toList)).size)) = False := eq_false (by have := HTK.out; have := HTV.out; have := HLz.out; omega)
            refine start_ (n := 17) (S := fun w' => w'.cell? ⟨(ad.add (i * 3)).block, (ad.add (i * 3)).off + 1, none⟩ = some (.string k) ∧ w'.cell? ⟨(ad.add (i * 3)).block, (ad.add (i * 3)).off + 2, none⟩ = some (.string v)) (ds := []) #[false, false, false, false, false, false, false, false, false, false, false, false, false, false, false, false, false] (by kernel_rfl) rfl rfl ⟨c1, c2⟩ (fun hHeld => ?_)
            refine pure_ (i := 0) (N := some 49) (v := ?_) (a' := ?_) #[true, false, false, false, false, false, false, false, false, false, false, false, false, false, false, false, false] rfl rfl (by kernel_rfl) (fun _ _ _ h => h) (Or.inl ⟨by rfl, ?_⟩) ?_ ?_
            rotate_left
            · intro w'
              go_simp
              with_reducible rfl
            rotate_left
            · simp only [Act.put, List.setIfInBounds_toArray, List.set_cons_zero, List.set_cons_succ, i64_w, i32_w]
              rfl
            refine pure_ (i := 1) (N := some 50) (v := ?_) (a' := ?_) #[true, true, false, false, false, false, false, false, false, false, false, false, false, false, false, false, false] rfl rfl (by kernel_rfl) (fun _ _ _ h => h) (Or.inl ⟨by rfl, ?_⟩) ?_ ?_
            rotate_left
            · intro w'
              go_simp
              with_reducible rfl
            rotate_left
            · simp only [Act.put, List.setIfInBounds_toArray, List.set_cons_zero, List.set_cons_succ, i64_w, i32_w]
              rfl
            refine pure_ (i := 2) (N := some 51) (v := ?_) (a' := ?_) #[true, true, true, false, false, false, false, false, false, false, false, false, false, false, false, false, false] rfl rfl (by kernel_rfl) (fun _ _ _ h => h) (Or.inl ⟨by rfl, ?_⟩) ?_ ?_
            rotate_left
            · intro w'
              go_simp
              with_reducible rfl
            rotate_left
            · simp only [Act.put, List.setIfInBounds_toArray, List.set_cons_zero, List.set_cons_succ, i64_w, i32_w]
              rfl
            refine pure_ (i := 3) (N := some 52) (v := ?_) (a' := ?_) #[true, true, true, true, false, false, false, false, false, false, false, false, false, false, false, false, false] rfl rfl (by kernel_rfl) (fun _ _ _ h => h) (Or.inl ⟨by rfl, ?_⟩) ?_ ?_
            rotate_left
            · intro w'
              go_simp
              with_reducible rfl
            rotate_left
            · simp only [Act.put, List.setIfInBounds_toArray, List.set_cons_zero, List.set_cons_succ, i64_w, i32_w]
              rfl
            refine pure_ (i := 4) (N := some 53) (v := ?_) (a' := ?_) #[true, true, true, true, true, false, false, false, false, false, false, false, false, false, false, false, false] rfl rfl (by kernel_rfl) (fun _ _ _ h => h) (Or.inl ⟨by rfl, ?_⟩) ?_ ?_
            rotate_left
            · intro w'
              go_simp
              with_reducible rfl
            rotate_left
            · simp only [Act.put, List.setIfInBounds_toArray, List.set_cons_zero, List.set_cons_succ, i64_w, i32_w]
              rfl
            refine pure_ (i := 8) (N := some 57) (v := ?_) (a' := ?_) #[true, true, true, true, true, false, false, false, true, false, false, false, false, false, false, false, false] rfl rfl (by kernel_rfl) (fun _ _ _ h => h) (Or.inl ⟨by rfl, ?_⟩) ?_ ?_
            rotate_left
            · intro w'
              go_simp
              with_reducible rfl
            rotate_left
            · simp only [Act.put, List.setIfInBounds_toArray, List.set_cons_zero, List.set_cons_succ, i64_w, i32_w]
              rfl
            refine pure_ (i := 9) (N := some 58) (v := ?_) (a' := ?_) #[true, true, true, true, true, false, false, false, true, true, false, false, false, false, false, false, false] rfl rfl (by kernel_rfl) (fun _ _ _ h => h) (Or.inl ⟨by rfl, ?_⟩) ?_ ?_
            rotate_left
            · intro w'
              go_simp
              with_reducible rfl
            rotate_left
            · simp only [Act.put, List.setIfInBounds_toArray, List.set_cons_zero, List.set_cons_succ, i64_w, i32_w]
              rfl
            refine pure_ (i := 10) (N := some 59) (v := ?_) (a' := ?_) #[true, true, true, true, true, false, false, false, true, true, true, false, false, false, false, false, false] rfl rfl (by kernel_rfl) (fun _ _ _ h => h) (Or.inl ⟨by rfl, ?_⟩) ?_ ?_
            rotate_left
            · intro w'
              go_simp
              with_reducible rfl
            rotate_left
            · simp only [Act.put, List.setIfInBounds_toArray, List.set_cons_zero, List.set_cons_succ, i64_w, i32_w]
              rfl
            refine pure_ (i := 11) (N := some 60) (v := ?_) (a' := ?_) #[true, true, true, true, true, false, false, false, true, true, true, true, false, false, false, false, false] rfl rfl (by kernel_rfl) (fun _ _ _ h => h) (Or.inl ⟨by rfl, ?_⟩) ?_ ?_
            rotate_left
            · intro w'
              go_simp
              with_reducible rfl
            rotate_left
            · simp only [Act.put, List.setIfInBounds_toArray, List.set_cons_zero, List.set_cons_succ, i64_w, i32_w]
              rfl
            refine take_ (i := 5) (N := some 54) (v := ?_) (a' := ?_) #[true, true, true, true, true, true, false, false, true, true, true, true, false, false, false, false, false] rfl rfl (by kernel_rfl) (fun _ _ _ h => h) (Or.inl ⟨by rfl, ?_⟩) hHeld ?_ ?_
            rotate_left
            · rintro w' ⟨s0, s1⟩
              go_simp
              with_reducible rfl
            rotate_left
            · simp only [Act.put, List.setIfInBounds_toArray, List.set_cons_zero, List.set_cons_succ, i64_w, i32_w]
              rfl
            refine take_ (i := 12) (N := some 61) (v := ?_) (a' := ?_) #[true, true, true, true, true, true, false, false, true, true, true, true, true, false, false, false, false] rfl rfl (by kernel_rfl) (fun _ _ _ h => h) (Or.inl ⟨by rfl, ?_⟩) hHeld ?_ ?_
            rotate_left
            · rintro w' ⟨s0, s1⟩
              go_simp
              with_reducible rfl
            rotate_left
            · simp only [Act.put, List.setIfInBounds_toArray, List.set_cons_zero, List.set_cons_succ, i64_w, i32_w]
              rfl
            refine one_ (i := 6) (N := some 55) #[true, true, true, true, true, true, true, false, true, true, true, true, true, false, false, false, false] rfl rfl (by kernel_rfl) (by decide) (fun K hK => ?_)
            refine goes_ Try.func63 (by kernel_rfl) rfl #[.string k] (by rfl) rfl rfl (by simp only [List.map_toArray, List.map_cons, List.map_nil]; rfl) ?_
            with_reducible refine (rtext_any k _ HOl.out.1).mono ?_
            rintro e w4 ⟨rfl, hb⟩
            refine ⟨_, rfl, ?_⟩
            have k4 : w4.cell? ⟨(ad.add (i * 3)).block, (ad.add (i * 3)).off + 1, none⟩ = some (.string k) := (hb.cell (World.block_lt_of_cell? _ _ c1)).trans c1
            have v4 : w4.cell? ⟨(ad.add (i * 3)).block, (ad.add (i * 3)).off + 2, none⟩ = some (.string v) := (hb.cell (World.block_lt_of_cell? _ _ c2)).trans c2
            have B4 := Aside0.mk (below_step (below_drew HB.out) hb)
            have R4 := Aside0.mk (Kd.C_below (Kd.C_drew HR.out) hb)
            clear hb
            refine hK.out _ _ ⟨k4, v4⟩ (fun hHeld => ?_)
            clear hK K
            refine norm_ (a' := ?_) ?_ ?_
            rotate_left
            · show Act.put _ (some 55) _ = _
              simp only [Act.put, List.setIfInBounds_toArray, List.set_cons_zero, List.set_cons_succ, i64_w, i32_w]
              rfl
            refine pure_ (i := 7) (N := some 56) (v := ?_) (a' := ?_) #[true, true, true, true, true, true, true, true, true, true, true, true, true, false, false, false, false] rfl rfl (by kernel_rfl) (fun _ _ _ h => h) (Or.inl ⟨by rfl, ?_⟩) ?_ ?_
            rotate_left
            · intro w'
              go_simp
              with_reducible rfl
            rotate_left
            · simp only [Act.put, List.setIfInBounds_toArray, List.set_cons_zero, List.set_cons_succ, i64_w, i32_w]
              rfl
            refine one_ (i := 13) (N := some 62) #[true, true, true, true, true, true, true, true, true, true, true, true, true, true, false, false, false] rfl rfl (by kernel_rfl) (by decide) (fun K hK => ?_)
            refine goes_ Try.func63 (by kernel_rfl) rfl #[.string v] (by rfl) rfl rfl (by simp only [List.map_toArray, List.map_cons, List.map_nil]; rfl) ?_
            with_reducible refine (rtext_any v _ HOl.out.2).mono ?_
            rintro e w5 ⟨rfl, hb⟩
            refine ⟨_, rfl, ?_⟩
            have k5 : w5.cell? ⟨(ad.add (i * 3)).block, (ad.add (i * 3)).off + 1, none⟩ = some (.string k) := (hb.cell (World.block_lt_of_cell? _ _ k4)).trans k4
            have v5 : w5.cell? ⟨(ad.add (i * 3)).block, (ad.add (i * 3)).off + 2, none⟩ = some (.string v) := (hb.cell (World.block_lt_of_cell? _ _ v4)).trans v4
            have B5 := Aside0.mk (below_step B4.out hb)
            have R5 := Aside0.mk (Kd.C_below R4.out hb)
            clear hb
            refine hK.out _ _ ⟨k5, v5⟩ (fun hHeld => ?_)
            clear hK K
            refine norm_ (a' := ?_) ?_ ?_
            rotate_left
            · show Act.put _ (some 62) _ = _
              simp only [Act.put, List.setIfInBounds_toArray, List.set_cons_zero, List.set_cons_succ, i64_w, i32_w]
              rfl
            refine pure_ (i := 14) (N := some 63) (v := ?_) (a' := ?_) #[true, true, true, true, true, true, true, true, true, true, true, true, true, true, true, false, false] rfl rfl (by kernel_rfl) (fun _ _ _ h => h) (Or.inl ⟨by rfl, ?_⟩) ?_ ?_
            rotate_left
            · intro w'
              go_simp
              with_reducible rfl
            rotate_left
            · simp only [Act.put, List.setIfInBounds_toArray, List.set_cons_zero, List.set_cons_succ, i64_w, i32_w]
              rfl
            refine pure_ (i := 15) (N := some 64) (v := ?_) (a' := ?_) #[true, true, true, true, true, true, true, true, true, true, true, true, true, true, true, true, false] rfl rfl (by kernel_rfl) (fun _ _ _ h => h) (Or.inl ⟨by rfl, ?_⟩) ?_ ?_
            rotate_left
            · intro w'
              go_simp
              with_reducible rfl
            rotate_left
            · simp only [Act.put, List.setIfInBounds_toArray, List.set_cons_zero, List.set_cons_succ, i64_w, i32_w]
              rfl
            refine pure_ (i := 16) (N := some 6) (v := ?_) (a' := ?_) #[true, true, true, true, true, true, true, true, true, true, true, true, true, true, true, true, true] rfl rfl (by kernel_rfl) (fun _ _ _ h => h) (Or.inl ⟨by rfl, ?_⟩) ?_ ?_
            rotate_left
            · intro w'
              go_simp
              with_reducible rfl
            rotate_left
            · simp only [Act.put, List.setIfInBounds_toArray, List.set_cons_zero, List.set_cons_succ, i64_w, i32_w]
              rfl
            refine done_ (by kernel_rfl) ?_

            clear q1 q2 q3
            go_wp2_with fail
            go_roundg k1
            case measure => omega
            case rel => exact ⟨i + 1, l ++ opB ⟨false, k, v⟩, by go_num, congrArg Value.string (by rw [show (⟨#[0]⟩ : ByteArray) = str [0] from rfl, str_append, str_append, str_append]; simp [opB]), ⟨by have := HK.out; omega⟩, by omega, HE2, ⟨by rw [List.length_append]; have := HLl.out; have := HLn.out; omega⟩, R5, B5⟩
        · have hE := HE.out
          rw [List.drop_eq_nil_of_le (by omega), List.flatMap_nil, List.append_nil] at hE
          subst hE
          go_wp2_with fail
          go_ret2
          exact ⟨rfl, HB.out⟩
    · have he : encM seq xs = (⟨#[]⟩, 3) := by unfold encM; rw [if_pos hm, if_neg hn]
      rw [he]
      have hnn : ¬ (0 < seq ∧ seq + xs.length ≤ 1099511627777) := fun h => hn (by unfold numB; simp only [Bool.and_eq_true, decide_eq_true_eq]; omega)
      clear hn he hm hlen hr
      by_cases h0 : seq = 0
      · subst h0
        clear hnn hs HS
        go_enter Try.func36, Try.ntmps36
        go_wp2_with fail
        refine HM.out.mono ?_
        rintro e w1 ⟨rfl, hb⟩
        have B1 := Aside0.mk hb
        clear hb HR HM
        go_wp2_with fail
        go_ret2
        exact ⟨rfl, B1.out⟩
      · have d1 : decide ((seq : Int) < 1) = false := decide_eq_false (by omega)
        have d2 : decide (1099511627776 - (xs.length : Int) + 1 < (seq : Int)) = true := decide_eq_true (by omega)
        clear hnn hs
        go_enter Try.func36, Try.ntmps36
        go_wp2_with fail
        refine HM.out.mono ?_
        rintro e w1 ⟨rfl, hb⟩
        have B1 := Aside0.mk hb
        clear hb HR HM
        go_wp2_with fail
        go_ret2
        exact ⟨rfl, B1.out⟩
  · have he : encM seq xs = (⟨#[]⟩, 2) := by unfold encM; rw [if_neg hm]
    rw [he]
    have hmb : mayB xs = false := by simpa using hm
    rw [hmb] at HM
    clear hr hm he hs hmb
    go_enter Try.func36, Try.ntmps36
    go_wp2_with fail
    refine HM.out.mono ?_
    rintro e w1 ⟨rfl, hb⟩
    have B1 := Aside0.mk hb
    clear hb HM
    go_wp2_with fail
    go_ret2
    exact ⟨rfl, B1.out⟩
end Go.Proofs.Ytolningpngjhpaa.Bat
