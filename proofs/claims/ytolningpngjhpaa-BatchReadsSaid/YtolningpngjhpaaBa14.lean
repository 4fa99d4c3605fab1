/- The reference's Decode. -/
import Derived.Test.YtolningpngjhpaaBa13
namespace Go.Proofs.Ytolningpngjhpaa.Bat
open Go.RowKit Go.Proofs.YtolningpngjhpaaW.PrintWords Go.Proofs.YtolningpngjhpaaW.PrintLast Go.Proofs.YtolningpngjhpaaW.PrintMore
open Go.Proofs.Ytolningpngjhpaa.Nm
open Go.Proofs.Ytolningpngjhpaa.PBatchWrites (S66 k66 z66 rd_T66 at_T66 k66_mk k66_mkM k66_open)
set_option linter.unusedVariables false
set_option linter.unusedSimpArgs false

theorem str_cons_sz (b : UInt8) (t : List UInt8) : (str (b :: t)).size = t.length + 1 := by rw [str_size]; rfl
theorem str_cons_tail (b : UInt8) (t : List UInt8) : (str (b :: t)).extract 1 (str (b :: t)).size = str t := data_inj (by rw [str_list, Lib.extract_to_end, str_list]; rfl)
theorem str_cons_bt (b : UInt8) (t : List UInt8) : bt (str (b :: t)) 0 = (b.toNat : Int) := by
  have := bt_of (s := str (b :: t)) (i := 0) (c := b) (by rw [str_list]; rfl)
  simpa using this

set_option maxHeartbeats 4000000 in
set_option maxRecDepth 100000 in
theorem rdecode_any (s : List UInt8) (w : World) (hz : s.length ≤ 9223372036854775807) :
    Calls Try.prog 44 #[.string (str s)] w fun e w' => ∃ (n : Nat) (v : Value) (l : List S66) (x : Int), e = .returned (.tuple #[.int .u64 (n : Int), v, .int .i64 x]) ∧ Kd.R k66 66 w' w.heap.size (fun _ => True) v l ∧ Below w.heap.size w w' ∧
      (match refM s with | some (m, k) => n = m ∧ l = k ∧ x = 0 | none => n = 0 ∧ l = [] ∧ x = 2) := by
  obtain ⟨R, hR⟩ : ∃ R, R = refM s := ⟨_, rfl⟩
  rw [← hR]
  unfold refM at hR
  cases hq1 : take s with
  | none =>
    rw [hq1] at hR
    simp only at hR
    subst hR
    have HZ := Aside0.mk hz
    have HQ := Aside0.mk hq1
    clear hz hq1
    go_enter Try.func44, Try.ntmps44
    go_wp2_with fail
    refine (rtake_any s _ HZ.out).mono ?_
    rintro e w1 ⟨rfl, hb⟩
    rw [HQ.out]
    have B1 := Aside0.mk hb
    clear hb
    simp only
    go_wp2_with fail
    refine (rtake_any [] _ (Nat.zero_le _)).mono ?_
    rintro e w2 ⟨rfl, hb⟩
    have B2 := Aside0.mk (below_then B1.out B1.out.size hb)
    clear hb B1
    rw [show take [] = none by rfl]
    simp only
    go_wp2_with fail
    refine bodyPost_ret (results_tmp3 rfl _ _ _) rfl ?_
    exact ⟨0, _, [], 2, rfl, Kd.R_nil _ _ _ _ _, B2.out, rfl, rfl, rfl⟩
  | some x =>
    obtain ⟨n1, r⟩ := x
    rw [hq1] at hR
    simp only at hR
    obtain ⟨hn1, he1⟩ := (take_iff _ _ _).1 hq1
    have hrl : r.length ≤ 9223372036854775807 := by
      have := congrArg List.length he1
      rw [List.length_append] at this
      omega
    cases hq2 : take r with
    | none =>
      rw [hq2] at hR
      simp only at hR
      subst hR
      have HZ := Aside0.mk hz
      have HZ1 := Aside0.mk hrl
      have HQ := Aside0.mk hq1
      have HQ2 := Aside0.mk hq2
      clear hz hq1 hq2 hrl hn1 he1
      go_enter Try.func44, Try.ntmps44
      go_wp2_with fail
      refine (rtake_any s _ HZ.out).mono ?_
      rintro e w1 ⟨rfl, hb⟩
      rw [HQ.out]
      have B1 := Aside0.mk hb
      clear hb
      simp only
      go_wp2_with fail
      refine (rtake_any r _ HZ1.out).mono ?_
      rintro e w2 ⟨rfl, hb⟩
      have B2 := Aside0.mk (below_then B1.out B1.out.size hb)
      clear hb B1
      rw [HQ2.out]
      simp only
      go_wp2_with fail
      refine bodyPost_ret (results_tmp3 rfl _ _ _) rfl ?_
      exact ⟨0, _, [], 2, rfl, Kd.R_nil _ _ _ _ _, B2.out, rfl, rfl, rfl⟩
    | some y =>
      obtain ⟨m, q⟩ := y
      rw [hq2] at hR
      simp only at hR
      obtain ⟨hm, he2⟩ := (take_iff _ _ _).1 hq2
      have hql : q.length ≤ 9223372036854775807 := by
        have := congrArg List.length he2
        rw [List.length_append] at this
        omega
      have HZ := Aside0.mk hz
      have HZ1 := Aside0.mk hrl
      have HZ2 := Aside0.mk hql
      have HQ := Aside0.mk hq1
      have HQ2 := Aside0.mk hq2
      have HR := Aside0.mk hR
      have HN := Aside0.mk hn1
      clear hz hq1 hq2 hrl hn1 he1 hm he2 hql hR
      go_enter Try.func44, Try.ntmps44
      go_wp2_with fail
      refine (rtake_any s _ HZ.out).mono ?_
      rintro e w1 ⟨rfl, hb⟩
      rw [HQ.out]
      have B1 := Aside0.mk hb
      clear hb
      simp only
      go_wp2_with fail
      refine (rtake_any r _ HZ1.out).mono ?_
      rintro e w2 ⟨rfl, hb⟩
      have B2 := Aside0.mk (below_then B1.out B1.out.size hb)
      clear hb B1
      rw [HQ2.out]
      simp only
      by_cases h16 : 16 < m
      · have hR0 : R = none := by rw [HR.out, if_pos h16]
        subst hR0
        have d16 : decide ((16 : Int) < (m : Int)) = true := decide_eq_true (by omega)
        go_wp2_with fail
        refine bodyPost_ret (results_tmp3 rfl _ _ _) rfl ?_
        exact ⟨0, _, [], 2, rfl, Kd.R_nil _ _ _ _ _, B2.out, rfl, rfl, rfl⟩
      · have d16 : decide ((16 : Int) < (m : Int)) = false := decide_eq_false (by omega)
        have hR1 := HR.out
        rw [if_neg h16] at hR1
        replace HR := Aside0.mk hR1
        clear hR1
        have h16b : m ≤ 16 := by omega
        clear h16
        go_wp2_with ((with_reducible refine gate_dst (N := 41) rfl ?_); refine Kd.R_lit k66 w.heap.size 66 ?hg (N := 41) ?hd (xs := ([] : List S66)) (inner := []) (ok := fun _ => True) (okp := fun _ => True) ?hr ?hp (fun _ hk => hk) (by simp) B2.out B2.out.size (by simp) ?_; (case hd => rfl); (case hg => rfl); (case hr => first | (go_simp; done) | (go_simp; rfl)); (case hp => exact (Reps.none _ _)); intro v1 w3 ho hb hg_ hnew_)
        have HR1 := Aside0.mk ho
        have HB1 := Aside0.mk hb
        clear ho hb hg_ hnew_ B2
        obtain ⟨L, hL⟩ : ∃ L, L = rops m q [] := ⟨_, rfl⟩
        have hR2 := HR.out
        rw [← hL] at hR2
        replace HR := Aside0.mk hR2
        have HL := Aside0.mk hL
        clear hR2 hL d16
        go_loopg [0, 12, 13, 14, 15] (m + 1) (fun kq v0 v12 v13 v14 v15 w' => ∃ (i : Nat) (acc : List S66) (u : List UInt8), v0 = .string (str u) ∧ v13 = .int .u64 (i : Int) ∧ Aside0 (kq + i = m + 1) ∧ i ≤ m ∧ Aside0 (rops (m - i) u acc = L) ∧ Aside0 (acc.length = i) ∧ Aside0 (u.length ≤ 9223372036854775807) ∧ Aside0 (Kd.R k66 66 w' w.heap.size (fun _ => True) v12 acc) ∧ Aside0 (Below w.heap.size w w'))
        case atStart => exact ⟨0, [], q, rfl, rfl, ⟨rfl⟩, Nat.zero_le _, ⟨HL.out.symm⟩, ⟨rfl⟩, HZ2, HR1, HB1⟩
        case round =>
          clear HR1 HB1 HL
          obtain ⟨i, acc, u, rfl, rfl, HK, hi, HE, HA, HU, HRs, HB⟩ := hrel
          obtain ⟨Av, cp, hva, hcp, hC⟩ := Kd.R_reads HRs.out
          subst hva
          have HC := Aside0.mk hC
          clear hC
          by_cases hlt : i < m
          · obtain ⟨k1, rfl⟩ : ∃ m, gk = m + 1 := ⟨gk - 1, by have := HK.out; omega⟩
            obtain ⟨m1, hm1⟩ : ∃ m1, m - i = m1 + 1 := ⟨m - i - 1, by omega⟩
            have HM2 : Aside0 (m - (i + 1) = m1) := ⟨by omega⟩
            have d0 : decide (i < m) = true := decide_eq_true hlt
            have hE := HE.out
            rw [hm1] at hE
            clear hm1 HE
            cases u with
            | nil =>
              simp only [rops] at hE
              subst hE
              have hR0 : R = none := HR.out
              subst hR0
              have hz0 : (str []).size = 0 := str_size []
              go_wp2_with fail
              refine bodyPost_ret (results_tmp3 rfl _ _ _) rfl ?_
              exact ⟨0, _, [], 2, rfl, Kd.R_nil _ _ _ _ _, HB.out, rfl, rfl, rfl⟩
            | cons b t =>
              have htl : Aside0 (t.length ≤ 9223372036854775807) := ⟨by have := HU.out; simp at this; omega⟩
              have hsz : (str (b :: t)).size = t.length + 1 := str_cons_sz b t
              have htail := Aside0.mk (str_cons_tail b t)
              have hbt := str_cons_bt b t
              have hszb : (str (b :: t)).size ≤ 9223372036854775807 := by rw [str_size]; exact HU.out
              simp only [rops] at hE
              have HWR : Aside0 (w.heap.size ≤ wr.heap.size) := ⟨HB.out.size⟩
              generalize str (b :: t) = S at hsz htail hbt hszb ⊢
              have hsz0 : 0 < S.size := by omega
              clear hsz
              have HE := Aside0.mk hE
              clear hE HU
              have hcell : (S[0].toNat : Int) = (b.toNat : Int) := by rw [← hbt]; unfold bt; simp [hsz0]
              clear hbt
              have HRx := Aside0.mk (Kd.R_mono (Kd.R_bound HRs.out) (fun k hk => (by have := hk.2.1; omega : k ≠ wr.heap.size)))
              by_cases hb1 : b = 1
              · have hq0 : ((S[0].toNat : Int) == 1) = true := by rw [hcell, hb1]; rfl
                have hE := HE.out
                simp only [hb1, if_true] at hE
                replace HE := Aside0.mk hE
                clear hE hb1 hcell
                go_wp2_with fail
                rw [htail.out]
                try simp only [hq0]
                have X0 := Aside0.mk (blk_new wr (.cells #[.bool true, .string ⟨#[]⟩, .string ⟨#[]⟩] 66))
                have R0 := Aside0.mk (Kd.R_alloc HRx.out (.cells #[.bool true, .string ⟨#[]⟩, .string ⟨#[]⟩] 66))
                have B0 := Aside0.mk (below_alloc HB.out (.cells #[.bool true, .string ⟨#[]⟩, .string ⟨#[]⟩] 66))
                refine (rtaken_any t _ htl.out).mono ?_
                rintro e w4 ⟨rfl, hb⟩
                have X1 := Aside0.mk (blk_below X0.out hb)
                have R1 := Aside0.mk (Kd.R_below R0.out hb)
                have B1 := Aside0.mk (below_then B0.out B0.out.size hb)
                clear hb X0 R0 B0 HRs HRx HB HC hq0
                have f1 : w4.frozen? ⟨wr.heap.size, 1, none⟩ = false := blk_frozen X1.out 1
                have c0 : w4.cell? ⟨wr.heap.size, 0, none⟩ = some (.bool true) := blk_cell X1.out 0
                have c1 : w4.cell? ⟨wr.heap.size, 1, none⟩ = some (.string ⟨#[]⟩) := blk_cell X1.out 1
                have c2 : w4.cell? ⟨wr.heap.size, 2, none⟩ = some (.string ⟨#[]⟩) := blk_cell X1.out 2
                cases hk : tkT t with
                | none =>
                  have hE := HE.out
                  rw [hk] at hE
                  simp only at hE
                  subst hE
                  have hR0 : R = none := HR.out
                  subst hR0
                  clear hk HE
                  simp only [tkV]
                  go_wp2_with fail
                  refine bodyPost_ret (results_tmp3 rfl _ _ _) rfl ?_
                  exact ⟨0, _, [], 2, rfl, Kd.R_nil _ _ _ _ _, below_set B1.out (by exact HWR.out), rfl, rfl, rfl⟩
                | some z =>
                  obtain ⟨ka, ra⟩ := z
                  have hE := HE.out
                  rw [hk] at hE
                  simp only at hE
                  have hl1 := (tkT_len hk).1
                  have HRA : Aside0 (ra.length ≤ 9223372036854775807) := ⟨by have := htl.out; omega⟩
                  replace HE := Aside0.mk hE
                  clear hk hE hl1
                  simp only [tkV]
                  have hsz6 : (w4.setCell ⟨wr.heap.size, 1, none⟩ (.string (str ka))).heap.size = w4.heap.size := by simp
                  replace hsz6 := Aside0.mk hsz6
                  have R6 := Aside0.mk (Kd.R_far R1.out (fun _ hk => hk) (p := ⟨wr.heap.size, 1, none⟩) (.string (str ka)))
                  have B6 := Aside0.mk (below_set (g := wr.heap.size) (j := 1) (v := .string (str ka)) B1.out HWR.out)
                  go_wp2_with ((with_reducible refine gate_builtin (b := .append) (xs := #[.tmp 78, .tmp 80]) rfl ?_); generalize World.setCell w4 ⟨wr.heap.size, 1, none⟩ (.string (str ka)) = w6 at R6 B6 hsz6 ⊢; refine Kd.R_append k66 (w0 := w) w.heap.size (by rfl) (.tmp 78) (.tmp 80) 58 66 (.agg #[(.bool false), (.string ⟨#[]⟩), (.string ⟨#[]⟩)]) 40 rfl Try.underlying58 info66 rfl (by decide) (by omega) (.slice Av acc.length cp) acc (⟨true, str ka, ⟨#[]⟩⟩ : S66) [.bool true, .string (str ka), .string ⟨#[]⟩] (fun _ => True) (fun _ => False) rfl ?aX ?aP (fun _ hk => hk.elim) ?aF ?aO ?aB ?aS ?aL ?_)
                  (case aX => first | (rw [hsz6.out]; done) | (rw [hsz6.out]; rfl))
                  (case aP => exact k66_mkM _ _ _ (⟨true, str ka, ⟨#[]⟩⟩ : S66))
                  (case aF => exact fun _ _ => trivial)
                  (case aO => exact Kd.R_mono R6.out (fun _ _ => trivial))
                  (case aB => exact B6.out)
                  (try (case aS => exact B6.out.size))
                  (case aL => have := HA.out; omega)
                  intro v9 w9 ho hb hg9 hat9
                  have R9 := Aside0.mk ho
                  have B9 := Aside0.mk hb
                  clear ho hb hg9 hat9 R6 B6 hsz6 X1 R1 B1 c0 c1 c2 f1
                  go_wp2
                  go_roundg k1
                  case measure => omega
                  case rel => exact ⟨i + 1, acc ++ [(⟨true, str ka, ⟨#[]⟩⟩ : S66)], ra, rfl, by go_num, ⟨by have := HK.out; omega⟩, by omega, ⟨by rw [HM2.out]; exact HE.out⟩, ⟨by rw [List.length_append]; have := HA.out; simp; omega⟩, HRA, R9, B9⟩
              · have hq0 : ((S[0].toNat : Int) == 1) = false := by
                  rw [hcell, beq_eq_false_iff_ne]
                  intro h
                  exact hb1 (UInt8.toNat_inj.1 (by rw [show (1 : UInt8).toNat = 1 by rfl]; omega))
                have hE := HE.out
                simp only [hb1, if_false] at hE
                replace HE := Aside0.mk hE
                clear hE hb1 hcell
                go_wp2_with fail
                rw [htail.out]
                try simp only [hq0]
                have X0 := Aside0.mk (blk_new wr (.cells #[.bool false, .string ⟨#[]⟩, .string ⟨#[]⟩] 66))
                have R0 := Aside0.mk (Kd.R_alloc HRx.out (.cells #[.bool false, .string ⟨#[]⟩, .string ⟨#[]⟩] 66))
                have B0 := Aside0.mk (below_alloc HB.out (.cells #[.bool false, .string ⟨#[]⟩, .string ⟨#[]⟩] 66))
                refine (rtaken_any t _ htl.out).mono ?_
                rintro e w4 ⟨rfl, hb⟩
                have X1 := Aside0.mk (blk_below X0.out hb)
                have R1 := Aside0.mk (Kd.R_below R0.out hb)
                have B1 := Aside0.mk (below_then B0.out B0.out.size hb)
                clear hb X0 R0 B0 HRs HRx HB HC hq0
                have f1 : w4.frozen? ⟨wr.heap.size, 1, none⟩ = false := blk_frozen X1.out 1
                have c0 : w4.cell? ⟨wr.heap.size, 0, none⟩ = some (.bool false) := blk_cell X1.out 0
                have c1 : w4.cell? ⟨wr.heap.size, 1, none⟩ = some (.string ⟨#[]⟩) := blk_cell X1.out 1
                have c2 : w4.cell? ⟨wr.heap.size, 2, none⟩ = some (.string ⟨#[]⟩) := blk_cell X1.out 2
                cases hk : tkT t with
                | none =>
                  have hE := HE.out
                  rw [hk] at hE
                  simp only at hE
                  subst hE
                  have hR0 : R = none := HR.out
                  subst hR0
                  clear hk HE
                  simp only [tkV]
                  go_wp2_with fail
                  refine bodyPost_ret (results_tmp3 rfl _ _ _) rfl ?_
                  exact ⟨0, _, [], 2, rfl, Kd.R_nil _ _ _ _ _, below_set B1.out HWR.out, rfl, rfl, rfl⟩
                | some z =>
                  obtain ⟨ka, ra⟩ := z
                  have hE := HE.out
                  rw [hk] at hE
                  simp only at hE
                  have hl1 := (tkT_len hk).1
                  have HRA : Aside0 (ra.length ≤ 9223372036854775807) := ⟨by have := htl.out; omega⟩
                  replace HE := Aside0.mk hE
                  clear hk hE hl1
                  simp only [tkV]
                  go_wp2_with fail
                  have X2 := Aside0.mk (blk_set X1.out 1 (.string (str ka)))
                  have R2 := Aside0.mk (Kd.R_far R1.out (fun _ hk => hk) (p := ⟨wr.heap.size, 1, none⟩) (.string (str ka)))
                  have B2 := Aside0.mk (below_set (g := wr.heap.size) (j := 1) (v := .string (str ka)) B1.out HWR.out)
                  simp only [List.setIfInBounds_toArray, List.set_cons_zero, List.set_cons_succ] at X2
                  clear X1 R1 B1 f1 c0 c1 c2
                  refine (rtaken_any ra _ HRA.out).mono ?_
                  rintro e w5 ⟨rfl, hb⟩
                  have X3 := Aside0.mk (blk_below X2.out hb)
                  have R3 := Aside0.mk (Kd.R_below R2.out hb)
                  have B3 := Aside0.mk (below_then B2.out B2.out.size hb)
                  clear hb X2 R2 B2
                  have f2 : w5.frozen? ⟨wr.heap.size, 2, none⟩ = false := blk_frozen X3.out 2
                  have c0 : w5.cell? ⟨wr.heap.size, 0, none⟩ = some (.bool false) := blk_cell X3.out 0
                  have c1 : w5.cell? ⟨wr.heap.size, 1, none⟩ = some (.string (str ka)) := blk_cell X3.out 1
                  have c2 : w5.cell? ⟨wr.heap.size, 2, none⟩ = some (.string ⟨#[]⟩) := blk_cell X3.out 2
                  cases hk : tkT ra with
                  | none =>
                    have hE := HE.out
                    rw [hk] at hE
                    simp only at hE
                    subst hE
                    have hR0 : R = none := HR.out
                    subst hR0
                    clear hk HE
                    simp only [tkV]
                    go_wp2_with fail
                    refine bodyPost_ret (results_tmp3 rfl _ _ _) rfl ?_
                    exact ⟨0, _, [], 2, rfl, Kd.R_nil _ _ _ _ _, below_set B3.out HWR.out, rfl, rfl, rfl⟩
                  | some z =>
                    obtain ⟨kb, rb⟩ := z
                    have hE := HE.out
                    rw [hk] at hE
                    simp only at hE
                    have hl1 := (tkT_len hk).1
                    have HRB : Aside0 (rb.length ≤ 9223372036854775807) := ⟨by have := HRA.out; omega⟩
                    replace HE := Aside0.mk hE
                    clear hk hE hl1
                    simp only [tkV]
                    have hsz6 : (w5.setCell ⟨wr.heap.size, 2, none⟩ (.string (str kb))).heap.size = w5.heap.size := by simp
                    replace hsz6 := Aside0.mk hsz6
                    have R6 := Aside0.mk (Kd.R_far R3.out (fun _ hk => hk) (p := ⟨wr.heap.size, 2, none⟩) (.string (str kb)))
                    have B6 := Aside0.mk (below_set (g := wr.heap.size) (j := 2) (v := .string (str kb)) B3.out HWR.out)
                    go_wp2_with ((with_reducible refine gate_builtin (b := .append) (xs := #[.tmp 78, .tmp 80]) rfl ?_); generalize World.setCell w5 ⟨wr.heap.size, 2, none⟩ (.string (str kb)) = w6 at R6 B6 hsz6 ⊢; refine Kd.R_append k66 (w0 := w) w.heap.size (by rfl) (.tmp 78) (.tmp 80) 58 66 (.agg #[(.bool false), (.string ⟨#[]⟩), (.string ⟨#[]⟩)]) 40 rfl Try.underlying58 info66 rfl (by decide) (by omega) (.slice Av acc.length cp) acc (⟨false, str ka, str kb⟩ : S66) [.bool false, .string (str ka), .string (str kb)] (fun _ => True) (fun _ => False) rfl ?aX ?aP (fun _ hk => hk.elim) ?aF ?aO ?aB ?aS ?aL ?_)
                    (case aX => first | (rw [hsz6.out]; done) | (rw [hsz6.out]; rfl))
                    (case aP => exact k66_mkM _ _ _ (⟨false, str ka, str kb⟩ : S66))
                    (case aF => exact fun _ _ => trivial)
                    (case aO => exact Kd.R_mono R6.out (fun _ _ => trivial))
                    (case aB => exact B6.out)
                    (try (case aS => exact B6.out.size))
                    (case aL => have := HA.out; omega)
                    intro v9 w9 ho hb hg9 hat9
                    have R9 := Aside0.mk ho
                    have B9 := Aside0.mk hb
                    clear ho hb hg9 hat9 R6 B6 hsz6 X3 R3 B3 c0 c1 c2 f2
                    go_wp2
                    go_roundg k1
                    case measure => omega
                    case rel => exact ⟨i + 1, acc ++ [(⟨false, str ka, str kb⟩ : S66)], rb, rfl, by go_num, ⟨by have := HK.out; omega⟩, by omega, ⟨by rw [HM2.out]; exact HE.out⟩, ⟨by rw [List.length_append]; have := HA.out; simp; omega⟩, HRB, R9, B9⟩
          · have hE := HE.out
            rw [show m - i = 0 by omega, rops] at hE
            subst hE
            have d0 : decide (i < m) = false := decide_eq_false hlt
            have HEn := Aside0.mk (fun W h => rencode_any n1 Av cp acc W HN.out h hcp (by have := HA.out; omega))
            have hR3 := HR.out
            simp only at hR3
            replace HR := Aside0.mk hR3
            clear hR3
            obtain ⟨is, E, hE⟩ : ∃ is E, encM n1 acc = (is, E) := ⟨_, _, rfl⟩
            have hR3 := HR.out
            rw [hE] at HEn hR3
            simp only at HEn
            replace HR := Aside0.mk hR3
            clear hR3 hE
            go_wp2_with fail
            refine (HEn.out _ HC.out).mono ?_
            rintro e w4 ⟨rfl, hb⟩
            have R1 := Aside0.mk (Kd.R_below HRs.out hb)
            have B1 := Aside0.mk (below_then HB.out HB.out.size hb)
            clear hb HRs HB HC HEn
            by_cases he0 : E = 0
            · subst he0
              by_cases hs : is = str s
              · have hR0 : R = some (n1, acc) := by rw [HR.out, if_pos (by rw [hs])]
                subst hR0
                subst hs
                clear HR
                go_wp2_with fail
                refine bodyPost_ret (results_tmp3 rfl _ _ _) rfl ?_
                exact ⟨n1, _, acc, 0, rfl, R1.out, B1.out, rfl, rfl, rfl⟩
              · have hR0 : R = none := by rw [HR.out, if_neg (by simp [hs])]
                subst hR0
                clear HR
                have hl : (is.toList == (str s).toList) = false := by rw [beq_eq_false_iff_ne]; exact fun h => hs (toList_inj h)
                go_wp2_with fail
                refine bodyPost_ret (results_tmp3 rfl _ _ _) rfl ?_
                exact ⟨0, _, [], 2, rfl, Kd.R_nil _ _ _ _ _, B1.out, rfl, rfl, rfl⟩
            · have hR0 : R = none := by rw [HR.out, if_neg (by simp [he0])]
              subst hR0
              clear HR
              have he1 : (E == 0) = false := by rw [beq_eq_false_iff_ne]; exact he0
              go_wp2_with fail
              refine bodyPost_ret (results_tmp3 rfl _ _ _) rfl ?_
              exact ⟨0, _, [], 2, rfl, Kd.R_nil _ _ _ _ _, B1.out, rfl, rfl, rfl⟩
end Go.Proofs.Ytolningpngjhpaa.Bat
