/- col.Unlock. -/
import Derived.Test.YtolningpngjhpaaCo5
import Derived.Handy
import Derived.Outline
namespace Go.Proofs.Ytolningpngjhpaa.Col
open Go.RowKit Go.Proofs.YtolningpngjhpaaW.PrintWords Go.Proofs.YtolningpngjhpaaW.PrintLast Go.Proofs.YtolningpngjhpaaW.PrintMore
open Go.Proofs.Ytolningpngjhpaa.Nm Go.Proofs.Ytolningpngjhpaa.PColWrites
set_option linter.unusedVariables false
set_option linter.unusedSimpArgs false

/-- Which lock bytes are. -/
def unlockM (s : ByteArray) : Option (ByteArray × Nat × Nat × Nat) := match s.data.toList with
  | [] => none
  | c :: t => match numsM 2 t with
    | none => none
    | some (l, r) => if lockM (str r) (l.getD 0 0 : Nat) (c.toNat : Nat) (l.getD 1 0 : Nat) = (s, 0) then some (str r, l.getD 0 0, c.toNat, l.getD 1 0) else none
def lockV (o : Option (ByteArray × Nat × Nat × Nat)) : Value := match o with
  | some (p, a, k, b) => .tuple #[.agg #[.string p, .int .u64 (a : Int), .int .i64 (k : Int), .int .u64 (b : Int)], .int .i64 0]
  | none => .tuple #[.agg #[.string ⟨#[]⟩, .int .u64 0, .int .i64 0, .int .u64 0], .int .i64 2]
theorem unlock_f (s : ByteArray) (c : UInt8) (t : List UInt8) (hs : s.data.toList = c :: t) : unlockM s = match numsM 2 t with
    | none => none
    | some (l, r) => if lockM (str r) (l.getD 0 0 : Nat) (c.toNat : Nat) (l.getD 1 0 : Nat) = (s, 0) then some (str r, l.getD 0 0, c.toNat, l.getD 1 0) else none := by
  unfold unlockM
  rw [hs]

theorem one_block {w w1 : World} {c : Array Value} {t : TypeId} (hb : Below (w.alloc (.cells c t)).heap.size (w.alloc (.cells c t)) w1) :
    (∀ j : Nat, w1.cell? ⟨w.heap.size, j, none⟩ = c[j]?) ∧ (∀ j : Nat, w1.frozen? ⟨w.heap.size, j, none⟩ = false) ∧ w.heap.size < w1.heap.size ∧ Below w.heap.size w w1 := by
  refine ⟨fun j => ?_, fun j => ?_, ?_, ?_⟩
  · rw [hb.cell (p := ⟨w.heap.size, j, none⟩) (by simp), World.cell?_alloc_new]
  · rw [hb.frozen (p := ⟨w.heap.size, j, none⟩) (by simp)]
    go_simp
  · have := hb.size
    simp at this
    omega
  · exact ((Below.refl w.heap.size w).alloc (Nat.le_refl _) _).trans (hb.mono (by simp))
theorem head_of (s : ByteArray) (h : 0 < s.size) : ∃ t, s.data.toList = s[0] :: t ∧ (s.extract 1 s.size).data.toList = t := by
  have hb : s.data.toList = s[0] :: s.data.toList.drop 1 := by
    have := List.drop_eq_getElem_cons (l := s.data.toList) (i := 0) (by rw [data_length]; exact h)
    exact this
  exact ⟨_, hb, Lib.extract_to_end s 1⟩
theorem checkedLock_v (c : Prop) [Decidable c] (p : ByteArray) (st k at_ : Int) : ∃ (P : ByteArray) (A K B E : Int), (if c then Value.tuple #[.agg #[.string p, .int .u64 st, .int .i64 k, .int .u64 at_], .int .i64 0] else .tuple #[.agg #[.string ⟨#[]⟩, .int .u64 0, .int .i64 0, .int .u64 0], .int .i64 2]) = .tuple #[.agg #[.string P, .int .u64 A, .int .i64 K, .int .u64 B], .int .i64 E] := by
  split
  · exact ⟨_, _, _, _, _, rfl⟩
  · exact ⟨_, _, _, _, _, rfl⟩

set_option maxHeartbeats 4000000 in
set_option maxRecDepth 100000 in
theorem unlock_any (s : ByteArray) (w : World) (hz : s.size ≤ 9223372036854775807) :
    Calls Try.prog 26 #[.string s] w fun e w' => e = .returned (lockV (unlockM s)) ∧ Below w.heap.size w w' := by
  by_cases h0 : 0 < s.size
  · obtain ⟨t, hs, ht⟩ := head_of s h0
    have htz : (s.extract 1 s.size).size ≤ 9223372036854775807 := by rw [← data_length, ht]; have := data_length s; rw [hs] at this; simp at this; omega
    have hne : s.toList.isEmpty = false := by rw [ByteArray.toList_eq, hs]; rfl
    rw [unlock_f s _ t hs]
    have HZ := Aside0.mk htz
    cases hn : numsM 2 t with
    | none =>
      rw [← ht] at hn
      have HN := Aside0.mk hn
      clear hn htz ht hs
      simp only
      show Calls Try.prog 26 #[.string s] w fun e w' => e = .returned (.tuple #[.agg #[.string ⟨#[]⟩, .int .u64 0, .int .i64 0, .int .u64 0], .int .i64 2]) ∧ Below w.heap.size w w'
      go_enter Try.func26, Try.ntmps26
      go_wp2_with (go_at_call 53; refine (numbers_none _ 2 (by decide) HZ.out HN.out _).mono ?_; rintro e w1 ⟨⟨v, rfl⟩, hb1⟩; obtain ⟨hc, hf, hz1, hB1⟩ := one_block hb1; have c0 : w1.cell? ⟨w.heap.size, 0, none⟩ = some (.string ⟨#[]⟩) := hc 0; have c1 : w1.cell? ⟨w.heap.size, 1, none⟩ = some (.int .u64 0) := hc 1; have c2 : w1.cell? ⟨w.heap.size, 2, none⟩ = some (.int .i64 0) := hc 2; have c3 : w1.cell? ⟨w.heap.size, 3, none⟩ = some (.int .u64 0) := hc 3; have f0 : w1.frozen? ⟨w.heap.size, 0, none⟩ = false := hf 0; have f1 : w1.frozen? ⟨w.heap.size, 1, none⟩ = false := hf 1; have f2 : w1.frozen? ⟨w.heap.size, 2, none⟩ = false := hf 2; have f3 : w1.frozen? ⟨w.heap.size, 3, none⟩ = false := hf 3; clear hc hf)
      refine bodyPost_ret (v := .tuple #[.agg #[.string ⟨#[]⟩, .int .u64 0, .int .i64 0, .int .u64 0], .int .i64 2]) ?_ rfl ⟨?_, ?_⟩
      · simp [results, Try.results26, go_sem, *]
      · rfl
      clear hb1
      repeat (first | refine Below.setCell ?_ ?_ _ | refine Below.alloc ?_ ?_ _)
      all_goals first | exact hB1 | (simp; done) | (simp; omega) | omega
    | some x =>
      obtain ⟨l, r⟩ := x
      have hl := numsM_len _ _ _ _ hn
      obtain ⟨a, b, rfl⟩ : ∃ a b, l = [a, b] := by
        match l, hl.1 with
        | [a, b], _ => exact ⟨a, b, rfl⟩
      have ha : a < 2 ^ 64 := hl.2 a (by simp)
      have hb : b < 2 ^ 64 := hl.2 b (by simp)
      rw [← ht] at hn
      have HN := Aside0.mk hn
      have HA := Aside0.mk ha
      have HBn := Aside0.mk hb
      clear hn htz ht hs hl ha hb
      simp only [List.getD_cons_zero, List.getD_cons_succ]
      obtain ⟨P, A, K, B, E, hv⟩ := checkedLock_v (lockM (str r) (a : Int) (s[0].toNat : Int) (b : Int) = (s, 0)) (str r) a s[0].toNat b
      have hw : lockV (if lockM (str r) (a : Int) (s[0].toNat : Int) (b : Int) = (s, 0) then some (str r, a, s[0].toNat, b) else none) = .tuple #[.agg #[.string P, .int .u64 A, .int .i64 K, .int .u64 B], .int .i64 E] := by
        rw [← hv]
        split <;> rfl
      rw [hw]
      have HV := Aside0.mk hv
      clear hv hw
      go_enter Try.func26, Try.ntmps26
      go_wp2_with (go_at_call 53; refine (numbers_some _ 2 [a, b] r (by decide) (by decide) HZ.out HN.out _).mono ?_; rintro e w1 ⟨g, cap, rfl, hq, hg1, hg2, hb1⟩; obtain ⟨hc, hf, hz1, hB1⟩ := one_block hb1; have q0 : w1.cell? ⟨g, 0, none⟩ = some (.int .u64 (a : Int)) := hq 0 a rfl; have q1 : w1.cell? ⟨g, 1, none⟩ = some (.int .u64 (b : Int)) := hq 1 b rfl; have c0 : w1.cell? ⟨w.heap.size, 0, none⟩ = some (.string ⟨#[]⟩) := hc 0; have c1 : w1.cell? ⟨w.heap.size, 1, none⟩ = some (.int .u64 0) := hc 1; have c2 : w1.cell? ⟨w.heap.size, 2, none⟩ = some (.int .i64 0) := hc 2; have c3 : w1.cell? ⟨w.heap.size, 3, none⟩ = some (.int .u64 0) := hc 3; have f0 : w1.frozen? ⟨w.heap.size, 0, none⟩ = false := hf 0; have f1 : w1.frozen? ⟨w.heap.size, 1, none⟩ = false := hf 1; have f2 : w1.frozen? ⟨w.heap.size, 2, none⟩ = false := hf 2; have f3 : w1.frozen? ⟨w.heap.size, 3, none⟩ = false := hf 3; clear hc hf)
      have hcl := fun W => checkedLock_any (str r) s a s[0].toNat b W (by omega) (by have := HA.out; omega) (by omega) (by have := HBn.out; omega)
      simp only [HV.out] at hcl
      have HW8 := Aside0.mk (show wrap64 (s[0].toNat : Int) = (s[0].toNat : Int) by have := s[0].toNat_lt; unfold wrap64; omega)
      refine start_ (n := 17) (S := fun w' => w'.cell? ⟨g, 0, none⟩ = some (.int .u64 (a : Int)) ∧ w'.cell? ⟨g, 1, none⟩ = some (.int .u64 (b : Int))) (ds := [12, 15]) #[false, false, false, false, false, false, false, false, false, false, false, false, false, false, false, false, false] (by kernel_rfl) rfl rfl ⟨q0, q1⟩ (fun hHeld => ?_)
      refine pure_ (i := 0) (N := some 20) (v := ?_) (a' := ?_) #[true, false, false, false, false, false, false, false, false, false, false, false, false, false, false, false, false] rfl rfl (by kernel_rfl) (fun _ _ _ h => h) (Or.inl ⟨by rfl, ?_⟩) ?_ ?_
      rotate_left
      · intro w'
        go_simp
        with_reducible rfl
      rotate_left
      · simp only [Act.put, List.setIfInBounds_toArray, List.set_cons_zero, List.set_cons_succ, i64_w, i32_w]
        rfl
      refine pure_ (i := 1) (N := some 21) (v := ?_) (a' := ?_) #[true, true, false, false, false, false, false, false, false, false, false, false, false, false, false, false, false] rfl rfl (by kernel_rfl) (fun _ _ _ h => h) (Or.inl ⟨by rfl, ?_⟩) ?_ ?_
      rotate_left
      · intro w'
        go_simp
        with_reducible rfl
      rotate_left
      · simp only [Act.put, List.setIfInBounds_toArray, List.set_cons_zero, List.set_cons_succ, i64_w, i32_w]
        rfl
      refine pure_ (i := 2) (N := some 22) (v := ?_) (a' := ?_) #[true, true, true, false, false, false, false, false, false, false, false, false, false, false, false, false, false] rfl rfl (by kernel_rfl) (fun _ _ _ h => h) (Or.inl ⟨by rfl, ?_⟩) ?_ ?_
      rotate_left
      · intro w'
        go_simp
        with_reducible rfl
      rotate_left
      · simp only [Act.put, List.setIfInBounds_toArray, List.set_cons_zero, List.set_cons_succ, i64_w, i32_w]
        rfl
      refine pure_ (i := 4) (N := some 24) (v := ?_) (a' := ?_) #[true, true, true, false, true, false, false, false, false, false, false, false, false, false, false, false, false] rfl rfl (by kernel_rfl) (fun _ _ _ h => h) (Or.inl ⟨by rfl, ?_⟩) ?_ ?_
      rotate_left
      · intro w'
        go_simp
        with_reducible rfl
      rotate_left
      · simp only [Act.put, List.setIfInBounds_toArray, List.set_cons_zero, List.set_cons_succ, i64_w, i32_w]
        rfl
      refine pure_ (i := 7) (N := some 27) (v := ?_) (a' := ?_) #[true, true, true, false, true, false, false, true, false, false, false, false, false, false, false, false, false] rfl rfl (by kernel_rfl) (fun _ _ _ h => h) (Or.inl ⟨by rfl, ?_⟩) ?_ ?_
      rotate_left
      · intro w'
        go_simp
        with_reducible rfl
      rotate_left
      · simp only [Act.put, List.setIfInBounds_toArray, List.set_cons_zero, List.set_cons_succ, i64_w, i32_w]
        rfl
      refine pure_ (i := 8) (N := some 28) (v := ?_) (a' := ?_) #[true, true, true, false, true, false, false, true, true, false, false, false, false, false, false, false, false] rfl rfl (by kernel_rfl) (fun _ _ _ h => h) (Or.inl ⟨by rfl, ?_⟩) ?_ ?_
      rotate_left
      · intro w'
        go_simp
        with_reducible rfl
      rotate_left
      · simp only [Act.put, List.setIfInBounds_toArray, List.set_cons_zero, List.set_cons_succ, i64_w, i32_w]
        rfl
      refine pure_ (i := 11) (N := some 31) (v := ?_) (a' := ?_) #[true, true, true, false, true, false, false, true, true, false, false, true, false, false, false, false, false] rfl rfl (by kernel_rfl) (fun _ _ _ h => h) (Or.inl ⟨by rfl, ?_⟩) ?_ ?_
      rotate_left
      · intro w'
        go_simp
        with_reducible rfl
      rotate_left
      · simp only [Act.put, List.setIfInBounds_toArray, List.set_cons_zero, List.set_cons_succ, i64_w, i32_w]
        rfl
      refine take_ (i := 3) (N := some 23) (v := ?_) (a' := ?_) #[true, true, true, true, true, false, false, true, true, false, false, true, false, false, false, false, false] rfl rfl (by kernel_rfl) (fun _ _ _ h => h) (Or.inl ⟨by rfl, ?_⟩) hHeld ?_ ?_
      rotate_left
      · rintro w' ⟨s0, s1⟩
        go_simp
        with_reducible rfl
      rotate_left
      · simp only [Act.put, List.setIfInBounds_toArray, List.set_cons_zero, List.set_cons_succ, i64_w, i32_w]
        rfl
      refine take_ (i := 5) (N := some 25) (v := ?_) (a' := ?_) #[true, true, true, true, true, true, false, true, true, false, false, true, false, false, false, false, false] rfl rfl (by kernel_rfl) (fun _ _ _ h => h) (Or.inl ⟨by rfl, ?_⟩) hHeld ?_ ?_
      rotate_left
      · rintro w' ⟨s0, s1⟩
        go_simp
        with_reducible rfl
      rotate_left
      · simp only [Act.put, List.setIfInBounds_toArray, List.set_cons_zero, List.set_cons_succ, i64_w, i32_w]
        rfl
      refine pure_ (i := 6) (N := some 26) (v := ?_) (a' := ?_) #[true, true, true, true, true, true, true, true, true, false, false, true, false, false, false, false, false] rfl rfl (by kernel_rfl) (fun _ _ _ h => h) (Or.inl ⟨by rfl, ?_⟩) ?_ ?_
      rotate_left
      · intro w'
        go_simp
        with_reducible rfl
      rotate_left
      · simp only [Act.put, List.setIfInBounds_toArray, List.set_cons_zero, List.set_cons_succ, i64_w, i32_w]
        rfl
      refine take_ (i := 9) (N := some 29) (v := ?_) (a' := ?_) #[true, true, true, true, true, true, true, true, true, true, false, true, false, false, false, false, false] rfl rfl (by kernel_rfl) (fun _ _ _ h => h) (Or.inl ⟨by rfl, ?_⟩) hHeld ?_ ?_
      rotate_left
      · rintro w' ⟨s0, s1⟩
        go_simp
        with_reducible rfl
      rotate_left
      · simp only [Act.put, List.setIfInBounds_toArray, List.set_cons_zero, List.set_cons_succ, i64_w, i32_w]
        rfl
      refine pure_ (i := 10) (N := some 30) (v := ?_) (a' := ?_) #[true, true, true, true, true, true, true, true, true, true, true, true, false, false, false, false, false] rfl rfl (by kernel_rfl) (fun _ _ _ h => h) (Or.inl ⟨by rfl, ?_⟩) ?_ ?_
      rotate_left
      · intro w'
        go_simp
        with_reducible rfl
      rotate_left
      · simp only [Act.put, List.setIfInBounds_toArray, List.set_cons_zero, List.set_cons_succ, i64_w, i32_w]
        rfl
      refine last_ (i := 12) (N := some 32) #[true, true, true, true, true, true, true, true, true, true, true, true, true, false, false, false, false] rfl rfl (by kernel_rfl) (by decide) (fun K hK => ?_)
      refine goes_ Try.func54 (by kernel_rfl) rfl #[.agg #[.string (str r), .int .u64 (a : Int), .int .i64 (wrap64 (s[0].toNat : Int)), .int .u64 (b : Int)], .string s, fnV 19] (by rfl) rfl rfl (by simp only [List.map_toArray, List.map_cons, List.map_nil]; rfl) ?_
      rw [HW8.out]
      with_reducible refine (hcl _).mono ?_
      rintro e w2 ⟨rfl, hb2⟩
      refine ⟨_, rfl, ?_⟩
      have c0_ : w2.cell? ⟨w.heap.size, 0, none⟩ = some (.string ⟨#[]⟩) := (hb2.cell (p := ⟨w.heap.size, 0, none⟩) hz1).trans c0
      have f0_ : w2.frozen? ⟨w.heap.size, 0, none⟩ = false := (hb2.frozen (p := ⟨w.heap.size, 0, none⟩) hz1).trans f0
      have c1_ : w2.cell? ⟨w.heap.size, 1, none⟩ = some (.int .u64 0) := (hb2.cell (p := ⟨w.heap.size, 1, none⟩) hz1).trans c1
      have f1_ : w2.frozen? ⟨w.heap.size, 1, none⟩ = false := (hb2.frozen (p := ⟨w.heap.size, 1, none⟩) hz1).trans f1
      have c2_ : w2.cell? ⟨w.heap.size, 2, none⟩ = some (.int .i64 0) := (hb2.cell (p := ⟨w.heap.size, 2, none⟩) hz1).trans c2
      have f2_ : w2.frozen? ⟨w.heap.size, 2, none⟩ = false := (hb2.frozen (p := ⟨w.heap.size, 2, none⟩) hz1).trans f2
      have c3_ : w2.cell? ⟨w.heap.size, 3, none⟩ = some (.int .u64 0) := (hb2.cell (p := ⟨w.heap.size, 3, none⟩) hz1).trans c3
      have f3_ : w2.frozen? ⟨w.heap.size, 3, none⟩ = false := (hb2.frozen (p := ⟨w.heap.size, 3, none⟩) hz1).trans f3
      refine hK.out _ _ ?_
      clear hK K
      refine norm_ (a' := ?_) ?_ ?_
      rotate_left
      · show Act.put _ (some 32) _ = _
        simp only [Act.put, List.setIfInBounds_toArray, List.set_cons_zero, List.set_cons_succ, i64_w, i32_w]
        rfl
      refine pure_ (i := 13) (N := some 33) (v := ?_) (a' := ?_) #[true, true, true, true, true, true, true, true, true, true, true, true, true, true, false, false, false] rfl rfl (by kernel_rfl) (fun _ _ _ h => h) (Or.inl ⟨by rfl, ?_⟩) ?_ ?_
      rotate_left
      · intro w'
        go_simp
        with_reducible rfl
      rotate_left
      · simp only [Act.put, List.setIfInBounds_toArray, List.set_cons_zero, List.set_cons_succ, i64_w, i32_w]
        rfl
      refine pure_ (i := 14) (N := some 34) (v := ?_) (a' := ?_) #[true, true, true, true, true, true, true, true, true, true, true, true, true, true, true, false, false] rfl rfl (by kernel_rfl) (fun _ _ _ h => h) (Or.inl ⟨by rfl, ?_⟩) ?_ ?_
      rotate_left
      · intro w'
        go_simp
        with_reducible rfl
      rotate_left
      · simp only [Act.put, List.setIfInBounds_toArray, List.set_cons_zero, List.set_cons_succ, i64_w, i32_w]
        rfl
      refine last_ (i := 15) (N := none) #[true, true, true, true, true, true, true, true, true, true, true, true, true, true, true, true, false] rfl rfl (by kernel_rfl) (by decide) (fun K hK => ?_)
      refine skip_ (w1 := ?_) (by rfl) rfl ?_ ?_
      rotate_left
      · go_simp
        rfl
      refine hK.out _ _ ?_
      clear hK K
      refine pure_ (i := 16) (N := some 3) (v := ?_) (a' := ?_) #[true, true, true, true, true, true, true, true, true, true, true, true, true, true, true, true, true] rfl rfl (by kernel_rfl) (fun _ _ _ h => h) (Or.inl ⟨by rfl, ?_⟩) ?_ ?_
      rotate_left
      · intro w'
        go_simp
        with_reducible rfl
      rotate_left
      · simp only [Act.put, List.setIfInBounds_toArray, List.set_cons_zero, List.set_cons_succ, i64_w, i32_w]
        rfl
      refine done_ (by kernel_rfl) ?_

      go_wp2
      refine bodyPost_ret (v := .tuple #[.agg #[.string P, .int .u64 A, .int .i64 K, .int .u64 B], .int .i64 E]) ?_ rfl ⟨?_, ?_⟩
      · simp [results, Try.results26, go_sem, *]
      · rfl
      have hB2 : Below w.heap.size w w2 := (below_drew1 hB1).trans (hb2.mono (Nat.le_of_lt hz1))
      repeat (first | refine Below.setCell ?_ ?_ _ | refine Below.alloc ?_ ?_ _)
      all_goals first | exact hB2 | (simp; done) | (simp; omega) | omega
  · have h : s = ⟨#[]⟩ := by
      have hn : s.data.toList = [] := List.eq_nil_of_length_eq_zero (by rw [data_length]; omega)
      rw [← str_of s, hn]
      rfl
    subst h
    have hu : unlockM ⟨#[]⟩ = none := rfl
    rw [hu]
    clear hu hz h0
    show Calls Try.prog 26 #[.string ⟨#[]⟩] w fun e w' => e = .returned (.tuple #[.agg #[.string ⟨#[]⟩, .int .u64 0, .int .i64 0, .int .u64 0], .int .i64 2]) ∧ Below w.heap.size w w'
    have hne : (⟨#[]⟩ : ByteArray).toList.isEmpty = true := by rw [ByteArray.toList_eq]; rfl
    go_enter Try.func26, Try.ntmps26
    go_wp2
    refine bodyPost_ret (v := .tuple #[.agg #[.string ⟨#[]⟩, .int .u64 0, .int .i64 0, .int .u64 0], .int .i64 2]) ?_ rfl ⟨?_, ?_⟩
    · simp [results, Try.results26, go_sem, *]
    · rfl
    have hB1 := Below.refl w.heap.size w
    repeat (first | refine Below.setCell ?_ ?_ _ | refine Below.alloc ?_ ?_ _)
    all_goals first | exact hB1 | (simp; done) | (simp; omega) | omega
end Go.Proofs.Ytolningpngjhpaa.Col
