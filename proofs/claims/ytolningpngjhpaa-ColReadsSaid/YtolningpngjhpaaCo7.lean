/- col.Unwrite. -/
import Derived.Test.YtolningpngjhpaaCo6
import Derived.Handy
import Derived.Outline
namespace Go.Proofs.Ytolningpngjhpaa.Col
open Go.RowKit Go.Proofs.YtolningpngjhpaaW.PrintWords Go.Proofs.YtolningpngjhpaaW.PrintLast Go.Proofs.YtolningpngjhpaaW.PrintMore
open Go.Proofs.Ytolningpngjhpaa.Nm Go.Proofs.Ytolningpngjhpaa.PColWrites
set_option linter.unusedVariables false
set_option linter.unusedSimpArgs false

/-- Which write bytes are. -/
def unwriteM (s : ByteArray) : Option (Nat × Nat) := match s.data.toList with
  | [] => none
  | c :: t => match numsM 1 t with
    | none => none
    | some (l, r) => if writeM (l.getD 0 0 : Nat) (c.toNat : Nat) = (s, 0) then some (l.getD 0 0, c.toNat) else none
def writeV (o : Option (Nat × Nat)) : Value := match o with
  | some (a, k) => .tuple #[.agg #[.int .u64 (a : Int), .int .i64 (k : Int)], .int .i64 0]
  | none => .tuple #[.agg #[.int .u64 0, .int .i64 0], .int .i64 2]
theorem unwrite_f (s : ByteArray) (c : UInt8) (t : List UInt8) (hs : s.data.toList = c :: t) : unwriteM s = match numsM 1 t with
    | none => none
    | some (l, r) => if writeM (l.getD 0 0 : Nat) (c.toNat : Nat) = (s, 0) then some (l.getD 0 0, c.toNat) else none := by
  unfold unwriteM
  rw [hs]
theorem checkedWrite_v (c : Prop) [Decidable c] (st k : Int) : ∃ (A K E : Int), (if c then Value.tuple #[.agg #[.int .u64 st, .int .i64 k], .int .i64 0] else .tuple #[.agg #[.int .u64 0, .int .i64 0], .int .i64 2]) = .tuple #[.agg #[.int .u64 A, .int .i64 K], .int .i64 E] := by
  split
  · exact ⟨_, _, _, rfl⟩
  · exact ⟨_, _, _, rfl⟩

set_option maxHeartbeats 4000000 in
set_option maxRecDepth 100000 in
theorem unwrite_any (s : ByteArray) (w : World) (hz : s.size ≤ 9223372036854775807) :
    Calls Try.prog 28 #[.string s] w fun e w' => e = .returned (writeV (unwriteM s)) ∧ Below w.heap.size w w' := by
  by_cases h0 : 0 < s.size
  · obtain ⟨t, hs, ht⟩ := head_of s h0
    have htz : (s.extract 1 s.size).size ≤ 9223372036854775807 := by rw [← data_length, ht]; have := data_length s; rw [hs] at this; simp at this; omega
    have hne : s.toList.isEmpty = false := by rw [ByteArray.toList_eq, hs]; rfl
    rw [unwrite_f s _ t hs]
    have HZ := Aside0.mk htz
    cases hn : numsM 1 t with
    | none =>
      rw [← ht] at hn
      have HN := Aside0.mk hn
      clear hn htz ht hs
      simp only
      show Calls Try.prog 28 #[.string s] w fun e w' => e = .returned (.tuple #[.agg #[.int .u64 0, .int .i64 0], .int .i64 2]) ∧ Below w.heap.size w w'
      go_enter Try.func28, Try.ntmps28
      go_wp2_with (go_at_call 53; refine (numbers_none _ 1 (by decide) HZ.out HN.out _).mono ?_; rintro e w1 ⟨⟨v, rfl⟩, hb1⟩; obtain ⟨hc, hf, hz1, hB1⟩ := one_block hb1; have c0 : w1.cell? ⟨w.heap.size, 0, none⟩ = some (.int .u64 0) := hc 0; have f0 : w1.frozen? ⟨w.heap.size, 0, none⟩ = false := hf 0; have c1 : w1.cell? ⟨w.heap.size, 1, none⟩ = some (.int .i64 0) := hc 1; have f1 : w1.frozen? ⟨w.heap.size, 1, none⟩ = false := hf 1; clear hc hf)
      refine bodyPost_ret (v := .tuple #[.agg #[.int .u64 0, .int .i64 0], .int .i64 2]) ?_ rfl ⟨?_, ?_⟩
      · simp [results, Try.results28, go_sem, *]
      · rfl
      clear hb1
      repeat (first | refine Below.setCell ?_ ?_ _ | refine Below.alloc ?_ ?_ _)
      all_goals first | exact hB1 | (simp; done) | (simp; omega) | omega
    | some x =>
      obtain ⟨l, r⟩ := x
      have hl := numsM_len _ _ _ _ hn
      obtain ⟨a, rfl⟩ : ∃ a, l = [a] := by
        match l, hl.1 with
        | [a], _ => exact ⟨a, rfl⟩
      have ha : a < 2 ^ 64 := hl.2 a (by simp)
      rw [← ht] at hn
      have HN := Aside0.mk hn
      have HA := Aside0.mk ha
      clear hn htz ht hs hl ha
      simp only [List.getD_cons_zero, List.getD_cons_succ]
      obtain ⟨A, K, E, hv⟩ := checkedWrite_v (writeM (a : Int) (s[0].toNat : Int) = (s, 0)) a s[0].toNat
      have hw : writeV (if writeM (a : Int) (s[0].toNat : Int) = (s, 0) then some (a, s[0].toNat) else none) = .tuple #[.agg #[.int .u64 A, .int .i64 K], .int .i64 E] := by
        rw [← hv]
        split <;> rfl
      rw [hw]
      have HV := Aside0.mk hv
      clear hv hw
      go_enter Try.func28, Try.ntmps28
      go_wp2_with (go_at_call 53; refine (numbers_some _ 1 [a] r (by decide) (by decide) HZ.out HN.out _).mono ?_; rintro e w1 ⟨g, cap, rfl, hq, hg1, hg2, hb1⟩; obtain ⟨hc, hf, hz1, hB1⟩ := one_block hb1; have q0 : w1.cell? ⟨g, 0, none⟩ = some (.int .u64 (a : Int)) := hq 0 a rfl; have c0 : w1.cell? ⟨w.heap.size, 0, none⟩ = some (.int .u64 0) := hc 0; have f0 : w1.frozen? ⟨w.heap.size, 0, none⟩ = false := hf 0; have c1 : w1.cell? ⟨w.heap.size, 1, none⟩ = some (.int .i64 0) := hc 1; have f1 : w1.frozen? ⟨w.heap.size, 1, none⟩ = false := hf 1; clear hc hf)
      have hcl := fun W => checkedWrite_any s a s[0].toNat W (by omega) (by have := HA.out; omega)
      simp only [HV.out] at hcl
      have HW8 := Aside0.mk (show wrap64 (s[0].toNat : Int) = (s[0].toNat : Int) by have := s[0].toNat_lt; unfold wrap64; omega)
      refine start_ (n := 13) (S := fun w' => w'.cell? ⟨g, 0, none⟩ = some (.int .u64 (a : Int))) (ds := [8, 11]) #[false, false, false, false, false, false, false, false, false, false, false, false, false] (by kernel_rfl) rfl rfl (q0) (fun hHeld => ?_)
      refine pure_ (i := 0) (N := some 20) (v := ?_) (a' := ?_) #[true, false, false, false, false, false, false, false, false, false, false, false, false] rfl rfl (by kernel_rfl) (fun _ _ _ h => h) (Or.inl ⟨by rfl, ?_⟩) ?_ ?_
      rotate_left
      · intro w'
        go_simp
        with_reducible rfl
      rotate_left
      · simp only [Act.put, List.setIfInBounds_toArray, List.set_cons_zero, List.set_cons_succ, i64_w, i32_w]
        rfl
      refine pure_ (i := 1) (N := some 21) (v := ?_) (a' := ?_) #[true, true, false, false, false, false, false, false, false, false, false, false, false] rfl rfl (by kernel_rfl) (fun _ _ _ h => h) (Or.inl ⟨by rfl, ?_⟩) ?_ ?_
      rotate_left
      · intro w'
        go_simp
        with_reducible rfl
      rotate_left
      · simp only [Act.put, List.setIfInBounds_toArray, List.set_cons_zero, List.set_cons_succ, i64_w, i32_w]
        rfl
      refine pure_ (i := 3) (N := some 23) (v := ?_) (a' := ?_) #[true, true, false, true, false, false, false, false, false, false, false, false, false] rfl rfl (by kernel_rfl) (fun _ _ _ h => h) (Or.inl ⟨by rfl, ?_⟩) ?_ ?_
      rotate_left
      · intro w'
        go_simp
        with_reducible rfl
      rotate_left
      · simp only [Act.put, List.setIfInBounds_toArray, List.set_cons_zero, List.set_cons_succ, i64_w, i32_w]
        rfl
      refine pure_ (i := 7) (N := some 27) (v := ?_) (a' := ?_) #[true, true, false, true, false, false, false, true, false, false, false, false, false] rfl rfl (by kernel_rfl) (fun _ _ _ h => h) (Or.inl ⟨by rfl, ?_⟩) ?_ ?_
      rotate_left
      · intro w'
        go_simp
        with_reducible rfl
      rotate_left
      · simp only [Act.put, List.setIfInBounds_toArray, List.set_cons_zero, List.set_cons_succ, i64_w, i32_w]
        rfl
      refine take_ (i := 2) (N := some 22) (v := ?_) (a' := ?_) #[true, true, true, true, false, false, false, true, false, false, false, false, false] rfl rfl (by kernel_rfl) (fun _ _ _ h => h) (Or.inl ⟨by rfl, ?_⟩) hHeld ?_ ?_
      rotate_left
      · intro w' s0
        go_simp
        with_reducible rfl
      rotate_left
      · simp only [Act.put, List.setIfInBounds_toArray, List.set_cons_zero, List.set_cons_succ, i64_w, i32_w]
        rfl
      refine take_ (i := 4) (N := some 24) (v := ?_) (a' := ?_) #[true, true, true, true, true, false, false, true, false, false, false, false, false] rfl rfl (by kernel_rfl) (fun _ _ _ h => h) (Or.inl ⟨by rfl, ?_⟩) hHeld ?_ ?_
      rotate_left
      · intro w' s0
        go_simp
        with_reducible rfl
      rotate_left
      · simp only [Act.put, List.setIfInBounds_toArray, List.set_cons_zero, List.set_cons_succ, i64_w, i32_w]
        rfl
      refine pure_ (i := 5) (N := some 25) (v := ?_) (a' := ?_) #[true, true, true, true, true, true, false, true, false, false, false, false, false] rfl rfl (by kernel_rfl) (fun _ _ _ h => h) (Or.inl ⟨by rfl, ?_⟩) ?_ ?_
      rotate_left
      · intro w'
        go_simp
        with_reducible rfl
      rotate_left
      · simp only [Act.put, List.setIfInBounds_toArray, List.set_cons_zero, List.set_cons_succ, i64_w, i32_w]
        rfl
      refine pure_ (i := 6) (N := some 26) (v := ?_) (a' := ?_) #[true, true, true, true, true, true, true, true, false, false, false, false, false] rfl rfl (by kernel_rfl) (fun _ _ _ h => h) (Or.inl ⟨by rfl, ?_⟩) ?_ ?_
      rotate_left
      · intro w'
        go_simp
        with_reducible rfl
      rotate_left
      · simp only [Act.put, List.setIfInBounds_toArray, List.set_cons_zero, List.set_cons_succ, i64_w, i32_w]
        rfl
      refine last_ (i := 8) (N := some 28) #[true, true, true, true, true, true, true, true, true, false, false, false, false] rfl rfl (by kernel_rfl) (by decide) (fun K hK => ?_)
      refine goes_ Try.func56 (by kernel_rfl) rfl #[.agg #[.int .u64 (a : Int), .int .i64 (wrap64 (s[0].toNat : Int))], .string s, fnV 21] (by rfl) rfl rfl (by simp only [List.map_toArray, List.map_cons, List.map_nil]; rfl) ?_
      rw [HW8.out]
      with_reducible refine (hcl _).mono ?_
      rintro e w2 ⟨rfl, hb2⟩
      refine ⟨_, rfl, ?_⟩
      have c0_ : w2.cell? ⟨w.heap.size, 0, none⟩ = some (.int .u64 0) := (hb2.cell (p := ⟨w.heap.size, 0, none⟩) hz1).trans c0
      have f0_ : w2.frozen? ⟨w.heap.size, 0, none⟩ = false := (hb2.frozen (p := ⟨w.heap.size, 0, none⟩) hz1).trans f0
      have c1_ : w2.cell? ⟨w.heap.size, 1, none⟩ = some (.int .i64 0) := (hb2.cell (p := ⟨w.heap.size, 1, none⟩) hz1).trans c1
      have f1_ : w2.frozen? ⟨w.heap.size, 1, none⟩ = false := (hb2.frozen (p := ⟨w.heap.size, 1, none⟩) hz1).trans f1
      refine hK.out _ _ ?_
      clear hK K
      refine norm_ (a' := ?_) ?_ ?_
      rotate_left
      · show Act.put _ (some 28) _ = _
        simp only [Act.put, List.setIfInBounds_toArray, List.set_cons_zero, List.set_cons_succ, i64_w, i32_w]
        rfl
      refine pure_ (i := 9) (N := some 29) (v := ?_) (a' := ?_) #[true, true, true, true, true, true, true, true, true, true, false, false, false] rfl rfl (by kernel_rfl) (fun _ _ _ h => h) (Or.inl ⟨by rfl, ?_⟩) ?_ ?_
      rotate_left
      · intro w'
        go_simp
        with_reducible rfl
      rotate_left
      · simp only [Act.put, List.setIfInBounds_toArray, List.set_cons_zero, List.set_cons_succ, i64_w, i32_w]
        rfl
      refine pure_ (i := 10) (N := some 30) (v := ?_) (a' := ?_) #[true, true, true, true, true, true, true, true, true, true, true, false, false] rfl rfl (by kernel_rfl) (fun _ _ _ h => h) (Or.inl ⟨by rfl, ?_⟩) ?_ ?_
      rotate_left
      · intro w'
        go_simp
        with_reducible rfl
      rotate_left
      · simp only [Act.put, List.setIfInBounds_toArray, List.set_cons_zero, List.set_cons_succ, i64_w, i32_w]
        rfl
      refine last_ (i := 11) (N := none) #[true, true, true, true, true, true, true, true, true, true, true, true, false] rfl rfl (by kernel_rfl) (by decide) (fun K hK => ?_)
      refine skip_ (w1 := ?_) (by rfl) rfl ?_ ?_
      rotate_left
      · go_simp
        rfl
      refine hK.out _ _ ?_
      clear hK K
      refine pure_ (i := 12) (N := some 3) (v := ?_) (a' := ?_) #[true, true, true, true, true, true, true, true, true, true, true, true, true] rfl rfl (by kernel_rfl) (fun _ _ _ h => h) (Or.inl ⟨by rfl, ?_⟩) ?_ ?_
      rotate_left
      · intro w'
        go_simp
        with_reducible rfl
      rotate_left
      · simp only [Act.put, List.setIfInBounds_toArray, List.set_cons_zero, List.set_cons_succ, i64_w, i32_w]
        rfl
      refine done_ (by kernel_rfl) ?_

      go_wp2
      refine bodyPost_ret (v := .tuple #[.agg #[.int .u64 A, .int .i64 K], .int .i64 E]) ?_ rfl ⟨?_, ?_⟩
      · simp [results, Try.results28, go_sem, *]
      · rfl
      have hB2 : Below w.heap.size w w2 := (below_drew1 hB1).trans (hb2.mono (Nat.le_of_lt hz1))
      repeat (first | refine Below.setCell ?_ ?_ _ | refine Below.alloc ?_ ?_ _)
      all_goals first | exact hB2 | (simp; done) | (simp; omega) | omega
  · have h : s = ⟨#[]⟩ := by
      have hn : s.data.toList = [] := List.eq_nil_of_length_eq_zero (by rw [data_length]; omega)
      rw [← str_of s, hn]
      rfl
    subst h
    have hu : unwriteM ⟨#[]⟩ = none := rfl
    rw [hu]
    clear hu hz h0
    show Calls Try.prog 28 #[.string ⟨#[]⟩] w fun e w' => e = .returned (.tuple #[.agg #[.int .u64 0, .int .i64 0], .int .i64 2]) ∧ Below w.heap.size w w'
    have hne : (⟨#[]⟩ : ByteArray).toList.isEmpty = true := by rw [ByteArray.toList_eq]; rfl
    go_enter Try.func28, Try.ntmps28
    go_wp2
    refine bodyPost_ret (v := .tuple #[.agg #[.int .u64 0, .int .i64 0], .int .i64 2]) ?_ rfl ⟨?_, ?_⟩
    · simp [results, Try.results28, go_sem, *]
    · rfl
    have hB1 := Below.refl w.heap.size w
    repeat (first | refine Below.setCell ?_ ?_ _ | refine Below.alloc ?_ ?_ _)
    all_goals first | exact hB1 | (simp; done) | (simp; omega) | omega
end Go.Proofs.Ytolningpngjhpaa.Col
