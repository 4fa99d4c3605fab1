/- The reference's Unlock, Unwrite, Unlease. -/
import Derived.Test.YtolningpngjhpaaCo14
import Derived.Test.YtolningpngjhpaaCo10
import Derived.Handy
import Derived.Outline
import Derived.Deep.QuietTactic
import Derived.BigQuiet
namespace Go.Proofs.Ytolningpngjhpaa.Col
open Go.RowKit Go.Proofs.YtolningpngjhpaaW.PrintWords Go.Proofs.YtolningpngjhpaaW.PrintLast Go.Proofs.YtolningpngjhpaaW.PrintMore
open Go.Proofs.Ytolningpngjhpaa.Nm Go.Proofs.Ytolningpngjhpaa.PColWrites
set_option linter.unusedVariables false
set_option linter.unusedSimpArgs false

/-- What the reference's Unlock and Unwrite have in memory: the result, what is left to read, what was read. -/
def St (w W : World) (T : Nat) (r : Array Value) (s : List UInt8) (b : Bool) (l : Array Value) : Prop :=
  W.heap[w.heap.size]? = some (.cells r T (0, 0)) ∧ IsS88 w W (w.heap.size + 1) (str s) b ∧ W.heap[w.heap.size + 1 + 1]? = some (.cells l T (0, 0)) ∧ Below w.heap.size w W
section
variable {w W W1 : World} {T : Nat} {r l : Array Value} {s : List UInt8} {b : Bool}
theorem St.start (w : World) (T : Nat) (r l : Array Value) (s : List UInt8) (b : Bool) :
    St w (((w.alloc (.cells r T)).alloc (.cells #[.string (str s), .bool b] 88)).alloc (.cells l T)) T r s b l := by
  have h1 : ((w.alloc (.cells r T)).alloc (.cells #[.string (str s), .bool b] 88)).heap[w.heap.size + 1]? = some (.cells #[.string (str s), .bool b] 88 (0, 0)) := by
    have := blk_new (w.alloc (.cells r T)) (.cells #[.string (str s), .bool b] 88)
    simpa using this
  have h2 := blk_new ((w.alloc (.cells r T)).alloc (.cells #[.string (str s), .bool b] 88)) (.cells l T)
  refine ⟨blk_alloc (blk_alloc (blk_new w _) _) _, ⟨blk_alloc h1 _, by omega⟩, by simpa using h2, below_alloc (below_alloc (below_alloc (Below.refl _ _) _) _) _⟩
theorem St.num (h : St w W T r s b l) (hI : IsS88 w W1 (w.heap.size + 1) (str (inN s b).2.1) (inN s b).2.2) (hB : Below w.heap.size w W1) (hK : KeepBut W W1 (w.heap.size + 1) none) :
    St w W1 T r (inN s b).2.1 (inN s b).2.2 l :=
  ⟨hK.blk h.1 (by omega) (by simp), hI, hK.blk h.2.2.1 (by omega) (by simp), hB⟩
theorem St.below (h : St w W T r s b l) (hB : Below W.heap.size W W1) : St w W1 T r s b l :=
  ⟨blk_below h.1 hB, h.2.1.below hB, blk_below h.2.2.1 hB, below_step h.2.2.2 hB⟩
theorem St.set_ (h : St w W T r s b l) (j : Nat) (u : Value) : St w (W.setCell ⟨w.heap.size + 1 + 1, j, none⟩ u) T r s b (l.setIfInBounds j u) :=
  ⟨blk_far h.1 (by simp only; omega) u, h.2.1.far (by simp) u, blk_set h.2.2.1 j u, below_set h.2.2.2 (by omega)⟩
theorem St.rcell (h : St w W T r s b l) (j : Nat) : W.cell? ⟨w.heap.size, j, none⟩ = r[j]? := blk_cell h.1 j
theorem St.rfree (h : St w W T r s b l) (j : Nat) : W.frozen? ⟨w.heap.size, j, none⟩ = false := blk_frozen h.1 j
theorem St.lcell (h : St w W T r s b l) (j : Nat) : W.cell? ⟨w.heap.size + 1 + 1, j, none⟩ = l[j]? := blk_cell h.2.2.1 j
theorem St.lfree (h : St w W T r s b l) (j : Nat) : W.frozen? ⟨w.heap.size + 1 + 1, j, none⟩ = false := blk_frozen h.2.2.1 j
theorem St.icell0 (h : St w W T r s b l) : W.cell? ⟨w.heap.size + 1, 0, none⟩ = some (.string (str s)) := blk_cell h.2.1.1 0
theorem St.icell1 (h : St w W T r s b l) : W.cell? ⟨w.heap.size + 1, 1, none⟩ = some (.bool b) := blk_cell h.2.1.1 1
theorem St.lt (h : St w W T r s b l) : w.heap.size + 1 + 1 < W.heap.size := blk_lt h.2.2.1
end

theorem inN_lt (s : List UInt8) (b : Bool) : (inN s b).1 < 2 ^ 64 := by
  unfold inN
  cases h : take s with
  | none => simp
  | some x =>
    have := ((take_iff s x.1 x.2).1 h).1
    cases b
    · simpa using this
    · simp
theorem unlock_in (s : ByteArray) (c : UInt8) (t : List UInt8) (hs : s.data.toList = c :: t) (n1 n2 : Nat) (S1 S2 : List UInt8) (b1 b2 : Bool) (h1 : inN t false = (n1, S1, b1)) (h2 : inN S1 b1 = (n2, S2, b2)) (is : ByteArray) (e : Int) (hL : lockM (str S2) (n1 : Nat) (c.toNat : Nat) (n2 : Nat) = (is, e)) :
    lockV (unlockM s) = if b2 = false ∧ e = 0 ∧ is = s then .tuple #[.agg #[.string (str S2), .int .u64 (n1 : Nat), .int .i64 (c.toNat : Nat), .int .u64 (n2 : Nat)], .int .i64 0] else .tuple #[.agg #[.string ⟨#[]⟩, .int .u64 0, .int .i64 0, .int .u64 0], .int .i64 2] := by
  rw [unlock_f s c t hs]
  unfold inN at h1 h2
  simp only [numsM]
  cases ht : take t with
  | none =>
    rw [ht] at h1
    simp only [Prod.mk.injEq] at h1
    obtain ⟨rfl, rfl, rfl⟩ := h1
    rw [ht] at h2
    simp only [Prod.mk.injEq] at h2
    obtain ⟨rfl, rfl, rfl⟩ := h2
    simp [lockV]
  | some x =>
    obtain ⟨a, q⟩ := x
    rw [ht] at h1
    simp only [Bool.false_eq_true, if_false, Prod.mk.injEq] at h1
    obtain ⟨rfl, rfl, rfl⟩ := h1
    simp only
    cases hu : take q with
    | none =>
      rw [hu] at h2
      simp only [Prod.mk.injEq] at h2
      obtain ⟨rfl, rfl, rfl⟩ := h2
      simp [lockV]
    | some y =>
      obtain ⟨b, z⟩ := y
      rw [hu] at h2
      simp only [Bool.false_eq_true, if_false, Prod.mk.injEq] at h2
      obtain ⟨rfl, rfl, rfl⟩ := h2
      simp only [List.getD_cons_zero, List.getD_cons_succ]
      rw [hL]
      by_cases he : (is, e) = (s, (0 : Int))
      · rw [if_pos he]
        simp only [Prod.mk.injEq] at he
        rw [if_pos ⟨by simp, he.2, he.1⟩]
        rfl
      · rw [if_neg he, if_neg (by rintro ⟨_, h3, h4⟩; exact he (by rw [h3, h4]))]
        rfl

set_option maxHeartbeats 4000000 in
set_option maxRecDepth 100000 in
theorem runlock_any (s : ByteArray) (w : World) (hz : s.size ≤ 9223372036854775807) :
    Calls Try.prog 27 #[.string s] w fun e w' => e = .returned (lockV (unlockM s)) ∧ Below w.heap.size w w' := by
  by_cases h0 : 0 < s.size
  · obtain ⟨t, hs, ht⟩ := head_of s h0
    have htl : t.length ≤ 9223372036854775807 := by have := congrArg List.length hs; simp at this; omega
    have hte : s.extract 1 s.size = str t := by rw [← ht, str_of]
    obtain ⟨n1, S1, b1, hn1⟩ : ∃ n1 S1 b1, inN t false = (n1, S1, b1) := ⟨_, _, _, rfl⟩
    obtain ⟨n2, S2, b2, hn2⟩ : ∃ n2 S2 b2, inN S1 b1 = (n2, S2, b2) := ⟨_, _, _, rfl⟩
    obtain ⟨is, e, hL⟩ : ∃ is e, lockM (str S2) (n1 : Nat) (s[0].toNat : Nat) (n2 : Nat) = (is, e) := ⟨_, _, rfl⟩
    have hS1 : S1.length ≤ 9223372036854775807 := by have := inN_len t false; rw [hn1] at this; simp only at this; omega
    rw [unlock_in s _ t hs n1 n2 S1 S2 b1 b2 hn1 hn2 is e hL]
    have hc : s[0].toNat < 256 := UInt8.toNat_lt _
    generalize hV : (if b2 = false ∧ e = 0 ∧ is = s then Value.tuple #[.agg #[.string (str S2), .int .u64 (n1 : Nat), .int .i64 (s[0].toNat : Nat), .int .u64 (n2 : Nat)], .int .i64 0] else .tuple #[.agg #[.string ⟨#[]⟩, .int .u64 0, .int .i64 0, .int .u64 0], .int .i64 2]) = V
    replace hV := Aside0.mk hV.symm
    have H1 := Aside0.mk hn1
    have H2 := Aside0.mk hn2
    have H3 := Aside0.mk hL
    have HT := Aside0.mk hte
    have hn1b : (n1 : Int) < 18446744073709551616 := by have := inN_lt t false; rw [hn1] at this; simp only at this; omega
    have hn2b : (n2 : Int) < 18446744073709551616 := by have := inN_lt S1 b1; rw [hn2] at this; simp only at this; omega
    have HB1 := Aside0.mk hn1b
    have HB2 := Aside0.mk hn2b
    have HT1 := Aside0.mk htl
    have HS1 := Aside0.mk hS1
    clear hn1 hn2 hL hte ht hs hn1b hn2b htl hS1
    have hne : (s.size : Int) ≠ 0 := by omega
    go_enter Try.func27, Try.ntmps27
    go_wp2_with fail
    rw [HT.out]
    have X0 := Aside0.mk (St.start w 37 #[.string ⟨#[]⟩, .int .u64 0, .int .i64 0, .int .u64 0] #[.string ⟨#[]⟩, .int .u64 0, .int .i64 (s[0].toNat : Nat), .int .u64 0] t false)
    refine (num_any _ t false w _ HT1.out X0.out.2.1 X0.out.2.2.2).mono ?_
    rintro e1 w1 ⟨rfl, hI, hB, hK⟩
    have X1 := Aside0.mk (X0.out.num hI hB hK)
    rw [H1.out] at X1 ⊢
    clear hI hB hK X0
    have l0 : w1.cell? ⟨w.heap.size + 1 + 1, 0, none⟩ = some (.string ⟨#[]⟩) := X1.out.lcell 0
    have l1 : w1.cell? ⟨w.heap.size + 1 + 1, 1, none⟩ = some (.int .u64 0) := X1.out.lcell 1
    have l2 : w1.cell? ⟨w.heap.size + 1 + 1, 2, none⟩ = some (.int .i64 (s[0].toNat : Nat)) := X1.out.lcell 2
    have l3 : w1.cell? ⟨w.heap.size + 1 + 1, 3, none⟩ = some (.int .u64 0) := X1.out.lcell 3
    have f1 : w1.frozen? ⟨w.heap.size + 1 + 1, 1, none⟩ = false := X1.out.lfree 1
    have f3 : w1.frozen? ⟨w.heap.size + 1 + 1, 3, none⟩ = false := X1.out.lfree 3
    have f0 : w1.frozen? ⟨w.heap.size + 1 + 1, 0, none⟩ = false := X1.out.lfree 0
    simp only
    go_wp2_with fail
    have X2 := Aside0.mk (X1.out.set_ 1 (.int .u64 (n1 : Nat)))
    simp only [List.setIfInBounds_toArray, List.set_cons_zero, List.set_cons_succ] at X2
    clear X1 l0 l1 l2 l3 f0 f1 f3
    refine (num_any _ S1 b1 w _ HS1.out X2.out.2.1 X2.out.2.2.2).mono ?_
    rintro e1 w2 ⟨rfl, hI, hB, hK⟩
    have X3 := Aside0.mk (X2.out.num hI hB hK)
    rw [H2.out] at X3 ⊢
    clear hI hB hK X2
    have l0 : w2.cell? ⟨w.heap.size + 1 + 1, 0, none⟩ = some (.string ⟨#[]⟩) := X3.out.lcell 0
    have l1 : w2.cell? ⟨w.heap.size + 1 + 1, 1, none⟩ = some (.int .u64 (n1 : Nat)) := X3.out.lcell 1
    have l2 : w2.cell? ⟨w.heap.size + 1 + 1, 2, none⟩ = some (.int .i64 (s[0].toNat : Nat)) := X3.out.lcell 2
    have l3 : w2.cell? ⟨w.heap.size + 1 + 1, 3, none⟩ = some (.int .u64 0) := X3.out.lcell 3
    have f3 : w2.frozen? ⟨w.heap.size + 1 + 1, 3, none⟩ = false := X3.out.lfree 3
    have f0 : w2.frozen? ⟨w.heap.size + 1 + 1, 0, none⟩ = false := X3.out.lfree 0
    have i0 : w2.cell? ⟨w.heap.size + 1, 0, none⟩ = some (.string (str S2)) := X3.out.icell0
    simp only
    go_wp2_with fail
    have X4 := Aside0.mk ((X3.out.set_ 3 (.int .u64 (n2 : Nat))).set_ 0 (.string (str S2)))
    simp only [List.setIfInBounds_toArray, List.set_cons_zero, List.set_cons_succ] at X4
    clear X3 l0 l1 l2 l3 f0 f3 i0
    refine (rlock_any (str S2) (n1 : Nat) (s[0].toNat : Nat) (n2 : Nat) _ (Int.natCast_nonneg _) HB1.out (Int.natCast_nonneg _) HB2.out).mono ?_
    rintro e1 w3 ⟨rfl, hB⟩
    have X5 := Aside0.mk (X4.out.below hB)
    rw [H3.out]
    simp only [pairV]
    clear hB X4
    have l0 : w3.cell? ⟨w.heap.size + 1 + 1, 0, none⟩ = some (.string (str S2)) := X5.out.lcell 0
    have l1 : w3.cell? ⟨w.heap.size + 1 + 1, 1, none⟩ = some (.int .u64 (n1 : Nat)) := X5.out.lcell 1
    have l2 : w3.cell? ⟨w.heap.size + 1 + 1, 2, none⟩ = some (.int .i64 (s[0].toNat : Nat)) := X5.out.lcell 2
    have l3 : w3.cell? ⟨w.heap.size + 1 + 1, 3, none⟩ = some (.int .u64 (n2 : Nat)) := X5.out.lcell 3
    have r0 : w3.cell? ⟨w.heap.size, 0, none⟩ = some (.string ⟨#[]⟩) := X5.out.rcell 0
    have r1 : w3.cell? ⟨w.heap.size, 1, none⟩ = some (.int .u64 0) := X5.out.rcell 1
    have r2 : w3.cell? ⟨w.heap.size, 2, none⟩ = some (.int .i64 0) := X5.out.rcell 2
    have r3 : w3.cell? ⟨w.heap.size, 3, none⟩ = some (.int .u64 0) := X5.out.rcell 3
    have f0 : w3.frozen? ⟨w.heap.size, 0, none⟩ = false := X5.out.rfree 0
    have f1 : w3.frozen? ⟨w.heap.size, 1, none⟩ = false := X5.out.rfree 1
    have f2 : w3.frozen? ⟨w.heap.size, 2, none⟩ = false := X5.out.rfree 2
    have f3 : w3.frozen? ⟨w.heap.size, 3, none⟩ = false := X5.out.rfree 3
    have i1 : w3.cell? ⟨w.heap.size + 1, 1, none⟩ = some (.bool b2) := X5.out.icell1
    have hlt := X5.out.lt
    have hB : Aside0 (Below w.heap.size w w3) := ⟨X5.out.2.2.2⟩
    clear X5
    cases b2 with
    | true =>
      have HN : Aside0 (¬ ((true : Bool) = false ∧ e = 0 ∧ is = s)) := ⟨by simp⟩
      go_wp2_with fail
      refine bodyPost_ret (v := .tuple #[.agg #[.string ⟨#[]⟩, .int .u64 0, .int .i64 0, .int .u64 0], .int .i64 2]) ?_ rfl ⟨?_, ?_⟩
      · simp [results, Try.results27, go_sem, *]
      · rw [hV.out, if_neg HN.out]
      repeat (first | exact hB.out | (refine below_set ?_ (by omega)) | (refine below_alloc ?_ _) | (refine below_drew ?_))
    | false =>
      by_cases he : e = 0
      · subst he
        by_cases his : is = s
        · have hne2 : (is.toList == s.toList) = true := by rw [his]; simp
          have HS := Aside0.mk his
          clear his
          go_wp2_with fail
          refine bodyPost_ret (v := .tuple #[.agg #[.string (str S2), .int .u64 (n1 : Nat), .int .i64 (s[0].toNat : Nat), .int .u64 (n2 : Nat)], .int .i64 0]) ?_ rfl ⟨?_, ?_⟩
          · simp [results, Try.results27, go_sem, *]
          · (rw [hV.out]; simp [HS.out])
          repeat (first | exact hB.out | (refine below_set ?_ (by omega)) | (refine below_alloc ?_ _) | (refine below_drew ?_))
        · have HN : Aside0 (¬ ((false : Bool) = false ∧ (0 : Int) = 0 ∧ is = s)) := ⟨by simp [his]⟩
          have hne2 : (is.toList == s.toList) = false := by rw [beq_eq_false_iff_ne]; intro h; exact his (toList_inj h)
          clear his
          go_wp2_with fail
          refine bodyPost_ret (v := .tuple #[.agg #[.string ⟨#[]⟩, .int .u64 0, .int .i64 0, .int .u64 0], .int .i64 2]) ?_ rfl ⟨?_, ?_⟩
          · simp [results, Try.results27, go_sem, *]
          · rw [hV.out, if_neg HN.out]
          repeat (first | exact hB.out | (refine below_set ?_ (by omega)) | (refine below_alloc ?_ _) | (refine below_drew ?_))
      · have HN : Aside0 (¬ ((false : Bool) = false ∧ e = 0 ∧ is = s)) := ⟨by simp [he]⟩
        have he1 : (e == 0) = false := by simp [he]
        have he2 : (e != 0) = true := by simp [he]
        clear he
        go_wp2_with fail
        refine bodyPost_ret (v := .tuple #[.agg #[.string ⟨#[]⟩, .int .u64 0, .int .i64 0, .int .u64 0], .int .i64 2]) ?_ rfl ⟨?_, ?_⟩
        · simp [results, Try.results27, go_sem, *]
        · rw [hV.out, if_neg HN.out]
        repeat (first | exact hB.out | (refine below_set ?_ (by omega)) | (refine below_alloc ?_ _) | (refine below_drew ?_))
  · have hse : s = ⟨#[]⟩ := by
      apply data_inj
      have : s.data.toList.length = 0 := by rw [data_length]; omega
      exact List.eq_nil_of_length_eq_zero this
    subst hse
    show Calls Try.prog 27 #[.string ⟨#[]⟩] w fun e w' => e = .returned (.tuple #[.agg #[.string ⟨#[]⟩, .int .u64 0, .int .i64 0, .int .u64 0], .int .i64 2]) ∧ Below w.heap.size w w'
    go_enter Try.func27, Try.ntmps27
    go_wp2_with fail
    refine bodyPost_ret (v := .tuple #[.agg #[.string ⟨#[]⟩, .int .u64 0, .int .i64 0, .int .u64 0], .int .i64 2]) ?_ rfl ⟨rfl, ?_⟩
    · simp [results, Try.results27, go_sem, *]
    have hB : Aside0 (Below w.heap.size w w) := ⟨Below.refl _ _⟩
    repeat (first | exact hB.out | (refine below_set ?_ (by simp)) | (refine below_alloc ?_ _) | (refine below_drew ?_))
theorem unwrite_in (s : ByteArray) (c : UInt8) (t : List UInt8) (hs : s.data.toList = c :: t) (n1 : Nat) (S1 : List UInt8) (b1 : Bool) (h1 : inN t false = (n1, S1, b1)) (is : ByteArray) (e : Int) (hL : writeM (n1 : Nat) (c.toNat : Nat) = (is, e)) :
    writeV (unwriteM s) = if b1 = false ∧ e = 0 ∧ is = s then .tuple #[.agg #[.int .u64 (n1 : Nat), .int .i64 (c.toNat : Nat)], .int .i64 0] else .tuple #[.agg #[.int .u64 0, .int .i64 0], .int .i64 2] := by
  rw [unwrite_f s c t hs]
  unfold inN at h1
  simp only [numsM]
  cases ht : take t with
  | none =>
    rw [ht] at h1
    simp only [Prod.mk.injEq] at h1
    obtain ⟨rfl, rfl, rfl⟩ := h1
    simp [writeV]
  | some x =>
    obtain ⟨a, q⟩ := x
    rw [ht] at h1
    simp only [Bool.false_eq_true, if_false, Prod.mk.injEq] at h1
    obtain ⟨rfl, rfl, rfl⟩ := h1
    simp only [List.getD_cons_zero, List.getD_cons_succ]
    rw [hL]
    by_cases he : (is, e) = (s, (0 : Int))
    · rw [if_pos he]
      simp only [Prod.mk.injEq] at he
      rw [if_pos ⟨by simp, he.2, he.1⟩]
      rfl
    · rw [if_neg he, if_neg (by rintro ⟨_, h3, h4⟩; exact he (by rw [h3, h4]))]
      rfl

set_option maxHeartbeats 4000000 in
set_option maxRecDepth 100000 in
theorem runwrite_any (s : ByteArray) (w : World) (hz : s.size ≤ 9223372036854775807) :
    Calls Try.prog 29 #[.string s] w fun e w' => e = .returned (writeV (unwriteM s)) ∧ Below w.heap.size w w' := by
  by_cases h0 : 0 < s.size
  · obtain ⟨t, hs, ht⟩ := head_of s h0
    have htl : t.length ≤ 9223372036854775807 := by have := congrArg List.length hs; simp at this; omega
    have hte : s.extract 1 s.size = str t := by rw [← ht, str_of]
    obtain ⟨n1, S1, b1, hn1⟩ : ∃ n1 S1 b1, inN t false = (n1, S1, b1) := ⟨_, _, _, rfl⟩
    obtain ⟨is, e, hL⟩ : ∃ is e, writeM (n1 : Nat) (s[0].toNat : Nat) = (is, e) := ⟨_, _, rfl⟩
    rw [unwrite_in s _ t hs n1 S1 b1 hn1 is e hL]
    have hc : s[0].toNat < 256 := UInt8.toNat_lt _
    generalize hV : (if b1 = false ∧ e = 0 ∧ is = s then Value.tuple #[.agg #[.int .u64 (n1 : Nat), .int .i64 (s[0].toNat : Nat)], .int .i64 0] else .tuple #[.agg #[.int .u64 0, .int .i64 0], .int .i64 2]) = V
    replace hV := Aside0.mk hV.symm
    have H1 := Aside0.mk hn1
    have H3 := Aside0.mk hL
    have HT := Aside0.mk hte
    have hn1b : (n1 : Int) < 18446744073709551616 := by have := inN_lt t false; rw [hn1] at this; simp only at this; omega
    have HB1 := Aside0.mk hn1b
    have HT1 := Aside0.mk htl
    clear hn1 hL hte ht hs hn1b htl
    have hne : (s.size : Int) ≠ 0 := by omega
    go_enter Try.func29, Try.ntmps29
    go_wp2_with fail
    rw [HT.out]
    have X0 := Aside0.mk (St.start w 39 #[.int .u64 0, .int .i64 0] #[.int .u64 0, .int .i64 (s[0].toNat : Nat)] t false)
    refine (num_any _ t false w _ HT1.out X0.out.2.1 X0.out.2.2.2).mono ?_
    rintro e1 w1 ⟨rfl, hI, hB, hK⟩
    have X1 := Aside0.mk (X0.out.num hI hB hK)
    rw [H1.out] at X1 ⊢
    clear hI hB hK X0
    have l0 : w1.cell? ⟨w.heap.size + 1 + 1, 0, none⟩ = some (.int .u64 0) := X1.out.lcell 0
    have l1 : w1.cell? ⟨w.heap.size + 1 + 1, 1, none⟩ = some (.int .i64 (s[0].toNat : Nat)) := X1.out.lcell 1
    have f0 : w1.frozen? ⟨w.heap.size + 1 + 1, 0, none⟩ = false := X1.out.lfree 0
    simp only
    go_wp2_with fail
    have X4 := Aside0.mk (X1.out.set_ 0 (.int .u64 (n1 : Nat)))
    simp only [List.setIfInBounds_toArray, List.set_cons_zero, List.set_cons_succ] at X4
    clear X1 l0 l1 f0
    refine (rwrite_any (n1 : Nat) (s[0].toNat : Nat) _ (Int.natCast_nonneg _) HB1.out).mono ?_
    rintro e1 w3 ⟨rfl, hB⟩
    have X5 := Aside0.mk (X4.out.below hB)
    rw [H3.out]
    simp only [pairV]
    clear hB X4
    have l0 : w3.cell? ⟨w.heap.size + 1 + 1, 0, none⟩ = some (.int .u64 (n1 : Nat)) := X5.out.lcell 0
    have l1 : w3.cell? ⟨w.heap.size + 1 + 1, 1, none⟩ = some (.int .i64 (s[0].toNat : Nat)) := X5.out.lcell 1
    have r0 : w3.cell? ⟨w.heap.size, 0, none⟩ = some (.int .u64 0) := X5.out.rcell 0
    have r1 : w3.cell? ⟨w.heap.size, 1, none⟩ = some (.int .i64 0) := X5.out.rcell 1
    have f0 : w3.frozen? ⟨w.heap.size, 0, none⟩ = false := X5.out.rfree 0
    have f1 : w3.frozen? ⟨w.heap.size, 1, none⟩ = false := X5.out.rfree 1
    have i1 : w3.cell? ⟨w.heap.size + 1, 1, none⟩ = some (.bool b1) := X5.out.icell1
    have hlt := X5.out.lt
    have hB : Aside0 (Below w.heap.size w w3) := ⟨X5.out.2.2.2⟩
    clear X5
    cases b1 with
    | true =>
      have HN : Aside0 (¬ ((true : Bool) = false ∧ e = 0 ∧ is = s)) := ⟨by simp⟩
      go_wp2_with fail
      refine bodyPost_ret (v := .tuple #[.agg #[.int .u64 0, .int .i64 0], .int .i64 2]) ?_ rfl ⟨?_, ?_⟩
      · simp [results, Try.results29, go_sem, *]
      · rw [hV.out, if_neg HN.out]
      repeat (first | exact hB.out | (refine below_set ?_ (by omega)) | (refine below_alloc ?_ _) | (refine below_drew ?_))
    | false =>
      by_cases he : e = 0
      · subst he
        by_cases his : is = s
        · have hne2 : (is.toList == s.toList) = true := by rw [his]; simp
          have HS := Aside0.mk his
          clear his
          go_wp2_with fail
          refine bodyPost_ret (v := .tuple #[.agg #[.int .u64 (n1 : Nat), .int .i64 (s[0].toNat : Nat)], .int .i64 0]) ?_ rfl ⟨?_, ?_⟩
          · simp [results, Try.results29, go_sem, *]
          · (rw [hV.out]; simp [HS.out])
          repeat (first | exact hB.out | (refine below_set ?_ (by omega)) | (refine below_alloc ?_ _) | (refine below_drew ?_))
        · have HN : Aside0 (¬ ((false : Bool) = false ∧ (0 : Int) = 0 ∧ is = s)) := ⟨by simp [his]⟩
          have hne2 : (is.toList == s.toList) = false := by rw [beq_eq_false_iff_ne]; intro h; exact his (toList_inj h)
          clear his
          go_wp2_with fail
          refine bodyPost_ret (v := .tuple #[.agg #[.int .u64 0, .int .i64 0], .int .i64 2]) ?_ rfl ⟨?_, ?_⟩
          · simp [results, Try.results29, go_sem, *]
          · rw [hV.out, if_neg HN.out]
          repeat (first | exact hB.out | (refine below_set ?_ (by omega)) | (refine below_alloc ?_ _) | (refine below_drew ?_))
      · have HN : Aside0 (¬ ((false : Bool) = false ∧ e = 0 ∧ is = s)) := ⟨by simp [he]⟩
        have he1 : (e == 0) = false := by simp [he]
        have he2 : (e != 0) = true := by simp [he]
        clear he
        go_wp2_with fail
        refine bodyPost_ret (v := .tuple #[.agg #[.int .u64 0, .int .i64 0], .int .i64 2]) ?_ rfl ⟨?_, ?_⟩
        · simp [results, Try.results29, go_sem, *]
        · rw [hV.out, if_neg HN.out]
        repeat (first | exact hB.out | (refine below_set ?_ (by omega)) | (refine below_alloc ?_ _) | (refine below_drew ?_))
  · have hse : s = ⟨#[]⟩ := by
      apply data_inj
      have : s.data.toList.length = 0 := by rw [data_length]; omega
      exact List.eq_nil_of_length_eq_zero this
    subst hse
    show Calls Try.prog 29 #[.string ⟨#[]⟩] w fun e w' => e = .returned (.tuple #[.agg #[.int .u64 0, .int .i64 0], .int .i64 2]) ∧ Below w.heap.size w w'
    go_enter Try.func29, Try.ntmps29
    go_wp2_with fail
    refine bodyPost_ret (v := .tuple #[.agg #[.int .u64 0, .int .i64 0], .int .i64 2]) ?_ rfl ⟨rfl, ?_⟩
    · simp [results, Try.results29, go_sem, *]
    have hB : Aside0 (Below w.heap.size w w) := ⟨Below.refl _ _⟩
    repeat (first | exact hB.out | (refine below_set ?_ (by simp)) | (refine below_alloc ?_ _) | (refine below_drew ?_))
end Go.Proofs.Ytolningpngjhpaa.Col
