/- The reference's Unlease. -/
import Derived.Test.YtolningpngjhpaaCo15
namespace Go.Proofs.Ytolningpngjhpaa.Col
open Go.RowKit Go.Proofs.YtolningpngjhpaaW.PrintWords Go.Proofs.YtolningpngjhpaaW.PrintLast Go.Proofs.YtolningpngjhpaaW.PrintMore
open Go.Proofs.Ytolningpngjhpaa.Nm Go.Proofs.Ytolningpngjhpaa.PColWrites
set_option linter.unusedVariables false
set_option linter.unusedSimpArgs false

/-- Three numbers read by In. -/
def in3 (s : List UInt8) (b : Bool) : S78 × List UInt8 × Bool :=
  (⟨((inN s b).1 : Nat), ((inN (inN s b).2.1 (inN s b).2.2).1 : Nat), ((inN (inN (inN s b).2.1 (inN s b).2.2).2.1 (inN (inN s b).2.1 (inN s b).2.2).2.2).1 : Nat)⟩,
   (inN (inN (inN s b).2.1 (inN s b).2.2).2.1 (inN (inN s b).2.1 (inN s b).2.2).2.2).2.1, (inN (inN (inN s b).2.1 (inN s b).2.2).2.1 (inN (inN s b).2.1 (inN s b).2.2).2.2).2.2)
/-- The reference's loop. -/
def refFrom : Nat → List UInt8 → Bool → List S78 → List S78 × Bool
  | 0, _, b, acc => (acc, b)
  | d + 1, s, b, acc => if s = [] ∨ b = true then (acc, b) else refFrom d (in3 s b).2.1 (in3 s b).2.2 (acc ++ [(in3 s b).1])
theorem inN_bad (s : List UInt8) : inN s true = (0, s, true) := by
  unfold inN
  cases take s <;> rfl
theorem refFrom_bad (d : Nat) (s : List UInt8) (acc : List S78) : refFrom d s true acc = (acc, true) := by cases d <;> simp [refFrom]
theorem ref_unl : ∀ (d : Nat) (s : List UInt8) (acc : List S78), (∀ xs, unlzFrom d s acc = some xs → refFrom d s false acc = (xs, false)) ∧ (unlzFrom d s acc = none → (refFrom d s false acc).2 = true) := by
  intro d
  induction d with
  | zero => intro s acc; simp [unlzFrom, refFrom]
  | succ d ih =>
    intro s acc
    simp only [unlzFrom, refFrom]
    by_cases hs : s = []
    · simp [hs]
    · rw [if_neg hs, if_neg (by simp [hs])]
      have hn : match numsM 3 s with
          | some (l, r) => in3 s false = (lz3 l, r, false)
          | none => (in3 s false).2.2 = true := by
        simp only [numsM]
        unfold in3
        cases h1 : take s with
        | none =>
          have e1 : inN s false = (0, s, true) := by unfold inN; rw [h1]
          simp [e1, inN_bad]
        | some x =>
          obtain ⟨a, q⟩ := x
          have e1 : inN s false = (a, q, false) := by unfold inN; rw [h1]; rfl
          simp only [e1]
          cases h2 : take q with
          | none =>
            have e2 : inN q false = (0, q, true) := by unfold inN; rw [h2]
            simp [e2, inN_bad]
          | some y =>
            obtain ⟨b, z⟩ := y
            have e2 : inN q false = (b, z, false) := by unfold inN; rw [h2]; rfl
            simp only [e2]
            cases h3 : take z with
            | none =>
              have e3 : inN z false = (0, z, true) := by unfold inN; rw [h3]
              simp [e3]
            | some u =>
              obtain ⟨c, v⟩ := u
              have e3 : inN z false = (c, v, false) := by unfold inN; rw [h3]; rfl
              simp only [e3]
              rfl
      cases hm : numsM 3 s with
      | none =>
        rw [hm] at hn
        simp only at hn ⊢
        rw [hn, refFrom_bad]
        simp
      | some x =>
        obtain ⟨l, r⟩ := x
        rw [hm] at hn
        simp only at hn ⊢
        rw [hn]
        exact ih r _
theorem unlease_in (s : ByteArray) (acc : List S78) (b : Bool) (h : refFrom 6 s.data.toList false [] = (acc, b)) (is : ByteArray) (e : Int) (hL : leasesM acc = (is, e)) :
    unleaseM s = if b = false ∧ e = 0 ∧ is = s then some acc else none := by
  unfold unleaseM
  obtain ⟨h1, h2⟩ := ref_unl 6 s.data.toList []
  cases hu : unlzFrom 6 s.data.toList [] with
  | none =>
    have := h2 hu
    rw [h] at this
    simp only at this
    rw [if_neg (by simp [this])]
  | some xs =>
    have := h1 xs hu
    rw [h] at this
    simp only [Prod.mk.injEq] at this
    obtain ⟨rfl, rfl⟩ := this
    simp only
    rw [hL]
    by_cases he : is = s ∧ e = 0
    · rw [if_pos (by rw [he.1, he.2]), if_pos ⟨by simp, he.2, he.1⟩]
    · rw [if_neg (by intro h; simp at h; exact he h), if_neg (by rintro ⟨_, h3, h4⟩; exact he ⟨h4, h3⟩)]
theorem in3_len (s : List UInt8) (b : Bool) : (in3 s b).2.1.length ≤ s.length := by
  unfold in3
  simp only
  exact Nat.le_trans (inN_len _ _) (Nat.le_trans (inN_len _ _) (inN_len _ _))
theorem in3_wf (s : List UInt8) (b : Bool) : Wf (in3 s b).1 := by
  unfold in3
  have h1 := inN_lt s b
  have h2 := inN_lt (inN s b).2.1 (inN s b).2.2
  have h3 := inN_lt (inN (inN s b).2.1 (inN s b).2.2).2.1 (inN (inN s b).2.1 (inN s b).2.2).2.2
  refine ⟨⟨Int.natCast_nonneg _, by simp only; omega⟩, ⟨Int.natCast_nonneg _, by simp only; omega⟩, Int.natCast_nonneg _, by simp only; omega⟩

/-- What a round has in memory: what is left to read, the lease that is read, the leases so far. -/
def RSt (w wr W : World) (s : List UInt8) (b : Bool) (l : Array Value) (v : Value) (acc : List S81) : Prop :=
  IsS88 w W w.heap.size (str s) b ∧ W.heap[wr.heap.size]? = some (.cells l 81 (0, 0)) ∧ Kd.R k81 81 W w.heap.size (fun k => k ≠ w.heap.size ∧ k ≠ wr.heap.size) v acc ∧ Below w.heap.size w W ∧ w.heap.size < wr.heap.size
section
variable {w wr W W1 : World} {l : Array Value} {s : List UInt8} {b : Bool} {v : Value} {acc : List S81}
theorem RSt.start (hI : IsS88 w wr w.heap.size (str s) b) (hR : Kd.R k81 81 wr w.heap.size (fun k => k ≠ w.heap.size) v acc) (hB : Below w.heap.size w wr) (l : Array Value) : RSt w wr (wr.alloc (.cells l 81)) s b l v acc :=
  ⟨hI.alloc _, blk_new _ _, Kd.R_alloc (Kd.R_mono (Kd.R_bound hR) (fun k hk => ⟨hk.1, by have := hk.2.2.1; omega⟩)) _, below_alloc hB _, hI.lt⟩
theorem RSt.num (h : RSt w wr W s b l v acc) (hI : IsS88 w W1 w.heap.size (str (inN s b).2.1) (inN s b).2.2) (hB : Below w.heap.size w W1) (hK : KeepBut W W1 w.heap.size none) :
    RSt w wr W1 (inN s b).2.1 (inN s b).2.2 l v acc :=
  ⟨hI, hK.blk h.2.1 (by have := h.2.2.2.2; omega) (by simp), Kd.R_keep h.2.2.1 hK (fun _ hk => hk.1), hB, h.2.2.2.2⟩
theorem RSt.set_ (h : RSt w wr W s b l v acc) (j : Nat) (u : Value) : RSt w wr (W.setCell ⟨wr.heap.size, j, none⟩ u) s b (l.setIfInBounds j u) v acc :=
  ⟨h.1.far (by have := h.2.2.2.2; simp only; omega) u, blk_set h.2.1 j u, Kd.R_far h.2.2.1 (fun _ hk => hk.2) u, below_set h.2.2.2.1 (by have := h.2.2.2.2; omega), h.2.2.2.2⟩
theorem RSt.lcell (h : RSt w wr W s b l v acc) (j : Nat) : W.cell? ⟨wr.heap.size, j, none⟩ = l[j]? := blk_cell h.2.1 j
theorem RSt.lfree (h : RSt w wr W s b l v acc) (j : Nat) : W.frozen? ⟨wr.heap.size, j, none⟩ = false := blk_frozen h.2.1 j
end
theorem refFrom_end (k : Nat) (x : List UInt8) (b : Bool) (acc : List S78) (h : k = 0 ∨ x = [] ∨ b = true) : refFrom k x b acc = (acc, b) := by
  cases k with
  | zero => rfl
  | succ k =>
    simp only [refFrom]
    rw [if_pos]
    rcases h with h | h
    · omega
    · exact h

set_option maxHeartbeats 4000000 in
set_option maxRecDepth 100000 in
theorem runlease_any (s : ByteArray) (w : World) (hz : s.size ≤ 9223372036854775807) :
    Calls Try.prog 31 #[.string s] w fun e w' => ∃ v, e = .returned (.tuple #[v, .int .i64 (errI (unleaseM s))]) ∧ Kd.R k81 81 w' w.heap.size (fun _ => True) v (((unleaseM s).getD []).map own1) ∧ Below w.heap.size w w' := by
  obtain ⟨U, hU⟩ : ∃ U, U = unleaseM s := ⟨_, rfl⟩
  rw [← hU]
  have HU := Aside0.mk hU
  have HZ := Aside0.mk hz
  clear hU hz
  have HI0 := Aside0.mk (IsS88.new w w (str s.data.toList) false (Below.refl _ _))
  rw [str_of] at HI0
  have HB0 := Aside0.mk (below_alloc (Below.refl w.heap.size w) (.cells #[.string s, .bool false] 88))
  go_enter Try.func31, Try.ntmps31
  go_wp2_with ((with_reducible refine gate_dst (N := 13) rfl ?_); refine Kd.R_lit k81 w.heap.size 81 ?hg (N := 13) ?hd (xs := ([] : List S81)) (inner := []) (ok := fun k => k ≠ w.heap.size) (okp := fun k => k ≠ w.heap.size) ?hr ?hp (fun _ hk => hk) (by simp) HB0.out HB0.out.size (by simp) ?_; (case hd => rfl); (case hg => rfl); (case hr => first | (go_simp; done) | (go_simp; rfl)); (case hp => exact (Reps.none _ _)); intro v1 w1 ho hb hg_ hnew_)
  have HR1 := Aside0.mk ho
  have HB1 := Aside0.mk hb
  have HI1 := Aside0.mk (HI0.out.grown hg_ (by simp))
  clear ho hb hg_ hnew_ HI0 HB0
  go_loopg [5, 6] 6 (fun kq v5 v6 w' => ∃ (i : Nat) (acc : List S78) (x : List UInt8) (b : Bool), v6 = .int .i64 (i : Int) ∧ Aside0 (kq + i = 6) ∧ Aside0 (acc.length = i) ∧ Aside0 (∀ y ∈ acc, Wf y) ∧ Aside0 (refFrom kq x b acc = refFrom 6 s.data.toList false []) ∧ Aside0 (x.length ≤ 9223372036854775807) ∧ Aside0 (IsS88 w w' w.heap.size (str x) b) ∧ Aside0 (Kd.R k81 81 w' w.heap.size (fun k => k ≠ w.heap.size) v5 (acc.map own1)) ∧ Aside0 (Below w.heap.size w w'))
  case atStart => exact ⟨0, [], s.data.toList, false, rfl, ⟨rfl⟩, ⟨rfl⟩, ⟨by simp⟩, ⟨rfl⟩, ⟨by rw [data_length]; exact HZ.out⟩, ⟨by rw [str_of]; exact HI1.out⟩, HR1, HB1⟩
  case round =>
    obtain ⟨i, acc, x, b, rfl, HK, HA, HW, HE, HX, HI, HR, HB⟩ := hrel
    have HRs := HR
    obtain ⟨A, cp, hva, hcp, hC⟩ := Kd.R_reads HR.out
    clear HR
    subst hva
    have hRs := HRs.out
    rw [List.length_map] at hcp hC hRs
    replace HRs := Aside0.mk hRs
    clear hRs
    have HC := Aside0.mk hC
    clear hC
    have hi0 : wr.cell? ⟨w.heap.size, 0, none⟩ = some (.string (str x)) := cellS88_0 HI.out.1
    have hi1 : wr.cell? ⟨w.heap.size, 1, none⟩ = some (.bool b) := cellS88_1 HI.out.1
    by_cases hgo : x ≠ [] ∧ i < 6 ∧ b = false
    · obtain ⟨hx, hi6, rfl⟩ := hgo
      obtain ⟨k1, rfl⟩ : ∃ m, gk = m + 1 := ⟨gk - 1, by have := HK.out; omega⟩
      have hE := HE.out
      rw [refFrom, if_neg (by simp [hx])] at hE
      have HE2 := Aside0.mk hE
      clear hE HE
      have hsz : 0 < (str x).size := by rw [str_size]; exact (by cases x with | nil => exact absurd rfl hx | cons => simp)
      have d0 : decide ((i : Int) < 6) = true := decide_eq_true (by omega)
      have HX0 := Aside0.mk hx
      clear hx
      obtain ⟨n1, S1, b1, hn1⟩ : ∃ n1 S1 b1, inN x false = (n1, S1, b1) := ⟨_, _, _, rfl⟩
      obtain ⟨n2, S2, b2, hn2⟩ : ∃ n2 S2 b2, inN S1 b1 = (n2, S2, b2) := ⟨_, _, _, rfl⟩
      obtain ⟨n3, S3, b3, hn3⟩ : ∃ n3 S3 b3, inN S2 b2 = (n3, S3, b3) := ⟨_, _, _, rfl⟩
      have h3 : in3 x false = (⟨(n1 : Nat), (n2 : Nat), (n3 : Nat)⟩, S3, b3) := by unfold in3; simp only [hn1, hn2, hn3]
      have hS1 : S1.length ≤ x.length := by have := inN_len x false; rw [hn1] at this; exact this
      have hS2 : S2.length ≤ S1.length := by have := inN_len S1 b1; rw [hn2] at this; exact this
      have hS3 : S3.length ≤ S2.length := by have := inN_len S2 b2; rw [hn3] at this; exact this
      have HX1 : Aside0 (S1.length ≤ 9223372036854775807) := ⟨by have := HX.out; omega⟩
      have HX2 : Aside0 (S2.length ≤ 9223372036854775807) := ⟨by have := HX.out; omega⟩
      have HX3 : Aside0 (S3.length ≤ 9223372036854775807) := ⟨by have := HX.out; omega⟩
      have hw3 := in3_wf x false
      rw [h3] at hw3
      have HWn : Aside0 (∀ y ∈ acc ++ [(⟨(n1 : Nat), (n2 : Nat), (n3 : Nat)⟩ : S78)], Wf y) := ⟨by
        intro y hy
        rcases List.mem_append.1 hy with hy | hy
        · exact HW.out y hy
        · rw [List.mem_singleton.1 hy]
          exact hw3⟩
      have hE2 := HE2.out
      rw [h3] at hE2
      replace HE2 := Aside0.mk hE2
      have N1 := Aside0.mk hn1
      have N2 := Aside0.mk hn2
      have N3 := Aside0.mk hn3
      clear hE2 hw3 hS1 hS2 hS3 h3 hn1 hn2 hn3
      go_wp2_with fail
      have X0 := Aside0.mk (RSt.start HI.out HRs.out HB.out #[.int .u64 0, .int .u64 0, .int .u64 0])
      clear hi0 hi1
      refine (num_any _ x false w _ HX.out X0.out.1 X0.out.2.2.2.1).mono ?_
      rintro e1 w2 ⟨rfl, hI, hB, hK⟩
      have X1 := Aside0.mk (X0.out.num hI hB hK)
      rw [N1.out] at X1 ⊢
      clear hI hB hK X0
      have f0 : w2.frozen? ⟨wr.heap.size, 0, none⟩ = false := X1.out.lfree 0
      have l0 : w2.cell? ⟨wr.heap.size, 0, none⟩ = some (.int .u64 0) := X1.out.lcell 0
      simp only
      go_wp2_with fail
      have X2 := Aside0.mk (X1.out.set_ 0 (.int .u64 (n1 : Nat)))
      simp only [List.setIfInBounds_toArray, List.set_cons_zero, List.set_cons_succ] at X2
      clear X1 f0 l0
      refine (num_any _ S1 b1 w _ HX1.out X2.out.1 X2.out.2.2.2.1).mono ?_
      rintro e1 w3 ⟨rfl, hI, hB, hK⟩
      have X3 := Aside0.mk (X2.out.num hI hB hK)
      rw [N2.out] at X3 ⊢
      clear hI hB hK X2
      have f1 : w3.frozen? ⟨wr.heap.size, 1, none⟩ = false := X3.out.lfree 1
      have l1 : w3.cell? ⟨wr.heap.size, 1, none⟩ = some (.int .u64 0) := X3.out.lcell 1
      simp only
      go_wp2_with fail
      have X4 := Aside0.mk (X3.out.set_ 1 (.int .u64 (n2 : Nat)))
      simp only [List.setIfInBounds_toArray, List.set_cons_zero, List.set_cons_succ] at X4
      clear X3 f1 l1
      refine (num_any _ S2 b2 w _ HX2.out X4.out.1 X4.out.2.2.2.1).mono ?_
      rintro e1 w4 ⟨rfl, hI, hB, hK⟩
      have X5 := Aside0.mk (X4.out.num hI hB hK)
      rw [N3.out] at X5 ⊢
      clear hI hB hK X4
      have X6 := Aside0.mk (X5.out.set_ 2 (.int .u64 (n3 : Nat)))
      simp only [List.setIfInBounds_toArray, List.set_cons_zero, List.set_cons_succ] at X6
      have f2 : w4.frozen? ⟨wr.heap.size, 2, none⟩ = false := X5.out.lfree 2
      have l0 : w4.cell? ⟨wr.heap.size, 0, none⟩ = some (.int .u64 (n1 : Nat)) := X5.out.lcell 0
      have l1 : w4.cell? ⟨wr.heap.size, 1, none⟩ = some (.int .u64 (n2 : Nat)) := X5.out.lcell 1
      have l2 : w4.cell? ⟨wr.heap.size, 2, none⟩ = some (.int .u64 0) := X5.out.lcell 2
      simp only
      have X6g := X6.out
      have hlt := X6g.1.lt
      have hgr := X6g.2.2.2.1.size
      have hsz5 : (w4.setCell ⟨wr.heap.size, 2, none⟩ (.int .u64 (n3 : Nat))).heap.size = w4.heap.size := by simp
      replace hsz5 := Aside0.mk hsz5
      clear X6g
      go_wp2_with ((with_reducible refine gate_builtin (b := .append) (xs := #[.tmp 43, .tmp 45]) rfl ?_); generalize w4.setCell ⟨wr.heap.size, 2, none⟩ (.int .u64 (n3 : Nat)) = w5 at X6 hlt hgr hsz5 ⊢; at_builtin; refine Kd.R_append k81 (w0 := w) w.heap.size (by rfl) (.tmp 43) (.tmp 45) 45 81 (.agg #[(.int .u64 0), (.int .u64 0), (.int .u64 0)]) 24 rfl Try.underlying45 info81 rfl (by decide) (by omega) (.slice A acc.length cp) (acc.map own1) (⟨(n1 : Nat), (n2 : Nat), (n3 : Nat)⟩ : S81) [.int .u64 (n1 : Nat), .int .u64 (n2 : Nat), .int .u64 (n3 : Nat)] (fun k => k ≠ w.heap.size) (fun _ => False) rfl ?aX ?aP (fun _ hk => hk.elim) ?aF ?aO ?aB ?aS ?aL ?_)
      (case aX => rw [hsz5.out])
      (case aP => exact k81_mkM _ _ _ (⟨(n1 : Nat), (n2 : Nat), (n3 : Nat)⟩ : S81))
      (case aF => intro k hk he; omega)
      (case aO => exact Kd.R_mono X6.out.2.2.1 (fun _ h => h.1))
      (case aB => exact X6.out.2.2.2.1)
      (try (case aS => exact X6.out.2.2.2.1.size))
      (case aL => have := HA.out; omega)
      intro v9 w9 ho hb hg9 hat9
      have HI9 := Aside0.mk (X6.out.1.grown hg9 (fun h => (X6.out.2.2.1.1 w.heap.size h.symm).1 rfl))
      have HR9 := Aside0.mk ho
      have HB9 := Aside0.mk hb
      clear ho hb hg9 hat9 X6 X5
      go_wp2
      go_roundg k1
      case measure => omega
      case rel => exact ⟨i + 1, acc ++ [(⟨(n1 : Nat), (n2 : Nat), (n3 : Nat)⟩ : S78)], S3, b3, by go_num, ⟨by have := HK.out; omega⟩, ⟨by rw [List.length_append]; have := HA.out; simp; omega⟩, HWn, HE2, HX3, HI9, ⟨by rw [List.map_append]; exact HR9.out⟩, HB9⟩
    · have hend : gk = 0 ∨ x = [] ∨ b = true := by
        by_cases h1 : x = []
        · exact .inr (.inl h1)
        · by_cases h2 : i < 6
          · right; right
            cases b
            · exact absurd ⟨h1, h2, rfl⟩ hgo
            · rfl
          · left; have := HK.out; omega
      have hR6 : refFrom 6 s.data.toList false [] = (acc, b) := by rw [← HE.out, refFrom_end gk x b acc hend]
      obtain ⟨is, e, hL⟩ : ∃ is e, leasesM acc = (is, e) := ⟨_, _, rfl⟩
      have hUx := Aside0.mk (HU.out.trans (unlease_in s acc b hR6 is e hL))
      have HL := Aside0.mk hL
      clear hR6 hL hend HE HU HX
      by_cases hi6 : i < 6
      · have d0 : decide ((i : Int) < 6) = true := decide_eq_true (by omega)
        by_cases hx : x = []
        · subst hx
          have hsz : (str []).size = 0 := rfl
          clear hgo
          go_wp2_with fail
          refine (rleases_any A cp acc _ HC.out hcp HW.out).mono ?_
          rintro e1 w2 ⟨rfl, hb2⟩
          rw [HL.out]
          simp only [pairV]
          have HI2 := Aside0.mk (HI.out.below hb2)
          have HR2 := Aside0.mk (Kd.R_mono (Kd.R_below HRs.out hb2) (ok' := fun _ => True) (fun _ _ => trivial))
          have HB2 := Aside0.mk (below_then HB.out HB.out.size hb2)
          clear hb2
          have hi1 : w2.cell? ⟨w.heap.size, 1, none⟩ = some (.bool b) := cellS88_1 HI2.out.1
          cases b with
          | true =>
            have HN : Aside0 (¬ ((true : Bool) = false ∧ e = 0 ∧ is = s)) := ⟨by simp⟩
            have hU0 : U = none := by rw [hUx.out, if_neg HN.out]
            subst hU0
            go_wp2_with fail
            go_ret2
            exact ⟨_, rfl, Kd.R_nil _ _ _ _ _, by repeat (first | exact HB2.out | apply below_drew1 | apply below_alloc)⟩
          | false =>
            by_cases he : e = 0
            · subst he
              by_cases his : is = s
              · have hne2 : (is.toList == s.toList) = true := by rw [his]; simp
                have hU0 : U = some acc := by rw [hUx.out]; simp [his]
                subst hU0
                clear his
                go_wp2_with fail
                go_ret2
                exact ⟨_, rfl, HR2.out, by repeat (first | exact HB2.out | apply below_drew1 | apply below_alloc)⟩
              · have HN : Aside0 (¬ ((false : Bool) = false ∧ (0 : Int) = 0 ∧ is = s)) := ⟨by simp [his]⟩
                have hne2 : (is.toList == s.toList) = false := by rw [beq_eq_false_iff_ne]; intro h; exact his (toList_inj h)
                clear his
                have hU0 : U = none := by rw [hUx.out, if_neg HN.out]
                subst hU0
                go_wp2_with fail
                go_ret2
                exact ⟨_, rfl, Kd.R_nil _ _ _ _ _, by repeat (first | exact HB2.out | apply below_drew1 | apply below_alloc)⟩
            · have HN : Aside0 (¬ ((false : Bool) = false ∧ e = 0 ∧ is = s)) := ⟨by simp [he]⟩
              have he1 : (e == 0) = false := by simp [he]
              have he2 : (e != 0) = true := by simp [he]
              clear he
              have hU0 : U = none := by rw [hUx.out, if_neg HN.out]
              subst hU0
              go_wp2_with fail
              go_ret2
              exact ⟨_, rfl, Kd.R_nil _ _ _ _ _, by repeat (first | exact HB2.out | apply below_drew1 | apply below_alloc)⟩
        · have hb : b = true := by
            cases b
            · exact absurd ⟨hx, hi6, rfl⟩ hgo
            · rfl
          subst hb
          have hsz : 0 < (str x).size := by rw [str_size]; exact (by cases x with | nil => exact absurd rfl hx | cons => simp)
          clear hgo hx
          go_wp2_with fail
          refine (rleases_any A cp acc _ HC.out hcp HW.out).mono ?_
          rintro e1 w2 ⟨rfl, hb2⟩
          rw [HL.out]
          simp only [pairV]
          have HI2 := Aside0.mk (HI.out.below hb2)
          have HR2 := Aside0.mk (Kd.R_mono (Kd.R_below HRs.out hb2) (ok' := fun _ => True) (fun _ _ => trivial))
          have HB2 := Aside0.mk (below_then HB.out HB.out.size hb2)
          clear hb2
          have hi1 : w2.cell? ⟨w.heap.size, 1, none⟩ = some (.bool true) := cellS88_1 HI2.out.1
          have HN : Aside0 (¬ ((true : Bool) = false ∧ e = 0 ∧ is = s)) := ⟨by simp⟩
          have hU0 : U = none := by rw [hUx.out, if_neg HN.out]
          subst hU0
          go_wp2_with fail
          go_ret2
          exact ⟨_, rfl, Kd.R_nil _ _ _ _ _, by repeat (first | exact HB2.out | apply below_drew1 | apply below_alloc)⟩
      · have d0 : decide ((i : Int) < 6) = false := decide_eq_false (by omega)
        clear hgo
        go_wp2_with fail
        refine (rleases_any A cp acc _ HC.out hcp HW.out).mono ?_
        rintro e1 w2 ⟨rfl, hb2⟩
        rw [HL.out]
        simp only [pairV]
        have HI2 := Aside0.mk (HI.out.below hb2)
        have HR2 := Aside0.mk (Kd.R_mono (Kd.R_below HRs.out hb2) (ok' := fun _ => True) (fun _ _ => trivial))
        have HB2 := Aside0.mk (below_then HB.out HB.out.size hb2)
        clear hb2
        have hi1 : w2.cell? ⟨w.heap.size, 1, none⟩ = some (.bool b) := cellS88_1 HI2.out.1
        cases b with
        | true =>
          have HN : Aside0 (¬ ((true : Bool) = false ∧ e = 0 ∧ is = s)) := ⟨by simp⟩
          have hU0 : U = none := by rw [hUx.out, if_neg HN.out]
          subst hU0
          go_wp2_with fail
          go_ret2
          exact ⟨_, rfl, Kd.R_nil _ _ _ _ _, by repeat (first | exact HB2.out | apply below_drew1 | apply below_alloc)⟩
        | false =>
          by_cases he : e = 0
          · subst he
            by_cases his : is = s
            · have hne2 : (is.toList == s.toList) = true := by rw [his]; simp
              have hU0 : U = some acc := by rw [hUx.out]; simp [his]
              subst hU0
              clear his
              go_wp2_with fail
              go_ret2
              exact ⟨_, rfl, HR2.out, by repeat (first | exact HB2.out | apply below_drew1 | apply below_alloc)⟩
            · have HN : Aside0 (¬ ((false : Bool) = false ∧ (0 : Int) = 0 ∧ is = s)) := ⟨by simp [his]⟩
              have hne2 : (is.toList == s.toList) = false := by rw [beq_eq_false_iff_ne]; intro h; exact his (toList_inj h)
              clear his
              have hU0 : U = none := by rw [hUx.out, if_neg HN.out]
              subst hU0
              go_wp2_with fail
              go_ret2
              exact ⟨_, rfl, Kd.R_nil _ _ _ _ _, by repeat (first | exact HB2.out | apply below_drew1 | apply below_alloc)⟩
          · have HN : Aside0 (¬ ((false : Bool) = false ∧ e = 0 ∧ is = s)) := ⟨by simp [he]⟩
            have he1 : (e == 0) = false := by simp [he]
            have he2 : (e != 0) = true := by simp [he]
            clear he
            have hU0 : U = none := by rw [hUx.out, if_neg HN.out]
            subst hU0
            go_wp2_with fail
            go_ret2
            exact ⟨_, rfl, Kd.R_nil _ _ _ _ _, by repeat (first | exact HB2.out | apply below_drew1 | apply below_alloc)⟩
end Go.Proofs.Ytolningpngjhpaa.Col
