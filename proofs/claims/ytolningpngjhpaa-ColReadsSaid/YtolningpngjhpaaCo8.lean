/- col.Unlease. -/
import Derived.Test.YtolningpngjhpaaCo7
import Derived.Handy
import Derived.Outline
namespace Go.Proofs.Ytolningpngjhpaa.Col
open Go.RowKit Go.Proofs.YtolningpngjhpaaW.PrintWords Go.Proofs.YtolningpngjhpaaW.PrintLast Go.Proofs.YtolningpngjhpaaW.PrintMore
open Go.Proofs.Ytolningpngjhpaa.Nm Go.Proofs.Ytolningpngjhpaa.PColWrites
set_option linter.unusedVariables false
set_option linter.unusedSimpArgs false

/-- A lease of three numbers. -/
def lz3 (l : List Nat) : S78 := ⟨(l.getD 0 0 : Nat), (l.getD 1 0 : Nat), (l.getD 2 0 : Nat)⟩
/-- So many leases at most, behind some. -/
def unlzFrom : Nat → List UInt8 → List S78 → Option (List S78)
  | 0, _, acc => some acc
  | d + 1, s, acc => if s = [] then some acc else match numsM 3 s with
    | none => none
    | some (l, r) => unlzFrom d r (acc ++ [lz3 l])
/-- Which leases bytes are. -/
def unleaseM (s : ByteArray) : Option (List S78) := match unlzFrom 6 s.data.toList [] with
  | none => none
  | some xs => if leasesM xs = (s, 0) then some xs else none
def errI (o : Option (List S78)) : Int := if o.isSome then 0 else 2
theorem info78 : (Try.prog.info? 78).map (fun i => (i.zero, i.size, i.bytes)) = some (some (.agg #[(.int .u64 0), (.int .u64 0), (.int .u64 0)]), 3, 24) := by kernel_rfl
theorem take_shorter {s : List UInt8} {k : Nat} {r : List UInt8} (h : take s = some (k, r)) : r.length < s.length := by
  have h1 := ((take_iff _ _ _).1 h).2
  have h2 : (short k).length ≠ 0 := fun h => short_ne k (List.eq_nil_of_length_eq_zero h)
  rw [h1, List.length_append]
  omega
theorem numsM_shorter : ∀ (n : Nat) (s : List UInt8) (l : List Nat) (r : List UInt8), numsM n s = some (l, r) → r.length ≤ s.length := by
  intro n
  induction n with
  | zero =>
    intro s l r h
    simp only [numsM, Option.some.injEq, Prod.mk.injEq] at h
    rw [h.2]
    exact Nat.le_refl _
  | succ n ih =>
    intro s l r h
    simp only [numsM] at h
    split at h
    · simp at h
    · rename_i a q hq
      split at h
      · simp at h
      · rename_i l' q' hn
        simp only [Option.some.injEq, Prod.mk.injEq] at h
        obtain ⟨rfl, rfl⟩ := h
        have := ih _ _ _ hn
        have := take_shorter hq
        omega

set_option maxHeartbeats 4000000 in
set_option maxRecDepth 100000 in
theorem unlease_any (s : ByteArray) (w : World) (hz : s.size ≤ 9223372036854775807) :
    Calls Try.prog 30 #[.string s] w fun e w' => ∃ v, e = .returned (.tuple #[v, .int .i64 (errI (unleaseM s))]) ∧ Kd.R k78 78 w' w.heap.size (fun _ => True) v ((unleaseM s).getD []) ∧ Below w.heap.size w w' := by
  obtain ⟨U, hU⟩ : ∃ U, U = unleaseM s := ⟨_, rfl⟩
  rw [← hU]
  have HU := Aside0.mk hU
  have HZ := Aside0.mk hz
  clear hU hz
  go_enter Try.func30, Try.ntmps30
  go_wp2
  go_loopg [4, 5] 6 (fun kq v4 v5 w' => ∃ (acc : List S78) (x : ByteArray), v5 = .string x ∧ Aside0 (kq + acc.length = 6) ∧ Aside0 (∀ y ∈ acc, Wf y) ∧ Aside0 (unlzFrom kq x.data.toList acc = unlzFrom 6 s.data.toList []) ∧ Aside0 (x.size ≤ 9223372036854775807) ∧ Aside0 (Kd.R k78 78 w' w.heap.size (fun _ => True) v4 acc) ∧ Aside0 (Below w.heap.size w w'))
  case atStart => exact ⟨[], s, rfl, ⟨rfl⟩, ⟨by simp⟩, ⟨rfl⟩, HZ, ⟨Kd.R_nil _ _ _ _ _⟩, ⟨Below.refl _ _⟩⟩
  case round =>
    obtain ⟨acc, x, rfl, HK, HW, HE, HX, HR, HB⟩ := hrel
    have hg6 : acc.length ≤ 6 := by have := HK.out; omega
    obtain ⟨A, cp, hva, hcp, hC⟩ := Kd.R_reads HR.out
    have HRs := HR
    clear HR
    subst hva
    have HC := Aside0.mk hC
    clear hC
    by_cases hgo : x.data.toList ≠ [] ∧ acc.length ≤ 5
    · obtain ⟨hx, hl5⟩ := hgo
      have hne : x.toList.isEmpty = false := by rw [ByteArray.toList_eq]; cases h : x.data.toList with
        | nil => exact absurd h hx
        | cons => rfl
      have hdec : decide ((acc.length : Int) ≤ 5) = true := by simp; omega
      obtain ⟨k1, rfl⟩ : ∃ m, gk = m + 1 := ⟨gk - 1, by have := HK.out; omega⟩
      have HL6 : Aside0 (acc.length ≤ 5) := ⟨hl5⟩
      obtain ⟨T, hT⟩ : ∃ T, T = unlzFrom 6 s.data.toList [] := ⟨_, rfl⟩
      have hE := HE.out
      rw [← hT] at hE
      simp only [unlzFrom] at hE
      rw [if_neg hx, hT] at hE
      clear hT T
      clear HE hl5
      cases hn : numsM 3 x.data.toList with
      | none =>
        rw [hn] at hE
        have hU : U = none := by rw [HU.out]; unfold unleaseM; rw [← hE]
        subst hU
        have HN := Aside0.mk hn
        clear hn hE hx HU
        go_wp2_with (go_at_call 53; refine (numbers_none _ 3 (by decide) HX.out HN.out _).mono ?_; rintro e w1 ⟨⟨v, rfl⟩, hb1⟩)
        go_ret2
        exact ⟨_, rfl, Kd.R_nil _ _ _ _ _, below_then HB.out HB.out.size hb1⟩
      | some z =>
        obtain ⟨l, r⟩ := z
        rw [hn] at hE
        have hl := numsM_len _ _ _ _ hn
        have hsh := numsM_shorter _ _ _ _ hn
        obtain ⟨a, b, c, rfl⟩ : ∃ a b c, l = [a, b, c] := by
          match l, hl.1 with
          | [a, b, c], _ => exact ⟨a, b, c, rfl⟩
        have ha : a < 2 ^ 64 := hl.2 a (by simp)
        have hb : b < 2 ^ 64 := hl.2 b (by simp)
        have hc : c < 2 ^ 64 := hl.2 c (by simp)
        have HN := Aside0.mk hn
        have HE := Aside0.mk hE
        have HWn : Aside0 (∀ y ∈ acc ++ [(⟨(a : Int), (b : Int), (c : Int)⟩ : S78)], Wf y) := ⟨by
          intro y hy
          rcases List.mem_append.1 hy with hy | hy
          · exact HW.out y hy
          · rw [List.mem_singleton.1 hy]
            exact ⟨⟨by simp, by simp; omega⟩, ⟨by simp, by simp; omega⟩, by simp, by simp; omega⟩⟩
        have HXr : Aside0 ((str r).size ≤ 9223372036854775807) := ⟨by rw [str_size]; have := HX.out; have := data_length x; omega⟩
        clear hn hE hl hsh ha hb hc hx HW
        go_wp2_with (go_at_call 53; refine (numbers_some _ 3 [a, b, c] r (by decide) (by decide) HX.out HN.out _).mono ?_; rintro e w1 ⟨g, cap, rfl, hq, hg1, hg2, hb1⟩; have q0 : w1.drew.cell? ⟨g, 0, none⟩ = some (.int .u64 (a : Int)) := hq 0 a rfl; have q1 : w1.drew.cell? ⟨g, 1, none⟩ = some (.int .u64 (b : Int)) := hq 1 b rfl; have q2 : w1.drew.cell? ⟨g, 2, none⟩ = some (.int .u64 (c : Int)) := hq 2 c rfl; have HR1 := Aside0.mk (Kd.R_drew (Kd.R_below HRs.out hb1)); have HB1 := Aside0.mk (below_drew1 (below_then HB.out HB.out.size hb1)); clear hq hb1)
        refine start_ (n := 14) (S := fun w' => w'.cell? ⟨g, 0, none⟩ = some (.int .u64 (a : Int)) ∧ w'.cell? ⟨g, 1, none⟩ = some (.int .u64 (b : Int)) ∧ w'.cell? ⟨g, 2, none⟩ = some (.int .u64 (c : Int))) (ds := [12]) #[false, false, false, false, false, false, false, false, false, false, false, false, false, false] (by kernel_rfl) rfl rfl ⟨q0, q1, q2⟩ (fun hHeld => ?_)
        generalize w1.drew = w8 at HR1 HB1 q0 q1 q2 hHeld ⊢
        refine pure_ (i := 0) (N := some 25) (v := ?_) (a' := ?_) #[true, false, false, false, false, false, false, false, false, false, false, false, false, false] rfl rfl (by kernel_rfl) (fun _ _ _ h => h) (Or.inl ⟨by rfl, ?_⟩) ?_ ?_
        rotate_left
        · intro w'
          go_simp
          with_reducible rfl
        rotate_left
        · simp only [Act.put, List.setIfInBounds_toArray, List.set_cons_zero, List.set_cons_succ, i64_w, i32_w]
          rfl
        refine pure_ (i := 1) (N := some 26) (v := ?_) (a' := ?_) #[true, true, false, false, false, false, false, false, false, false, false, false, false, false] rfl rfl (by kernel_rfl) (fun _ _ _ h => h) (Or.inl ⟨by rfl, ?_⟩) ?_ ?_
        rotate_left
        · intro w'
          go_simp
          with_reducible rfl
        rotate_left
        · simp only [Act.put, List.setIfInBounds_toArray, List.set_cons_zero, List.set_cons_succ, i64_w, i32_w]
          rfl
        refine pure_ (i := 2) (N := some 27) (v := ?_) (a' := ?_) #[true, true, true, false, false, false, false, false, false, false, false, false, false, false] rfl rfl (by kernel_rfl) (fun _ _ _ h => h) (Or.inl ⟨by rfl, ?_⟩) ?_ ?_
        rotate_left
        · intro w'
          go_simp
          with_reducible rfl
        rotate_left
        · simp only [Act.put, List.setIfInBounds_toArray, List.set_cons_zero, List.set_cons_succ, i64_w, i32_w]
          rfl
        refine pure_ (i := 4) (N := some 29) (v := ?_) (a' := ?_) #[true, true, true, false, true, false, false, false, false, false, false, false, false, false] rfl rfl (by kernel_rfl) (fun _ _ _ h => h) (Or.inl ⟨by rfl, ?_⟩) ?_ ?_
        rotate_left
        · intro w'
          go_simp
          with_reducible rfl
        rotate_left
        · simp only [Act.put, List.setIfInBounds_toArray, List.set_cons_zero, List.set_cons_succ, i64_w, i32_w]
          rfl
        refine pure_ (i := 5) (N := some 30) (v := ?_) (a' := ?_) #[true, true, true, false, true, true, false, false, false, false, false, false, false, false] rfl rfl (by kernel_rfl) (fun _ _ _ h => h) (Or.inl ⟨by rfl, ?_⟩) ?_ ?_
        rotate_left
        · intro w'
          go_simp
          with_reducible rfl
        rotate_left
        · simp only [Act.put, List.setIfInBounds_toArray, List.set_cons_zero, List.set_cons_succ, i64_w, i32_w]
          rfl
        refine pure_ (i := 7) (N := some 32) (v := ?_) (a' := ?_) #[true, true, true, false, true, true, false, true, false, false, false, false, false, false] rfl rfl (by kernel_rfl) (fun _ _ _ h => h) (Or.inl ⟨by rfl, ?_⟩) ?_ ?_
        rotate_left
        · intro w'
          go_simp
          with_reducible rfl
        rotate_left
        · simp only [Act.put, List.setIfInBounds_toArray, List.set_cons_zero, List.set_cons_succ, i64_w, i32_w]
          rfl
        refine pure_ (i := 8) (N := some 33) (v := ?_) (a' := ?_) #[true, true, true, false, true, true, false, true, true, false, false, false, false, false] rfl rfl (by kernel_rfl) (fun _ _ _ h => h) (Or.inl ⟨by rfl, ?_⟩) ?_ ?_
        rotate_left
        · intro w'
          go_simp
          with_reducible rfl
        rotate_left
        · simp only [Act.put, List.setIfInBounds_toArray, List.set_cons_zero, List.set_cons_succ, i64_w, i32_w]
          rfl
        refine take_ (i := 3) (N := some 28) (v := ?_) (a' := ?_) #[true, true, true, true, true, true, false, true, true, false, false, false, false, false] rfl rfl (by kernel_rfl) (fun _ _ _ h => h) (Or.inl ⟨by rfl, ?_⟩) hHeld ?_ ?_
        rotate_left
        · rintro w' ⟨s0, s1, s2⟩
          go_simp
          with_reducible rfl
        rotate_left
        · simp only [Act.put, List.setIfInBounds_toArray, List.set_cons_zero, List.set_cons_succ, i64_w, i32_w]
          rfl
        refine take_ (i := 6) (N := some 31) (v := ?_) (a' := ?_) #[true, true, true, true, true, true, true, true, true, false, false, false, false, false] rfl rfl (by kernel_rfl) (fun _ _ _ h => h) (Or.inl ⟨by rfl, ?_⟩) hHeld ?_ ?_
        rotate_left
        · rintro w' ⟨s0, s1, s2⟩
          go_simp
          with_reducible rfl
        rotate_left
        · simp only [Act.put, List.setIfInBounds_toArray, List.set_cons_zero, List.set_cons_succ, i64_w, i32_w]
          rfl
        refine take_ (i := 9) (N := some 34) (v := ?_) (a' := ?_) #[true, true, true, true, true, true, true, true, true, true, false, false, false, false] rfl rfl (by kernel_rfl) (fun _ _ _ h => h) (Or.inl ⟨by rfl, ?_⟩) hHeld ?_ ?_
        rotate_left
        · rintro w' ⟨s0, s1, s2⟩
          go_simp
          with_reducible rfl
        rotate_left
        · simp only [Act.put, List.setIfInBounds_toArray, List.set_cons_zero, List.set_cons_succ, i64_w, i32_w]
          rfl
        refine pure_ (i := 10) (N := some 35) (v := ?_) (a' := ?_) #[true, true, true, true, true, true, true, true, true, true, true, false, false, false] rfl rfl (by kernel_rfl) (fun _ _ _ h => h) (Or.inl ⟨by rfl, ?_⟩) ?_ ?_
        rotate_left
        · intro w'
          go_simp
          with_reducible rfl
        rotate_left
        · simp only [Act.put, List.setIfInBounds_toArray, List.set_cons_zero, List.set_cons_succ, i64_w, i32_w]
          rfl
        refine one_ (i := 11) (N := some 36) #[true, true, true, true, true, true, true, true, true, true, true, true, false, false] rfl rfl (by kernel_rfl) (by decide) (fun K hK => ?_)
        refine value_ (w1 := ?_) (v := ?_) (by rfl) rfl ?_ ?_
        rotate_left 2
        · go_simp
          constructor
          · rfl
          · rfl
        refine hK.out _ _ ⟨(World.cell?_alloc_lt _ _ _ (World.block_lt_of_cell? _ _ q0)).trans q0, (World.cell?_alloc_lt _ _ _ (World.block_lt_of_cell? _ _ q1)).trans q1, (World.cell?_alloc_lt _ _ _ (World.block_lt_of_cell? _ _ q2)).trans q2⟩ (fun hHeld => ?_)
        clear hK K
        refine norm_ (a' := ?_) ?_ ?_
        rotate_left
        · show Act.put _ (some 36) _ = _
          simp only [Act.put, List.setIfInBounds_toArray, List.set_cons_zero, List.set_cons_succ, i64_w, i32_w]
          rfl
        refine last_ (i := 12) (N := some 37) #[true, true, true, true, true, true, true, true, true, true, true, true, true, false] rfl rfl (by kernel_rfl) (by decide) (fun K hK => ?_)
        refine Kd.R_append_step k78 (w0 := w) w.heap.size (by rfl) (.tmp 25) (.tmp 36) 40 78 (.agg #[(.int .u64 0), (.int .u64 0), (.int .u64 0)]) 24 rfl Try.underlying40 info78 rfl (by decide) (by omega) (.slice A acc.length cp) acc (⟨(a : Int), (b : Int), (c : Int)⟩ : S78) [.int .u64 (a : Int), .int .u64 (b : Int), .int .u64 (c : Int)] (fun _ => True) (fun _ => False) rfl rfl ?aP (fun _ hk => hk.elim) ?aF ?aO ?aB ?aS ?aL ?_
        (case aP => exact k78_mkM _ _ _ (⟨(a : Int), (b : Int), (c : Int)⟩ : S78))
        (case aB => exact HB1.out)
        (case aF => exact (fun _ _ => trivial))
        (case aO => exact HR1.out)
        (case aS => exact below_size (HB1.out))
        (case aL => have := HL6.out; omega)
        intro v9 w9 ho hb hg hat
        have HR2 := Aside0.mk ho
        have HB2 := Aside0.mk hb
        clear ho hb hg hat
        refine hK.out _ _ ?_
        clear hK K
        refine norm_ (a' := ?_) ?_ ?_
        rotate_left
        · show Act.put _ (some 37) _ = _
          simp only [Act.put, List.setIfInBounds_toArray, List.set_cons_zero, List.set_cons_succ, i64_w, i32_w]
          rfl
        refine pure_ (i := 13) (N := some 4) (v := ?_) (a' := ?_) #[true, true, true, true, true, true, true, true, true, true, true, true, true, true] rfl rfl (by kernel_rfl) (fun _ _ _ h => h) (Or.inl ⟨by rfl, ?_⟩) ?_ ?_
        rotate_left
        · intro w'
          go_simp
          with_reducible rfl
        rotate_left
        · simp only [Act.put, List.setIfInBounds_toArray, List.set_cons_zero, List.set_cons_succ, i64_w, i32_w]
          rfl
        refine done_ (by kernel_rfl) ?_

        go_wp2
        go_roundg k1
        case measure => omega
        case rel => exact ⟨acc ++ [(⟨(a : Int), (b : Int), (c : Int)⟩ : S78)], str r, rfl, ⟨by have := HK.out; simp; omega⟩, HWn, ⟨by rw [str_list]; exact HE.out⟩, HXr, HR2, HB2⟩
    · have hU : U = if leasesM acc = (s, 0) then some acc else none := by
        have hE := HE.out
        have h2 : unlzFrom gk x.data.toList acc = some acc := by
          cases gk with
          | zero => rfl
          | succ k =>
            simp only [unlzFrom]
            rw [if_pos]
            have := HK.out
            by_cases hx : x.data.toList = []
            · exact hx
            · exact absurd ⟨hx, by omega⟩ hgo
        rw [h2] at hE
        rw [HU.out]
        unfold unleaseM
        rw [← hE]
      have hcl := fun W (h : Kd.C k78 W A acc.length acc) => checkedLease_any A cp acc s W h hcp HW.out
      have hfin : ∃ V, (if leasesM acc = (s, 0) then Value.tuple #[.slice A acc.length cp, .int .i64 0] else .tuple #[.slice none 0 0, .int .i64 2]) = .tuple #[V, .int .i64 (errI U)] ∧ Kd.R k78 78 wr w.heap.size (fun _ => True) V (U.getD []) := by
        rw [hU]
        split
        · exact ⟨_, rfl, HRs.out⟩
        · exact ⟨_, rfl, Kd.R_nil _ _ _ _ _⟩
      obtain ⟨V, hV, hRV⟩ := hfin
      simp only [hV] at hcl
      have HCL := Aside0.mk hcl
      have HV := Aside0.mk hRV
      clear hU hV hRV hcl HW HU HE HX
      by_cases hx : x.data.toList = []
      · have hne : x.toList.isEmpty = true := by rw [ByteArray.toList_eq, hx]; rfl
        clear hgo hx
        go_wp2_with (go_at_call 57; refine (HCL.out _ HC.out).mono ?_; rintro e w1 ⟨rfl, hb1⟩)
        go_ret2
        exact ⟨_, rfl, Kd.R_below HV.out hb1, below_then HB.out HB.out.size hb1⟩
      · have hne : x.toList.isEmpty = false := by rw [ByteArray.toList_eq]; cases h : x.data.toList with
          | nil => exact absurd h hx
          | cons => rfl
        have hdec : decide ((acc.length : Int) ≤ 5) = false := by
          simp
          by_cases h5 : acc.length ≤ 5
          · exact absurd ⟨hx, h5⟩ hgo
          · omega
        clear hgo hx
        go_wp2_with (go_at_call 57; refine (HCL.out _ HC.out).mono ?_; rintro e w1 ⟨rfl, hb1⟩)
        go_ret2
        exact ⟨_, rfl, Kd.R_below HV.out hb1, below_then HB.out HB.out.size hb1⟩
end Go.Proofs.Ytolningpngjhpaa.Col
