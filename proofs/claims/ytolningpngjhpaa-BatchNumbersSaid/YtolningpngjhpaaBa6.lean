/- batch.Decode. -/
import Derived.Test.YtolningpngjhpaaBa5
import Derived.Laws.EntriesVeiled
namespace Go.Proofs.Ytolningpngjhpaa.Bat
open Go.RowKit Go.Proofs.YtolningpngjhpaaW.PrintWords Go.Proofs.YtolningpngjhpaaW.PrintLast Go.Proofs.YtolningpngjhpaaW.PrintMore
open Go.Proofs.Ytolningpngjhpaa.Nm
open Go.Proofs.Ytolningpngjhpaa.PBatchWrites (S66 k66 z66 rd_T66 at_T66 k66_mk k66_mkM k66_open S64 k64 info64 k64_mkM)
set_option linter.unusedVariables false
set_option linter.unusedSimpArgs false

theorem info66 : (Try.prog.info? 66).map (fun i => (i.zero, i.size, i.bytes)) = some (some (.agg #[(.bool false), (.string ⟨#[]⟩), (.string ⟨#[]⟩)]), 3, 40) := by kernel_rfl
section
variable {P : Program} {ops : Array Oper} {Q : Exit → Act → World → Prop}
/-- A call of a function value that a slot holds, in a region that draws its order. -/
theorem goesF_ {oi : Oper} {N : Option Tmp} {a : Act} {w : World} {K : Act → World → Prop} {f : FuncId} {fn : Func} {x : Operand} {xs : Array Operand} {ts : Array TypeId} (hf : P.funcs[f]? = some fn) (hname : (fn.name == "runtime.NumGoroutine") = false) (hb : fn.body.isSome = true) (args lb al : Array Value)
    (hw : Region.wanted oi (yielded ops a.tmps) = true) (hN : oi.dst = N) (hop : oi.op = .call { callee := .value x, args := xs, argTypes := ts }) (hx : a.eval x = .func (.func f) #[] lb) (hargs : xs.map a.eval = args) (hal : args ++ lb = al)
    (h : Calls P f al w fun e w' => ∃ v, e = .returned v ∧ K (a.put N v) w') : if Region.wanted oi (yielded ops a.tmps) = true then Oper.wp P oi a w K Q else K (a.put N undef) w := by
  subst hal
  refine call_ f (args ++ lb) hw hN ?_ h
  have he := enters_ hf hname hb (args ++ lb) w
  unfold execOp
  simp [hop, resolve, Deferred.ofValue, invoke, hx, hargs, he]
end

/-- Operations that are read. -/
def opsM : Nat → List UInt8 → Bool → List S66 → List S66 × List UInt8 × Bool
  | 0, s, g, acc => (acc, s, g)
  | n + 1, s, g, acc =>
    if (nuM s g).1 = 1 then opsM n (teM (nuM s g).2.1 (nuM s g).2.2).2.1 (teM (nuM s g).2.1 (nuM s g).2.2).2.2 (acc ++ [⟨true, str (teM (nuM s g).2.1 (nuM s g).2.2).1, ⟨#[]⟩⟩])
    else opsM n (teM (teM (nuM s g).2.1 (nuM s g).2.2).2.1 (teM (nuM s g).2.1 (nuM s g).2.2).2.2).2.1
      ((teM (teM (nuM s g).2.1 (nuM s g).2.2).2.1 (teM (nuM s g).2.1 (nuM s g).2.2).2.2).2.2 && decide ((nuM s g).1 ≤ 1))
      (acc ++ [⟨false, str (teM (nuM s g).2.1 (nuM s g).2.2).1, str (teM (teM (nuM s g).2.1 (nuM s g).2.2).2.1 (teM (nuM s g).2.1 (nuM s g).2.2).2.2).1⟩])
/-- Which batch bytes are. -/
def decM (s : List UInt8) : Option (Nat × List S66) :=
  if (nuM (nuM s true).2.1 (nuM s true).2.2).2.2 = false ∨ 16 < (nuM (nuM s true).2.1 (nuM s true).2.2).1 then none
  else if (opsM (nuM (nuM s true).2.1 (nuM s true).2.2).1 (nuM (nuM s true).2.1 (nuM s true).2.2).2.1 true []).2.2 = true ∧ (opsM (nuM (nuM s true).2.1 (nuM s true).2.2).1 (nuM (nuM s true).2.1 (nuM s true).2.2).2.1 true []).2.1 = []
      ∧ mayB (opsM (nuM (nuM s true).2.1 (nuM s true).2.2).1 (nuM (nuM s true).2.1 (nuM s true).2.2).2.1 true []).1 = true ∧ numB (nuM s true).1 (opsM (nuM (nuM s true).2.1 (nuM s true).2.2).1 (nuM (nuM s true).2.1 (nuM s true).2.2).2.1 true []).1.length = true
    then some ((nuM s true).1, (opsM (nuM (nuM s true).2.1 (nuM s true).2.2).1 (nuM (nuM s true).2.1 (nuM s true).2.2).2.1 true []).1) else none
theorem teM_len (s : List UInt8) (g : Bool) : (teM s g).2.1.length ≤ s.length := by
  have := nuM_len s g
  unfold teM
  split
  · simp only; omega
  · simp only [List.length_drop]; omega
theorem teM_len1 (s : List UInt8) (g : Bool) : (teM s g).1.length ≤ s.length := by
  have := nuM_len s g
  unfold teM
  split
  · simp
  · simp only [List.length_take]; omega

/-- What Decode has in memory (X: blocks that are no row of the operations'). -/
def DD (w W : World) (s : List UInt8) (g : Bool) (v : Value) (acc : List S66) (X : Nat → Prop) : Prop :=
  DSt w.heap.size (w.heap.size + 1) W s g ∧ W.heap[w.heap.size + 1 + 1]? = some (.cells #[numV w.heap.size (w.heap.size + 1)] 89 (0, 0)) ∧ Kd.R k66 66 W w.heap.size (fun k => k ≠ w.heap.size ∧ k ≠ w.heap.size + 1 ∧ k ≠ w.heap.size + 1 + 1 ∧ ¬ X k) v acc ∧ Below w.heap.size w W
theorem DD.start (w : World) (s : List UInt8) :
    DD w (((w.alloc (.cells #[.string (str s)] 9)).alloc (.cells #[.bool true] 4)).alloc (.cells #[numV w.heap.size (w.heap.size + 1)] 89)) s true (.slice none 0 0) [] (fun _ => False) := by
  have h1 := blk_new (w.alloc (.cells #[.string (str s)] 9)) (.cells #[.bool true] 4)
  rw [show (w.alloc (.cells #[.string (str s)] 9)).heap.size = w.heap.size + 1 by simp] at h1
  have h2 := blk_new ((w.alloc (.cells #[.string (str s)] 9)).alloc (.cells #[.bool true] 4)) (.cells #[numV w.heap.size (w.heap.size + 1)] 89)
  rw [show ((w.alloc (.cells #[.string (str s)] 9)).alloc (.cells #[.bool true] 4)).heap.size = w.heap.size + 1 + 1 by simp] at h2
  exact ⟨⟨blk_alloc (blk_alloc (blk_new w _) _) _, blk_alloc h1 _⟩, h2, Kd.R_nil _ _ _ _ _, below_alloc (below_alloc (below_alloc (Below.refl _ _) _) _) _⟩
section
variable {w W W1 : World} {s s' : List UInt8} {g g' : Bool} {v v1 : Value} {acc acc1 : List S66} {X : Nat → Prop}
theorem DD.lt (h : DD w W s g v acc X) : w.heap.size + 1 + 1 < W.heap.size := blk_lt h.2.1
theorem DD.kept (h : DD w W s g v acc X) (hD : DSt w.heap.size (w.heap.size + 1) W1 s' g') (hK : Kept W W1 (fun k => k = w.heap.size ∨ k = w.heap.size + 1)) (hB : Below w.heap.size W W1) : DD w W1 s' g' v acc X :=
  ⟨hD, blk_kept h.2.1 hK (by omega), Kd.R_kept h.2.2.1 hK (fun k hk => by have h1 := hk.1; have h2 := hk.2.1; omega), h.2.2.2.trans hB⟩
theorem DD.below (h : DD w W s g v acc X) (hb : Below W.heap.size W W1) : DD w W1 s g v acc X :=
  ⟨h.1.below hb, blk_below h.2.1 hb, Kd.R_below h.2.2.1 hb, below_step h.2.2.2 hb⟩
theorem DD.drew (h : DD w W s g v acc X) : DD w W.drew s g v acc X := h.below (below_drew (Below.refl _ _))
theorem DD.number (h : DD w W s g v acc X) (hs : s.length ≤ 9223372036854775807) :
    Calls Try.prog 67 #[.pointer (some ⟨w.heap.size, 0, none⟩), .pointer (some ⟨w.heap.size + 1, 0, none⟩)] W fun e w' => e = .returned (.int .u64 ((nuM s g).1 : Nat)) ∧ DD w w' (nuM s g).2.1 (nuM s g).2.2 v acc X ∧ Kept W w' (fun k => k = w.heap.size ∨ k = w.heap.size + 1) := by
  refine (number_any w.heap.size _ _ s g W h.1 hs (Nat.le_refl _) (by omega) (by have := h.lt; omega)).mono ?_
  rintro e w' ⟨he, hD, hK, hB⟩
  exact ⟨he, h.kept hD hK hB, hK⟩
theorem DD.text (h : DD w W s g v acc X) (hs : s.length ≤ 9223372036854775807) :
    Calls Try.prog 69 #[.pointer (some ⟨w.heap.size + 1 + 1, 0, none⟩), .pointer (some ⟨w.heap.size + 1, 0, none⟩), .pointer (some ⟨w.heap.size, 0, none⟩)] W fun e w' => e = .returned (.string (str (teM s g).1)) ∧ DD w w' (teM s g).2.1 (teM s g).2.2 v acc X ∧ Kept W w' (fun k => k = w.heap.size ∨ k = w.heap.size + 1) := by
  refine (taketext_any w.heap.size _ _ _ s g W h.1 h.2.1 hs (Nat.le_refl _) (by omega) (by have := h.lt; omega)).mono ?_
  rintro e w' ⟨he, hD, hK, hB⟩
  exact ⟨he, h.kept hD hK hB, hK⟩
theorem DD.ncell (h : DD w W s g v acc X) : W.cell? ⟨w.heap.size + 1 + 1, 0, none⟩ = some (numV w.heap.size (w.heap.size + 1)) := blk_cell h.2.1 0
theorem DD.gcell (h : DD w W s g v acc X) : W.cell? ⟨w.heap.size + 1, 0, none⟩ = some (.bool g) := blk_cell h.1.2 0
theorem DD.gfree (h : DD w W s g v acc X) : W.frozen? ⟨w.heap.size + 1, 0, none⟩ = false := blk_frozen h.1.2 0
theorem DD.scell (h : DD w W s g v acc X) : W.cell? ⟨w.heap.size, 0, none⟩ = some (.string (str s)) := blk_cell h.1.1 0
theorem DD.setG (h : DD w W s g v acc X) (x : Bool) : DD w (W.setCell ⟨w.heap.size + 1, 0, none⟩ (.bool x)) s x v acc X :=
  ⟨h.1.setG x, blk_far h.2.1 (by simp) _, Kd.R_far h.2.2.1 (fun k hk => hk.2.1) _, below_set h.2.2.2 (by omega)⟩
/-- A new block that is no row of the operations'. -/
theorem DD.box (h : DD w W s g v acc (fun _ => False)) (o : Obj) : DD w (W.alloc o) s g v acc (fun k => k = W.heap.size) :=
  ⟨h.1.below (below_alloc (Below.refl _ _) o), blk_alloc h.2.1 o, Kd.R_alloc (Kd.R_mono (Kd.R_bound h.2.2.1) (fun k hk => ⟨hk.1.1, hk.1.2.1, hk.1.2.2.1, by have := hk.2.2.1; omega⟩)) o, below_alloc h.2.2.2 o⟩
theorem DD.setX {b j : Nat} (h : DD w W s g v acc (fun k => k = b)) (hb : w.heap.size + 1 + 1 < b) (u : Value) : DD w (W.setCell ⟨b, j, none⟩ u) s g v acc (fun k => k = b) :=
  ⟨⟨blk_far h.1.1 (by simp only; omega) u, blk_far h.1.2 (by simp only; omega) u⟩, blk_far h.2.1 (by simp only; omega) u, Kd.R_far h.2.2.1 (fun k hk => hk.2.2.2) u, below_set h.2.2.2 (by omega)⟩
theorem DD.append (h : DD w W s g v acc X) (ho : Kd.R k66 66 W1 w.heap.size (fun k => k ≠ w.heap.size ∧ k ≠ w.heap.size + 1 ∧ k ≠ w.heap.size + 1 + 1) v1 acc1) (hb : Below w.heap.size w W1) (hg : W.grownBy W1 v.ownBlock) : DD w W1 s g v1 acc1 (fun _ => False) :=
  ⟨⟨blk_grown h.1.1 hg (fun e => (h.2.2.1.1 _ e.symm).1 rfl), blk_grown h.1.2 hg (fun e => (h.2.2.1.1 _ e.symm).2.1 rfl)⟩, blk_grown h.2.1 hg (fun e => (h.2.2.1.1 _ e.symm).2.2.1 rfl), Kd.R_mono ho (fun k hk => ⟨hk.1, hk.2.1, hk.2.2, fun hf => hf⟩), hb⟩
theorem DD.row (h : DD w W s g v acc X) : Kd.R k66 66 W w.heap.size (fun _ => True) v acc := Kd.R_mono h.2.2.1 (fun _ _ => trivial)
end

set_option maxHeartbeats 4000000 in
set_option maxRecDepth 100000 in
theorem decode_any (s : ByteArray) (w : World) (hz : s.size ≤ 9223372036854775807) :
    Calls Try.prog 43 #[.string s] w fun e w' => ∃ (n : Nat) (v : Value) (l : List S66) (x : Int), e = .returned (.tuple #[.int .u64 (n : Int), v, .int .i64 x]) ∧ Kd.R k66 66 w' w.heap.size (fun _ => True) v l ∧ Below w.heap.size w w' ∧
      (match decM s.data.toList with | some (m, k) => n = m ∧ l = k ∧ x = 0 | none => n = 0 ∧ l = [] ∧ x = 2) := by
  obtain ⟨t, rfl⟩ : ∃ t, s = str t := ⟨_, (str_of s).symm⟩
  rw [str_list]
  obtain ⟨R, hR⟩ : ∃ R, R = decM t := ⟨_, rfl⟩
  rw [← hR]
  have htl : t.length ≤ 9223372036854775807 := by rw [str_size] at hz; exact hz
  obtain ⟨n1, s1, g1, hn1⟩ : ∃ n1 s1 g1, nuM t true = (n1, s1, g1) := ⟨_, _, _, rfl⟩
  obtain ⟨n2, s2, g2, hn2⟩ : ∃ n2 s2 g2, nuM s1 g1 = (n2, s2, g2) := ⟨_, _, _, rfl⟩
  have h1l := nuM_len t true
  have h2l := nuM_len s1 g1
  have h1n := nuM_lt t true
  have h2n := nuM_lt s1 g1
  rw [hn1] at h1l h1n
  rw [hn2] at h2l h2n
  simp only at h1l h2l h1n h2n
  unfold decM at hR
  rw [hn1] at hR
  simp only at hR
  rw [hn2] at hR
  simp only at hR
  have HR := Aside0.mk hR
  have HN1 := Aside0.mk hn1
  have HN2 := Aside0.mk hn2
  have HZ := Aside0.mk htl
  have HZ1 : Aside0 (s1.length ≤ 9223372036854775807) := ⟨by omega⟩
  have HZ2 : Aside0 (s2.length ≤ 9223372036854775807) := ⟨by omega⟩
  have HL1 := Aside0.mk h1n
  have HL2 := Aside0.mk h2n
  clear hR hn1 hn2 htl h1l h2l h1n h2n hz
  go_enter Try.func43, Try.ntmps43
  go_wp2_with fail
  have X0 := Aside0.mk (DD.start w t)
  refine start_ (n := 6) (S := fun w' => w'.cell? ⟨w.heap.size + 1 + 1, 0, none⟩ = some (numV w.heap.size (w.heap.size + 1))) (ds := []) #[false, false, false, false, false, false] (by kernel_rfl) rfl rfl (X0.out.drew.ncell) (fun hHeld => ?_)
  refine take_ (i := 0) (N := some 15) (v := ?_) (a' := ?_) #[true, false, false, false, false, false] rfl rfl (by kernel_rfl) (fun _ _ _ h => h) (Or.inl ⟨by rfl, ?_⟩) hHeld ?_ ?_
  rotate_left
  · intro w' s0
    go_simp
    with_reducible rfl
  rotate_left
  · simp only [Act.put, List.setIfInBounds_toArray, List.set_cons_zero, List.set_cons_succ, i64_w, i32_w]
    rfl
  refine take_ (i := 2) (N := some 17) (v := ?_) (a' := ?_) #[true, false, true, false, false, false] rfl rfl (by kernel_rfl) (fun _ _ _ h => h) (Or.inl ⟨by rfl, ?_⟩) hHeld ?_ ?_
  rotate_left
  · intro w' s0
    go_simp
    with_reducible rfl
  rotate_left
  · simp only [Act.put, List.setIfInBounds_toArray, List.set_cons_zero, List.set_cons_succ, i64_w, i32_w]
    rfl
  refine one_ (i := 1) (N := some 16) #[true, true, true, false, false, false] rfl rfl (by kernel_rfl) (by decide) (fun K hK => ?_)
  refine goesF_ Try.func67 (by kernel_rfl) rfl #[] #[.pointer (some ⟨w.heap.size, 0, none⟩), .pointer (some ⟨w.heap.size + 1, 0, none⟩)] #[.pointer (some ⟨w.heap.size, 0, none⟩), .pointer (some ⟨w.heap.size + 1, 0, none⟩)] (by rfl) rfl rfl rfl (by simp) (by simp) ?_
  with_reducible refine (X0.out.drew.number HZ.out).mono ?_
  rintro e w1 ⟨rfl, hD, hK⟩
  refine ⟨_, rfl, ?_⟩
  have X1 := Aside0.mk hD
  clear hD hK
  rw [HN1.out] at X1 ⊢
  refine hK.out _ _ (X1.out.ncell) (fun hHeld => ?_)
  clear hK K
  refine norm_ (a' := ?_) ?_ ?_
  rotate_left
  · show Act.put _ (some 16) _ = _
    simp only [Act.put, List.setIfInBounds_toArray, List.set_cons_zero, List.set_cons_succ, i64_w, i32_w]
    rfl
  refine one_ (i := 3) (N := some 18) #[true, true, true, true, false, false] rfl rfl (by kernel_rfl) (by decide) (fun K hK => ?_)
  refine goesF_ Try.func67 (by kernel_rfl) rfl #[] #[.pointer (some ⟨w.heap.size, 0, none⟩), .pointer (some ⟨w.heap.size + 1, 0, none⟩)] #[.pointer (some ⟨w.heap.size, 0, none⟩), .pointer (some ⟨w.heap.size + 1, 0, none⟩)] (by rfl) rfl rfl rfl (by simp) (by simp) ?_
  with_reducible refine (X1.out.number HZ1.out).mono ?_
  rintro e w2 ⟨rfl, hD, hK⟩
  refine ⟨_, rfl, ?_⟩
  have X2 := Aside0.mk hD
  clear hD hK
  rw [HN2.out] at X2 ⊢
  refine hK.out _ _ (X2.out.ncell) (fun hHeld => ?_)
  clear hK K
  refine norm_ (a' := ?_) ?_ ?_
  rotate_left
  · show Act.put _ (some 18) _ = _
    simp only [Act.put, List.setIfInBounds_toArray, List.set_cons_zero, List.set_cons_succ, i64_w, i32_w]
    rfl
  refine pure_ (i := 4) (N := some 8) (v := ?_) (a' := ?_) #[true, true, true, true, true, false] rfl rfl (by kernel_rfl) (fun _ _ _ h => h) (Or.inl ⟨by rfl, ?_⟩) ?_ ?_
  rotate_left
  · intro w'
    go_simp
    with_reducible rfl
  rotate_left
  · simp only [Act.put, List.setIfInBounds_toArray, List.set_cons_zero, List.set_cons_succ, i64_w, i32_w]
    rfl
  refine pure_ (i := 5) (N := some 9) (v := ?_) (a' := ?_) #[true, true, true, true, true, true] rfl rfl (by kernel_rfl) (fun _ _ _ h => h) (Or.inl ⟨by rfl, ?_⟩) ?_ ?_
  rotate_left
  · intro w'
    go_simp
    with_reducible rfl
  rotate_left
  · simp only [Act.put, List.setIfInBounds_toArray, List.set_cons_zero, List.set_cons_succ, i64_w, i32_w]
    rfl
  refine done_ (by kernel_rfl) ?_

  clear X1
  have cg : w2.cell? ⟨w.heap.size + 1, 0, none⟩ = some (.bool g2) := X2.out.gcell
  cases g2 with
  | false =>
    have hR0 : R = none := by rw [HR.out, if_pos (by simp)]
    subst hR0
    go_wp2_with fail
    refine bodyPost_ret (results_tmp3 rfl _ _ _) rfl ?_
    exact ⟨0, _, [], 2, rfl, Kd.R_nil _ _ _ _ _, X2.out.2.2.2, rfl, rfl, rfl⟩
  | true =>
    by_cases h16 : 16 < n2
    · have hR0 : R = none := by rw [HR.out, if_pos (by simp [h16])]
      subst hR0
      have d16 : decide ((16 : Int) < (n2 : Int)) = true := decide_eq_true (by omega)
      go_wp2_with fail
      refine bodyPost_ret (results_tmp3 rfl _ _ _) rfl ?_
      exact ⟨0, _, [], 2, rfl, Kd.R_nil _ _ _ _ _, X2.out.2.2.2, rfl, rfl, rfl⟩
    · have d16 : decide ((16 : Int) < (n2 : Int)) = false := decide_eq_false (by omega)
      have hR1 := HR.out
      rw [if_neg (by simp [h16])] at hR1
      replace HR := Aside0.mk hR1
      clear hR1
      have h16b : n2 ≤ 16 := by omega
      clear h16
      go_wp2_with fail
      clear cg
      go_loopg [10, 11, 12, 26] (n2 + 1) (fun kq v10 v11 v12 v26 w' => ∃ (i : Nat) (acc : List S66) (s : List UInt8) (g : Bool), v26 = .int .u64 (i : Int) ∧ Aside0 (kq + i = n2 + 1) ∧ i ≤ n2 ∧ Aside0 (opsM (n2 - i) s g acc = opsM n2 s2 true []) ∧ Aside0 (acc.length = i) ∧ Aside0 (s.length ≤ 9223372036854775807) ∧ Aside0 (∀ x ∈ acc, WfO x) ∧ Aside0 (DD w w' s g v10 acc (fun _ => False)))
      case atStart => exact ⟨0, [], s2, true, rfl, ⟨rfl⟩, Nat.zero_le _, ⟨rfl⟩, ⟨rfl⟩, HZ2, ⟨by simp⟩, X2⟩
      case round =>
        clear X2
        obtain ⟨i, acc, s, g, rfl, HK, hi, HE, HA, HS, HW, X2⟩ := hrel
        obtain ⟨Av, cp, hva, hcp, hC⟩ := Kd.R_reads X2.out.2.2.1
        subst hva
        have HC := Aside0.mk hC
        clear hC
        by_cases hlt : i < n2
        · obtain ⟨k1, rfl⟩ : ∃ m, gk = m + 1 := ⟨gk - 1, by have := HK.out; omega⟩
          obtain ⟨m, hm⟩ : ∃ m, n2 - i = m + 1 := ⟨n2 - i - 1, by omega⟩
          have hm2 : n2 - (i + 1) = m := by omega
          have hE := HE.out
          rw [hm, opsM] at hE
          obtain ⟨kd, sa, ga, hka⟩ : ∃ kd sa ga, nuM s g = (kd, sa, ga) := ⟨_, _, _, rfl⟩
          obtain ⟨ta, sb, gb, hkb⟩ : ∃ ta sb gb, teM sa ga = (ta, sb, gb) := ⟨_, _, _, rfl⟩
          obtain ⟨tb, sc, gc, hkc⟩ : ∃ tb sc gc, teM sb gb = (tb, sc, gc) := ⟨_, _, _, rfl⟩
          have la := nuM_len s g
          have lb := teM_len sa ga
          have lc := teM_len sb gb
          have lta := teM_len1 sa ga
          have ltb := teM_len1 sb gb
          rw [hka] at hE la
          simp only at hE la
          rw [hkb] at hE lb lta
          simp only at hE lb lta
          rw [hkc] at hE lc ltb
          simp only at hE lc ltb
          have HSa : Aside0 (sa.length ≤ 9223372036854775807) := ⟨by have := HS.out; omega⟩
          have HSb : Aside0 (sb.length ≤ 9223372036854775807) := ⟨by have := HS.out; omega⟩
          have HSc : Aside0 (sc.length ≤ 9223372036854775807) := ⟨by have := HS.out; omega⟩
          have HTa : Aside0 ((str ta).size ≤ 9223372036854775807) := ⟨by rw [str_size]; have := HS.out; omega⟩
          have HTb : Aside0 ((str tb).size ≤ 9223372036854775807) := ⟨by rw [str_size]; have := HS.out; omega⟩
          have HKa := Aside0.mk hka
          have HKb := Aside0.mk hkb
          have HKc := Aside0.mk hkc
          have HM2 := Aside0.mk hm2
          clear hka hkb hkc la lb lc lta ltb hm hm2 HE HC
          have cn : wr.cell? ⟨w.heap.size + 1 + 1, 0, none⟩ = some (numV w.heap.size (w.heap.size + 1)) := X2.out.ncell
          have d0 : decide (i < n2) = true := decide_eq_true hlt
          by_cases hk1 : kd = 1
          · subst hk1
            rw [if_pos rfl] at hE
            have HE := Aside0.mk hE
            clear hE
            have hk1 : (((nuM s g).1 : Nat) : Int) = 1 := by rw [HKa.out]; rfl
            replace hk1 := Aside0.mk hk1
            go_wp2_with fail
            refine (X2.out.number HS.out).mono ?_
            rintro e w3 ⟨rfl, hD, hK⟩
            rw [hk1.out]
            rw [HKa.out] at hD
            have X3 := Aside0.mk hD
            clear hD hK X2 cn
            go_wp2_with fail
            refine (X3.out.text HSa.out).mono ?_
            rintro e w4 ⟨rfl, hD, hK⟩
            rw [HKb.out] at hD ⊢
            have X5 := Aside0.mk ((hD.setG gb).box (.cells #[.bool true, .string (str ta), .string ⟨#[]⟩] 66))
            have cg : w4.cell? ⟨w.heap.size + 1, 0, none⟩ = some (.bool gb) := hD.gcell
            have fg : w4.frozen? ⟨w.heap.size + 1, 0, none⟩ = false := hD.gfree
            have hlt4 := hD.lt
            have hlt4a : w.heap.size + 1 < w4.heap.size := by omega
            clear hD hK X3
            have hsz5 : ((w4.setCell ⟨w.heap.size + 1, 0, none⟩ (.bool gb)).alloc (.cells #[.bool true, .string (str ta), .string ⟨#[]⟩] 66)).heap.size = w4.heap.size + 1 := by simp
            replace hsz5 := Aside0.mk hsz5
            cases gb
            all_goals
              go_wp2_with ((with_reducible refine gate_builtin (b := .append) (xs := #[.tmp 46, .tmp 48]) rfl ?_); generalize World.alloc (World.setCell w4 _ _) (.cells #[.bool true, .string (str ta), .string ⟨#[]⟩] 66) = w5 at X5 hsz5 ⊢; refine Kd.R_append k66 (w0 := w) w.heap.size (by rfl) (.tmp 46) (.tmp 48) 58 66 (.agg #[(.bool false), (.string ⟨#[]⟩), (.string ⟨#[]⟩)]) 40 rfl Try.underlying58 info66 rfl (by decide) (by omega) (.slice Av acc.length cp) acc (⟨true, str ta, ⟨#[]⟩⟩ : S66) [.bool true, .string (str ta), .string ⟨#[]⟩] (fun k => k ≠ w.heap.size ∧ k ≠ w.heap.size + 1 ∧ k ≠ w.heap.size + 1 + 1) (fun _ => False) rfl ?aX ?aP (fun _ hk => hk.elim) ?aF ?aO ?aB ?aS ?aL ?_)
              (case aX => first | (rw [hsz5.out]; done) | (rw [hsz5.out]; rfl))
              (case aP => exact k66_mkM _ _ _ (⟨true, str ta, ⟨#[]⟩⟩ : S66))
              (case aF => intro k hk; have := hsz5.out; omega)
              (case aO => exact Kd.R_mono X5.out.2.2.1 (fun k hk => ⟨hk.1, hk.2.1, hk.2.2.1⟩))
              (case aB => exact X5.out.2.2.2)
              (try (case aS => exact X5.out.2.2.2.size))
              (case aL => have := HA.out; omega)
              intro v9 w9 ho hb hg9 hat9
              have X6 := Aside0.mk (X5.out.append ho hb hg9)
              clear ho hb hg9 hat9 X5 hsz5
              go_wp2
              go_roundg k1
              case measure => omega
              case rel => exact ⟨i + 1, acc ++ [(⟨true, str ta, ⟨#[]⟩⟩ : S66)], sb, _, by go_num, ⟨by have := HK.out; omega⟩, by omega, ⟨by rw [HM2.out]; exact HE.out⟩, ⟨by rw [List.length_append]; have := HA.out; simp; omega⟩, HSb, ⟨by
                intro x hx
                rcases List.mem_append.1 hx with hx | hx
                · exact HW.out x hx
                · rw [List.mem_singleton.1 hx]; exact ⟨HTa.out, Nat.zero_le _⟩⟩, X6⟩
          · rw [if_neg hk1] at hE
            have HE := Aside0.mk hE
            clear hE
            have e1 : ((kd : Int) == 1) = false := by rw [beq_eq_false_iff_ne]; omega
            have HKn : Aside0 (kd < 2 ^ 64) := ⟨by have := nuM_lt s g; rw [HKa.out] at this; exact this⟩
            clear hk1
            go_wp2_with fail
            refine (X2.out.number HS.out).mono ?_
            rintro e w3 ⟨rfl, hD, hK⟩
            rw [HKa.out] at hD ⊢
            have X3 := Aside0.mk hD
            clear hD hK X2 cn
            simp only
            go_wp2_with fail
            refine (X3.out.text HSa.out).mono ?_
            rintro e w4 ⟨rfl, hD, hK⟩
            rw [HKb.out] at hD ⊢
            have X4 := Aside0.mk (hD.box (.cells #[.bool false, .string (str ta), .string ⟨#[]⟩] 66))
            have hlt4 := hD.lt
            have hlt4a : w.heap.size + 1 < w4.heap.size := by omega
            have hlt4b : w.heap.size < w4.heap.size := by omega
            have hb4 : Aside0 ((w4.alloc (.cells #[.bool false, .string (str ta), .string ⟨#[]⟩] 66)).heap[w4.heap.size]? = some (.cells #[.bool false, .string (str ta), .string ⟨#[]⟩] 66 (0, 0))) := ⟨blk_new _ _⟩
            clear hD hK X3
            simp only
            go_wp2_with fail
            refine (X4.out.text HSb.out).mono ?_
            rintro e w5 ⟨rfl, hD, hK⟩
            rw [HKc.out] at hD ⊢
            have hb5 := blk_kept hb4.out hK (by omega)
            have c0 : w5.cell? ⟨w4.heap.size, 0, none⟩ = some (.bool false) := blk_cell hb5 0
            have c1 : w5.cell? ⟨w4.heap.size, 1, none⟩ = some (.string (str ta)) := blk_cell hb5 1
            have c2 : w5.cell? ⟨w4.heap.size, 2, none⟩ = some (.string ⟨#[]⟩) := blk_cell hb5 2
            have f2 : w5.frozen? ⟨w4.heap.size, 2, none⟩ = false := blk_frozen hb5 2
            have cg : w5.cell? ⟨w.heap.size + 1, 0, none⟩ = some (.bool gc) := hD.gcell
            have fg : w5.frozen? ⟨w.heap.size + 1, 0, none⟩ = false := hD.gfree
            have hlt5 := hD.lt
            have hlt5b : w4.heap.size < w5.heap.size := blk_lt hb5
            have hne1 : w.heap.size + 1 ≠ w4.heap.size := by omega
            have X5 := Aside0.mk hD
            clear hD hK X4 hb4 hb5
            simp only
            obtain ⟨q, hq⟩ : ∃ q, q = decide (kd ≤ 1) := ⟨_, rfl⟩
            have dk : decide ((kd : Int) ≤ 1) = q := by
              rw [hq, Bool.eq_iff_iff]
              simp
              omega
            have hE := HE.out
            rw [← hq] at hE
            replace HE := Aside0.mk hE
            clear hE hq
            have hsz6 : ((w5.setCell ⟨w4.heap.size, 2, none⟩ (.string (str tb))).setCell ⟨w.heap.size + 1, 0, none⟩ (.bool (gc && q))).heap.size = w5.heap.size := by simp
            replace hsz6 := Aside0.mk hsz6
            have X6 := Aside0.mk ((X5.out.setX (j := 2) (by omega) (.string (str tb))).setG (gc && q))
            cases q
            all_goals
              cases gc
              all_goals
                simp only [Bool.and_true, Bool.and_false, Bool.true_and, Bool.false_and, Bool.and_self] at X6 hsz6 HE
                go_wp2_with ((with_reducible refine gate_builtin (b := .append) (xs := #[.tmp 46, .tmp 48]) rfl ?_); generalize World.setCell (w5.setCell ⟨w4.heap.size, 2, none⟩ (.string (str tb))) _ _ = w6 at X6 hsz6 ⊢; refine Kd.R_append k66 (w0 := w) w.heap.size (by rfl) (.tmp 46) (.tmp 48) 58 66 (.agg #[(.bool false), (.string ⟨#[]⟩), (.string ⟨#[]⟩)]) 40 rfl Try.underlying58 info66 rfl (by decide) (by omega) (.slice Av acc.length cp) acc (⟨false, str ta, str tb⟩ : S66) [.bool false, .string (str ta), .string (str tb)] (fun k => k ≠ w.heap.size ∧ k ≠ w.heap.size + 1 ∧ k ≠ w.heap.size + 1 + 1) (fun _ => False) rfl ?aX ?aP (fun _ hk => hk.elim) ?aF ?aO ?aB ?aS ?aL ?_)
                (case aX => first | (rw [hsz6.out]; done) | (rw [hsz6.out]; rfl))
                (case aP => exact k66_mkM _ _ _ (⟨false, str ta, str tb⟩ : S66))
                (case aF => intro k hk; have := hsz6.out; omega)
                (case aO => exact Kd.R_mono X6.out.2.2.1 (fun k hk => ⟨hk.1, hk.2.1, hk.2.2.1⟩))
                (case aB => exact X6.out.2.2.2)
                (try (case aS => exact X6.out.2.2.2.size))
                (case aL => have := HA.out; omega)
                intro v9 w9 ho hb hg9 hat9
                have X7 := Aside0.mk (X6.out.append ho hb hg9)
                clear ho hb hg9 hat9 X6 X5 hsz6 c0 c1 c2 f2 cg fg
                go_wp2
                go_roundg k1
                case measure => omega
                case rel => exact ⟨i + 1, acc ++ [(⟨false, str ta, str tb⟩ : S66)], sc, _, by go_num, ⟨by have := HK.out; omega⟩, by omega, ⟨by rw [HM2.out]; exact HE.out⟩, ⟨by rw [List.length_append]; have := HA.out; simp; omega⟩, HSc, ⟨by
                  intro x hx
                  rcases List.mem_append.1 hx with hx | hx
                  · exact HW.out x hx
                  · rw [List.mem_singleton.1 hx]; exact ⟨HTa.out, HTb.out⟩⟩, X7⟩
        · have hE := HE.out
          rw [show n2 - i = 0 by omega, opsM] at hE
          have hR2 := HR.out
          rw [← hE] at hR2
          simp only at hR2
          have d0 : decide (i < n2) = false := decide_eq_false hlt
          have la : acc.length ≤ 16 := by have := HA.out; omega
          clear hE HE
          have cg : wr.cell? ⟨w.heap.size + 1, 0, none⟩ = some (.bool g) := X2.out.gcell
          have cs : wr.cell? ⟨w.heap.size, 0, none⟩ = some (.string (str s)) := X2.out.scell
          cases g with
          | false =>
            have hR0 : R = none := by rw [hR2, if_neg (by simp)]
            subst hR0
            clear hR2
            go_wp2_with fail
            refine bodyPost_ret (results_tmp3 rfl _ _ _) rfl ?_
            exact ⟨0, _, [], 2, rfl, Kd.R_nil _ _ _ _ _, X2.out.2.2.2, rfl, rfl, rfl⟩
          | true =>
            by_cases hs0 : s = []
            · subst hs0
              have hem : (str []).toList.isEmpty = true := isEmpty_zero (by rw [str_size]; simp)
              have HM := Aside0.mk (may_any Av cp acc wr HC.out hcp (by omega) HW.out)
              by_cases hm : mayB acc = true
              · have hlen : 0 < acc.length := by unfold mayB at hm; simp at hm; cases acc with
                  | nil => simp at hm
                  | cons => simp
                have HN := Aside0.mk (fun W => numbered_any n1 acc.length W HL1.out hlen (by omega))
                rw [hm] at HM
                by_cases hn : numB n1 acc.length = true
                · have hR0 : R = some (n1, acc) := by rw [hR2, if_pos ⟨rfl, rfl, hm, hn⟩]
                  subst hR0
                  rw [hn] at HN
                  clear hR2 hm hn
                  go_wp2_with fail
                  refine HM.out.mono ?_
                  rintro e w3 ⟨rfl, hb⟩
                  have X3 := Aside0.mk (X2.out.below hb)
                  clear hb cg cs HM
                  go_wp2_with fail
                  refine (HN.out _).mono ?_
                  rintro e w4 ⟨rfl, hb⟩
                  have X4 := Aside0.mk (X3.out.below hb)
                  clear hb X3 HN
                  go_wp2_with fail
                  refine bodyPost_ret (results_tmp3 rfl _ _ _) rfl ?_
                  exact ⟨n1, _, acc, 0, rfl, X4.out.row, X4.out.2.2.2, rfl, rfl, rfl⟩
                · have hR0 : R = none := by rw [hR2, if_neg (fun h => hn h.2.2.2)]
                  have hnb : numB n1 acc.length = false := by simpa using hn
                  subst hR0
                  rw [hnb] at HN
                  clear hR2 hm hn hnb
                  go_wp2_with fail
                  refine HM.out.mono ?_
                  rintro e w3 ⟨rfl, hb⟩
                  have X3 := Aside0.mk (X2.out.below hb)
                  clear hb cg cs HM
                  go_wp2_with fail
                  refine (HN.out _).mono ?_
                  rintro e w4 ⟨rfl, hb⟩
                  have X4 := Aside0.mk (X3.out.below hb)
                  clear hb X3 HN
                  go_wp2_with fail
                  refine bodyPost_ret (results_tmp3 rfl _ _ _) rfl ?_
                  exact ⟨0, _, [], 2, rfl, Kd.R_nil _ _ _ _ _, X4.out.2.2.2, rfl, rfl, rfl⟩
              · have hR0 : R = none := by rw [hR2, if_neg (fun h => hm h.2.2.1)]
                have hmb : mayB acc = false := by simpa using hm
                subst hR0
                rw [hmb] at HM
                clear hR2 hm hmb
                go_wp2_with fail
                refine HM.out.mono ?_
                rintro e w3 ⟨rfl, hb⟩
                have X3 := Aside0.mk (X2.out.below hb)
                clear hb cg cs HM
                go_wp2_with fail
                refine bodyPost_ret (results_tmp3 rfl _ _ _) rfl ?_
                exact ⟨0, _, [], 2, rfl, Kd.R_nil _ _ _ _ _, X3.out.2.2.2, rfl, rfl, rfl⟩
            · have hR0 : R = none := by rw [hR2, if_neg (fun h => hs0 h.2.1)]
              have hem : (str s).toList.isEmpty = false := isEmpty_pos (by rw [str_size]; cases s with | nil => exact absurd rfl hs0 | cons => simp)
              subst hR0
              clear hR2 hs0
              go_wp2_with fail
              refine bodyPost_ret (results_tmp3 rfl _ _ _) rfl ?_
              exact ⟨0, _, [], 2, rfl, Kd.R_nil _ _ _ _ _, X2.out.2.2.2, rfl, rfl, rfl⟩
end Go.Proofs.Ytolningpngjhpaa.Bat
