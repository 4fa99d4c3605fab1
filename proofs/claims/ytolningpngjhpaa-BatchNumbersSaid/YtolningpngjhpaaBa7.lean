/- A batch's bytes, there and back, in plain lists. -/
import Derived.Test.YtolningpngjhpaaBa6
namespace Go.Proofs.Ytolningpngjhpaa.Bat
open Go.RowKit Go.Proofs.YtolningpngjhpaaW.PrintWords Go.Proofs.YtolningpngjhpaaW.PrintLast Go.Proofs.YtolningpngjhpaaW.PrintMore
open Go.Proofs.Ytolningpngjhpaa.Nm
open Go.Proofs.Ytolningpngjhpaa.PBatchWrites (S66 k66 z66 rd_T66 at_T66 k66_mk k66_mkM k66_open S64 k64 info64 k64_mkM)
set_option linter.unusedVariables false
set_option linter.unusedSimpArgs false

theorem nuM_short (m : Nat) (r : List UInt8) (g : Bool) (h : m < 2 ^ 64) : nuM (short m ++ r) g = (m, r, g) := by
  unfold nuM
  rw [take_short m r h]
theorem nuM_true {s r : List UInt8} {g : Bool} {n : Nat} (h : nuM s g = (n, r, true)) : g = true ∧ s = short n ++ r ∧ n < 2 ^ 64 := by
  unfold nuM at h
  cases hq : take s with
  | none => rw [hq] at h; simp at h
  | some x =>
    rw [hq] at h
    obtain ⟨a, b⟩ := x
    simp only [Prod.mk.injEq] at h
    obtain ⟨rfl, rfl, rfl⟩ := h
    obtain ⟨h1, h2⟩ := (take_iff s _ _).1 hq
    exact ⟨rfl, h2, h1⟩
theorem teM_txt (k r : List UInt8) (h : k.length < 2 ^ 64) : teM (txt k ++ r) true = (k, r, true) := by
  unfold teM txt
  rw [List.append_assoc, nuM_short _ _ _ h]
  simp only
  rw [if_neg (by simp)]
  simp
theorem teM_true {s k r : List UInt8} {g : Bool} (h : teM s g = (k, r, true)) : g = true ∧ s = txt k ++ r := by
  unfold teM at h
  obtain ⟨n, q, o, hq⟩ : ∃ n q o, nuM s g = (n, q, o) := ⟨_, _, _, rfl⟩
  rw [hq] at h
  simp only at h
  by_cases hc : o = false ∨ q.length < n
  · rw [if_pos hc] at h
    simp at h
  · rw [if_neg hc] at h
    simp only [Prod.mk.injEq] at h
    obtain ⟨h1, h2, _⟩ := h
    have ho : o = true := by cases o with
      | false => exact absurd (Or.inl rfl) hc
      | true => rfl
    subst ho
    obtain ⟨hg, hs, _⟩ := nuM_true hq
    have hn : n ≤ q.length := by
      by_cases hlt : q.length < n
      · exact absurd (Or.inr hlt) hc
      · omega
    refine ⟨hg, ?_⟩
    unfold txt
    rw [hs, ← h1, ← h2, List.length_take, Nat.min_eq_left hn, List.append_assoc, List.take_append_drop]
theorem short_0 : short 0 = [0] := by rw [short_lt _ (by decide)]; rfl
theorem short_1 : short 1 = [1] := by rw [short_lt _ (by decide)]; rfl

/-- An operation that its bytes tell. -/
def Fine (x : S66) : Prop := x.f1.size < 2 ^ 64 ∧ x.f2.size < 2 ^ 64 ∧ (x.f0 = true → x.f2 = ⟨#[]⟩)
theorem oneB_fine {x : S66} (h : oneB x = true) : Fine x := by
  have h1 := of_decide_eq_true h
  refine ⟨by omega, by omega, fun hd => ?_⟩
  have h2 := h1.2.2.2 hd
  have h3 : x.f2.data.toList.length = 0 := by simp [h2]
  rw [← str_of x.f2, List.eq_nil_of_length_eq_zero h3]
  rfl
theorem opsM_enc : ∀ (l acc : List S66) (r : List UInt8), (∀ x ∈ l, Fine x) → opsM l.length (l.flatMap opB ++ r) true acc = (acc ++ l, r, true) := by
  intro l
  induction l with
  | nil => intro acc r _; simp [opsM]
  | cons x l ih =>
    intro acc r hf
    obtain ⟨h1, h2, h3⟩ := hf x List.mem_cons_self
    have hl := ih (acc ++ [x]) r (fun y hy => hf y (List.mem_cons_of_mem _ hy))
    obtain ⟨d, k, v⟩ := x
    simp only at h1 h2 h3
    have e1 : k.data.toList.length = k.size := by simp
    have e2 : v.data.toList.length = v.size := by simp
    rw [List.flatMap_cons, List.append_assoc]
    simp only [List.length_cons, opsM]
    cases d with
    | true =>
      have hb : opB ⟨true, k, v⟩ = short 1 ++ txt k.data.toList := by rw [short_1]; rfl
      rw [hb, List.append_assoc, nuM_short 1 _ _ (by decide)]
      simp only [if_true]
      rw [teM_txt _ _ (by omega)]
      simp only
      rw [str_of, h3 rfl] at *
      rw [hl]
      simp
    | false =>
      have hb : opB ⟨false, k, v⟩ = short 0 ++ (txt k.data.toList ++ txt v.data.toList) := by rw [short_0]; rfl
      rw [hb, List.append_assoc, nuM_short 0 _ _ (by decide)]
      simp only [Nat.zero_ne_one, if_false]
      rw [List.append_assoc, teM_txt _ _ (by omega)]
      simp only
      rw [teM_txt _ _ (by omega)]
      simp only [Nat.zero_le, decide_true, Bool.and_self]
      rw [str_of, str_of, hl]
      simp
theorem opsM_back : ∀ (n : Nat) (s : List UInt8) (g : Bool) (acc l : List S66) (r : List UInt8), opsM n s g acc = (l, r, true) → g = true ∧ ∃ l', l = acc ++ l' ∧ l'.length = n ∧ s = l'.flatMap opB ++ r := by
  intro n
  induction n with
  | zero =>
    intro s g acc l r h
    simp only [opsM, Prod.mk.injEq] at h
    obtain ⟨rfl, rfl, rfl⟩ := h
    exact ⟨rfl, [], by simp, rfl, by simp⟩
  | succ n ih =>
    intro s g acc l r h
    simp only [opsM] at h
    obtain ⟨kd, sa, ga, hka⟩ : ∃ kd sa ga, nuM s g = (kd, sa, ga) := ⟨_, _, _, rfl⟩
    obtain ⟨ta, sb, gb, hkb⟩ : ∃ ta sb gb, teM sa ga = (ta, sb, gb) := ⟨_, _, _, rfl⟩
    obtain ⟨tb, sc, gc, hkc⟩ : ∃ tb sc gc, teM sb gb = (tb, sc, gc) := ⟨_, _, _, rfl⟩
    rw [hka] at h
    simp only at h
    rw [hkb] at h
    simp only at h
    rw [hkc] at h
    simp only at h
    by_cases hk : kd = 1
    · rw [if_pos hk] at h
      obtain ⟨hg, l', h1, h2, h3⟩ := ih _ _ _ _ _ h
      subst hg
      obtain ⟨hg2, h4⟩ := teM_true hkb
      subst hg2
      obtain ⟨hg3, h5, _⟩ := nuM_true hka
      refine ⟨hg3, ⟨true, str ta, ⟨#[]⟩⟩ :: l', by rw [h1]; simp, by simp [h2], ?_⟩
      have hb : opB ⟨true, str ta, ⟨#[]⟩⟩ = [1] ++ txt ta := by unfold opB; simp [str_list]
      rw [List.flatMap_cons, hb, h5, hk, short_1, h4, h3]
      simp
    · rw [if_neg hk] at h
      obtain ⟨hg, l', h1, h2, h3⟩ := ih _ _ _ _ _ h
      rw [Bool.and_eq_true, decide_eq_true_eq] at hg
      obtain ⟨hg, hk1⟩ := hg
      subst hg
      obtain ⟨hg1, h6⟩ := teM_true hkc
      subst hg1
      obtain ⟨hg2, h4⟩ := teM_true hkb
      subst hg2
      obtain ⟨hg3, h5, _⟩ := nuM_true hka
      have hk0 : kd = 0 := by omega
      refine ⟨hg3, ⟨false, str ta, str tb⟩ :: l', by rw [h1]; simp, by simp [h2], ?_⟩
      have hb : opB ⟨false, str ta, str tb⟩ = [0] ++ (txt ta ++ txt tb) := by unfold opB; simp [str_list]
      rw [List.flatMap_cons, hb, h5, hk0, short_0, h4, h6, h3]
      simp
theorem mayB_all {l : List S66} (h : mayB l = true) : 0 < l.length ∧ l.length ≤ 16 ∧ ∀ x ∈ l, oneB x = true := by
  unfold mayB at h
  simp only [Bool.and_eq_true, decide_eq_true_eq, List.all_eq_true] at h
  exact ⟨h.1.1, h.1.2, h.2⟩
theorem numB_lt {n m : Nat} (h : numB n m = true) : n < 2 ^ 64 ∧ 0 < n := by
  unfold numB at h
  simp only [Bool.and_eq_true, decide_eq_true_eq] at h
  omega
/-- What is read of a batch's bytes and more behind. -/
theorem parse_enc {n : Nat} {l : List S66} (hm : mayB l = true) (hn : n < 2 ^ 64) (r : List UInt8) :
    nuM (encB n l ++ r) true = (n, short l.length ++ (l.flatMap opB ++ r), true) ∧ nuM (short l.length ++ (l.flatMap opB ++ r)) true = (l.length, l.flatMap opB ++ r, true) ∧ opsM l.length (l.flatMap opB ++ r) true [] = (l, r, true) := by
  obtain ⟨h1, h2, h3⟩ := mayB_all hm
  refine ⟨?_, nuM_short _ _ _ (by omega), ?_⟩
  · unfold encB
    rw [List.append_assoc, List.append_assoc, nuM_short _ _ _ hn]
  · have := opsM_enc l [] r (fun x hx => oneB_fine (h3 x hx))
    simpa using this
theorem dec_enc {n : Nat} {l : List S66} (hm : mayB l = true) (hn : numB n l.length = true) (r : List UInt8) : decM (encB n l ++ r) = if r = [] then some (n, l) else none := by
  obtain ⟨h1, h2, h3⟩ := parse_enc hm (numB_lt hn).1 r
  obtain ⟨_, h16, _⟩ := mayB_all hm
  unfold decM
  rw [h1]
  simp only
  rw [h2]
  simp only
  rw [h3]
  simp only
  rw [if_neg (by simp; omega)]
  by_cases hr : r = []
  · rw [if_pos hr, if_pos ⟨by simp, hr, hm, hn⟩]
  · rw [if_neg hr, if_neg (fun h => hr h.2.1)]
theorem dec_some {s : List UInt8} {n : Nat} {l : List S66} (h : decM s = some (n, l)) : mayB l = true ∧ numB n l.length = true ∧ s = encB n l := by
  unfold decM at h
  obtain ⟨n1, s1, g1, hn1⟩ : ∃ n1 s1 g1, nuM s true = (n1, s1, g1) := ⟨_, _, _, rfl⟩
  obtain ⟨n2, s2, g2, hn2⟩ : ∃ n2 s2 g2, nuM s1 g1 = (n2, s2, g2) := ⟨_, _, _, rfl⟩
  rw [hn1] at h
  simp only at h
  rw [hn2] at h
  simp only at h
  split at h
  · cases h
  · rename_i hc
    split at h
    · rename_i hc2
      simp only [Option.some.injEq, Prod.mk.injEq] at h
      obtain ⟨rfl, hl⟩ := h
      obtain ⟨c1, c2, c3, c4⟩ := hc2
      have hg2 : g2 = true := by cases g2 with
        | false => exact absurd (Or.inl rfl) hc
        | true => rfl
      subst hg2
      obtain ⟨hg1, e2, _⟩ := nuM_true hn2
      subst hg1
      obtain ⟨_, e1, _⟩ := nuM_true hn1
      obtain ⟨q, r, o, ho⟩ : ∃ q r o, opsM n2 s2 true [] = (q, r, o) := ⟨_, _, _, rfl⟩
      rw [ho] at c1 c2 c3 c4 hl
      simp only at c1 c2 c3 c4 hl
      subst c1 c2 hl
      obtain ⟨_, l', h1, h2, h3⟩ := opsM_back _ _ _ _ _ _ ho
      simp only [List.nil_append] at h1
      subst h1
      refine ⟨c3, c4, ?_⟩
      unfold encB
      rw [e1, e2, h3, h2]
      simp
    · cases h
/-- No batch's bytes are a beginning of another one's. -/
theorem enc_prefix {n m : Nat} {l k : List S66} (hl : mayB l = true) (hn : n < 2 ^ 64) (hk : mayB k = true) (hm : m < 2 ^ 64) {r : List UInt8} (h : encB m k ++ r = encB n l) : r = [] := by
  obtain ⟨a1, a2, a3⟩ := parse_enc hk hm r
  obtain ⟨b1, b2, b3⟩ := parse_enc hl hn []
  rw [h] at a1
  rw [List.append_nil] at b1
  rw [a1] at b1
  simp only [Prod.mk.injEq, and_true] at b1
  obtain ⟨rfl, hx⟩ := b1
  rw [hx, b2] at a2
  simp only [Prod.mk.injEq, and_true] at a2
  obtain ⟨hy, hz⟩ := a2
  rw [← hy, ← hz, b3] at a3
  simp only [Prod.mk.injEq, and_true] at a3
  exact a3.2.symm
theorem dec_cut {n : Nat} {l : List S66} (hm : mayB l = true) (hn : numB n l.length = true) (k : Nat) (hk : k < (encB n l).length) : decM ((encB n l).take k) = none := by
  cases h : decM ((encB n l).take k) with
  | none => rfl
  | some x =>
    obtain ⟨m, q⟩ := x
    obtain ⟨h1, h2, h3⟩ := dec_some h
    have h4 := enc_prefix hm (numB_lt hn).1 h1 (numB_lt h2).1 (r := (encB n l).drop k) (by rw [← h3, List.take_append_drop])
    have := congrArg List.length h4
    simp at this
    omega
end Go.Proofs.Ytolningpngjhpaa.Bat
