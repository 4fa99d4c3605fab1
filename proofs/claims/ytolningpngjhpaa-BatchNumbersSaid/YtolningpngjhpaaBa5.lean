/- batch.Decode's two closures. -/
import Derived.Test.YtolningpngjhpaaBa4
namespace Go.Proofs.Ytolningpngjhpaa.Bat
open Go.RowKit Go.Proofs.YtolningpngjhpaaW.PrintWords Go.Proofs.YtolningpngjhpaaW.PrintLast Go.Proofs.YtolningpngjhpaaW.PrintMore
open Go.Proofs.Ytolningpngjhpaa.Nm
open Go.Proofs.Ytolningpngjhpaa.PBatchWrites (S66 k66 z66 rd_T66 at_T66 k66_mk k66_mkM k66_open S64 k64 info64 k64_mkM)
set_option linter.unusedVariables false
set_option linter.unusedSimpArgs false

/-- A number that is read, what is left, and whether all was good. -/
def nuM (s : List UInt8) (g : Bool) : Nat × List UInt8 × Bool := match take s with
  | some (n, r) => (n, r, g)
  | none => (0, [], false)
/-- A text that is read. -/
def teM (s : List UInt8) (g : Bool) : List UInt8 × List UInt8 × Bool :=
  if (nuM s g).2.2 = false ∨ (nuM s g).2.1.length < (nuM s g).1 then ([], (nuM s g).2.1, false) else ((nuM s g).2.1.take (nuM s g).1, (nuM s g).2.1.drop (nuM s g).1, true)

/-- The two variables that the closures share. -/
def DSt (bs bg : Nat) (W : World) (s : List UInt8) (g : Bool) : Prop := W.heap[bs]? = some (.cells #[.string (str s)] 9 (0, 0)) ∧ W.heap[bg]? = some (.cells #[.bool g] 4 (0, 0))
theorem DSt.ne {bs bg : Nat} {W : World} {s : List UInt8} {g : Bool} (h : DSt bs bg W s g) : bs ≠ bg := blk_ne h.1 h.2 (by decide)
theorem DSt.below {bs bg : Nat} {W W1 : World} {s : List UInt8} {g : Bool} (h : DSt bs bg W s g) (hb : Below W.heap.size W W1) : DSt bs bg W1 s g := ⟨blk_below h.1 hb, blk_below h.2 hb⟩
theorem DSt.setS {bs bg : Nat} {W : World} {s : List UInt8} {g : Bool} (h : DSt bs bg W s g) (r : List UInt8) : DSt bs bg (W.setCell ⟨bs, 0, none⟩ (.string (str r))) r g :=
  ⟨blk_put h.1 0 _ rfl, blk_far h.2 (fun e => h.ne e.symm) _⟩
theorem DSt.setG {bs bg : Nat} {W : World} {s : List UInt8} {g : Bool} (h : DSt bs bg W s g) (x : Bool) : DSt bs bg (W.setCell ⟨bg, 0, none⟩ (.bool x)) s x :=
  ⟨blk_far h.1 h.ne _, blk_put h.2 0 _ rfl⟩
theorem nuM_len (s : List UInt8) (g : Bool) : (nuM s g).2.1.length ≤ s.length := by
  unfold nuM
  cases h : take s with
  | none => simp
  | some x =>
    have h1 := ((take_iff s x.1 x.2).1 h).2
    have := congrArg List.length h1
    simp only [List.length_append] at this
    simp only
    omega
theorem nuM_lt (s : List UInt8) (g : Bool) : (nuM s g).1 < 2 ^ 64 := by
  unfold nuM
  cases h : take s with
  | none => simp
  | some x => exact ((take_iff s x.1 x.2).1 h).1

theorem take_nu (s : List UInt8) (w : World) (hs : s.length ≤ 9223372036854775807) :
    Calls Try.prog 68 #[.string (str s)] w fun e w' => e = .returned (.tuple #[.int .u64 ((nuM s true).1 : Nat), .string (str (nuM s true).2.1), .bool (nuM s true).2.2]) ∧ Below w.heap.size w w' := by
  refine (take_any (str s) w (by rw [str_size]; exact hs)).mono ?_
  rintro e w' ⟨rfl, hd⟩
  refine ⟨?_, hd.below⟩
  unfold nuM tkN tkR tkB
  rw [str_list]
  cases take s with
  | none => rfl
  | some x => rfl
theorem nuM_false (s : List UInt8) : nuM s false = ((nuM s true).1, (nuM s true).2.1, false) := by
  unfold nuM
  cases take s <;> rfl
theorem Kept.two {W W1 : World} {bs bg : Nat} (h : Below W.heap.size W W1) (u v : Value) : Kept W ((W1.setCell ⟨bg, 0, none⟩ u).setCell ⟨bs, 0, none⟩ v) (fun k => k = bs ∨ k = bg) :=
  ((Kept.of_below h _).setCell (p := ⟨bg, 0, none⟩) (.inl (.inr rfl)) u).setCell (p := ⟨bs, 0, none⟩) (.inl (.inl rfl)) v

set_option maxHeartbeats 4000000 in
set_option maxRecDepth 100000 in
theorem number_any (B bs bg : Nat) (s : List UInt8) (g : Bool) (W : World) (h : DSt bs bg W s g) (hs : s.length ≤ 9223372036854775807) (h1 : B ≤ bs) (h2 : B ≤ bg) (hB : B ≤ W.heap.size) :
    Calls Try.prog 67 #[.pointer (some ⟨bs, 0, none⟩), .pointer (some ⟨bg, 0, none⟩)] W fun e w' => e = .returned (.int .u64 ((nuM s g).1 : Nat)) ∧ DSt bs bg w' (nuM s g).2.1 (nuM s g).2.2 ∧ Kept W w' (fun k => k = bs ∨ k = bg) ∧ Below B W w' := by
  have c0 : W.cell? ⟨bs, 0, none⟩ = some (.string (str s)) := blk_cell h.1 0
  have HT := Aside0.mk (fun V => take_nu s V hs)
  have HF := Aside0.mk (nuM_false s)
  obtain ⟨n, r, o, hn⟩ : ∃ n r o, nuM s true = (n, r, o) := ⟨_, _, _, rfl⟩
  rw [hn] at HT HF
  have HN := Aside0.mk hn
  have H := Aside0.mk h
  have H1 := Aside0.mk h1
  have H2 := Aside0.mk h2
  have H3 := Aside0.mk hB
  clear h h1 h2 hB hs hn
  cases g with
  | true =>
    rw [HN.out]
    simp only
    go_enter Try.func67, Try.ntmps67
    go_wp2_with fail
    refine (HT.out _).mono ?_
    rintro e w1 ⟨rfl, hb⟩
    have D1 := Aside0.mk (H.out.below hb)
    have B1 := Aside0.mk (below_then (Below.refl B W) H3.out hb)
    have K1 : Aside0 (Below W.heap.size W w1) := ⟨hb⟩
    clear hb c0 H
    have c1 : w1.cell? ⟨bg, 0, none⟩ = some (.bool true) := blk_cell D1.out.2 0
    have f1 : w1.frozen? ⟨bg, 0, none⟩ = false := blk_frozen D1.out.2 0
    have c2 : w1.cell? ⟨bs, 0, none⟩ = some (.string (str s)) := blk_cell D1.out.1 0
    have f2 : w1.frozen? ⟨bs, 0, none⟩ = false := blk_frozen D1.out.1 0
    have hne := D1.out.ne
    go_wp2_with fail
    go_ret
    exact ⟨rfl, (D1.out.setG o).setS r, Kept.two K1.out _ _, (B1.out.setCell (p := ⟨bg, 0, none⟩) H2.out _).setCell (p := ⟨bs, 0, none⟩) H1.out _⟩
  | false =>
    rw [HF.out]
    simp only
    go_enter Try.func67, Try.ntmps67
    go_wp2_with fail
    refine (HT.out _).mono ?_
    rintro e w1 ⟨rfl, hb⟩
    have D1 := Aside0.mk (H.out.below hb)
    have B1 := Aside0.mk (below_then (Below.refl B W) H3.out hb)
    have K1 : Aside0 (Below W.heap.size W w1) := ⟨hb⟩
    clear hb c0 H
    have c1 : w1.cell? ⟨bg, 0, none⟩ = some (.bool false) := blk_cell D1.out.2 0
    have f1 : w1.frozen? ⟨bg, 0, none⟩ = false := blk_frozen D1.out.2 0
    have c2 : w1.cell? ⟨bs, 0, none⟩ = some (.string (str s)) := blk_cell D1.out.1 0
    have f2 : w1.frozen? ⟨bs, 0, none⟩ = false := blk_frozen D1.out.1 0
    have hne := D1.out.ne
    go_wp2_with fail
    go_ret
    exact ⟨rfl, (D1.out.setG false).setS r, Kept.two K1.out _ _, (B1.out.setCell (p := ⟨bg, 0, none⟩) H2.out _).setCell (p := ⟨bs, 0, none⟩) H1.out _⟩

/-- The variable that holds the first closure. -/
abbrev numV (bs bg : Nat) : Value := .func (.func 67) #[] #[.pointer (some ⟨bs, 0, none⟩), .pointer (some ⟨bg, 0, none⟩)]

set_option maxHeartbeats 4000000 in
set_option maxRecDepth 100000 in
theorem taketext_any (B bs bg bn : Nat) (s : List UInt8) (g : Bool) (W : World) (h : DSt bs bg W s g) (hn : W.heap[bn]? = some (.cells #[numV bs bg] 89 (0, 0))) (hs : s.length ≤ 9223372036854775807) (h1 : B ≤ bs) (h2 : B ≤ bg) (hB : B ≤ W.heap.size) :
    Calls Try.prog 69 #[.pointer (some ⟨bn, 0, none⟩), .pointer (some ⟨bg, 0, none⟩), .pointer (some ⟨bs, 0, none⟩)] W fun e w' => e = .returned (.string (str (teM s g).1)) ∧ DSt bs bg w' (teM s g).2.1 (teM s g).2.2 ∧ Kept W w' (fun k => k = bs ∨ k = bg) ∧ Below B W w' := by
  have c0 : W.cell? ⟨bn, 0, none⟩ = some (numV bs bg) := blk_cell hn 0
  have HN := Aside0.mk (number_any B bs bg s g W h hs h1 h2 hB)
  obtain ⟨n, r, o, hq⟩ : ∃ n r o, nuM s g = (n, r, o) := ⟨_, _, _, rfl⟩
  have hrl := nuM_len s g
  have hnl := nuM_lt s g
  rw [hq] at HN hrl hnl
  simp only at hrl hnl
  have hrl2 : r.length ≤ 9223372036854775807 := by omega
  obtain ⟨V, hV⟩ : ∃ V, V = teM s g := ⟨_, rfl⟩
  rw [← hV]
  unfold teM at hV
  rw [hq] at hV
  simp only at hV
  have H1 := Aside0.mk h1
  have H2 := Aside0.mk h2
  have H3 := Aside0.mk hB
  clear h h1 h2 hB hs hq hn hrl
  have HR := Aside0.mk hrl2
  have HL := Aside0.mk hnl
  clear hrl2 hnl
  have hV2 := Aside0.mk hV
  clear hV
  go_enter Try.func69, Try.ntmps69
  go_wp2_with fail
  refine HN.out.mono ?_
  rintro e w1 ⟨rfl, hD, hK, hb⟩
  have D1 := Aside0.mk hD
  have K1 := Aside0.mk hK
  have B1 := Aside0.mk hb
  clear hD hK hb c0 HN
  have c1 : w1.cell? ⟨bg, 0, none⟩ = some (.bool o) := blk_cell D1.out.2 0
  have f1 : w1.frozen? ⟨bg, 0, none⟩ = false := blk_frozen D1.out.2 0
  have c2 : w1.cell? ⟨bs, 0, none⟩ = some (.string (str r)) := blk_cell D1.out.1 0
  have f2 : w1.frozen? ⟨bs, 0, none⟩ = false := blk_frozen D1.out.1 0
  have hne := D1.out.ne
  have hz : (str r).size ≤ 9223372036854775807 := by rw [str_size]; exact HR.out
  cases o with
  | false =>
    have hV3 := Aside0.mk (show V = ([], r, false) by rw [hV2.out, if_pos (by simp)])
    go_wp2_with fail
    go_ret
    rw [hV3.out]
    exact ⟨rfl, D1.out.setG false, K1.out.setCell (p := ⟨bg, 0, none⟩) (.inl (.inr rfl)) _, B1.out.setCell (p := ⟨bg, 0, none⟩) H2.out _⟩
  | true =>
    by_cases hlt : r.length < n
    · have d1 : decide ((str r).size < n) = true := decide_eq_true (by rw [str_size]; exact hlt)
      have hV3 := Aside0.mk (show V = ([], r, false) by rw [hV2.out, if_pos (.inr hlt)])
      clear hlt
      go_wp2_with fail
      go_ret
      rw [hV3.out]
      exact ⟨rfl, D1.out.setG false, K1.out.setCell (p := ⟨bg, 0, none⟩) (.inl (.inr rfl)) _, B1.out.setCell (p := ⟨bg, 0, none⟩) H2.out _⟩
    · have d1 : decide ((str r).size < n) = false := decide_eq_false (by rw [str_size]; exact hlt)
      have hV3 := Aside0.mk (show V = (r.take n, r.drop n, true) by rw [hV2.out, if_neg (by simp; omega)])
      have hle : n ≤ (str r).size := by rw [str_size]; omega
      have e1 : Aside0 ((str r).extract 0 n = str (r.take n)) := ⟨by rw [← str_of ((str r).extract 0 n), Lib.extract_data, str_list]; simp⟩
      have e2 : Aside0 ((str r).extract n (str r).size = str (r.drop n)) := ⟨by rw [← str_of ((str r).extract n (str r).size), Lib.extract_to_end, str_list]⟩
      clear hlt
      go_wp2_with fail
      go_ret
      rw [hV3.out]
      refine ⟨?_, ?_, K1.out.setCell (p := ⟨bs, 0, none⟩) (.inl (.inl rfl)) _, B1.out.setCell (p := ⟨bs, 0, none⟩) H1.out _⟩
      · rw [← e1.out]
        rfl
      · rw [e2.out]
        exact D1.out.setS _
end Go.Proofs.Ytolningpngjhpaa.Bat
