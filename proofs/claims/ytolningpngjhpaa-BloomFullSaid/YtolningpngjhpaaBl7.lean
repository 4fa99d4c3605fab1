/- The walk of screelaw10.BloomMore. -/
import Derived.Test.YtolningpngjhpaaBl6
namespace Go.Proofs.Ytolningpngjhpaa.Bloom
open Go.RowKit Go.Proofs.YtolningpngjhpaaW.PrintWords Go.Proofs.YtolningpngjhpaaW.PrintLast Go.Proofs.YtolningpngjhpaaW.PrintMore
open Go.Proofs.Ytolningpngjhpaa.PBloomFull
set_option linter.unusedVariables false

/-- A block's first n cells are bytes that may be written. -/
def Byt (w : World) (g n : Nat) (f : Nat → Int) : Prop := g < w.heap.size ∧ ∀ j, j < n → w.cell? ⟨g, j, none⟩ = some (.int .u8 (f j)) ∧ w.frozen? ⟨g, j, none⟩ = false
theorem Byt.below {w w' : World} {g n : Nat} {f : Nat → Int} (h : Byt w g n f) (hb : Below w.heap.size w w') : Byt w' g n f :=
  ⟨Nat.lt_of_lt_of_le h.1 hb.size, fun j hj => ⟨(hb.cell (p := ⟨g, j, none⟩) h.1).trans (h.2 j hj).1, (hb.frozen (p := ⟨g, j, none⟩) h.1).trans (h.2 j hj).2⟩⟩
theorem Byt.drew {w : World} {g n : Nat} {f : Nat → Int} (h : Byt w g n f) : Byt w.drew g n f := h
theorem Byt.set_ {w : World} {g n : Nat} {f : Nat → Int} (h : Byt w g n f) (i : Nat) (hi : i < n) (x : Int) : Byt (w.setCell ⟨g, i, none⟩ (.int .u8 x)) g n (fun j => if j = i then x else f j) := by
  refine ⟨by simpa [World.setCell] using h.1, fun j hj => ⟨?_, by rw [World.frozen?_setCell]; exact (h.2 j hj).2⟩⟩
  by_cases e : j = i
  · subst e
    rw [World.cell?_setCell_same _ _ _ (h.2 j hj).1]
    simp
  · rw [World.cell?_setCell_other _ _ _ _ (by intro he; injection he with _ he; exact e he.symm), (h.2 j hj).1]
    simp [e]
theorem Byt.new (W : World) (s : ByteArray) : Byt (Lib.bytesWorld W 5 s) W.heap.size s.size (fun j => bt s (j : Int)) := by
  refine ⟨by rw [Lib.bytesWorld_size]; omega, fun j hj => ⟨?_, ?_⟩⟩
  · rw [Lib.bytesWorld_cell W 5 s j hj]
    simp [bt, hj, List.getD_eq_getElem?_getD]
    rfl
  · have h := Lib.bytesWorld_at_new W 5 s
    have hz : s.size ≤ (Lib.bytesCells W 5 s).size := by
      have : s.data.size = s.size := rfl
      simp only [Lib.bytesCells, Array.size_append, Array.size_map]
      omega
    simp only [World.frozen?, h]
    simp
    omega
theorem Byt.string {w : World} {g n : Nat} {f : Nat → Int} (h : Byt w g n f) (cap : Nat) : (convert 23 9 (.slice (some ⟨g, 0, none⟩) n cap)).run Try.prog w = .ok (.string (strOfNums ((List.range n).map f))) w := by
  refine run_convert_bytes_arg w 23 5 Try.underlying23 Try.underlying5 g 0 n cap ((List.range n).map f) (by simp) (fun i hi => ?_) 9 Try.underlying9
  rw [Nat.zero_add, (h.2 i hi).1]
  simp [List.getD_eq_getElem?_getD, hi]

/-- The first k bytes of a filter with another one's bits. -/
def orTo (f m : ByteArray) (k : Nat) (j : Nat) : Int := if j < k ∧ j < m.size then Go.bits .or .u8 (bt f j) (bt m j) else bt f j

theorem bt_nat (m : ByteArray) (k : Nat) (h : k < m.size) : bt m (k : Int) = ((m[k]'h).toNat : Int) := by
  unfold bt
  rw [dif_pos (by simpa using h)]
  simp
theorem orTo_zero (f m : ByteArray) : orTo f m 0 = fun j : Nat => bt f (j : Int) := by funext j; simp [orTo]
theorem orTo_in (f m : ByteArray) (k : Nat) (h : k < m.size) : orTo f m (k + 1) = fun j => if j = k then Go.bits .or .u8 (orTo f m k k) (bt m k) else orTo f m k j := by
  funext j
  by_cases e : j = k
  · subst e
    simp [orTo, h]
  · simp only [orTo, if_neg e]
    by_cases h1 : j < k
    · simp [h1, show j < k + 1 by omega]
    · simp [h1, show ¬ j < k + 1 by omega]
theorem orTo_out (f m : ByteArray) (k : Nat) (h : ¬ k < m.size) : orTo f m (k + 1) = orTo f m k := by
  funext j
  by_cases h1 : j < k
  · simp [orTo, h1, show j < k + 1 by omega]
  · by_cases h2 : j < m.size
    · have h3 : ¬ j < k + 1 := by omega
      simp [orTo, h1, h3]
    · simp [orTo, h2]
/-- A filter with another one's bits. -/
def orS (f m : ByteArray) : ByteArray := strOfNums ((List.range f.size).map (orTo f m f.size))
theorem strOf_size (xs : List Int) : (strOfNums xs).size = xs.length := by
  have := data_length (strOfNums xs)
  rw [← this]
  simp [strOfNums]
theorem bt_strOf (xs : List Int) (h : ∀ x ∈ xs, 0 ≤ x ∧ x < 256) (i : Int) (h1 : i.toNat < xs.length) : bt (strOfNums xs) i = xs[i.toNat] := by
  have hx := h _ (List.getElem_mem h1)
  unfold bt
  rw [dif_pos (by rw [strOf_size]; exact h1)]
  have e : (strOfNums xs)[i.toNat]'(by rw [strOf_size]; exact h1) = (xs[i.toNat]).toNat.toUInt8 := by
    show (strOfNums xs).data[i.toNat]'_ = _
    simp [strOfNums]
  rw [e]
  simp
  omega
theorem bt_out (s : ByteArray) (i : Int) (h : s.size ≤ i.toNat) : bt s i = 0 := by unfold bt; rw [dif_neg (by omega)]
theorem orTo_bd (f m : ByteArray) (k j : Nat) : 0 ≤ orTo f m k j ∧ orTo f m k j < 256 := by
  have a := bt_range f j
  have b := bt_range m j
  unfold orTo
  split
  · rw [u8_or _ _ a.1 (by omega) b.1 (by omega)]
    have : (bt f j).toNat ||| (bt m j).toNat < 2 ^ 8 := Nat.or_lt_two_pow (by omega) (by omega)
    omega
  · omega
theorem orS_more (f m : ByteArray) : More f (orS f m) := by
  have hall : ∀ x ∈ (List.range f.size).map (orTo f m f.size), 0 ≤ x ∧ x < 256 := by
    intro x hx
    obtain ⟨j, _, rfl⟩ := List.mem_map.1 hx
    exact orTo_bd f m f.size j
  refine ⟨by rw [orS, strOf_size]; simp, fun i j hj => ?_⟩
  by_cases hi : i.toNat < f.size
  · have e : bt (orS f m) i = orTo f m f.size i.toNat := by
      rw [orS, bt_strOf _ hall i (by simpa using hi)]
      simp
    have ef : bt f i = bt f (i.toNat : Int) := by unfold bt; simp only [Int.toNat_natCast]
    rw [e]
    rw [ef] at hj
    unfold orTo
    split
    · have a := bt_range f (i.toNat : Int)
      have b := bt_range m (i.toNat : Int)
      rw [u8_or _ _ a.1 (by omega) b.1 (by omega)]
      simp only [Int.toNat_natCast, Nat.testBit_or]
      rw [hj]
      rfl
    · exact hj
  · rw [bt_out f i (by omega)] at hj
    simp at hj
def ones (n : Nat) : ByteArray := strOfNums ((List.range n).map fun _ => (255 : Int))
theorem ones_size (n : Nat) : (ones n).size = n := by rw [ones, strOf_size]; simp
theorem ones_ones (n : Nat) (s : ByteArray) (h : n ≤ 140737488351232) : mayB (ones n) s = true := by
  refine may_ones (fun i h0 h1 => ?_) (by rw [ones_size]; exact h) s
  rw [ones_size] at h1
  rw [ones, bt_strOf _ (by intro x hx; obtain ⟨j, _, rfl⟩ := List.mem_map.1 hx; omega) i (by simp; omega)]
  simp

theorem ones_step (k : Nat) (f : Nat → Int) : (fun j => if j < k + 1 then (255 : Int) else f j) = fun j => if j = k then 255 else if j < k then 255 else f j := by
  funext j
  by_cases h : j = k
  · simp [h]
  · by_cases h2 : j < k
    · simp [h2, show j < k + 1 by omega]
    · simp [h, h2, show ¬ j < k + 1 by omega]
theorem ones_end (n : Nat) (f : Nat → Int) : strOfNums ((List.range n).map fun j => if j < n then (255 : Int) else f j) = ones n := by
  unfold ones
  congr 1
  apply List.map_congr_left
  intro j hj
  simp [List.mem_range.1 hj]

set_option maxHeartbeats 4000000 in
set_option maxRecDepth 100000 in
theorem more_walk (f m s : ByteArray) (w : World) (hf : f.size ≤ 200) (hm : m.size ≤ 200) (hs : s.size ≤ 300) :
    Calls Try.prog 3 #[.string f, .string m, .string s] w fun e w' => e = .returned (.bool true) ∧ Below w.heap.size w w' := by
  have kb := fun W => print_bytes (P := Try.prog) 9 23 5 Try.underlying9 Try.underlying23 Try.underlying5 f W
  go_enter Try.func3, Try.ntmps3
  go_wp2_with (go_at_call 12; refine (awake_any _).mono ?_; rintro e w1 ⟨rfl, hb1⟩)
  have HY := Aside0.mk (Byt.new w1 f)
  have HB := Aside0.mk (bytes_below hb1 hb1.size 5 f)
  have hg0 := hb1.size
  clear hb1 kb
  obtain ⟨g, hg⟩ : ∃ g, g = w1.heap.size := ⟨_, rfl⟩
  rw [← hg] at HY hg0 ⊢
  have HG := Aside0.mk hg
  clear hg
  generalize grownCap w1 f.size 0 5 = cap
  go_loopw [29] (fun v29 wr => ∃ k : Nat, k ≤ f.size ∧ v29 = .int .i64 (k : Int) ∧ Aside0 (Byt wr g f.size (orTo f m k)) ∧ Aside0 (Below w.heap.size w wr)) (fun v29 _ => f.size - (intOf v29).toNat)
  case atStart => exact ⟨0, Nat.zero_le _, rfl, ⟨by rw [orTo_zero]; exact HY.out⟩, HB⟩
  case round =>
    clear HY HB
    obtain ⟨k, hkn, rfl, HY, HB⟩ := hrel
    by_cases hlt : k < f.size
    · obtain ⟨hcl, hfr⟩ := HY.out.2 k hlt
      by_cases hkm : k < m.size
      · have hkm' : (k : Int) < (m.size : Int) := by omega
        go_wp2
        go_region
        go_wp2
        go_roundw
        case rel =>
          refine ⟨k + 1, by omega, by go_num, ⟨?_⟩, ⟨(HB.out.setCell hg0 _).drew⟩⟩
          rw [orTo_in f m k hkm]
          rw [bt_nat m k hkm]
          exact (HY.out.set_ k hlt _).drew
        case measure => simp [intOf]; omega
      · have hkm' : ¬ (k : Int) < (m.size : Int) := by omega
        go_wp2
        go_roundw
        case rel => exact ⟨k + 1, by omega, by go_num, ⟨by rw [orTo_out f m k hkm]; exact HY.out⟩, HB⟩
        case measure => simp [intOf]; omega
    · obtain rfl : k = f.size := by omega
      have hmore := orS_more f m
      have hz1 : f.size ≤ 140737488351232 := by omega
      have hz2 : s.size ≤ 140737488351232 := by omega
      have hz3 : (orS f m).size ≤ 140737488351232 := by rw [hmore.1]; omega
      have hle : decide (fullN (orS f m) < fullN f) = false := decide_eq_false (by have := full_more hmore; omega)
      have HM := Aside0.mk hmore
      clear hmore
      have hcv := HY.out.string cap
      rw [show strOfNums ((List.range f.size).map (orTo f m f.size)) = orS f m from rfl] at hcv
      have HYd := Aside0.mk (Byt.drew HY.out)
      have HBd := Aside0.mk (below_drew HB.out)
      go_wp2_with fail
      clear HY HB
      have HY := HYd
      have HB := HBd
      clear HYd HBd
      cases hA : mayB f s with
      | false =>
        first | (go_region_with (first | (go_at_call 13; with_reducible refine (call_may f s _ (by assumption) (by assumption) hA).mono ?_; rintro e wn ⟨rfl, hb⟩; have HYn := Aside0.mk (HY.out.below hb); have HBn := Aside0.mk (below_then HB.out HB.out.size hb); clear HY HB hb hcv; have HY := HYn; have HB := HBn; clear HYn HBn; have hcv := HY.out.string cap; rw [show strOfNums ((List.range f.size).map (orTo f m f.size)) = orS f m from rfl] at hcv) | (go_at_call 14; refine (full_all _ _ (by assumption)).mono ?_; rintro e wn ⟨rfl, hb⟩; have HYn := Aside0.mk (HY.out.below hb); have HBn := Aside0.mk (below_then HB.out HB.out.size hb); clear HY HB hb hcv; have HY := HYn; have HB := HBn; clear HYn HBn; have hcv := HY.out.string cap; rw [show strOfNums ((List.range f.size).map (orTo f m f.size)) = orS f m from rfl] at hcv))) | fail
        all_goals
          clear hcv hle hA
          go_wp2
          go_loopw [66] (fun v66 wr => ∃ k : Nat, k ≤ f.size ∧ v66 = .int .i64 (k : Int) ∧ Aside0 (Byt wr g f.size (fun j => if j < k then 255 else orTo f m f.size j)) ∧ Aside0 (Below w.heap.size w wr)) (fun v66 _ => f.size - (intOf v66).toNat)
          case atStart => exact ⟨0, Nat.zero_le _, rfl, ⟨by simpa using HY.out⟩, HB⟩
          case round =>
            clear HY HB
            obtain ⟨k, hkn, rfl, HY, HB⟩ := hrel
            by_cases hlt : k < f.size
            · obtain ⟨hcl, hfr⟩ := HY.out.2 k hlt
              go_wp2
              go_roundw
              case rel =>
                refine ⟨k + 1, by omega, by go_num, ⟨?_⟩, ⟨HB.out.setCell hg0 _⟩⟩
                rw [ones_step]
                exact HY.out.set_ k hlt 255
              case measure => simp [intOf]; omega
            · obtain rfl : k = f.size := by omega
              have hcv := HY.out.string cap
              rw [ones_end] at hcv
              have hzo : (ones f.size).size ≤ 140737488351232 := by rw [ones_size]; exact hz1
              go_wp2_with ((go_at_call 13; with_reducible refine (call_may (ones f.size) s _ (by assumption) (by assumption) (ones_ones f.size s hz1)).mono ?_; rintro e wl ⟨rfl, hb⟩))
              go_ret
              exact ⟨rfl, below_then HB.out HB.out.size hb⟩
      | true =>
        have hA2 := may_more HM.out s hA
        first | (go_region_with (first | (go_at_call 13; with_reducible refine (call_may f s _ (by assumption) (by assumption) hA).mono ?_; rintro e wn ⟨rfl, hb⟩; have HYn := Aside0.mk (HY.out.below hb); have HBn := Aside0.mk (below_then HB.out HB.out.size hb); clear HY HB hb hcv; have HY := HYn; have HB := HBn; clear HYn HBn; have hcv := HY.out.string cap; rw [show strOfNums ((List.range f.size).map (orTo f m f.size)) = orS f m from rfl] at hcv) | (go_at_call 13; with_reducible refine (call_may (orS f m) s _ (by assumption) (by assumption) hA2).mono ?_; rintro e wn ⟨rfl, hb⟩; have HYn := Aside0.mk (HY.out.below hb); have HBn := Aside0.mk (below_then HB.out HB.out.size hb); clear HY HB hb hcv; have HY := HYn; have HB := HBn; clear HYn HBn; have hcv := HY.out.string cap; rw [show strOfNums ((List.range f.size).map (orTo f m f.size)) = orS f m from rfl] at hcv) | (go_at_call 14; refine (full_all _ _ (by assumption)).mono ?_; rintro e wn ⟨rfl, hb⟩; have HYn := Aside0.mk (HY.out.below hb); have HBn := Aside0.mk (below_then HB.out HB.out.size hb); clear HY HB hb hcv; have HY := HYn; have HB := HBn; clear HYn HBn; have hcv := HY.out.string cap; rw [show strOfNums ((List.range f.size).map (orTo f m f.size)) = orS f m from rfl] at hcv))) | fail
        all_goals
          clear hcv hle hA hA2
          go_wp2
          go_loopw [66] (fun v66 wr => ∃ k : Nat, k ≤ f.size ∧ v66 = .int .i64 (k : Int) ∧ Aside0 (Byt wr g f.size (fun j => if j < k then 255 else orTo f m f.size j)) ∧ Aside0 (Below w.heap.size w wr)) (fun v66 _ => f.size - (intOf v66).toNat)
          case atStart => exact ⟨0, Nat.zero_le _, rfl, ⟨by simpa using HY.out⟩, HB⟩
          case round =>
            clear HY HB
            obtain ⟨k, hkn, rfl, HY, HB⟩ := hrel
            by_cases hlt : k < f.size
            · obtain ⟨hcl, hfr⟩ := HY.out.2 k hlt
              go_wp2
              go_roundw
              case rel =>
                refine ⟨k + 1, by omega, by go_num, ⟨?_⟩, ⟨HB.out.setCell hg0 _⟩⟩
                rw [ones_step]
                exact HY.out.set_ k hlt 255
              case measure => simp [intOf]; omega
            · obtain rfl : k = f.size := by omega
              have hcv := HY.out.string cap
              rw [ones_end] at hcv
              have hzo : (ones f.size).size ≤ 140737488351232 := by rw [ones_size]; exact hz1
              go_wp2_with ((go_at_call 13; with_reducible refine (call_may (ones f.size) s _ (by assumption) (by assumption) (ones_ones f.size s hz1)).mono ?_; rintro e wl ⟨rfl, hb⟩))
              go_ret
              exact ⟨rfl, below_then HB.out HB.out.size hb⟩
end Go.Proofs.Ytolningpngjhpaa.Bloom
