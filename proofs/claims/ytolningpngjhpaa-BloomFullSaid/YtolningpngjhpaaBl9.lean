/- The walk of screelaw10.BloomFull. -/
import Derived.Test.YtolningpngjhpaaBl8
namespace Go.Proofs.Ytolningpngjhpaa.Bloom
open Go.RowKit Go.Proofs.YtolningpngjhpaaW.PrintWords Go.Proofs.YtolningpngjhpaaW.PrintLast Go.Proofs.YtolningpngjhpaaW.PrintMore
open Go.Proofs.Ytolningpngjhpaa.PBloomFull
open Go.Maps
set_option linter.unusedVariables false

theorem large_l (keys : List ByteArray) : ∀ (d k i : Nat), keys.length - i = d → 2 * d + 2 ≤ k →
    ∃ r, screelaw10_large.l0 k keys (i : Int) = some r ∧ (r = false → keys.length ≤ 1000 → ∀ j, i ≤ j → j < keys.length → (rdOf ByteArray.empty keys (j : Int)).size ≤ 300) := by
  intro d
  induction d with
  | zero =>
    intro k i hd hk
    obtain ⟨k, rfl⟩ : ∃ m, k = m + 2 := ⟨k - 2, by omega⟩
    refine ⟨false, ?_, fun _ _ j h1 h2 => by omega⟩
    simp only [screelaw10_large.l0, screelaw10_large.j2]
    rw [if_neg (by omega)]
    rfl
  | succ d ih =>
    intro k i hd hk
    obtain ⟨k, rfl⟩ : ∃ m, k = m + 2 := ⟨k - 2, by omega⟩
    simp only [screelaw10_large.l0, screelaw10_large.j2]
    rw [if_pos (by omega)]
    by_cases h1 : (i : Int) ≤ 1000
    · rw [if_pos (by simpa using h1), if_pos (by omega), if_pos (by omega)]
      by_cases h3 : ((rdOf ByteArray.empty keys (i : Int)).size : Int) > 300
      · rw [if_pos h3]
        exact ⟨true, rfl, fun h => by cases h⟩
      · rw [if_neg h3]
        have e : wrap64 ((i : Int) + 1) = ((i + 1 : Nat) : Int) := by unfold wrap64; omega
        rw [e]
        obtain ⟨r, hr, hall⟩ := ih k (i + 1) (by omega) (by omega)
        refine ⟨r, hr, fun hf hl j h4 h5 => ?_⟩
        by_cases e : j = i
        · subst e; omega
        · exact hall hf hl j (by omega) h5
    · rw [if_neg (by simpa using h1)]
      exact ⟨false, rfl, fun _ hl => by omega⟩
theorem large_f (keys : List ByteArray) :
    ∃ k r, screelaw10_large.f k keys = some r ∧ (r = false → keys.length ≤ 1000 → keys.length ≤ 60 ∧ ∀ j, j < keys.length → (rdOf ByteArray.empty keys (j : Int)).size ≤ 300) := by
  obtain ⟨r, hr, hall⟩ := large_l keys keys.length (2 * keys.length + 2) 0 (by omega) (by omega)
  have hz : ((0 : Nat) : Int) = 0 := rfl
  rw [hz] at hr
  by_cases h1 : (keys.length : Int) > 60
  · by_cases h2 : (keys.length : Int) ≤ 1000
    · refine ⟨2 * keys.length + 2 + 1, true, ?_, fun h => by cases h⟩
      unfold screelaw10_large.f
      rw [if_pos h1]
      simp only [screelaw10_large.j0]
      rw [if_pos (by simpa using h2)]
    · refine ⟨2 * keys.length + 2 + 1, r, ?_, fun _ h => by omega⟩
      unfold screelaw10_large.f
      rw [if_pos h1]
      simp only [screelaw10_large.j0]
      rw [if_neg (by simpa using h2)]
      exact hr
  · refine ⟨2 * keys.length + 2 + 1, r, ?_, fun hf h => ⟨by omega, fun j hj => hall hf h j (by omega) hj⟩⟩
    unfold screelaw10_large.f
    rw [if_neg h1]
    simp only [screelaw10_large.j0]
    rw [if_neg (by simp)]
    exact hr

theorem key3 : Keyed Try.prog 3 := int_keyed Try.underlying3
theorem lit_wf (x : Int) (h0 : 0 ≤ x) (h1 : x < 9223372036854775808) : (Lit.int .i64 x).wf = true := WalkArith.wf_i64 (by omega)
def litB (l : List Int) : List Lit := l.map fun x => .int .i64 x
/-- What the set reads as. -/
def setD {H : Type} (l : List Int) : DataW H := setOf (.lit (.bool true)) (litB l)
theorem setD_snoc {H : Type} (l : List Int) (x : Int) : (setD (H := H) l).put (.int .i64 x) (.lit (.bool true)) = setD (l ++ [x]) := by
  unfold setD litB
  rw [List.map_append, List.map_cons, List.map_nil, setOf_snoc]
theorem addKey_map (l : List Int) : ∀ acc : List Int, ((litB l).foldl addKey (litB acc)) = litB (l.foldl addI acc) := by
  induction l with
  | nil => intro acc; rfl
  | cons a r ih =>
    intro acc
    have e : addKey (litB acc) (.int .i64 a) = litB (addI acc a) := by
      unfold addKey addI litB
      have : ((acc.map fun x => Lit.int .i64 x).any fun y => y.sameKey (.int .i64 a)) = acc.contains a := by
        rw [Bool.eq_iff_iff]
        simp [Lit.sameKey]
      rw [this]
      split
      · rfl
      · simp
    show ((litB r).foldl addKey (addKey (litB acc) (.int .i64 a))) = _
    rw [e, ih, List.foldl_cons]
theorem setD_size {H : Type} (l : List Int) : size (setD (H := H) l) = (l.foldl addI []).length := by
  unfold setD
  rw [size_setOf _ _ (by intro x hx; obtain ⟨y, _, rfl⟩ := List.mem_map.1 hx; trivial)]
  have := addKey_map l []
  simp only [litB, List.map_nil] at this
  unfold litB
  rw [this]
  simp

theorem all_small (keys : List ByteArray) (h : ∀ j, j < keys.length → (rdOf ByteArray.empty keys (j : Int)).size ≤ 300) : ∀ s ∈ keys, s.size ≤ 140737488351232 := by
  intro s hs
  obtain ⟨j, hj, rfl⟩ := List.getElem_of_mem hs
  have := h j hj
  unfold rdOf at this
  rw [Int.toNat_natCast, List.getD_eq_getElem?_getD, List.getElem?_eq_getElem hj] at this
  simp at this
  omega

set_option maxHeartbeats 2000000 in
set_option maxRecDepth 100000 in
theorem full_walk {H : Type} (A : Option Addr) (c : Nat) (keys : List ByteArray) (w : World) (hk : Kd.C Kd.string w A keys.length keys) (hc : keys.length ≤ c) (hn : keys.length ≤ 60) (hs : ∀ j, j < keys.length → (rdOf ByteArray.empty keys (j : Int)).size ≤ 300)
    (hL : ∃ k, screelaw10_large.f k keys = some false) :
    Calls Try.prog 4 #[.slice A keys.length c] w fun e w' => e = .returned (.bool true) ∧ Below w.heap.size w w' := by
  obtain ⟨kl, hl⟩ := hL
  have HK := Aside0.mk hk
  have HS := Aside0.mk hs
  have HL := Aside0.mk hl
  clear hk hs hl
  have hmm := @run_makeMap Try.prog
  go_enter Try.func4, Try.ntmps4
  go_wp2_with (go_at_call 12; refine (awake_any _).mono ?_; rintro e w1 ⟨rfl, hb1⟩)
  refine (screelaw10_large.calls kl A c keys false _ (Kd.C_below HK.out hb1) hc HL.out).mono ?_
  rintro e w2 ⟨rfl, hd2⟩
  have hb2 := below_then hb1 hb1.size hd2.below
  clear hb1 hd2
  go_wp2_with fail
  refine (make_any A c keys _ (Kd.C_below HK.out hb2) hc (by omega) (all_small keys HS.out)).mono ?_
  rintro e w3 ⟨rfl, hb3'⟩
  have hb3 := below_then hb2 hb2.size hb3'
  clear hb2 hb3'
  have HF := Aside0.mk (make_size keys (by omega))
  generalize hF : strOfNums (makeL keys) = F
  rw [hF] at HF
  have HFe := Aside0.mk hF
  clear hF
  have HM := Aside0.mk (World.ownsMap_made (H := H) w3 Try.prog 3 (plainElem Try.prog 4))
  have HB := Aside0.mk (hb3.alloc hb3.size (.map #[] 0))
  have hB0 := hb3.size
  clear hb3
  go_wp2_with fail
  generalize w3.heap.size = B at HM hB0 ⊢
  go_loopw [26] (fun v26 wr => ∃ k : Nat, k ≤ keys.length ∧ v26 = .int .i64 (k : Int) ∧ Aside0 (wr.ownsMap (H := H) Try.prog 3 (plainElem Try.prog 4) B (4 * k) (setD (bitsTo (8 * ((keys.length : Int) + 1)) keys k))) ∧ Aside0 (Below w.heap.size w wr)) (fun v26 _ => keys.length - (intOf v26).toNat)
  case atStart => exact ⟨0, Nat.zero_le _, rfl, ⟨HM.out⟩, HB⟩
  case round =>
    clear HM HB
    obtain ⟨k, hkn, rfl, HM, HB⟩ := hrel
    by_cases hlt : k < keys.length
    · obtain ⟨ad, hA, hcell⟩ := Kd.at_string (HK.out) (k : Int) (by omega) (by omega)
      subst hA
      have hsz : (rdOf ByteArray.empty keys (k : Int)).size ≤ 140737488351232 := by have := HS.out k hlt; omega
      have hmem := Aside0.mk (fun j hj => bits_mem (8 * ((keys.length : Int) + 1)) keys k j hlt hj)
      have hcell' := Aside0.mk (pw_cell_below HB.out hcell)
      clear hcell
      generalize hkey : rdOf ByteArray.empty keys (k : Int) = key at *
      have HKEY := Aside0.mk hkey
      clear hkey
      have hc1 := hcell'.out
      rw [Int.toNat_natCast] at hc1
      go_wp2_with (go_at_call 17; refine (bits_any _ _ _ hsz (by omega) (by omega)).mono ?_; rintro e w4 ⟨g, rfl, hg1, hg2, hg3, hb4⟩)
      have HB4 := Aside0.mk (below_then HB.out HB.out.size hb4)
      have hgB : B < g := Nat.lt_of_lt_of_le HM.out.lt hg1
      have HM4 := Aside0.mk (HM.out.kept (grown_of_below hb4 none) (by simp))
      have HG4 := Aside0.mk hg3
      have HBk := Aside0.mk HB.out.size
      clear hb4 hg3 HM HB hcell' hc1
      go_loopw [39] (fun v39 wi => ∃ j : Nat, j ≤ 4 ∧ v39 = .int .i64 (j : Int) ∧ Aside0 (wi.ownsMap (H := H) Try.prog 3 (plainElem Try.prog 4) B (4 * k + j) (setD (bitsTo (8 * ((keys.length : Int) + 1)) keys k ++ bitsKey (8 * ((keys.length : Int) + 1)) key j))) ∧ Aside0 (Below w.heap.size w wi) ∧ Aside0 (g < wi.heap.size ∧ ∀ i : Nat, i < 4 → wi.cell? ⟨g, i, none⟩ = some (.int .i64 (probe key (8 * ((keys.length : Int) + 1)) i)))) (fun v39 _ => 4 - (intOf v39).toNat)
      case atStart => exact ⟨0, by omega, rfl, ⟨by simpa [bitsKey] using HM4.out⟩, HB4, ⟨hg2, HG4.out⟩⟩
      case round =>
        clear HM4 HB4 HG4 hg1 hg2
        obtain ⟨j, hj4, rfl, HM, HB, HG⟩ := hrel
        by_cases hj : j < 4
        · have hcl := HG.out.2 j hj
          have hp := probe_bd key (8 * ((keys.length : Int) + 1)) (by omega) (by omega) j
          have hbf := make_bit keys (by omega) (probe key (8 * ((keys.length : Int) + 1)) j) hp.1 hp.2 (hmem.out j hj)
          rw [HFe.out] at hbf
          have hbit : ∃ b : Int, probe key (8 * ((keys.length : Int) + 1)) j = b := ⟨_, rfl⟩
          obtain ⟨b, hb⟩ := hbit
          rw [hb] at hcl hp hbf
          have HBIT := Aside0.mk hb
          clear hb
          have hq0 : 0 ≤ b / 8 := by omega
          have hFs := HF.out
          have hq1 : b / 8 < (F.size : Int) := by omega
          have hq2 : (b / 8).toNat < F.size := by omega
          clear hFs
          rw [← bt_at F (b / 8) hq2] at hbf
          have hkey := keyOf_int_mk Try.underlying3 (lit_wf b hp.1 (by omega))
          go_wp2_with (at_mapUpdate; refine wpList_mapUpdate_own _ rfl _ _ _ 32 rfl 3 4 key3 Try.underlying32 _ B (4 * k + j) _ rfl HM.out (by unfold maxLen; omega) _ _ _ rfl rfl hkey _ [] (plainElem_bool Try.underlying4 true) ?_; intro wm hown hgrow; have HMn := Aside0.mk hown; have HBn := Aside0.mk (pw_below_grown HB.out (some B) HB.out.size hgrow (by intro x hx; cases hx; exact hB0)); have HGn := Aside0.mk (⟨Nat.lt_of_lt_of_le HG.out.1 hgrow.size, fun i hi => (World.cell?_of_block (hgrow.block g HG.out.1 (by intro e; injection e with e; omega))).trans (HG.out.2 i hi)⟩ : g < wm.heap.size ∧ ∀ i : Nat, i < 4 → wm.cell? ⟨g, i, none⟩ = some (.int .i64 (probe key (8 * ((keys.length : Int) + 1)) i))); clear HM HB HG hown hgrow hkey)
          go_roundw
          case rel =>
            refine ⟨j + 1, by omega, by go_num, ⟨?_⟩, HBn, HGn⟩
            have h := HMn.out
            rw [setD_snoc, List.append_assoc] at h
            rw [bitsKey, HBIT.out]
            exact h
          case measure => simp [intOf]; omega
        · obtain rfl : j = 4 := by omega
          go_wp2
          go_roundw
          case rel =>
            refine ⟨k + 1, by omega, by go_num, ⟨?_⟩, HB⟩
            rw [bitsTo, HKEY.out]
            exact HM.out.mono (by omega)
          case measure => simp [intOf]; omega
    · obtain rfl : k = keys.length := by omega
      have hFs : F.size ≤ 140737488351232 := by have := HF.out; omega
      have hmk := make_full keys (by omega)
      rw [HFe.out] at hmk
      go_wp2_with (go_at_call 14; refine (full_all _ _ hFs).mono ?_; rintro e wn ⟨rfl, hb⟩; have HMn := Aside0.mk (HM.out.kept (grown_of_below hb none) (by simp)); have HBn := Aside0.mk (below_then HB.out HB.out.size hb); clear hb HM HB; have hlen := HMn.out.len Try.underlying32 3; rw [setD_size, ← hmk] at hlen)
      go_ret
      exact ⟨by simp, HBn.out⟩
end Go.Proofs.Ytolningpngjhpaa.Bloom
