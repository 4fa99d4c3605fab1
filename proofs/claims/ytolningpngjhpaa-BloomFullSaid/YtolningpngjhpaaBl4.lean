/- bloom.Make: what filter it makes of up to 1000 keys; and what it tells of more. -/
import Derived.Test.YtolningpngjhpaaBl3
namespace Go.Proofs.Ytolningpngjhpaa.Bloom
open Go.RowKit Go.Proofs.YtolningpngjhpaaW.PrintWords Go.Proofs.YtolningpngjhpaaW.PrintLast Go.Proofs.YtolningpngjhpaaW.PrintMore
open Go.Proofs.Ytolningpngjhpaa.PBloomFull
set_option linter.unusedVariables false

/-- A bit is set. -/
def setBit (xs : List Int) (b : Int) : List Int := xs.set (b / 8).toNat (Go.bits .or .u8 (rd xs (b / 8)) (2 ^ (b % 8).toNat % 256))
/-- The first j bits of a key are set. -/
def setKey (n : Int) (s : ByteArray) (xs : List Int) : Nat → List Int
  | 0 => xs
  | j + 1 => setBit (setKey n s xs j) (probe s n j)
/-- The bits of the first k keys are set. -/
def setKeys (n : Int) (keys : List ByteArray) (xs : List Int) : Nat → List Int
  | 0 => xs
  | k + 1 => setKey n (rdOf ByteArray.empty keys k) (setKeys n keys xs k) 4
theorem setBit_length (xs : List Int) (b : Int) : (setBit xs b).length = xs.length := by simp [setBit]
theorem setKey_length (n : Int) (s : ByteArray) (xs : List Int) (j : Nat) : (setKey n s xs j).length = xs.length := by
  induction j with
  | zero => rfl
  | succ j ih => rw [setKey, setBit_length, ih]
theorem setKeys_length (n : Int) (keys : List ByteArray) (xs : List Int) (k : Nat) : (setKeys n keys xs k).length = xs.length := by
  induction k with
  | zero => rfl
  | succ k ih => rw [setKeys, setKey_length, ih]
/-- The filter's bytes. -/
def makeL (keys : List ByteArray) : List Int := setKeys (8 * ((keys.length : Int) + 1)) keys (List.replicate (keys.length + 1) 0) keys.length

theorem info5 : (Try.prog.info? 5).map (fun i => (i.zero, i.size, i.bytes)) = some (some (.int .u8 0), 1, 1) := by kernel_rfl
theorem i0 (a b c d : Value) (w : World) : (Instr.index 75 (.agg #[a, b, c, d]) (.int .i64 0)).run Try.prog w = .ok a w := by kernel_rfl
theorem i1 (a b c d : Value) (w : World) : (Instr.index 75 (.agg #[a, b, c, d]) (.int .i64 1)).run Try.prog w = .ok b w := by kernel_rfl
theorem i2 (a b c d : Value) (w : World) : (Instr.index 75 (.agg #[a, b, c, d]) (.int .i64 2)).run Try.prog w = .ok c w := by kernel_rfl
theorem i3 (a b c d : Value) (w : World) : (Instr.index 75 (.agg #[a, b, c, d]) (.int .i64 3)).run Try.prog w = .ok d w := by kernel_rfl
theorem idx4 (f : Nat → Int) (j : Nat) (hj : j < 4) (w : World) :
    (Instr.index 75 (.agg #[.int .i64 (f 0), .int .i64 (f 1), .int .i64 (f 2), .int .i64 (f 3)]) (.int .i64 (j : Int))).run Try.prog w = .ok (.int .i64 (f j)) w := by
  match j, hj with
  | 0, _ => exact i0 _ _ _ _ w
  | 1, _ => exact i1 _ _ _ _ w
  | 2, _ => exact i2 _ _ _ _ w
  | 3, _ => exact i3 _ _ _ _ w
theorem rdOf_mem (keys : List ByteArray) (k : Nat) (h : k < keys.length) : rdOf ByteArray.empty keys (k : Int) ∈ keys := by
  unfold rdOf
  rw [Int.toNat_natCast, List.getD_eq_getElem?_getD, List.getElem?_eq_getElem h]
  exact List.getElem_mem h

set_option maxHeartbeats 1000000 in
set_option maxRecDepth 100000 in
theorem make_any (A : Option Addr) (c : Nat) (keys : List ByteArray) (w : World) (hk : Kd.C Kd.string w A keys.length keys) (hc : keys.length ≤ c) (hn : keys.length ≤ 1000) (hs : ∀ s ∈ keys, s.size ≤ 140737488351232) :
    Calls Try.prog 16 #[.slice A keys.length c] w fun e w' => e = .returned (.tuple #[.string (strOfNums (makeL keys)), .int .i64 0]) ∧ Below w.heap.size w w' := by
  have HK := Aside0.mk hk
  have HS := Aside0.mk hs
  clear hk hs
  have hmk := print_make (P := Try.prog) 23 5 .u8 1 Try.underlying23 info5 (by omega) (keys.length + 1) (by omega)
  have ec : ((keys.length + 1 : Nat) : Int) = (keys.length : Int) + 1 := by omega
  rw [ec] at hmk
  clear ec
  go_enter Try.func16, Try.ntmps16
  go_wp2
  have HO := Aside0.mk (own_made w w.heap.size 5 .u8 (keys.length + 1) (Nat.le_refl _) (by omega))
  have HB := Aside0.mk ((Below.refl w.heap.size w).alloc (Nat.le_refl _) (.cells (madeCells #[Value.int .u8 0] (keys.length + 1)) 5))
  clear hmk
  go_loopw [18] (fun v18 wr => ∃ k : Nat, k ≤ keys.length ∧ v18 = .int .i64 (k : Int) ∧ Aside0 (wr.ownsRow w.heap.size 5 1 (.slice (some ⟨w.heap.size, 0, none⟩) (keys.length + 1) (keys.length + 1)) (keys.length + 1) (nums .u8 (setKeys (8 * ((keys.length : Int) + 1)) keys (List.replicate (keys.length + 1) 0) k))) ∧ Aside0 (Below w.heap.size w wr)) (fun v18 _ => keys.length - (intOf v18).toNat)
  case atStart => exact ⟨0, Nat.zero_le _, rfl, HO, HB⟩
  case round =>
    clear HO HB
    obtain ⟨k, hkn, rfl, HO, HB⟩ := hrel
    by_cases hlt : k < keys.length
    · obtain ⟨ad, hA, hcell⟩ := Kd.at_string (HK.out) (k : Int) (by omega) (by omega)
      subst hA
      have hmem := rdOf_mem keys k hlt
      have hsz := HS.out _ hmem
      have hcell' := Aside0.mk (pw_cell_below HB.out hcell)
      clear hcell
      generalize hkey : rdOf ByteArray.empty keys (k : Int) = key at *
      have HKEY := Aside0.mk hkey
      clear hkey hmem
      have hc1 := hcell'.out
      rw [Int.toNat_natCast] at hc1
      go_wp2_with (go_at_call 46; refine (probes_any _ _ _ hsz (by omega) (by omega)).mono ?_; rintro e w1 ⟨rfl, hb⟩)
      have HB1 := Aside0.mk (below_then HB.out (by have := HB.out.size; omega) hb)
      have HO1 := Aside0.mk (pw_own_below HO.out hb)
      clear hb HB HO hcell' hc1
      go_loopw [27] (fun v27 wi => ∃ j : Nat, j ≤ 4 ∧ v27 = .int .i64 (j : Int) ∧ Aside0 (wi.ownsRow w.heap.size 5 1 (.slice (some ⟨w.heap.size, 0, none⟩) (keys.length + 1) (keys.length + 1)) (keys.length + 1) (nums .u8 (setKey (8 * ((keys.length : Int) + 1)) key (setKeys (8 * ((keys.length : Int) + 1)) keys (List.replicate (keys.length + 1) 0) k) j))) ∧ Aside0 (Below w.heap.size w wi)) (fun v27 _ => 4 - (intOf v27).toNat)
      case atStart => exact ⟨0, by omega, rfl, HO1, HB1⟩
      case round =>
        clear HO1 HB1
        obtain ⟨j, hj4, rfl, HO, HB⟩ := hrel
        by_cases hj : j < 4
        · have hix := fun W => idx4 (probe key (8 * ((keys.length : Int) + 1))) j hj W
          have hp := probe_bd key (8 * ((keys.length : Int) + 1)) (by omega) (by omega) j
          have hbit : ∃ b : Int, probe key (8 * ((keys.length : Int) + 1)) j = b := ⟨_, rfl⟩
          obtain ⟨b, hb⟩ := hbit
          rw [hb] at hix hp
          have HBIT := Aside0.mk hb
          clear hb
          have hq0 : 0 ≤ b / 8 := by omega
          have hq1 : b / 8 < (keys.length : Int) + 1 := by omega
          obtain ⟨hcl, hfr⟩ := own_at HO.out (b / 8) hq0 (by omega)
          go_wp2
          go_region
          go_wp2
          go_roundw
          case rel =>
            refine ⟨j + 1, by omega, by go_num, ⟨?_⟩, ⟨?_⟩⟩
            · have h := (own_store HO.out (b / 8) (Go.bits .or .u8 (rd (setKey (8 * ((keys.length : Int) + 1)) key (setKeys (8 * ((keys.length : Int) + 1)) keys (List.replicate (keys.length + 1) 0) k) j) (b / 8)) (2 ^ (b % 8).toNat % 256))).1
              rw [setKey, HBIT.out]
              exact h
            · exact (HB.out.setCell (Nat.le_refl _) _).drew
          case measure => simp [intOf]; omega
        · obtain rfl : j = 4 := by omega
          go_wp2
          go_roundw
          case rel =>
            refine ⟨k + 1, by omega, by go_num, ⟨?_⟩, HB⟩
            rw [setKeys, HKEY.out]
            exact HO.out
          case measure => simp [intOf]; omega
    · obtain rfl : k = keys.length := by omega
      have hcv := own_string (P := Try.prog) Try.underlying23 Try.underlying5 Try.underlying9 HO.out
      go_wp2
      go_ret2
      exact ⟨rfl, HB.out⟩

theorem make_many (A : Option Addr) (c n : Nat) (w : World) (hn : 1000 < n) (hn2 : n ≤ 9223372036854775807) :
    Calls Try.prog 16 #[.slice A n c] w fun e w' => e = .returned (.tuple #[.string ⟨#[]⟩, .int .i64 4]) ∧ Below w.heap.size w w' := by
  have hd : decide (1000 < n) = true := decide_eq_true hn
  have hd' : decide ((1000 : Int) < (n : Int)) = true := decide_eq_true (by omega)
  go_enter Try.func16, Try.ntmps16
  go_wp2
  go_ret2
  exact ⟨rfl, Below.refl _ _⟩
end Go.Proofs.Ytolningpngjhpaa.Bloom
