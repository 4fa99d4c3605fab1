/- num.Short, num.Take and the reference's Short: what they answer. -/
import Derived.Test.YtolningpngjhpaaNm1
import Derived.Test.YtolningpngjhpaaPColWritesx1
import Derived.Test.YtolningpngjhpaaNmS
import Derived.Handy
import Derived.Lib.IndexBytes
import Derived.Outline
namespace Go.Proofs.Ytolningpngjhpaa.Nm
open Go.RowKit Go.Proofs.YtolningpngjhpaaW.PrintWords Go.Proofs.YtolningpngjhpaaW.PrintLast Go.Proofs.YtolningpngjhpaaW.PrintMore
open Go.Proofs.Ytolningpngjhpaa.PColWrites
set_option linter.unusedVariables false
set_option linter.unusedSimpArgs false

def ints (l : List UInt8) : List Int := l.map fun b => (b.toNat : Int)
theorem ints_append (a b : List UInt8) : ints (a ++ b) = ints a ++ ints b := by simp [ints]
theorem strOf_ints (l : List UInt8) : strOfNums (ints l) = str l := by
  apply ByteArray.ext
  apply Array.ext'
  simp only [strOfNums, ints, str, List.map_map]
  have e : ((fun n : Int => UInt8.ofNat n.toNat) ∘ fun b : UInt8 => (b.toNat : Int)) = id := by
    funext b
    show b.toNat.toUInt8 = b
    simp
  rw [e, List.map_id]
theorem or128 : ∀ y : Fin 256, Go.bits .or .u8 ((y.val : Nat) : Int) 128 = ((y.val % 128 + 128 : Nat) : Int) := by
  intro y
  have h := u8_or_nat y.val 128 y.isLt (by decide)
  rw [show ((128 : Nat) : Int) = (128 : Int) from rfl] at h
  rw [h]
  have : ∀ y : Fin 256, y.val ||| 128 = y.val % 128 + 128 := by decide +kernel
  rw [this y]

theorem andNot128 (c : Nat) (h : c < 256) : Go.bits .andNot .u64 (c : Int) 128 = (c : Int) % 128 := by
  have : ∀ c : Fin 256, Go.bits .andNot .u64 ((c.val : Nat) : Int) 128 = ((c.val : Nat) : Int) % 128 := by decide +kernel
  exact this ⟨c, h⟩
theorem one_int (n : Nat) (h : n < 128) : ints [n.toUInt8] = [(n : Int) % 256] := by
  simp only [ints, List.map_cons, List.map_nil]
  rw [u8_lo n (by omega)]
  congr 1
  omega
theorem short_l (d : Nat) : ∀ (n : Nat) (acc : List UInt8), n < 128 ^ (d + 1) → acc.length + d < 140737488355328 → num_Short.l0 (d + 1) (n : Int) (ints acc) = some (str (acc ++ short n)) := by
  induction d with
  | zero =>
    intro n acc h hl
    have hn : n < 128 := by omega
    simp only [num_Short.l0]
    rw [if_neg (by omega), if_pos (by simp [ints]; omega), short_lt n hn, ← strOf_ints, ints_append, one_int n hn]
  | succ d ih =>
    intro n acc h hl
    by_cases hn : n < 128
    · simp only [num_Short.l0]
      rw [if_neg (by omega), if_pos (by simp [ints]; omega), short_lt n hn, ← strOf_ints, ints_append, one_int n hn]
    · obtain ⟨m, hm⟩ : ∃ m, m = d + 1 := ⟨_, rfl⟩
      rw [← hm]
      simp only [num_Short.l0]
      rw [if_pos (by omega), if_pos (by simp [ints]; omega), hm]
      have e1 : Go.bits .or .u8 ((n : Int) % 256) 128 = (((n % 128 + 128).toUInt8.toNat : Nat) : Int) := by
        have h := or128 ⟨n % 256, by omega⟩
        simp only at h
        rw [u8_lo _ (by omega), show ((n : Int) % 256) = ((n % 256 : Nat) : Int) by omega, h]
        congr 2
        omega
      have e2 : ints acc ++ [Go.bits .or .u8 ((n : Int) % 256) 128] = ints (acc ++ [(n % 128 + 128).toUInt8]) := by
        rw [ints_append, e1]; rfl
      have e3 : ((n : Int) / 128) = ((n / 128 : Nat) : Int) := by omega
      rw [e2, e3, ih (n / 128) (acc ++ [(n % 128 + 128).toUInt8]) (by rw [Nat.div_lt_iff_lt_mul (by decide)]; rw [Nat.pow_succ] at h; exact h) (by simp; omega), short_ge n hn]
      simp
theorem short_any (n : Nat) (w : World) (h : n < 2 ^ 64) : Calls Try.prog 49 #[.int .u64 (n : Int)] w fun e w' => e = .returned (.string (str (short n))) ∧ Below w.heap.size w w' := by
  have h1 := short_l 9 n [] (by omega) (by simp)
  exact num_Short.calls 10 n _ w h1

theorem rshort_l (d : Nat) : ∀ (n : Nat) (acc : List UInt8), n < 2 ^ 64 → n < 128 ^ (d + 1) → acc.length + d < 140737488355328 → screeref01_Short.l0 (d + 1) (n : Int) (ints acc) = some (str (acc ++ short n)) := by
  induction d with
  | zero =>
    intro n acc h64 h hl
    have hn : n < 128 := by omega
    simp only [screeref01_Short.l0]
    rw [if_neg (by omega), if_pos (by simp [ints]; omega), short_lt n hn, ← strOf_ints, ints_append, one_int n hn]
  | succ d ih =>
    intro n acc h64 h hl
    by_cases hn : n < 128
    · simp only [screeref01_Short.l0]
      rw [if_neg (by omega), if_pos (by simp [ints]; omega), short_lt n hn, ← strOf_ints, ints_append, one_int n hn]
    · obtain ⟨m, hm⟩ : ∃ m, m = d + 1 := ⟨_, rfl⟩
      rw [← hm]
      simp only [screeref01_Short.l0]
      rw [if_pos (by omega), if_pos (by simp [ints]; omega), hm]
      have e1 : (IntKind.u64.wrap (Int.tmod (n : Int) 128 + 128)) % 256 = (((n % 128 + 128).toUInt8.toNat : Nat) : Int) := by
        rw [u8_lo _ (by omega), IntKind.wrap_u64, Int.tmod_eq_emod_of_nonneg (by omega)]
        omega
      have e2 : ints acc ++ [(IntKind.u64.wrap (Int.tmod (n : Int) 128 + 128)) % 256] = ints (acc ++ [(n % 128 + 128).toUInt8]) := by
        rw [ints_append, e1]; rfl
      have e3 : IntKind.u64.wrap (Int.tdiv (n : Int) 128) = ((n / 128 : Nat) : Int) := by
        rw [IntKind.wrap_u64, Int.tdiv_eq_ediv_of_nonneg (by omega)]
        omega
      rw [e2, e3, ih (n / 128) (acc ++ [(n % 128 + 128).toUInt8]) (by omega) (by rw [Nat.div_lt_iff_lt_mul (by decide)]; rw [Nat.pow_succ] at h; exact h) (by simp; omega), short_ge n hn]
      simp
theorem rshort_any (n : Nat) (w : World) (h : n < 2 ^ 64) : Calls Try.prog 52 #[.int .u64 (n : Int)] w fun e w' => e = .returned (.string (str (short n))) ∧ Below w.heap.size w w' := by
  have h1 := rshort_l 9 n [] h (by omega) (by simp)
  exact screeref01_Short.calls 10 n _ w h1

/-- What num.Take answers. -/
def tkN (s : ByteArray) : Int := match take s.data.toList with
  | some (n, _) => (n : Int)
  | none => 0
def tkR (s : ByteArray) : ByteArray := match take s.data.toList with
  | some (_, r) => str r
  | none => ⟨#[]⟩
def tkB (s : ByteArray) : Bool := (take s.data.toList).isSome

theorem next_bd (c n i : Nat) (hn : n < 2 ^ (7 * i)) : n + c % 128 * 2 ^ (7 * i) < 2 ^ (7 * (i + 1)) := by
  have h1 := Nat.mul_le_mul_right (2 ^ (7 * i)) (show c % 128 + 1 ≤ 128 by omega)
  rw [Nat.add_mul] at h1
  have hp : 2 ^ (7 * (i + 1)) = 128 * 2 ^ (7 * i) := by rw [show 7 * (i + 1) = 7 * i + 7 by omega, Nat.pow_add]; omega
  omega
theorem tk_none {s : ByteArray} (h : take s.data.toList = none) : Ending.returned (.tuple #[.int .u64 (tkN s), .string (tkR s), .bool (tkB s)]) = .returned (.tuple #[.int .u64 0, .string ⟨#[]⟩, .bool false]) := by
  unfold tkN tkR tkB
  rw [h]
  rfl
theorem tk_some {s : ByteArray} {n : Nat} {r : List UInt8} (h : take s.data.toList = some (n, r)) : Ending.returned (.tuple #[.int .u64 (tkN s), .string (tkR s), .bool (tkB s)]) = .returned (.tuple #[.int .u64 (n : Int), .string (str r), .bool true]) := by
  unfold tkN tkR tkB
  rw [h]
  rfl
theorem wrap_nat (x : Nat) : IntKind.u64.wrap (x : Int) = ((x % 2 ^ 64 : Nat) : Int) := by rw [IntKind.wrap_u64]; omega
theorem cast_low (c i : Nat) : (c : Int) % 128 * 2 ^ (7 * i) = ((c % 128 * 2 ^ (7 * i) : Nat) : Int) := by simp
theorem fits_ne (c i : Nat) (h : c % 128 * 2 ^ (7 * i) < 2 ^ 64) : (IntKind.u64.wrap ((c : Int) % 128 * 2 ^ (7 * i)) / 2 ^ (7 * i) != (c : Int) % 128) = false := by
  rw [cast_low, wrap_nat, Nat.mod_eq_of_lt h]
  have : ((c % 128 * 2 ^ (7 * i) : Nat) : Int) / 2 ^ (7 * i) = ((c % 128 * 2 ^ (7 * i) / 2 ^ (7 * i) : Nat) : Int) := by simp
  rw [this, Nat.mul_div_cancel _ (Nat.pow_pos (by decide))]
  simp
theorem over_ne (c i : Nat) (hi : i < 10) (h : ¬ c % 128 * 2 ^ (7 * i) < 2 ^ 64) : (IntKind.u64.wrap ((c : Int) % 128 * 2 ^ (7 * i)) / 2 ^ (7 * i) != (c : Int) % 128) = true := by
  rw [cast_low, wrap_nat]
  have e : ((c % 128 * 2 ^ (7 * i) % 2 ^ 64 : Nat) : Int) / 2 ^ (7 * i) = ((c % 128 * 2 ^ (7 * i) % 2 ^ 64 / 2 ^ (7 * i) : Nat) : Int) := by simp
  rw [e]
  have hlt : c % 128 * 2 ^ (7 * i) % 2 ^ 64 / 2 ^ (7 * i) < c % 128 := by
    rw [Nat.div_lt_iff_lt_mul (Nat.pow_pos (by decide))]
    have := Nat.mod_lt (c % 128 * 2 ^ (7 * i)) (show 0 < 2 ^ 64 by decide)
    omega
  rw [bne_iff_ne]
  omega
theorem or_add (n c i : Nat) (hn : n < 2 ^ (7 * i)) (hi : i < 10) (h : c % 128 * 2 ^ (7 * i) < 2 ^ 64) : Go.bits .or .u64 (n : Int) (IntKind.u64.wrap ((c : Int) % 128 * 2 ^ (7 * i))) = ((n + c % 128 * 2 ^ (7 * i) : Nat) : Int) := by
  have hn64 : n < 2 ^ 64 := Nat.lt_of_lt_of_le hn (Nat.pow_le_pow_right (by decide) (by omega))
  rw [cast_low, wrap_nat, Nat.mod_eq_of_lt h, u64_or_nat n _ (by omega) (by omega)]
  congr 1
  rw [Nat.or_comm, Nat.mul_comm, ← Nat.two_pow_add_eq_or_of_lt hn]
  omega

set_option maxHeartbeats 4000000 in
set_option maxRecDepth 100000 in
theorem take_any (s : ByteArray) (w : World) (hs : s.size ≤ 9223372036854775807) :
    Calls Try.prog 68 #[.string s] w fun e w' => e = .returned (.tuple #[.int .u64 (tkN s), .string (tkR s), .bool (tkB s)]) ∧ Drawn0 w w' := by
  go_enter Try.func68, Try.ntmps68
  go_wp2
  go_loopw [5, 12] (fun v5 v12 wr => ∃ i n : Nat, i ≤ s.size ∧ v12 = .int .i64 (i : Int) ∧ v5 = .int .u64 (n : Int) ∧ Aside0 (n < 2 ^ (7 * i) ∧ takeFrom (s.data.toList.drop i) i n = take s.data.toList ∧ i < 11) ∧ Drawn0 w wr) (fun _ v12 _ => s.size - (intOf v12).toNat)
  case atStart => exact ⟨0, 0, by omega, rfl, rfl, ⟨by decide, rfl, by omega⟩, Drawn0.refl _⟩
  case round =>
    obtain ⟨i, n, hi, rfl, rfl, HT, HD⟩ := hrel
    by_cases hlt : i < s.size
    · have hi11 := HT.out.2.2
      have hbyte : s.data.toList.drop i = s[i] :: s.data.toList.drop (i + 1) := by
        rw [List.drop_eq_getElem_cons (by rw [data_length]; exact hlt)]
        rfl
      have hcb := s[i].toNat_lt
      have hlow := andNot128 s[i].toNat hcb
      have HE : takeFrom (s[i] :: s.data.toList.drop (i + 1)) i n = take s.data.toList := by rw [← hbyte]; exact HT.out.2.1
      have hn := HT.out.1
      have hrest : (s.extract (i + 1) s.size).data.toList = s.data.toList.drop (i + 1) := Lib.extract_to_end s (i + 1)
      generalize s.data.toList.drop (i + 1) = rest at HE hrest hbyte
      have HB := Aside0.mk hbyte
      have HR := Aside0.mk hrest
      have HEA := Aside0.mk HE
      have HN := Aside0.mk hn
      clear hbyte hrest HE hn HT
      by_cases hA : i < 10
      · by_cases hB : (s[i].toNat % 128) * 2 ^ (7 * i) < 2 ^ 64
        · have HBB := Aside0.mk hB
          have hne : (IntKind.u64.wrap ((s[i].toNat : Int) % 128 * 2 ^ (7 * i)) / 2 ^ (7 * i) != (s[i].toNat : Int) % 128) = false := fits_ne _ i hB
          have hor : Go.bits .or .u64 (n : Int) (IntKind.u64.wrap ((s[i].toNat : Int) % 128 * 2 ^ (7 * i))) = ((n + s[i].toNat % 128 * 2 ^ (7 * i) : Nat) : Int) := or_add n s[i].toNat i HN.out hA hB
          clear hB
          by_cases hC : s[i].toNat < 128
          · by_cases hD : s[i].toNat = 0 ∧ 0 < i
            · have hfin : take s.data.toList = none := by
                rw [← HEA.out]
                simp only [takeFrom]
                rw [if_neg (by have := HBB.out; omega), if_pos hC, if_pos hD]
              obtain ⟨hD1, hD2⟩ := hD
              have hz : ((s[i].toNat : Int) == 0) = true := by rw [hD1]; rfl
              clear hD1
              have HF := Aside0.mk hfin
              clear hfin
              go_wp2
              go_ret3
              exact ⟨by rw [tk_none HF.out]; rfl, HD⟩
            · have hfin : take s.data.toList = some (n + s[i].toNat % 128 * 2 ^ (7 * i), rest) := by
                rw [← HEA.out]
                simp only [takeFrom]
                rw [if_neg (by have := HBB.out; omega), if_pos hC, if_neg hD]
              have HF := Aside0.mk hfin
              clear hfin
              by_cases hD1 : s[i].toNat = 0
              · have hD2 : ¬ 0 < i := fun h => hD ⟨hD1, h⟩
                have hz : ((s[i].toNat : Int) == 0) = true := by rw [hD1]; rfl
                clear hD hD1
                go_wp2
                go_quiet (fail)
                go_wp2
                go_ret3
                exact ⟨by rw [tk_some HF.out, ← HR.out, str_of]; rfl, HD.step _⟩
              · have hz : ((s[i].toNat : Int) == 0) = false := by rw [beq_eq_false_iff_ne]; omega
                clear hD hD1
                go_wp2
                go_quiet (fail)
                go_wp2
                go_ret3
                exact ⟨by rw [tk_some HF.out, ← HR.out, str_of]; rfl, HD.step _⟩
          · have hfin : takeFrom rest (i + 1) (n + s[i].toNat % 128 * 2 ^ (7 * i)) = take s.data.toList := by
              rw [← HEA.out]
              simp only [takeFrom]
              rw [if_neg (by have := HBB.out; omega), if_neg hC]
            have HF := Aside0.mk hfin
            clear hfin
            go_wp2
            go_roundw
            case rel =>
              refine ⟨i + 1, _, by omega, by go_num, rfl, ⟨?_, ?_, by omega⟩, HD⟩
              · exact next_bd _ n i HN.out
              · have h := HB.out
                have h2 : s.data.toList.drop (i + 1) = rest := by
                  rw [← List.drop_drop, h]
                  rfl
                rw [h2]
                exact HF.out
            case measure => simp [intOf]; omega
        · have hne : (IntKind.u64.wrap ((s[i].toNat : Int) % 128 * 2 ^ (7 * i)) / 2 ^ (7 * i) != (s[i].toNat : Int) % 128) = true := over_ne _ i hA hB
          have hfin : take s.data.toList = none := by
            rw [← HEA.out]
            simp only [takeFrom]
            rw [if_pos (by omega)]
          have HF := Aside0.mk hfin
          clear hfin hB
          go_wp2
          go_ret3
          exact ⟨by rw [tk_none HF.out]; rfl, HD⟩
      · have hfin : take s.data.toList = none := by
          rw [← HEA.out]
          simp only [takeFrom]
          rw [if_pos (by omega)]
        have HF := Aside0.mk hfin
        clear hfin
        go_wp2
        go_ret3
        exact ⟨by rw [tk_none HF.out]; rfl, HD⟩
    · have hfin : take s.data.toList = none := by
        rw [← HT.out.2.1, List.drop_of_length_le (by rw [data_length]; omega)]
        rfl
      have HF := Aside0.mk hfin
      clear hfin HT
      go_wp2
      go_ret3
      exact ⟨by rw [tk_none HF.out]; rfl, HD⟩
end Go.Proofs.Ytolningpngjhpaa.Nm
