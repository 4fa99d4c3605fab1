/- batch.Encode. -/
import Derived.Test.YtolningpngjhpaaBa2
namespace Go.Proofs.Ytolningpngjhpaa.Bat
open Go.RowKit Go.Proofs.YtolningpngjhpaaW.PrintWords Go.Proofs.YtolningpngjhpaaW.PrintLast Go.Proofs.YtolningpngjhpaaW.PrintMore
open Go.Proofs.Ytolningpngjhpaa.Nm
open Go.Proofs.Ytolningpngjhpaa.PBatchWrites (S66 k66 z66 rd_T66 at_T66 k66_mk k66_mkM k66_open S64 k64)
set_option linter.unusedVariables false
set_option linter.unusedSimpArgs false

/-- An operation's bytes. -/
def opB (x : S66) : List UInt8 := if x.f0 then 1 :: txt x.f1.data.toList else 0 :: (txt x.f1.data.toList ++ txt x.f2.data.toList)
/-- May numbers be, from one on, so many? -/
def numB (seq n : Nat) : Bool := decide (0 < seq) && decide (seq ≤ 1099511627776) && decide (seq + n ≤ 1099511627777)
/-- A batch's bytes. -/
def encB (seq : Nat) (l : List S66) : List UInt8 := short seq ++ short l.length ++ l.flatMap opB
def encM (seq : Nat) (l : List S66) : ByteArray × Int := if mayB l = true then (if numB seq l.length = true then (str (encB seq l), 0) else (⟨#[]⟩, 3)) else (⟨#[]⟩, 2)
theorem numbered_any (seq n : Nat) (w : World) (hs : seq < 2 ^ 64) (hn : 0 < n) (hn2 : n ≤ 1000) :
    Calls Try.prog 58 #[.int .u64 (seq : Int), .int .i64 (n : Int)] w fun e w' => e = .returned (.bool (numB seq n)) ∧ Below w.heap.size w w' := by
  have h : PBatchWrites.batch_numbered.f (seq : Int) (n : Int) = some (numB seq n) := by
    unfold PBatchWrites.batch_numbered.f numB
    by_cases h1 : 0 < seq
    · rw [if_pos (by omega)]
      by_cases h2 : seq ≤ 1099511627776
      · rw [if_pos (by omega)]
        have e : IntKind.u64.wrap ((IntKind.u64.wrap ((seq : Int) + (IntKind.u64.wrap ((n : Int))))) - 1) = (seq : Int) + n - 1 := by
          simp only [IntKind.wrap_u64]
          omega
        rw [e]
        simp only [h1, h2, decide_true, Bool.true_and, Option.some.injEq]
        rw [Bool.eq_iff_iff]
        simp
        omega
      · rw [if_neg (by omega)]
        simp [h2]
    · rw [if_neg (by omega)]
      simp [h1]
  refine (PBatchWrites.batch_numbered.calls (seq : Int) (n : Int) _ w h).mono ?_
  rintro e w' ⟨he, hd⟩
  exact ⟨he, hd.below⟩
theorem str_conv_any (B b : Nat) (l : List UInt8) (w : World) (h : Bld B b l w) (hBw : B ≤ w.heap.size) :
    Calls Try.prog 62 #[.pointer (some ⟨b, 0, none⟩)] w fun e w' => e = .returned (.string (str l)) ∧ Below B w w' := Try.Builder_String_any B b l w h hBw
theorem oneB_sz {x : S66} (h : oneB x = true) : 0 < x.f1.size ∧ x.f1.size ≤ 100 ∧ x.f2.size ≤ 100 := by
  have := of_decide_eq_true h
  exact ⟨this.1, this.2.1, this.2.2.1⟩
theorem opB_len {x : S66} (h : oneB x = true) : (opB x).length ≤ 300 := by
  obtain ⟨_, h1, h2⟩ := oneB_sz h
  have e1 : x.f1.data.toList.length = x.f1.size := by simp
  have e2 : x.f2.data.toList.length = x.f2.size := by simp
  have a := txt_len x.f1.data.toList (by omega)
  have b := txt_len x.f2.data.toList (by omega)
  unfold opB
  split
  · simp only [List.length_cons]; omega
  · simp only [List.length_cons, List.length_append]; omega

/-- The operation's own copy stays while the builder is written. -/
theorem BFr.op {b g : Nat} {w w' : World} {cs : Array Value} (h : BFr b w w') (hb : w.heap[g]? = some (.cells cs 66 (0, 0))) (hg : g ≠ b) : w'.heap[g]? = some (.cells cs 66 (0, 0)) :=
  h.2 g _ hb hg (fun cs' e => by injection e with _ e2; exact absurd e2 (by decide))
theorem flat_drop {xs : List S66} {i : Nat} (h : i < xs.length) : (xs.drop i).flatMap opB = opB (rd_T66 xs (i : Int)) ++ (xs.drop (i + 1)).flatMap opB := by
  rw [drop_rd h, List.flatMap_cons]

set_option maxHeartbeats 4000000 in
set_option maxRecDepth 100000 in
theorem encode_any (seq : Nat) (A : Option Addr) (c : Nat) (xs : List S66) (w : World) (hs : seq < 2 ^ 64) (hr : Kd.C k66 w A xs.length xs) (hc : xs.length ≤ c) (hl : xs.length ≤ 9223372036854775807) (hw : ∀ x ∈ xs, WfO x) :
    Calls Try.prog 35 #[.int .u64 (seq : Int), .slice A xs.length c] w fun e w' => e = .returned (.tuple #[.string (encM seq xs).1, .int .i64 (encM seq xs).2]) ∧ Below w.heap.size w w' := by
  have HM := Aside0.mk (may_any A c xs w hr hc hl hw)
  have HL := Aside0.mk hl
  by_cases hm : mayB xs = true
  · rw [hm] at HM
    have hlen : 0 < xs.length ∧ xs.length ≤ 16 ∧ xs.all oneB = true := by unfold mayB at hm; simp at hm; simp; exact ⟨hm.1.1, hm.1.2, hm.2⟩
    have HN := Aside0.mk (fun W => numbered_any seq xs.length W hs hlen.1 (by omega))
    by_cases hn : numB seq xs.length = true
    · rw [hn] at HN
      have he : encM seq xs = (str (encB seq xs), 0) := by unfold encM; rw [if_pos hm, if_pos hn]
      rw [he]
      have HO : Aside0 (∀ x ∈ xs, oneB x = true) := ⟨by simpa using hlen.2.2⟩
      have hx16 := hlen.2.1
      have HR := Aside0.mk hr
      have HS := Aside0.mk hs
      clear hr hm hn he hlen hw hs
      obtain ⟨V, hV⟩ : ∃ V, V = encB seq xs := ⟨_, rfl⟩
      rw [← hV]
      have HV := Aside0.mk hV
      clear hV hl
      go_enter Try.func35, Try.ntmps35
      go_wp2_with fail
      refine HM.out.mono ?_
      rintro e w1 ⟨rfl, hb⟩
      have R1 := Aside0.mk (Kd.C_below HR.out hb)
      have B1 := Aside0.mk hb
      clear hb HR HM
      go_wp2_with fail
      refine (HN.out _).mono ?_
      rintro e w2 ⟨rfl, hb⟩
      have R2 := Aside0.mk (Kd.C_below R1.out hb)
      have B2 := Aside0.mk (below_then B1.out B1.out.size hb)
      clear hb R1 B1 HN
      go_wp2_with fail
      refine (short_any seq _ HS.out).mono ?_
      rintro e w3 ⟨rfl, hb⟩
      have E3 : Aside0 (Bld w2.heap.size w2.heap.size [] w3) := ⟨(Bld.fresh w2).below hb⟩
      have B3 : Aside0 (Below w2.heap.size w2 w3) := ⟨below_then (below_alloc (Below.refl _ _) _) (by simp) hb⟩
      clear hb
      have hsl : (short seq).length ≤ 10 := short_len 9 seq (by have := HS.out; omega)
      have HSL := Aside0.mk hsl
      have hnl : (short xs.length).length ≤ 10 := short_len 9 xs.length (by omega)
      have HNL := Aside0.mk hnl
      clear hsl hnl
      go_wp2_with fail
      refine (ws_any _ _ [] (short seq) _ _ (str_list _) E3.out (by have := HSL.out; simp; omega) B3.out.size).mono ?_
      rintro e w4 ⟨rfl, hA, hb, hf⟩
      rw [List.nil_append] at hA
      have E4 := Aside0.mk hA
      have B4 := Aside0.mk (B3.out.trans hb)
      clear hA hb hf E3 B3
      go_wp2_with fail
      refine (short_any xs.length _ (by omega)).mono ?_
      rintro e w5 ⟨rfl, hb⟩
      have E5 := Aside0.mk (E4.out.below hb)
      have B5 := Aside0.mk (below_then B4.out B4.out.size hb)
      clear hb E4 B4
      go_wp2_with fail
      refine (ws_any _ _ (short seq) (short xs.length) _ _ (str_list _) E5.out (by have := HSL.out; have := HNL.out; omega) B5.out.size).mono ?_
      rintro e w6 ⟨rfl, hA, hb, hf⟩
      have E6 := Aside0.mk hA
      have B6 := Aside0.mk (B5.out.trans hb)
      clear hA hb hf E5 B5
      go_wp2_with fail
      go_loopg [8, 29] (xs.length + 1) (fun kq v8 v29 w' => ∃ (i : Nat) (l : List UInt8), v29 = .int .i64 (i : Int) ∧ Aside0 (kq + i = xs.length + 1) ∧ i ≤ xs.length ∧ Aside0 (l ++ (xs.drop i).flatMap opB = V) ∧ Aside0 (l.length ≤ 20 + 300 * i) ∧ Aside0 (Bld w2.heap.size w2.heap.size l w') ∧ Aside0 (Below w2.heap.size w2 w'))
      case atStart => exact ⟨0, short seq ++ short xs.length, rfl, ⟨rfl⟩, Nat.zero_le _, ⟨by rw [HV.out]; rfl⟩, ⟨by rw [List.length_append]; have := HSL.out; have := HNL.out; omega⟩, E6, B6⟩
      case round =>
        clear E6 B6
        obtain ⟨i, l, rfl, HK, hi, HE, HLl, HBd, HB⟩ := hrel
        by_cases hlt : i < xs.length
        · obtain ⟨k1, rfl⟩ : ∃ m, gk = m + 1 := ⟨gk - 1, by have := HK.out; omega⟩
          obtain ⟨ad, rfl, c0, c1, c2⟩ := at_T66 (Kd.C_below R2.out HB.out) (i : Int) (by omega) (by omega)
          simp only [Int.toNat_natCast] at c0 c1 c2
          have hE := HE.out
          rw [flat_drop hlt, ← List.append_assoc] at hE
          have hx := HO.out _ (rd_mem hlt)
          have hln := opB_len hx
          have HOl : Aside0 ((rd_T66 xs (i : Int)).f1.size ≤ 100 ∧ (rd_T66 xs (i : Int)).f2.size ≤ 100) := ⟨(oneB_sz hx).2⟩
          have hg : wr.heap.size ≠ w2.heap.size := by have := HBd.out.lt; omega
          obtain ⟨d, k, v, hxe⟩ : ∃ d k v, rd_T66 xs (i : Int) = ⟨d, k, v⟩ := ⟨_, _, _, rfl⟩
          rw [hxe] at c0 c1 c2 hE hln HOl
          simp only at c0 c1 c2
          have HE2 := Aside0.mk hE
          have HLn := Aside0.mk hln
          have HG := Aside0.mk hg
          have X0 : Aside0 ((wr.alloc (.cells #[.bool d, .string k, .string v] 66)).heap[wr.heap.size]? = some (.cells #[.bool d, .string k, .string v] 66 (0, 0))) := ⟨blk_new _ _⟩
          have E7 : Aside0 (Bld w2.heap.size w2.heap.size l (wr.alloc (.cells #[.bool d, .string k, .string v] 66))) := ⟨HBd.out.below (below_alloc (Below.refl _ _) _)⟩
          have B7 : Aside0 (Below w2.heap.size w2 (wr.alloc (.cells #[.bool d, .string k, .string v] 66))) := ⟨below_alloc HB.out _⟩
          clear hE hx hln hg hxe HE HBd HB
          cases d with
          | true =>
            go_wp2_with fail
            refine (wb_any _ _ l 1 _ _ rfl E7.out (by have := HLl.out; omega) B7.out.size).mono ?_
            rintro e w7 ⟨rfl, hA, hb, hf⟩
            have X1 := Aside0.mk (hf.op X0.out HG.out)
            have E8 := Aside0.mk hA
            have B8 := Aside0.mk (B7.out.trans hb)
            clear hA hb hf X0 E7 B7 c0 c1 c2
            have c1 : w7.cell? ⟨wr.heap.size, 1, none⟩ = some (.string k) := blk_cell X1.out 1
            go_wp2_with fail
            refine (text_any _ _ (l ++ [1]) k _ E8.out (by rw [List.length_append]; have := HLl.out; have : k.size ≤ 100 := HOl.out.1; simp; omega) B8.out.size).mono ?_
            rintro e w8 ⟨rfl, hA, hb, hf⟩
            have E9 := Aside0.mk hA
            have B9 := Aside0.mk (B8.out.trans hb)
            clear hA hb hf E8 B8 c1 X1
            go_wp2_with fail
            go_roundg k1
            case measure => omega
            case rel => exact ⟨i + 1, l ++ opB ⟨true, k, v⟩, by go_num, ⟨by have := HK.out; omega⟩, by omega, HE2, ⟨by rw [List.length_append]; have := HLl.out; have := HLn.out; omega⟩, ⟨by have := E9.out; unfold opB; simpa using this⟩, B9⟩
          | false =>
            go_wp2_with fail
            refine (wb_any _ _ l 0 _ _ rfl E7.out (by have := HLl.out; omega) B7.out.size).mono ?_
            rintro e w7 ⟨rfl, hA, hb, hf⟩
            have X1 := Aside0.mk (hf.op X0.out HG.out)
            have E8 := Aside0.mk hA
            have B8 := Aside0.mk (B7.out.trans hb)
            clear hA hb hf X0 E7 B7 c0 c1 c2
            have c1 : w7.cell? ⟨wr.heap.size, 1, none⟩ = some (.string k) := blk_cell X1.out 1
            go_wp2_with fail
            refine (text_any _ _ (l ++ [0]) k _ E8.out (by rw [List.length_append]; have := HLl.out; have : k.size ≤ 100 := HOl.out.1; simp; omega) B8.out.size).mono ?_
            rintro e w8 ⟨rfl, hA, hb, hf⟩
            have X2 := Aside0.mk (hf.op X1.out HG.out)
            have E9 := Aside0.mk hA
            have B9 := Aside0.mk (B8.out.trans hb)
            clear hA hb hf E8 B8 c1 X1
            have c2 : w8.cell? ⟨wr.heap.size, 2, none⟩ = some (.string v) := blk_cell X2.out 2
            go_wp2_with fail
            have htx : Aside0 ((txt k.data.toList).length ≤ 110) := ⟨by
              have h1 : k.data.toList.length = k.size := by simp
              have h2 : k.size ≤ 100 := HOl.out.1
              have := txt_len k.data.toList (by omega)
              omega⟩
            refine (text_any _ _ (l ++ [0] ++ txt k.data.toList) v _ E9.out (by rw [List.length_append, List.length_append]; have := htx.out; have := HLl.out; have : v.size ≤ 100 := HOl.out.2; simp; omega) B9.out.size).mono ?_
            rintro e w9 ⟨rfl, hA, hb, hf⟩
            have E10 := Aside0.mk hA
            have B10 := Aside0.mk (B9.out.trans hb)
            clear hA hb hf E9 B9 c2 X2
            go_wp2_with fail
            go_roundg k1
            case measure => omega
            case rel => exact ⟨i + 1, l ++ opB ⟨false, k, v⟩, by go_num, ⟨by have := HK.out; omega⟩, by omega, HE2, ⟨by rw [List.length_append]; have := HLl.out; have := HLn.out; omega⟩, ⟨by have := E10.out; unfold opB; simpa using this⟩, B10⟩
        · have hE := HE.out
          rw [List.drop_eq_nil_of_le (by omega), List.flatMap_nil, List.append_nil] at hE
          subst hE
          go_wp2_with fail
          refine (str_conv_any _ _ l _ HBd.out HB.out.size).mono ?_
          rintro e w7 ⟨rfl, hb⟩
          have B7 := Aside0.mk (HB.out.trans hb)
          clear hb
          go_wp2_with fail
          go_ret2
          exact ⟨rfl, below_then B2.out B2.out.size B7.out⟩
    · have he : encM seq xs = (⟨#[]⟩, 3) := by unfold encM; rw [if_pos hm, if_neg hn]
      rw [he]
      have hnb : numB seq xs.length = false := by simpa using hn
      rw [hnb] at HN
      clear hr hm hn he hlen hw hs hl hnb
      go_enter Try.func35, Try.ntmps35
      go_wp2_with fail
      refine HM.out.mono ?_
      rintro e w1 ⟨rfl, hb⟩
      have B1 := Aside0.mk hb
      clear hb HM
      go_wp2_with fail
      refine (HN.out _).mono ?_
      rintro e w2 ⟨rfl, hb⟩
      have B2 := Aside0.mk (below_then B1.out B1.out.size hb)
      clear hb B1 HN
      go_wp2_with fail
      go_ret2
      exact ⟨rfl, B2.out⟩
  · have he : encM seq xs = (⟨#[]⟩, 2) := by unfold encM; rw [if_neg hm]
    rw [he]
    have hmb : mayB xs = false := by simpa using hm
    rw [hmb] at HM
    clear hr hm he hw hs hl hmb
    go_enter Try.func35, Try.ntmps35
    go_wp2_with fail
    refine HM.out.mono ?_
    rintro e w1 ⟨rfl, hb⟩
    have B1 := Aside0.mk hb
    clear hb HM
    go_wp2_with fail
    go_ret2
    exact ⟨rfl, B1.out⟩
end Go.Proofs.Ytolningpngjhpaa.Bat
