/- strings.Builder's writers, batch.text. -/
import Derived.Test.YtolningpngjhpaaSh
import Derived.Test.YtolningpngjhpaaNm2
import Derived.Lib.Builder
import Derived.Handy
import Derived.Outline
namespace Go.Proofs.Ytolningpngjhpaa.Bat
open Go.RowKit Go.Proofs.YtolningpngjhpaaW.PrintWords Go.Proofs.YtolningpngjhpaaW.PrintLast Go.Proofs.YtolningpngjhpaaW.PrintMore
open Go.Proofs.Ytolningpngjhpaa.Nm
set_option linter.unusedVariables false
set_option linter.unusedSimpArgs false

/-- Only block b, and rows of bytes, have turned. -/
def BFr (b : Nat) (w w' : World) : Prop := w.heap.size ≤ w'.heap.size ∧ ∀ k o, w.heap[k]? = some o → k ≠ b → (∀ cs, o ≠ .cells cs 5 (0, 0)) → w'.heap[k]? = some o
theorem BFr.refl (b : Nat) (w : World) : BFr b w w := ⟨Nat.le_refl _, fun _ _ h _ _ => h⟩
theorem BFr.trans {b : Nat} {w w1 w2 : World} (h : BFr b w w1) (k : BFr b w1 w2) : BFr b w w2 := ⟨Nat.le_trans h.1 k.1, fun j o ho hb hc => k.2 j o (h.2 j o ho hb hc) hb hc⟩
theorem BFr.below {b : Nat} {w w1 : World} (h : Below w.heap.size w w1) : BFr b w w1 := ⟨h.size, fun k o ho _ _ => blk_below ho h⟩
theorem BFr.set_ {b : Nat} (w : World) (j : Nat) (u : Value) : BFr b w (w.setCell ⟨b, j, none⟩ u) := ⟨by simp, fun k o ho hb _ => (Below.heap_setCell w ⟨b, j, none⟩ u k hb).trans ho⟩
theorem BFr.grown {b : Nat} {w w1 : World} {v : Value} {B n : Nat} {xs : List Value} (ho : w.ownsRow B 5 1 v n xs) (h : w.grownBy w1 v.ownBlock) : BFr b w w1 :=
  ⟨h.size, fun k o hk _ hc => blk_grown hk h (fun e => by obtain ⟨cs, hcs⟩ := own_typed ho k e.symm; rw [hk] at hcs; exact hc cs (Option.some.inj hcs))⟩
theorem info95 : ∃ j, Try.prog.info? 95 = some j ∧ j.size ≠ 0 := by
  have h : (Try.prog.info? 95).map (·.size) = some 2 := by kernel_rfl
  cases hj : Try.prog.info? 95 with
  | none => rw [hj] at h; simp at h
  | some j =>
    refine ⟨j, rfl, ?_⟩
    rw [hj] at h
    simp at h
    omega
theorem run74 (v : Value) (w : World) : (callFunc 74 #[v]).run Try.prog w = .ok (.value v) w := by kernel_rfl

set_option maxHeartbeats 4000000 in
set_option maxRecDepth 100000 in
theorem copyCheck_any (B b : Nat) (bs : List Value) (w : World) (h : Lib.IsBuilder 95 5 B b bs w) :
    Calls Try.prog 72 #[.pointer (some ⟨b, 0, none⟩)] w fun e w' => e = .returned (.tuple #[]) ∧ Lib.BuilderAt 95 5 B b (.pointer (some ⟨b, 0, none⟩)) bs w' ∧ Below B w w' ∧ BFr b w w' := by
  obtain ⟨j, hj, hj0⟩ := info95
  rcases h with h | h
  · have hc := h.cell0
    have hf := h.frozen0
    have hlt := h.lt
    have hB := h.1
    have h1 := Lib.run_to_unsafe (P := Try.prog) w ⟨b, 0, none⟩ Try.underlying93 Try.underlying113 hj hj0 h.shape (by simp)
    have h2 := Lib.run_from_unsafe (P := Try.prog) w ⟨b, 0, none⟩ Try.underlying113 Try.underlying93 hj h.shape (by kernel_rfl)
    have h3 := run74 (.pointer (some ⟨b, 0, none⟩)) w
    have h4 := Lib.run_neq_ptr_same (P := Try.prog) (w.setCell ⟨b, 0, none⟩ (.pointer (some ⟨b, 0, none⟩))) ⟨b, 0, none⟩ Try.underlying93 hj
    have hU := Aside0.mk (h.used (.pointer (some ⟨b, 0, none⟩)))
    have H := Aside0.mk h
    clear h hj hj0
    go_enter Try.func72, Try.ntmps72
    go_wp2_with fail
    go_end0
    exact ⟨rfl, hU.out, (Below.refl B w).setCell (p := ⟨b, 0, none⟩) hB _, BFr.set_ _ _ _⟩
  · have hc := h.cell0
    have h4 := Lib.run_neq_ptr_same (P := Try.prog) w ⟨b, 0, none⟩ Try.underlying93 hj
    have H := Aside0.mk h
    clear h hj hj0
    go_enter Try.func72, Try.ntmps72
    go_wp2_with fail
    go_end0
    exact ⟨rfl, H.out, Below.refl B w, BFr.refl _ _⟩

theorem own_slice {w : World} {B : Nat} {e : TypeId} {size n : Nat} {v : Value} {xs : List Value} (h : w.ownsRow B e size v n xs) : ∃ A m c, v = .slice A m c := by
  rcases h.2 with ⟨rfl, _⟩ | ⟨g, cap, cur, rfl, _⟩
  · exact ⟨_, _, _, rfl⟩
  · exact ⟨_, _, _, rfl⟩
theorem info5 : (Try.prog.info? 5).map (fun i => (i.zero, i.size, i.bytes)) = some (some (.int .u8 0), 1, 1) := by kernel_rfl

set_option maxHeartbeats 4000000 in
set_option maxRecDepth 100000 in
theorem writeString_any (B b : Nat) (bs : List Value) (s : ByteArray) (w : World) (h : Lib.IsBuilder 95 5 B b bs w) (hlen : bs.length + s.size ≤ 140737488355328) (hBw : B ≤ w.heap.size) :
    Calls Try.prog 59 #[.pointer (some ⟨b, 0, none⟩), .string s] w fun e w' => e = .returned (.tuple #[.int .i64 s.size, .nilIface]) ∧ Lib.BuilderAt 95 5 B b (.pointer (some ⟨b, 0, none⟩)) (bs ++ Lib.strCells s) w' ∧ Below B w w' ∧ BFr b w w' := by
  obtain ⟨i0, hi, hz0, hz1, hz2⟩ := info_parts info5
  have HL := Aside0.mk hlen
  have hsz : s.size ≤ 9223372036854775807 := by omega
  go_enter Try.func59, Try.ntmps59
  go_wp2_with fail
  refine (copyCheck_any B b bs _ h).mono ?_
  rintro e w1 ⟨rfl, hA, hb1, hF1⟩
  have F1 := Aside0.mk hF1
  clear hF1
  obtain ⟨hB, v, hb, hown, hne⟩ := hA
  have hc : w1.cell? ⟨b, 1, none⟩ = some v := Lib.cell_of_heap hb 1
  have HB1 := Aside0.mk hb1
  have HO := Aside0.mk hown
  have HH := Aside0.mk hb
  have HN := Aside0.mk hne
  have HS := Aside0.mk (Nat.le_trans hBw hb1.size)
  clear h hb1 hown hb hne
  go_wp2_with ((with_reducible refine gate_builtin (b := .append) (xs := #[.tmp 12, .tmp 13]) rfl ?_); refine Lib.wpList_append_own_string _ rfl (.tmp 12) (.tmp 13) 23 9 rfl B 5 i0 Try.underlying23 Try.underlying9 hi hz0 hz1 hz2 v bs.length bs rfl HO.out s rfl (by unfold maxLen; have := HL.out; omega) HL.out HS.out ?_; intro v9 w9 ho hg hat; obtain ⟨A9, n9, c9, rfl⟩ := own_slice ho; have HG := Aside0.mk hg; have HO9 := Aside0.mk ho; have HH9 : Aside0 (w9.heap[b]? = some (.cells #[.pointer (some ⟨b, 0, none⟩), v] 95 (0, 0))) := ⟨blk_grown HH.out hg (fun e => HN.out e.symm)⟩; have hc9 : w9.cell? ⟨b, 1, none⟩ = some v := Lib.cell_of_heap HH9.out 1; have hf9 : w9.frozen? ⟨b, 1, none⟩ = false := Lib.frozen_of_heap HH9.out 1; clear hc ho hg hat)
  go_ret2
  refine ⟨rfl, ?_, ?_, ?_⟩
  · have hl : (bs ++ Lib.strCells s).length = bs.length + s.size := by rw [List.length_append, Lib.strCells_length]
    exact Lib.BuilderAt.put hB HH9.out (by rw [hl]; exact HO9.out) (by decide)
  · exact ((HB1.out.trans (Below.grown (Below.refl _ _) HG.out HS.out (fun k hk => own_base HO.out k hk))).setCell (p := ⟨b, 1, none⟩) hB _)
  · exact F1.out.trans ((BFr.grown HO.out HG.out).trans (BFr.set_ _ _ _))

set_option maxHeartbeats 4000000 in
set_option maxRecDepth 100000 in
theorem writeByte_any (B b : Nat) (bs : List Value) (c : Int) (w : World) (h : Lib.IsBuilder 95 5 B b bs w) (hlen : bs.length + 1 ≤ 140737488355328) (hBw : B ≤ w.heap.size) :
    Calls Try.prog 60 #[.pointer (some ⟨b, 0, none⟩), .int .u8 c] w fun e w' => e = .returned .nilIface ∧ Lib.BuilderAt 95 5 B b (.pointer (some ⟨b, 0, none⟩)) (bs ++ [.int .u8 c]) w' ∧ Below B w w' ∧ BFr b w w' := by
  obtain ⟨i0, hi, hz0, hz1, hz2⟩ := info_parts info5
  have HL := Aside0.mk hlen
  go_enter Try.func60, Try.ntmps60
  go_wp2_with fail
  refine (copyCheck_any B b bs _ h).mono ?_
  rintro e w1 ⟨rfl, hA, hb1, hF1⟩
  have F1 := Aside0.mk hF1
  clear hF1
  obtain ⟨hB, v, hb, hown, hne⟩ := hA
  have hc : w1.cell? ⟨b, 1, none⟩ = some v := Lib.cell_of_heap hb 1
  have HB1 := Aside0.mk hb1
  have HO := Aside0.mk hown
  have HH := Aside0.mk hb
  have HN := Aside0.mk hne
  have HS := Aside0.mk (Nat.le_trans hBw hb1.size)
  clear h hb1 hown hb hne
  go_wp2_with ((with_reducible refine gate_builtin (b := .append) (xs := #[.tmp 11, .tmp 13]) rfl ?_); refine wpList_append_own _ rfl (.tmp 11) (.tmp 13) 23 rfl B 5 i0 (.int .u8 0) 1 1 Try.underlying23 hi hz0 hz1 hz2 rfl (by decide) v bs.length bs rfl (HO.out.alloc _) ⟨w1.heap.size, 0, none⟩ 1 1 [.int .u8 c] rfl rfl (by intro j u hu; cases j with | zero => (simp at hu; subst hu; exact World.cell?_alloc_new _ _ _ _) | succ j => simp at hu) (by simp [Value.oneCell']) (by unfold maxLen; have := HL.out; omega) (by have := HL.out; omega) (by have := HS.out; simp; omega) ?_; intro v9 w9 ho hg hat; obtain ⟨A9, n9, c9, rfl⟩ := own_slice ho; have HG := Aside0.mk hg; have HO9 := Aside0.mk ho; have HH9 : Aside0 (w9.heap[b]? = some (.cells #[.pointer (some ⟨b, 0, none⟩), v] 95 (0, 0))) := ⟨blk_grown (blk_alloc HH.out _) hg (fun e => HN.out e.symm)⟩; have hc9 : w9.cell? ⟨b, 1, none⟩ = some v := Lib.cell_of_heap HH9.out 1; have hf9 : w9.frozen? ⟨b, 1, none⟩ = false := Lib.frozen_of_heap HH9.out 1; clear hc ho hg hat)
  go_ret
  refine ⟨rfl, ?_, ?_, ?_⟩
  · have hl : (bs ++ [Value.int .u8 c]).length = bs.length + 1 := by simp
    exact Lib.BuilderAt.put hB HH9.out (by rw [hl]; exact HO9.out) (by decide)
  · exact (((HB1.out.alloc HS.out _).trans (Below.grown (Below.refl _ _) HG.out (by have := HS.out; simp; omega) (fun k hk => own_base HO.out k hk))).setCell (p := ⟨b, 1, none⟩) hB _)
  · exact F1.out.trans ((BFr.below (below_alloc (Below.refl _ _) _)).trans ((BFr.grown (HO.out.alloc _) HG.out).trans (BFr.set_ _ _ _)))

/-- A builder of the call's own (block b, from B on) that holds these bytes. -/
def Bld (B b : Nat) (l : List UInt8) (w : World) : Prop := Lib.IsBuilder 95 5 B b (Lib.byteCells l) w
theorem Bld.of {B b : Nat} {p : Value} {l : List UInt8} {w : World} (h : Lib.BuilderAt 95 5 B b (.pointer (some ⟨b, 0, none⟩)) (Lib.byteCells l) w) : Bld B b l w := .inr h
theorem cells_app (a b : List UInt8) : Lib.byteCells (a ++ b) = Lib.byteCells a ++ Lib.byteCells b := by simp [Lib.byteCells]
theorem cells_len (a : List UInt8) : (Lib.byteCells a).length = a.length := by simp [Lib.byteCells]
theorem Bld.fresh (w : World) : Bld w.heap.size w.heap.size [] (w.alloc (.cells #[.pointer none, .slice none 0 0] 95)) := Lib.fresh_isBuilder 95 5 w
theorem Bld.below {B b : Nat} {l : List UInt8} {w w1 : World} (h : Bld B b l w) (hb : Below w.heap.size w w1) : Bld B b l w1 := by
  rcases h with ⟨hB, v, h1, h2, h3⟩ | ⟨hB, v, h1, h2, h3⟩
  · exact .inl ⟨hB, v, blk_below h1 hb, own_move h2 (fun k hk => hb.block k (own_lt h2 k hk)), h3⟩
  · exact .inr ⟨hB, v, blk_below h1 hb, own_move h2 (fun k hk => hb.block k (own_lt h2 k hk)), h3⟩
theorem Bld.lt {B b : Nat} {l : List UInt8} {w : World} (h : Bld B b l w) : b < w.heap.size := by
  rcases h with h | h <;> exact h.lt
theorem ws_any (B b : Nat) (l m : List UInt8) (s : ByteArray) (w : World) (hm : s.data.toList = m) (h : Bld B b l w) (hlen : l.length + m.length ≤ 140737488355328) (hBw : B ≤ w.heap.size) :
    Calls Try.prog 59 #[.pointer (some ⟨b, 0, none⟩), .string s] w fun e w' => e = .returned (.tuple #[.int .i64 s.size, .nilIface]) ∧ Bld B b (l ++ m) w' ∧ Below B w w' ∧ BFr b w w' := by
  subst hm
  have hz : s.data.toList.length = s.size := by simp
  refine (writeString_any B b (Lib.byteCells l) s w h (by rw [cells_len]; omega) hBw).mono ?_
  rintro e w' ⟨he, hA, hb, hf⟩
  exact ⟨he, .inr (by rw [cells_app]; exact hA), hb, hf⟩
theorem wb_any (B b : Nat) (l : List UInt8) (c : UInt8) (x : Int) (w : World) (hx : x = (c.toNat : Int)) (h : Bld B b l w) (hlen : l.length + 1 ≤ 140737488355328) (hBw : B ≤ w.heap.size) :
    Calls Try.prog 60 #[.pointer (some ⟨b, 0, none⟩), .int .u8 x] w fun e w' => e = .returned .nilIface ∧ Bld B b (l ++ [c]) w' ∧ Below B w w' ∧ BFr b w w' := by
  subst hx
  refine (writeByte_any B b (Lib.byteCells l) _ w h (by rw [cells_len]; omega) hBw).mono ?_
  rintro e w' ⟨he, hA, hb, hf⟩
  exact ⟨he, .inr (by rw [cells_app]; exact hA), hb, hf⟩

/-- A text's bytes. -/
def txt (s : List UInt8) : List UInt8 := short s.length ++ s
theorem txt_len (s : List UInt8) (h : s.length < 2 ^ 64) : (txt s).length ≤ s.length + 10 := by
  unfold txt
  rw [List.length_append]
  have := short_len 9 s.length (by omega)
  omega

set_option maxHeartbeats 4000000 in
set_option maxRecDepth 100000 in
theorem text_any (B b : Nat) (l : List UInt8) (s : ByteArray) (w : World) (h : Bld B b l w) (hlen : l.length + s.size + 10 ≤ 140737488355328) (hBw : B ≤ w.heap.size) :
    Calls Try.prog 61 #[.pointer (some ⟨b, 0, none⟩), .string s] w fun e w' => e = .returned (.tuple #[]) ∧ Bld B b (l ++ txt s.data.toList) w' ∧ Below B w w' ∧ BFr b w w' := by
  have hz : s.data.toList.length = s.size := by simp
  have HZ := Aside0.mk hz
  have hs : s.size ≤ 9223372036854775807 := by omega
  have hsl := short_len 9 s.size (by omega)
  have HSL := Aside0.mk hsl
  have HL := Aside0.mk hlen
  have HH := Aside0.mk h
  have HB := Aside0.mk hBw
  clear hz hsl hlen h hBw
  go_enter Try.func61, Try.ntmps61
  go_wp2_with fail
  refine (short_any s.size _ (by omega)).mono ?_
  rintro e w1 ⟨rfl, hb1⟩
  have H1 := Aside0.mk (HH.out.below hb1)
  have B1 := Aside0.mk (below_then (Below.refl B w) HB.out hb1)
  have S1 := Aside0.mk (Nat.le_trans HB.out hb1.size)
  have F1 : Aside0 (BFr b w w1) := ⟨BFr.below hb1⟩
  clear hb1
  go_wp2_with fail
  refine (ws_any B b l (short s.size) _ _ (str_list _) H1.out (by have := HSL.out; have := HL.out; omega) S1.out).mono ?_
  rintro e w2 ⟨rfl, hA, hb2, hf2⟩
  have H2 := Aside0.mk hA
  have B2 := Aside0.mk (B1.out.trans hb2)
  have S2 := Aside0.mk (Nat.le_trans S1.out hb2.size)
  have F2 := Aside0.mk (F1.out.trans hf2)
  clear hA hb2 hf2
  go_wp2_with fail
  refine (ws_any B b (l ++ short s.size) s.data.toList _ _ rfl H2.out (by rw [List.length_append, HZ.out]; have := HSL.out; have := HL.out; omega) S2.out).mono ?_
  rintro e w3 ⟨rfl, hA, hb3, hf3⟩
  have H3 := Aside0.mk hA
  have B3 := Aside0.mk (B2.out.trans hb3)
  have F3 := Aside0.mk (F2.out.trans hf3)
  clear hA hb3 hf3
  go_wp2_with fail
  go_end0
  refine ⟨rfl, ?_, B3.out, F3.out⟩
  unfold txt
  rw [HZ.out, ← List.append_assoc]
  exact H3.out
end Go.Proofs.Ytolningpngjhpaa.Bat
