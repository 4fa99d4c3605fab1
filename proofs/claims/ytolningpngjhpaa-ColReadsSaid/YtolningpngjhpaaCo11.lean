/- Rows of leases from their cells; blocks that are held. -/
import Derived.Test.YtolningpngjhpaaCo10
namespace Go.Proofs.Ytolningpngjhpaa.Col
open Go.RowKit Go.Proofs.YtolningpngjhpaaW.PrintWords Go.Proofs.YtolningpngjhpaaW.PrintLast Go.Proofs.YtolningpngjhpaaW.PrintMore
open Go.Proofs.Ytolningpngjhpaa.Nm Go.Proofs.Ytolningpngjhpaa.PColWrites
set_option linter.unusedVariables false
set_option linter.unusedSimpArgs false

theorem C8_of_cells {w : World} {A : Option Addr} {xs : List S78} (hl : xs.length ≤ 9223372036854775807) (h : xs ≠ [] → ∃ ad, A = some ad ∧ ∀ j x, xs[j]? = some x → w.cell? (ad.add (j * 3)) = some (.int .u64 x.f0) ∧ w.cell? (ad.add (j * 3 + 1)) = some (.int .u64 x.f1) ∧ w.cell? (ad.add (j * 3 + 2)) = some (.int .u64 x.f2)) :
    Kd.C k78 w A xs.length xs := by
  refine ⟨rfl, hl, fun hn => ?_⟩
  obtain ⟨ad, e, hc⟩ := h (by intro hx; rw [hx] at hn; exact absurd hn (Nat.lt_irrefl 0))
  refine ⟨ad, e, fun j x hx => ⟨[.int .u64 x.f0, .int .u64 x.f1, .int .u64 x.f2], rfl, k78_mk w x, fun i u hu => ?_⟩⟩
  obtain ⟨h0, h1, h2⟩ := hc j x hx
  show w.cell? (ad.add (j * 3 + i)) = some u
  match i, hu with
  | 0, hu => simp only [List.getElem?_cons_zero, Option.some.injEq] at hu; rw [← hu]; exact h0
  | 1, hu => simp at hu; rw [← hu]; exact h1
  | 2, hu => simp at hu; rw [← hu]; exact h2
  | n + 3, hu => simp at hu

/-- A block's cells. -/
def Held (w : World) (b : Nat) (c : Array Value) : Prop := (∀ j : Nat, w.cell? ⟨b, j, none⟩ = c[j]?) ∧ b < w.heap.size
theorem Held.below {w w1 : World} {b : Nat} {c : Array Value} (h : Held w b c) (hb : Below w.heap.size w w1) : Held w1 b c :=
  ⟨fun j => (hb.cell (p := ⟨b, j, none⟩) h.2).trans (h.1 j), Nat.lt_of_lt_of_le h.2 hb.size⟩
theorem Held.alloc {w : World} {b : Nat} {c : Array Value} (h : Held w b c) (o : Obj) : Held (w.alloc o) b c := h.below ((Below.refl _ _).alloc (Nat.le_refl _) o)
theorem Held.new (w : World) (c : Array Value) (t : TypeId) : Held (w.alloc (.cells c t)) w.heap.size c :=
  ⟨fun j => World.cell?_alloc_new w c t j, by simp⟩
theorem Held.two8 {w : World} {b : Nat} (h : Held w b #[.int .u64 1, .int .u64 2, .int .u64 3, .int .u64 4, .int .u64 2, .int .u64 300]) : Kd.C k78 w (some ⟨b, 0, none⟩) 2 two8 := by
  refine C8_of_cells (xs := Col.two8) (by decide) (fun _ => ⟨_, rfl, fun j x hx => ?_⟩)
  match j, hx with
  | 0, hx => obtain rfl : _ = x := Option.some.inj hx; exact ⟨h.1 0, h.1 1, h.1 2⟩
  | 1, hx => obtain rfl : _ = x := Option.some.inj hx; exact ⟨h.1 3, h.1 4, h.1 5⟩
  | n + 2, hx => simp [Col.two8] at hx
end Go.Proofs.Ytolningpngjhpaa.Col
