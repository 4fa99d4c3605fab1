/- What the reference's Decode answers is what Decode answers: plain. -/
import Derived.Test.YtolningpngjhpaaBa12
namespace Go.Proofs.Ytolningpngjhpaa.Bat
open Go.RowKit Go.Proofs.YtolningpngjhpaaW.PrintWords Go.Proofs.YtolningpngjhpaaW.PrintLast Go.Proofs.YtolningpngjhpaaW.PrintMore
open Go.Proofs.Ytolningpngjhpaa.Nm
open Go.Proofs.Ytolningpngjhpaa.PBatchWrites (S66 k66 z66 rd_T66 at_T66 k66_mk k66_mkM k66_open)
set_option linter.unusedVariables false
set_option linter.unusedSimpArgs false

/-- Operations, as the reference reads them. -/
def rops : Nat → List UInt8 → List S66 → Option (List S66)
  | 0, _, acc => some acc
  | _ + 1, [], _ => none
  | n + 1, b :: t, acc => match tkT t with
    | none => none
    | some (k, r) => if b = 1 then rops n r (acc ++ [⟨true, str k, ⟨#[]⟩⟩]) else match tkT r with
      | none => none
      | some (v, q) => rops n q (acc ++ [⟨false, str k, str v⟩])
theorem rops_enc : ∀ (l acc : List S66), (∀ x ∈ l, oneB x = true) → rops l.length (l.flatMap opB) acc = some (acc ++ l) := by
  intro l
  induction l with
  | nil => intro acc _; simp [rops]
  | cons x l ih =>
    intro acc h
    obtain ⟨h1, h2, h3⟩ := oneB_fine (h x (List.mem_cons_self ..))
    obtain ⟨d, k, v⟩ := x
    simp only at h1 h2 h3
    have ih2 := fun a => ih a (fun y hy => h y (List.mem_cons_of_mem _ hy))
    have hk : k.data.toList.length < 2 ^ 64 := by rw [list_size]; exact h1
    have hv : v.data.toList.length < 2 ^ 64 := by rw [list_size]; exact h2
    cases d with
    | true =>
      have hv0 := h3 rfl
      subst hv0
      have ht := (tkT_iff (txt k.data.toList ++ l.flatMap opB) _ _).2 ⟨hk, rfl⟩
      simp only [List.length_cons, List.flatMap_cons, opB, if_true, List.cons_append, rops, ht]
      rw [ih2, str_of, List.append_assoc]
      rfl
    | false =>
      have ht := (tkT_iff (txt k.data.toList ++ (txt v.data.toList ++ l.flatMap opB)) _ _).2 ⟨hk, rfl⟩
      have hu := (tkT_iff (txt v.data.toList ++ l.flatMap opB) _ _).2 ⟨hv, rfl⟩
      simp only [List.length_cons, List.flatMap_cons, opB, Bool.false_eq_true, if_false, List.cons_append, List.append_assoc, rops, ht, hu]
      rw [if_neg (by decide), ih2, str_of, str_of, List.append_assoc]
      rfl
theorem rops_len : ∀ (n : Nat) (s : List UInt8) (acc l : List S66), rops n s acc = some l → l.length = acc.length + n := by
  intro n
  induction n with
  | zero => intro s acc l h; simp only [rops, Option.some.injEq] at h; subst h; rfl
  | succ n ih =>
    intro s acc l h
    cases s with
    | nil => simp [rops] at h
    | cons b t =>
      simp only [rops] at h
      split at h
      · cases h
      · split at h
        · have := ih _ _ _ h
          simp at this
          omega
        · split at h
          · cases h
          · have := ih _ _ _ h
            simp at this
            omega
/-- Which batch bytes are, as the reference reads them. -/
def refM (s : List UInt8) : Option (Nat × List S66) := match take s with
  | none => none
  | some (n, r) => match take r with
    | none => none
    | some (m, q) => if 16 < m then none else match rops m q [] with
      | none => none
      | some l => if encM n l = (str s, 0) then some (n, l) else none
theorem str_inj {a b : List UInt8} (h : str a = str b) : a = b := by
  have := congrArg (fun x => x.data.toList) h
  simpa [str_list] using this
theorem encM_ok {n : Nat} {l : List S66} {s : ByteArray} (h : encM n l = (s, 0)) : mayB l = true ∧ numB n l.length = true ∧ s = str (encB n l) := by
  unfold encM at h
  split at h
  · split at h
    · simp only [Prod.mk.injEq] at h
      exact ⟨by assumption, by assumption, h.1.symm⟩
    · simp at h
  · simp at h
theorem ref_dec (s : List UInt8) : refM s = decM s := by
  apply Option.ext
  rintro ⟨n, l⟩
  constructor
  · intro h
    unfold refM at h
    split at h
    · cases h
    · split at h
      · cases h
      · split at h
        · cases h
        · split at h
          · cases h
          · split at h
            · next he =>
              simp only [Option.some.injEq, Prod.mk.injEq] at h
              obtain ⟨rfl, rfl⟩ := h
              obtain ⟨h1, h2, h3⟩ := encM_ok he
              have hs := str_inj h3
              have := dec_enc h1 h2 []
              rw [List.append_nil, if_pos rfl] at this
              rw [hs]
              exact this
            · cases h
  · intro h
    obtain ⟨h1, h2, rfl⟩ := dec_some h
    obtain ⟨h3, h4, h5⟩ := mayB_all h1
    have hn := numB_lt h2
    have e1 : take (encB n l) = some (n, short l.length ++ l.flatMap opB) := (take_iff _ _ _).2 ⟨hn.1, by unfold encB; rw [List.append_assoc]⟩
    have e2 : take (short l.length ++ l.flatMap opB) = some (l.length, l.flatMap opB) := (take_iff _ _ _).2 ⟨by omega, rfl⟩
    have e3 := rops_enc l [] h5
    unfold refM
    rw [e1]
    simp only
    rw [e2]
    simp only
    rw [if_neg (by omega), e3]
    simp only [List.nil_append]
    rw [if_pos]
    unfold encM
    rw [if_pos h1, if_pos h2]
end Go.Proofs.Ytolningpngjhpaa.Bat
