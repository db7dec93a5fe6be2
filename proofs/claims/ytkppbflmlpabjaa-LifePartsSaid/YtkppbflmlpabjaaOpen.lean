/- Arguments of other kinds than slices of whole numbers, opened for the printed contracts: what reads as a datum is a list of bools, strings, structs, lists of these. Plain lemmas over the model's reader; no statement of the program. -/
import Derived.Test.YtkppbflmlpabjaaWMore
import Derived.Deep.Slices
import Derived.ChangeArms
import Derived.SizedLaws
namespace Go.Proofs.Ytkppbflmlpabjaa.Open
open Go.ChangeShapes Go.WideShapes Go.RowKit Go.Proofs.YtkppbflmlpabjaaW.PrintWords
set_option linter.unusedVariables false
variable {H : Type} {enc : TypeId × Value → H} {P : Program} {W : World} {base : Nat} {spare : Nat → Bool} {held : Bool}

/-- Whatever reads as a datum of type T is an element of the kind d, of which ok holds. -/
def Opens {α : Type} (enc : TypeId × Value → H) (P : Program) (W : World) (base : Nat) (spare : Nat → Bool) (held : Bool) (d : Kd α) (T : TypeId) (ok : α → Prop) : Prop :=
  d.sz = P.cellsOf T ∧ ∀ fuel cs x, DataW.trod enc P W base spare held fuel T cs = some x → ∃ a, d.K W a cs ∧ ok a

theorem opens_int {T : TypeId} {k : IntKind} (ht : P.underlying T = some (.int k)) (hc : P.cellsOf T = 1) : Opens enc P W base spare held (Kd.int k) T (fun n => (Lit.int k n).wf = true) :=
  ⟨by rw [hc]; rfl, fun fuel cs x h => by
    obtain ⟨n, rfl, _, hw⟩ := DataW.trod_int ht h
    exact ⟨n, rfl, hw⟩⟩
theorem opens_bool {T : TypeId} (ht : P.underlying T = some .bool) (hc : P.cellsOf T = 1) : Opens enc P W base spare held Kd.bool T (fun _ => True) :=
  ⟨by rw [hc]; rfl, fun fuel cs x h => by
    obtain ⟨n, rfl, _⟩ := DataW.trod_bool ht h
    exact ⟨n, rfl, trivial⟩⟩
theorem opens_string {T : TypeId} (ht : P.underlying T = some .string) (hc : P.cellsOf T = 1) : Opens enc P W base spare held Kd.string T (fun s => s.size ≤ maxLen) :=
  ⟨by rw [hc]; rfl, fun fuel cs x h => by
    obtain ⟨n, rfl, _, hw⟩ := DataW.trod_string ht h
    exact ⟨n, rfl, hw⟩⟩
/-- A row of elements: each of them is opened. -/
theorem row_of {α : Type} {d : Kd α} {e : TypeId} {ok : α → Prop} (hd : Opens enc P W base spare held d e ok) {a : Addr} {len m n : Nat} (hm : len ≤ m) (h63 : len ≤ maxLen)
    {D : Nat → DataW H × List MemPlace}
    (h : ∀ i, i < m → ∃ cs', W.cells? base (a.add (i * P.cellsOf e)) (P.cellsOf e) = some cs' ∧ DataW.trod enc P W base spare held n e cs' = some (D i)) :
    ∃ l : List α, l.length = len ∧ Kd.C d W (some a) len l ∧ ∀ x ∈ l, ok x := by
  have each : ∀ i, i < len → ∃ p : α, ok p ∧ ∃ c, c.length = d.sz ∧ d.K W p c ∧ ∀ j u, c[j]? = some u → W.cell? (a.add (i * d.sz + j)) = some u := by
    intro i hi
    obtain ⟨cs', h1, h2⟩ := h i (by omega)
    obtain ⟨p, hK, hok⟩ := hd.2 _ _ _ h2
    obtain ⟨_, hl, hcell⟩ := World.cells?_some h1
    refine ⟨p, hok, cs', by rw [hl, hd.1], hK, fun j u hu => ?_⟩
    have hj : j < P.cellsOf e := by rw [← hl]; exact (List.getElem?_eq_some_iff.1 hu).1
    have := hcell j hj
    rw [hu, Go.Addr.add_add] at this
    rw [hd.1]; exact this
  have build : ∀ k, k ≤ len → ∃ l : List α, l.length = k ∧ (∀ x ∈ l, ok x) ∧ ∀ j p, l[j]? = some p → ∃ c, c.length = d.sz ∧ d.K W p c ∧ ∀ i u, c[i]? = some u → W.cell? (a.add (j * d.sz + i)) = some u := by
    intro k
    induction k with
    | zero => intro _; exact ⟨[], rfl, by simp, fun j p hj => by simp at hj⟩
    | succ k ih =>
      intro hk
      obtain ⟨l, hl, hok, hc⟩ := ih (by omega)
      obtain ⟨p, hp, c, hcl, hK, hcell⟩ := each k (by omega)
      refine ⟨l ++ [p], by simp [hl], fun x hx => ?_, fun j q hq => ?_⟩
      · rcases List.mem_append.1 hx with h | h
        · exact hok x h
        · rw [List.mem_singleton.1 h]; exact hp
      · rcases Nat.lt_or_ge j k with hj | hj
        · rw [List.getElem?_append_left (by omega)] at hq
          exact hc j q hq
        · have hjk : j = k := by
            have := (List.getElem?_eq_some_iff.1 hq).1
            rw [List.length_append, List.length_singleton] at this
            omega
          subst hjk
          have : p = q := by rw [List.getElem?_append_right (by omega)] at hq; simpa [hl] using hq
          subst this
          exact ⟨c, hcl, hK, hcell⟩
  obtain ⟨l, hl, hok, hc⟩ := build len (Nat.le_refl _)
  exact ⟨l, hl, ⟨hl, by unfold maxLen at h63; omega, fun _ => ⟨a, rfl, hc⟩⟩, hok⟩
theorem opens_slice {α : Type} {d : Kd α} {t e : TypeId} {ok : α → Prop} (ht : P.underlying t = some (.slice e)) (hc : P.cellsOf t = 1) (hd : Opens enc P W base spare held d e ok) :
    Opens enc P W base spare held (Kd.slice e d) t (fun l => (∀ x ∈ l, ok x) ∧ l.length ≤ maxLen) :=
  ⟨by rw [hc]; rfl, fun fuel cs x h => by
    rcases Go.Deep.open_slice ht h with ⟨rfl, _⟩ | ⟨a, len, cap, m, n, D, Pl, rfl, _, hl, hm, hmm, _, hx⟩
    · exact ⟨[], ⟨none, 0, rfl, Nat.le_refl _, rfl, by simp, fun h => by simp at h⟩, by simp, by simp⟩
    · obtain ⟨l, rfl, hC, hok⟩ := row_of hd (m := m) (by rw [hmm]; split <;> omega) (by omega) (D := fun i => (D i, Pl i)) hx
      exact ⟨l, ⟨some a, cap, rfl, hl, hC⟩, hok, by omega⟩⟩
/-- A slice argument. -/
theorem open_arg {α : Type} {d : Kd α} {t e : TypeId} {ok : α → Prop} {A : Option Addr} {len cap : Nat} {dd : DataW H} {ps : List MemPlace} (ht : P.underlying t = some (.slice e)) (hc : P.cellsOf t = 1)
    (hd : Opens enc P W base spare held d e ok) (h : DataW.Trod enc P W base spare held t (.slice A len cap) dd ps) :
    ∃ l : List α, len = l.length ∧ Kd.C d W A l.length l ∧ l.length ≤ cap ∧ l.length ≤ maxLen ∧ ∀ x ∈ l, ok x := by
  obtain ⟨fuel, hf⟩ := h
  obtain ⟨l, ⟨A', c', hv, hl, hC⟩, hok, hm⟩ := (opens_slice ht hc hd).2 _ _ _ hf
  have : A = A' ∧ len = l.length ∧ cap = c' := by simpa [Value.cells] using hv
  obtain ⟨rfl, rfl, rfl⟩ := this
  exact ⟨l, rfl, hC, hl, hm, hok⟩
end Go.Proofs.Ytkppbflmlpabjaa.Open
