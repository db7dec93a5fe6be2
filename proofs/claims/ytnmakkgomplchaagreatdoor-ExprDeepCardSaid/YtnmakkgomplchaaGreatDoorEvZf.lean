/- strconv: numbers as texts, texts as numbers; the tables that they read. No condition. -/
import Derived.Test.YtnmakkgomplchaaGreatDoorEvZe
import Derived.Lib.LaidTab
import Derived.Lib.LaidU8
import Derived.Lib.AppendIntMem
import Derived.Lib.AtoiAll
import Derived.Lib.AtoiErrMem
namespace Go.Ev
set_option linter.unusedVariables false
set_option linter.unusedSimpArgs false
set_option linter.unusedSectionVars false
open Go.RowKit (Below)

/-- A variable that holds an error, or nil. -/
def ErrVar (g : Nat) (w : World) : Prop := ∃ ev, w.cell? ⟨g, 0, none⟩ = some ev ∧ (ev = .nilIface ∨ ∃ te pe, ev = .iface te pe)

/-- What strconv's tables and errors hold. -/
def StrconvInv (P : Program) (gs gr : Nat) (w : World) : Prop := Lib.TabIs P w "internal/strconv.uint64pow10" .u64 Lib.pow10Tab ∧ ErrVar gs w ∧ ErrVar gr w

theorem StrconvInv.stays {P : Program} {gp gs gr : Nat} (hg : P.globalNamed "internal/strconv.uint64pow10" = some gp) (w w' : World) (h : ∀ c, (c = gp ∨ c = gs ∨ c = gr) → w'.heap[c]? = w.heap[c]?) (hi : StrconvInv P gs gr w) : StrconvInv P gs gr w' := by
  obtain ⟨h1, ⟨e1, h2, h3⟩, ⟨e2, h4, h5⟩⟩ := hi
  refine ⟨?_, ⟨e1, ?_, h3⟩, ⟨e2, ?_, h5⟩⟩
  · unfold Lib.TabIs World.var? at h1 ⊢
    simp only [hg, Option.bind_some] at h1 ⊢
    rw [h gp (.inl rfl)]
    exact h1
  · rw [cell_of_block (h gs (.inr (.inl rfl)))]; exact h2
  · rw [cell_of_block (h gr (.inr (.inr rfl)))]; exact h4

theorem StrconvInv.lt {P : Program} {gp gs gr : Nat} (hg : P.globalNamed "internal/strconv.uint64pow10" = some gp) {w : World} (hi : StrconvInv P gs gr w) : ∀ c, (c = gp ∨ c = gs ∨ c = gr) → c < w.heap.size := by
  obtain ⟨h1, ⟨e1, h2, h3⟩, ⟨e2, h4, h5⟩⟩ := hi
  rintro c (rfl | rfl | rfl)
  · unfold Lib.TabIs World.var? at h1
    simp only [hg, Option.bind_some] at h1
    rcases Nat.lt_or_ge c w.heap.size with h | h
    · exact h
    · rw [Array.getElem?_eq_none h] at h1; simp at h1
  · exact cell_lt h2
  · exact cell_lt h4

theorem tabIs_of_reads {P : Program} {W : World} {name : String} {k : IntKind} {zs : List Int} {g : Nat} {t e : TypeId} {n : Nat}
    (hg : P.globalNamed name = some g) (hty : (P.globals[g]?).map (·.type) = some t) (ht : P.underlying t = some (.array n e)) (he : P.underlying e = some (.int k)) (hce : P.cellsOf e = 1) (hct : P.cellsOf t = n)
    (h : Lib.VarReads P W name (Lib.tabData k zs)) : Lib.TabIs P W name k zs := by
  obtain ⟨g', t', cs, fuel, p, hg', ht', hvar, hd⟩ := h
  obtain rfl := Option.some.inj (hg.symm.trans hg')
  obtain rfl := Option.some.inj (hty.symm.trans ht')
  unfold Lib.TabIs
  rw [hvar, ← Lib.cells_of_tab ht he hce hct hd]

theorem iface_of_trod {P : Program} {w : World} {fuel : Nat} {t : TypeId} {ms : Array (String × TypeId)} (hi : P.underlying t = some (.interface ms)) {cs : List Value} {x : DataW Unit × List MemPlace}
    (h : DataW.trod (fun _ => ()) P w 0 (fun _ => true) false fuel t cs = some x) : ∃ v, cs = [v] ∧ (v = .nilIface ∨ ∃ te pe, v = .iface te pe) := by
  cases fuel with
  | zero => simp [DataW.trod] at h
  | succ fuel =>
    unfold DataW.trod at h
    rw [hi] at h
    match cs, h with
    | [.nilIface], _ => exact ⟨_, rfl, .inl rfl⟩
    | [.iface u v], _ => exact ⟨_, rfl, .inr ⟨_, _, rfl⟩⟩

theorem errVar_of_reads {P : Program} {W : World} {name : String} {d : DataW Unit} {g : Nat} {t : TypeId} {ms : Array (String × TypeId)} (hg : P.globalNamed name = some g) (hty : (P.globals[g]?).map (·.type) = some t) (hi : P.underlying t = some (.interface ms))
    (h : Lib.VarReads P W name d) : ErrVar g W := by
  obtain ⟨g', t', cs, fuel, p, hg', ht', hvar, hd⟩ := h
  obtain rfl := Option.some.inj (hg.symm.trans hg')
  obtain rfl := Option.some.inj (hty.symm.trans ht')
  obtain ⟨v, hv, hvi⟩ := iface_of_trod hi hd
  refine ⟨v, ?_, hvi⟩
  have := World.var?_cell hg hvar 0
  rw [show cs = #[v] from by rw [← Array.toArray_toList (xs := cs), hv]] at this
  simpa using this

variable [Ctx]
section
variable {P : Program} [TagOK P]

/-- strconv.Itoa. -/
def itoaG : List D → M AV
  | [.int .i64 n] => .chk (decide (-9223372036854775808 ≤ n) && decide (n ≤ 9223372036854775807)) (.ret (.d (.str (Lib.itoa n))))
  | _ => .fail

theorem itoa_at {f : FuncId} {fn : Func} (hf : P.funcs[f]? = some fn) (hb : fn.body.isNone = false) (hn : (fn.name == "runtime.NumGoroutine") = false) (hI : ∀ w, Ctx.inv w → Lib.TabIs P w "internal/strconv.uint64pow10" .u64 Lib.pow10Tab)
    (h : ∀ (n : Int), -9223372036854775808 ≤ n → n ≤ 9223372036854775807 → ∀ (w : World), Lib.TabIs P w "internal/strconv.uint64pow10" .u64 Lib.pow10Tab → Calls P f #[.int .i64 n] w fun e w' => e = .returned (.string ⟨(Lib.itoa n).toArray⟩) ∧ ∃ k os, w' = Sort.grow (w.drewN k) os) : CallAt P f (plainV itoaG) := by
  refine plainV_at fun ds r hr => ⟨⟨fn, hf, hb, hn⟩, fun X w vs hX hI' hv => ?_⟩
  unfold itoaG at hr
  split at hr
  · rename_i n
    obtain ⟨h1, h2⟩ := (M.run_chk _ _ _).1 hr
    simp only [M.run, Option.some.injEq] at h2
    subst h2
    simp only [Bool.and_eq_true, decide_eq_true_eq] at h1
    obtain ⟨v, rfl, hv1⟩ := VRs.one hv
    have : v = .int .i64 n := VR.d_iff.1 hv1
    subst this
    refine (h n h1.1 h1.2 w (hI w hI'.1)).mono ?_
    rintro e w' ⟨rfl, k, os, rfl⟩
    exact ⟨_, rfl, vr_str _, Fr.ofBelow (Lib.below_grow _ w (Nat.le_refl _) k os)⟩
  · simp [M.run] at hr

theorem vr_pair {X : Blocks} {β : Map} {N : Nat → Prop} {w : World} {a b : AV} {u v : Value} (h1 : VR X β N w a u) (h2 : VR X β N w b v) : VR X β N w (.tup [a, b]) (.tuple #[u, v]) :=
  VR.tup_iff.2 ⟨_, rfl, by unfold VRs; exact ⟨h1, by unfold VRs; exact ⟨h2, by unfold VRs; trivial⟩⟩⟩

/-- strconv.Atoi. 'T': the type of its error. -/
def atoiG (T : TypeId) : List D → M AV
  | [.str s] => match Lib.atoiAll s with
    | .ok v => .chk (decide (s.length ≤ 9223372036854775806)) (.ret (.tup [.d (.int .i64 v), .d .nili]))
    | .range => .chk (decide (s.length ≤ 281474976710656)) (.ret (.tup [.d (.int .i64 (Lib.atoiSat s)), .ifc T]))
    | _ => .chk (decide (s.length ≤ 281474976710656)) (.ret (.tup [.d (.int .i64 0), .ifc T]))
  | _ => .fail

theorem atoi_at {f : FuncId} {fn : Func} {gs gr T U E : Nat} (hf : P.funcs[f]? = some fn) (hb : fn.body.isNone = false) (hn : (fn.name == "runtime.NumGoroutine") = false) (hI : ∀ w, Ctx.inv w → ErrVar gs w ∧ ErrVar gr w)
    (h0 : ∀ (s : ByteArray), s.size ≤ 9223372036854775806 → ∀ (v : Int), Lib.atoiAll s.data.toList = .ok v → ∀ (w : World), Calls P f #[.string s] w fun e w' => e = .returned (.tuple #[.int .i64 v, .nilIface]) ∧ (w' = w ∨ ∃ t, w' = Lib.bytesWorld w U t))
    (h1 : ∀ (s : ByteArray), s.size ≤ 281474976710656 → Lib.atoiAll s.data.toList = Lib.atoiAll [] → ∀ (ev : Value) (w : World), w.cell? ⟨gs, 0, none⟩ = some ev → (ev = .nilIface ∨ ∃ te pe, ev = .iface te pe) →
      Calls P f #[.string s] w fun e w' => ∃ N, e = .returned (.tuple #[.int .i64 (0), .iface T (.pointer (some ⟨N, 0, none⟩))]) ∧ w.heap.size ≤ N ∧ w'.heap[N]? = some (.cells #[.string ⟨#[65, 116, 111, 105]⟩, .string s, ev] E (0, 0)) ∧ Below w.heap.size w w')
    (h2 : ∀ (s : ByteArray), s.size ≤ 281474976710656 → Lib.atoiAll s.data.toList = .range → ∀ (ev : Value) (w : World), w.cell? ⟨gr, 0, none⟩ = some ev → (ev = .nilIface ∨ ∃ te pe, ev = .iface te pe) →
      Calls P f #[.string s] w fun e w' => ∃ N, e = .returned (.tuple #[.int .i64 (Lib.atoiSat s.data.toList), .iface T (.pointer (some ⟨N, 0, none⟩))]) ∧ w.heap.size ≤ N ∧ w'.heap[N]? = some (.cells #[.string ⟨#[65, 116, 111, 105]⟩, .string s, ev] E (0, 0)) ∧ Below w.heap.size w w') : CallAt P f (plainV (atoiG T)) := by
  refine plainV_at fun ds r hr => ⟨⟨fn, hf, hb, hn⟩, fun X w vs hX hI' hv => ?_⟩
  unfold atoiG at hr
  split at hr
  · rename_i s
    obtain ⟨v, rfl, hv1⟩ := VRs.one hv
    rw [VRs.str hv1]
    have hsz : (⟨s.toArray⟩ : ByteArray).size = s.length := by simp [ByteArray.size]
    obtain ⟨⟨e1, c1, i1⟩, ⟨e2, c2, i2⟩⟩ := hI w hI'.1
    split at hr
    · rename_i v hat
      obtain ⟨g1, g2⟩ := (M.run_chk _ _ _).1 hr
      simp only [M.run, Option.some.injEq] at g2
      subst g2
      refine (h0 ⟨s.toArray⟩ (by rw [hsz]; exact of_decide_eq_true g1) v (by simpa using hat) w).mono ?_
      rintro e w' ⟨rfl, hw⟩
      refine ⟨_, rfl, vr_pair (VR.d_iff.2 rfl) (VR.d_iff.2 rfl), ?_⟩
      rcases hw with rfl | ⟨t, rfl⟩
      · exact Fr.refl _ _
      · exact Fr.ofBelow (Lib.bytesWorld_below _ _ _)
    · rename_i hat
      obtain ⟨g1, g2⟩ := (M.run_chk _ _ _).1 hr
      simp only [M.run, Option.some.injEq] at g2
      subst g2
      refine (h2 ⟨s.toArray⟩ (by rw [hsz]; exact of_decide_eq_true g1) (by simpa using hat) e2 w c2 i2).mono ?_
      rintro e w' ⟨N, rfl, _, _, hB⟩
      exact ⟨_, rfl, vr_pair (VR.d_iff.2 (by simp [VRd])) (VR.ifc_iff.2 ⟨_, rfl⟩), Fr.ofBelow hB⟩
    · rename_i x hok hra
      have hat : Lib.atoiAll s = Lib.atoiAll [] := by
        cases hx : Lib.atoiAll s with
        | ok v => exact absurd hx (hok v)
        | range => exact absurd hx hra
        | _ => rfl
      obtain ⟨g1, g2⟩ := (M.run_chk _ _ _).1 hr
      simp only [M.run, Option.some.injEq] at g2
      subst g2
      refine (h1 ⟨s.toArray⟩ (by rw [hsz]; exact of_decide_eq_true g1) (by simpa using hat) e1 w c1 i1).mono ?_
      rintro e w' ⟨N, rfl, _, _, hB⟩
      exact ⟨_, rfl, vr_pair (VR.d_iff.2 rfl) (VR.ifc_iff.2 ⟨_, rfl⟩), Fr.ofBelow hB⟩
  · simp [M.run] at hr

end
end Go.Ev
