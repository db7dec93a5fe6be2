/- The evaluator's operations are the model's: one by one. No condition. -/
import Derived.Test.YtnmakkgomplchaaGreatDoorEvD
import Derived.Test.YtnmakkgomplchaaGreatDoorEvE
import Derived.Deep.MidRow
namespace Go.Ev
set_option linter.unusedVariables false
set_option linter.unusedSimpArgs false
set_option linter.unusedSectionVars false
variable [Ctx]

/-- The operation comes to a value, or is done, in a world of which S holds. -/
def Does (P : Program) (o : Oper) (ρ : Operand → Value) (w : World) (S : Value → World → Prop) : Prop :=
  ∃ v w', ((execOp ρ o).run P w = .ok (.value v) w' ∨ ((execOp ρ o).run P w = .ok .skip w' ∧ v = undef)) ∧ S v w'

theorem Does.wp {P : Program} {o : Oper} {a : Act} {w : World} {S : Value → World → Prop} {K : Act → World → Prop} {Q : Exit → Act → World → Prop}
    (h : Does P o a.eval w S) (hk : ∀ v w', S v w' → K (a.put o.dst v) w') : o.wp P a w K Q := by
  obtain ⟨v, w', h1, h2⟩ := h
  unfold Oper.wp
  rcases h1 with h1 | ⟨h1, rfl⟩
  · rw [h1, Oper.upon_value]; exact hk v w' h2
  · rw [h1, Oper.upon_skip]; exact hk undef w' h2

theorem compArg_VR {P : Program} {X : Blocks} {β : Map} {N : Nat → Prop} {w : World} : ∀ {x : Operand} {b : AArg} (a : Act) (env : Env), compArg x = some b →
    (∀ i, VR X β N w (env.getD i .top) (a.tmps.getD i undef)) → VR X β N w (rdA env b) (a.eval x) := by
  intro x b a env h henv
  cases x with
  | tmp t => simp [compArg] at h; subst h; exact henv t
  | const v =>
    simp only [compArg, Option.map_eq_some_iff] at h
    obtain ⟨u, h, rfl⟩ := h
    show VR X β N w u v
    have one : ∀ (v : Value) (x : D), ofCell v = some x → VRd X w x v := by
      intro v x h
      unfold ofCell at h
      split at h <;> simp at h <;> subst h <;> first | rfl | exact ⟨_, rfl, rfl⟩
    have many : ∀ (vs : List Value) (xs : List AV), ofCells vs = some xs → VRs X β N w xs vs := by
      intro vs
      induction vs with
      | nil => intro xs h; simp [ofCells] at h; subst h; unfold VRs; trivial
      | cons v vs ih =>
        intro xs h
        simp only [ofCells] at h
        split at h <;> simp at h
        rename_i x1 xs1 h1 h2
        subst h
        unfold VRs
        exact ⟨by unfold VR; exact one v _ h1, ih _ h2⟩
    unfold ofValue at h
    split at h
    · rename_i cs
      simp at h
      obtain ⟨xs, h, rfl⟩ := h
      unfold VR
      exact ⟨cs, rfl, many _ _ h⟩
    · simp at h
      obtain ⟨x, h, rfl⟩ := h
      unfold VR
      exact one v x h
  | func f =>
    simp [compArg] at h
    subst h
    show VR X β N w (.fn f []) (.func (.func f) #[] #[])
    unfold VR
    exact ⟨#[], rfl, by unfold VRs; trivial⟩
  | global g => simp [compArg] at h

theorem compArgs_VR {P : Program} {X : Blocks} {β : Map} {N : Nat → Prop} {w : World} (a : Act) (env : Env) (henv : ∀ i, VR X β N w (env.getD i .top) (a.tmps.getD i undef)) :
    ∀ (xs : List Operand) (bs : List AArg), compArgs xs = some bs → VRs X β N w (bs.map (rdA env)) (xs.map a.eval)
  | [], bs, h => by simp [compArgs] at h; subst h; simp only [List.map_nil]; unfold VRs; trivial
  | x :: xs, bs, h => by
    simp only [compArgs] at h
    split at h <;> simp at h
    rename_i b bs' h1 h2
    subst h
    simp only [List.map_cons]
    unfold VRs
    exact ⟨compArg_VR (P := P) a env h1 henv, compArgs_VR (P := P) a env henv xs bs' h2⟩

theorem VRs.one {X : Blocks} {β : Map} {N : Nat → Prop} {w : World} {a : AV} {xs : List Value} (h : VRs X β N w [a] xs) : ∃ v, xs = [v] ∧ VR X β N w a v := by
  cases xs with
  | nil => unfold VRs at h; exact h.elim
  | cons v vs =>
    unfold VRs at h
    cases vs with
    | nil => exact ⟨v, rfl, h.1⟩
    | cons u us => have := h.2; unfold VRs at this; exact this.elim

theorem VRs.two {X : Blocks} {β : Map} {N : Nat → Prop} {w : World} {a b : AV} {xs : List Value} (h : VRs X β N w [a, b] xs) : ∃ v u, xs = [v, u] ∧ VR X β N w a v ∧ VR X β N w b u := by
  cases xs with
  | nil => unfold VRs at h; exact h.elim
  | cons v vs =>
    unfold VRs at h
    obtain ⟨u, rfl, hu⟩ := VRs.one h.2
    exact ⟨v, u, rfl, h.1, hu⟩

theorem VRs.nil {X : Blocks} {β : Map} {N : Nat → Prop} {w : World} {xs : List Value} (h : VRs X β N w [] xs) : xs = [] := by
  cases xs with
  | nil => rfl
  | cons v vs => unfold VRs at h; exact h.elim

theorem VRs.cons {X : Blocks} {β : Map} {N : Nat → Prop} {w : World} {a : AV} {as : List AV} {xs : List Value} (h : VRs X β N w (a :: as) xs) : ∃ v vs, xs = v :: vs ∧ VR X β N w a v ∧ VRs X β N w as vs := by
  cases xs with
  | nil => unfold VRs at h; exact h.elim
  | cons v vs => unfold VRs at h; exact ⟨v, vs, rfl, h.1, h.2⟩

theorem VR.d_iff {X : Blocks} {β : Map} {N : Nat → Prop} {w : World} {x : D} {v : Value} : VR X β N w (.d x) v ↔ VRd X w x v := by unfold VR; exact Iff.rfl
theorem VR.top_iff {X : Blocks} {β : Map} {N : Nat → Prop} {w : World} {v : Value} : VR X β N w .top v ↔ True := by unfold VR; exact Iff.rfl
theorem VR.agg_iff {X : Blocks} {β : Map} {N : Nat → Prop} {w : World} {cs : List AV} {v : Value} : VR X β N w (.agg cs) v ↔ ∃ vs, v = .agg vs ∧ VRs X β N w cs vs.toList := by unfold VR; exact Iff.rfl
theorem VR.tup_iff {X : Blocks} {β : Map} {N : Nat → Prop} {w : World} {cs : List AV} {v : Value} : VR X β N w (.tup cs) v ↔ ∃ vs, v = .tuple vs ∧ VRs X β N w cs vs.toList := by unfold VR; exact Iff.rfl
theorem VR.fn_iff {X : Blocks} {β : Map} {N : Nat → Prop} {w : World} {f : FuncId} {cs : List AV} {v : Value} : VR X β N w (.fn f cs) v ↔ ∃ vs, v = .func (.func f) #[] vs ∧ VRs X β N w cs vs.toList := by unfold VR; exact Iff.rfl
theorem VR.sr_iff {X : Blocks} {β : Map} {N : Nat → Prop} {w : World} {b off len sz : Nat} {cap : Option Nat} {v : Value} : VR X β N w (.sr b off len sz cap) v ↔ srOK β N w b off len sz cap v := by unfold VR; exact Iff.rfl
theorem VR.ptr_iff {X : Blocks} {β : Map} {N : Nat → Prop} {w : World} {b off : Nat} {v : Value} : VR X β N w (.ptr b off) v ↔ N b ∧ ∃ c, β b = some c ∧ v = .pointer (some ⟨c, off, none⟩) := by unfold VR; exact Iff.rfl
theorem VR.eptr_iff {X : Blocks} {β : Map} {N : Nat → Prop} {w : World} {b i sz off : Nat} {v : Value} : VR X β N w (.eptr b i sz off) v ↔ N b ∧ ∃ c, β b = some c ∧ v = .pointer (some ⟨c, i * sz + off, none⟩) := by unfold VR; exact Iff.rfl
theorem VR.cptr_iff {X : Blocks} {β : Map} {N : Nat → Prop} {w : World} {cs : List D} {off : Nat} {v : Value} : VR X β N w (.cptr cs off) v ↔ cpOK X w cs off v := by unfold VR; exact Iff.rfl

theorem VR.snil_iff {X : Blocks} {β : Map} {N : Nat → Prop} {w : World} {b : Nat} {T : TypeId} {v : Value} : VR X β N w (.snil b T) v ↔ N b ∧ v = .pointer none ∧ ∃ c arr fz, β b = some c ∧ w.heap[c]? = some (.cells arr T fz) := by unfold VR; exact Iff.rfl
theorem VR.ifc_iff {X : Blocks} {β : Map} {N : Nat → Prop} {w : World} {T : TypeId} {v : Value} : VR X β N w (.ifc T) v ↔ ∃ u, v = .iface T u := by unfold VR; exact Iff.rfl

/-- One cell. -/
theorem VR.oneCell {X : Blocks} {β : Map} {N : Nat → Prop} {w : World} {a : AV} {v : Value} (h : VR X β N w a v) (hc : a.isCell = true) : v.oneCell' = true := by
  cases a with
  | top => simp [AV.isCell] at hc
  | agg _ => simp [AV.isCell] at hc
  | tup _ => simp [AV.isCell] at hc
  | d x => exact VRd.oneCell (VR.d_iff.1 h)
  | sr b off len sz cap =>
    obtain ⟨_, _, h⟩ := VR.sr_iff.1 h
    rcases h with ⟨_, rfl, _⟩ | ⟨c, k, _, rfl, _⟩ <;> rfl
  | ptr b off => obtain ⟨_, c, _, rfl⟩ := VR.ptr_iff.1 h; rfl
  | eptr b i sz off => obtain ⟨_, c, _, rfl⟩ := VR.eptr_iff.1 h; rfl
  | cptr cs off => obtain ⟨c, base, _, _, rfl, _⟩ := VR.cptr_iff.1 h; rfl
  | fn f cs => obtain ⟨vs, rfl, _⟩ := VR.fn_iff.1 h; rfl
  | snil b T => obtain ⟨_, rfl, _⟩ := VR.snil_iff.1 h; rfl
  | ifc T => obtain ⟨u, rfl⟩ := VR.ifc_iff.1 h; rfl

section
variable {P : Program} {X : Blocks} {β : Map} {N : Nat → Prop} {w : World} {L : Looks} {al : Nat} {ρ : Operand → Value} {o : Oper}

theorem does_mv {x : Operand} (ho : o.op = .move x ∨ o.op = .assign x) (hS : SimB X β N w L) {a : AV} (ha : VR (All X β L) β N w a (ρ x)) :
    Does P o ρ w (Step X β N w L al L a) := by
  refine ⟨ρ x, w, .inl ?_, Step.same hS ha⟩
  rcases ho with ho | ho <;> simp [execOp, ho]

theorem does_pick {c x y : Operand} (ho : o.op = .pick c x y) (hS : SimB X β N w L) {t : Bool} (hc : ρ c = .bool t) {a b : AV} (ha : VR (All X β L) β N w a (ρ x)) (hb : VR (All X β L) β N w b (ρ y)) :
    Does P o ρ w (Step X β N w L al L (cond t a b)) := by
  refine ⟨if t then ρ x else ρ y, w, .inl ?_, Step.same hS ?_⟩
  · simp [execOp, ho, hc, asBool]
  · cases t
    · exact hb
    · exact ha

theorem cells_VR {a : AV} {v : Value} (h : VR X β N w a v) (hc : a.cells.all AV.isCell = true) : VRs X β N w a.cells v.cells.toList ∧ ∀ u ∈ v.cells.toList, u.oneCell' = true := by
  have key : ∀ (cs : List AV) (us : List Value), VRs X β N w cs us → cs.all AV.isCell = true → ∀ u ∈ us, u.oneCell' = true := by
    intro cs us hv hall u hu
    obtain ⟨j, hj, rfl⟩ := List.mem_iff_getElem.1 hu
    have hlen := VRs.len cs us hv
    have hc := VRs.get cs us hv j cs[j] us[j] (List.getElem?_eq_getElem (by omega)) (List.getElem?_eq_getElem hj)
    exact VR.oneCell hc (by simp at hall; exact hall _ (List.getElem_mem _))
  cases a with
  | agg cs =>
    obtain ⟨vs, rfl, hv⟩ := VR.agg_iff.1 h
    exact ⟨hv, key cs _ hv hc⟩
  | top => simp [AV.cells, AV.isCell] at hc
  | tup _ => simp [AV.cells, AV.isCell] at hc
  | _ =>
    have h1 := VR.oneCell h rfl
    have e : v.cells = #[v] := by cases v <;> first | rfl | simp [Value.oneCell'] at h1
    rw [e]
    simp only [AV.cells]
    refine ⟨?_, by simpa using h1⟩
    unfold VRs
    exact ⟨h, by unfold VRs; trivial⟩

theorem box_new {cs : List AV} {us : Array Value} {e : TypeId} (hS : SimB X β N w L) (hal : ¬ N al) (hv : VRs (All X β L) β N w cs us.toList) (h1 : ∀ u ∈ us.toList, u.oneCell' = true) :
    Step X β N w L al (updL L al (.cells cs)) (.ptr al 0) (.pointer (some ⟨w.heap.size, 0, none⟩)) (w.alloc (.cells us e)) := by
  refine Step.new hS hal (by simp) fun β' N' mv e1 e2 => ⟨⟨w.heap.size, us, e, e1, heap_new _ _, ?_, ?_⟩, ?_⟩
  · have := VRs.len _ _ hv; simpa using this.symm
  · intro j a v ha hv'
    refine ⟨(VRs.get _ _ hv j a v ha (by simpa using hv')).move mv, h1 v ?_⟩
    exact List.mem_of_getElem? (by simpa using hv' : us.toList[j]? = some v)
  · exact VR.ptr_iff.2 ⟨e2, _, e1, rfl⟩

theorem does_box {e : TypeId} {x : Operand} (ho : o.op = .box e x) (hS : SimB X β N w L) (hal : ¬ N al) {a : AV} (ha : VR (All X β L) β N w a (ρ x)) (hc : a.cells.all AV.isCell = true) :
    Does P o ρ w (Step X β N w L al (updL L al (.cells a.cells)) (.ptr al 0)) := by
  obtain ⟨h1, h2⟩ := cells_VR ha hc
  refine ⟨_, _, .inl ?_, box_new (e := e) hS hal h1 h2⟩
  simp [execOp, ho, Instr.box, newVar, newRow]

theorem ofCell_VRd : ∀ (v : Value) (x : D), ofCell v = some x → VRd X w x v := by
  intro v x h
  unfold ofCell at h
  split at h <;> simp at h <;> subst h <;> first | rfl | exact ⟨_, rfl, rfl⟩

theorem ofCells_VRs : ∀ (vs : List Value) (xs : List AV), ofCells vs = some xs → VRs X β N w xs vs ∧ ∀ u ∈ vs, u.oneCell' = true := by
  intro vs
  induction vs with
  | nil => intro xs h; simp [ofCells] at h; subst h; exact ⟨by unfold VRs; trivial, by simp⟩
  | cons v vs ih =>
    intro xs h
    simp only [ofCells] at h
    split at h <;> simp at h
    rename_i x1 xs1 h1 h2
    subst h
    have hd := ofCell_VRd (X := X) (w := w) v _ h1
    refine ⟨?_, ?_⟩
    · unfold VRs
      exact ⟨VR.d_iff.2 hd, (ih _ h2).1⟩
    · intro u hu
      rcases List.mem_cons.1 hu with rfl | hu
      · exact VRd.oneCell hd
      · exact (ih _ h2).2 u hu

theorem zeroAVs_run {e : TypeId} {zs : List AV} (h : zeroAVs P e = some zs) : ∃ i z, P.info? e = some i ∧ i.zero = some z ∧ ofCells z.cells.toList = some zs := by
  unfold zeroAVs at h
  split at h
  · rename_i i hi
    split at h
    · rename_i z hz; exact ⟨i, z, hi, hz, h⟩
    · cases h
  · cases h

theorem does_alloc {e : TypeId} (ho : o.op = .alloc e) (hS : SimB X β N w L) (hal : ¬ N al) {zs : List AV} (hz : zeroAVs P e = some zs) :
    Does P o ρ w (Step X β N w L al (updL L al (.cells zs)) (.ptr al 0)) := by
  obtain ⟨i, z, h1, h2, h3⟩ := zeroAVs_run hz
  obtain ⟨h4, h5⟩ := ofCells_VRs (X := All X β L) (β := β) (N := N) (w := w) _ _ h3
  refine ⟨_, _, .inl ?_, box_new (us := z.cells) (e := e) hS hal h4 h5⟩
  simp [execOp, ho, Instr.alloc, newVar, newRow, zeroValue, typeInfo, h1, h2]

theorem does_nilArr {x : Operand} {t : Ty} (ho : o.op = .assign x) (hx : ρ x = .slice none 0 0) (hS : SimB X β N w L) (hal : ¬ N al) (ht : 0 < t.size) :
    Does P o ρ w (Step X β N w L al (updL L al (.arr t [] true)) (.sr al 0 0 t.size none)) := by
  have hd : L al = .dead := by
    cases hl : L al with
    | dead => rfl
    | _ => exact (hal (hS.dom al (by rw [hl]; simp))).elim
  refine ⟨.slice none 0 0, w, .inl (by simp [execOp, ho, hx]), ?_⟩
  let β' : Map := fun b => if b = al then none else β b
  let N' : Nat → Prop := fun b => N b ∨ b = al
  have hβ : ∀ b, N b → N' b ∧ β' b = β b := fun b hb => ⟨.inl hb, if_neg fun (e : b = al) => hal (e ▸ hb)⟩
  have hne : ∀ b, (updL L al (.arr t [] true) b).live = true → β' b ≠ none → (L b).live = true ∧ β' b = β b ∧ b ≠ al := by
    intro b h1 h2
    by_cases e : b = al
    · exact (h2 (if_pos e)).elim
    · exact ⟨by simpa [updL, e] using h1, if_neg e, e⟩
  have hown : ∀ c, Own β' (updL L al (.arr t [] true)) c → Own β L c := by
    rintro c ⟨b, h1, h2⟩
    obtain ⟨g1, g2, _⟩ := hne b h1 (by rw [h2]; simp)
    exact ⟨b, g1, by rw [← g2]; exact h2⟩
  have hf : Fr (Own β L) w (Own β' (updL L al (.arr t [] true))) w := ⟨rfl, rfl, rfl, Nat.le_refl _, fun c hc h => ⟨fun h' => h (hown c h'), rfl⟩, fun c arr e fz h => ⟨arr, fz, h, rfl⟩⟩
  have mv := mv_of (X := X) hf hβ
  refine ⟨β', N', ⟨fun c h => hS.apart c (hown c h), ?_, ?_, ?_, hS.old, hS.tabs' hf⟩, ?_, hf, hβ, ?_⟩
  · intro b b' c l1 l2 e1 e2
    obtain ⟨g1, g2, _⟩ := hne b l1 (by rw [e1]; simp)
    obtain ⟨k1, k2, _⟩ := hne b' l2 (by rw [e2]; simp)
    exact hS.inj b b' c g1 k1 (by rw [← g2]; exact e1) (by rw [← k2]; exact e2)
  · intro b
    by_cases e : b = al
    · subst e
      rw [show updL L b (.arr t [] true) b = .arr t [] true from if_pos rfl]
      exact ⟨ht, .inl ⟨if_pos rfl, rfl⟩⟩
    · rw [show updL L al (.arr t [] true) b = L b from if_neg e]
      by_cases hl : L b = .dead
      · rw [hl]; trivial
      · exact (hS.box b).move mv (hS.dom b hl) fun _ _ _ => rfl
  · intro b hl
    by_cases e : b = al
    · exact .inr e
    · exact .inl (hS.dom b (by simpa [updL, e] using hl))
  · exact VR.sr_iff.2 ⟨.inr rfl, ht, .inl ⟨if_pos rfl, rfl, rfl, rfl, rfl⟩⟩
  · rintro b (hb | rfl)
    · exact .inl hb
    · exact .inr ⟨Nat.le_refl _, by simp [room], by simp [updL]⟩

theorem does_fld {s f : Nat} {x : Operand} {fs : Array Field} {fd : Field} {n : Nat} (ho : o.op = .fieldAddr s x f) (hu : P.underlying s = some (.struct fs)) (hf : fs[f]? = some fd)
    (hn : sizeT P fd.type = some n) (h0 : n ≠ 0) (hS : SimB X β N w L) {c off : Nat} (hx : ρ x = .pointer (some ⟨c, off, none⟩)) {val : AV} (hv : VR (All X β L) β N w val (.pointer (some ⟨c, off + fd.offset, none⟩))) :
    Does P o ρ w (Step X β N w L al L val) := by
  refine ⟨_, w, .inl ?_, Step.same hS hv⟩
  unfold sizeT at hn
  cases hi : P.info? fd.type with
  | none => simp [hi] at hn
  | some i =>
    have h2 : i.size = n := by simpa [hi] using hn
    have h3 : i.size ≠ 0 := by omega
    simp [execOp, ho, hx, Instr.fieldAt, run_underlying hu, hf, Instr.sureAddr, fieldPlace, sizeOf, typeInfo, hi, h3, Addr.add_mid]

theorem does_chk {x : Operand} (ho : o.op = .nilCheck x) (hS : SimB X β N w L) {a : AV} (ha : VR (All X β L) β N w a (ρ x)) (hk : ∃ q, ρ x = .pointer (some q) ∨ ∃ f cs, ρ x = .func (.func f) #[] cs) :
    Does P o ρ w (Step X β N w L al L a) := by
  refine ⟨ρ x, w, .inl ?_, Step.same hS ha⟩
  obtain ⟨q, hq | ⟨f, cs, hq⟩⟩ := hk <;> simp [execOp, ho, hq]

theorem does_ext {x : Operand} {i : Nat} (ho : o.op = .extract x i) (hS : SimB X β N w L) {vs : List AV} {a : AV} (hx : VR (All X β L) β N w (.tup vs) (ρ x)) (hi : vs[i]? = some a) :
    Does P o ρ w (Step X β N w L al L a) := by
  obtain ⟨us, hu, hv⟩ := VR.tup_iff.1 hx
  have hl := VRs.len _ _ hv
  have hlt : i < vs.length := (List.getElem?_eq_some_iff.1 hi).1
  have hg : us[i]? = some us[i] := Array.getElem?_eq_getElem (by simp at hl; omega)
  refine ⟨us[i]'(by simp at hl; omega), w, .inl ?_, Step.same hS (VRs.get _ _ hv i a _ hi (by simp))⟩
  simp [execOp, ho, hu, Instr.extract, hg]

end

end Go.Ev
