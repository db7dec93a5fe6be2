/- The evaluator's operations are the model's: what reckons. No condition. -/
import Derived.Test.YtnmakkgomplchaaGreatDoorEvG
namespace Go.Ev
set_option linter.unusedVariables false
set_option linter.unusedSimpArgs false
set_option linter.unusedSectionVars false
variable [Ctx]
section
variable {P : Program} {X : Blocks} {β : Map} {N : Nat → Prop} {w : World} {L : Looks} {al : Nat} {ρ : Operand → Value} {o : Oper}

theorem VRd.int_iff {Y : Blocks} {k : IntKind} {n : Int} {v : Value} : VRd Y w (.int k n) v ↔ v = .int k n := Iff.rfl
theorem VRd.bool_iff {Y : Blocks} {b : Bool} {v : Value} : VRd Y w (.bool b) v ↔ v = .bool b := Iff.rfl

theorem does_elm_sl {t x i : Nat} {xo io : Operand} {e : TypeId} (ho : o.op = .indexAddr t xo io) (hu : P.underlying t = some (.slice e)) {ty : Ty} (hn : sizeT P e = some ty.size) (hS : SimB X β N w L)
    {l : List ty.den} {k : IntKind} {n : Int} (hx : VR (All X β L) β N w (.d (.sl ty l)) (ρ xo)) (hi : ρ io = .int k n) (h0 : 0 ≤ n) (h1 : n < (l.length : Int)) :
    Does P o ρ w (Step X β N w L al L (.cptr (encC ty (l.getD n.toNat ty.dflt)) 0)) := by
  obtain ⟨inf, hinf, hsz⟩ := sizeT_info hn
  have hr : RD (All X β L) w (.sl ty) l (fun _ => some (ρ xo)) := VR.d_iff.1 hx
  obtain ⟨v, e1, h⟩ := RD.slice hr
  cases e1
  have hlt : n.toNat < l.length := by omega
  rcases h with ⟨_, _, _, _, rfl⟩ | ⟨c, off, cap, hv, hc, hb, hX, hl⟩
  · simp at hlt
  · refine ⟨.pointer (some ⟨c, off + n.toNat * ty.size, none⟩), w, .inl ?_, Step.same hS (VR.cptr_iff.2 ⟨c, off + n.toNat * ty.size, hb, hX, by simp, fun j d hd => ?_⟩)⟩
    · simp [execOp, ho, hv, hi, Instr.indexAt, asIntOf, run_underlying hu, sizeOf, typeInfo, hinf, h0, h1, hsz, Addr.add_mid]
    · have hg : l.getD n.toNat ty.dflt = l[n.toNat] := by simp [List.getD_eq_getElem?_getD, List.getElem?_eq_getElem hlt]
      rw [hg] at hd
      obtain ⟨u, hu, hr⟩ := RD.cells (hl n.toNat hlt) j d hd
      exact ⟨u, hu, hr⟩

theorem does_elm_sr {t : TypeId} {xo io : Operand} {e : TypeId} (ho : o.op = .indexAddr t xo io) (hu : P.underlying t = some (.slice e)) {b off len sz : Nat} {cap : Option Nat} (hn : sizeT P e = some sz) (hS : SimB X β N w L)
    {k : IntKind} {n : Int} (hx : VR (All X β L) β N w (.sr b off len sz cap) (ρ xo)) (hi : ρ io = .int k n) (h0 : 0 ≤ n) (h1 : n < (len : Int)) :
    Does P o ρ w (Step X β N w L al L (.eptr b (off + n.toNat) sz 0)) := by
  obtain ⟨inf, hinf, hsz⟩ := sizeT_info hn
  obtain ⟨hN, hs, h⟩ := VR.sr_iff.1 hx
  rcases h with ⟨_, _, _, rfl, _⟩ | ⟨c, kk, hc, hv, hle, hk, arr, e', fz, ha, hb⟩
  · simp at h1; omega
  · refine ⟨.pointer (some ⟨c, off * sz + n.toNat * sz, none⟩), w, .inl ?_, Step.same hS (VR.eptr_iff.2 ⟨hN, c, hc, by rw [Nat.add_mul]; simp⟩)⟩
    simp [execOp, ho, hv, hi, Instr.indexAt, asIntOf, run_underlying hu, sizeOf, typeInfo, hinf, h0, h1, hsz, Addr.add_mid]

theorem does_chr {t : TypeId} {xo io : Operand} (ho : o.op = .index t xo io) (hu : P.underlying t = some .string) (hS : SimB X β N w L) {l : List UInt8} {k : IntKind} {n : Int}
    (hx : VR (All X β L) β N w (.d (.str l)) (ρ xo)) (hi : ρ io = .int k n) (h0 : 0 ≤ n) (h1 : n < (l.length : Int)) :
    Does P o ρ w (Step X β N w L al L (.d (.int .u8 ((l.getD n.toNat 0).toNat : Nat)))) := by
  obtain ⟨s, hs, rfl⟩ := VR.d_iff.1 hx
  have hlt : n.toNat < s.data.toList.length := by omega
  have hlt' : n.toNat < s.size := by simpa using hlt
  refine ⟨.int .u8 ((s.data.toList.getD n.toNat 0).toNat : Nat), w, .inl ?_, Step.same hS (VR.d_iff.2 rfl)⟩
  have hg : s[n.toNat]? = some s[n.toNat] := by simp [hlt']
  have hg2 : s.data.toList.getD n.toNat 0 = s[n.toNat] := by
    rw [List.getD_eq_getElem?_getD, List.getElem?_eq_getElem hlt]
    rfl
  simp [execOp, ho, hs, hi, Instr.index, asIntOf, run_underlying hu, h0, hg]
  rw [show s.data[n.toNat]?.getD 0 = s[n.toNat] by simpa [List.getD_eq_getElem?_getD] using hg2]

theorem does_len {c : Call} {t : TypeId} {xo : Operand} (ho : o.op = .call c) (hcal : c.callee = .builtin .len) (ha : c.args.toList = [xo]) (ht : c.argTypes[0]? = some t)
    (hu : (∃ e, P.underlying t = some (.slice e)) ∨ P.underlying t = some .string) (hS : SimB X β N w L) {a : AV} {n : Nat} (hx : VR (All X β L) β N w a (ρ xo))
    (hn : (P.underlying t = some .string ∧ ∃ l, a = .d (.str l) ∧ n = l.length) ∨ ((∃ e, P.underlying t = some (.slice e)) ∧ ∃ q k, ρ xo = .slice q n k)) :
    Does P o ρ w (Step X β N w L al L (.d (.int .i64 (n : Nat)))) := by
  have ha' : c.args = #[xo] := by rw [← Array.toArray_toList (xs := c.args), ha]
  refine ⟨.int .i64 (n : Nat), w, .inl ?_, Step.same hS (VR.d_iff.2 rfl)⟩
  rcases hn with ⟨hu, l, rfl, rfl⟩ | ⟨⟨e, hu⟩, q, k, hq⟩
  · obtain ⟨s, hs, rfl⟩ := VR.d_iff.1 hx
    simp [execOp, ho, resolve, hcal, ha', invoke, builtin, Builtin.len_, ht, hs, run_underlying hu, goInt]
  · simp [execOp, ho, resolve, hcal, ha', invoke, builtin, Builtin.len_, ht, hq, run_underlying hu, goInt]

theorem run_eqGuard_int (op : BinOp) (t : TypeId) (x y : Operand) (a b : Value) (h : (∀ cs, a ≠ .agg cs) ∧ a ≠ .nilIface) : (eqGuard op t x y a b).run P w = .ok () w := by
  cases a <;> first | exact absurd rfl h.2 | exact absurd rfl (h.1 _) | (cases op <;> rfl)

theorem does_bin_int {op : BinOp} {t yt : TypeId} {xo yo : Operand} (ho : o.op = .binOp op t xo yo yt) (hS : SimB X β N w L) {k : IntKind} {m n : Int} (hx : ρ xo = .int k m) (hy : ρ yo = .int k n)
    (hsh : op ≠ .shl ∧ op ≠ .shr) {r : D} (hr : (aInt op k m n).run = some r) : Does P o ρ w (Step X β N w L al L (.d r)) := by
  have hg := run_eqGuard_int (P := P) (w := w) op t xo yo (.int k m) (.int k n) ⟨by simp, by simp⟩
  cases op <;> simp only [aInt, M.run, M.run_chk, Option.some.injEq, Bool.not_eq_true', decide_eq_false_iff_not] at hr <;> first
    | (exfalso; exact hsh.1 rfl)
    | (exfalso; exact hsh.2 rfl)
    | (subst hr; refine ⟨_, w, .inl ?_, Step.same hS (VR.d_iff.2 rfl)⟩; simp [execOp, ho, hx, hy, Sem.run_bind, hg, Go.binOp, Op.intArith, Op.intDiv, Op.intBits, Op.intCmp]; done)
    | (obtain ⟨h0, rfl⟩ := hr; refine ⟨_, w, .inl ?_, Step.same hS (VR.d_iff.2 rfl)⟩; simp [execOp, ho, hx, hy, Sem.run_bind, hg, Go.binOp, Op.intArith, Op.intDiv, Op.intBits, Op.intCmp, h0]; done)

theorem does_bin_shift {op : BinOp} {t yt : TypeId} {xo yo : Operand} (ho : o.op = .binOp op t xo yo yt) (hS : SimB X β N w L) {k k' : IntKind} {m n : Int} (hx : ρ xo = .int k m) (hy : ρ yo = .int k' n)
    {r : D} (hr : (aShift op k m n).run = some r) : Does P o ρ w (Step X β N w L al L (.d r)) := by
  have hg := run_eqGuard_int (P := P) (w := w) op t xo yo (.int k m) (.int k' n) ⟨by simp, by simp⟩
  cases op <;> simp only [aShift, M.run, M.run_chk, Option.some.injEq, decide_eq_true_eq, reduceCtorEq] at hr
  · obtain ⟨h0, rfl⟩ := hr
    have h0' : ¬ n < 0 := by omega
    refine ⟨_, w, .inl ?_, Step.same hS (VR.d_iff.2 rfl)⟩
    simp [execOp, ho, hx, hy, Sem.run_bind, hg, Go.binOp, Op.shift, h0']
  · obtain ⟨h0, rfl⟩ := hr
    have h0' : ¬ n < 0 := by omega
    refine ⟨_, w, .inl ?_, Step.same hS (VR.d_iff.2 rfl)⟩
    simp [execOp, ho, hx, hy, Sem.run_bind, hg, Go.binOp, Op.shift, h0']

theorem ba_toList (s : ByteArray) : s.toList = s.data.toList := by
  have loop : ∀ (d i : Nat) (acc : List UInt8), s.size - i = d → ByteArray.toList.loop s i acc = acc.reverse ++ s.data.toList.drop i := by
    intro d
    induction d with
    | zero =>
      intro i acc hd
      unfold ByteArray.toList.loop
      rw [if_neg (by omega), List.drop_eq_nil_of_le (by simp; exact Nat.le_of_sub_eq_zero hd)]
      simp
    | succ d ih =>
      intro i acc hd
      unfold ByteArray.toList.loop
      have hi : i < s.size := by omega
      rw [if_pos hi, ih (i + 1) _ (by omega)]
      have : s.data.toList.drop i = s.get! i :: s.data.toList.drop (i + 1) := by
        rw [List.drop_eq_getElem_cons (by simpa using hi)]
        congr 1
        simp [ByteArray.get!, Array.getElem!_eq_getD, Array.getD, hi]
      rw [this]
      simp
  have := loop s.size 0 [] (by omega)
  simpa [ByteArray.toList] using this

theorem ba_append (a b : ByteArray) : (a ++ b).data.toList = a.data.toList ++ b.data.toList := by
  rw [ByteArray.data_append]
  simp

theorem does_bin_str {op : BinOp} {t yt : TypeId} {xo yo : Operand} (ho : o.op = .binOp op t xo yo yt) (hS : SimB X β N w L) {l m : List UInt8} (hx : VR (All X β L) β N w (.d (.str l)) (ρ xo)) (hy : VR (All X β L) β N w (.d (.str m)) (ρ yo))
    {r : D} (hr : (aStr op l m).run = some r) : Does P o ρ w (Step X β N w L al L (.d r)) := by
  obtain ⟨a, ha, rfl⟩ := VR.d_iff.1 hx
  obtain ⟨b, hb, rfl⟩ := VR.d_iff.1 hy
  have hg := run_eqGuard_int (P := P) (w := w) op t xo yo (.string a) (.string b) ⟨by simp, by simp⟩
  cases op <;> simp only [aStr, M.run, M.run_chk, Option.some.injEq, decide_eq_true_eq, reduceCtorEq] at hr
  case add =>
    obtain ⟨h0, rfl⟩ := hr
    refine ⟨.string (a ++ b), w, .inl ?_, Step.same hS (VR.d_iff.2 ⟨_, rfl, ba_append a b⟩)⟩
    have h1 : (a.size : Int) + (b.size : Int) ≤ 9223372036854775807 := by
      have : a.size + b.size ≤ 4611686018427387904 := by simpa using h0
      omega
    simp [execOp, ho, ha, hb, Sem.run_bind, hg, Go.binOp, Op.stringOp, h1]
  all_goals
    subst hr
    refine ⟨_, w, .inl ?_, Step.same hS (VR.d_iff.2 rfl)⟩
    simp [execOp, ho, ha, hb, Sem.run_bind, hg, Go.binOp, Op.stringOp, ba_toList]

end
end Go.Ev
