/- append of so many zeros, where there is no room. No condition. -/
import Derived.Test.YtnmakkgomplchaaGreatDoorEvR
namespace Go.Ev
set_option linter.unusedVariables false
set_option linter.unusedSimpArgs false
set_option linter.unusedSectionVars false
variable [Ctx]
section app
variable {P : Program} {X : Blocks} {β : Map} {N : Nat → Prop} {w : World} {L : Looks} {al : Nat} {ρ : Operand → Value} {o : Oper} {B : Boxes}
variable {c : Call} {xo yo : Operand} {t u e : TypeId} {ty : Ty} {by_ : Nat} {byref : FuncId → Bool} {call : Caller} {as : List AV} {res : Res}

theorem run_append_growz (t u ty e : TypeId) (i : TypeInfo) (z : Value) {ku : IntKind} (ht : P.underlying t = some (.slice e)) (hu : P.underlying u = some (.int ku)) (hi : P.info? e = some i) (hz : i.zero = some z) (hzs : z.cells.size = i.size) (hs0 : 0 < i.size)
    (base : Option Addr) (sLen sCap n : Nat) (olds : Array Value) (hold : (Builtin.firstCells i.size sLen (.slice base sLen sCap)).run P w.drew = .ok olds w.drew)
    (hn1 : 0 < n) (hg : sCap < sLen + n) (h63 : sLen + n ≤ 70368744177664) (hfit : (sLen + n) * i.bytes ≤ 70368744177664) :
    (Builtin.append_ #[t, u] ty #[.slice base sLen sCap, .int .i64 n]).run P w =
      .ok (.slice (some ⟨w.heap.size, 0, none⟩) (sLen + n) (grownCap w (sLen + n) sCap e))
        (w.drew.alloc (.cells (olds ++ Builtin.zeroCells z.cells n ++ Builtin.zeroCells z.cells (grownCap w (sLen + n) sCap e - (sLen + n))) e)) := by
  have hn : ¬ (sLen + n ≤ sCap) := by omega
  have h63' : ¬ (9223372036854775807 < ((sLen : Int) + (n : Int))) := by omega
  have h48' : ¬ (281474976710656 < Builtin.nextslicecap (sLen + n) sCap * i.bytes) := by have := growslice_fits hg (show (sLen + n) * i.bytes ≤ 140737488355328 by omega); omega
  have hw : IntKind.i64.wrap (n : Int) = (n : Int) := by rw [IntKind.wrap_i64]; omega
  have hneg : ¬ ((n : Int) < 0) := by omega
  have hbig : ¬ (281474976710656 < (n : Int) * (i.bytes : Int)) := by
    have h1 : n * i.bytes ≤ (sLen + n) * i.bytes := Nat.mul_le_mul_right _ (by omega)
    have h2 : (n : Int) * (i.bytes : Int) = ((n * i.bytes : Nat) : Int) := by simp
    rw [h2]; omega
  have hns : ¬ (n * i.size = 0) := Nat.pos_iff_ne_zero.1 (Nat.mul_pos hn1 hs0)
  simp [Builtin.append_, run_underlying ht, run_underlying hu, sizeOf, typeInfo, zeroValue, hi, hz, asInt, asIntOf, hw, hneg, hbig, hn, h63', h48', Question.forced, hold, hns, newRow, grownCap]

theorem app_newz {ku : IntKind} (ho : o.op = .call c) (hc : c.callee = .builtin .append) (ha : c.args.toList = [xo, yo]) (ht : c.argTypes.toList = [t, u]) (hu : P.underlying t = some (.slice e)) (hui : P.underlying u = some (.int ku)) (h0 : 0 < ty.size) (hn : sizeT P e = some ty.size) (hz : zeroT P e ty = true)
    (hby : bytesT P e = some by_) (hbp : 0 < by_) (hS : SimB X β N w L) (hal : ¬ N al) (htag : Ctx.tag ty e) {base : Option Addr} {len k n : Nat} {olds : Array Value} {l0 : List ty.den}
    (hv : ρ xo = .slice base len k) (hy : ρ yo = .int .i64 n) (hold : (Builtin.firstCells ty.size len (.slice base len k)).run P w.drew = .ok olds w.drew) (hl0 : l0.length = len) (hosz : olds.size = len * ty.size)
    (hord : ∀ i (hi : i < l0.length), RD (All X β L) w ty l0[i] (fun j => olds[i * ty.size + j]?)) (hn1 : 0 < n)
    (hg : k < len + n) (hfit : (len + n) * by_ ≤ 70368744177664) :
    Does P o ρ w (Step X β N w L al (updL L al (.arr ty (l0 ++ List.replicate n ty.dflt) true)) (.sr al 0 (len + n) ty.size none)) := by
  obtain ⟨inf, z, hi1, hz', hzs, hz4, hz5⟩ := zeroT_run hz
  have hi2 : inf.size = ty.size := by obtain ⟨i', hi', hs⟩ := sizeT_info hn; rw [hi1] at hi'; cases hi'; exact hs
  have hbs : inf.bytes = by_ := by simpa [bytesT, hi1] using hby
  have hlen : len + n ≤ 70368744177664 := Nat.le_trans (Nat.le_mul_of_pos_right _ hbp) hfit
  have hrun := run_append_growz (P := P) (w := w) t u o.type e inf z hu hui hi1 hz' (by rw [hi2]; exact hzs) (by rw [hi2]; exact h0) base len k n olds (by rw [hi2]; exact hold) hn1 hg hlen (by rw [hbs]; exact hfit)
  have hge := grownCap_ge' (w := w) (len + n) k e
  have hrow := zeroRow (Y := All X β L) (w := w) hzs h0 hz4 hz5 n (n * ty.size) (Nat.le_refl _)
  have hzl : (Builtin.zeroCells z.cells n).size = n * ty.size := by simp [Builtin.zeroCells, hzs]
  refine ⟨.slice (some ⟨w.heap.size, 0, none⟩) (len + n) (grownCap w (len + n) k e),
    w.drew.alloc (.cells (olds ++ Builtin.zeroCells z.cells n ++ Builtin.zeroCells z.cells (grownCap w (len + n) k e - (len + n))) e), .inl (exec_append ho hc ha ht (by rw [hv, hy]; exact hrun)), ?_⟩
  refine newArr (w := w.drew) (w0 := w) rfl hS rfl rfl rfl hal htag h0 hge (fun k' h => by cases h) ?_ ?_ ?_
  · simp only [Array.size_append, hosz, hzl, Builtin.zeroCells, Array.size_map, Array.size_range, hzs, ← Nat.add_mul]
    exact Nat.mul_le_mul_right _ (by omega)
  · simp only [Array.size_append, hosz, hzl, List.length_append, List.length_replicate, hl0, ← Nat.add_mul]
    omega
  · refine grown_RD (Y := All X β L) (w := w) (l := l0) (ys := List.replicate n ty.dflt) (olds := olds) (news := Builtin.zeroCells z.cells n) (by rw [hosz, hl0]) (by simpa using hzl) hord fun i hi => (hrow.1 i hi).congr fun j hj => ?_
    simp only [List.length_replicate] at hi
    have hlt : i * ty.size + j < n * ty.size := elem_lt hi hj
    have e1 : (Array.range (n * z.cells.size))[i * ty.size + j]? = some (i * ty.size + j) := by rw [hzs, Array.getElem?_eq_getElem (by simpa using hlt)]; simp
    simp [Builtin.zeroCells, e1, List.getElem?_range hlt]

theorem does_appz {ku : IntKind} (ho : o.op = .call c) (hc : c.callee = .builtin .append) (ha : c.args.toList = [xo, yo]) (ht : c.argTypes.toList = [t, u]) (hu : P.underlying t = some (.slice e)) (hui : P.underlying u = some (.int ku)) (hn : sizeT P e = some ty.size) (h0 : 0 < ty.size)
    (hby : bytesT P e = some by_) (hbp : 0 < by_) (hz : zeroT P e ty = true) (hS : SimB X β N w (look B)) (hal : ¬ N al) (htag : Ctx.tag ty e) {b off len k n : Nat} {l : List ty.den} {live : Bool} (hx : VR (All X β (look B)) β N w (.sr b off len ty.size (some k)) (ρ xo)) (hL : look B b = .arr ty l live)
    (hle : off + len ≤ l.length) (hy : ρ yo = .int .i64 n) (hb : (len + n) * by_ ≤ 70368744177664) (hroom : k < len + n) :
    Does P o ρ w (Step X β N w (look B) al (updL (look B) al (.arr ty ((l.drop off).take len ++ List.replicate n ty.dflt) true)) (.sr al 0 (len + n) ty.size none)) := by
  obtain ⟨hN, hs, h⟩ := VR.sr_iff.1 hx
  have hbx := hS.box b
  rw [hL] at hbx
  obtain ⟨_, hbx⟩ := hbx
  rcases h with ⟨_, _, _, _, hcap⟩ | ⟨cc, k', hβ, hv, hk, hkk, arr0, e0, fz0, ha0, hsz0⟩
  · cases hcap
  have := hkk k rfl
  subst this
  rcases hbx with ⟨g1, _⟩ | ⟨c', arr, e', g1, g2, g3, g4, g5⟩
  · rw [hβ] at g1; cases g1
  rw [hβ] at g1; cases g1
  rw [ha0] at g2; cases g2
  have hlt : ∀ q, q < len * ty.size → off * ty.size + q < arr0.size := by
    intro q hq
    have : (off + len) * ty.size ≤ l.length * ty.size := Nat.mul_le_mul_right _ hle
    rw [Nat.add_mul] at this; omega
  have hold := firstCells_of (P := P) (sz := ty.size) (n := len) (c := cc) (off := off * ty.size) (len := len) (cap := k') (m := len) (us := (arr0.toList.drop (off * ty.size)).take (len * ty.size)) (w1 := w.drew) (fun q hq => by
      have : w.drew.cell? ⟨cc, off * ty.size + q, none⟩ = arr0[off * ty.size + q]? := cell_of_arr (w := w.drew) (by rw [drew_heap]; exact ha0)
      rw [this, List.getElem?_take, if_pos hq, List.getElem?_drop]
      refine ⟨by simp, ?_⟩
      rw [Array.getElem?_eq_getElem (hlt q hq)]; rfl) (by
        have : (off + len) * ty.size ≤ l.length * ty.size := Nat.mul_le_mul_right _ hle
        rw [Nat.add_mul] at this
        simp; omega) (Nat.le_refl _)
  rw [List.take_of_length_le (by simp; omega)] at hold
  have hosz : ((arr0.toList.drop (off * ty.size)).take (len * ty.size)).toArray.size = len * ty.size := by
    have : (off + len) * ty.size ≤ l.length * ty.size := Nat.mul_le_mul_right _ hle
    rw [Nat.add_mul] at this
    simp; omega
  have hdl : ((l.drop off).take len).length = len := by simp; omega
  refine app_newz ho hc ha ht hu hui h0 hn hz hby hbp hS hal htag hv hy hold hdl hosz (fun i hi => ?_) (by omega) hroom hb
  have hi' : i < len := by rw [hdl] at hi; exact hi
  have he : ((l.drop off).take len)[i] = l[off + i]'(by omega) := by simp
  rw [he]
  refine (g5 (off + i) (by omega)).congr fun j hj => ?_
  have hq := elem_lt hi' hj
  simp only [List.getElem?_toArray, List.getElem?_take, if_pos hq, List.getElem?_drop]
  rw [Nat.add_mul, ← Nat.add_assoc]
  simp

theorem go_appz {ku : IntKind} (ho : o.op = .call c) (hc : c.callee = .builtin .append) (ht : c.argTypes.toList = [t, u]) (hu : P.underlying t = some (.slice e)) (hui : P.underlying u = some (.int ku)) (hn : sizeT P e = some ty.size) (h0 : 0 < ty.size) (hby : bytesT P e = some by_) (hbp : 0 < by_) (hz : zeroT P e ty = true)
    (hS : SimB X β N w (look B)) (hal : ¬ N al) (htag : Ctx.tag ty e) (hx : VRs (All X β (look B)) β N w as (c.args.toList.map ρ)) (hr : (evOp byref call (.appz ty by_) as B al).run = some res) :
    Does P o ρ w (Step X β N w (look B) al (updsL (look B) res.writes) res.val) := by
  rcases as with _ | ⟨p, _ | ⟨q, _ | ⟨q2, r⟩⟩⟩
  · simp [evOp, M.run] at hr
  · simp [evOp, M.run] at hr
  rotate_left
  · simp [evOp, M.run] at hr
  have hq : ∃ k n, q = .d (.int k n) := by
    cases q with
    | d x => cases x <;> first | exact ⟨_, _, rfl⟩ | (simp [evOp, M.run] at hr)
    | _ => simp [evOp, M.run] at hr
  obtain ⟨kk, n, rfl⟩ := hq
  obtain ⟨v1, v2, e0, hv1, hv2⟩ := VRs.two hx
  obtain ⟨xo, yo, ha, rfl, rfl⟩ : ∃ xo yo, c.args.toList = [xo, yo] ∧ ρ xo = v1 ∧ ρ yo = v2 := by
    cases hq : c.args.toList with
    | nil => rw [hq] at e0; simp at e0
    | cons p ps =>
      rw [hq] at e0
      cases ps with
      | nil => simp at e0
      | cons q qs =>
        simp at e0
        exact ⟨p, q, by rw [e0.2.2], e0.1, e0.2.1⟩
  simp only [evOp] at hr
  obtain ⟨hk, hr1⟩ := (M.run_ifb _ _ _).1 hr
  clear hr
  simp only [Bool.and_eq_true, decide_eq_true_eq] at hk
  obtain ⟨rfl, _⟩ := hk
  cases p with
  | sr b off len sz cap =>
    cases cap with
    | none => simp [M.run] at hr1
    | some k =>
      simp only at hr1
      cases hL : look B b with
      | dead => simp [hL, M.run] at hr1
      | cells l => simp [hL, M.run] at hr1
      | arr t' l live =>
        rw [hL] at hr1
        simp only at hr1
        split at hr1
        · rename_i et
          subst et
          obtain ⟨hsz, hr2⟩ := (M.run_ifb _ _ _).1 hr1
          obtain ⟨h3, hr3⟩ := (M.run_chk _ _ _).1 hr2
          simp only [M.run, Option.some.injEq] at hr3
          subst hr3
          simp only [beq_iff_eq] at hsz
          subst hsz
          simp only [Bool.and_eq_true, decide_eq_true_eq] at h3
          obtain ⟨⟨⟨h4, h5⟩, h6⟩, h7⟩ := h3
          have hy : ρ yo = .int .i64 (n.toNat : Nat) := by
            have : ρ yo = .int .i64 n := VR.d_iff.1 hv2
            rw [this, Int.toNat_of_nonneg h4]
          exact does_appz ho hc ha ht hu hui hn h0 hby hbp hz hS hal htag hv1 hL h6 hy h5 h7
        · simp [M.run] at hr1
  | _ => simp [M.run] at hr1

end app
end Go.Ev
