/- slices.Insert of one struct of two texts, as a call. No condition. -/
import Derived.Test.YtmlmbjgnfobhcaaDoorEvZi
namespace Go.Ev
set_option linter.unusedVariables false
set_option linter.unusedSimpArgs false
set_option linter.unusedSectionVars false
variable [Ctx]
section
variable {P : Program} [TagOK P]

/-- slices.Insert of one, by what it comes to; else by its code. -/
def insertG (F : FuncId → Option AFn) (f : FuncId) (as : List AV) (B : Boxes) : M (AV × Boxes) :=
  match as, B with
  | [.sr 0 0 len 2 none, .d (.int .i64 i), .sr 1 0 1 2 (some 1)], [.arr t l true, .arr t' [x] true] =>
    if h : t = LTy ∧ t' = LTy then
      .br (decide (i < len)) fun p => cond p
        (.chk (decide (0 ≤ i) && decide (l.length = len) && decide ((len + 1) * 32 ≤ 70368744177664)) (.ret (.sr 2 0 (len + 1) 2 none, [.dead, .arr LTy [h.2 ▸ x] true, .arr LTy ((show List LTy.den from h.1 ▸ l).take i.toNat ++ (show LTy.den from h.2 ▸ x) :: (show List LTy.den from h.1 ▸ l).drop i.toNat) true])))
        (evCall F (fun _ => none) 2 f as B)
    else .fail
  | _, _ => evCall F (fun _ => none) 2 f as B

theorem insert_run {F : FuncId → Option AFn} {f rot : FuncId} (hf : F f = some (insertFn rot)) {as : List AV} {B : Boxes} :
    evCall F (fun _ => none) 2 f as B = runFn (fun g => match F g with | some h => h.byref | none => false) (evCall F (fun _ => none) 1) 1 (insertFn rot) as B := by
  simp only [evCall, hf]
  rfl

theorem insert_at (hm : P.follows .mixedOrders = true) (kinds : FuncId → Bool × Bool) {f rot : FuncId} (hf : fnsOf P kinds f = some (insertFn rot)) : CallAt P f (insertG (fnsOf P kinds) f) := by
  have hC := evCall_at hm kinds (fun _ => none) (fun f s h => by cases h) 2 f
  intro as B r B' hr
  unfold insertG at hr
  split at hr
  · rename_i len i t l t' x
    split at hr
    · rename_i h
      obtain ⟨rfl, rfl⟩ := h
      simp only [M.run] at hr
      by_cases hi : i < len
      · rw [decide_eq_true hi] at hr
        obtain ⟨hc, hr⟩ := (M.run_chk _ _ _).1 hr
        simp only [M.run, Option.some.injEq, Prod.mk.injEq] at hr
        simp only [Bool.and_eq_true, decide_eq_true_eq] at hc
        obtain ⟨⟨h0, hl⟩, hb⟩ := hc
        subst hl
        obtain ⟨i, rfl⟩ := Int.eq_ofNat_of_zero_le h0
        have hi' : i < l.length := by omega
        obtain ⟨rfl, rfl⟩ := hr
        simp only [Int.toNat_natCast]
        have hroom : ∀ k, l.length + 1 ≤ k → (evCall (fnsOf P kinds) (fun _ => none) 2 f [.sr 0 0 l.length 2 (some k), .d (.int .i64 (i : Nat)), .sr 1 0 1 2 (some 1)] [.arr LTy l true, .arr LTy [x] true]).run = some (.sr 0 0 (l.length + 1) 2 (some k), [.arr LTy (l.take i ++ x :: l.drop i) true, .arr LTy [x] true]) := by
          intro k hk
          rw [insert_run hf, ← ins_room_is hi' hb]
          exact M.run_of_path _ _ _ _ (ins_room_path ..) (ins_room_ok hi' hk hb)
        have hfull : (evCall (fnsOf P kinds) (fun _ => none) 2 f [.sr 0 0 l.length 2 (some l.length), .d (.int .i64 (i : Nat)), .sr 1 0 1 2 (some 1)] [.arr LTy l true, .arr LTy [x] true]).run = some (.sr 2 0 (l.length + 1) 2 none, [.arr LTy l true, .arr LTy [x] true, .arr LTy (l.take i ++ x :: l.drop i) true]) := by
          rw [insert_run hf, ← ins_full_is hi' hb]
          exact M.run_of_path _ _ _ _ (ins_full_path ..) (ins_full_ok hi' rfl hb)
        refine ⟨(hC _ _ _ _ hfull).1, by simp, fun X β w vs hS hv => ?_⟩
        match vs, hv with
        | [v0, v1, v2], hv =>
          unfold VRs at hv
          obtain ⟨hv0, hv⟩ := hv
          obtain ⟨hN, hsz, hv0⟩ := VR.sr_iff.1 hv0
          rcases hv0 with ⟨_, _, _, h4, _⟩ | ⟨c, k, h1, h2, h3, h4, h5⟩
          · omega
          · have hv0' : VR (All X β (look [.arr LTy l true, .arr LTy [x] true])) β (· < 2) w (.sr 0 0 l.length 2 (some k)) v0 := VR.sr_iff.2 ⟨hN, hsz, .inr ⟨c, k, h1, h2, h3, fun k' e => by cases e; rfl, h5⟩⟩
            by_cases hk : l.length + 1 ≤ k
            · refine ((hC _ _ _ _ (hroom k hk)).2.2 X β w [v0, v1, v2] hS (by unfold VRs; exact ⟨hv0', hv⟩)).mono ?_
              rintro e w' ⟨v, β', rfl, g1, g2, g3, g4⟩
              obtain ⟨p1, p2, p3, p4, p5, p6⟩ := Step.name (al := 2) g1 (show look _ 0 = .arr LTy (l.take i ++ x :: l.drop i) true from rfl) (by simp)
              have eL : updL (updL (look [.arr LTy (l.take i ++ x :: l.drop i) true, .arr LTy [x] true]) 0 .dead) 2 (.arr LTy (l.take i ++ x :: l.drop i) true) = look [.dead, .arr LTy [x] true, .arr LTy (l.take i ++ x :: l.drop i) true] := by
                funext b
                match b with
                | 0 => rfl
                | 1 => rfl
                | 2 => rfl
                | b + 3 => rfl
              have eN : (fun b => b < ([Box.arr LTy (l.take i ++ x :: l.drop i) true, .arr LTy [x] true] : Boxes).length ∨ b = 2) = (· < 3) := by
                funext b
                simp only [List.length_cons, List.length_nil]
                exact propext (by omega)
              simp only [eL, eN] at p1 p2 p6
              refine ⟨v, _, rfl, p1, VR.sr_iff.2 ⟨by show (2 : Nat) < 3; omega, by omega, ?_⟩, g3.trans p2, fun b hb => ?_⟩
              · obtain ⟨q1, q2, q3⟩ := VR.sr_iff.1 g2
                rcases q3 with ⟨_, _, _, q4, _⟩ | ⟨c', k', r1, r2, r3, r4, r5⟩
                · omega
                · exact .inr ⟨c', k', by simpa using r1, r2, r3, fun k' e => (by cases e), r5⟩
              · have hb' : b < 2 := hb
                show (if b = 2 then _ else _) = _
                rw [if_neg (by omega)]
                exact g4 b hb
            · obtain rfl : k = l.length := by omega
              refine ((hC _ _ _ _ hfull).2.2 X β w [v0, v1, v2] hS (by unfold VRs; exact ⟨hv0', hv⟩)).mono ?_
              rintro e w' ⟨v, β', rfl, g1, g2, g3, g4⟩
              obtain ⟨p1, p2⟩ := Step.kill (b := 0) g1
              have eL : updL (look [.arr LTy l true, .arr LTy [x] true, .arr LTy (l.take i ++ x :: l.drop i) true]) 0 .dead = look [.dead, .arr LTy [x] true, .arr LTy (l.take i ++ x :: l.drop i) true] := by
                funext b
                match b with
                | 0 => rfl
                | 1 => rfl
                | 2 => rfl
                | b + 3 => rfl
              rw [eL] at p1 p2
              exact ⟨v, β', rfl, p1, VR.sr_iff.2 (VR.sr_iff.1 g2), g3.trans p2, g4⟩
      · rw [decide_eq_false hi] at hr
        exact hC _ _ _ _ hr
    · simp [M.run] at hr
  · exact hC _ _ _ _ hr

end

end Go.Ev
