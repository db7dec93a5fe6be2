/- What the functions below call. No condition. slices.Equal of texts. Tick, its result a row of its own. The same texts. The document's own Tick. Alerts of a number; Same. Roomy, Intact. GroupRuns, reckoned. -/
import Derived.Test.YtkppbflmlpabjabQ4
import Derived.Test.YtkppbflmlpabjabProg
import Derived.KernelRfl
namespace Go.Proofs.Ytkppbflmlpabjab.Dec
open Go.Ev
set_option linter.unusedVariables false
set_option linter.unusedSimpArgs false
set_option maxRecDepth 100000
theorem mixed : Try.prog.follows .mixedOrders = true := by kernel_rfl
instance ctx : Ctx := ⟨fun t e => t = .int .u8 → e = 5, fun _ => False, fun _ => True, fun _ _ _ h => h⟩
instance tagOK : TagOK Try.prog := tagOK_of (u := 5) (fun _ _ => Iff.rfl) (by kernel_rfl)

def kinds : FuncId → Bool × Bool := fun f => (f != 16 && f != 41, false)
def hds : FuncId → Nat → Hd := fun f => if f = 3 then fun k => if k = 65032 then ⟨[], [(1, (.pair (.pair (.int .i64) (.pair (.int .i64) (.int .i64))) (.pair .bool (.pair (.int .i64) (.pair .bool (.pair (.sl .str) (.int .i64))))))), (2, (.pair (.pair (.int .i64) (.pair (.int .i64) (.int .i64))) (.pair .bool (.pair (.int .i64) (.pair .bool (.pair (.sl .str) (.int .i64)))))))], []⟩ else ⟨[], [], []⟩ else if f = 4 then fun k => if k = 32264 then ⟨[], [(1, (.pair (.pair (.int .i64) (.pair (.int .i64) (.int .i64))) (.pair .bool (.pair (.int .i64) (.pair .bool (.pair (.sl .str) (.int .i64))))))), (2, (.pair (.pair (.int .i64) (.pair (.int .i64) (.int .i64))) (.pair .bool (.pair (.int .i64) (.pair .bool (.pair (.sl .str) (.int .i64))))))), (3, (.pair (.pair (.int .i64) (.pair (.int .i64) (.int .i64))) (.pair .bool (.pair (.int .i64) (.pair .bool (.pair (.sl .str) (.int .i64)))))))], []⟩ else ⟨[], [], []⟩ else if f = 5 then fun k => if k = 1769528 then ⟨[], [(0, (.pair (.pair (.int .i64) (.pair (.int .i64) (.int .i64))) (.pair .bool (.pair (.int .i64) (.pair .bool (.pair (.sl .str) (.int .i64))))))), (1, (.pair (.pair (.int .i64) (.pair (.int .i64) (.int .i64))) (.pair (.int .i64) (.pair (.int .i64) (.pair (.int .i64) (.pair (.sl .str) (.sl .str)))))))], []⟩ else ⟨[], [], []⟩ else noHd
@[reducible] noncomputable def F := fnsH Try.prog kinds hds
@[reducible] noncomputable def byref : FuncId → Bool := fun g => match F g with | some h => h.byref | none => false
noncomputable def S0 : FuncId → Option (List AV → Boxes → M (AV × Boxes)) := fun _ => none
set_option maxHeartbeats 20000000 in
theorem S0_ok : ∀ f s, S0 f = some s → CallAt Try.prog f s := fun f s h => by cases h
theorem some_getD {α : Type} {o : Option α} {d : α} (h : o.isSome = true) : o = some (o.getD d) := by
  cases o with
  | none => cases h
  | some a => rfl
theorem ite_cases {c : Prop} [Decidable c] {α : Type} {a b : Option α} {q : α} {G : Prop} (h : (if c then a else b) = some q) (h1 : c → a = some q → G) (h2 : ¬ c → b = some q → G) : G := by
  by_cases hc : c
  · rw [if_pos hc] at h; exact h1 hc h
  · rw [if_neg hc] at h; exact h2 hc h
theorem all_t {c : Bool} {l : List Bool} (h : c = true) (h2 : l.all id = true) : ((c == true) :: l).all id = true := by subst h; simpa using h2
theorem all_f {c : Bool} {l : List Bool} (h : ¬ c = true) (h2 : l.all id = true) : ((c == false) :: l).all id = true := by
  cases c with
  | false => simpa using h2
  | true => exact absurd rfl h
theorem turns_eq {h : Hd} {k0 keep : Nat} {f : LoopG} {n : Nat} {e e2 : Env} {B B2 : Boxes} {r : Option (AEx × Env × Boxes)} (h1 : e = e2) (h2 : B = B2) (h3 : (turns h k0 keep f n e2 B2).run = r) : (turns h k0 keep f n e B).run = r := by
  subst h1; subst h2; exact h3
theorem all_nil : ([] : List Bool).all id = true := rfl
theorem all_nt {c : Bool} {l : List Bool} (h : c = true) (h2 : l.all id = true) : (((!c) == false) :: l).all id = true := by subst h; simpa using h2
theorem all_nf {c : Bool} {l : List Bool} (h : ¬ c = true) (h2 : l.all id = true) : (((!c) == true) :: l).all id = true := by
  cases c with
  | false => simpa using h2
  | true => exact absurd rfl h
theorem all_nnt {c : Bool} {l : List Bool} (h : c = true) (h2 : l.all id = true) : (((!(!c)) == true) :: l).all id = true := by subst h; simpa using h2
theorem all_nnf {c : Bool} {l : List Bool} (h : ¬ c = true) (h2 : l.all id = true) : (((!(!c)) == false) :: l).all id = true := by
  cases c with
  | false => simpa using h2
  | true => exact absurd rfl h

noncomputable def S1 : FuncId → Option (List AV → Boxes → M (AV × Boxes)) := fun f => if f = 15 then some withinS else S0 f
set_option maxHeartbeats 20000000 in
theorem S1_ok : ∀ f s, S1 f = some s → CallAt Try.prog f s := by
  intro f s h
  unfold S1 at h
  split at h
  · rename_i e; subst e; cases h; exact (within_at mixed (kinds := kinds) (by kernel_rfl))
  · exact S0_ok f s h

noncomputable def S2 : FuncId → Option (List AV → Boxes → M (AV × Boxes)) := fun f => if f = 44 then some (cloneR .str 16) else S1 f
set_option maxHeartbeats 20000000 in
theorem S2_ok : ∀ f s, S2 f = some s → CallAt Try.prog f s := by
  intro f s h
  unfold S2 at h
  split at h
  · rename_i e; subst e; cases h; exact (cloneR_at mixed 28 28 9 .str 16 Try.func44 (by kernel_rfl) (by kernel_rfl) (by kernel_rfl) (by kernel_rfl) (by kernel_rfl) (by kernel_rfl) (by kernel_rfl) (by kernel_rfl) (by kernel_rfl) (by kernel_rfl) (by kernel_rfl) (by kernel_rfl) (by kernel_rfl) (by kernel_rfl) (by kernel_rfl) (by kernel_rfl) (by kernel_rfl) (by kernel_rfl) (by kernel_rfl) )
  · exact S1_ok f s h

end Go.Proofs.Ytkppbflmlpabjab.Dec
namespace Go.Proofs.Ytkppbflmlpabjab.Dec
open Go.Ev
set_option linter.unusedVariables false
set_option linter.unusedSimpArgs false
set_option maxRecDepth 100000
noncomputable def fn40 : AFn := (F 40).getD ⟨0, [], .bad, false, false, noHd⟩
noncomputable def body40 : AC := fn40.body
def l40_0 (m : Nat) : Nat → List (List UInt8) → List (List UInt8) → Int → Int → Option (Nat × Int)
  | 0, _, _, _, _ => none
  | n + 1, x0, x1, s12, s13 => if decide (s13 < s12) = true then
      if decide (0 ≤ s13) = true then
        if decide (s13 < (((List.length x0) : Nat) : Int)) = true then
          if decide (s13 < (((List.length x1) : Nat) : Int)) = true then
            if ((List.getD x0 (Int.toNat s13) ([] : List UInt8)) == (List.getD x1 (Int.toNat s13) ([] : List UInt8))) = true then
              l40_0 m n x0 x1 s12 ((IntKind.wrap .i64 (s13 + (1))))
            else
              some (0, s13)
          else
            none
        else
          none
      else
        none
    else
      some (1, s13)
def l40_0D : Nat × Int := (0, 0)
@[reducible] def l40_0R (m n : Nat) (x0 : List (List UInt8)) (x1 : List (List UInt8)) (s12 : Int) (s13 : Int) : Nat × Int := Option.getD (l40_0 m n x0 x1 s12 s13) l40_0D
def l40_0H (x0 : List (List UInt8)) (x1 : List (List UInt8)) (s12 : Int) (s13 : Int) : Env := [(.d (.sl .str x0)), (.d (.sl .str x1)), .top, .top, .top, .top, .top, .top, .top, .top, .top, .top, (.d (.int .i64 s12)), (.d (.int .i64 s13)), .top, .top, .top, .top, .top, .top, .top, .top, .top, .top, .top, .top]
def l40_0B (x0 : List (List UInt8)) (x1 : List (List UInt8)) (s12 : Int) (s13 : Int) : Boxes := []
def l40_0E (x0 : List (List UInt8)) (x1 : List (List UInt8)) (s12 : Int) (s13 : Int) : Nat → AEx × Env × Boxes
  | 0 => (.ret, [(.d (.sl .str x0)), (.d (.sl .str x1)), .top, .top, (.d (.bool false)), (.d (.int .i64 s13)), .top, .top, .top, .top, .top, .top, (.d (.int .i64 s12)), (.d (.int .i64 s13)), (.d (.bool (decide (s13 < s12)))), (.d (.int .i64 s13)), (.d (.sl .str x0)), (.d (.int .i64 s13)), (.cptr [(.str (List.getD x0 (Int.toNat s13) ([] : List UInt8)))] 0), (.d (.str (List.getD x0 (Int.toNat s13) ([] : List UInt8)))), (.d (.sl .str x1)), (.d (.int .i64 s13)), (.cptr [(.str (List.getD x1 (Int.toNat s13) ([] : List UInt8)))] 0), (.d (.str (List.getD x1 (Int.toNat s13) ([] : List UInt8)))), (.d (.bool (!((List.getD x0 (Int.toNat s13) ([] : List UInt8)) == (List.getD x1 (Int.toNat s13) ([] : List UInt8)))))), .top], [.dead, .dead, .dead, .dead, .dead, .dead, .dead, .dead, .dead, .dead, .dead, .dead, .dead, .dead, .dead, .dead, .dead, .dead, .dead, .dead, .dead, .dead, .dead, .dead, .dead, .dead, .dead, .dead, .dead, .dead, .dead, .dead, .dead, .dead, .dead, .dead])
  | _ => (.exit 0, [(.d (.sl .str x0)), (.d (.sl .str x1)), .top, .top, .top, .top, .top, .top, .top, .top, .top, .top, (.d (.int .i64 s12)), (.d (.int .i64 s13)), (.d (.bool (decide (s13 < s12)))), .top, .top, .top, .top, .top, .top, .top, .top, .top, .top, .top], [])
noncomputable def lbl40_0 : AC := loopBody 12291 body40

set_option maxHeartbeats 20000000 in
theorem l40_0_w0 (m n : Nat) (x0 : List (List UInt8)) (x1 : List (List UInt8)) (s12 : Int) (s13 : Int) (r : AEx × Env × Boxes) (c0 : decide (s13 < s12) = true) (c1 : decide (0 ≤ s13) = true) (c2 : decide (s13 < (((List.length x0) : Nat) : Int)) = true) (c4 : decide (s13 < (((List.length x1) : Nat) : Int)) = true) (c5 : ((List.getD x0 (Int.toNat s13) ([] : List UInt8)) == (List.getD x1 (Int.toNat s13) ([] : List UInt8))) = true) (ih : (turns (hds 40 12291) 0 12291 (evC byref (evCall F S2 (m + 24)) (m + 24) 0 (hds 40) lbl40_0) n (l40_0H x0 x1 s12 ((IntKind.wrap .i64 (s13 + (1))))) (l40_0B x0 x1 s12 ((IntKind.wrap .i64 (s13 + (1)))))).run = some r) : (turns (hds 40 12291) 0 12291 (evC byref (evCall F S2 (m + 24)) (m + 24) 0 (hds 40) lbl40_0) (n + 1) (l40_0H x0 x1 s12 s13) (l40_0B x0 x1 s12 s13)).run = some r := by
  exact turns_step (M.run_of_path _ [true, true, true, true, true, false] _ _ (by kernel_rfl) (all_t c0 (all_t c1 (all_t c2 (all_t c1 (all_t c4 (all_nt c5 all_nil))))))) ih
set_option maxHeartbeats 20000000 in
theorem l40_0_w1 (m n : Nat) (x0 : List (List UInt8)) (x1 : List (List UInt8)) (s12 : Int) (s13 : Int) (c0 : decide (s13 < s12) = true) (c1 : decide (0 ≤ s13) = true) (c2 : decide (s13 < (((List.length x0) : Nat) : Int)) = true) (c4 : decide (s13 < (((List.length x1) : Nat) : Int)) = true) (c5 : ¬ ((List.getD x0 (Int.toNat s13) ([] : List UInt8)) == (List.getD x1 (Int.toNat s13) ([] : List UInt8))) = true) : (turns (hds 40 12291) 0 12291 (evC byref (evCall F S2 (m + 24)) (m + 24) 0 (hds 40) lbl40_0) (n + 1) (l40_0H x0 x1 s12 s13) (l40_0B x0 x1 s12 s13)).run = some (.ret, [(.d (.sl .str x0)), (.d (.sl .str x1)), .top, .top, (.d (.bool false)), (.d (.int .i64 s13)), .top, .top, .top, .top, .top, .top, (.d (.int .i64 s12)), (.d (.int .i64 s13)), (.d (.bool (decide (s13 < s12)))), (.d (.int .i64 s13)), (.d (.sl .str x0)), (.d (.int .i64 s13)), (.cptr [(.str (List.getD x0 (Int.toNat s13) ([] : List UInt8)))] 0), (.d (.str (List.getD x0 (Int.toNat s13) ([] : List UInt8)))), (.d (.sl .str x1)), (.d (.int .i64 s13)), (.cptr [(.str (List.getD x1 (Int.toNat s13) ([] : List UInt8)))] 0), (.d (.str (List.getD x1 (Int.toNat s13) ([] : List UInt8)))), (.d (.bool (!((List.getD x0 (Int.toNat s13) ([] : List UInt8)) == (List.getD x1 (Int.toNat s13) ([] : List UInt8)))))), .top], [.dead, .dead, .dead, .dead, .dead, .dead, .dead, .dead, .dead, .dead, .dead, .dead, .dead, .dead, .dead, .dead, .dead, .dead, .dead, .dead, .dead, .dead, .dead, .dead, .dead, .dead, .dead, .dead, .dead, .dead, .dead, .dead, .dead, .dead, .dead, .dead]) := by
  exact turns_last (by simp) (M.run_of_path _ [true, true, true, true, true, true] _ _ (by kernel_rfl) (all_t c0 (all_t c1 (all_t c2 (all_t c1 (all_t c4 (all_nf c5 all_nil))))))) 
set_option maxHeartbeats 20000000 in
theorem l40_0_w2 (m n : Nat) (x0 : List (List UInt8)) (x1 : List (List UInt8)) (s12 : Int) (s13 : Int) (c0 : ¬ decide (s13 < s12) = true) : (turns (hds 40 12291) 0 12291 (evC byref (evCall F S2 (m + 24)) (m + 24) 0 (hds 40) lbl40_0) (n + 1) (l40_0H x0 x1 s12 s13) (l40_0B x0 x1 s12 s13)).run = some (.exit 0, [(.d (.sl .str x0)), (.d (.sl .str x1)), .top, .top, .top, .top, .top, .top, .top, .top, .top, .top, (.d (.int .i64 s12)), (.d (.int .i64 s13)), (.d (.bool (decide (s13 < s12)))), .top, .top, .top, .top, .top, .top, .top, .top, .top, .top, .top], []) := by
  exact turns_last (by simp) (M.run_of_path _ [false] _ _ (by kernel_rfl) (all_f c0 all_nil)) 

set_option maxHeartbeats 20000000 in
theorem l40_0_step (m n : Nat) (ih : ∀ (x0 : List (List UInt8)) (x1 : List (List UInt8)) (s12 : Int) (s13 : Int) (q : Nat × Int), l40_0 m n x0 x1 s12 s13 = some q → (turns (hds 40 12291) 0 12291 (evC byref (evCall F S2 (m + 24)) (m + 24) 0 (hds 40) lbl40_0) n (l40_0H x0 x1 s12 s13) (l40_0B x0 x1 s12 s13)).run = some (l40_0E (x0) (x1) (s12) (q.2) q.1)) (x0 : List (List UInt8)) (x1 : List (List UInt8)) (s12 : Int) (s13 : Int) (q : Nat × Int) (h : l40_0 m (n + 1) x0 x1 s12 s13 = some q) : (turns (hds 40 12291) 0 12291 (evC byref (evCall F S2 (m + 24)) (m + 24) 0 (hds 40) lbl40_0) (n + 1) (l40_0H x0 x1 s12 s13) (l40_0B x0 x1 s12 s13)).run = some (l40_0E (x0) (x1) (s12) (q.2) q.1) := by
  rw [l40_0] at h
  refine ite_cases h (fun c0 h => ?_) (fun c0 h => ?_)
  · skip
    refine ite_cases h (fun c1 h => ?_) (fun c1 h => ?_)
    · skip
      refine ite_cases h (fun c2 h => ?_) (fun c2 h => ?_)
      · skip
        refine ite_cases h (fun c4 h => ?_) (fun c4 h => ?_)
        · skip
          refine ite_cases h (fun c5 h => ?_) (fun c5 h => ?_)
          · skip
            exact l40_0_w0 m n x0 x1 s12 s13 _ c0 c1 c2 c4 c5 (ih _ _ _ _ q h)
          · skip
            cases h
            exact l40_0_w1 m n x0 x1 s12 s13 c0 c1 c2 c4 c5
        · skip
          cases h
      · skip
        cases h
    · skip
      cases h
  · skip
    cases h
    exact l40_0_w2 m n x0 x1 s12 s13 c0
set_option maxHeartbeats 20000000 in
theorem l40_0_ok (m : Nat) : ∀ (n : Nat) (x0 : List (List UInt8)) (x1 : List (List UInt8)) (s12 : Int) (s13 : Int) (q : Nat × Int), l40_0 m n x0 x1 s12 s13 = some q → (turns (hds 40 12291) 0 12291 (evC byref (evCall F S2 (m + 24)) (m + 24) 0 (hds 40) lbl40_0) n (l40_0H x0 x1 s12 s13) (l40_0B x0 x1 s12 s13)).run = some (l40_0E (x0) (x1) (s12) (q.2) q.1)
  | 0, x0, x1, s12, s13, q, h => by cases h
  | n + 1, x0, x1, s12, s13, q, h => l40_0_step m n (l40_0_ok m n) x0 x1 s12 s13 q h

def p40 (m : Nat) (x0 : List (List UInt8)) (x1 : List (List UInt8)) : Option (Bool) :=
  if ((((List.length x0) : Nat) : Int) != (((List.length x1) : Nat) : Int)) = true then
    some (false)
  else
    if (Option.isSome (l40_0 m (m + 24) x0 x1 ((((List.length x0) : Nat) : Int)) 0)) = true then
      if ((l40_0R m (m + 24) x0 x1 ((((List.length x0) : Nat) : Int)) 0).1 == 0) = true then
        some (false)
      else
        if ((l40_0R m (m + 24) x0 x1 ((((List.length x0) : Nat) : Int)) 0).1 == 1) = true then
          some (true)
        else
          none
    else
      none
set_option maxHeartbeats 20000000 in
theorem p40_ok (m : Nat) (x0 : List (List UInt8)) (x1 : List (List UInt8)) (q : Bool) (h : p40 m x0 x1 = some q) : ∃ r B1, (evCall F S2 (m + 25) 40 [(.d (.sl .str x0)), (.d (.sl .str x1))] []).run = some (r, B1) ∧ 0 ≤ B1.length ∧ wkR B1 [] r (.d (.bool (q))) ∧ wkBs B1 [] 0 [] := by
  unfold p40 at h
  refine ite_cases h (fun c0 h => ?_) (fun c0 h => ?_)
  · skip
    cases h
    refine ⟨(.d (.bool false)), [], runT_ok (LS := (fun k => none)) (fn := fn40) (vis := []) (by kernel_rfl) rfl (by kernel_rfl) (M.run_of_path _ [true] _ _ (by kernel_rfl) (all_t c0 all_nil)) ?_, by simp, (wkR.one (wkV.one (wk1.eq rfl))), trivial⟩
    intro p hp; cases hp
  · skip
    refine ite_cases h (fun c1 h => ?_) (fun c1 h => ?_)
    · skip
      refine ite_cases h (fun c2 h => ?_) (fun c2 h => ?_)
      · skip
        cases h
        refine ⟨(.d (.bool false)), [], runT_ok (LS := (fun k => if k = 12291 then some (l40_0E x0 x1 (((((List.length x0) : Nat) : Int))) ((l40_0R m (m + 24) x0 x1 ((((List.length x0) : Nat) : Int)) 0).2) 0) else none)) (fn := fn40) (vis := [(12291, l40_0H x0 x1 ((((List.length x0) : Nat) : Int)) 0, l40_0B x0 x1 ((((List.length x0) : Nat) : Int)) 0)]) (by kernel_rfl) rfl (by kernel_rfl) (M.run_of_path _ [false] _ _ (by kernel_rfl) (all_f c0 all_nil)) ?_, by simp, (wkR.one (wkV.one (wk1.eq rfl))), trivial⟩
        intro p hp p2 hq
        rcases List.mem_cons.1 hp with rfl | hp
        · skip
          have h3 := l40_0_ok m (m + 24) x0 x1 ((((List.length x0) : Nat) : Int)) 0 _ (some_getD (d := l40_0D) c1)
          rw [eq_of_beq c2] at h3
          exact Eq.trans (Eq.mp (by kernel_rfl) h3) hq
        cases hp
      · skip
        refine ite_cases h (fun c3 h => ?_) (fun c3 h => ?_)
        · skip
          cases h
          refine ⟨(.d (.bool true)), [], runT_ok (LS := (fun k => if k = 12291 then some (l40_0E x0 x1 (((((List.length x0) : Nat) : Int))) ((l40_0R m (m + 24) x0 x1 ((((List.length x0) : Nat) : Int)) 0).2) 1) else none)) (fn := fn40) (vis := [(12291, l40_0H x0 x1 ((((List.length x0) : Nat) : Int)) 0, l40_0B x0 x1 ((((List.length x0) : Nat) : Int)) 0)]) (by kernel_rfl) rfl (by kernel_rfl) (M.run_of_path _ [false] _ _ (by kernel_rfl) (all_f c0 all_nil)) ?_, by simp, (wkR.one (wkV.one (wk1.eq rfl))), trivial⟩
          intro p hp p2 hq
          rcases List.mem_cons.1 hp with rfl | hp
          · skip
            have h3 := l40_0_ok m (m + 24) x0 x1 ((((List.length x0) : Nat) : Int)) 0 _ (some_getD (d := l40_0D) c1)
            rw [eq_of_beq c3] at h3
            exact Eq.trans (Eq.mp (by kernel_rfl) h3) hq
          cases hp
        · skip
          cases h
    · skip
      cases h

theorem eq40_loop (m : Nat) (a b : List (List UInt8)) (hl : a.length = b.length) (hb : a.length < 4611686018427387904) : ∀ n k, k ≤ a.length → a.length - k < n → ∃ j, l40_0 m n a b (((List.length a) : Nat) : Int) (k : Nat) = some (if a.drop k == b.drop k then 1 else 0, j)
  | 0, k, _, h => by omega
  | n + 1, k, hk, hn => by
    rw [l40_0]
    by_cases h : k < a.length
    · skip
      have e1 : decide (((k : Nat) : Int) < ((a.length : Nat) : Int)) = true := decide_eq_true (by omega)
      have e2 : decide ((0 : Int) ≤ ((k : Nat) : Int)) = true := decide_eq_true (by omega)
      have e3 : decide (((k : Nat) : Int) < ((b.length : Nat) : Int)) = true := decide_eq_true (by omega)
      simp only [e1, e2, e3, if_true, Int.toNat_natCast]
      rw [drop_getD a k ([] : List UInt8) h, drop_getD b k ([] : List UInt8) (by omega)]
      have ew : IntKind.wrap .i64 (((k : Nat) : Int) + (1)) = ((k + 1 : Nat) : Int) := by rw [wrap_id (by omega) (by omega)]; rfl
      rw [ew]
      obtain ⟨j, hj⟩ := eq40_loop m a b hl hb n (k + 1) (by omega) (by omega)
      have hc : ((a.getD k ([] : List UInt8)) :: a.drop (k + 1) == (b.getD k ([] : List UInt8)) :: b.drop (k + 1)) = (((a.getD k ([] : List UInt8)) == (b.getD k ([] : List UInt8))) && (a.drop (k + 1) == b.drop (k + 1))) := rfl
      rw [hc]
      rcases Bool.eq_false_or_eq_true ((a.getD k ([] : List UInt8)) == (b.getD k ([] : List UInt8))) with he | he
      · exact ⟨j, by simp only [he, hj]; simp⟩
      · exact ⟨(k : Nat), by simp only [he]; simp⟩
    · have e1 : decide (((k : Nat) : Int) < ((a.length : Nat) : Int)) = false := decide_eq_false (by omega)
      refine ⟨(k : Nat), ?_⟩
      simp only [e1, Bool.false_eq_true, if_false]
      rw [List.drop_eq_nil_of_le (by omega), List.drop_eq_nil_of_le (by omega)]
      rfl
theorem eq40 (a b : List (List UInt8)) (h : decide (List.length a < 4611686018427387904) = true) : ∃ m, p40 m a b = some (a == b) := by
  have hb := of_decide_eq_true h
  refine ⟨a.length, ?_⟩
  unfold p40 l40_0R
  by_cases hl : a.length = b.length
  · have e0 : ((((List.length a) : Nat) : Int) != (((List.length b) : Nat) : Int)) = false := by simp [hl]
    obtain ⟨j, hj⟩ := eq40_loop a.length a b hl hb (a.length + 24) 0 (by omega) (by omega)
    simp only [Int.natCast_zero, List.drop_zero] at hj
    rw [e0]
    simp only [Bool.false_eq_true, if_false]
    rw [hj]
    cases hab : a == b <;> simp [hab]
  · have e0 : ((((List.length a) : Nat) : Int) != (((List.length b) : Nat) : Int)) = true := by simp; omega
    rw [e0]
    have : (a == b) = false := by
      rw [beq_eq_false_iff_ne]
      intro e; rw [e] at hl; exact hl rfl
    simp [this]
def s40 : List AV → Boxes → M (AV × Boxes) := normS [.val (.sl .str), .val (.sl .str)] [] fun xs B => match xs, B with
  | [(.d (.sl .str c1)), (.d (.sl .str c2))], [] => .chk (decide (List.length c1 < 4611686018427387904)) (.ret ((.d (.bool ((show List (List UInt8) from c1) == c2))), []))
  | _, _ => .fail
theorem s40_at : CallAt Try.prog 40 s40 := by
  refine CallAt.norm (CallAt.weakE (g := fun n => evCall F S2 n 40) (fun n => evCall_atH mixed kinds hds S2 S2_ok n 40) fun xs B r' B' hr => ?_) _ _
  split at hr
  · rename_i c1 c2
    obtain ⟨hp, hr⟩ := (M.run_chk _ _ _).1 hr
    simp only [M.run, Option.some.injEq, Prod.mk.injEq] at hr
    obtain ⟨rfl, rfl⟩ := hr
    obtain ⟨m, hm⟩ := eq40 c1 c2 hp
    obtain ⟨r, B1, h1, h2, h3, h4⟩ := p40_ok m c1 c2 _ hm
    exact ⟨m + 25, r, B1, h1, by simp, h2, h3, h4⟩
  · simp [M.run] at hr
noncomputable def S3 : FuncId → Option (List AV → Boxes → M (AV × Boxes)) := fun f => if f = 40 then some s40 else S2 f
set_option maxHeartbeats 20000000 in
theorem S3_ok : ∀ f s, S3 f = some s → CallAt Try.prog f s := by
  intro f s h
  unfold S3 at h
  split at h
  · rename_i e; subst e; cases h; exact s40_at
  · exact S2_ok f s h

end Go.Proofs.Ytkppbflmlpabjab.Dec
namespace Go.Proofs.Ytkppbflmlpabjab.Dec
open Go.Ev
set_option linter.unusedVariables false
set_option linter.unusedSimpArgs false
set_option maxRecDepth 100000
noncomputable def fn41 : AFn := (F 41).getD ⟨0, [], .bad, false, false, noHd⟩
noncomputable def body41 : AC := fn41.body
def p41 (m : Nat) (x0 : (Int × Int × Int) × Bool × Int × Bool × (List (List UInt8)) × Int) (x1 : Int) (x2 : List (List UInt8)) : Option ((List (List UInt8)) × Bool × ((Int × Int × Int) × Bool × Int × Bool × (List (List UInt8)) × Int)) :=
  if decide (((List.length x2) * 16) ≤ 70368744177664) = true then
    some (x2, true, (x0.1, (x0.2.1, (x0.2.2.1, (true, (x2, x1))))))
  else
    none
set_option maxHeartbeats 20000000 in
theorem p41_ok (m : Nat) (x0 : (Int × Int × Int) × Bool × Int × Bool × (List (List UInt8)) × Int) (x1 : Int) (x2 : List (List UInt8)) (q : (List (List UInt8)) × Bool × ((Int × Int × Int) × Bool × Int × Bool × (List (List UInt8)) × Int)) (h : p41 m x0 x1 x2 = some q) : ∃ r B1 r1 B2, (padM .str 0 (evCall F S3 (m + 25) 41 [(.ptr 0 0), (.d (.int .i64 x1)), (.d (.sl .str x2))] [(.cells [(.d (.int .i64 x0.1.1)), (.d (.int .i64 x0.1.2.1)), (.d (.int .i64 x0.1.2.2)), (.d (.bool (x0.2.1))), (.d (.int .i64 x0.2.2.1)), (.d (.bool (x0.2.2.2.1))), (.d (.sl .str x0.2.2.2.2.1)), (.d (.int .i64 x0.2.2.2.2.2))])])).run = some (r, B1) ∧ 1 ≤ B2.length ∧ B2.length ≤ B1.length ∧ wkR B1 B2 r r1 ∧ wkBs B1 B2 0 B2 ∧ (compact 1 [r1] B2).run = some ([(.tup [(.sr 1 0 (List.length q.1) 1 none), (.d (.bool (q.2.1)))])], [(.cells [(.d (.int .i64 q.2.2.1.1)), (.d (.int .i64 q.2.2.1.2.1)), (.d (.int .i64 q.2.2.1.2.2)), (.d (.bool (q.2.2.2.1))), (.d (.int .i64 q.2.2.2.2.1)), (.d (.bool (q.2.2.2.2.2.1))), (.d (.sl .str q.2.2.2.2.2.2.1)), (.d (.int .i64 q.2.2.2.2.2.2.2))]), (.arr .str q.1 true)]) := by
  unfold p41 at h
  refine ite_cases h (fun c0 h => ?_) (fun c0 h => ?_)
  · skip
    cases h
    refine ⟨(.tup [(.sr 1 0 (List.length x2) 1 none), (.d (.bool true))]), [(.cells [(.d (.int .i64 x0.1.1)), (.d (.int .i64 x0.1.2.1)), (.d (.int .i64 x0.1.2.2)), (.d (.bool (x0.2.1))), (.d (.int .i64 x0.2.2.1)), (.d (.bool true)), (.sr 2 0 (List.length x2) 1 none), (.d (.int .i64 x1))]), (.arr .str x2 true), (.arr .str x2 true)], (.tup [(.sr 1 0 (List.length x2) 1 none), (.d (.bool (true)))]), [(.cells [(.d (.int .i64 (x0.1, (x0.2.1, (x0.2.2.1, (true, (x2, x1))))).1.1)), (.d (.int .i64 (x0.1, (x0.2.1, (x0.2.2.1, (true, (x2, x1))))).1.2.1)), (.d (.int .i64 (x0.1, (x0.2.1, (x0.2.2.1, (true, (x2, x1))))).1.2.2)), (.d (.bool (x0.1, (x0.2.1, (x0.2.2.1, (true, (x2, x1))))).2.1)), (.d (.int .i64 (x0.1, (x0.2.1, (x0.2.2.1, (true, (x2, x1))))).2.2.1)), (.d (.bool (x0.1, (x0.2.1, (x0.2.2.1, (true, (x2, x1))))).2.2.2.1)), (.d (.sl .str (x0.1, (x0.2.1, (x0.2.2.1, (true, (x2, x1))))).2.2.2.2.1)), (.d (.int .i64 (x0.1, (x0.2.1, (x0.2.2.1, (true, (x2, x1))))).2.2.2.2.2))]), (.arr .str x2 true)], padM_run rfl (runT_ok (LS := (fun k => none)) (fn := fn41) (vis := []) (r := (.tup [(.sr 1 0 (List.length x2) 1 none), (.d (.bool true))])) (B' := [(.cells [(.d (.int .i64 x0.1.1)), (.d (.int .i64 x0.1.2.1)), (.d (.int .i64 x0.1.2.2)), (.d (.bool (x0.2.1))), (.d (.int .i64 x0.2.2.1)), (.d (.bool true)), (.sr 2 0 (List.length x2) 1 none), (.d (.int .i64 x1))]), (.arr .str x2 true), (.arr .str x2 true)]) (by kernel_rfl) rfl (by kernel_rfl) (M.run_of_path _ [true, true] _ _ (by kernel_rfl) (all_t c0 (all_t c0 all_nil))) ?_) rfl, by simp, by simp, (wkR.tup (wkVs.cons (wkV.one (wk1.live rfl)) (wkVs.cons (wkV.one (wk1.eq rfl)) wkVs.nil))), ⟨wkBox.cells (wkL.cons (wk1.eq rfl) (wkL.cons (wk1.eq rfl) (wkL.cons (wk1.eq rfl) (wkL.cons (wk1.eq rfl) (wkL.cons (wk1.eq rfl) (wkL.cons (wk1.eq rfl) (wkL.cons (wk1.whole rfl (by simp) rfl) (wkL.cons (wk1.eq rfl) wkL.nil)))))))), ⟨wkBox.arr, trivial⟩⟩, by kernel_rfl⟩
    intro p hp; cases hp
  · skip
    cases h

abbrev TL := List (List UInt8)
/-- A group: its timing; busy, next, told, last, since. -/
abbrev GS := (Int × Int × Int) × Bool × Int × Bool × TL × Int
def tellG (g : GS) (t : Int) (al : TL) : GS := (g.1, g.2.1, g.2.2.1, true, al, t)
theorem tell41 (g : GS) (t : Int) (al : TL) (h : decide (List.length al * 16 ≤ 70368744177664) = true) : ∃ m, p41 m g t al = some (al, true, tellG g t al) := by
  refine ⟨0, ?_⟩
  unfold p41 tellG
  rw [if_pos h]
def s41 : List AV → Boxes → M (AV × Boxes) := normS [.ptr, .val (.int .i64), .val (.sl .str)] [(.pair (.pair (.int .i64) (.pair (.int .i64) (.int .i64))) (.pair .bool (.pair (.int .i64) (.pair .bool (.pair (.sl .str) (.int .i64))))))] fun xs B => match xs, B with
  | [(.ptr 0 0), (.d (.int .i64 c9)), (.d (.sl .str c10))], [(.cells [(.d (.int .i64 c1)), (.d (.int .i64 c2)), (.d (.int .i64 c3)), (.d (.bool c4)), (.d (.int .i64 c5)), (.d (.bool c6)), (.d (.sl .str c7)), (.d (.int .i64 c8))])] => .chk (decide (List.length c10 * 16 ≤ 70368744177664)) (.ret ((.tup [(.sr 1 0 (List.length c10) 1 none), (.d (.bool (true)))]), [(.cells [(.d (.int .i64 (tellG (((c1, (c2, c3)), (c4, (c5, (c6, (c7, c8)))))) c9 c10).1.1)), (.d (.int .i64 (tellG (((c1, (c2, c3)), (c4, (c5, (c6, (c7, c8)))))) c9 c10).1.2.1)), (.d (.int .i64 (tellG (((c1, (c2, c3)), (c4, (c5, (c6, (c7, c8)))))) c9 c10).1.2.2)), (.d (.bool (tellG (((c1, (c2, c3)), (c4, (c5, (c6, (c7, c8)))))) c9 c10).2.1)), (.d (.int .i64 (tellG (((c1, (c2, c3)), (c4, (c5, (c6, (c7, c8)))))) c9 c10).2.2.1)), (.d (.bool (tellG (((c1, (c2, c3)), (c4, (c5, (c6, (c7, c8)))))) c9 c10).2.2.2.1)), (.d (.sl .str (tellG (((c1, (c2, c3)), (c4, (c5, (c6, (c7, c8)))))) c9 c10).2.2.2.2.1)), (.d (.int .i64 (tellG (((c1, (c2, c3)), (c4, (c5, (c6, (c7, c8)))))) c9 c10).2.2.2.2.2))]), (.arr .str c10 true)]))
  | _, _ => .fail
theorem s41_at : CallAt Try.prog 41 s41 := by
  refine CallAt.norm (CallAt.weakC (g := fun n xs B => padM .str 0 (evCall F S3 n 41 xs B)) (fun n => CallAt.pad .str 0 (evCall_atH mixed kinds hds S3 S3_ok n 41)) fun xs B r' B' hr => ?_) _ _
  split at hr
  · rename_i c9 c10 c1 c2 c3 c4 c5 c6 c7 c8
    obtain ⟨hp, hr⟩ := (M.run_chk _ _ _).1 hr
    simp only [M.run, Option.some.injEq, Prod.mk.injEq] at hr
    obtain ⟨rfl, rfl⟩ := hr
    obtain ⟨m, hm⟩ := tell41 (((c1, (c2, c3)), (c4, (c5, (c6, (c7, c8)))))) c9 c10 hp
    obtain ⟨r, B1, r1, B2, h1, h2, h3, h4, h5, h6⟩ := p41_ok m (((c1, (c2, c3)), (c4, (c5, (c6, (c7, c8)))))) c9 c10 _ hm
    exact ⟨m + 25, r, B1, r1, B2, h1, by simp, h2, h3, h4, h5, h6⟩
  · simp [M.run] at hr
noncomputable def S4 : FuncId → Option (List AV → Boxes → M (AV × Boxes)) := fun f => if f = 41 then some s41 else S3 f
set_option maxHeartbeats 20000000 in
theorem S4_ok : ∀ f s, S4 f = some s → CallAt Try.prog f s := by
  intro f s h
  unfold S4 at h
  split at h
  · rename_i e; subst e; cases h; exact s41_at
  · exact S3_ok f s h

noncomputable def S5 : FuncId → Option (List AV → Boxes → M (AV × Boxes)) := fun f => if f = 44 then some (plainS (cloneG .str 16)) else S4 f
set_option maxHeartbeats 20000000 in
theorem S5_ok : ∀ f s, S5 f = some s → CallAt Try.prog f s := by
  intro f s h
  unfold S5 at h
  split at h
  · rename_i e; subst e; cases h; exact (clone_at mixed 28 28 9 .str 16 Try.func44 (by kernel_rfl) (by kernel_rfl) (by kernel_rfl) (by kernel_rfl) (by kernel_rfl) (by kernel_rfl) (by kernel_rfl) (by kernel_rfl) (by kernel_rfl) (by kernel_rfl) (by kernel_rfl) (by kernel_rfl) (by kernel_rfl) (by kernel_rfl) (by kernel_rfl) (by kernel_rfl) (by kernel_rfl) (by kernel_rfl) (by kernel_rfl) )
  · exact S4_ok f s h

noncomputable def fn16 : AFn := (F 16).getD ⟨0, [], .bad, false, false, noHd⟩
noncomputable def body16 : AC := fn16.body
def p16 (m : Nat) (x0 : (Int × Int × Int) × Bool × Int × Bool × (List (List UInt8)) × Int) (x1 : Int) (x2 : List (List UInt8)) : Option ((List (List UInt8)) × Bool × ((Int × Int × Int) × Bool × Int × Bool × (List (List UInt8)) × Int)) :=
  if x0.2.1 = true then
    if decide (x1 < x0.2.2.1) = true then
      some (([] : List (List UInt8)), false, x0)
    else
      if ((((List.length x2) : Nat) : Int) == (0)) = true then
        some (([] : List (List UInt8)), x0.2.2.2.1, (x0.1, (false, ((0), (false, (([] : List (List UInt8)), (0)))))))
      else
        if x0.2.2.2.1 = true then
          if decide (List.length x2 < 4611686018427387904) = true then
            if ((show List (List UInt8) from x2) == x0.2.2.2.2.1) = true then
              if decide ((IntKind.wrap .i64 (x1 - x0.2.2.2.2.2)) ≥ x0.1.2.2) = true then
                if decide (List.length x2 * 16 ≤ 70368744177664) = true then
                  some (x2, true, (tellG (x0.1, (x0.2.1, ((IntKind.wrap .i64 (x1 + x0.1.2.1)), x0.2.2.2))) x1 x2))
                else
                  none
              else
                some (([] : List (List UInt8)), false, (x0.1, (x0.2.1, ((IntKind.wrap .i64 (x1 + x0.1.2.1)), x0.2.2.2))))
            else
              if decide (List.length x2 * 16 ≤ 70368744177664) = true then
                some (x2, true, (tellG (x0.1, (x0.2.1, ((IntKind.wrap .i64 (x1 + x0.1.2.1)), x0.2.2.2))) x1 x2))
              else
                none
          else
            none
        else
          if decide (List.length x2 * 16 ≤ 70368744177664) = true then
            some (x2, true, (tellG (x0.1, (x0.2.1, ((IntKind.wrap .i64 (x1 + x0.1.2.1)), x0.2.2.2))) x1 x2))
          else
            none
  else
    if ((((List.length x2) : Nat) : Int) == (0)) = true then
      some (([] : List (List UInt8)), false, x0)
    else
      if decide (x1 < (IntKind.wrap .i64 (x1 + x0.1.1))) = true then
        some (([] : List (List UInt8)), false, (x0.1, (true, ((IntKind.wrap .i64 (x1 + x0.1.1)), (false, (([] : List (List UInt8)), (0)))))))
      else
        if decide (List.length x2 * 16 ≤ 70368744177664) = true then
          some (x2, true, (tellG (x0.1, (true, ((IntKind.wrap .i64 (x1 + x0.1.2.1)), (false, (([] : List (List UInt8)), (0)))))) x1 x2))
        else
          none
set_option maxHeartbeats 20000000 in
theorem p16_ok (m : Nat) (x0 : (Int × Int × Int) × Bool × Int × Bool × (List (List UInt8)) × Int) (x1 : Int) (x2 : List (List UInt8)) (q : (List (List UInt8)) × Bool × ((Int × Int × Int) × Bool × Int × Bool × (List (List UInt8)) × Int)) (h : p16 m x0 x1 x2 = some q) : ∃ r B1 r1 B2, (padM .str 0 (evCall F S5 (m + 25) 16 [(.ptr 0 0), (.d (.int .i64 x1)), (.d (.sl .str x2))] [(.cells [(.d (.int .i64 x0.1.1)), (.d (.int .i64 x0.1.2.1)), (.d (.int .i64 x0.1.2.2)), (.d (.bool (x0.2.1))), (.d (.int .i64 x0.2.2.1)), (.d (.bool (x0.2.2.2.1))), (.d (.sl .str x0.2.2.2.2.1)), (.d (.int .i64 x0.2.2.2.2.2))])])).run = some (r, B1) ∧ 1 ≤ B2.length ∧ B2.length ≤ B1.length ∧ wkR B1 B2 r r1 ∧ wkBs B1 B2 0 B2 ∧ (compact 1 [r1] B2).run = some ([(.tup [(.sr 1 0 (List.length q.1) 1 none), (.d (.bool (q.2.1)))])], [(.cells [(.d (.int .i64 q.2.2.1.1)), (.d (.int .i64 q.2.2.1.2.1)), (.d (.int .i64 q.2.2.1.2.2)), (.d (.bool (q.2.2.2.1))), (.d (.int .i64 q.2.2.2.2.1)), (.d (.bool (q.2.2.2.2.2.1))), (.d (.sl .str q.2.2.2.2.2.2.1)), (.d (.int .i64 q.2.2.2.2.2.2.2))]), (.arr .str q.1 true)]) := by
  unfold p16 at h
  refine ite_cases h (fun c0 h => ?_) (fun c0 h => ?_)
  · skip
    refine ite_cases h (fun c1 h => ?_) (fun c1 h => ?_)
    · skip
      cases h
      refine ⟨(.tup [(.sr 1 0 0 1 none), (.d (.bool false))]), [(.cells [(.d (.int .i64 x0.1.1)), (.d (.int .i64 x0.1.2.1)), (.d (.int .i64 x0.1.2.2)), (.d (.bool (x0.2.1))), (.d (.int .i64 x0.2.2.1)), (.d (.bool (x0.2.2.2.1))), (.d (.sl .str x0.2.2.2.2.1)), (.d (.int .i64 x0.2.2.2.2.2))]), (.arr .str ([] : List (List UInt8)) true)], (.tup [(.sr 1 0 0 1 none), (.d (.bool (false)))]), [(.cells [(.d (.int .i64 x0.1.1)), (.d (.int .i64 x0.1.2.1)), (.d (.int .i64 x0.1.2.2)), (.d (.bool (x0.2.1))), (.d (.int .i64 x0.2.2.1)), (.d (.bool (x0.2.2.2.1))), (.d (.sl .str x0.2.2.2.2.1)), (.d (.int .i64 x0.2.2.2.2.2))]), (.arr .str ([] : List (List UInt8)) true)], padM_run rfl (runT_ok (LS := (fun k => none)) (fn := fn16) (vis := []) (r := (.tup [(.sr 1 0 0 1 none), (.d (.bool false))])) (B' := [(.cells [(.d (.int .i64 x0.1.1)), (.d (.int .i64 x0.1.2.1)), (.d (.int .i64 x0.1.2.2)), (.d (.bool (x0.2.1))), (.d (.int .i64 x0.2.2.1)), (.d (.bool (x0.2.2.2.1))), (.d (.sl .str x0.2.2.2.2.1)), (.d (.int .i64 x0.2.2.2.2.2))]), (.arr .str ([] : List (List UInt8)) true)]) (by kernel_rfl) rfl (by kernel_rfl) (M.run_of_path _ [false, true] _ _ (by kernel_rfl) (all_nt c0 (all_t c1 all_nil))) ?_) rfl, by simp, by simp, (wkR.tup (wkVs.cons (wkV.one (wk1.live rfl)) (wkVs.cons (wkV.one (wk1.eq rfl)) wkVs.nil))), ⟨wkBox.cells (wkL.cons (wk1.eq rfl) (wkL.cons (wk1.eq rfl) (wkL.cons (wk1.eq rfl) (wkL.cons (wk1.eq rfl) (wkL.cons (wk1.eq rfl) (wkL.cons (wk1.eq rfl) (wkL.cons (wk1.eq rfl) (wkL.cons (wk1.eq rfl) wkL.nil)))))))), ⟨wkBox.arr, trivial⟩⟩, by kernel_rfl⟩
      intro p hp; cases hp
    · skip
      refine ite_cases h (fun c2 h => ?_) (fun c2 h => ?_)
      · skip
        cases h
        refine ⟨(.tup [(.sr 1 0 0 1 none), (.d (.bool (x0.2.2.2.1)))]), [(.cells [(.d (.int .i64 x0.1.1)), (.d (.int .i64 x0.1.2.1)), (.d (.int .i64 x0.1.2.2)), (.d (.bool false)), (.d (.int .i64 (0))), (.d (.bool false)), (.d .nils), (.d (.int .i64 (0)))]), (.arr .str ([] : List (List UInt8)) true)], (.tup [(.sr 1 0 0 1 none), (.d (.bool (x0.2.2.2.1)))]), [(.cells [(.d (.int .i64 (x0.1, (false, ((0), (false, (([] : List (List UInt8)), (0)))))).1.1)), (.d (.int .i64 (x0.1, (false, ((0), (false, (([] : List (List UInt8)), (0)))))).1.2.1)), (.d (.int .i64 (x0.1, (false, ((0), (false, (([] : List (List UInt8)), (0)))))).1.2.2)), (.d (.bool (x0.1, (false, ((0), (false, (([] : List (List UInt8)), (0)))))).2.1)), (.d (.int .i64 (x0.1, (false, ((0), (false, (([] : List (List UInt8)), (0)))))).2.2.1)), (.d (.bool (x0.1, (false, ((0), (false, (([] : List (List UInt8)), (0)))))).2.2.2.1)), (.d (.sl .str (x0.1, (false, ((0), (false, (([] : List (List UInt8)), (0)))))).2.2.2.2.1)), (.d (.int .i64 (x0.1, (false, ((0), (false, (([] : List (List UInt8)), (0)))))).2.2.2.2.2))]), (.arr .str ([] : List (List UInt8)) true)], padM_run rfl (runT_ok (LS := (fun k => none)) (fn := fn16) (vis := []) (r := (.tup [(.sr 1 0 0 1 none), (.d (.bool (x0.2.2.2.1)))])) (B' := [(.cells [(.d (.int .i64 x0.1.1)), (.d (.int .i64 x0.1.2.1)), (.d (.int .i64 x0.1.2.2)), (.d (.bool false)), (.d (.int .i64 (0))), (.d (.bool false)), (.d .nils), (.d (.int .i64 (0)))]), (.arr .str ([] : List (List UInt8)) true)]) (by kernel_rfl) rfl (by kernel_rfl) (M.run_of_path _ [false, false, true] _ _ (by kernel_rfl) (all_nt c0 (all_f c1 (all_t c2 all_nil)))) ?_) rfl, by simp, by simp, (wkR.tup (wkVs.cons (wkV.one (wk1.live rfl)) (wkVs.cons (wkV.one (wk1.eq rfl)) wkVs.nil))), ⟨wkBox.cells (wkL.cons (wk1.eq rfl) (wkL.cons (wk1.eq rfl) (wkL.cons (wk1.eq rfl) (wkL.cons (wk1.eq rfl) (wkL.cons (wk1.eq rfl) (wkL.cons (wk1.eq rfl) (wkL.cons wk1.nil (wkL.cons (wk1.eq rfl) wkL.nil)))))))), ⟨wkBox.arr, trivial⟩⟩, by kernel_rfl⟩
        intro p hp; cases hp
      · skip
        refine ite_cases h (fun c3 h => ?_) (fun c3 h => ?_)
        · skip
          refine ite_cases h (fun c9 h => ?_) (fun c9 h => ?_)
          · skip
            refine ite_cases h (fun c12 h => ?_) (fun c12 h => ?_)
            · skip
              refine ite_cases h (fun c25 h => ?_) (fun c25 h => ?_)
              · skip
                refine ite_cases h (fun c26 h => ?_) (fun c26 h => ?_)
                · skip
                  cases h
                  refine ⟨(.tup [(.sr 1 0 (List.length x2) 1 none), (.d (.bool (true)))]), [(.cells [(.d (.int .i64 (tellG (x0.1, (x0.2.1, ((IntKind.wrap .i64 (x1 + x0.1.2.1)), x0.2.2.2))) x1 x2).1.1)), (.d (.int .i64 (tellG (x0.1, (x0.2.1, ((IntKind.wrap .i64 (x1 + x0.1.2.1)), x0.2.2.2))) x1 x2).1.2.1)), (.d (.int .i64 (tellG (x0.1, (x0.2.1, ((IntKind.wrap .i64 (x1 + x0.1.2.1)), x0.2.2.2))) x1 x2).1.2.2)), (.d (.bool (tellG (x0.1, (x0.2.1, ((IntKind.wrap .i64 (x1 + x0.1.2.1)), x0.2.2.2))) x1 x2).2.1)), (.d (.int .i64 (tellG (x0.1, (x0.2.1, ((IntKind.wrap .i64 (x1 + x0.1.2.1)), x0.2.2.2))) x1 x2).2.2.1)), (.d (.bool (tellG (x0.1, (x0.2.1, ((IntKind.wrap .i64 (x1 + x0.1.2.1)), x0.2.2.2))) x1 x2).2.2.2.1)), (.d (.sl .str (tellG (x0.1, (x0.2.1, ((IntKind.wrap .i64 (x1 + x0.1.2.1)), x0.2.2.2))) x1 x2).2.2.2.2.1)), (.d (.int .i64 (tellG (x0.1, (x0.2.1, ((IntKind.wrap .i64 (x1 + x0.1.2.1)), x0.2.2.2))) x1 x2).2.2.2.2.2))]), (.arr .str x2 true)], (.tup [(.sr 1 0 (List.length x2) 1 none), (.d (.bool (true)))]), [(.cells [(.d (.int .i64 (tellG (x0.1, (x0.2.1, ((IntKind.wrap .i64 (x1 + x0.1.2.1)), x0.2.2.2))) x1 x2).1.1)), (.d (.int .i64 (tellG (x0.1, (x0.2.1, ((IntKind.wrap .i64 (x1 + x0.1.2.1)), x0.2.2.2))) x1 x2).1.2.1)), (.d (.int .i64 (tellG (x0.1, (x0.2.1, ((IntKind.wrap .i64 (x1 + x0.1.2.1)), x0.2.2.2))) x1 x2).1.2.2)), (.d (.bool (tellG (x0.1, (x0.2.1, ((IntKind.wrap .i64 (x1 + x0.1.2.1)), x0.2.2.2))) x1 x2).2.1)), (.d (.int .i64 (tellG (x0.1, (x0.2.1, ((IntKind.wrap .i64 (x1 + x0.1.2.1)), x0.2.2.2))) x1 x2).2.2.1)), (.d (.bool (tellG (x0.1, (x0.2.1, ((IntKind.wrap .i64 (x1 + x0.1.2.1)), x0.2.2.2))) x1 x2).2.2.2.1)), (.d (.sl .str (tellG (x0.1, (x0.2.1, ((IntKind.wrap .i64 (x1 + x0.1.2.1)), x0.2.2.2))) x1 x2).2.2.2.2.1)), (.d (.int .i64 (tellG (x0.1, (x0.2.1, ((IntKind.wrap .i64 (x1 + x0.1.2.1)), x0.2.2.2))) x1 x2).2.2.2.2.2))]), (.arr .str x2 true)], padM_run rfl (runT_ok (LS := (fun k => none)) (fn := fn16) (vis := []) (r := (.tup [(.sr 1 0 (List.length x2) 1 none), (.d (.bool (true)))])) (B' := [(.cells [(.d (.int .i64 (tellG (x0.1, (x0.2.1, ((IntKind.wrap .i64 (x1 + x0.1.2.1)), x0.2.2.2))) x1 x2).1.1)), (.d (.int .i64 (tellG (x0.1, (x0.2.1, ((IntKind.wrap .i64 (x1 + x0.1.2.1)), x0.2.2.2))) x1 x2).1.2.1)), (.d (.int .i64 (tellG (x0.1, (x0.2.1, ((IntKind.wrap .i64 (x1 + x0.1.2.1)), x0.2.2.2))) x1 x2).1.2.2)), (.d (.bool (tellG (x0.1, (x0.2.1, ((IntKind.wrap .i64 (x1 + x0.1.2.1)), x0.2.2.2))) x1 x2).2.1)), (.d (.int .i64 (tellG (x0.1, (x0.2.1, ((IntKind.wrap .i64 (x1 + x0.1.2.1)), x0.2.2.2))) x1 x2).2.2.1)), (.d (.bool (tellG (x0.1, (x0.2.1, ((IntKind.wrap .i64 (x1 + x0.1.2.1)), x0.2.2.2))) x1 x2).2.2.2.1)), (.d (.sl .str (tellG (x0.1, (x0.2.1, ((IntKind.wrap .i64 (x1 + x0.1.2.1)), x0.2.2.2))) x1 x2).2.2.2.2.1)), (.d (.int .i64 (tellG (x0.1, (x0.2.1, ((IntKind.wrap .i64 (x1 + x0.1.2.1)), x0.2.2.2))) x1 x2).2.2.2.2.2))]), (.arr .str x2 true)]) (by kernel_rfl) rfl (by kernel_rfl) (M.run_of_path _ [false, false, false, false, false, false, false, false, false, true, false, false, false, false, false, false, false, false, false, false, false, false, false, false, false, true, true] _ _ (by kernel_rfl) (all_nt c0 (all_f c1 (all_f c2 (all_nt c3 (all_nt c3 (all_nt c3 (all_nt c3 (all_nt c3 (all_nt c3 (all_t c9 (all_nt c3 (all_nt c3 (all_nt c12 (all_nt c12 (all_nt c12 (all_nt c12 (all_nt c12 (all_nt c12 (all_nt c12 (all_nt c12 (all_nt c12 (all_nt c12 (all_nt c12 (all_nt c12 (all_nt c12 (all_t c25 (all_t c26 all_nil)))))))))))))))))))))))))))) ?_) rfl, by simp, by simp, (wkR.tup (wkVs.cons (wkV.one (wk1.live rfl)) (wkVs.cons (wkV.one (wk1.eq rfl)) wkVs.nil))), ⟨wkBox.cells (wkL.cons (wk1.eq rfl) (wkL.cons (wk1.eq rfl) (wkL.cons (wk1.eq rfl) (wkL.cons (wk1.eq rfl) (wkL.cons (wk1.eq rfl) (wkL.cons (wk1.eq rfl) (wkL.cons (wk1.eq rfl) (wkL.cons (wk1.eq rfl) wkL.nil)))))))), ⟨wkBox.arr, trivial⟩⟩, by kernel_rfl⟩
                  intro p hp; cases hp
                · skip
                  cases h
              · skip
                cases h
                refine ⟨(.tup [(.sr 1 0 0 1 none), (.d (.bool false))]), [(.cells [(.d (.int .i64 x0.1.1)), (.d (.int .i64 x0.1.2.1)), (.d (.int .i64 x0.1.2.2)), (.d (.bool (x0.2.1))), (.d (.int .i64 (IntKind.wrap .i64 (x1 + x0.1.2.1)))), (.d (.bool (x0.2.2.2.1))), (.d (.sl .str x0.2.2.2.2.1)), (.d (.int .i64 x0.2.2.2.2.2))]), (.arr .str ([] : List (List UInt8)) true)], (.tup [(.sr 1 0 0 1 none), (.d (.bool (false)))]), [(.cells [(.d (.int .i64 (x0.1, (x0.2.1, ((IntKind.wrap .i64 (x1 + x0.1.2.1)), x0.2.2.2))).1.1)), (.d (.int .i64 (x0.1, (x0.2.1, ((IntKind.wrap .i64 (x1 + x0.1.2.1)), x0.2.2.2))).1.2.1)), (.d (.int .i64 (x0.1, (x0.2.1, ((IntKind.wrap .i64 (x1 + x0.1.2.1)), x0.2.2.2))).1.2.2)), (.d (.bool (x0.1, (x0.2.1, ((IntKind.wrap .i64 (x1 + x0.1.2.1)), x0.2.2.2))).2.1)), (.d (.int .i64 (x0.1, (x0.2.1, ((IntKind.wrap .i64 (x1 + x0.1.2.1)), x0.2.2.2))).2.2.1)), (.d (.bool (x0.1, (x0.2.1, ((IntKind.wrap .i64 (x1 + x0.1.2.1)), x0.2.2.2))).2.2.2.1)), (.d (.sl .str (x0.1, (x0.2.1, ((IntKind.wrap .i64 (x1 + x0.1.2.1)), x0.2.2.2))).2.2.2.2.1)), (.d (.int .i64 (x0.1, (x0.2.1, ((IntKind.wrap .i64 (x1 + x0.1.2.1)), x0.2.2.2))).2.2.2.2.2))]), (.arr .str ([] : List (List UInt8)) true)], padM_run rfl (runT_ok (LS := (fun k => none)) (fn := fn16) (vis := []) (r := (.tup [(.sr 1 0 0 1 none), (.d (.bool false))])) (B' := [(.cells [(.d (.int .i64 x0.1.1)), (.d (.int .i64 x0.1.2.1)), (.d (.int .i64 x0.1.2.2)), (.d (.bool (x0.2.1))), (.d (.int .i64 (IntKind.wrap .i64 (x1 + x0.1.2.1)))), (.d (.bool (x0.2.2.2.1))), (.d (.sl .str x0.2.2.2.2.1)), (.d (.int .i64 x0.2.2.2.2.2))]), (.arr .str ([] : List (List UInt8)) true)]) (by kernel_rfl) rfl (by kernel_rfl) (M.run_of_path _ [false, false, false, false, false, false, false, false, false, true, false, false, false, false, false, false, false, false, false, false, false, false, false, false, false, false] _ _ (by kernel_rfl) (all_nt c0 (all_f c1 (all_f c2 (all_nt c3 (all_nt c3 (all_nt c3 (all_nt c3 (all_nt c3 (all_nt c3 (all_t c9 (all_nt c3 (all_nt c3 (all_nt c12 (all_nt c12 (all_nt c12 (all_nt c12 (all_nt c12 (all_nt c12 (all_nt c12 (all_nt c12 (all_nt c12 (all_nt c12 (all_nt c12 (all_nt c12 (all_nt c12 (all_f c25 all_nil))))))))))))))))))))))))))) ?_) rfl, by simp, by simp, (wkR.tup (wkVs.cons (wkV.one (wk1.live rfl)) (wkVs.cons (wkV.one (wk1.eq rfl)) wkVs.nil))), ⟨wkBox.cells (wkL.cons (wk1.eq rfl) (wkL.cons (wk1.eq rfl) (wkL.cons (wk1.eq rfl) (wkL.cons (wk1.eq rfl) (wkL.cons (wk1.eq rfl) (wkL.cons (wk1.eq rfl) (wkL.cons (wk1.eq rfl) (wkL.cons (wk1.eq rfl) wkL.nil)))))))), ⟨wkBox.arr, trivial⟩⟩, by kernel_rfl⟩
                intro p hp; cases hp
            · skip
              refine ite_cases h (fun c26 h => ?_) (fun c26 h => ?_)
              · skip
                cases h
                refine ⟨(.tup [(.sr 1 0 (List.length x2) 1 none), (.d (.bool (true)))]), [(.cells [(.d (.int .i64 (tellG (x0.1, (x0.2.1, ((IntKind.wrap .i64 (x1 + x0.1.2.1)), x0.2.2.2))) x1 x2).1.1)), (.d (.int .i64 (tellG (x0.1, (x0.2.1, ((IntKind.wrap .i64 (x1 + x0.1.2.1)), x0.2.2.2))) x1 x2).1.2.1)), (.d (.int .i64 (tellG (x0.1, (x0.2.1, ((IntKind.wrap .i64 (x1 + x0.1.2.1)), x0.2.2.2))) x1 x2).1.2.2)), (.d (.bool (tellG (x0.1, (x0.2.1, ((IntKind.wrap .i64 (x1 + x0.1.2.1)), x0.2.2.2))) x1 x2).2.1)), (.d (.int .i64 (tellG (x0.1, (x0.2.1, ((IntKind.wrap .i64 (x1 + x0.1.2.1)), x0.2.2.2))) x1 x2).2.2.1)), (.d (.bool (tellG (x0.1, (x0.2.1, ((IntKind.wrap .i64 (x1 + x0.1.2.1)), x0.2.2.2))) x1 x2).2.2.2.1)), (.d (.sl .str (tellG (x0.1, (x0.2.1, ((IntKind.wrap .i64 (x1 + x0.1.2.1)), x0.2.2.2))) x1 x2).2.2.2.2.1)), (.d (.int .i64 (tellG (x0.1, (x0.2.1, ((IntKind.wrap .i64 (x1 + x0.1.2.1)), x0.2.2.2))) x1 x2).2.2.2.2.2))]), (.arr .str x2 true)], (.tup [(.sr 1 0 (List.length x2) 1 none), (.d (.bool (true)))]), [(.cells [(.d (.int .i64 (tellG (x0.1, (x0.2.1, ((IntKind.wrap .i64 (x1 + x0.1.2.1)), x0.2.2.2))) x1 x2).1.1)), (.d (.int .i64 (tellG (x0.1, (x0.2.1, ((IntKind.wrap .i64 (x1 + x0.1.2.1)), x0.2.2.2))) x1 x2).1.2.1)), (.d (.int .i64 (tellG (x0.1, (x0.2.1, ((IntKind.wrap .i64 (x1 + x0.1.2.1)), x0.2.2.2))) x1 x2).1.2.2)), (.d (.bool (tellG (x0.1, (x0.2.1, ((IntKind.wrap .i64 (x1 + x0.1.2.1)), x0.2.2.2))) x1 x2).2.1)), (.d (.int .i64 (tellG (x0.1, (x0.2.1, ((IntKind.wrap .i64 (x1 + x0.1.2.1)), x0.2.2.2))) x1 x2).2.2.1)), (.d (.bool (tellG (x0.1, (x0.2.1, ((IntKind.wrap .i64 (x1 + x0.1.2.1)), x0.2.2.2))) x1 x2).2.2.2.1)), (.d (.sl .str (tellG (x0.1, (x0.2.1, ((IntKind.wrap .i64 (x1 + x0.1.2.1)), x0.2.2.2))) x1 x2).2.2.2.2.1)), (.d (.int .i64 (tellG (x0.1, (x0.2.1, ((IntKind.wrap .i64 (x1 + x0.1.2.1)), x0.2.2.2))) x1 x2).2.2.2.2.2))]), (.arr .str x2 true)], padM_run rfl (runT_ok (LS := (fun k => none)) (fn := fn16) (vis := []) (r := (.tup [(.sr 1 0 (List.length x2) 1 none), (.d (.bool (true)))])) (B' := [(.cells [(.d (.int .i64 (tellG (x0.1, (x0.2.1, ((IntKind.wrap .i64 (x1 + x0.1.2.1)), x0.2.2.2))) x1 x2).1.1)), (.d (.int .i64 (tellG (x0.1, (x0.2.1, ((IntKind.wrap .i64 (x1 + x0.1.2.1)), x0.2.2.2))) x1 x2).1.2.1)), (.d (.int .i64 (tellG (x0.1, (x0.2.1, ((IntKind.wrap .i64 (x1 + x0.1.2.1)), x0.2.2.2))) x1 x2).1.2.2)), (.d (.bool (tellG (x0.1, (x0.2.1, ((IntKind.wrap .i64 (x1 + x0.1.2.1)), x0.2.2.2))) x1 x2).2.1)), (.d (.int .i64 (tellG (x0.1, (x0.2.1, ((IntKind.wrap .i64 (x1 + x0.1.2.1)), x0.2.2.2))) x1 x2).2.2.1)), (.d (.bool (tellG (x0.1, (x0.2.1, ((IntKind.wrap .i64 (x1 + x0.1.2.1)), x0.2.2.2))) x1 x2).2.2.2.1)), (.d (.sl .str (tellG (x0.1, (x0.2.1, ((IntKind.wrap .i64 (x1 + x0.1.2.1)), x0.2.2.2))) x1 x2).2.2.2.2.1)), (.d (.int .i64 (tellG (x0.1, (x0.2.1, ((IntKind.wrap .i64 (x1 + x0.1.2.1)), x0.2.2.2))) x1 x2).2.2.2.2.2))]), (.arr .str x2 true)]) (by kernel_rfl) rfl (by kernel_rfl) (M.run_of_path _ [false, false, false, false, false, false, false, false, false, true, false, false, true, true, true, true, true, true, true, true, true, true, true, true, true, true, true] _ _ (by kernel_rfl) (all_nt c0 (all_f c1 (all_f c2 (all_nt c3 (all_nt c3 (all_nt c3 (all_nt c3 (all_nt c3 (all_nt c3 (all_t c9 (all_nt c3 (all_nt c3 (all_nf c12 (all_nf c12 (all_nf c12 (all_nf c12 (all_nf c12 (all_nf c12 (all_nf c12 (all_nf c12 (all_nf c12 (all_nf c12 (all_nf c12 (all_nf c12 (all_nf c12 (all_t rfl (all_t c26 all_nil)))))))))))))))))))))))))))) ?_) rfl, by simp, by simp, (wkR.tup (wkVs.cons (wkV.one (wk1.live rfl)) (wkVs.cons (wkV.one (wk1.eq rfl)) wkVs.nil))), ⟨wkBox.cells (wkL.cons (wk1.eq rfl) (wkL.cons (wk1.eq rfl) (wkL.cons (wk1.eq rfl) (wkL.cons (wk1.eq rfl) (wkL.cons (wk1.eq rfl) (wkL.cons (wk1.eq rfl) (wkL.cons (wk1.eq rfl) (wkL.cons (wk1.eq rfl) wkL.nil)))))))), ⟨wkBox.arr, trivial⟩⟩, by kernel_rfl⟩
                intro p hp; cases hp
              · skip
                cases h
          · skip
            cases h
        · skip
          refine ite_cases h (fun c25 h => ?_) (fun c25 h => ?_)
          · skip
            cases h
            refine ⟨(.tup [(.sr 1 0 (List.length x2) 1 none), (.d (.bool (true)))]), [(.cells [(.d (.int .i64 (tellG (x0.1, (x0.2.1, ((IntKind.wrap .i64 (x1 + x0.1.2.1)), x0.2.2.2))) x1 x2).1.1)), (.d (.int .i64 (tellG (x0.1, (x0.2.1, ((IntKind.wrap .i64 (x1 + x0.1.2.1)), x0.2.2.2))) x1 x2).1.2.1)), (.d (.int .i64 (tellG (x0.1, (x0.2.1, ((IntKind.wrap .i64 (x1 + x0.1.2.1)), x0.2.2.2))) x1 x2).1.2.2)), (.d (.bool (tellG (x0.1, (x0.2.1, ((IntKind.wrap .i64 (x1 + x0.1.2.1)), x0.2.2.2))) x1 x2).2.1)), (.d (.int .i64 (tellG (x0.1, (x0.2.1, ((IntKind.wrap .i64 (x1 + x0.1.2.1)), x0.2.2.2))) x1 x2).2.2.1)), (.d (.bool (tellG (x0.1, (x0.2.1, ((IntKind.wrap .i64 (x1 + x0.1.2.1)), x0.2.2.2))) x1 x2).2.2.2.1)), (.d (.sl .str (tellG (x0.1, (x0.2.1, ((IntKind.wrap .i64 (x1 + x0.1.2.1)), x0.2.2.2))) x1 x2).2.2.2.2.1)), (.d (.int .i64 (tellG (x0.1, (x0.2.1, ((IntKind.wrap .i64 (x1 + x0.1.2.1)), x0.2.2.2))) x1 x2).2.2.2.2.2))]), (.arr .str x2 true)], (.tup [(.sr 1 0 (List.length x2) 1 none), (.d (.bool (true)))]), [(.cells [(.d (.int .i64 (tellG (x0.1, (x0.2.1, ((IntKind.wrap .i64 (x1 + x0.1.2.1)), x0.2.2.2))) x1 x2).1.1)), (.d (.int .i64 (tellG (x0.1, (x0.2.1, ((IntKind.wrap .i64 (x1 + x0.1.2.1)), x0.2.2.2))) x1 x2).1.2.1)), (.d (.int .i64 (tellG (x0.1, (x0.2.1, ((IntKind.wrap .i64 (x1 + x0.1.2.1)), x0.2.2.2))) x1 x2).1.2.2)), (.d (.bool (tellG (x0.1, (x0.2.1, ((IntKind.wrap .i64 (x1 + x0.1.2.1)), x0.2.2.2))) x1 x2).2.1)), (.d (.int .i64 (tellG (x0.1, (x0.2.1, ((IntKind.wrap .i64 (x1 + x0.1.2.1)), x0.2.2.2))) x1 x2).2.2.1)), (.d (.bool (tellG (x0.1, (x0.2.1, ((IntKind.wrap .i64 (x1 + x0.1.2.1)), x0.2.2.2))) x1 x2).2.2.2.1)), (.d (.sl .str (tellG (x0.1, (x0.2.1, ((IntKind.wrap .i64 (x1 + x0.1.2.1)), x0.2.2.2))) x1 x2).2.2.2.2.1)), (.d (.int .i64 (tellG (x0.1, (x0.2.1, ((IntKind.wrap .i64 (x1 + x0.1.2.1)), x0.2.2.2))) x1 x2).2.2.2.2.2))]), (.arr .str x2 true)], padM_run rfl (runT_ok (LS := (fun k => none)) (fn := fn16) (vis := []) (r := (.tup [(.sr 1 0 (List.length x2) 1 none), (.d (.bool (true)))])) (B' := [(.cells [(.d (.int .i64 (tellG (x0.1, (x0.2.1, ((IntKind.wrap .i64 (x1 + x0.1.2.1)), x0.2.2.2))) x1 x2).1.1)), (.d (.int .i64 (tellG (x0.1, (x0.2.1, ((IntKind.wrap .i64 (x1 + x0.1.2.1)), x0.2.2.2))) x1 x2).1.2.1)), (.d (.int .i64 (tellG (x0.1, (x0.2.1, ((IntKind.wrap .i64 (x1 + x0.1.2.1)), x0.2.2.2))) x1 x2).1.2.2)), (.d (.bool (tellG (x0.1, (x0.2.1, ((IntKind.wrap .i64 (x1 + x0.1.2.1)), x0.2.2.2))) x1 x2).2.1)), (.d (.int .i64 (tellG (x0.1, (x0.2.1, ((IntKind.wrap .i64 (x1 + x0.1.2.1)), x0.2.2.2))) x1 x2).2.2.1)), (.d (.bool (tellG (x0.1, (x0.2.1, ((IntKind.wrap .i64 (x1 + x0.1.2.1)), x0.2.2.2))) x1 x2).2.2.2.1)), (.d (.sl .str (tellG (x0.1, (x0.2.1, ((IntKind.wrap .i64 (x1 + x0.1.2.1)), x0.2.2.2))) x1 x2).2.2.2.2.1)), (.d (.int .i64 (tellG (x0.1, (x0.2.1, ((IntKind.wrap .i64 (x1 + x0.1.2.1)), x0.2.2.2))) x1 x2).2.2.2.2.2))]), (.arr .str x2 true)]) (by kernel_rfl) rfl (by kernel_rfl) (M.run_of_path _ [false, false, false, true, true, true, true, true, true, true, true, true, true, true, true, true, true, true, true, true, true, true, true, true, true, true] _ _ (by kernel_rfl) (all_nt c0 (all_f c1 (all_f c2 (all_nf c3 (all_nf c3 (all_nf c3 (all_nf c3 (all_nf c3 (all_nf c3 (all_nf c3 (all_nf c3 (all_t rfl (all_t rfl (all_t rfl (all_t rfl (all_t rfl (all_t rfl (all_t rfl (all_t rfl (all_t rfl (all_t rfl (all_t rfl (all_t rfl (all_t rfl (all_t rfl (all_t c25 all_nil))))))))))))))))))))))))))) ?_) rfl, by simp, by simp, (wkR.tup (wkVs.cons (wkV.one (wk1.live rfl)) (wkVs.cons (wkV.one (wk1.eq rfl)) wkVs.nil))), ⟨wkBox.cells (wkL.cons (wk1.eq rfl) (wkL.cons (wk1.eq rfl) (wkL.cons (wk1.eq rfl) (wkL.cons (wk1.eq rfl) (wkL.cons (wk1.eq rfl) (wkL.cons (wk1.eq rfl) (wkL.cons (wk1.eq rfl) (wkL.cons (wk1.eq rfl) wkL.nil)))))))), ⟨wkBox.arr, trivial⟩⟩, by kernel_rfl⟩
            intro p hp; cases hp
          · skip
            cases h
  · skip
    refine ite_cases h (fun c1 h => ?_) (fun c1 h => ?_)
    · skip
      cases h
      refine ⟨(.tup [(.sr 1 0 0 1 none), (.d (.bool false))]), [(.cells [(.d (.int .i64 x0.1.1)), (.d (.int .i64 x0.1.2.1)), (.d (.int .i64 x0.1.2.2)), (.d (.bool (x0.2.1))), (.d (.int .i64 x0.2.2.1)), (.d (.bool (x0.2.2.2.1))), (.d (.sl .str x0.2.2.2.2.1)), (.d (.int .i64 x0.2.2.2.2.2))]), (.arr .str ([] : List (List UInt8)) true)], (.tup [(.sr 1 0 0 1 none), (.d (.bool (false)))]), [(.cells [(.d (.int .i64 x0.1.1)), (.d (.int .i64 x0.1.2.1)), (.d (.int .i64 x0.1.2.2)), (.d (.bool (x0.2.1))), (.d (.int .i64 x0.2.2.1)), (.d (.bool (x0.2.2.2.1))), (.d (.sl .str x0.2.2.2.2.1)), (.d (.int .i64 x0.2.2.2.2.2))]), (.arr .str ([] : List (List UInt8)) true)], padM_run rfl (runT_ok (LS := (fun k => none)) (fn := fn16) (vis := []) (r := (.tup [(.sr 1 0 0 1 none), (.d (.bool false))])) (B' := [(.cells [(.d (.int .i64 x0.1.1)), (.d (.int .i64 x0.1.2.1)), (.d (.int .i64 x0.1.2.2)), (.d (.bool (x0.2.1))), (.d (.int .i64 x0.2.2.1)), (.d (.bool (x0.2.2.2.1))), (.d (.sl .str x0.2.2.2.2.1)), (.d (.int .i64 x0.2.2.2.2.2))]), (.arr .str ([] : List (List UInt8)) true)]) (by kernel_rfl) rfl (by kernel_rfl) (M.run_of_path _ [true, true] _ _ (by kernel_rfl) (all_nf c0 (all_t c1 all_nil))) ?_) rfl, by simp, by simp, (wkR.tup (wkVs.cons (wkV.one (wk1.live rfl)) (wkVs.cons (wkV.one (wk1.eq rfl)) wkVs.nil))), ⟨wkBox.cells (wkL.cons (wk1.eq rfl) (wkL.cons (wk1.eq rfl) (wkL.cons (wk1.eq rfl) (wkL.cons (wk1.eq rfl) (wkL.cons (wk1.eq rfl) (wkL.cons (wk1.eq rfl) (wkL.cons (wk1.eq rfl) (wkL.cons (wk1.eq rfl) wkL.nil)))))))), ⟨wkBox.arr, trivial⟩⟩, by kernel_rfl⟩
      intro p hp; cases hp
    · skip
      refine ite_cases h (fun c2 h => ?_) (fun c2 h => ?_)
      · skip
        cases h
        refine ⟨(.tup [(.sr 1 0 0 1 none), (.d (.bool false))]), [(.cells [(.d (.int .i64 x0.1.1)), (.d (.int .i64 x0.1.2.1)), (.d (.int .i64 x0.1.2.2)), (.d (.bool true)), (.d (.int .i64 (IntKind.wrap .i64 (x1 + x0.1.1)))), (.d (.bool false)), (.d .nils), (.d (.int .i64 (0)))]), (.arr .str ([] : List (List UInt8)) true)], (.tup [(.sr 1 0 0 1 none), (.d (.bool (false)))]), [(.cells [(.d (.int .i64 (x0.1, (true, ((IntKind.wrap .i64 (x1 + x0.1.1)), (false, (([] : List (List UInt8)), (0)))))).1.1)), (.d (.int .i64 (x0.1, (true, ((IntKind.wrap .i64 (x1 + x0.1.1)), (false, (([] : List (List UInt8)), (0)))))).1.2.1)), (.d (.int .i64 (x0.1, (true, ((IntKind.wrap .i64 (x1 + x0.1.1)), (false, (([] : List (List UInt8)), (0)))))).1.2.2)), (.d (.bool (x0.1, (true, ((IntKind.wrap .i64 (x1 + x0.1.1)), (false, (([] : List (List UInt8)), (0)))))).2.1)), (.d (.int .i64 (x0.1, (true, ((IntKind.wrap .i64 (x1 + x0.1.1)), (false, (([] : List (List UInt8)), (0)))))).2.2.1)), (.d (.bool (x0.1, (true, ((IntKind.wrap .i64 (x1 + x0.1.1)), (false, (([] : List (List UInt8)), (0)))))).2.2.2.1)), (.d (.sl .str (x0.1, (true, ((IntKind.wrap .i64 (x1 + x0.1.1)), (false, (([] : List (List UInt8)), (0)))))).2.2.2.2.1)), (.d (.int .i64 (x0.1, (true, ((IntKind.wrap .i64 (x1 + x0.1.1)), (false, (([] : List (List UInt8)), (0)))))).2.2.2.2.2))]), (.arr .str ([] : List (List UInt8)) true)], padM_run rfl (runT_ok (LS := (fun k => none)) (fn := fn16) (vis := []) (r := (.tup [(.sr 1 0 0 1 none), (.d (.bool false))])) (B' := [(.cells [(.d (.int .i64 x0.1.1)), (.d (.int .i64 x0.1.2.1)), (.d (.int .i64 x0.1.2.2)), (.d (.bool true)), (.d (.int .i64 (IntKind.wrap .i64 (x1 + x0.1.1)))), (.d (.bool false)), (.d .nils), (.d (.int .i64 (0)))]), (.arr .str ([] : List (List UInt8)) true)]) (by kernel_rfl) rfl (by kernel_rfl) (M.run_of_path _ [true, false, true] _ _ (by kernel_rfl) (all_nf c0 (all_f c1 (all_t c2 all_nil)))) ?_) rfl, by simp, by simp, (wkR.tup (wkVs.cons (wkV.one (wk1.live rfl)) (wkVs.cons (wkV.one (wk1.eq rfl)) wkVs.nil))), ⟨wkBox.cells (wkL.cons (wk1.eq rfl) (wkL.cons (wk1.eq rfl) (wkL.cons (wk1.eq rfl) (wkL.cons (wk1.eq rfl) (wkL.cons (wk1.eq rfl) (wkL.cons (wk1.eq rfl) (wkL.cons wk1.nil (wkL.cons (wk1.eq rfl) wkL.nil)))))))), ⟨wkBox.arr, trivial⟩⟩, by kernel_rfl⟩
        intro p hp; cases hp
      · skip
        refine ite_cases h (fun c26 h => ?_) (fun c26 h => ?_)
        · skip
          cases h
          refine ⟨(.tup [(.sr 1 0 (List.length x2) 1 none), (.d (.bool (true)))]), [(.cells [(.d (.int .i64 (tellG (x0.1, (true, ((IntKind.wrap .i64 (x1 + x0.1.2.1)), (false, (([] : List (List UInt8)), (0)))))) x1 x2).1.1)), (.d (.int .i64 (tellG (x0.1, (true, ((IntKind.wrap .i64 (x1 + x0.1.2.1)), (false, (([] : List (List UInt8)), (0)))))) x1 x2).1.2.1)), (.d (.int .i64 (tellG (x0.1, (true, ((IntKind.wrap .i64 (x1 + x0.1.2.1)), (false, (([] : List (List UInt8)), (0)))))) x1 x2).1.2.2)), (.d (.bool (tellG (x0.1, (true, ((IntKind.wrap .i64 (x1 + x0.1.2.1)), (false, (([] : List (List UInt8)), (0)))))) x1 x2).2.1)), (.d (.int .i64 (tellG (x0.1, (true, ((IntKind.wrap .i64 (x1 + x0.1.2.1)), (false, (([] : List (List UInt8)), (0)))))) x1 x2).2.2.1)), (.d (.bool (tellG (x0.1, (true, ((IntKind.wrap .i64 (x1 + x0.1.2.1)), (false, (([] : List (List UInt8)), (0)))))) x1 x2).2.2.2.1)), (.d (.sl .str (tellG (x0.1, (true, ((IntKind.wrap .i64 (x1 + x0.1.2.1)), (false, (([] : List (List UInt8)), (0)))))) x1 x2).2.2.2.2.1)), (.d (.int .i64 (tellG (x0.1, (true, ((IntKind.wrap .i64 (x1 + x0.1.2.1)), (false, (([] : List (List UInt8)), (0)))))) x1 x2).2.2.2.2.2))]), (.arr .str x2 true)], (.tup [(.sr 1 0 (List.length x2) 1 none), (.d (.bool (true)))]), [(.cells [(.d (.int .i64 (tellG (x0.1, (true, ((IntKind.wrap .i64 (x1 + x0.1.2.1)), (false, (([] : List (List UInt8)), (0)))))) x1 x2).1.1)), (.d (.int .i64 (tellG (x0.1, (true, ((IntKind.wrap .i64 (x1 + x0.1.2.1)), (false, (([] : List (List UInt8)), (0)))))) x1 x2).1.2.1)), (.d (.int .i64 (tellG (x0.1, (true, ((IntKind.wrap .i64 (x1 + x0.1.2.1)), (false, (([] : List (List UInt8)), (0)))))) x1 x2).1.2.2)), (.d (.bool (tellG (x0.1, (true, ((IntKind.wrap .i64 (x1 + x0.1.2.1)), (false, (([] : List (List UInt8)), (0)))))) x1 x2).2.1)), (.d (.int .i64 (tellG (x0.1, (true, ((IntKind.wrap .i64 (x1 + x0.1.2.1)), (false, (([] : List (List UInt8)), (0)))))) x1 x2).2.2.1)), (.d (.bool (tellG (x0.1, (true, ((IntKind.wrap .i64 (x1 + x0.1.2.1)), (false, (([] : List (List UInt8)), (0)))))) x1 x2).2.2.2.1)), (.d (.sl .str (tellG (x0.1, (true, ((IntKind.wrap .i64 (x1 + x0.1.2.1)), (false, (([] : List (List UInt8)), (0)))))) x1 x2).2.2.2.2.1)), (.d (.int .i64 (tellG (x0.1, (true, ((IntKind.wrap .i64 (x1 + x0.1.2.1)), (false, (([] : List (List UInt8)), (0)))))) x1 x2).2.2.2.2.2))]), (.arr .str x2 true)], padM_run rfl (runT_ok (LS := (fun k => none)) (fn := fn16) (vis := []) (r := (.tup [(.sr 1 0 (List.length x2) 1 none), (.d (.bool (true)))])) (B' := [(.cells [(.d (.int .i64 (tellG (x0.1, (true, ((IntKind.wrap .i64 (x1 + x0.1.2.1)), (false, (([] : List (List UInt8)), (0)))))) x1 x2).1.1)), (.d (.int .i64 (tellG (x0.1, (true, ((IntKind.wrap .i64 (x1 + x0.1.2.1)), (false, (([] : List (List UInt8)), (0)))))) x1 x2).1.2.1)), (.d (.int .i64 (tellG (x0.1, (true, ((IntKind.wrap .i64 (x1 + x0.1.2.1)), (false, (([] : List (List UInt8)), (0)))))) x1 x2).1.2.2)), (.d (.bool (tellG (x0.1, (true, ((IntKind.wrap .i64 (x1 + x0.1.2.1)), (false, (([] : List (List UInt8)), (0)))))) x1 x2).2.1)), (.d (.int .i64 (tellG (x0.1, (true, ((IntKind.wrap .i64 (x1 + x0.1.2.1)), (false, (([] : List (List UInt8)), (0)))))) x1 x2).2.2.1)), (.d (.bool (tellG (x0.1, (true, ((IntKind.wrap .i64 (x1 + x0.1.2.1)), (false, (([] : List (List UInt8)), (0)))))) x1 x2).2.2.2.1)), (.d (.sl .str (tellG (x0.1, (true, ((IntKind.wrap .i64 (x1 + x0.1.2.1)), (false, (([] : List (List UInt8)), (0)))))) x1 x2).2.2.2.2.1)), (.d (.int .i64 (tellG (x0.1, (true, ((IntKind.wrap .i64 (x1 + x0.1.2.1)), (false, (([] : List (List UInt8)), (0)))))) x1 x2).2.2.2.2.2))]), (.arr .str x2 true)]) (by kernel_rfl) rfl (by kernel_rfl) (M.run_of_path _ [true, false, false, false, true, true, true, true, true, true, true, true, true, true, true, true, true, true, true, true, true, true, true, true, true, true, true] _ _ (by kernel_rfl) (all_nf c0 (all_f c1 (all_f c2 (all_f c1 (all_t rfl (all_t rfl (all_t rfl (all_t rfl (all_t rfl (all_t rfl (all_t rfl (all_t rfl (all_t rfl (all_t rfl (all_t rfl (all_t rfl (all_t rfl (all_t rfl (all_t rfl (all_t rfl (all_t rfl (all_t rfl (all_t rfl (all_t rfl (all_t rfl (all_t rfl (all_t c26 all_nil)))))))))))))))))))))))))))) ?_) rfl, by simp, by simp, (wkR.tup (wkVs.cons (wkV.one (wk1.live rfl)) (wkVs.cons (wkV.one (wk1.eq rfl)) wkVs.nil))), ⟨wkBox.cells (wkL.cons (wk1.eq rfl) (wkL.cons (wk1.eq rfl) (wkL.cons (wk1.eq rfl) (wkL.cons (wk1.eq rfl) (wkL.cons (wk1.eq rfl) (wkL.cons (wk1.eq rfl) (wkL.cons (wk1.eq rfl) (wkL.cons (wk1.eq rfl) wkL.nil)))))))), ⟨wkBox.arr, trivial⟩⟩, by kernel_rfl⟩
          intro p hp; cases hp
        · skip
          cases h

/-- Tick, in plain words. -/
def tickG (g : GS) (t : Int) (al : TL) : TL × Bool × GS :=
  if g.2.1 = false ∧ al = [] then ([], false, g)
  else if t < (if g.2.1 then g.2.2.1 else t + g.1.1) then ([], false, (g.1, true, if g.2.1 then g.2.2 else (t + g.1.1, false, [], 0)))
  else if al = [] then ([], if g.2.1 then g.2.2.2.1 else false, (g.1, false, 0, false, [], 0))
  else if g.2.1 = false ∨ g.2.2.2.1 = false ∨ al ≠ g.2.2.2.2.1 ∨ t - g.2.2.2.2.2 ≥ g.1.2.2 then (al, true, (g.1, true, t + g.1.2.1, true, al, t))
  else ([], false, (g.1, true, t + g.1.2.1, g.2.2.2))
def tickPre (g : GS) (t : Int) (al : TL) : Bool := decide (0 ≤ t ∧ t ≤ 1099511627776 ∧ 0 ≤ g.1.1 ∧ g.1.1 ≤ 1099511627776 ∧ 0 ≤ g.1.2.1 ∧ g.1.2.1 ≤ 1099511627776 ∧ 0 ≤ g.2.2.2.2.2 ∧ g.2.2.2.2.2 ≤ 1099511627776 ∧ al.length * 16 ≤ 70368744177664)
theorem tick16 (g : GS) (t : Int) (al : TL) (h : tickPre g t al = true) : ∃ m, p16 m g t al = some (tickG g t al) := by
  refine ⟨0, ?_⟩
  have h := of_decide_eq_true h
  obtain ⟨⟨w, i, r⟩, busy, nx, told, last, since⟩ := g
  simp only at h
  have e1 : IntKind.wrap .i64 (t + w) = t + w := wrap_id (by omega) (by omega)
  have e2 : IntKind.wrap .i64 (t + i) = t + i := wrap_id (by omega) (by omega)
  have e3 : IntKind.wrap .i64 (t - since) = t - since := wrap_id (by omega) (by omega)
  have e4 : decide ((List.length al * 16) ≤ 70368744177664) = true := decide_eq_true h.2.2.2.2.2.2.2.2
  have e5 : decide (List.length al < 4611686018427387904) = true := decide_eq_true (by omega)
  have e6 : (((List.length al : Nat) : Int) == (0)) = decide (al = []) := by cases al <;> simp; omega
  unfold p16 tickG tellG
  simp only [e1, e2, e3, e4, e5, e6]
  cases busy <;> cases told <;> by_cases ha : al = [] <;> simp [ha]
  all_goals (try split) <;> (try split) <;> (try split) <;> simp_all
  all_goals omega
def s16 : List AV → Boxes → M (AV × Boxes) := normS [.ptr, .val (.int .i64), .val (.sl .str)] [(.pair (.pair (.int .i64) (.pair (.int .i64) (.int .i64))) (.pair .bool (.pair (.int .i64) (.pair .bool (.pair (.sl .str) (.int .i64))))))] fun xs B => match xs, B with
  | [(.ptr 0 0), (.d (.int .i64 c9)), (.d (.sl .str c10))], [(.cells [(.d (.int .i64 c1)), (.d (.int .i64 c2)), (.d (.int .i64 c3)), (.d (.bool c4)), (.d (.int .i64 c5)), (.d (.bool c6)), (.d (.sl .str c7)), (.d (.int .i64 c8))])] => .chk (tickPre (((c1, (c2, c3)), (c4, (c5, (c6, (c7, c8)))))) c9 c10) (.ret ((.tup [(.sr 1 0 (List.length (tickG (((c1, (c2, c3)), (c4, (c5, (c6, (c7, c8)))))) c9 c10).1) 1 none), (.d (.bool (tickG (((c1, (c2, c3)), (c4, (c5, (c6, (c7, c8)))))) c9 c10).2.1))]), [(.cells [(.d (.int .i64 (tickG (((c1, (c2, c3)), (c4, (c5, (c6, (c7, c8)))))) c9 c10).2.2.1.1)), (.d (.int .i64 (tickG (((c1, (c2, c3)), (c4, (c5, (c6, (c7, c8)))))) c9 c10).2.2.1.2.1)), (.d (.int .i64 (tickG (((c1, (c2, c3)), (c4, (c5, (c6, (c7, c8)))))) c9 c10).2.2.1.2.2)), (.d (.bool (tickG (((c1, (c2, c3)), (c4, (c5, (c6, (c7, c8)))))) c9 c10).2.2.2.1)), (.d (.int .i64 (tickG (((c1, (c2, c3)), (c4, (c5, (c6, (c7, c8)))))) c9 c10).2.2.2.2.1)), (.d (.bool (tickG (((c1, (c2, c3)), (c4, (c5, (c6, (c7, c8)))))) c9 c10).2.2.2.2.2.1)), (.d (.sl .str (tickG (((c1, (c2, c3)), (c4, (c5, (c6, (c7, c8)))))) c9 c10).2.2.2.2.2.2.1)), (.d (.int .i64 (tickG (((c1, (c2, c3)), (c4, (c5, (c6, (c7, c8)))))) c9 c10).2.2.2.2.2.2.2))]), (.arr .str (tickG (((c1, (c2, c3)), (c4, (c5, (c6, (c7, c8)))))) c9 c10).1 true)]))
  | _, _ => .fail
theorem s16_at : CallAt Try.prog 16 s16 := by
  refine CallAt.norm (CallAt.weakC (g := fun n xs B => padM .str 0 (evCall F S5 n 16 xs B)) (fun n => CallAt.pad .str 0 (evCall_atH mixed kinds hds S5 S5_ok n 16)) fun xs B r' B' hr => ?_) _ _
  split at hr
  · rename_i c9 c10 c1 c2 c3 c4 c5 c6 c7 c8
    obtain ⟨hp, hr⟩ := (M.run_chk _ _ _).1 hr
    simp only [M.run, Option.some.injEq, Prod.mk.injEq] at hr
    obtain ⟨rfl, rfl⟩ := hr
    obtain ⟨m, hm⟩ := tick16 (((c1, (c2, c3)), (c4, (c5, (c6, (c7, c8)))))) c9 c10 hp
    obtain ⟨r, B1, r1, B2, h1, h2, h3, h4, h5, h6⟩ := p16_ok m (((c1, (c2, c3)), (c4, (c5, (c6, (c7, c8)))))) c9 c10 _ hm
    exact ⟨m + 25, r, B1, r1, B2, h1, by simp, h2, h3, h4, h5, h6⟩
  · simp [M.run] at hr
noncomputable def S6 : FuncId → Option (List AV → Boxes → M (AV × Boxes)) := fun f => if f = 16 then some s16 else S5 f
set_option maxHeartbeats 20000000 in
theorem S6_ok : ∀ f s, S6 f = some s → CallAt Try.prog f s := by
  intro f s h
  unfold S6 at h
  split at h
  · rename_i e; subst e; cases h; exact s16_at
  · exact S5_ok f s h

end Go.Proofs.Ytkppbflmlpabjab.Dec
namespace Go.Proofs.Ytkppbflmlpabjab.Dec
open Go.Ev
set_option linter.unusedVariables false
set_option linter.unusedSimpArgs false
set_option maxRecDepth 100000
noncomputable def fn43 : AFn := (F 43).getD ⟨0, [], .bad, false, false, noHd⟩
noncomputable def body43 : AC := fn43.body
def l43_0 (m : Nat) : Nat → List (List UInt8) → List (List UInt8) → Int → Int → Option (Nat × Int)
  | 0, _, _, _, _ => none
  | n + 1, x0, x1, s12, s13 => if decide (s13 < s12) = true then
      if decide (0 ≤ s13) = true then
        if decide (s13 < (((List.length x0) : Nat) : Int)) = true then
          if decide (s13 < (((List.length x1) : Nat) : Int)) = true then
            if ((List.getD x0 (Int.toNat s13) ([] : List UInt8)) == (List.getD x1 (Int.toNat s13) ([] : List UInt8))) = true then
              l43_0 m n x0 x1 s12 ((IntKind.wrap .i64 (s13 + (1))))
            else
              some (0, s13)
          else
            none
        else
          none
      else
        none
    else
      some (1, s13)
def l43_0D : Nat × Int := (0, 0)
@[reducible] def l43_0R (m n : Nat) (x0 : List (List UInt8)) (x1 : List (List UInt8)) (s12 : Int) (s13 : Int) : Nat × Int := Option.getD (l43_0 m n x0 x1 s12 s13) l43_0D
def l43_0H (x0 : List (List UInt8)) (x1 : List (List UInt8)) (s12 : Int) (s13 : Int) : Env := [(.d (.sl .str x0)), (.d (.sl .str x1)), .top, .top, .top, .top, .top, .top, .top, .top, .top, .top, (.d (.int .i64 s12)), (.d (.int .i64 s13)), .top, .top, .top, .top, .top, .top, .top, .top, .top, .top, .top, .top]
def l43_0B (x0 : List (List UInt8)) (x1 : List (List UInt8)) (s12 : Int) (s13 : Int) : Boxes := []
def l43_0E (x0 : List (List UInt8)) (x1 : List (List UInt8)) (s12 : Int) (s13 : Int) : Nat → AEx × Env × Boxes
  | 0 => (.ret, [(.d (.sl .str x0)), (.d (.sl .str x1)), .top, .top, (.d (.bool false)), (.d (.int .i64 s13)), .top, .top, .top, .top, .top, .top, (.d (.int .i64 s12)), (.d (.int .i64 s13)), (.d (.bool (decide (s13 < s12)))), (.d (.int .i64 s13)), (.d (.sl .str x0)), (.d (.int .i64 s13)), (.cptr [(.str (List.getD x0 (Int.toNat s13) ([] : List UInt8)))] 0), (.d (.str (List.getD x0 (Int.toNat s13) ([] : List UInt8)))), (.d (.sl .str x1)), (.d (.int .i64 s13)), (.cptr [(.str (List.getD x1 (Int.toNat s13) ([] : List UInt8)))] 0), (.d (.str (List.getD x1 (Int.toNat s13) ([] : List UInt8)))), (.d (.bool (!((List.getD x0 (Int.toNat s13) ([] : List UInt8)) == (List.getD x1 (Int.toNat s13) ([] : List UInt8)))))), .top], [.dead, .dead, .dead, .dead, .dead, .dead, .dead, .dead, .dead, .dead, .dead, .dead, .dead, .dead, .dead, .dead, .dead, .dead, .dead, .dead, .dead, .dead, .dead, .dead, .dead, .dead, .dead, .dead, .dead, .dead, .dead, .dead, .dead, .dead, .dead, .dead])
  | _ => (.exit 0, [(.d (.sl .str x0)), (.d (.sl .str x1)), .top, .top, .top, .top, .top, .top, .top, .top, .top, .top, (.d (.int .i64 s12)), (.d (.int .i64 s13)), (.d (.bool (decide (s13 < s12)))), .top, .top, .top, .top, .top, .top, .top, .top, .top, .top, .top], [])
noncomputable def lbl43_0 : AC := loopBody 12291 body43

set_option maxHeartbeats 20000000 in
theorem l43_0_w0 (m n : Nat) (x0 : List (List UInt8)) (x1 : List (List UInt8)) (s12 : Int) (s13 : Int) (r : AEx × Env × Boxes) (c0 : decide (s13 < s12) = true) (c1 : decide (0 ≤ s13) = true) (c2 : decide (s13 < (((List.length x0) : Nat) : Int)) = true) (c4 : decide (s13 < (((List.length x1) : Nat) : Int)) = true) (c5 : ((List.getD x0 (Int.toNat s13) ([] : List UInt8)) == (List.getD x1 (Int.toNat s13) ([] : List UInt8))) = true) (ih : (turns (hds 43 12291) 0 12291 (evC byref (evCall F S6 (m + 24)) (m + 24) 0 (hds 43) lbl43_0) n (l43_0H x0 x1 s12 ((IntKind.wrap .i64 (s13 + (1))))) (l43_0B x0 x1 s12 ((IntKind.wrap .i64 (s13 + (1)))))).run = some r) : (turns (hds 43 12291) 0 12291 (evC byref (evCall F S6 (m + 24)) (m + 24) 0 (hds 43) lbl43_0) (n + 1) (l43_0H x0 x1 s12 s13) (l43_0B x0 x1 s12 s13)).run = some r := by
  exact turns_step (M.run_of_path _ [true, true, true, true, true, false] _ _ (by kernel_rfl) (all_t c0 (all_t c1 (all_t c2 (all_t c1 (all_t c4 (all_nt c5 all_nil))))))) ih
set_option maxHeartbeats 20000000 in
theorem l43_0_w1 (m n : Nat) (x0 : List (List UInt8)) (x1 : List (List UInt8)) (s12 : Int) (s13 : Int) (c0 : decide (s13 < s12) = true) (c1 : decide (0 ≤ s13) = true) (c2 : decide (s13 < (((List.length x0) : Nat) : Int)) = true) (c4 : decide (s13 < (((List.length x1) : Nat) : Int)) = true) (c5 : ¬ ((List.getD x0 (Int.toNat s13) ([] : List UInt8)) == (List.getD x1 (Int.toNat s13) ([] : List UInt8))) = true) : (turns (hds 43 12291) 0 12291 (evC byref (evCall F S6 (m + 24)) (m + 24) 0 (hds 43) lbl43_0) (n + 1) (l43_0H x0 x1 s12 s13) (l43_0B x0 x1 s12 s13)).run = some (.ret, [(.d (.sl .str x0)), (.d (.sl .str x1)), .top, .top, (.d (.bool false)), (.d (.int .i64 s13)), .top, .top, .top, .top, .top, .top, (.d (.int .i64 s12)), (.d (.int .i64 s13)), (.d (.bool (decide (s13 < s12)))), (.d (.int .i64 s13)), (.d (.sl .str x0)), (.d (.int .i64 s13)), (.cptr [(.str (List.getD x0 (Int.toNat s13) ([] : List UInt8)))] 0), (.d (.str (List.getD x0 (Int.toNat s13) ([] : List UInt8)))), (.d (.sl .str x1)), (.d (.int .i64 s13)), (.cptr [(.str (List.getD x1 (Int.toNat s13) ([] : List UInt8)))] 0), (.d (.str (List.getD x1 (Int.toNat s13) ([] : List UInt8)))), (.d (.bool (!((List.getD x0 (Int.toNat s13) ([] : List UInt8)) == (List.getD x1 (Int.toNat s13) ([] : List UInt8)))))), .top], [.dead, .dead, .dead, .dead, .dead, .dead, .dead, .dead, .dead, .dead, .dead, .dead, .dead, .dead, .dead, .dead, .dead, .dead, .dead, .dead, .dead, .dead, .dead, .dead, .dead, .dead, .dead, .dead, .dead, .dead, .dead, .dead, .dead, .dead, .dead, .dead]) := by
  exact turns_last (by simp) (M.run_of_path _ [true, true, true, true, true, true] _ _ (by kernel_rfl) (all_t c0 (all_t c1 (all_t c2 (all_t c1 (all_t c4 (all_nf c5 all_nil))))))) 
set_option maxHeartbeats 20000000 in
theorem l43_0_w2 (m n : Nat) (x0 : List (List UInt8)) (x1 : List (List UInt8)) (s12 : Int) (s13 : Int) (c0 : ¬ decide (s13 < s12) = true) : (turns (hds 43 12291) 0 12291 (evC byref (evCall F S6 (m + 24)) (m + 24) 0 (hds 43) lbl43_0) (n + 1) (l43_0H x0 x1 s12 s13) (l43_0B x0 x1 s12 s13)).run = some (.exit 0, [(.d (.sl .str x0)), (.d (.sl .str x1)), .top, .top, .top, .top, .top, .top, .top, .top, .top, .top, (.d (.int .i64 s12)), (.d (.int .i64 s13)), (.d (.bool (decide (s13 < s12)))), .top, .top, .top, .top, .top, .top, .top, .top, .top, .top, .top], []) := by
  exact turns_last (by simp) (M.run_of_path _ [false] _ _ (by kernel_rfl) (all_f c0 all_nil)) 

set_option maxHeartbeats 20000000 in
theorem l43_0_step (m n : Nat) (ih : ∀ (x0 : List (List UInt8)) (x1 : List (List UInt8)) (s12 : Int) (s13 : Int) (q : Nat × Int), l43_0 m n x0 x1 s12 s13 = some q → (turns (hds 43 12291) 0 12291 (evC byref (evCall F S6 (m + 24)) (m + 24) 0 (hds 43) lbl43_0) n (l43_0H x0 x1 s12 s13) (l43_0B x0 x1 s12 s13)).run = some (l43_0E (x0) (x1) (s12) (q.2) q.1)) (x0 : List (List UInt8)) (x1 : List (List UInt8)) (s12 : Int) (s13 : Int) (q : Nat × Int) (h : l43_0 m (n + 1) x0 x1 s12 s13 = some q) : (turns (hds 43 12291) 0 12291 (evC byref (evCall F S6 (m + 24)) (m + 24) 0 (hds 43) lbl43_0) (n + 1) (l43_0H x0 x1 s12 s13) (l43_0B x0 x1 s12 s13)).run = some (l43_0E (x0) (x1) (s12) (q.2) q.1) := by
  rw [l43_0] at h
  refine ite_cases h (fun c0 h => ?_) (fun c0 h => ?_)
  · skip
    refine ite_cases h (fun c1 h => ?_) (fun c1 h => ?_)
    · skip
      refine ite_cases h (fun c2 h => ?_) (fun c2 h => ?_)
      · skip
        refine ite_cases h (fun c4 h => ?_) (fun c4 h => ?_)
        · skip
          refine ite_cases h (fun c5 h => ?_) (fun c5 h => ?_)
          · skip
            exact l43_0_w0 m n x0 x1 s12 s13 _ c0 c1 c2 c4 c5 (ih _ _ _ _ q h)
          · skip
            cases h
            exact l43_0_w1 m n x0 x1 s12 s13 c0 c1 c2 c4 c5
        · skip
          cases h
      · skip
        cases h
    · skip
      cases h
  · skip
    cases h
    exact l43_0_w2 m n x0 x1 s12 s13 c0
set_option maxHeartbeats 20000000 in
theorem l43_0_ok (m : Nat) : ∀ (n : Nat) (x0 : List (List UInt8)) (x1 : List (List UInt8)) (s12 : Int) (s13 : Int) (q : Nat × Int), l43_0 m n x0 x1 s12 s13 = some q → (turns (hds 43 12291) 0 12291 (evC byref (evCall F S6 (m + 24)) (m + 24) 0 (hds 43) lbl43_0) n (l43_0H x0 x1 s12 s13) (l43_0B x0 x1 s12 s13)).run = some (l43_0E (x0) (x1) (s12) (q.2) q.1)
  | 0, x0, x1, s12, s13, q, h => by cases h
  | n + 1, x0, x1, s12, s13, q, h => l43_0_step m n (l43_0_ok m n) x0 x1 s12 s13 q h

def p43 (m : Nat) (x0 : List (List UInt8)) (x1 : List (List UInt8)) : Option (Bool) :=
  if ((((List.length x0) : Nat) : Int) != (((List.length x1) : Nat) : Int)) = true then
    some (false)
  else
    if (Option.isSome (l43_0 m (m + 24) x0 x1 ((((List.length x0) : Nat) : Int)) 0)) = true then
      if ((l43_0R m (m + 24) x0 x1 ((((List.length x0) : Nat) : Int)) 0).1 == 0) = true then
        some (false)
      else
        if ((l43_0R m (m + 24) x0 x1 ((((List.length x0) : Nat) : Int)) 0).1 == 1) = true then
          some (true)
        else
          none
    else
      none
set_option maxHeartbeats 20000000 in
theorem p43_ok (m : Nat) (x0 : List (List UInt8)) (x1 : List (List UInt8)) (q : Bool) (h : p43 m x0 x1 = some q) : ∃ r B1, (evCall F S6 (m + 25) 43 [(.d (.sl .str x0)), (.d (.sl .str x1))] []).run = some (r, B1) ∧ 0 ≤ B1.length ∧ wkR B1 [] r (.d (.bool (q))) ∧ wkBs B1 [] 0 [] := by
  unfold p43 at h
  refine ite_cases h (fun c0 h => ?_) (fun c0 h => ?_)
  · skip
    cases h
    refine ⟨(.d (.bool false)), [], runT_ok (LS := (fun k => none)) (fn := fn43) (vis := []) (by kernel_rfl) rfl (by kernel_rfl) (M.run_of_path _ [true] _ _ (by kernel_rfl) (all_t c0 all_nil)) ?_, by simp, (wkR.one (wkV.one (wk1.eq rfl))), trivial⟩
    intro p hp; cases hp
  · skip
    refine ite_cases h (fun c1 h => ?_) (fun c1 h => ?_)
    · skip
      refine ite_cases h (fun c2 h => ?_) (fun c2 h => ?_)
      · skip
        cases h
        refine ⟨(.d (.bool false)), [], runT_ok (LS := (fun k => if k = 12291 then some (l43_0E x0 x1 (((((List.length x0) : Nat) : Int))) ((l43_0R m (m + 24) x0 x1 ((((List.length x0) : Nat) : Int)) 0).2) 0) else none)) (fn := fn43) (vis := [(12291, l43_0H x0 x1 ((((List.length x0) : Nat) : Int)) 0, l43_0B x0 x1 ((((List.length x0) : Nat) : Int)) 0)]) (by kernel_rfl) rfl (by kernel_rfl) (M.run_of_path _ [false] _ _ (by kernel_rfl) (all_f c0 all_nil)) ?_, by simp, (wkR.one (wkV.one (wk1.eq rfl))), trivial⟩
        intro p hp p2 hq
        rcases List.mem_cons.1 hp with rfl | hp
        · skip
          have h3 := l43_0_ok m (m + 24) x0 x1 ((((List.length x0) : Nat) : Int)) 0 _ (some_getD (d := l43_0D) c1)
          rw [eq_of_beq c2] at h3
          exact Eq.trans (Eq.mp (by kernel_rfl) h3) hq
        cases hp
      · skip
        refine ite_cases h (fun c3 h => ?_) (fun c3 h => ?_)
        · skip
          cases h
          refine ⟨(.d (.bool true)), [], runT_ok (LS := (fun k => if k = 12291 then some (l43_0E x0 x1 (((((List.length x0) : Nat) : Int))) ((l43_0R m (m + 24) x0 x1 ((((List.length x0) : Nat) : Int)) 0).2) 1) else none)) (fn := fn43) (vis := [(12291, l43_0H x0 x1 ((((List.length x0) : Nat) : Int)) 0, l43_0B x0 x1 ((((List.length x0) : Nat) : Int)) 0)]) (by kernel_rfl) rfl (by kernel_rfl) (M.run_of_path _ [false] _ _ (by kernel_rfl) (all_f c0 all_nil)) ?_, by simp, (wkR.one (wkV.one (wk1.eq rfl))), trivial⟩
          intro p hp p2 hq
          rcases List.mem_cons.1 hp with rfl | hp
          · skip
            have h3 := l43_0_ok m (m + 24) x0 x1 ((((List.length x0) : Nat) : Int)) 0 _ (some_getD (d := l43_0D) c1)
            rw [eq_of_beq c3] at h3
            exact Eq.trans (Eq.mp (by kernel_rfl) h3) hq
          cases hp
        · skip
          cases h
    · skip
      cases h

theorem eq43_loop (m : Nat) (a b : List (List UInt8)) (hl : a.length = b.length) (hb : a.length < 4611686018427387904) : ∀ n k, k ≤ a.length → a.length - k < n → ∃ j, l43_0 m n a b (((List.length a) : Nat) : Int) (k : Nat) = some (if a.drop k == b.drop k then 1 else 0, j)
  | 0, k, _, h => by omega
  | n + 1, k, hk, hn => by
    rw [l43_0]
    by_cases h : k < a.length
    · skip
      have e1 : decide (((k : Nat) : Int) < ((a.length : Nat) : Int)) = true := decide_eq_true (by omega)
      have e2 : decide ((0 : Int) ≤ ((k : Nat) : Int)) = true := decide_eq_true (by omega)
      have e3 : decide (((k : Nat) : Int) < ((b.length : Nat) : Int)) = true := decide_eq_true (by omega)
      simp only [e1, e2, e3, if_true, Int.toNat_natCast]
      rw [drop_getD a k ([] : List UInt8) h, drop_getD b k ([] : List UInt8) (by omega)]
      have ew : IntKind.wrap .i64 (((k : Nat) : Int) + (1)) = ((k + 1 : Nat) : Int) := by rw [wrap_id (by omega) (by omega)]; rfl
      rw [ew]
      obtain ⟨j, hj⟩ := eq43_loop m a b hl hb n (k + 1) (by omega) (by omega)
      have hc : ((a.getD k ([] : List UInt8)) :: a.drop (k + 1) == (b.getD k ([] : List UInt8)) :: b.drop (k + 1)) = (((a.getD k ([] : List UInt8)) == (b.getD k ([] : List UInt8))) && (a.drop (k + 1) == b.drop (k + 1))) := rfl
      rw [hc]
      rcases Bool.eq_false_or_eq_true ((a.getD k ([] : List UInt8)) == (b.getD k ([] : List UInt8))) with he | he
      · exact ⟨j, by simp only [he, hj]; simp⟩
      · exact ⟨(k : Nat), by simp only [he]; simp⟩
    · have e1 : decide (((k : Nat) : Int) < ((a.length : Nat) : Int)) = false := decide_eq_false (by omega)
      refine ⟨(k : Nat), ?_⟩
      simp only [e1, Bool.false_eq_true, if_false]
      rw [List.drop_eq_nil_of_le (by omega), List.drop_eq_nil_of_le (by omega)]
      rfl
theorem eq43 (a b : List (List UInt8)) (h : decide (List.length a < 4611686018427387904) = true) : ∃ m, p43 m a b = some (a == b) := by
  have hb := of_decide_eq_true h
  refine ⟨a.length, ?_⟩
  unfold p43 l43_0R
  by_cases hl : a.length = b.length
  · have e0 : ((((List.length a) : Nat) : Int) != (((List.length b) : Nat) : Int)) = false := by simp [hl]
    obtain ⟨j, hj⟩ := eq43_loop a.length a b hl hb (a.length + 24) 0 (by omega) (by omega)
    simp only [Int.natCast_zero, List.drop_zero] at hj
    rw [e0]
    simp only [Bool.false_eq_true, if_false]
    rw [hj]
    cases hab : a == b <;> simp [hab]
  · have e0 : ((((List.length a) : Nat) : Int) != (((List.length b) : Nat) : Int)) = true := by simp; omega
    rw [e0]
    have : (a == b) = false := by
      rw [beq_eq_false_iff_ne]
      intro e; rw [e] at hl; exact hl rfl
    simp [this]
def s43 : List AV → Boxes → M (AV × Boxes) := normS [.val (.sl .str), .val (.sl .str)] [] fun xs B => match xs, B with
  | [(.d (.sl .str c1)), (.d (.sl .str c2))], [] => .chk (decide (List.length c1 < 4611686018427387904)) (.ret ((.d (.bool ((show List (List UInt8) from c1) == c2))), []))
  | _, _ => .fail
theorem s43_at : CallAt Try.prog 43 s43 := by
  refine CallAt.norm (CallAt.weakE (g := fun n => evCall F S6 n 43) (fun n => evCall_atH mixed kinds hds S6 S6_ok n 43) fun xs B r' B' hr => ?_) _ _
  split at hr
  · rename_i c1 c2
    obtain ⟨hp, hr⟩ := (M.run_chk _ _ _).1 hr
    simp only [M.run, Option.some.injEq, Prod.mk.injEq] at hr
    obtain ⟨rfl, rfl⟩ := hr
    obtain ⟨m, hm⟩ := eq43 c1 c2 hp
    obtain ⟨r, B1, h1, h2, h3, h4⟩ := p43_ok m c1 c2 _ hm
    exact ⟨m + 25, r, B1, h1, by simp, h2, h3, h4⟩
  · simp [M.run] at hr
noncomputable def S7 : FuncId → Option (List AV → Boxes → M (AV × Boxes)) := fun f => if f = 43 then some s43 else S6 f
set_option maxHeartbeats 20000000 in
theorem S7_ok : ∀ f s, S7 f = some s → CallAt Try.prog f s := by
  intro f s h
  unfold S7 at h
  split at h
  · rename_i e; subst e; cases h; exact s43_at
  · exact S6_ok f s h

end Go.Proofs.Ytkppbflmlpabjab.Dec
namespace Go.Proofs.Ytkppbflmlpabjab.Dec
open Go.Ev
set_option linter.unusedVariables false
set_option linter.unusedSimpArgs false
set_option maxRecDepth 100000
noncomputable def fn24 : AFn := (F 24).getD ⟨0, [], .bad, false, false, noHd⟩
noncomputable def body24 : AC := fn24.body
def p24 (m : Nat) (x0 : (Int × Int × Int) × Int × Int × Int × (List (List UInt8)) × (List (List UInt8))) (x1 : Int) (x2 : List (List UInt8)) : Option (((Int × Int × Int) × Int × Int × Int × (List (List UInt8)) × (List (List UInt8))) × (List (List UInt8)) × Bool) :=
  if decide (x0.2.1 < 0) = true then
    if ((((List.length x2) : Nat) : Int) == (0)) = true then
      some ((x0.1, (x0.2.1, (x0.2.2.1, (x0.2.2.2.1, (x0.2.2.2.2.1, x2))))), ([] : List (List UInt8)), false)
    else
      if decide (x1 < (IntKind.wrap .i64 (x1 + x0.1.1))) = true then
        some ((x0.1, (x1, ((IntKind.wrap .i64 (x1 + x0.1.1)), ((-1), (([] : List (List UInt8)), x2))))), ([] : List (List UInt8)), false)
      else
        if decide ((((List.length x2) : Nat) : Int) > 0) = true then
          some ((x0.1, (x1, ((IntKind.wrap .i64 (x1 + x0.1.2.1)), (x1, (x2, x2))))), x2, true)
        else
          some ((x0.1, (x1, ((IntKind.wrap .i64 (x1 + x0.1.2.1)), ((-1), (([] : List (List UInt8)), x2))))), x2, false)
  else
    if decide (x1 < x0.2.2.1) = true then
      some ((x0.1, (x0.2.1, (x0.2.2.1, (x0.2.2.2.1, (x0.2.2.2.2.1, x2))))), ([] : List (List UInt8)), false)
    else
      if decide (x0.2.2.2.1 < 0) = true then
        if decide ((((List.length x2) : Nat) : Int) > 0) = true then
          if ((((List.length x2) : Nat) : Int) == (0)) = true then
            some ((x0.1, ((-1), ((0), ((-1), (([] : List (List UInt8)), ([] : List (List UInt8))))))), ([] : List (List UInt8)), decide (x0.2.2.2.1 ≥ 0))
          else
            some ((x0.1, (x0.2.1, ((IntKind.wrap .i64 (x1 + x0.1.2.1)), (x1, (x2, x2))))), x2, true)
        else
          if decide (x0.2.2.2.1 ≥ 0) = true then
            if decide (List.length x0.2.2.2.2.1 < 4611686018427387904) = true then
              if ((show List (List UInt8) from x0.2.2.2.2.1) == x2) = true then
                if ((((List.length x2) : Nat) : Int) == (0)) = true then
                  some ((x0.1, ((-1), ((0), ((-1), (([] : List (List UInt8)), ([] : List (List UInt8))))))), ([] : List (List UInt8)), decide (x0.2.2.2.1 ≥ 0))
                else
                  if decide ((IntKind.wrap .i64 (x1 - x0.2.2.2.1)) ≥ x0.1.2.2) = true then
                    some ((x0.1, (x0.2.1, ((IntKind.wrap .i64 (x1 + x0.1.2.1)), (x1, (x2, x2))))), x2, decide ((IntKind.wrap .i64 (x1 - x0.2.2.2.1)) ≥ x0.1.2.2))
                  else
                    some ((x0.1, (x0.2.1, ((IntKind.wrap .i64 (x1 + x0.1.2.1)), (x0.2.2.2.1, (x0.2.2.2.2.1, x2))))), x2, decide ((IntKind.wrap .i64 (x1 - x0.2.2.2.1)) ≥ x0.1.2.2))
              else
                if ((((List.length x2) : Nat) : Int) == (0)) = true then
                  some ((x0.1, ((-1), ((0), ((-1), (([] : List (List UInt8)), ([] : List (List UInt8))))))), ([] : List (List UInt8)), decide (x0.2.2.2.1 ≥ 0))
                else
                  some ((x0.1, (x0.2.1, ((IntKind.wrap .i64 (x1 + x0.1.2.1)), (x1, (x2, x2))))), x2, true)
            else
              none
          else
            if ((((List.length x2) : Nat) : Int) == (0)) = true then
              some ((x0.1, ((-1), ((0), ((-1), (([] : List (List UInt8)), ([] : List (List UInt8))))))), ([] : List (List UInt8)), decide (x0.2.2.2.1 ≥ 0))
            else
              some ((x0.1, (x0.2.1, ((IntKind.wrap .i64 (x1 + x0.1.2.1)), (x0.2.2.2.1, (x0.2.2.2.2.1, x2))))), x2, false)
      else
        if decide (x0.2.2.2.1 ≥ 0) = true then
          if decide (List.length x0.2.2.2.2.1 < 4611686018427387904) = true then
            if ((show List (List UInt8) from x0.2.2.2.2.1) == x2) = true then
              if ((((List.length x2) : Nat) : Int) == (0)) = true then
                some ((x0.1, ((-1), ((0), ((-1), (([] : List (List UInt8)), ([] : List (List UInt8))))))), ([] : List (List UInt8)), decide (x0.2.2.2.1 ≥ 0))
              else
                if decide ((IntKind.wrap .i64 (x1 - x0.2.2.2.1)) ≥ x0.1.2.2) = true then
                  some ((x0.1, (x0.2.1, ((IntKind.wrap .i64 (x1 + x0.1.2.1)), (x1, (x2, x2))))), x2, decide ((IntKind.wrap .i64 (x1 - x0.2.2.2.1)) ≥ x0.1.2.2))
                else
                  some ((x0.1, (x0.2.1, ((IntKind.wrap .i64 (x1 + x0.1.2.1)), (x0.2.2.2.1, (x0.2.2.2.2.1, x2))))), x2, decide ((IntKind.wrap .i64 (x1 - x0.2.2.2.1)) ≥ x0.1.2.2))
            else
              if ((((List.length x2) : Nat) : Int) == (0)) = true then
                some ((x0.1, ((-1), ((0), ((-1), (([] : List (List UInt8)), ([] : List (List UInt8))))))), ([] : List (List UInt8)), decide (x0.2.2.2.1 ≥ 0))
              else
                some ((x0.1, (x0.2.1, ((IntKind.wrap .i64 (x1 + x0.1.2.1)), (x1, (x2, x2))))), x2, true)
          else
            none
        else
          if ((((List.length x2) : Nat) : Int) == (0)) = true then
            some ((x0.1, ((-1), ((0), ((-1), (([] : List (List UInt8)), ([] : List (List UInt8))))))), ([] : List (List UInt8)), decide (x0.2.2.2.1 ≥ 0))
          else
            some ((x0.1, (x0.2.1, ((IntKind.wrap .i64 (x1 + x0.1.2.1)), (x0.2.2.2.1, (x0.2.2.2.2.1, x2))))), x2, false)
set_option maxHeartbeats 20000000 in
theorem p24_ok (m : Nat) (x0 : (Int × Int × Int) × Int × Int × Int × (List (List UInt8)) × (List (List UInt8))) (x1 : Int) (x2 : List (List UInt8)) (q : ((Int × Int × Int) × Int × Int × Int × (List (List UInt8)) × (List (List UInt8))) × (List (List UInt8)) × Bool) (h : p24 m x0 x1 x2 = some q) : ∃ r B1, (evCall F S7 (m + 25) 24 [(.agg [(.d (.int .i64 x0.1.1)), (.d (.int .i64 x0.1.2.1)), (.d (.int .i64 x0.1.2.2)), (.d (.int .i64 x0.2.1)), (.d (.int .i64 x0.2.2.1)), (.d (.int .i64 x0.2.2.2.1)), (.d (.sl .str x0.2.2.2.2.1)), (.d (.sl .str x0.2.2.2.2.2))]), (.d (.int .i64 x1)), (.d (.sl .str x2))] []).run = some (r, B1) ∧ 0 ≤ B1.length ∧ wkR B1 [] r (.tup [(.agg [(.d (.int .i64 q.1.1.1)), (.d (.int .i64 q.1.1.2.1)), (.d (.int .i64 q.1.1.2.2)), (.d (.int .i64 q.1.2.1)), (.d (.int .i64 q.1.2.2.1)), (.d (.int .i64 q.1.2.2.2.1)), (.d (.sl .str q.1.2.2.2.2.1)), (.d (.sl .str q.1.2.2.2.2.2))]), (.d (.sl .str q.2.1)), (.d (.bool (q.2.2)))]) ∧ wkBs B1 [] 0 [] := by
  unfold p24 at h
  refine ite_cases h (fun c0 h => ?_) (fun c0 h => ?_)
  · skip
    refine ite_cases h (fun c1 h => ?_) (fun c1 h => ?_)
    · skip
      cases h
      refine ⟨(.tup [(.agg [(.d (.int .i64 x0.1.1)), (.d (.int .i64 x0.1.2.1)), (.d (.int .i64 x0.1.2.2)), (.d (.int .i64 x0.2.1)), (.d (.int .i64 x0.2.2.1)), (.d (.int .i64 x0.2.2.2.1)), (.d (.sl .str x0.2.2.2.2.1)), (.d (.sl .str x2))]), (.d (.sl .str ([] : List (List UInt8)))), (.d (.bool false))]), [], runT_ok (LS := (fun k => none)) (fn := fn24) (vis := []) (by kernel_rfl) rfl (by kernel_rfl) (M.run_of_path _ [true, true, true] _ _ (by kernel_rfl) (all_t c0 (all_t c1 (all_t rfl all_nil)))) ?_, by simp, (wkR.tup (wkVs.cons (wkV.agg (wkL.cons (wk1.eq rfl) (wkL.cons (wk1.eq rfl) (wkL.cons (wk1.eq rfl) (wkL.cons (wk1.eq rfl) (wkL.cons (wk1.eq rfl) (wkL.cons (wk1.eq rfl) (wkL.cons (wk1.eq rfl) (wkL.cons (wk1.eq rfl) wkL.nil))))))))) (wkVs.cons (wkV.one (wk1.eq rfl)) (wkVs.cons (wkV.one (wk1.eq rfl)) wkVs.nil)))), trivial⟩
      intro p hp; cases hp
    · skip
      refine ite_cases h (fun c2 h => ?_) (fun c2 h => ?_)
      · skip
        cases h
        refine ⟨(.tup [(.agg [(.d (.int .i64 x0.1.1)), (.d (.int .i64 x0.1.2.1)), (.d (.int .i64 x0.1.2.2)), (.d (.int .i64 x1)), (.d (.int .i64 (IntKind.wrap .i64 (x1 + x0.1.1)))), (.d (.int .i64 (-1))), (.d .nils), (.d (.sl .str x2))]), (.d (.sl .str ([] : List (List UInt8)))), (.d (.bool false))]), [], runT_ok (LS := (fun k => none)) (fn := fn24) (vis := []) (by kernel_rfl) rfl (by kernel_rfl) (M.run_of_path _ [true, false, true, true] _ _ (by kernel_rfl) (all_t c0 (all_f c1 (all_t c2 (all_t rfl all_nil))))) ?_, by simp, (wkR.tup (wkVs.cons (wkV.agg (wkL.cons (wk1.eq rfl) (wkL.cons (wk1.eq rfl) (wkL.cons (wk1.eq rfl) (wkL.cons (wk1.eq rfl) (wkL.cons (wk1.eq rfl) (wkL.cons (wk1.eq rfl) (wkL.cons wk1.nil (wkL.cons (wk1.eq rfl) wkL.nil))))))))) (wkVs.cons (wkV.one (wk1.eq rfl)) (wkVs.cons (wkV.one (wk1.eq rfl)) wkVs.nil)))), trivial⟩
        intro p hp; cases hp
      · skip
        refine ite_cases h (fun c7 h => ?_) (fun c7 h => ?_)
        · skip
          cases h
          refine ⟨(.tup [(.agg [(.d (.int .i64 x0.1.1)), (.d (.int .i64 x0.1.2.1)), (.d (.int .i64 x0.1.2.2)), (.d (.int .i64 x1)), (.d (.int .i64 (IntKind.wrap .i64 (x1 + x0.1.2.1)))), (.d (.int .i64 x1)), (.d (.sl .str x2)), (.d (.sl .str x2))]), (.d (.sl .str x2)), (.d (.bool true))]), [], runT_ok (LS := (fun k => none)) (fn := fn24) (vis := []) (by kernel_rfl) rfl (by kernel_rfl) (M.run_of_path _ [true, false, false, true, true, true, true, true, true, true, true, true, true, false, true] _ _ (by kernel_rfl) (all_t c0 (all_f c1 (all_f c2 (all_t rfl (all_t rfl (all_t rfl (all_t rfl (all_t c7 (all_t c7 (all_t c7 (all_t c7 (all_t c7 (all_t c7 (all_f c1 (all_t rfl all_nil)))))))))))))))) ?_, by simp, (wkR.tup (wkVs.cons (wkV.agg (wkL.cons (wk1.eq rfl) (wkL.cons (wk1.eq rfl) (wkL.cons (wk1.eq rfl) (wkL.cons (wk1.eq rfl) (wkL.cons (wk1.eq rfl) (wkL.cons (wk1.eq rfl) (wkL.cons (wk1.eq rfl) (wkL.cons (wk1.eq rfl) wkL.nil))))))))) (wkVs.cons (wkV.one (wk1.eq rfl)) (wkVs.cons (wkV.one (wk1.eq rfl)) wkVs.nil)))), trivial⟩
          intro p hp; cases hp
        · skip
          cases h
          refine ⟨(.tup [(.agg [(.d (.int .i64 x0.1.1)), (.d (.int .i64 x0.1.2.1)), (.d (.int .i64 x0.1.2.2)), (.d (.int .i64 x1)), (.d (.int .i64 (IntKind.wrap .i64 (x1 + x0.1.2.1)))), (.d (.int .i64 (-1))), (.d .nils), (.d (.sl .str x2))]), (.d (.sl .str x2)), (.d (.bool false))]), [], runT_ok (LS := (fun k => none)) (fn := fn24) (vis := []) (by kernel_rfl) rfl (by kernel_rfl) (M.run_of_path _ [true, false, false, true, true, true, true, false, false, false, false, false, false, false, false, false, false, false, false, false, false, false, false] _ _ (by kernel_rfl) (all_t c0 (all_f c1 (all_f c2 (all_t rfl (all_t rfl (all_t rfl (all_t rfl (all_f c7 (all_f c7 (all_f c7 (all_f c7 (all_f Bool.false_ne_true (all_f Bool.false_ne_true (all_f Bool.false_ne_true (all_f Bool.false_ne_true (all_f Bool.false_ne_true (all_f Bool.false_ne_true (all_f Bool.false_ne_true (all_f c7 (all_f Bool.false_ne_true (all_f c7 (all_f c1 (all_f Bool.false_ne_true all_nil)))))))))))))))))))))))) ?_, by simp, (wkR.tup (wkVs.cons (wkV.agg (wkL.cons (wk1.eq rfl) (wkL.cons (wk1.eq rfl) (wkL.cons (wk1.eq rfl) (wkL.cons (wk1.eq rfl) (wkL.cons (wk1.eq rfl) (wkL.cons (wk1.eq rfl) (wkL.cons wk1.nil (wkL.cons (wk1.eq rfl) wkL.nil))))))))) (wkVs.cons (wkV.one (wk1.eq rfl)) (wkVs.cons (wkV.one (wk1.eq rfl)) wkVs.nil)))), trivial⟩
          intro p hp; cases hp
  · skip
    refine ite_cases h (fun c1 h => ?_) (fun c1 h => ?_)
    · skip
      cases h
      refine ⟨(.tup [(.agg [(.d (.int .i64 x0.1.1)), (.d (.int .i64 x0.1.2.1)), (.d (.int .i64 x0.1.2.2)), (.d (.int .i64 x0.2.1)), (.d (.int .i64 x0.2.2.1)), (.d (.int .i64 x0.2.2.2.1)), (.d (.sl .str x0.2.2.2.2.1)), (.d (.sl .str x2))]), (.d (.sl .str ([] : List (List UInt8)))), (.d (.bool false))]), [], runT_ok (LS := (fun k => none)) (fn := fn24) (vis := []) (by kernel_rfl) rfl (by kernel_rfl) (M.run_of_path _ [false, true, true] _ _ (by kernel_rfl) (all_f c0 (all_t c1 (all_t rfl all_nil)))) ?_, by simp, (wkR.tup (wkVs.cons (wkV.agg (wkL.cons (wk1.eq rfl) (wkL.cons (wk1.eq rfl) (wkL.cons (wk1.eq rfl) (wkL.cons (wk1.eq rfl) (wkL.cons (wk1.eq rfl) (wkL.cons (wk1.eq rfl) (wkL.cons (wk1.eq rfl) (wkL.cons (wk1.eq rfl) wkL.nil))))))))) (wkVs.cons (wkV.one (wk1.eq rfl)) (wkVs.cons (wkV.one (wk1.eq rfl)) wkVs.nil)))), trivial⟩
      intro p hp; cases hp
    · skip
      refine ite_cases h (fun c2 h => ?_) (fun c2 h => ?_)
      · skip
        refine ite_cases h (fun c6 h => ?_) (fun c6 h => ?_)
        · skip
          refine ite_cases h (fun c12 h => ?_) (fun c12 h => ?_)
          · skip
            cases h
            refine ⟨(.tup [(.agg [(.d (.int .i64 x0.1.1)), (.d (.int .i64 x0.1.2.1)), (.d (.int .i64 x0.1.2.2)), (.d (.int .i64 (-1))), (.d (.int .i64 (0))), (.d (.int .i64 (-1))), (.d .nils), (.d .nils)]), (.d (.sl .str ([] : List (List UInt8)))), (.d (.bool (decide (x0.2.2.2.1 ≥ 0))))]), [], runT_ok (LS := (fun k => none)) (fn := fn24) (vis := []) (by kernel_rfl) rfl (by kernel_rfl) (M.run_of_path _ [false, false, true, true, true, true, true, true, true, true, true, true, true, true] _ _ (by kernel_rfl) (all_f c0 (all_f c1 (all_t c2 (all_t c2 (all_t c2 (all_t c2 (all_t c6 (all_t c6 (all_t c6 (all_t c6 (all_t c6 (all_t c6 (all_t c12 (all_t rfl all_nil))))))))))))))) ?_, by simp, (wkR.tup (wkVs.cons (wkV.agg (wkL.cons (wk1.eq rfl) (wkL.cons (wk1.eq rfl) (wkL.cons (wk1.eq rfl) (wkL.cons (wk1.eq rfl) (wkL.cons (wk1.eq rfl) (wkL.cons (wk1.eq rfl) (wkL.cons wk1.nil (wkL.cons wk1.nil wkL.nil))))))))) (wkVs.cons (wkV.one (wk1.eq rfl)) (wkVs.cons (wkV.one (wk1.eq rfl)) wkVs.nil)))), trivial⟩
            intro p hp; cases hp
          · skip
            cases h
            refine ⟨(.tup [(.agg [(.d (.int .i64 x0.1.1)), (.d (.int .i64 x0.1.2.1)), (.d (.int .i64 x0.1.2.2)), (.d (.int .i64 x0.2.1)), (.d (.int .i64 (IntKind.wrap .i64 (x1 + x0.1.2.1)))), (.d (.int .i64 x1)), (.d (.sl .str x2)), (.d (.sl .str x2))]), (.d (.sl .str x2)), (.d (.bool true))]), [], runT_ok (LS := (fun k => none)) (fn := fn24) (vis := []) (by kernel_rfl) rfl (by kernel_rfl) (M.run_of_path _ [false, false, true, true, true, true, true, true, true, true, true, true, false, true] _ _ (by kernel_rfl) (all_f c0 (all_f c1 (all_t c2 (all_t c2 (all_t c2 (all_t c2 (all_t c6 (all_t c6 (all_t c6 (all_t c6 (all_t c6 (all_t c6 (all_f c12 (all_t rfl all_nil))))))))))))))) ?_, by simp, (wkR.tup (wkVs.cons (wkV.agg (wkL.cons (wk1.eq rfl) (wkL.cons (wk1.eq rfl) (wkL.cons (wk1.eq rfl) (wkL.cons (wk1.eq rfl) (wkL.cons (wk1.eq rfl) (wkL.cons (wk1.eq rfl) (wkL.cons (wk1.eq rfl) (wkL.cons (wk1.eq rfl) wkL.nil))))))))) (wkVs.cons (wkV.one (wk1.eq rfl)) (wkVs.cons (wkV.one (wk1.eq rfl)) wkVs.nil)))), trivial⟩
            intro p hp; cases hp
        · skip
          refine ite_cases h (fun c10 h => ?_) (fun c10 h => ?_)
          · skip
            refine ite_cases h (fun c14 h => ?_) (fun c14 h => ?_)
            · skip
              refine ite_cases h (fun c17 h => ?_) (fun c17 h => ?_)
              · skip
                refine ite_cases h (fun c30 h => ?_) (fun c30 h => ?_)
                · skip
                  cases h
                  refine ⟨(.tup [(.agg [(.d (.int .i64 x0.1.1)), (.d (.int .i64 x0.1.2.1)), (.d (.int .i64 x0.1.2.2)), (.d (.int .i64 (-1))), (.d (.int .i64 (0))), (.d (.int .i64 (-1))), (.d .nils), (.d .nils)]), (.d (.sl .str ([] : List (List UInt8)))), (.d (.bool (decide (x0.2.2.2.1 ≥ 0))))]), [], runT_ok (LS := (fun k => none)) (fn := fn24) (vis := []) (by kernel_rfl) rfl (by kernel_rfl) (M.run_of_path _ [false, false, true, true, true, true, false, false, false, false, true, true, true, true, true, true, true, false, false, false, false, false, false, false, false, true, false, false, true, false, true, true] _ _ (by kernel_rfl) (all_f c0 (all_f c1 (all_t c2 (all_t c2 (all_t c2 (all_t c2 (all_f c6 (all_f c6 (all_f c6 (all_f c6 (all_t c10 (all_t c10 (all_t c10 (all_t c10 (all_t c14 (all_t c10 (all_t c10 (all_nt c17 (all_nt c17 (all_nt c17 (all_nt c17 (all_nt c17 (all_nt c17 (all_nt c17 (all_nt c17 (all_t c10 (all_nt c17 (all_f c6 (all_t c10 (all_f c6 (all_t c30 (all_t rfl all_nil))))))))))))))))))))))))))))))))) ?_, by simp, (wkR.tup (wkVs.cons (wkV.agg (wkL.cons (wk1.eq rfl) (wkL.cons (wk1.eq rfl) (wkL.cons (wk1.eq rfl) (wkL.cons (wk1.eq rfl) (wkL.cons (wk1.eq rfl) (wkL.cons (wk1.eq rfl) (wkL.cons wk1.nil (wkL.cons wk1.nil wkL.nil))))))))) (wkVs.cons (wkV.one (wk1.eq rfl)) (wkVs.cons (wkV.one (wk1.eq rfl)) wkVs.nil)))), trivial⟩
                  intro p hp; cases hp
                · skip
                  refine ite_cases h (fun c31 h => ?_) (fun c31 h => ?_)
                  · skip
                    cases h
                    refine ⟨(.tup [(.agg [(.d (.int .i64 x0.1.1)), (.d (.int .i64 x0.1.2.1)), (.d (.int .i64 x0.1.2.2)), (.d (.int .i64 x0.2.1)), (.d (.int .i64 (IntKind.wrap .i64 (x1 + x0.1.2.1)))), (.d (.int .i64 x1)), (.d (.sl .str x2)), (.d (.sl .str x2))]), (.d (.sl .str x2)), (.d (.bool (decide ((IntKind.wrap .i64 (x1 - x0.2.2.2.1)) ≥ x0.1.2.2))))]), [], runT_ok (LS := (fun k => none)) (fn := fn24) (vis := []) (by kernel_rfl) rfl (by kernel_rfl) (M.run_of_path _ [false, false, true, true, true, true, false, false, false, false, true, true, true, true, true, true, true, false, false, false, false, false, false, false, false, true, false, false, true, false, false, true] _ _ (by kernel_rfl) (all_f c0 (all_f c1 (all_t c2 (all_t c2 (all_t c2 (all_t c2 (all_f c6 (all_f c6 (all_f c6 (all_f c6 (all_t c10 (all_t c10 (all_t c10 (all_t c10 (all_t c14 (all_t c10 (all_t c10 (all_nt c17 (all_nt c17 (all_nt c17 (all_nt c17 (all_nt c17 (all_nt c17 (all_nt c17 (all_nt c17 (all_t c10 (all_nt c17 (all_f c6 (all_t c10 (all_f c6 (all_f c30 (all_t c31 all_nil))))))))))))))))))))))))))))))))) ?_, by simp, (wkR.tup (wkVs.cons (wkV.agg (wkL.cons (wk1.eq rfl) (wkL.cons (wk1.eq rfl) (wkL.cons (wk1.eq rfl) (wkL.cons (wk1.eq rfl) (wkL.cons (wk1.eq rfl) (wkL.cons (wk1.eq rfl) (wkL.cons (wk1.eq rfl) (wkL.cons (wk1.eq rfl) wkL.nil))))))))) (wkVs.cons (wkV.one (wk1.eq rfl)) (wkVs.cons (wkV.one (wk1.eq rfl)) wkVs.nil)))), trivial⟩
                    intro p hp; cases hp
                  · skip
                    cases h
                    refine ⟨(.tup [(.agg [(.d (.int .i64 x0.1.1)), (.d (.int .i64 x0.1.2.1)), (.d (.int .i64 x0.1.2.2)), (.d (.int .i64 x0.2.1)), (.d (.int .i64 (IntKind.wrap .i64 (x1 + x0.1.2.1)))), (.d (.int .i64 x0.2.2.2.1)), (.d (.sl .str x0.2.2.2.2.1)), (.d (.sl .str x2))]), (.d (.sl .str x2)), (.d (.bool (decide ((IntKind.wrap .i64 (x1 - x0.2.2.2.1)) ≥ x0.1.2.2))))]), [], runT_ok (LS := (fun k => none)) (fn := fn24) (vis := []) (by kernel_rfl) rfl (by kernel_rfl) (M.run_of_path _ [false, false, true, true, true, true, false, false, false, false, true, true, true, true, true, true, true, false, false, false, false, false, false, false, false, true, false, false, true, false, false, false] _ _ (by kernel_rfl) (all_f c0 (all_f c1 (all_t c2 (all_t c2 (all_t c2 (all_t c2 (all_f c6 (all_f c6 (all_f c6 (all_f c6 (all_t c10 (all_t c10 (all_t c10 (all_t c10 (all_t c14 (all_t c10 (all_t c10 (all_nt c17 (all_nt c17 (all_nt c17 (all_nt c17 (all_nt c17 (all_nt c17 (all_nt c17 (all_nt c17 (all_t c10 (all_nt c17 (all_f c6 (all_t c10 (all_f c6 (all_f c30 (all_f c31 all_nil))))))))))))))))))))))))))))))))) ?_, by simp, (wkR.tup (wkVs.cons (wkV.agg (wkL.cons (wk1.eq rfl) (wkL.cons (wk1.eq rfl) (wkL.cons (wk1.eq rfl) (wkL.cons (wk1.eq rfl) (wkL.cons (wk1.eq rfl) (wkL.cons (wk1.eq rfl) (wkL.cons (wk1.eq rfl) (wkL.cons (wk1.eq rfl) wkL.nil))))))))) (wkVs.cons (wkV.one (wk1.eq rfl)) (wkVs.cons (wkV.one (wk1.eq rfl)) wkVs.nil)))), trivial⟩
                    intro p hp; cases hp
              · skip
                refine ite_cases h (fun c30 h => ?_) (fun c30 h => ?_)
                · skip
                  cases h
                  refine ⟨(.tup [(.agg [(.d (.int .i64 x0.1.1)), (.d (.int .i64 x0.1.2.1)), (.d (.int .i64 x0.1.2.2)), (.d (.int .i64 (-1))), (.d (.int .i64 (0))), (.d (.int .i64 (-1))), (.d .nils), (.d .nils)]), (.d (.sl .str ([] : List (List UInt8)))), (.d (.bool (decide (x0.2.2.2.1 ≥ 0))))]), [], runT_ok (LS := (fun k => none)) (fn := fn24) (vis := []) (by kernel_rfl) rfl (by kernel_rfl) (M.run_of_path _ [false, false, true, true, true, true, false, false, false, false, true, true, true, true, true, true, true, true, true, true, true, true, true, true, true, true, true, false, true, false, true, true] _ _ (by kernel_rfl) (all_f c0 (all_f c1 (all_t c2 (all_t c2 (all_t c2 (all_t c2 (all_f c6 (all_f c6 (all_f c6 (all_f c6 (all_t c10 (all_t c10 (all_t c10 (all_t c10 (all_t c14 (all_t c10 (all_t c10 (all_nf c17 (all_nf c17 (all_nf c17 (all_nf c17 (all_nf c17 (all_nf c17 (all_nf c17 (all_nf c17 (all_t c10 (all_nf c17 (all_f c6 (all_t c10 (all_f c6 (all_t c30 (all_t rfl all_nil))))))))))))))))))))))))))))))))) ?_, by simp, (wkR.tup (wkVs.cons (wkV.agg (wkL.cons (wk1.eq rfl) (wkL.cons (wk1.eq rfl) (wkL.cons (wk1.eq rfl) (wkL.cons (wk1.eq rfl) (wkL.cons (wk1.eq rfl) (wkL.cons (wk1.eq rfl) (wkL.cons wk1.nil (wkL.cons wk1.nil wkL.nil))))))))) (wkVs.cons (wkV.one (wk1.eq rfl)) (wkVs.cons (wkV.one (wk1.eq rfl)) wkVs.nil)))), trivial⟩
                  intro p hp; cases hp
                · skip
                  cases h
                  refine ⟨(.tup [(.agg [(.d (.int .i64 x0.1.1)), (.d (.int .i64 x0.1.2.1)), (.d (.int .i64 x0.1.2.2)), (.d (.int .i64 x0.2.1)), (.d (.int .i64 (IntKind.wrap .i64 (x1 + x0.1.2.1)))), (.d (.int .i64 x1)), (.d (.sl .str x2)), (.d (.sl .str x2))]), (.d (.sl .str x2)), (.d (.bool true))]), [], runT_ok (LS := (fun k => none)) (fn := fn24) (vis := []) (by kernel_rfl) rfl (by kernel_rfl) (M.run_of_path _ [false, false, true, true, true, true, false, false, false, false, true, true, true, true, true, true, true, true, true, true, true, true, true, true, true, true, true, false, true, false, false, true] _ _ (by kernel_rfl) (all_f c0 (all_f c1 (all_t c2 (all_t c2 (all_t c2 (all_t c2 (all_f c6 (all_f c6 (all_f c6 (all_f c6 (all_t c10 (all_t c10 (all_t c10 (all_t c10 (all_t c14 (all_t c10 (all_t c10 (all_nf c17 (all_nf c17 (all_nf c17 (all_nf c17 (all_nf c17 (all_nf c17 (all_nf c17 (all_nf c17 (all_t c10 (all_nf c17 (all_f c6 (all_t c10 (all_f c6 (all_f c30 (all_t rfl all_nil))))))))))))))))))))))))))))))))) ?_, by simp, (wkR.tup (wkVs.cons (wkV.agg (wkL.cons (wk1.eq rfl) (wkL.cons (wk1.eq rfl) (wkL.cons (wk1.eq rfl) (wkL.cons (wk1.eq rfl) (wkL.cons (wk1.eq rfl) (wkL.cons (wk1.eq rfl) (wkL.cons (wk1.eq rfl) (wkL.cons (wk1.eq rfl) wkL.nil))))))))) (wkVs.cons (wkV.one (wk1.eq rfl)) (wkVs.cons (wkV.one (wk1.eq rfl)) wkVs.nil)))), trivial⟩
                  intro p hp; cases hp
            · skip
              cases h
          · skip
            refine ite_cases h (fun c20 h => ?_) (fun c20 h => ?_)
            · skip
              cases h
              refine ⟨(.tup [(.agg [(.d (.int .i64 x0.1.1)), (.d (.int .i64 x0.1.2.1)), (.d (.int .i64 x0.1.2.2)), (.d (.int .i64 (-1))), (.d (.int .i64 (0))), (.d (.int .i64 (-1))), (.d .nils), (.d .nils)]), (.d (.sl .str ([] : List (List UInt8)))), (.d (.bool (decide (x0.2.2.2.1 ≥ 0))))]), [], runT_ok (LS := (fun k => none)) (fn := fn24) (vis := []) (by kernel_rfl) rfl (by kernel_rfl) (M.run_of_path _ [false, false, true, true, true, true, false, false, false, false, false, false, false, false, false, false, false, false, false, false, true, true] _ _ (by kernel_rfl) (all_f c0 (all_f c1 (all_t c2 (all_t c2 (all_t c2 (all_t c2 (all_f c6 (all_f c6 (all_f c6 (all_f c6 (all_f c10 (all_f c10 (all_f c10 (all_f c10 (all_f c10 (all_f c10 (all_f c10 (all_f c6 (all_f c10 (all_f c6 (all_t c20 (all_t rfl all_nil))))))))))))))))))))))) ?_, by simp, (wkR.tup (wkVs.cons (wkV.agg (wkL.cons (wk1.eq rfl) (wkL.cons (wk1.eq rfl) (wkL.cons (wk1.eq rfl) (wkL.cons (wk1.eq rfl) (wkL.cons (wk1.eq rfl) (wkL.cons (wk1.eq rfl) (wkL.cons wk1.nil (wkL.cons wk1.nil wkL.nil))))))))) (wkVs.cons (wkV.one (wk1.eq rfl)) (wkVs.cons (wkV.one (wk1.eq rfl)) wkVs.nil)))), trivial⟩
              intro p hp; cases hp
            · skip
              cases h
              refine ⟨(.tup [(.agg [(.d (.int .i64 x0.1.1)), (.d (.int .i64 x0.1.2.1)), (.d (.int .i64 x0.1.2.2)), (.d (.int .i64 x0.2.1)), (.d (.int .i64 (IntKind.wrap .i64 (x1 + x0.1.2.1)))), (.d (.int .i64 x0.2.2.2.1)), (.d (.sl .str x0.2.2.2.2.1)), (.d (.sl .str x2))]), (.d (.sl .str x2)), (.d (.bool false))]), [], runT_ok (LS := (fun k => none)) (fn := fn24) (vis := []) (by kernel_rfl) rfl (by kernel_rfl) (M.run_of_path _ [false, false, true, true, true, true, false, false, false, false, false, false, false, false, false, false, false, false, false, false, false, false] _ _ (by kernel_rfl) (all_f c0 (all_f c1 (all_t c2 (all_t c2 (all_t c2 (all_t c2 (all_f c6 (all_f c6 (all_f c6 (all_f c6 (all_f c10 (all_f c10 (all_f c10 (all_f c10 (all_f c10 (all_f c10 (all_f c10 (all_f c6 (all_f c10 (all_f c6 (all_f c20 (all_f Bool.false_ne_true all_nil))))))))))))))))))))))) ?_, by simp, (wkR.tup (wkVs.cons (wkV.agg (wkL.cons (wk1.eq rfl) (wkL.cons (wk1.eq rfl) (wkL.cons (wk1.eq rfl) (wkL.cons (wk1.eq rfl) (wkL.cons (wk1.eq rfl) (wkL.cons (wk1.eq rfl) (wkL.cons (wk1.eq rfl) (wkL.cons (wk1.eq rfl) wkL.nil))))))))) (wkVs.cons (wkV.one (wk1.eq rfl)) (wkVs.cons (wkV.one (wk1.eq rfl)) wkVs.nil)))), trivial⟩
              intro p hp; cases hp
      · skip
        refine ite_cases h (fun c10 h => ?_) (fun c10 h => ?_)
        · skip
          refine ite_cases h (fun c14 h => ?_) (fun c14 h => ?_)
          · skip
            refine ite_cases h (fun c17 h => ?_) (fun c17 h => ?_)
            · skip
              refine ite_cases h (fun c30 h => ?_) (fun c30 h => ?_)
              · skip
                cases h
                refine ⟨(.tup [(.agg [(.d (.int .i64 x0.1.1)), (.d (.int .i64 x0.1.2.1)), (.d (.int .i64 x0.1.2.2)), (.d (.int .i64 (-1))), (.d (.int .i64 (0))), (.d (.int .i64 (-1))), (.d .nils), (.d .nils)]), (.d (.sl .str ([] : List (List UInt8)))), (.d (.bool (decide (x0.2.2.2.1 ≥ 0))))]), [], runT_ok (LS := (fun k => none)) (fn := fn24) (vis := []) (by kernel_rfl) rfl (by kernel_rfl) (M.run_of_path _ [false, false, false, false, false, false, false, false, false, false, true, true, true, true, true, true, true, false, false, false, false, false, false, false, false, true, false, false, true, false, true, true] _ _ (by kernel_rfl) (all_f c0 (all_f c1 (all_f c2 (all_f c2 (all_f c2 (all_f c2 (all_f Bool.false_ne_true (all_f Bool.false_ne_true (all_f Bool.false_ne_true (all_f Bool.false_ne_true (all_t c10 (all_t c10 (all_t c10 (all_t c10 (all_t c14 (all_t c10 (all_t c10 (all_nt c17 (all_nt c17 (all_nt c17 (all_nt c17 (all_nt c17 (all_nt c17 (all_nt c17 (all_nt c17 (all_t c10 (all_nt c17 (all_f Bool.false_ne_true (all_t c10 (all_f Bool.false_ne_true (all_t c30 (all_t rfl all_nil))))))))))))))))))))))))))))))))) ?_, by simp, (wkR.tup (wkVs.cons (wkV.agg (wkL.cons (wk1.eq rfl) (wkL.cons (wk1.eq rfl) (wkL.cons (wk1.eq rfl) (wkL.cons (wk1.eq rfl) (wkL.cons (wk1.eq rfl) (wkL.cons (wk1.eq rfl) (wkL.cons wk1.nil (wkL.cons wk1.nil wkL.nil))))))))) (wkVs.cons (wkV.one (wk1.eq rfl)) (wkVs.cons (wkV.one (wk1.eq rfl)) wkVs.nil)))), trivial⟩
                intro p hp; cases hp
              · skip
                refine ite_cases h (fun c31 h => ?_) (fun c31 h => ?_)
                · skip
                  cases h
                  refine ⟨(.tup [(.agg [(.d (.int .i64 x0.1.1)), (.d (.int .i64 x0.1.2.1)), (.d (.int .i64 x0.1.2.2)), (.d (.int .i64 x0.2.1)), (.d (.int .i64 (IntKind.wrap .i64 (x1 + x0.1.2.1)))), (.d (.int .i64 x1)), (.d (.sl .str x2)), (.d (.sl .str x2))]), (.d (.sl .str x2)), (.d (.bool (decide ((IntKind.wrap .i64 (x1 - x0.2.2.2.1)) ≥ x0.1.2.2))))]), [], runT_ok (LS := (fun k => none)) (fn := fn24) (vis := []) (by kernel_rfl) rfl (by kernel_rfl) (M.run_of_path _ [false, false, false, false, false, false, false, false, false, false, true, true, true, true, true, true, true, false, false, false, false, false, false, false, false, true, false, false, true, false, false, true] _ _ (by kernel_rfl) (all_f c0 (all_f c1 (all_f c2 (all_f c2 (all_f c2 (all_f c2 (all_f Bool.false_ne_true (all_f Bool.false_ne_true (all_f Bool.false_ne_true (all_f Bool.false_ne_true (all_t c10 (all_t c10 (all_t c10 (all_t c10 (all_t c14 (all_t c10 (all_t c10 (all_nt c17 (all_nt c17 (all_nt c17 (all_nt c17 (all_nt c17 (all_nt c17 (all_nt c17 (all_nt c17 (all_t c10 (all_nt c17 (all_f Bool.false_ne_true (all_t c10 (all_f Bool.false_ne_true (all_f c30 (all_t c31 all_nil))))))))))))))))))))))))))))))))) ?_, by simp, (wkR.tup (wkVs.cons (wkV.agg (wkL.cons (wk1.eq rfl) (wkL.cons (wk1.eq rfl) (wkL.cons (wk1.eq rfl) (wkL.cons (wk1.eq rfl) (wkL.cons (wk1.eq rfl) (wkL.cons (wk1.eq rfl) (wkL.cons (wk1.eq rfl) (wkL.cons (wk1.eq rfl) wkL.nil))))))))) (wkVs.cons (wkV.one (wk1.eq rfl)) (wkVs.cons (wkV.one (wk1.eq rfl)) wkVs.nil)))), trivial⟩
                  intro p hp; cases hp
                · skip
                  cases h
                  refine ⟨(.tup [(.agg [(.d (.int .i64 x0.1.1)), (.d (.int .i64 x0.1.2.1)), (.d (.int .i64 x0.1.2.2)), (.d (.int .i64 x0.2.1)), (.d (.int .i64 (IntKind.wrap .i64 (x1 + x0.1.2.1)))), (.d (.int .i64 x0.2.2.2.1)), (.d (.sl .str x0.2.2.2.2.1)), (.d (.sl .str x2))]), (.d (.sl .str x2)), (.d (.bool (decide ((IntKind.wrap .i64 (x1 - x0.2.2.2.1)) ≥ x0.1.2.2))))]), [], runT_ok (LS := (fun k => none)) (fn := fn24) (vis := []) (by kernel_rfl) rfl (by kernel_rfl) (M.run_of_path _ [false, false, false, false, false, false, false, false, false, false, true, true, true, true, true, true, true, false, false, false, false, false, false, false, false, true, false, false, true, false, false, false] _ _ (by kernel_rfl) (all_f c0 (all_f c1 (all_f c2 (all_f c2 (all_f c2 (all_f c2 (all_f Bool.false_ne_true (all_f Bool.false_ne_true (all_f Bool.false_ne_true (all_f Bool.false_ne_true (all_t c10 (all_t c10 (all_t c10 (all_t c10 (all_t c14 (all_t c10 (all_t c10 (all_nt c17 (all_nt c17 (all_nt c17 (all_nt c17 (all_nt c17 (all_nt c17 (all_nt c17 (all_nt c17 (all_t c10 (all_nt c17 (all_f Bool.false_ne_true (all_t c10 (all_f Bool.false_ne_true (all_f c30 (all_f c31 all_nil))))))))))))))))))))))))))))))))) ?_, by simp, (wkR.tup (wkVs.cons (wkV.agg (wkL.cons (wk1.eq rfl) (wkL.cons (wk1.eq rfl) (wkL.cons (wk1.eq rfl) (wkL.cons (wk1.eq rfl) (wkL.cons (wk1.eq rfl) (wkL.cons (wk1.eq rfl) (wkL.cons (wk1.eq rfl) (wkL.cons (wk1.eq rfl) wkL.nil))))))))) (wkVs.cons (wkV.one (wk1.eq rfl)) (wkVs.cons (wkV.one (wk1.eq rfl)) wkVs.nil)))), trivial⟩
                  intro p hp; cases hp
            · skip
              refine ite_cases h (fun c30 h => ?_) (fun c30 h => ?_)
              · skip
                cases h
                refine ⟨(.tup [(.agg [(.d (.int .i64 x0.1.1)), (.d (.int .i64 x0.1.2.1)), (.d (.int .i64 x0.1.2.2)), (.d (.int .i64 (-1))), (.d (.int .i64 (0))), (.d (.int .i64 (-1))), (.d .nils), (.d .nils)]), (.d (.sl .str ([] : List (List UInt8)))), (.d (.bool (decide (x0.2.2.2.1 ≥ 0))))]), [], runT_ok (LS := (fun k => none)) (fn := fn24) (vis := []) (by kernel_rfl) rfl (by kernel_rfl) (M.run_of_path _ [false, false, false, false, false, false, false, false, false, false, true, true, true, true, true, true, true, true, true, true, true, true, true, true, true, true, true, false, true, false, true, true] _ _ (by kernel_rfl) (all_f c0 (all_f c1 (all_f c2 (all_f c2 (all_f c2 (all_f c2 (all_f Bool.false_ne_true (all_f Bool.false_ne_true (all_f Bool.false_ne_true (all_f Bool.false_ne_true (all_t c10 (all_t c10 (all_t c10 (all_t c10 (all_t c14 (all_t c10 (all_t c10 (all_nf c17 (all_nf c17 (all_nf c17 (all_nf c17 (all_nf c17 (all_nf c17 (all_nf c17 (all_nf c17 (all_t c10 (all_nf c17 (all_f Bool.false_ne_true (all_t c10 (all_f Bool.false_ne_true (all_t c30 (all_t rfl all_nil))))))))))))))))))))))))))))))))) ?_, by simp, (wkR.tup (wkVs.cons (wkV.agg (wkL.cons (wk1.eq rfl) (wkL.cons (wk1.eq rfl) (wkL.cons (wk1.eq rfl) (wkL.cons (wk1.eq rfl) (wkL.cons (wk1.eq rfl) (wkL.cons (wk1.eq rfl) (wkL.cons wk1.nil (wkL.cons wk1.nil wkL.nil))))))))) (wkVs.cons (wkV.one (wk1.eq rfl)) (wkVs.cons (wkV.one (wk1.eq rfl)) wkVs.nil)))), trivial⟩
                intro p hp; cases hp
              · skip
                cases h
                refine ⟨(.tup [(.agg [(.d (.int .i64 x0.1.1)), (.d (.int .i64 x0.1.2.1)), (.d (.int .i64 x0.1.2.2)), (.d (.int .i64 x0.2.1)), (.d (.int .i64 (IntKind.wrap .i64 (x1 + x0.1.2.1)))), (.d (.int .i64 x1)), (.d (.sl .str x2)), (.d (.sl .str x2))]), (.d (.sl .str x2)), (.d (.bool true))]), [], runT_ok (LS := (fun k => none)) (fn := fn24) (vis := []) (by kernel_rfl) rfl (by kernel_rfl) (M.run_of_path _ [false, false, false, false, false, false, false, false, false, false, true, true, true, true, true, true, true, true, true, true, true, true, true, true, true, true, true, false, true, false, false, true] _ _ (by kernel_rfl) (all_f c0 (all_f c1 (all_f c2 (all_f c2 (all_f c2 (all_f c2 (all_f Bool.false_ne_true (all_f Bool.false_ne_true (all_f Bool.false_ne_true (all_f Bool.false_ne_true (all_t c10 (all_t c10 (all_t c10 (all_t c10 (all_t c14 (all_t c10 (all_t c10 (all_nf c17 (all_nf c17 (all_nf c17 (all_nf c17 (all_nf c17 (all_nf c17 (all_nf c17 (all_nf c17 (all_t c10 (all_nf c17 (all_f Bool.false_ne_true (all_t c10 (all_f Bool.false_ne_true (all_f c30 (all_t rfl all_nil))))))))))))))))))))))))))))))))) ?_, by simp, (wkR.tup (wkVs.cons (wkV.agg (wkL.cons (wk1.eq rfl) (wkL.cons (wk1.eq rfl) (wkL.cons (wk1.eq rfl) (wkL.cons (wk1.eq rfl) (wkL.cons (wk1.eq rfl) (wkL.cons (wk1.eq rfl) (wkL.cons (wk1.eq rfl) (wkL.cons (wk1.eq rfl) wkL.nil))))))))) (wkVs.cons (wkV.one (wk1.eq rfl)) (wkVs.cons (wkV.one (wk1.eq rfl)) wkVs.nil)))), trivial⟩
                intro p hp; cases hp
          · skip
            cases h
        · skip
          refine ite_cases h (fun c20 h => ?_) (fun c20 h => ?_)
          · skip
            cases h
            refine ⟨(.tup [(.agg [(.d (.int .i64 x0.1.1)), (.d (.int .i64 x0.1.2.1)), (.d (.int .i64 x0.1.2.2)), (.d (.int .i64 (-1))), (.d (.int .i64 (0))), (.d (.int .i64 (-1))), (.d .nils), (.d .nils)]), (.d (.sl .str ([] : List (List UInt8)))), (.d (.bool (decide (x0.2.2.2.1 ≥ 0))))]), [], runT_ok (LS := (fun k => none)) (fn := fn24) (vis := []) (by kernel_rfl) rfl (by kernel_rfl) (M.run_of_path _ [false, false, false, false, false, false, false, false, false, false, false, false, false, false, false, false, false, false, false, false, true, true] _ _ (by kernel_rfl) (all_f c0 (all_f c1 (all_f c2 (all_f c2 (all_f c2 (all_f c2 (all_f Bool.false_ne_true (all_f Bool.false_ne_true (all_f Bool.false_ne_true (all_f Bool.false_ne_true (all_f c10 (all_f c10 (all_f c10 (all_f c10 (all_f c10 (all_f c10 (all_f c10 (all_f Bool.false_ne_true (all_f c10 (all_f Bool.false_ne_true (all_t c20 (all_t rfl all_nil))))))))))))))))))))))) ?_, by simp, (wkR.tup (wkVs.cons (wkV.agg (wkL.cons (wk1.eq rfl) (wkL.cons (wk1.eq rfl) (wkL.cons (wk1.eq rfl) (wkL.cons (wk1.eq rfl) (wkL.cons (wk1.eq rfl) (wkL.cons (wk1.eq rfl) (wkL.cons wk1.nil (wkL.cons wk1.nil wkL.nil))))))))) (wkVs.cons (wkV.one (wk1.eq rfl)) (wkVs.cons (wkV.one (wk1.eq rfl)) wkVs.nil)))), trivial⟩
            intro p hp; cases hp
          · skip
            cases h
            refine ⟨(.tup [(.agg [(.d (.int .i64 x0.1.1)), (.d (.int .i64 x0.1.2.1)), (.d (.int .i64 x0.1.2.2)), (.d (.int .i64 x0.2.1)), (.d (.int .i64 (IntKind.wrap .i64 (x1 + x0.1.2.1)))), (.d (.int .i64 x0.2.2.2.1)), (.d (.sl .str x0.2.2.2.2.1)), (.d (.sl .str x2))]), (.d (.sl .str x2)), (.d (.bool false))]), [], runT_ok (LS := (fun k => none)) (fn := fn24) (vis := []) (by kernel_rfl) rfl (by kernel_rfl) (M.run_of_path _ [false, false, false, false, false, false, false, false, false, false, false, false, false, false, false, false, false, false, false, false, false, false] _ _ (by kernel_rfl) (all_f c0 (all_f c1 (all_f c2 (all_f c2 (all_f c2 (all_f c2 (all_f Bool.false_ne_true (all_f Bool.false_ne_true (all_f Bool.false_ne_true (all_f Bool.false_ne_true (all_f c10 (all_f c10 (all_f c10 (all_f c10 (all_f c10 (all_f c10 (all_f c10 (all_f Bool.false_ne_true (all_f c10 (all_f Bool.false_ne_true (all_f c20 (all_f Bool.false_ne_true all_nil))))))))))))))))))))))) ?_, by simp, (wkR.tup (wkVs.cons (wkV.agg (wkL.cons (wk1.eq rfl) (wkL.cons (wk1.eq rfl) (wkL.cons (wk1.eq rfl) (wkL.cons (wk1.eq rfl) (wkL.cons (wk1.eq rfl) (wkL.cons (wk1.eq rfl) (wkL.cons (wk1.eq rfl) (wkL.cons (wk1.eq rfl) wkL.nil))))))))) (wkVs.cons (wkV.one (wk1.eq rfl)) (wkVs.cons (wkV.one (wk1.eq rfl)) wkVs.nil)))), trivial⟩
            intro p hp; cases hp

/-- The document's own group: timing, began, next, sent, last, now. -/
abbrev RS := (Int × Int × Int) × Int × Int × Int × TL × TL
def rtickG (g : RS) (t : Int) (al : TL) : RS × TL × Bool :=
  if g.2.1 < 0 ∧ al = [] then ((g.1, g.2.1, g.2.2.1, g.2.2.2.1, g.2.2.2.2.1, al), [], false)
  else if g.2.1 < 0 ∧ t < t + g.1.1 then ((g.1, t, t + g.1.1, -1, [], al), [], false)
  else if g.2.1 < 0 then ((g.1, t, t + g.1.2.1, t, al, al), al, true)
  else if t < g.2.2.1 then ((g.1, g.2.1, g.2.2.1, g.2.2.2.1, g.2.2.2.2.1, al), [], false)
  else if al = [] then ((g.1, -1, 0, -1, [], []), [], decide (g.2.2.2.1 ≥ 0))
  else if g.2.2.2.1 < 0 ∨ g.2.2.2.2.1 ≠ al ∨ t - g.2.2.2.1 ≥ g.1.2.2 then ((g.1, g.2.1, t + g.1.2.1, t, al, al), al, true)
  else ((g.1, g.2.1, t + g.1.2.1, g.2.2.2.1, g.2.2.2.2.1, al), al, false)
def rtickPre (g : RS) (t : Int) (al : TL) : Bool := decide (0 ≤ t ∧ t ≤ 1099511627776 ∧ 0 ≤ g.1.1 ∧ g.1.1 ≤ 1099511627776 ∧ 0 ≤ g.1.2.1 ∧ g.1.2.1 ≤ 1099511627776 ∧ -1 ≤ g.2.2.2.1 ∧ g.2.2.2.1 ≤ 1099511627776 ∧ al.length ≤ 1000000 ∧ g.2.2.2.2.1.length ≤ 1000000)
theorem rtick24 (g : RS) (t : Int) (al : TL) (h : rtickPre g t al = true) : ∃ m, p24 m g t al = some (rtickG g t al) := by
  refine ⟨0, ?_⟩
  have h := of_decide_eq_true h
  obtain ⟨⟨w, i, r⟩, began, nx, sent, last, now⟩ := g
  simp only at h
  have e1 : IntKind.wrap .i64 (t + w) = t + w := wrap_id (by omega) (by omega)
  have e2 : IntKind.wrap .i64 (t + i) = t + i := wrap_id (by omega) (by omega)
  have e3 : IntKind.wrap .i64 (t - sent) = t - sent := wrap_id (by omega) (by omega)
  have e5 : decide (List.length last < 4611686018427387904) = true := decide_eq_true (by omega)
  have e6 : (((List.length al : Nat) : Int) == (0)) = decide (al = []) := by cases al <;> simp; omega
  have e7 : decide (((List.length al : Nat) : Int) > 0) = !decide (al = []) := by cases al <;> simp
  have e8 : decide (sent ≥ 0) = !decide (sent < 0) := by by_cases h : sent < 0 <;> simp [h] <;> omega
  unfold p24 rtickG
  simp only [e1, e2, e3, e5, e6, e7, e8]
  by_cases hb : began < 0
  · by_cases ha : al = []
    · simp [hb, ha]
    · by_cases ht : t < t + w
      · simp [hb, ha, ht]
      · simp [hb, ha, ht]
  · by_cases ht : t < nx
    · simp [hb, ht]
    · by_cases ha : al = []
      · subst ha
        by_cases hs : sent < 0 <;> by_cases hl : last = [] <;> simp [hb, ht, hs, hl]
      · by_cases hs : sent < 0
        · simp [hb, ht, ha, hs]
        · by_cases hl : last = al
          · by_cases hr : t - sent ≥ r
            · simp [hb, ht, ha, hs, hl, hr]
            · simp [hb, ht, ha, hs, hl, hr]
          · simp [hb, ht, ha, hs, hl]
def s24 : List AV → Boxes → M (AV × Boxes) := normS [.val (.pair (.pair (.int .i64) (.pair (.int .i64) (.int .i64))) (.pair (.int .i64) (.pair (.int .i64) (.pair (.int .i64) (.pair (.sl .str) (.sl .str)))))), .val (.int .i64), .val (.sl .str)] [] fun xs B => match xs, B with
  | [(.agg [(.d (.int .i64 c1)), (.d (.int .i64 c2)), (.d (.int .i64 c3)), (.d (.int .i64 c4)), (.d (.int .i64 c5)), (.d (.int .i64 c6)), (.d (.sl .str c7)), (.d (.sl .str c8))]), (.d (.int .i64 c9)), (.d (.sl .str c10))], [] => .chk (rtickPre (((c1, (c2, c3)), (c4, (c5, (c6, (c7, c8)))))) c9 c10) (.ret ((.tup [(.agg [(.d (.int .i64 (rtickG (((c1, (c2, c3)), (c4, (c5, (c6, (c7, c8)))))) c9 c10).1.1.1)), (.d (.int .i64 (rtickG (((c1, (c2, c3)), (c4, (c5, (c6, (c7, c8)))))) c9 c10).1.1.2.1)), (.d (.int .i64 (rtickG (((c1, (c2, c3)), (c4, (c5, (c6, (c7, c8)))))) c9 c10).1.1.2.2)), (.d (.int .i64 (rtickG (((c1, (c2, c3)), (c4, (c5, (c6, (c7, c8)))))) c9 c10).1.2.1)), (.d (.int .i64 (rtickG (((c1, (c2, c3)), (c4, (c5, (c6, (c7, c8)))))) c9 c10).1.2.2.1)), (.d (.int .i64 (rtickG (((c1, (c2, c3)), (c4, (c5, (c6, (c7, c8)))))) c9 c10).1.2.2.2.1)), (.d (.sl .str (rtickG (((c1, (c2, c3)), (c4, (c5, (c6, (c7, c8)))))) c9 c10).1.2.2.2.2.1)), (.d (.sl .str (rtickG (((c1, (c2, c3)), (c4, (c5, (c6, (c7, c8)))))) c9 c10).1.2.2.2.2.2))]), (.d (.sl .str (rtickG (((c1, (c2, c3)), (c4, (c5, (c6, (c7, c8)))))) c9 c10).2.1)), (.d (.bool (rtickG (((c1, (c2, c3)), (c4, (c5, (c6, (c7, c8)))))) c9 c10).2.2))]), []))
  | _, _ => .fail
theorem s24_at : CallAt Try.prog 24 s24 := by
  refine CallAt.norm (CallAt.weakE (g := fun n => evCall F S7 n 24) (fun n => evCall_atH mixed kinds hds S7 S7_ok n 24) fun xs B r' B' hr => ?_) _ _
  split at hr
  · rename_i c1 c2 c3 c4 c5 c6 c7 c8 c9 c10
    obtain ⟨hp, hr⟩ := (M.run_chk _ _ _).1 hr
    simp only [M.run, Option.some.injEq, Prod.mk.injEq] at hr
    obtain ⟨rfl, rfl⟩ := hr
    obtain ⟨m, hm⟩ := rtick24 (((c1, (c2, c3)), (c4, (c5, (c6, (c7, c8)))))) c9 c10 hp
    obtain ⟨r, B1, h1, h2, h3, h4⟩ := p24_ok m (((c1, (c2, c3)), (c4, (c5, (c6, (c7, c8)))))) c9 c10 _ hm
    exact ⟨m + 25, r, B1, h1, by simp, h2, h3, h4⟩
  · simp [M.run] at hr
noncomputable def S8 : FuncId → Option (List AV → Boxes → M (AV × Boxes)) := fun f => if f = 24 then some s24 else S7 f
set_option maxHeartbeats 20000000 in
theorem S8_ok : ∀ f s, S8 f = some s → CallAt Try.prog f s := by
  intro f s h
  unfold S8 at h
  split at h
  · rename_i e; subst e; cases h; exact s24_at
  · exact S7_ok f s h

end Go.Proofs.Ytkppbflmlpabjab.Dec
namespace Go.Proofs.Ytkppbflmlpabjab.Dec
open Go.Ev
set_option linter.unusedVariables false
set_option linter.unusedSimpArgs false
set_option maxRecDepth 100000
noncomputable def fn14 : AFn := (F 14).getD ⟨0, [], .bad, false, false, noHd⟩
noncomputable def body14 : AC := fn14.body
noncomputable def lbu14_0 : AC := loopBody 457 body14
def p14 (m : Nat) (x0 : Int) : Option ((List (List UInt8))) :=
  if ((IntKind.wrap .i64 ((((BitVec.ofInt 64 (Int.fdiv x0 (2 ^ 0)) &&& BitVec.ofInt 64 (1)).toNat : Nat) : Int))) == (1)) = true then
    if ((IntKind.wrap .i64 ((((BitVec.ofInt 64 (Int.fdiv x0 (2 ^ 1)) &&& BitVec.ofInt 64 (1)).toNat : Nat) : Int))) == (1)) = true then
      if ((IntKind.wrap .i64 ((((BitVec.ofInt 64 (Int.fdiv x0 (2 ^ 2)) &&& BitVec.ofInt 64 (1)).toNat : Nat) : Int))) == (1)) = true then
        some ([([97] : List UInt8), ([98] : List UInt8), ([99] : List UInt8)])
      else
        some ([([97] : List UInt8), ([98] : List UInt8)])
    else
      if ((IntKind.wrap .i64 ((((BitVec.ofInt 64 (Int.fdiv x0 (2 ^ 2)) &&& BitVec.ofInt 64 (1)).toNat : Nat) : Int))) == (1)) = true then
        some ([([97] : List UInt8), ([99] : List UInt8)])
      else
        some ([([97] : List UInt8)])
  else
    if ((IntKind.wrap .i64 ((((BitVec.ofInt 64 (Int.fdiv x0 (2 ^ 1)) &&& BitVec.ofInt 64 (1)).toNat : Nat) : Int))) == (1)) = true then
      if ((IntKind.wrap .i64 ((((BitVec.ofInt 64 (Int.fdiv x0 (2 ^ 2)) &&& BitVec.ofInt 64 (1)).toNat : Nat) : Int))) == (1)) = true then
        some ([([98] : List UInt8), ([99] : List UInt8)])
      else
        some ([([98] : List UInt8)])
    else
      if ((IntKind.wrap .i64 ((((BitVec.ofInt 64 (Int.fdiv x0 (2 ^ 2)) &&& BitVec.ofInt 64 (1)).toNat : Nat) : Int))) == (1)) = true then
        some ([([99] : List UInt8)])
      else
        some (([] : List (List UInt8)))
set_option maxHeartbeats 20000000 in
theorem p14_ok (m : Nat) (x0 : Int) (q : (List (List UInt8))) (h : p14 m x0 = some q) : ∃ r B1, (evCall F S8 (m + 25) 14 [(.d (.int .i64 x0))] []).run = some (r, B1) ∧ 0 ≤ B1.length ∧ wkR B1 [] r (.d (.sl .str q)) ∧ wkBs B1 [] 0 [] := by
  unfold p14 at h
  refine ite_cases h (fun c5 h => ?_) (fun c5 h => ?_)
  · skip
    refine ite_cases h (fun c14 h => ?_) (fun c14 h => ?_)
    · skip
      refine ite_cases h (fun c23 h => ?_) (fun c23 h => ?_)
      · skip
        cases h
        refine ⟨(.d (.sl .str [([97] : List UInt8), ([98] : List UInt8), ([99] : List UInt8)])), [], runT_ok (LS := (fun k => if k = 457 then some (.exit 0, [(.d (.int .i64 x0)), .top, .top, (.sr 0 0 3 1 none), .top, .top, (.sr 1 0 3 1 (some 3)), (.d (.int .i64 (3))), (.d (.int .i64 (3))), (.d (.bool false)), .top, .top, .top, .top, .top, .top, .top, .top, .top, .top, .top, .top, .top, .top], [(.arr .str [([97] : List UInt8), ([98] : List UInt8), ([99] : List UInt8)] true), (.arr .str [([97] : List UInt8), ([98] : List UInt8), ([99] : List UInt8)] true)]) else none)) (fn := fn14) (vis := [(457, [(.d (.int .i64 x0)), .top, .top, (.sr 0 0 0 1 none), .top, .top, (.sr 1 0 3 1 (some 3)), (.d (.int .i64 (3))), (.d (.int .i64 (0))), .top, .top, .top, .top, .top, .top, .top, .top, .top, .top, .top, .top, .top, .top, .top], [(.arr .str ([] : List (List UInt8)) true), (.arr .str [([97] : List UInt8), ([98] : List UInt8), ([99] : List UInt8)] true)])]) (by kernel_rfl) rfl (by kernel_rfl) (M.run_of_path _ [true] _ _ (by kernel_rfl) (all_t rfl all_nil)) ?_, by simp, (wkR.one (wkV.one (wk1.eq rfl))), trivial⟩
        intro p hp p2 hq
        rcases List.mem_cons.1 hp with rfl | hp
        · skip
          have ht3 : (turn (hds 14 457) 0 457 (evC byref (evCall F S8 (m + 24)) (m + 24) 0 (hds 14) lbu14_0) [(.d (.int .i64 x0)), .top, .top, (.sr 0 0 3 1 none), .top, .top, (.sr 1 0 3 1 (some 3)), (.d (.int .i64 (3))), (.d (.int .i64 (3))), .top, .top, .top, .top, .top, .top, .top, .top, .top, .top, .top, .top, .top, .top, .top] [(.arr .str [([97] : List UInt8), ([98] : List UInt8), ([99] : List UInt8)] true), (.arr .str [([97] : List UInt8), ([98] : List UInt8), ([99] : List UInt8)] true)]).run = some (.exit 0, [(.d (.int .i64 x0)), .top, .top, (.sr 0 0 3 1 none), .top, .top, (.sr 1 0 3 1 (some 3)), (.d (.int .i64 (3))), (.d (.int .i64 (3))), (.d (.bool false)), .top, .top, .top, .top, .top, .top, .top, .top, .top, .top, .top, .top, .top, .top], [(.arr .str [([97] : List UInt8), ([98] : List UInt8), ([99] : List UInt8)] true), (.arr .str [([97] : List UInt8), ([98] : List UInt8), ([99] : List UInt8)] true)]) := M.run_of_path _ [false] _ _ (by kernel_rfl) (all_f Bool.false_ne_true all_nil)
          have hp3 := turns_last (n := m + 20) (by simp) ht3
          have ht2 : (turn (hds 14 457) 0 457 (evC byref (evCall F S8 (m + 24)) (m + 24) 0 (hds 14) lbu14_0) [(.d (.int .i64 x0)), .top, .top, (.sr 0 0 2 1 none), .top, .top, (.sr 1 0 3 1 (some 3)), (.d (.int .i64 (3))), (.d (.int .i64 (2))), .top, .top, .top, .top, .top, .top, .top, .top, .top, .top, .top, .top, .top, .top, .top] [(.arr .str [([97] : List UInt8), ([98] : List UInt8)] true), (.arr .str [([97] : List UInt8), ([98] : List UInt8), ([99] : List UInt8)] true)]).run = some (.normal, [(.d (.int .i64 x0)), .top, .top, (.sr 0 0 3 1 none), .top, .top, (.sr 1 0 3 1 (some 3)), (.d (.int .i64 (3))), (.d (.int .i64 (3))), .top, .top, .top, .top, .top, .top, .top, .top, .top, .top, .top, .top, .top, .top, .top], [(.arr .str [([97] : List UInt8), ([98] : List UInt8), ([99] : List UInt8)] true), (.arr .str [([97] : List UInt8), ([98] : List UInt8), ([99] : List UInt8)] true)]) := M.run_of_path _ [true, true, true, true, true, true, true, true, true] _ _ (by kernel_rfl) (all_t rfl (all_t rfl (all_t rfl (all_t rfl (all_t rfl (all_t c23 (all_t rfl (all_t rfl (all_t rfl all_nil)))))))))
          have hs2 : (turns (hds 14 457) 0 457 (evC byref (evCall F S8 (m + 24)) (m + 24) 0 (hds 14) lbu14_0) (m + 21) [(.d (.int .i64 x0)), .top, .top, (.sr 0 0 3 1 none), .top, .top, (.sr 1 0 3 1 (some 3)), (.d (.int .i64 (3))), (.d (.int .i64 (3))), .top, .top, .top, .top, .top, .top, .top, .top, .top, .top, .top, .top, .top, .top, .top] [(.arr .str [([97] : List UInt8), ([98] : List UInt8), ([99] : List UInt8)] true), (.arr .str [([97] : List UInt8), ([98] : List UInt8), ([99] : List UInt8)] true)]).run = some (.exit 0, [(.d (.int .i64 x0)), .top, .top, (.sr 0 0 3 1 none), .top, .top, (.sr 1 0 3 1 (some 3)), (.d (.int .i64 (3))), (.d (.int .i64 (3))), (.d (.bool false)), .top, .top, .top, .top, .top, .top, .top, .top, .top, .top, .top, .top, .top, .top], [(.arr .str [([97] : List UInt8), ([98] : List UInt8), ([99] : List UInt8)] true), (.arr .str [([97] : List UInt8), ([98] : List UInt8), ([99] : List UInt8)] true)]) := Eq.mp (by kernel_rfl) hp3
          have hp2 := turns_step ht2 hs2
          have ht1 : (turn (hds 14 457) 0 457 (evC byref (evCall F S8 (m + 24)) (m + 24) 0 (hds 14) lbu14_0) [(.d (.int .i64 x0)), .top, .top, (.sr 0 0 1 1 none), .top, .top, (.sr 1 0 3 1 (some 3)), (.d (.int .i64 (3))), (.d (.int .i64 (1))), .top, .top, .top, .top, .top, .top, .top, .top, .top, .top, .top, .top, .top, .top, .top] [(.arr .str [([97] : List UInt8)] true), (.arr .str [([97] : List UInt8), ([98] : List UInt8), ([99] : List UInt8)] true)]).run = some (.normal, [(.d (.int .i64 x0)), .top, .top, (.sr 0 0 2 1 none), .top, .top, (.sr 1 0 3 1 (some 3)), (.d (.int .i64 (3))), (.d (.int .i64 (2))), .top, .top, .top, .top, .top, .top, .top, .top, .top, .top, .top, .top, .top, .top, .top], [(.arr .str [([97] : List UInt8), ([98] : List UInt8)] true), (.arr .str [([97] : List UInt8), ([98] : List UInt8), ([99] : List UInt8)] true)]) := M.run_of_path _ [true, true, true, true, true, true, true, true, true] _ _ (by kernel_rfl) (all_t rfl (all_t rfl (all_t rfl (all_t rfl (all_t rfl (all_t c14 (all_t rfl (all_t rfl (all_t rfl all_nil)))))))))
          have hs1 : (turns (hds 14 457) 0 457 (evC byref (evCall F S8 (m + 24)) (m + 24) 0 (hds 14) lbu14_0) (m + 22) [(.d (.int .i64 x0)), .top, .top, (.sr 0 0 2 1 none), .top, .top, (.sr 1 0 3 1 (some 3)), (.d (.int .i64 (3))), (.d (.int .i64 (2))), .top, .top, .top, .top, .top, .top, .top, .top, .top, .top, .top, .top, .top, .top, .top] [(.arr .str [([97] : List UInt8), ([98] : List UInt8)] true), (.arr .str [([97] : List UInt8), ([98] : List UInt8), ([99] : List UInt8)] true)]).run = some (.exit 0, [(.d (.int .i64 x0)), .top, .top, (.sr 0 0 3 1 none), .top, .top, (.sr 1 0 3 1 (some 3)), (.d (.int .i64 (3))), (.d (.int .i64 (3))), (.d (.bool false)), .top, .top, .top, .top, .top, .top, .top, .top, .top, .top, .top, .top, .top, .top], [(.arr .str [([97] : List UInt8), ([98] : List UInt8), ([99] : List UInt8)] true), (.arr .str [([97] : List UInt8), ([98] : List UInt8), ([99] : List UInt8)] true)]) := Eq.mp (by kernel_rfl) hp2
          have hp1 := turns_step ht1 hs1
          have ht0 : (turn (hds 14 457) 0 457 (evC byref (evCall F S8 (m + 24)) (m + 24) 0 (hds 14) lbu14_0) [(.d (.int .i64 x0)), .top, .top, (.sr 0 0 0 1 none), .top, .top, (.sr 1 0 3 1 (some 3)), (.d (.int .i64 (3))), (.d (.int .i64 (0))), .top, .top, .top, .top, .top, .top, .top, .top, .top, .top, .top, .top, .top, .top, .top] [(.arr .str ([] : List (List UInt8)) true), (.arr .str [([97] : List UInt8), ([98] : List UInt8), ([99] : List UInt8)] true)]).run = some (.normal, [(.d (.int .i64 x0)), .top, .top, (.sr 0 0 1 1 none), .top, .top, (.sr 1 0 3 1 (some 3)), (.d (.int .i64 (3))), (.d (.int .i64 (1))), .top, .top, .top, .top, .top, .top, .top, .top, .top, .top, .top, .top, .top, .top, .top], [(.arr .str [([97] : List UInt8)] true), (.arr .str [([97] : List UInt8), ([98] : List UInt8), ([99] : List UInt8)] true)]) := M.run_of_path _ [true, true, true, true, true, true, true, true, true] _ _ (by kernel_rfl) (all_t rfl (all_t rfl (all_t rfl (all_t rfl (all_t rfl (all_t c5 (all_t rfl (all_t rfl (all_t rfl all_nil)))))))))
          have hs0 : (turns (hds 14 457) 0 457 (evC byref (evCall F S8 (m + 24)) (m + 24) 0 (hds 14) lbu14_0) (m + 23) [(.d (.int .i64 x0)), .top, .top, (.sr 0 0 1 1 none), .top, .top, (.sr 1 0 3 1 (some 3)), (.d (.int .i64 (3))), (.d (.int .i64 (1))), .top, .top, .top, .top, .top, .top, .top, .top, .top, .top, .top, .top, .top, .top, .top] [(.arr .str [([97] : List UInt8)] true), (.arr .str [([97] : List UInt8), ([98] : List UInt8), ([99] : List UInt8)] true)]).run = some (.exit 0, [(.d (.int .i64 x0)), .top, .top, (.sr 0 0 3 1 none), .top, .top, (.sr 1 0 3 1 (some 3)), (.d (.int .i64 (3))), (.d (.int .i64 (3))), (.d (.bool false)), .top, .top, .top, .top, .top, .top, .top, .top, .top, .top, .top, .top, .top, .top], [(.arr .str [([97] : List UInt8), ([98] : List UInt8), ([99] : List UInt8)] true), (.arr .str [([97] : List UInt8), ([98] : List UInt8), ([99] : List UInt8)] true)]) := Eq.mp (by kernel_rfl) hp1
          have hp0 := turns_step ht0 hs0
          exact Eq.trans (Eq.mp (by kernel_rfl) hp0) hq
        cases hp
      · skip
        cases h
        refine ⟨(.d (.sl .str [([97] : List UInt8), ([98] : List UInt8)])), [], runT_ok (LS := (fun k => if k = 457 then some (.exit 0, [(.d (.int .i64 x0)), .top, .top, (.sr 0 0 2 1 none), .top, .top, (.sr 1 0 3 1 (some 3)), (.d (.int .i64 (3))), (.d (.int .i64 (3))), (.d (.bool false)), .top, .top, .top, .top, .top, .top, .top, .top, .top, .top, .top, .top, .top, .top], [(.arr .str [([97] : List UInt8), ([98] : List UInt8)] true), (.arr .str [([97] : List UInt8), ([98] : List UInt8), ([99] : List UInt8)] true)]) else none)) (fn := fn14) (vis := [(457, [(.d (.int .i64 x0)), .top, .top, (.sr 0 0 0 1 none), .top, .top, (.sr 1 0 3 1 (some 3)), (.d (.int .i64 (3))), (.d (.int .i64 (0))), .top, .top, .top, .top, .top, .top, .top, .top, .top, .top, .top, .top, .top, .top, .top], [(.arr .str ([] : List (List UInt8)) true), (.arr .str [([97] : List UInt8), ([98] : List UInt8), ([99] : List UInt8)] true)])]) (by kernel_rfl) rfl (by kernel_rfl) (M.run_of_path _ [true] _ _ (by kernel_rfl) (all_t rfl all_nil)) ?_, by simp, (wkR.one (wkV.one (wk1.eq rfl))), trivial⟩
        intro p hp p2 hq
        rcases List.mem_cons.1 hp with rfl | hp
        · skip
          have ht3 : (turn (hds 14 457) 0 457 (evC byref (evCall F S8 (m + 24)) (m + 24) 0 (hds 14) lbu14_0) [(.d (.int .i64 x0)), .top, .top, (.sr 0 0 2 1 none), .top, .top, (.sr 1 0 3 1 (some 3)), (.d (.int .i64 (3))), (.d (.int .i64 (3))), .top, .top, .top, .top, .top, .top, .top, .top, .top, .top, .top, .top, .top, .top, .top] [(.arr .str [([97] : List UInt8), ([98] : List UInt8)] true), (.arr .str [([97] : List UInt8), ([98] : List UInt8), ([99] : List UInt8)] true)]).run = some (.exit 0, [(.d (.int .i64 x0)), .top, .top, (.sr 0 0 2 1 none), .top, .top, (.sr 1 0 3 1 (some 3)), (.d (.int .i64 (3))), (.d (.int .i64 (3))), (.d (.bool false)), .top, .top, .top, .top, .top, .top, .top, .top, .top, .top, .top, .top, .top, .top], [(.arr .str [([97] : List UInt8), ([98] : List UInt8)] true), (.arr .str [([97] : List UInt8), ([98] : List UInt8), ([99] : List UInt8)] true)]) := M.run_of_path _ [false] _ _ (by kernel_rfl) (all_f Bool.false_ne_true all_nil)
          have hp3 := turns_last (n := m + 20) (by simp) ht3
          have ht2 : (turn (hds 14 457) 0 457 (evC byref (evCall F S8 (m + 24)) (m + 24) 0 (hds 14) lbu14_0) [(.d (.int .i64 x0)), .top, .top, (.sr 0 0 2 1 none), .top, .top, (.sr 1 0 3 1 (some 3)), (.d (.int .i64 (3))), (.d (.int .i64 (2))), .top, .top, .top, .top, .top, .top, .top, .top, .top, .top, .top, .top, .top, .top, .top] [(.arr .str [([97] : List UInt8), ([98] : List UInt8)] true), (.arr .str [([97] : List UInt8), ([98] : List UInt8), ([99] : List UInt8)] true)]).run = some (.normal, [(.d (.int .i64 x0)), .top, .top, (.sr 0 0 2 1 none), .top, .top, (.sr 1 0 3 1 (some 3)), (.d (.int .i64 (3))), (.d (.int .i64 (3))), .top, .top, .top, .top, .top, .top, .top, .top, .top, .top, .top, .top, .top, .top, .top], [(.arr .str [([97] : List UInt8), ([98] : List UInt8)] true), (.arr .str [([97] : List UInt8), ([98] : List UInt8), ([99] : List UInt8)] true)]) := M.run_of_path _ [true, true, true, true, true, false] _ _ (by kernel_rfl) (all_t rfl (all_t rfl (all_t rfl (all_t rfl (all_t rfl (all_f c23 all_nil))))))
          have hs2 : (turns (hds 14 457) 0 457 (evC byref (evCall F S8 (m + 24)) (m + 24) 0 (hds 14) lbu14_0) (m + 21) [(.d (.int .i64 x0)), .top, .top, (.sr 0 0 2 1 none), .top, .top, (.sr 1 0 3 1 (some 3)), (.d (.int .i64 (3))), (.d (.int .i64 (3))), .top, .top, .top, .top, .top, .top, .top, .top, .top, .top, .top, .top, .top, .top, .top] [(.arr .str [([97] : List UInt8), ([98] : List UInt8)] true), (.arr .str [([97] : List UInt8), ([98] : List UInt8), ([99] : List UInt8)] true)]).run = some (.exit 0, [(.d (.int .i64 x0)), .top, .top, (.sr 0 0 2 1 none), .top, .top, (.sr 1 0 3 1 (some 3)), (.d (.int .i64 (3))), (.d (.int .i64 (3))), (.d (.bool false)), .top, .top, .top, .top, .top, .top, .top, .top, .top, .top, .top, .top, .top, .top], [(.arr .str [([97] : List UInt8), ([98] : List UInt8)] true), (.arr .str [([97] : List UInt8), ([98] : List UInt8), ([99] : List UInt8)] true)]) := Eq.mp (by kernel_rfl) hp3
          have hp2 := turns_step ht2 hs2
          have ht1 : (turn (hds 14 457) 0 457 (evC byref (evCall F S8 (m + 24)) (m + 24) 0 (hds 14) lbu14_0) [(.d (.int .i64 x0)), .top, .top, (.sr 0 0 1 1 none), .top, .top, (.sr 1 0 3 1 (some 3)), (.d (.int .i64 (3))), (.d (.int .i64 (1))), .top, .top, .top, .top, .top, .top, .top, .top, .top, .top, .top, .top, .top, .top, .top] [(.arr .str [([97] : List UInt8)] true), (.arr .str [([97] : List UInt8), ([98] : List UInt8), ([99] : List UInt8)] true)]).run = some (.normal, [(.d (.int .i64 x0)), .top, .top, (.sr 0 0 2 1 none), .top, .top, (.sr 1 0 3 1 (some 3)), (.d (.int .i64 (3))), (.d (.int .i64 (2))), .top, .top, .top, .top, .top, .top, .top, .top, .top, .top, .top, .top, .top, .top, .top], [(.arr .str [([97] : List UInt8), ([98] : List UInt8)] true), (.arr .str [([97] : List UInt8), ([98] : List UInt8), ([99] : List UInt8)] true)]) := M.run_of_path _ [true, true, true, true, true, true, true, true, true] _ _ (by kernel_rfl) (all_t rfl (all_t rfl (all_t rfl (all_t rfl (all_t rfl (all_t c14 (all_t rfl (all_t rfl (all_t rfl all_nil)))))))))
          have hs1 : (turns (hds 14 457) 0 457 (evC byref (evCall F S8 (m + 24)) (m + 24) 0 (hds 14) lbu14_0) (m + 22) [(.d (.int .i64 x0)), .top, .top, (.sr 0 0 2 1 none), .top, .top, (.sr 1 0 3 1 (some 3)), (.d (.int .i64 (3))), (.d (.int .i64 (2))), .top, .top, .top, .top, .top, .top, .top, .top, .top, .top, .top, .top, .top, .top, .top] [(.arr .str [([97] : List UInt8), ([98] : List UInt8)] true), (.arr .str [([97] : List UInt8), ([98] : List UInt8), ([99] : List UInt8)] true)]).run = some (.exit 0, [(.d (.int .i64 x0)), .top, .top, (.sr 0 0 2 1 none), .top, .top, (.sr 1 0 3 1 (some 3)), (.d (.int .i64 (3))), (.d (.int .i64 (3))), (.d (.bool false)), .top, .top, .top, .top, .top, .top, .top, .top, .top, .top, .top, .top, .top, .top], [(.arr .str [([97] : List UInt8), ([98] : List UInt8)] true), (.arr .str [([97] : List UInt8), ([98] : List UInt8), ([99] : List UInt8)] true)]) := Eq.mp (by kernel_rfl) hp2
          have hp1 := turns_step ht1 hs1
          have ht0 : (turn (hds 14 457) 0 457 (evC byref (evCall F S8 (m + 24)) (m + 24) 0 (hds 14) lbu14_0) [(.d (.int .i64 x0)), .top, .top, (.sr 0 0 0 1 none), .top, .top, (.sr 1 0 3 1 (some 3)), (.d (.int .i64 (3))), (.d (.int .i64 (0))), .top, .top, .top, .top, .top, .top, .top, .top, .top, .top, .top, .top, .top, .top, .top] [(.arr .str ([] : List (List UInt8)) true), (.arr .str [([97] : List UInt8), ([98] : List UInt8), ([99] : List UInt8)] true)]).run = some (.normal, [(.d (.int .i64 x0)), .top, .top, (.sr 0 0 1 1 none), .top, .top, (.sr 1 0 3 1 (some 3)), (.d (.int .i64 (3))), (.d (.int .i64 (1))), .top, .top, .top, .top, .top, .top, .top, .top, .top, .top, .top, .top, .top, .top, .top], [(.arr .str [([97] : List UInt8)] true), (.arr .str [([97] : List UInt8), ([98] : List UInt8), ([99] : List UInt8)] true)]) := M.run_of_path _ [true, true, true, true, true, true, true, true, true] _ _ (by kernel_rfl) (all_t rfl (all_t rfl (all_t rfl (all_t rfl (all_t rfl (all_t c5 (all_t rfl (all_t rfl (all_t rfl all_nil)))))))))
          have hs0 : (turns (hds 14 457) 0 457 (evC byref (evCall F S8 (m + 24)) (m + 24) 0 (hds 14) lbu14_0) (m + 23) [(.d (.int .i64 x0)), .top, .top, (.sr 0 0 1 1 none), .top, .top, (.sr 1 0 3 1 (some 3)), (.d (.int .i64 (3))), (.d (.int .i64 (1))), .top, .top, .top, .top, .top, .top, .top, .top, .top, .top, .top, .top, .top, .top, .top] [(.arr .str [([97] : List UInt8)] true), (.arr .str [([97] : List UInt8), ([98] : List UInt8), ([99] : List UInt8)] true)]).run = some (.exit 0, [(.d (.int .i64 x0)), .top, .top, (.sr 0 0 2 1 none), .top, .top, (.sr 1 0 3 1 (some 3)), (.d (.int .i64 (3))), (.d (.int .i64 (3))), (.d (.bool false)), .top, .top, .top, .top, .top, .top, .top, .top, .top, .top, .top, .top, .top, .top], [(.arr .str [([97] : List UInt8), ([98] : List UInt8)] true), (.arr .str [([97] : List UInt8), ([98] : List UInt8), ([99] : List UInt8)] true)]) := Eq.mp (by kernel_rfl) hp1
          have hp0 := turns_step ht0 hs0
          exact Eq.trans (Eq.mp (by kernel_rfl) hp0) hq
        cases hp
    · skip
      refine ite_cases h (fun c20 h => ?_) (fun c20 h => ?_)
      · skip
        cases h
        refine ⟨(.d (.sl .str [([97] : List UInt8), ([99] : List UInt8)])), [], runT_ok (LS := (fun k => if k = 457 then some (.exit 0, [(.d (.int .i64 x0)), .top, .top, (.sr 0 0 2 1 none), .top, .top, (.sr 1 0 3 1 (some 3)), (.d (.int .i64 (3))), (.d (.int .i64 (3))), (.d (.bool false)), .top, .top, .top, .top, .top, .top, .top, .top, .top, .top, .top, .top, .top, .top], [(.arr .str [([97] : List UInt8), ([99] : List UInt8)] true), (.arr .str [([97] : List UInt8), ([98] : List UInt8), ([99] : List UInt8)] true)]) else none)) (fn := fn14) (vis := [(457, [(.d (.int .i64 x0)), .top, .top, (.sr 0 0 0 1 none), .top, .top, (.sr 1 0 3 1 (some 3)), (.d (.int .i64 (3))), (.d (.int .i64 (0))), .top, .top, .top, .top, .top, .top, .top, .top, .top, .top, .top, .top, .top, .top, .top], [(.arr .str ([] : List (List UInt8)) true), (.arr .str [([97] : List UInt8), ([98] : List UInt8), ([99] : List UInt8)] true)])]) (by kernel_rfl) rfl (by kernel_rfl) (M.run_of_path _ [true] _ _ (by kernel_rfl) (all_t rfl all_nil)) ?_, by simp, (wkR.one (wkV.one (wk1.eq rfl))), trivial⟩
        intro p hp p2 hq
        rcases List.mem_cons.1 hp with rfl | hp
        · skip
          have ht3 : (turn (hds 14 457) 0 457 (evC byref (evCall F S8 (m + 24)) (m + 24) 0 (hds 14) lbu14_0) [(.d (.int .i64 x0)), .top, .top, (.sr 0 0 2 1 none), .top, .top, (.sr 1 0 3 1 (some 3)), (.d (.int .i64 (3))), (.d (.int .i64 (3))), .top, .top, .top, .top, .top, .top, .top, .top, .top, .top, .top, .top, .top, .top, .top] [(.arr .str [([97] : List UInt8), ([99] : List UInt8)] true), (.arr .str [([97] : List UInt8), ([98] : List UInt8), ([99] : List UInt8)] true)]).run = some (.exit 0, [(.d (.int .i64 x0)), .top, .top, (.sr 0 0 2 1 none), .top, .top, (.sr 1 0 3 1 (some 3)), (.d (.int .i64 (3))), (.d (.int .i64 (3))), (.d (.bool false)), .top, .top, .top, .top, .top, .top, .top, .top, .top, .top, .top, .top, .top, .top], [(.arr .str [([97] : List UInt8), ([99] : List UInt8)] true), (.arr .str [([97] : List UInt8), ([98] : List UInt8), ([99] : List UInt8)] true)]) := M.run_of_path _ [false] _ _ (by kernel_rfl) (all_f Bool.false_ne_true all_nil)
          have hp3 := turns_last (n := m + 20) (by simp) ht3
          have ht2 : (turn (hds 14 457) 0 457 (evC byref (evCall F S8 (m + 24)) (m + 24) 0 (hds 14) lbu14_0) [(.d (.int .i64 x0)), .top, .top, (.sr 0 0 1 1 none), .top, .top, (.sr 1 0 3 1 (some 3)), (.d (.int .i64 (3))), (.d (.int .i64 (2))), .top, .top, .top, .top, .top, .top, .top, .top, .top, .top, .top, .top, .top, .top, .top] [(.arr .str [([97] : List UInt8)] true), (.arr .str [([97] : List UInt8), ([98] : List UInt8), ([99] : List UInt8)] true)]).run = some (.normal, [(.d (.int .i64 x0)), .top, .top, (.sr 0 0 2 1 none), .top, .top, (.sr 1 0 3 1 (some 3)), (.d (.int .i64 (3))), (.d (.int .i64 (3))), .top, .top, .top, .top, .top, .top, .top, .top, .top, .top, .top, .top, .top, .top, .top], [(.arr .str [([97] : List UInt8), ([99] : List UInt8)] true), (.arr .str [([97] : List UInt8), ([98] : List UInt8), ([99] : List UInt8)] true)]) := M.run_of_path _ [true, true, true, true, true, true, true, true, true] _ _ (by kernel_rfl) (all_t rfl (all_t rfl (all_t rfl (all_t rfl (all_t rfl (all_t c20 (all_t rfl (all_t rfl (all_t rfl all_nil)))))))))
          have hs2 : (turns (hds 14 457) 0 457 (evC byref (evCall F S8 (m + 24)) (m + 24) 0 (hds 14) lbu14_0) (m + 21) [(.d (.int .i64 x0)), .top, .top, (.sr 0 0 2 1 none), .top, .top, (.sr 1 0 3 1 (some 3)), (.d (.int .i64 (3))), (.d (.int .i64 (3))), .top, .top, .top, .top, .top, .top, .top, .top, .top, .top, .top, .top, .top, .top, .top] [(.arr .str [([97] : List UInt8), ([99] : List UInt8)] true), (.arr .str [([97] : List UInt8), ([98] : List UInt8), ([99] : List UInt8)] true)]).run = some (.exit 0, [(.d (.int .i64 x0)), .top, .top, (.sr 0 0 2 1 none), .top, .top, (.sr 1 0 3 1 (some 3)), (.d (.int .i64 (3))), (.d (.int .i64 (3))), (.d (.bool false)), .top, .top, .top, .top, .top, .top, .top, .top, .top, .top, .top, .top, .top, .top], [(.arr .str [([97] : List UInt8), ([99] : List UInt8)] true), (.arr .str [([97] : List UInt8), ([98] : List UInt8), ([99] : List UInt8)] true)]) := Eq.mp (by kernel_rfl) hp3
          have hp2 := turns_step ht2 hs2
          have ht1 : (turn (hds 14 457) 0 457 (evC byref (evCall F S8 (m + 24)) (m + 24) 0 (hds 14) lbu14_0) [(.d (.int .i64 x0)), .top, .top, (.sr 0 0 1 1 none), .top, .top, (.sr 1 0 3 1 (some 3)), (.d (.int .i64 (3))), (.d (.int .i64 (1))), .top, .top, .top, .top, .top, .top, .top, .top, .top, .top, .top, .top, .top, .top, .top] [(.arr .str [([97] : List UInt8)] true), (.arr .str [([97] : List UInt8), ([98] : List UInt8), ([99] : List UInt8)] true)]).run = some (.normal, [(.d (.int .i64 x0)), .top, .top, (.sr 0 0 1 1 none), .top, .top, (.sr 1 0 3 1 (some 3)), (.d (.int .i64 (3))), (.d (.int .i64 (2))), .top, .top, .top, .top, .top, .top, .top, .top, .top, .top, .top, .top, .top, .top, .top], [(.arr .str [([97] : List UInt8)] true), (.arr .str [([97] : List UInt8), ([98] : List UInt8), ([99] : List UInt8)] true)]) := M.run_of_path _ [true, true, true, true, true, false] _ _ (by kernel_rfl) (all_t rfl (all_t rfl (all_t rfl (all_t rfl (all_t rfl (all_f c14 all_nil))))))
          have hs1 : (turns (hds 14 457) 0 457 (evC byref (evCall F S8 (m + 24)) (m + 24) 0 (hds 14) lbu14_0) (m + 22) [(.d (.int .i64 x0)), .top, .top, (.sr 0 0 1 1 none), .top, .top, (.sr 1 0 3 1 (some 3)), (.d (.int .i64 (3))), (.d (.int .i64 (2))), .top, .top, .top, .top, .top, .top, .top, .top, .top, .top, .top, .top, .top, .top, .top] [(.arr .str [([97] : List UInt8)] true), (.arr .str [([97] : List UInt8), ([98] : List UInt8), ([99] : List UInt8)] true)]).run = some (.exit 0, [(.d (.int .i64 x0)), .top, .top, (.sr 0 0 2 1 none), .top, .top, (.sr 1 0 3 1 (some 3)), (.d (.int .i64 (3))), (.d (.int .i64 (3))), (.d (.bool false)), .top, .top, .top, .top, .top, .top, .top, .top, .top, .top, .top, .top, .top, .top], [(.arr .str [([97] : List UInt8), ([99] : List UInt8)] true), (.arr .str [([97] : List UInt8), ([98] : List UInt8), ([99] : List UInt8)] true)]) := Eq.mp (by kernel_rfl) hp2
          have hp1 := turns_step ht1 hs1
          have ht0 : (turn (hds 14 457) 0 457 (evC byref (evCall F S8 (m + 24)) (m + 24) 0 (hds 14) lbu14_0) [(.d (.int .i64 x0)), .top, .top, (.sr 0 0 0 1 none), .top, .top, (.sr 1 0 3 1 (some 3)), (.d (.int .i64 (3))), (.d (.int .i64 (0))), .top, .top, .top, .top, .top, .top, .top, .top, .top, .top, .top, .top, .top, .top, .top] [(.arr .str ([] : List (List UInt8)) true), (.arr .str [([97] : List UInt8), ([98] : List UInt8), ([99] : List UInt8)] true)]).run = some (.normal, [(.d (.int .i64 x0)), .top, .top, (.sr 0 0 1 1 none), .top, .top, (.sr 1 0 3 1 (some 3)), (.d (.int .i64 (3))), (.d (.int .i64 (1))), .top, .top, .top, .top, .top, .top, .top, .top, .top, .top, .top, .top, .top, .top, .top], [(.arr .str [([97] : List UInt8)] true), (.arr .str [([97] : List UInt8), ([98] : List UInt8), ([99] : List UInt8)] true)]) := M.run_of_path _ [true, true, true, true, true, true, true, true, true] _ _ (by kernel_rfl) (all_t rfl (all_t rfl (all_t rfl (all_t rfl (all_t rfl (all_t c5 (all_t rfl (all_t rfl (all_t rfl all_nil)))))))))
          have hs0 : (turns (hds 14 457) 0 457 (evC byref (evCall F S8 (m + 24)) (m + 24) 0 (hds 14) lbu14_0) (m + 23) [(.d (.int .i64 x0)), .top, .top, (.sr 0 0 1 1 none), .top, .top, (.sr 1 0 3 1 (some 3)), (.d (.int .i64 (3))), (.d (.int .i64 (1))), .top, .top, .top, .top, .top, .top, .top, .top, .top, .top, .top, .top, .top, .top, .top] [(.arr .str [([97] : List UInt8)] true), (.arr .str [([97] : List UInt8), ([98] : List UInt8), ([99] : List UInt8)] true)]).run = some (.exit 0, [(.d (.int .i64 x0)), .top, .top, (.sr 0 0 2 1 none), .top, .top, (.sr 1 0 3 1 (some 3)), (.d (.int .i64 (3))), (.d (.int .i64 (3))), (.d (.bool false)), .top, .top, .top, .top, .top, .top, .top, .top, .top, .top, .top, .top, .top, .top], [(.arr .str [([97] : List UInt8), ([99] : List UInt8)] true), (.arr .str [([97] : List UInt8), ([98] : List UInt8), ([99] : List UInt8)] true)]) := Eq.mp (by kernel_rfl) hp1
          have hp0 := turns_step ht0 hs0
          exact Eq.trans (Eq.mp (by kernel_rfl) hp0) hq
        cases hp
      · skip
        cases h
        refine ⟨(.d (.sl .str [([97] : List UInt8)])), [], runT_ok (LS := (fun k => if k = 457 then some (.exit 0, [(.d (.int .i64 x0)), .top, .top, (.sr 0 0 1 1 none), .top, .top, (.sr 1 0 3 1 (some 3)), (.d (.int .i64 (3))), (.d (.int .i64 (3))), (.d (.bool false)), .top, .top, .top, .top, .top, .top, .top, .top, .top, .top, .top, .top, .top, .top], [(.arr .str [([97] : List UInt8)] true), (.arr .str [([97] : List UInt8), ([98] : List UInt8), ([99] : List UInt8)] true)]) else none)) (fn := fn14) (vis := [(457, [(.d (.int .i64 x0)), .top, .top, (.sr 0 0 0 1 none), .top, .top, (.sr 1 0 3 1 (some 3)), (.d (.int .i64 (3))), (.d (.int .i64 (0))), .top, .top, .top, .top, .top, .top, .top, .top, .top, .top, .top, .top, .top, .top, .top], [(.arr .str ([] : List (List UInt8)) true), (.arr .str [([97] : List UInt8), ([98] : List UInt8), ([99] : List UInt8)] true)])]) (by kernel_rfl) rfl (by kernel_rfl) (M.run_of_path _ [true] _ _ (by kernel_rfl) (all_t rfl all_nil)) ?_, by simp, (wkR.one (wkV.one (wk1.eq rfl))), trivial⟩
        intro p hp p2 hq
        rcases List.mem_cons.1 hp with rfl | hp
        · skip
          have ht3 : (turn (hds 14 457) 0 457 (evC byref (evCall F S8 (m + 24)) (m + 24) 0 (hds 14) lbu14_0) [(.d (.int .i64 x0)), .top, .top, (.sr 0 0 1 1 none), .top, .top, (.sr 1 0 3 1 (some 3)), (.d (.int .i64 (3))), (.d (.int .i64 (3))), .top, .top, .top, .top, .top, .top, .top, .top, .top, .top, .top, .top, .top, .top, .top] [(.arr .str [([97] : List UInt8)] true), (.arr .str [([97] : List UInt8), ([98] : List UInt8), ([99] : List UInt8)] true)]).run = some (.exit 0, [(.d (.int .i64 x0)), .top, .top, (.sr 0 0 1 1 none), .top, .top, (.sr 1 0 3 1 (some 3)), (.d (.int .i64 (3))), (.d (.int .i64 (3))), (.d (.bool false)), .top, .top, .top, .top, .top, .top, .top, .top, .top, .top, .top, .top, .top, .top], [(.arr .str [([97] : List UInt8)] true), (.arr .str [([97] : List UInt8), ([98] : List UInt8), ([99] : List UInt8)] true)]) := M.run_of_path _ [false] _ _ (by kernel_rfl) (all_f Bool.false_ne_true all_nil)
          have hp3 := turns_last (n := m + 20) (by simp) ht3
          have ht2 : (turn (hds 14 457) 0 457 (evC byref (evCall F S8 (m + 24)) (m + 24) 0 (hds 14) lbu14_0) [(.d (.int .i64 x0)), .top, .top, (.sr 0 0 1 1 none), .top, .top, (.sr 1 0 3 1 (some 3)), (.d (.int .i64 (3))), (.d (.int .i64 (2))), .top, .top, .top, .top, .top, .top, .top, .top, .top, .top, .top, .top, .top, .top, .top] [(.arr .str [([97] : List UInt8)] true), (.arr .str [([97] : List UInt8), ([98] : List UInt8), ([99] : List UInt8)] true)]).run = some (.normal, [(.d (.int .i64 x0)), .top, .top, (.sr 0 0 1 1 none), .top, .top, (.sr 1 0 3 1 (some 3)), (.d (.int .i64 (3))), (.d (.int .i64 (3))), .top, .top, .top, .top, .top, .top, .top, .top, .top, .top, .top, .top, .top, .top, .top], [(.arr .str [([97] : List UInt8)] true), (.arr .str [([97] : List UInt8), ([98] : List UInt8), ([99] : List UInt8)] true)]) := M.run_of_path _ [true, true, true, true, true, false] _ _ (by kernel_rfl) (all_t rfl (all_t rfl (all_t rfl (all_t rfl (all_t rfl (all_f c20 all_nil))))))
          have hs2 : (turns (hds 14 457) 0 457 (evC byref (evCall F S8 (m + 24)) (m + 24) 0 (hds 14) lbu14_0) (m + 21) [(.d (.int .i64 x0)), .top, .top, (.sr 0 0 1 1 none), .top, .top, (.sr 1 0 3 1 (some 3)), (.d (.int .i64 (3))), (.d (.int .i64 (3))), .top, .top, .top, .top, .top, .top, .top, .top, .top, .top, .top, .top, .top, .top, .top] [(.arr .str [([97] : List UInt8)] true), (.arr .str [([97] : List UInt8), ([98] : List UInt8), ([99] : List UInt8)] true)]).run = some (.exit 0, [(.d (.int .i64 x0)), .top, .top, (.sr 0 0 1 1 none), .top, .top, (.sr 1 0 3 1 (some 3)), (.d (.int .i64 (3))), (.d (.int .i64 (3))), (.d (.bool false)), .top, .top, .top, .top, .top, .top, .top, .top, .top, .top, .top, .top, .top, .top], [(.arr .str [([97] : List UInt8)] true), (.arr .str [([97] : List UInt8), ([98] : List UInt8), ([99] : List UInt8)] true)]) := Eq.mp (by kernel_rfl) hp3
          have hp2 := turns_step ht2 hs2
          have ht1 : (turn (hds 14 457) 0 457 (evC byref (evCall F S8 (m + 24)) (m + 24) 0 (hds 14) lbu14_0) [(.d (.int .i64 x0)), .top, .top, (.sr 0 0 1 1 none), .top, .top, (.sr 1 0 3 1 (some 3)), (.d (.int .i64 (3))), (.d (.int .i64 (1))), .top, .top, .top, .top, .top, .top, .top, .top, .top, .top, .top, .top, .top, .top, .top] [(.arr .str [([97] : List UInt8)] true), (.arr .str [([97] : List UInt8), ([98] : List UInt8), ([99] : List UInt8)] true)]).run = some (.normal, [(.d (.int .i64 x0)), .top, .top, (.sr 0 0 1 1 none), .top, .top, (.sr 1 0 3 1 (some 3)), (.d (.int .i64 (3))), (.d (.int .i64 (2))), .top, .top, .top, .top, .top, .top, .top, .top, .top, .top, .top, .top, .top, .top, .top], [(.arr .str [([97] : List UInt8)] true), (.arr .str [([97] : List UInt8), ([98] : List UInt8), ([99] : List UInt8)] true)]) := M.run_of_path _ [true, true, true, true, true, false] _ _ (by kernel_rfl) (all_t rfl (all_t rfl (all_t rfl (all_t rfl (all_t rfl (all_f c14 all_nil))))))
          have hs1 : (turns (hds 14 457) 0 457 (evC byref (evCall F S8 (m + 24)) (m + 24) 0 (hds 14) lbu14_0) (m + 22) [(.d (.int .i64 x0)), .top, .top, (.sr 0 0 1 1 none), .top, .top, (.sr 1 0 3 1 (some 3)), (.d (.int .i64 (3))), (.d (.int .i64 (2))), .top, .top, .top, .top, .top, .top, .top, .top, .top, .top, .top, .top, .top, .top, .top] [(.arr .str [([97] : List UInt8)] true), (.arr .str [([97] : List UInt8), ([98] : List UInt8), ([99] : List UInt8)] true)]).run = some (.exit 0, [(.d (.int .i64 x0)), .top, .top, (.sr 0 0 1 1 none), .top, .top, (.sr 1 0 3 1 (some 3)), (.d (.int .i64 (3))), (.d (.int .i64 (3))), (.d (.bool false)), .top, .top, .top, .top, .top, .top, .top, .top, .top, .top, .top, .top, .top, .top], [(.arr .str [([97] : List UInt8)] true), (.arr .str [([97] : List UInt8), ([98] : List UInt8), ([99] : List UInt8)] true)]) := Eq.mp (by kernel_rfl) hp2
          have hp1 := turns_step ht1 hs1
          have ht0 : (turn (hds 14 457) 0 457 (evC byref (evCall F S8 (m + 24)) (m + 24) 0 (hds 14) lbu14_0) [(.d (.int .i64 x0)), .top, .top, (.sr 0 0 0 1 none), .top, .top, (.sr 1 0 3 1 (some 3)), (.d (.int .i64 (3))), (.d (.int .i64 (0))), .top, .top, .top, .top, .top, .top, .top, .top, .top, .top, .top, .top, .top, .top, .top] [(.arr .str ([] : List (List UInt8)) true), (.arr .str [([97] : List UInt8), ([98] : List UInt8), ([99] : List UInt8)] true)]).run = some (.normal, [(.d (.int .i64 x0)), .top, .top, (.sr 0 0 1 1 none), .top, .top, (.sr 1 0 3 1 (some 3)), (.d (.int .i64 (3))), (.d (.int .i64 (1))), .top, .top, .top, .top, .top, .top, .top, .top, .top, .top, .top, .top, .top, .top, .top], [(.arr .str [([97] : List UInt8)] true), (.arr .str [([97] : List UInt8), ([98] : List UInt8), ([99] : List UInt8)] true)]) := M.run_of_path _ [true, true, true, true, true, true, true, true, true] _ _ (by kernel_rfl) (all_t rfl (all_t rfl (all_t rfl (all_t rfl (all_t rfl (all_t c5 (all_t rfl (all_t rfl (all_t rfl all_nil)))))))))
          have hs0 : (turns (hds 14 457) 0 457 (evC byref (evCall F S8 (m + 24)) (m + 24) 0 (hds 14) lbu14_0) (m + 23) [(.d (.int .i64 x0)), .top, .top, (.sr 0 0 1 1 none), .top, .top, (.sr 1 0 3 1 (some 3)), (.d (.int .i64 (3))), (.d (.int .i64 (1))), .top, .top, .top, .top, .top, .top, .top, .top, .top, .top, .top, .top, .top, .top, .top] [(.arr .str [([97] : List UInt8)] true), (.arr .str [([97] : List UInt8), ([98] : List UInt8), ([99] : List UInt8)] true)]).run = some (.exit 0, [(.d (.int .i64 x0)), .top, .top, (.sr 0 0 1 1 none), .top, .top, (.sr 1 0 3 1 (some 3)), (.d (.int .i64 (3))), (.d (.int .i64 (3))), (.d (.bool false)), .top, .top, .top, .top, .top, .top, .top, .top, .top, .top, .top, .top, .top, .top], [(.arr .str [([97] : List UInt8)] true), (.arr .str [([97] : List UInt8), ([98] : List UInt8), ([99] : List UInt8)] true)]) := Eq.mp (by kernel_rfl) hp1
          have hp0 := turns_step ht0 hs0
          exact Eq.trans (Eq.mp (by kernel_rfl) hp0) hq
        cases hp
  · skip
    refine ite_cases h (fun c11 h => ?_) (fun c11 h => ?_)
    · skip
      refine ite_cases h (fun c20 h => ?_) (fun c20 h => ?_)
      · skip
        cases h
        refine ⟨(.d (.sl .str [([98] : List UInt8), ([99] : List UInt8)])), [], runT_ok (LS := (fun k => if k = 457 then some (.exit 0, [(.d (.int .i64 x0)), .top, .top, (.sr 0 0 2 1 none), .top, .top, (.sr 1 0 3 1 (some 3)), (.d (.int .i64 (3))), (.d (.int .i64 (3))), (.d (.bool false)), .top, .top, .top, .top, .top, .top, .top, .top, .top, .top, .top, .top, .top, .top], [(.arr .str [([98] : List UInt8), ([99] : List UInt8)] true), (.arr .str [([97] : List UInt8), ([98] : List UInt8), ([99] : List UInt8)] true)]) else none)) (fn := fn14) (vis := [(457, [(.d (.int .i64 x0)), .top, .top, (.sr 0 0 0 1 none), .top, .top, (.sr 1 0 3 1 (some 3)), (.d (.int .i64 (3))), (.d (.int .i64 (0))), .top, .top, .top, .top, .top, .top, .top, .top, .top, .top, .top, .top, .top, .top, .top], [(.arr .str ([] : List (List UInt8)) true), (.arr .str [([97] : List UInt8), ([98] : List UInt8), ([99] : List UInt8)] true)])]) (by kernel_rfl) rfl (by kernel_rfl) (M.run_of_path _ [true] _ _ (by kernel_rfl) (all_t rfl all_nil)) ?_, by simp, (wkR.one (wkV.one (wk1.eq rfl))), trivial⟩
        intro p hp p2 hq
        rcases List.mem_cons.1 hp with rfl | hp
        · skip
          have ht3 : (turn (hds 14 457) 0 457 (evC byref (evCall F S8 (m + 24)) (m + 24) 0 (hds 14) lbu14_0) [(.d (.int .i64 x0)), .top, .top, (.sr 0 0 2 1 none), .top, .top, (.sr 1 0 3 1 (some 3)), (.d (.int .i64 (3))), (.d (.int .i64 (3))), .top, .top, .top, .top, .top, .top, .top, .top, .top, .top, .top, .top, .top, .top, .top] [(.arr .str [([98] : List UInt8), ([99] : List UInt8)] true), (.arr .str [([97] : List UInt8), ([98] : List UInt8), ([99] : List UInt8)] true)]).run = some (.exit 0, [(.d (.int .i64 x0)), .top, .top, (.sr 0 0 2 1 none), .top, .top, (.sr 1 0 3 1 (some 3)), (.d (.int .i64 (3))), (.d (.int .i64 (3))), (.d (.bool false)), .top, .top, .top, .top, .top, .top, .top, .top, .top, .top, .top, .top, .top, .top], [(.arr .str [([98] : List UInt8), ([99] : List UInt8)] true), (.arr .str [([97] : List UInt8), ([98] : List UInt8), ([99] : List UInt8)] true)]) := M.run_of_path _ [false] _ _ (by kernel_rfl) (all_f Bool.false_ne_true all_nil)
          have hp3 := turns_last (n := m + 20) (by simp) ht3
          have ht2 : (turn (hds 14 457) 0 457 (evC byref (evCall F S8 (m + 24)) (m + 24) 0 (hds 14) lbu14_0) [(.d (.int .i64 x0)), .top, .top, (.sr 0 0 1 1 none), .top, .top, (.sr 1 0 3 1 (some 3)), (.d (.int .i64 (3))), (.d (.int .i64 (2))), .top, .top, .top, .top, .top, .top, .top, .top, .top, .top, .top, .top, .top, .top, .top] [(.arr .str [([98] : List UInt8)] true), (.arr .str [([97] : List UInt8), ([98] : List UInt8), ([99] : List UInt8)] true)]).run = some (.normal, [(.d (.int .i64 x0)), .top, .top, (.sr 0 0 2 1 none), .top, .top, (.sr 1 0 3 1 (some 3)), (.d (.int .i64 (3))), (.d (.int .i64 (3))), .top, .top, .top, .top, .top, .top, .top, .top, .top, .top, .top, .top, .top, .top, .top], [(.arr .str [([98] : List UInt8), ([99] : List UInt8)] true), (.arr .str [([97] : List UInt8), ([98] : List UInt8), ([99] : List UInt8)] true)]) := M.run_of_path _ [true, true, true, true, true, true, true, true, true] _ _ (by kernel_rfl) (all_t rfl (all_t rfl (all_t rfl (all_t rfl (all_t rfl (all_t c20 (all_t rfl (all_t rfl (all_t rfl all_nil)))))))))
          have hs2 : (turns (hds 14 457) 0 457 (evC byref (evCall F S8 (m + 24)) (m + 24) 0 (hds 14) lbu14_0) (m + 21) [(.d (.int .i64 x0)), .top, .top, (.sr 0 0 2 1 none), .top, .top, (.sr 1 0 3 1 (some 3)), (.d (.int .i64 (3))), (.d (.int .i64 (3))), .top, .top, .top, .top, .top, .top, .top, .top, .top, .top, .top, .top, .top, .top, .top] [(.arr .str [([98] : List UInt8), ([99] : List UInt8)] true), (.arr .str [([97] : List UInt8), ([98] : List UInt8), ([99] : List UInt8)] true)]).run = some (.exit 0, [(.d (.int .i64 x0)), .top, .top, (.sr 0 0 2 1 none), .top, .top, (.sr 1 0 3 1 (some 3)), (.d (.int .i64 (3))), (.d (.int .i64 (3))), (.d (.bool false)), .top, .top, .top, .top, .top, .top, .top, .top, .top, .top, .top, .top, .top, .top], [(.arr .str [([98] : List UInt8), ([99] : List UInt8)] true), (.arr .str [([97] : List UInt8), ([98] : List UInt8), ([99] : List UInt8)] true)]) := Eq.mp (by kernel_rfl) hp3
          have hp2 := turns_step ht2 hs2
          have ht1 : (turn (hds 14 457) 0 457 (evC byref (evCall F S8 (m + 24)) (m + 24) 0 (hds 14) lbu14_0) [(.d (.int .i64 x0)), .top, .top, (.sr 0 0 0 1 none), .top, .top, (.sr 1 0 3 1 (some 3)), (.d (.int .i64 (3))), (.d (.int .i64 (1))), .top, .top, .top, .top, .top, .top, .top, .top, .top, .top, .top, .top, .top, .top, .top] [(.arr .str ([] : List (List UInt8)) true), (.arr .str [([97] : List UInt8), ([98] : List UInt8), ([99] : List UInt8)] true)]).run = some (.normal, [(.d (.int .i64 x0)), .top, .top, (.sr 0 0 1 1 none), .top, .top, (.sr 1 0 3 1 (some 3)), (.d (.int .i64 (3))), (.d (.int .i64 (2))), .top, .top, .top, .top, .top, .top, .top, .top, .top, .top, .top, .top, .top, .top, .top], [(.arr .str [([98] : List UInt8)] true), (.arr .str [([97] : List UInt8), ([98] : List UInt8), ([99] : List UInt8)] true)]) := M.run_of_path _ [true, true, true, true, true, true, true, true, true] _ _ (by kernel_rfl) (all_t rfl (all_t rfl (all_t rfl (all_t rfl (all_t rfl (all_t c11 (all_t rfl (all_t rfl (all_t rfl all_nil)))))))))
          have hs1 : (turns (hds 14 457) 0 457 (evC byref (evCall F S8 (m + 24)) (m + 24) 0 (hds 14) lbu14_0) (m + 22) [(.d (.int .i64 x0)), .top, .top, (.sr 0 0 1 1 none), .top, .top, (.sr 1 0 3 1 (some 3)), (.d (.int .i64 (3))), (.d (.int .i64 (2))), .top, .top, .top, .top, .top, .top, .top, .top, .top, .top, .top, .top, .top, .top, .top] [(.arr .str [([98] : List UInt8)] true), (.arr .str [([97] : List UInt8), ([98] : List UInt8), ([99] : List UInt8)] true)]).run = some (.exit 0, [(.d (.int .i64 x0)), .top, .top, (.sr 0 0 2 1 none), .top, .top, (.sr 1 0 3 1 (some 3)), (.d (.int .i64 (3))), (.d (.int .i64 (3))), (.d (.bool false)), .top, .top, .top, .top, .top, .top, .top, .top, .top, .top, .top, .top, .top, .top], [(.arr .str [([98] : List UInt8), ([99] : List UInt8)] true), (.arr .str [([97] : List UInt8), ([98] : List UInt8), ([99] : List UInt8)] true)]) := Eq.mp (by kernel_rfl) hp2
          have hp1 := turns_step ht1 hs1
          have ht0 : (turn (hds 14 457) 0 457 (evC byref (evCall F S8 (m + 24)) (m + 24) 0 (hds 14) lbu14_0) [(.d (.int .i64 x0)), .top, .top, (.sr 0 0 0 1 none), .top, .top, (.sr 1 0 3 1 (some 3)), (.d (.int .i64 (3))), (.d (.int .i64 (0))), .top, .top, .top, .top, .top, .top, .top, .top, .top, .top, .top, .top, .top, .top, .top] [(.arr .str ([] : List (List UInt8)) true), (.arr .str [([97] : List UInt8), ([98] : List UInt8), ([99] : List UInt8)] true)]).run = some (.normal, [(.d (.int .i64 x0)), .top, .top, (.sr 0 0 0 1 none), .top, .top, (.sr 1 0 3 1 (some 3)), (.d (.int .i64 (3))), (.d (.int .i64 (1))), .top, .top, .top, .top, .top, .top, .top, .top, .top, .top, .top, .top, .top, .top, .top], [(.arr .str ([] : List (List UInt8)) true), (.arr .str [([97] : List UInt8), ([98] : List UInt8), ([99] : List UInt8)] true)]) := M.run_of_path _ [true, true, true, true, true, false] _ _ (by kernel_rfl) (all_t rfl (all_t rfl (all_t rfl (all_t rfl (all_t rfl (all_f c5 all_nil))))))
          have hs0 : (turns (hds 14 457) 0 457 (evC byref (evCall F S8 (m + 24)) (m + 24) 0 (hds 14) lbu14_0) (m + 23) [(.d (.int .i64 x0)), .top, .top, (.sr 0 0 0 1 none), .top, .top, (.sr 1 0 3 1 (some 3)), (.d (.int .i64 (3))), (.d (.int .i64 (1))), .top, .top, .top, .top, .top, .top, .top, .top, .top, .top, .top, .top, .top, .top, .top] [(.arr .str ([] : List (List UInt8)) true), (.arr .str [([97] : List UInt8), ([98] : List UInt8), ([99] : List UInt8)] true)]).run = some (.exit 0, [(.d (.int .i64 x0)), .top, .top, (.sr 0 0 2 1 none), .top, .top, (.sr 1 0 3 1 (some 3)), (.d (.int .i64 (3))), (.d (.int .i64 (3))), (.d (.bool false)), .top, .top, .top, .top, .top, .top, .top, .top, .top, .top, .top, .top, .top, .top], [(.arr .str [([98] : List UInt8), ([99] : List UInt8)] true), (.arr .str [([97] : List UInt8), ([98] : List UInt8), ([99] : List UInt8)] true)]) := Eq.mp (by kernel_rfl) hp1
          have hp0 := turns_step ht0 hs0
          exact Eq.trans (Eq.mp (by kernel_rfl) hp0) hq
        cases hp
      · skip
        cases h
        refine ⟨(.d (.sl .str [([98] : List UInt8)])), [], runT_ok (LS := (fun k => if k = 457 then some (.exit 0, [(.d (.int .i64 x0)), .top, .top, (.sr 0 0 1 1 none), .top, .top, (.sr 1 0 3 1 (some 3)), (.d (.int .i64 (3))), (.d (.int .i64 (3))), (.d (.bool false)), .top, .top, .top, .top, .top, .top, .top, .top, .top, .top, .top, .top, .top, .top], [(.arr .str [([98] : List UInt8)] true), (.arr .str [([97] : List UInt8), ([98] : List UInt8), ([99] : List UInt8)] true)]) else none)) (fn := fn14) (vis := [(457, [(.d (.int .i64 x0)), .top, .top, (.sr 0 0 0 1 none), .top, .top, (.sr 1 0 3 1 (some 3)), (.d (.int .i64 (3))), (.d (.int .i64 (0))), .top, .top, .top, .top, .top, .top, .top, .top, .top, .top, .top, .top, .top, .top, .top], [(.arr .str ([] : List (List UInt8)) true), (.arr .str [([97] : List UInt8), ([98] : List UInt8), ([99] : List UInt8)] true)])]) (by kernel_rfl) rfl (by kernel_rfl) (M.run_of_path _ [true] _ _ (by kernel_rfl) (all_t rfl all_nil)) ?_, by simp, (wkR.one (wkV.one (wk1.eq rfl))), trivial⟩
        intro p hp p2 hq
        rcases List.mem_cons.1 hp with rfl | hp
        · skip
          have ht3 : (turn (hds 14 457) 0 457 (evC byref (evCall F S8 (m + 24)) (m + 24) 0 (hds 14) lbu14_0) [(.d (.int .i64 x0)), .top, .top, (.sr 0 0 1 1 none), .top, .top, (.sr 1 0 3 1 (some 3)), (.d (.int .i64 (3))), (.d (.int .i64 (3))), .top, .top, .top, .top, .top, .top, .top, .top, .top, .top, .top, .top, .top, .top, .top] [(.arr .str [([98] : List UInt8)] true), (.arr .str [([97] : List UInt8), ([98] : List UInt8), ([99] : List UInt8)] true)]).run = some (.exit 0, [(.d (.int .i64 x0)), .top, .top, (.sr 0 0 1 1 none), .top, .top, (.sr 1 0 3 1 (some 3)), (.d (.int .i64 (3))), (.d (.int .i64 (3))), (.d (.bool false)), .top, .top, .top, .top, .top, .top, .top, .top, .top, .top, .top, .top, .top, .top], [(.arr .str [([98] : List UInt8)] true), (.arr .str [([97] : List UInt8), ([98] : List UInt8), ([99] : List UInt8)] true)]) := M.run_of_path _ [false] _ _ (by kernel_rfl) (all_f Bool.false_ne_true all_nil)
          have hp3 := turns_last (n := m + 20) (by simp) ht3
          have ht2 : (turn (hds 14 457) 0 457 (evC byref (evCall F S8 (m + 24)) (m + 24) 0 (hds 14) lbu14_0) [(.d (.int .i64 x0)), .top, .top, (.sr 0 0 1 1 none), .top, .top, (.sr 1 0 3 1 (some 3)), (.d (.int .i64 (3))), (.d (.int .i64 (2))), .top, .top, .top, .top, .top, .top, .top, .top, .top, .top, .top, .top, .top, .top, .top] [(.arr .str [([98] : List UInt8)] true), (.arr .str [([97] : List UInt8), ([98] : List UInt8), ([99] : List UInt8)] true)]).run = some (.normal, [(.d (.int .i64 x0)), .top, .top, (.sr 0 0 1 1 none), .top, .top, (.sr 1 0 3 1 (some 3)), (.d (.int .i64 (3))), (.d (.int .i64 (3))), .top, .top, .top, .top, .top, .top, .top, .top, .top, .top, .top, .top, .top, .top, .top], [(.arr .str [([98] : List UInt8)] true), (.arr .str [([97] : List UInt8), ([98] : List UInt8), ([99] : List UInt8)] true)]) := M.run_of_path _ [true, true, true, true, true, false] _ _ (by kernel_rfl) (all_t rfl (all_t rfl (all_t rfl (all_t rfl (all_t rfl (all_f c20 all_nil))))))
          have hs2 : (turns (hds 14 457) 0 457 (evC byref (evCall F S8 (m + 24)) (m + 24) 0 (hds 14) lbu14_0) (m + 21) [(.d (.int .i64 x0)), .top, .top, (.sr 0 0 1 1 none), .top, .top, (.sr 1 0 3 1 (some 3)), (.d (.int .i64 (3))), (.d (.int .i64 (3))), .top, .top, .top, .top, .top, .top, .top, .top, .top, .top, .top, .top, .top, .top, .top] [(.arr .str [([98] : List UInt8)] true), (.arr .str [([97] : List UInt8), ([98] : List UInt8), ([99] : List UInt8)] true)]).run = some (.exit 0, [(.d (.int .i64 x0)), .top, .top, (.sr 0 0 1 1 none), .top, .top, (.sr 1 0 3 1 (some 3)), (.d (.int .i64 (3))), (.d (.int .i64 (3))), (.d (.bool false)), .top, .top, .top, .top, .top, .top, .top, .top, .top, .top, .top, .top, .top, .top], [(.arr .str [([98] : List UInt8)] true), (.arr .str [([97] : List UInt8), ([98] : List UInt8), ([99] : List UInt8)] true)]) := Eq.mp (by kernel_rfl) hp3
          have hp2 := turns_step ht2 hs2
          have ht1 : (turn (hds 14 457) 0 457 (evC byref (evCall F S8 (m + 24)) (m + 24) 0 (hds 14) lbu14_0) [(.d (.int .i64 x0)), .top, .top, (.sr 0 0 0 1 none), .top, .top, (.sr 1 0 3 1 (some 3)), (.d (.int .i64 (3))), (.d (.int .i64 (1))), .top, .top, .top, .top, .top, .top, .top, .top, .top, .top, .top, .top, .top, .top, .top] [(.arr .str ([] : List (List UInt8)) true), (.arr .str [([97] : List UInt8), ([98] : List UInt8), ([99] : List UInt8)] true)]).run = some (.normal, [(.d (.int .i64 x0)), .top, .top, (.sr 0 0 1 1 none), .top, .top, (.sr 1 0 3 1 (some 3)), (.d (.int .i64 (3))), (.d (.int .i64 (2))), .top, .top, .top, .top, .top, .top, .top, .top, .top, .top, .top, .top, .top, .top, .top], [(.arr .str [([98] : List UInt8)] true), (.arr .str [([97] : List UInt8), ([98] : List UInt8), ([99] : List UInt8)] true)]) := M.run_of_path _ [true, true, true, true, true, true, true, true, true] _ _ (by kernel_rfl) (all_t rfl (all_t rfl (all_t rfl (all_t rfl (all_t rfl (all_t c11 (all_t rfl (all_t rfl (all_t rfl all_nil)))))))))
          have hs1 : (turns (hds 14 457) 0 457 (evC byref (evCall F S8 (m + 24)) (m + 24) 0 (hds 14) lbu14_0) (m + 22) [(.d (.int .i64 x0)), .top, .top, (.sr 0 0 1 1 none), .top, .top, (.sr 1 0 3 1 (some 3)), (.d (.int .i64 (3))), (.d (.int .i64 (2))), .top, .top, .top, .top, .top, .top, .top, .top, .top, .top, .top, .top, .top, .top, .top] [(.arr .str [([98] : List UInt8)] true), (.arr .str [([97] : List UInt8), ([98] : List UInt8), ([99] : List UInt8)] true)]).run = some (.exit 0, [(.d (.int .i64 x0)), .top, .top, (.sr 0 0 1 1 none), .top, .top, (.sr 1 0 3 1 (some 3)), (.d (.int .i64 (3))), (.d (.int .i64 (3))), (.d (.bool false)), .top, .top, .top, .top, .top, .top, .top, .top, .top, .top, .top, .top, .top, .top], [(.arr .str [([98] : List UInt8)] true), (.arr .str [([97] : List UInt8), ([98] : List UInt8), ([99] : List UInt8)] true)]) := Eq.mp (by kernel_rfl) hp2
          have hp1 := turns_step ht1 hs1
          have ht0 : (turn (hds 14 457) 0 457 (evC byref (evCall F S8 (m + 24)) (m + 24) 0 (hds 14) lbu14_0) [(.d (.int .i64 x0)), .top, .top, (.sr 0 0 0 1 none), .top, .top, (.sr 1 0 3 1 (some 3)), (.d (.int .i64 (3))), (.d (.int .i64 (0))), .top, .top, .top, .top, .top, .top, .top, .top, .top, .top, .top, .top, .top, .top, .top] [(.arr .str ([] : List (List UInt8)) true), (.arr .str [([97] : List UInt8), ([98] : List UInt8), ([99] : List UInt8)] true)]).run = some (.normal, [(.d (.int .i64 x0)), .top, .top, (.sr 0 0 0 1 none), .top, .top, (.sr 1 0 3 1 (some 3)), (.d (.int .i64 (3))), (.d (.int .i64 (1))), .top, .top, .top, .top, .top, .top, .top, .top, .top, .top, .top, .top, .top, .top, .top], [(.arr .str ([] : List (List UInt8)) true), (.arr .str [([97] : List UInt8), ([98] : List UInt8), ([99] : List UInt8)] true)]) := M.run_of_path _ [true, true, true, true, true, false] _ _ (by kernel_rfl) (all_t rfl (all_t rfl (all_t rfl (all_t rfl (all_t rfl (all_f c5 all_nil))))))
          have hs0 : (turns (hds 14 457) 0 457 (evC byref (evCall F S8 (m + 24)) (m + 24) 0 (hds 14) lbu14_0) (m + 23) [(.d (.int .i64 x0)), .top, .top, (.sr 0 0 0 1 none), .top, .top, (.sr 1 0 3 1 (some 3)), (.d (.int .i64 (3))), (.d (.int .i64 (1))), .top, .top, .top, .top, .top, .top, .top, .top, .top, .top, .top, .top, .top, .top, .top] [(.arr .str ([] : List (List UInt8)) true), (.arr .str [([97] : List UInt8), ([98] : List UInt8), ([99] : List UInt8)] true)]).run = some (.exit 0, [(.d (.int .i64 x0)), .top, .top, (.sr 0 0 1 1 none), .top, .top, (.sr 1 0 3 1 (some 3)), (.d (.int .i64 (3))), (.d (.int .i64 (3))), (.d (.bool false)), .top, .top, .top, .top, .top, .top, .top, .top, .top, .top, .top, .top, .top, .top], [(.arr .str [([98] : List UInt8)] true), (.arr .str [([97] : List UInt8), ([98] : List UInt8), ([99] : List UInt8)] true)]) := Eq.mp (by kernel_rfl) hp1
          have hp0 := turns_step ht0 hs0
          exact Eq.trans (Eq.mp (by kernel_rfl) hp0) hq
        cases hp
    · skip
      refine ite_cases h (fun c17 h => ?_) (fun c17 h => ?_)
      · skip
        cases h
        refine ⟨(.d (.sl .str [([99] : List UInt8)])), [], runT_ok (LS := (fun k => if k = 457 then some (.exit 0, [(.d (.int .i64 x0)), .top, .top, (.sr 0 0 1 1 none), .top, .top, (.sr 1 0 3 1 (some 3)), (.d (.int .i64 (3))), (.d (.int .i64 (3))), (.d (.bool false)), .top, .top, .top, .top, .top, .top, .top, .top, .top, .top, .top, .top, .top, .top], [(.arr .str [([99] : List UInt8)] true), (.arr .str [([97] : List UInt8), ([98] : List UInt8), ([99] : List UInt8)] true)]) else none)) (fn := fn14) (vis := [(457, [(.d (.int .i64 x0)), .top, .top, (.sr 0 0 0 1 none), .top, .top, (.sr 1 0 3 1 (some 3)), (.d (.int .i64 (3))), (.d (.int .i64 (0))), .top, .top, .top, .top, .top, .top, .top, .top, .top, .top, .top, .top, .top, .top, .top], [(.arr .str ([] : List (List UInt8)) true), (.arr .str [([97] : List UInt8), ([98] : List UInt8), ([99] : List UInt8)] true)])]) (by kernel_rfl) rfl (by kernel_rfl) (M.run_of_path _ [true] _ _ (by kernel_rfl) (all_t rfl all_nil)) ?_, by simp, (wkR.one (wkV.one (wk1.eq rfl))), trivial⟩
        intro p hp p2 hq
        rcases List.mem_cons.1 hp with rfl | hp
        · skip
          have ht3 : (turn (hds 14 457) 0 457 (evC byref (evCall F S8 (m + 24)) (m + 24) 0 (hds 14) lbu14_0) [(.d (.int .i64 x0)), .top, .top, (.sr 0 0 1 1 none), .top, .top, (.sr 1 0 3 1 (some 3)), (.d (.int .i64 (3))), (.d (.int .i64 (3))), .top, .top, .top, .top, .top, .top, .top, .top, .top, .top, .top, .top, .top, .top, .top] [(.arr .str [([99] : List UInt8)] true), (.arr .str [([97] : List UInt8), ([98] : List UInt8), ([99] : List UInt8)] true)]).run = some (.exit 0, [(.d (.int .i64 x0)), .top, .top, (.sr 0 0 1 1 none), .top, .top, (.sr 1 0 3 1 (some 3)), (.d (.int .i64 (3))), (.d (.int .i64 (3))), (.d (.bool false)), .top, .top, .top, .top, .top, .top, .top, .top, .top, .top, .top, .top, .top, .top], [(.arr .str [([99] : List UInt8)] true), (.arr .str [([97] : List UInt8), ([98] : List UInt8), ([99] : List UInt8)] true)]) := M.run_of_path _ [false] _ _ (by kernel_rfl) (all_f Bool.false_ne_true all_nil)
          have hp3 := turns_last (n := m + 20) (by simp) ht3
          have ht2 : (turn (hds 14 457) 0 457 (evC byref (evCall F S8 (m + 24)) (m + 24) 0 (hds 14) lbu14_0) [(.d (.int .i64 x0)), .top, .top, (.sr 0 0 0 1 none), .top, .top, (.sr 1 0 3 1 (some 3)), (.d (.int .i64 (3))), (.d (.int .i64 (2))), .top, .top, .top, .top, .top, .top, .top, .top, .top, .top, .top, .top, .top, .top, .top] [(.arr .str ([] : List (List UInt8)) true), (.arr .str [([97] : List UInt8), ([98] : List UInt8), ([99] : List UInt8)] true)]).run = some (.normal, [(.d (.int .i64 x0)), .top, .top, (.sr 0 0 1 1 none), .top, .top, (.sr 1 0 3 1 (some 3)), (.d (.int .i64 (3))), (.d (.int .i64 (3))), .top, .top, .top, .top, .top, .top, .top, .top, .top, .top, .top, .top, .top, .top, .top], [(.arr .str [([99] : List UInt8)] true), (.arr .str [([97] : List UInt8), ([98] : List UInt8), ([99] : List UInt8)] true)]) := M.run_of_path _ [true, true, true, true, true, true, true, true, true] _ _ (by kernel_rfl) (all_t rfl (all_t rfl (all_t rfl (all_t rfl (all_t rfl (all_t c17 (all_t rfl (all_t rfl (all_t rfl all_nil)))))))))
          have hs2 : (turns (hds 14 457) 0 457 (evC byref (evCall F S8 (m + 24)) (m + 24) 0 (hds 14) lbu14_0) (m + 21) [(.d (.int .i64 x0)), .top, .top, (.sr 0 0 1 1 none), .top, .top, (.sr 1 0 3 1 (some 3)), (.d (.int .i64 (3))), (.d (.int .i64 (3))), .top, .top, .top, .top, .top, .top, .top, .top, .top, .top, .top, .top, .top, .top, .top] [(.arr .str [([99] : List UInt8)] true), (.arr .str [([97] : List UInt8), ([98] : List UInt8), ([99] : List UInt8)] true)]).run = some (.exit 0, [(.d (.int .i64 x0)), .top, .top, (.sr 0 0 1 1 none), .top, .top, (.sr 1 0 3 1 (some 3)), (.d (.int .i64 (3))), (.d (.int .i64 (3))), (.d (.bool false)), .top, .top, .top, .top, .top, .top, .top, .top, .top, .top, .top, .top, .top, .top], [(.arr .str [([99] : List UInt8)] true), (.arr .str [([97] : List UInt8), ([98] : List UInt8), ([99] : List UInt8)] true)]) := Eq.mp (by kernel_rfl) hp3
          have hp2 := turns_step ht2 hs2
          have ht1 : (turn (hds 14 457) 0 457 (evC byref (evCall F S8 (m + 24)) (m + 24) 0 (hds 14) lbu14_0) [(.d (.int .i64 x0)), .top, .top, (.sr 0 0 0 1 none), .top, .top, (.sr 1 0 3 1 (some 3)), (.d (.int .i64 (3))), (.d (.int .i64 (1))), .top, .top, .top, .top, .top, .top, .top, .top, .top, .top, .top, .top, .top, .top, .top] [(.arr .str ([] : List (List UInt8)) true), (.arr .str [([97] : List UInt8), ([98] : List UInt8), ([99] : List UInt8)] true)]).run = some (.normal, [(.d (.int .i64 x0)), .top, .top, (.sr 0 0 0 1 none), .top, .top, (.sr 1 0 3 1 (some 3)), (.d (.int .i64 (3))), (.d (.int .i64 (2))), .top, .top, .top, .top, .top, .top, .top, .top, .top, .top, .top, .top, .top, .top, .top], [(.arr .str ([] : List (List UInt8)) true), (.arr .str [([97] : List UInt8), ([98] : List UInt8), ([99] : List UInt8)] true)]) := M.run_of_path _ [true, true, true, true, true, false] _ _ (by kernel_rfl) (all_t rfl (all_t rfl (all_t rfl (all_t rfl (all_t rfl (all_f c11 all_nil))))))
          have hs1 : (turns (hds 14 457) 0 457 (evC byref (evCall F S8 (m + 24)) (m + 24) 0 (hds 14) lbu14_0) (m + 22) [(.d (.int .i64 x0)), .top, .top, (.sr 0 0 0 1 none), .top, .top, (.sr 1 0 3 1 (some 3)), (.d (.int .i64 (3))), (.d (.int .i64 (2))), .top, .top, .top, .top, .top, .top, .top, .top, .top, .top, .top, .top, .top, .top, .top] [(.arr .str ([] : List (List UInt8)) true), (.arr .str [([97] : List UInt8), ([98] : List UInt8), ([99] : List UInt8)] true)]).run = some (.exit 0, [(.d (.int .i64 x0)), .top, .top, (.sr 0 0 1 1 none), .top, .top, (.sr 1 0 3 1 (some 3)), (.d (.int .i64 (3))), (.d (.int .i64 (3))), (.d (.bool false)), .top, .top, .top, .top, .top, .top, .top, .top, .top, .top, .top, .top, .top, .top], [(.arr .str [([99] : List UInt8)] true), (.arr .str [([97] : List UInt8), ([98] : List UInt8), ([99] : List UInt8)] true)]) := Eq.mp (by kernel_rfl) hp2
          have hp1 := turns_step ht1 hs1
          have ht0 : (turn (hds 14 457) 0 457 (evC byref (evCall F S8 (m + 24)) (m + 24) 0 (hds 14) lbu14_0) [(.d (.int .i64 x0)), .top, .top, (.sr 0 0 0 1 none), .top, .top, (.sr 1 0 3 1 (some 3)), (.d (.int .i64 (3))), (.d (.int .i64 (0))), .top, .top, .top, .top, .top, .top, .top, .top, .top, .top, .top, .top, .top, .top, .top] [(.arr .str ([] : List (List UInt8)) true), (.arr .str [([97] : List UInt8), ([98] : List UInt8), ([99] : List UInt8)] true)]).run = some (.normal, [(.d (.int .i64 x0)), .top, .top, (.sr 0 0 0 1 none), .top, .top, (.sr 1 0 3 1 (some 3)), (.d (.int .i64 (3))), (.d (.int .i64 (1))), .top, .top, .top, .top, .top, .top, .top, .top, .top, .top, .top, .top, .top, .top, .top], [(.arr .str ([] : List (List UInt8)) true), (.arr .str [([97] : List UInt8), ([98] : List UInt8), ([99] : List UInt8)] true)]) := M.run_of_path _ [true, true, true, true, true, false] _ _ (by kernel_rfl) (all_t rfl (all_t rfl (all_t rfl (all_t rfl (all_t rfl (all_f c5 all_nil))))))
          have hs0 : (turns (hds 14 457) 0 457 (evC byref (evCall F S8 (m + 24)) (m + 24) 0 (hds 14) lbu14_0) (m + 23) [(.d (.int .i64 x0)), .top, .top, (.sr 0 0 0 1 none), .top, .top, (.sr 1 0 3 1 (some 3)), (.d (.int .i64 (3))), (.d (.int .i64 (1))), .top, .top, .top, .top, .top, .top, .top, .top, .top, .top, .top, .top, .top, .top, .top] [(.arr .str ([] : List (List UInt8)) true), (.arr .str [([97] : List UInt8), ([98] : List UInt8), ([99] : List UInt8)] true)]).run = some (.exit 0, [(.d (.int .i64 x0)), .top, .top, (.sr 0 0 1 1 none), .top, .top, (.sr 1 0 3 1 (some 3)), (.d (.int .i64 (3))), (.d (.int .i64 (3))), (.d (.bool false)), .top, .top, .top, .top, .top, .top, .top, .top, .top, .top, .top, .top, .top, .top], [(.arr .str [([99] : List UInt8)] true), (.arr .str [([97] : List UInt8), ([98] : List UInt8), ([99] : List UInt8)] true)]) := Eq.mp (by kernel_rfl) hp1
          have hp0 := turns_step ht0 hs0
          exact Eq.trans (Eq.mp (by kernel_rfl) hp0) hq
        cases hp
      · skip
        cases h
        refine ⟨(.d (.sl .str ([] : List (List UInt8)))), [], runT_ok (LS := (fun k => if k = 457 then some (.exit 0, [(.d (.int .i64 x0)), .top, .top, (.sr 0 0 0 1 none), .top, .top, (.sr 1 0 3 1 (some 3)), (.d (.int .i64 (3))), (.d (.int .i64 (3))), (.d (.bool false)), .top, .top, .top, .top, .top, .top, .top, .top, .top, .top, .top, .top, .top, .top], [(.arr .str ([] : List (List UInt8)) true), (.arr .str [([97] : List UInt8), ([98] : List UInt8), ([99] : List UInt8)] true)]) else none)) (fn := fn14) (vis := [(457, [(.d (.int .i64 x0)), .top, .top, (.sr 0 0 0 1 none), .top, .top, (.sr 1 0 3 1 (some 3)), (.d (.int .i64 (3))), (.d (.int .i64 (0))), .top, .top, .top, .top, .top, .top, .top, .top, .top, .top, .top, .top, .top, .top, .top], [(.arr .str ([] : List (List UInt8)) true), (.arr .str [([97] : List UInt8), ([98] : List UInt8), ([99] : List UInt8)] true)])]) (by kernel_rfl) rfl (by kernel_rfl) (M.run_of_path _ [true] _ _ (by kernel_rfl) (all_t rfl all_nil)) ?_, by simp, (wkR.one (wkV.one (wk1.eq rfl))), trivial⟩
        intro p hp p2 hq
        rcases List.mem_cons.1 hp with rfl | hp
        · skip
          have ht3 : (turn (hds 14 457) 0 457 (evC byref (evCall F S8 (m + 24)) (m + 24) 0 (hds 14) lbu14_0) [(.d (.int .i64 x0)), .top, .top, (.sr 0 0 0 1 none), .top, .top, (.sr 1 0 3 1 (some 3)), (.d (.int .i64 (3))), (.d (.int .i64 (3))), .top, .top, .top, .top, .top, .top, .top, .top, .top, .top, .top, .top, .top, .top, .top] [(.arr .str ([] : List (List UInt8)) true), (.arr .str [([97] : List UInt8), ([98] : List UInt8), ([99] : List UInt8)] true)]).run = some (.exit 0, [(.d (.int .i64 x0)), .top, .top, (.sr 0 0 0 1 none), .top, .top, (.sr 1 0 3 1 (some 3)), (.d (.int .i64 (3))), (.d (.int .i64 (3))), (.d (.bool false)), .top, .top, .top, .top, .top, .top, .top, .top, .top, .top, .top, .top, .top, .top], [(.arr .str ([] : List (List UInt8)) true), (.arr .str [([97] : List UInt8), ([98] : List UInt8), ([99] : List UInt8)] true)]) := M.run_of_path _ [false] _ _ (by kernel_rfl) (all_f Bool.false_ne_true all_nil)
          have hp3 := turns_last (n := m + 20) (by simp) ht3
          have ht2 : (turn (hds 14 457) 0 457 (evC byref (evCall F S8 (m + 24)) (m + 24) 0 (hds 14) lbu14_0) [(.d (.int .i64 x0)), .top, .top, (.sr 0 0 0 1 none), .top, .top, (.sr 1 0 3 1 (some 3)), (.d (.int .i64 (3))), (.d (.int .i64 (2))), .top, .top, .top, .top, .top, .top, .top, .top, .top, .top, .top, .top, .top, .top, .top] [(.arr .str ([] : List (List UInt8)) true), (.arr .str [([97] : List UInt8), ([98] : List UInt8), ([99] : List UInt8)] true)]).run = some (.normal, [(.d (.int .i64 x0)), .top, .top, (.sr 0 0 0 1 none), .top, .top, (.sr 1 0 3 1 (some 3)), (.d (.int .i64 (3))), (.d (.int .i64 (3))), .top, .top, .top, .top, .top, .top, .top, .top, .top, .top, .top, .top, .top, .top, .top], [(.arr .str ([] : List (List UInt8)) true), (.arr .str [([97] : List UInt8), ([98] : List UInt8), ([99] : List UInt8)] true)]) := M.run_of_path _ [true, true, true, true, true, false] _ _ (by kernel_rfl) (all_t rfl (all_t rfl (all_t rfl (all_t rfl (all_t rfl (all_f c17 all_nil))))))
          have hs2 : (turns (hds 14 457) 0 457 (evC byref (evCall F S8 (m + 24)) (m + 24) 0 (hds 14) lbu14_0) (m + 21) [(.d (.int .i64 x0)), .top, .top, (.sr 0 0 0 1 none), .top, .top, (.sr 1 0 3 1 (some 3)), (.d (.int .i64 (3))), (.d (.int .i64 (3))), .top, .top, .top, .top, .top, .top, .top, .top, .top, .top, .top, .top, .top, .top, .top] [(.arr .str ([] : List (List UInt8)) true), (.arr .str [([97] : List UInt8), ([98] : List UInt8), ([99] : List UInt8)] true)]).run = some (.exit 0, [(.d (.int .i64 x0)), .top, .top, (.sr 0 0 0 1 none), .top, .top, (.sr 1 0 3 1 (some 3)), (.d (.int .i64 (3))), (.d (.int .i64 (3))), (.d (.bool false)), .top, .top, .top, .top, .top, .top, .top, .top, .top, .top, .top, .top, .top, .top], [(.arr .str ([] : List (List UInt8)) true), (.arr .str [([97] : List UInt8), ([98] : List UInt8), ([99] : List UInt8)] true)]) := Eq.mp (by kernel_rfl) hp3
          have hp2 := turns_step ht2 hs2
          have ht1 : (turn (hds 14 457) 0 457 (evC byref (evCall F S8 (m + 24)) (m + 24) 0 (hds 14) lbu14_0) [(.d (.int .i64 x0)), .top, .top, (.sr 0 0 0 1 none), .top, .top, (.sr 1 0 3 1 (some 3)), (.d (.int .i64 (3))), (.d (.int .i64 (1))), .top, .top, .top, .top, .top, .top, .top, .top, .top, .top, .top, .top, .top, .top, .top] [(.arr .str ([] : List (List UInt8)) true), (.arr .str [([97] : List UInt8), ([98] : List UInt8), ([99] : List UInt8)] true)]).run = some (.normal, [(.d (.int .i64 x0)), .top, .top, (.sr 0 0 0 1 none), .top, .top, (.sr 1 0 3 1 (some 3)), (.d (.int .i64 (3))), (.d (.int .i64 (2))), .top, .top, .top, .top, .top, .top, .top, .top, .top, .top, .top, .top, .top, .top, .top], [(.arr .str ([] : List (List UInt8)) true), (.arr .str [([97] : List UInt8), ([98] : List UInt8), ([99] : List UInt8)] true)]) := M.run_of_path _ [true, true, true, true, true, false] _ _ (by kernel_rfl) (all_t rfl (all_t rfl (all_t rfl (all_t rfl (all_t rfl (all_f c11 all_nil))))))
          have hs1 : (turns (hds 14 457) 0 457 (evC byref (evCall F S8 (m + 24)) (m + 24) 0 (hds 14) lbu14_0) (m + 22) [(.d (.int .i64 x0)), .top, .top, (.sr 0 0 0 1 none), .top, .top, (.sr 1 0 3 1 (some 3)), (.d (.int .i64 (3))), (.d (.int .i64 (2))), .top, .top, .top, .top, .top, .top, .top, .top, .top, .top, .top, .top, .top, .top, .top] [(.arr .str ([] : List (List UInt8)) true), (.arr .str [([97] : List UInt8), ([98] : List UInt8), ([99] : List UInt8)] true)]).run = some (.exit 0, [(.d (.int .i64 x0)), .top, .top, (.sr 0 0 0 1 none), .top, .top, (.sr 1 0 3 1 (some 3)), (.d (.int .i64 (3))), (.d (.int .i64 (3))), (.d (.bool false)), .top, .top, .top, .top, .top, .top, .top, .top, .top, .top, .top, .top, .top, .top], [(.arr .str ([] : List (List UInt8)) true), (.arr .str [([97] : List UInt8), ([98] : List UInt8), ([99] : List UInt8)] true)]) := Eq.mp (by kernel_rfl) hp2
          have hp1 := turns_step ht1 hs1
          have ht0 : (turn (hds 14 457) 0 457 (evC byref (evCall F S8 (m + 24)) (m + 24) 0 (hds 14) lbu14_0) [(.d (.int .i64 x0)), .top, .top, (.sr 0 0 0 1 none), .top, .top, (.sr 1 0 3 1 (some 3)), (.d (.int .i64 (3))), (.d (.int .i64 (0))), .top, .top, .top, .top, .top, .top, .top, .top, .top, .top, .top, .top, .top, .top, .top] [(.arr .str ([] : List (List UInt8)) true), (.arr .str [([97] : List UInt8), ([98] : List UInt8), ([99] : List UInt8)] true)]).run = some (.normal, [(.d (.int .i64 x0)), .top, .top, (.sr 0 0 0 1 none), .top, .top, (.sr 1 0 3 1 (some 3)), (.d (.int .i64 (3))), (.d (.int .i64 (1))), .top, .top, .top, .top, .top, .top, .top, .top, .top, .top, .top, .top, .top, .top, .top], [(.arr .str ([] : List (List UInt8)) true), (.arr .str [([97] : List UInt8), ([98] : List UInt8), ([99] : List UInt8)] true)]) := M.run_of_path _ [true, true, true, true, true, false] _ _ (by kernel_rfl) (all_t rfl (all_t rfl (all_t rfl (all_t rfl (all_t rfl (all_f c5 all_nil))))))
          have hs0 : (turns (hds 14 457) 0 457 (evC byref (evCall F S8 (m + 24)) (m + 24) 0 (hds 14) lbu14_0) (m + 23) [(.d (.int .i64 x0)), .top, .top, (.sr 0 0 0 1 none), .top, .top, (.sr 1 0 3 1 (some 3)), (.d (.int .i64 (3))), (.d (.int .i64 (1))), .top, .top, .top, .top, .top, .top, .top, .top, .top, .top, .top, .top, .top, .top, .top] [(.arr .str ([] : List (List UInt8)) true), (.arr .str [([97] : List UInt8), ([98] : List UInt8), ([99] : List UInt8)] true)]).run = some (.exit 0, [(.d (.int .i64 x0)), .top, .top, (.sr 0 0 0 1 none), .top, .top, (.sr 1 0 3 1 (some 3)), (.d (.int .i64 (3))), (.d (.int .i64 (3))), (.d (.bool false)), .top, .top, .top, .top, .top, .top, .top, .top, .top, .top, .top, .top, .top, .top], [(.arr .str ([] : List (List UInt8)) true), (.arr .str [([97] : List UInt8), ([98] : List UInt8), ([99] : List UInt8)] true)]) := Eq.mp (by kernel_rfl) hp1
          have hp0 := turns_step ht0 hs0
          exact Eq.trans (Eq.mp (by kernel_rfl) hp0) hq
        cases hp

def bitB (n : Int) (k : Nat) : Bool := (IntKind.wrap .i64 ((((BitVec.ofInt 64 (Int.fdiv n (2 ^ k)) &&& BitVec.ofInt 64 (1)).toNat : Nat) : Int))) == (1)
/-- Some of three alerts. -/
def alertsG (n : Int) : TL := (if bitB n 0 then [[97]] else []) ++ (if bitB n 1 then [[98]] else []) ++ (if bitB n 2 then [[99]] else [])
theorem alerts14 (n : Int) (_ : true = true) : ∃ m, p14 m n = some (alertsG n) := by
  refine ⟨0, ?_⟩
  unfold p14 alertsG bitB
  split <;> split <;> split <;> simp_all
def s14 : List AV → Boxes → M (AV × Boxes) := normS [.val (.int .i64)] [] fun xs B => match xs, B with
  | [(.d (.int .i64 c1))], [] => .chk (true) (.ret ((.d (.sl .str (alertsG c1))), []))
  | _, _ => .fail
theorem s14_at : CallAt Try.prog 14 s14 := by
  refine CallAt.norm (CallAt.weakE (g := fun n => evCall F S8 n 14) (fun n => evCall_atH mixed kinds hds S8 S8_ok n 14) fun xs B r' B' hr => ?_) _ _
  split at hr
  · rename_i c1
    obtain ⟨hp, hr⟩ := (M.run_chk _ _ _).1 hr
    simp only [M.run, Option.some.injEq, Prod.mk.injEq] at hr
    obtain ⟨rfl, rfl⟩ := hr
    obtain ⟨m, hm⟩ := alerts14 c1 hp
    obtain ⟨r, B1, h1, h2, h3, h4⟩ := p14_ok m c1 _ hm
    exact ⟨m + 25, r, B1, h1, by simp, h2, h3, h4⟩
  · simp [M.run] at hr
noncomputable def S9 : FuncId → Option (List AV → Boxes → M (AV × Boxes)) := fun f => if f = 14 then some s14 else S8 f
set_option maxHeartbeats 20000000 in
theorem S9_ok : ∀ f s, S9 f = some s → CallAt Try.prog f s := by
  intro f s h
  unfold S9 at h
  split at h
  · rename_i e; subst e; cases h; exact s14_at
  · exact S8_ok f s h

noncomputable def fn17 : AFn := (F 17).getD ⟨0, [], .bad, false, false, noHd⟩
noncomputable def body17 : AC := fn17.body
def l17_0 (m : Nat) : Nat → List (List UInt8) → List (List UInt8) → Int → Option (Nat × Int)
  | 0, _, _, _ => none
  | n + 1, x0, x1, s5 => if decide (s5 < (((List.length x0) : Nat) : Int)) = true then
      if decide (0 ≤ s5) = true then
        if decide (s5 < (((List.length x1) : Nat) : Int)) = true then
          if ((List.getD x0 (Int.toNat s5) ([] : List UInt8)) == (List.getD x1 (Int.toNat s5) ([] : List UInt8))) = true then
            l17_0 m n x0 x1 ((IntKind.wrap .i64 (s5 + (1))))
          else
            some (0, s5)
        else
          none
      else
        none
    else
      some (1, s5)
def l17_0D : Nat × Int := (0, 0)
@[reducible] def l17_0R (m n : Nat) (x0 : List (List UInt8)) (x1 : List (List UInt8)) (s5 : Int) : Nat × Int := Option.getD (l17_0 m n x0 x1 s5) l17_0D
def l17_0H (x0 : List (List UInt8)) (x1 : List (List UInt8)) (s5 : Int) : Env := [(.d (.sl .str x0)), (.d (.sl .str x1)), .top, .top, .top, (.d (.int .i64 s5)), .top, .top, .top, .top, .top, .top, .top, .top, .top, .top, .top, .top, .top, .top, .top, .top, .top, .top, .top, .top]
def l17_0B (x0 : List (List UInt8)) (x1 : List (List UInt8)) (s5 : Int) : Boxes := []
def l17_0E (x0 : List (List UInt8)) (x1 : List (List UInt8)) (s5 : Int) : Nat → AEx × Env × Boxes
  | 0 => (.ret, [(.d (.sl .str x0)), (.d (.sl .str x1)), .top, .top, (.d (.bool false)), (.d (.int .i64 s5)), .top, .top, .top, .top, .top, (.d (.int .i64 s5)), (.d (.sl .str x0)), (.d (.int .i64 (((List.length x0) : Nat) : Int))), (.d (.bool (decide (s5 < (((List.length x0) : Nat) : Int))))), .top, .top, (.d (.sl .str x0)), (.d (.int .i64 s5)), (.cptr [(.str (List.getD x0 (Int.toNat s5) ([] : List UInt8)))] 0), (.d (.str (List.getD x0 (Int.toNat s5) ([] : List UInt8)))), (.d (.sl .str x1)), (.d (.int .i64 s5)), (.cptr [(.str (List.getD x1 (Int.toNat s5) ([] : List UInt8)))] 0), (.d (.str (List.getD x1 (Int.toNat s5) ([] : List UInt8)))), (.d (.bool (!((List.getD x0 (Int.toNat s5) ([] : List UInt8)) == (List.getD x1 (Int.toNat s5) ([] : List UInt8))))))], [.dead, .dead, .dead, .dead, .dead, .dead, .dead, .dead, .dead, .dead, .dead, .dead, .dead, .dead, .dead, .dead, .dead, .dead, .dead, .dead, .dead, .dead, .dead, .dead, .dead, .dead, .dead, .dead, .dead, .dead, .dead, .dead, .dead, .dead, .dead, .dead])
  | _ => (.exit 0, [(.d (.sl .str x0)), (.d (.sl .str x1)), .top, .top, .top, (.d (.int .i64 s5)), .top, .top, .top, .top, .top, (.d (.int .i64 s5)), (.d (.sl .str x0)), (.d (.int .i64 (((List.length x0) : Nat) : Int))), (.d (.bool (decide (s5 < (((List.length x0) : Nat) : Int))))), .top, .top, .top, .top, .top, .top, .top, .top, .top, .top, .top], [])
noncomputable def lbl17_0 : AC := loopBody 35 body17

set_option maxHeartbeats 20000000 in
theorem l17_0_w0 (m n : Nat) (x0 : List (List UInt8)) (x1 : List (List UInt8)) (s5 : Int) (r : AEx × Env × Boxes) (c0 : decide (s5 < (((List.length x0) : Nat) : Int)) = true) (c1 : decide (0 ≤ s5) = true) (c4 : decide (s5 < (((List.length x1) : Nat) : Int)) = true) (c5 : ((List.getD x0 (Int.toNat s5) ([] : List UInt8)) == (List.getD x1 (Int.toNat s5) ([] : List UInt8))) = true) (ih : (turns (hds 17 35) 0 35 (evC byref (evCall F S9 (m + 24)) (m + 24) 0 (hds 17) lbl17_0) n (l17_0H x0 x1 ((IntKind.wrap .i64 (s5 + (1))))) (l17_0B x0 x1 ((IntKind.wrap .i64 (s5 + (1)))))).run = some r) : (turns (hds 17 35) 0 35 (evC byref (evCall F S9 (m + 24)) (m + 24) 0 (hds 17) lbl17_0) (n + 1) (l17_0H x0 x1 s5) (l17_0B x0 x1 s5)).run = some r := by
  exact turns_step (M.run_of_path _ [true, true, true, true, true, false] _ _ (by kernel_rfl) (all_t c0 (all_t c1 (all_t c0 (all_t c1 (all_t c4 (all_nt c5 all_nil))))))) ih
set_option maxHeartbeats 20000000 in
theorem l17_0_w1 (m n : Nat) (x0 : List (List UInt8)) (x1 : List (List UInt8)) (s5 : Int) (c0 : decide (s5 < (((List.length x0) : Nat) : Int)) = true) (c1 : decide (0 ≤ s5) = true) (c4 : decide (s5 < (((List.length x1) : Nat) : Int)) = true) (c5 : ¬ ((List.getD x0 (Int.toNat s5) ([] : List UInt8)) == (List.getD x1 (Int.toNat s5) ([] : List UInt8))) = true) : (turns (hds 17 35) 0 35 (evC byref (evCall F S9 (m + 24)) (m + 24) 0 (hds 17) lbl17_0) (n + 1) (l17_0H x0 x1 s5) (l17_0B x0 x1 s5)).run = some (.ret, [(.d (.sl .str x0)), (.d (.sl .str x1)), .top, .top, (.d (.bool false)), (.d (.int .i64 s5)), .top, .top, .top, .top, .top, (.d (.int .i64 s5)), (.d (.sl .str x0)), (.d (.int .i64 (((List.length x0) : Nat) : Int))), (.d (.bool (decide (s5 < (((List.length x0) : Nat) : Int))))), .top, .top, (.d (.sl .str x0)), (.d (.int .i64 s5)), (.cptr [(.str (List.getD x0 (Int.toNat s5) ([] : List UInt8)))] 0), (.d (.str (List.getD x0 (Int.toNat s5) ([] : List UInt8)))), (.d (.sl .str x1)), (.d (.int .i64 s5)), (.cptr [(.str (List.getD x1 (Int.toNat s5) ([] : List UInt8)))] 0), (.d (.str (List.getD x1 (Int.toNat s5) ([] : List UInt8)))), (.d (.bool (!((List.getD x0 (Int.toNat s5) ([] : List UInt8)) == (List.getD x1 (Int.toNat s5) ([] : List UInt8))))))], [.dead, .dead, .dead, .dead, .dead, .dead, .dead, .dead, .dead, .dead, .dead, .dead, .dead, .dead, .dead, .dead, .dead, .dead, .dead, .dead, .dead, .dead, .dead, .dead, .dead, .dead, .dead, .dead, .dead, .dead, .dead, .dead, .dead, .dead, .dead, .dead]) := by
  exact turns_last (by simp) (M.run_of_path _ [true, true, true, true, true, true] _ _ (by kernel_rfl) (all_t c0 (all_t c1 (all_t c0 (all_t c1 (all_t c4 (all_nf c5 all_nil))))))) 
set_option maxHeartbeats 20000000 in
theorem l17_0_w2 (m n : Nat) (x0 : List (List UInt8)) (x1 : List (List UInt8)) (s5 : Int) (c0 : ¬ decide (s5 < (((List.length x0) : Nat) : Int)) = true) : (turns (hds 17 35) 0 35 (evC byref (evCall F S9 (m + 24)) (m + 24) 0 (hds 17) lbl17_0) (n + 1) (l17_0H x0 x1 s5) (l17_0B x0 x1 s5)).run = some (.exit 0, [(.d (.sl .str x0)), (.d (.sl .str x1)), .top, .top, .top, (.d (.int .i64 s5)), .top, .top, .top, .top, .top, (.d (.int .i64 s5)), (.d (.sl .str x0)), (.d (.int .i64 (((List.length x0) : Nat) : Int))), (.d (.bool (decide (s5 < (((List.length x0) : Nat) : Int))))), .top, .top, .top, .top, .top, .top, .top, .top, .top, .top, .top], []) := by
  exact turns_last (by simp) (M.run_of_path _ [false] _ _ (by kernel_rfl) (all_f c0 all_nil)) 

set_option maxHeartbeats 20000000 in
theorem l17_0_step (m n : Nat) (ih : ∀ (x0 : List (List UInt8)) (x1 : List (List UInt8)) (s5 : Int) (q : Nat × Int), l17_0 m n x0 x1 s5 = some q → (turns (hds 17 35) 0 35 (evC byref (evCall F S9 (m + 24)) (m + 24) 0 (hds 17) lbl17_0) n (l17_0H x0 x1 s5) (l17_0B x0 x1 s5)).run = some (l17_0E (x0) (x1) (q.2) q.1)) (x0 : List (List UInt8)) (x1 : List (List UInt8)) (s5 : Int) (q : Nat × Int) (h : l17_0 m (n + 1) x0 x1 s5 = some q) : (turns (hds 17 35) 0 35 (evC byref (evCall F S9 (m + 24)) (m + 24) 0 (hds 17) lbl17_0) (n + 1) (l17_0H x0 x1 s5) (l17_0B x0 x1 s5)).run = some (l17_0E (x0) (x1) (q.2) q.1) := by
  rw [l17_0] at h
  refine ite_cases h (fun c0 h => ?_) (fun c0 h => ?_)
  · skip
    refine ite_cases h (fun c1 h => ?_) (fun c1 h => ?_)
    · skip
      refine ite_cases h (fun c4 h => ?_) (fun c4 h => ?_)
      · skip
        refine ite_cases h (fun c5 h => ?_) (fun c5 h => ?_)
        · skip
          exact l17_0_w0 m n x0 x1 s5 _ c0 c1 c4 c5 (ih _ _ _ q h)
        · skip
          cases h
          exact l17_0_w1 m n x0 x1 s5 c0 c1 c4 c5
      · skip
        cases h
    · skip
      cases h
  · skip
    cases h
    exact l17_0_w2 m n x0 x1 s5 c0
set_option maxHeartbeats 20000000 in
theorem l17_0_ok (m : Nat) : ∀ (n : Nat) (x0 : List (List UInt8)) (x1 : List (List UInt8)) (s5 : Int) (q : Nat × Int), l17_0 m n x0 x1 s5 = some q → (turns (hds 17 35) 0 35 (evC byref (evCall F S9 (m + 24)) (m + 24) 0 (hds 17) lbl17_0) n (l17_0H x0 x1 s5) (l17_0B x0 x1 s5)).run = some (l17_0E (x0) (x1) (q.2) q.1)
  | 0, x0, x1, s5, q, h => by cases h
  | n + 1, x0, x1, s5, q, h => l17_0_step m n (l17_0_ok m n) x0 x1 s5 q h

def p17 (m : Nat) (x0 : List (List UInt8)) (x1 : List (List UInt8)) : Option (Bool) :=
  if ((((List.length x0) : Nat) : Int) != (((List.length x1) : Nat) : Int)) = true then
    some (false)
  else
    if (Option.isSome (l17_0 m (m + 24) x0 x1 0)) = true then
      if ((l17_0R m (m + 24) x0 x1 0).1 == 0) = true then
        some (false)
      else
        if ((l17_0R m (m + 24) x0 x1 0).1 == 1) = true then
          some (true)
        else
          none
    else
      none
set_option maxHeartbeats 20000000 in
theorem p17_ok (m : Nat) (x0 : List (List UInt8)) (x1 : List (List UInt8)) (q : Bool) (h : p17 m x0 x1 = some q) : ∃ r B1, (evCall F S9 (m + 25) 17 [(.d (.sl .str x0)), (.d (.sl .str x1))] []).run = some (r, B1) ∧ 0 ≤ B1.length ∧ wkR B1 [] r (.d (.bool (q))) ∧ wkBs B1 [] 0 [] := by
  unfold p17 at h
  refine ite_cases h (fun c0 h => ?_) (fun c0 h => ?_)
  · skip
    cases h
    refine ⟨(.d (.bool false)), [], runT_ok (LS := (fun k => none)) (fn := fn17) (vis := []) (by kernel_rfl) rfl (by kernel_rfl) (M.run_of_path _ [true] _ _ (by kernel_rfl) (all_t c0 all_nil)) ?_, by simp, (wkR.one (wkV.one (wk1.eq rfl))), trivial⟩
    intro p hp; cases hp
  · skip
    refine ite_cases h (fun c1 h => ?_) (fun c1 h => ?_)
    · skip
      refine ite_cases h (fun c2 h => ?_) (fun c2 h => ?_)
      · skip
        cases h
        refine ⟨(.d (.bool false)), [], runT_ok (LS := (fun k => if k = 35 then some (l17_0E x0 x1 ((l17_0R m (m + 24) x0 x1 0).2) 0) else none)) (fn := fn17) (vis := [(35, l17_0H x0 x1 0, l17_0B x0 x1 0)]) (by kernel_rfl) rfl (by kernel_rfl) (M.run_of_path _ [false] _ _ (by kernel_rfl) (all_f c0 all_nil)) ?_, by simp, (wkR.one (wkV.one (wk1.eq rfl))), trivial⟩
        intro p hp p2 hq
        rcases List.mem_cons.1 hp with rfl | hp
        · skip
          have h3 := l17_0_ok m (m + 24) x0 x1 0 _ (some_getD (d := l17_0D) c1)
          rw [eq_of_beq c2] at h3
          exact Eq.trans (Eq.mp (by kernel_rfl) h3) hq
        cases hp
      · skip
        refine ite_cases h (fun c3 h => ?_) (fun c3 h => ?_)
        · skip
          cases h
          refine ⟨(.d (.bool true)), [], runT_ok (LS := (fun k => if k = 35 then some (l17_0E x0 x1 ((l17_0R m (m + 24) x0 x1 0).2) 1) else none)) (fn := fn17) (vis := [(35, l17_0H x0 x1 0, l17_0B x0 x1 0)]) (by kernel_rfl) rfl (by kernel_rfl) (M.run_of_path _ [false] _ _ (by kernel_rfl) (all_f c0 all_nil)) ?_, by simp, (wkR.one (wkV.one (wk1.eq rfl))), trivial⟩
          intro p hp p2 hq
          rcases List.mem_cons.1 hp with rfl | hp
          · skip
            have h3 := l17_0_ok m (m + 24) x0 x1 0 _ (some_getD (d := l17_0D) c1)
            rw [eq_of_beq c3] at h3
            exact Eq.trans (Eq.mp (by kernel_rfl) h3) hq
          cases hp
        · skip
          cases h
    · skip
      cases h

theorem eq17_loop (m : Nat) (a b : List (List UInt8)) (hl : a.length = b.length) (hb : a.length < 4611686018427387904) : ∀ n k, k ≤ a.length → a.length - k < n → ∃ j, l17_0 m n a b (k : Nat) = some (if a.drop k == b.drop k then 1 else 0, j)
  | 0, k, _, h => by omega
  | n + 1, k, hk, hn => by
    rw [l17_0]
    by_cases h : k < a.length
    · skip
      have e1 : decide (((k : Nat) : Int) < ((a.length : Nat) : Int)) = true := decide_eq_true (by omega)
      have e2 : decide ((0 : Int) ≤ ((k : Nat) : Int)) = true := decide_eq_true (by omega)
      have e3 : decide (((k : Nat) : Int) < ((b.length : Nat) : Int)) = true := decide_eq_true (by omega)
      simp only [e1, e2, e3, if_true, Int.toNat_natCast]
      rw [drop_getD a k ([] : List UInt8) h, drop_getD b k ([] : List UInt8) (by omega)]
      have ew : IntKind.wrap .i64 (((k : Nat) : Int) + (1)) = ((k + 1 : Nat) : Int) := by rw [wrap_id (by omega) (by omega)]; rfl
      rw [ew]
      obtain ⟨j, hj⟩ := eq17_loop m a b hl hb n (k + 1) (by omega) (by omega)
      have hc : ((a.getD k ([] : List UInt8)) :: a.drop (k + 1) == (b.getD k ([] : List UInt8)) :: b.drop (k + 1)) = (((a.getD k ([] : List UInt8)) == (b.getD k ([] : List UInt8))) && (a.drop (k + 1) == b.drop (k + 1))) := rfl
      rw [hc]
      rcases Bool.eq_false_or_eq_true ((a.getD k ([] : List UInt8)) == (b.getD k ([] : List UInt8))) with he | he
      · exact ⟨j, by simp only [he, hj]; simp⟩
      · exact ⟨(k : Nat), by simp only [he]; simp⟩
    · have e1 : decide (((k : Nat) : Int) < ((a.length : Nat) : Int)) = false := decide_eq_false (by omega)
      refine ⟨(k : Nat), ?_⟩
      simp only [e1, Bool.false_eq_true, if_false]
      rw [List.drop_eq_nil_of_le (by omega), List.drop_eq_nil_of_le (by omega)]
      rfl
theorem eq17 (a b : List (List UInt8)) (h : decide (List.length a < 4611686018427387904) = true) : ∃ m, p17 m a b = some (a == b) := by
  have hb := of_decide_eq_true h
  refine ⟨a.length, ?_⟩
  unfold p17 l17_0R
  by_cases hl : a.length = b.length
  · have e0 : ((((List.length a) : Nat) : Int) != (((List.length b) : Nat) : Int)) = false := by simp [hl]
    obtain ⟨j, hj⟩ := eq17_loop a.length a b hl hb (a.length + 24) 0 (by omega) (by omega)
    simp only [Int.natCast_zero, List.drop_zero] at hj
    rw [e0]
    simp only [Bool.false_eq_true, if_false]
    rw [hj]
    cases hab : a == b <;> simp [hab]
  · have e0 : ((((List.length a) : Nat) : Int) != (((List.length b) : Nat) : Int)) = true := by simp; omega
    rw [e0]
    have : (a == b) = false := by
      rw [beq_eq_false_iff_ne]
      intro e; rw [e] at hl; exact hl rfl
    simp [this]
def s17 : List AV → Boxes → M (AV × Boxes) := normS [.val (.sl .str), .val (.sl .str)] [] fun xs B => match xs, B with
  | [(.d (.sl .str c1)), (.d (.sl .str c2))], [] => .chk (decide (List.length c1 < 4611686018427387904)) (.ret ((.d (.bool ((show List (List UInt8) from c1) == c2))), []))
  | _, _ => .fail
theorem s17_at : CallAt Try.prog 17 s17 := by
  refine CallAt.norm (CallAt.weakE (g := fun n => evCall F S9 n 17) (fun n => evCall_atH mixed kinds hds S9 S9_ok n 17) fun xs B r' B' hr => ?_) _ _
  split at hr
  · rename_i c1 c2
    obtain ⟨hp, hr⟩ := (M.run_chk _ _ _).1 hr
    simp only [M.run, Option.some.injEq, Prod.mk.injEq] at hr
    obtain ⟨rfl, rfl⟩ := hr
    obtain ⟨m, hm⟩ := eq17 c1 c2 hp
    obtain ⟨r, B1, h1, h2, h3, h4⟩ := p17_ok m c1 c2 _ hm
    exact ⟨m + 25, r, B1, h1, by simp, h2, h3, h4⟩
  · simp [M.run] at hr
noncomputable def S10 : FuncId → Option (List AV → Boxes → M (AV × Boxes)) := fun f => if f = 17 then some s17 else S9 f
set_option maxHeartbeats 20000000 in
theorem S10_ok : ∀ f s, S10 f = some s → CallAt Try.prog f s := by
  intro f s h
  unfold S10 at h
  split at h
  · rename_i e; subst e; cases h; exact s17_at
  · exact S9_ok f s h

end Go.Proofs.Ytkppbflmlpabjab.Dec
namespace Go.Proofs.Ytkppbflmlpabjab.Dec
open Go.Ev
set_option linter.unusedVariables false
set_option linter.unusedSimpArgs false
set_option maxRecDepth 100000
noncomputable def fn23 : AFn := (F 23).getD ⟨0, [], .bad, false, false, noHd⟩
noncomputable def body23 : AC := fn23.body
def l23_0 (m : Nat) : Nat → List UInt8 → Int → List (List UInt8) → Option (Nat × Int × (List (List UInt8)))
  | 0, _, _, _ => none
  | n + 1, x1, s6, b0 => if decide (s6 < (((List.length b0) : Nat) : Int)) = true then
      if decide (0 ≤ s6) = true then
        if decide ((0 + (Int.toNat s6)) < (List.length b0)) = true then
          l23_0 m n x1 ((IntKind.wrap .i64 (s6 + (1)))) ((List.set b0 (0 + (Int.toNat s6)) x1))
        else
          none
      else
        none
    else
      some (0, s6, b0)
def l23_0D : Nat × Int × (List (List UInt8)) := (0, 0, [])
@[reducible] def l23_0R (m n : Nat) (x1 : List UInt8) (s6 : Int) (b0 : List (List UInt8)) : Nat × Int × (List (List UInt8)) := Option.getD (l23_0 m n x1 s6 b0) l23_0D
def l23_0H (x1 : List UInt8) (s6 : Int) (b0 : List (List UInt8)) : Env := [.top, (.d (.str x1)), .top, .top, .top, (.sr 0 0 (List.length b0) 1 none), (.d (.int .i64 s6)), .top, .top, .top, .top, .top, .top, .top, .top, .top, .top, .top, .top, .top, .top, .top, .top, .top, .top, .top, .top]
def l23_0B (x1 : List UInt8) (s6 : Int) (b0 : List (List UInt8)) : Boxes := [(.arr .str b0 true)]
def l23_0E (x1 : List UInt8) (s6 : Int) (b0 : List (List UInt8)) : Nat → AEx × Env × Boxes
  | _ => (.exit 0, [.top, (.d (.str x1)), .top, .top, .top, (.sr 0 0 (List.length b0) 1 none), (.d (.int .i64 s6)), .top, .top, .top, .top, .top, .top, .top, .top, .top, (.d (.int .i64 s6)), (.sr 0 0 (List.length b0) 1 none), (.d (.int .i64 (((List.length b0) : Nat) : Int))), (.d (.bool (decide (s6 < (((List.length b0) : Nat) : Int))))), .top, .top, .top, .top, .top, .top, .top], [(.arr .str b0 true)])
noncomputable def lbl23_0 : AC := loopBody 98 body23

set_option maxHeartbeats 20000000 in
theorem l23_0_w0 (m n : Nat) (x1 : List UInt8) (s6 : Int) (b0 : List (List UInt8)) (r : AEx × Env × Boxes) (c0 : decide (s6 < (((List.length b0) : Nat) : Int)) = true) (c1 : decide (0 ≤ s6) = true) (c3 : decide ((0 + (Int.toNat s6)) < (List.length b0)) = true) (ih : (turns (hds 23 98) 0 98 (evC byref (evCall F S10 (m + 24)) (m + 24) 0 (hds 23) lbl23_0) n (l23_0H x1 ((IntKind.wrap .i64 (s6 + (1)))) ((List.set b0 (0 + (Int.toNat s6)) x1))) (l23_0B x1 ((IntKind.wrap .i64 (s6 + (1)))) ((List.set b0 (0 + (Int.toNat s6)) x1)))).run = some r) : (turns (hds 23 98) 0 98 (evC byref (evCall F S10 (m + 24)) (m + 24) 0 (hds 23) lbl23_0) (n + 1) (l23_0H x1 s6 b0) (l23_0B x1 s6 b0)).run = some r := by
  have ht : (turn (hds 23 98) 0 98 (evC byref (evCall F S10 (m + 24)) (m + 24) 0 (hds 23) lbl23_0) (l23_0H x1 s6 b0) (l23_0B x1 s6 b0)).run = some (.normal, [.top, (.d (.str x1)), .top, .top, .top, (.sr 0 0 (List.length b0) 1 none), (.d (.int .i64 (IntKind.wrap .i64 (s6 + (1))))), .top, .top, .top, .top, .top, .top, .top, .top, .top, .top, .top, .top, .top, .top, .top, .top, .top, .top, .top, .top], [(.arr .str (List.set b0 (0 + (Int.toNat s6)) x1) true)]) := M.run_of_path _ [true, true, true, true] _ _ (by kernel_rfl) (all_t c0 (all_t c1 (all_t c0 (all_t c3 all_nil))))
  refine turns_step ht (turns_eq ?_ ?_ ih)
  · unfold l23_0H
    simp
  · unfold l23_0B
    simp
set_option maxHeartbeats 20000000 in
theorem l23_0_w1 (m n : Nat) (x1 : List UInt8) (s6 : Int) (b0 : List (List UInt8)) (c0 : ¬ decide (s6 < (((List.length b0) : Nat) : Int)) = true) : (turns (hds 23 98) 0 98 (evC byref (evCall F S10 (m + 24)) (m + 24) 0 (hds 23) lbl23_0) (n + 1) (l23_0H x1 s6 b0) (l23_0B x1 s6 b0)).run = some (.exit 0, [.top, (.d (.str x1)), .top, .top, .top, (.sr 0 0 (List.length b0) 1 none), (.d (.int .i64 s6)), .top, .top, .top, .top, .top, .top, .top, .top, .top, (.d (.int .i64 s6)), (.sr 0 0 (List.length b0) 1 none), (.d (.int .i64 (((List.length b0) : Nat) : Int))), (.d (.bool (decide (s6 < (((List.length b0) : Nat) : Int))))), .top, .top, .top, .top, .top, .top, .top], [(.arr .str b0 true)]) := by
  exact turns_last (by simp) (M.run_of_path _ [false] _ _ (by kernel_rfl) (all_f c0 all_nil)) 

set_option maxHeartbeats 20000000 in
theorem l23_0_step (m n : Nat) (ih : ∀ (x1 : List UInt8) (s6 : Int) (b0 : List (List UInt8)) (q : Nat × Int × (List (List UInt8))), l23_0 m n x1 s6 b0 = some q → (turns (hds 23 98) 0 98 (evC byref (evCall F S10 (m + 24)) (m + 24) 0 (hds 23) lbl23_0) n (l23_0H x1 s6 b0) (l23_0B x1 s6 b0)).run = some (l23_0E (x1) (q.2.1) (q.2.2) q.1)) (x1 : List UInt8) (s6 : Int) (b0 : List (List UInt8)) (q : Nat × Int × (List (List UInt8))) (h : l23_0 m (n + 1) x1 s6 b0 = some q) : (turns (hds 23 98) 0 98 (evC byref (evCall F S10 (m + 24)) (m + 24) 0 (hds 23) lbl23_0) (n + 1) (l23_0H x1 s6 b0) (l23_0B x1 s6 b0)).run = some (l23_0E (x1) (q.2.1) (q.2.2) q.1) := by
  rw [l23_0] at h
  refine ite_cases h (fun c0 h => ?_) (fun c0 h => ?_)
  · skip
    refine ite_cases h (fun c1 h => ?_) (fun c1 h => ?_)
    · skip
      refine ite_cases h (fun c3 h => ?_) (fun c3 h => ?_)
      · skip
        exact l23_0_w0 m n x1 s6 b0 _ c0 c1 c3 (ih _ _ _ q h)
      · skip
        cases h
    · skip
      cases h
  · skip
    cases h
    exact l23_0_w1 m n x1 s6 b0 c0
set_option maxHeartbeats 20000000 in
theorem l23_0_ok (m : Nat) : ∀ (n : Nat) (x1 : List UInt8) (s6 : Int) (b0 : List (List UInt8)) (q : Nat × Int × (List (List UInt8))), l23_0 m n x1 s6 b0 = some q → (turns (hds 23 98) 0 98 (evC byref (evCall F S10 (m + 24)) (m + 24) 0 (hds 23) lbl23_0) n (l23_0H x1 s6 b0) (l23_0B x1 s6 b0)).run = some (l23_0E (x1) (q.2.1) (q.2.2) q.1)
  | 0, x1, s6, b0, q, h => by cases h
  | n + 1, x1, s6, b0, q, h => l23_0_step m n (l23_0_ok m n) x1 s6 b0 q h

def p23 (m : Nat) (x0 : List (List UInt8)) (x1 : List UInt8) : Option ((List (List UInt8))) :=
  if (decide (0 ≤ (IntKind.wrap .i64 ((((List.length x0) : Nat) : Int) + (80)))) && decide ((IntKind.wrap .i64 ((((List.length x0) : Nat) : Int) + (80))) ≤ (IntKind.wrap .i64 ((((List.length x0) : Nat) : Int) + (80))))) = true then
    if (decide (((IntKind.wrap .i64 ((((List.length x0) : Nat) : Int) + (80))) * 16) ≤ 70368744177664) && decide ((IntKind.wrap .i64 ((((List.length x0) : Nat) : Int) + (80))) ≤ 70368744177664)) = true then
      if decide (0 ≤ (List.length (List.replicate (Int.toNat (IntKind.wrap .i64 ((((List.length x0) : Nat) : Int) + (80)))) ([] : List UInt8)))) = true then
        if decide ((min (List.length x0) (Int.toNat (IntKind.wrap .i64 ((((List.length x0) : Nat) : Int) + (80))))) ≤ (List.length x0)) = true then
          if (Option.isSome (l23_0 m (m + 24) x1 ((((List.length x0) : Nat) : Int)) ((splice (List.replicate (Int.toNat (IntKind.wrap .i64 ((((List.length x0) : Nat) : Int) + (80)))) ([] : List UInt8)) 0 (List.take (min (List.length x0) (Int.toNat (IntKind.wrap .i64 ((((List.length x0) : Nat) : Int) + (80))))) x0))))) = true then
            some ((List.take (List.length (l23_0R m (m + 24) x1 ((((List.length x0) : Nat) : Int)) ((splice (List.replicate (Int.toNat (IntKind.wrap .i64 ((((List.length x0) : Nat) : Int) + (80)))) ([] : List UInt8)) 0 (List.take (min (List.length x0) (Int.toNat (IntKind.wrap .i64 ((((List.length x0) : Nat) : Int) + (80))))) x0)))).2.2) (List.drop 0 (l23_0R m (m + 24) x1 ((((List.length x0) : Nat) : Int)) ((splice (List.replicate (Int.toNat (IntKind.wrap .i64 ((((List.length x0) : Nat) : Int) + (80)))) ([] : List UInt8)) 0 (List.take (min (List.length x0) (Int.toNat (IntKind.wrap .i64 ((((List.length x0) : Nat) : Int) + (80))))) x0)))).2.2)))
          else
            none
        else
          none
      else
        none
    else
      none
  else
    none
set_option maxHeartbeats 20000000 in
theorem p23_ok (m : Nat) (x0 : List (List UInt8)) (x1 : List UInt8) (q : (List (List UInt8))) (h : p23 m x0 x1 = some q) : ∃ r B1, (evCall F S10 (m + 25) 23 [(.d (.sl .str x0)), (.d (.str x1))] []).run = some (r, B1) ∧ 0 ≤ B1.length ∧ wkR B1 [] r (.d (.sl .str q)) ∧ wkBs B1 [] 0 [] := by
  unfold p23 at h
  refine ite_cases h (fun c0 h => ?_) (fun c0 h => ?_)
  · skip
    refine ite_cases h (fun c1 h => ?_) (fun c1 h => ?_)
    · skip
      refine ite_cases h (fun c2 h => ?_) (fun c2 h => ?_)
      · skip
        refine ite_cases h (fun c3 h => ?_) (fun c3 h => ?_)
        · skip
          refine ite_cases h (fun c4 h => ?_) (fun c4 h => ?_)
          · skip
            cases h
            refine ⟨(.d (.sl .str (List.take (List.length (l23_0R m (m + 24) x1 ((((List.length x0) : Nat) : Int)) ((splice (List.replicate (Int.toNat (IntKind.wrap .i64 ((((List.length x0) : Nat) : Int) + (80)))) ([] : List UInt8)) 0 (List.take (min (List.length x0) (Int.toNat (IntKind.wrap .i64 ((((List.length x0) : Nat) : Int) + (80))))) x0)))).2.2) (List.drop 0 (l23_0R m (m + 24) x1 ((((List.length x0) : Nat) : Int)) ((splice (List.replicate (Int.toNat (IntKind.wrap .i64 ((((List.length x0) : Nat) : Int) + (80)))) ([] : List UInt8)) 0 (List.take (min (List.length x0) (Int.toNat (IntKind.wrap .i64 ((((List.length x0) : Nat) : Int) + (80))))) x0)))).2.2)))), [], runT_ok (LS := (fun k => if k = 98 then some (l23_0E x1 ((l23_0R m (m + 24) x1 ((((List.length x0) : Nat) : Int)) ((splice (List.replicate (Int.toNat (IntKind.wrap .i64 ((((List.length x0) : Nat) : Int) + (80)))) ([] : List UInt8)) 0 (List.take (min (List.length x0) (Int.toNat (IntKind.wrap .i64 ((((List.length x0) : Nat) : Int) + (80))))) x0)))).2.1) ((l23_0R m (m + 24) x1 ((((List.length x0) : Nat) : Int)) ((splice (List.replicate (Int.toNat (IntKind.wrap .i64 ((((List.length x0) : Nat) : Int) + (80)))) ([] : List UInt8)) 0 (List.take (min (List.length x0) (Int.toNat (IntKind.wrap .i64 ((((List.length x0) : Nat) : Int) + (80))))) x0)))).2.2) 0) else none)) (fn := fn23) (vis := [(98, [.top, (.d (.str x1)), .top, .top, .top, (.sr 0 0 (Int.toNat (IntKind.wrap .i64 ((((List.length x0) : Nat) : Int) + (80)))) 1 none), (.d (.int .i64 (((List.length x0) : Nat) : Int))), .top, .top, .top, .top, .top, .top, .top, .top, .top, .top, .top, .top, .top, .top, .top, .top, .top, .top, .top, .top], [(.arr .str (splice (List.replicate (Int.toNat (IntKind.wrap .i64 ((((List.length x0) : Nat) : Int) + (80)))) ([] : List UInt8)) 0 (List.take (min (List.length x0) (Int.toNat (IntKind.wrap .i64 ((((List.length x0) : Nat) : Int) + (80))))) x0)) true)])]) (by kernel_rfl) rfl (by kernel_rfl) (M.run_of_path _ [true, true, true, true, true] _ _ (by kernel_rfl) (all_t c0 (all_t c1 (all_t c2 (all_t c3 (all_t (show decide ((0 + (List.length (l23_0R m (m + 24) x1 ((((List.length x0) : Nat) : Int)) ((splice (List.replicate (Int.toNat (IntKind.wrap .i64 ((((List.length x0) : Nat) : Int) + (80)))) ([] : List UInt8)) 0 (List.take (min (List.length x0) (Int.toNat (IntKind.wrap .i64 ((((List.length x0) : Nat) : Int) + (80))))) x0)))).2.2)) ≤ (List.length (l23_0R m (m + 24) x1 ((((List.length x0) : Nat) : Int)) ((splice (List.replicate (Int.toNat (IntKind.wrap .i64 ((((List.length x0) : Nat) : Int) + (80)))) ([] : List UInt8)) 0 (List.take (min (List.length x0) (Int.toNat (IntKind.wrap .i64 ((((List.length x0) : Nat) : Int) + (80))))) x0)))).2.2)) = true from decide_eq_true (Nat.le_of_eq (Nat.zero_add _))) all_nil)))))) ?_, by simp, (wkR.one (wkV.one (wk1.eq rfl))), trivial⟩
            intro p hp p2 hq
            rcases List.mem_cons.1 hp with rfl | hp
            · skip
              have h3 := l23_0_ok m (m + 24) x1 ((((List.length x0) : Nat) : Int)) ((splice (List.replicate (Int.toNat (IntKind.wrap .i64 ((((List.length x0) : Nat) : Int) + (80)))) ([] : List UInt8)) 0 (List.take (min (List.length x0) (Int.toNat (IntKind.wrap .i64 ((((List.length x0) : Nat) : Int) + (80))))) x0))) _ (some_getD (d := l23_0D) c4)
              have h3 := turns_eq (e := [.top, (.d (.str x1)), .top, .top, .top, (.sr 0 0 (Int.toNat (IntKind.wrap .i64 ((((List.length x0) : Nat) : Int) + (80)))) 1 none), (.d (.int .i64 (((List.length x0) : Nat) : Int))), .top, .top, .top, .top, .top, .top, .top, .top, .top, .top, .top, .top, .top, .top, .top, .top, .top, .top, .top, .top]) (B := [(.arr .str (splice (List.replicate (Int.toNat (IntKind.wrap .i64 ((((List.length x0) : Nat) : Int) + (80)))) ([] : List UInt8)) 0 (List.take (min (List.length x0) (Int.toNat (IntKind.wrap .i64 ((((List.length x0) : Nat) : Int) + (80))))) x0)) true)]) (by unfold l23_0H; (try rw [show (List.length (splice (List.replicate (Int.toNat (IntKind.wrap .i64 ((((List.length x0) : Nat) : Int) + (80)))) ([] : List UInt8)) 0 (List.take (min (List.length x0) (Int.toNat (IntKind.wrap .i64 ((((List.length x0) : Nat) : Int) + (80))))) x0))) = (Int.toNat (IntKind.wrap .i64 ((((List.length x0) : Nat) : Int) + (80)))) from by simp [splice] <;> omega])) rfl h3
              exact Eq.trans (Eq.mp (by kernel_rfl) h3) hq
            cases hp
          · skip
            cases h
        · skip
          cases h
      · skip
        cases h
    · skip
      cases h
  · skip
    cases h

/-- A list with room behind it. -/
def troomyG (l : TL) (z : List UInt8) : TL := l ++ List.replicate 80 z
theorem troomy_loop (m : Nat) (z : List UInt8) : ∀ (n : Nat) (pre post : TL), post.length < n → pre.length + post.length ≤ 2000000 → ∃ j, l23_0 m n z ((pre.length : Nat) : Int) (pre ++ post) = some (0, j, pre ++ List.replicate post.length z)
  | 0, pre, post, h, _ => by omega
  | n + 1, pre, [], h, hb => by
    rw [l23_0]
    have e1 : decide (((pre.length : Nat) : Int) < (((List.length (pre ++ [])) : Nat) : Int)) = false := decide_eq_false (by simp)
    rw [e1, if_neg (by simp)]
    exact ⟨_, rfl⟩
  | n + 1, pre, x :: post, h, hb => by
    rw [l23_0]
    simp only [List.length_cons] at h hb
    have e1 : decide (((pre.length : Nat) : Int) < (((List.length (pre ++ x :: post)) : Nat) : Int)) = true := decide_eq_true (by simp; omega)
    have e2 : decide ((0 : Int) ≤ ((pre.length : Nat) : Int)) = true := decide_eq_true (by omega)
    have e3 : decide ((0 + pre.length) < (List.length (pre ++ x :: post))) = true := decide_eq_true (by simp)
    have e7 : IntKind.wrap .i64 (((pre.length : Nat) : Int) + (1)) = (((pre ++ [z]).length : Nat) : Int) := by rw [wrap_id (by omega) (by omega)]; simp
    have e8 : (pre ++ x :: post).set (0 + pre.length) z = (pre ++ [z]) ++ post := by simp
    rw [show Int.toNat ((pre.length : Nat) : Int) = pre.length from rfl, e7, e8, if_pos e1, if_pos e2, if_pos e3]
    obtain ⟨j, hj⟩ := troomy_loop m z n (pre ++ [z]) post (by omega) (by simp; omega)
    exact ⟨j, by rw [hj]; simp [List.replicate_succ]⟩
theorem troomy23 (l : TL) (z : List UInt8) (h : decide (l.length ≤ 1000000) = true) : ∃ m, p23 m l z = some (troomyG l z) := by
  have h := of_decide_eq_true h
  refine ⟨100, ?_⟩
  have ew : IntKind.wrap .i64 ((((List.length l) : Nat) : Int) + (80)) = ((l.length + 80 : Nat) : Int) := by rw [wrap_id (by omega) (by omega)]; rfl
  have et : Int.toNat ((l.length + 80 : Nat) : Int) = l.length + 80 := rfl
  have em : min (List.length l) (l.length + 80) = l.length := by omega
  have es : splice (List.replicate (l.length + 80) ([] : List UInt8)) 0 (List.take l.length l) = l ++ List.replicate 80 ([] : List UInt8) := by
    simp [splice, List.drop_replicate]
  obtain ⟨j, hj⟩ := troomy_loop 100 z (100 + 24) l (List.replicate 80 ([] : List UInt8)) (by simp) (by simp; omega)
  simp only [List.length_replicate] at hj
  have e1 : (decide ((0 : Int) ≤ ((l.length + 80 : Nat) : Int)) && decide (((l.length + 80 : Nat) : Int) ≤ ((l.length + 80 : Nat) : Int))) = true := by simp; omega
  have e2 : (decide ((((l.length + 80 : Nat) : Int) * 16) ≤ 70368744177664) && decide (((l.length + 80 : Nat) : Int) ≤ 70368744177664)) = true := by simp; omega
  have e3 : decide (0 ≤ (List.length (List.replicate (l.length + 80) ([] : List UInt8)))) = true := decide_eq_true (by omega)
  have e4 : decide (l.length ≤ l.length) = true := decide_eq_true (by omega)
  unfold p23 l23_0R troomyG
  generalize List.replicate 80 z = R at *
  simp only [ew, et, em, es, e1, e2, e3, e4, hj, Option.isSome_some, Option.getD_some, ↓reduceIte]
  rw [List.drop_zero, List.take_length]
  all_goals rfl
def s23 : List AV → Boxes → M (AV × Boxes) := normS [.val (.sl .str), .val .str] [] fun xs B => match xs, B with
  | [(.d (.sl .str c1)), (.d (.str c2))], [] => .chk (decide (List.length c1 ≤ 1000000)) (.ret ((.d (.sl .str (troomyG c1 c2))), []))
  | _, _ => .fail
theorem s23_at : CallAt Try.prog 23 s23 := by
  refine CallAt.norm (CallAt.weakE (g := fun n => evCall F S10 n 23) (fun n => evCall_atH mixed kinds hds S10 S10_ok n 23) fun xs B r' B' hr => ?_) _ _
  split at hr
  · rename_i c1 c2
    obtain ⟨hp, hr⟩ := (M.run_chk _ _ _).1 hr
    simp only [M.run, Option.some.injEq, Prod.mk.injEq] at hr
    obtain ⟨rfl, rfl⟩ := hr
    obtain ⟨m, hm⟩ := troomy23 c1 c2 hp
    obtain ⟨r, B1, h1, h2, h3, h4⟩ := p23_ok m c1 c2 _ hm
    exact ⟨m + 25, r, B1, h1, by simp, h2, h3, h4⟩
  · simp [M.run] at hr
noncomputable def S11 : FuncId → Option (List AV → Boxes → M (AV × Boxes)) := fun f => if f = 23 then some s23 else S10 f
set_option maxHeartbeats 20000000 in
theorem S11_ok : ∀ f s, S11 f = some s → CallAt Try.prog f s := by
  intro f s h
  unfold S11 at h
  split at h
  · rename_i e; subst e; cases h; exact s23_at
  · exact S10_ok f s h

noncomputable def fn25 : AFn := (F 25).getD ⟨0, [], .bad, false, false, noHd⟩
noncomputable def body25 : AC := fn25.body
def l25_0 (m : Nat) : Nat → List (List UInt8) → List UInt8 → Int → Option (Nat × Int)
  | 0, _, _, _ => none
  | n + 1, x0, x2, s7 => if decide (s7 < (((List.length x0) : Nat) : Int)) = true then
      if decide (0 ≤ s7) = true then
        if ((List.getD x0 (Int.toNat s7) ([] : List UInt8)) == x2) = true then
          l25_0 m n x0 x2 ((IntKind.wrap .i64 (s7 + (1))))
        else
          some (0, s7)
      else
        none
    else
      some (1, s7)
def l25_0D : Nat × Int := (0, 0)
@[reducible] def l25_0R (m n : Nat) (x0 : List (List UInt8)) (x2 : List UInt8) (s7 : Int) : Nat × Int := Option.getD (l25_0 m n x0 x2 s7) l25_0D
def l25_0H (x0 : List (List UInt8)) (x2 : List UInt8) (s7 : Int) : Env := [(.d (.sl .str x0)), .top, (.d (.str x2)), .top, .top, .top, .top, (.d (.int .i64 s7)), .top, .top, .top, .top, .top, .top, .top, .top, .top, .top, .top, .top, .top, .top, .top, .top, .top, .top, .top, .top, .top, .top, .top, .top, .top, .top, .top, .top, .top]
def l25_0B (x0 : List (List UInt8)) (x2 : List UInt8) (s7 : Int) : Boxes := []
def l25_0E (x0 : List (List UInt8)) (x2 : List UInt8) (s7 : Int) : Nat → AEx × Env × Boxes
  | 0 => (.ret, [(.d (.sl .str x0)), .top, (.d (.str x2)), .top, .top, .top, (.d (.bool false)), (.d (.int .i64 s7)), .top, .top, .top, .top, .top, .top, .top, .top, .top, .top, .top, .top, .top, .top, .top, .top, .top, (.d (.int .i64 s7)), (.d (.sl .str x0)), (.d (.int .i64 (((List.length x0) : Nat) : Int))), (.d (.bool (decide (s7 < (((List.length x0) : Nat) : Int))))), .top, .top, (.d (.sl .str x0)), (.d (.int .i64 s7)), (.cptr [(.str (List.getD x0 (Int.toNat s7) ([] : List UInt8)))] 0), (.d (.str (List.getD x0 (Int.toNat s7) ([] : List UInt8)))), (.d (.str x2)), (.d (.bool (!((List.getD x0 (Int.toNat s7) ([] : List UInt8)) == x2))))], [])
  | _ => (.exit 0, [(.d (.sl .str x0)), .top, (.d (.str x2)), .top, .top, .top, .top, (.d (.int .i64 s7)), .top, .top, .top, .top, .top, .top, .top, .top, .top, .top, .top, .top, .top, .top, .top, .top, .top, (.d (.int .i64 s7)), (.d (.sl .str x0)), (.d (.int .i64 (((List.length x0) : Nat) : Int))), (.d (.bool (decide (s7 < (((List.length x0) : Nat) : Int))))), .top, .top, .top, .top, .top, .top, .top, .top], [])
noncomputable def lbl25_0 : AC := loopBody 133 body25

set_option maxHeartbeats 20000000 in
theorem l25_0_w0 (m n : Nat) (x0 : List (List UInt8)) (x2 : List UInt8) (s7 : Int) (r : AEx × Env × Boxes) (c0 : decide (s7 < (((List.length x0) : Nat) : Int)) = true) (c1 : decide (0 ≤ s7) = true) (c3 : ((List.getD x0 (Int.toNat s7) ([] : List UInt8)) == x2) = true) (ih : (turns (hds 25 133) 0 133 (evC byref (evCall F S11 (m + 24)) (m + 24) 0 (hds 25) lbl25_0) n (l25_0H x0 x2 ((IntKind.wrap .i64 (s7 + (1))))) (l25_0B x0 x2 ((IntKind.wrap .i64 (s7 + (1)))))).run = some r) : (turns (hds 25 133) 0 133 (evC byref (evCall F S11 (m + 24)) (m + 24) 0 (hds 25) lbl25_0) (n + 1) (l25_0H x0 x2 s7) (l25_0B x0 x2 s7)).run = some r := by
  exact turns_step (M.run_of_path _ [true, true, true, false] _ _ (by kernel_rfl) (all_t c0 (all_t c1 (all_t c0 (all_nt c3 all_nil))))) ih
set_option maxHeartbeats 20000000 in
theorem l25_0_w1 (m n : Nat) (x0 : List (List UInt8)) (x2 : List UInt8) (s7 : Int) (c0 : decide (s7 < (((List.length x0) : Nat) : Int)) = true) (c1 : decide (0 ≤ s7) = true) (c3 : ¬ ((List.getD x0 (Int.toNat s7) ([] : List UInt8)) == x2) = true) : (turns (hds 25 133) 0 133 (evC byref (evCall F S11 (m + 24)) (m + 24) 0 (hds 25) lbl25_0) (n + 1) (l25_0H x0 x2 s7) (l25_0B x0 x2 s7)).run = some (.ret, [(.d (.sl .str x0)), .top, (.d (.str x2)), .top, .top, .top, (.d (.bool false)), (.d (.int .i64 s7)), .top, .top, .top, .top, .top, .top, .top, .top, .top, .top, .top, .top, .top, .top, .top, .top, .top, (.d (.int .i64 s7)), (.d (.sl .str x0)), (.d (.int .i64 (((List.length x0) : Nat) : Int))), (.d (.bool (decide (s7 < (((List.length x0) : Nat) : Int))))), .top, .top, (.d (.sl .str x0)), (.d (.int .i64 s7)), (.cptr [(.str (List.getD x0 (Int.toNat s7) ([] : List UInt8)))] 0), (.d (.str (List.getD x0 (Int.toNat s7) ([] : List UInt8)))), (.d (.str x2)), (.d (.bool (!((List.getD x0 (Int.toNat s7) ([] : List UInt8)) == x2))))], []) := by
  exact turns_last (by simp) (M.run_of_path _ [true, true, true, true] _ _ (by kernel_rfl) (all_t c0 (all_t c1 (all_t c0 (all_nf c3 all_nil))))) 
set_option maxHeartbeats 20000000 in
theorem l25_0_w2 (m n : Nat) (x0 : List (List UInt8)) (x2 : List UInt8) (s7 : Int) (c0 : ¬ decide (s7 < (((List.length x0) : Nat) : Int)) = true) : (turns (hds 25 133) 0 133 (evC byref (evCall F S11 (m + 24)) (m + 24) 0 (hds 25) lbl25_0) (n + 1) (l25_0H x0 x2 s7) (l25_0B x0 x2 s7)).run = some (.exit 0, [(.d (.sl .str x0)), .top, (.d (.str x2)), .top, .top, .top, .top, (.d (.int .i64 s7)), .top, .top, .top, .top, .top, .top, .top, .top, .top, .top, .top, .top, .top, .top, .top, .top, .top, (.d (.int .i64 s7)), (.d (.sl .str x0)), (.d (.int .i64 (((List.length x0) : Nat) : Int))), (.d (.bool (decide (s7 < (((List.length x0) : Nat) : Int))))), .top, .top, .top, .top, .top, .top, .top, .top], []) := by
  exact turns_last (by simp) (M.run_of_path _ [false] _ _ (by kernel_rfl) (all_f c0 all_nil)) 

set_option maxHeartbeats 20000000 in
theorem l25_0_step (m n : Nat) (ih : ∀ (x0 : List (List UInt8)) (x2 : List UInt8) (s7 : Int) (q : Nat × Int), l25_0 m n x0 x2 s7 = some q → (turns (hds 25 133) 0 133 (evC byref (evCall F S11 (m + 24)) (m + 24) 0 (hds 25) lbl25_0) n (l25_0H x0 x2 s7) (l25_0B x0 x2 s7)).run = some (l25_0E (x0) (x2) (q.2) q.1)) (x0 : List (List UInt8)) (x2 : List UInt8) (s7 : Int) (q : Nat × Int) (h : l25_0 m (n + 1) x0 x2 s7 = some q) : (turns (hds 25 133) 0 133 (evC byref (evCall F S11 (m + 24)) (m + 24) 0 (hds 25) lbl25_0) (n + 1) (l25_0H x0 x2 s7) (l25_0B x0 x2 s7)).run = some (l25_0E (x0) (x2) (q.2) q.1) := by
  rw [l25_0] at h
  refine ite_cases h (fun c0 h => ?_) (fun c0 h => ?_)
  · skip
    refine ite_cases h (fun c1 h => ?_) (fun c1 h => ?_)
    · skip
      refine ite_cases h (fun c3 h => ?_) (fun c3 h => ?_)
      · skip
        exact l25_0_w0 m n x0 x2 s7 _ c0 c1 c3 (ih _ _ _ q h)
      · skip
        cases h
        exact l25_0_w1 m n x0 x2 s7 c0 c1 c3
    · skip
      cases h
  · skip
    cases h
    exact l25_0_w2 m n x0 x2 s7 c0
set_option maxHeartbeats 20000000 in
theorem l25_0_ok (m : Nat) : ∀ (n : Nat) (x0 : List (List UInt8)) (x2 : List UInt8) (s7 : Int) (q : Nat × Int), l25_0 m n x0 x2 s7 = some q → (turns (hds 25 133) 0 133 (evC byref (evCall F S11 (m + 24)) (m + 24) 0 (hds 25) lbl25_0) n (l25_0H x0 x2 s7) (l25_0B x0 x2 s7)).run = some (l25_0E (x0) (x2) (q.2) q.1)
  | 0, x0, x2, s7, q, h => by cases h
  | n + 1, x0, x2, s7, q, h => l25_0_step m n (l25_0_ok m n) x0 x2 s7 q h

def p25 (m : Nat) (x0 : List (List UInt8)) (x1 : List (List UInt8)) (x2 : List UInt8) : Option (Bool) :=
  if ((((List.length x0) : Nat) : Int) != (IntKind.wrap .i64 ((((List.length x1) : Nat) : Int) + (80)))) = true then
    some (false)
  else
    if (decide (0 ≤ (((List.length x1) : Nat) : Int)) && decide ((((List.length x1) : Nat) : Int) ≤ (((List.length x0) : Nat) : Int))) = true then
      if decide (List.length (List.drop 0 (List.take (Int.toNat (((List.length x1) : Nat) : Int)) x0)) < 4611686018427387904) = true then
        if ((show List (List UInt8) from (List.drop 0 (List.take (Int.toNat (((List.length x1) : Nat) : Int)) x0))) == x1) = true then
          if (Option.isSome (l25_0 m (m + 24) x0 x2 ((((List.length x1) : Nat) : Int)))) = true then
            if ((l25_0R m (m + 24) x0 x2 ((((List.length x1) : Nat) : Int))).1 == 0) = true then
              some (false)
            else
              if ((l25_0R m (m + 24) x0 x2 ((((List.length x1) : Nat) : Int))).1 == 1) = true then
                some (true)
              else
                none
          else
            none
        else
          some (false)
      else
        none
    else
      none
set_option maxHeartbeats 20000000 in
theorem p25_ok (m : Nat) (x0 : List (List UInt8)) (x1 : List (List UInt8)) (x2 : List UInt8) (q : Bool) (h : p25 m x0 x1 x2 = some q) : ∃ r B1, (evCall F S11 (m + 25) 25 [(.d (.sl .str x0)), (.d (.sl .str x1)), (.d (.str x2))] []).run = some (r, B1) ∧ 0 ≤ B1.length ∧ wkR B1 [] r (.d (.bool (q))) ∧ wkBs B1 [] 0 [] := by
  unfold p25 at h
  refine ite_cases h (fun c0 h => ?_) (fun c0 h => ?_)
  · skip
    cases h
    refine ⟨(.d (.bool false)), [], runT_ok (LS := (fun k => none)) (fn := fn25) (vis := []) (by kernel_rfl) rfl (by kernel_rfl) (M.run_of_path _ [true, true, true, true, true, true, true, true, true] _ _ (by kernel_rfl) (all_t c0 (all_t c0 (all_t c0 (all_t c0 (all_t c0 (all_t c0 (all_t c0 (all_t c0 (all_t rfl all_nil)))))))))) ?_, by simp, (wkR.one (wkV.one (wk1.eq rfl))), trivial⟩
    intro p hp; cases hp
  · skip
    refine ite_cases h (fun c4 h => ?_) (fun c4 h => ?_)
    · skip
      refine ite_cases h (fun c7 h => ?_) (fun c7 h => ?_)
      · skip
        refine ite_cases h (fun c10 h => ?_) (fun c10 h => ?_)
        · skip
          refine ite_cases h (fun c11 h => ?_) (fun c11 h => ?_)
          · skip
            refine ite_cases h (fun c12 h => ?_) (fun c12 h => ?_)
            · skip
              cases h
              refine ⟨(.d (.bool false)), [], runT_ok (LS := (fun k => if k = 133 then some (l25_0E x0 x2 ((l25_0R m (m + 24) x0 x2 ((((List.length x1) : Nat) : Int))).2) 0) else none)) (fn := fn25) (vis := [(133, l25_0H x0 x2 ((((List.length x1) : Nat) : Int)), l25_0B x0 x2 ((((List.length x1) : Nat) : Int)))]) (by kernel_rfl) rfl (by kernel_rfl) (M.run_of_path _ [false, false, false, false, true, false, false, true, false, false, false] _ _ (by kernel_rfl) (all_f c0 (all_f c0 (all_f c0 (all_f c0 (all_t c4 (all_f c0 (all_f c0 (all_t c7 (all_f c0 (all_f c0 (all_nt c10 all_nil)))))))))))) ?_, by simp, (wkR.one (wkV.one (wk1.eq rfl))), trivial⟩
              intro p hp p2 hq
              rcases List.mem_cons.1 hp with rfl | hp
              · skip
                have h3 := l25_0_ok m (m + 24) x0 x2 ((((List.length x1) : Nat) : Int)) _ (some_getD (d := l25_0D) c11)
                rw [eq_of_beq c12] at h3
                exact Eq.trans (Eq.mp (by kernel_rfl) h3) hq
              cases hp
            · skip
              refine ite_cases h (fun c13 h => ?_) (fun c13 h => ?_)
              · skip
                cases h
                refine ⟨(.d (.bool true)), [], runT_ok (LS := (fun k => if k = 133 then some (l25_0E x0 x2 ((l25_0R m (m + 24) x0 x2 ((((List.length x1) : Nat) : Int))).2) 1) else none)) (fn := fn25) (vis := [(133, l25_0H x0 x2 ((((List.length x1) : Nat) : Int)), l25_0B x0 x2 ((((List.length x1) : Nat) : Int)))]) (by kernel_rfl) rfl (by kernel_rfl) (M.run_of_path _ [false, false, false, false, true, false, false, true, false, false, false] _ _ (by kernel_rfl) (all_f c0 (all_f c0 (all_f c0 (all_f c0 (all_t c4 (all_f c0 (all_f c0 (all_t c7 (all_f c0 (all_f c0 (all_nt c10 all_nil)))))))))))) ?_, by simp, (wkR.one (wkV.one (wk1.eq rfl))), trivial⟩
                intro p hp p2 hq
                rcases List.mem_cons.1 hp with rfl | hp
                · skip
                  have h3 := l25_0_ok m (m + 24) x0 x2 ((((List.length x1) : Nat) : Int)) _ (some_getD (d := l25_0D) c11)
                  rw [eq_of_beq c13] at h3
                  exact Eq.trans (Eq.mp (by kernel_rfl) h3) hq
                cases hp
              · skip
                cases h
          · skip
            cases h
        · skip
          cases h
          refine ⟨(.d (.bool false)), [], runT_ok (LS := (fun k => none)) (fn := fn25) (vis := []) (by kernel_rfl) rfl (by kernel_rfl) (M.run_of_path _ [false, false, false, false, true, false, false, true, false, false, true] _ _ (by kernel_rfl) (all_f c0 (all_f c0 (all_f c0 (all_f c0 (all_t c4 (all_f c0 (all_f c0 (all_t c7 (all_f c0 (all_f c0 (all_nf c10 all_nil)))))))))))) ?_, by simp, (wkR.one (wkV.one (wk1.eq rfl))), trivial⟩
          intro p hp; cases hp
      · skip
        cases h
    · skip
      cases h

/-- Is such a list as it was? -/
def tintactG (f was : TL) (z : List UInt8) : Bool := decide (f = was ++ List.replicate 80 z)
theorem tintact_loop (m : Nat) (f : TL) (z : List UInt8) (hb : f.length ≤ 1000000) : ∀ (n k : Nat), k ≤ f.length → f.length - k < n → ∃ j, l25_0 m n f z ((k : Nat) : Int) = some (if f.drop k = List.replicate (f.length - k) z then 1 else 0, j)
  | 0, k, _, h => by omega
  | n + 1, k, h1, h2 => by
    rw [l25_0]
    by_cases hk : k < f.length
    · have e1 : decide (((k : Nat) : Int) < (((List.length f) : Nat) : Int)) = true := decide_eq_true (by omega)
      have e2 : decide ((0 : Int) ≤ ((k : Nat) : Int)) = true := decide_eq_true (by omega)
      have e7 : IntKind.wrap .i64 (((k : Nat) : Int) + (1)) = ((k + 1 : Nat) : Int) := by rw [wrap_id (by omega) (by omega)]; rfl
      rw [drop_getD f k ([] : List UInt8) hk, e7, if_pos e1, if_pos e2, show f.length - k = (f.length - (k + 1)) + 1 by omega, List.replicate_succ, show Int.toNat ((k : Nat) : Int) = k from rfl]
      by_cases hc : f.getD k ([] : List UInt8) = z
      · have e3 : (f.getD k ([] : List UInt8) == z) = true := by rw [hc]; simp
        rw [if_pos e3]
        obtain ⟨j, hj⟩ := tintact_loop m f z hb n (k + 1) (by omega) (by omega)
        refine ⟨j, ?_⟩
        rw [hj]
        have hc' : (f.getD k ([] : List UInt8) :: f.drop (k + 1) = z :: List.replicate (f.length - (k + 1)) z) = (f.drop (k + 1) = List.replicate (f.length - (k + 1)) z) := by rw [List.cons.injEq]; simp only [hc, true_and]
        simp only [hc']
      · have e3 : ¬ (f.getD k ([] : List UInt8) == z) = true := by simpa using hc
        rw [if_neg e3, if_neg (by simp only [List.cons.injEq, hc, false_and, not_false_eq_true])]
        exact ⟨_, rfl⟩
    · have e1 : decide (((k : Nat) : Int) < (((List.length f) : Nat) : Int)) = false := decide_eq_false (by omega)
      rw [e1, if_neg (by simp), List.drop_eq_nil_of_le (by omega), show f.length - k = 0 by omega]
      exact ⟨_, rfl⟩
theorem tintact25 (f was : TL) (z : List UInt8) (h : decide (f.length ≤ 1000000 ∧ was.length ≤ 1000000) = true) : ∃ m, p25 m f was z = some (tintactG f was z) := by
  have ⟨h, hw⟩ := of_decide_eq_true h
  refine ⟨f.length, ?_⟩
  unfold p25 l25_0R tintactG
  by_cases hl : f.length = was.length + 80
  · have ew : IntKind.wrap .i64 ((((List.length was) : Nat) : Int) + (80)) = (((List.length f) : Nat) : Int) := by rw [wrap_id (by omega) (by omega)]; omega
    have e1 : (decide ((0 : Int) ≤ (((List.length was) : Nat) : Int)) && decide ((((List.length was) : Nat) : Int) ≤ (((List.length f) : Nat) : Int))) = true := by simp; omega
    have e2 : decide (List.length (List.drop 0 (List.take was.length f)) < 4611686018427387904) = true := decide_eq_true (by simp; omega)
    have e3 : ((((List.length f) : Nat) : Int) != (((List.length f) : Nat) : Int)) = false := by simp
    obtain ⟨j, hj⟩ := tintact_loop f.length f z h (f.length + 24) was.length (by omega) (by omega)
    rw [show f.length - was.length = 80 by omega] at hj
    have split : f = was ++ List.replicate 80 z ↔ f.take was.length = was ∧ f.drop was.length = List.replicate 80 z := by
      constructor
      · intro e; rw [e]; simp
      · rintro ⟨q1, q2⟩; rw [← q1, ← q2] ; simp
    have hno0 : f.take was.length ≠ was → ¬ f = was ++ List.replicate 80 z := fun q e => q (split.1 e).1
    generalize List.replicate 80 z = R at *
    rw [show Int.toNat ((was.length : Nat) : Int) = was.length from rfl, ew]
    simp only [e1, e2, e3, hj, Option.isSome_some, Option.getD_some, ↓reduceIte, Bool.false_eq_true]
    by_cases q1 : f.take was.length = was
    · by_cases q2 : f.drop was.length = R
      · simp [split, q1, q2]
      · simp [split, q1, q2]
    · simp [split, q1]
  · have ew : ((((List.length f) : Nat) : Int) != IntKind.wrap .i64 ((((List.length was) : Nat) : Int) + (80))) = true := by
      rw [wrap_id (by omega) (by omega)]; simp; omega
    have hno : ¬ f = was ++ List.replicate 80 z := fun e => hl (by rw [e]; simp)
    generalize List.replicate 80 z = R at *
    rw [if_pos ew]
    simp [hno]
def s25 : List AV → Boxes → M (AV × Boxes) := normS [.val (.sl .str), .val (.sl .str), .val .str] [] fun xs B => match xs, B with
  | [(.d (.sl .str c1)), (.d (.sl .str c2)), (.d (.str c3))], [] => .chk (decide (List.length c1 ≤ 1000000 ∧ List.length c2 ≤ 1000000)) (.ret ((.d (.bool (tintactG c1 c2 c3))), []))
  | _, _ => .fail
theorem s25_at : CallAt Try.prog 25 s25 := by
  refine CallAt.norm (CallAt.weakE (g := fun n => evCall F S11 n 25) (fun n => evCall_atH mixed kinds hds S11 S11_ok n 25) fun xs B r' B' hr => ?_) _ _
  split at hr
  · rename_i c1 c2 c3
    obtain ⟨hp, hr⟩ := (M.run_chk _ _ _).1 hr
    simp only [M.run, Option.some.injEq, Prod.mk.injEq] at hr
    obtain ⟨rfl, rfl⟩ := hr
    obtain ⟨m, hm⟩ := tintact25 c1 c2 c3 hp
    obtain ⟨r, B1, h1, h2, h3, h4⟩ := p25_ok m c1 c2 c3 _ hm
    exact ⟨m + 25, r, B1, h1, by simp, h2, h3, h4⟩
  · simp [M.run] at hr
noncomputable def S12 : FuncId → Option (List AV → Boxes → M (AV × Boxes)) := fun f => if f = 25 then some s25 else S11 f
set_option maxHeartbeats 20000000 in
theorem S12_ok : ∀ f s, S12 f = some s → CallAt Try.prog f s := by
  intro f s h
  unfold S12 at h
  split at h
  · rename_i e; subst e; cases h; exact s25_at
  · exact S11_ok f s h

end Go.Proofs.Ytkppbflmlpabjab.Dec
namespace Go.Proofs.Ytkppbflmlpabjab.Dec
open Go.Ev
set_option linter.unusedVariables false
set_option linter.unusedSimpArgs false
set_option maxRecDepth 100000
theorem runs19 : Known Try.prog 19 [] (.d (.bool true)) := known mixed (kinds := kinds) (n := 300) S2_ok (by kernel_rfl)
def trueG : List D → M AV
  | [] => .ret (.d (.bool true))
  | _ => .fail
theorem true19 : CallAt Try.prog 19 (plainV trueG) := by
  refine plainV_at fun ds r hr => ?_
  unfold trueG at hr
  split at hr
  · simp only [M.run, Option.some.injEq] at hr
    subst hr
    exact runs19
  · simp [M.run] at hr

noncomputable def S13 : FuncId → Option (List AV → Boxes → M (AV × Boxes)) := fun f => if f = 19 then some (plainV trueG) else S12 f
set_option maxHeartbeats 20000000 in
theorem S13_ok : ∀ f s, S13 f = some s → CallAt Try.prog f s := by
  intro f s h
  unfold S13 at h
  split at h
  · rename_i e; subst e; cases h; exact true19
  · exact S12_ok f s h

end Go.Proofs.Ytkppbflmlpabjab.Dec
