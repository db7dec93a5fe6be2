/- What the functions below call. No condition. Add, Sum, Up. Same of ints. Roomy, Intact. NumRuns, reckoned. NumSums, as a plain function. -/
import Derived.Test.YtkppbflmlpabjaaQ4
import Derived.Test.YtkppbflmlpabjaaProg
import Derived.KernelRfl
namespace Go.Proofs.Ytkppbflmlpabjaa.Dec
open Go.Ev
set_option linter.unusedVariables false
set_option linter.unusedSimpArgs false
set_option maxRecDepth 100000
theorem mixed : Try.prog.follows .mixedOrders = true := by kernel_rfl
instance ctx : Ctx := ⟨fun t e => t = .int .u8 → e = 5, fun _ => False, fun _ => True, fun _ _ _ h => h⟩
instance tagOK : TagOK Try.prog := tagOK_of (u := 5) (fun _ _ => Iff.rfl) (by kernel_rfl)

def kinds : FuncId → Bool × Bool := fun _ => (true, false)
def hds : FuncId → Nat → Hd := fun f => noHd
@[reducible] noncomputable def F := fnsH Try.prog kinds hds
@[reducible] noncomputable def byref : FuncId → Bool := fun g => match F g with | some h => h.byref | none => false
noncomputable def S0 : FuncId → Option (List AV → Boxes → M (AV × Boxes)) := fun _ => none
set_option maxHeartbeats 20000000 in
theorem S0_ok : ∀ f s, S0 f = some s → CallAt Try.prog f s := fun f s h => by cases h
theorem some_getD {α : Type} {o : Option α} {d : α} (h : o.isSome = true) : o = some (o.getD d) := by
  cases o with
  | none => cases h
  | some a => rfl
theorem ite_cases {c : Prop} [Decidable c] {α : Type} {a b : Option α} {q : α} {G : Prop} (h : (if c then a else b) = some q) (h1 : c → a = some q → G) (h2 : ¬ c → b = some q → G) : G := by
  by_cases hc : c
  · rw [if_pos hc] at h; exact h1 hc h
  · rw [if_neg hc] at h; exact h2 hc h
theorem all_t {c : Bool} {l : List Bool} (h : c = true) (h2 : l.all id = true) : ((c == true) :: l).all id = true := by subst h; simpa using h2
theorem all_f {c : Bool} {l : List Bool} (h : ¬ c = true) (h2 : l.all id = true) : ((c == false) :: l).all id = true := by
  cases c with
  | false => simpa using h2
  | true => exact absurd rfl h
theorem turns_eq {h : Hd} {k0 keep : Nat} {f : LoopG} {n : Nat} {e e2 : Env} {B B2 : Boxes} {r : Option (AEx × Env × Boxes)} (h1 : e = e2) (h2 : B = B2) (h3 : (turns h k0 keep f n e2 B2).run = r) : (turns h k0 keep f n e B).run = r := by
  subst h1; subst h2; exact h3
theorem all_nil : ([] : List Bool).all id = true := rfl
theorem all_nt {c : Bool} {l : List Bool} (h : c = true) (h2 : l.all id = true) : (((!c) == false) :: l).all id = true := by subst h; simpa using h2
theorem all_nf {c : Bool} {l : List Bool} (h : ¬ c = true) (h2 : l.all id = true) : (((!c) == true) :: l).all id = true := by
  cases c with
  | false => simpa using h2
  | true => exact absurd rfl h
theorem all_nnt {c : Bool} {l : List Bool} (h : c = true) (h2 : l.all id = true) : (((!(!c)) == true) :: l).all id = true := by subst h; simpa using h2
theorem all_nnf {c : Bool} {l : List Bool} (h : ¬ c = true) (h2 : l.all id = true) : (((!(!c)) == false) :: l).all id = true := by
  cases c with
  | false => simpa using h2
  | true => exact absurd rfl h

noncomputable def S1 : FuncId → Option (List AV → Boxes → M (AV × Boxes)) := fun f => if f = 22 then some withinS else S0 f
set_option maxHeartbeats 20000000 in
theorem S1_ok : ∀ f s, S1 f = some s → CallAt Try.prog f s := by
  intro f s h
  unfold S1 at h
  split at h
  · rename_i e; subst e; cases h; exact (within_at mixed (kinds := kinds) (by kernel_rfl))
  · exact S0_ok f s h

end Go.Proofs.Ytkppbflmlpabjaa.Dec
namespace Go.Proofs.Ytkppbflmlpabjaa.Dec
open Go.Ev
set_option linter.unusedVariables false
set_option linter.unusedSimpArgs false
set_option maxRecDepth 100000
noncomputable def fn15 : AFn := (F 15).getD ⟨0, [], .bad, false, false, noHd⟩
noncomputable def body15 : AC := fn15.body
def p15 (m : Nat) (x0 : Int) (x1 : Int) : Option (Int × Int) :=
  if (decide ((IntKind.wrap .i64 (x0 + x1)) > x0) == decide (x1 > 0)) = true then
    some ((IntKind.wrap .i64 (x0 + x1)), (0))
  else
    if (x1 != (0)) = true then
      some ((0), (3))
    else
      some ((IntKind.wrap .i64 (x0 + x1)), (0))
set_option maxHeartbeats 20000000 in
theorem p15_ok (m : Nat) (x0 : Int) (x1 : Int) (q : Int × Int) (h : p15 m x0 x1 = some q) : ∃ r B1, (evCall F S1 (m + 25) 15 [(.d (.int .i64 x0)), (.d (.int .i64 x1))] []).run = some (r, B1) ∧ 0 ≤ B1.length ∧ wkR B1 [] r (.tup [(.d (.int .i64 q.1)), (.d (.int .i64 q.2))]) ∧ wkBs B1 [] 0 [] := by
  unfold p15 at h
  refine ite_cases h (fun c0 h => ?_) (fun c0 h => ?_)
  · skip
    cases h
    refine ⟨(.tup [(.d (.int .i64 (IntKind.wrap .i64 (x0 + x1)))), (.d (.int .i64 (0)))]), [], runT_ok (LS := (fun k => none)) (fn := fn15) (vis := []) (by kernel_rfl) rfl (by kernel_rfl) (M.run_of_path _ [false, false, false, false] _ _ (by kernel_rfl) (all_nt c0 (all_nt c0 (all_nt c0 (all_f Bool.false_ne_true all_nil))))) ?_, by simp, (wkR.tup (wkVs.cons (wkV.one (wk1.eq rfl)) (wkVs.cons (wkV.one (wk1.eq rfl)) wkVs.nil))), trivial⟩
    intro p hp; cases hp
  · skip
    refine ite_cases h (fun c3 h => ?_) (fun c3 h => ?_)
    · skip
      cases h
      refine ⟨(.tup [(.d (.int .i64 (0))), (.d (.int .i64 (3)))]), [], runT_ok (LS := (fun k => none)) (fn := fn15) (vis := []) (by kernel_rfl) rfl (by kernel_rfl) (M.run_of_path _ [true, true, true, true] _ _ (by kernel_rfl) (all_nf c0 (all_nf c0 (all_nf c0 (all_t c3 all_nil))))) ?_, by simp, (wkR.tup (wkVs.cons (wkV.one (wk1.eq rfl)) (wkVs.cons (wkV.one (wk1.eq rfl)) wkVs.nil))), trivial⟩
      intro p hp; cases hp
    · skip
      cases h
      refine ⟨(.tup [(.d (.int .i64 (IntKind.wrap .i64 (x0 + x1)))), (.d (.int .i64 (0)))]), [], runT_ok (LS := (fun k => none)) (fn := fn15) (vis := []) (by kernel_rfl) rfl (by kernel_rfl) (M.run_of_path _ [true, true, true, false] _ _ (by kernel_rfl) (all_nf c0 (all_nf c0 (all_nf c0 (all_f c3 all_nil))))) ?_, by simp, (wkR.tup (wkVs.cons (wkV.one (wk1.eq rfl)) (wkVs.cons (wkV.one (wk1.eq rfl)) wkVs.nil))), trivial⟩
      intro p hp; cases hp

/-- The machine's addition: a number, or an error. -/
def naddG (a b : Int) : Int × Int := if (decide ((IntKind.wrap .i64 (a + b)) > a) == decide (b > 0)) = true then (IntKind.wrap .i64 (a + b), 0) else if (b != 0) = true then (0, 3) else (IntKind.wrap .i64 (a + b), 0)
theorem nadd15 (a b : Int) (_ : true = true) : ∃ m, p15 m a b = some (naddG a b) := by
  refine ⟨0, ?_⟩
  unfold p15 naddG
  split
  · rfl
  · split <;> rfl
def s15 : List AV → Boxes → M (AV × Boxes) := normS [.val (.int .i64), .val (.int .i64)] [] fun xs B => match xs, B with
  | [(.d (.int .i64 c1)), (.d (.int .i64 c2))], [] => .chk (true) (.ret ((.tup [(.d (.int .i64 (naddG c1 c2).1)), (.d (.int .i64 (naddG c1 c2).2))]), []))
  | _, _ => .fail
theorem s15_at : CallAt Try.prog 15 s15 := by
  refine CallAt.norm (CallAt.weakE (g := fun n => evCall F S1 n 15) (fun n => evCall_atH mixed kinds hds S1 S1_ok n 15) fun xs B r' B' hr => ?_) _ _
  split at hr
  · rename_i c1 c2
    obtain ⟨hp, hr⟩ := (M.run_chk _ _ _).1 hr
    simp only [M.run, Option.some.injEq, Prod.mk.injEq] at hr
    obtain ⟨rfl, rfl⟩ := hr
    obtain ⟨m, hm⟩ := nadd15 c1 c2 hp
    obtain ⟨r, B1, h1, h2, h3, h4⟩ := p15_ok m c1 c2 _ hm
    exact ⟨m + 25, r, B1, h1, by simp, h2, h3, h4⟩
  · simp [M.run] at hr
noncomputable def S2 : FuncId → Option (List AV → Boxes → M (AV × Boxes)) := fun f => if f = 15 then some s15 else S1 f
set_option maxHeartbeats 20000000 in
theorem S2_ok : ∀ f s, S2 f = some s → CallAt Try.prog f s := by
  intro f s h
  unfold S2 at h
  split at h
  · rename_i e; subst e; cases h; exact s15_at
  · exact S1_ok f s h

noncomputable def fn21 : AFn := (F 21).getD ⟨0, [], .bad, false, false, noHd⟩
noncomputable def body21 : AC := fn21.body
def p21 (m : Nat) (x0 : Int) (x1 : Int) : Option (Int × Bool) :=
  if decide (x0 > 0) = true then
    if decide (x1 > 0) = true then
      if decide ((IntKind.wrap .i64 (x0 + x1)) < 0) = true then
        some ((0), false)
      else
        if decide (x0 < 0) = true then
          if decide (x1 < 0) = true then
            if decide ((IntKind.wrap .i64 (x0 + x1)) ≥ 0) = true then
              some ((0), false)
            else
              some ((IntKind.wrap .i64 (x0 + x1)), true)
          else
            some ((IntKind.wrap .i64 (x0 + x1)), true)
        else
          some ((IntKind.wrap .i64 (x0 + x1)), true)
    else
      if decide (x0 < 0) = true then
        if decide (x1 < 0) = true then
          if decide ((IntKind.wrap .i64 (x0 + x1)) ≥ 0) = true then
            some ((0), false)
          else
            some ((IntKind.wrap .i64 (x0 + x1)), true)
        else
          some ((IntKind.wrap .i64 (x0 + x1)), true)
      else
        some ((IntKind.wrap .i64 (x0 + x1)), true)
  else
    if decide (x0 < 0) = true then
      if decide (x1 < 0) = true then
        if decide ((IntKind.wrap .i64 (x0 + x1)) ≥ 0) = true then
          some ((0), false)
        else
          some ((IntKind.wrap .i64 (x0 + x1)), true)
      else
        some ((IntKind.wrap .i64 (x0 + x1)), true)
    else
      some ((IntKind.wrap .i64 (x0 + x1)), true)
set_option maxHeartbeats 20000000 in
theorem p21_ok (m : Nat) (x0 : Int) (x1 : Int) (q : Int × Bool) (h : p21 m x0 x1 = some q) : ∃ r B1, (evCall F S2 (m + 25) 21 [(.d (.int .i64 x0)), (.d (.int .i64 x1))] []).run = some (r, B1) ∧ 0 ≤ B1.length ∧ wkR B1 [] r (.tup [(.d (.int .i64 q.1)), (.d (.bool (q.2)))]) ∧ wkBs B1 [] 0 [] := by
  unfold p21 at h
  refine ite_cases h (fun c0 h => ?_) (fun c0 h => ?_)
  · skip
    refine ite_cases h (fun c3 h => ?_) (fun c3 h => ?_)
    · skip
      refine ite_cases h (fun c6 h => ?_) (fun c6 h => ?_)
      · skip
        cases h
        refine ⟨(.tup [(.d (.int .i64 (0))), (.d (.bool false))]), [], runT_ok (LS := (fun k => none)) (fn := fn21) (vis := []) (by kernel_rfl) rfl (by kernel_rfl) (M.run_of_path _ [true, true, true, true, true, true, true, true, true, true, true, true, true, true] _ _ (by kernel_rfl) (all_t c0 (all_t c0 (all_t c0 (all_t c3 (all_t c3 (all_t c3 (all_t c6 (all_t c6 (all_t c6 (all_t c6 (all_t c6 (all_t c6 (all_t c6 (all_t rfl all_nil))))))))))))))) ?_, by simp, (wkR.tup (wkVs.cons (wkV.one (wk1.eq rfl)) (wkVs.cons (wkV.one (wk1.eq rfl)) wkVs.nil))), trivial⟩
        intro p hp; cases hp
      · skip
        refine ite_cases h (fun c9 h => ?_) (fun c9 h => ?_)
        · skip
          refine ite_cases h (fun c14 h => ?_) (fun c14 h => ?_)
          · skip
            refine ite_cases h (fun c19 h => ?_) (fun c19 h => ?_)
            · skip
              cases h
              refine ⟨(.tup [(.d (.int .i64 (0))), (.d (.bool false))]), [], runT_ok (LS := (fun k => none)) (fn := fn21) (vis := []) (by kernel_rfl) rfl (by kernel_rfl) (M.run_of_path _ [true, true, true, true, true, true, false, false, false, true, true, false, true, false, true, true, false, true, false, true] _ _ (by kernel_rfl) (all_t c0 (all_t c0 (all_t c0 (all_t c3 (all_t c3 (all_t c3 (all_f c6 (all_f c6 (all_f c6 (all_t c9 (all_t c9 (all_f c6 (all_t c9 (all_f c6 (all_t c14 (all_t c14 (all_f c6 (all_t c14 (all_f c6 (all_t c19 all_nil))))))))))))))))))))) ?_, by simp, (wkR.tup (wkVs.cons (wkV.one (wk1.eq rfl)) (wkVs.cons (wkV.one (wk1.eq rfl)) wkVs.nil))), trivial⟩
              intro p hp; cases hp
            · skip
              cases h
              refine ⟨(.tup [(.d (.int .i64 (IntKind.wrap .i64 (x0 + x1)))), (.d (.bool true))]), [], runT_ok (LS := (fun k => none)) (fn := fn21) (vis := []) (by kernel_rfl) rfl (by kernel_rfl) (M.run_of_path _ [true, true, true, true, true, true, false, false, false, true, true, false, true, false, true, true, false, true, false, false] _ _ (by kernel_rfl) (all_t c0 (all_t c0 (all_t c0 (all_t c3 (all_t c3 (all_t c3 (all_f c6 (all_f c6 (all_f c6 (all_t c9 (all_t c9 (all_f c6 (all_t c9 (all_f c6 (all_t c14 (all_t c14 (all_f c6 (all_t c14 (all_f c6 (all_f c19 all_nil))))))))))))))))))))) ?_, by simp, (wkR.tup (wkVs.cons (wkV.one (wk1.eq rfl)) (wkVs.cons (wkV.one (wk1.eq rfl)) wkVs.nil))), trivial⟩
              intro p hp; cases hp
          · skip
            cases h
            refine ⟨(.tup [(.d (.int .i64 (IntKind.wrap .i64 (x0 + x1)))), (.d (.bool true))]), [], runT_ok (LS := (fun k => none)) (fn := fn21) (vis := []) (by kernel_rfl) rfl (by kernel_rfl) (M.run_of_path _ [true, true, true, true, true, true, false, false, false, true, true, false, true, false, false, false, false, false, false, false] _ _ (by kernel_rfl) (all_t c0 (all_t c0 (all_t c0 (all_t c3 (all_t c3 (all_t c3 (all_f c6 (all_f c6 (all_f c6 (all_t c9 (all_t c9 (all_f c6 (all_t c9 (all_f c6 (all_f c14 (all_f c14 (all_f c6 (all_f c14 (all_f c6 (all_f Bool.false_ne_true all_nil))))))))))))))))))))) ?_, by simp, (wkR.tup (wkVs.cons (wkV.one (wk1.eq rfl)) (wkVs.cons (wkV.one (wk1.eq rfl)) wkVs.nil))), trivial⟩
            intro p hp; cases hp
        · skip
          cases h
          refine ⟨(.tup [(.d (.int .i64 (IntKind.wrap .i64 (x0 + x1)))), (.d (.bool true))]), [], runT_ok (LS := (fun k => none)) (fn := fn21) (vis := []) (by kernel_rfl) rfl (by kernel_rfl) (M.run_of_path _ [true, true, true, true, true, true, false, false, false, false, false, false, false, false, false, false, false, false, false, false] _ _ (by kernel_rfl) (all_t c0 (all_t c0 (all_t c0 (all_t c3 (all_t c3 (all_t c3 (all_f c6 (all_f c6 (all_f c6 (all_f c9 (all_f c9 (all_f c6 (all_f c9 (all_f c6 (all_f Bool.false_ne_true (all_f Bool.false_ne_true (all_f c6 (all_f Bool.false_ne_true (all_f c6 (all_f Bool.false_ne_true all_nil))))))))))))))))))))) ?_, by simp, (wkR.tup (wkVs.cons (wkV.one (wk1.eq rfl)) (wkVs.cons (wkV.one (wk1.eq rfl)) wkVs.nil))), trivial⟩
          intro p hp; cases hp
    · skip
      refine ite_cases h (fun c9 h => ?_) (fun c9 h => ?_)
      · skip
        refine ite_cases h (fun c14 h => ?_) (fun c14 h => ?_)
        · skip
          refine ite_cases h (fun c19 h => ?_) (fun c19 h => ?_)
          · skip
            cases h
            refine ⟨(.tup [(.d (.int .i64 (0))), (.d (.bool false))]), [], runT_ok (LS := (fun k => none)) (fn := fn21) (vis := []) (by kernel_rfl) rfl (by kernel_rfl) (M.run_of_path _ [true, true, true, false, false, false, false, false, false, true, true, false, true, false, true, true, false, true, false, true] _ _ (by kernel_rfl) (all_t c0 (all_t c0 (all_t c0 (all_f c3 (all_f c3 (all_f c3 (all_f Bool.false_ne_true (all_f Bool.false_ne_true (all_f Bool.false_ne_true (all_t c9 (all_t c9 (all_f Bool.false_ne_true (all_t c9 (all_f Bool.false_ne_true (all_t c14 (all_t c14 (all_f Bool.false_ne_true (all_t c14 (all_f Bool.false_ne_true (all_t c19 all_nil))))))))))))))))))))) ?_, by simp, (wkR.tup (wkVs.cons (wkV.one (wk1.eq rfl)) (wkVs.cons (wkV.one (wk1.eq rfl)) wkVs.nil))), trivial⟩
            intro p hp; cases hp
          · skip
            cases h
            refine ⟨(.tup [(.d (.int .i64 (IntKind.wrap .i64 (x0 + x1)))), (.d (.bool true))]), [], runT_ok (LS := (fun k => none)) (fn := fn21) (vis := []) (by kernel_rfl) rfl (by kernel_rfl) (M.run_of_path _ [true, true, true, false, false, false, false, false, false, true, true, false, true, false, true, true, false, true, false, false] _ _ (by kernel_rfl) (all_t c0 (all_t c0 (all_t c0 (all_f c3 (all_f c3 (all_f c3 (all_f Bool.false_ne_true (all_f Bool.false_ne_true (all_f Bool.false_ne_true (all_t c9 (all_t c9 (all_f Bool.false_ne_true (all_t c9 (all_f Bool.false_ne_true (all_t c14 (all_t c14 (all_f Bool.false_ne_true (all_t c14 (all_f Bool.false_ne_true (all_f c19 all_nil))))))))))))))))))))) ?_, by simp, (wkR.tup (wkVs.cons (wkV.one (wk1.eq rfl)) (wkVs.cons (wkV.one (wk1.eq rfl)) wkVs.nil))), trivial⟩
            intro p hp; cases hp
        · skip
          cases h
          refine ⟨(.tup [(.d (.int .i64 (IntKind.wrap .i64 (x0 + x1)))), (.d (.bool true))]), [], runT_ok (LS := (fun k => none)) (fn := fn21) (vis := []) (by kernel_rfl) rfl (by kernel_rfl) (M.run_of_path _ [true, true, true, false, false, false, false, false, false, true, true, false, true, false, false, false, false, false, false, false] _ _ (by kernel_rfl) (all_t c0 (all_t c0 (all_t c0 (all_f c3 (all_f c3 (all_f c3 (all_f Bool.false_ne_true (all_f Bool.false_ne_true (all_f Bool.false_ne_true (all_t c9 (all_t c9 (all_f Bool.false_ne_true (all_t c9 (all_f Bool.false_ne_true (all_f c14 (all_f c14 (all_f Bool.false_ne_true (all_f c14 (all_f Bool.false_ne_true (all_f Bool.false_ne_true all_nil))))))))))))))))))))) ?_, by simp, (wkR.tup (wkVs.cons (wkV.one (wk1.eq rfl)) (wkVs.cons (wkV.one (wk1.eq rfl)) wkVs.nil))), trivial⟩
          intro p hp; cases hp
      · skip
        cases h
        refine ⟨(.tup [(.d (.int .i64 (IntKind.wrap .i64 (x0 + x1)))), (.d (.bool true))]), [], runT_ok (LS := (fun k => none)) (fn := fn21) (vis := []) (by kernel_rfl) rfl (by kernel_rfl) (M.run_of_path _ [true, true, true, false, false, false, false, false, false, false, false, false, false, false, false, false, false, false, false, false] _ _ (by kernel_rfl) (all_t c0 (all_t c0 (all_t c0 (all_f c3 (all_f c3 (all_f c3 (all_f Bool.false_ne_true (all_f Bool.false_ne_true (all_f Bool.false_ne_true (all_f c9 (all_f c9 (all_f Bool.false_ne_true (all_f c9 (all_f Bool.false_ne_true (all_f Bool.false_ne_true (all_f Bool.false_ne_true (all_f Bool.false_ne_true (all_f Bool.false_ne_true (all_f Bool.false_ne_true (all_f Bool.false_ne_true all_nil))))))))))))))))))))) ?_, by simp, (wkR.tup (wkVs.cons (wkV.one (wk1.eq rfl)) (wkVs.cons (wkV.one (wk1.eq rfl)) wkVs.nil))), trivial⟩
        intro p hp; cases hp
  · skip
    refine ite_cases h (fun c9 h => ?_) (fun c9 h => ?_)
    · skip
      refine ite_cases h (fun c14 h => ?_) (fun c14 h => ?_)
      · skip
        refine ite_cases h (fun c19 h => ?_) (fun c19 h => ?_)
        · skip
          cases h
          refine ⟨(.tup [(.d (.int .i64 (0))), (.d (.bool false))]), [], runT_ok (LS := (fun k => none)) (fn := fn21) (vis := []) (by kernel_rfl) rfl (by kernel_rfl) (M.run_of_path _ [false, false, false, false, false, false, false, false, false, true, true, false, true, false, true, true, false, true, false, true] _ _ (by kernel_rfl) (all_f c0 (all_f c0 (all_f c0 (all_f Bool.false_ne_true (all_f Bool.false_ne_true (all_f Bool.false_ne_true (all_f Bool.false_ne_true (all_f Bool.false_ne_true (all_f Bool.false_ne_true (all_t c9 (all_t c9 (all_f Bool.false_ne_true (all_t c9 (all_f Bool.false_ne_true (all_t c14 (all_t c14 (all_f Bool.false_ne_true (all_t c14 (all_f Bool.false_ne_true (all_t c19 all_nil))))))))))))))))))))) ?_, by simp, (wkR.tup (wkVs.cons (wkV.one (wk1.eq rfl)) (wkVs.cons (wkV.one (wk1.eq rfl)) wkVs.nil))), trivial⟩
          intro p hp; cases hp
        · skip
          cases h
          refine ⟨(.tup [(.d (.int .i64 (IntKind.wrap .i64 (x0 + x1)))), (.d (.bool true))]), [], runT_ok (LS := (fun k => none)) (fn := fn21) (vis := []) (by kernel_rfl) rfl (by kernel_rfl) (M.run_of_path _ [false, false, false, false, false, false, false, false, false, true, true, false, true, false, true, true, false, true, false, false] _ _ (by kernel_rfl) (all_f c0 (all_f c0 (all_f c0 (all_f Bool.false_ne_true (all_f Bool.false_ne_true (all_f Bool.false_ne_true (all_f Bool.false_ne_true (all_f Bool.false_ne_true (all_f Bool.false_ne_true (all_t c9 (all_t c9 (all_f Bool.false_ne_true (all_t c9 (all_f Bool.false_ne_true (all_t c14 (all_t c14 (all_f Bool.false_ne_true (all_t c14 (all_f Bool.false_ne_true (all_f c19 all_nil))))))))))))))))))))) ?_, by simp, (wkR.tup (wkVs.cons (wkV.one (wk1.eq rfl)) (wkVs.cons (wkV.one (wk1.eq rfl)) wkVs.nil))), trivial⟩
          intro p hp; cases hp
      · skip
        cases h
        refine ⟨(.tup [(.d (.int .i64 (IntKind.wrap .i64 (x0 + x1)))), (.d (.bool true))]), [], runT_ok (LS := (fun k => none)) (fn := fn21) (vis := []) (by kernel_rfl) rfl (by kernel_rfl) (M.run_of_path _ [false, false, false, false, false, false, false, false, false, true, true, false, true, false, false, false, false, false, false, false] _ _ (by kernel_rfl) (all_f c0 (all_f c0 (all_f c0 (all_f Bool.false_ne_true (all_f Bool.false_ne_true (all_f Bool.false_ne_true (all_f Bool.false_ne_true (all_f Bool.false_ne_true (all_f Bool.false_ne_true (all_t c9 (all_t c9 (all_f Bool.false_ne_true (all_t c9 (all_f Bool.false_ne_true (all_f c14 (all_f c14 (all_f Bool.false_ne_true (all_f c14 (all_f Bool.false_ne_true (all_f Bool.false_ne_true all_nil))))))))))))))))))))) ?_, by simp, (wkR.tup (wkVs.cons (wkV.one (wk1.eq rfl)) (wkVs.cons (wkV.one (wk1.eq rfl)) wkVs.nil))), trivial⟩
        intro p hp; cases hp
    · skip
      cases h
      refine ⟨(.tup [(.d (.int .i64 (IntKind.wrap .i64 (x0 + x1)))), (.d (.bool true))]), [], runT_ok (LS := (fun k => none)) (fn := fn21) (vis := []) (by kernel_rfl) rfl (by kernel_rfl) (M.run_of_path _ [false, false, false, false, false, false, false, false, false, false, false, false, false, false, false, false, false, false, false, false] _ _ (by kernel_rfl) (all_f c0 (all_f c0 (all_f c0 (all_f Bool.false_ne_true (all_f Bool.false_ne_true (all_f Bool.false_ne_true (all_f Bool.false_ne_true (all_f Bool.false_ne_true (all_f Bool.false_ne_true (all_f c9 (all_f c9 (all_f Bool.false_ne_true (all_f c9 (all_f Bool.false_ne_true (all_f Bool.false_ne_true (all_f Bool.false_ne_true (all_f Bool.false_ne_true (all_f Bool.false_ne_true (all_f Bool.false_ne_true (all_f Bool.false_ne_true all_nil))))))))))))))))))))) ?_, by simp, (wkR.tup (wkVs.cons (wkV.one (wk1.eq rfl)) (wkVs.cons (wkV.one (wk1.eq rfl)) wkVs.nil))), trivial⟩
      intro p hp; cases hp

/-- The reference's addition. -/
def raddG (a b : Int) : Int × Bool := if (a > 0 ∧ b > 0 ∧ IntKind.wrap .i64 (a + b) < 0) ∨ (a < 0 ∧ b < 0 ∧ IntKind.wrap .i64 (a + b) ≥ 0) then (0, false) else (IntKind.wrap .i64 (a + b), true)
theorem radd21 (a b : Int) (_ : true = true) : ∃ m, p21 m a b = some (raddG a b) := by
  refine ⟨0, ?_⟩
  unfold p21 raddG
  generalize IntKind.wrap .i64 (a + b) = w
  by_cases h1 : a > 0 <;> by_cases h2 : b > 0 <;> by_cases h3 : w < 0 <;> by_cases h4 : a < 0 <;> by_cases h5 : b < 0 <;> by_cases h6 : w ≥ 0 <;> first | omega | simp [h1, h2, h3, h4, h5, h6]
def s21 : List AV → Boxes → M (AV × Boxes) := normS [.val (.int .i64), .val (.int .i64)] [] fun xs B => match xs, B with
  | [(.d (.int .i64 c1)), (.d (.int .i64 c2))], [] => .chk (true) (.ret ((.tup [(.d (.int .i64 (raddG c1 c2).1)), (.d (.bool (raddG c1 c2).2))]), []))
  | _, _ => .fail
theorem s21_at : CallAt Try.prog 21 s21 := by
  refine CallAt.norm (CallAt.weakE (g := fun n => evCall F S2 n 21) (fun n => evCall_atH mixed kinds hds S2 S2_ok n 21) fun xs B r' B' hr => ?_) _ _
  split at hr
  · rename_i c1 c2
    obtain ⟨hp, hr⟩ := (M.run_chk _ _ _).1 hr
    simp only [M.run, Option.some.injEq, Prod.mk.injEq] at hr
    obtain ⟨rfl, rfl⟩ := hr
    obtain ⟨m, hm⟩ := radd21 c1 c2 hp
    obtain ⟨r, B1, h1, h2, h3, h4⟩ := p21_ok m c1 c2 _ hm
    exact ⟨m + 25, r, B1, h1, by simp, h2, h3, h4⟩
  · simp [M.run] at hr
noncomputable def S3 : FuncId → Option (List AV → Boxes → M (AV × Boxes)) := fun f => if f = 21 then some s21 else S2 f
set_option maxHeartbeats 20000000 in
theorem S3_ok : ∀ f s, S3 f = some s → CallAt Try.prog f s := by
  intro f s h
  unfold S3 at h
  split at h
  · rename_i e; subst e; cases h; exact s21_at
  · exact S2_ok f s h

noncomputable def fn20 : AFn := (F 20).getD ⟨0, [], .bad, false, false, noHd⟩
noncomputable def body20 : AC := fn20.body
def l20_0 (m : Nat) : Nat → List Int → Int → Int → Int → Option (Nat × Int × Int)
  | 0, _, _, _, _ => none
  | n + 1, x0, s4, s10, s11 => if decide (s11 < s10) = true then
      if decide (0 ≤ s11) = true then
        if decide (s11 < (((List.length x0) : Nat) : Int)) = true then
          if ((naddG s4 (List.getD x0 (Int.toNat s11) 0)).2 != (0)) = true then
            some (0, s4, s11)
          else
            l20_0 m n x0 ((naddG s4 (List.getD x0 (Int.toNat s11) 0)).1) s10 ((IntKind.wrap .i64 (s11 + (1))))
        else
          none
      else
        none
    else
      some (1, s4, s11)
def l20_0D : Nat × Int × Int := (0, 0, 0)
@[reducible] def l20_0R (m n : Nat) (x0 : List Int) (s4 : Int) (s10 : Int) (s11 : Int) : Nat × Int × Int := Option.getD (l20_0 m n x0 s4 s10 s11) l20_0D
def l20_0H (x0 : List Int) (s4 : Int) (s10 : Int) (s11 : Int) : Env := [.top, .top, .top, .top, (.d (.int .i64 s4)), .top, .top, .top, .top, (.d (.sl (.int .i64) x0)), (.d (.int .i64 s10)), (.d (.int .i64 s11)), .top, .top, .top, .top, .top, .top, .top, .top, .top, .top, .top, .top, .top, .top, .top]
def l20_0B (x0 : List Int) (s4 : Int) (s10 : Int) (s11 : Int) : Boxes := []
def l20_0E (x0 : List Int) (s4 : Int) (s10 : Int) (s11 : Int) : Nat → AEx × Env × Boxes
  | 0 => (.ret, [.top, .top, (.d (.int .i64 (0))), (.d (.int .i64 (naddG s4 (List.getD x0 (Int.toNat s11) 0)).2)), (.d (.int .i64 s4)), .top, (.d (.int .i64 (List.getD x0 (Int.toNat s11) 0))), (.d (.int .i64 (naddG s4 (List.getD x0 (Int.toNat s11) 0)).1)), (.d (.int .i64 (naddG s4 (List.getD x0 (Int.toNat s11) 0)).2)), (.d (.sl (.int .i64) x0)), (.d (.int .i64 s10)), (.d (.int .i64 s11)), (.d (.bool (decide (s11 < s10)))), (.cptr [(.int .i64 (List.getD x0 (Int.toNat s11) 0))] 0), (.d (.int .i64 (List.getD x0 (Int.toNat s11) 0))), (.tup [(.d (.int .i64 (naddG s4 (List.getD x0 (Int.toNat s11) 0)).1)), (.d (.int .i64 (naddG s4 (List.getD x0 (Int.toNat s11) 0)).2))]), (.d (.int .i64 s4)), (.d (.int .i64 (List.getD x0 (Int.toNat s11) 0))), (.tup [(.d (.int .i64 (naddG s4 (List.getD x0 (Int.toNat s11) 0)).1)), (.d (.int .i64 (naddG s4 (List.getD x0 (Int.toNat s11) 0)).2))]), (.d (.int .i64 (naddG s4 (List.getD x0 (Int.toNat s11) 0)).1)), (.d (.int .i64 (naddG s4 (List.getD x0 (Int.toNat s11) 0)).2)), (.d (.int .i64 (naddG s4 (List.getD x0 (Int.toNat s11) 0)).2)), (.d (.bool ((naddG s4 (List.getD x0 (Int.toNat s11) 0)).2 != (0)))), (.d (.int .i64 (naddG s4 (List.getD x0 (Int.toNat s11) 0)).2)), .top, .top, .top], [])
  | _ => (.exit 0, [.top, .top, .top, .top, (.d (.int .i64 s4)), .top, .top, .top, .top, (.d (.sl (.int .i64) x0)), (.d (.int .i64 s10)), (.d (.int .i64 s11)), (.d (.bool (decide (s11 < s10)))), .top, .top, .top, .top, .top, .top, .top, .top, .top, .top, .top, .top, .top, .top], [])
noncomputable def lbl20_0 : AC := loopBody 3600 body20

set_option maxHeartbeats 20000000 in
theorem l20_0_w0 (m n : Nat) (x0 : List Int) (s4 : Int) (s10 : Int) (s11 : Int) (c0 : decide (s11 < s10) = true) (c1 : decide (0 ≤ s11) = true) (c2 : decide (s11 < (((List.length x0) : Nat) : Int)) = true) (c4 : ((naddG s4 (List.getD x0 (Int.toNat s11) 0)).2 != (0)) = true) : (turns (hds 20 3600) 0 3600 (evC byref (evCall F S3 (m + 24)) (m + 24) 0 (hds 20) lbl20_0) (n + 1) (l20_0H x0 s4 s10 s11) (l20_0B x0 s4 s10 s11)).run = some (.ret, [.top, .top, (.d (.int .i64 (0))), (.d (.int .i64 (naddG s4 (List.getD x0 (Int.toNat s11) 0)).2)), (.d (.int .i64 s4)), .top, (.d (.int .i64 (List.getD x0 (Int.toNat s11) 0))), (.d (.int .i64 (naddG s4 (List.getD x0 (Int.toNat s11) 0)).1)), (.d (.int .i64 (naddG s4 (List.getD x0 (Int.toNat s11) 0)).2)), (.d (.sl (.int .i64) x0)), (.d (.int .i64 s10)), (.d (.int .i64 s11)), (.d (.bool (decide (s11 < s10)))), (.cptr [(.int .i64 (List.getD x0 (Int.toNat s11) 0))] 0), (.d (.int .i64 (List.getD x0 (Int.toNat s11) 0))), (.tup [(.d (.int .i64 (naddG s4 (List.getD x0 (Int.toNat s11) 0)).1)), (.d (.int .i64 (naddG s4 (List.getD x0 (Int.toNat s11) 0)).2))]), (.d (.int .i64 s4)), (.d (.int .i64 (List.getD x0 (Int.toNat s11) 0))), (.tup [(.d (.int .i64 (naddG s4 (List.getD x0 (Int.toNat s11) 0)).1)), (.d (.int .i64 (naddG s4 (List.getD x0 (Int.toNat s11) 0)).2))]), (.d (.int .i64 (naddG s4 (List.getD x0 (Int.toNat s11) 0)).1)), (.d (.int .i64 (naddG s4 (List.getD x0 (Int.toNat s11) 0)).2)), (.d (.int .i64 (naddG s4 (List.getD x0 (Int.toNat s11) 0)).2)), (.d (.bool ((naddG s4 (List.getD x0 (Int.toNat s11) 0)).2 != (0)))), (.d (.int .i64 (naddG s4 (List.getD x0 (Int.toNat s11) 0)).2)), .top, .top, .top], []) := by
  exact turns_last (by simp) (M.run_of_path _ [true, true, true, true, true] _ _ (by kernel_rfl) (all_t c0 (all_t c1 (all_t c2 (all_t rfl (all_t c4 all_nil)))))) 
set_option maxHeartbeats 20000000 in
theorem l20_0_w1 (m n : Nat) (x0 : List Int) (s4 : Int) (s10 : Int) (s11 : Int) (r : AEx × Env × Boxes) (c0 : decide (s11 < s10) = true) (c1 : decide (0 ≤ s11) = true) (c2 : decide (s11 < (((List.length x0) : Nat) : Int)) = true) (c4 : ¬ ((naddG s4 (List.getD x0 (Int.toNat s11) 0)).2 != (0)) = true) (ih : (turns (hds 20 3600) 0 3600 (evC byref (evCall F S3 (m + 24)) (m + 24) 0 (hds 20) lbl20_0) n (l20_0H x0 ((naddG s4 (List.getD x0 (Int.toNat s11) 0)).1) s10 ((IntKind.wrap .i64 (s11 + (1))))) (l20_0B x0 ((naddG s4 (List.getD x0 (Int.toNat s11) 0)).1) s10 ((IntKind.wrap .i64 (s11 + (1)))))).run = some r) : (turns (hds 20 3600) 0 3600 (evC byref (evCall F S3 (m + 24)) (m + 24) 0 (hds 20) lbl20_0) (n + 1) (l20_0H x0 s4 s10 s11) (l20_0B x0 s4 s10 s11)).run = some r := by
  exact turns_step (M.run_of_path _ [true, true, true, true, false] _ _ (by kernel_rfl) (all_t c0 (all_t c1 (all_t c2 (all_t rfl (all_f c4 all_nil)))))) ih
set_option maxHeartbeats 20000000 in
theorem l20_0_w2 (m n : Nat) (x0 : List Int) (s4 : Int) (s10 : Int) (s11 : Int) (c0 : ¬ decide (s11 < s10) = true) : (turns (hds 20 3600) 0 3600 (evC byref (evCall F S3 (m + 24)) (m + 24) 0 (hds 20) lbl20_0) (n + 1) (l20_0H x0 s4 s10 s11) (l20_0B x0 s4 s10 s11)).run = some (.exit 0, [.top, .top, .top, .top, (.d (.int .i64 s4)), .top, .top, .top, .top, (.d (.sl (.int .i64) x0)), (.d (.int .i64 s10)), (.d (.int .i64 s11)), (.d (.bool (decide (s11 < s10)))), .top, .top, .top, .top, .top, .top, .top, .top, .top, .top, .top, .top, .top, .top], []) := by
  exact turns_last (by simp) (M.run_of_path _ [false] _ _ (by kernel_rfl) (all_f c0 all_nil)) 

set_option maxHeartbeats 20000000 in
theorem l20_0_step (m n : Nat) (ih : ∀ (x0 : List Int) (s4 : Int) (s10 : Int) (s11 : Int) (q : Nat × Int × Int), l20_0 m n x0 s4 s10 s11 = some q → (turns (hds 20 3600) 0 3600 (evC byref (evCall F S3 (m + 24)) (m + 24) 0 (hds 20) lbl20_0) n (l20_0H x0 s4 s10 s11) (l20_0B x0 s4 s10 s11)).run = some (l20_0E (x0) (q.2.1) (s10) (q.2.2) q.1)) (x0 : List Int) (s4 : Int) (s10 : Int) (s11 : Int) (q : Nat × Int × Int) (h : l20_0 m (n + 1) x0 s4 s10 s11 = some q) : (turns (hds 20 3600) 0 3600 (evC byref (evCall F S3 (m + 24)) (m + 24) 0 (hds 20) lbl20_0) (n + 1) (l20_0H x0 s4 s10 s11) (l20_0B x0 s4 s10 s11)).run = some (l20_0E (x0) (q.2.1) (s10) (q.2.2) q.1) := by
  rw [l20_0] at h
  refine ite_cases h (fun c0 h => ?_) (fun c0 h => ?_)
  · skip
    refine ite_cases h (fun c1 h => ?_) (fun c1 h => ?_)
    · skip
      refine ite_cases h (fun c2 h => ?_) (fun c2 h => ?_)
      · skip
        refine ite_cases h (fun c4 h => ?_) (fun c4 h => ?_)
        · skip
          cases h
          exact l20_0_w0 m n x0 s4 s10 s11 c0 c1 c2 c4
        · skip
          exact l20_0_w1 m n x0 s4 s10 s11 _ c0 c1 c2 c4 (ih _ _ _ _ q h)
      · skip
        cases h
    · skip
      cases h
  · skip
    cases h
    exact l20_0_w2 m n x0 s4 s10 s11 c0
set_option maxHeartbeats 20000000 in
theorem l20_0_ok (m : Nat) : ∀ (n : Nat) (x0 : List Int) (s4 : Int) (s10 : Int) (s11 : Int) (q : Nat × Int × Int), l20_0 m n x0 s4 s10 s11 = some q → (turns (hds 20 3600) 0 3600 (evC byref (evCall F S3 (m + 24)) (m + 24) 0 (hds 20) lbl20_0) n (l20_0H x0 s4 s10 s11) (l20_0B x0 s4 s10 s11)).run = some (l20_0E (x0) (q.2.1) (s10) (q.2.2) q.1)
  | 0, x0, s4, s10, s11, q, h => by cases h
  | n + 1, x0, s4, s10, s11, q, h => l20_0_step m n (l20_0_ok m n) x0 s4 s10 s11 q h

def p20 (m : Nat) (x0 : List Int) : Option (Int × Int) :=
  if (Option.isSome (l20_0 m (m + 24) x0 0 ((((List.length x0) : Nat) : Int)) 0)) = true then
    if ((l20_0R m (m + 24) x0 0 ((((List.length x0) : Nat) : Int)) 0).1 == 0) = true then
      some ((0), (naddG (l20_0R m (m + 24) x0 0 ((((List.length x0) : Nat) : Int)) 0).2.1 (List.getD x0 (Int.toNat (l20_0R m (m + 24) x0 0 ((((List.length x0) : Nat) : Int)) 0).2.2) 0)).2)
    else
      if ((l20_0R m (m + 24) x0 0 ((((List.length x0) : Nat) : Int)) 0).1 == 1) = true then
        some ((l20_0R m (m + 24) x0 0 ((((List.length x0) : Nat) : Int)) 0).2.1, (0))
      else
        none
  else
    none
set_option maxHeartbeats 20000000 in
theorem p20_ok (m : Nat) (x0 : List Int) (q : Int × Int) (h : p20 m x0 = some q) : ∃ r B1, (evCall F S3 (m + 25) 20 [(.d (.sl (.int .i64) x0))] []).run = some (r, B1) ∧ 0 ≤ B1.length ∧ wkR B1 [] r (.tup [(.d (.int .i64 q.1)), (.d (.int .i64 q.2))]) ∧ wkBs B1 [] 0 [] := by
  unfold p20 at h
  refine ite_cases h (fun c0 h => ?_) (fun c0 h => ?_)
  · skip
    refine ite_cases h (fun c1 h => ?_) (fun c1 h => ?_)
    · skip
      cases h
      refine ⟨(.tup [(.d (.int .i64 (0))), (.d (.int .i64 (naddG (l20_0R m (m + 24) x0 0 ((((List.length x0) : Nat) : Int)) 0).2.1 (List.getD x0 (Int.toNat (l20_0R m (m + 24) x0 0 ((((List.length x0) : Nat) : Int)) 0).2.2) 0)).2))]), [], runT_ok (LS := (fun k => if k = 3600 then some (l20_0E x0 ((l20_0R m (m + 24) x0 0 ((((List.length x0) : Nat) : Int)) 0).2.1) (((((List.length x0) : Nat) : Int))) ((l20_0R m (m + 24) x0 0 ((((List.length x0) : Nat) : Int)) 0).2.2) 0) else none)) (fn := fn20) (vis := [(3600, l20_0H x0 0 ((((List.length x0) : Nat) : Int)) 0, l20_0B x0 0 ((((List.length x0) : Nat) : Int)) 0)]) (by kernel_rfl) rfl (by kernel_rfl) (M.run_of_path _ [] _ _ (by kernel_rfl) all_nil) ?_, by simp, (wkR.tup (wkVs.cons (wkV.one (wk1.eq rfl)) (wkVs.cons (wkV.one (wk1.eq rfl)) wkVs.nil))), trivial⟩
      intro p hp p2 hq
      rcases List.mem_cons.1 hp with rfl | hp
      · skip
        have h3 := l20_0_ok m (m + 24) x0 0 ((((List.length x0) : Nat) : Int)) 0 _ (some_getD (d := l20_0D) c0)
        rw [eq_of_beq c1] at h3
        exact Eq.trans (Eq.mp (by kernel_rfl) h3) hq
      cases hp
    · skip
      refine ite_cases h (fun c2 h => ?_) (fun c2 h => ?_)
      · skip
        cases h
        refine ⟨(.tup [(.d (.int .i64 (l20_0R m (m + 24) x0 0 ((((List.length x0) : Nat) : Int)) 0).2.1)), (.d (.int .i64 (0)))]), [], runT_ok (LS := (fun k => if k = 3600 then some (l20_0E x0 ((l20_0R m (m + 24) x0 0 ((((List.length x0) : Nat) : Int)) 0).2.1) (((((List.length x0) : Nat) : Int))) ((l20_0R m (m + 24) x0 0 ((((List.length x0) : Nat) : Int)) 0).2.2) 1) else none)) (fn := fn20) (vis := [(3600, l20_0H x0 0 ((((List.length x0) : Nat) : Int)) 0, l20_0B x0 0 ((((List.length x0) : Nat) : Int)) 0)]) (by kernel_rfl) rfl (by kernel_rfl) (M.run_of_path _ [] _ _ (by kernel_rfl) all_nil) ?_, by simp, (wkR.tup (wkVs.cons (wkV.one (wk1.eq rfl)) (wkVs.cons (wkV.one (wk1.eq rfl)) wkVs.nil))), trivial⟩
        intro p hp p2 hq
        rcases List.mem_cons.1 hp with rfl | hp
        · skip
          have h3 := l20_0_ok m (m + 24) x0 0 ((((List.length x0) : Nat) : Int)) 0 _ (some_getD (d := l20_0D) c0)
          rw [eq_of_beq c2] at h3
          exact Eq.trans (Eq.mp (by kernel_rfl) h3) hq
        cases hp
      · skip
        cases h
  · skip
    cases h

/-- A sum by the machine's additions. -/
def sumR (s : Int) : List Int → Int × Int
  | [] => (s, 0)
  | n :: ns => if (naddG s n).2 != 0 then (0, (naddG s n).2) else sumR (naddG s n).1 ns
def sumG (l : List Int) : Int × Int := sumR 0 l
theorem sum_loop (m : Nat) (l : List Int) (hb : l.length ≤ 1000000) : ∀ (n k : Nat) (s : Int), k ≤ l.length → l.length - k < n →
    (∃ j, l20_0 m n l s (l.length : Nat) (k : Nat) = some (1, (sumR s (l.drop k)).1, j) ∧ (sumR s (l.drop k)).2 = 0) ∨ (∃ s' j, l20_0 m n l s (l.length : Nat) (k : Nat) = some (0, s', j) ∧ sumR s (l.drop k) = (0, (naddG s' (List.getD l (Int.toNat j) 0)).2))
  | 0, k, s, _, h => by omega
  | n + 1, k, s, h1, h2 => by
    rw [l20_0]
    by_cases hk : k < l.length
    · have e1 : decide (((k : Nat) : Int) < (((List.length l) : Nat) : Int)) = true := decide_eq_true (by omega)
      have e2 : decide ((0 : Int) ≤ ((k : Nat) : Int)) = true := decide_eq_true (by omega)
      have e7 : IntKind.wrap .i64 (((k : Nat) : Int) + (1)) = ((k + 1 : Nat) : Int) := by rw [wrap_id (by omega) (by omega)]; rfl
      rw [drop_getD l k 0 hk, e7, if_pos e1, if_pos e2, if_pos e1, sumR]
      by_cases hc : ((naddG s (List.getD l (Int.toNat ((k : Nat) : Int)) 0)).2 != 0) = true
      · rw [if_pos hc]
        right
        refine ⟨s, (k : Nat), rfl, ?_⟩
        rw [show Int.toNat ((k : Nat) : Int) = k from rfl] at hc ⊢
        rw [if_pos hc]
      · rw [if_neg hc]
        rw [show Int.toNat ((k : Nat) : Int) = k from rfl] at hc ⊢
        rw [if_neg hc]
        exact sum_loop m l hb n (k + 1) _ (by omega) (by omega)
    · have e1 : decide (((k : Nat) : Int) < (((List.length l) : Nat) : Int)) = false := decide_eq_false (by omega)
      rw [e1, if_neg (by simp), List.drop_eq_nil_of_le (by omega)]
      exact .inl ⟨_, rfl, rfl⟩
theorem sum20 (l : List Int) (h : decide (l.length ≤ 1000000) = true) : ∃ m, p20 m l = some (sumG l) := by
  refine ⟨l.length, ?_⟩
  unfold p20 l20_0R sumG
  rcases sum_loop l.length l (of_decide_eq_true h) (l.length + 24) 0 0 (by omega) (by omega) with ⟨j, hr, he⟩ | ⟨s', j, hr, he⟩
  · simp only [Int.natCast_zero, List.drop_zero] at hr he
    rw [hr]
    simp [Prod.ext_iff, he]
  · simp only [Int.natCast_zero, List.drop_zero] at hr he
    rw [hr]
    simp [he]
def s20 : List AV → Boxes → M (AV × Boxes) := normS [.val (.sl (.int .i64))] [] fun xs B => match xs, B with
  | [(.d (.sl (.int .i64) c1))], [] => .chk (decide (List.length c1 ≤ 1000000)) (.ret ((.tup [(.d (.int .i64 (sumG c1).1)), (.d (.int .i64 (sumG c1).2))]), []))
  | _, _ => .fail
theorem s20_at : CallAt Try.prog 20 s20 := by
  refine CallAt.norm (CallAt.weakE (g := fun n => evCall F S3 n 20) (fun n => evCall_atH mixed kinds hds S3 S3_ok n 20) fun xs B r' B' hr => ?_) _ _
  split at hr
  · rename_i c1
    obtain ⟨hp, hr⟩ := (M.run_chk _ _ _).1 hr
    simp only [M.run, Option.some.injEq, Prod.mk.injEq] at hr
    obtain ⟨rfl, rfl⟩ := hr
    obtain ⟨m, hm⟩ := sum20 c1 hp
    obtain ⟨r, B1, h1, h2, h3, h4⟩ := p20_ok m c1 _ hm
    exact ⟨m + 25, r, B1, h1, by simp, h2, h3, h4⟩
  · simp [M.run] at hr
noncomputable def S4 : FuncId → Option (List AV → Boxes → M (AV × Boxes)) := fun f => if f = 20 then some s20 else S3 f
set_option maxHeartbeats 20000000 in
theorem S4_ok : ∀ f s, S4 f = some s → CallAt Try.prog f s := by
  intro f s h
  unfold S4 at h
  split at h
  · rename_i e; subst e; cases h; exact s20_at
  · exact S3_ok f s h

noncomputable def fn18 : AFn := (F 18).getD ⟨0, [], .bad, false, false, noHd⟩
noncomputable def body18 : AC := fn18.body
def p18 (m : Nat) (x0 : Int) (x1 : Int) : Option (Int) :=
  if decide (x0 < 0) = true then
    some ((0))
  else
    if decide (x1 < 1) = true then
      some ((0))
    else
      if decide (x1 = 0) = true then
        none
      else
        if decide ((Int.tmod x0 x1) > 0) = true then
          some ((IntKind.wrap .i64 ((IntKind.wrap .i64 (Int.tdiv x0 x1)) + (1))))
        else
          some ((IntKind.wrap .i64 (Int.tdiv x0 x1)))
set_option maxHeartbeats 20000000 in
theorem p18_ok (m : Nat) (x0 : Int) (x1 : Int) (q : Int) (h : p18 m x0 x1 = some q) : ∃ r B1, (evCall F S4 (m + 25) 18 [(.d (.int .i64 x0)), (.d (.int .i64 x1))] []).run = some (r, B1) ∧ 0 ≤ B1.length ∧ wkR B1 [] r (.d (.int .i64 q)) ∧ wkBs B1 [] 0 [] := by
  unfold p18 at h
  refine ite_cases h (fun c0 h => ?_) (fun c0 h => ?_)
  · skip
    cases h
    refine ⟨(.d (.int .i64 (0))), [], runT_ok (LS := (fun k => none)) (fn := fn18) (vis := []) (by kernel_rfl) rfl (by kernel_rfl) (M.run_of_path _ [true, true, true, true] _ _ (by kernel_rfl) (all_t c0 (all_t c0 (all_t c0 (all_t rfl all_nil))))) ?_, by simp, (wkR.one (wkV.one (wk1.eq rfl))), trivial⟩
    intro p hp; cases hp
  · skip
    refine ite_cases h (fun c3 h => ?_) (fun c3 h => ?_)
    · skip
      cases h
      refine ⟨(.d (.int .i64 (0))), [], runT_ok (LS := (fun k => none)) (fn := fn18) (vis := []) (by kernel_rfl) rfl (by kernel_rfl) (M.run_of_path _ [false, false, false, true] _ _ (by kernel_rfl) (all_f c0 (all_f c0 (all_f c0 (all_t c3 all_nil))))) ?_, by simp, (wkR.one (wkV.one (wk1.eq rfl))), trivial⟩
      intro p hp; cases hp
    · skip
      refine ite_cases h (fun c4 h => ?_) (fun c4 h => ?_)
      · skip
        cases h
      · skip
        refine ite_cases h (fun c6 h => ?_) (fun c6 h => ?_)
        · skip
          cases h
          refine ⟨(.d (.int .i64 (IntKind.wrap .i64 ((IntKind.wrap .i64 (Int.tdiv x0 x1)) + (1))))), [], runT_ok (LS := (fun k => none)) (fn := fn18) (vis := []) (by kernel_rfl) rfl (by kernel_rfl) (M.run_of_path _ [false, false, false, false, true, true, true] _ _ (by kernel_rfl) (all_f c0 (all_f c0 (all_f c0 (all_f c3 (all_nf c4 (all_nf c4 (all_t c6 all_nil)))))))) ?_, by simp, (wkR.one (wkV.one (wk1.eq rfl))), trivial⟩
          intro p hp; cases hp
        · skip
          cases h
          refine ⟨(.d (.int .i64 (IntKind.wrap .i64 (Int.tdiv x0 x1)))), [], runT_ok (LS := (fun k => none)) (fn := fn18) (vis := []) (by kernel_rfl) rfl (by kernel_rfl) (M.run_of_path _ [false, false, false, false, true, true, false] _ _ (by kernel_rfl) (all_f c0 (all_f c0 (all_f c0 (all_f c3 (all_nf c4 (all_nf c4 (all_f c6 all_nil)))))))) ?_, by simp, (wkR.one (wkV.one (wk1.eq rfl))), trivial⟩
          intro p hp; cases hp

/-- A quotient, up to the next whole number. -/
def upG (a b : Int) : Int := if a < 0 then 0 else if b < 1 then 0 else if Int.tmod a b > 0 then IntKind.wrap .i64 (IntKind.wrap .i64 (Int.tdiv a b) + 1) else IntKind.wrap .i64 (Int.tdiv a b)
theorem up18 (a b : Int) (_ : true = true) : ∃ m, p18 m a b = some (upG a b) := by
  refine ⟨0, ?_⟩
  unfold p18 upG
  by_cases h1 : a < 0
  · simp [h1]
  · by_cases h2 : b < 1
    · simp [h1, h2]
    · have h3 : ¬ b = 0 := by omega
      by_cases h4 : Int.tmod a b > 0 <;> simp [h1, h2, h3, h4]
def s18 : List AV → Boxes → M (AV × Boxes) := normS [.val (.int .i64), .val (.int .i64)] [] fun xs B => match xs, B with
  | [(.d (.int .i64 c1)), (.d (.int .i64 c2))], [] => .chk (true) (.ret ((.d (.int .i64 (upG c1 c2))), []))
  | _, _ => .fail
theorem s18_at : CallAt Try.prog 18 s18 := by
  refine CallAt.norm (CallAt.weakE (g := fun n => evCall F S4 n 18) (fun n => evCall_atH mixed kinds hds S4 S4_ok n 18) fun xs B r' B' hr => ?_) _ _
  split at hr
  · rename_i c1 c2
    obtain ⟨hp, hr⟩ := (M.run_chk _ _ _).1 hr
    simp only [M.run, Option.some.injEq, Prod.mk.injEq] at hr
    obtain ⟨rfl, rfl⟩ := hr
    obtain ⟨m, hm⟩ := up18 c1 c2 hp
    obtain ⟨r, B1, h1, h2, h3, h4⟩ := p18_ok m c1 c2 _ hm
    exact ⟨m + 25, r, B1, h1, by simp, h2, h3, h4⟩
  · simp [M.run] at hr
noncomputable def S5 : FuncId → Option (List AV → Boxes → M (AV × Boxes)) := fun f => if f = 18 then some s18 else S4 f
set_option maxHeartbeats 20000000 in
theorem S5_ok : ∀ f s, S5 f = some s → CallAt Try.prog f s := by
  intro f s h
  unfold S5 at h
  split at h
  · rename_i e; subst e; cases h; exact s18_at
  · exact S4_ok f s h

end Go.Proofs.Ytkppbflmlpabjaa.Dec
namespace Go.Proofs.Ytkppbflmlpabjaa.Dec
open Go.Ev
set_option linter.unusedVariables false
set_option linter.unusedSimpArgs false
set_option maxRecDepth 100000
noncomputable def fn25 : AFn := (F 25).getD ⟨0, [], .bad, false, false, noHd⟩
noncomputable def body25 : AC := fn25.body
def l25_0 (m : Nat) : Nat → List Int → List Int → Int → Option (Nat × Int)
  | 0, _, _, _ => none
  | n + 1, x0, x1, s5 => if decide (s5 < (((List.length x0) : Nat) : Int)) = true then
      if decide (0 ≤ s5) = true then
        if decide (s5 < (((List.length x1) : Nat) : Int)) = true then
          if ((List.getD x0 (Int.toNat s5) 0) != (List.getD x1 (Int.toNat s5) 0)) = true then
            some (0, s5)
          else
            l25_0 m n x0 x1 ((IntKind.wrap .i64 (s5 + (1))))
        else
          none
      else
        none
    else
      some (1, s5)
def l25_0D : Nat × Int := (0, 0)
@[reducible] def l25_0R (m n : Nat) (x0 : List Int) (x1 : List Int) (s5 : Int) : Nat × Int := Option.getD (l25_0 m n x0 x1 s5) l25_0D
def l25_0H (x0 : List Int) (x1 : List Int) (s5 : Int) : Env := [(.d (.sl (.int .i64) x0)), (.d (.sl (.int .i64) x1)), .top, .top, .top, (.d (.int .i64 s5)), .top, .top, .top, .top, .top, .top, .top, .top, .top, .top, .top, .top, .top, .top, .top, .top, .top, .top, .top, .top]
def l25_0B (x0 : List Int) (x1 : List Int) (s5 : Int) : Boxes := []
def l25_0E (x0 : List Int) (x1 : List Int) (s5 : Int) : Nat → AEx × Env × Boxes
  | 0 => (.ret, [(.d (.sl (.int .i64) x0)), (.d (.sl (.int .i64) x1)), .top, .top, (.d (.bool false)), (.d (.int .i64 s5)), .top, .top, .top, .top, .top, (.d (.int .i64 s5)), (.d (.sl (.int .i64) x0)), (.d (.int .i64 (((List.length x0) : Nat) : Int))), (.d (.bool (decide (s5 < (((List.length x0) : Nat) : Int))))), .top, .top, (.d (.sl (.int .i64) x0)), (.d (.int .i64 s5)), (.cptr [(.int .i64 (List.getD x0 (Int.toNat s5) 0))] 0), (.d (.int .i64 (List.getD x0 (Int.toNat s5) 0))), (.d (.sl (.int .i64) x1)), (.d (.int .i64 s5)), (.cptr [(.int .i64 (List.getD x1 (Int.toNat s5) 0))] 0), (.d (.int .i64 (List.getD x1 (Int.toNat s5) 0))), (.d (.bool ((List.getD x0 (Int.toNat s5) 0) != (List.getD x1 (Int.toNat s5) 0))))], [.dead, .dead, .dead, .dead, .dead, .dead, .dead, .dead, .dead, .dead, .dead, .dead, .dead, .dead, .dead, .dead, .dead, .dead, .dead, .dead, .dead, .dead, .dead, .dead, .dead, .dead, .dead, .dead, .dead, .dead, .dead, .dead, .dead, .dead, .dead, .dead])
  | _ => (.exit 0, [(.d (.sl (.int .i64) x0)), (.d (.sl (.int .i64) x1)), .top, .top, .top, (.d (.int .i64 s5)), .top, .top, .top, .top, .top, (.d (.int .i64 s5)), (.d (.sl (.int .i64) x0)), (.d (.int .i64 (((List.length x0) : Nat) : Int))), (.d (.bool (decide (s5 < (((List.length x0) : Nat) : Int))))), .top, .top, .top, .top, .top, .top, .top, .top, .top, .top, .top], [])
noncomputable def lbl25_0 : AC := loopBody 35 body25

set_option maxHeartbeats 20000000 in
theorem l25_0_w0 (m n : Nat) (x0 : List Int) (x1 : List Int) (s5 : Int) (c0 : decide (s5 < (((List.length x0) : Nat) : Int)) = true) (c1 : decide (0 ≤ s5) = true) (c4 : decide (s5 < (((List.length x1) : Nat) : Int)) = true) (c5 : ((List.getD x0 (Int.toNat s5) 0) != (List.getD x1 (Int.toNat s5) 0)) = true) : (turns (hds 25 35) 0 35 (evC byref (evCall F S5 (m + 24)) (m + 24) 0 (hds 25) lbl25_0) (n + 1) (l25_0H x0 x1 s5) (l25_0B x0 x1 s5)).run = some (.ret, [(.d (.sl (.int .i64) x0)), (.d (.sl (.int .i64) x1)), .top, .top, (.d (.bool false)), (.d (.int .i64 s5)), .top, .top, .top, .top, .top, (.d (.int .i64 s5)), (.d (.sl (.int .i64) x0)), (.d (.int .i64 (((List.length x0) : Nat) : Int))), (.d (.bool (decide (s5 < (((List.length x0) : Nat) : Int))))), .top, .top, (.d (.sl (.int .i64) x0)), (.d (.int .i64 s5)), (.cptr [(.int .i64 (List.getD x0 (Int.toNat s5) 0))] 0), (.d (.int .i64 (List.getD x0 (Int.toNat s5) 0))), (.d (.sl (.int .i64) x1)), (.d (.int .i64 s5)), (.cptr [(.int .i64 (List.getD x1 (Int.toNat s5) 0))] 0), (.d (.int .i64 (List.getD x1 (Int.toNat s5) 0))), (.d (.bool ((List.getD x0 (Int.toNat s5) 0) != (List.getD x1 (Int.toNat s5) 0))))], [.dead, .dead, .dead, .dead, .dead, .dead, .dead, .dead, .dead, .dead, .dead, .dead, .dead, .dead, .dead, .dead, .dead, .dead, .dead, .dead, .dead, .dead, .dead, .dead, .dead, .dead, .dead, .dead, .dead, .dead, .dead, .dead, .dead, .dead, .dead, .dead]) := by
  exact turns_last (by simp) (M.run_of_path _ [true, true, true, true, true, true] _ _ (by kernel_rfl) (all_t c0 (all_t c1 (all_t c0 (all_t c1 (all_t c4 (all_t c5 all_nil))))))) 
set_option maxHeartbeats 20000000 in
theorem l25_0_w1 (m n : Nat) (x0 : List Int) (x1 : List Int) (s5 : Int) (r : AEx × Env × Boxes) (c0 : decide (s5 < (((List.length x0) : Nat) : Int)) = true) (c1 : decide (0 ≤ s5) = true) (c4 : decide (s5 < (((List.length x1) : Nat) : Int)) = true) (c5 : ¬ ((List.getD x0 (Int.toNat s5) 0) != (List.getD x1 (Int.toNat s5) 0)) = true) (ih : (turns (hds 25 35) 0 35 (evC byref (evCall F S5 (m + 24)) (m + 24) 0 (hds 25) lbl25_0) n (l25_0H x0 x1 ((IntKind.wrap .i64 (s5 + (1))))) (l25_0B x0 x1 ((IntKind.wrap .i64 (s5 + (1)))))).run = some r) : (turns (hds 25 35) 0 35 (evC byref (evCall F S5 (m + 24)) (m + 24) 0 (hds 25) lbl25_0) (n + 1) (l25_0H x0 x1 s5) (l25_0B x0 x1 s5)).run = some r := by
  exact turns_step (M.run_of_path _ [true, true, true, true, true, false] _ _ (by kernel_rfl) (all_t c0 (all_t c1 (all_t c0 (all_t c1 (all_t c4 (all_f c5 all_nil))))))) ih
set_option maxHeartbeats 20000000 in
theorem l25_0_w2 (m n : Nat) (x0 : List Int) (x1 : List Int) (s5 : Int) (c0 : ¬ decide (s5 < (((List.length x0) : Nat) : Int)) = true) : (turns (hds 25 35) 0 35 (evC byref (evCall F S5 (m + 24)) (m + 24) 0 (hds 25) lbl25_0) (n + 1) (l25_0H x0 x1 s5) (l25_0B x0 x1 s5)).run = some (.exit 0, [(.d (.sl (.int .i64) x0)), (.d (.sl (.int .i64) x1)), .top, .top, .top, (.d (.int .i64 s5)), .top, .top, .top, .top, .top, (.d (.int .i64 s5)), (.d (.sl (.int .i64) x0)), (.d (.int .i64 (((List.length x0) : Nat) : Int))), (.d (.bool (decide (s5 < (((List.length x0) : Nat) : Int))))), .top, .top, .top, .top, .top, .top, .top, .top, .top, .top, .top], []) := by
  exact turns_last (by simp) (M.run_of_path _ [false] _ _ (by kernel_rfl) (all_f c0 all_nil)) 

set_option maxHeartbeats 20000000 in
theorem l25_0_step (m n : Nat) (ih : ∀ (x0 : List Int) (x1 : List Int) (s5 : Int) (q : Nat × Int), l25_0 m n x0 x1 s5 = some q → (turns (hds 25 35) 0 35 (evC byref (evCall F S5 (m + 24)) (m + 24) 0 (hds 25) lbl25_0) n (l25_0H x0 x1 s5) (l25_0B x0 x1 s5)).run = some (l25_0E (x0) (x1) (q.2) q.1)) (x0 : List Int) (x1 : List Int) (s5 : Int) (q : Nat × Int) (h : l25_0 m (n + 1) x0 x1 s5 = some q) : (turns (hds 25 35) 0 35 (evC byref (evCall F S5 (m + 24)) (m + 24) 0 (hds 25) lbl25_0) (n + 1) (l25_0H x0 x1 s5) (l25_0B x0 x1 s5)).run = some (l25_0E (x0) (x1) (q.2) q.1) := by
  rw [l25_0] at h
  refine ite_cases h (fun c0 h => ?_) (fun c0 h => ?_)
  · skip
    refine ite_cases h (fun c1 h => ?_) (fun c1 h => ?_)
    · skip
      refine ite_cases h (fun c4 h => ?_) (fun c4 h => ?_)
      · skip
        refine ite_cases h (fun c5 h => ?_) (fun c5 h => ?_)
        · skip
          cases h
          exact l25_0_w0 m n x0 x1 s5 c0 c1 c4 c5
        · skip
          exact l25_0_w1 m n x0 x1 s5 _ c0 c1 c4 c5 (ih _ _ _ q h)
      · skip
        cases h
    · skip
      cases h
  · skip
    cases h
    exact l25_0_w2 m n x0 x1 s5 c0
set_option maxHeartbeats 20000000 in
theorem l25_0_ok (m : Nat) : ∀ (n : Nat) (x0 : List Int) (x1 : List Int) (s5 : Int) (q : Nat × Int), l25_0 m n x0 x1 s5 = some q → (turns (hds 25 35) 0 35 (evC byref (evCall F S5 (m + 24)) (m + 24) 0 (hds 25) lbl25_0) n (l25_0H x0 x1 s5) (l25_0B x0 x1 s5)).run = some (l25_0E (x0) (x1) (q.2) q.1)
  | 0, x0, x1, s5, q, h => by cases h
  | n + 1, x0, x1, s5, q, h => l25_0_step m n (l25_0_ok m n) x0 x1 s5 q h

def p25 (m : Nat) (x0 : List Int) (x1 : List Int) : Option (Bool) :=
  if ((((List.length x0) : Nat) : Int) != (((List.length x1) : Nat) : Int)) = true then
    some (false)
  else
    if (Option.isSome (l25_0 m (m + 24) x0 x1 0)) = true then
      if ((l25_0R m (m + 24) x0 x1 0).1 == 0) = true then
        some (false)
      else
        if ((l25_0R m (m + 24) x0 x1 0).1 == 1) = true then
          some (true)
        else
          none
    else
      none
set_option maxHeartbeats 20000000 in
theorem p25_ok (m : Nat) (x0 : List Int) (x1 : List Int) (q : Bool) (h : p25 m x0 x1 = some q) : ∃ r B1, (evCall F S5 (m + 25) 25 [(.d (.sl (.int .i64) x0)), (.d (.sl (.int .i64) x1))] []).run = some (r, B1) ∧ 0 ≤ B1.length ∧ wkR B1 [] r (.d (.bool (q))) ∧ wkBs B1 [] 0 [] := by
  unfold p25 at h
  refine ite_cases h (fun c0 h => ?_) (fun c0 h => ?_)
  · skip
    cases h
    refine ⟨(.d (.bool false)), [], runT_ok (LS := (fun k => none)) (fn := fn25) (vis := []) (by kernel_rfl) rfl (by kernel_rfl) (M.run_of_path _ [true] _ _ (by kernel_rfl) (all_t c0 all_nil)) ?_, by simp, (wkR.one (wkV.one (wk1.eq rfl))), trivial⟩
    intro p hp; cases hp
  · skip
    refine ite_cases h (fun c1 h => ?_) (fun c1 h => ?_)
    · skip
      refine ite_cases h (fun c2 h => ?_) (fun c2 h => ?_)
      · skip
        cases h
        refine ⟨(.d (.bool false)), [], runT_ok (LS := (fun k => if k = 35 then some (l25_0E x0 x1 ((l25_0R m (m + 24) x0 x1 0).2) 0) else none)) (fn := fn25) (vis := [(35, l25_0H x0 x1 0, l25_0B x0 x1 0)]) (by kernel_rfl) rfl (by kernel_rfl) (M.run_of_path _ [false] _ _ (by kernel_rfl) (all_f c0 all_nil)) ?_, by simp, (wkR.one (wkV.one (wk1.eq rfl))), trivial⟩
        intro p hp p2 hq
        rcases List.mem_cons.1 hp with rfl | hp
        · skip
          have h3 := l25_0_ok m (m + 24) x0 x1 0 _ (some_getD (d := l25_0D) c1)
          rw [eq_of_beq c2] at h3
          exact Eq.trans (Eq.mp (by kernel_rfl) h3) hq
        cases hp
      · skip
        refine ite_cases h (fun c3 h => ?_) (fun c3 h => ?_)
        · skip
          cases h
          refine ⟨(.d (.bool true)), [], runT_ok (LS := (fun k => if k = 35 then some (l25_0E x0 x1 ((l25_0R m (m + 24) x0 x1 0).2) 1) else none)) (fn := fn25) (vis := [(35, l25_0H x0 x1 0, l25_0B x0 x1 0)]) (by kernel_rfl) rfl (by kernel_rfl) (M.run_of_path _ [false] _ _ (by kernel_rfl) (all_f c0 all_nil)) ?_, by simp, (wkR.one (wkV.one (wk1.eq rfl))), trivial⟩
          intro p hp p2 hq
          rcases List.mem_cons.1 hp with rfl | hp
          · skip
            have h3 := l25_0_ok m (m + 24) x0 x1 0 _ (some_getD (d := l25_0D) c1)
            rw [eq_of_beq c3] at h3
            exact Eq.trans (Eq.mp (by kernel_rfl) h3) hq
          cases hp
        · skip
          cases h
    · skip
      cases h

theorem eq25_loop (m : Nat) (a b : List (Int)) (hl : a.length = b.length) (hb : a.length < 4611686018427387904) : ∀ n k, k ≤ a.length → a.length - k < n → ∃ j, l25_0 m n a b (k : Nat) = some (if a.drop k == b.drop k then 1 else 0, j)
  | 0, k, _, h => by omega
  | n + 1, k, hk, hn => by
    rw [l25_0]
    by_cases h : k < a.length
    · skip
      have e1 : decide (((k : Nat) : Int) < ((a.length : Nat) : Int)) = true := decide_eq_true (by omega)
      have e2 : decide ((0 : Int) ≤ ((k : Nat) : Int)) = true := decide_eq_true (by omega)
      have e3 : decide (((k : Nat) : Int) < ((b.length : Nat) : Int)) = true := decide_eq_true (by omega)
      simp only [e1, e2, e3, if_true, Int.toNat_natCast]
      rw [drop_getD a k 0 h, drop_getD b k 0 (by omega)]
      have ew : IntKind.wrap .i64 (((k : Nat) : Int) + (1)) = ((k + 1 : Nat) : Int) := by rw [wrap_id (by omega) (by omega)]; rfl
      rw [ew]
      obtain ⟨j, hj⟩ := eq25_loop m a b hl hb n (k + 1) (by omega) (by omega)
      have hc : ((a.getD k 0) :: a.drop (k + 1) == (b.getD k 0) :: b.drop (k + 1)) = (((a.getD k 0) == (b.getD k 0)) && (a.drop (k + 1) == b.drop (k + 1))) := rfl
      rw [hc]
      rcases Bool.eq_false_or_eq_true ((a.getD k 0) == (b.getD k 0)) with he | he
      · exact ⟨j, by simp only [bne, he, hj]; simp⟩
      · exact ⟨(k : Nat), by simp only [bne, he]; simp⟩
    · have e1 : decide (((k : Nat) : Int) < ((a.length : Nat) : Int)) = false := decide_eq_false (by omega)
      refine ⟨(k : Nat), ?_⟩
      simp only [e1, Bool.false_eq_true, if_false]
      rw [List.drop_eq_nil_of_le (by omega), List.drop_eq_nil_of_le (by omega)]
      rfl
theorem eq25 (a b : List (Int)) (h : decide (List.length a < 4611686018427387904) = true) : ∃ m, p25 m a b = some (a == b) := by
  have hb := of_decide_eq_true h
  refine ⟨a.length, ?_⟩
  unfold p25 l25_0R
  by_cases hl : a.length = b.length
  · have e0 : ((((List.length a) : Nat) : Int) != (((List.length b) : Nat) : Int)) = false := by simp [hl]
    obtain ⟨j, hj⟩ := eq25_loop a.length a b hl hb (a.length + 24) 0 (by omega) (by omega)
    simp only [Int.natCast_zero, List.drop_zero] at hj
    rw [e0]
    simp only [Bool.false_eq_true, if_false]
    rw [hj]
    cases hab : a == b <;> simp [hab]
  · have e0 : ((((List.length a) : Nat) : Int) != (((List.length b) : Nat) : Int)) = true := by simp; omega
    rw [e0]
    have : (a == b) = false := by
      rw [beq_eq_false_iff_ne]
      intro e; rw [e] at hl; exact hl rfl
    simp [this]
def s25 : List AV → Boxes → M (AV × Boxes) := normS [.val (.sl (.int .i64)), .val (.sl (.int .i64))] [] fun xs B => match xs, B with
  | [(.d (.sl (.int .i64) c1)), (.d (.sl (.int .i64) c2))], [] => .chk (decide (List.length c1 < 4611686018427387904)) (.ret ((.d (.bool ((show List (Int) from c1) == c2))), []))
  | _, _ => .fail
theorem s25_at : CallAt Try.prog 25 s25 := by
  refine CallAt.norm (CallAt.weakE (g := fun n => evCall F S5 n 25) (fun n => evCall_atH mixed kinds hds S5 S5_ok n 25) fun xs B r' B' hr => ?_) _ _
  split at hr
  · rename_i c1 c2
    obtain ⟨hp, hr⟩ := (M.run_chk _ _ _).1 hr
    simp only [M.run, Option.some.injEq, Prod.mk.injEq] at hr
    obtain ⟨rfl, rfl⟩ := hr
    obtain ⟨m, hm⟩ := eq25 c1 c2 hp
    obtain ⟨r, B1, h1, h2, h3, h4⟩ := p25_ok m c1 c2 _ hm
    exact ⟨m + 25, r, B1, h1, by simp, h2, h3, h4⟩
  · simp [M.run] at hr
noncomputable def S6 : FuncId → Option (List AV → Boxes → M (AV × Boxes)) := fun f => if f = 25 then some s25 else S5 f
set_option maxHeartbeats 20000000 in
theorem S6_ok : ∀ f s, S6 f = some s → CallAt Try.prog f s := by
  intro f s h
  unfold S6 at h
  split at h
  · rename_i e; subst e; cases h; exact s25_at
  · exact S5_ok f s h

end Go.Proofs.Ytkppbflmlpabjaa.Dec
namespace Go.Proofs.Ytkppbflmlpabjaa.Dec
open Go.Ev
set_option linter.unusedVariables false
set_option linter.unusedSimpArgs false
set_option maxRecDepth 100000
noncomputable def fn19 : AFn := (F 19).getD ⟨0, [], .bad, false, false, noHd⟩
noncomputable def body19 : AC := fn19.body
def l19_0 (m : Nat) : Nat → Int → Int → List Int → Option (Nat × Int × (List Int))
  | 0, _, _, _ => none
  | n + 1, x1, s6, b0 => if decide (s6 < (((List.length b0) : Nat) : Int)) = true then
      if decide (0 ≤ s6) = true then
        if decide ((0 + (Int.toNat s6)) < (List.length b0)) = true then
          l19_0 m n x1 ((IntKind.wrap .i64 (s6 + (1)))) ((List.set b0 (0 + (Int.toNat s6)) x1))
        else
          none
      else
        none
    else
      some (0, s6, b0)
def l19_0D : Nat × Int × (List Int) := (0, 0, [])
@[reducible] def l19_0R (m n : Nat) (x1 : Int) (s6 : Int) (b0 : List Int) : Nat × Int × (List Int) := Option.getD (l19_0 m n x1 s6 b0) l19_0D
def l19_0H (x1 : Int) (s6 : Int) (b0 : List Int) : Env := [.top, (.d (.int .i64 x1)), .top, .top, .top, (.sr 0 0 (List.length b0) 1 none), (.d (.int .i64 s6)), .top, .top, .top, .top, .top, .top, .top, .top, .top, .top, .top, .top, .top, .top, .top, .top, .top, .top, .top, .top]
def l19_0B (x1 : Int) (s6 : Int) (b0 : List Int) : Boxes := [(.arr (.int .i64) b0 true)]
def l19_0E (x1 : Int) (s6 : Int) (b0 : List Int) : Nat → AEx × Env × Boxes
  | _ => (.exit 0, [.top, (.d (.int .i64 x1)), .top, .top, .top, (.sr 0 0 (List.length b0) 1 none), (.d (.int .i64 s6)), .top, .top, .top, .top, .top, .top, .top, .top, .top, (.d (.int .i64 s6)), (.sr 0 0 (List.length b0) 1 none), (.d (.int .i64 (((List.length b0) : Nat) : Int))), (.d (.bool (decide (s6 < (((List.length b0) : Nat) : Int))))), .top, .top, .top, .top, .top, .top, .top], [(.arr (.int .i64) b0 true)])
noncomputable def lbl19_0 : AC := loopBody 98 body19

set_option maxHeartbeats 20000000 in
theorem l19_0_w0 (m n : Nat) (x1 : Int) (s6 : Int) (b0 : List Int) (r : AEx × Env × Boxes) (c0 : decide (s6 < (((List.length b0) : Nat) : Int)) = true) (c1 : decide (0 ≤ s6) = true) (c3 : decide ((0 + (Int.toNat s6)) < (List.length b0)) = true) (ih : (turns (hds 19 98) 0 98 (evC byref (evCall F S6 (m + 24)) (m + 24) 0 (hds 19) lbl19_0) n (l19_0H x1 ((IntKind.wrap .i64 (s6 + (1)))) ((List.set b0 (0 + (Int.toNat s6)) x1))) (l19_0B x1 ((IntKind.wrap .i64 (s6 + (1)))) ((List.set b0 (0 + (Int.toNat s6)) x1)))).run = some r) : (turns (hds 19 98) 0 98 (evC byref (evCall F S6 (m + 24)) (m + 24) 0 (hds 19) lbl19_0) (n + 1) (l19_0H x1 s6 b0) (l19_0B x1 s6 b0)).run = some r := by
  have ht : (turn (hds 19 98) 0 98 (evC byref (evCall F S6 (m + 24)) (m + 24) 0 (hds 19) lbl19_0) (l19_0H x1 s6 b0) (l19_0B x1 s6 b0)).run = some (.normal, [.top, (.d (.int .i64 x1)), .top, .top, .top, (.sr 0 0 (List.length b0) 1 none), (.d (.int .i64 (IntKind.wrap .i64 (s6 + (1))))), .top, .top, .top, .top, .top, .top, .top, .top, .top, .top, .top, .top, .top, .top, .top, .top, .top, .top, .top, .top], [(.arr (.int .i64) (List.set b0 (0 + (Int.toNat s6)) x1) true)]) := M.run_of_path _ [true, true, true, true] _ _ (by kernel_rfl) (all_t c0 (all_t c1 (all_t c0 (all_t c3 all_nil))))
  refine turns_step ht (turns_eq ?_ ?_ ih)
  · unfold l19_0H
    simp
  · unfold l19_0B
    simp
set_option maxHeartbeats 20000000 in
theorem l19_0_w1 (m n : Nat) (x1 : Int) (s6 : Int) (b0 : List Int) (c0 : ¬ decide (s6 < (((List.length b0) : Nat) : Int)) = true) : (turns (hds 19 98) 0 98 (evC byref (evCall F S6 (m + 24)) (m + 24) 0 (hds 19) lbl19_0) (n + 1) (l19_0H x1 s6 b0) (l19_0B x1 s6 b0)).run = some (.exit 0, [.top, (.d (.int .i64 x1)), .top, .top, .top, (.sr 0 0 (List.length b0) 1 none), (.d (.int .i64 s6)), .top, .top, .top, .top, .top, .top, .top, .top, .top, (.d (.int .i64 s6)), (.sr 0 0 (List.length b0) 1 none), (.d (.int .i64 (((List.length b0) : Nat) : Int))), (.d (.bool (decide (s6 < (((List.length b0) : Nat) : Int))))), .top, .top, .top, .top, .top, .top, .top], [(.arr (.int .i64) b0 true)]) := by
  exact turns_last (by simp) (M.run_of_path _ [false] _ _ (by kernel_rfl) (all_f c0 all_nil)) 

set_option maxHeartbeats 20000000 in
theorem l19_0_step (m n : Nat) (ih : ∀ (x1 : Int) (s6 : Int) (b0 : List Int) (q : Nat × Int × (List Int)), l19_0 m n x1 s6 b0 = some q → (turns (hds 19 98) 0 98 (evC byref (evCall F S6 (m + 24)) (m + 24) 0 (hds 19) lbl19_0) n (l19_0H x1 s6 b0) (l19_0B x1 s6 b0)).run = some (l19_0E (x1) (q.2.1) (q.2.2) q.1)) (x1 : Int) (s6 : Int) (b0 : List Int) (q : Nat × Int × (List Int)) (h : l19_0 m (n + 1) x1 s6 b0 = some q) : (turns (hds 19 98) 0 98 (evC byref (evCall F S6 (m + 24)) (m + 24) 0 (hds 19) lbl19_0) (n + 1) (l19_0H x1 s6 b0) (l19_0B x1 s6 b0)).run = some (l19_0E (x1) (q.2.1) (q.2.2) q.1) := by
  rw [l19_0] at h
  refine ite_cases h (fun c0 h => ?_) (fun c0 h => ?_)
  · skip
    refine ite_cases h (fun c1 h => ?_) (fun c1 h => ?_)
    · skip
      refine ite_cases h (fun c3 h => ?_) (fun c3 h => ?_)
      · skip
        exact l19_0_w0 m n x1 s6 b0 _ c0 c1 c3 (ih _ _ _ q h)
      · skip
        cases h
    · skip
      cases h
  · skip
    cases h
    exact l19_0_w1 m n x1 s6 b0 c0
set_option maxHeartbeats 20000000 in
theorem l19_0_ok (m : Nat) : ∀ (n : Nat) (x1 : Int) (s6 : Int) (b0 : List Int) (q : Nat × Int × (List Int)), l19_0 m n x1 s6 b0 = some q → (turns (hds 19 98) 0 98 (evC byref (evCall F S6 (m + 24)) (m + 24) 0 (hds 19) lbl19_0) n (l19_0H x1 s6 b0) (l19_0B x1 s6 b0)).run = some (l19_0E (x1) (q.2.1) (q.2.2) q.1)
  | 0, x1, s6, b0, q, h => by cases h
  | n + 1, x1, s6, b0, q, h => l19_0_step m n (l19_0_ok m n) x1 s6 b0 q h

def p19 (m : Nat) (x0 : List Int) (x1 : Int) : Option ((List Int)) :=
  if (decide (0 ≤ (IntKind.wrap .i64 ((((List.length x0) : Nat) : Int) + (80)))) && decide ((IntKind.wrap .i64 ((((List.length x0) : Nat) : Int) + (80))) ≤ (IntKind.wrap .i64 ((((List.length x0) : Nat) : Int) + (80))))) = true then
    if (decide (((IntKind.wrap .i64 ((((List.length x0) : Nat) : Int) + (80))) * 8) ≤ 70368744177664) && decide ((IntKind.wrap .i64 ((((List.length x0) : Nat) : Int) + (80))) ≤ 70368744177664)) = true then
      if decide (0 ≤ (List.length (List.replicate (Int.toNat (IntKind.wrap .i64 ((((List.length x0) : Nat) : Int) + (80)))) 0))) = true then
        if decide ((min (List.length x0) (Int.toNat (IntKind.wrap .i64 ((((List.length x0) : Nat) : Int) + (80))))) ≤ (List.length x0)) = true then
          if (Option.isSome (l19_0 m (m + 24) x1 ((((List.length x0) : Nat) : Int)) ((splice (List.replicate (Int.toNat (IntKind.wrap .i64 ((((List.length x0) : Nat) : Int) + (80)))) 0) 0 (List.take (min (List.length x0) (Int.toNat (IntKind.wrap .i64 ((((List.length x0) : Nat) : Int) + (80))))) x0))))) = true then
            some ((List.take (List.length (l19_0R m (m + 24) x1 ((((List.length x0) : Nat) : Int)) ((splice (List.replicate (Int.toNat (IntKind.wrap .i64 ((((List.length x0) : Nat) : Int) + (80)))) 0) 0 (List.take (min (List.length x0) (Int.toNat (IntKind.wrap .i64 ((((List.length x0) : Nat) : Int) + (80))))) x0)))).2.2) (List.drop 0 (l19_0R m (m + 24) x1 ((((List.length x0) : Nat) : Int)) ((splice (List.replicate (Int.toNat (IntKind.wrap .i64 ((((List.length x0) : Nat) : Int) + (80)))) 0) 0 (List.take (min (List.length x0) (Int.toNat (IntKind.wrap .i64 ((((List.length x0) : Nat) : Int) + (80))))) x0)))).2.2)))
          else
            none
        else
          none
      else
        none
    else
      none
  else
    none
set_option maxHeartbeats 20000000 in
theorem p19_ok (m : Nat) (x0 : List Int) (x1 : Int) (q : (List Int)) (h : p19 m x0 x1 = some q) : ∃ r B1, (evCall F S6 (m + 25) 19 [(.d (.sl (.int .i64) x0)), (.d (.int .i64 x1))] []).run = some (r, B1) ∧ 0 ≤ B1.length ∧ wkR B1 [] r (.d (.sl (.int .i64) q)) ∧ wkBs B1 [] 0 [] := by
  unfold p19 at h
  refine ite_cases h (fun c0 h => ?_) (fun c0 h => ?_)
  · skip
    refine ite_cases h (fun c1 h => ?_) (fun c1 h => ?_)
    · skip
      refine ite_cases h (fun c2 h => ?_) (fun c2 h => ?_)
      · skip
        refine ite_cases h (fun c3 h => ?_) (fun c3 h => ?_)
        · skip
          refine ite_cases h (fun c4 h => ?_) (fun c4 h => ?_)
          · skip
            cases h
            refine ⟨(.d (.sl (.int .i64) (List.take (List.length (l19_0R m (m + 24) x1 ((((List.length x0) : Nat) : Int)) ((splice (List.replicate (Int.toNat (IntKind.wrap .i64 ((((List.length x0) : Nat) : Int) + (80)))) 0) 0 (List.take (min (List.length x0) (Int.toNat (IntKind.wrap .i64 ((((List.length x0) : Nat) : Int) + (80))))) x0)))).2.2) (List.drop 0 (l19_0R m (m + 24) x1 ((((List.length x0) : Nat) : Int)) ((splice (List.replicate (Int.toNat (IntKind.wrap .i64 ((((List.length x0) : Nat) : Int) + (80)))) 0) 0 (List.take (min (List.length x0) (Int.toNat (IntKind.wrap .i64 ((((List.length x0) : Nat) : Int) + (80))))) x0)))).2.2)))), [], runT_ok (LS := (fun k => if k = 98 then some (l19_0E x1 ((l19_0R m (m + 24) x1 ((((List.length x0) : Nat) : Int)) ((splice (List.replicate (Int.toNat (IntKind.wrap .i64 ((((List.length x0) : Nat) : Int) + (80)))) 0) 0 (List.take (min (List.length x0) (Int.toNat (IntKind.wrap .i64 ((((List.length x0) : Nat) : Int) + (80))))) x0)))).2.1) ((l19_0R m (m + 24) x1 ((((List.length x0) : Nat) : Int)) ((splice (List.replicate (Int.toNat (IntKind.wrap .i64 ((((List.length x0) : Nat) : Int) + (80)))) 0) 0 (List.take (min (List.length x0) (Int.toNat (IntKind.wrap .i64 ((((List.length x0) : Nat) : Int) + (80))))) x0)))).2.2) 0) else none)) (fn := fn19) (vis := [(98, [.top, (.d (.int .i64 x1)), .top, .top, .top, (.sr 0 0 (Int.toNat (IntKind.wrap .i64 ((((List.length x0) : Nat) : Int) + (80)))) 1 none), (.d (.int .i64 (((List.length x0) : Nat) : Int))), .top, .top, .top, .top, .top, .top, .top, .top, .top, .top, .top, .top, .top, .top, .top, .top, .top, .top, .top, .top], [(.arr (.int .i64) (splice (List.replicate (Int.toNat (IntKind.wrap .i64 ((((List.length x0) : Nat) : Int) + (80)))) 0) 0 (List.take (min (List.length x0) (Int.toNat (IntKind.wrap .i64 ((((List.length x0) : Nat) : Int) + (80))))) x0)) true)])]) (by kernel_rfl) rfl (by kernel_rfl) (M.run_of_path _ [true, true, true, true, true] _ _ (by kernel_rfl) (all_t c0 (all_t c1 (all_t c2 (all_t c3 (all_t (show decide ((0 + (List.length (l19_0R m (m + 24) x1 ((((List.length x0) : Nat) : Int)) ((splice (List.replicate (Int.toNat (IntKind.wrap .i64 ((((List.length x0) : Nat) : Int) + (80)))) 0) 0 (List.take (min (List.length x0) (Int.toNat (IntKind.wrap .i64 ((((List.length x0) : Nat) : Int) + (80))))) x0)))).2.2)) ≤ (List.length (l19_0R m (m + 24) x1 ((((List.length x0) : Nat) : Int)) ((splice (List.replicate (Int.toNat (IntKind.wrap .i64 ((((List.length x0) : Nat) : Int) + (80)))) 0) 0 (List.take (min (List.length x0) (Int.toNat (IntKind.wrap .i64 ((((List.length x0) : Nat) : Int) + (80))))) x0)))).2.2)) = true from decide_eq_true (Nat.le_of_eq (Nat.zero_add _))) all_nil)))))) ?_, by simp, (wkR.one (wkV.one (wk1.eq rfl))), trivial⟩
            intro p hp p2 hq
            rcases List.mem_cons.1 hp with rfl | hp
            · skip
              have h3 := l19_0_ok m (m + 24) x1 ((((List.length x0) : Nat) : Int)) ((splice (List.replicate (Int.toNat (IntKind.wrap .i64 ((((List.length x0) : Nat) : Int) + (80)))) 0) 0 (List.take (min (List.length x0) (Int.toNat (IntKind.wrap .i64 ((((List.length x0) : Nat) : Int) + (80))))) x0))) _ (some_getD (d := l19_0D) c4)
              have h3 := turns_eq (e := [.top, (.d (.int .i64 x1)), .top, .top, .top, (.sr 0 0 (Int.toNat (IntKind.wrap .i64 ((((List.length x0) : Nat) : Int) + (80)))) 1 none), (.d (.int .i64 (((List.length x0) : Nat) : Int))), .top, .top, .top, .top, .top, .top, .top, .top, .top, .top, .top, .top, .top, .top, .top, .top, .top, .top, .top, .top]) (B := [(.arr (.int .i64) (splice (List.replicate (Int.toNat (IntKind.wrap .i64 ((((List.length x0) : Nat) : Int) + (80)))) 0) 0 (List.take (min (List.length x0) (Int.toNat (IntKind.wrap .i64 ((((List.length x0) : Nat) : Int) + (80))))) x0)) true)]) (by unfold l19_0H; (try rw [show (List.length (splice (List.replicate (Int.toNat (IntKind.wrap .i64 ((((List.length x0) : Nat) : Int) + (80)))) 0) 0 (List.take (min (List.length x0) (Int.toNat (IntKind.wrap .i64 ((((List.length x0) : Nat) : Int) + (80))))) x0))) = (Int.toNat (IntKind.wrap .i64 ((((List.length x0) : Nat) : Int) + (80)))) from by simp [splice] <;> omega])) rfl h3
              exact Eq.trans (Eq.mp (by kernel_rfl) h3) hq
            cases hp
          · skip
            cases h
        · skip
          cases h
      · skip
        cases h
    · skip
      cases h
  · skip
    cases h

/-- A list with room behind it. -/
def roomyG (l : List Int) (z : Int) : List Int := l ++ List.replicate 80 z
theorem roomy_loop (m : Nat) (z : Int) : ∀ (n : Nat) (pre post : List Int), post.length < n → pre.length + post.length ≤ 2000000 → ∃ j, l19_0 m n z ((pre.length : Nat) : Int) (pre ++ post) = some (0, j, pre ++ List.replicate post.length z)
  | 0, pre, post, h, _ => by omega
  | n + 1, pre, [], h, hb => by
    rw [l19_0]
    have e1 : decide (((pre.length : Nat) : Int) < (((List.length (pre ++ [])) : Nat) : Int)) = false := decide_eq_false (by simp)
    rw [e1, if_neg (by simp)]
    exact ⟨_, rfl⟩
  | n + 1, pre, x :: post, h, hb => by
    rw [l19_0]
    simp only [List.length_cons] at h hb
    have e1 : decide (((pre.length : Nat) : Int) < (((List.length (pre ++ x :: post)) : Nat) : Int)) = true := decide_eq_true (by simp; omega)
    have e2 : decide ((0 : Int) ≤ ((pre.length : Nat) : Int)) = true := decide_eq_true (by omega)
    have e3 : decide ((0 + pre.length) < (List.length (pre ++ x :: post))) = true := decide_eq_true (by simp)
    have e7 : IntKind.wrap .i64 (((pre.length : Nat) : Int) + (1)) = (((pre ++ [z]).length : Nat) : Int) := by rw [wrap_id (by omega) (by omega)]; simp
    have e8 : (pre ++ x :: post).set (0 + pre.length) z = (pre ++ [z]) ++ post := by simp
    rw [show Int.toNat ((pre.length : Nat) : Int) = pre.length from rfl, e7, e8, if_pos e1, if_pos e2, if_pos e3]
    obtain ⟨j, hj⟩ := roomy_loop m z n (pre ++ [z]) post (by omega) (by simp; omega)
    exact ⟨j, by rw [hj]; simp [List.replicate_succ]⟩
theorem roomy19 (l : List Int) (z : Int) (h : decide (l.length ≤ 1000000) = true) : ∃ m, p19 m l z = some (roomyG l z) := by
  have h := of_decide_eq_true h
  refine ⟨100, ?_⟩
  have ew : IntKind.wrap .i64 ((((List.length l) : Nat) : Int) + (80)) = ((l.length + 80 : Nat) : Int) := by rw [wrap_id (by omega) (by omega)]; rfl
  have et : Int.toNat ((l.length + 80 : Nat) : Int) = l.length + 80 := rfl
  have em : min (List.length l) (l.length + 80) = l.length := by omega
  have es : splice (List.replicate (l.length + 80) 0) 0 (List.take l.length l) = l ++ List.replicate 80 0 := by
    simp [splice, List.drop_replicate]
  obtain ⟨j, hj⟩ := roomy_loop 100 z (100 + 24) l (List.replicate 80 0) (by simp) (by simp; omega)
  simp only [List.length_replicate] at hj
  have e1 : (decide ((0 : Int) ≤ ((l.length + 80 : Nat) : Int)) && decide (((l.length + 80 : Nat) : Int) ≤ ((l.length + 80 : Nat) : Int))) = true := by simp; omega
  have e2 : (decide ((((l.length + 80 : Nat) : Int) * 8) ≤ 70368744177664) && decide (((l.length + 80 : Nat) : Int) ≤ 70368744177664)) = true := by simp; omega
  have e3 : decide (0 ≤ (List.length (List.replicate (l.length + 80) (0 : Int)))) = true := decide_eq_true (by omega)
  have e4 : decide (l.length ≤ l.length) = true := decide_eq_true (by omega)
  unfold p19 l19_0R roomyG
  generalize List.replicate 80 z = R at *
  simp only [ew, et, em, es, e1, e2, e3, e4, hj, Option.isSome_some, Option.getD_some, ↓reduceIte]
  rw [List.drop_zero, List.take_length]
  rfl
def s19 : List AV → Boxes → M (AV × Boxes) := normS [.val (.sl (.int .i64)), .val (.int .i64)] [] fun xs B => match xs, B with
  | [(.d (.sl (.int .i64) c1)), (.d (.int .i64 c2))], [] => .chk (decide (List.length c1 ≤ 1000000)) (.ret ((.d (.sl (.int .i64) (roomyG c1 c2))), []))
  | _, _ => .fail
theorem s19_at : CallAt Try.prog 19 s19 := by
  refine CallAt.norm (CallAt.weakE (g := fun n => evCall F S6 n 19) (fun n => evCall_atH mixed kinds hds S6 S6_ok n 19) fun xs B r' B' hr => ?_) _ _
  split at hr
  · rename_i c1 c2
    obtain ⟨hp, hr⟩ := (M.run_chk _ _ _).1 hr
    simp only [M.run, Option.some.injEq, Prod.mk.injEq] at hr
    obtain ⟨rfl, rfl⟩ := hr
    obtain ⟨m, hm⟩ := roomy19 c1 c2 hp
    obtain ⟨r, B1, h1, h2, h3, h4⟩ := p19_ok m c1 c2 _ hm
    exact ⟨m + 25, r, B1, h1, by simp, h2, h3, h4⟩
  · simp [M.run] at hr
noncomputable def S7 : FuncId → Option (List AV → Boxes → M (AV × Boxes)) := fun f => if f = 19 then some s19 else S6 f
set_option maxHeartbeats 20000000 in
theorem S7_ok : ∀ f s, S7 f = some s → CallAt Try.prog f s := by
  intro f s h
  unfold S7 at h
  split at h
  · rename_i e; subst e; cases h; exact s19_at
  · exact S6_ok f s h

noncomputable def fn23 : AFn := (F 23).getD ⟨0, [], .bad, false, false, noHd⟩
noncomputable def body23 : AC := fn23.body
def l23_0 (m : Nat) : Nat → List Int → Int → Int → Option (Nat × Int)
  | 0, _, _, _ => none
  | n + 1, x0, x2, s7 => if decide (s7 < (((List.length x0) : Nat) : Int)) = true then
      if decide (0 ≤ s7) = true then
        if ((List.getD x0 (Int.toNat s7) 0) != x2) = true then
          some (0, s7)
        else
          l23_0 m n x0 x2 ((IntKind.wrap .i64 (s7 + (1))))
      else
        none
    else
      some (1, s7)
def l23_0D : Nat × Int := (0, 0)
@[reducible] def l23_0R (m n : Nat) (x0 : List Int) (x2 : Int) (s7 : Int) : Nat × Int := Option.getD (l23_0 m n x0 x2 s7) l23_0D
def l23_0H (x0 : List Int) (x2 : Int) (s7 : Int) : Env := [(.d (.sl (.int .i64) x0)), .top, (.d (.int .i64 x2)), .top, .top, .top, .top, (.d (.int .i64 s7)), .top, .top, .top, .top, .top, .top, .top, .top, .top, .top, .top, .top, .top, .top, .top, .top, .top, .top, .top, .top, .top, .top, .top, .top, .top, .top, .top, .top, .top]
def l23_0B (x0 : List Int) (x2 : Int) (s7 : Int) : Boxes := []
def l23_0E (x0 : List Int) (x2 : Int) (s7 : Int) : Nat → AEx × Env × Boxes
  | 0 => (.ret, [(.d (.sl (.int .i64) x0)), .top, (.d (.int .i64 x2)), .top, .top, .top, (.d (.bool false)), (.d (.int .i64 s7)), .top, .top, .top, .top, .top, .top, .top, .top, .top, .top, .top, .top, .top, .top, .top, .top, .top, (.d (.int .i64 s7)), (.d (.sl (.int .i64) x0)), (.d (.int .i64 (((List.length x0) : Nat) : Int))), (.d (.bool (decide (s7 < (((List.length x0) : Nat) : Int))))), .top, .top, (.d (.sl (.int .i64) x0)), (.d (.int .i64 s7)), (.cptr [(.int .i64 (List.getD x0 (Int.toNat s7) 0))] 0), (.d (.int .i64 (List.getD x0 (Int.toNat s7) 0))), (.d (.int .i64 x2)), (.d (.bool ((List.getD x0 (Int.toNat s7) 0) != x2)))], [])
  | _ => (.exit 0, [(.d (.sl (.int .i64) x0)), .top, (.d (.int .i64 x2)), .top, .top, .top, .top, (.d (.int .i64 s7)), .top, .top, .top, .top, .top, .top, .top, .top, .top, .top, .top, .top, .top, .top, .top, .top, .top, (.d (.int .i64 s7)), (.d (.sl (.int .i64) x0)), (.d (.int .i64 (((List.length x0) : Nat) : Int))), (.d (.bool (decide (s7 < (((List.length x0) : Nat) : Int))))), .top, .top, .top, .top, .top, .top, .top, .top], [])
noncomputable def lbl23_0 : AC := loopBody 133 body23

set_option maxHeartbeats 20000000 in
theorem l23_0_w0 (m n : Nat) (x0 : List Int) (x2 : Int) (s7 : Int) (c0 : decide (s7 < (((List.length x0) : Nat) : Int)) = true) (c1 : decide (0 ≤ s7) = true) (c3 : ((List.getD x0 (Int.toNat s7) 0) != x2) = true) : (turns (hds 23 133) 0 133 (evC byref (evCall F S7 (m + 24)) (m + 24) 0 (hds 23) lbl23_0) (n + 1) (l23_0H x0 x2 s7) (l23_0B x0 x2 s7)).run = some (.ret, [(.d (.sl (.int .i64) x0)), .top, (.d (.int .i64 x2)), .top, .top, .top, (.d (.bool false)), (.d (.int .i64 s7)), .top, .top, .top, .top, .top, .top, .top, .top, .top, .top, .top, .top, .top, .top, .top, .top, .top, (.d (.int .i64 s7)), (.d (.sl (.int .i64) x0)), (.d (.int .i64 (((List.length x0) : Nat) : Int))), (.d (.bool (decide (s7 < (((List.length x0) : Nat) : Int))))), .top, .top, (.d (.sl (.int .i64) x0)), (.d (.int .i64 s7)), (.cptr [(.int .i64 (List.getD x0 (Int.toNat s7) 0))] 0), (.d (.int .i64 (List.getD x0 (Int.toNat s7) 0))), (.d (.int .i64 x2)), (.d (.bool ((List.getD x0 (Int.toNat s7) 0) != x2)))], []) := by
  exact turns_last (by simp) (M.run_of_path _ [true, true, true, true] _ _ (by kernel_rfl) (all_t c0 (all_t c1 (all_t c0 (all_t c3 all_nil))))) 
set_option maxHeartbeats 20000000 in
theorem l23_0_w1 (m n : Nat) (x0 : List Int) (x2 : Int) (s7 : Int) (r : AEx × Env × Boxes) (c0 : decide (s7 < (((List.length x0) : Nat) : Int)) = true) (c1 : decide (0 ≤ s7) = true) (c3 : ¬ ((List.getD x0 (Int.toNat s7) 0) != x2) = true) (ih : (turns (hds 23 133) 0 133 (evC byref (evCall F S7 (m + 24)) (m + 24) 0 (hds 23) lbl23_0) n (l23_0H x0 x2 ((IntKind.wrap .i64 (s7 + (1))))) (l23_0B x0 x2 ((IntKind.wrap .i64 (s7 + (1)))))).run = some r) : (turns (hds 23 133) 0 133 (evC byref (evCall F S7 (m + 24)) (m + 24) 0 (hds 23) lbl23_0) (n + 1) (l23_0H x0 x2 s7) (l23_0B x0 x2 s7)).run = some r := by
  exact turns_step (M.run_of_path _ [true, true, true, false] _ _ (by kernel_rfl) (all_t c0 (all_t c1 (all_t c0 (all_f c3 all_nil))))) ih
set_option maxHeartbeats 20000000 in
theorem l23_0_w2 (m n : Nat) (x0 : List Int) (x2 : Int) (s7 : Int) (c0 : ¬ decide (s7 < (((List.length x0) : Nat) : Int)) = true) : (turns (hds 23 133) 0 133 (evC byref (evCall F S7 (m + 24)) (m + 24) 0 (hds 23) lbl23_0) (n + 1) (l23_0H x0 x2 s7) (l23_0B x0 x2 s7)).run = some (.exit 0, [(.d (.sl (.int .i64) x0)), .top, (.d (.int .i64 x2)), .top, .top, .top, .top, (.d (.int .i64 s7)), .top, .top, .top, .top, .top, .top, .top, .top, .top, .top, .top, .top, .top, .top, .top, .top, .top, (.d (.int .i64 s7)), (.d (.sl (.int .i64) x0)), (.d (.int .i64 (((List.length x0) : Nat) : Int))), (.d (.bool (decide (s7 < (((List.length x0) : Nat) : Int))))), .top, .top, .top, .top, .top, .top, .top, .top], []) := by
  exact turns_last (by simp) (M.run_of_path _ [false] _ _ (by kernel_rfl) (all_f c0 all_nil)) 

set_option maxHeartbeats 20000000 in
theorem l23_0_step (m n : Nat) (ih : ∀ (x0 : List Int) (x2 : Int) (s7 : Int) (q : Nat × Int), l23_0 m n x0 x2 s7 = some q → (turns (hds 23 133) 0 133 (evC byref (evCall F S7 (m + 24)) (m + 24) 0 (hds 23) lbl23_0) n (l23_0H x0 x2 s7) (l23_0B x0 x2 s7)).run = some (l23_0E (x0) (x2) (q.2) q.1)) (x0 : List Int) (x2 : Int) (s7 : Int) (q : Nat × Int) (h : l23_0 m (n + 1) x0 x2 s7 = some q) : (turns (hds 23 133) 0 133 (evC byref (evCall F S7 (m + 24)) (m + 24) 0 (hds 23) lbl23_0) (n + 1) (l23_0H x0 x2 s7) (l23_0B x0 x2 s7)).run = some (l23_0E (x0) (x2) (q.2) q.1) := by
  rw [l23_0] at h
  refine ite_cases h (fun c0 h => ?_) (fun c0 h => ?_)
  · skip
    refine ite_cases h (fun c1 h => ?_) (fun c1 h => ?_)
    · skip
      refine ite_cases h (fun c3 h => ?_) (fun c3 h => ?_)
      · skip
        cases h
        exact l23_0_w0 m n x0 x2 s7 c0 c1 c3
      · skip
        exact l23_0_w1 m n x0 x2 s7 _ c0 c1 c3 (ih _ _ _ q h)
    · skip
      cases h
  · skip
    cases h
    exact l23_0_w2 m n x0 x2 s7 c0
set_option maxHeartbeats 20000000 in
theorem l23_0_ok (m : Nat) : ∀ (n : Nat) (x0 : List Int) (x2 : Int) (s7 : Int) (q : Nat × Int), l23_0 m n x0 x2 s7 = some q → (turns (hds 23 133) 0 133 (evC byref (evCall F S7 (m + 24)) (m + 24) 0 (hds 23) lbl23_0) n (l23_0H x0 x2 s7) (l23_0B x0 x2 s7)).run = some (l23_0E (x0) (x2) (q.2) q.1)
  | 0, x0, x2, s7, q, h => by cases h
  | n + 1, x0, x2, s7, q, h => l23_0_step m n (l23_0_ok m n) x0 x2 s7 q h

def p23 (m : Nat) (x0 : List Int) (x1 : List Int) (x2 : Int) : Option (Bool) :=
  if ((((List.length x0) : Nat) : Int) != (IntKind.wrap .i64 ((((List.length x1) : Nat) : Int) + (80)))) = true then
    some (false)
  else
    if (decide (0 ≤ (((List.length x1) : Nat) : Int)) && decide ((((List.length x1) : Nat) : Int) ≤ (((List.length x0) : Nat) : Int))) = true then
      if decide (List.length (List.drop 0 (List.take (Int.toNat (((List.length x1) : Nat) : Int)) x0)) < 4611686018427387904) = true then
        if ((show List (Int) from (List.drop 0 (List.take (Int.toNat (((List.length x1) : Nat) : Int)) x0))) == x1) = true then
          if (Option.isSome (l23_0 m (m + 24) x0 x2 ((((List.length x1) : Nat) : Int)))) = true then
            if ((l23_0R m (m + 24) x0 x2 ((((List.length x1) : Nat) : Int))).1 == 0) = true then
              some (false)
            else
              if ((l23_0R m (m + 24) x0 x2 ((((List.length x1) : Nat) : Int))).1 == 1) = true then
                some (true)
              else
                none
          else
            none
        else
          some (false)
      else
        none
    else
      none
set_option maxHeartbeats 20000000 in
theorem p23_ok (m : Nat) (x0 : List Int) (x1 : List Int) (x2 : Int) (q : Bool) (h : p23 m x0 x1 x2 = some q) : ∃ r B1, (evCall F S7 (m + 25) 23 [(.d (.sl (.int .i64) x0)), (.d (.sl (.int .i64) x1)), (.d (.int .i64 x2))] []).run = some (r, B1) ∧ 0 ≤ B1.length ∧ wkR B1 [] r (.d (.bool (q))) ∧ wkBs B1 [] 0 [] := by
  unfold p23 at h
  refine ite_cases h (fun c0 h => ?_) (fun c0 h => ?_)
  · skip
    cases h
    refine ⟨(.d (.bool false)), [], runT_ok (LS := (fun k => none)) (fn := fn23) (vis := []) (by kernel_rfl) rfl (by kernel_rfl) (M.run_of_path _ [true, true, true, true, true, true, true, true, true] _ _ (by kernel_rfl) (all_t c0 (all_t c0 (all_t c0 (all_t c0 (all_t c0 (all_t c0 (all_t c0 (all_t c0 (all_t rfl all_nil)))))))))) ?_, by simp, (wkR.one (wkV.one (wk1.eq rfl))), trivial⟩
    intro p hp; cases hp
  · skip
    refine ite_cases h (fun c4 h => ?_) (fun c4 h => ?_)
    · skip
      refine ite_cases h (fun c7 h => ?_) (fun c7 h => ?_)
      · skip
        refine ite_cases h (fun c10 h => ?_) (fun c10 h => ?_)
        · skip
          refine ite_cases h (fun c11 h => ?_) (fun c11 h => ?_)
          · skip
            refine ite_cases h (fun c12 h => ?_) (fun c12 h => ?_)
            · skip
              cases h
              refine ⟨(.d (.bool false)), [], runT_ok (LS := (fun k => if k = 133 then some (l23_0E x0 x2 ((l23_0R m (m + 24) x0 x2 ((((List.length x1) : Nat) : Int))).2) 0) else none)) (fn := fn23) (vis := [(133, l23_0H x0 x2 ((((List.length x1) : Nat) : Int)), l23_0B x0 x2 ((((List.length x1) : Nat) : Int)))]) (by kernel_rfl) rfl (by kernel_rfl) (M.run_of_path _ [false, false, false, false, true, false, false, true, false, false, false] _ _ (by kernel_rfl) (all_f c0 (all_f c0 (all_f c0 (all_f c0 (all_t c4 (all_f c0 (all_f c0 (all_t c7 (all_f c0 (all_f c0 (all_nt c10 all_nil)))))))))))) ?_, by simp, (wkR.one (wkV.one (wk1.eq rfl))), trivial⟩
              intro p hp p2 hq
              rcases List.mem_cons.1 hp with rfl | hp
              · skip
                have h3 := l23_0_ok m (m + 24) x0 x2 ((((List.length x1) : Nat) : Int)) _ (some_getD (d := l23_0D) c11)
                rw [eq_of_beq c12] at h3
                exact Eq.trans (Eq.mp (by kernel_rfl) h3) hq
              cases hp
            · skip
              refine ite_cases h (fun c13 h => ?_) (fun c13 h => ?_)
              · skip
                cases h
                refine ⟨(.d (.bool true)), [], runT_ok (LS := (fun k => if k = 133 then some (l23_0E x0 x2 ((l23_0R m (m + 24) x0 x2 ((((List.length x1) : Nat) : Int))).2) 1) else none)) (fn := fn23) (vis := [(133, l23_0H x0 x2 ((((List.length x1) : Nat) : Int)), l23_0B x0 x2 ((((List.length x1) : Nat) : Int)))]) (by kernel_rfl) rfl (by kernel_rfl) (M.run_of_path _ [false, false, false, false, true, false, false, true, false, false, false] _ _ (by kernel_rfl) (all_f c0 (all_f c0 (all_f c0 (all_f c0 (all_t c4 (all_f c0 (all_f c0 (all_t c7 (all_f c0 (all_f c0 (all_nt c10 all_nil)))))))))))) ?_, by simp, (wkR.one (wkV.one (wk1.eq rfl))), trivial⟩
                intro p hp p2 hq
                rcases List.mem_cons.1 hp with rfl | hp
                · skip
                  have h3 := l23_0_ok m (m + 24) x0 x2 ((((List.length x1) : Nat) : Int)) _ (some_getD (d := l23_0D) c11)
                  rw [eq_of_beq c13] at h3
                  exact Eq.trans (Eq.mp (by kernel_rfl) h3) hq
                cases hp
              · skip
                cases h
          · skip
            cases h
        · skip
          cases h
          refine ⟨(.d (.bool false)), [], runT_ok (LS := (fun k => none)) (fn := fn23) (vis := []) (by kernel_rfl) rfl (by kernel_rfl) (M.run_of_path _ [false, false, false, false, true, false, false, true, false, false, true] _ _ (by kernel_rfl) (all_f c0 (all_f c0 (all_f c0 (all_f c0 (all_t c4 (all_f c0 (all_f c0 (all_t c7 (all_f c0 (all_f c0 (all_nf c10 all_nil)))))))))))) ?_, by simp, (wkR.one (wkV.one (wk1.eq rfl))), trivial⟩
          intro p hp; cases hp
      · skip
        cases h
    · skip
      cases h

/-- Is such a list as it was? -/
def intactG (f was : List Int) (z : Int) : Bool := decide (f = was ++ List.replicate 80 z)
theorem intact_loop (m : Nat) (f : List Int) (z : Int) (hb : f.length ≤ 1000000) : ∀ (n k : Nat), k ≤ f.length → f.length - k < n → ∃ j, l23_0 m n f z ((k : Nat) : Int) = some (if f.drop k = List.replicate (f.length - k) z then 1 else 0, j)
  | 0, k, _, h => by omega
  | n + 1, k, h1, h2 => by
    rw [l23_0]
    by_cases hk : k < f.length
    · have e1 : decide (((k : Nat) : Int) < (((List.length f) : Nat) : Int)) = true := decide_eq_true (by omega)
      have e2 : decide ((0 : Int) ≤ ((k : Nat) : Int)) = true := decide_eq_true (by omega)
      have e7 : IntKind.wrap .i64 (((k : Nat) : Int) + (1)) = ((k + 1 : Nat) : Int) := by rw [wrap_id (by omega) (by omega)]; rfl
      rw [drop_getD f k 0 hk, e7, if_pos e1, if_pos e2, show f.length - k = (f.length - (k + 1)) + 1 by omega, List.replicate_succ, show Int.toNat ((k : Nat) : Int) = k from rfl]
      by_cases hc : f.getD k 0 = z
      · have e3 : (f.getD k 0 != z) = false := by rw [hc]; simp
        rw [e3, if_neg (by simp)]
        obtain ⟨j, hj⟩ := intact_loop m f z hb n (k + 1) (by omega) (by omega)
        refine ⟨j, ?_⟩
        rw [hj]
        have hc' : (f.getD k 0 :: f.drop (k + 1) = z :: List.replicate (f.length - (k + 1)) z) = (f.drop (k + 1) = List.replicate (f.length - (k + 1)) z) := by rw [List.cons.injEq]; simp only [hc, true_and]
        simp only [hc']
      · have e3 : (f.getD k 0 != z) = true := by simpa using hc
        rw [e3, if_pos rfl, if_neg (by simp only [List.cons.injEq, hc, false_and, not_false_eq_true])]
        exact ⟨_, rfl⟩
    · have e1 : decide (((k : Nat) : Int) < (((List.length f) : Nat) : Int)) = false := decide_eq_false (by omega)
      rw [e1, if_neg (by simp), List.drop_eq_nil_of_le (by omega), show f.length - k = 0 by omega]
      exact ⟨_, rfl⟩
theorem intact23 (f was : List Int) (z : Int) (h : decide (f.length ≤ 1000000 ∧ was.length ≤ 1000000) = true) : ∃ m, p23 m f was z = some (intactG f was z) := by
  have ⟨h, hw⟩ := of_decide_eq_true h
  refine ⟨f.length, ?_⟩
  unfold p23 l23_0R intactG
  by_cases hl : f.length = was.length + 80
  · have ew : IntKind.wrap .i64 ((((List.length was) : Nat) : Int) + (80)) = (((List.length f) : Nat) : Int) := by rw [wrap_id (by omega) (by omega)]; omega
    have e1 : (decide ((0 : Int) ≤ (((List.length was) : Nat) : Int)) && decide ((((List.length was) : Nat) : Int) ≤ (((List.length f) : Nat) : Int))) = true := by simp; omega
    have e2 : decide (List.length (List.drop 0 (List.take was.length f)) < 4611686018427387904) = true := decide_eq_true (by simp; omega)
    have e3 : ((((List.length f) : Nat) : Int) != (((List.length f) : Nat) : Int)) = false := by simp
    obtain ⟨j, hj⟩ := intact_loop f.length f z h (f.length + 24) was.length (by omega) (by omega)
    rw [show f.length - was.length = 80 by omega] at hj
    have split : f = was ++ List.replicate 80 z ↔ f.take was.length = was ∧ f.drop was.length = List.replicate 80 z := by
      constructor
      · intro e; rw [e]; simp
      · rintro ⟨q1, q2⟩; rw [← q1, ← q2] ; simp
    have hno0 : f.take was.length ≠ was → ¬ f = was ++ List.replicate 80 z := fun q e => q (split.1 e).1
    generalize List.replicate 80 z = R at *
    rw [show Int.toNat ((was.length : Nat) : Int) = was.length from rfl, ew]
    simp only [e1, e2, e3, hj, Option.isSome_some, Option.getD_some, ↓reduceIte, Bool.false_eq_true]
    by_cases q1 : f.take was.length = was
    · by_cases q2 : f.drop was.length = R
      · simp [split, q1, q2]
      · simp [split, q1, q2]
    · simp [split, q1]
  · have ew : ((((List.length f) : Nat) : Int) != IntKind.wrap .i64 ((((List.length was) : Nat) : Int) + (80))) = true := by
      rw [wrap_id (by omega) (by omega)]; simp; omega
    have hno : ¬ f = was ++ List.replicate 80 z := fun e => hl (by rw [e]; simp)
    generalize List.replicate 80 z = R at *
    rw [if_pos ew]
    simp [hno]
def s23 : List AV → Boxes → M (AV × Boxes) := normS [.val (.sl (.int .i64)), .val (.sl (.int .i64)), .val (.int .i64)] [] fun xs B => match xs, B with
  | [(.d (.sl (.int .i64) c1)), (.d (.sl (.int .i64) c2)), (.d (.int .i64 c3))], [] => .chk (decide (List.length c1 ≤ 1000000 ∧ List.length c2 ≤ 1000000)) (.ret ((.d (.bool (intactG c1 c2 c3))), []))
  | _, _ => .fail
theorem s23_at : CallAt Try.prog 23 s23 := by
  refine CallAt.norm (CallAt.weakE (g := fun n => evCall F S7 n 23) (fun n => evCall_atH mixed kinds hds S7 S7_ok n 23) fun xs B r' B' hr => ?_) _ _
  split at hr
  · rename_i c1 c2 c3
    obtain ⟨hp, hr⟩ := (M.run_chk _ _ _).1 hr
    simp only [M.run, Option.some.injEq, Prod.mk.injEq] at hr
    obtain ⟨rfl, rfl⟩ := hr
    obtain ⟨m, hm⟩ := intact23 c1 c2 c3 hp
    obtain ⟨r, B1, h1, h2, h3, h4⟩ := p23_ok m c1 c2 c3 _ hm
    exact ⟨m + 25, r, B1, h1, by simp, h2, h3, h4⟩
  · simp [M.run] at hr
noncomputable def S8 : FuncId → Option (List AV → Boxes → M (AV × Boxes)) := fun f => if f = 23 then some s23 else S7 f
set_option maxHeartbeats 20000000 in
theorem S8_ok : ∀ f s, S8 f = some s → CallAt Try.prog f s := by
  intro f s h
  unfold S8 at h
  split at h
  · rename_i e; subst e; cases h; exact s23_at
  · exact S7_ok f s h

end Go.Proofs.Ytkppbflmlpabjaa.Dec
namespace Go.Proofs.Ytkppbflmlpabjaa.Dec
open Go.Ev
set_option linter.unusedVariables false
set_option linter.unusedSimpArgs false
set_option maxRecDepth 100000
theorem runs3 : Known Try.prog 3 [] (.d (.bool true)) := known mixed (kinds := kinds) (n := 300) S1_ok (by kernel_rfl)
def trueG : List D → M AV
  | [] => .ret (.d (.bool true))
  | _ => .fail
theorem true3 : CallAt Try.prog 3 (plainV trueG) := by
  refine plainV_at fun ds r hr => ?_
  unfold trueG at hr
  split at hr
  · simp only [M.run, Option.some.injEq] at hr
    subst hr
    exact runs3
  · simp [M.run] at hr

noncomputable def S9 : FuncId → Option (List AV → Boxes → M (AV × Boxes)) := fun f => if f = 3 then some (plainV trueG) else S8 f
set_option maxHeartbeats 20000000 in
theorem S9_ok : ∀ f s, S9 f = some s → CallAt Try.prog f s := by
  intro f s h
  unfold S9 at h
  split at h
  · rename_i e; subst e; cases h; exact true3
  · exact S8_ok f s h

end Go.Proofs.Ytkppbflmlpabjaa.Dec
namespace Go.Proofs.Ytkppbflmlpabjaa.Dec
open Go.Ev
set_option linter.unusedVariables false
set_option linter.unusedSimpArgs false
set_option maxRecDepth 100000
noncomputable def fn4 : AFn := (F 4).getD ⟨0, [], .bad, false, false, noHd⟩
noncomputable def body4 : AC := fn4.body
def l4_0 (m : Nat) : Nat → Int → Int → Int → List Int → Int → Int → Int → Bool → Int → Int → List Int → Option (Nat × Int × Bool × Int)
  | 0, _, _, _, _, _, _, _, _, _, _, _ => none
  | n + 1, x1, x2, x3, s10, s11, s12, s13, s14, s47, s48, b0 => if decide (s48 < s47) = true then
      if decide (0 ≤ s48) = true then
        if decide (s48 < (((List.length b0) : Nat) : Int)) = true then
          if decide ((0 + (Int.toNat s48)) < (List.length b0)) = true then
            if s14 = true then
              if (raddG s13 (List.getD b0 (0 + (Int.toNat s48)) 0)).2 = true then
                l4_0 m n x1 x2 x3 s10 s11 s12 ((raddG s13 (List.getD b0 (0 + (Int.toNat s48)) 0)).1) ((raddG s13 (List.getD b0 (0 + (Int.toNat s48)) 0)).2) s47 ((IntKind.wrap .i64 (s48 + (1)))) b0
              else
                l4_0 m n x1 x2 x3 s10 s11 s12 s13 ((raddG s13 (List.getD b0 (0 + (Int.toNat s48)) 0)).2) s47 ((IntKind.wrap .i64 (s48 + (1)))) b0
            else
              l4_0 m n x1 x2 x3 s10 s11 s12 s13 false s47 ((IntKind.wrap .i64 (s48 + (1)))) b0
          else
            none
        else
          none
      else
        none
    else
      some (0, s13, s14, s48)
def l4_0D : Nat × Int × Bool × Int := (0, 0, false, 0)
@[reducible] def l4_0R (m n : Nat) (x1 : Int) (x2 : Int) (x3 : Int) (s10 : List Int) (s11 : Int) (s12 : Int) (s13 : Int) (s14 : Bool) (s47 : Int) (s48 : Int) (b0 : List Int) : Nat × Int × Bool × Int := Option.getD (l4_0 m n x1 x2 x3 s10 s11 s12 s13 s14 s47 s48 b0) l4_0D
def l4_0H (x1 : Int) (x2 : Int) (x3 : Int) (s10 : List Int) (s11 : Int) (s12 : Int) (s13 : Int) (s14 : Bool) (s47 : Int) (s48 : Int) (b0 : List Int) : Env := [.top, (.d (.int .i64 x1)), (.d (.int .i64 x2)), (.d (.int .i64 x3)), .top, .top, .top, .top, .top, (.sr 0 0 (List.length b0) 1 none), (.d (.sl (.int .i64) s10)), (.d (.int .i64 s11)), (.d (.int .i64 s12)), (.d (.int .i64 s13)), (.d (.bool (s14))), .top, .top, .top, .top, .top, .top, .top, .top, .top, .top, .top, .top, .top, .top, .top, .top, .top, .top, .top, .top, .top, .top, .top, .top, .top, .top, .top, .top, .top, .top, .top, (.sr 0 0 (List.length b0) 1 none), (.d (.int .i64 s47)), (.d (.int .i64 s48)), .top, .top, .top, .top, .top, .top, .top, .top, .top, .top, .top, .top, .top, .top, .top, .top, .top, .top, .top, .top, .top, .top, .top, .top, .top, .top, .top, .top, .top, .top, .top, .top, .top, .top, .top, .top, .top, .top, .top, .top, .top, .top, .top, .top, .top, .top, .top, .top, .top, .top, .top, .top, .top, .top, .top, .top, .top, .top, .top, .top, .top, .top, .top, .top, .top, .top, .top, .top, .top, .top, .top, .top, .top, .top, .top, .top, .top, .top, .top, .top, .top, .top, .top, .top, .top, .top, .top, .top, .top, .top, .top, .top, .top, .top, .top, .top, .top, .top, .top, .top, .top, .top, .top, .top, .top, .top, .top, .top, .top, .top, .top, .top, .top, .top, .top, .top, .top, .top, .top, .top, .top, .top, .top, .top, .top, .top, .top, .top, .top, .top, .top, .top, .top, .top, .top]
def l4_0B (x1 : Int) (x2 : Int) (x3 : Int) (s10 : List Int) (s11 : Int) (s12 : Int) (s13 : Int) (s14 : Bool) (s47 : Int) (s48 : Int) (b0 : List Int) : Boxes := [(.arr (.int .i64) b0 false)]
def l4_0E (x1 : Int) (x2 : Int) (x3 : Int) (s10 : List Int) (s11 : Int) (s12 : Int) (s13 : Int) (s14 : Bool) (s47 : Int) (s48 : Int) (b0 : List Int) : Nat → AEx × Env × Boxes
  | _ => (.exit 0, [.top, (.d (.int .i64 x1)), (.d (.int .i64 x2)), (.d (.int .i64 x3)), .top, .top, .top, .top, .top, (.sr 0 0 (List.length b0) 1 none), (.d (.sl (.int .i64) s10)), (.d (.int .i64 s11)), (.d (.int .i64 s12)), (.d (.int .i64 s13)), (.d (.bool (s14))), .top, .top, .top, .top, .top, .top, .top, .top, .top, .top, .top, .top, .top, .top, .top, .top, .top, .top, .top, .top, .top, .top, .top, .top, .top, .top, .top, .top, .top, .top, .top, (.sr 0 0 (List.length b0) 1 none), (.d (.int .i64 s47)), (.d (.int .i64 s48)), (.d (.bool (decide (s48 < s47)))), .top, .top, .top, .top, .top, .top, .top, .top, .top, .top, .top, .top, .top, .top, .top, .top, .top, .top, .top, .top, .top, .top, .top, .top, .top, .top, .top, .top, .top, .top, .top, .top, .top, .top, .top, .top, .top, .top, .top, .top, .top, .top, .top, .top, .top, .top, .top, .top, .top, .top, .top, .top, .top, .top, .top, .top, .top, .top, .top, .top, .top, .top, .top, .top, .top, .top, .top, .top, .top, .top, .top, .top, .top, .top, .top, .top, .top, .top, .top, .top, .top, .top, .top, .top, .top, .top, .top, .top, .top, .top, .top, .top, .top, .top, .top, .top, .top, .top, .top, .top, .top, .top, .top, .top, .top, .top, .top, .top, .top, .top, .top, .top, .top, .top, .top, .top, .top, .top, .top, .top, .top, .top, .top, .top, .top, .top, .top, .top, .top, .top, .top, .top, .top, .top], [(.arr (.int .i64) b0 false)])
noncomputable def lbl4_0 : AC := loopBody 492581209275918 body4

set_option maxHeartbeats 20000000 in
theorem l4_0_w0 (m n : Nat) (x1 : Int) (x2 : Int) (x3 : Int) (s10 : List Int) (s11 : Int) (s12 : Int) (s13 : Int) (s14 : Bool) (s47 : Int) (s48 : Int) (b0 : List Int) (r : AEx × Env × Boxes) (c0 : decide (s48 < s47) = true) (c1 : decide (0 ≤ s48) = true) (c2 : decide (s48 < (((List.length b0) : Nat) : Int)) = true) (c3 : decide ((0 + (Int.toNat s48)) < (List.length b0)) = true) (c5 : s14 = true) (c7 : (raddG s13 (List.getD b0 (0 + (Int.toNat s48)) 0)).2 = true) (ih : (turns (hds 4 492581209275918) 0 492581209275918 (evC byref (evCall F S9 (m + 24)) (m + 24) 0 (hds 4) lbl4_0) n (l4_0H x1 x2 x3 s10 s11 s12 ((raddG s13 (List.getD b0 (0 + (Int.toNat s48)) 0)).1) ((raddG s13 (List.getD b0 (0 + (Int.toNat s48)) 0)).2) s47 ((IntKind.wrap .i64 (s48 + (1)))) b0) (l4_0B x1 x2 x3 s10 s11 s12 ((raddG s13 (List.getD b0 (0 + (Int.toNat s48)) 0)).1) ((raddG s13 (List.getD b0 (0 + (Int.toNat s48)) 0)).2) s47 ((IntKind.wrap .i64 (s48 + (1)))) b0)).run = some r) : (turns (hds 4 492581209275918) 0 492581209275918 (evC byref (evCall F S9 (m + 24)) (m + 24) 0 (hds 4) lbl4_0) (n + 1) (l4_0H x1 x2 x3 s10 s11 s12 s13 s14 s47 s48 b0) (l4_0B x1 x2 x3 s10 s11 s12 s13 s14 s47 s48 b0)).run = some r := by
  exact turns_step (M.run_of_path _ [true, true, true, true, true, true, true, true] _ _ (by kernel_rfl) (all_t c0 (all_t c1 (all_t c2 (all_t c3 (all_t rfl (all_t c5 (all_t c5 (all_t c7 all_nil))))))))) ih
set_option maxHeartbeats 20000000 in
theorem l4_0_w1 (m n : Nat) (x1 : Int) (x2 : Int) (x3 : Int) (s10 : List Int) (s11 : Int) (s12 : Int) (s13 : Int) (s14 : Bool) (s47 : Int) (s48 : Int) (b0 : List Int) (r : AEx × Env × Boxes) (c0 : decide (s48 < s47) = true) (c1 : decide (0 ≤ s48) = true) (c2 : decide (s48 < (((List.length b0) : Nat) : Int)) = true) (c3 : decide ((0 + (Int.toNat s48)) < (List.length b0)) = true) (c5 : s14 = true) (c7 : ¬ (raddG s13 (List.getD b0 (0 + (Int.toNat s48)) 0)).2 = true) (ih : (turns (hds 4 492581209275918) 0 492581209275918 (evC byref (evCall F S9 (m + 24)) (m + 24) 0 (hds 4) lbl4_0) n (l4_0H x1 x2 x3 s10 s11 s12 s13 ((raddG s13 (List.getD b0 (0 + (Int.toNat s48)) 0)).2) s47 ((IntKind.wrap .i64 (s48 + (1)))) b0) (l4_0B x1 x2 x3 s10 s11 s12 s13 ((raddG s13 (List.getD b0 (0 + (Int.toNat s48)) 0)).2) s47 ((IntKind.wrap .i64 (s48 + (1)))) b0)).run = some r) : (turns (hds 4 492581209275918) 0 492581209275918 (evC byref (evCall F S9 (m + 24)) (m + 24) 0 (hds 4) lbl4_0) (n + 1) (l4_0H x1 x2 x3 s10 s11 s12 s13 s14 s47 s48 b0) (l4_0B x1 x2 x3 s10 s11 s12 s13 s14 s47 s48 b0)).run = some r := by
  exact turns_step (M.run_of_path _ [true, true, true, true, true, true, true, false] _ _ (by kernel_rfl) (all_t c0 (all_t c1 (all_t c2 (all_t c3 (all_t rfl (all_t c5 (all_t c5 (all_f c7 all_nil))))))))) ih
set_option maxHeartbeats 20000000 in
theorem l4_0_w2 (m n : Nat) (x1 : Int) (x2 : Int) (x3 : Int) (s10 : List Int) (s11 : Int) (s12 : Int) (s13 : Int) (s14 : Bool) (s47 : Int) (s48 : Int) (b0 : List Int) (r : AEx × Env × Boxes) (c0 : decide (s48 < s47) = true) (c1 : decide (0 ≤ s48) = true) (c2 : decide (s48 < (((List.length b0) : Nat) : Int)) = true) (c3 : decide ((0 + (Int.toNat s48)) < (List.length b0)) = true) (c5 : ¬ s14 = true) (ih : (turns (hds 4 492581209275918) 0 492581209275918 (evC byref (evCall F S9 (m + 24)) (m + 24) 0 (hds 4) lbl4_0) n (l4_0H x1 x2 x3 s10 s11 s12 s13 false s47 ((IntKind.wrap .i64 (s48 + (1)))) b0) (l4_0B x1 x2 x3 s10 s11 s12 s13 false s47 ((IntKind.wrap .i64 (s48 + (1)))) b0)).run = some r) : (turns (hds 4 492581209275918) 0 492581209275918 (evC byref (evCall F S9 (m + 24)) (m + 24) 0 (hds 4) lbl4_0) (n + 1) (l4_0H x1 x2 x3 s10 s11 s12 s13 s14 s47 s48 b0) (l4_0B x1 x2 x3 s10 s11 s12 s13 s14 s47 s48 b0)).run = some r := by
  exact turns_step (M.run_of_path _ [true, true, true, true, true, false, false, false] _ _ (by kernel_rfl) (all_t c0 (all_t c1 (all_t c2 (all_t c3 (all_t rfl (all_f c5 (all_f c5 (all_f Bool.false_ne_true all_nil))))))))) ih
set_option maxHeartbeats 20000000 in
theorem l4_0_w3 (m n : Nat) (x1 : Int) (x2 : Int) (x3 : Int) (s10 : List Int) (s11 : Int) (s12 : Int) (s13 : Int) (s14 : Bool) (s47 : Int) (s48 : Int) (b0 : List Int) (c0 : ¬ decide (s48 < s47) = true) : (turns (hds 4 492581209275918) 0 492581209275918 (evC byref (evCall F S9 (m + 24)) (m + 24) 0 (hds 4) lbl4_0) (n + 1) (l4_0H x1 x2 x3 s10 s11 s12 s13 s14 s47 s48 b0) (l4_0B x1 x2 x3 s10 s11 s12 s13 s14 s47 s48 b0)).run = some (.exit 0, [.top, (.d (.int .i64 x1)), (.d (.int .i64 x2)), (.d (.int .i64 x3)), .top, .top, .top, .top, .top, (.sr 0 0 (List.length b0) 1 none), (.d (.sl (.int .i64) s10)), (.d (.int .i64 s11)), (.d (.int .i64 s12)), (.d (.int .i64 s13)), (.d (.bool (s14))), .top, .top, .top, .top, .top, .top, .top, .top, .top, .top, .top, .top, .top, .top, .top, .top, .top, .top, .top, .top, .top, .top, .top, .top, .top, .top, .top, .top, .top, .top, .top, (.sr 0 0 (List.length b0) 1 none), (.d (.int .i64 s47)), (.d (.int .i64 s48)), (.d (.bool (decide (s48 < s47)))), .top, .top, .top, .top, .top, .top, .top, .top, .top, .top, .top, .top, .top, .top, .top, .top, .top, .top, .top, .top, .top, .top, .top, .top, .top, .top, .top, .top, .top, .top, .top, .top, .top, .top, .top, .top, .top, .top, .top, .top, .top, .top, .top, .top, .top, .top, .top, .top, .top, .top, .top, .top, .top, .top, .top, .top, .top, .top, .top, .top, .top, .top, .top, .top, .top, .top, .top, .top, .top, .top, .top, .top, .top, .top, .top, .top, .top, .top, .top, .top, .top, .top, .top, .top, .top, .top, .top, .top, .top, .top, .top, .top, .top, .top, .top, .top, .top, .top, .top, .top, .top, .top, .top, .top, .top, .top, .top, .top, .top, .top, .top, .top, .top, .top, .top, .top, .top, .top, .top, .top, .top, .top, .top, .top, .top, .top, .top, .top, .top, .top, .top, .top, .top, .top], [(.arr (.int .i64) b0 false)]) := by
  exact turns_last (by simp) (M.run_of_path _ [false] _ _ (by kernel_rfl) (all_f c0 all_nil)) 

set_option maxHeartbeats 20000000 in
theorem l4_0_step (m n : Nat) (ih : ∀ (x1 : Int) (x2 : Int) (x3 : Int) (s10 : List Int) (s11 : Int) (s12 : Int) (s13 : Int) (s14 : Bool) (s47 : Int) (s48 : Int) (b0 : List Int) (q : Nat × Int × Bool × Int), l4_0 m n x1 x2 x3 s10 s11 s12 s13 s14 s47 s48 b0 = some q → (turns (hds 4 492581209275918) 0 492581209275918 (evC byref (evCall F S9 (m + 24)) (m + 24) 0 (hds 4) lbl4_0) n (l4_0H x1 x2 x3 s10 s11 s12 s13 s14 s47 s48 b0) (l4_0B x1 x2 x3 s10 s11 s12 s13 s14 s47 s48 b0)).run = some (l4_0E (x1) (x2) (x3) (s10) (s11) (s12) (q.2.1) (q.2.2.1) (s47) (q.2.2.2) (b0) q.1)) (x1 : Int) (x2 : Int) (x3 : Int) (s10 : List Int) (s11 : Int) (s12 : Int) (s13 : Int) (s14 : Bool) (s47 : Int) (s48 : Int) (b0 : List Int) (q : Nat × Int × Bool × Int) (h : l4_0 m (n + 1) x1 x2 x3 s10 s11 s12 s13 s14 s47 s48 b0 = some q) : (turns (hds 4 492581209275918) 0 492581209275918 (evC byref (evCall F S9 (m + 24)) (m + 24) 0 (hds 4) lbl4_0) (n + 1) (l4_0H x1 x2 x3 s10 s11 s12 s13 s14 s47 s48 b0) (l4_0B x1 x2 x3 s10 s11 s12 s13 s14 s47 s48 b0)).run = some (l4_0E (x1) (x2) (x3) (s10) (s11) (s12) (q.2.1) (q.2.2.1) (s47) (q.2.2.2) (b0) q.1) := by
  rw [l4_0] at h
  refine ite_cases h (fun c0 h => ?_) (fun c0 h => ?_)
  · skip
    refine ite_cases h (fun c1 h => ?_) (fun c1 h => ?_)
    · skip
      refine ite_cases h (fun c2 h => ?_) (fun c2 h => ?_)
      · skip
        refine ite_cases h (fun c3 h => ?_) (fun c3 h => ?_)
        · skip
          refine ite_cases h (fun c5 h => ?_) (fun c5 h => ?_)
          · skip
            refine ite_cases h (fun c7 h => ?_) (fun c7 h => ?_)
            · skip
              exact l4_0_w0 m n x1 x2 x3 s10 s11 s12 s13 s14 s47 s48 b0 _ c0 c1 c2 c3 c5 c7 (ih _ _ _ _ _ _ _ _ _ _ _ q h)
            · skip
              exact l4_0_w1 m n x1 x2 x3 s10 s11 s12 s13 s14 s47 s48 b0 _ c0 c1 c2 c3 c5 c7 (ih _ _ _ _ _ _ _ _ _ _ _ q h)
          · skip
            exact l4_0_w2 m n x1 x2 x3 s10 s11 s12 s13 s14 s47 s48 b0 _ c0 c1 c2 c3 c5 (ih _ _ _ _ _ _ _ _ _ _ _ q h)
        · skip
          cases h
      · skip
        cases h
    · skip
      cases h
  · skip
    cases h
    exact l4_0_w3 m n x1 x2 x3 s10 s11 s12 s13 s14 s47 s48 b0 c0
set_option maxHeartbeats 20000000 in
theorem l4_0_ok (m : Nat) : ∀ (n : Nat) (x1 : Int) (x2 : Int) (x3 : Int) (s10 : List Int) (s11 : Int) (s12 : Int) (s13 : Int) (s14 : Bool) (s47 : Int) (s48 : Int) (b0 : List Int) (q : Nat × Int × Bool × Int), l4_0 m n x1 x2 x3 s10 s11 s12 s13 s14 s47 s48 b0 = some q → (turns (hds 4 492581209275918) 0 492581209275918 (evC byref (evCall F S9 (m + 24)) (m + 24) 0 (hds 4) lbl4_0) n (l4_0H x1 x2 x3 s10 s11 s12 s13 s14 s47 s48 b0) (l4_0B x1 x2 x3 s10 s11 s12 s13 s14 s47 s48 b0)).run = some (l4_0E (x1) (x2) (x3) (s10) (s11) (s12) (q.2.1) (q.2.2.1) (s47) (q.2.2.2) (b0) q.1)
  | 0, x1, x2, x3, s10, s11, s12, s13, s14, s47, s48, b0, q, h => by cases h
  | n + 1, x1, x2, x3, s10, s11, s12, s13, s14, s47, s48, b0, q, h => l4_0_step m n (l4_0_ok m n) x1 x2 x3 s10 s11 s12 s13 s14 s47 s48 b0 q h

@[reducible] def sums_k1 (x0 : List Int) := (List.drop 0 (List.take (Int.toNat (if (20) < (((List.length x0) : Nat) : Int) then (20) else (((List.length x0) : Nat) : Int))) x0))
@[reducible] def sums_k2 (x0 : List Int) := (sumG (List.drop 0 (List.take (Int.toNat (((0 + (List.length (sums_k1 x0))) : Nat) : Int)) (roomyG (List.take (0 + (List.length (sums_k1 x0))) (List.drop 0 (sums_k1 x0))) (7)))))
@[reducible] def sums_k3 (x0 : List Int) (x1 : Int) (x2 : Int) (x3 : Int) (m : Nat) := (l4_0R m (m + 24) x1 x2 x3 ((roomyG (List.take (0 + (List.length (sums_k1 x0))) (List.drop 0 (sums_k1 x0))) (7))) ((sums_k2 x0).1) ((sums_k2 x0).2) 0 true ((((0 + (List.length (sums_k1 x0))) : Nat) : Int)) 0 ((sums_k1 x0)))
@[reducible] def sums_k4 (x0 : List Int) := (roomyG (List.take (0 + (List.length (sums_k1 x0))) (List.drop 0 (sums_k1 x0))) (7))
@[reducible] def sums_k5 (x2 : Int) (x3 : Int) := ((upG (IntKind.wrap .i64 ((IntKind.wrap .i64 (0 - (withinI x2 (0) (1099511627776)))) - (1))) (withinI x3 (1) (1048576))) == (0))
@[reducible] def sums_k6 (x0 : List Int) (x1 : Int) := (withinI x1 (0) (((List.length ((sums_k1 x0))) : Nat) : Int))
@[reducible] def sums_k7 (x2 : Int) (x3 : Int) := ((IntKind.wrap .i64 ((IntKind.wrap .i64 ((upG (withinI x2 (0) (1099511627776)) (withinI x3 (1) (1048576))) - (1))) * (withinI x3 (1) (1048576)))) < (withinI x2 (0) (1099511627776)))
@[reducible] def sums_k8 (x2 : Int) (x3 : Int) := ((upG (withinI x2 (0) (1099511627776)) (IntKind.wrap .i64 (0 - (withinI x3 (1) (1048576))))) == (0))
@[reducible] def sums_k9 (x2 : Int) (x3 : Int) := ((IntKind.wrap .i64 ((upG (withinI x2 (0) (1099511627776)) (withinI x3 (1) (1048576))) * (withinI x3 (1) (1048576)))) ≥ (withinI x2 (0) (1099511627776)))
@[reducible] def sums_k10 (x0 : List Int) := (List.length ((sums_k4 x0)) ≤ 1000000 ∧ List.length (List.take (List.length ((sums_k1 x0))) (List.drop 0 ((sums_k1 x0)))) ≤ 1000000)
@[reducible] def sums_k11 (x0 : List Int) := (List.length ((sums_k1 x0)))
@[reducible] def sums_k12 (x0 : List Int) (x1 : Int) (x2 : Int) (x3 : Int) (m : Nat) := (l4_0E x1 x2 x3 (((sums_k4 x0))) (((sums_k2 x0).1)) (((sums_k2 x0).2)) ((sums_k3 x0 x1 x2 x3 m).2.1) ((sums_k3 x0 x1 x2 x3 m).2.2.1) (((((0 + (List.length (sums_k1 x0))) : Nat) : Int))) ((sums_k3 x0 x1 x2 x3 m).2.2.2) (((sums_k1 x0))) 0)
@[reducible] def sums_k13 (x2 : Int) := ((upG (withinI x2 (0) (1099511627776)) (0)) == (0))
@[reducible] def sums_k14 (x0 : List Int) (x1 : Int) := (List.take ((Int.toNat (sums_k6 x0 x1)) - 0) (List.drop 0 ((sums_k1 x0))))
@[reducible] def sums_k15 (x0 : List Int) := (intactG ((sums_k4 x0)) (List.take (sums_k11 x0) (List.drop 0 ((sums_k1 x0)))) (7))
@[reducible] def sums_k16 (x0 : List Int) := (if (20) < (((List.length x0) : Nat) : Int) then (20) else (((List.length x0) : Nat) : Int))
@[reducible] def sums_k17 (x0 : List Int) (x1 : Int) := (List.take ((sums_k11 x0) - (Int.toNat (sums_k6 x0 x1))) (List.drop (0 + (Int.toNat (sums_k6 x0 x1))) ((sums_k1 x0))))
@[reducible] def sums_k18 (x2 : Int) (x3 : Int) := ((upG (withinI x2 (0) (1099511627776)) (withinI x3 (1) (1048576))) == (0))
@[reducible] def sums_k19 (x0 : List Int) (x1 : Int) (x2 : Int) (x3 : Int) (m : Nat) := (l4_0 m (m + 24) x1 x2 x3 ((sums_k4 x0)) ((sums_k2 x0).1) ((sums_k2 x0).2) 0 true ((((0 + (List.length (sums_k1 x0))) : Nat) : Int)) 0 ((sums_k1 x0)))
@[reducible] def sums_k20 (x0 : List Int) := (List.length (List.drop 0 (List.take (Int.toNat (((0 + (List.length (sums_k1 x0))) : Nat) : Int)) (sums_k4 x0))) ≤ 1000000)
@[reducible] def sums_k21 (x0 : List Int) := (List.length (List.take (0 + (List.length (sums_k1 x0))) (List.drop 0 (sums_k1 x0))) ≤ 1000000)
@[reducible] def sums_k22 (x2 : Int) := ((withinI x2 (0) (1099511627776)) == (0))
@[reducible] def sums_k23 (x0 : List Int) := (((List.length (sums_k4 x0)) : Nat) : Int)
@[reducible] def sums_k24 (x0 : List Int) (x1 : Int) := (List.length (sums_k14 x0 x1) ≤ 1000000)
@[reducible] def sums_k25 (x0 : List Int) (x1 : Int) := (naddG (sumG (sums_k14 x0 x1)).1 (sumG ([] : List Int)).1)
@[reducible] def sums_k26 (x0 : List Int) (x1 : Int) := ((sumG (sums_k14 x0 x1)).2 == (0))
@[reducible] def sums_k27 (x0 : List Int) := (((List.length x0) : Nat) : Int)
@[reducible] def sums_k28 (x0 : List Int) (x1 : Int) := (naddG (sumG (sums_k14 x0 x1)).1 (sumG (sums_k17 x0 x1)).1)
@[reducible] def sums_k29  := (List.length ([] : List Int) ≤ 1000000)
@[reducible] def sums_k30 (x0 : List Int) (x1 : Int) := (List.length (sums_k17 x0 x1) ≤ 1000000)
@[reducible] def sums_k31 (x0 : List Int) (x1 : Int) := ((sumG (sums_k17 x0 x1)).2 == (0))
@[reducible] def sums_k32  := ((sumG ([] : List Int)).2 == (0))
def sums (m : Nat) (x0 : List Int) (x1 : Int) (x2 : Int) (x3 : Int) : Option Unit :=
  if (decide (0 ≤ (sums_k16 x0)) && decide ((sums_k16 x0) ≤ (sums_k27 x0))) = true then
    if decide (((0 + (List.length (sums_k1 x0))) * 8) ≤ 70368744177664) = true then
      if decide ((0 + (0 + (List.length (sums_k1 x0)))) ≤ (List.length (sums_k1 x0))) = true then
        if decide (sums_k21 x0) = true then
          if (decide (0 ≤ (((0 + (List.length (sums_k1 x0))) : Nat) : Int)) && decide ((((0 + (List.length (sums_k1 x0))) : Nat) : Int) ≤ (sums_k23 x0))) = true then
            if decide (sums_k20 x0) = true then
              if (Option.isSome (sums_k19 x0 x1 x2 x3 m)) = true then
                if (sums_k3 x0 x1 x2 x3 m).2.2.1 = true then
                  if ((decide (0 ≤ (((sums_k11 x0) : Nat) : Int)) && decide ((((sums_k11 x0) : Nat) : Int) ≤ 2305843009213693951)) && decide (((((sums_k11 x0) : Nat) : Int) - (0)) ≤ 2305843009213693951)) = true then
                    if (decide (0 ≤ (sums_k6 x0 x1)) && decide ((sums_k6 x0 x1) ≤ (((sums_k11 x0) : Nat) : Int))) = true then
                      if decide ((0 + ((Int.toNat (sums_k6 x0 x1)) - 0)) ≤ (sums_k11 x0)) = true then
                        if decide (sums_k24 x0 x1) = true then
                          if (decide ((Int.toNat (sums_k6 x0 x1)) < (sums_k11 x0)) || decide ((Int.toNat (sums_k6 x0 x1)) = 0)) = true then
                            if decide (((0 + (Int.toNat (sums_k6 x0 x1))) + ((sums_k11 x0) - (Int.toNat (sums_k6 x0 x1)))) ≤ (sums_k11 x0)) = true then
                              if decide (sums_k30 x0 x1) = true then
                                if (((sums_k2 x0).2) == (0)) = true then
                                  if (sums_k26 x0 x1) = true then
                                    if (sums_k31 x0 x1) = true then
                                      if ((sums_k28 x0 x1).2 == (0)) = true then
                                        if ((sums_k28 x0 x1).1 != ((sums_k2 x0).1)) = true then
                                          none
                                        else
                                          if (((sums_k2 x0).1) == (sums_k3 x0 x1 x2 x3 m).2.1) = true then
                                            if ((((sums_k2 x0).2) == (0)) == (sums_k3 x0 x1 x2 x3 m).2.2.1) = true then
                                              if decide (sums_k10 x0) = true then
                                                if (sums_k15 x0) = true then
                                                  if decide (sums_k9 x2 x3) = true then
                                                    if (sums_k18 x2 x3) = true then
                                                      if (sums_k22 x2) = true then
                                                        if (sums_k5 x2 x3) = true then
                                                          if (sums_k8 x2 x3) = true then
                                                            if (sums_k13 x2) = true then
                                                              some ()
                                                            else
                                                              none
                                                          else
                                                            none
                                                        else
                                                          none
                                                      else
                                                        if decide (sums_k7 x2 x3) = true then
                                                          if (sums_k5 x2 x3) = true then
                                                            if (sums_k8 x2 x3) = true then
                                                              if (sums_k13 x2) = true then
                                                                some ()
                                                              else
                                                                none
                                                            else
                                                              none
                                                          else
                                                            none
                                                        else
                                                          none
                                                    else
                                                      if decide (sums_k7 x2 x3) = true then
                                                        if (sums_k5 x2 x3) = true then
                                                          if (sums_k8 x2 x3) = true then
                                                            if (sums_k13 x2) = true then
                                                              some ()
                                                            else
                                                              none
                                                          else
                                                            none
                                                        else
                                                          none
                                                      else
                                                        none
                                                  else
                                                    none
                                                else
                                                  none
                                              else
                                                none
                                            else
                                              none
                                          else
                                            none
                                      else
                                        if (((sums_k2 x0).1) == (sums_k3 x0 x1 x2 x3 m).2.1) = true then
                                          if ((((sums_k2 x0).2) == (0)) == (sums_k3 x0 x1 x2 x3 m).2.2.1) = true then
                                            if decide (sums_k10 x0) = true then
                                              if (sums_k15 x0) = true then
                                                if decide (sums_k9 x2 x3) = true then
                                                  if (sums_k18 x2 x3) = true then
                                                    if (sums_k22 x2) = true then
                                                      if (sums_k5 x2 x3) = true then
                                                        if (sums_k8 x2 x3) = true then
                                                          if (sums_k13 x2) = true then
                                                            some ()
                                                          else
                                                            none
                                                        else
                                                          none
                                                      else
                                                        none
                                                    else
                                                      if decide (sums_k7 x2 x3) = true then
                                                        if (sums_k5 x2 x3) = true then
                                                          if (sums_k8 x2 x3) = true then
                                                            if (sums_k13 x2) = true then
                                                              some ()
                                                            else
                                                              none
                                                          else
                                                            none
                                                        else
                                                          none
                                                      else
                                                        none
                                                  else
                                                    if decide (sums_k7 x2 x3) = true then
                                                      if (sums_k5 x2 x3) = true then
                                                        if (sums_k8 x2 x3) = true then
                                                          if (sums_k13 x2) = true then
                                                            some ()
                                                          else
                                                            none
                                                        else
                                                          none
                                                      else
                                                        none
                                                    else
                                                      none
                                                else
                                                  none
                                              else
                                                none
                                            else
                                              none
                                          else
                                            none
                                        else
                                          none
                                    else
                                      if (((sums_k2 x0).1) == (sums_k3 x0 x1 x2 x3 m).2.1) = true then
                                        if ((((sums_k2 x0).2) == (0)) == (sums_k3 x0 x1 x2 x3 m).2.2.1) = true then
                                          if decide (sums_k10 x0) = true then
                                            if (sums_k15 x0) = true then
                                              if decide (sums_k9 x2 x3) = true then
                                                if (sums_k18 x2 x3) = true then
                                                  if (sums_k22 x2) = true then
                                                    if (sums_k5 x2 x3) = true then
                                                      if (sums_k8 x2 x3) = true then
                                                        if (sums_k13 x2) = true then
                                                          some ()
                                                        else
                                                          none
                                                      else
                                                        none
                                                    else
                                                      none
                                                  else
                                                    if decide (sums_k7 x2 x3) = true then
                                                      if (sums_k5 x2 x3) = true then
                                                        if (sums_k8 x2 x3) = true then
                                                          if (sums_k13 x2) = true then
                                                            some ()
                                                          else
                                                            none
                                                        else
                                                          none
                                                      else
                                                        none
                                                    else
                                                      none
                                                else
                                                  if decide (sums_k7 x2 x3) = true then
                                                    if (sums_k5 x2 x3) = true then
                                                      if (sums_k8 x2 x3) = true then
                                                        if (sums_k13 x2) = true then
                                                          some ()
                                                        else
                                                          none
                                                      else
                                                        none
                                                    else
                                                      none
                                                  else
                                                    none
                                              else
                                                none
                                            else
                                              none
                                          else
                                            none
                                        else
                                          none
                                      else
                                        none
                                  else
                                    if (((sums_k2 x0).1) == (sums_k3 x0 x1 x2 x3 m).2.1) = true then
                                      if ((((sums_k2 x0).2) == (0)) == (sums_k3 x0 x1 x2 x3 m).2.2.1) = true then
                                        if decide (sums_k10 x0) = true then
                                          if (sums_k15 x0) = true then
                                            if decide (sums_k9 x2 x3) = true then
                                              if (sums_k18 x2 x3) = true then
                                                if (sums_k22 x2) = true then
                                                  if (sums_k5 x2 x3) = true then
                                                    if (sums_k8 x2 x3) = true then
                                                      if (sums_k13 x2) = true then
                                                        some ()
                                                      else
                                                        none
                                                    else
                                                      none
                                                  else
                                                    none
                                                else
                                                  if decide (sums_k7 x2 x3) = true then
                                                    if (sums_k5 x2 x3) = true then
                                                      if (sums_k8 x2 x3) = true then
                                                        if (sums_k13 x2) = true then
                                                          some ()
                                                        else
                                                          none
                                                      else
                                                        none
                                                    else
                                                      none
                                                  else
                                                    none
                                              else
                                                if decide (sums_k7 x2 x3) = true then
                                                  if (sums_k5 x2 x3) = true then
                                                    if (sums_k8 x2 x3) = true then
                                                      if (sums_k13 x2) = true then
                                                        some ()
                                                      else
                                                        none
                                                    else
                                                      none
                                                  else
                                                    none
                                                else
                                                  none
                                            else
                                              none
                                          else
                                            none
                                        else
                                          none
                                      else
                                        none
                                    else
                                      none
                                else
                                  if (((sums_k2 x0).1) == (sums_k3 x0 x1 x2 x3 m).2.1) = true then
                                    if ((((sums_k2 x0).2) == (0)) == (sums_k3 x0 x1 x2 x3 m).2.2.1) = true then
                                      if decide (sums_k10 x0) = true then
                                        if (sums_k15 x0) = true then
                                          if decide (sums_k9 x2 x3) = true then
                                            if (sums_k18 x2 x3) = true then
                                              if (sums_k22 x2) = true then
                                                if (sums_k5 x2 x3) = true then
                                                  if (sums_k8 x2 x3) = true then
                                                    if (sums_k13 x2) = true then
                                                      some ()
                                                    else
                                                      none
                                                  else
                                                    none
                                                else
                                                  none
                                              else
                                                if decide (sums_k7 x2 x3) = true then
                                                  if (sums_k5 x2 x3) = true then
                                                    if (sums_k8 x2 x3) = true then
                                                      if (sums_k13 x2) = true then
                                                        some ()
                                                      else
                                                        none
                                                    else
                                                      none
                                                  else
                                                    none
                                                else
                                                  none
                                            else
                                              if decide (sums_k7 x2 x3) = true then
                                                if (sums_k5 x2 x3) = true then
                                                  if (sums_k8 x2 x3) = true then
                                                    if (sums_k13 x2) = true then
                                                      some ()
                                                    else
                                                      none
                                                  else
                                                    none
                                                else
                                                  none
                                              else
                                                none
                                          else
                                            none
                                        else
                                          none
                                      else
                                        none
                                    else
                                      none
                                  else
                                    none
                              else
                                none
                            else
                              none
                          else
                            if decide sums_k29 = true then
                              if (((sums_k2 x0).2) == (0)) = true then
                                if (sums_k26 x0 x1) = true then
                                  if sums_k32 = true then
                                    if ((sums_k25 x0 x1).2 == (0)) = true then
                                      if ((sums_k25 x0 x1).1 != ((sums_k2 x0).1)) = true then
                                        none
                                      else
                                        if (((sums_k2 x0).1) == (sums_k3 x0 x1 x2 x3 m).2.1) = true then
                                          if ((((sums_k2 x0).2) == (0)) == (sums_k3 x0 x1 x2 x3 m).2.2.1) = true then
                                            if decide (sums_k10 x0) = true then
                                              if (sums_k15 x0) = true then
                                                if decide (sums_k9 x2 x3) = true then
                                                  if (sums_k18 x2 x3) = true then
                                                    if (sums_k22 x2) = true then
                                                      if (sums_k5 x2 x3) = true then
                                                        if (sums_k8 x2 x3) = true then
                                                          if (sums_k13 x2) = true then
                                                            some ()
                                                          else
                                                            none
                                                        else
                                                          none
                                                      else
                                                        none
                                                    else
                                                      if decide (sums_k7 x2 x3) = true then
                                                        if (sums_k5 x2 x3) = true then
                                                          if (sums_k8 x2 x3) = true then
                                                            if (sums_k13 x2) = true then
                                                              some ()
                                                            else
                                                              none
                                                          else
                                                            none
                                                        else
                                                          none
                                                      else
                                                        none
                                                  else
                                                    if decide (sums_k7 x2 x3) = true then
                                                      if (sums_k5 x2 x3) = true then
                                                        if (sums_k8 x2 x3) = true then
                                                          if (sums_k13 x2) = true then
                                                            some ()
                                                          else
                                                            none
                                                        else
                                                          none
                                                      else
                                                        none
                                                    else
                                                      none
                                                else
                                                  none
                                              else
                                                none
                                            else
                                              none
                                          else
                                            none
                                        else
                                          none
                                    else
                                      if (((sums_k2 x0).1) == (sums_k3 x0 x1 x2 x3 m).2.1) = true then
                                        if ((((sums_k2 x0).2) == (0)) == (sums_k3 x0 x1 x2 x3 m).2.2.1) = true then
                                          if decide (sums_k10 x0) = true then
                                            if (sums_k15 x0) = true then
                                              if decide (sums_k9 x2 x3) = true then
                                                if (sums_k18 x2 x3) = true then
                                                  if (sums_k22 x2) = true then
                                                    if (sums_k5 x2 x3) = true then
                                                      if (sums_k8 x2 x3) = true then
                                                        if (sums_k13 x2) = true then
                                                          some ()
                                                        else
                                                          none
                                                      else
                                                        none
                                                    else
                                                      none
                                                  else
                                                    if decide (sums_k7 x2 x3) = true then
                                                      if (sums_k5 x2 x3) = true then
                                                        if (sums_k8 x2 x3) = true then
                                                          if (sums_k13 x2) = true then
                                                            some ()
                                                          else
                                                            none
                                                        else
                                                          none
                                                      else
                                                        none
                                                    else
                                                      none
                                                else
                                                  if decide (sums_k7 x2 x3) = true then
                                                    if (sums_k5 x2 x3) = true then
                                                      if (sums_k8 x2 x3) = true then
                                                        if (sums_k13 x2) = true then
                                                          some ()
                                                        else
                                                          none
                                                      else
                                                        none
                                                    else
                                                      none
                                                  else
                                                    none
                                              else
                                                none
                                            else
                                              none
                                          else
                                            none
                                        else
                                          none
                                      else
                                        none
                                  else
                                    if (((sums_k2 x0).1) == (sums_k3 x0 x1 x2 x3 m).2.1) = true then
                                      if ((((sums_k2 x0).2) == (0)) == (sums_k3 x0 x1 x2 x3 m).2.2.1) = true then
                                        if decide (sums_k10 x0) = true then
                                          if (sums_k15 x0) = true then
                                            if decide (sums_k9 x2 x3) = true then
                                              if (sums_k18 x2 x3) = true then
                                                if (sums_k22 x2) = true then
                                                  if (sums_k5 x2 x3) = true then
                                                    if (sums_k8 x2 x3) = true then
                                                      if (sums_k13 x2) = true then
                                                        some ()
                                                      else
                                                        none
                                                    else
                                                      none
                                                  else
                                                    none
                                                else
                                                  if decide (sums_k7 x2 x3) = true then
                                                    if (sums_k5 x2 x3) = true then
                                                      if (sums_k8 x2 x3) = true then
                                                        if (sums_k13 x2) = true then
                                                          some ()
                                                        else
                                                          none
                                                      else
                                                        none
                                                    else
                                                      none
                                                  else
                                                    none
                                              else
                                                if decide (sums_k7 x2 x3) = true then
                                                  if (sums_k5 x2 x3) = true then
                                                    if (sums_k8 x2 x3) = true then
                                                      if (sums_k13 x2) = true then
                                                        some ()
                                                      else
                                                        none
                                                    else
                                                      none
                                                  else
                                                    none
                                                else
                                                  none
                                            else
                                              none
                                          else
                                            none
                                        else
                                          none
                                      else
                                        none
                                    else
                                      none
                                else
                                  if (((sums_k2 x0).1) == (sums_k3 x0 x1 x2 x3 m).2.1) = true then
                                    if ((((sums_k2 x0).2) == (0)) == (sums_k3 x0 x1 x2 x3 m).2.2.1) = true then
                                      if decide (sums_k10 x0) = true then
                                        if (sums_k15 x0) = true then
                                          if decide (sums_k9 x2 x3) = true then
                                            if (sums_k18 x2 x3) = true then
                                              if (sums_k22 x2) = true then
                                                if (sums_k5 x2 x3) = true then
                                                  if (sums_k8 x2 x3) = true then
                                                    if (sums_k13 x2) = true then
                                                      some ()
                                                    else
                                                      none
                                                  else
                                                    none
                                                else
                                                  none
                                              else
                                                if decide (sums_k7 x2 x3) = true then
                                                  if (sums_k5 x2 x3) = true then
                                                    if (sums_k8 x2 x3) = true then
                                                      if (sums_k13 x2) = true then
                                                        some ()
                                                      else
                                                        none
                                                    else
                                                      none
                                                  else
                                                    none
                                                else
                                                  none
                                            else
                                              if decide (sums_k7 x2 x3) = true then
                                                if (sums_k5 x2 x3) = true then
                                                  if (sums_k8 x2 x3) = true then
                                                    if (sums_k13 x2) = true then
                                                      some ()
                                                    else
                                                      none
                                                  else
                                                    none
                                                else
                                                  none
                                              else
                                                none
                                          else
                                            none
                                        else
                                          none
                                      else
                                        none
                                    else
                                      none
                                  else
                                    none
                              else
                                if (((sums_k2 x0).1) == (sums_k3 x0 x1 x2 x3 m).2.1) = true then
                                  if ((((sums_k2 x0).2) == (0)) == (sums_k3 x0 x1 x2 x3 m).2.2.1) = true then
                                    if decide (sums_k10 x0) = true then
                                      if (sums_k15 x0) = true then
                                        if decide (sums_k9 x2 x3) = true then
                                          if (sums_k18 x2 x3) = true then
                                            if (sums_k22 x2) = true then
                                              if (sums_k5 x2 x3) = true then
                                                if (sums_k8 x2 x3) = true then
                                                  if (sums_k13 x2) = true then
                                                    some ()
                                                  else
                                                    none
                                                else
                                                  none
                                              else
                                                none
                                            else
                                              if decide (sums_k7 x2 x3) = true then
                                                if (sums_k5 x2 x3) = true then
                                                  if (sums_k8 x2 x3) = true then
                                                    if (sums_k13 x2) = true then
                                                      some ()
                                                    else
                                                      none
                                                  else
                                                    none
                                                else
                                                  none
                                              else
                                                none
                                          else
                                            if decide (sums_k7 x2 x3) = true then
                                              if (sums_k5 x2 x3) = true then
                                                if (sums_k8 x2 x3) = true then
                                                  if (sums_k13 x2) = true then
                                                    some ()
                                                  else
                                                    none
                                                else
                                                  none
                                              else
                                                none
                                            else
                                              none
                                        else
                                          none
                                      else
                                        none
                                    else
                                      none
                                  else
                                    none
                                else
                                  none
                            else
                              none
                        else
                          none
                      else
                        none
                    else
                      none
                  else
                    none
                else
                  if ((decide (0 ≤ (((sums_k11 x0) : Nat) : Int)) && decide ((((sums_k11 x0) : Nat) : Int) ≤ 2305843009213693951)) && decide (((((sums_k11 x0) : Nat) : Int) - (0)) ≤ 2305843009213693951)) = true then
                    if (decide (0 ≤ (sums_k6 x0 x1)) && decide ((sums_k6 x0 x1) ≤ (((sums_k11 x0) : Nat) : Int))) = true then
                      if decide ((0 + ((Int.toNat (sums_k6 x0 x1)) - 0)) ≤ (sums_k11 x0)) = true then
                        if decide (sums_k24 x0 x1) = true then
                          if (decide ((Int.toNat (sums_k6 x0 x1)) < (sums_k11 x0)) || decide ((Int.toNat (sums_k6 x0 x1)) = 0)) = true then
                            if decide (((0 + (Int.toNat (sums_k6 x0 x1))) + ((sums_k11 x0) - (Int.toNat (sums_k6 x0 x1)))) ≤ (sums_k11 x0)) = true then
                              if decide (sums_k30 x0 x1) = true then
                                if (((sums_k2 x0).2) == (0)) = true then
                                  if (sums_k26 x0 x1) = true then
                                    if (sums_k31 x0 x1) = true then
                                      if ((sums_k28 x0 x1).2 == (0)) = true then
                                        if ((sums_k28 x0 x1).1 != ((sums_k2 x0).1)) = true then
                                          none
                                        else
                                          if (((sums_k2 x0).1) == (0)) = true then
                                            if ((((sums_k2 x0).2) == (0)) == (sums_k3 x0 x1 x2 x3 m).2.2.1) = true then
                                              if (((sums_k2 x0).2) == (3)) = true then
                                                if decide (sums_k10 x0) = true then
                                                  if (sums_k15 x0) = true then
                                                    if decide (sums_k9 x2 x3) = true then
                                                      if (sums_k18 x2 x3) = true then
                                                        if (sums_k22 x2) = true then
                                                          if (sums_k5 x2 x3) = true then
                                                            if (sums_k8 x2 x3) = true then
                                                              if (sums_k13 x2) = true then
                                                                some ()
                                                              else
                                                                none
                                                            else
                                                              none
                                                          else
                                                            none
                                                        else
                                                          if decide (sums_k7 x2 x3) = true then
                                                            if (sums_k5 x2 x3) = true then
                                                              if (sums_k8 x2 x3) = true then
                                                                if (sums_k13 x2) = true then
                                                                  some ()
                                                                else
                                                                  none
                                                              else
                                                                none
                                                            else
                                                              none
                                                          else
                                                            none
                                                      else
                                                        if decide (sums_k7 x2 x3) = true then
                                                          if (sums_k5 x2 x3) = true then
                                                            if (sums_k8 x2 x3) = true then
                                                              if (sums_k13 x2) = true then
                                                                some ()
                                                              else
                                                                none
                                                            else
                                                              none
                                                          else
                                                            none
                                                        else
                                                          none
                                                    else
                                                      none
                                                  else
                                                    none
                                                else
                                                  none
                                              else
                                                none
                                            else
                                              none
                                          else
                                            none
                                      else
                                        if (((sums_k2 x0).1) == (0)) = true then
                                          if ((((sums_k2 x0).2) == (0)) == (sums_k3 x0 x1 x2 x3 m).2.2.1) = true then
                                            if (((sums_k2 x0).2) == (3)) = true then
                                              if decide (sums_k10 x0) = true then
                                                if (sums_k15 x0) = true then
                                                  if decide (sums_k9 x2 x3) = true then
                                                    if (sums_k18 x2 x3) = true then
                                                      if (sums_k22 x2) = true then
                                                        if (sums_k5 x2 x3) = true then
                                                          if (sums_k8 x2 x3) = true then
                                                            if (sums_k13 x2) = true then
                                                              some ()
                                                            else
                                                              none
                                                          else
                                                            none
                                                        else
                                                          none
                                                      else
                                                        if decide (sums_k7 x2 x3) = true then
                                                          if (sums_k5 x2 x3) = true then
                                                            if (sums_k8 x2 x3) = true then
                                                              if (sums_k13 x2) = true then
                                                                some ()
                                                              else
                                                                none
                                                            else
                                                              none
                                                          else
                                                            none
                                                        else
                                                          none
                                                    else
                                                      if decide (sums_k7 x2 x3) = true then
                                                        if (sums_k5 x2 x3) = true then
                                                          if (sums_k8 x2 x3) = true then
                                                            if (sums_k13 x2) = true then
                                                              some ()
                                                            else
                                                              none
                                                          else
                                                            none
                                                        else
                                                          none
                                                      else
                                                        none
                                                  else
                                                    none
                                                else
                                                  none
                                              else
                                                none
                                            else
                                              none
                                          else
                                            none
                                        else
                                          none
                                    else
                                      if (((sums_k2 x0).1) == (0)) = true then
                                        if ((((sums_k2 x0).2) == (0)) == (sums_k3 x0 x1 x2 x3 m).2.2.1) = true then
                                          if (((sums_k2 x0).2) == (3)) = true then
                                            if decide (sums_k10 x0) = true then
                                              if (sums_k15 x0) = true then
                                                if decide (sums_k9 x2 x3) = true then
                                                  if (sums_k18 x2 x3) = true then
                                                    if (sums_k22 x2) = true then
                                                      if (sums_k5 x2 x3) = true then
                                                        if (sums_k8 x2 x3) = true then
                                                          if (sums_k13 x2) = true then
                                                            some ()
                                                          else
                                                            none
                                                        else
                                                          none
                                                      else
                                                        none
                                                    else
                                                      if decide (sums_k7 x2 x3) = true then
                                                        if (sums_k5 x2 x3) = true then
                                                          if (sums_k8 x2 x3) = true then
                                                            if (sums_k13 x2) = true then
                                                              some ()
                                                            else
                                                              none
                                                          else
                                                            none
                                                        else
                                                          none
                                                      else
                                                        none
                                                  else
                                                    if decide (sums_k7 x2 x3) = true then
                                                      if (sums_k5 x2 x3) = true then
                                                        if (sums_k8 x2 x3) = true then
                                                          if (sums_k13 x2) = true then
                                                            some ()
                                                          else
                                                            none
                                                        else
                                                          none
                                                      else
                                                        none
                                                    else
                                                      none
                                                else
                                                  none
                                              else
                                                none
                                            else
                                              none
                                          else
                                            none
                                        else
                                          none
                                      else
                                        none
                                  else
                                    if (((sums_k2 x0).1) == (0)) = true then
                                      if ((((sums_k2 x0).2) == (0)) == (sums_k3 x0 x1 x2 x3 m).2.2.1) = true then
                                        if (((sums_k2 x0).2) == (3)) = true then
                                          if decide (sums_k10 x0) = true then
                                            if (sums_k15 x0) = true then
                                              if decide (sums_k9 x2 x3) = true then
                                                if (sums_k18 x2 x3) = true then
                                                  if (sums_k22 x2) = true then
                                                    if (sums_k5 x2 x3) = true then
                                                      if (sums_k8 x2 x3) = true then
                                                        if (sums_k13 x2) = true then
                                                          some ()
                                                        else
                                                          none
                                                      else
                                                        none
                                                    else
                                                      none
                                                  else
                                                    if decide (sums_k7 x2 x3) = true then
                                                      if (sums_k5 x2 x3) = true then
                                                        if (sums_k8 x2 x3) = true then
                                                          if (sums_k13 x2) = true then
                                                            some ()
                                                          else
                                                            none
                                                        else
                                                          none
                                                      else
                                                        none
                                                    else
                                                      none
                                                else
                                                  if decide (sums_k7 x2 x3) = true then
                                                    if (sums_k5 x2 x3) = true then
                                                      if (sums_k8 x2 x3) = true then
                                                        if (sums_k13 x2) = true then
                                                          some ()
                                                        else
                                                          none
                                                      else
                                                        none
                                                    else
                                                      none
                                                  else
                                                    none
                                              else
                                                none
                                            else
                                              none
                                          else
                                            none
                                        else
                                          none
                                      else
                                        none
                                    else
                                      none
                                else
                                  if (((sums_k2 x0).1) == (0)) = true then
                                    if ((((sums_k2 x0).2) == (0)) == (sums_k3 x0 x1 x2 x3 m).2.2.1) = true then
                                      if (((sums_k2 x0).2) == (3)) = true then
                                        if decide (sums_k10 x0) = true then
                                          if (sums_k15 x0) = true then
                                            if decide (sums_k9 x2 x3) = true then
                                              if (sums_k18 x2 x3) = true then
                                                if (sums_k22 x2) = true then
                                                  if (sums_k5 x2 x3) = true then
                                                    if (sums_k8 x2 x3) = true then
                                                      if (sums_k13 x2) = true then
                                                        some ()
                                                      else
                                                        none
                                                    else
                                                      none
                                                  else
                                                    none
                                                else
                                                  if decide (sums_k7 x2 x3) = true then
                                                    if (sums_k5 x2 x3) = true then
                                                      if (sums_k8 x2 x3) = true then
                                                        if (sums_k13 x2) = true then
                                                          some ()
                                                        else
                                                          none
                                                      else
                                                        none
                                                    else
                                                      none
                                                  else
                                                    none
                                              else
                                                if decide (sums_k7 x2 x3) = true then
                                                  if (sums_k5 x2 x3) = true then
                                                    if (sums_k8 x2 x3) = true then
                                                      if (sums_k13 x2) = true then
                                                        some ()
                                                      else
                                                        none
                                                    else
                                                      none
                                                  else
                                                    none
                                                else
                                                  none
                                            else
                                              none
                                          else
                                            none
                                        else
                                          none
                                      else
                                        none
                                    else
                                      none
                                  else
                                    none
                              else
                                none
                            else
                              none
                          else
                            if decide sums_k29 = true then
                              if (((sums_k2 x0).2) == (0)) = true then
                                if (sums_k26 x0 x1) = true then
                                  if sums_k32 = true then
                                    if ((sums_k25 x0 x1).2 == (0)) = true then
                                      if ((sums_k25 x0 x1).1 != ((sums_k2 x0).1)) = true then
                                        none
                                      else
                                        if (((sums_k2 x0).1) == (0)) = true then
                                          if ((((sums_k2 x0).2) == (0)) == (sums_k3 x0 x1 x2 x3 m).2.2.1) = true then
                                            if (((sums_k2 x0).2) == (3)) = true then
                                              if decide (sums_k10 x0) = true then
                                                if (sums_k15 x0) = true then
                                                  if decide (sums_k9 x2 x3) = true then
                                                    if (sums_k18 x2 x3) = true then
                                                      if (sums_k22 x2) = true then
                                                        if (sums_k5 x2 x3) = true then
                                                          if (sums_k8 x2 x3) = true then
                                                            if (sums_k13 x2) = true then
                                                              some ()
                                                            else
                                                              none
                                                          else
                                                            none
                                                        else
                                                          none
                                                      else
                                                        if decide (sums_k7 x2 x3) = true then
                                                          if (sums_k5 x2 x3) = true then
                                                            if (sums_k8 x2 x3) = true then
                                                              if (sums_k13 x2) = true then
                                                                some ()
                                                              else
                                                                none
                                                            else
                                                              none
                                                          else
                                                            none
                                                        else
                                                          none
                                                    else
                                                      if decide (sums_k7 x2 x3) = true then
                                                        if (sums_k5 x2 x3) = true then
                                                          if (sums_k8 x2 x3) = true then
                                                            if (sums_k13 x2) = true then
                                                              some ()
                                                            else
                                                              none
                                                          else
                                                            none
                                                        else
                                                          none
                                                      else
                                                        none
                                                  else
                                                    none
                                                else
                                                  none
                                              else
                                                none
                                            else
                                              none
                                          else
                                            none
                                        else
                                          none
                                    else
                                      if (((sums_k2 x0).1) == (0)) = true then
                                        if ((((sums_k2 x0).2) == (0)) == (sums_k3 x0 x1 x2 x3 m).2.2.1) = true then
                                          if (((sums_k2 x0).2) == (3)) = true then
                                            if decide (sums_k10 x0) = true then
                                              if (sums_k15 x0) = true then
                                                if decide (sums_k9 x2 x3) = true then
                                                  if (sums_k18 x2 x3) = true then
                                                    if (sums_k22 x2) = true then
                                                      if (sums_k5 x2 x3) = true then
                                                        if (sums_k8 x2 x3) = true then
                                                          if (sums_k13 x2) = true then
                                                            some ()
                                                          else
                                                            none
                                                        else
                                                          none
                                                      else
                                                        none
                                                    else
                                                      if decide (sums_k7 x2 x3) = true then
                                                        if (sums_k5 x2 x3) = true then
                                                          if (sums_k8 x2 x3) = true then
                                                            if (sums_k13 x2) = true then
                                                              some ()
                                                            else
                                                              none
                                                          else
                                                            none
                                                        else
                                                          none
                                                      else
                                                        none
                                                  else
                                                    if decide (sums_k7 x2 x3) = true then
                                                      if (sums_k5 x2 x3) = true then
                                                        if (sums_k8 x2 x3) = true then
                                                          if (sums_k13 x2) = true then
                                                            some ()
                                                          else
                                                            none
                                                        else
                                                          none
                                                      else
                                                        none
                                                    else
                                                      none
                                                else
                                                  none
                                              else
                                                none
                                            else
                                              none
                                          else
                                            none
                                        else
                                          none
                                      else
                                        none
                                  else
                                    if (((sums_k2 x0).1) == (0)) = true then
                                      if ((((sums_k2 x0).2) == (0)) == (sums_k3 x0 x1 x2 x3 m).2.2.1) = true then
                                        if (((sums_k2 x0).2) == (3)) = true then
                                          if decide (sums_k10 x0) = true then
                                            if (sums_k15 x0) = true then
                                              if decide (sums_k9 x2 x3) = true then
                                                if (sums_k18 x2 x3) = true then
                                                  if (sums_k22 x2) = true then
                                                    if (sums_k5 x2 x3) = true then
                                                      if (sums_k8 x2 x3) = true then
                                                        if (sums_k13 x2) = true then
                                                          some ()
                                                        else
                                                          none
                                                      else
                                                        none
                                                    else
                                                      none
                                                  else
                                                    if decide (sums_k7 x2 x3) = true then
                                                      if (sums_k5 x2 x3) = true then
                                                        if (sums_k8 x2 x3) = true then
                                                          if (sums_k13 x2) = true then
                                                            some ()
                                                          else
                                                            none
                                                        else
                                                          none
                                                      else
                                                        none
                                                    else
                                                      none
                                                else
                                                  if decide (sums_k7 x2 x3) = true then
                                                    if (sums_k5 x2 x3) = true then
                                                      if (sums_k8 x2 x3) = true then
                                                        if (sums_k13 x2) = true then
                                                          some ()
                                                        else
                                                          none
                                                      else
                                                        none
                                                    else
                                                      none
                                                  else
                                                    none
                                              else
                                                none
                                            else
                                              none
                                          else
                                            none
                                        else
                                          none
                                      else
                                        none
                                    else
                                      none
                                else
                                  if (((sums_k2 x0).1) == (0)) = true then
                                    if ((((sums_k2 x0).2) == (0)) == (sums_k3 x0 x1 x2 x3 m).2.2.1) = true then
                                      if (((sums_k2 x0).2) == (3)) = true then
                                        if decide (sums_k10 x0) = true then
                                          if (sums_k15 x0) = true then
                                            if decide (sums_k9 x2 x3) = true then
                                              if (sums_k18 x2 x3) = true then
                                                if (sums_k22 x2) = true then
                                                  if (sums_k5 x2 x3) = true then
                                                    if (sums_k8 x2 x3) = true then
                                                      if (sums_k13 x2) = true then
                                                        some ()
                                                      else
                                                        none
                                                    else
                                                      none
                                                  else
                                                    none
                                                else
                                                  if decide (sums_k7 x2 x3) = true then
                                                    if (sums_k5 x2 x3) = true then
                                                      if (sums_k8 x2 x3) = true then
                                                        if (sums_k13 x2) = true then
                                                          some ()
                                                        else
                                                          none
                                                      else
                                                        none
                                                    else
                                                      none
                                                  else
                                                    none
                                              else
                                                if decide (sums_k7 x2 x3) = true then
                                                  if (sums_k5 x2 x3) = true then
                                                    if (sums_k8 x2 x3) = true then
                                                      if (sums_k13 x2) = true then
                                                        some ()
                                                      else
                                                        none
                                                    else
                                                      none
                                                  else
                                                    none
                                                else
                                                  none
                                            else
                                              none
                                          else
                                            none
                                        else
                                          none
                                      else
                                        none
                                    else
                                      none
                                  else
                                    none
                              else
                                if (((sums_k2 x0).1) == (0)) = true then
                                  if ((((sums_k2 x0).2) == (0)) == (sums_k3 x0 x1 x2 x3 m).2.2.1) = true then
                                    if (((sums_k2 x0).2) == (3)) = true then
                                      if decide (sums_k10 x0) = true then
                                        if (sums_k15 x0) = true then
                                          if decide (sums_k9 x2 x3) = true then
                                            if (sums_k18 x2 x3) = true then
                                              if (sums_k22 x2) = true then
                                                if (sums_k5 x2 x3) = true then
                                                  if (sums_k8 x2 x3) = true then
                                                    if (sums_k13 x2) = true then
                                                      some ()
                                                    else
                                                      none
                                                  else
                                                    none
                                                else
                                                  none
                                              else
                                                if decide (sums_k7 x2 x3) = true then
                                                  if (sums_k5 x2 x3) = true then
                                                    if (sums_k8 x2 x3) = true then
                                                      if (sums_k13 x2) = true then
                                                        some ()
                                                      else
                                                        none
                                                    else
                                                      none
                                                  else
                                                    none
                                                else
                                                  none
                                            else
                                              if decide (sums_k7 x2 x3) = true then
                                                if (sums_k5 x2 x3) = true then
                                                  if (sums_k8 x2 x3) = true then
                                                    if (sums_k13 x2) = true then
                                                      some ()
                                                    else
                                                      none
                                                  else
                                                    none
                                                else
                                                  none
                                              else
                                                none
                                          else
                                            none
                                        else
                                          none
                                      else
                                        none
                                    else
                                      none
                                  else
                                    none
                                else
                                  none
                            else
                              none
                        else
                          none
                      else
                        none
                    else
                      none
                  else
                    none
              else
                none
            else
              none
          else
            none
        else
          none
      else
        none
    else
      none
  else
    none

end Go.Proofs.Ytkppbflmlpabjaa.Dec
