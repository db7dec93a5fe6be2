/- Loops by what they come to: a run in which loops are replaced by what is known of them. No condition. -/
import Derived.Test.YtnmakkgomplchaaGreatDoorEvZg
namespace Go.Ev
set_option linter.unusedVariables false
set_option linter.unusedSimpArgs false
set_option linter.unusedSectionVars false

abbrev LoopG := Env → Boxes → M (AEx × Env × Boxes)

def loopsOf : AC → List (Nat × AC)
  | .seq a b => loopsOf a ++ loopsOf b
  | .cnd _ a b => loopsOf a ++ loopsOf b
  | .block _ a => loopsOf a
  | .loop k a => (k, a) :: loopsOf a
  | _ => []

def evW (LS : Nat → Option LoopG) (byref : FuncId → Bool) (call : Caller) (n k0 : Nat) : AC → Env → Boxes → M (AEx × Env × Boxes)
  | .skip, env, B => .ret (.normal, env, B)
  | .region ops none, env, B => (evOps byref call ops env B).bind fun (env', B') => .ret (.normal, env', B')
  | .region ops (some after), env, B => (evDraw byref call after ops env B).bind fun (env', B') => .ret (.normal, env', B')
  | .seq a b, env, B => (evW LS byref call n k0 a env B).bind fun (e, env', B') => match e with
    | .normal => evW LS byref call n k0 b env' B'
    | e => .ret (e, env', B')
  | .cnd c a b, env, B => match rdA env c with
    | .d (.bool t) => .br t fun p => cond p (evW LS byref call n k0 a env B) (evW LS byref call n k0 b env B)
    | _ => .fail
  | .block id a, env, B => (evW LS byref call n k0 a env B).bind fun (e, env', B') => match e with
    | .exit id' => .ret (if id' = id then .normal else .exit id', env', B')
    | e => .ret (e, env', B')
  | .loop keep a, env, B => match LS keep with
    | some g => g env B
    | none => loopN k0 keep (evW LS byref call n k0 a) n env B
  | .exit id, env, B => .ret (.exit id, env, B)
  | .ret, env, B => .ret (.ret, env, B)
  | .bad, _, _ => .fail

theorem run_bindS {α β : Type} {m : M α} {f : α → M β} {r : β} (h : (m.bind f).run = some r) : ∃ a, m.run = some a ∧ (f a).run = some r := by
  rw [M.run_bind] at h
  exact Option.bind_eq_some_iff.1 h

theorem loopN_mono {k0 keep : Nat} {f g : LoopG} (h : ∀ env B r, (f env B).run = some r → (g env B).run = some r) : ∀ n env B r, (loopN k0 keep f n env B).run = some r → (loopN k0 keep g n env B).run = some r
  | 0, env, B, r, hr => by simp [loopN, M.run] at hr
  | n + 1, env, B, r, hr => by
    simp only [loopN] at hr ⊢
    obtain ⟨⟨e1, B1⟩, h1, h2⟩ := run_bindS hr
    obtain ⟨⟨e, e2, B2⟩, h3, h4⟩ := run_bindS h2
    rw [M.run_bind, h1]
    simp only [Option.bind_some]
    rw [M.run_bind, h _ _ _ h3]
    simp only [Option.bind_some]
    cases e with
    | normal => exact loopN_mono h n _ _ _ h4
    | exit id => exact h4
    | ret => exact h4

/-- What is said of a loop is so. -/
def LoopOK (byref : FuncId → Bool) (call : Caller) (n k0 keep : Nat) (body : AC) (g : LoopG) : Prop :=
  ∀ env B r, (g env B).run = some r → (loopN k0 keep (evC byref call n k0 body) n env B).run = some r

theorem evW_ok (LS : Nat → Option LoopG) (byref : FuncId → Bool) (call : Caller) (n k0 : Nat) : ∀ (c : AC), (∀ p, p ∈ loopsOf c → ∀ g, LS p.1 = some g → LoopOK byref call n k0 p.1 p.2 g) →
    ∀ env B r, (evW LS byref call n k0 c env B).run = some r → (evC byref call n k0 c env B).run = some r
  | .skip, _, env, B, r, hr => hr
  | .region ops none, _, env, B, r, hr => hr
  | .region ops (some after), _, env, B, r, hr => hr
  | .seq a b, h, env, B, r, hr => by
    simp only [evW, evC] at hr ⊢
    obtain ⟨⟨e, e1, B1⟩, h1, h2⟩ := run_bindS hr
    rw [M.run_bind, evW_ok LS byref call n k0 a (fun p hp => h p (by simp [loopsOf, hp])) _ _ _ h1]
    simp only [Option.bind_some]
    cases e with
    | normal => exact evW_ok LS byref call n k0 b (fun p hp => h p (by simp [loopsOf, hp])) _ _ _ h2
    | exit id => exact h2
    | ret => exact h2
  | .cnd c a b, h, env, B, r, hr => by
    simp only [evW, evC] at hr ⊢
    split at hr
    · rename_i t ht
      simp only [M.run, ht] at hr ⊢
      cases t with
      | true => exact evW_ok LS byref call n k0 a (fun p hp => h p (by simp [loopsOf, hp])) _ _ _ hr
      | false => exact evW_ok LS byref call n k0 b (fun p hp => h p (by simp [loopsOf, hp])) _ _ _ hr
    · simp [M.run] at hr
  | .block id a, h, env, B, r, hr => by
    simp only [evW, evC] at hr ⊢
    obtain ⟨⟨e, e1, B1⟩, h1, h2⟩ := run_bindS hr
    rw [M.run_bind, evW_ok LS byref call n k0 a (fun p hp => h p (by simp [loopsOf, hp])) _ _ _ h1]
    exact h2
  | .loop keep a, h, env, B, r, hr => by
    simp only [evW, evC] at hr ⊢
    split at hr
    · rename_i g hg
      exact h (keep, a) (by simp [loopsOf]) g hg _ _ _ hr
    · exact loopN_mono (evW_ok LS byref call n k0 a (fun p hp => h p (by simp [loopsOf, hp]))) n _ _ _ hr
  | .exit id, _, env, B, r, hr => hr
  | .ret, _, env, B, r, hr => hr
  | .bad, _, env, B, r, hr => by simp [evW, M.run] at hr

/-- A loop's body, by what it keeps. -/
def loopBody (keep : Nat) (c : AC) : AC := ((loopsOf c).find? fun p => p.1 == keep).elim .bad (·.2)

def distinctLoops (c : AC) : Bool := nodupB ((loopsOf c).map (·.1))

theorem find_of_nodup : ∀ {l : List (Nat × AC)}, nodupB (l.map (·.1)) = true → ∀ p, p ∈ l → l.find? (fun q => q.1 == p.1) = some p
  | [], _, p, hp => by cases hp
  | q :: l, h, p, hp => by
    simp only [List.map_cons, nodupB, Bool.and_eq_true, Bool.not_eq_true', List.contains_eq_mem] at h
    rcases List.mem_cons.1 hp with rfl | hp
    · simp
    · have hne : q.1 ≠ p.1 := fun e => by
        have := of_decide_eq_false h.1
        exact this (by rw [e]; exact List.mem_map_of_mem hp)
      rw [List.find?_cons_of_neg (by simpa using hne)]
      exact find_of_nodup h.2 p hp

theorem loopBody_eq {c : AC} (hd : distinctLoops c = true) {p : Nat × AC} (hp : p ∈ loopsOf c) : p.2 = loopBody p.1 c := by
  unfold loopBody
  rw [find_of_nodup hd p hp]
  rfl

/-- A function's run, its loops by what is known of them. -/
def runW (LS : Nat → Option LoopG) (byref : FuncId → Bool) (call : Caller) (n : Nat) (fn : AFn) (args : List AV) (B : Boxes) : M (AV × Boxes) :=
  (evW LS byref call n B.length fn.body (args ++ List.replicate (fn.ntmps - args.length) (.tup [])) B).bind fun (e, env, B') => match e with
    | .exit _ => .fail
    | _ => finish B.length fn.plain fn.results env B'

theorem runW_ok {LS : Nat → Option LoopG} {F : FuncId → Option AFn} {S : FuncId → Option (List AV → Boxes → M (AV × Boxes))} {n : Nat} {f : FuncId} {fn : AFn} {as : List AV} {B B' : Boxes} {r : AV} (hF : F f = some fn) (hS : S f = none)
    (hd : distinctLoops fn.body = true) (h : ∀ keep g, LS keep = some g → LoopOK (fun g => match F g with | some h => h.byref | none => false) (evCall F S n) n B.length keep (loopBody keep fn.body) g)
    (hr : (runW LS (fun g => match F g with | some h => h.byref | none => false) (evCall F S n) n fn as B).run = some (r, B')) : (evCall F S (n + 1) f as B).run = some (r, B') := by
  simp only [evCall, hS, hF]
  obtain ⟨⟨e, e1, B1⟩, h1, h2⟩ := run_bindS hr
  have h1' := evW_ok LS _ _ n B.length fn.body (fun p hp g hg => by rw [loopBody_eq hd hp]; exact h p.1 g hg) _ _ _ h1
  rw [M.run_bind]
  refine Eq.trans (congrArg (fun o => Option.bind o _) (show _ = some (e, e1, B1) from h1')) ?_
  exact h2

/-- One turn from a head to the next: heads are what is left after clearing. -/
def turn (k0 keep : Nat) (f : LoopG) (env : Env) (B : Boxes) : M (AEx × Env × Boxes) :=
  (f env B).bind fun (e, env', B') => match e with
    | .normal => (compact k0 (clear keep env') B').bind fun (env2, B2) => .ret (.normal, env2, B2)
    | e => .ret (e, env', B')

def turns (k0 keep : Nat) (f : LoopG) : Nat → Env → Boxes → M (AEx × Env × Boxes)
  | 0, _, _ => .fail
  | n + 1, env, B => (turn k0 keep f env B).bind fun (e, env', B') => match e with
    | .normal => turns k0 keep f n env' B'
    | e => .ret (e, env', B')

theorem loopN_turns {k0 keep : Nat} {f : LoopG} : ∀ (n : Nat) (env : Env) (B : Boxes) (env1 : Env) (B1 : Boxes) (r : AEx × Env × Boxes), (compact k0 (clear keep env) B).run = some (env1, B1) → (turns k0 keep f n env1 B1).run = some r → (loopN k0 keep f n env B).run = some r
  | 0, env, B, env1, B1, r, _, hr => by simp [turns, M.run] at hr
  | n + 1, env, B, env1, B1, r, hc, hr => by
    simp only [loopN]
    rw [M.run_bind, hc]
    simp only [Option.bind_some]
    simp only [turns] at hr
    obtain ⟨⟨e, e2, B2⟩, h1, h2⟩ := run_bindS hr
    unfold turn at h1
    obtain ⟨⟨e', e3, B3⟩, h3, h4⟩ := run_bindS h1
    rw [M.run_bind, h3]
    simp only [Option.bind_some]
    cases e' with
    | normal =>
      simp only at h4
      obtain ⟨⟨e4, B4⟩, h5, h6⟩ := run_bindS h4
      simp only [M.run, Option.some.injEq, Prod.mk.injEq] at h6
      obtain ⟨rfl, rfl, rfl⟩ := h6
      exact loopN_turns n _ _ _ _ _ h5 h2
    | exit id =>
      simp only [M.run, Option.some.injEq, Prod.mk.injEq] at h4
      obtain ⟨rfl, rfl, rfl⟩ := h4
      exact h2
    | ret =>
      simp only [M.run, Option.some.injEq, Prod.mk.injEq] at h4
      obtain ⟨rfl, rfl, rfl⟩ := h4
      exact h2

theorem turns_step {k0 keep : Nat} {f : LoopG} {n : Nat} {env env' : Env} {B B' : Boxes} {r : AEx × Env × Boxes} (h : (turn k0 keep f env B).run = some (.normal, env', B')) (hr : (turns k0 keep f n env' B').run = some r) : (turns k0 keep f (n + 1) env B).run = some r := by
  simp only [turns]
  rw [M.run_bind, h]
  exact hr

theorem turns_last {k0 keep : Nat} {f : LoopG} {n : Nat} {env env' : Env} {B B' : Boxes} {e : AEx} (he : e ≠ .normal) (h : (turn k0 keep f env B).run = some (e, env', B')) : (turns k0 keep f (n + 1) env B).run = some (e, env', B') := by
  simp only [turns]
  rw [M.run_bind, h]
  simp only [Option.bind_some]
  cases e with
  | normal => exact absurd rfl he
  | exit id => rfl
  | ret => rfl

variable [Ctx]
section
variable {P : Program} [TagOK P]

/-- A law at its arguments: what its run says, and that it leaves all as it was. -/
theorem args_law (hm : P.follows .mixedOrders = true) {kinds : FuncId → Bool × Bool} {S : FuncId → Option (List AV → Boxes → M (AV × Boxes))} (hS : ∀ f s, S f = some s → CallAt P f s) {n : Nat} {f : FuncId} {ds : List D} {b : Bool}
    (h : (evCall (fnsOf P kinds) S n f (ds.map .d) []).run = some (.d (.bool b), [])) (W : World) (hI : Ctx.inv W ∧ ∀ c, Ctx.tab c → c < W.heap.size) (vs : List Value) (hv : VRs (fun _ => False) (fun _ => none) (fun _ => False) W (ds.map .d) vs) :
    Calls P f vs.toArray W fun e w' => e = .returned (.bool b) ∧ RowKit.Below W.heap.size W w' := by
  obtain ⟨_, h3⟩ := known hm hS h
  refine (h3 (fun _ => False) W vs (fun c h => h.elim) hI hv).mono ?_
  rintro e w' ⟨v, rfl, k2, k3⟩
  have : v = .bool b := VR.d_iff.1 k2
  subst this
  exact ⟨rfl, k3.os, k3.tape, k3.output, k3.size, fun k hk => (k3.blk k hk fun h => h).2⟩

/-- The arguments are ints. -/
theorem vrs_ints {X : Blocks} {β : Map} {N : Nat → Prop} {w : World} : ∀ (l : List (IntKind × Int)), VRs X β N w ((l.map fun p => D.int p.1 p.2).map .d) (l.map fun p => Value.int p.1 p.2)
  | [] => by unfold VRs; trivial
  | p :: l => by
    have := vrs_ints (X := X) (β := β) (N := N) (w := w) l
    simp only [List.map_cons]
    unfold VRs
    exact ⟨VR.d_iff.2 rfl, this⟩

end
end Go.Ev
