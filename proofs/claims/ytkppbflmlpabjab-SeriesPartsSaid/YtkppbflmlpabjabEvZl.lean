/- Loops by what they come to, this run alone: the heads that were come to are handed back. No condition. -/
import Derived.Test.YtkppbflmlpabjabEvZk
namespace Go.Ev
set_option linter.unusedVariables false
set_option linter.unusedSimpArgs false
set_option linter.unusedSectionVars false

abbrev Vis := List (Nat × Env × Boxes)

def offBlock (id : Nat) : AEx → AEx
  | .exit id' => if id' = id then .normal else .exit id'
  | e => e

def evT (LS : Nat → Option (AEx × Env × Boxes)) (byref : FuncId → Bool) (call : Caller) (n k0 : Nat) (hd : Nat → Hd) : AC → Env → Boxes → M ((AEx × Env × Boxes) × Vis)
  | .skip, env, B => .ret ((.normal, env, B), [])
  | .region ops none, env, B => (evOps byref call ops env B).bind fun (env', B') => .ret ((.normal, env', B'), [])
  | .region ops (some after), env, B => (evDraw byref call after ops env B).bind fun (env', B') => .ret ((.normal, env', B'), [])
  | .seq a b, env, B => (evT LS byref call n k0 hd a env B).bind fun (r, v) => match r with
    | (.normal, env', B') => (evT LS byref call n k0 hd b env' B').bind fun (r2, v2) => .ret (r2, v ++ v2)
    | r => .ret (r, v)
  | .cnd c a b, env, B => match rdA env c with
    | .d (.bool t) => .br t fun p => cond p (evT LS byref call n k0 hd a env B) (evT LS byref call n k0 hd b env B)
    | _ => .fail
  | .block id a, env, B => (evT LS byref call n k0 hd a env B).bind fun (r, v) => .ret ((offBlock id r.1, r.2.1, r.2.2), v)
  | .loop keep a, env, B => match LS keep with
    | some r => (head (hd keep) k0 keep env B).bind fun (env1, B1) => .ret (r, [(keep, env1, B1)])
    | none => .fail
  | .exit id, env, B => .ret ((.exit id, env, B), [])
  | .ret, env, B => .ret ((.ret, env, B), [])
  | .bad, _, _ => .fail

theorem evT_ok (LS : Nat → Option (AEx × Env × Boxes)) (byref : FuncId → Bool) (call : Caller) (n k0 : Nat) (hd : Nat → Hd) : ∀ (c : AC) (env : Env) (B : Boxes) (r : AEx × Env × Boxes) (vis : Vis),
    (∀ keep body env1 B1 q, (keep, body) ∈ loopsOf c → (keep, env1, B1) ∈ vis → LS keep = some q → (turns (hd keep) k0 keep (evC byref call n k0 hd body) n env1 B1).run = some q) →
    (evT LS byref call n k0 hd c env B).run = some (r, vis) → (evC byref call n k0 hd c env B).run = some r
  | .skip, env, B, r, vis, h, hr => by
    simp only [evT, M.run, Option.some.injEq, Prod.mk.injEq] at hr
    simp only [evC, M.run, hr.1]
  | .region ops none, env, B, r, vis, h, hr => by
    simp only [evT] at hr
    obtain ⟨x, h1, h2⟩ := run_bindS hr
    simp only [M.run, Option.some.injEq, Prod.mk.injEq] at h2
    simp only [evC]
    rw [M.run_bind, h1]
    simp only [Option.bind_some, M.run, h2.1]
  | .region ops (some after), env, B, r, vis, h, hr => by
    simp only [evT] at hr
    obtain ⟨x, h1, h2⟩ := run_bindS hr
    simp only [M.run, Option.some.injEq, Prod.mk.injEq] at h2
    simp only [evC]
    rw [M.run_bind, h1]
    simp only [Option.bind_some, M.run, h2.1]
  | .seq a b, env, B, r, vis, h, hr => by
    simp only [evT] at hr
    obtain ⟨⟨⟨e, env', B'⟩, v⟩, h1, h2⟩ := run_bindS hr
    simp only [evC]
    cases e with
    | normal =>
      simp only at h2
      obtain ⟨⟨r2, v2⟩, h3, h4⟩ := run_bindS h2
      simp only [M.run, Option.some.injEq, Prod.mk.injEq] at h4
      obtain ⟨rfl, rfl⟩ := h4
      rw [M.run_bind, evT_ok LS byref call n k0 hd a _ _ _ _ (fun keep body env1 B1 q g1 g2 g3 => h keep body env1 B1 q (by simp [loopsOf, g1]) (by simp [g2]) g3) h1]
      exact evT_ok LS byref call n k0 hd b _ _ _ _ (fun keep body env1 B1 q g1 g2 g3 => h keep body env1 B1 q (by simp [loopsOf, g1]) (by simp [g2]) g3) h3
    | exit id =>
      simp only [M.run, Option.some.injEq, Prod.mk.injEq] at h2
      obtain ⟨rfl, rfl⟩ := h2
      rw [M.run_bind, evT_ok LS byref call n k0 hd a _ _ _ _ (fun keep body env1 B1 q g1 g2 g3 => h keep body env1 B1 q (by simp [loopsOf, g1]) g2 g3) h1]
      rfl
    | ret =>
      simp only [M.run, Option.some.injEq, Prod.mk.injEq] at h2
      obtain ⟨rfl, rfl⟩ := h2
      rw [M.run_bind, evT_ok LS byref call n k0 hd a _ _ _ _ (fun keep body env1 B1 q g1 g2 g3 => h keep body env1 B1 q (by simp [loopsOf, g1]) g2 g3) h1]
      rfl
  | .cnd c a b, env, B, r, vis, h, hr => by
    simp only [evT, evC] at hr ⊢
    split at hr
    · rename_i t ht
      simp only [M.run, ht] at hr ⊢
      cases t with
      | true => exact evT_ok LS byref call n k0 hd a _ _ _ _ (fun keep body env1 B1 q g1 g2 g3 => h keep body env1 B1 q (by simp [loopsOf, g1]) g2 g3) hr
      | false => exact evT_ok LS byref call n k0 hd b _ _ _ _ (fun keep body env1 B1 q g1 g2 g3 => h keep body env1 B1 q (by simp [loopsOf, g1]) g2 g3) hr
    · simp [M.run] at hr
  | .block id a, env, B, r, vis, h, hr => by
    simp only [evT] at hr
    obtain ⟨⟨⟨e, env', B'⟩, v⟩, h1, h2⟩ := run_bindS hr
    simp only [M.run, Option.some.injEq, Prod.mk.injEq] at h2
    obtain ⟨h2, rfl⟩ := h2
    simp only [evC]
    rw [M.run_bind, evT_ok LS byref call n k0 hd a _ _ _ _ (fun keep body env1 B1 q g1 g2 g3 => h keep body env1 B1 q (by simpa [loopsOf] using g1) g2 g3) h1]
    rw [← h2]
    cases e <;> rfl
  | .loop keep a, env, B, r, vis, h, hr => by
    simp only [evT] at hr
    split at hr
    · rename_i q hq
      obtain ⟨⟨env1, B1⟩, h1, h2⟩ := run_bindS hr
      simp only [M.run, Option.some.injEq, Prod.mk.injEq] at h2
      obtain ⟨rfl, rfl⟩ := h2
      simp only [evC]
      exact loopN_turns _ _ _ _ _ _ h1 (h keep a env1 B1 q (by simp [loopsOf]) (by simp) hq)
    · simp [M.run] at hr
  | .exit id, env, B, r, vis, h, hr => by
    simp only [evT, M.run, Option.some.injEq, Prod.mk.injEq] at hr
    simp only [evC, M.run, hr.1]
  | .ret, env, B, r, vis, h, hr => by
    simp only [evT, M.run, Option.some.injEq, Prod.mk.injEq] at hr
    simp only [evC, M.run, hr.1]
  | .bad, env, B, r, vis, h, hr => by simp [evT, M.run] at hr

/-- A function's run, its loops by what they come to. -/
def runT (LS : Nat → Option (AEx × Env × Boxes)) (byref : FuncId → Bool) (call : Caller) (n : Nat) (fn : AFn) (args : List AV) (B : Boxes) : M ((AV × Boxes) × Vis) :=
  (evT LS byref call n B.length fn.hd fn.body (args ++ List.replicate (fn.ntmps - args.length) (.tup [])) B).bind fun (r, v) => match r with
    | (.exit _, _, _) => .fail
    | (_, env, B') => (finish B.length fn.plain fn.results env B').bind fun x => .ret (x, v)

theorem runT_ok {LS : Nat → Option (AEx × Env × Boxes)} {F : FuncId → Option AFn} {S : FuncId → Option (List AV → Boxes → M (AV × Boxes))} {n : Nat} {f : FuncId} {fn : AFn} {as : List AV} {B B' : Boxes} {r : AV} {vis : Vis} (hF : F f = some fn) (hS : S f = none)
    (hd : distinctLoops fn.body = true)
    (hr : (runT LS (fun g => match F g with | some h => h.byref | none => false) (evCall F S n) n fn as B).run = some ((r, B'), vis))
    (h : ∀ p, p ∈ vis → ∀ q, LS p.1 = some q → (turns (fn.hd p.1) B.length p.1 (evC (fun g => match F g with | some h => h.byref | none => false) (evCall F S n) n B.length fn.hd (loopBody p.1 fn.body)) n p.2.1 p.2.2).run = some q) : (evCall F S (n + 1) f as B).run = some (r, B') := by
  simp only [evCall, hS, hF]
  obtain ⟨⟨⟨e, e1, B1⟩, v⟩, h1, h2⟩ := run_bindS hr
  have hv : v = vis ∧ (match e with | .exit _ => M.fail | _ => finish B.length fn.plain fn.results e1 B1).run = some (r, B') := by
    cases e with
    | exit id => simp [M.run] at h2
    | normal =>
      obtain ⟨x, h3, h4⟩ := run_bindS h2
      simp only [M.run, Option.some.injEq, Prod.mk.injEq] at h4
      obtain ⟨rfl, rfl⟩ := h4
      exact ⟨rfl, h3⟩
    | ret =>
      obtain ⟨x, h3, h4⟩ := run_bindS h2
      simp only [M.run, Option.some.injEq, Prod.mk.injEq] at h4
      obtain ⟨rfl, rfl⟩ := h4
      exact ⟨rfl, h3⟩
  obtain ⟨rfl, hfin⟩ := hv
  have h1' := evT_ok LS _ _ n B.length fn.hd fn.body _ _ _ _ (fun keep body env1 B1 q g1 g2 g3 => by
    have := h (keep, env1, B1) g2 q g3
    rw [← loopBody_eq hd g1] at this
    exact this) h1
  rw [M.run_bind]
  refine Eq.trans (congrArg (fun o => Option.bind o _) (show _ = some (e, e1, B1) from h1')) ?_
  cases e with
  | exit id => simp [M.run] at hfin
  | normal => exact hfin
  | ret => exact hfin

/-- A turn, the loops in its body by what they come to. -/
def turnT (LS : Nat → Option (AEx × Env × Boxes)) (byref : FuncId → Bool) (call : Caller) (n k0 : Nat) (hd : Nat → Hd) (keep : Nat) (body : AC) (env : Env) (B : Boxes) : M ((AEx × Env × Boxes) × Vis) :=
  (evT LS byref call n k0 hd body env B).bind fun (r, v) => match r with
    | (.normal, env', B') => (head (hd keep) k0 keep env' B').bind fun (env2, B2) => .ret ((.normal, env2, B2), v)
    | r => .ret (r, v)

theorem turnT_ok {LS : Nat → Option (AEx × Env × Boxes)} {byref : FuncId → Bool} {call : Caller} {n k0 : Nat} {hd : Nat → Hd} {keep : Nat} {body : AC} {env : Env} {B : Boxes} {r : AEx × Env × Boxes} {vis : Vis} (hdis : distinctLoops body = true)
    (hr : (turnT LS byref call n k0 hd keep body env B).run = some (r, vis))
    (h : ∀ p, p ∈ vis → ∀ q, LS p.1 = some q → (turns (hd p.1) k0 p.1 (evC byref call n k0 hd (loopBody p.1 body)) n p.2.1 p.2.2).run = some q) : (turn (hd keep) k0 keep (evC byref call n k0 hd body) env B).run = some r := by
  unfold turnT at hr
  obtain ⟨⟨⟨e, e1, B1⟩, v⟩, h1, h2⟩ := run_bindS hr
  have ev : (∀ p, p ∈ v → p ∈ vis) → (evC byref call n k0 hd body env B).run = some (e, e1, B1) := fun hv => evT_ok LS _ _ n k0 hd body _ _ _ _ (fun keep body' env1 B1 q g1 g2 g3 => by
    have := h (keep, env1, B1) (hv _ g2) q g3
    rw [← loopBody_eq hdis g1] at this
    exact this) h1
  unfold turn
  rw [M.run_bind]
  cases e with
  | normal =>
    obtain ⟨⟨e4, B4⟩, h5, h6⟩ := run_bindS h2
    simp only [M.run, Option.some.injEq, Prod.mk.injEq] at h6
    obtain ⟨rfl, rfl⟩ := h6
    rw [ev fun p hp => hp]
    simp only [Option.bind_some]
    rw [M.run_bind, h5]
    rfl
  | exit id =>
    simp only [M.run, Option.some.injEq, Prod.mk.injEq] at h2
    obtain ⟨rfl, rfl⟩ := h2
    rw [ev fun p hp => hp]
    rfl
  | ret =>
    simp only [M.run, Option.some.injEq, Prod.mk.injEq] at h2
    obtain ⟨rfl, rfl⟩ := h2
    rw [ev fun p hp => hp]
    rfl

end Go.Ev
