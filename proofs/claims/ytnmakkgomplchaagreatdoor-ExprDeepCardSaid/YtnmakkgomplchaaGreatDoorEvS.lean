/- The evaluator's operations are the model's: what compiles. No condition. -/
import Derived.Test.YtnmakkgomplchaaGreatDoorEvR
import Derived.Test.YtnmakkgomplchaaGreatDoorEvRa
import Derived.Test.YtnmakkgomplchaaGreatDoorEvRb
import Derived.Test.YtnmakkgomplchaaGreatDoorEvOz
namespace Go.Ev
set_option linter.unusedVariables false
set_option linter.unusedSimpArgs false
set_option linter.unusedSectionVars false
variable [Ctx]
section
variable {P : Program} [TagOK P] {X : Blocks} {β : Map} {N : Nat → Prop} {w : World} {L : Looks} {al : Nat} {ρ : Operand → Value} {o : Oper}
variable {byref : FuncId → Bool} {call : Caller} {B : Boxes} {op : AOp} {xs : List Operand} {as : List AV} {res : Res}

theorem evOp_does (hc : compOp P o = some (op, xs)) (hnc : op.calls = false) (hS : SimB X β N w (look B)) (hal : ¬ N al)
    (hx : VRs (All X β (look B)) β N w as (xs.map ρ)) (hρ : ∀ u, ρ (.const u) = u) (hρf : ∀ f, ρ (.func f) = .func (.func f) #[] #[]) (hr : (evOp byref call op as B al).run = some res) :
    Does P o ρ w (Step X β N w (look B) al (updsL (look B) res.writes) res.val) := by
  cases hop : o.op with
  | move x =>
    simp only [compOp, hop, Option.some.injEq, Prod.mk.injEq] at hc
    obtain ⟨rfl, rfl⟩ := hc
    exact go_mv (.inl hop) hS hx hr
  | assign x =>
    simp only [compOp, hop] at hc
    have plain : some (AOp.mv, [x]) = some (op, xs) → Does P o ρ w (Step X β N w (look B) al (updsL (look B) res.writes) res.val) := by
      intro h
      simp only [Option.some.injEq, Prod.mk.injEq] at h
      obtain ⟨rfl, rfl⟩ := h
      exact go_mv (.inr hop) hS hx hr
    split at hc
    · rename_i h0
      split at hc
      · split at hc
        · simp only [Option.some.injEq, Prod.mk.injEq] at hc
          obtain ⟨rfl, rfl⟩ := hc
          refine go_nilArr hop ?_ hS hal hx hr
          unfold constNil at h0
          split at h0 <;> simp at h0
          exact hρ _
        · exact plain hc
      · exact plain hc
    · exact plain hc
  | pick c a b =>
    simp only [compOp, hop, Option.some.injEq, Prod.mk.injEq] at hc
    obtain ⟨rfl, rfl⟩ := hc
    exact go_pick hop hS hal hx hr
  | alloc e =>
    simp only [compOp, hop] at hc
    split at hc
    · rename_i zs hz
      split at hc
      · rename_i hT
        simp only [Option.some.injEq, Prod.mk.injEq] at hc
        obtain ⟨rfl, rfl⟩ := hc
        exact go_allocT hop hz (Bool.and_eq_true_iff.1 hT).2 hS hal hx hr
      · simp only [Option.some.injEq, Prod.mk.injEq] at hc
        obtain ⟨rfl, rfl⟩ := hc
        exact go_alloc hop hz hS hal hx hr
    · cases hc
  | box e x =>
    simp only [compOp, hop] at hc
    split at hc <;> simp at hc
    obtain ⟨rfl, rfl⟩ := hc
    exact go_box hop hS hal hx hr
  | build t ps =>
    simp only [compOp, hop] at hc
    split at hc
    · rename_i fs zs h1 h2
      split at hc
      · rename_i pl h3
        split at hc
        · rename_i h4
          simp only [Option.some.injEq, Prod.mk.injEq] at hc
          obtain ⟨rfl, rfl⟩ := hc
          exact go_build hop h1 h2 h3 h4 hS hal hx hr
        · cases hc
      · cases hc
    · cases hc
  | buildSlice t n ps =>
    simp only [compOp, hop] at hc
    split at hc
    · rename_i e hu
      split at hc
      · rename_i ty ht
        split at hc
        · rename_i hz
          simp only [Option.some.injEq, Prod.mk.injEq] at hc
          obtain ⟨rfl, rfl⟩ := hc
          obtain ⟨h1, h2⟩ := elemTy_run ht
          exact go_lit hop hu h1 h2 hz.1 hz.2 hS hal (TagOK.tag_of _ _ ht) hx hr
        · cases hc
      · cases hc
    · cases hc
  | load t a =>
    simp only [compOp, hop] at hc
    split at hc
    · rename_i n hn
      split at hc
      · rename_i hu
        simp only [Option.some.injEq, Prod.mk.injEq] at hc
        obtain ⟨rfl, rfl⟩ := hc
        exact go_load hop hu hn hS hal hx hr
      · cases hc
    · cases hc
  | store t a x =>
    simp only [compOp, hop] at hc
    split at hc
    · rename_i n hn
      simp only [Option.some.injEq, Prod.mk.injEq] at hc
      obtain ⟨rfl, rfl⟩ := hc
      exact go_store hop hn hS hal hx hr
    · cases hc
  | nilCheck x =>
    simp only [compOp, hop, Option.some.injEq, Prod.mk.injEq] at hc
    obtain ⟨rfl, rfl⟩ := hc
    exact go_chk hop hS hal hx hr
  | binOp bop t x y yt =>
    simp only [compOp, hop] at hc
    split at hc
    · simp only [Option.some.injEq, Prod.mk.injEq] at hc
      obtain ⟨rfl, rfl⟩ := hc
      exact go_bin hop hS hal hx hr
    · simp only [Option.some.injEq, Prod.mk.injEq] at hc
      obtain ⟨rfl, rfl⟩ := hc
      exact go_bin hop hS hal hx hr
    · rename_i hu
      split at hc
      · rename_i ng hng
        simp only [Option.some.injEq, Prod.mk.injEq] at hc
        obtain ⟨rfl, rfl⟩ := hc
        exact go_eqb hop hng hu hS hal hx hr
      · cases hc
    · rename_i fs hu
      split at hc
      · rename_i ng ks hng hks
        split at hc
        · cases hc
        · rename_i hp
          simp only [Bool.or_eq_true, not_or, Bool.not_eq_true] at hp
          simp only [Option.some.injEq, Prod.mk.injEq] at hc
          obtain ⟨rfl, rfl⟩ := hc
          exact go_eqs hop hng hu hks hp.1 hp.2 hS hal hx hr
      · cases hc
    · rename_i ms hu
      split at hc
      · rename_i ng hng
        split at hc
        · rename_i hy
          simp only [Option.some.injEq, Prod.mk.injEq] at hc
          obtain ⟨rfl, rfl⟩ := hc
          exact go_isnili hop hng hy hu hρ hS hal hx hr
        · cases hc
      · cases hc
    · split at hc
      · rename_i ng k k' hng hk hk'
        split at hc
        · rename_i he
          subst he
          simp only [Option.some.injEq, Prod.mk.injEq] at hc
          obtain ⟨rfl, rfl⟩ := hc
          exact go_isnil hop hng hk' hk hρ hS hal hx hr
        · cases hc
      · cases hc
  | unOp uop t x =>
    simp only [compOp, hop, Option.some.injEq, Prod.mk.injEq] at hc
    obtain ⟨rfl, rfl⟩ := hc
    exact go_un hop hS hal hx hr
  | convert s d x =>
    simp only [compOp, hop] at hc
    split at hc
    · rename_i k0 k hs hd
      simp only [Option.some.injEq, Prod.mk.injEq] at hc
      obtain ⟨rfl, rfl⟩ := hc
      exact go_toInt hop hs hd hS hal hx hr
    · rename_i hs hd
      simp only [Option.some.injEq, Prod.mk.injEq] at hc
      obtain ⟨rfl, rfl⟩ := hc
      rcases as with _ | ⟨a, _ | ⟨b, r⟩⟩
      · simp [evOp, M.run] at hr
      rotate_left
      · simp [evOp, M.run] at hr
      obtain ⟨v, e, hv⟩ := VRs.one hx
      simp at e
      subst e
      simp only [evOp] at hr
      split at hr
      · simp only [M.run, Option.some.injEq] at hr
        subst hr
        exact does_conv_str hop hs hd hS hv
      · simp [M.run] at hr
    · rename_i e hs hd
      split at hc
      · rename_i he
        simp only [Option.some.injEq, Prod.mk.injEq] at hc
        obtain ⟨rfl, rfl⟩ := hc
        exact go_s2b hop hs hd he hS hx hr
      · cases hc
    · rename_i e hs hd
      split at hc
      · rename_i he
        simp only [Option.some.injEq, Prod.mk.injEq] at hc
        obtain ⟨rfl, rfl⟩ := hc
        exact go_b2s hop hs hd he hS hx hr
      · cases hc
    · cases hc
  | makeFunc fn first caps =>
    cases fn with
    | func f =>
      simp only [compOp, hop] at hc
      split at hc
      · rename_i hf
        simp only [Option.some.injEq, Prod.mk.injEq] at hc
        obtain ⟨rfl, rfl⟩ := hc
        exact go_clo hop hf hS hal hx hr
      · cases hc
    | _ => simp [compOp, hop] at hc
  | makeSlice t l c =>
    simp only [compOp, hop] at hc
    split at hc
    · rename_i e hu
      split at hc
      · rename_i ty b ht hb
        split at hc
        · rename_i hz
          simp only [Option.some.injEq, Prod.mk.injEq] at hc
          obtain ⟨rfl, rfl⟩ := hc
          obtain ⟨h1, h2⟩ := elemTy_run ht
          exact go_mk hop hu h1 h2 hb hz hS hal (TagOK.tag_of _ _ ht) hx hr
        · cases hc
      · cases hc
    · cases hc
  | slice t x lo hi mx =>
    simp only [compOp, hop] at hc
    split at hc
    · rename_i hu
      simp only [Option.some.injEq, Prod.mk.injEq] at hc
      obtain ⟨rfl, rfl⟩ := hc
      exact go_cut hop (.inl ⟨hu, rfl⟩) hS hal hx hr
    · rename_i e hu
      split at hc
      · rename_i n hn
        split at hc
        · cases hc
        · rename_i h0
          simp only [Option.some.injEq, Prod.mk.injEq] at hc
          obtain ⟨rfl, rfl⟩ := hc
          exact go_cut hop (.inr ⟨e, hu, hn, h0⟩) hS hal hx hr
      · cases hc
    · cases hc
  | fieldAddr s x f =>
    simp only [compOp, hop] at hc
    split at hc
    · rename_i fs hu
      split at hc
      · rename_i fd hf
        split at hc
        · rename_i n hn
          split at hc
          · cases hc
          · rename_i h0
            simp only [Option.some.injEq, Prod.mk.injEq] at hc
            obtain ⟨rfl, rfl⟩ := hc
            exact go_fld hop hu hf hn h0 hS hal hx hr
        · cases hc
      · cases hc
    · cases hc
  | field t x f =>
    simp only [compOp, hop] at hc
    split at hc
    · rename_i fs hu
      split at hc
      · rename_i fd hf
        split at hc
        · rename_i n hn
          split at hc
          · rename_i h0
            simp only [Option.some.injEq, Prod.mk.injEq] at hc
            obtain ⟨rfl, rfl⟩ := hc
            exact go_get hop hu hf hn h0 hS hal hx hr
          · cases hc
        · cases hc
      · cases hc
    · cases hc
  | indexAddr t x i =>
    simp only [compOp, hop] at hc
    split at hc
    · rename_i e hu
      split at hc
      · rename_i n hn
        simp only [Option.some.injEq, Prod.mk.injEq] at hc
        obtain ⟨rfl, rfl⟩ := hc
        exact go_elm hop hu hn hS hal hx hr
      · cases hc
    · cases hc
  | index t x i =>
    simp only [compOp, hop] at hc
    split at hc
    · rename_i hu
      simp only [Option.some.injEq, Prod.mk.injEq] at hc
      obtain ⟨rfl, rfl⟩ := hc
      exact go_chr hop hu hS hal hx hr
    · cases hc
  | extract t i =>
    simp only [compOp, hop, Option.some.injEq, Prod.mk.injEq] at hc
    obtain ⟨rfl, rfl⟩ := hc
    exact go_ext hop hS hal hx hr
  | call c =>
    simp only [compOp, hop] at hc
    split at hc
    · rename_i f hcal
      split at hc
      · rename_i g hg
        simp only [Option.some.injEq, Prod.mk.injEq] at hc
        obtain ⟨rfl, rfl⟩ := hc
        exact go_prim hop hcal (hρf f) hg hS hx hr
      · split at hc
        · rename_i hov
          simp only [Option.some.injEq, Prod.mk.injEq] at hc
          obtain ⟨rfl, rfl⟩ := hc
          exact go_ovl hop hcal (hρf _) hov hS hx hr
        · simp only [Option.some.injEq, Prod.mk.injEq] at hc
          obtain ⟨rfl, rfl⟩ := hc
          simp [AOp.calls] at hnc
    · simp only [Option.some.injEq, Prod.mk.injEq] at hc
      obtain ⟨rfl, rfl⟩ := hc
      simp [AOp.calls] at hnc
    · cases hc
    · cases hc
    · rename_i hcal
      split at hc
      · rename_i t ht
        split at hc
        · rename_i e hu
          simp only [Option.some.injEq, Prod.mk.injEq] at hc
          obtain ⟨rfl, rfl⟩ := hc
          exact go_len_sl hop hcal ht hu hS hal hx hr
        · rename_i hu
          simp only [Option.some.injEq, Prod.mk.injEq] at hc
          obtain ⟨rfl, rfl⟩ := hc
          exact go_len_str hop hcal ht hu hS hal hx hr
        · cases hc
      · cases hc
    · rename_i hcal
      split at hc
      · rename_i t u ht
        split at hc
        · rename_i e e2 hu hu2
          split at hc
          · rename_i ty b hty hb
            split at hc
            · rename_i hz
              simp only [Bool.and_eq_true] at hz
              simp only [Option.some.injEq, Prod.mk.injEq] at hc
              obtain ⟨rfl, rfl⟩ := hc
              obtain ⟨h1, h2⟩ := elemTy_run hty
              exact go_app hop hcal ht hu (.inl ⟨_, hu2⟩) h1 h2 hb (by simpa [Nat.blt_eq] using hz.2) hz.1 hS hal (TagOK.tag_of _ _ hty) hx hr
            · cases hc
          · cases hc
        · rename_i e ki hu hu2
          split at hc
          · rename_i ty b hty hb
            split at hc
            · rename_i hz
              simp only [Bool.and_eq_true] at hz
              simp only [Option.some.injEq, Prod.mk.injEq] at hc
              obtain ⟨rfl, rfl⟩ := hc
              obtain ⟨h1, h2⟩ := elemTy_run hty
              exact go_appz hop hcal ht hu hu2 h1 h2 hb (by simpa [Nat.blt_eq] using hz.2) hz.1 hS hal (TagOK.tag_of _ _ hty) hx hr
            · cases hc
          · cases hc
        · rename_i e hu hu2
          split at hc
          · rename_i ty b hty hb
            split at hc
            · rename_i hz
              simp only [Bool.and_eq_true] at hz
              simp only [Option.some.injEq, Prod.mk.injEq] at hc
              obtain ⟨rfl, rfl⟩ := hc
              obtain ⟨h1, h2⟩ := elemTy_run hty
              exact go_app hop hcal ht hu (.inr hu2) h1 h2 hb (by simpa [Nat.blt_eq] using hz.2) hz.1 hS hal (TagOK.tag_of _ _ hty) hx hr
            · cases hc
          · cases hc
        · cases hc
      · cases hc
    · rename_i hcal
      split at hc
      · rename_i t u ht
        split at hc
        · rename_i e hu
          split at hc
          · rename_i n hn
            simp only [Option.some.injEq, Prod.mk.injEq] at hc
            obtain ⟨rfl, rfl⟩ := hc
            exact go_cpy hop hcal ht hu hn hS hal hx hr
          · cases hc
        · cases hc
      · cases hc
    · rename_i hcal
      simp only [Option.some.injEq, Prod.mk.injEq] at hc
      obtain ⟨rfl, rfl⟩ := hc
      exact go_mini hop hcal hS hal hx hr
    · rename_i hcal
      simp only [Option.some.injEq, Prod.mk.injEq] at hc
      obtain ⟨rfl, rfl⟩ := hc
      exact go_maxi hop hcal hS hal hx hr
    · rename_i hcal
      split at hc
      · rename_i t ht
        split at hc
        · rename_i e hu
          split at hc
          · rename_i ty hty
            split at hc
            · rename_i hz
              simp only [Option.some.injEq, Prod.mk.injEq] at hc
              obtain ⟨rfl, rfl⟩ := hc
              obtain ⟨h1, h2⟩ := elemTy_run hty
              exact go_clr hop hcal ht hu h1 h2 hz hS hal hx hr
            · cases hc
          · cases hc
        · cases hc
      · cases hc
    · rename_i hcal
      split at hc
      · rename_i t ht
        split at hc
        · rename_i e hu
          simp only [Option.some.injEq, Prod.mk.injEq] at hc
          obtain ⟨rfl, rfl⟩ := hc
          exact go_capv hop hcal ht hu hS hal hx hr
        · cases hc
      · cases hc
    · rename_i hcal
      simp only [Option.some.injEq, Prod.mk.injEq] at hc
      obtain ⟨rfl, rfl⟩ := hc
      exact go_sdata hop hcal hS hal hx hr
    · rename_i hcal
      split at hc
      · rename_i t u ht
        split at hc
        · rename_i hu
          simp only [Option.some.injEq, Prod.mk.injEq] at hc
          obtain ⟨rfl, rfl⟩ := hc
          exact go_ustr hop hcal ht hu hS hal hx hr
        · cases hc
      · cases hc
    · cases hc
  | _ => simp [compOp, hop] at hc

end
end Go.Ev
