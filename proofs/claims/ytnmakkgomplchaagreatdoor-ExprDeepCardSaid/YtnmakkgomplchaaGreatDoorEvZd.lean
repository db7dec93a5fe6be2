/- Summaries of Go's library, out of contracts. No condition. -/
import Derived.Test.YtnmakkgomplchaaGreatDoorEvZc
import Derived.Lib.SlTrimSet
import Derived.Lib.Join
import Derived.Lib.UnsafeStr
namespace Go.Ev
set_option linter.unusedVariables false
set_option linter.unusedSimpArgs false
set_option linter.unusedSectionVars false
variable [Ctx]
open Go.RowKit (Below)

theorem Fr.ofBelow {w w' : World} (h : Below w.heap.size w w') : Fr (fun _ => False) w (fun _ => False) w' :=
  ⟨h.os, h.tape, h.output, h.size, fun c hc _ => ⟨fun h => h, h.block c hc⟩, fun c arr e fz ha => ⟨arr, fz, by rw [h.block c (heap_lt ha)]; exact ha, rfl⟩⟩

theorem VRs.str {X : Blocks} {β : Map} {N : Nat → Prop} {w : World} {l : List UInt8} {v : Value} (h : VR X β N w (.d (.str l)) v) : v = .string ⟨l.toArray⟩ := by
  obtain ⟨s, rfl, hs⟩ := VR.d_iff.1 h
  subst hs
  rfl

theorem vr_str {X : Blocks} {β : Map} {N : Nat → Prop} {w : World} (l : List UInt8) : VR X β N w (.d (.str l)) (.string ⟨l.toArray⟩) := VR.d_iff.2 ⟨_, rfl, rfl⟩

section
variable {P : Program} [TagOK P]

/-- A function of two texts. -/
def str2G (ok : List UInt8 → List UInt8 → Bool) (g : List UInt8 → List UInt8 → AV) : List D → M AV
  | [.str s, .str c] => .chk (ok s c) (.ret (g s c))
  | _ => .fail

theorem str2_at {f : FuncId} {fn : Func} {ok : List UInt8 → List UInt8 → Bool} {g : List UInt8 → List UInt8 → AV} (hf : P.funcs[f]? = some fn) (hb : fn.body.isNone = false) (hn : (fn.name == "runtime.NumGoroutine") = false)
    (h : ∀ (s c : List UInt8) (X : Blocks) (w : World), ok s c = true → (Ctx.inv w ∧ ∀ c, Ctx.tab c → c < w.heap.size) → Calls P f #[.string ⟨s.toArray⟩, .string ⟨c.toArray⟩] w fun e w' => ∃ v, e = .returned v ∧ VR X (fun _ => none) (fun _ => False) w' (g s c) v ∧ Below w.heap.size w w') : CallAt P f (plainV (str2G ok g)) := by
  refine plainV_at fun ds r hr => ⟨⟨fn, hf, hb, hn⟩, fun X w vs hX hI hv => ?_⟩
  unfold str2G at hr
  split at hr
  · rename_i s c
    obtain ⟨h1, h2⟩ := (M.run_chk _ _ _).1 hr
    simp only [M.run, Option.some.injEq] at h2
    subst h2
    obtain ⟨v, u, rfl, hv1, hv2⟩ := VRs.two hv
    rw [VRs.str hv1, VRs.str hv2]
    exact (h s c X w h1 hI).mono fun e w' ⟨v, h1, h2, h3⟩ => ⟨v, h1, h2, Fr.ofBelow h3⟩
  · simp [M.run] at hr

def asciiB (c : List UInt8) : Bool := c.all fun b => decide (b.toNat < 128)

theorem ascii_of {c : List UInt8} (h : asciiB c = true) : ∀ (j : Nat) b, c[j]? = some b → b.toNat < 128 :=
  fun _ b hb => of_decide_eq_true (List.all_eq_true.1 h b (List.mem_of_getElem? hb))

def trimG : List D → M AV := str2G (fun s c => decide (s.length ≤ 9223372036854775807) && decide (c.length < 4294967281) && asciiB c) fun s c => .d (.str (Lib.trimS s c))
def trimLeftG : List D → M AV := str2G (fun s c => decide (c.length < 4294967281) && asciiB c) fun s c => .d (.str (Lib.trimLeftS s c))
def compareG : List D → M AV := str2G (fun _ _ => true) fun s c => .d (.int .i64 (Lib.compareBytes s c))

theorem trim_at {f : FuncId} {fn : Func} (hf : P.funcs[f]? = some fn) (hb : fn.body.isNone = false) (hn : (fn.name == "runtime.NumGoroutine") = false)
    (h : ∀ (s cutset : ByteArray) (w : World), s.size ≤ 9223372036854775807 → cutset.size < 4294967281 → (∀ (j : Nat) b, cutset.data.toList[j]? = some b → b.toNat < 128) →
      Calls P f #[.string s, .string cutset] w fun e w' => e = .returned (.string ⟨(Lib.trimS s.data.toList cutset.data.toList).toArray⟩) ∧ Below w.heap.size w w') : CallAt P f (plainV trimG) := by
  refine str2_at hf hb hn fun s c X w hok _ => ?_
  simp only [Bool.and_eq_true, decide_eq_true_eq] at hok
  refine (h ⟨s.toArray⟩ ⟨c.toArray⟩ w (by simpa [ByteArray.size] using hok.1.1) (by simpa [ByteArray.size] using hok.1.2) (by simpa using ascii_of hok.2)).mono ?_
  rintro e w' ⟨rfl, hB⟩
  exact ⟨_, rfl, by simpa using vr_str _, hB⟩

theorem trimLeft_at {f : FuncId} {fn : Func} (hf : P.funcs[f]? = some fn) (hb : fn.body.isNone = false) (hn : (fn.name == "runtime.NumGoroutine") = false)
    (h : ∀ (s cutset : ByteArray) (w : World), cutset.size < 4294967281 → (∀ (j : Nat) b, cutset.data.toList[j]? = some b → b.toNat < 128) →
      Calls P f #[.string s, .string cutset] w fun e w' => e = .returned (.string ⟨(Lib.trimLeftS s.data.toList cutset.data.toList).toArray⟩) ∧ Below w.heap.size w w') : CallAt P f (plainV trimLeftG) := by
  refine str2_at hf hb hn fun s c X w hok _ => ?_
  simp only [Bool.and_eq_true, decide_eq_true_eq] at hok
  refine (h ⟨s.toArray⟩ ⟨c.toArray⟩ w (by simpa [ByteArray.size] using hok.1) (by simpa using ascii_of hok.2)).mono ?_
  rintro e w' ⟨rfl, hB⟩
  exact ⟨_, rfl, by simpa using vr_str _, hB⟩

theorem compare_at {f : FuncId} {fn : Func} (hf : P.funcs[f]? = some fn) (hb : fn.body.isNone = false) (hn : (fn.name == "runtime.NumGoroutine") = false)
    (h : ∀ (a b : ByteArray) (w : World), Calls P f #[.string a, .string b] w fun e w' => e = .returned (.int .i64 (Lib.compareBytes a.data.toList b.data.toList)) ∧ w' = w) : CallAt P f (plainV compareG) := by
  refine str2_at hf hb hn fun s c X w hok _ => ?_
  refine (h ⟨s.toArray⟩ ⟨c.toArray⟩ w).mono ?_
  rintro e w' ⟨rfl, rfl⟩
  exact ⟨_, rfl, VR.d_iff.2 rfl, Below.refl _ _⟩

/-- strings.Join. -/
def joinG : List D → M AV
  | [.nils, .str _] => .ret (.d (.str []))
  | [.sl .str l, .str sep] => .chk (decide (l.length ≤ 140737488355328) && decide ((Lib.join l sep).length ≤ 140737488355328)) (.ret (.d (.str (Lib.join l sep))))
  | _ => .fail

theorem join_at {f : FuncId} {fn : Func} (hf : P.funcs[f]? = some fn) (hb : fn.body.isNone = false) (hn : (fn.name == "runtime.NumGoroutine") = false)
    (h0 : ∀ (a : Option Addr) (c : Nat) (sep : ByteArray) (w : World), Calls P f #[.slice a 0 c, .string sep] w fun e w' => e = .returned (.string ⟨#[]⟩) ∧ w' = w)
    (h : ∀ (bk o c : Nat) (xs : List ByteArray) (sep : ByteArray) (w : World), (∀ (j : Nat) x, xs[j]? = some x → w.cell? ⟨bk, o + j, none⟩ = some (.string x)) → bk < w.heap.size → xs.length ≤ 140737488355328 → xs.length ≤ c → (Lib.join (xs.map (·.data.toList)) sep.data.toList).length ≤ 140737488355328 →
      Calls P f #[.slice (some ⟨bk, o, none⟩) xs.length c, .string sep] w fun e w' => e = .returned (.string ⟨(Lib.join (xs.map (·.data.toList)) sep.data.toList).toArray⟩) ∧ Below w.heap.size w w') : CallAt P f (plainV joinG) := by
  refine plainV_at fun ds r hr => ⟨⟨fn, hf, hb, hn⟩, fun X w vs hX hI hv => ?_⟩
  unfold joinG at hr
  split at hr
  · rename_i sep
    simp only [M.run, Option.some.injEq] at hr
    subst hr
    obtain ⟨v, u, rfl, hv1, hv2⟩ := VRs.two hv
    rw [VRs.str hv2]
    have : v = .slice none 0 0 := VR.d_iff.1 hv1
    subst this
    refine (h0 _ _ _ w).mono ?_
    rintro e w' ⟨rfl, rfl⟩
    exact ⟨_, rfl, vr_str [], Fr.refl _ _⟩
  · rename_i l sep
    obtain ⟨h1, h2⟩ := (M.run_chk _ _ _).1 hr
    simp only [M.run, Option.some.injEq] at h2
    subst h2
    simp only [Bool.and_eq_true, decide_eq_true_eq] at h1
    obtain ⟨v, u, rfl, hv1, hv2⟩ := VRs.two hv
    rw [VRs.str hv2]
    have hq : RD X w (.sl .str) l (fun _ => some v) := VR.d_iff.1 hv1
    obtain ⟨v', e', hh⟩ := RD.slice hq
    simp only [Option.some.injEq] at e'
    subst e'
    rcases hh with ⟨_, _, rfl, _, rfl⟩ | ⟨c, off, cap, rfl, hcap, hlt, _, hcells⟩
    · refine (h0 _ _ _ w).mono ?_
      rintro e w' ⟨rfl, rfl⟩
      exact ⟨_, rfl, vr_str _, Fr.refl _ _⟩
    · have hxs : ((l.map fun (x : List UInt8) => (⟨x.toArray⟩ : ByteArray)).map (·.data.toList)) = l := by
        rw [List.map_map]
        exact List.map_id _
      have := h c off cap (l.map fun (x : List UInt8) => (⟨x.toArray⟩ : ByteArray)) ⟨sep.toArray⟩ w (by
        intro j x hj
        rw [List.getElem?_map] at hj
        obtain ⟨y, hy, rfl⟩ := Option.map_eq_some_iff.1 hj
        obtain ⟨hjl, rfl⟩ := List.getElem?_eq_some_iff.1 hy
        have hRD := hcells j hjl
        generalize hg : (fun q => w.cell? ⟨c, off + j * Ty.str.size + q, none⟩) = g at hRD
        generalize hx : l[j] = y at hRD
        cases hRD with
        | str h =>
          rw [← hg] at h
          simpa [Ty.size] using h) hlt (by simpa using h1.1) (by simpa using hcap) (by rw [hxs]; exact h1.2)
      rw [hxs, List.length_map] at this
      refine this.mono ?_
      rintro e w' ⟨rfl, hB⟩
      exact ⟨_, rfl, vr_str _, Fr.ofBelow hB⟩
  · simp [M.run] at hr

/-- (*strings.Builder).copyCheck. -/
def copyCheckS (T : TypeId) : List AV → Boxes → M (AV × Boxes) := fun as B => match as with
  | [.ptr b 0] => match look B b with
    | .cells [x, y] => match x with
      | .snil b' T' => .ifb (b' == b && T' == T && Nat.blt b B.length) (.ret (.tup [], B.set b (.cells [.ptr b 0, y])))
      | .ptr b' 0 => .ifb (b' == b) (.ret (.tup [], B))
      | _ => .fail
    | _ => .fail
  | _ => .fail

theorem look_set {B : Boxes} {b : Nat} {x : Box} (h : b < B.length) : look (B.set b x) = updL (look B) b x := by
  funext q
  unfold look updL
  by_cases e : q = b
  · subst e
    simp [List.getD_eq_getElem?_getD, h]
  · simp [List.getD_eq_getElem?_getD, List.getElem?_set, Ne.symm e, e]

theorem copyCheck_at {f : FuncId} {fn : Func} {T : TypeId} (hf : P.funcs[f]? = some fn) (hb : fn.body.isNone = false) (hn : (fn.name == "runtime.NumGoroutine") = false)
    (h0 : ∀ (b : Nat) (w : World), w.cell? ⟨b, 0, none⟩ = some (.pointer none) → w.shape? b = some (T, 2) → w.frozen? ⟨b, 0, none⟩ = false → Calls P f #[.pointer (some ⟨b, 0, none⟩)] w fun e w' => e = .returned (.tuple #[]) ∧ w' = w.setCell ⟨b, 0, none⟩ (.pointer (some ⟨b, 0, none⟩)))
    (h1 : ∀ (b : Nat) (w : World), w.cell? ⟨b, 0, none⟩ = some (.pointer (some ⟨b, 0, none⟩)) → Calls P f #[.pointer (some ⟨b, 0, none⟩)] w fun e w' => e = .returned (.tuple #[]) ∧ w' = w) : CallAt P f (copyCheckS T) := by
  intro as B r B' hr
  have hv0 : ∀ {Y : Blocks} {β : Map} {N : Nat → Prop} {w : World}, VR Y β N w (.tup []) (.tuple #[]) := VR.tup_iff.2 ⟨#[], rfl, by unfold VRs; trivial⟩
  unfold copyCheckS at hr
  split at hr
  · rename_i b
    split at hr
    · rename_i x y hL
      split at hr
      · rename_i b' T'
        obtain ⟨hc, hr2⟩ := (M.run_ifb _ _ _).1 hr
        clear hr
        simp only [Bool.and_eq_true, beq_iff_eq, Nat.blt_eq] at hc
        obtain ⟨⟨rfl, rfl⟩, hlt⟩ := hc
        have hr := hr2
        simp only [M.run, Option.some.injEq, Prod.mk.injEq] at hr
        obtain ⟨rfl, rfl⟩ := hr
        refine ⟨⟨fn, hf, hb, hn⟩, by simp, fun X β w vs hS hvs => ?_⟩
        obtain ⟨v, rfl, hv⟩ := VRs.one hvs
        obtain ⟨hN, c, hβ, rfl⟩ := VR.ptr_iff.1 hv
        have hbx := hS.box b'
        rw [hL] at hbx
        obtain ⟨c', arr, e, g1, g2, g3, g4⟩ := hbx
        rw [hβ] at g1; cases g1
        have hsz : arr.size = 2 := by simpa using g3
        have h00 : arr[0]? = some arr[0] := Array.getElem?_eq_getElem (by omega)
        have h01 : arr[1]? = some arr[1] := Array.getElem?_eq_getElem (by omega)
        obtain ⟨_, hp, c2, arr2, fz2, k1, k2⟩ := VR.snil_iff.1 (g4 0 _ _ rfl h00).1
        rw [hβ] at k1; cases k1
        rw [g2] at k2; cases k2
        refine (h0 c w (by rw [cell_of_arr g2, h00, hp]) (by simp [World.shape?, g2, hsz]) (by simp [World.frozen?, g2])).mono ?_
        rintro e w' ⟨rfl, rfl⟩
        have hset : (w.setCell ⟨c, 0, none⟩ (.pointer (some ⟨c, 0, none⟩))).heap[c]? = some (.cells (arr.setIfInBounds 0 (.pointer (some ⟨c, 0, none⟩))) T' (0, 0)) := by
          simp [World.setCell, Array.getElem?_modify, g2]
        have hcells : ∀ {X' : Blocks}, Mv (All X β (look B)) β (· < B.length) w X' β (· < B.length) (w.setCell ⟨c, 0, none⟩ (.pointer (some ⟨c, 0, none⟩))) → ∀ (j : Nat) (a : AV) (v : Value), [AV.ptr b' 0, y][j]? = some a → (arr.setIfInBounds 0 (.pointer (some ⟨c, 0, none⟩)))[j]? = some v → VR X' β (· < B.length) (w.setCell ⟨c, 0, none⟩ (.pointer (some ⟨c, 0, none⟩))) a v ∧ v.oneCell' = true := by
          intro X' mv j a v ha hv'
          match j with
          | 0 =>
            simp only [List.getElem?_cons_zero, Option.some.injEq] at ha
            subst ha
            have : v = .pointer (some ⟨c, 0, none⟩) := by
              rw [Array.getElem?_setIfInBounds] at hv'
              simp [hsz] at hv'
              exact hv'.symm
            subst this
            exact ⟨VR.ptr_iff.2 ⟨hN, c, hβ, rfl⟩, rfl⟩
          | 1 =>
            simp only [List.getElem?_cons_succ, List.getElem?_cons_zero, Option.some.injEq] at ha
            subst ha
            have hv2 : arr[1]? = some v := by
              rw [Array.getElem?_setIfInBounds] at hv'
              simpa using hv'
            exact ⟨(g4 1 _ _ rfl hv2).1.move mv, (g4 1 _ _ rfl hv2).2⟩
          | j + 2 => simp at ha
        obtain ⟨p1, p2, p3⟩ := Step.put' (val := .tup []) (v := .tuple #[]) (x := .cells [.ptr b' 0, y]) (w' := w.setCell ⟨c, 0, none⟩ (.pointer (some ⟨c, 0, none⟩))) hS (by rw [hL]; rfl) rfl hβ g2 hset (by simp) (by simp [World.setCell]) rfl rfl rfl (fun k hk => Go.RowKit.Below.heap_setCell _ _ _ _ hk) fun mv => ⟨⟨c, _, _, hβ, hset, by simp [hsz], hcells mv⟩, hv0⟩
        refine ⟨_, β, rfl, ?_, ?_, ?_, fun b _ => rfl⟩
        · rw [look_set hlt, List.length_set]; exact p1
        · exact hv0
        · rw [look_set hlt]; exact p3
      · rename_i b'
        obtain ⟨hc, hr2⟩ := (M.run_ifb _ _ _).1 hr
        clear hr
        simp only [beq_iff_eq] at hc
        subst hc
        have hr := hr2
        simp only [M.run, Option.some.injEq, Prod.mk.injEq] at hr
        obtain ⟨rfl, rfl⟩ := hr
        refine ⟨⟨fn, hf, hb, hn⟩, Nat.le_refl _, fun X β w vs hS hvs => ?_⟩
        obtain ⟨v, rfl, hv⟩ := VRs.one hvs
        obtain ⟨hN, c, hβ, rfl⟩ := VR.ptr_iff.1 hv
        have hbx := hS.box b'
        rw [hL] at hbx
        obtain ⟨c', arr, e, g1, g2, g3, g4⟩ := hbx
        rw [hβ] at g1; cases g1
        have hsz : arr.size = 2 := by simpa using g3
        have h00 : arr[0]? = some arr[0] := Array.getElem?_eq_getElem (by omega)
        obtain ⟨_, c2, k1, k2⟩ := VR.ptr_iff.1 (g4 0 _ _ rfl h00).1
        rw [hβ] at k1; cases k1
        refine (h1 c w (by rw [cell_of_arr g2, h00, k2])).mono ?_
        rintro e w' ⟨rfl, rfl⟩
        exact ⟨_, β, rfl, hS, hv0, Fr.refl _ _, fun b _ => rfl⟩
      · simp [M.run] at hr
    · simp [M.run] at hr
  · simp [M.run] at hr

end
end Go.Ev
