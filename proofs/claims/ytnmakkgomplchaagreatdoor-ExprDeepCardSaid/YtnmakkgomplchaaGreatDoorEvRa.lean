/- Operations that the machine does itself; texts and rows of bytes. No condition. -/
import Derived.Test.YtnmakkgomplchaaGreatDoorEvR
import Derived.Laws.IdiomStrings
import Derived.Laws.AppendOwn
import Derived.Laws.BytesString
namespace Go.Ev
set_option linter.unusedVariables false
set_option linter.unusedSimpArgs false
set_option linter.unusedSectionVars false
variable [Ctx]

theorem asDs_spec : ∀ (as : List AV) (ds : List D), asDs as = some ds → as = ds.map .d
  | [], ds, h => by simp only [asDs, Option.some.injEq] at h; subst h; rfl
  | .d x :: as, ds, h => by
    simp only [asDs] at h
    split at h
    · rename_i ds' hd
      simp only [Option.some.injEq] at h
      subst h
      rw [asDs_spec as ds' hd]; rfl
    · cases h
  | .top :: _, ds, h => by simp [asDs] at h
  | .sr .. :: _, ds, h => by simp [asDs] at h
  | .ptr .. :: _, ds, h => by simp [asDs] at h
  | .eptr .. :: _, ds, h => by simp [asDs] at h
  | .cptr .. :: _, ds, h => by simp [asDs] at h
  | .agg _ :: _, ds, h => by simp [asDs] at h
  | .tup _ :: _, ds, h => by simp [asDs] at h
  | .fn .. :: _, ds, h => by simp [asDs] at h


section
variable {P : Program} {X : Blocks} {β : Map} {N : Nat → Prop} {w : World} {B : Boxes} {al : Nat} {ρ : Operand → Value} {o : Oper} {byref : FuncId → Bool} {call : Caller} {as : List AV} {res : Res}

/-- What only makes blocks that nobody owns. -/
theorem Step.grow {L : Looks} {val : AV} {v : Value} {w' : World} (hS : SimB X β N w L) (hF : Fr (fun _ => False) w (fun _ => False) w') (hv : VR (All X β L) β N w' val v) : Step X β N w L al L val v w' := by
  have hb : ∀ c, c < w.heap.size → w'.heap[c]? = w.heap[c]? := fun c hc => (hF.blk c hc (fun h => h)).2
  have mv : Mv (All X β L) β N w (All X β L) β N w' := ⟨hF.size, fun c hc hn => ⟨hn, hb c hc⟩, hF.shape, fun b hb => hb, fun b hb => rfl⟩
  refine ⟨β, N, ⟨hS.apart, hS.inj, fun b => ?_, hS.dom, fun c hc => Nat.lt_of_lt_of_le (hS.old c hc) hF.size, hS.tabs' ⟨hF.os, hF.tape, hF.output, hF.size, fun c hc hn => ⟨hn, hb c hc⟩, hF.shape⟩⟩, hv, ⟨hF.os, hF.tape, hF.output, hF.size, fun c hc hn => ⟨hn, hb c hc⟩, hF.shape⟩, fun b hb => ⟨hb, rfl⟩, fun b hb => .inl hb⟩
  by_cases hd : L b = .dead
  · rw [hd]; trivial
  · exact (hS.box b).move mv (hS.dom b hd) fun c hc _ => hb c (hS.lt hd hc)

theorem find_index {fn : Func} (h : fn.name = "internal/bytealg.IndexByteString") : Extern.find fn = some Extern.BytealgIndexByte.indexByte := by
  unfold Extern.find
  simp only [h]
  have e1 : Extern.allGenericRows.lookup "internal/bytealg.IndexByteString" = none := by kernel_rfl
  have e2 : Extern.allTypedRows.lookup "internal/bytealg.IndexByteString" = none := by kernel_rfl
  have e3 : Extern.allRows.lookup "internal/bytealg.IndexByteString" = some Extern.BytealgIndexByte.indexByte := by kernel_rfl
  rw [e1, e2, e3]
  rfl

theorem find_count {fn : Func} (h : fn.name = "internal/bytealg.CountString") : Extern.find fn = some Extern.BytealgCount.count := by
  unfold Extern.find
  simp only [h]
  have e1 : Extern.allGenericRows.lookup "internal/bytealg.CountString" = none := by kernel_rfl
  have e2 : Extern.allTypedRows.lookup "internal/bytealg.CountString" = none := by kernel_rfl
  have e3 : Extern.allRows.lookup "internal/bytealg.CountString" = some Extern.BytealgCount.count := by kernel_rfl
  rw [e1, e2, e3]
  rfl

theorem go_prim {c : Call} {f : FuncId} {g : List D → M D} (ho : o.op = .call c) (hc : c.callee = .value (.func f)) (hρ : ρ (.func f) = .func (.func f) #[] #[]) (hg : externG P f = some g) (hS : SimB X β N w (look B))
    (hx : VRs (All X β (look B)) β N w as (c.args.toList.map ρ)) (hr : (evOp byref call (.prim g) as B al).run = some res) :
    Does P o ρ w (Step X β N w (look B) al (updsL (look B) res.writes) res.val) := by
  simp only [evOp] at hr
  obtain ⟨ds, h1, h2⟩ := run_bind_some hr
  obtain ⟨r, h3, h4⟩ := run_bind_some h2
  simp only [M.run, Option.some.injEq] at h4
  subst h4
  have h1' : asDs as = some ds := by
    cases hh : asDs as with
    | none => rw [hh] at h1; simp [optM, M.run] at h1
    | some x => rw [hh] at h1; simpa [optM, M.run] using h1
  have := asDs_spec _ _ h1'
  subst this
  have hargs : c.args.map ρ = (c.args.toList.map ρ).toArray := by
    apply Array.ext'; simp
  unfold externG at hg
  split at hg
  · rename_i fn hfn
    split at hg
    · rename_i hcond
      simp only [Bool.and_eq_true, Bool.not_eq_true', Option.isNone_iff_eq_none] at hcond
      obtain ⟨⟨hb, hname⟩, hnext⟩ := hcond
      have exec : ∀ (e : Array Value → Sem Value) (v : Value), Extern.find fn = some e → (e (c.args.map ρ)).run P w = .ok v w → (execOp ρ o).run P w = .ok (.value v) w := by
        intro e v he hv
        have := run_callFunc_extern hfn hname (by simpa using hb) hnext he (c.args.map ρ) w
        rw [hv] at this
        simp only [execOp, ho, resolve, hc, hρ, Deferred.ofValue, invoke, Sem.run_bind]
        simpa using this
      split at hg
      · rename_i hn
        simp only [Option.some.injEq] at hg
        subst hg
        unfold indexByteG at h3
        split at h3
        · rename_i s k
          simp only [M.run, Option.some.injEq] at h3
          subst h3
          obtain ⟨u, us, e1, hu, hx⟩ := VRs.cons hx
          obtain ⟨u2, e2, hu2⟩ := VRs.one hx
          subst e2
          obtain ⟨sb, rfl, hsb⟩ := VR.d_iff.1 hu
          have hu2' : u2 = .int .u8 k := VR.d_iff.1 hu2
          subst hu2'
          refine ⟨_, w, .inl (exec _ _ (find_index hn) ?_), Step.same hS (VR.d_iff.2 rfl)⟩
          rw [hargs, e1]
          have := Lib.run_indexByteString (P := P) sb k w
          rw [hsb] at this
          exact this
        · simp [M.run] at h3
      · split at hg
        · rename_i hn
          simp only [Option.some.injEq] at hg
          subst hg
          unfold countByteG at h3
          split at h3
          · rename_i s k
            simp only [M.run, Option.some.injEq] at h3
            subst h3
            obtain ⟨u, us, e1, hu, hx⟩ := VRs.cons hx
            obtain ⟨u2, e2, hu2⟩ := VRs.one hx
            subst e2
            obtain ⟨sb, rfl, hsb⟩ := VR.d_iff.1 hu
            have hu2' : u2 = .int .u8 k := VR.d_iff.1 hu2
            subst hu2'
            refine ⟨_, w, .inl (exec _ _ (find_count hn) ?_), Step.same hS (VR.d_iff.2 rfl)⟩
            rw [hargs, e1]
            have := Lib.run_countString (P := P) sb k w
            rw [hsb] at this
            exact this
          · simp [M.run] at h3
        · cases hg
    · cases hg
  · cases hg

theorem isByte_spec {e : TypeId} (h : isByte P e = true) : P.underlying e = some (.int .u8) := by
  unfold isByte at h
  split at h
  · assumption
  · cases h

theorem go_s2b {s d e : TypeId} {x : Operand} (ho : o.op = .convert s d x) (hs : P.underlying s = some .string) (hd : P.underlying d = some (.slice e)) (he : isByte P e = true) (hS : SimB X β N w (look B))
    (hx : VRs (All X β (look B)) β N w as ([x].map ρ)) (hr : (evOp byref call .s2b as B al).run = some res) :
    Does P o ρ w (Step X β N w (look B) al (updsL (look B) res.writes) res.val) := by
  rcases as with _ | ⟨a, _ | ⟨b, r⟩⟩
  · simp [evOp, M.run] at hr
  rotate_left
  · simp [evOp, M.run] at hr
  obtain ⟨v, e1, hv⟩ := VRs.one hx
  simp at e1
  simp only [evOp] at hr
  split at hr
  · rename_i l
    simp only [M.run, Option.some.injEq] at hr
    subst hr
    obtain ⟨sb, rfl, hsb⟩ := VR.d_iff.1 hv
    have he' := isByte_spec he
    have hrun := run_bytes_of_string (P := P) w s d e sb hs hd he'
    generalize hcap : grownCap w sb.size 0 e = cap at hrun
    have hge : sb.size ≤ cap := by rw [← hcap]; exact grownCap_ge w sb.size 0 e
    generalize hw' : w.drew.alloc (.cells (bytesRow sb cap) e ((bytesRow sb cap).size, (bytesRow sb cap).size + 1)) = w' at hrun
    have hheap : w'.heap = w.heap.push (.cells (bytesRow sb cap) e ((bytesRow sb cap).size, (bytesRow sb cap).size + 1)) := by rw [← hw']; rfl
    have hold : ∀ c, c < w.heap.size → w'.heap[c]? = w.heap[c]? := by
      intro c hc
      rw [hheap, Array.getElem?_push, if_neg (by omega)]
    have hnew : w'.heap[w.heap.size]? = some (.cells (bytesRow sb cap) e ((bytesRow sb cap).size, (bytesRow sb cap).size + 1)) := by
      rw [hheap, Array.getElem?_push, if_pos rfl]
    have hF : Fr (fun _ => False) w (fun _ => False) w' := by
      refine ⟨by rw [← hw']; rfl, by rw [← hw']; rfl, by rw [← hw']; rfl, by rw [hheap, Array.size_push]; omega, fun c hc _ => ⟨fun h => h, hold c hc⟩, fun c arr t fz ha => ⟨arr, fz, ?_, rfl⟩⟩
      rw [hold c (heap_lt ha)]; exact ha
    have hlen : (l.map fun c => ((c.toNat : Nat) : Int)).length = sb.size := by
      rw [List.length_map, ← hsb, Array.length_toList]; rfl
    have notOwn : ¬ All X β (look B) w.heap.size := by
      rintro (h | ⟨b, h1, h2⟩)
      · exact absurd (hS.old _ h) (by omega)
      · exact absurd (hS.lt (fun e => by rw [e] at h1; simp [Box.live] at h1) h2) (by omega)
    refine ⟨.slice (some ⟨w.heap.size, 0, none⟩) sb.size cap, w', .inl ?_, Step.grow hS hF (VR.d_iff.2 ?_)⟩
    · simp only [execOp, ho, e1, Sem.run_bind, hrun]
      rfl
    · refine RD.sl w.heap.size 0 cap (by rw [hlen]) (by rw [hlen]; exact hge) (by rw [hheap, Array.size_push]; omega) notOwn fun i hi => ?_
      refine RD.int ?_
      have hi' : i < sb.data.size := by rw [hlen] at hi; exact hi
      have hc := bytesRow_at sb cap i hi'
      rw [show (⟨w.heap.size, 0 + i * (Ty.int IntKind.u8).size + 0, none⟩ : Addr) = ⟨w.heap.size, i, none⟩ by simp [Ty.size], cell_of_arr hnew, hc]
      subst hsb
      simp
  · simp [M.run] at hr

theorem push_all : ∀ (ns : List Int) (r : ByteArray), (ns.foldl (fun r n => r.push (UInt8.ofNat n.toNat)) r).data.toList = r.data.toList ++ ns.map fun (n : Int) => UInt8.ofNat n.toNat
  | [], r => by simp
  | n :: ns, r => by
    rw [List.foldl_cons, push_all ns]
    simp [ByteArray.push]

theorem slice_of {Y : Blocks} {a : AV} {t : Ty} {ys : List t.den} {rs : List Nat} {v : Value} (hr : (content B t a).run = some (ys, rs)) (hn : a.isStr = false) (hv : VR Y β N w a v) : ∃ q n c, v = .slice q n c := by
  unfold content at hr
  split at hr
  · exact ⟨_, _, _, VR.d_iff.1 hv⟩
  · rename_i t' l
    have h : RD Y w (.sl t') l (fun _ => some v) := VR.d_iff.1 hv
    obtain ⟨v', e, h⟩ := RD.slice h
    cases e
    rcases h with ⟨_, _, rfl, _⟩ | ⟨c, off, cap, rfl, _⟩ <;> exact ⟨_, _, _, rfl⟩
  · simp [AV.isStr] at hn
  · obtain ⟨_, _, h⟩ := VR.sr_iff.1 hv
    rcases h with ⟨_, rfl, _⟩ | ⟨c, k, _, rfl, _⟩ <;> exact ⟨_, _, _, rfl⟩
  · simp [M.run] at hr

theorem go_b2s {s d e : TypeId} {x : Operand} (ho : o.op = .convert s d x) (hs : P.underlying s = some (.slice e)) (hd : P.underlying d = some .string) (he : isByte P e = true) (hS : SimB X β N w (look B))
    (hx : VRs (All X β (look B)) β N w as ([x].map ρ)) (hr : (evOp byref call .b2s as B al).run = some res) :
    Does P o ρ w (Step X β N w (look B) al (updsL (look B) res.writes) res.val) := by
  rcases as with _ | ⟨a, _ | ⟨b, r⟩⟩
  · simp [evOp, M.run] at hr
  rotate_left
  · simp [evOp, M.run] at hr
  obtain ⟨v, e1, hv⟩ := VRs.one hx
  simp at e1
  simp only [evOp] at hr
  obtain ⟨h0, hr⟩ := (M.run_ifb _ _ _).1 hr
  obtain ⟨⟨ys, rs⟩, h1, h2⟩ := run_bind_some hr
  simp only [M.run, Option.some.injEq] at h2
  subst h2
  obtain ⟨q, n, c, rfl⟩ := slice_of h1 (by simpa using h0) hv
  obtain ⟨us, hl, hlen, hcells, hRD, _⟩ := content_sound (P := P) hS h1 hv (by simp [Ty.size])
  have hn : n = ys.length := by
    have := hlen w
    simp only [Builtin.lenOf] at this
    have h : (Result.ok n w : Result Nat) = .ok ys.length w := this
    cases h; rfl
  subst hn
  have hus : us = (show List Int from ys).map (Value.int .u8) := by
    apply List.ext_getElem?
    intro i
    by_cases hi : i < ys.length
    · have h := hRD i hi
      generalize hg : (fun j => us[i * (Ty.int IntKind.u8).size + j]?) = g at h
      cases h with
      | int h =>
        rw [← hg] at h
        have h' : us[i]? = some (.int .u8 ys[i]) := by simpa [Ty.size] using h
        rw [h', List.getElem?_map]
        have : (show List Int from ys)[i]? = some ys[i] := List.getElem?_eq_getElem hi
        rw [this]; rfl
    · have h1 : us.length = ys.length := by simpa [Ty.size] using hl
      rw [List.getElem?_eq_none (by omega), List.getElem?_eq_none (by simpa using hi)]
  have he' := isByte_spec he
  have hconv := run_convert_bytes_string (P := P) w s d e q ys.length c hs he' hd
  have hfc := hcells ys.length w (Nat.le_refl _) rfl
  have htake : us.take (ys.length * (Ty.int IntKind.u8).size) = us := List.take_of_length_le (by rw [hl]; exact Nat.le_refl _)
  rw [htake] at hfc
  have hstr : ∃ sb : ByteArray, (Conv.bytesToString (.slice q ys.length c)).run P w = .ok (.string sb) w ∧ sb.data.toList = (show List Int from ys).map fun (n : Int) => UInt8.ofNat n.toNat := by
    cases q with
    | none =>
      have h : (Result.ok (#[] : Array Value) w : Result (Array Value)) = .ok us.toArray w := hfc
      have hu : us = [] := by
        injection h with h _
        simpa using congrArg Array.toList h.symm
      have hy : ys = [] := by
        rw [hu] at hus
        have := congrArg List.length hus
        simp at this
        exact List.eq_nil_of_length_eq_zero this.symm
      subst hy
      exact ⟨.empty, rfl, rfl⟩
    | some ad =>
      have hload : (loadCells ad ys.length).run P w = .ok ((show List Int from ys).map (Value.int .u8)).toArray w := by
        have h : (loadCells ad (ys.length * (Ty.int IntKind.u8).size)).run P w = .ok us.toArray w := hfc
        rw [← hus]
        simpa [Ty.size] using h
      exact ⟨_, run_bytesToString w ad ys.length c _ hload, by rw [push_all]; rfl⟩
  obtain ⟨sb, hsb1, hsb2⟩ := hstr
  refine ⟨.string sb, w, .inl ?_, Step.same hS (VR.d_iff.2 ⟨sb, rfl, hsb2⟩)⟩
  simp only [execOp, ho, e1, Sem.run_bind, hconv, hsb1]
  rfl

end
end Go.Ev
