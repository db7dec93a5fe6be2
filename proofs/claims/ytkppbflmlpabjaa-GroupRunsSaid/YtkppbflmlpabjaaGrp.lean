/- The group of alerts (layer 20): contracts of its methods over a block of eight cells and a row of texts: this session's own walks. -/
import Derived.Test.YtkppbflmlpabjaaPGroupRunsx1
import Derived.Test.YtkppbflmlpabjaaCloneStr
import Derived.RegionTactic
import Derived.ChangeAlike
import Derived.BigRegion
import Derived.Deep.QuietTactic
import Derived.BigQuiet
namespace Go.Proofs.Ytkppbflmlpabjaa.Grp
open Go.RowKit Go.Proofs.Ytkppbflmlpabjaa.PGroupRuns Go.Proofs.Ytkppbflmlpabjaa.Copy Go.Proofs.YtkppbflmlpabjaaW.PrintWords Go.Proofs.YtkppbflmlpabjaaW.PrintLast Go.Proofs.YtkppbflmlpabjaaW.PrintMore
set_option linter.unusedVariables false
set_option linter.unusedSimpArgs false
/-- A group as plain data. -/
structure G where
  wt : Int
  iv : Int
  rp : Int
  busy : Bool
  nx : Int
  told : Bool
  last : List ByteArray
  sn : Int
def cellsG (g : G) (v : Value) : Array Value := #[.int .i64 g.wt, .int .i64 g.iv, .int .i64 g.rp, .bool g.busy, .int .i64 g.nx, .bool g.told, v, .int .i64 g.sn]
def GS (w : World) (base gb : Nat) (g : G) : Prop := base ≤ gb ∧ ∃ v, w.heap[gb]? = some (.cells (cellsG g v) 65 (0, 0)) ∧ Kd.R Kd.string 9 w base (fun _ => True) v g.last
/-- A list that stays readable whatever becomes of the block gb. -/
def Reads (w : World) (gb : Nat) (A : Option Addr) (l : List ByteArray) : Prop := ∀ w', w.grownBy w' (some gb) → Kd.C Kd.string w' A l.length l
theorem grown_set {w w1 : World} {gb : Nat} (h : w.grownBy w1 (some gb)) (j : Nat) (u : Value) : w.grownBy (w1.setCell ⟨gb, j, none⟩ u) (some gb) :=
  ⟨h.os, h.tape, h.output, by have := h.size; simpa [World.setCell] using this, fun i hi hne => (Below.heap_setCell w1 ⟨gb, j, none⟩ u i (fun e => hne (by rw [e]))).trans (h.block i hi hne)⟩
theorem grown_trans {w w1 w2 : World} {r : Option Nat} (h : w.grownBy w1 r) (k : w1.grownBy w2 r) : w.grownBy w2 r :=
  ⟨k.os.trans h.os, k.tape.trans h.tape, k.output.trans h.output, Nat.le_trans h.size k.size, fun i hi hne => (k.block i (Nat.lt_of_lt_of_le hi h.size) hne).trans (h.block i hi hne)⟩
theorem grown_drewN {w w1 : World} {r : Option Nat} (h : w.grownBy w1 r) (n : Nat) : w.grownBy (w1.drewN n) r := ⟨h.os, h.tape, h.output, h.size, h.block⟩
theorem grown_drew {w w1 : World} {r : Option Nat} (h : w.grownBy w1 r) : w.grownBy w1.drew r := ⟨h.os, h.tape, h.output, h.size, h.block⟩
theorem grown_drawn {w w1 : World} {r : Option Nat} (h : Drawn0 w w1) : w.grownBy w1 r := grown_of_below h.below r
theorem Reads.at_ {w : World} {gb : Nat} {A : Option Addr} {l : List ByteArray} (h : Reads w gb A l) : Kd.C Kd.string w A l.length l := h w (World.grownBy.refl w _)
theorem Reads.step {w w1 : World} {gb : Nat} {A : Option Addr} {l : List ByteArray} (h : Reads w gb A l) (k : w.grownBy w1 (some gb)) : Reads w1 gb A l := fun w' k' => h w' (grown_trans k k')
theorem idle (gb : Nat) (g : G) (v : Value) (w : World) (h : w.heap[gb]? = some (.cells (cellsG g v) 65 (0, 0))) :
    Calls Try.prog 34 #[.pointer (some ⟨gb, 0, none⟩)] w fun e w' => e = .returned (.bool (!g.busy)) ∧ Drawn0 w w' := by
  have c3 : w.cell? ⟨gb, 3, none⟩ = some (.bool g.busy) := (blk_cell h 3).trans rfl
  clear h
  go_enter Try.func34, Try.ntmps34
  go_wp2
  go_ret
  exact ⟨rfl, by repeat (first | exact Drawn0.refl _ | apply Drawn0.step)⟩
theorem next_ (gb : Nat) (g : G) (v : Value) (w : World) (h : w.heap[gb]? = some (.cells (cellsG g v) 65 (0, 0))) :
    Calls Try.prog 35 #[.pointer (some ⟨gb, 0, none⟩)] w fun e w' => e = .returned (.int .i64 (if g.busy = true then g.nx else -1)) ∧ Drawn0 w w' := by
  have c3 : w.cell? ⟨gb, 3, none⟩ = some (.bool g.busy) := (blk_cell h 3).trans rfl
  have c4 : w.cell? ⟨gb, 4, none⟩ = some (.int .i64 g.nx) := (blk_cell h 4).trans rfl
  clear h
  cases hb : g.busy with
  | true =>
    rw [hb] at c3
    clear hb
    go_enter Try.func35, Try.ntmps35
    go_wp2
    go_ret
    exact ⟨rfl, by repeat (first | exact Drawn0.refl _ | apply Drawn0.step)⟩
  | false =>
    rw [hb] at c3
    clear hb
    go_enter Try.func35, Try.ntmps35
    go_wp2
    go_ret
    exact ⟨rfl, by repeat (first | exact Drawn0.refl _ | apply Drawn0.step)⟩
set_option maxHeartbeats 8000000 in
set_option maxRecDepth 100000 in
theorem tell (base gb : Nat) (g : G) (t : Int) (alerts : List ByteArray) (A : Option Addr) (c : Nat) (w : World) (hG : GS w base gb g) (hbs : base ≤ w.heap.size) (hr : Reads w gb A alerts) (hb : alerts.length * 16 ≤ 140737488355328) :
    Calls Try.prog 41 #[.pointer (some ⟨gb, 0, none⟩), .int .i64 t, .slice A alerts.length c] w fun e w' => ∃ v, e = .returned (.tuple #[v, .bool true]) ∧ GS w' base gb { g with told := true, last := alerts, sn := t } ∧
      Kd.R Kd.string 9 w' w.heap.size (fun _ => True) v alerts ∧ w.grownBy w' (some gb) := by
  obtain ⟨hgb, v0, hblk, hR0⟩ := hG
  obtain ⟨A9, c9, rfl⟩ := Kd.R_slice hR0
  have HBK := Aside0.mk hblk
  have HR := Aside0.mk hr
  have HB := Aside0.mk hb
  have HGB := Aside0.mk hgb
  have HBS := Aside0.mk hbs
  clear hblk hr hb hgb hbs hR0
  go_enter Try.func41, Try.ntmps41
  go_wp2_with (first
    | (go_at_call 45; have tok := HBK; refine (CloneStr.clone A c alerts w HR.out.at_ HB.out).mono ?_; rintro e w1 ⟨v1, rfl, hR1, hb1⟩; obtain ⟨A1, c1, rfl⟩ := Kd.R_slice hR1; have HR1 := Aside0.mk hR1; have HB1 := Aside0.mk hb1; clear hR1 hb1; have BK1 := blk_below HBK.out HB1.out; have k5 : w1.cell? ⟨gb, 5, none⟩ = some (.bool g.told) := (blk_cell BK1 5).trans rfl; have k6 : w1.cell? ⟨gb, 6, none⟩ = some (.slice A9 g.last.length c9) := (blk_cell BK1 6).trans rfl; have k7 : w1.cell? ⟨gb, 7, none⟩ = some (.int .i64 g.sn) := (blk_cell BK1 7).trans rfl; have f5 := blk_frozen BK1 5; have f6 := blk_frozen BK1 6; have f7 := blk_frozen BK1 7; have HBK1 := Aside0.mk BK1; clear BK1 HBK tok)
    | (go_at_call 45; go_loud (refine (CloneStr.clone A c alerts _ (HR.out _ (by repeat (first | exact grown_of_below HB1.out _ | refine grown_set ?_ _ _ | refine grown_drewN ?_ _ | refine grown_drew ?_))) HB.out).mono ?_); rintro e w2 ⟨v2, rfl, hR2, hb2⟩; obtain ⟨A2, c2, rfl⟩ := Kd.R_slice hR2; have HR2 := Aside0.mk hR2; have HB2 := Aside0.mk hb2; clear hR2 hb2 k5 k6 k7 f5 f6 f7))
  go_ret2
  have e3 := blk_set (blk_set (blk_set HBK1.out 5 (.bool true)) 6 (.slice A1 alerts.length c1)) 7 (.int .i64 t)
  have r1 := Kd.R_set HR1.out HBK1.out (by decide) 5 (.bool true)
  have r2 := Kd.R_set r1 (blk_set HBK1.out 5 (.bool true)) (by decide) 6 (.slice A1 alerts.length c1)
  have r3 := Kd.R_set r2 (blk_set (blk_set HBK1.out 5 (.bool true)) 6 (.slice A1 alerts.length c1)) (by decide) 7 (.int .i64 t)
  have g3 := grown_set (grown_set (grown_set (grown_of_below HB1.out (some gb)) 5 (.bool true)) 6 (.slice A1 alerts.length c1)) 7 (.int .i64 t)
  refine ⟨_, rfl, ⟨HGB.out, .slice A1 alerts.length c1, ?_, ?_⟩, ?_, ?_⟩
  · exact blk_below e3 HB2.out
  · exact Kd.R_lower (Kd.R_below r3 HB2.out) HBS.out
  · exact Kd.R_lower HR2.out g3.size
  · exact grown_trans g3 (grown_of_below HB2.out (some gb))
def fresh (wt iv rp : Int) : G := ⟨wt, iv, rp, false, 0, false, [], 0⟩
theorem below_alloc2 {w W : World} (h : Below w.heap.size w W) (o : Obj) : Below w.heap.size w (W.alloc o) := below_alloc h o
set_option maxHeartbeats 8000000 in
set_option maxRecDepth 100000 in
theorem new_ok (wt iv rp : Int) (w : World) (h : group_Right.f wt iv rp = some true) :
    Calls Try.prog 32 #[.agg #[.int .i64 wt, .int .i64 iv, .int .i64 rp]] w fun e w' => ∃ gb, e = .returned (.pointer (some ⟨gb, 0, none⟩)) ∧ GS w' w.heap.size gb (fresh wt iv rp) ∧ Below w.heap.size w w' := by
  have H := Aside0.mk h
  clear h
  have hu24 := Try.underlying57
  have hu78 := Try.underlying65
  have HB := Aside0.mk (Below.refl w.heap.size w)
  go_enter Try.func32, Try.ntmps32
  go_wp2_with (first
    | ((with_reducible refine gate_dst (N := 1) rfl ?_); have tok := HB; go_loud (refine box_event ?hg (N := 1) ?hd (cs := #[.int .i64 wt, .int .i64 iv, .int .i64 rp]) (t := 57) ?hr ?_); (case hd => rfl); (case hg => rfl); (case hr => first | (go_simp; done) | (go_simp; rfl)); intro gt hgt w1 hbox hb; have BT := Aside0.mk hbox; have HB1 := Aside0.mk hb; clear hgt hbox hb HB tok; have k0 : w1.cell? ⟨gt, 0, none⟩ = some (.int .i64 wt) := (blk_cell BT.out 0).trans rfl; have k1 : w1.cell? ⟨gt, 1, none⟩ = some (.int .i64 iv) := (blk_cell BT.out 1).trans rfl; have k2 : w1.cell? ⟨gt, 2, none⟩ = some (.int .i64 rp) := (blk_cell BT.out 2).trans rfl)
    | (go_at_call 39; (with_reducible refine (group_Right.calls wt iv rp true _ H.out).mono ?_); rintro e w2 ⟨rfl, hb⟩; have BT2 := Aside0.mk (blk_below BT.out hb); have HB2 := Aside0.mk (below_step HB1.out hb); clear hb BT HB1 k0 k1 k2; have k0 : w2.cell? ⟨gt, 0, none⟩ = some (.int .i64 wt) := (blk_cell BT2.out 0).trans rfl; have k1 : w2.cell? ⟨gt, 1, none⟩ = some (.int .i64 iv) := (blk_cell BT2.out 1).trans rfl; have k2 : w2.cell? ⟨gt, 2, none⟩ = some (.int .i64 rp) := (blk_cell BT2.out 2).trans rfl)
    | ((with_reducible refine gate_dst (N := 8) rfl ?_); go_loud (refine box_event ?hg (N := 8) ?hd (cs := cellsG (fresh wt iv rp) (.slice none 0 0)) (t := 65) ?hr ?_); (case hd => rfl); (case hg => rfl); (case hr => first | (go_simp; done) | (go_simp; rfl)); intro gb hgb w3 hbox hb; have BK := Aside0.mk hbox; have HGB := Aside0.mk hgb; have HB3 := Aside0.mk hb; clear hgb hbox hb))
  go_ret
  exact ⟨gb, rfl, ⟨by rw [HGB.out]; exact HB2.out.size, _, BK.out, Kd.R_nil _ _ _ _ _⟩, below_step HB2.out HB3.out⟩
set_option maxHeartbeats 8000000 in
set_option maxRecDepth 100000 in
theorem new_no (wt iv rp : Int) (w : World) (h : group_Right.f wt iv rp = some false) :
    Calls Try.prog 32 #[.agg #[.int .i64 wt, .int .i64 iv, .int .i64 rp]] w fun e w' => e = .returned (.pointer none) ∧ Below w.heap.size w w' := by
  have H := Aside0.mk h
  clear h
  have hu24 := Try.underlying57
  have hu78 := Try.underlying65
  have HB := Aside0.mk (Below.refl w.heap.size w)
  go_enter Try.func32, Try.ntmps32
  go_wp2_with (first
    | ((with_reducible refine gate_dst (N := 1) rfl ?_); have tok := HB; go_loud (refine box_event ?hg (N := 1) ?hd (cs := #[.int .i64 wt, .int .i64 iv, .int .i64 rp]) (t := 57) ?hr ?_); (case hd => rfl); (case hg => rfl); (case hr => first | (go_simp; done) | (go_simp; rfl)); intro gt hgt w1 hbox hb; have BT := Aside0.mk hbox; have HB1 := Aside0.mk hb; clear hgt hbox hb HB tok; have k0 : w1.cell? ⟨gt, 0, none⟩ = some (.int .i64 wt) := (blk_cell BT.out 0).trans rfl; have k1 : w1.cell? ⟨gt, 1, none⟩ = some (.int .i64 iv) := (blk_cell BT.out 1).trans rfl; have k2 : w1.cell? ⟨gt, 2, none⟩ = some (.int .i64 rp) := (blk_cell BT.out 2).trans rfl)
    | (go_at_call 39; (with_reducible refine (group_Right.calls wt iv rp false _ H.out).mono ?_); rintro e w2 ⟨rfl, hb⟩; have HB2 := Aside0.mk (below_step HB1.out hb); clear hb BT HB1 k0 k1 k2))
  go_ret
  exact ⟨rfl, HB2.out⟩
/-- A tick, as plain data: the group behind it, what is told, if something is. -/
def tickG (g : G) (t : Int) (al : List ByteArray) : G × List ByteArray × Bool :=
  if g.busy = false ∧ al = [] then (g, [], false)
  else
    let g1 : G := if g.busy = true then g else { fresh g.wt g.iv g.rp with busy := true, nx := t + g.wt }
    if t < g1.nx then (g1, [], false)
    else
      let g2 : G := { g1 with nx := t + g1.iv }
      if al = [] then (fresh g2.wt g2.iv g2.rp, [], g2.told)
      else if g2.told = false ∨ al ≠ g2.last ∨ g2.rp ≤ t - g2.sn then ({ g2 with told := true, last := al, sn := t }, al, true)
      else (g2, [], false)
def TickPost (base gb : Nat) (g : G) (t : Int) (al : List ByteArray) (w : World) (e : Ending) (w' : World) : Prop :=
  ∃ v, e = .returned (.tuple #[v, .bool (tickG g t al).2.2]) ∧ GS w' base gb (tickG g t al).1 ∧ Kd.R Kd.string 9 w' w.heap.size (fun _ => True) v (tickG g t al).2.1 ∧ w.grownBy w' (some gb)
/-- Idle, without alerts. -/
theorem tick_a (base gb : Nat) (g : G) (t : Int) (A : Option Addr) (c : Nat) (w : World) (hG : GS w base gb g) (hb : g.busy = false) :
    Calls Try.prog 33 #[.pointer (some ⟨gb, 0, none⟩), .int .i64 t, .slice A 0 c] w (TickPost base gb g t [] w) := by
  have HG := Aside0.mk hG
  obtain ⟨hgb, v0, hblk, hR0⟩ := hG
  have c3 : w.cell? ⟨gb, 3, none⟩ = some (.bool g.busy) := (blk_cell hblk 3).trans rfl
  rw [hb] at c3
  have HBU := Aside0.mk hb
  clear hgb hblk hR0 hb
  go_enter Try.func33, Try.ntmps33
  go_wp2
  go_ret2
  have e : tickG g t [] = (g, [], false) := by unfold tickG; rw [if_pos ⟨HBU.out, rfl⟩]
  unfold TickPost
  rw [e]
  exact ⟨_, rfl, HG.out, Kd.R_nil _ _ _ _ _, World.grownBy.refl _ _⟩
/-- Busy, ahead of the next look. -/
theorem tick_b (base gb : Nat) (g : G) (t : Int) (al : List ByteArray) (A : Option Addr) (c : Nat) (w : World) (hG : GS w base gb g) (hb : g.busy = true) (ht : t < g.nx) :
    Calls Try.prog 33 #[.pointer (some ⟨gb, 0, none⟩), .int .i64 t, .slice A al.length c] w (TickPost base gb g t al w) := by
  have HG := Aside0.mk hG
  obtain ⟨hgb, v0, hblk, hR0⟩ := hG
  have c3 : w.cell? ⟨gb, 3, none⟩ = some (.bool g.busy) := (blk_cell hblk 3).trans rfl
  have c4 : w.cell? ⟨gb, 4, none⟩ = some (.int .i64 g.nx) := (blk_cell hblk 4).trans rfl
  rw [hb] at c3
  have HBU := Aside0.mk hb
  have HT := Aside0.mk ht
  have d1 : decide (t < g.nx) = true := decide_eq_true ht
  clear hgb hblk hR0 hb ht
  go_enter Try.func33, Try.ntmps33
  go_wp2
  go_ret2
  have e : tickG g t al = (g, [], false) := by
    unfold tickG
    rw [if_neg (by rw [HBU.out]; simp)]
    simp only [HBU.out, if_true]
    rw [if_pos HT.out]
  unfold TickPost
  rw [e]
  exact ⟨_, rfl, HG.out, Kd.R_nil _ _ _ _ _, World.grownBy.refl _ _⟩
def set8 (w : World) (gb : Nat) (a0 a1 a2 a3 a4 a5 a6 a7 : Value) : World :=
  (((((((w.setCell ⟨gb, 0, none⟩ a0).setCell ⟨gb, 1, none⟩ a1).setCell ⟨gb, 2, none⟩ a2).setCell ⟨gb, 3, none⟩ a3).setCell ⟨gb, 4, none⟩ a4).setCell ⟨gb, 5, none⟩ a5).setCell ⟨gb, 6, none⟩ a6).setCell ⟨gb, 7, none⟩ a7
theorem blk8 {w : World} {gb : Nat} {g : G} {v : Value} {T : TypeId} (h : w.heap[gb]? = some (.cells (cellsG g v) T (0, 0))) (a0 a1 a2 a3 a4 a5 a6 a7 : Value) :
    (set8 w gb a0 a1 a2 a3 a4 a5 a6 a7).heap[gb]? = some (.cells #[a0, a1, a2, a3, a4, a5, a6, a7] T (0, 0)) :=
  (blk_put (cs := #[a0, a1, a2, a3, a4, a5, a6, .int .i64 g.sn]) (blk_put (cs := #[a0, a1, a2, a3, a4, a5, v, .int .i64 g.sn]) (blk_put (cs := #[a0, a1, a2, a3, a4, .bool g.told, v, .int .i64 g.sn]) (blk_put (cs := #[a0, a1, a2, a3, .int .i64 g.nx, .bool g.told, v, .int .i64 g.sn]) (blk_put (cs := #[a0, a1, a2, .bool g.busy, .int .i64 g.nx, .bool g.told, v, .int .i64 g.sn]) (blk_put (cs := #[a0, a1, .int .i64 g.rp, .bool g.busy, .int .i64 g.nx, .bool g.told, v, .int .i64 g.sn]) (blk_put (cs := #[a0, .int .i64 g.iv, .int .i64 g.rp, .bool g.busy, .int .i64 g.nx, .bool g.told, v, .int .i64 g.sn]) (blk_put (cs := #[.int .i64 g.wt, .int .i64 g.iv, .int .i64 g.rp, .bool g.busy, .int .i64 g.nx, .bool g.told, v, .int .i64 g.sn]) h 0 a0 rfl) 1 a1 rfl) 2 a2 rfl) 3 a3 rfl) 4 a4 rfl) 5 a5 rfl) 6 a6 rfl) 7 a7 rfl)
theorem grown8 (w : World) (gb : Nat) (a0 a1 a2 a3 a4 a5 a6 a7 : Value) : w.grownBy (set8 w gb a0 a1 a2 a3 a4 a5 a6 a7) (some gb) :=
  grown_set (grown_set (grown_set (grown_set (grown_set (grown_set (grown_set (grown_set (World.grownBy.refl w _) 0 a0) 1 a1) 2 a2) 3 a3) 4 a4) 5 a5) 6 a6) 7 a7
structure Bd (g : G) (t : Int) : Prop where
  t0 : 0 ≤ t
  t1 : t ≤ 1000000
  w0 : 0 ≤ g.wt
  w1 : g.wt ≤ 1000000
  i0 : 0 ≤ g.iv
  i1 : g.iv ≤ 1000000
  s0 : 0 ≤ g.sn
  s1 : g.sn ≤ 1000000
set_option maxHeartbeats 8000000 in
set_option maxRecDepth 100000 in
/-- Idle, with alerts, and a wait. -/
theorem tick_c1 (base gb : Nat) (g : G) (t : Int) (al : List ByteArray) (A : Option Addr) (c : Nat) (w : World) (hG : GS w base gb g) (hb : g.busy = false) (hal : al ≠ []) (hd : Bd g t) (hw : 0 < g.wt) :
    Calls Try.prog 33 #[.pointer (some ⟨gb, 0, none⟩), .int .i64 t, .slice A al.length c] w (TickPost base gb g t al w) := by
  obtain ⟨hgb, v0, hblk, hR0⟩ := hG
  obtain ⟨A9, c9, rfl⟩ := Kd.R_slice hR0
  have k0 : w.cell? ⟨gb, 0, none⟩ = some (.int .i64 g.wt) := (blk_cell hblk 0).trans rfl
  have k1 : w.cell? ⟨gb, 1, none⟩ = some (.int .i64 g.iv) := (blk_cell hblk 1).trans rfl
  have k2 : w.cell? ⟨gb, 2, none⟩ = some (.int .i64 g.rp) := (blk_cell hblk 2).trans rfl
  have k3 : w.cell? ⟨gb, 3, none⟩ = some (.bool g.busy) := (blk_cell hblk 3).trans rfl
  have k4 : w.cell? ⟨gb, 4, none⟩ = some (.int .i64 g.nx) := (blk_cell hblk 4).trans rfl
  have k5 : w.cell? ⟨gb, 5, none⟩ = some (.bool g.told) := (blk_cell hblk 5).trans rfl
  have k6 : w.cell? ⟨gb, 6, none⟩ = some (.slice A9 g.last.length c9) := (blk_cell hblk 6).trans rfl
  have k7 : w.cell? ⟨gb, 7, none⟩ = some (.int .i64 g.sn) := (blk_cell hblk 7).trans rfl
  have f0 := blk_frozen hblk 0
  have f1 := blk_frozen hblk 1
  have f2 := blk_frozen hblk 2
  have f3 := blk_frozen hblk 3
  have f4 := blk_frozen hblk 4
  have f5 := blk_frozen hblk 5
  have f6 := blk_frozen hblk 6
  have f7 := blk_frozen hblk 7
  rw [hb] at k3
  have HBK := Aside0.mk hblk
  have HGB := Aside0.mk hgb
  have HBU := Aside0.mk hb
  have HW := Aside0.mk hw
  have HAL := Aside0.mk hal
  have hl : ((al.length : Int) == 0) = false := by
    rw [beq_eq_false_iff_ne]
    intro h
    exact hal (List.eq_nil_of_length_eq_zero (by omega))
  have b1 := hd.t0
  have b2 := hd.t1
  have b3 := hd.w0
  have b4 := hd.w1
  have d1 : decide (t < t + g.wt) = true := decide_eq_true (by omega)
  clear hblk hgb hb hw hal hd hR0
  go_enter Try.func33, Try.ntmps33
  go_wp2
  go_region
  go_wp2
  go_ret2
  have e : tickG g t al = ({ fresh g.wt g.iv g.rp with busy := true, nx := t + g.wt }, [], false) := by
    unfold tickG
    rw [if_neg (by rintro ⟨_, h⟩; exact HAL.out h)]
    simp only [HBU.out, Bool.false_eq_true, if_false]
    rw [if_pos (by have := HW.out; omega)]
  unfold TickPost
  rw [e]
  have e8 := blk8 HBK.out (.int .i64 g.wt) (.int .i64 g.iv) (.int .i64 g.rp) (.bool true) (.int .i64 (t + g.wt)) (.bool false) (.slice none 0 0) (.int .i64 0)
  refine ⟨.slice none 0 0, ?_, ⟨HGB.out, .slice none 0 0, ?_, Kd.R_nil _ _ _ _ _⟩, Kd.R_nil _ _ _ _ _, ?_⟩
  · rfl
  · exact blk_drew e8
  · exact grown_drew (grown8 w gb _ _ _ _ _ _ _ _)
set_option maxHeartbeats 8000000 in
set_option maxRecDepth 100000 in
/-- Busy, at a look, the same alerts as told, not long enough ago. -/
theorem tick_d5 (base gb : Nat) (g : G) (t : Int) (al : List ByteArray) (A : Option Addr) (c : Nat) (w : World) (hG : GS w base gb g) (hb : g.busy = true) (hal : al ≠ []) (hd : Bd g t) (hn : ¬ t < g.nx) (ht : g.told = true) (hsame : al = g.last) (hrp : t - g.sn < g.rp)
    (hr : Reads w gb A al) (hc : al.length ≤ c) (k : Nat) (hk : slices_Equal_string_string.f k al g.last = some true) :
    Calls Try.prog 33 #[.pointer (some ⟨gb, 0, none⟩), .int .i64 t, .slice A al.length c] w (TickPost base gb g t al w) := by
  obtain ⟨hgb, v0, hblk, hR0⟩ := hG
  obtain ⟨A9, c9, hv, hc9, hC9⟩ := Kd.R_reads hR0
  subst hv
  have k0 : w.cell? ⟨gb, 0, none⟩ = some (.int .i64 g.wt) := (blk_cell hblk 0).trans rfl
  have k1 : w.cell? ⟨gb, 1, none⟩ = some (.int .i64 g.iv) := (blk_cell hblk 1).trans rfl
  have k2 : w.cell? ⟨gb, 2, none⟩ = some (.int .i64 g.rp) := (blk_cell hblk 2).trans rfl
  have k3 : w.cell? ⟨gb, 3, none⟩ = some (.bool g.busy) := (blk_cell hblk 3).trans rfl
  have k4 : w.cell? ⟨gb, 4, none⟩ = some (.int .i64 g.nx) := (blk_cell hblk 4).trans rfl
  have k5 : w.cell? ⟨gb, 5, none⟩ = some (.bool g.told) := (blk_cell hblk 5).trans rfl
  have k6 : w.cell? ⟨gb, 6, none⟩ = some (.slice A9 g.last.length c9) := (blk_cell hblk 6).trans rfl
  have k7 : w.cell? ⟨gb, 7, none⟩ = some (.int .i64 g.sn) := (blk_cell hblk 7).trans rfl
  have f0 := blk_frozen hblk 0
  have f1 := blk_frozen hblk 1
  have f2 := blk_frozen hblk 2
  have f3 := blk_frozen hblk 3
  have f4 := blk_frozen hblk 4
  have f5 := blk_frozen hblk 5
  have f6 := blk_frozen hblk 6
  have f7 := blk_frozen hblk 7
  rw [hb] at k3
  rw [ht] at k5
  have HBK := Aside0.mk hblk
  have HGB := Aside0.mk hgb
  have HBU := Aside0.mk hb
  have HAL := Aside0.mk hal
  have HTO := Aside0.mk ht
  have HN := Aside0.mk hn
  have HS := Aside0.mk hsame
  have HRP := Aside0.mk hrp
  have HR := Aside0.mk hr
  have HK := Aside0.mk hk
  have HC := Aside0.mk hc
  have HC9 := Aside0.mk hc9
  have HR1 := Aside0.mk (Kd.R_set hR0 hblk (by decide) 4 (.int .i64 (t + g.iv)))
  obtain ⟨A8, c8, hv8, _, hC8⟩ := Kd.R_reads HR1.out
  injection hv8 with ea en ec
  subst ea ec
  have HD := Aside0.mk (fun n => Kd.C_drewN hC8 n)
  have HE := Aside0.mk (fun n => Kd.C_drewN (hr _ (grown_set (World.grownBy.refl w (some gb)) 4 (.int .i64 (t + g.iv)))) n)
  have hl : ((al.length : Int) == 0) = false := by
    rw [beq_eq_false_iff_ne]
    intro h
    exact hal (List.eq_nil_of_length_eq_zero (by omega))
  have b1 := hd.t0
  have b2 := hd.t1
  have b3 := hd.i0
  have b4 := hd.i1
  have b5 := hd.s0
  have b6 := hd.s1
  have d1 : decide (t < g.nx) = false := decide_eq_false hn
  have d2 : decide (g.rp ≤ t - g.sn) = false := decide_eq_false (by omega)
  clear hblk hgb hb hal hd hR0 hC9 hn ht hsame hrp hr hk hc hc9 hC8 en
  go_enter Try.func33, Try.ntmps33
  go_wp2
  go_quiet ((go_at_call 40; exact Calls.quiet_of ((slices_Equal_string_string.calls k A c al A9 c9 g.last true _ (HE.out _) HC.out (HD.out _) HC9.out HK.out).mono fun _ _ h => ⟨h.1, h.2.out⟩)))
  go_wp2
  go_ret2
  have e : tickG g t al = ({ g with nx := t + g.iv }, [], false) := by
    unfold tickG
    rw [if_neg (by rintro ⟨_, h⟩; exact HAL.out h)]
    simp only [HBU.out, if_true]
    rw [if_neg (show ¬ t < g.nx by have := HN.out; omega), if_neg HAL.out, if_neg (show ¬ (g.told = false ∨ al ≠ g.last ∨ g.rp ≤ t - g.sn) from (by
      rintro (h | h | h)
      · rw [HTO.out] at h; cases h
      · exact h HS.out
      · have := HRP.out; omega))]
  unfold TickPost
  rw [e]
  refine ⟨.slice none 0 0, ?_, ⟨HGB.out, .slice A9 g.last.length c9, ?_, ?_⟩, Kd.R_nil _ _ _ _ _, ?_⟩
  · rfl
  · exact blk_drewN (blk_put (cs := cellsG g (.slice A9 g.last.length c9)) (cs' := cellsG { g with nx := t + g.iv } (.slice A9 g.last.length c9)) HBK.out 4 (.int .i64 (t + g.iv)) rfl) _
  · exact Kd.R_drewN HR1.out _
  · exact grown_drewN (grown_set (World.grownBy.refl w (some gb)) 4 (.int .i64 (t + g.iv))) _
set_option maxHeartbeats 8000000 in
set_option maxRecDepth 100000 in
/-- Busy, at a look, the same alerts as told, long enough ago. -/
theorem tick_d4 (base gb : Nat) (g : G) (t : Int) (al : List ByteArray) (A : Option Addr) (c : Nat) (w : World) (hG : GS w base gb g) (hbs : base ≤ w.heap.size) (hlb : al.length * 16 ≤ 140737488355328) (hb : g.busy = true) (hal : al ≠ []) (hd : Bd g t) (hn : ¬ t < g.nx) (ht : g.told = true) (hsame : al = g.last) (hrp : g.rp ≤ t - g.sn)
    (hr : Reads w gb A al) (hc : al.length ≤ c) (k : Nat) (hk : slices_Equal_string_string.f k al g.last = some true) :
    Calls Try.prog 33 #[.pointer (some ⟨gb, 0, none⟩), .int .i64 t, .slice A al.length c] w (TickPost base gb g t al w) := by
  obtain ⟨hgb, v0, hblk, hR0⟩ := hG
  obtain ⟨A9, c9, hv, hc9, hC9⟩ := Kd.R_reads hR0
  subst hv
  have k0 : w.cell? ⟨gb, 0, none⟩ = some (.int .i64 g.wt) := (blk_cell hblk 0).trans rfl
  have k1 : w.cell? ⟨gb, 1, none⟩ = some (.int .i64 g.iv) := (blk_cell hblk 1).trans rfl
  have k2 : w.cell? ⟨gb, 2, none⟩ = some (.int .i64 g.rp) := (blk_cell hblk 2).trans rfl
  have k3 : w.cell? ⟨gb, 3, none⟩ = some (.bool g.busy) := (blk_cell hblk 3).trans rfl
  have k4 : w.cell? ⟨gb, 4, none⟩ = some (.int .i64 g.nx) := (blk_cell hblk 4).trans rfl
  have k5 : w.cell? ⟨gb, 5, none⟩ = some (.bool g.told) := (blk_cell hblk 5).trans rfl
  have k6 : w.cell? ⟨gb, 6, none⟩ = some (.slice A9 g.last.length c9) := (blk_cell hblk 6).trans rfl
  have k7 : w.cell? ⟨gb, 7, none⟩ = some (.int .i64 g.sn) := (blk_cell hblk 7).trans rfl
  have f0 := blk_frozen hblk 0
  have f1 := blk_frozen hblk 1
  have f2 := blk_frozen hblk 2
  have f3 := blk_frozen hblk 3
  have f4 := blk_frozen hblk 4
  have f5 := blk_frozen hblk 5
  have f6 := blk_frozen hblk 6
  have f7 := blk_frozen hblk 7
  rw [hb] at k3
  rw [ht] at k5
  have HBK := Aside0.mk hblk
  have HGB := Aside0.mk hgb
  have HBU := Aside0.mk hb
  have HAL := Aside0.mk hal
  have HTO := Aside0.mk ht
  have HN := Aside0.mk hn
  have HS := Aside0.mk hsame
  have HRP := Aside0.mk hrp
  have HR := Aside0.mk hr
  have HBS := Aside0.mk hbs
  have HLB := Aside0.mk hlb
  have HK := Aside0.mk hk
  have HC := Aside0.mk hc
  have HC9 := Aside0.mk hc9
  have HR1 := Aside0.mk (Kd.R_set hR0 hblk (by decide) 4 (.int .i64 (t + g.iv)))
  obtain ⟨A8, c8, hv8, _, hC8⟩ := Kd.R_reads HR1.out
  injection hv8 with ea en ec
  subst ea ec
  have HD := Aside0.mk (fun n => Kd.C_drewN hC8 n)
  have HE := Aside0.mk (fun n => Kd.C_drewN (hr _ (grown_set (World.grownBy.refl w (some gb)) 4 (.int .i64 (t + g.iv)))) n)
  have hl : ((al.length : Int) == 0) = false := by
    rw [beq_eq_false_iff_ne]
    intro h
    exact hal (List.eq_nil_of_length_eq_zero (by omega))
  have b1 := hd.t0
  have b2 := hd.t1
  have b3 := hd.i0
  have b4 := hd.i1
  have b5 := hd.s0
  have b6 := hd.s1
  have d1 : decide (t < g.nx) = false := decide_eq_false hn
  have d2 : decide (g.rp ≤ t - g.sn) = true := decide_eq_true hrp
  clear hbs hlb hblk hgb hb hal hd hR0 hC9 hn ht hsame hrp hr hk hc hc9 hC8 en
  go_enter Try.func33, Try.ntmps33
  go_wp2
  go_quiet ((go_at_call 40; exact Calls.quiet_of ((slices_Equal_string_string.calls k A c al A9 c9 g.last true _ (HE.out _) HC.out (HD.out _) HC9.out HK.out).mono fun _ _ h => ⟨h.1, h.2.out⟩)))
  go_wp2_with (go_at_call 41; go_loud (refine (tell base gb { g with nx := t + g.iv } t al A c _ ⟨HGB.out, .slice A9 g.last.length c9, blk_drewN (blk_put (cs := cellsG g (.slice A9 g.last.length c9)) (cs' := cellsG { g with nx := t + g.iv } (.slice A9 g.last.length c9)) HBK.out 4 (.int .i64 (t + g.iv)) rfl) _, Kd.R_drewN HR1.out _⟩ (Nat.le_trans HBS.out (grown_drewN (grown_set (World.grownBy.refl w (some gb)) 4 (.int .i64 (t + g.iv))) _).size) (HR.out.step (grown_drewN (grown_set (World.grownBy.refl w (some gb)) 4 (.int .i64 (t + g.iv))) _)) HLB.out).mono ?_); rintro e w3 ⟨v3, rfl, hG3, hR3, hg3⟩; have HG3 := Aside0.mk hG3; have HR3 := Aside0.mk hR3; have HG4 := Aside0.mk hg3; obtain ⟨A3, c3, e3⟩ := Kd.R_slice hR3; subst e3; clear hG3 hR3 hg3)
  go_ret2
  have e : tickG g t al = ({ g with nx := t + g.iv, told := true, last := al, sn := t }, al, true) := by
    unfold tickG
    rw [if_neg (by rintro ⟨_, h⟩; exact HAL.out h)]
    simp only [HBU.out, if_true]
    rw [if_neg (show ¬ t < g.nx by have := HN.out; omega), if_neg HAL.out, if_pos (.inr (.inr HRP.out))]
  unfold TickPost
  rw [e]
  refine ⟨.slice A3 al.length c3, ?_, HG3.out, ?_, ?_⟩
  · rfl
  · exact Kd.R_lower HR3.out (grown_drewN (grown_set (World.grownBy.refl w (some gb)) 4 (.int .i64 (t + g.iv))) _).size
  · exact grown_trans (grown_drewN (grown_set (World.grownBy.refl w (some gb)) 4 (.int .i64 (t + g.iv))) _) HG4.out
set_option maxHeartbeats 8000000 in
set_option maxRecDepth 100000 in
/-- Busy, at a look, other alerts than told. -/
theorem tick_d3 (base gb : Nat) (g : G) (t : Int) (al : List ByteArray) (A : Option Addr) (c : Nat) (w : World) (hG : GS w base gb g) (hbs : base ≤ w.heap.size) (hlb : al.length * 16 ≤ 140737488355328) (hb : g.busy = true) (hal : al ≠ []) (hd : Bd g t) (hn : ¬ t < g.nx) (ht : g.told = true) (hsame : al ≠ g.last)
    (hr : Reads w gb A al) (hc : al.length ≤ c) (k : Nat) (hk : slices_Equal_string_string.f k al g.last = some false) :
    Calls Try.prog 33 #[.pointer (some ⟨gb, 0, none⟩), .int .i64 t, .slice A al.length c] w (TickPost base gb g t al w) := by
  obtain ⟨hgb, v0, hblk, hR0⟩ := hG
  obtain ⟨A9, c9, hv, hc9, hC9⟩ := Kd.R_reads hR0
  subst hv
  have k0 : w.cell? ⟨gb, 0, none⟩ = some (.int .i64 g.wt) := (blk_cell hblk 0).trans rfl
  have k1 : w.cell? ⟨gb, 1, none⟩ = some (.int .i64 g.iv) := (blk_cell hblk 1).trans rfl
  have k2 : w.cell? ⟨gb, 2, none⟩ = some (.int .i64 g.rp) := (blk_cell hblk 2).trans rfl
  have k3 : w.cell? ⟨gb, 3, none⟩ = some (.bool g.busy) := (blk_cell hblk 3).trans rfl
  have k4 : w.cell? ⟨gb, 4, none⟩ = some (.int .i64 g.nx) := (blk_cell hblk 4).trans rfl
  have k5 : w.cell? ⟨gb, 5, none⟩ = some (.bool g.told) := (blk_cell hblk 5).trans rfl
  have k6 : w.cell? ⟨gb, 6, none⟩ = some (.slice A9 g.last.length c9) := (blk_cell hblk 6).trans rfl
  have k7 : w.cell? ⟨gb, 7, none⟩ = some (.int .i64 g.sn) := (blk_cell hblk 7).trans rfl
  have f0 := blk_frozen hblk 0
  have f1 := blk_frozen hblk 1
  have f2 := blk_frozen hblk 2
  have f3 := blk_frozen hblk 3
  have f4 := blk_frozen hblk 4
  have f5 := blk_frozen hblk 5
  have f6 := blk_frozen hblk 6
  have f7 := blk_frozen hblk 7
  rw [hb] at k3
  rw [ht] at k5
  have HBK := Aside0.mk hblk
  have HGB := Aside0.mk hgb
  have HBU := Aside0.mk hb
  have HAL := Aside0.mk hal
  have HTO := Aside0.mk ht
  have HN := Aside0.mk hn
  have HS := Aside0.mk hsame
  have HR := Aside0.mk hr
  have HBS := Aside0.mk hbs
  have HLB := Aside0.mk hlb
  have HK := Aside0.mk hk
  have HC := Aside0.mk hc
  have HC9 := Aside0.mk hc9
  have HR1 := Aside0.mk (Kd.R_set hR0 hblk (by decide) 4 (.int .i64 (t + g.iv)))
  obtain ⟨A8, c8, hv8, _, hC8⟩ := Kd.R_reads HR1.out
  injection hv8 with ea en ec
  subst ea ec
  have HD := Aside0.mk (fun n => Kd.C_drewN hC8 n)
  have HE := Aside0.mk (fun n => Kd.C_drewN (hr _ (grown_set (World.grownBy.refl w (some gb)) 4 (.int .i64 (t + g.iv)))) n)
  have hl : ((al.length : Int) == 0) = false := by
    rw [beq_eq_false_iff_ne]
    intro h
    exact hal (List.eq_nil_of_length_eq_zero (by omega))
  have b1 := hd.t0
  have b2 := hd.t1
  have b3 := hd.i0
  have b4 := hd.i1
  have b5 := hd.s0
  have b6 := hd.s1
  have d1 : decide (t < g.nx) = false := decide_eq_false hn
  clear hbs hlb hblk hgb hb hal hd hR0 hC9 hn ht hsame hr hk hc hc9 hC8 en
  go_enter Try.func33, Try.ntmps33
  go_wp2
  go_quiet ((go_at_call 40; exact Calls.quiet_of ((slices_Equal_string_string.calls k A c al A9 c9 g.last false _ (HE.out _) HC.out (HD.out _) HC9.out HK.out).mono fun _ _ h => ⟨h.1, h.2.out⟩)))
  go_wp2_with (go_at_call 41; go_loud (refine (tell base gb { g with nx := t + g.iv } t al A c _ ⟨HGB.out, .slice A9 g.last.length c9, blk_drewN (blk_put (cs := cellsG g (.slice A9 g.last.length c9)) (cs' := cellsG { g with nx := t + g.iv } (.slice A9 g.last.length c9)) HBK.out 4 (.int .i64 (t + g.iv)) rfl) _, Kd.R_drewN HR1.out _⟩ (Nat.le_trans HBS.out (grown_drewN (grown_set (World.grownBy.refl w (some gb)) 4 (.int .i64 (t + g.iv))) _).size) (HR.out.step (grown_drewN (grown_set (World.grownBy.refl w (some gb)) 4 (.int .i64 (t + g.iv))) _)) HLB.out).mono ?_); rintro e w3 ⟨v3, rfl, hG3, hR3, hg3⟩; have HG3 := Aside0.mk hG3; have HR3 := Aside0.mk hR3; have HG4 := Aside0.mk hg3; obtain ⟨A3, c3, e3⟩ := Kd.R_slice hR3; subst e3; clear hG3 hR3 hg3)
  go_ret2
  have e : tickG g t al = ({ g with nx := t + g.iv, told := true, last := al, sn := t }, al, true) := by
    unfold tickG
    rw [if_neg (by rintro ⟨_, h⟩; exact HAL.out h)]
    simp only [HBU.out, if_true]
    rw [if_neg (show ¬ t < g.nx by have := HN.out; omega), if_neg HAL.out, if_pos (.inr (.inl HS.out))]
  unfold TickPost
  rw [e]
  refine ⟨.slice A3 al.length c3, ?_, HG3.out, ?_, ?_⟩
  · rfl
  · exact Kd.R_lower HR3.out (grown_drewN (grown_set (World.grownBy.refl w (some gb)) 4 (.int .i64 (t + g.iv))) _).size
  · exact grown_trans (grown_drewN (grown_set (World.grownBy.refl w (some gb)) 4 (.int .i64 (t + g.iv))) _) HG4.out
set_option maxHeartbeats 8000000 in
set_option maxRecDepth 100000 in
/-- Busy, at a look, nothing told so far. -/
theorem tick_d2 (base gb : Nat) (g : G) (t : Int) (al : List ByteArray) (A : Option Addr) (c : Nat) (w : World) (hG : GS w base gb g) (hbs : base ≤ w.heap.size) (hlb : al.length * 16 ≤ 140737488355328) (hb : g.busy = true) (hal : al ≠ []) (hd : Bd g t) (hn : ¬ t < g.nx) (ht : g.told = false)
    (hr : Reads w gb A al) (hc : al.length ≤ c) :
    Calls Try.prog 33 #[.pointer (some ⟨gb, 0, none⟩), .int .i64 t, .slice A al.length c] w (TickPost base gb g t al w) := by
  obtain ⟨hgb, v0, hblk, hR0⟩ := hG
  obtain ⟨A9, c9, hv, hc9, hC9⟩ := Kd.R_reads hR0
  subst hv
  have k0 : w.cell? ⟨gb, 0, none⟩ = some (.int .i64 g.wt) := (blk_cell hblk 0).trans rfl
  have k1 : w.cell? ⟨gb, 1, none⟩ = some (.int .i64 g.iv) := (blk_cell hblk 1).trans rfl
  have k2 : w.cell? ⟨gb, 2, none⟩ = some (.int .i64 g.rp) := (blk_cell hblk 2).trans rfl
  have k3 : w.cell? ⟨gb, 3, none⟩ = some (.bool g.busy) := (blk_cell hblk 3).trans rfl
  have k4 : w.cell? ⟨gb, 4, none⟩ = some (.int .i64 g.nx) := (blk_cell hblk 4).trans rfl
  have k5 : w.cell? ⟨gb, 5, none⟩ = some (.bool g.told) := (blk_cell hblk 5).trans rfl
  have k6 : w.cell? ⟨gb, 6, none⟩ = some (.slice A9 g.last.length c9) := (blk_cell hblk 6).trans rfl
  have k7 : w.cell? ⟨gb, 7, none⟩ = some (.int .i64 g.sn) := (blk_cell hblk 7).trans rfl
  have f0 := blk_frozen hblk 0
  have f1 := blk_frozen hblk 1
  have f2 := blk_frozen hblk 2
  have f3 := blk_frozen hblk 3
  have f4 := blk_frozen hblk 4
  have f5 := blk_frozen hblk 5
  have f6 := blk_frozen hblk 6
  have f7 := blk_frozen hblk 7
  rw [hb] at k3
  rw [ht] at k5
  have HBK := Aside0.mk hblk
  have HGB := Aside0.mk hgb
  have HBU := Aside0.mk hb
  have HAL := Aside0.mk hal
  have HTO := Aside0.mk ht
  have HN := Aside0.mk hn
  have HR := Aside0.mk hr
  have HBS := Aside0.mk hbs
  have HLB := Aside0.mk hlb
  have HC := Aside0.mk hc
  have HC9 := Aside0.mk hc9
  have HR1 := Aside0.mk (Kd.R_set hR0 hblk (by decide) 4 (.int .i64 (t + g.iv)))
  obtain ⟨A8, c8, hv8, _, hC8⟩ := Kd.R_reads HR1.out
  injection hv8 with ea en ec
  subst ea ec
  have HD := Aside0.mk (fun n => Kd.C_drewN hC8 n)
  have HE := Aside0.mk (fun n => Kd.C_drewN (hr _ (grown_set (World.grownBy.refl w (some gb)) 4 (.int .i64 (t + g.iv)))) n)
  have hl : ((al.length : Int) == 0) = false := by
    rw [beq_eq_false_iff_ne]
    intro h
    exact hal (List.eq_nil_of_length_eq_zero (by omega))
  have b1 := hd.t0
  have b2 := hd.t1
  have b3 := hd.i0
  have b4 := hd.i1
  have b5 := hd.s0
  have b6 := hd.s1
  have d1 : decide (t < g.nx) = false := decide_eq_false hn
  clear hbs hlb hblk hgb hb hal hd hR0 hC9 hn ht hr hc hc9 hC8 en
  go_enter Try.func33, Try.ntmps33
  go_wp2
  go_quiet (fail)
  go_wp2_with (go_at_call 41; go_loud (refine (tell base gb { g with nx := t + g.iv } t al A c _ ⟨HGB.out, .slice A9 g.last.length c9, blk_drewN (blk_put (cs := cellsG g (.slice A9 g.last.length c9)) (cs' := cellsG { g with nx := t + g.iv } (.slice A9 g.last.length c9)) HBK.out 4 (.int .i64 (t + g.iv)) rfl) _, Kd.R_drewN HR1.out _⟩ (Nat.le_trans HBS.out (grown_drewN (grown_set (World.grownBy.refl w (some gb)) 4 (.int .i64 (t + g.iv))) _).size) (HR.out.step (grown_drewN (grown_set (World.grownBy.refl w (some gb)) 4 (.int .i64 (t + g.iv))) _)) HLB.out).mono ?_); rintro e w3 ⟨v3, rfl, hG3, hR3, hg3⟩; have HG3 := Aside0.mk hG3; have HR3 := Aside0.mk hR3; have HG4 := Aside0.mk hg3; obtain ⟨A3, c3, e3⟩ := Kd.R_slice hR3; subst e3; clear hG3 hR3 hg3)
  go_ret2
  have e : tickG g t al = ({ g with nx := t + g.iv, told := true, last := al, sn := t }, al, true) := by
    unfold tickG
    rw [if_neg (by rintro ⟨_, h⟩; exact HAL.out h)]
    simp only [HBU.out, if_true]
    rw [if_neg (show ¬ t < g.nx by have := HN.out; omega), if_neg HAL.out, if_pos (.inl HTO.out)]
  unfold TickPost
  rw [e]
  refine ⟨.slice A3 al.length c3, ?_, HG3.out, ?_, ?_⟩
  · rfl
  · exact Kd.R_lower HR3.out (grown_drewN (grown_set (World.grownBy.refl w (some gb)) 4 (.int .i64 (t + g.iv))) _).size
  · exact grown_trans (grown_drewN (grown_set (World.grownBy.refl w (some gb)) 4 (.int .i64 (t + g.iv))) _) HG4.out
set_option maxHeartbeats 8000000 in
set_option maxRecDepth 100000 in
/-- Busy, at a look, no alerts: it is idle again. -/
theorem tick_d1 (base gb : Nat) (g : G) (t : Int) (A : Option Addr) (c : Nat) (w : World) (hG : GS w base gb g) (hb : g.busy = true) (hd : Bd g t) (hn : ¬ t < g.nx) :
    Calls Try.prog 33 #[.pointer (some ⟨gb, 0, none⟩), .int .i64 t, .slice A 0 c] w (TickPost base gb g t [] w) := by
  obtain ⟨hgb, v0, hblk, hR0⟩ := hG
  obtain ⟨A9, c9, hv, hc9, hC9⟩ := Kd.R_reads hR0
  subst hv
  have k0 : w.cell? ⟨gb, 0, none⟩ = some (.int .i64 g.wt) := (blk_cell hblk 0).trans rfl
  have k1 : w.cell? ⟨gb, 1, none⟩ = some (.int .i64 g.iv) := (blk_cell hblk 1).trans rfl
  have k2 : w.cell? ⟨gb, 2, none⟩ = some (.int .i64 g.rp) := (blk_cell hblk 2).trans rfl
  have k3 : w.cell? ⟨gb, 3, none⟩ = some (.bool g.busy) := (blk_cell hblk 3).trans rfl
  have k4 : w.cell? ⟨gb, 4, none⟩ = some (.int .i64 g.nx) := (blk_cell hblk 4).trans rfl
  have k5 : w.cell? ⟨gb, 5, none⟩ = some (.bool g.told) := (blk_cell hblk 5).trans rfl
  have k6 : w.cell? ⟨gb, 6, none⟩ = some (.slice A9 g.last.length c9) := (blk_cell hblk 6).trans rfl
  have k7 : w.cell? ⟨gb, 7, none⟩ = some (.int .i64 g.sn) := (blk_cell hblk 7).trans rfl
  have f0 := blk_frozen hblk 0
  have f1 := blk_frozen hblk 1
  have f2 := blk_frozen hblk 2
  have f3 := blk_frozen hblk 3
  have f4 := blk_frozen hblk 4
  have f5 := blk_frozen hblk 5
  have f6 := blk_frozen hblk 6
  have f7 := blk_frozen hblk 7
  rw [hb] at k3
  have HBK := Aside0.mk hblk
  have HGB := Aside0.mk hgb
  have HBU := Aside0.mk hb
  have HN := Aside0.mk hn
  have HC9 := Aside0.mk hc9
  have b1 := hd.t0
  have b2 := hd.t1
  have b3 := hd.i0
  have b4 := hd.i1
  have b5 := hd.s0
  have b6 := hd.s1
  have d1 : decide (t < g.nx) = false := decide_eq_false hn
  clear hblk hgb hb hd hR0 hC9 hn hc9
  go_enter Try.func33, Try.ntmps33
  go_wp2
  go_ret2
  have e : tickG g t [] = (fresh g.wt g.iv g.rp, [], g.told) := by
    unfold tickG
    rw [if_neg (by rintro ⟨h, _⟩; rw [HBU.out] at h; cases h)]
    simp only [HBU.out, if_true]
    rw [if_neg (show ¬ t < g.nx by have := HN.out; omega)]
  unfold TickPost
  rw [e]
  have e8 := blk8 (blk_put (cs := cellsG g (.slice A9 g.last.length c9)) (cs' := cellsG { g with nx := t + g.iv } (.slice A9 g.last.length c9)) HBK.out 4 (.int .i64 (t + g.iv)) rfl) (.int .i64 g.wt) (.int .i64 g.iv) (.int .i64 g.rp) (.bool false) (.int .i64 0) (.bool false) (.slice none 0 0) (.int .i64 0)
  refine ⟨.slice none 0 0, ?_, ⟨HGB.out, .slice none 0 0, ?_, Kd.R_nil _ _ _ _ _⟩, Kd.R_nil _ _ _ _ _, ?_⟩
  · rfl
  · first | exact e8 | exact blk_drew e8
  · first | exact grown_trans (grown_set (World.grownBy.refl w (some gb)) 4 (.int .i64 (t + g.iv))) (grown8 _ gb _ _ _ _ _ _ _ _) | exact grown_drew (grown_trans (grown_set (World.grownBy.refl w (some gb)) 4 (.int .i64 (t + g.iv))) (grown8 _ gb _ _ _ _ _ _ _ _))
set_option maxHeartbeats 8000000 in
set_option maxRecDepth 100000 in
/-- Idle, with alerts, and no wait. -/
theorem tick_c2 (base gb : Nat) (g : G) (t : Int) (al : List ByteArray) (A : Option Addr) (c : Nat) (w : World) (hG : GS w base gb g) (hb : g.busy = false) (hal : al ≠ []) (hd : Bd g t) (hw : g.wt ≤ 0) (hbs : base ≤ w.heap.size) (hlb : al.length * 16 ≤ 140737488355328) (hr : Reads w gb A al) :
    Calls Try.prog 33 #[.pointer (some ⟨gb, 0, none⟩), .int .i64 t, .slice A al.length c] w (TickPost base gb g t al w) := by
  obtain ⟨hgb, v0, hblk, hR0⟩ := hG
  obtain ⟨A9, c9, rfl⟩ := Kd.R_slice hR0
  have k0 : w.cell? ⟨gb, 0, none⟩ = some (.int .i64 g.wt) := (blk_cell hblk 0).trans rfl
  have k1 : w.cell? ⟨gb, 1, none⟩ = some (.int .i64 g.iv) := (blk_cell hblk 1).trans rfl
  have k2 : w.cell? ⟨gb, 2, none⟩ = some (.int .i64 g.rp) := (blk_cell hblk 2).trans rfl
  have k3 : w.cell? ⟨gb, 3, none⟩ = some (.bool g.busy) := (blk_cell hblk 3).trans rfl
  have k4 : w.cell? ⟨gb, 4, none⟩ = some (.int .i64 g.nx) := (blk_cell hblk 4).trans rfl
  have k5 : w.cell? ⟨gb, 5, none⟩ = some (.bool g.told) := (blk_cell hblk 5).trans rfl
  have k6 : w.cell? ⟨gb, 6, none⟩ = some (.slice A9 g.last.length c9) := (blk_cell hblk 6).trans rfl
  have k7 : w.cell? ⟨gb, 7, none⟩ = some (.int .i64 g.sn) := (blk_cell hblk 7).trans rfl
  have f0 := blk_frozen hblk 0
  have f1 := blk_frozen hblk 1
  have f2 := blk_frozen hblk 2
  have f3 := blk_frozen hblk 3
  have f4 := blk_frozen hblk 4
  have f5 := blk_frozen hblk 5
  have f6 := blk_frozen hblk 6
  have f7 := blk_frozen hblk 7
  rw [hb] at k3
  have HBK := Aside0.mk hblk
  have HGB := Aside0.mk hgb
  have HBU := Aside0.mk hb
  have HW := Aside0.mk hw
  have HAL := Aside0.mk hal
  have hl : ((al.length : Int) == 0) = false := by
    rw [beq_eq_false_iff_ne]
    intro h
    exact hal (List.eq_nil_of_length_eq_zero (by omega))
  have b1 := hd.t0
  have b2 := hd.t1
  have b3 := hd.w0
  have b4 := hd.w1
  have d1 : decide (t < t + g.wt) = false := decide_eq_false (by omega)
  have b5 := hd.i0
  have b6 := hd.i1
  have HBS := Aside0.mk hbs
  have HLB := Aside0.mk hlb
  have HR := Aside0.mk hr
  clear hbs hlb hr hblk hgb hb hw hal hd hR0
  go_enter Try.func33, Try.ntmps33
  go_wp2
  go_region
  go_wp2
  go_quiet (fail)
  go_wp2_with (go_at_call 41; go_loud (refine (tell base gb { fresh g.wt g.iv g.rp with busy := true, nx := t + g.iv } t al A c _ ⟨HGB.out, .slice none 0 0, (blk_drewN (blk_put (cs := #[.int .i64 g.wt, .int .i64 g.iv, .int .i64 g.rp, .bool true, .int .i64 (t + g.wt), .bool false, .slice none 0 0, .int .i64 0]) (cs' := cellsG { fresh g.wt g.iv g.rp with busy := true, nx := t + g.iv } (.slice none 0 0)) (blk8 HBK.out (.int .i64 g.wt) (.int .i64 g.iv) (.int .i64 g.rp) (.bool true) (.int .i64 (t + g.wt)) (.bool false) (.slice none 0 0) (.int .i64 0)) 4 (.int .i64 (t + g.iv)) rfl) _), Kd.R_nil _ _ _ _ _⟩ (Nat.le_trans HBS.out (grown_drewN (grown_set (grown8 w gb (.int .i64 g.wt) (.int .i64 g.iv) (.int .i64 g.rp) (.bool true) (.int .i64 (t + g.wt)) (.bool false) (.slice none 0 0) (.int .i64 0)) 4 (.int .i64 (t + g.iv))) _).size) (HR.out.step (grown_drewN (grown_set (grown8 w gb (.int .i64 g.wt) (.int .i64 g.iv) (.int .i64 g.rp) (.bool true) (.int .i64 (t + g.wt)) (.bool false) (.slice none 0 0) (.int .i64 0)) 4 (.int .i64 (t + g.iv))) _)) HLB.out).mono ?_); rintro e w3 ⟨v3, rfl, hG3, hR3, hg3⟩; have HG3 := Aside0.mk hG3; have HR3 := Aside0.mk hR3; have HG4 := Aside0.mk hg3; obtain ⟨A3, c3, e3⟩ := Kd.R_slice hR3; subst e3; clear hG3 hR3 hg3)
  go_ret2
  have e : tickG g t al = ({ fresh g.wt g.iv g.rp with busy := true, nx := t + g.iv, told := true, last := al, sn := t }, al, true) := by
    unfold tickG
    rw [if_neg (by rintro ⟨_, h⟩; exact HAL.out h)]
    simp only [HBU.out, Bool.false_eq_true, if_false]
    rw [if_neg (show ¬ t < t + g.wt by have := HW.out; omega), if_neg HAL.out, if_pos (.inl rfl)]
    rfl
  unfold TickPost
  rw [e]
  refine ⟨.slice A3 al.length c3, ?_, HG3.out, ?_, ?_⟩
  · rfl
  · exact Kd.R_lower HR3.out (grown_drewN (grown_set (grown8 w gb (.int .i64 g.wt) (.int .i64 g.iv) (.int .i64 g.rp) (.bool true) (.int .i64 (t + g.wt)) (.bool false) (.slice none 0 0) (.int .i64 0)) 4 (.int .i64 (t + g.iv))) _).size
  · exact grown_trans (grown_drewN (grown_set (grown8 w gb (.int .i64 g.wt) (.int .i64 g.iv) (.int .i64 g.rp) (.bool true) (.int .i64 (t + g.wt)) (.bool false) (.slice none 0 0) (.int .i64 0)) 4 (.int .i64 (t + g.iv))) _) HG4.out
theorem wrap_small {x : Int} (h0 : -9223372036854775808 ≤ x) (h1 : x ≤ 9223372036854775807) : wrap64 x = x := by unfold wrap64; omega
theorem rdS_at {xs : List ByteArray} {j : Nat} (h : j < xs.length) : rdOf ByteArray.empty xs (j : Int) = xs[j] := by simp [rdOf, h]
theorem toList_inj {a b : ByteArray} : a.toList = b.toList ↔ a = b := by
  constructor
  · intro h
    have e : ∀ s : ByteArray, s.toList = s.data.toList := fun s => ByteArray.toList_eq s
    rw [e, e] at h
    cases a; cases b
    congr 1
    exact Array.toList_inj.1 h
  · rintro rfl; rfl
theorem equal_l0 (xs ys : List ByteArray) (hn : xs.length ≤ 1000000000) (hl : xs.length = ys.length) (d : Nat) : ∀ (k j : Nat), j ≤ xs.length → xs.length - j = d → d < k →
    slices_Equal_string_string.l0 k xs ys (xs.length : Int) (j : Int) = some (decide (xs.drop j = ys.drop j)) := by
  induction d with
  | zero =>
    intro k j h1 h2 h3
    obtain ⟨k, rfl⟩ : ∃ m, k = m + 1 := ⟨k - 1, by omega⟩
    have : j = xs.length := by omega
    subst this
    simp only [slices_Equal_string_string.l0]
    rw [if_neg (by omega), List.drop_length, hl, List.drop_length]; simp
  | succ d ih =>
    intro k j h1 h2 h3
    obtain ⟨k, rfl⟩ : ∃ m, k = m + 1 := ⟨k - 1, by omega⟩
    have hx : j < xs.length := by omega
    have hy : j < ys.length := by omega
    simp only [slices_Equal_string_string.l0]
    rw [if_pos (by omega), if_pos (by omega), if_pos (by omega), if_pos (by omega), rdS_at hx, rdS_at hy, List.drop_eq_getElem_cons hx, List.drop_eq_getElem_cons hy]
    have hw : wrap64 ((j : Int) + 1) = ((j + 1 : Nat) : Int) := by rw [wrap_small (by omega) (by omega)]; rfl
    rw [hw]
    by_cases hc : xs[j] = ys[j]
    · rw [if_pos (toList_inj.2 hc), ih k (j + 1) (by omega) (by omega) (by omega)]
      congr 1
      rw [decide_eq_decide, hc]
      exact ⟨fun h => by rw [h], fun h => (List.cons.inj h).2⟩
    · rw [if_neg (fun h => hc (toList_inj.1 h))]
      congr 1
      symm
      rw [decide_eq_false_iff_not]
      exact fun h => hc (List.cons.inj h).1
theorem equal_val (xs ys : List ByteArray) (hn : xs.length ≤ 1000000000) : slices_Equal_string_string.f (xs.length + 1) xs ys = some (decide (xs = ys)) := by
  unfold slices_Equal_string_string.f
  by_cases hl : xs.length = ys.length
  · rw [if_pos (by omega)]
    have := equal_l0 xs ys hn hl xs.length (xs.length + 1) 0 (by omega) (by omega) (by omega)
    simpa using this
  · rw [if_neg (by omega)]
    have : xs ≠ ys := fun h => hl (by rw [h])
    simp [this]
/-- A tick. -/
theorem tick (base gb : Nat) (g : G) (t : Int) (al : List ByteArray) (A : Option Addr) (c : Nat) (w : World) (hG : GS w base gb g) (hbs : base ≤ w.heap.size) (hd : Bd g t) (hlb : al.length ≤ 1000000) (hr : Reads w gb A al) (hc : al.length ≤ c) :
    Calls Try.prog 33 #[.pointer (some ⟨gb, 0, none⟩), .int .i64 t, .slice A al.length c] w (TickPost base gb g t al w) := by
  have hl16 : al.length * 16 ≤ 140737488355328 := by omega
  have he := equal_val al g.last (by omega)
  by_cases hal : al = []
  · subst hal
    cases hb : g.busy with
    | true =>
      by_cases ht : t < g.nx
      · exact tick_b base gb g t [] A c w hG hb ht
      · exact tick_d1 base gb g t A c w hG hb hd ht
    | false => exact tick_a base gb g t A c w hG hb
  · cases hb : g.busy with
    | true =>
      by_cases ht : t < g.nx
      · exact tick_b base gb g t al A c w hG hb ht
      · cases hto : g.told with
        | true =>
          by_cases hs : al = g.last
          · rw [decide_eq_true hs] at he
            by_cases hp : g.rp ≤ t - g.sn
            · exact tick_d4 base gb g t al A c w hG hbs hl16 hb hal hd ht hto hs hp hr hc _ he
            · exact tick_d5 base gb g t al A c w hG hb hal hd ht hto hs (by omega) hr hc _ he
          · rw [decide_eq_false hs] at he
            exact tick_d3 base gb g t al A c w hG hbs hl16 hb hal hd ht hto hs hr hc _ he
        | false => exact tick_d2 base gb g t al A c w hG hbs hl16 hb hal hd ht hto hr hc
    | false =>
      by_cases hw : g.wt ≤ 0
      · exact tick_c2 base gb g t al A c w hG hb hal hd hw hbs hl16 hr
      · exact tick_c1 base gb g t al A c w hG hb hal hd (by omega)
end Go.Proofs.Ytkppbflmlpabjaa.Grp
