/- DERIVED: THE SHELF's CONTRACTS AT THIS DUMP, IN PLAIN WORDS (tools/lay-plain.mjs out of 'YtghkbjflejgieaaDoorShelf.lean', which tools/lay-shelf.mjs wrote): THE SAME DECLARATIONS UNDER THE SAME NAMES: 'import', 'namespace', 'open', 'def', 'theorem' AND NOTHING ELSE: no command of the shelf's: FOR A HAND-IN. Each laying: the table of numbers ('.._ren') and one theorem, a field a fact of the dump's o -/
import Derived.Test.YtghkbjflejgieaaDoorQU4
import Derived.Shelf.Strings.Builder1
import Derived.Shelf.Strings.Builder2
import Derived.Shelf.Strings.OnBuilder
import Derived.Shelf.Small.Strs
import Derived.Shelf.Strings.SlTrimAscii
import Derived.Test.YtghkbjflejgieaaDoorProg
import Derived.KernelRfl
namespace Go.Proofs
open Go.Shelf
def Tryd.lays169_ren : Go.Shelf.Ren := ⟨fun | 169 => 56 | n => n, fun | 70 => 82 | 9 => 9 | 0 => 0 | 72 => 85 | 37 => 83 | 127 => 100 | 3 => 3 | 5 => 5 | n => n, fun | n => n⟩
theorem Tryd.lays169 : Go.Proofs.Lays.n169 Tryd.prog Tryd.lays169_ren := {
  mixed := by kernel_rfl
  f169 := Tryd.func56.trans (congrArg some (by kernel_rfl))
  t0 := Tryd.underlying0
  a0 := Tryd.isAgg0
  z0 := Tryd.sizeOf0
  v0 := Tryd.zeroValue0
  t3 := Tryd.underlying3
  a3 := Tryd.isAgg3
  z3 := Tryd.sizeOf3
  v3 := Tryd.zeroValue3
  t9 := Tryd.underlying9
  a9 := Tryd.isAgg9
  z9 := Tryd.sizeOf9
  v9 := Tryd.zeroValue9
  t37 := Tryd.underlying83
  a37 := Tryd.isAgg83
  z37 := Tryd.sizeOf83
  v37 := Tryd.zeroValue83
  t70 := Tryd.underlying82
  a70 := Tryd.isAgg82
  z70 := Tryd.sizeOf82
  v70 := Tryd.zeroValue82
  t72 := Tryd.underlying85
  a72 := Tryd.isAgg85
  z72 := Tryd.sizeOf85
  v72 := Tryd.zeroValue85
  t127 := Tryd.underlying100
  a127 := Tryd.isAgg100
  z127 := Tryd.sizeOf100
  v127 := Tryd.zeroValue100 }
theorem Tryd.Builder_Extra_169 : Builder.Extra Tryd.prog Tryd.lays169_ren := {
  sizeBuilder := by kernel_rfl
  liesBuilder := by kernel_rfl
  t5 := Tryd.underlying5
  a5 := Tryd.isAgg5
  z5 := Tryd.sizeOf5
  v5 := Tryd.zeroValue5
  infoByte := by kernel_rfl
  cellsByte := by kernel_rfl
  sizeByte := by kernel_rfl
  neB5 := by decide }
open Go.RowKit in
theorem Tryd.Builder_String_any (B b : Nat) (l : List UInt8) (w : World) (h : Lib.IsBuilder 85 5 B b (Lib.byteCells l) w) (hBw : B ≤ w.heap.size) :
    Calls Tryd.prog 56 #[.pointer (some ⟨b, 0, none⟩)] w fun e w' => e = .returned (.string ⟨l.toArray⟩) ∧ Below B w w' := Any.Builder_String_any Tryd.lays169 Tryd.Builder_Extra_169 B b l w h hBw
def Tryd.lays165_ren : Go.Shelf.Ren := ⟨fun | 165 => 57 | 240 => 68 | 241 => 69 | 276 => 75 | 277 => 76 | n => n, fun | 70 => 82 | 3 => 3 | 0 => 0 | 4 => 4 | 9 => 9 | 20 => 20 | 72 => 85 | 37 => 83 | 164 => 105 | 5 => 5 | n => n, fun | n => n⟩
theorem Tryd.lays165 : Go.Proofs.Lays.n165 Tryd.prog Tryd.lays165_ren := {
  mixed := by kernel_rfl
  f165 := Tryd.func57.trans (congrArg some (by kernel_rfl))
  f240 := Tryd.func68.trans (congrArg some (by kernel_rfl))
  f241 := Tryd.func69.trans (congrArg some (by kernel_rfl))
  f276 := Tryd.func75.trans (congrArg some (by kernel_rfl))
  f277 := Tryd.func76.trans (congrArg some (by kernel_rfl))
  t0 := Tryd.underlying0
  a0 := Tryd.isAgg0
  z0 := Tryd.sizeOf0
  v0 := Tryd.zeroValue0
  t3 := Tryd.underlying3
  a3 := Tryd.isAgg3
  z3 := Tryd.sizeOf3
  v3 := Tryd.zeroValue3
  t4 := Tryd.underlying4
  a4 := Tryd.isAgg4
  z4 := Tryd.sizeOf4
  v4 := Tryd.zeroValue4
  t9 := Tryd.underlying9
  a9 := Tryd.isAgg9
  z9 := Tryd.sizeOf9
  v9 := Tryd.zeroValue9
  t20 := Tryd.underlying20
  a20 := Tryd.isAgg20
  z20 := Tryd.sizeOf20
  v20 := Tryd.zeroValue20
  t37 := Tryd.underlying83
  a37 := Tryd.isAgg83
  z37 := Tryd.sizeOf83
  v37 := Tryd.zeroValue83
  t70 := Tryd.underlying82
  a70 := Tryd.isAgg82
  z70 := Tryd.sizeOf82
  v70 := Tryd.zeroValue82
  t72 := Tryd.underlying85
  a72 := Tryd.isAgg85
  z72 := Tryd.sizeOf85
  v72 := Tryd.zeroValue85
  t164 := Tryd.underlying105
  a164 := Tryd.isAgg105
  z164 := Tryd.sizeOf105
  v164 := Tryd.zeroValue105 }
theorem Tryd.Builder_Extra_165 : Builder.Extra Tryd.prog Tryd.lays165_ren := {
  sizeBuilder := by kernel_rfl
  liesBuilder := by kernel_rfl
  t5 := Tryd.underlying5
  a5 := Tryd.isAgg5
  z5 := Tryd.sizeOf5
  v5 := Tryd.zeroValue5
  infoByte := by kernel_rfl
  cellsByte := by kernel_rfl
  sizeByte := by kernel_rfl
  neB5 := by decide }
open Go.RowKit in
theorem Tryd.Builder_Grow_fresh (B b n : Nat) (w : World) (hB : B ≤ b) (hbk : w.heap[b]? = some (.cells #[.pointer none, .slice none 0 0] 85 (0, 0))) (hBw : B ≤ w.heap.size) (hn : n ≤ 281474976710656) :
    Calls Tryd.prog 57 #[.pointer (some ⟨b, 0, none⟩), .int .i64 n] w fun e w' => e = .returned (.tuple #[]) ∧ (Lib.BuilderAt 85 5 B b (.pointer (some ⟨b, 0, none⟩)) [] w' ∧ Below B w w') := Any.Builder_Grow_fresh Tryd.lays165 Tryd.Builder_Extra_165 B b n w hB hbk hBw hn
def Tryd.lays156_ren : Go.Shelf.Ren := ⟨fun | 156 => 46 | 165 => 57 | 166 => 58 | 169 => 56 | 240 => 68 | 241 => 69 | 276 => 75 | 277 => 76 | n => n, fun | 31 => 27 | 9 => 9 | 3 => 3 | 4 => 4 | 0 => 0 | 20 => 20 | 72 => 85 | 76 => 91 | 70 => 82 | 37 => 83 | 75 => 87 | 127 => 100 | 164 => 105 | 5 => 5 | 80 => 89 | n => n, fun | n => n⟩
theorem Tryd.lays156 : Go.Proofs.Lays.n156 Tryd.prog Tryd.lays156_ren := {
  mixed := by kernel_rfl
  f156 := Tryd.func46.trans (congrArg some (by kernel_rfl))
  f165 := Tryd.func57.trans (congrArg some (by kernel_rfl))
  f166 := Tryd.func58.trans (congrArg some (by kernel_rfl))
  f169 := Tryd.func56.trans (congrArg some (by kernel_rfl))
  f240 := Tryd.func68.trans (congrArg some (by kernel_rfl))
  f241 := Tryd.func69.trans (congrArg some (by kernel_rfl))
  f276 := Tryd.func75.trans (congrArg some (by kernel_rfl))
  f277 := Tryd.func76.trans (congrArg some (by kernel_rfl))
  t0 := Tryd.underlying0
  a0 := Tryd.isAgg0
  z0 := Tryd.sizeOf0
  v0 := Tryd.zeroValue0
  t3 := Tryd.underlying3
  a3 := Tryd.isAgg3
  z3 := Tryd.sizeOf3
  v3 := Tryd.zeroValue3
  t4 := Tryd.underlying4
  a4 := Tryd.isAgg4
  z4 := Tryd.sizeOf4
  v4 := Tryd.zeroValue4
  t9 := Tryd.underlying9
  a9 := Tryd.isAgg9
  z9 := Tryd.sizeOf9
  v9 := Tryd.zeroValue9
  t20 := Tryd.underlying20
  a20 := Tryd.isAgg20
  z20 := Tryd.sizeOf20
  v20 := Tryd.zeroValue20
  t31 := Tryd.underlying27
  a31 := Tryd.isAgg27
  z31 := Tryd.sizeOf27
  v31 := Tryd.zeroValue27
  t37 := Tryd.underlying83
  a37 := Tryd.isAgg83
  z37 := Tryd.sizeOf83
  v37 := Tryd.zeroValue83
  t70 := Tryd.underlying82
  a70 := Tryd.isAgg82
  z70 := Tryd.sizeOf82
  v70 := Tryd.zeroValue82
  t72 := Tryd.underlying85
  a72 := Tryd.isAgg85
  z72 := Tryd.sizeOf85
  v72 := Tryd.zeroValue85
  t75 := Tryd.underlying87
  a75 := Tryd.isAgg87
  z75 := Tryd.sizeOf87
  v75 := Tryd.zeroValue87
  t76 := Tryd.underlying91
  a76 := Tryd.isAgg91
  z76 := Tryd.sizeOf91
  v76 := Tryd.zeroValue91
  t127 := Tryd.underlying100
  a127 := Tryd.isAgg100
  z127 := Tryd.sizeOf100
  v127 := Tryd.zeroValue100
  t164 := Tryd.underlying105
  a164 := Tryd.isAgg105
  z164 := Tryd.sizeOf105
  v164 := Tryd.zeroValue105 }
theorem Tryd.Builder_Extra_156 : Builder.Extra Tryd.prog Tryd.lays156_ren := {
  sizeBuilder := by kernel_rfl
  liesBuilder := by kernel_rfl
  t5 := Tryd.underlying5
  a5 := Tryd.isAgg5
  z5 := Tryd.sizeOf5
  v5 := Tryd.zeroValue5
  infoByte := by kernel_rfl
  cellsByte := by kernel_rfl
  sizeByte := by kernel_rfl
  neB5 := by decide }
open Go.RowKit in
theorem Tryd.strings_Join_none (a : Option Addr) (c : Nat) (sep : ByteArray) (w : World) :
    Calls Tryd.prog 46 #[.slice a 0 c, .string sep] w fun e w' => e = .returned (.string ⟨#[]⟩) ∧ w' = w := Any.strings_Join_none Tryd.lays156 Tryd.Builder_Extra_156 a c sep w
open Go.RowKit in
theorem Tryd.strings_Join (bk o c : Nat) (xs : List ByteArray) (sep : ByteArray) (w : World) (hcells : ∀ (j : Nat) x, xs[j]? = some x → w.cell? ⟨bk, o + j, none⟩ = some (.string x)) (hbk : bk < w.heap.size) (hN : xs.length ≤ 140737488355328) (hcap : xs.length ≤ c) (hlen : (Lib.join (xs.map (·.data.toList)) sep.data.toList).length ≤ 140737488355328) :
    Calls Tryd.prog 46 #[.slice (some ⟨bk, o, none⟩) xs.length c, .string sep] w fun e w' => e = .returned (.string ⟨(Lib.join (xs.map (·.data.toList)) sep.data.toList).toArray⟩) ∧ Below w.heap.size w w' := Any.strings_Join Tryd.lays156 Tryd.Builder_Extra_156 bk o c xs sep w hcells hbk hN hcap hlen
def Tryd.lays160_ren : Go.Shelf.Ren := ⟨fun | 160 => 52 | 232 => 61 | 231 => 60 | 227 => 62 | 234 => 64 | 233 => 63 | 236 => 66 | 235 => 65 | 228 => 71 | 271 => 74 | 151 => 73 | 197 => 72 | 120 => 79 | 152 => 78 | 260 => 77 | 137 => 51 | 119 => 80 | 224 => 81 | 225 => 82 | 217 => 59 | 266 => 70 | n => n, fun | 9 => 9 | 4 => 4 | 3 => 3 | 5 => 5 | 117 => 96 | 116 => 95 | 0 => 0 | 124 => 99 | 21 => 21 | 105 => 102 | 46 => 110 | 119 => 109 | 139 => 113 | 138 => 112 | n => n, fun | 3 => 1 | 4 => 2 | n => n⟩
theorem Tryd.lays160 : Go.Proofs.Lays.n160 Tryd.prog Tryd.lays160_ren := {
  mixed := by kernel_rfl
  f119 := Tryd.func80.trans (congrArg some (by kernel_rfl))
  f120 := Tryd.func79.trans (congrArg some (by kernel_rfl))
  f137 := Tryd.func51.trans (congrArg some (by kernel_rfl))
  f151 := Tryd.func73.trans (congrArg some (by kernel_rfl))
  f152 := Tryd.func78.trans (congrArg some (by kernel_rfl))
  f160 := Tryd.func52.trans (congrArg some (by kernel_rfl))
  f197 := Tryd.func72.trans (congrArg some (by kernel_rfl))
  f217 := Tryd.func59.trans (congrArg some (by kernel_rfl))
  f224 := Tryd.func81.trans (congrArg some (by kernel_rfl))
  f225 := Tryd.func82.trans (congrArg some (by kernel_rfl))
  f227 := Tryd.func62.trans (congrArg some (by kernel_rfl))
  f228 := Tryd.func71.trans (congrArg some (by kernel_rfl))
  f231 := Tryd.func60.trans (congrArg some (by kernel_rfl))
  f232 := Tryd.func61.trans (congrArg some (by kernel_rfl))
  f233 := Tryd.func63.trans (congrArg some (by kernel_rfl))
  f234 := Tryd.func64.trans (congrArg some (by kernel_rfl))
  f235 := Tryd.func65.trans (congrArg some (by kernel_rfl))
  f236 := Tryd.func66.trans (congrArg some (by kernel_rfl))
  f260 := Tryd.func77.trans (congrArg some (by kernel_rfl))
  f266 := Tryd.func70.trans (congrArg some (by kernel_rfl))
  f271 := Tryd.func74.trans (congrArg some (by kernel_rfl))
  t0 := Tryd.underlying0
  a0 := Tryd.isAgg0
  z0 := Tryd.sizeOf0
  v0 := Tryd.zeroValue0
  t3 := Tryd.underlying3
  a3 := Tryd.isAgg3
  z3 := Tryd.sizeOf3
  v3 := Tryd.zeroValue3
  t4 := Tryd.underlying4
  a4 := Tryd.isAgg4
  z4 := Tryd.sizeOf4
  v4 := Tryd.zeroValue4
  t5 := Tryd.underlying5
  a5 := Tryd.isAgg5
  z5 := Tryd.sizeOf5
  v5 := Tryd.zeroValue5
  t9 := Tryd.underlying9
  a9 := Tryd.isAgg9
  z9 := Tryd.sizeOf9
  v9 := Tryd.zeroValue9
  t21 := Tryd.underlying21
  a21 := Tryd.isAgg21
  z21 := Tryd.sizeOf21
  v21 := Tryd.zeroValue21
  t46 := Tryd.underlying110
  a46 := Tryd.isAgg110
  z46 := Tryd.sizeOf110
  v46 := Tryd.zeroValue110
  t105 := Tryd.underlying102
  a105 := Tryd.isAgg102
  z105 := Tryd.sizeOf102
  v105 := Tryd.zeroValue102
  t116 := Tryd.underlying95
  a116 := Tryd.isAgg95
  z116 := Tryd.sizeOf95
  t117 := Tryd.underlying96
  a117 := Tryd.isAgg96
  z117 := Tryd.sizeOf96
  v117 := Tryd.zeroValue96
  t119 := Tryd.underlying109
  a119 := Tryd.isAgg109
  z119 := Tryd.sizeOf109
  t124 := Tryd.underlying99
  a124 := Tryd.isAgg99
  z124 := Tryd.sizeOf99
  v124 := Tryd.zeroValue99
  t138 := Tryd.underlying112
  a138 := Tryd.isAgg112
  z138 := Tryd.sizeOf112
  v138 := Tryd.zeroValue112
  t139 := Tryd.underlying113
  a139 := Tryd.isAgg113
  z139 := Tryd.sizeOf113
  v139 := Tryd.zeroValue113
  g3 := by kernel_rfl
  g4 := by kernel_rfl }
open Go.RowKit Go.Lib in
theorem Tryd.strings_Trim_set (s cutset : ByteArray) (w : World) (hs : s.size ≤ 9223372036854775807) (hcs : cutset.size < 4294967281) (hascii : ∀ (j : Nat) b, cutset.data.toList[j]? = some b → b.toNat < 128) :
    Calls Tryd.prog 52 #[.string s, .string cutset] w fun e w' => e = .returned (.string ⟨(Lib.trimS s.data.toList cutset.data.toList).toArray⟩) ∧ Below w.heap.size w w' := Any.strings_Trim_laid Tryd.lays160 (by kernel_rfl) s cutset w hs hcs hascii
def Tryd.lays240_ren : Go.Shelf.Ren := ⟨fun | 240 => 68 | 276 => 75 | n => n, fun | 0 => 0 | 37 => 83 | 4 => 4 | 9 => 9 | 20 => 20 | 70 => 82 | 72 => 85 | 164 => 105 | n => n, fun | n => n⟩
theorem Tryd.lays240 : Go.Proofs.Lays.n240 Tryd.prog Tryd.lays240_ren := {
  mixed := by kernel_rfl
  f240 := Tryd.func68.trans (congrArg some (by kernel_rfl))
  f276 := Tryd.func75.trans (congrArg some (by kernel_rfl))
  t0 := Tryd.underlying0
  a0 := Tryd.isAgg0
  z0 := Tryd.sizeOf0
  v0 := Tryd.zeroValue0
  t4 := Tryd.underlying4
  a4 := Tryd.isAgg4
  z4 := Tryd.sizeOf4
  v4 := Tryd.zeroValue4
  t9 := Tryd.underlying9
  a9 := Tryd.isAgg9
  z9 := Tryd.sizeOf9
  v9 := Tryd.zeroValue9
  t20 := Tryd.underlying20
  a20 := Tryd.isAgg20
  z20 := Tryd.sizeOf20
  v20 := Tryd.zeroValue20
  t70 := Tryd.underlying82
  a70 := Tryd.isAgg82
  z70 := Tryd.sizeOf82
  v70 := Tryd.zeroValue82
  t72 := Tryd.underlying85
  a72 := Tryd.isAgg85
  z72 := Tryd.sizeOf85
  v72 := Tryd.zeroValue85
  t164 := Tryd.underlying105
  a164 := Tryd.isAgg105
  z164 := Tryd.sizeOf105
  v164 := Tryd.zeroValue105 }
theorem Tryd.Builder_X72_240 : Builder.X72 Tryd.prog Tryd.lays240_ren := {
  sizeBuilder := by kernel_rfl
  liesBuilder := by kernel_rfl }
end Go.Proofs
namespace Go.Proofs.YtghkbjflejgieaaDoor.Ev
open Go.Ev
theorem mixed : Tryd.prog.follows .mixedOrders = true := by kernel_rfl
instance ctx : Ctx := ⟨fun t e => t = .int .u8 → e = 5, fun _ => False, fun _ => True, fun _ _ _ h => h⟩
instance tagOK : TagOK Tryd.prog := tagOK_of (u := 5) (fun _ _ => Iff.rfl) (by kernel_rfl)
def kinds : FuncId → Bool × Bool := fun f => (true, f == 50)
theorem clone33 : CallAt Tryd.prog 33 (plainS (cloneG (.pair .str .str) 32)) :=
  clone_at mixed 24 24 23 (.pair .str .str) 32 Tryd.func33 (by kernel_rfl) (by kernel_rfl) (by kernel_rfl) (by kernel_rfl) (by kernel_rfl) (by kernel_rfl) (by kernel_rfl) (by kernel_rfl) (by kernel_rfl) (by kernel_rfl) (by kernel_rfl) (by kernel_rfl) (by kernel_rfl) (by kernel_rfl) (by kernel_rfl) (by kernel_rfl) (by kernel_rfl) (by kernel_rfl) (by kernel_rfl)
theorem libstringsTrim : CallAt Tryd.prog 52 (plainV trimG) := trim_at Tryd.func52 (by kernel_rfl) (by kernel_rfl) Tryd.strings_Trim_set
theorem libstringsJoin : CallAt Tryd.prog 46 (plainV joinG) := join_at Tryd.func46 (by kernel_rfl) (by kernel_rfl) Tryd.strings_Join_none Tryd.strings_Join
theorem libCopyCheck : CallAt Tryd.prog 68 (copyCheckS 85) := copyCheck_at Tryd.func68 (by kernel_rfl) (by kernel_rfl) (fun b w h1 h2 h3 => Any.Builder_copyCheck_fresh Tryd.lays240 Tryd.Builder_X72_240 b w h1 h2 h3) (fun b w h => Any.Builder_copyCheck_used Tryd.lays240 Tryd.Builder_X72_240 b w h)
def S : FuncId → Option (List AV → Boxes → M (AV × Boxes)) := fun f => if f = 33 then some (plainS (cloneG (.pair .str .str) 32)) else if f = 52 then some (plainV trimG) else if f = 46 then some (plainV joinG) else if f = 68 then some (copyCheckS 85) else none
theorem S_ok : ∀ f s, S f = some s → CallAt Tryd.prog f s := by
  intro f s h
  unfold S at h
  split at h
  · rename_i e; subst e; cases h; exact clone33
  split at h
  · rename_i e; subst e; cases h; exact libstringsTrim
  split at h
  · rename_i e; subst e; cases h; exact libstringsJoin
  split at h
  · rename_i e; subst e; cases h; exact libCopyCheck
  cases h
end Go.Proofs.YtghkbjflejgieaaDoor.Ev
namespace Go.Proofs.YtghkbjflejgieaaDoor.Dec
open Go.Ev
set_option linter.unusedVariables false
set_option linter.unusedSimpArgs false
set_option maxRecDepth 100000
set_option maxHeartbeats 20000000
abbrev tT := true
abbrev fF := false
theorem iY {β : Type} {c : Prop} [Decidable c] {x : Option β} {q : β} (h : (if c then x else none) = some q) : c ∧ x = some q := by
  by_cases hc : c
  · rw [if_pos hc] at h; exact ⟨hc, h⟩
  · rw [if_neg hc] at h; cases h
abbrev Q0 := List ((List ((List UInt8) × (List UInt8) × Int)) × (List ((List UInt8) × (List UInt8) × Int)) × (List (List UInt8)))
abbrev Q1 := (List ((List UInt8) × (List UInt8) × Int)) × (List ((List UInt8) × (List UInt8) × Int)) × (List (List UInt8))
abbrev Q2 := List ((List ((List UInt8) × (List UInt8) × Int)) × Int × Int)
abbrev Q3 := List (List ((List UInt8) × (List UInt8)))
abbrev Q4 := List ((List UInt8) × (List UInt8) × Int)
abbrev Q5 := List ((List UInt8) × (List UInt8))
abbrev Q6 := List ((List Int) × (List Int))
abbrev Q7 := List (List UInt8)
abbrev Q8 := List UInt8
@[reducible] def tp0 (l : Env) : Env := l
@[reducible] def tp1 (l : Env) : Env := .top :: tp0 l
@[reducible] def tp2 (l : Env) : Env := .top :: tp1 l
@[reducible] def tp3 (l : Env) : Env := .top :: tp2 l
@[reducible] def tp4 (l : Env) : Env := .top :: tp3 l
@[reducible] def tp5 (l : Env) : Env := .top :: tp4 l
@[reducible] def tp6 (l : Env) : Env := .top :: tp5 l
@[reducible] def tp7 (l : Env) : Env := .top :: tp6 l
@[reducible] def tp8 (l : Env) : Env := .top :: tp7 l
@[reducible] def tp9 (l : Env) : Env := .top :: tp8 l
@[reducible] def tp10 (l : Env) : Env := .top :: tp9 l
@[reducible] def tp11 (l : Env) : Env := .top :: tp10 l
@[reducible] def tp12 (l : Env) : Env := .top :: tp11 l
@[reducible] def tp13 (l : Env) : Env := .top :: tp12 l
@[reducible] def tp14 (l : Env) : Env := .top :: tp13 l
@[reducible] def tp15 (l : Env) : Env := .top :: tp14 l
@[reducible] def tp16 (l : Env) : Env := .top :: tp15 l
@[reducible] def tp17 (l : Env) : Env := .top :: tp16 l
@[reducible] def tp18 (l : Env) : Env := .top :: tp17 l
@[reducible] def tp19 (l : Env) : Env := .top :: tp18 l
@[reducible] def tp20 (l : Env) : Env := .top :: tp19 l
@[reducible] def tp21 (l : Env) : Env := .top :: tp20 l
@[reducible] def tp22 (l : Env) : Env := .top :: tp21 l
@[reducible] def tp23 (l : Env) : Env := .top :: tp22 l
@[reducible] def tp24 (l : Env) : Env := .top :: tp23 l
@[reducible] def tp25 (l : Env) : Env := .top :: tp24 l
@[reducible] def tp26 (l : Env) : Env := .top :: tp25 l
@[reducible] def tp27 (l : Env) : Env := .top :: tp26 l
@[reducible] def tp28 (l : Env) : Env := .top :: tp27 l
@[reducible] def tp29 (l : Env) : Env := .top :: tp28 l
@[reducible] def tp30 (l : Env) : Env := .top :: tp29 l
@[reducible] def tp31 (l : Env) : Env := .top :: tp30 l
@[reducible] def tp32 (l : Env) : Env := .top :: tp31 l
@[reducible] def tp33 (l : Env) : Env := .top :: tp32 l
@[reducible] def tp34 (l : Env) : Env := .top :: tp33 l
@[reducible] def tp35 (l : Env) : Env := .top :: tp34 l
@[reducible] def tp36 (l : Env) : Env := .top :: tp35 l
@[reducible] def tp37 (l : Env) : Env := .top :: tp36 l
@[reducible] def tp38 (l : Env) : Env := .top :: tp37 l
@[reducible] def tp39 (l : Env) : Env := .top :: tp38 l
@[reducible] def tp40 (l : Env) : Env := .top :: tp39 l
@[reducible] def tp41 (l : Env) : Env := .top :: tp40 l
@[reducible] def tp42 (l : Env) : Env := .top :: tp41 l
@[reducible] def tp43 (l : Env) : Env := .top :: tp42 l
@[reducible] def tp44 (l : Env) : Env := .top :: tp43 l
@[reducible] def tp45 (l : Env) : Env := .top :: tp44 l
@[reducible] def tp46 (l : Env) : Env := .top :: tp45 l
@[reducible] def tp47 (l : Env) : Env := .top :: tp46 l
@[reducible] def tp48 (l : Env) : Env := .top :: tp47 l
@[reducible] def tp49 (l : Env) : Env := .top :: tp48 l
@[reducible] def tp50 (l : Env) : Env := .top :: tp49 l
@[reducible] def tp51 (l : Env) : Env := .top :: tp50 l
@[reducible] def tp52 (l : Env) : Env := .top :: tp51 l
@[reducible] def tp53 (l : Env) : Env := .top :: tp52 l
@[reducible] def tp54 (l : Env) : Env := .top :: tp53 l
@[reducible] def tp55 (l : Env) : Env := .top :: tp54 l
@[reducible] def tp56 (l : Env) : Env := .top :: tp55 l
@[reducible] def tp57 (l : Env) : Env := .top :: tp56 l
@[reducible] def tp58 (l : Env) : Env := .top :: tp57 l
@[reducible] def tp59 (l : Env) : Env := .top :: tp58 l
@[reducible] def tp60 (l : Env) : Env := .top :: tp59 l
@[reducible] def tp61 (l : Env) : Env := .top :: tp60 l
@[reducible] def tp62 (l : Env) : Env := .top :: tp61 l
@[reducible] def tp63 (l : Env) : Env := .top :: tp62 l
@[reducible] def tp64 (l : Env) : Env := .top :: tp63 l
@[reducible] def tp65 (l : Env) : Env := .top :: tp64 l
@[reducible] def tp66 (l : Env) : Env := .top :: tp65 l
@[reducible] def tp67 (l : Env) : Env := .top :: tp66 l
@[reducible] def tp68 (l : Env) : Env := .top :: tp67 l
@[reducible] def tp69 (l : Env) : Env := .top :: tp68 l
@[reducible] def tp70 (l : Env) : Env := .top :: tp69 l
@[reducible] def tp71 (l : Env) : Env := .top :: tp70 l
@[reducible] def tp72 (l : Env) : Env := .top :: tp71 l
@[reducible] def tp73 (l : Env) : Env := .top :: tp72 l
@[reducible] def tp74 (l : Env) : Env := .top :: tp73 l
@[reducible] def tp75 (l : Env) : Env := .top :: tp74 l
@[reducible] def tp76 (l : Env) : Env := .top :: tp75 l
@[reducible] def tp77 (l : Env) : Env := .top :: tp76 l
@[reducible] def tp78 (l : Env) : Env := .top :: tp77 l
@[reducible] def tp79 (l : Env) : Env := .top :: tp78 l
@[reducible] def tp80 (l : Env) : Env := .top :: tp79 l
@[reducible] def tp81 (l : Env) : Env := .top :: tp80 l
@[reducible] def tp82 (l : Env) : Env := .top :: tp81 l
@[reducible] def tp83 (l : Env) : Env := .top :: tp82 l
@[reducible] def tp84 (l : Env) : Env := .top :: tp83 l
@[reducible] def tp85 (l : Env) : Env := .top :: tp84 l
@[reducible] def tp86 (l : Env) : Env := .top :: tp85 l
@[reducible] def tp87 (l : Env) : Env := .top :: tp86 l
@[reducible] def tp88 (l : Env) : Env := .top :: tp87 l
@[reducible] def tp89 (l : Env) : Env := .top :: tp88 l
@[reducible] def tp90 (l : Env) : Env := .top :: tp89 l
@[reducible] def tp91 (l : Env) : Env := .top :: tp90 l
@[reducible] def tp92 (l : Env) : Env := .top :: tp91 l
@[reducible] def tp93 (l : Env) : Env := .top :: tp92 l
@[reducible] def tp94 (l : Env) : Env := .top :: tp93 l
@[reducible] def tp95 (l : Env) : Env := .top :: tp94 l
@[reducible] def tp96 (l : Env) : Env := .top :: tp95 l
@[reducible] def tp97 (l : Env) : Env := .top :: tp96 l
@[reducible] def tp98 (l : Env) : Env := .top :: tp97 l
@[reducible] def tp99 (l : Env) : Env := .top :: tp98 l
@[reducible] def tp100 (l : Env) : Env := .top :: tp99 l
@[reducible] def tp101 (l : Env) : Env := .top :: tp100 l
@[reducible] def tp102 (l : Env) : Env := .top :: tp101 l
@[reducible] def tp103 (l : Env) : Env := .top :: tp102 l
@[reducible] def tp104 (l : Env) : Env := .top :: tp103 l
@[reducible] def tp105 (l : Env) : Env := .top :: tp104 l
@[reducible] def tp106 (l : Env) : Env := .top :: tp105 l
@[reducible] def tp107 (l : Env) : Env := .top :: tp106 l
@[reducible] def tp108 (l : Env) : Env := .top :: tp107 l
@[reducible] def tp109 (l : Env) : Env := .top :: tp108 l
@[reducible] def tp110 (l : Env) : Env := .top :: tp109 l
@[reducible] def tp111 (l : Env) : Env := .top :: tp110 l
@[reducible] def tp112 (l : Env) : Env := .top :: tp111 l
@[reducible] def tp113 (l : Env) : Env := .top :: tp112 l
@[reducible] def tp114 (l : Env) : Env := .top :: tp113 l
@[reducible] def tp115 (l : Env) : Env := .top :: tp114 l
@[reducible] def tp116 (l : Env) : Env := .top :: tp115 l
@[reducible] def tp117 (l : Env) : Env := .top :: tp116 l
@[reducible] def tp118 (l : Env) : Env := .top :: tp117 l
@[reducible] def tp119 (l : Env) : Env := .top :: tp118 l
@[reducible] def tp120 (l : Env) : Env := .top :: tp119 l
@[reducible] def tp121 (l : Env) : Env := .top :: tp120 l
@[reducible] def tp122 (l : Env) : Env := .top :: tp121 l
@[reducible] def tp123 (l : Env) : Env := .top :: tp122 l
@[reducible] def tp124 (l : Env) : Env := .top :: tp123 l
@[reducible] def tp125 (l : Env) : Env := .top :: tp124 l
@[reducible] def tp126 (l : Env) : Env := .top :: tp125 l
@[reducible] def tp127 (l : Env) : Env := .top :: tp126 l
@[reducible] def tp128 (l : Env) : Env := .top :: tp127 l
@[reducible] def tp129 (l : Env) : Env := .top :: tp128 l
@[reducible] def tp130 (l : Env) : Env := .top :: tp129 l
@[reducible] def tp131 (l : Env) : Env := .top :: tp130 l
@[reducible] def tp132 (l : Env) : Env := .top :: tp131 l
@[reducible] def tp133 (l : Env) : Env := .top :: tp132 l
@[reducible] def tp134 (l : Env) : Env := .top :: tp133 l
@[reducible] def tp135 (l : Env) : Env := .top :: tp134 l
@[reducible] def tp136 (l : Env) : Env := .top :: tp135 l
@[reducible] def tp137 (l : Env) : Env := .top :: tp136 l
@[reducible] def tp138 (l : Env) : Env := .top :: tp137 l
@[reducible] def tp139 (l : Env) : Env := .top :: tp138 l
@[reducible] def tp140 (l : Env) : Env := .top :: tp139 l
@[reducible] def tp141 (l : Env) : Env := .top :: tp140 l
@[reducible] def tp142 (l : Env) : Env := .top :: tp141 l
@[reducible] def tp143 (l : Env) : Env := .top :: tp142 l
@[reducible] def tp144 (l : Env) : Env := .top :: tp143 l
@[reducible] def tp145 (l : Env) : Env := .top :: tp144 l
@[reducible] def tp146 (l : Env) : Env := .top :: tp145 l
@[reducible] def tp147 (l : Env) : Env := .top :: tp146 l
@[reducible] def tp148 (l : Env) : Env := .top :: tp147 l
@[reducible] def tp149 (l : Env) : Env := .top :: tp148 l
@[reducible] def tp150 (l : Env) : Env := .top :: tp149 l
@[reducible] def tp151 (l : Env) : Env := .top :: tp150 l
@[reducible] def tp152 (l : Env) : Env := .top :: tp151 l
@[reducible] def tp153 (l : Env) : Env := .top :: tp152 l
@[reducible] def tp154 (l : Env) : Env := .top :: tp153 l
@[reducible] def tp155 (l : Env) : Env := .top :: tp154 l
@[reducible] def tp156 (l : Env) : Env := .top :: tp155 l
@[reducible] def tp157 (l : Env) : Env := .top :: tp156 l
@[reducible] def tp158 (l : Env) : Env := .top :: tp157 l
@[reducible] def tp159 (l : Env) : Env := .top :: tp158 l
@[reducible] def tp160 (l : Env) : Env := .top :: tp159 l
@[reducible] def tp161 (l : Env) : Env := .top :: tp160 l
@[reducible] def tp162 (l : Env) : Env := .top :: tp161 l
@[reducible] def tp163 (l : Env) : Env := .top :: tp162 l
@[reducible] def tp164 (l : Env) : Env := .top :: tp163 l
@[reducible] def tp165 (l : Env) : Env := .top :: tp164 l
@[reducible] def tp166 (l : Env) : Env := .top :: tp165 l
@[reducible] def tp167 (l : Env) : Env := .top :: tp166 l
@[reducible] def tp168 (l : Env) : Env := .top :: tp167 l
@[reducible] def tp169 (l : Env) : Env := .top :: tp168 l
@[reducible] def tp170 (l : Env) : Env := .top :: tp169 l
@[reducible] def tp171 (l : Env) : Env := .top :: tp170 l
@[reducible] def tp172 (l : Env) : Env := .top :: tp171 l
@[reducible] def tp173 (l : Env) : Env := .top :: tp172 l
@[reducible] def tp174 (l : Env) : Env := .top :: tp173 l
@[reducible] def tp175 (l : Env) : Env := .top :: tp174 l
@[reducible] def tp176 (l : Env) : Env := .top :: tp175 l
@[reducible] def tp177 (l : Env) : Env := .top :: tp176 l
@[reducible] def tp178 (l : Env) : Env := .top :: tp177 l
@[reducible] def tp179 (l : Env) : Env := .top :: tp178 l
@[reducible] def tp180 (l : Env) : Env := .top :: tp179 l
@[reducible] def tp181 (l : Env) : Env := .top :: tp180 l
@[reducible] def tp182 (l : Env) : Env := .top :: tp181 l
@[reducible] def tp183 (l : Env) : Env := .top :: tp182 l
@[reducible] def tp184 (l : Env) : Env := .top :: tp183 l
@[reducible] def tp185 (l : Env) : Env := .top :: tp184 l
@[reducible] def tp186 (l : Env) : Env := .top :: tp185 l
@[reducible] def tp187 (l : Env) : Env := .top :: tp186 l
@[reducible] def tp188 (l : Env) : Env := .top :: tp187 l
@[reducible] def tp189 (l : Env) : Env := .top :: tp188 l
@[reducible] def tp190 (l : Env) : Env := .top :: tp189 l
@[reducible] def tp191 (l : Env) : Env := .top :: tp190 l
@[reducible] def tp192 (l : Env) : Env := .top :: tp191 l
@[reducible] def tp193 (l : Env) : Env := .top :: tp192 l
@[reducible] def tp194 (l : Env) : Env := .top :: tp193 l
@[reducible] def tp195 (l : Env) : Env := .top :: tp194 l
@[reducible] def tp196 (l : Env) : Env := .top :: tp195 l
@[reducible] def tp197 (l : Env) : Env := .top :: tp196 l
@[reducible] def tp198 (l : Env) : Env := .top :: tp197 l
@[reducible] def tp199 (l : Env) : Env := .top :: tp198 l
@[reducible] def tp200 (l : Env) : Env := .top :: tp199 l
@[reducible] def tp201 (l : Env) : Env := .top :: tp200 l
@[reducible] def tp202 (l : Env) : Env := .top :: tp201 l
@[reducible] def tp203 (l : Env) : Env := .top :: tp202 l
@[reducible] def tp204 (l : Env) : Env := .top :: tp203 l
@[reducible] def tp205 (l : Env) : Env := .top :: tp204 l
@[reducible] def tp206 (l : Env) : Env := .top :: tp205 l
@[reducible] def tp207 (l : Env) : Env := .top :: tp206 l
@[reducible] def tp208 (l : Env) : Env := .top :: tp207 l
@[reducible] def tp209 (l : Env) : Env := .top :: tp208 l
@[reducible] def tp210 (l : Env) : Env := .top :: tp209 l
@[reducible] def tp211 (l : Env) : Env := .top :: tp210 l
@[reducible] def tp212 (l : Env) : Env := .top :: tp211 l
@[reducible] def tp213 (l : Env) : Env := .top :: tp212 l
@[reducible] def tp214 (l : Env) : Env := .top :: tp213 l
@[reducible] def tp215 (l : Env) : Env := .top :: tp214 l
@[reducible] def tp216 (l : Env) : Env := .top :: tp215 l
@[reducible] def tp217 (l : Env) : Env := .top :: tp216 l
@[reducible] def tp218 (l : Env) : Env := .top :: tp217 l
@[reducible] def tp219 (l : Env) : Env := .top :: tp218 l
@[reducible] def tp220 (l : Env) : Env := .top :: tp219 l
@[reducible] def tp221 (l : Env) : Env := .top :: tp220 l
@[reducible] def tp222 (l : Env) : Env := .top :: tp221 l
@[reducible] def tp223 (l : Env) : Env := .top :: tp222 l
@[reducible] def tp224 (l : Env) : Env := .top :: tp223 l
@[reducible] def tp225 (l : Env) : Env := .top :: tp224 l
@[reducible] def tp226 (l : Env) : Env := .top :: tp225 l
@[reducible] def tp227 (l : Env) : Env := .top :: tp226 l
@[reducible] def tp228 (l : Env) : Env := .top :: tp227 l
@[reducible] def tp229 (l : Env) : Env := .top :: tp228 l
@[reducible] def tp230 (l : Env) : Env := .top :: tp229 l
@[reducible] def tp231 (l : Env) : Env := .top :: tp230 l
@[reducible] def tp232 (l : Env) : Env := .top :: tp231 l
@[reducible] def tp233 (l : Env) : Env := .top :: tp232 l
@[reducible] def tp234 (l : Env) : Env := .top :: tp233 l
@[reducible] def tp235 (l : Env) : Env := .top :: tp234 l
@[reducible] def tp236 (l : Env) : Env := .top :: tp235 l
@[reducible] def tp237 (l : Env) : Env := .top :: tp236 l
@[reducible] def tp238 (l : Env) : Env := .top :: tp237 l
@[reducible] def tp239 (l : Env) : Env := .top :: tp238 l
@[reducible] def tp240 (l : Env) : Env := .top :: tp239 l
@[reducible] def tp241 (l : Env) : Env := .top :: tp240 l
@[reducible] def tp242 (l : Env) : Env := .top :: tp241 l
@[reducible] def tp243 (l : Env) : Env := .top :: tp242 l
@[reducible] def tp244 (l : Env) : Env := .top :: tp243 l
@[reducible] def tp245 (l : Env) : Env := .top :: tp244 l
@[reducible] def tp246 (l : Env) : Env := .top :: tp245 l
@[reducible] def tp247 (l : Env) : Env := .top :: tp246 l
@[reducible] def tp248 (l : Env) : Env := .top :: tp247 l
@[reducible] def tp249 (l : Env) : Env := .top :: tp248 l
@[reducible] def tp250 (l : Env) : Env := .top :: tp249 l
@[reducible] def tp251 (l : Env) : Env := .top :: tp250 l
@[reducible] def tp252 (l : Env) : Env := .top :: tp251 l
@[reducible] def tp253 (l : Env) : Env := .top :: tp252 l
@[reducible] def tp254 (l : Env) : Env := .top :: tp253 l
@[reducible] def tp255 (l : Env) : Env := .top :: tp254 l
@[reducible] def tp256 (l : Env) : Env := .top :: tp255 l
@[reducible] def tp257 (l : Env) : Env := .top :: tp256 l
@[reducible] def tp258 (l : Env) : Env := .top :: tp257 l
@[reducible] def tp259 (l : Env) : Env := .top :: tp258 l
@[reducible] def tp260 (l : Env) : Env := .top :: tp259 l
@[reducible] def tp261 (l : Env) : Env := .top :: tp260 l
@[reducible] def tp262 (l : Env) : Env := .top :: tp261 l
@[reducible] def tp263 (l : Env) : Env := .top :: tp262 l
@[reducible] def tp264 (l : Env) : Env := .top :: tp263 l
@[reducible] def tp265 (l : Env) : Env := .top :: tp264 l
@[reducible] def tp266 (l : Env) : Env := .top :: tp265 l
@[reducible] def tp267 (l : Env) : Env := .top :: tp266 l
@[reducible] def tp268 (l : Env) : Env := .top :: tp267 l
@[reducible] def tp269 (l : Env) : Env := .top :: tp268 l
@[reducible] def tp270 (l : Env) : Env := .top :: tp269 l
@[reducible] def tp271 (l : Env) : Env := .top :: tp270 l
@[reducible] def tp272 (l : Env) : Env := .top :: tp271 l
@[reducible] def tp273 (l : Env) : Env := .top :: tp272 l
@[reducible] def tp274 (l : Env) : Env := .top :: tp273 l
@[reducible] def tp275 (l : Env) : Env := .top :: tp274 l
@[reducible] def tp276 (l : Env) : Env := .top :: tp275 l
@[reducible] def tp277 (l : Env) : Env := .top :: tp276 l
@[reducible] def tp278 (l : Env) : Env := .top :: tp277 l
@[reducible] def tp279 (l : Env) : Env := .top :: tp278 l
@[reducible] def tp280 (l : Env) : Env := .top :: tp279 l
@[reducible] def tp281 (l : Env) : Env := .top :: tp280 l
@[reducible] def tp282 (l : Env) : Env := .top :: tp281 l
@[reducible] def tp283 (l : Env) : Env := .top :: tp282 l
@[reducible] def tp284 (l : Env) : Env := .top :: tp283 l
theorem mixed : Tryd.prog.follows .mixedOrders = true := by kernel_rfl
open Go.Proofs.YtghkbjflejgieaaDoor.Ev (ctx tagOK)
def kinds : FuncId → Bool × Bool := fun _ => (true, false)
def hds : FuncId → Nat → Hd := fun f => if f = 53 then fun k => if k = 25 then ⟨[(3, none)], [], []⟩ else ⟨[], [], []⟩ else noHd
@[reducible] noncomputable def F := fnsH Tryd.prog kinds hds
@[reducible] noncomputable def byref : FuncId → Bool := fun g => match F g with | some h => h.byref | none => false
noncomputable def S0 : FuncId → Option (List AV → Boxes → M (AV × Boxes)) := fun _ => none
theorem S0_ok : ∀ f s, S0 f = some s → CallAt Tryd.prog f s := fun f s h => by cases h
theorem some_getD {α : Type} {o : Option α} {d : α} (h : o.isSome = true) : o = some (o.getD d) := by
  cases o with
  | none => cases h
  | some a => rfl
theorem ite_cases {c : Prop} [Decidable c] {α : Type} {a b : Option α} {q : α} {G : Prop} (h : (if c then a else b) = some q) (h1 : c → a = some q → G) (h2 : ¬ c → b = some q → G) : G := by
  by_cases hc : c
  · rw [if_pos hc] at h; exact h1 hc h
  · rw [if_neg hc] at h; exact h2 hc h
theorem all_t {c : Bool} {l : List Bool} (h : c = true) (h2 : l.all id = true) : ((c == true) :: l).all id = true := by subst h; simpa using h2
theorem all_f {c : Bool} {l : List Bool} (h : ¬ c = true) (h2 : l.all id = true) : ((c == false) :: l).all id = true := by
  cases c with
  | false => simpa using h2
  | true => exact absurd rfl h
theorem turns_eq {h : Hd} {k0 keep : Nat} {f : LoopG} {n : Nat} {e e2 : Env} {B B2 : Boxes} {r : Option (AEx × Env × Boxes)} (h1 : e = e2) (h2 : B = B2) (h3 : (turns h k0 keep f n e2 B2).run = r) : (turns h k0 keep f n e B).run = r := by
  subst h1; subst h2; exact h3
theorem all_nil : ([] : List Bool).all id = true := rfl
theorem all_nt {c : Bool} {l : List Bool} (h : c = true) (h2 : l.all id = true) : (((!c) == false) :: l).all id = true := by subst h; simpa using h2
theorem all_nf {c : Bool} {l : List Bool} (h : ¬ c = true) (h2 : l.all id = true) : (((!c) == true) :: l).all id = true := by
  cases c with
  | false => simpa using h2
  | true => exact absurd rfl h
theorem all_nnt {c : Bool} {l : List Bool} (h : c = true) (h2 : l.all id = true) : (((!(!c)) == true) :: l).all id = true := by subst h; simpa using h2
theorem all_nnf {c : Bool} {l : List Bool} (h : ¬ c = true) (h2 : l.all id = true) : (((!(!c)) == false) :: l).all id = true := by
  cases c with
  | false => simpa using h2
  | true => exact absurd rfl h

noncomputable def S1 : FuncId → Option (List AV → Boxes → M (AV × Boxes)) := fun f => if f = 20 then some withinS else S0 f
theorem S1_ok : ∀ f s, S1 f = some s → CallAt Tryd.prog f s := by
  intro f s h
  unfold S1 at h
  split at h
  · rename_i e; subst e; cases h; exact (within_at mixed (kinds := kinds) (by kernel_rfl))
  · exact S0_ok f s h

end Go.Proofs.YtghkbjflejgieaaDoor.Dec
namespace Go.Proofs.YtghkbjflejgieaaDoor.Dec
open Go.Ev
set_option linter.unusedVariables false
set_option linter.unusedSimpArgs false
set_option maxRecDepth 100000
set_option maxHeartbeats 20000000
noncomputable def fn29 : AFn := (F 29).getD ⟨0, [], .bad, false, false, noHd⟩
noncomputable def body29 : AC := fn29.body
def l29_0 (m : Nat) : Nat → Q5 → Q8 → Int → Int → Option (Nat × Int)
  | 0, _, _, _, _ => none
  | n + 1, x0, x1, s8, s9 => if decide (s9 < s8) = true then
      if decide (0 ≤ s9) = true then
      if decide (s9 < (((List.length x0) : Nat) : Int)) = true then
      if ((List.getD x0 (Int.toNat s9) (([] : Q8), ([] : Q8))).1 == x1) = true then
        some (0, s9)
      else
        l29_0 m n x0 x1 s8 ((IntKind.wrap .i64 (s9 + (1))))
      else none
      else none
    else
      some (1, s9)
def l29_0D : Nat × Int := (0, 0)
@[reducible] def l29_0R (m n : Nat) (x0 : Q5) (x1 : Q8) (s8 : Int) (s9 : Int) : Nat × Int := Option.getD (l29_0 m n x0 x1 s8 s9) l29_0D
def l29_0H (x0 : Q5) (x1 : Q8) (s8 : Int) (s9 : Int) : Env := (.top :: (.d (.str x1)) :: .top :: .top :: .top :: .top :: .top :: (.d (.sl (.pair .str .str) x0)) :: (.d (.int .i64 s8)) :: (.d (.int .i64 s9)) :: tp10 [])
def l29_0B (x0 : Q5) (x1 : Q8) (s8 : Int) (s9 : Int) : Boxes := []
def l29_0E (x0 : Q5) (x1 : Q8) (s8 : Int) (s9 : Int) : Nat → AEx × Env × Boxes
  | 0 => (.ret, [.top, (.d (.str x1)), .top, .top, (.d (.str (List.getD x0 (Int.toNat s9) (([] : Q8), ([] : Q8))).2)), .top, (.ptr 0 0), (.d (.sl (.pair .str .str) x0)), (.d (.int .i64 s8)), (.d (.int .i64 s9)), (.d (.bool (decide (s9 < s8)))), (.cptr [(.str (List.getD x0 (Int.toNat s9) (([] : Q8), ([] : Q8))).1), (.str (List.getD x0 (Int.toNat s9) (([] : Q8), ([] : Q8))).2)] 0), (.agg [(.d (.str (List.getD x0 (Int.toNat s9) (([] : Q8), ([] : Q8))).1)), (.d (.str (List.getD x0 (Int.toNat s9) (([] : Q8), ([] : Q8))).2))]), (.ptr 0 0), (.d (.str (List.getD x0 (Int.toNat s9) (([] : Q8), ([] : Q8))).1)), (.d (.str x1)), (.d (.bool ((List.getD x0 (Int.toNat s9) (([] : Q8), ([] : Q8))).1 == x1))), (.ptr 0 1), (.d (.str (List.getD x0 (Int.toNat s9) (([] : Q8), ([] : Q8))).2)), .top], [(.cells [(.d (.str (List.getD x0 (Int.toNat s9) (([] : Q8), ([] : Q8))).1)), (.d (.str (List.getD x0 (Int.toNat s9) (([] : Q8), ([] : Q8))).2))])])
  | _ => (.exit 0, (.top :: (.d (.str x1)) :: .top :: .top :: .top :: .top :: .top :: (.d (.sl (.pair .str .str) x0)) :: (.d (.int .i64 s8)) :: (.d (.int .i64 s9)) :: (.d (.bool (decide (s9 < s8)))) :: tp9 []), [])
noncomputable def lbl29_0 : AC := loopBody 898 body29
@[reducible] noncomputable def cb0 (m : Nat) := (evC byref (evCall F S1 (m + 24)) (m + 24) 0 (hds 29) lbl29_0)


theorem l29_0_step (m n : Nat) (ih : ∀ (x0 : Q5) (x1 : Q8) (s8 : Int) (s9 : Int) (q : Nat × Int), l29_0 m n x0 x1 s8 s9 = some q → (turns (hds 29 898) 0 898 (cb0 m) n (l29_0H x0 x1 s8 s9) (l29_0B x0 x1 s8 s9)).run = some (l29_0E (x0) (x1) (s8) (q.2) q.1)) (x0 : Q5) (x1 : Q8) (s8 : Int) (s9 : Int) (q : Nat × Int) (h : l29_0 m (n + 1) x0 x1 s8 s9 = some q) : (turns (hds 29 898) 0 898 (cb0 m) (n + 1) (l29_0H x0 x1 s8 s9) (l29_0B x0 x1 s8 s9)).run = some (l29_0E (x0) (x1) (s8) (q.2) q.1) := by
  rw [l29_0] at h
  refine ite_cases h (fun c0 h => ?_) (fun c0 h => ?_)
  · skip
    obtain ⟨c1, h⟩ := iY h
    obtain ⟨c2, h⟩ := iY h
    refine ite_cases h (fun c3 h => ?_) (fun c3 h => ?_)
    · skip
      cases h
      refine turns_last (by simp) ?_
      exact M.run_of_path _ [tT, tT, tT, tT] _ _ (by kernel_rfl) (all_t c0 (all_t c1 (all_t c2 (all_t c3 all_nil))))
    · skip
      have ih := ih _ _ _ _ q h
      refine turns_step ?_ ih
      exact M.run_of_path _ [tT, tT, tT, fF] _ _ (by kernel_rfl) (all_t c0 (all_t c1 (all_t c2 (all_f c3 all_nil))))
  · skip
    cases h
    refine turns_last (by simp) ?_
    exact M.run_of_path _ [fF] _ _ (by kernel_rfl) (all_f c0 all_nil)
theorem l29_0_ok (m : Nat) : ∀ (n : Nat) (x0 : Q5) (x1 : Q8) (s8 : Int) (s9 : Int) (q : Nat × Int), l29_0 m n x0 x1 s8 s9 = some q → (turns (hds 29 898) 0 898 (cb0 m) n (l29_0H x0 x1 s8 s9) (l29_0B x0 x1 s8 s9)).run = some (l29_0E (x0) (x1) (s8) (q.2) q.1)
  | 0, x0, x1, s8, s9, q, h => by cases h
  | n + 1, x0, x1, s8, s9, q, h => l29_0_step m n (l29_0_ok m n) x0 x1 s8 s9 q h

def p29 (m : Nat) (x0 : Q5) (x1 : Q8) : Option ((Q8)) :=
  if (Option.isSome (l29_0 m (m + 24) x0 x1 ((((List.length x0) : Nat) : Int)) 0)) = true then
  if ((l29_0R m (m + 24) x0 x1 ((((List.length x0) : Nat) : Int)) 0).1 == 0) = true then
    some ((List.getD x0 (Int.toNat (l29_0R m (m + 24) x0 x1 ((((List.length x0) : Nat) : Int)) 0).2) (([] : Q8), ([] : Q8))).2)
  else
    if ((l29_0R m (m + 24) x0 x1 ((((List.length x0) : Nat) : Int)) 0).1 == 1) = true then
    some (([] : Q8))
    else none
  else none
theorem p29_ok (m : Nat) (x0 : Q5) (x1 : Q8) (q : (Q8)) (h : p29 m x0 x1 = some q) : ∃ r B1, (evCall F S1 (m + 25) 29 [(.d (.sl (.pair .str .str) x0)), (.d (.str x1))] []).run = some (r, B1) ∧ 0 ≤ B1.length ∧ wkR B1 [] r (.d (.str q)) ∧ wkBs B1 [] 0 [] := by
  unfold p29 at h
  obtain ⟨c0, h⟩ := iY h
  refine ite_cases h (fun c1 h => ?_) (fun c1 h => ?_)
  · skip
    cases h
    refine ⟨(.d (.str (List.getD x0 (Int.toNat (l29_0R m (m + 24) x0 x1 ((((List.length x0) : Nat) : Int)) 0).2) (([] : Q8), ([] : Q8))).2)), [], runT_ok (LS := (fun k => if k = 898 then some (l29_0E x0 x1 (((((List.length x0) : Nat) : Int))) ((l29_0R m (m + 24) x0 x1 ((((List.length x0) : Nat) : Int)) 0).2) 0) else none)) (fn := fn29) (vis := [(898, l29_0H x0 x1 ((((List.length x0) : Nat) : Int)) 0, l29_0B x0 x1 ((((List.length x0) : Nat) : Int)) 0)]) (by kernel_rfl) rfl (by kernel_rfl) (M.run_of_path _ [] _ _ (by kernel_rfl) all_nil) ?_, by simp, (wkR.one (wkV.one (wk1.eq rfl))), trivial⟩
    intro p hp p2 hq
    rcases List.mem_cons.1 hp with rfl | hp
    · skip
      have h3 := l29_0_ok m (m + 24) x0 x1 ((((List.length x0) : Nat) : Int)) 0 _ (some_getD (d := l29_0D) c0)
      rw [eq_of_beq c1] at h3
      exact Eq.trans (Eq.mp (by kernel_rfl) h3) hq
    cases hp
  · skip
    obtain ⟨c2, h⟩ := iY h
    cases h
    refine ⟨(.d (.str ([] : Q8))), [], runT_ok (LS := (fun k => if k = 898 then some (l29_0E x0 x1 (((((List.length x0) : Nat) : Int))) ((l29_0R m (m + 24) x0 x1 ((((List.length x0) : Nat) : Int)) 0).2) 1) else none)) (fn := fn29) (vis := [(898, l29_0H x0 x1 ((((List.length x0) : Nat) : Int)) 0, l29_0B x0 x1 ((((List.length x0) : Nat) : Int)) 0)]) (by kernel_rfl) rfl (by kernel_rfl) (M.run_of_path _ [] _ _ (by kernel_rfl) all_nil) ?_, by simp, (wkR.one (wkV.one (wk1.eq rfl))), trivial⟩
    intro p hp p2 hq
    rcases List.mem_cons.1 hp with rfl | hp
    · skip
      have h3 := l29_0_ok m (m + 24) x0 x1 ((((List.length x0) : Nat) : Int)) 0 _ (some_getD (d := l29_0D) c0)
      rw [eq_of_beq c2] at h3
      exact Eq.trans (Eq.mp (by kernel_rfl) h3) hq
    cases hp

abbrev LB := Q5
abbrev MT := (Q8) × (Q8) × Int
def getG : LB → Q8 → Q8
  | [], _ => []
  | x :: l, n => if (x.1 == n) = true then x.2 else getG l n
theorem get_loop (m : Nat) (l : LB) (nm : Q8) (hb : l.length ≤ 1000000) : ∀ (n k : Nat), k ≤ l.length → l.length - k < n → (∃ j, l29_0 m n l nm (l.length : Nat) (k : Nat) = some (0, ((j : Nat) : Int)) ∧ getG (l.drop k) nm = (l.getD j (([] : Q8), ([] : Q8))).2) ∨ (∃ j, l29_0 m n l nm (l.length : Nat) (k : Nat) = some (1, j) ∧ getG (l.drop k) nm = [])
  | 0, k, _, h => by omega
  | n + 1, k, h1, h2 => by
    rw [l29_0]
    by_cases hk : k < l.length
    · have e1 : decide (((k : Nat) : Int) < (((List.length l) : Nat) : Int)) = true := decide_eq_true (by omega)
      have e2 : decide ((0 : Int) ≤ ((k : Nat) : Int)) = true := decide_eq_true (by omega)
      have e7 : IntKind.wrap .i64 (((k : Nat) : Int) + (1)) = ((k + 1 : Nat) : Int) := by rw [wrap_id (by omega) (by omega)]; rfl
      rw [drop_getD l k (([] : Q8), ([] : Q8)) hk, show Int.toNat ((k : Nat) : Int) = k from rfl, e7, if_pos e1, if_pos e2, if_pos e1, getG]
      by_cases hc : ((l.getD k (([] : Q8), ([] : Q8))).1 == nm) = true
      · rw [if_pos hc, if_pos hc]
        exact .inl ⟨k, rfl, rfl⟩
      · rw [if_neg hc, if_neg hc]
        exact get_loop m l nm hb n (k + 1) (by omega) (by omega)
    · have e1 : decide (((k : Nat) : Int) < (((List.length l) : Nat) : Int)) = false := decide_eq_false (by omega)
      rw [e1, if_neg (by simp), List.drop_eq_nil_of_le (by omega)]
      exact .inr ⟨_, rfl, rfl⟩
theorem get29 (l : LB) (nm : Q8) (h : decide (List.length l ≤ 1000000) = true) : ∃ m, p29 m l nm = some (getG l nm) := by
  have h := of_decide_eq_true h
  refine ⟨l.length, ?_⟩
  unfold p29 l29_0R
  rcases get_loop l.length l nm h (l.length + 24) 0 (by omega) (by omega) with ⟨j, h1, h2⟩ | ⟨j, h1, h2⟩
  · simp only [Int.natCast_zero, List.drop_zero] at h1 h2
    rw [h1, h2]
    simp
  · simp only [Int.natCast_zero, List.drop_zero] at h1 h2
    rw [h1, h2]
    simp
def s29 : List AV → Boxes → M (AV × Boxes) := normS [.val (.sl (.pair .str .str)), .val .str] [] fun xs B => match xs, B with
  | [(.d (.sl (.pair .str .str) c1)), (.d (.str c2))], [] => .chk (decide (List.length c1 ≤ 1000000)) (.ret ((.d (.str (getG c1 c2))), []))
  | _, _ => .fail
theorem s29_at : CallAt Tryd.prog 29 s29 := by
  refine CallAt.norm (CallAt.weakE (g := fun n => evCall F S1 n 29) (fun n => evCall_atH mixed kinds hds S1 S1_ok n 29) fun xs B r' B' hr => ?_) _ _
  split at hr
  · rename_i c1 c2
    obtain ⟨hp, hr⟩ := (M.run_chk _ _ _).1 hr
    simp only [M.run, Option.some.injEq, Prod.mk.injEq] at hr
    obtain ⟨rfl, rfl⟩ := hr
    obtain ⟨m, hm⟩ := get29 c1 c2 hp
    obtain ⟨r, B1, h1, h2, h3, h4⟩ := p29_ok m c1 c2 _ hm
    exact ⟨m + 25, r, B1, h1, by simp, h2, h3, h4⟩
  · simp [M.run] at hr
noncomputable def S2 : FuncId → Option (List AV → Boxes → M (AV × Boxes)) := fun f => if f = 29 then some s29 else S1 f
theorem S2_ok : ∀ f s, S2 f = some s → CallAt Tryd.prog f s := by
  intro f s h
  unfold S2 at h
  split at h
  · rename_i e; subst e; cases h; exact s29_at
  · exact S1_ok f s h

end Go.Proofs.YtghkbjflejgieaaDoor.Dec
namespace Go.Proofs.YtghkbjflejgieaaDoor.Dec
open Go.Ev
set_option linter.unusedVariables false
set_option linter.unusedSimpArgs false
set_option maxRecDepth 100000
set_option maxHeartbeats 20000000
noncomputable def fn21 : AFn := (F 21).getD ⟨0, [], .bad, false, false, noHd⟩
noncomputable def body21 : AC := fn21.body
def l21_0 (m : Nat) : Nat → Q5 → Q4 → Int → Int → Option (Nat × Int)
  | 0, _, _, _, _ => none
  | n + 1, x0, x1, s8, s9 => if decide (s9 < s8) = true then
      if decide (0 ≤ s9) = true then
      if decide (s9 < (((List.length x1) : Nat) : Int)) = true then
      if decide (List.length x0 ≤ 1000000) = true then
      if ((List.getD x1 (Int.toNat s9) (([] : Q8), (([] : Q8), 0))).2.2 == (1)) = true then
        if ((getG x0 (List.getD x1 (Int.toNat s9) (([] : Q8), (([] : Q8), 0))).1) == (List.getD x1 (Int.toNat s9) (([] : Q8), (([] : Q8), 0))).2.1) = true then
          l21_0 m n x0 x1 s8 ((IntKind.wrap .i64 (s9 + (1))))
        else
          some (0, s9)
      else
        if ((List.getD x1 (Int.toNat s9) (([] : Q8), (([] : Q8), 0))).2.2 == (2)) = true then
          if ((getG x0 (List.getD x1 (Int.toNat s9) (([] : Q8), (([] : Q8), 0))).1) == (List.getD x1 (Int.toNat s9) (([] : Q8), (([] : Q8), 0))).2.1) = true then
            some (1, s9)
          else
            l21_0 m n x0 x1 s8 ((IntKind.wrap .i64 (s9 + (1))))
        else
          if ((List.getD x1 (Int.toNat s9) (([] : Q8), (([] : Q8), 0))).2.2 == (3)) = true then
            if decide ((((List.length (getG x0 (List.getD x1 (Int.toNat s9) (([] : Q8), (([] : Q8), 0))).1)) : Nat) : Int) ≥ (((List.length (List.getD x1 (Int.toNat s9) (([] : Q8), (([] : Q8), 0))).2.1) : Nat) : Int)) = true then
              if (decide (0 ≤ (((List.length (List.getD x1 (Int.toNat s9) (([] : Q8), (([] : Q8), 0))).2.1) : Nat) : Int)) && decide ((((List.length (List.getD x1 (Int.toNat s9) (([] : Q8), (([] : Q8), 0))).2.1) : Nat) : Int) ≤ (((List.length (getG x0 (List.getD x1 (Int.toNat s9) (([] : Q8), (([] : Q8), 0))).1)) : Nat) : Int))) = true then
              if ((List.drop 0 (List.take (Int.toNat (((List.length (List.getD x1 (Int.toNat s9) (([] : Q8), (([] : Q8), 0))).2.1) : Nat) : Int)) (getG x0 (List.getD x1 (Int.toNat s9) (([] : Q8), (([] : Q8), 0))).1))) == (List.getD x1 (Int.toNat s9) (([] : Q8), (([] : Q8), 0))).2.1) = true then
                l21_0 m n x0 x1 s8 ((IntKind.wrap .i64 (s9 + (1))))
              else
                some (2, s9)
              else none
            else
              some (3, s9)
          else
            if ((List.getD x1 (Int.toNat s9) (([] : Q8), (([] : Q8), 0))).2.2 == (4)) = true then
              if decide ((((List.length (getG x0 (List.getD x1 (Int.toNat s9) (([] : Q8), (([] : Q8), 0))).1)) : Nat) : Int) ≥ (((List.length (List.getD x1 (Int.toNat s9) (([] : Q8), (([] : Q8), 0))).2.1) : Nat) : Int)) = true then
                if (decide (0 ≤ (((List.length (List.getD x1 (Int.toNat s9) (([] : Q8), (([] : Q8), 0))).2.1) : Nat) : Int)) && decide ((((List.length (List.getD x1 (Int.toNat s9) (([] : Q8), (([] : Q8), 0))).2.1) : Nat) : Int) ≤ (((List.length (getG x0 (List.getD x1 (Int.toNat s9) (([] : Q8), (([] : Q8), 0))).1)) : Nat) : Int))) = true then
                if ((List.drop 0 (List.take (Int.toNat (((List.length (List.getD x1 (Int.toNat s9) (([] : Q8), (([] : Q8), 0))).2.1) : Nat) : Int)) (getG x0 (List.getD x1 (Int.toNat s9) (([] : Q8), (([] : Q8), 0))).1))) == (List.getD x1 (Int.toNat s9) (([] : Q8), (([] : Q8), 0))).2.1) = true then
                  some (4, s9)
                else
                  l21_0 m n x0 x1 s8 ((IntKind.wrap .i64 (s9 + (1))))
                else none
              else
                l21_0 m n x0 x1 s8 ((IntKind.wrap .i64 (s9 + (1))))
            else
              some (5, s9)
      else none
      else none
      else none
    else
      some (6, s9)
def l21_0D : Nat × Int := (0, 0)
@[reducible] def l21_0R (m n : Nat) (x0 : Q5) (x1 : Q4) (s8 : Int) (s9 : Int) : Nat × Int := Option.getD (l21_0 m n x0 x1 s8 s9) l21_0D
def l21_0H (x0 : Q5) (x1 : Q4) (s8 : Int) (s9 : Int) : Env := ((.d (.sl (.pair .str .str) x0)) :: .top :: .top :: .top :: .top :: .top :: .top :: (.d (.sl (.pair .str (.pair .str (.int .i64))) x1)) :: (.d (.int .i64 s8)) :: (.d (.int .i64 s9)) :: tp8 [])
def l21_0B (x0 : Q5) (x1 : Q4) (s8 : Int) (s9 : Int) : Boxes := []
def l21_0E (x0 : Q5) (x1 : Q4) (s8 : Int) (s9 : Int) : Nat → AEx × Env × Boxes
  | 0 => (.ret, [(.d (.sl (.pair .str .str) x0)), .top, .top, .top, (.d (.bool false)), .top, (.ptr 0 0), (.d (.sl (.pair .str (.pair .str (.int .i64))) x1)), (.d (.int .i64 s8)), (.d (.int .i64 s9)), (.d (.bool (decide (s9 < s8)))), (.cptr [(.str (List.getD x1 (Int.toNat s9) (([] : Q8), (([] : Q8), 0))).1), (.str (List.getD x1 (Int.toNat s9) (([] : Q8), (([] : Q8), 0))).2.1), (.int .i64 (List.getD x1 (Int.toNat s9) (([] : Q8), (([] : Q8), 0))).2.2)] 0), (.agg [(.d (.str (List.getD x1 (Int.toNat s9) (([] : Q8), (([] : Q8), 0))).1)), (.d (.str (List.getD x1 (Int.toNat s9) (([] : Q8), (([] : Q8), 0))).2.1)), (.d (.int .i64 (List.getD x1 (Int.toNat s9) (([] : Q8), (([] : Q8), 0))).2.2))]), (.d (.sl (.pair .str .str) x0)), (.agg [(.d (.str (List.getD x1 (Int.toNat s9) (([] : Q8), (([] : Q8), 0))).1)), (.d (.str (List.getD x1 (Int.toNat s9) (([] : Q8), (([] : Q8), 0))).2.1)), (.d (.int .i64 (List.getD x1 (Int.toNat s9) (([] : Q8), (([] : Q8), 0))).2.2))]), (.d (.bool ((getG x0 (List.getD x1 (Int.toNat s9) (([] : Q8), (([] : Q8), 0))).1) == (List.getD x1 (Int.toNat s9) (([] : Q8), (([] : Q8), 0))).2.1))), (.d (.bool (!((getG x0 (List.getD x1 (Int.toNat s9) (([] : Q8), (([] : Q8), 0))).1) == (List.getD x1 (Int.toNat s9) (([] : Q8), (([] : Q8), 0))).2.1)))), .top], [(.cells [(.d (.str (List.getD x1 (Int.toNat s9) (([] : Q8), (([] : Q8), 0))).1)), (.d (.str (List.getD x1 (Int.toNat s9) (([] : Q8), (([] : Q8), 0))).2.1)), (.d (.int .i64 (List.getD x1 (Int.toNat s9) (([] : Q8), (([] : Q8), 0))).2.2))])])
  | 1 => (.ret, [(.d (.sl (.pair .str .str) x0)), .top, .top, .top, (.d (.bool false)), .top, (.ptr 0 0), (.d (.sl (.pair .str (.pair .str (.int .i64))) x1)), (.d (.int .i64 s8)), (.d (.int .i64 s9)), (.d (.bool (decide (s9 < s8)))), (.cptr [(.str (List.getD x1 (Int.toNat s9) (([] : Q8), (([] : Q8), 0))).1), (.str (List.getD x1 (Int.toNat s9) (([] : Q8), (([] : Q8), 0))).2.1), (.int .i64 (List.getD x1 (Int.toNat s9) (([] : Q8), (([] : Q8), 0))).2.2)] 0), (.agg [(.d (.str (List.getD x1 (Int.toNat s9) (([] : Q8), (([] : Q8), 0))).1)), (.d (.str (List.getD x1 (Int.toNat s9) (([] : Q8), (([] : Q8), 0))).2.1)), (.d (.int .i64 (List.getD x1 (Int.toNat s9) (([] : Q8), (([] : Q8), 0))).2.2))]), (.d (.sl (.pair .str .str) x0)), (.agg [(.d (.str (List.getD x1 (Int.toNat s9) (([] : Q8), (([] : Q8), 0))).1)), (.d (.str (List.getD x1 (Int.toNat s9) (([] : Q8), (([] : Q8), 0))).2.1)), (.d (.int .i64 (List.getD x1 (Int.toNat s9) (([] : Q8), (([] : Q8), 0))).2.2))]), (.d (.bool (!((getG x0 (List.getD x1 (Int.toNat s9) (([] : Q8), (([] : Q8), 0))).1) == (List.getD x1 (Int.toNat s9) (([] : Q8), (([] : Q8), 0))).2.1)))), (.d (.bool (!(!((getG x0 (List.getD x1 (Int.toNat s9) (([] : Q8), (([] : Q8), 0))).1) == (List.getD x1 (Int.toNat s9) (([] : Q8), (([] : Q8), 0))).2.1))))), .top], [(.cells [(.d (.str (List.getD x1 (Int.toNat s9) (([] : Q8), (([] : Q8), 0))).1)), (.d (.str (List.getD x1 (Int.toNat s9) (([] : Q8), (([] : Q8), 0))).2.1)), (.d (.int .i64 (List.getD x1 (Int.toNat s9) (([] : Q8), (([] : Q8), 0))).2.2))])])
  | 2 => (.ret, [(.d (.sl (.pair .str .str) x0)), .top, .top, .top, (.d (.bool false)), .top, (.ptr 0 0), (.d (.sl (.pair .str (.pair .str (.int .i64))) x1)), (.d (.int .i64 s8)), (.d (.int .i64 s9)), (.d (.bool (decide (s9 < s8)))), (.cptr [(.str (List.getD x1 (Int.toNat s9) (([] : Q8), (([] : Q8), 0))).1), (.str (List.getD x1 (Int.toNat s9) (([] : Q8), (([] : Q8), 0))).2.1), (.int .i64 (List.getD x1 (Int.toNat s9) (([] : Q8), (([] : Q8), 0))).2.2)] 0), (.agg [(.d (.str (List.getD x1 (Int.toNat s9) (([] : Q8), (([] : Q8), 0))).1)), (.d (.str (List.getD x1 (Int.toNat s9) (([] : Q8), (([] : Q8), 0))).2.1)), (.d (.int .i64 (List.getD x1 (Int.toNat s9) (([] : Q8), (([] : Q8), 0))).2.2))]), (.d (.sl (.pair .str .str) x0)), (.agg [(.d (.str (List.getD x1 (Int.toNat s9) (([] : Q8), (([] : Q8), 0))).1)), (.d (.str (List.getD x1 (Int.toNat s9) (([] : Q8), (([] : Q8), 0))).2.1)), (.d (.int .i64 (List.getD x1 (Int.toNat s9) (([] : Q8), (([] : Q8), 0))).2.2))]), (.d (.bool ((List.drop 0 (List.take (Int.toNat (((List.length (List.getD x1 (Int.toNat s9) (([] : Q8), (([] : Q8), 0))).2.1) : Nat) : Int)) (getG x0 (List.getD x1 (Int.toNat s9) (([] : Q8), (([] : Q8), 0))).1))) == (List.getD x1 (Int.toNat s9) (([] : Q8), (([] : Q8), 0))).2.1))), (.d (.bool (!((List.drop 0 (List.take (Int.toNat (((List.length (List.getD x1 (Int.toNat s9) (([] : Q8), (([] : Q8), 0))).2.1) : Nat) : Int)) (getG x0 (List.getD x1 (Int.toNat s9) (([] : Q8), (([] : Q8), 0))).1))) == (List.getD x1 (Int.toNat s9) (([] : Q8), (([] : Q8), 0))).2.1)))), .top], [(.cells [(.d (.str (List.getD x1 (Int.toNat s9) (([] : Q8), (([] : Q8), 0))).1)), (.d (.str (List.getD x1 (Int.toNat s9) (([] : Q8), (([] : Q8), 0))).2.1)), (.d (.int .i64 (List.getD x1 (Int.toNat s9) (([] : Q8), (([] : Q8), 0))).2.2))])])
  | 3 => (.ret, [(.d (.sl (.pair .str .str) x0)), .top, .top, .top, (.d (.bool false)), .top, (.ptr 0 0), (.d (.sl (.pair .str (.pair .str (.int .i64))) x1)), (.d (.int .i64 s8)), (.d (.int .i64 s9)), (.d (.bool (decide (s9 < s8)))), (.cptr [(.str (List.getD x1 (Int.toNat s9) (([] : Q8), (([] : Q8), 0))).1), (.str (List.getD x1 (Int.toNat s9) (([] : Q8), (([] : Q8), 0))).2.1), (.int .i64 (List.getD x1 (Int.toNat s9) (([] : Q8), (([] : Q8), 0))).2.2)] 0), (.agg [(.d (.str (List.getD x1 (Int.toNat s9) (([] : Q8), (([] : Q8), 0))).1)), (.d (.str (List.getD x1 (Int.toNat s9) (([] : Q8), (([] : Q8), 0))).2.1)), (.d (.int .i64 (List.getD x1 (Int.toNat s9) (([] : Q8), (([] : Q8), 0))).2.2))]), (.d (.sl (.pair .str .str) x0)), (.agg [(.d (.str (List.getD x1 (Int.toNat s9) (([] : Q8), (([] : Q8), 0))).1)), (.d (.str (List.getD x1 (Int.toNat s9) (([] : Q8), (([] : Q8), 0))).2.1)), (.d (.int .i64 (List.getD x1 (Int.toNat s9) (([] : Q8), (([] : Q8), 0))).2.2))]), (.d (.bool false)), (.d (.bool true)), .top], [(.cells [(.d (.str (List.getD x1 (Int.toNat s9) (([] : Q8), (([] : Q8), 0))).1)), (.d (.str (List.getD x1 (Int.toNat s9) (([] : Q8), (([] : Q8), 0))).2.1)), (.d (.int .i64 (List.getD x1 (Int.toNat s9) (([] : Q8), (([] : Q8), 0))).2.2))])])
  | 4 => (.ret, [(.d (.sl (.pair .str .str) x0)), .top, .top, .top, (.d (.bool false)), .top, (.ptr 0 0), (.d (.sl (.pair .str (.pair .str (.int .i64))) x1)), (.d (.int .i64 s8)), (.d (.int .i64 s9)), (.d (.bool (decide (s9 < s8)))), (.cptr [(.str (List.getD x1 (Int.toNat s9) (([] : Q8), (([] : Q8), 0))).1), (.str (List.getD x1 (Int.toNat s9) (([] : Q8), (([] : Q8), 0))).2.1), (.int .i64 (List.getD x1 (Int.toNat s9) (([] : Q8), (([] : Q8), 0))).2.2)] 0), (.agg [(.d (.str (List.getD x1 (Int.toNat s9) (([] : Q8), (([] : Q8), 0))).1)), (.d (.str (List.getD x1 (Int.toNat s9) (([] : Q8), (([] : Q8), 0))).2.1)), (.d (.int .i64 (List.getD x1 (Int.toNat s9) (([] : Q8), (([] : Q8), 0))).2.2))]), (.d (.sl (.pair .str .str) x0)), (.agg [(.d (.str (List.getD x1 (Int.toNat s9) (([] : Q8), (([] : Q8), 0))).1)), (.d (.str (List.getD x1 (Int.toNat s9) (([] : Q8), (([] : Q8), 0))).2.1)), (.d (.int .i64 (List.getD x1 (Int.toNat s9) (([] : Q8), (([] : Q8), 0))).2.2))]), (.d (.bool (!((List.drop 0 (List.take (Int.toNat (((List.length (List.getD x1 (Int.toNat s9) (([] : Q8), (([] : Q8), 0))).2.1) : Nat) : Int)) (getG x0 (List.getD x1 (Int.toNat s9) (([] : Q8), (([] : Q8), 0))).1))) == (List.getD x1 (Int.toNat s9) (([] : Q8), (([] : Q8), 0))).2.1)))), (.d (.bool (!(!((List.drop 0 (List.take (Int.toNat (((List.length (List.getD x1 (Int.toNat s9) (([] : Q8), (([] : Q8), 0))).2.1) : Nat) : Int)) (getG x0 (List.getD x1 (Int.toNat s9) (([] : Q8), (([] : Q8), 0))).1))) == (List.getD x1 (Int.toNat s9) (([] : Q8), (([] : Q8), 0))).2.1))))), .top], [(.cells [(.d (.str (List.getD x1 (Int.toNat s9) (([] : Q8), (([] : Q8), 0))).1)), (.d (.str (List.getD x1 (Int.toNat s9) (([] : Q8), (([] : Q8), 0))).2.1)), (.d (.int .i64 (List.getD x1 (Int.toNat s9) (([] : Q8), (([] : Q8), 0))).2.2))])])
  | 5 => (.ret, [(.d (.sl (.pair .str .str) x0)), .top, .top, .top, (.d (.bool false)), .top, (.ptr 0 0), (.d (.sl (.pair .str (.pair .str (.int .i64))) x1)), (.d (.int .i64 s8)), (.d (.int .i64 s9)), (.d (.bool (decide (s9 < s8)))), (.cptr [(.str (List.getD x1 (Int.toNat s9) (([] : Q8), (([] : Q8), 0))).1), (.str (List.getD x1 (Int.toNat s9) (([] : Q8), (([] : Q8), 0))).2.1), (.int .i64 (List.getD x1 (Int.toNat s9) (([] : Q8), (([] : Q8), 0))).2.2)] 0), (.agg [(.d (.str (List.getD x1 (Int.toNat s9) (([] : Q8), (([] : Q8), 0))).1)), (.d (.str (List.getD x1 (Int.toNat s9) (([] : Q8), (([] : Q8), 0))).2.1)), (.d (.int .i64 (List.getD x1 (Int.toNat s9) (([] : Q8), (([] : Q8), 0))).2.2))]), (.d (.sl (.pair .str .str) x0)), (.agg [(.d (.str (List.getD x1 (Int.toNat s9) (([] : Q8), (([] : Q8), 0))).1)), (.d (.str (List.getD x1 (Int.toNat s9) (([] : Q8), (([] : Q8), 0))).2.1)), (.d (.int .i64 (List.getD x1 (Int.toNat s9) (([] : Q8), (([] : Q8), 0))).2.2))]), (.d (.bool false)), (.d (.bool true)), .top], [(.cells [(.d (.str (List.getD x1 (Int.toNat s9) (([] : Q8), (([] : Q8), 0))).1)), (.d (.str (List.getD x1 (Int.toNat s9) (([] : Q8), (([] : Q8), 0))).2.1)), (.d (.int .i64 (List.getD x1 (Int.toNat s9) (([] : Q8), (([] : Q8), 0))).2.2))])])
  | _ => (.exit 0, [(.d (.sl (.pair .str .str) x0)), .top, .top, .top, .top, .top, .top, (.d (.sl (.pair .str (.pair .str (.int .i64))) x1)), (.d (.int .i64 s8)), (.d (.int .i64 s9)), (.d (.bool (decide (s9 < s8)))), .top, .top, .top, .top, .top, .top, .top], [])
noncomputable def lbl21_0 : AC := loopBody 897 body21
@[reducible] noncomputable def cb1 (m : Nat) := (evC byref (evCall F S2 (m + 24)) (m + 24) 0 (hds 21) lbl21_0)


theorem l21_0_step (m n : Nat) (ih : ∀ (x0 : Q5) (x1 : Q4) (s8 : Int) (s9 : Int) (q : Nat × Int), l21_0 m n x0 x1 s8 s9 = some q → (turns (hds 21 897) 0 897 (cb1 m) n (l21_0H x0 x1 s8 s9) (l21_0B x0 x1 s8 s9)).run = some (l21_0E (x0) (x1) (s8) (q.2) q.1)) (x0 : Q5) (x1 : Q4) (s8 : Int) (s9 : Int) (q : Nat × Int) (h : l21_0 m (n + 1) x0 x1 s8 s9 = some q) : (turns (hds 21 897) 0 897 (cb1 m) (n + 1) (l21_0H x0 x1 s8 s9) (l21_0B x0 x1 s8 s9)).run = some (l21_0E (x0) (x1) (s8) (q.2) q.1) := by
  rw [l21_0] at h
  refine ite_cases h (fun c0 h => ?_) (fun c0 h => ?_)
  · skip
    obtain ⟨c1, h⟩ := iY h
    obtain ⟨c2, h⟩ := iY h
    obtain ⟨c3, h⟩ := iY h
    refine ite_cases h (fun c4 h => ?_) (fun c4 h => ?_)
    · skip
      refine ite_cases h (fun c5 h => ?_) (fun c5 h => ?_)
      · skip
        have ih := ih _ _ _ _ q h
        refine turns_step ?_ ih
        exact M.run_of_path _ [tT, tT, tT, tT, tT, fF] _ _ (by kernel_rfl) (all_t c0 (all_t c1 (all_t c2 (all_t c3 (all_t c4 (all_nt c5 all_nil))))))
      · skip
        cases h
        refine turns_last (by simp) ?_
        exact M.run_of_path _ [tT, tT, tT, tT, tT, tT] _ _ (by kernel_rfl) (all_t c0 (all_t c1 (all_t c2 (all_t c3 (all_t c4 (all_nf c5 all_nil))))))
    · skip
      refine ite_cases h (fun c5 h => ?_) (fun c5 h => ?_)
      · skip
        refine ite_cases h (fun c6 h => ?_) (fun c6 h => ?_)
        · skip
          cases h
          refine turns_last (by simp) ?_
          exact M.run_of_path _ [tT, tT, tT, tT, fF, tT, tT] _ _ (by kernel_rfl) (all_t c0 (all_t c1 (all_t c2 (all_t c3 (all_f c4 (all_t c5 (all_nnt c6 all_nil)))))))
        · skip
          have ih := ih _ _ _ _ q h
          refine turns_step ?_ ih
          exact M.run_of_path _ [tT, tT, tT, tT, fF, tT, fF] _ _ (by kernel_rfl) (all_t c0 (all_t c1 (all_t c2 (all_t c3 (all_f c4 (all_t c5 (all_nnf c6 all_nil)))))))
      · skip
        refine ite_cases h (fun c6 h => ?_) (fun c6 h => ?_)
        · skip
          refine ite_cases h (fun c7 h => ?_) (fun c7 h => ?_)
          · skip
            obtain ⟨c11, h⟩ := iY h
            refine ite_cases h (fun c15 h => ?_) (fun c15 h => ?_)
            · skip
              have ih := ih _ _ _ _ q h
              refine turns_step ?_ ih
              exact M.run_of_path _ [tT, tT, tT, tT, fF, fF, tT, tT, tT, tT, tT, tT, tT, tT, tT, fF] _ _ (by kernel_rfl) (all_t c0 (all_t c1 (all_t c2 (all_t c3 (all_f c4 (all_f c5 (all_t c6 (all_t c7 (all_t c7 (all_t c7 (all_t c7 (all_t c11 (all_t c7 (all_t c7 (all_t c7 (all_nt c15 all_nil))))))))))))))))
            · skip
              cases h
              refine turns_last (by simp) ?_
              exact M.run_of_path _ [tT, tT, tT, tT, fF, fF, tT, tT, tT, tT, tT, tT, tT, tT, tT, tT] _ _ (by kernel_rfl) (all_t c0 (all_t c1 (all_t c2 (all_t c3 (all_f c4 (all_f c5 (all_t c6 (all_t c7 (all_t c7 (all_t c7 (all_t c7 (all_t c11 (all_t c7 (all_t c7 (all_t c7 (all_nf c15 all_nil))))))))))))))))
          · skip
            cases h
            refine turns_last (by simp) ?_
            exact M.run_of_path _ [tT, tT, tT, tT, fF, fF, tT, fF, fF, fF, fF, fF, fF, fF, tT] _ _ (by kernel_rfl) (all_t c0 (all_t c1 (all_t c2 (all_t c3 (all_f c4 (all_f c5 (all_t c6 (all_f c7 (all_f c7 (all_f c7 (all_f c7 (all_f c7 (all_f c7 (all_f c7 (all_t rfl all_nil)))))))))))))))
        · skip
          refine ite_cases h (fun c7 h => ?_) (fun c7 h => ?_)
          · skip
            refine ite_cases h (fun c8 h => ?_) (fun c8 h => ?_)
            · skip
              obtain ⟨c12, h⟩ := iY h
              refine ite_cases h (fun c16 h => ?_) (fun c16 h => ?_)
              · skip
                cases h
                refine turns_last (by simp) ?_
                exact M.run_of_path _ [tT, tT, tT, tT, fF, fF, fF, tT, tT, tT, tT, tT, tT, tT, tT, tT, tT] _ _ (by kernel_rfl) (all_t c0 (all_t c1 (all_t c2 (all_t c3 (all_f c4 (all_f c5 (all_f c6 (all_t c7 (all_t c8 (all_t c8 (all_t c8 (all_t c8 (all_t c12 (all_t c8 (all_t c8 (all_t c8 (all_nnt c16 all_nil)))))))))))))))))
              · skip
                have ih := ih _ _ _ _ q h
                refine turns_step ?_ ih
                exact M.run_of_path _ [tT, tT, tT, tT, fF, fF, fF, tT, tT, tT, tT, tT, tT, tT, tT, tT, fF] _ _ (by kernel_rfl) (all_t c0 (all_t c1 (all_t c2 (all_t c3 (all_f c4 (all_f c5 (all_f c6 (all_t c7 (all_t c8 (all_t c8 (all_t c8 (all_t c8 (all_t c12 (all_t c8 (all_t c8 (all_t c8 (all_nnf c16 all_nil)))))))))))))))))
            · skip
              have ih := ih _ _ _ _ q h
              refine turns_step ?_ ih
              exact M.run_of_path _ [tT, tT, tT, tT, fF, fF, fF, tT, fF, fF, fF, fF, fF, fF, fF, fF] _ _ (by kernel_rfl) (all_t c0 (all_t c1 (all_t c2 (all_t c3 (all_f c4 (all_f c5 (all_f c6 (all_t c7 (all_f c8 (all_f c8 (all_f c8 (all_f c8 (all_f c8 (all_f c8 (all_f c8 (all_f Bool.false_ne_true all_nil))))))))))))))))
          · skip
            cases h
            refine turns_last (by simp) ?_
            exact M.run_of_path _ [tT, tT, tT, tT, fF, fF, fF, fF, tT] _ _ (by kernel_rfl) (all_t c0 (all_t c1 (all_t c2 (all_t c3 (all_f c4 (all_f c5 (all_f c6 (all_f c7 (all_t rfl all_nil)))))))))
  · skip
    cases h
    refine turns_last (by simp) ?_
    exact M.run_of_path _ [fF] _ _ (by kernel_rfl) (all_f c0 all_nil)
theorem l21_0_ok (m : Nat) : ∀ (n : Nat) (x0 : Q5) (x1 : Q4) (s8 : Int) (s9 : Int) (q : Nat × Int), l21_0 m n x0 x1 s8 s9 = some q → (turns (hds 21 897) 0 897 (cb1 m) n (l21_0H x0 x1 s8 s9) (l21_0B x0 x1 s8 s9)).run = some (l21_0E (x0) (x1) (s8) (q.2) q.1)
  | 0, x0, x1, s8, s9, q, h => by cases h
  | n + 1, x0, x1, s8, s9, q, h => l21_0_step m n (l21_0_ok m n) x0 x1 s8 s9 q h

def p21 (m : Nat) (x0 : Q5) (x1 : Q4) : Option (Bool) :=
  if (Option.isSome (l21_0 m (m + 24) x0 x1 ((((List.length x1) : Nat) : Int)) 0)) = true then
  if ((l21_0R m (m + 24) x0 x1 ((((List.length x1) : Nat) : Int)) 0).1 == 0) = true then
    some (false)
  else
    if ((l21_0R m (m + 24) x0 x1 ((((List.length x1) : Nat) : Int)) 0).1 == 1) = true then
      some (false)
    else
      if ((l21_0R m (m + 24) x0 x1 ((((List.length x1) : Nat) : Int)) 0).1 == 2) = true then
        some (false)
      else
        if ((l21_0R m (m + 24) x0 x1 ((((List.length x1) : Nat) : Int)) 0).1 == 3) = true then
          some (false)
        else
          if ((l21_0R m (m + 24) x0 x1 ((((List.length x1) : Nat) : Int)) 0).1 == 4) = true then
            some (false)
          else
            if ((l21_0R m (m + 24) x0 x1 ((((List.length x1) : Nat) : Int)) 0).1 == 5) = true then
              some (false)
            else
              if ((l21_0R m (m + 24) x0 x1 ((((List.length x1) : Nat) : Int)) 0).1 == 6) = true then
              some (true)
              else none
  else none
theorem p21_ok (m : Nat) (x0 : Q5) (x1 : Q4) (q : Bool) (h : p21 m x0 x1 = some q) : ∃ r B1, (evCall F S2 (m + 25) 21 [(.d (.sl (.pair .str .str) x0)), (.d (.sl (.pair .str (.pair .str (.int .i64))) x1))] []).run = some (r, B1) ∧ 0 ≤ B1.length ∧ wkR B1 [] r (.d (.bool (q))) ∧ wkBs B1 [] 0 [] := by
  unfold p21 at h
  obtain ⟨c0, h⟩ := iY h
  refine ite_cases h (fun c1 h => ?_) (fun c1 h => ?_)
  · skip
    cases h
    refine ⟨(.d (.bool false)), [], runT_ok (LS := (fun k => if k = 897 then some (l21_0E x0 x1 (((((List.length x1) : Nat) : Int))) ((l21_0R m (m + 24) x0 x1 ((((List.length x1) : Nat) : Int)) 0).2) 0) else none)) (fn := fn21) (vis := [(897, l21_0H x0 x1 ((((List.length x1) : Nat) : Int)) 0, l21_0B x0 x1 ((((List.length x1) : Nat) : Int)) 0)]) (by kernel_rfl) rfl (by kernel_rfl) (M.run_of_path _ [] _ _ (by kernel_rfl) all_nil) ?_, by simp, (wkR.one (wkV.one (wk1.eq rfl))), trivial⟩
    intro p hp p2 hq
    rcases List.mem_cons.1 hp with rfl | hp
    · skip
      have h3 := l21_0_ok m (m + 24) x0 x1 ((((List.length x1) : Nat) : Int)) 0 _ (some_getD (d := l21_0D) c0)
      rw [eq_of_beq c1] at h3
      exact Eq.trans (Eq.mp (by kernel_rfl) h3) hq
    cases hp
  · skip
    refine ite_cases h (fun c2 h => ?_) (fun c2 h => ?_)
    · skip
      cases h
      refine ⟨(.d (.bool false)), [], runT_ok (LS := (fun k => if k = 897 then some (l21_0E x0 x1 (((((List.length x1) : Nat) : Int))) ((l21_0R m (m + 24) x0 x1 ((((List.length x1) : Nat) : Int)) 0).2) 1) else none)) (fn := fn21) (vis := [(897, l21_0H x0 x1 ((((List.length x1) : Nat) : Int)) 0, l21_0B x0 x1 ((((List.length x1) : Nat) : Int)) 0)]) (by kernel_rfl) rfl (by kernel_rfl) (M.run_of_path _ [] _ _ (by kernel_rfl) all_nil) ?_, by simp, (wkR.one (wkV.one (wk1.eq rfl))), trivial⟩
      intro p hp p2 hq
      rcases List.mem_cons.1 hp with rfl | hp
      · skip
        have h3 := l21_0_ok m (m + 24) x0 x1 ((((List.length x1) : Nat) : Int)) 0 _ (some_getD (d := l21_0D) c0)
        rw [eq_of_beq c2] at h3
        exact Eq.trans (Eq.mp (by kernel_rfl) h3) hq
      cases hp
    · skip
      refine ite_cases h (fun c3 h => ?_) (fun c3 h => ?_)
      · skip
        cases h
        refine ⟨(.d (.bool false)), [], runT_ok (LS := (fun k => if k = 897 then some (l21_0E x0 x1 (((((List.length x1) : Nat) : Int))) ((l21_0R m (m + 24) x0 x1 ((((List.length x1) : Nat) : Int)) 0).2) 2) else none)) (fn := fn21) (vis := [(897, l21_0H x0 x1 ((((List.length x1) : Nat) : Int)) 0, l21_0B x0 x1 ((((List.length x1) : Nat) : Int)) 0)]) (by kernel_rfl) rfl (by kernel_rfl) (M.run_of_path _ [] _ _ (by kernel_rfl) all_nil) ?_, by simp, (wkR.one (wkV.one (wk1.eq rfl))), trivial⟩
        intro p hp p2 hq
        rcases List.mem_cons.1 hp with rfl | hp
        · skip
          have h3 := l21_0_ok m (m + 24) x0 x1 ((((List.length x1) : Nat) : Int)) 0 _ (some_getD (d := l21_0D) c0)
          rw [eq_of_beq c3] at h3
          exact Eq.trans (Eq.mp (by kernel_rfl) h3) hq
        cases hp
      · skip
        refine ite_cases h (fun c4 h => ?_) (fun c4 h => ?_)
        · skip
          cases h
          refine ⟨(.d (.bool false)), [], runT_ok (LS := (fun k => if k = 897 then some (l21_0E x0 x1 (((((List.length x1) : Nat) : Int))) ((l21_0R m (m + 24) x0 x1 ((((List.length x1) : Nat) : Int)) 0).2) 3) else none)) (fn := fn21) (vis := [(897, l21_0H x0 x1 ((((List.length x1) : Nat) : Int)) 0, l21_0B x0 x1 ((((List.length x1) : Nat) : Int)) 0)]) (by kernel_rfl) rfl (by kernel_rfl) (M.run_of_path _ [] _ _ (by kernel_rfl) all_nil) ?_, by simp, (wkR.one (wkV.one (wk1.eq rfl))), trivial⟩
          intro p hp p2 hq
          rcases List.mem_cons.1 hp with rfl | hp
          · skip
            have h3 := l21_0_ok m (m + 24) x0 x1 ((((List.length x1) : Nat) : Int)) 0 _ (some_getD (d := l21_0D) c0)
            rw [eq_of_beq c4] at h3
            exact Eq.trans (Eq.mp (by kernel_rfl) h3) hq
          cases hp
        · skip
          refine ite_cases h (fun c5 h => ?_) (fun c5 h => ?_)
          · skip
            cases h
            refine ⟨(.d (.bool false)), [], runT_ok (LS := (fun k => if k = 897 then some (l21_0E x0 x1 (((((List.length x1) : Nat) : Int))) ((l21_0R m (m + 24) x0 x1 ((((List.length x1) : Nat) : Int)) 0).2) 4) else none)) (fn := fn21) (vis := [(897, l21_0H x0 x1 ((((List.length x1) : Nat) : Int)) 0, l21_0B x0 x1 ((((List.length x1) : Nat) : Int)) 0)]) (by kernel_rfl) rfl (by kernel_rfl) (M.run_of_path _ [] _ _ (by kernel_rfl) all_nil) ?_, by simp, (wkR.one (wkV.one (wk1.eq rfl))), trivial⟩
            intro p hp p2 hq
            rcases List.mem_cons.1 hp with rfl | hp
            · skip
              have h3 := l21_0_ok m (m + 24) x0 x1 ((((List.length x1) : Nat) : Int)) 0 _ (some_getD (d := l21_0D) c0)
              rw [eq_of_beq c5] at h3
              exact Eq.trans (Eq.mp (by kernel_rfl) h3) hq
            cases hp
          · skip
            refine ite_cases h (fun c6 h => ?_) (fun c6 h => ?_)
            · skip
              cases h
              refine ⟨(.d (.bool false)), [], runT_ok (LS := (fun k => if k = 897 then some (l21_0E x0 x1 (((((List.length x1) : Nat) : Int))) ((l21_0R m (m + 24) x0 x1 ((((List.length x1) : Nat) : Int)) 0).2) 5) else none)) (fn := fn21) (vis := [(897, l21_0H x0 x1 ((((List.length x1) : Nat) : Int)) 0, l21_0B x0 x1 ((((List.length x1) : Nat) : Int)) 0)]) (by kernel_rfl) rfl (by kernel_rfl) (M.run_of_path _ [] _ _ (by kernel_rfl) all_nil) ?_, by simp, (wkR.one (wkV.one (wk1.eq rfl))), trivial⟩
              intro p hp p2 hq
              rcases List.mem_cons.1 hp with rfl | hp
              · skip
                have h3 := l21_0_ok m (m + 24) x0 x1 ((((List.length x1) : Nat) : Int)) 0 _ (some_getD (d := l21_0D) c0)
                rw [eq_of_beq c6] at h3
                exact Eq.trans (Eq.mp (by kernel_rfl) h3) hq
              cases hp
            · skip
              obtain ⟨c7, h⟩ := iY h
              cases h
              refine ⟨(.d (.bool true)), [], runT_ok (LS := (fun k => if k = 897 then some (l21_0E x0 x1 (((((List.length x1) : Nat) : Int))) ((l21_0R m (m + 24) x0 x1 ((((List.length x1) : Nat) : Int)) 0).2) 6) else none)) (fn := fn21) (vis := [(897, l21_0H x0 x1 ((((List.length x1) : Nat) : Int)) 0, l21_0B x0 x1 ((((List.length x1) : Nat) : Int)) 0)]) (by kernel_rfl) rfl (by kernel_rfl) (M.run_of_path _ [] _ _ (by kernel_rfl) all_nil) ?_, by simp, (wkR.one (wkV.one (wk1.eq rfl))), trivial⟩
              intro p hp p2 hq
              rcases List.mem_cons.1 hp with rfl | hp
              · skip
                have h3 := l21_0_ok m (m + 24) x0 x1 ((((List.length x1) : Nat) : Int)) 0 _ (some_getD (d := l21_0D) c0)
                rw [eq_of_beq c7] at h3
                exact Eq.trans (Eq.mp (by kernel_rfl) h3) hq
              cases hp

def preB (v p : Q8) : Bool := decide (p.length ≤ v.length) && (v.take p.length == p)
def holdsG (l : LB) (m : MT) : Bool := if m.2.2 = 1 then getG l m.1 == m.2.1 else if m.2.2 = 2 then !(getG l m.1 == m.2.1) else if m.2.2 = 3 then preB (getG l m.1) m.2.1 else if m.2.2 = 4 then !preB (getG l m.1) m.2.1 else false
def allG (l : LB) (ms : List MT) : Bool := ms.all (holdsG l)
theorem all_loop (m : Nat) (l : LB) (ms : List MT) (hl : l.length ≤ 1000000) (hb : ms.length ≤ 9223372036854775807) : ∀ (n k : Nat), k ≤ ms.length → ms.length - k < n → ∃ e j, l21_0 m n l ms (ms.length : Nat) (k : Nat) = some (e, j) ∧ ((e = 6 ∧ allG l (ms.drop k) = true) ∨ ((e = 0 ∨ e = 1 ∨ e = 2 ∨ e = 3 ∨ e = 4 ∨ e = 5) ∧ allG l (ms.drop k) = false))
  | 0, k, _, h => by omega
  | n + 1, k, h1, h2 => by
    rw [l21_0]
    by_cases hk : k < ms.length
    · have e1 : decide (((k : Nat) : Int) < (((List.length ms) : Nat) : Int)) = true := decide_eq_true (by omega)
      have e2 : decide ((0 : Int) ≤ ((k : Nat) : Int)) = true := decide_eq_true (by omega)
      have e3 : decide (List.length l ≤ 1000000) = true := decide_eq_true hl
      have e7 : IntKind.wrap .i64 (((k : Nat) : Int) + (1)) = ((k + 1 : Nat) : Int) := by rw [wrap_id (by omega) (by omega)]; rfl
      rw [drop_getD ms k (([] : Q8), (([] : Q8), 0)) hk]
      simp only [show Int.toNat ((k : Nat) : Int) = k from rfl, e1, e2, e3, e7, ↓reduceIte]
      have go := all_loop m l ms hl hb n (k + 1) (by omega) (by omega)
      generalize ms.getD k (([] : Q8), (([] : Q8), 0)) = q at *
      have hcons : allG l (q :: ms.drop (k + 1)) = (holdsG l q && allG l (ms.drop (k + 1))) := rfl
      rw [hcons]
      have yes : holdsG l q = true → ∃ e j, l21_0 m n l ms (ms.length : Nat) ((k + 1 : Nat) : Int) = some (e, j) ∧ ((e = 6 ∧ (holdsG l q && allG l (ms.drop (k + 1))) = true) ∨ ((e = 0 ∨ e = 1 ∨ e = 2 ∨ e = 3 ∨ e = 4 ∨ e = 5) ∧ (holdsG l q && allG l (ms.drop (k + 1))) = false)) := by
        intro h; rw [h, Bool.true_and]; exact go
      have no : ∀ e : Nat, (e = 0 ∨ e = 1 ∨ e = 2 ∨ e = 3 ∨ e = 4 ∨ e = 5) → holdsG l q = false → ∃ e' j, (some (e, ((k : Nat) : Int)) : Option (Nat × Int)) = some (e', j) ∧ ((e' = 6 ∧ (holdsG l q && allG l (ms.drop (k + 1))) = true) ∨ ((e' = 0 ∨ e' = 1 ∨ e' = 2 ∨ e' = 3 ∨ e' = 4 ∨ e' = 5) ∧ (holdsG l q && allG l (ms.drop (k + 1))) = false)) := by
        intro e he h; exact ⟨e, _, rfl, .inr ⟨he, by rw [h]; rfl⟩⟩
      generalize allG l (ms.drop (k + 1)) = rest at *
      have hv : holdsG l q = if q.2.2 = 1 then getG l q.1 == q.2.1 else if q.2.2 = 2 then !(getG l q.1 == q.2.1) else if q.2.2 = 3 then preB (getG l q.1) q.2.1 else if q.2.2 = 4 then !preB (getG l q.1) q.2.1 else false := rfl
      generalize holdsG l q = hq at *
      generalize getG l q.1 = v at *
      obtain ⟨nm, p, kd⟩ := q
      simp only at hv ⊢
      by_cases k1 : kd = 1
      · subst k1
        have d1 : ((1 : Int) == (1)) = true := rfl
        simp only [d1, ↓reduceIte] at hv ⊢
        by_cases hc : (v == p) = true
        · rw [if_pos hc]; exact yes (by rw [hv, hc])
        · rw [if_neg hc]; exact no 0 (by simp) (by rw [hv]; simpa using hc)
      · have d1 : (kd == (1)) = false := by simpa using k1
        rw [if_neg k1] at hv
        simp only [d1, ↓reduceIte, Bool.false_eq_true]
        by_cases k2 : kd = 2
        · subst k2
          have d2 : ((2 : Int) == (2)) = true := rfl
          simp only [d2, ↓reduceIte] at hv ⊢
          by_cases hc : (v == p) = true
          · rw [if_pos hc]; exact no 1 (by simp) (by rw [hv, hc]; rfl)
          · rw [if_neg hc]; exact yes (by rw [hv]; simpa using hc)
        · have d2 : (kd == (2)) = false := by simpa using k2
          rw [if_neg k2] at hv
          simp only [d2, ↓reduceIte, Bool.false_eq_true]
          by_cases hlen : p.length ≤ v.length
          · have f1 : decide ((((List.length v) : Nat) : Int) ≥ (((List.length p) : Nat) : Int)) = true := decide_eq_true (by omega)
            have f2 : (decide (0 ≤ (((List.length p) : Nat) : Int)) && decide ((((List.length p) : Nat) : Int) ≤ (((List.length v) : Nat) : Int))) = true := by simp; omega
            have f3 : List.drop 0 (List.take (Int.toNat (((List.length p) : Nat) : Int)) v) = v.take p.length := by rw [Int.toNat_natCast, List.drop_zero]
            have f4 : preB v p = (v.take p.length == p) := by unfold preB; rw [show decide (p.length ≤ v.length) = true from decide_eq_true hlen, Bool.true_and]
            rw [f4] at hv
            simp only [f1, f2, f3, ↓reduceIte]
            by_cases k3 : kd = 3
            · subst k3
              have d3 : ((3 : Int) == (3)) = true := rfl
              simp only [d3, ↓reduceIte] at hv ⊢
              by_cases hc : (v.take p.length == p) = true
              · rw [if_pos hc]; exact yes (by rw [hv, hc])
              · rw [if_neg hc]; exact no 2 (by simp) (by rw [hv]; simpa using hc)
            · have d3 : (kd == (3)) = false := by simpa using k3
              rw [if_neg k3] at hv
              simp only [d3, ↓reduceIte, Bool.false_eq_true]
              by_cases k4 : kd = 4
              · subst k4
                have d4 : ((4 : Int) == (4)) = true := rfl
                simp only [d4, ↓reduceIte] at hv ⊢
                by_cases hc : (v.take p.length == p) = true
                · rw [if_pos hc]; exact no 4 (by simp) (by rw [hv, hc]; rfl)
                · rw [if_neg hc]; exact yes (by rw [hv]; simpa using hc)
              · have d4 : (kd == (4)) = false := by simpa using k4
                rw [if_neg k4] at hv
                simp only [d4, ↓reduceIte, Bool.false_eq_true]
                exact no 5 (by simp) hv
          · have f1 : decide ((((List.length v) : Nat) : Int) ≥ (((List.length p) : Nat) : Int)) = false := decide_eq_false (by omega)
            have f4 : preB v p = false := by unfold preB; rw [show decide (p.length ≤ v.length) = false from decide_eq_false hlen, Bool.false_and]
            rw [f4] at hv
            simp only [f1, ↓reduceIte, Bool.false_eq_true]
            by_cases k3 : kd = 3
            · subst k3
              have d3 : ((3 : Int) == (3)) = true := rfl
              simp only [d3, ↓reduceIte] at hv ⊢
              exact no 3 (by simp) hv
            · have d3 : (kd == (3)) = false := by simpa using k3
              rw [if_neg k3] at hv
              simp only [d3, ↓reduceIte, Bool.false_eq_true]
              by_cases k4 : kd = 4
              · subst k4
                have d4 : ((4 : Int) == (4)) = true := rfl
                simp only [d4, ↓reduceIte] at hv ⊢
                exact yes hv
              · have d4 : (kd == (4)) = false := by simpa using k4
                rw [if_neg k4] at hv
                simp only [d4, ↓reduceIte, Bool.false_eq_true]
                exact no 5 (by simp) hv
    · have e1 : decide (((k : Nat) : Int) < (((List.length ms) : Nat) : Int)) = false := decide_eq_false (by omega)
      rw [e1, if_neg (by simp), List.drop_eq_nil_of_le (by omega)]
      exact ⟨6, _, rfl, .inl ⟨rfl, rfl⟩⟩
theorem all21 (l : LB) (ms : List MT) (h : decide (List.length l ≤ 1000000 ∧ List.length ms ≤ 9223372036854775807) = true) : ∃ m, p21 m l ms = some (allG l ms) := by
  have h := of_decide_eq_true h
  refine ⟨ms.length, ?_⟩
  unfold p21
  obtain ⟨e, j, hr, hc⟩ := all_loop ms.length l ms h.1 h.2 (ms.length + 24) 0 (by omega) (by omega)
  simp only [Int.natCast_zero, List.drop_zero] at hr hc
  simp only [l21_0R, hr, Option.isSome_some, Option.getD_some, ↓reduceIte]
  rcases hc with ⟨rfl, hc⟩ | ⟨rfl | rfl | rfl | rfl | rfl | rfl, hc⟩ <;> rw [hc] <;> rfl
def s21 : List AV → Boxes → M (AV × Boxes) := normS [.val (.sl (.pair .str .str)), .val (.sl (.pair .str (.pair .str (.int .i64))))] [] fun xs B => match xs, B with
  | [(.d (.sl (.pair .str .str) c1)), (.d (.sl (.pair .str (.pair .str (.int .i64))) c2))], [] => .chk (decide (List.length c1 ≤ 1000000 ∧ List.length c2 ≤ 9223372036854775807)) (.ret ((.d (.bool (allG c1 c2))), []))
  | _, _ => .fail
theorem s21_at : CallAt Tryd.prog 21 s21 := by
  refine CallAt.norm (CallAt.weakE (g := fun n => evCall F S2 n 21) (fun n => evCall_atH mixed kinds hds S2 S2_ok n 21) fun xs B r' B' hr => ?_) _ _
  split at hr
  · rename_i c1 c2
    obtain ⟨hp, hr⟩ := (M.run_chk _ _ _).1 hr
    simp only [M.run, Option.some.injEq, Prod.mk.injEq] at hr
    obtain ⟨rfl, rfl⟩ := hr
    obtain ⟨m, hm⟩ := all21 c1 c2 hp
    obtain ⟨r, B1, h1, h2, h3, h4⟩ := p21_ok m c1 c2 _ hm
    exact ⟨m + 25, r, B1, h1, by simp, h2, h3, h4⟩
  · simp [M.run] at hr
noncomputable def S3 : FuncId → Option (List AV → Boxes → M (AV × Boxes)) := fun f => if f = 21 then some s21 else S2 f
theorem S3_ok : ∀ f s, S3 f = some s → CallAt Tryd.prog f s := by
  intro f s h
  unfold S3 at h
  split at h
  · rename_i e; subst e; cases h; exact s21_at
  · exact S2_ok f s h

end Go.Proofs.YtghkbjflejgieaaDoor.Dec
namespace Go.Proofs.YtghkbjflejgieaaDoor.Dec
open Go.Ev
set_option linter.unusedVariables false
set_option linter.unusedSimpArgs false
set_option maxRecDepth 100000
set_option maxHeartbeats 20000000
noncomputable def fn39 : AFn := (F 39).getD ⟨0, [], .bad, false, false, noHd⟩
noncomputable def body39 : AC := fn39.body
def p39 (m : Nat) (x0 : List Int) (x1 : Int) : Option (Int) :=
  if ((((List.length x0) : Nat) : Int) == (0)) = true then
    some ((0))
  else
    if decide ((((List.length x0) : Nat) : Int) = 0) = true then
      none
    else
      if decide (0 ≤ (Int.tmod x1 (((List.length x0) : Nat) : Int))) = true then
      if decide ((Int.tmod x1 (((List.length x0) : Nat) : Int)) < (((List.length x0) : Nat) : Int)) = true then
      some ((List.getD x0 (Int.toNat (Int.tmod x1 (((List.length x0) : Nat) : Int))) 0))
      else none
      else none
theorem p39_ok (m : Nat) (x0 : List Int) (x1 : Int) (q : Int) (h : p39 m x0 x1 = some q) : ∃ r B1, (evCall F S3 (m + 25) 39 [(.d (.sl (.int .i64) x0)), (.d (.int .i64 x1))] []).run = some (r, B1) ∧ 0 ≤ B1.length ∧ wkR B1 [] r (.d (.int .i64 q)) ∧ wkBs B1 [] 0 [] := by
  unfold p39 at h
  refine ite_cases h (fun c0 h => ?_) (fun c0 h => ?_)
  · skip
    cases h
    refine ⟨(.d (.int .i64 (0))), [], runT_ok (LS := (fun k => none)) (fn := fn39) (vis := []) (by kernel_rfl) rfl (by kernel_rfl) (M.run_of_path _ [tT] _ _ (by kernel_rfl) (all_t c0 all_nil)) ?_, by simp, (wkR.one (wkV.one (wk1.eq rfl))), trivial⟩
    intro p hp; cases hp
  · skip
    refine ite_cases h (fun _ h => by cases h) (fun c1 h => ?_)
    obtain ⟨c2, h⟩ := iY h
    obtain ⟨c3, h⟩ := iY h
    cases h
    refine ⟨(.d (.int .i64 (List.getD x0 (Int.toNat (Int.tmod x1 (((List.length x0) : Nat) : Int))) 0))), [], runT_ok (LS := (fun k => none)) (fn := fn39) (vis := []) (by kernel_rfl) rfl (by kernel_rfl) (M.run_of_path _ [fF, tT, tT, tT] _ _ (by kernel_rfl) (all_f c0 (all_nf c1 (all_t c2 (all_t c3 all_nil))))) ?_, by simp, (wkR.one (wkV.one (wk1.eq rfl))), trivial⟩
    intro p hp; cases hp

def pickPre (l : List Int) (i : Int) : Bool := decide (0 ≤ i ∧ i ≤ 1000)
def pickG (l : List Int) (i : Int) : Int := if l = [] then 0 else l.getD (Int.toNat (Int.tmod i (((List.length l) : Nat) : Int))) 0
theorem pick39 (l : List Int) (i : Int) (h : pickPre l i = true) : ∃ m, p39 m l i = some (pickG l i) := by
  have h := of_decide_eq_true h
  refine ⟨0, ?_⟩
  unfold p39 pickG
  by_cases h0 : l = []
  · subst h0; rfl
  · have hl : 0 < l.length := by cases l <;> simp_all
    have e1 : ((((List.length l) : Nat) : Int) == (0)) = false := by rw [beq_eq_false_iff_ne]; omega
    have e2 : decide ((((List.length l) : Nat) : Int) = 0) = false := decide_eq_false (by omega)
    have t1 := Int.tmod_nonneg (((List.length l) : Nat) : Int) h.1
    have t2 := Int.tmod_lt_of_pos i (show (0 : Int) < (((List.length l) : Nat) : Int) by omega)
    have e3 : decide (0 ≤ (Int.tmod i (((List.length l) : Nat) : Int))) = true := decide_eq_true t1
    have e4 : decide ((Int.tmod i (((List.length l) : Nat) : Int)) < (((List.length l) : Nat) : Int)) = true := decide_eq_true t2
    rw [e1, e2, if_neg (by simp), if_neg (by simp), if_pos e3, if_pos e4, if_neg h0]
def s39 : List AV → Boxes → M (AV × Boxes) := normS [.val (.sl (.int .i64)), .val (.int .i64)] [] fun xs B => match xs, B with
  | [(.d (.sl (.int .i64) c1)), (.d (.int .i64 c2))], [] => .chk (pickPre c1 c2) (.ret ((.d (.int .i64 (pickG c1 c2))), []))
  | _, _ => .fail
theorem s39_at : CallAt Tryd.prog 39 s39 := by
  refine CallAt.norm (CallAt.weakE (g := fun n => evCall F S3 n 39) (fun n => evCall_atH mixed kinds hds S3 S3_ok n 39) fun xs B r' B' hr => ?_) _ _
  split at hr
  · rename_i c1 c2
    obtain ⟨hp, hr⟩ := (M.run_chk _ _ _).1 hr
    simp only [M.run, Option.some.injEq, Prod.mk.injEq] at hr
    obtain ⟨rfl, rfl⟩ := hr
    obtain ⟨m, hm⟩ := pick39 c1 c2 hp
    obtain ⟨r, B1, h1, h2, h3, h4⟩ := p39_ok m c1 c2 _ hm
    exact ⟨m + 25, r, B1, h1, by simp, h2, h3, h4⟩
  · simp [M.run] at hr
noncomputable def S4 : FuncId → Option (List AV → Boxes → M (AV × Boxes)) := fun f => if f = 39 then some s39 else S3 f
theorem S4_ok : ∀ f s, S4 f = some s → CallAt Tryd.prog f s := by
  intro f s h
  unfold S4 at h
  split at h
  · rename_i e; subst e; cases h; exact s39_at
  · exact S3_ok f s h

end Go.Proofs.YtghkbjflejgieaaDoor.Dec
namespace Go.Proofs.YtghkbjflejgieaaDoor.Dec
open Go.Ev
set_option linter.unusedVariables false
set_option linter.unusedSimpArgs false
set_option maxRecDepth 100000
set_option maxHeartbeats 20000000
noncomputable def fn15 : AFn := (F 15).getD ⟨0, [], .bad, false, false, noHd⟩
noncomputable def body15 : AC := fn15.body
noncomputable def lbu15_0 : AC := loopBody 3610 body15
@[reducible] noncomputable def cb2 (m : Nat) := (evC byref (evCall F S4 (m + 24)) (m + 24) 0 (hds 15) lbu15_0)
def p15 (m : Nat) (x0 : (List Int) × (List Int)) : Option ((Q5)) :=
  if decide (0 < (((List.length x0.1) : Nat) : Int)) = true then
    if ((IntKind.wrap .i64 ((((BitVec.ofInt 64 (List.getD x0.1 0 0) &&& BitVec.ofInt 64 (1)).toNat : Nat) : Int))) == (1)) = true then
      if pickPre x0.2 (0) = true then
      if decide (0 ≤ (withinI (pickG x0.2 (0)) (0) (7))) = true then
      if decide ((withinI (pickG x0.2 (0)) (0) (7)) < 8) = true then
      if decide (1 < (((List.length x0.1) : Nat) : Int)) = true then
        if ((IntKind.wrap .i64 ((((BitVec.ofInt 64 (List.getD x0.1 1 0) &&& BitVec.ofInt 64 (1)).toNat : Nat) : Int))) == (1)) = true then
          if pickPre x0.2 (1) = true then
          if decide (0 ≤ (withinI (pickG x0.2 (1)) (0) (7))) = true then
          if decide ((withinI (pickG x0.2 (1)) (0) (7)) < 8) = true then
          if decide (2 < (((List.length x0.1) : Nat) : Int)) = true then
            if ((IntKind.wrap .i64 ((((BitVec.ofInt 64 (List.getD x0.1 2 0) &&& BitVec.ofInt 64 (1)).toNat : Nat) : Int))) == (1)) = true then
              if pickPre x0.2 (2) = true then
              if decide (0 ≤ (withinI (pickG x0.2 (2)) (0) (7))) = true then
              if decide ((withinI (pickG x0.2 (2)) (0) (7)) < 8) = true then
              some ([(([97] : Q8), (List.getD [([120] : Q8), ([121] : Q8), ([120, 121] : Q8), ([49] : Q8), ([34] : Q8), ([92] : Q8), ([123, 125] : Q8), ([122, 32, 122] : Q8)] (Int.toNat (withinI (pickG x0.2 (0)) (0) (7))) ([] : Q8))), (([98] : Q8), (List.getD [([120] : Q8), ([121] : Q8), ([120, 121] : Q8), ([49] : Q8), ([34] : Q8), ([92] : Q8), ([123, 125] : Q8), ([122, 32, 122] : Q8)] (Int.toNat (withinI (pickG x0.2 (1)) (0) (7))) ([] : Q8))), (([99] : Q8), (List.getD [([120] : Q8), ([121] : Q8), ([120, 121] : Q8), ([49] : Q8), ([34] : Q8), ([92] : Q8), ([123, 125] : Q8), ([122, 32, 122] : Q8)] (Int.toNat (withinI (pickG x0.2 (2)) (0) (7))) ([] : Q8)))])
              else none
              else none
              else none
            else
              some ([(([97] : Q8), (List.getD [([120] : Q8), ([121] : Q8), ([120, 121] : Q8), ([49] : Q8), ([34] : Q8), ([92] : Q8), ([123, 125] : Q8), ([122, 32, 122] : Q8)] (Int.toNat (withinI (pickG x0.2 (0)) (0) (7))) ([] : Q8))), (([98] : Q8), (List.getD [([120] : Q8), ([121] : Q8), ([120, 121] : Q8), ([49] : Q8), ([34] : Q8), ([92] : Q8), ([123, 125] : Q8), ([122, 32, 122] : Q8)] (Int.toNat (withinI (pickG x0.2 (1)) (0) (7))) ([] : Q8)))])
          else
            some ([(([97] : Q8), (List.getD [([120] : Q8), ([121] : Q8), ([120, 121] : Q8), ([49] : Q8), ([34] : Q8), ([92] : Q8), ([123, 125] : Q8), ([122, 32, 122] : Q8)] (Int.toNat (withinI (pickG x0.2 (0)) (0) (7))) ([] : Q8))), (([98] : Q8), (List.getD [([120] : Q8), ([121] : Q8), ([120, 121] : Q8), ([49] : Q8), ([34] : Q8), ([92] : Q8), ([123, 125] : Q8), ([122, 32, 122] : Q8)] (Int.toNat (withinI (pickG x0.2 (1)) (0) (7))) ([] : Q8)))])
          else none
          else none
          else none
        else
          if decide (2 < (((List.length x0.1) : Nat) : Int)) = true then
            if ((IntKind.wrap .i64 ((((BitVec.ofInt 64 (List.getD x0.1 2 0) &&& BitVec.ofInt 64 (1)).toNat : Nat) : Int))) == (1)) = true then
              if pickPre x0.2 (2) = true then
              if decide (0 ≤ (withinI (pickG x0.2 (2)) (0) (7))) = true then
              if decide ((withinI (pickG x0.2 (2)) (0) (7)) < 8) = true then
              some ([(([97] : Q8), (List.getD [([120] : Q8), ([121] : Q8), ([120, 121] : Q8), ([49] : Q8), ([34] : Q8), ([92] : Q8), ([123, 125] : Q8), ([122, 32, 122] : Q8)] (Int.toNat (withinI (pickG x0.2 (0)) (0) (7))) ([] : Q8))), (([99] : Q8), (List.getD [([120] : Q8), ([121] : Q8), ([120, 121] : Q8), ([49] : Q8), ([34] : Q8), ([92] : Q8), ([123, 125] : Q8), ([122, 32, 122] : Q8)] (Int.toNat (withinI (pickG x0.2 (2)) (0) (7))) ([] : Q8)))])
              else none
              else none
              else none
            else
              some ([(([97] : Q8), (List.getD [([120] : Q8), ([121] : Q8), ([120, 121] : Q8), ([49] : Q8), ([34] : Q8), ([92] : Q8), ([123, 125] : Q8), ([122, 32, 122] : Q8)] (Int.toNat (withinI (pickG x0.2 (0)) (0) (7))) ([] : Q8)))])
          else
            some ([(([97] : Q8), (List.getD [([120] : Q8), ([121] : Q8), ([120, 121] : Q8), ([49] : Q8), ([34] : Q8), ([92] : Q8), ([123, 125] : Q8), ([122, 32, 122] : Q8)] (Int.toNat (withinI (pickG x0.2 (0)) (0) (7))) ([] : Q8)))])
      else
        if decide (2 < (((List.length x0.1) : Nat) : Int)) = true then
          if ((IntKind.wrap .i64 ((((BitVec.ofInt 64 (List.getD x0.1 2 0) &&& BitVec.ofInt 64 (1)).toNat : Nat) : Int))) == (1)) = true then
            if pickPre x0.2 (2) = true then
            if decide (0 ≤ (withinI (pickG x0.2 (2)) (0) (7))) = true then
            if decide ((withinI (pickG x0.2 (2)) (0) (7)) < 8) = true then
            some ([(([97] : Q8), (List.getD [([120] : Q8), ([121] : Q8), ([120, 121] : Q8), ([49] : Q8), ([34] : Q8), ([92] : Q8), ([123, 125] : Q8), ([122, 32, 122] : Q8)] (Int.toNat (withinI (pickG x0.2 (0)) (0) (7))) ([] : Q8))), (([99] : Q8), (List.getD [([120] : Q8), ([121] : Q8), ([120, 121] : Q8), ([49] : Q8), ([34] : Q8), ([92] : Q8), ([123, 125] : Q8), ([122, 32, 122] : Q8)] (Int.toNat (withinI (pickG x0.2 (2)) (0) (7))) ([] : Q8)))])
            else none
            else none
            else none
          else
            some ([(([97] : Q8), (List.getD [([120] : Q8), ([121] : Q8), ([120, 121] : Q8), ([49] : Q8), ([34] : Q8), ([92] : Q8), ([123, 125] : Q8), ([122, 32, 122] : Q8)] (Int.toNat (withinI (pickG x0.2 (0)) (0) (7))) ([] : Q8)))])
        else
          some ([(([97] : Q8), (List.getD [([120] : Q8), ([121] : Q8), ([120, 121] : Q8), ([49] : Q8), ([34] : Q8), ([92] : Q8), ([123, 125] : Q8), ([122, 32, 122] : Q8)] (Int.toNat (withinI (pickG x0.2 (0)) (0) (7))) ([] : Q8)))])
      else none
      else none
      else none
    else
      if decide (1 < (((List.length x0.1) : Nat) : Int)) = true then
        if ((IntKind.wrap .i64 ((((BitVec.ofInt 64 (List.getD x0.1 1 0) &&& BitVec.ofInt 64 (1)).toNat : Nat) : Int))) == (1)) = true then
          if pickPre x0.2 (1) = true then
          if decide (0 ≤ (withinI (pickG x0.2 (1)) (0) (7))) = true then
          if decide ((withinI (pickG x0.2 (1)) (0) (7)) < 8) = true then
          if decide (2 < (((List.length x0.1) : Nat) : Int)) = true then
            if ((IntKind.wrap .i64 ((((BitVec.ofInt 64 (List.getD x0.1 2 0) &&& BitVec.ofInt 64 (1)).toNat : Nat) : Int))) == (1)) = true then
              if pickPre x0.2 (2) = true then
              if decide (0 ≤ (withinI (pickG x0.2 (2)) (0) (7))) = true then
              if decide ((withinI (pickG x0.2 (2)) (0) (7)) < 8) = true then
              some ([(([98] : Q8), (List.getD [([120] : Q8), ([121] : Q8), ([120, 121] : Q8), ([49] : Q8), ([34] : Q8), ([92] : Q8), ([123, 125] : Q8), ([122, 32, 122] : Q8)] (Int.toNat (withinI (pickG x0.2 (1)) (0) (7))) ([] : Q8))), (([99] : Q8), (List.getD [([120] : Q8), ([121] : Q8), ([120, 121] : Q8), ([49] : Q8), ([34] : Q8), ([92] : Q8), ([123, 125] : Q8), ([122, 32, 122] : Q8)] (Int.toNat (withinI (pickG x0.2 (2)) (0) (7))) ([] : Q8)))])
              else none
              else none
              else none
            else
              some ([(([98] : Q8), (List.getD [([120] : Q8), ([121] : Q8), ([120, 121] : Q8), ([49] : Q8), ([34] : Q8), ([92] : Q8), ([123, 125] : Q8), ([122, 32, 122] : Q8)] (Int.toNat (withinI (pickG x0.2 (1)) (0) (7))) ([] : Q8)))])
          else
            some ([(([98] : Q8), (List.getD [([120] : Q8), ([121] : Q8), ([120, 121] : Q8), ([49] : Q8), ([34] : Q8), ([92] : Q8), ([123, 125] : Q8), ([122, 32, 122] : Q8)] (Int.toNat (withinI (pickG x0.2 (1)) (0) (7))) ([] : Q8)))])
          else none
          else none
          else none
        else
          if decide (2 < (((List.length x0.1) : Nat) : Int)) = true then
            if ((IntKind.wrap .i64 ((((BitVec.ofInt 64 (List.getD x0.1 2 0) &&& BitVec.ofInt 64 (1)).toNat : Nat) : Int))) == (1)) = true then
              if pickPre x0.2 (2) = true then
              if decide (0 ≤ (withinI (pickG x0.2 (2)) (0) (7))) = true then
              if decide ((withinI (pickG x0.2 (2)) (0) (7)) < 8) = true then
              some ([(([99] : Q8), (List.getD [([120] : Q8), ([121] : Q8), ([120, 121] : Q8), ([49] : Q8), ([34] : Q8), ([92] : Q8), ([123, 125] : Q8), ([122, 32, 122] : Q8)] (Int.toNat (withinI (pickG x0.2 (2)) (0) (7))) ([] : Q8)))])
              else none
              else none
              else none
            else
              some (([] : Q5))
          else
            some (([] : Q5))
      else
        if decide (2 < (((List.length x0.1) : Nat) : Int)) = true then
          if ((IntKind.wrap .i64 ((((BitVec.ofInt 64 (List.getD x0.1 2 0) &&& BitVec.ofInt 64 (1)).toNat : Nat) : Int))) == (1)) = true then
            if pickPre x0.2 (2) = true then
            if decide (0 ≤ (withinI (pickG x0.2 (2)) (0) (7))) = true then
            if decide ((withinI (pickG x0.2 (2)) (0) (7)) < 8) = true then
            some ([(([99] : Q8), (List.getD [([120] : Q8), ([121] : Q8), ([120, 121] : Q8), ([49] : Q8), ([34] : Q8), ([92] : Q8), ([123, 125] : Q8), ([122, 32, 122] : Q8)] (Int.toNat (withinI (pickG x0.2 (2)) (0) (7))) ([] : Q8)))])
            else none
            else none
            else none
          else
            some (([] : Q5))
        else
          some (([] : Q5))
  else
    if decide (1 < (((List.length x0.1) : Nat) : Int)) = true then
      if ((IntKind.wrap .i64 ((((BitVec.ofInt 64 (List.getD x0.1 1 0) &&& BitVec.ofInt 64 (1)).toNat : Nat) : Int))) == (1)) = true then
        if pickPre x0.2 (1) = true then
        if decide (0 ≤ (withinI (pickG x0.2 (1)) (0) (7))) = true then
        if decide ((withinI (pickG x0.2 (1)) (0) (7)) < 8) = true then
        if decide (2 < (((List.length x0.1) : Nat) : Int)) = true then
          if ((IntKind.wrap .i64 ((((BitVec.ofInt 64 (List.getD x0.1 2 0) &&& BitVec.ofInt 64 (1)).toNat : Nat) : Int))) == (1)) = true then
            if pickPre x0.2 (2) = true then
            if decide (0 ≤ (withinI (pickG x0.2 (2)) (0) (7))) = true then
            if decide ((withinI (pickG x0.2 (2)) (0) (7)) < 8) = true then
            some ([(([98] : Q8), (List.getD [([120] : Q8), ([121] : Q8), ([120, 121] : Q8), ([49] : Q8), ([34] : Q8), ([92] : Q8), ([123, 125] : Q8), ([122, 32, 122] : Q8)] (Int.toNat (withinI (pickG x0.2 (1)) (0) (7))) ([] : Q8))), (([99] : Q8), (List.getD [([120] : Q8), ([121] : Q8), ([120, 121] : Q8), ([49] : Q8), ([34] : Q8), ([92] : Q8), ([123, 125] : Q8), ([122, 32, 122] : Q8)] (Int.toNat (withinI (pickG x0.2 (2)) (0) (7))) ([] : Q8)))])
            else none
            else none
            else none
          else
            some ([(([98] : Q8), (List.getD [([120] : Q8), ([121] : Q8), ([120, 121] : Q8), ([49] : Q8), ([34] : Q8), ([92] : Q8), ([123, 125] : Q8), ([122, 32, 122] : Q8)] (Int.toNat (withinI (pickG x0.2 (1)) (0) (7))) ([] : Q8)))])
        else
          some ([(([98] : Q8), (List.getD [([120] : Q8), ([121] : Q8), ([120, 121] : Q8), ([49] : Q8), ([34] : Q8), ([92] : Q8), ([123, 125] : Q8), ([122, 32, 122] : Q8)] (Int.toNat (withinI (pickG x0.2 (1)) (0) (7))) ([] : Q8)))])
        else none
        else none
        else none
      else
        if decide (2 < (((List.length x0.1) : Nat) : Int)) = true then
          if ((IntKind.wrap .i64 ((((BitVec.ofInt 64 (List.getD x0.1 2 0) &&& BitVec.ofInt 64 (1)).toNat : Nat) : Int))) == (1)) = true then
            if pickPre x0.2 (2) = true then
            if decide (0 ≤ (withinI (pickG x0.2 (2)) (0) (7))) = true then
            if decide ((withinI (pickG x0.2 (2)) (0) (7)) < 8) = true then
            some ([(([99] : Q8), (List.getD [([120] : Q8), ([121] : Q8), ([120, 121] : Q8), ([49] : Q8), ([34] : Q8), ([92] : Q8), ([123, 125] : Q8), ([122, 32, 122] : Q8)] (Int.toNat (withinI (pickG x0.2 (2)) (0) (7))) ([] : Q8)))])
            else none
            else none
            else none
          else
            some (([] : Q5))
        else
          some (([] : Q5))
    else
      if decide (2 < (((List.length x0.1) : Nat) : Int)) = true then
        if ((IntKind.wrap .i64 ((((BitVec.ofInt 64 (List.getD x0.1 2 0) &&& BitVec.ofInt 64 (1)).toNat : Nat) : Int))) == (1)) = true then
          if pickPre x0.2 (2) = true then
          if decide (0 ≤ (withinI (pickG x0.2 (2)) (0) (7))) = true then
          if decide ((withinI (pickG x0.2 (2)) (0) (7)) < 8) = true then
          some ([(([99] : Q8), (List.getD [([120] : Q8), ([121] : Q8), ([120, 121] : Q8), ([49] : Q8), ([34] : Q8), ([92] : Q8), ([123, 125] : Q8), ([122, 32, 122] : Q8)] (Int.toNat (withinI (pickG x0.2 (2)) (0) (7))) ([] : Q8)))])
          else none
          else none
          else none
        else
          some (([] : Q5))
      else
        some (([] : Q5))
@[reducible] def p15_k1 (x0 : (List Int) × (List Int)) := (List.getD [([120] : Q8), ([121] : Q8), ([120, 121] : Q8), ([49] : Q8), ([34] : Q8), ([92] : Q8), ([123, 125] : Q8), ([122, 32, 122] : Q8)] (Int.toNat (withinI (pickG x0.2 (0)) (0) (7))) ([] : Q8))
@[reducible] def p15_k2 (x0 : (List Int) × (List Int)) := (List.getD [([120] : Q8), ([121] : Q8), ([120, 121] : Q8), ([49] : Q8), ([34] : Q8), ([92] : Q8), ([123, 125] : Q8), ([122, 32, 122] : Q8)] (Int.toNat (withinI (pickG x0.2 (1)) (0) (7))) ([] : Q8))
@[reducible] def p15_k3 (x0 : (List Int) × (List Int)) := (List.getD [([120] : Q8), ([121] : Q8), ([120, 121] : Q8), ([49] : Q8), ([34] : Q8), ([92] : Q8), ([123, 125] : Q8), ([122, 32, 122] : Q8)] (Int.toNat (withinI (pickG x0.2 (2)) (0) (7))) ([] : Q8))
@[reducible] def p15_e1  := [([120] : Q8), ([121] : Q8), ([120, 121] : Q8), ([49] : Q8), ([34] : Q8), ([92] : Q8), ([123, 125] : Q8), ([122, 32, 122] : Q8)]
@[reducible] def p15_e2  : Env := (.top :: (.ptr 0 0) :: .top :: (.sr 1 0 3 2 none) :: (.d (.sl .str p15_e1)) :: .top :: .top :: .top :: .top :: (.d (.sl .str [([97] : Q8), ([98] : Q8), ([99] : Q8)])) :: (.d (.int .i64 (3))) :: (.d (.int .i64 (3))) :: (.d (.bool false)) :: tp35 [])
@[reducible] def p15_e3  : Env := (.top :: (.ptr 0 0) :: .top :: (.sr 1 0 2 2 none) :: (.d (.sl .str p15_e1)) :: .top :: .top :: .top :: .top :: (.d (.sl .str [([97] : Q8), ([98] : Q8), ([99] : Q8)])) :: (.d (.int .i64 (3))) :: (.d (.int .i64 (3))) :: (.d (.bool false)) :: tp35 [])
@[reducible] def p15_e4  : Env := (.top :: (.ptr 0 0) :: .top :: (.sr 1 0 1 2 none) :: (.d (.sl .str p15_e1)) :: .top :: .top :: .top :: .top :: (.d (.sl .str [([97] : Q8), ([98] : Q8), ([99] : Q8)])) :: (.d (.int .i64 (3))) :: (.d (.int .i64 (3))) :: (.d (.bool false)) :: tp35 [])
@[reducible] def p15_e5  : Env := (.top :: (.ptr 0 0) :: .top :: (.sr 1 0 0 2 none) :: (.d (.sl .str p15_e1)) :: .top :: .top :: .top :: .top :: (.d (.sl .str [([97] : Q8), ([98] : Q8), ([99] : Q8)])) :: (.d (.int .i64 (3))) :: (.d (.int .i64 (3))) :: (.d (.bool false)) :: tp35 [])
@[reducible] def p15_e6  : Env := (.top :: (.ptr 0 0) :: .top :: (.sr 1 0 0 2 none) :: (.d (.sl .str p15_e1)) :: .top :: .top :: .top :: .top :: (.d (.sl .str [([97] : Q8), ([98] : Q8), ([99] : Q8)])) :: (.d (.int .i64 (3))) :: (.d (.int .i64 (0))) :: tp36 [])
@[reducible] def p15_e7  : Env := (.top :: (.ptr 0 0) :: .top :: (.sr 1 0 3 2 none) :: (.d (.sl .str p15_e1)) :: .top :: .top :: .top :: .top :: (.d (.sl .str [([97] : Q8), ([98] : Q8), ([99] : Q8)])) :: (.d (.int .i64 (3))) :: (.d (.int .i64 (3))) :: tp36 [])
@[reducible] def p15_e8  : Env := (.top :: (.ptr 0 0) :: .top :: (.sr 1 0 2 2 none) :: (.d (.sl .str p15_e1)) :: .top :: .top :: .top :: .top :: (.d (.sl .str [([97] : Q8), ([98] : Q8), ([99] : Q8)])) :: (.d (.int .i64 (3))) :: (.d (.int .i64 (2))) :: tp36 [])
@[reducible] def p15_e9  : Env := (.top :: (.ptr 0 0) :: .top :: (.sr 1 0 1 2 none) :: (.d (.sl .str p15_e1)) :: .top :: .top :: .top :: .top :: (.d (.sl .str [([97] : Q8), ([98] : Q8), ([99] : Q8)])) :: (.d (.int .i64 (3))) :: (.d (.int .i64 (1))) :: tp36 [])
@[reducible] def p15_e10  : Env := (.top :: (.ptr 0 0) :: .top :: (.sr 1 0 2 2 none) :: (.d (.sl .str p15_e1)) :: .top :: .top :: .top :: .top :: (.d (.sl .str [([97] : Q8), ([98] : Q8), ([99] : Q8)])) :: (.d (.int .i64 (3))) :: (.d (.int .i64 (3))) :: tp36 [])
@[reducible] def p15_e11  : Env := (.top :: (.ptr 0 0) :: .top :: (.sr 1 0 1 2 none) :: (.d (.sl .str p15_e1)) :: .top :: .top :: .top :: .top :: (.d (.sl .str [([97] : Q8), ([98] : Q8), ([99] : Q8)])) :: (.d (.int .i64 (3))) :: (.d (.int .i64 (2))) :: tp36 [])
@[reducible] def p15_e12  : Env := (.top :: (.ptr 0 0) :: .top :: (.sr 1 0 1 2 none) :: (.d (.sl .str p15_e1)) :: .top :: .top :: .top :: .top :: (.d (.sl .str [([97] : Q8), ([98] : Q8), ([99] : Q8)])) :: (.d (.int .i64 (3))) :: (.d (.int .i64 (3))) :: tp36 [])
@[reducible] def p15_e13  : Env := (.top :: (.ptr 0 0) :: .top :: (.sr 1 0 0 2 none) :: (.d (.sl .str p15_e1)) :: .top :: .top :: .top :: .top :: (.d (.sl .str [([97] : Q8), ([98] : Q8), ([99] : Q8)])) :: (.d (.int .i64 (3))) :: (.d (.int .i64 (1))) :: tp36 [])
@[reducible] def p15_e14  : Env := (.top :: (.ptr 0 0) :: .top :: (.sr 1 0 0 2 none) :: (.d (.sl .str p15_e1)) :: .top :: .top :: .top :: .top :: (.d (.sl .str [([97] : Q8), ([98] : Q8), ([99] : Q8)])) :: (.d (.int .i64 (3))) :: (.d (.int .i64 (2))) :: tp36 [])
@[reducible] def p15_e15  : Env := (.top :: (.ptr 0 0) :: .top :: (.sr 1 0 0 2 none) :: (.d (.sl .str p15_e1)) :: .top :: .top :: .top :: .top :: (.d (.sl .str [([97] : Q8), ([98] : Q8), ([99] : Q8)])) :: (.d (.int .i64 (3))) :: (.d (.int .i64 (3))) :: tp36 [])
@[reducible] def p15_e16 (x0 : (List Int) × (List Int)) : Boxes := [(.cells [(.d (.sl (.int .i64) x0.1)), (.d (.sl (.int .i64) x0.2))]), (.arr (.pair .str .str) [(([97] : Q8), (p15_k1 x0)), (([98] : Q8), (p15_k2 x0)), (([99] : Q8), (p15_k3 x0))] true)]
@[reducible] def p15_e17 (x0 : (List Int) × (List Int)) : Boxes := [(.cells [(.d (.sl (.int .i64) x0.1)), (.d (.sl (.int .i64) x0.2))]), (.arr (.pair .str .str) [(([97] : Q8), (p15_k1 x0)), (([98] : Q8), (p15_k2 x0))] true)]
@[reducible] def p15_e18 (x0 : (List Int) × (List Int)) : Boxes := [(.cells [(.d (.sl (.int .i64) x0.1)), (.d (.sl (.int .i64) x0.2))]), (.arr (.pair .str .str) [(([97] : Q8), (p15_k1 x0)), (([99] : Q8), (p15_k3 x0))] true)]
@[reducible] def p15_e19 (x0 : (List Int) × (List Int)) : Boxes := [(.cells [(.d (.sl (.int .i64) x0.1)), (.d (.sl (.int .i64) x0.2))]), (.arr (.pair .str .str) [(([98] : Q8), (p15_k2 x0)), (([99] : Q8), (p15_k3 x0))] true)]
@[reducible] def p15_e20 (x0 : (List Int) × (List Int)) : Boxes := [(.cells [(.d (.sl (.int .i64) x0.1)), (.d (.sl (.int .i64) x0.2))]), (.arr (.pair .str .str) ([] : Q5) true)]
@[reducible] def p15_e21 (x0 : (List Int) × (List Int)) : Boxes := [(.cells [(.d (.sl (.int .i64) x0.1)), (.d (.sl (.int .i64) x0.2))]), (.arr (.pair .str .str) [(([97] : Q8), (p15_k1 x0))] true)]
@[reducible] def p15_e22 (x0 : (List Int) × (List Int)) : Boxes := [(.cells [(.d (.sl (.int .i64) x0.1)), (.d (.sl (.int .i64) x0.2))]), (.arr (.pair .str .str) [(([98] : Q8), (p15_k2 x0))] true)]
@[reducible] def p15_e23 (x0 : (List Int) × (List Int)) : Boxes := [(.cells [(.d (.sl (.int .i64) x0.1)), (.d (.sl (.int .i64) x0.2))]), (.arr (.pair .str .str) [(([99] : Q8), (p15_k3 x0))] true)]
theorem p15_ok (m : Nat) (x0 : (List Int) × (List Int)) (q : (Q5)) (h : p15 m x0 = some q) : ∃ r B1, (evCall F S4 (m + 25) 15 [(.agg [(.d (.sl (.int .i64) x0.1)), (.d (.sl (.int .i64) x0.2))])] []).run = some (r, B1) ∧ 0 ≤ B1.length ∧ wkR B1 [] r (.d (.sl (.pair .str .str) q)) ∧ wkBs B1 [] 0 [] := by
  unfold p15 at h
  refine ite_cases h (fun c6 h => ?_) (fun c6 h => ?_)
  · skip
    refine ite_cases h (fun c16 h => ?_) (fun c16 h => ?_)
    · skip
      obtain ⟨c17, h⟩ := iY h
      obtain ⟨c19, h⟩ := iY h
      obtain ⟨c20, h⟩ := iY h
      refine ite_cases h (fun c27 h => ?_) (fun c27 h => ?_)
      · skip
        refine ite_cases h (fun c37 h => ?_) (fun c37 h => ?_)
        · skip
          obtain ⟨c38, h⟩ := iY h
          obtain ⟨c40, h⟩ := iY h
          obtain ⟨c41, h⟩ := iY h
          refine ite_cases h (fun c48 h => ?_) (fun c48 h => ?_)
          · skip
            refine ite_cases h (fun c58 h => ?_) (fun c58 h => ?_)
            · skip
              obtain ⟨c59, h⟩ := iY h
              obtain ⟨c61, h⟩ := iY h
              obtain ⟨c62, h⟩ := iY h
              cases h
              refine ⟨(.d (.sl (.pair .str .str) [(([97] : Q8), (p15_k1 x0)), (([98] : Q8), (p15_k2 x0)), (([99] : Q8), (p15_k3 x0))])), [], runT_ok (LS := (fun k => if k = 3610 then some (.exit 0, p15_e2, (p15_e16 x0)) else none)) (fn := fn15) (vis := [(3610, p15_e6, (p15_e20 x0))]) (by kernel_rfl) rfl (by kernel_rfl) (M.run_of_path _ [tT, tT, tT, tT] _ _ (by kernel_rfl) (all_t rfl (all_t rfl (all_t rfl (all_t rfl all_nil))))) ?_, by simp, (wkR.one (wkV.one (wk1.eq rfl))), trivial⟩
              intro p hp p2 hq
              rcases List.mem_cons.1 hp with rfl | hp
              · skip
                have ht3 : (turn (hds 15 3610) 0 3610 (cb2 m) p15_e7 (p15_e16 x0)).run = some (.exit 0, p15_e2, (p15_e16 x0)) := M.run_of_path _ [fF] _ _ (by kernel_rfl) (all_f Bool.false_ne_true all_nil)
                have hp3 := turns_last (n := m + 20) (by simp) ht3
                have ht2 : (turn (hds 15 3610) 0 3610 (cb2 m) p15_e8 (p15_e17 x0)).run = some (.normal, p15_e7, (p15_e16 x0)) := M.run_of_path _ [tT, tT, tT, tT, tT, tT, tT, tT, tT, tT, tT, tT, tT, tT, tT, tT, tT, tT, tT, tT, tT] _ _ (by kernel_rfl) (all_t rfl (all_t rfl (all_t rfl (all_t c48 (all_t c48 (all_t c48 (all_t c48 (all_t rfl (all_t c48 (all_t c48 (all_t c48 (all_t c48 (all_t c48 (all_t c58 (all_t c59 (all_t rfl (all_t c61 (all_t c62 (all_t rfl (all_t rfl (all_t rfl all_nil)))))))))))))))))))))
                have hs2 : (turns (hds 15 3610) 0 3610 (cb2 m) (m + 21) p15_e7 (p15_e16 x0)).run = some (.exit 0, p15_e2, (p15_e16 x0)) := Eq.mp (by kernel_rfl) hp3
                have hp2 := turns_step ht2 hs2
                have ht1 : (turn (hds 15 3610) 0 3610 (cb2 m) p15_e9 (p15_e21 x0)).run = some (.normal, p15_e8, (p15_e17 x0)) := M.run_of_path _ [tT, tT, tT, tT, tT, tT, tT, tT, tT, tT, tT, tT, tT, tT, tT, tT, tT, tT, tT, tT, tT] _ _ (by kernel_rfl) (all_t rfl (all_t rfl (all_t rfl (all_t c27 (all_t c27 (all_t c27 (all_t c27 (all_t rfl (all_t c27 (all_t c27 (all_t c27 (all_t c27 (all_t c27 (all_t c37 (all_t c38 (all_t rfl (all_t c40 (all_t c41 (all_t rfl (all_t rfl (all_t rfl all_nil)))))))))))))))))))))
                have hs1 : (turns (hds 15 3610) 0 3610 (cb2 m) (m + 22) p15_e8 (p15_e17 x0)).run = some (.exit 0, p15_e2, (p15_e16 x0)) := Eq.mp (by kernel_rfl) hp2
                have hp1 := turns_step ht1 hs1
                have ht0 : (turn (hds 15 3610) 0 3610 (cb2 m) p15_e6 (p15_e20 x0)).run = some (.normal, p15_e9, (p15_e21 x0)) := M.run_of_path _ [tT, tT, tT, tT, tT, tT, tT, tT, tT, tT, tT, tT, tT, tT, tT, tT, tT, tT, tT, tT, tT] _ _ (by kernel_rfl) (all_t rfl (all_t rfl (all_t rfl (all_t c6 (all_t c6 (all_t c6 (all_t c6 (all_t rfl (all_t c6 (all_t c6 (all_t c6 (all_t c6 (all_t c6 (all_t c16 (all_t c17 (all_t rfl (all_t c19 (all_t c20 (all_t rfl (all_t rfl (all_t rfl all_nil)))))))))))))))))))))
                have hs0 : (turns (hds 15 3610) 0 3610 (cb2 m) (m + 23) p15_e9 (p15_e21 x0)).run = some (.exit 0, p15_e2, (p15_e16 x0)) := Eq.mp (by kernel_rfl) hp1
                have hp0 := turns_step ht0 hs0
                exact Eq.trans (Eq.mp (by kernel_rfl) hp0) hq
              cases hp
            · skip
              cases h
              refine ⟨(.d (.sl (.pair .str .str) [(([97] : Q8), (p15_k1 x0)), (([98] : Q8), (p15_k2 x0))])), [], runT_ok (LS := (fun k => if k = 3610 then some (.exit 0, p15_e3, (p15_e17 x0)) else none)) (fn := fn15) (vis := [(3610, p15_e6, (p15_e20 x0))]) (by kernel_rfl) rfl (by kernel_rfl) (M.run_of_path _ [tT, tT, tT, tT] _ _ (by kernel_rfl) (all_t rfl (all_t rfl (all_t rfl (all_t rfl all_nil))))) ?_, by simp, (wkR.one (wkV.one (wk1.eq rfl))), trivial⟩
              intro p hp p2 hq
              rcases List.mem_cons.1 hp with rfl | hp
              · skip
                have ht3 : (turn (hds 15 3610) 0 3610 (cb2 m) p15_e10 (p15_e17 x0)).run = some (.exit 0, p15_e3, (p15_e17 x0)) := M.run_of_path _ [fF] _ _ (by kernel_rfl) (all_f Bool.false_ne_true all_nil)
                have hp3 := turns_last (n := m + 20) (by simp) ht3
                have ht2 : (turn (hds 15 3610) 0 3610 (cb2 m) p15_e8 (p15_e17 x0)).run = some (.normal, p15_e10, (p15_e17 x0)) := M.run_of_path _ [tT, tT, tT, tT, tT, tT, tT, tT, tT, tT, tT, tT, tT, fF] _ _ (by kernel_rfl) (all_t rfl (all_t rfl (all_t rfl (all_t c48 (all_t c48 (all_t c48 (all_t c48 (all_t rfl (all_t c48 (all_t c48 (all_t c48 (all_t c48 (all_t c48 (all_f c58 all_nil))))))))))))))
                have hs2 : (turns (hds 15 3610) 0 3610 (cb2 m) (m + 21) p15_e10 (p15_e17 x0)).run = some (.exit 0, p15_e3, (p15_e17 x0)) := Eq.mp (by kernel_rfl) hp3
                have hp2 := turns_step ht2 hs2
                have ht1 : (turn (hds 15 3610) 0 3610 (cb2 m) p15_e9 (p15_e21 x0)).run = some (.normal, p15_e8, (p15_e17 x0)) := M.run_of_path _ [tT, tT, tT, tT, tT, tT, tT, tT, tT, tT, tT, tT, tT, tT, tT, tT, tT, tT, tT, tT, tT] _ _ (by kernel_rfl) (all_t rfl (all_t rfl (all_t rfl (all_t c27 (all_t c27 (all_t c27 (all_t c27 (all_t rfl (all_t c27 (all_t c27 (all_t c27 (all_t c27 (all_t c27 (all_t c37 (all_t c38 (all_t rfl (all_t c40 (all_t c41 (all_t rfl (all_t rfl (all_t rfl all_nil)))))))))))))))))))))
                have hs1 : (turns (hds 15 3610) 0 3610 (cb2 m) (m + 22) p15_e8 (p15_e17 x0)).run = some (.exit 0, p15_e3, (p15_e17 x0)) := Eq.mp (by kernel_rfl) hp2
                have hp1 := turns_step ht1 hs1
                have ht0 : (turn (hds 15 3610) 0 3610 (cb2 m) p15_e6 (p15_e20 x0)).run = some (.normal, p15_e9, (p15_e21 x0)) := M.run_of_path _ [tT, tT, tT, tT, tT, tT, tT, tT, tT, tT, tT, tT, tT, tT, tT, tT, tT, tT, tT, tT, tT] _ _ (by kernel_rfl) (all_t rfl (all_t rfl (all_t rfl (all_t c6 (all_t c6 (all_t c6 (all_t c6 (all_t rfl (all_t c6 (all_t c6 (all_t c6 (all_t c6 (all_t c6 (all_t c16 (all_t c17 (all_t rfl (all_t c19 (all_t c20 (all_t rfl (all_t rfl (all_t rfl all_nil)))))))))))))))))))))
                have hs0 : (turns (hds 15 3610) 0 3610 (cb2 m) (m + 23) p15_e9 (p15_e21 x0)).run = some (.exit 0, p15_e3, (p15_e17 x0)) := Eq.mp (by kernel_rfl) hp1
                have hp0 := turns_step ht0 hs0
                exact Eq.trans (Eq.mp (by kernel_rfl) hp0) hq
              cases hp
          · skip
            cases h
            refine ⟨(.d (.sl (.pair .str .str) [(([97] : Q8), (p15_k1 x0)), (([98] : Q8), (p15_k2 x0))])), [], runT_ok (LS := (fun k => if k = 3610 then some (.exit 0, p15_e3, (p15_e17 x0)) else none)) (fn := fn15) (vis := [(3610, p15_e6, (p15_e20 x0))]) (by kernel_rfl) rfl (by kernel_rfl) (M.run_of_path _ [tT, tT, tT, tT] _ _ (by kernel_rfl) (all_t rfl (all_t rfl (all_t rfl (all_t rfl all_nil))))) ?_, by simp, (wkR.one (wkV.one (wk1.eq rfl))), trivial⟩
            intro p hp p2 hq
            rcases List.mem_cons.1 hp with rfl | hp
            · skip
              have ht3 : (turn (hds 15 3610) 0 3610 (cb2 m) p15_e10 (p15_e17 x0)).run = some (.exit 0, p15_e3, (p15_e17 x0)) := M.run_of_path _ [fF] _ _ (by kernel_rfl) (all_f Bool.false_ne_true all_nil)
              have hp3 := turns_last (n := m + 20) (by simp) ht3
              have ht2 : (turn (hds 15 3610) 0 3610 (cb2 m) p15_e8 (p15_e17 x0)).run = some (.normal, p15_e10, (p15_e17 x0)) := M.run_of_path _ [tT, tT, tT, fF, fF, fF, fF, fF, fF, fF, fF, fF] _ _ (by kernel_rfl) (all_t rfl (all_t rfl (all_t rfl (all_f c48 (all_f c48 (all_f c48 (all_f c48 (all_f c48 (all_f c48 (all_f c48 (all_f c48 (all_f Bool.false_ne_true all_nil))))))))))))
              have hs2 : (turns (hds 15 3610) 0 3610 (cb2 m) (m + 21) p15_e10 (p15_e17 x0)).run = some (.exit 0, p15_e3, (p15_e17 x0)) := Eq.mp (by kernel_rfl) hp3
              have hp2 := turns_step ht2 hs2
              have ht1 : (turn (hds 15 3610) 0 3610 (cb2 m) p15_e9 (p15_e21 x0)).run = some (.normal, p15_e8, (p15_e17 x0)) := M.run_of_path _ [tT, tT, tT, tT, tT, tT, tT, tT, tT, tT, tT, tT, tT, tT, tT, tT, tT, tT, tT, tT, tT] _ _ (by kernel_rfl) (all_t rfl (all_t rfl (all_t rfl (all_t c27 (all_t c27 (all_t c27 (all_t c27 (all_t rfl (all_t c27 (all_t c27 (all_t c27 (all_t c27 (all_t c27 (all_t c37 (all_t c38 (all_t rfl (all_t c40 (all_t c41 (all_t rfl (all_t rfl (all_t rfl all_nil)))))))))))))))))))))
              have hs1 : (turns (hds 15 3610) 0 3610 (cb2 m) (m + 22) p15_e8 (p15_e17 x0)).run = some (.exit 0, p15_e3, (p15_e17 x0)) := Eq.mp (by kernel_rfl) hp2
              have hp1 := turns_step ht1 hs1
              have ht0 : (turn (hds 15 3610) 0 3610 (cb2 m) p15_e6 (p15_e20 x0)).run = some (.normal, p15_e9, (p15_e21 x0)) := M.run_of_path _ [tT, tT, tT, tT, tT, tT, tT, tT, tT, tT, tT, tT, tT, tT, tT, tT, tT, tT, tT, tT, tT] _ _ (by kernel_rfl) (all_t rfl (all_t rfl (all_t rfl (all_t c6 (all_t c6 (all_t c6 (all_t c6 (all_t rfl (all_t c6 (all_t c6 (all_t c6 (all_t c6 (all_t c6 (all_t c16 (all_t c17 (all_t rfl (all_t c19 (all_t c20 (all_t rfl (all_t rfl (all_t rfl all_nil)))))))))))))))))))))
              have hs0 : (turns (hds 15 3610) 0 3610 (cb2 m) (m + 23) p15_e9 (p15_e21 x0)).run = some (.exit 0, p15_e3, (p15_e17 x0)) := Eq.mp (by kernel_rfl) hp1
              have hp0 := turns_step ht0 hs0
              exact Eq.trans (Eq.mp (by kernel_rfl) hp0) hq
            cases hp
        · skip
          refine ite_cases h (fun c41 h => ?_) (fun c41 h => ?_)
          · skip
            refine ite_cases h (fun c51 h => ?_) (fun c51 h => ?_)
            · skip
              obtain ⟨c52, h⟩ := iY h
              obtain ⟨c54, h⟩ := iY h
              obtain ⟨c55, h⟩ := iY h
              cases h
              refine ⟨(.d (.sl (.pair .str .str) [(([97] : Q8), (p15_k1 x0)), (([99] : Q8), (p15_k3 x0))])), [], runT_ok (LS := (fun k => if k = 3610 then some (.exit 0, p15_e3, (p15_e18 x0)) else none)) (fn := fn15) (vis := [(3610, p15_e6, (p15_e20 x0))]) (by kernel_rfl) rfl (by kernel_rfl) (M.run_of_path _ [tT, tT, tT, tT] _ _ (by kernel_rfl) (all_t rfl (all_t rfl (all_t rfl (all_t rfl all_nil))))) ?_, by simp, (wkR.one (wkV.one (wk1.eq rfl))), trivial⟩
              intro p hp p2 hq
              rcases List.mem_cons.1 hp with rfl | hp
              · skip
                have ht3 : (turn (hds 15 3610) 0 3610 (cb2 m) p15_e10 (p15_e18 x0)).run = some (.exit 0, p15_e3, (p15_e18 x0)) := M.run_of_path _ [fF] _ _ (by kernel_rfl) (all_f Bool.false_ne_true all_nil)
                have hp3 := turns_last (n := m + 20) (by simp) ht3
                have ht2 : (turn (hds 15 3610) 0 3610 (cb2 m) p15_e11 (p15_e21 x0)).run = some (.normal, p15_e10, (p15_e18 x0)) := M.run_of_path _ [tT, tT, tT, tT, tT, tT, tT, tT, tT, tT, tT, tT, tT, tT, tT, tT, tT, tT, tT, tT, tT] _ _ (by kernel_rfl) (all_t rfl (all_t rfl (all_t rfl (all_t c41 (all_t c41 (all_t c41 (all_t c41 (all_t rfl (all_t c41 (all_t c41 (all_t c41 (all_t c41 (all_t c41 (all_t c51 (all_t c52 (all_t rfl (all_t c54 (all_t c55 (all_t rfl (all_t rfl (all_t rfl all_nil)))))))))))))))))))))
                have hs2 : (turns (hds 15 3610) 0 3610 (cb2 m) (m + 21) p15_e10 (p15_e18 x0)).run = some (.exit 0, p15_e3, (p15_e18 x0)) := Eq.mp (by kernel_rfl) hp3
                have hp2 := turns_step ht2 hs2
                have ht1 : (turn (hds 15 3610) 0 3610 (cb2 m) p15_e9 (p15_e21 x0)).run = some (.normal, p15_e11, (p15_e21 x0)) := M.run_of_path _ [tT, tT, tT, tT, tT, tT, tT, tT, tT, tT, tT, tT, tT, fF] _ _ (by kernel_rfl) (all_t rfl (all_t rfl (all_t rfl (all_t c27 (all_t c27 (all_t c27 (all_t c27 (all_t rfl (all_t c27 (all_t c27 (all_t c27 (all_t c27 (all_t c27 (all_f c37 all_nil))))))))))))))
                have hs1 : (turns (hds 15 3610) 0 3610 (cb2 m) (m + 22) p15_e11 (p15_e21 x0)).run = some (.exit 0, p15_e3, (p15_e18 x0)) := Eq.mp (by kernel_rfl) hp2
                have hp1 := turns_step ht1 hs1
                have ht0 : (turn (hds 15 3610) 0 3610 (cb2 m) p15_e6 (p15_e20 x0)).run = some (.normal, p15_e9, (p15_e21 x0)) := M.run_of_path _ [tT, tT, tT, tT, tT, tT, tT, tT, tT, tT, tT, tT, tT, tT, tT, tT, tT, tT, tT, tT, tT] _ _ (by kernel_rfl) (all_t rfl (all_t rfl (all_t rfl (all_t c6 (all_t c6 (all_t c6 (all_t c6 (all_t rfl (all_t c6 (all_t c6 (all_t c6 (all_t c6 (all_t c6 (all_t c16 (all_t c17 (all_t rfl (all_t c19 (all_t c20 (all_t rfl (all_t rfl (all_t rfl all_nil)))))))))))))))))))))
                have hs0 : (turns (hds 15 3610) 0 3610 (cb2 m) (m + 23) p15_e9 (p15_e21 x0)).run = some (.exit 0, p15_e3, (p15_e18 x0)) := Eq.mp (by kernel_rfl) hp1
                have hp0 := turns_step ht0 hs0
                exact Eq.trans (Eq.mp (by kernel_rfl) hp0) hq
              cases hp
            · skip
              cases h
              refine ⟨(.d (.sl (.pair .str .str) [(([97] : Q8), (p15_k1 x0))])), [], runT_ok (LS := (fun k => if k = 3610 then some (.exit 0, p15_e4, (p15_e21 x0)) else none)) (fn := fn15) (vis := [(3610, p15_e6, (p15_e20 x0))]) (by kernel_rfl) rfl (by kernel_rfl) (M.run_of_path _ [tT, tT, tT, tT] _ _ (by kernel_rfl) (all_t rfl (all_t rfl (all_t rfl (all_t rfl all_nil))))) ?_, by simp, (wkR.one (wkV.one (wk1.eq rfl))), trivial⟩
              intro p hp p2 hq
              rcases List.mem_cons.1 hp with rfl | hp
              · skip
                have ht3 : (turn (hds 15 3610) 0 3610 (cb2 m) p15_e12 (p15_e21 x0)).run = some (.exit 0, p15_e4, (p15_e21 x0)) := M.run_of_path _ [fF] _ _ (by kernel_rfl) (all_f Bool.false_ne_true all_nil)
                have hp3 := turns_last (n := m + 20) (by simp) ht3
                have ht2 : (turn (hds 15 3610) 0 3610 (cb2 m) p15_e11 (p15_e21 x0)).run = some (.normal, p15_e12, (p15_e21 x0)) := M.run_of_path _ [tT, tT, tT, tT, tT, tT, tT, tT, tT, tT, tT, tT, tT, fF] _ _ (by kernel_rfl) (all_t rfl (all_t rfl (all_t rfl (all_t c41 (all_t c41 (all_t c41 (all_t c41 (all_t rfl (all_t c41 (all_t c41 (all_t c41 (all_t c41 (all_t c41 (all_f c51 all_nil))))))))))))))
                have hs2 : (turns (hds 15 3610) 0 3610 (cb2 m) (m + 21) p15_e12 (p15_e21 x0)).run = some (.exit 0, p15_e4, (p15_e21 x0)) := Eq.mp (by kernel_rfl) hp3
                have hp2 := turns_step ht2 hs2
                have ht1 : (turn (hds 15 3610) 0 3610 (cb2 m) p15_e9 (p15_e21 x0)).run = some (.normal, p15_e11, (p15_e21 x0)) := M.run_of_path _ [tT, tT, tT, tT, tT, tT, tT, tT, tT, tT, tT, tT, tT, fF] _ _ (by kernel_rfl) (all_t rfl (all_t rfl (all_t rfl (all_t c27 (all_t c27 (all_t c27 (all_t c27 (all_t rfl (all_t c27 (all_t c27 (all_t c27 (all_t c27 (all_t c27 (all_f c37 all_nil))))))))))))))
                have hs1 : (turns (hds 15 3610) 0 3610 (cb2 m) (m + 22) p15_e11 (p15_e21 x0)).run = some (.exit 0, p15_e4, (p15_e21 x0)) := Eq.mp (by kernel_rfl) hp2
                have hp1 := turns_step ht1 hs1
                have ht0 : (turn (hds 15 3610) 0 3610 (cb2 m) p15_e6 (p15_e20 x0)).run = some (.normal, p15_e9, (p15_e21 x0)) := M.run_of_path _ [tT, tT, tT, tT, tT, tT, tT, tT, tT, tT, tT, tT, tT, tT, tT, tT, tT, tT, tT, tT, tT] _ _ (by kernel_rfl) (all_t rfl (all_t rfl (all_t rfl (all_t c6 (all_t c6 (all_t c6 (all_t c6 (all_t rfl (all_t c6 (all_t c6 (all_t c6 (all_t c6 (all_t c6 (all_t c16 (all_t c17 (all_t rfl (all_t c19 (all_t c20 (all_t rfl (all_t rfl (all_t rfl all_nil)))))))))))))))))))))
                have hs0 : (turns (hds 15 3610) 0 3610 (cb2 m) (m + 23) p15_e9 (p15_e21 x0)).run = some (.exit 0, p15_e4, (p15_e21 x0)) := Eq.mp (by kernel_rfl) hp1
                have hp0 := turns_step ht0 hs0
                exact Eq.trans (Eq.mp (by kernel_rfl) hp0) hq
              cases hp
          · skip
            cases h
            refine ⟨(.d (.sl (.pair .str .str) [(([97] : Q8), (p15_k1 x0))])), [], runT_ok (LS := (fun k => if k = 3610 then some (.exit 0, p15_e4, (p15_e21 x0)) else none)) (fn := fn15) (vis := [(3610, p15_e6, (p15_e20 x0))]) (by kernel_rfl) rfl (by kernel_rfl) (M.run_of_path _ [tT, tT, tT, tT] _ _ (by kernel_rfl) (all_t rfl (all_t rfl (all_t rfl (all_t rfl all_nil))))) ?_, by simp, (wkR.one (wkV.one (wk1.eq rfl))), trivial⟩
            intro p hp p2 hq
            rcases List.mem_cons.1 hp with rfl | hp
            · skip
              have ht3 : (turn (hds 15 3610) 0 3610 (cb2 m) p15_e12 (p15_e21 x0)).run = some (.exit 0, p15_e4, (p15_e21 x0)) := M.run_of_path _ [fF] _ _ (by kernel_rfl) (all_f Bool.false_ne_true all_nil)
              have hp3 := turns_last (n := m + 20) (by simp) ht3
              have ht2 : (turn (hds 15 3610) 0 3610 (cb2 m) p15_e11 (p15_e21 x0)).run = some (.normal, p15_e12, (p15_e21 x0)) := M.run_of_path _ [tT, tT, tT, fF, fF, fF, fF, fF, fF, fF, fF, fF] _ _ (by kernel_rfl) (all_t rfl (all_t rfl (all_t rfl (all_f c41 (all_f c41 (all_f c41 (all_f c41 (all_f c41 (all_f c41 (all_f c41 (all_f c41 (all_f Bool.false_ne_true all_nil))))))))))))
              have hs2 : (turns (hds 15 3610) 0 3610 (cb2 m) (m + 21) p15_e12 (p15_e21 x0)).run = some (.exit 0, p15_e4, (p15_e21 x0)) := Eq.mp (by kernel_rfl) hp3
              have hp2 := turns_step ht2 hs2
              have ht1 : (turn (hds 15 3610) 0 3610 (cb2 m) p15_e9 (p15_e21 x0)).run = some (.normal, p15_e11, (p15_e21 x0)) := M.run_of_path _ [tT, tT, tT, tT, tT, tT, tT, tT, tT, tT, tT, tT, tT, fF] _ _ (by kernel_rfl) (all_t rfl (all_t rfl (all_t rfl (all_t c27 (all_t c27 (all_t c27 (all_t c27 (all_t rfl (all_t c27 (all_t c27 (all_t c27 (all_t c27 (all_t c27 (all_f c37 all_nil))))))))))))))
              have hs1 : (turns (hds 15 3610) 0 3610 (cb2 m) (m + 22) p15_e11 (p15_e21 x0)).run = some (.exit 0, p15_e4, (p15_e21 x0)) := Eq.mp (by kernel_rfl) hp2
              have hp1 := turns_step ht1 hs1
              have ht0 : (turn (hds 15 3610) 0 3610 (cb2 m) p15_e6 (p15_e20 x0)).run = some (.normal, p15_e9, (p15_e21 x0)) := M.run_of_path _ [tT, tT, tT, tT, tT, tT, tT, tT, tT, tT, tT, tT, tT, tT, tT, tT, tT, tT, tT, tT, tT] _ _ (by kernel_rfl) (all_t rfl (all_t rfl (all_t rfl (all_t c6 (all_t c6 (all_t c6 (all_t c6 (all_t rfl (all_t c6 (all_t c6 (all_t c6 (all_t c6 (all_t c6 (all_t c16 (all_t c17 (all_t rfl (all_t c19 (all_t c20 (all_t rfl (all_t rfl (all_t rfl all_nil)))))))))))))))))))))
              have hs0 : (turns (hds 15 3610) 0 3610 (cb2 m) (m + 23) p15_e9 (p15_e21 x0)).run = some (.exit 0, p15_e4, (p15_e21 x0)) := Eq.mp (by kernel_rfl) hp1
              have hp0 := turns_step ht0 hs0
              exact Eq.trans (Eq.mp (by kernel_rfl) hp0) hq
            cases hp
      · skip
        refine ite_cases h (fun c39 h => ?_) (fun c39 h => ?_)
        · skip
          refine ite_cases h (fun c49 h => ?_) (fun c49 h => ?_)
          · skip
            obtain ⟨c50, h⟩ := iY h
            obtain ⟨c52, h⟩ := iY h
            obtain ⟨c53, h⟩ := iY h
            cases h
            refine ⟨(.d (.sl (.pair .str .str) [(([97] : Q8), (p15_k1 x0)), (([99] : Q8), (p15_k3 x0))])), [], runT_ok (LS := (fun k => if k = 3610 then some (.exit 0, p15_e3, (p15_e18 x0)) else none)) (fn := fn15) (vis := [(3610, p15_e6, (p15_e20 x0))]) (by kernel_rfl) rfl (by kernel_rfl) (M.run_of_path _ [tT, tT, tT, tT] _ _ (by kernel_rfl) (all_t rfl (all_t rfl (all_t rfl (all_t rfl all_nil))))) ?_, by simp, (wkR.one (wkV.one (wk1.eq rfl))), trivial⟩
            intro p hp p2 hq
            rcases List.mem_cons.1 hp with rfl | hp
            · skip
              have ht3 : (turn (hds 15 3610) 0 3610 (cb2 m) p15_e10 (p15_e18 x0)).run = some (.exit 0, p15_e3, (p15_e18 x0)) := M.run_of_path _ [fF] _ _ (by kernel_rfl) (all_f Bool.false_ne_true all_nil)
              have hp3 := turns_last (n := m + 20) (by simp) ht3
              have ht2 : (turn (hds 15 3610) 0 3610 (cb2 m) p15_e11 (p15_e21 x0)).run = some (.normal, p15_e10, (p15_e18 x0)) := M.run_of_path _ [tT, tT, tT, tT, tT, tT, tT, tT, tT, tT, tT, tT, tT, tT, tT, tT, tT, tT, tT, tT, tT] _ _ (by kernel_rfl) (all_t rfl (all_t rfl (all_t rfl (all_t c39 (all_t c39 (all_t c39 (all_t c39 (all_t rfl (all_t c39 (all_t c39 (all_t c39 (all_t c39 (all_t c39 (all_t c49 (all_t c50 (all_t rfl (all_t c52 (all_t c53 (all_t rfl (all_t rfl (all_t rfl all_nil)))))))))))))))))))))
              have hs2 : (turns (hds 15 3610) 0 3610 (cb2 m) (m + 21) p15_e10 (p15_e18 x0)).run = some (.exit 0, p15_e3, (p15_e18 x0)) := Eq.mp (by kernel_rfl) hp3
              have hp2 := turns_step ht2 hs2
              have ht1 : (turn (hds 15 3610) 0 3610 (cb2 m) p15_e9 (p15_e21 x0)).run = some (.normal, p15_e11, (p15_e21 x0)) := M.run_of_path _ [tT, tT, tT, fF, fF, fF, fF, fF, fF, fF, fF, fF] _ _ (by kernel_rfl) (all_t rfl (all_t rfl (all_t rfl (all_f c27 (all_f c27 (all_f c27 (all_f c27 (all_f c27 (all_f c27 (all_f c27 (all_f c27 (all_f Bool.false_ne_true all_nil))))))))))))
              have hs1 : (turns (hds 15 3610) 0 3610 (cb2 m) (m + 22) p15_e11 (p15_e21 x0)).run = some (.exit 0, p15_e3, (p15_e18 x0)) := Eq.mp (by kernel_rfl) hp2
              have hp1 := turns_step ht1 hs1
              have ht0 : (turn (hds 15 3610) 0 3610 (cb2 m) p15_e6 (p15_e20 x0)).run = some (.normal, p15_e9, (p15_e21 x0)) := M.run_of_path _ [tT, tT, tT, tT, tT, tT, tT, tT, tT, tT, tT, tT, tT, tT, tT, tT, tT, tT, tT, tT, tT] _ _ (by kernel_rfl) (all_t rfl (all_t rfl (all_t rfl (all_t c6 (all_t c6 (all_t c6 (all_t c6 (all_t rfl (all_t c6 (all_t c6 (all_t c6 (all_t c6 (all_t c6 (all_t c16 (all_t c17 (all_t rfl (all_t c19 (all_t c20 (all_t rfl (all_t rfl (all_t rfl all_nil)))))))))))))))))))))
              have hs0 : (turns (hds 15 3610) 0 3610 (cb2 m) (m + 23) p15_e9 (p15_e21 x0)).run = some (.exit 0, p15_e3, (p15_e18 x0)) := Eq.mp (by kernel_rfl) hp1
              have hp0 := turns_step ht0 hs0
              exact Eq.trans (Eq.mp (by kernel_rfl) hp0) hq
            cases hp
          · skip
            cases h
            refine ⟨(.d (.sl (.pair .str .str) [(([97] : Q8), (p15_k1 x0))])), [], runT_ok (LS := (fun k => if k = 3610 then some (.exit 0, p15_e4, (p15_e21 x0)) else none)) (fn := fn15) (vis := [(3610, p15_e6, (p15_e20 x0))]) (by kernel_rfl) rfl (by kernel_rfl) (M.run_of_path _ [tT, tT, tT, tT] _ _ (by kernel_rfl) (all_t rfl (all_t rfl (all_t rfl (all_t rfl all_nil))))) ?_, by simp, (wkR.one (wkV.one (wk1.eq rfl))), trivial⟩
            intro p hp p2 hq
            rcases List.mem_cons.1 hp with rfl | hp
            · skip
              have ht3 : (turn (hds 15 3610) 0 3610 (cb2 m) p15_e12 (p15_e21 x0)).run = some (.exit 0, p15_e4, (p15_e21 x0)) := M.run_of_path _ [fF] _ _ (by kernel_rfl) (all_f Bool.false_ne_true all_nil)
              have hp3 := turns_last (n := m + 20) (by simp) ht3
              have ht2 : (turn (hds 15 3610) 0 3610 (cb2 m) p15_e11 (p15_e21 x0)).run = some (.normal, p15_e12, (p15_e21 x0)) := M.run_of_path _ [tT, tT, tT, tT, tT, tT, tT, tT, tT, tT, tT, tT, tT, fF] _ _ (by kernel_rfl) (all_t rfl (all_t rfl (all_t rfl (all_t c39 (all_t c39 (all_t c39 (all_t c39 (all_t rfl (all_t c39 (all_t c39 (all_t c39 (all_t c39 (all_t c39 (all_f c49 all_nil))))))))))))))
              have hs2 : (turns (hds 15 3610) 0 3610 (cb2 m) (m + 21) p15_e12 (p15_e21 x0)).run = some (.exit 0, p15_e4, (p15_e21 x0)) := Eq.mp (by kernel_rfl) hp3
              have hp2 := turns_step ht2 hs2
              have ht1 : (turn (hds 15 3610) 0 3610 (cb2 m) p15_e9 (p15_e21 x0)).run = some (.normal, p15_e11, (p15_e21 x0)) := M.run_of_path _ [tT, tT, tT, fF, fF, fF, fF, fF, fF, fF, fF, fF] _ _ (by kernel_rfl) (all_t rfl (all_t rfl (all_t rfl (all_f c27 (all_f c27 (all_f c27 (all_f c27 (all_f c27 (all_f c27 (all_f c27 (all_f c27 (all_f Bool.false_ne_true all_nil))))))))))))
              have hs1 : (turns (hds 15 3610) 0 3610 (cb2 m) (m + 22) p15_e11 (p15_e21 x0)).run = some (.exit 0, p15_e4, (p15_e21 x0)) := Eq.mp (by kernel_rfl) hp2
              have hp1 := turns_step ht1 hs1
              have ht0 : (turn (hds 15 3610) 0 3610 (cb2 m) p15_e6 (p15_e20 x0)).run = some (.normal, p15_e9, (p15_e21 x0)) := M.run_of_path _ [tT, tT, tT, tT, tT, tT, tT, tT, tT, tT, tT, tT, tT, tT, tT, tT, tT, tT, tT, tT, tT] _ _ (by kernel_rfl) (all_t rfl (all_t rfl (all_t rfl (all_t c6 (all_t c6 (all_t c6 (all_t c6 (all_t rfl (all_t c6 (all_t c6 (all_t c6 (all_t c6 (all_t c6 (all_t c16 (all_t c17 (all_t rfl (all_t c19 (all_t c20 (all_t rfl (all_t rfl (all_t rfl all_nil)))))))))))))))))))))
              have hs0 : (turns (hds 15 3610) 0 3610 (cb2 m) (m + 23) p15_e9 (p15_e21 x0)).run = some (.exit 0, p15_e4, (p15_e21 x0)) := Eq.mp (by kernel_rfl) hp1
              have hp0 := turns_step ht0 hs0
              exact Eq.trans (Eq.mp (by kernel_rfl) hp0) hq
            cases hp
        · skip
          cases h
          refine ⟨(.d (.sl (.pair .str .str) [(([97] : Q8), (p15_k1 x0))])), [], runT_ok (LS := (fun k => if k = 3610 then some (.exit 0, p15_e4, (p15_e21 x0)) else none)) (fn := fn15) (vis := [(3610, p15_e6, (p15_e20 x0))]) (by kernel_rfl) rfl (by kernel_rfl) (M.run_of_path _ [tT, tT, tT, tT] _ _ (by kernel_rfl) (all_t rfl (all_t rfl (all_t rfl (all_t rfl all_nil))))) ?_, by simp, (wkR.one (wkV.one (wk1.eq rfl))), trivial⟩
          intro p hp p2 hq
          rcases List.mem_cons.1 hp with rfl | hp
          · skip
            have ht3 : (turn (hds 15 3610) 0 3610 (cb2 m) p15_e12 (p15_e21 x0)).run = some (.exit 0, p15_e4, (p15_e21 x0)) := M.run_of_path _ [fF] _ _ (by kernel_rfl) (all_f Bool.false_ne_true all_nil)
            have hp3 := turns_last (n := m + 20) (by simp) ht3
            have ht2 : (turn (hds 15 3610) 0 3610 (cb2 m) p15_e11 (p15_e21 x0)).run = some (.normal, p15_e12, (p15_e21 x0)) := M.run_of_path _ [tT, tT, tT, fF, fF, fF, fF, fF, fF, fF, fF, fF] _ _ (by kernel_rfl) (all_t rfl (all_t rfl (all_t rfl (all_f c39 (all_f c39 (all_f c39 (all_f c39 (all_f c39 (all_f c39 (all_f c39 (all_f c39 (all_f Bool.false_ne_true all_nil))))))))))))
            have hs2 : (turns (hds 15 3610) 0 3610 (cb2 m) (m + 21) p15_e12 (p15_e21 x0)).run = some (.exit 0, p15_e4, (p15_e21 x0)) := Eq.mp (by kernel_rfl) hp3
            have hp2 := turns_step ht2 hs2
            have ht1 : (turn (hds 15 3610) 0 3610 (cb2 m) p15_e9 (p15_e21 x0)).run = some (.normal, p15_e11, (p15_e21 x0)) := M.run_of_path _ [tT, tT, tT, fF, fF, fF, fF, fF, fF, fF, fF, fF] _ _ (by kernel_rfl) (all_t rfl (all_t rfl (all_t rfl (all_f c27 (all_f c27 (all_f c27 (all_f c27 (all_f c27 (all_f c27 (all_f c27 (all_f c27 (all_f Bool.false_ne_true all_nil))))))))))))
            have hs1 : (turns (hds 15 3610) 0 3610 (cb2 m) (m + 22) p15_e11 (p15_e21 x0)).run = some (.exit 0, p15_e4, (p15_e21 x0)) := Eq.mp (by kernel_rfl) hp2
            have hp1 := turns_step ht1 hs1
            have ht0 : (turn (hds 15 3610) 0 3610 (cb2 m) p15_e6 (p15_e20 x0)).run = some (.normal, p15_e9, (p15_e21 x0)) := M.run_of_path _ [tT, tT, tT, tT, tT, tT, tT, tT, tT, tT, tT, tT, tT, tT, tT, tT, tT, tT, tT, tT, tT] _ _ (by kernel_rfl) (all_t rfl (all_t rfl (all_t rfl (all_t c6 (all_t c6 (all_t c6 (all_t c6 (all_t rfl (all_t c6 (all_t c6 (all_t c6 (all_t c6 (all_t c6 (all_t c16 (all_t c17 (all_t rfl (all_t c19 (all_t c20 (all_t rfl (all_t rfl (all_t rfl all_nil)))))))))))))))))))))
            have hs0 : (turns (hds 15 3610) 0 3610 (cb2 m) (m + 23) p15_e9 (p15_e21 x0)).run = some (.exit 0, p15_e4, (p15_e21 x0)) := Eq.mp (by kernel_rfl) hp1
            have hp0 := turns_step ht0 hs0
            exact Eq.trans (Eq.mp (by kernel_rfl) hp0) hq
          cases hp
    · skip
      refine ite_cases h (fun c20 h => ?_) (fun c20 h => ?_)
      · skip
        refine ite_cases h (fun c30 h => ?_) (fun c30 h => ?_)
        · skip
          obtain ⟨c31, h⟩ := iY h
          obtain ⟨c33, h⟩ := iY h
          obtain ⟨c34, h⟩ := iY h
          refine ite_cases h (fun c41 h => ?_) (fun c41 h => ?_)
          · skip
            refine ite_cases h (fun c51 h => ?_) (fun c51 h => ?_)
            · skip
              obtain ⟨c52, h⟩ := iY h
              obtain ⟨c54, h⟩ := iY h
              obtain ⟨c55, h⟩ := iY h
              cases h
              refine ⟨(.d (.sl (.pair .str .str) [(([98] : Q8), (p15_k2 x0)), (([99] : Q8), (p15_k3 x0))])), [], runT_ok (LS := (fun k => if k = 3610 then some (.exit 0, p15_e3, (p15_e19 x0)) else none)) (fn := fn15) (vis := [(3610, p15_e6, (p15_e20 x0))]) (by kernel_rfl) rfl (by kernel_rfl) (M.run_of_path _ [tT, tT, tT, tT] _ _ (by kernel_rfl) (all_t rfl (all_t rfl (all_t rfl (all_t rfl all_nil))))) ?_, by simp, (wkR.one (wkV.one (wk1.eq rfl))), trivial⟩
              intro p hp p2 hq
              rcases List.mem_cons.1 hp with rfl | hp
              · skip
                have ht3 : (turn (hds 15 3610) 0 3610 (cb2 m) p15_e10 (p15_e19 x0)).run = some (.exit 0, p15_e3, (p15_e19 x0)) := M.run_of_path _ [fF] _ _ (by kernel_rfl) (all_f Bool.false_ne_true all_nil)
                have hp3 := turns_last (n := m + 20) (by simp) ht3
                have ht2 : (turn (hds 15 3610) 0 3610 (cb2 m) p15_e11 (p15_e22 x0)).run = some (.normal, p15_e10, (p15_e19 x0)) := M.run_of_path _ [tT, tT, tT, tT, tT, tT, tT, tT, tT, tT, tT, tT, tT, tT, tT, tT, tT, tT, tT, tT, tT] _ _ (by kernel_rfl) (all_t rfl (all_t rfl (all_t rfl (all_t c41 (all_t c41 (all_t c41 (all_t c41 (all_t rfl (all_t c41 (all_t c41 (all_t c41 (all_t c41 (all_t c41 (all_t c51 (all_t c52 (all_t rfl (all_t c54 (all_t c55 (all_t rfl (all_t rfl (all_t rfl all_nil)))))))))))))))))))))
                have hs2 : (turns (hds 15 3610) 0 3610 (cb2 m) (m + 21) p15_e10 (p15_e19 x0)).run = some (.exit 0, p15_e3, (p15_e19 x0)) := Eq.mp (by kernel_rfl) hp3
                have hp2 := turns_step ht2 hs2
                have ht1 : (turn (hds 15 3610) 0 3610 (cb2 m) p15_e13 (p15_e20 x0)).run = some (.normal, p15_e11, (p15_e22 x0)) := M.run_of_path _ [tT, tT, tT, tT, tT, tT, tT, tT, tT, tT, tT, tT, tT, tT, tT, tT, tT, tT, tT, tT, tT] _ _ (by kernel_rfl) (all_t rfl (all_t rfl (all_t rfl (all_t c20 (all_t c20 (all_t c20 (all_t c20 (all_t rfl (all_t c20 (all_t c20 (all_t c20 (all_t c20 (all_t c20 (all_t c30 (all_t c31 (all_t rfl (all_t c33 (all_t c34 (all_t rfl (all_t rfl (all_t rfl all_nil)))))))))))))))))))))
                have hs1 : (turns (hds 15 3610) 0 3610 (cb2 m) (m + 22) p15_e11 (p15_e22 x0)).run = some (.exit 0, p15_e3, (p15_e19 x0)) := Eq.mp (by kernel_rfl) hp2
                have hp1 := turns_step ht1 hs1
                have ht0 : (turn (hds 15 3610) 0 3610 (cb2 m) p15_e6 (p15_e20 x0)).run = some (.normal, p15_e13, (p15_e20 x0)) := M.run_of_path _ [tT, tT, tT, tT, tT, tT, tT, tT, tT, tT, tT, tT, tT, fF] _ _ (by kernel_rfl) (all_t rfl (all_t rfl (all_t rfl (all_t c6 (all_t c6 (all_t c6 (all_t c6 (all_t rfl (all_t c6 (all_t c6 (all_t c6 (all_t c6 (all_t c6 (all_f c16 all_nil))))))))))))))
                have hs0 : (turns (hds 15 3610) 0 3610 (cb2 m) (m + 23) p15_e13 (p15_e20 x0)).run = some (.exit 0, p15_e3, (p15_e19 x0)) := Eq.mp (by kernel_rfl) hp1
                have hp0 := turns_step ht0 hs0
                exact Eq.trans (Eq.mp (by kernel_rfl) hp0) hq
              cases hp
            · skip
              cases h
              refine ⟨(.d (.sl (.pair .str .str) [(([98] : Q8), (p15_k2 x0))])), [], runT_ok (LS := (fun k => if k = 3610 then some (.exit 0, p15_e4, (p15_e22 x0)) else none)) (fn := fn15) (vis := [(3610, p15_e6, (p15_e20 x0))]) (by kernel_rfl) rfl (by kernel_rfl) (M.run_of_path _ [tT, tT, tT, tT] _ _ (by kernel_rfl) (all_t rfl (all_t rfl (all_t rfl (all_t rfl all_nil))))) ?_, by simp, (wkR.one (wkV.one (wk1.eq rfl))), trivial⟩
              intro p hp p2 hq
              rcases List.mem_cons.1 hp with rfl | hp
              · skip
                have ht3 : (turn (hds 15 3610) 0 3610 (cb2 m) p15_e12 (p15_e22 x0)).run = some (.exit 0, p15_e4, (p15_e22 x0)) := M.run_of_path _ [fF] _ _ (by kernel_rfl) (all_f Bool.false_ne_true all_nil)
                have hp3 := turns_last (n := m + 20) (by simp) ht3
                have ht2 : (turn (hds 15 3610) 0 3610 (cb2 m) p15_e11 (p15_e22 x0)).run = some (.normal, p15_e12, (p15_e22 x0)) := M.run_of_path _ [tT, tT, tT, tT, tT, tT, tT, tT, tT, tT, tT, tT, tT, fF] _ _ (by kernel_rfl) (all_t rfl (all_t rfl (all_t rfl (all_t c41 (all_t c41 (all_t c41 (all_t c41 (all_t rfl (all_t c41 (all_t c41 (all_t c41 (all_t c41 (all_t c41 (all_f c51 all_nil))))))))))))))
                have hs2 : (turns (hds 15 3610) 0 3610 (cb2 m) (m + 21) p15_e12 (p15_e22 x0)).run = some (.exit 0, p15_e4, (p15_e22 x0)) := Eq.mp (by kernel_rfl) hp3
                have hp2 := turns_step ht2 hs2
                have ht1 : (turn (hds 15 3610) 0 3610 (cb2 m) p15_e13 (p15_e20 x0)).run = some (.normal, p15_e11, (p15_e22 x0)) := M.run_of_path _ [tT, tT, tT, tT, tT, tT, tT, tT, tT, tT, tT, tT, tT, tT, tT, tT, tT, tT, tT, tT, tT] _ _ (by kernel_rfl) (all_t rfl (all_t rfl (all_t rfl (all_t c20 (all_t c20 (all_t c20 (all_t c20 (all_t rfl (all_t c20 (all_t c20 (all_t c20 (all_t c20 (all_t c20 (all_t c30 (all_t c31 (all_t rfl (all_t c33 (all_t c34 (all_t rfl (all_t rfl (all_t rfl all_nil)))))))))))))))))))))
                have hs1 : (turns (hds 15 3610) 0 3610 (cb2 m) (m + 22) p15_e11 (p15_e22 x0)).run = some (.exit 0, p15_e4, (p15_e22 x0)) := Eq.mp (by kernel_rfl) hp2
                have hp1 := turns_step ht1 hs1
                have ht0 : (turn (hds 15 3610) 0 3610 (cb2 m) p15_e6 (p15_e20 x0)).run = some (.normal, p15_e13, (p15_e20 x0)) := M.run_of_path _ [tT, tT, tT, tT, tT, tT, tT, tT, tT, tT, tT, tT, tT, fF] _ _ (by kernel_rfl) (all_t rfl (all_t rfl (all_t rfl (all_t c6 (all_t c6 (all_t c6 (all_t c6 (all_t rfl (all_t c6 (all_t c6 (all_t c6 (all_t c6 (all_t c6 (all_f c16 all_nil))))))))))))))
                have hs0 : (turns (hds 15 3610) 0 3610 (cb2 m) (m + 23) p15_e13 (p15_e20 x0)).run = some (.exit 0, p15_e4, (p15_e22 x0)) := Eq.mp (by kernel_rfl) hp1
                have hp0 := turns_step ht0 hs0
                exact Eq.trans (Eq.mp (by kernel_rfl) hp0) hq
              cases hp
          · skip
            cases h
            refine ⟨(.d (.sl (.pair .str .str) [(([98] : Q8), (p15_k2 x0))])), [], runT_ok (LS := (fun k => if k = 3610 then some (.exit 0, p15_e4, (p15_e22 x0)) else none)) (fn := fn15) (vis := [(3610, p15_e6, (p15_e20 x0))]) (by kernel_rfl) rfl (by kernel_rfl) (M.run_of_path _ [tT, tT, tT, tT] _ _ (by kernel_rfl) (all_t rfl (all_t rfl (all_t rfl (all_t rfl all_nil))))) ?_, by simp, (wkR.one (wkV.one (wk1.eq rfl))), trivial⟩
            intro p hp p2 hq
            rcases List.mem_cons.1 hp with rfl | hp
            · skip
              have ht3 : (turn (hds 15 3610) 0 3610 (cb2 m) p15_e12 (p15_e22 x0)).run = some (.exit 0, p15_e4, (p15_e22 x0)) := M.run_of_path _ [fF] _ _ (by kernel_rfl) (all_f Bool.false_ne_true all_nil)
              have hp3 := turns_last (n := m + 20) (by simp) ht3
              have ht2 : (turn (hds 15 3610) 0 3610 (cb2 m) p15_e11 (p15_e22 x0)).run = some (.normal, p15_e12, (p15_e22 x0)) := M.run_of_path _ [tT, tT, tT, fF, fF, fF, fF, fF, fF, fF, fF, fF] _ _ (by kernel_rfl) (all_t rfl (all_t rfl (all_t rfl (all_f c41 (all_f c41 (all_f c41 (all_f c41 (all_f c41 (all_f c41 (all_f c41 (all_f c41 (all_f Bool.false_ne_true all_nil))))))))))))
              have hs2 : (turns (hds 15 3610) 0 3610 (cb2 m) (m + 21) p15_e12 (p15_e22 x0)).run = some (.exit 0, p15_e4, (p15_e22 x0)) := Eq.mp (by kernel_rfl) hp3
              have hp2 := turns_step ht2 hs2
              have ht1 : (turn (hds 15 3610) 0 3610 (cb2 m) p15_e13 (p15_e20 x0)).run = some (.normal, p15_e11, (p15_e22 x0)) := M.run_of_path _ [tT, tT, tT, tT, tT, tT, tT, tT, tT, tT, tT, tT, tT, tT, tT, tT, tT, tT, tT, tT, tT] _ _ (by kernel_rfl) (all_t rfl (all_t rfl (all_t rfl (all_t c20 (all_t c20 (all_t c20 (all_t c20 (all_t rfl (all_t c20 (all_t c20 (all_t c20 (all_t c20 (all_t c20 (all_t c30 (all_t c31 (all_t rfl (all_t c33 (all_t c34 (all_t rfl (all_t rfl (all_t rfl all_nil)))))))))))))))))))))
              have hs1 : (turns (hds 15 3610) 0 3610 (cb2 m) (m + 22) p15_e11 (p15_e22 x0)).run = some (.exit 0, p15_e4, (p15_e22 x0)) := Eq.mp (by kernel_rfl) hp2
              have hp1 := turns_step ht1 hs1
              have ht0 : (turn (hds 15 3610) 0 3610 (cb2 m) p15_e6 (p15_e20 x0)).run = some (.normal, p15_e13, (p15_e20 x0)) := M.run_of_path _ [tT, tT, tT, tT, tT, tT, tT, tT, tT, tT, tT, tT, tT, fF] _ _ (by kernel_rfl) (all_t rfl (all_t rfl (all_t rfl (all_t c6 (all_t c6 (all_t c6 (all_t c6 (all_t rfl (all_t c6 (all_t c6 (all_t c6 (all_t c6 (all_t c6 (all_f c16 all_nil))))))))))))))
              have hs0 : (turns (hds 15 3610) 0 3610 (cb2 m) (m + 23) p15_e13 (p15_e20 x0)).run = some (.exit 0, p15_e4, (p15_e22 x0)) := Eq.mp (by kernel_rfl) hp1
              have hp0 := turns_step ht0 hs0
              exact Eq.trans (Eq.mp (by kernel_rfl) hp0) hq
            cases hp
        · skip
          refine ite_cases h (fun c34 h => ?_) (fun c34 h => ?_)
          · skip
            refine ite_cases h (fun c44 h => ?_) (fun c44 h => ?_)
            · skip
              obtain ⟨c45, h⟩ := iY h
              obtain ⟨c47, h⟩ := iY h
              obtain ⟨c48, h⟩ := iY h
              cases h
              refine ⟨(.d (.sl (.pair .str .str) [(([99] : Q8), (p15_k3 x0))])), [], runT_ok (LS := (fun k => if k = 3610 then some (.exit 0, p15_e4, (p15_e23 x0)) else none)) (fn := fn15) (vis := [(3610, p15_e6, (p15_e20 x0))]) (by kernel_rfl) rfl (by kernel_rfl) (M.run_of_path _ [tT, tT, tT, tT] _ _ (by kernel_rfl) (all_t rfl (all_t rfl (all_t rfl (all_t rfl all_nil))))) ?_, by simp, (wkR.one (wkV.one (wk1.eq rfl))), trivial⟩
              intro p hp p2 hq
              rcases List.mem_cons.1 hp with rfl | hp
              · skip
                have ht3 : (turn (hds 15 3610) 0 3610 (cb2 m) p15_e12 (p15_e23 x0)).run = some (.exit 0, p15_e4, (p15_e23 x0)) := M.run_of_path _ [fF] _ _ (by kernel_rfl) (all_f Bool.false_ne_true all_nil)
                have hp3 := turns_last (n := m + 20) (by simp) ht3
                have ht2 : (turn (hds 15 3610) 0 3610 (cb2 m) p15_e14 (p15_e20 x0)).run = some (.normal, p15_e12, (p15_e23 x0)) := M.run_of_path _ [tT, tT, tT, tT, tT, tT, tT, tT, tT, tT, tT, tT, tT, tT, tT, tT, tT, tT, tT, tT, tT] _ _ (by kernel_rfl) (all_t rfl (all_t rfl (all_t rfl (all_t c34 (all_t c34 (all_t c34 (all_t c34 (all_t rfl (all_t c34 (all_t c34 (all_t c34 (all_t c34 (all_t c34 (all_t c44 (all_t c45 (all_t rfl (all_t c47 (all_t c48 (all_t rfl (all_t rfl (all_t rfl all_nil)))))))))))))))))))))
                have hs2 : (turns (hds 15 3610) 0 3610 (cb2 m) (m + 21) p15_e12 (p15_e23 x0)).run = some (.exit 0, p15_e4, (p15_e23 x0)) := Eq.mp (by kernel_rfl) hp3
                have hp2 := turns_step ht2 hs2
                have ht1 : (turn (hds 15 3610) 0 3610 (cb2 m) p15_e13 (p15_e20 x0)).run = some (.normal, p15_e14, (p15_e20 x0)) := M.run_of_path _ [tT, tT, tT, tT, tT, tT, tT, tT, tT, tT, tT, tT, tT, fF] _ _ (by kernel_rfl) (all_t rfl (all_t rfl (all_t rfl (all_t c20 (all_t c20 (all_t c20 (all_t c20 (all_t rfl (all_t c20 (all_t c20 (all_t c20 (all_t c20 (all_t c20 (all_f c30 all_nil))))))))))))))
                have hs1 : (turns (hds 15 3610) 0 3610 (cb2 m) (m + 22) p15_e14 (p15_e20 x0)).run = some (.exit 0, p15_e4, (p15_e23 x0)) := Eq.mp (by kernel_rfl) hp2
                have hp1 := turns_step ht1 hs1
                have ht0 : (turn (hds 15 3610) 0 3610 (cb2 m) p15_e6 (p15_e20 x0)).run = some (.normal, p15_e13, (p15_e20 x0)) := M.run_of_path _ [tT, tT, tT, tT, tT, tT, tT, tT, tT, tT, tT, tT, tT, fF] _ _ (by kernel_rfl) (all_t rfl (all_t rfl (all_t rfl (all_t c6 (all_t c6 (all_t c6 (all_t c6 (all_t rfl (all_t c6 (all_t c6 (all_t c6 (all_t c6 (all_t c6 (all_f c16 all_nil))))))))))))))
                have hs0 : (turns (hds 15 3610) 0 3610 (cb2 m) (m + 23) p15_e13 (p15_e20 x0)).run = some (.exit 0, p15_e4, (p15_e23 x0)) := Eq.mp (by kernel_rfl) hp1
                have hp0 := turns_step ht0 hs0
                exact Eq.trans (Eq.mp (by kernel_rfl) hp0) hq
              cases hp
            · skip
              cases h
              refine ⟨(.d (.sl (.pair .str .str) ([] : Q5))), [], runT_ok (LS := (fun k => if k = 3610 then some (.exit 0, p15_e5, (p15_e20 x0)) else none)) (fn := fn15) (vis := [(3610, p15_e6, (p15_e20 x0))]) (by kernel_rfl) rfl (by kernel_rfl) (M.run_of_path _ [tT, tT, tT, tT] _ _ (by kernel_rfl) (all_t rfl (all_t rfl (all_t rfl (all_t rfl all_nil))))) ?_, by simp, (wkR.one (wkV.one (wk1.eq rfl))), trivial⟩
              intro p hp p2 hq
              rcases List.mem_cons.1 hp with rfl | hp
              · skip
                have ht3 : (turn (hds 15 3610) 0 3610 (cb2 m) p15_e15 (p15_e20 x0)).run = some (.exit 0, p15_e5, (p15_e20 x0)) := M.run_of_path _ [fF] _ _ (by kernel_rfl) (all_f Bool.false_ne_true all_nil)
                have hp3 := turns_last (n := m + 20) (by simp) ht3
                have ht2 : (turn (hds 15 3610) 0 3610 (cb2 m) p15_e14 (p15_e20 x0)).run = some (.normal, p15_e15, (p15_e20 x0)) := M.run_of_path _ [tT, tT, tT, tT, tT, tT, tT, tT, tT, tT, tT, tT, tT, fF] _ _ (by kernel_rfl) (all_t rfl (all_t rfl (all_t rfl (all_t c34 (all_t c34 (all_t c34 (all_t c34 (all_t rfl (all_t c34 (all_t c34 (all_t c34 (all_t c34 (all_t c34 (all_f c44 all_nil))))))))))))))
                have hs2 : (turns (hds 15 3610) 0 3610 (cb2 m) (m + 21) p15_e15 (p15_e20 x0)).run = some (.exit 0, p15_e5, (p15_e20 x0)) := Eq.mp (by kernel_rfl) hp3
                have hp2 := turns_step ht2 hs2
                have ht1 : (turn (hds 15 3610) 0 3610 (cb2 m) p15_e13 (p15_e20 x0)).run = some (.normal, p15_e14, (p15_e20 x0)) := M.run_of_path _ [tT, tT, tT, tT, tT, tT, tT, tT, tT, tT, tT, tT, tT, fF] _ _ (by kernel_rfl) (all_t rfl (all_t rfl (all_t rfl (all_t c20 (all_t c20 (all_t c20 (all_t c20 (all_t rfl (all_t c20 (all_t c20 (all_t c20 (all_t c20 (all_t c20 (all_f c30 all_nil))))))))))))))
                have hs1 : (turns (hds 15 3610) 0 3610 (cb2 m) (m + 22) p15_e14 (p15_e20 x0)).run = some (.exit 0, p15_e5, (p15_e20 x0)) := Eq.mp (by kernel_rfl) hp2
                have hp1 := turns_step ht1 hs1
                have ht0 : (turn (hds 15 3610) 0 3610 (cb2 m) p15_e6 (p15_e20 x0)).run = some (.normal, p15_e13, (p15_e20 x0)) := M.run_of_path _ [tT, tT, tT, tT, tT, tT, tT, tT, tT, tT, tT, tT, tT, fF] _ _ (by kernel_rfl) (all_t rfl (all_t rfl (all_t rfl (all_t c6 (all_t c6 (all_t c6 (all_t c6 (all_t rfl (all_t c6 (all_t c6 (all_t c6 (all_t c6 (all_t c6 (all_f c16 all_nil))))))))))))))
                have hs0 : (turns (hds 15 3610) 0 3610 (cb2 m) (m + 23) p15_e13 (p15_e20 x0)).run = some (.exit 0, p15_e5, (p15_e20 x0)) := Eq.mp (by kernel_rfl) hp1
                have hp0 := turns_step ht0 hs0
                exact Eq.trans (Eq.mp (by kernel_rfl) hp0) hq
              cases hp
          · skip
            cases h
            refine ⟨(.d (.sl (.pair .str .str) ([] : Q5))), [], runT_ok (LS := (fun k => if k = 3610 then some (.exit 0, p15_e5, (p15_e20 x0)) else none)) (fn := fn15) (vis := [(3610, p15_e6, (p15_e20 x0))]) (by kernel_rfl) rfl (by kernel_rfl) (M.run_of_path _ [tT, tT, tT, tT] _ _ (by kernel_rfl) (all_t rfl (all_t rfl (all_t rfl (all_t rfl all_nil))))) ?_, by simp, (wkR.one (wkV.one (wk1.eq rfl))), trivial⟩
            intro p hp p2 hq
            rcases List.mem_cons.1 hp with rfl | hp
            · skip
              have ht3 : (turn (hds 15 3610) 0 3610 (cb2 m) p15_e15 (p15_e20 x0)).run = some (.exit 0, p15_e5, (p15_e20 x0)) := M.run_of_path _ [fF] _ _ (by kernel_rfl) (all_f Bool.false_ne_true all_nil)
              have hp3 := turns_last (n := m + 20) (by simp) ht3
              have ht2 : (turn (hds 15 3610) 0 3610 (cb2 m) p15_e14 (p15_e20 x0)).run = some (.normal, p15_e15, (p15_e20 x0)) := M.run_of_path _ [tT, tT, tT, fF, fF, fF, fF, fF, fF, fF, fF, fF] _ _ (by kernel_rfl) (all_t rfl (all_t rfl (all_t rfl (all_f c34 (all_f c34 (all_f c34 (all_f c34 (all_f c34 (all_f c34 (all_f c34 (all_f c34 (all_f Bool.false_ne_true all_nil))))))))))))
              have hs2 : (turns (hds 15 3610) 0 3610 (cb2 m) (m + 21) p15_e15 (p15_e20 x0)).run = some (.exit 0, p15_e5, (p15_e20 x0)) := Eq.mp (by kernel_rfl) hp3
              have hp2 := turns_step ht2 hs2
              have ht1 : (turn (hds 15 3610) 0 3610 (cb2 m) p15_e13 (p15_e20 x0)).run = some (.normal, p15_e14, (p15_e20 x0)) := M.run_of_path _ [tT, tT, tT, tT, tT, tT, tT, tT, tT, tT, tT, tT, tT, fF] _ _ (by kernel_rfl) (all_t rfl (all_t rfl (all_t rfl (all_t c20 (all_t c20 (all_t c20 (all_t c20 (all_t rfl (all_t c20 (all_t c20 (all_t c20 (all_t c20 (all_t c20 (all_f c30 all_nil))))))))))))))
              have hs1 : (turns (hds 15 3610) 0 3610 (cb2 m) (m + 22) p15_e14 (p15_e20 x0)).run = some (.exit 0, p15_e5, (p15_e20 x0)) := Eq.mp (by kernel_rfl) hp2
              have hp1 := turns_step ht1 hs1
              have ht0 : (turn (hds 15 3610) 0 3610 (cb2 m) p15_e6 (p15_e20 x0)).run = some (.normal, p15_e13, (p15_e20 x0)) := M.run_of_path _ [tT, tT, tT, tT, tT, tT, tT, tT, tT, tT, tT, tT, tT, fF] _ _ (by kernel_rfl) (all_t rfl (all_t rfl (all_t rfl (all_t c6 (all_t c6 (all_t c6 (all_t c6 (all_t rfl (all_t c6 (all_t c6 (all_t c6 (all_t c6 (all_t c6 (all_f c16 all_nil))))))))))))))
              have hs0 : (turns (hds 15 3610) 0 3610 (cb2 m) (m + 23) p15_e13 (p15_e20 x0)).run = some (.exit 0, p15_e5, (p15_e20 x0)) := Eq.mp (by kernel_rfl) hp1
              have hp0 := turns_step ht0 hs0
              exact Eq.trans (Eq.mp (by kernel_rfl) hp0) hq
            cases hp
      · skip
        refine ite_cases h (fun c32 h => ?_) (fun c32 h => ?_)
        · skip
          refine ite_cases h (fun c42 h => ?_) (fun c42 h => ?_)
          · skip
            obtain ⟨c43, h⟩ := iY h
            obtain ⟨c45, h⟩ := iY h
            obtain ⟨c46, h⟩ := iY h
            cases h
            refine ⟨(.d (.sl (.pair .str .str) [(([99] : Q8), (p15_k3 x0))])), [], runT_ok (LS := (fun k => if k = 3610 then some (.exit 0, p15_e4, (p15_e23 x0)) else none)) (fn := fn15) (vis := [(3610, p15_e6, (p15_e20 x0))]) (by kernel_rfl) rfl (by kernel_rfl) (M.run_of_path _ [tT, tT, tT, tT] _ _ (by kernel_rfl) (all_t rfl (all_t rfl (all_t rfl (all_t rfl all_nil))))) ?_, by simp, (wkR.one (wkV.one (wk1.eq rfl))), trivial⟩
            intro p hp p2 hq
            rcases List.mem_cons.1 hp with rfl | hp
            · skip
              have ht3 : (turn (hds 15 3610) 0 3610 (cb2 m) p15_e12 (p15_e23 x0)).run = some (.exit 0, p15_e4, (p15_e23 x0)) := M.run_of_path _ [fF] _ _ (by kernel_rfl) (all_f Bool.false_ne_true all_nil)
              have hp3 := turns_last (n := m + 20) (by simp) ht3
              have ht2 : (turn (hds 15 3610) 0 3610 (cb2 m) p15_e14 (p15_e20 x0)).run = some (.normal, p15_e12, (p15_e23 x0)) := M.run_of_path _ [tT, tT, tT, tT, tT, tT, tT, tT, tT, tT, tT, tT, tT, tT, tT, tT, tT, tT, tT, tT, tT] _ _ (by kernel_rfl) (all_t rfl (all_t rfl (all_t rfl (all_t c32 (all_t c32 (all_t c32 (all_t c32 (all_t rfl (all_t c32 (all_t c32 (all_t c32 (all_t c32 (all_t c32 (all_t c42 (all_t c43 (all_t rfl (all_t c45 (all_t c46 (all_t rfl (all_t rfl (all_t rfl all_nil)))))))))))))))))))))
              have hs2 : (turns (hds 15 3610) 0 3610 (cb2 m) (m + 21) p15_e12 (p15_e23 x0)).run = some (.exit 0, p15_e4, (p15_e23 x0)) := Eq.mp (by kernel_rfl) hp3
              have hp2 := turns_step ht2 hs2
              have ht1 : (turn (hds 15 3610) 0 3610 (cb2 m) p15_e13 (p15_e20 x0)).run = some (.normal, p15_e14, (p15_e20 x0)) := M.run_of_path _ [tT, tT, tT, fF, fF, fF, fF, fF, fF, fF, fF, fF] _ _ (by kernel_rfl) (all_t rfl (all_t rfl (all_t rfl (all_f c20 (all_f c20 (all_f c20 (all_f c20 (all_f c20 (all_f c20 (all_f c20 (all_f c20 (all_f Bool.false_ne_true all_nil))))))))))))
              have hs1 : (turns (hds 15 3610) 0 3610 (cb2 m) (m + 22) p15_e14 (p15_e20 x0)).run = some (.exit 0, p15_e4, (p15_e23 x0)) := Eq.mp (by kernel_rfl) hp2
              have hp1 := turns_step ht1 hs1
              have ht0 : (turn (hds 15 3610) 0 3610 (cb2 m) p15_e6 (p15_e20 x0)).run = some (.normal, p15_e13, (p15_e20 x0)) := M.run_of_path _ [tT, tT, tT, tT, tT, tT, tT, tT, tT, tT, tT, tT, tT, fF] _ _ (by kernel_rfl) (all_t rfl (all_t rfl (all_t rfl (all_t c6 (all_t c6 (all_t c6 (all_t c6 (all_t rfl (all_t c6 (all_t c6 (all_t c6 (all_t c6 (all_t c6 (all_f c16 all_nil))))))))))))))
              have hs0 : (turns (hds 15 3610) 0 3610 (cb2 m) (m + 23) p15_e13 (p15_e20 x0)).run = some (.exit 0, p15_e4, (p15_e23 x0)) := Eq.mp (by kernel_rfl) hp1
              have hp0 := turns_step ht0 hs0
              exact Eq.trans (Eq.mp (by kernel_rfl) hp0) hq
            cases hp
          · skip
            cases h
            refine ⟨(.d (.sl (.pair .str .str) ([] : Q5))), [], runT_ok (LS := (fun k => if k = 3610 then some (.exit 0, p15_e5, (p15_e20 x0)) else none)) (fn := fn15) (vis := [(3610, p15_e6, (p15_e20 x0))]) (by kernel_rfl) rfl (by kernel_rfl) (M.run_of_path _ [tT, tT, tT, tT] _ _ (by kernel_rfl) (all_t rfl (all_t rfl (all_t rfl (all_t rfl all_nil))))) ?_, by simp, (wkR.one (wkV.one (wk1.eq rfl))), trivial⟩
            intro p hp p2 hq
            rcases List.mem_cons.1 hp with rfl | hp
            · skip
              have ht3 : (turn (hds 15 3610) 0 3610 (cb2 m) p15_e15 (p15_e20 x0)).run = some (.exit 0, p15_e5, (p15_e20 x0)) := M.run_of_path _ [fF] _ _ (by kernel_rfl) (all_f Bool.false_ne_true all_nil)
              have hp3 := turns_last (n := m + 20) (by simp) ht3
              have ht2 : (turn (hds 15 3610) 0 3610 (cb2 m) p15_e14 (p15_e20 x0)).run = some (.normal, p15_e15, (p15_e20 x0)) := M.run_of_path _ [tT, tT, tT, tT, tT, tT, tT, tT, tT, tT, tT, tT, tT, fF] _ _ (by kernel_rfl) (all_t rfl (all_t rfl (all_t rfl (all_t c32 (all_t c32 (all_t c32 (all_t c32 (all_t rfl (all_t c32 (all_t c32 (all_t c32 (all_t c32 (all_t c32 (all_f c42 all_nil))))))))))))))
              have hs2 : (turns (hds 15 3610) 0 3610 (cb2 m) (m + 21) p15_e15 (p15_e20 x0)).run = some (.exit 0, p15_e5, (p15_e20 x0)) := Eq.mp (by kernel_rfl) hp3
              have hp2 := turns_step ht2 hs2
              have ht1 : (turn (hds 15 3610) 0 3610 (cb2 m) p15_e13 (p15_e20 x0)).run = some (.normal, p15_e14, (p15_e20 x0)) := M.run_of_path _ [tT, tT, tT, fF, fF, fF, fF, fF, fF, fF, fF, fF] _ _ (by kernel_rfl) (all_t rfl (all_t rfl (all_t rfl (all_f c20 (all_f c20 (all_f c20 (all_f c20 (all_f c20 (all_f c20 (all_f c20 (all_f c20 (all_f Bool.false_ne_true all_nil))))))))))))
              have hs1 : (turns (hds 15 3610) 0 3610 (cb2 m) (m + 22) p15_e14 (p15_e20 x0)).run = some (.exit 0, p15_e5, (p15_e20 x0)) := Eq.mp (by kernel_rfl) hp2
              have hp1 := turns_step ht1 hs1
              have ht0 : (turn (hds 15 3610) 0 3610 (cb2 m) p15_e6 (p15_e20 x0)).run = some (.normal, p15_e13, (p15_e20 x0)) := M.run_of_path _ [tT, tT, tT, tT, tT, tT, tT, tT, tT, tT, tT, tT, tT, fF] _ _ (by kernel_rfl) (all_t rfl (all_t rfl (all_t rfl (all_t c6 (all_t c6 (all_t c6 (all_t c6 (all_t rfl (all_t c6 (all_t c6 (all_t c6 (all_t c6 (all_t c6 (all_f c16 all_nil))))))))))))))
              have hs0 : (turns (hds 15 3610) 0 3610 (cb2 m) (m + 23) p15_e13 (p15_e20 x0)).run = some (.exit 0, p15_e5, (p15_e20 x0)) := Eq.mp (by kernel_rfl) hp1
              have hp0 := turns_step ht0 hs0
              exact Eq.trans (Eq.mp (by kernel_rfl) hp0) hq
            cases hp
        · skip
          cases h
          refine ⟨(.d (.sl (.pair .str .str) ([] : Q5))), [], runT_ok (LS := (fun k => if k = 3610 then some (.exit 0, p15_e5, (p15_e20 x0)) else none)) (fn := fn15) (vis := [(3610, p15_e6, (p15_e20 x0))]) (by kernel_rfl) rfl (by kernel_rfl) (M.run_of_path _ [tT, tT, tT, tT] _ _ (by kernel_rfl) (all_t rfl (all_t rfl (all_t rfl (all_t rfl all_nil))))) ?_, by simp, (wkR.one (wkV.one (wk1.eq rfl))), trivial⟩
          intro p hp p2 hq
          rcases List.mem_cons.1 hp with rfl | hp
          · skip
            have ht3 : (turn (hds 15 3610) 0 3610 (cb2 m) p15_e15 (p15_e20 x0)).run = some (.exit 0, p15_e5, (p15_e20 x0)) := M.run_of_path _ [fF] _ _ (by kernel_rfl) (all_f Bool.false_ne_true all_nil)
            have hp3 := turns_last (n := m + 20) (by simp) ht3
            have ht2 : (turn (hds 15 3610) 0 3610 (cb2 m) p15_e14 (p15_e20 x0)).run = some (.normal, p15_e15, (p15_e20 x0)) := M.run_of_path _ [tT, tT, tT, fF, fF, fF, fF, fF, fF, fF, fF, fF] _ _ (by kernel_rfl) (all_t rfl (all_t rfl (all_t rfl (all_f c32 (all_f c32 (all_f c32 (all_f c32 (all_f c32 (all_f c32 (all_f c32 (all_f c32 (all_f Bool.false_ne_true all_nil))))))))))))
            have hs2 : (turns (hds 15 3610) 0 3610 (cb2 m) (m + 21) p15_e15 (p15_e20 x0)).run = some (.exit 0, p15_e5, (p15_e20 x0)) := Eq.mp (by kernel_rfl) hp3
            have hp2 := turns_step ht2 hs2
            have ht1 : (turn (hds 15 3610) 0 3610 (cb2 m) p15_e13 (p15_e20 x0)).run = some (.normal, p15_e14, (p15_e20 x0)) := M.run_of_path _ [tT, tT, tT, fF, fF, fF, fF, fF, fF, fF, fF, fF] _ _ (by kernel_rfl) (all_t rfl (all_t rfl (all_t rfl (all_f c20 (all_f c20 (all_f c20 (all_f c20 (all_f c20 (all_f c20 (all_f c20 (all_f c20 (all_f Bool.false_ne_true all_nil))))))))))))
            have hs1 : (turns (hds 15 3610) 0 3610 (cb2 m) (m + 22) p15_e14 (p15_e20 x0)).run = some (.exit 0, p15_e5, (p15_e20 x0)) := Eq.mp (by kernel_rfl) hp2
            have hp1 := turns_step ht1 hs1
            have ht0 : (turn (hds 15 3610) 0 3610 (cb2 m) p15_e6 (p15_e20 x0)).run = some (.normal, p15_e13, (p15_e20 x0)) := M.run_of_path _ [tT, tT, tT, tT, tT, tT, tT, tT, tT, tT, tT, tT, tT, fF] _ _ (by kernel_rfl) (all_t rfl (all_t rfl (all_t rfl (all_t c6 (all_t c6 (all_t c6 (all_t c6 (all_t rfl (all_t c6 (all_t c6 (all_t c6 (all_t c6 (all_t c6 (all_f c16 all_nil))))))))))))))
            have hs0 : (turns (hds 15 3610) 0 3610 (cb2 m) (m + 23) p15_e13 (p15_e20 x0)).run = some (.exit 0, p15_e5, (p15_e20 x0)) := Eq.mp (by kernel_rfl) hp1
            have hp0 := turns_step ht0 hs0
            exact Eq.trans (Eq.mp (by kernel_rfl) hp0) hq
          cases hp
  · skip
    refine ite_cases h (fun c18 h => ?_) (fun c18 h => ?_)
    · skip
      refine ite_cases h (fun c28 h => ?_) (fun c28 h => ?_)
      · skip
        obtain ⟨c29, h⟩ := iY h
        obtain ⟨c31, h⟩ := iY h
        obtain ⟨c32, h⟩ := iY h
        refine ite_cases h (fun c39 h => ?_) (fun c39 h => ?_)
        · skip
          refine ite_cases h (fun c49 h => ?_) (fun c49 h => ?_)
          · skip
            obtain ⟨c50, h⟩ := iY h
            obtain ⟨c52, h⟩ := iY h
            obtain ⟨c53, h⟩ := iY h
            cases h
            refine ⟨(.d (.sl (.pair .str .str) [(([98] : Q8), (p15_k2 x0)), (([99] : Q8), (p15_k3 x0))])), [], runT_ok (LS := (fun k => if k = 3610 then some (.exit 0, p15_e3, (p15_e19 x0)) else none)) (fn := fn15) (vis := [(3610, p15_e6, (p15_e20 x0))]) (by kernel_rfl) rfl (by kernel_rfl) (M.run_of_path _ [tT, tT, tT, tT] _ _ (by kernel_rfl) (all_t rfl (all_t rfl (all_t rfl (all_t rfl all_nil))))) ?_, by simp, (wkR.one (wkV.one (wk1.eq rfl))), trivial⟩
            intro p hp p2 hq
            rcases List.mem_cons.1 hp with rfl | hp
            · skip
              have ht3 : (turn (hds 15 3610) 0 3610 (cb2 m) p15_e10 (p15_e19 x0)).run = some (.exit 0, p15_e3, (p15_e19 x0)) := M.run_of_path _ [fF] _ _ (by kernel_rfl) (all_f Bool.false_ne_true all_nil)
              have hp3 := turns_last (n := m + 20) (by simp) ht3
              have ht2 : (turn (hds 15 3610) 0 3610 (cb2 m) p15_e11 (p15_e22 x0)).run = some (.normal, p15_e10, (p15_e19 x0)) := M.run_of_path _ [tT, tT, tT, tT, tT, tT, tT, tT, tT, tT, tT, tT, tT, tT, tT, tT, tT, tT, tT, tT, tT] _ _ (by kernel_rfl) (all_t rfl (all_t rfl (all_t rfl (all_t c39 (all_t c39 (all_t c39 (all_t c39 (all_t rfl (all_t c39 (all_t c39 (all_t c39 (all_t c39 (all_t c39 (all_t c49 (all_t c50 (all_t rfl (all_t c52 (all_t c53 (all_t rfl (all_t rfl (all_t rfl all_nil)))))))))))))))))))))
              have hs2 : (turns (hds 15 3610) 0 3610 (cb2 m) (m + 21) p15_e10 (p15_e19 x0)).run = some (.exit 0, p15_e3, (p15_e19 x0)) := Eq.mp (by kernel_rfl) hp3
              have hp2 := turns_step ht2 hs2
              have ht1 : (turn (hds 15 3610) 0 3610 (cb2 m) p15_e13 (p15_e20 x0)).run = some (.normal, p15_e11, (p15_e22 x0)) := M.run_of_path _ [tT, tT, tT, tT, tT, tT, tT, tT, tT, tT, tT, tT, tT, tT, tT, tT, tT, tT, tT, tT, tT] _ _ (by kernel_rfl) (all_t rfl (all_t rfl (all_t rfl (all_t c18 (all_t c18 (all_t c18 (all_t c18 (all_t rfl (all_t c18 (all_t c18 (all_t c18 (all_t c18 (all_t c18 (all_t c28 (all_t c29 (all_t rfl (all_t c31 (all_t c32 (all_t rfl (all_t rfl (all_t rfl all_nil)))))))))))))))))))))
              have hs1 : (turns (hds 15 3610) 0 3610 (cb2 m) (m + 22) p15_e11 (p15_e22 x0)).run = some (.exit 0, p15_e3, (p15_e19 x0)) := Eq.mp (by kernel_rfl) hp2
              have hp1 := turns_step ht1 hs1
              have ht0 : (turn (hds 15 3610) 0 3610 (cb2 m) p15_e6 (p15_e20 x0)).run = some (.normal, p15_e13, (p15_e20 x0)) := M.run_of_path _ [tT, tT, tT, fF, fF, fF, fF, fF, fF, fF, fF, fF] _ _ (by kernel_rfl) (all_t rfl (all_t rfl (all_t rfl (all_f c6 (all_f c6 (all_f c6 (all_f c6 (all_f c6 (all_f c6 (all_f c6 (all_f c6 (all_f Bool.false_ne_true all_nil))))))))))))
              have hs0 : (turns (hds 15 3610) 0 3610 (cb2 m) (m + 23) p15_e13 (p15_e20 x0)).run = some (.exit 0, p15_e3, (p15_e19 x0)) := Eq.mp (by kernel_rfl) hp1
              have hp0 := turns_step ht0 hs0
              exact Eq.trans (Eq.mp (by kernel_rfl) hp0) hq
            cases hp
          · skip
            cases h
            refine ⟨(.d (.sl (.pair .str .str) [(([98] : Q8), (p15_k2 x0))])), [], runT_ok (LS := (fun k => if k = 3610 then some (.exit 0, p15_e4, (p15_e22 x0)) else none)) (fn := fn15) (vis := [(3610, p15_e6, (p15_e20 x0))]) (by kernel_rfl) rfl (by kernel_rfl) (M.run_of_path _ [tT, tT, tT, tT] _ _ (by kernel_rfl) (all_t rfl (all_t rfl (all_t rfl (all_t rfl all_nil))))) ?_, by simp, (wkR.one (wkV.one (wk1.eq rfl))), trivial⟩
            intro p hp p2 hq
            rcases List.mem_cons.1 hp with rfl | hp
            · skip
              have ht3 : (turn (hds 15 3610) 0 3610 (cb2 m) p15_e12 (p15_e22 x0)).run = some (.exit 0, p15_e4, (p15_e22 x0)) := M.run_of_path _ [fF] _ _ (by kernel_rfl) (all_f Bool.false_ne_true all_nil)
              have hp3 := turns_last (n := m + 20) (by simp) ht3
              have ht2 : (turn (hds 15 3610) 0 3610 (cb2 m) p15_e11 (p15_e22 x0)).run = some (.normal, p15_e12, (p15_e22 x0)) := M.run_of_path _ [tT, tT, tT, tT, tT, tT, tT, tT, tT, tT, tT, tT, tT, fF] _ _ (by kernel_rfl) (all_t rfl (all_t rfl (all_t rfl (all_t c39 (all_t c39 (all_t c39 (all_t c39 (all_t rfl (all_t c39 (all_t c39 (all_t c39 (all_t c39 (all_t c39 (all_f c49 all_nil))))))))))))))
              have hs2 : (turns (hds 15 3610) 0 3610 (cb2 m) (m + 21) p15_e12 (p15_e22 x0)).run = some (.exit 0, p15_e4, (p15_e22 x0)) := Eq.mp (by kernel_rfl) hp3
              have hp2 := turns_step ht2 hs2
              have ht1 : (turn (hds 15 3610) 0 3610 (cb2 m) p15_e13 (p15_e20 x0)).run = some (.normal, p15_e11, (p15_e22 x0)) := M.run_of_path _ [tT, tT, tT, tT, tT, tT, tT, tT, tT, tT, tT, tT, tT, tT, tT, tT, tT, tT, tT, tT, tT] _ _ (by kernel_rfl) (all_t rfl (all_t rfl (all_t rfl (all_t c18 (all_t c18 (all_t c18 (all_t c18 (all_t rfl (all_t c18 (all_t c18 (all_t c18 (all_t c18 (all_t c18 (all_t c28 (all_t c29 (all_t rfl (all_t c31 (all_t c32 (all_t rfl (all_t rfl (all_t rfl all_nil)))))))))))))))))))))
              have hs1 : (turns (hds 15 3610) 0 3610 (cb2 m) (m + 22) p15_e11 (p15_e22 x0)).run = some (.exit 0, p15_e4, (p15_e22 x0)) := Eq.mp (by kernel_rfl) hp2
              have hp1 := turns_step ht1 hs1
              have ht0 : (turn (hds 15 3610) 0 3610 (cb2 m) p15_e6 (p15_e20 x0)).run = some (.normal, p15_e13, (p15_e20 x0)) := M.run_of_path _ [tT, tT, tT, fF, fF, fF, fF, fF, fF, fF, fF, fF] _ _ (by kernel_rfl) (all_t rfl (all_t rfl (all_t rfl (all_f c6 (all_f c6 (all_f c6 (all_f c6 (all_f c6 (all_f c6 (all_f c6 (all_f c6 (all_f Bool.false_ne_true all_nil))))))))))))
              have hs0 : (turns (hds 15 3610) 0 3610 (cb2 m) (m + 23) p15_e13 (p15_e20 x0)).run = some (.exit 0, p15_e4, (p15_e22 x0)) := Eq.mp (by kernel_rfl) hp1
              have hp0 := turns_step ht0 hs0
              exact Eq.trans (Eq.mp (by kernel_rfl) hp0) hq
            cases hp
        · skip
          cases h
          refine ⟨(.d (.sl (.pair .str .str) [(([98] : Q8), (p15_k2 x0))])), [], runT_ok (LS := (fun k => if k = 3610 then some (.exit 0, p15_e4, (p15_e22 x0)) else none)) (fn := fn15) (vis := [(3610, p15_e6, (p15_e20 x0))]) (by kernel_rfl) rfl (by kernel_rfl) (M.run_of_path _ [tT, tT, tT, tT] _ _ (by kernel_rfl) (all_t rfl (all_t rfl (all_t rfl (all_t rfl all_nil))))) ?_, by simp, (wkR.one (wkV.one (wk1.eq rfl))), trivial⟩
          intro p hp p2 hq
          rcases List.mem_cons.1 hp with rfl | hp
          · skip
            have ht3 : (turn (hds 15 3610) 0 3610 (cb2 m) p15_e12 (p15_e22 x0)).run = some (.exit 0, p15_e4, (p15_e22 x0)) := M.run_of_path _ [fF] _ _ (by kernel_rfl) (all_f Bool.false_ne_true all_nil)
            have hp3 := turns_last (n := m + 20) (by simp) ht3
            have ht2 : (turn (hds 15 3610) 0 3610 (cb2 m) p15_e11 (p15_e22 x0)).run = some (.normal, p15_e12, (p15_e22 x0)) := M.run_of_path _ [tT, tT, tT, fF, fF, fF, fF, fF, fF, fF, fF, fF] _ _ (by kernel_rfl) (all_t rfl (all_t rfl (all_t rfl (all_f c39 (all_f c39 (all_f c39 (all_f c39 (all_f c39 (all_f c39 (all_f c39 (all_f c39 (all_f Bool.false_ne_true all_nil))))))))))))
            have hs2 : (turns (hds 15 3610) 0 3610 (cb2 m) (m + 21) p15_e12 (p15_e22 x0)).run = some (.exit 0, p15_e4, (p15_e22 x0)) := Eq.mp (by kernel_rfl) hp3
            have hp2 := turns_step ht2 hs2
            have ht1 : (turn (hds 15 3610) 0 3610 (cb2 m) p15_e13 (p15_e20 x0)).run = some (.normal, p15_e11, (p15_e22 x0)) := M.run_of_path _ [tT, tT, tT, tT, tT, tT, tT, tT, tT, tT, tT, tT, tT, tT, tT, tT, tT, tT, tT, tT, tT] _ _ (by kernel_rfl) (all_t rfl (all_t rfl (all_t rfl (all_t c18 (all_t c18 (all_t c18 (all_t c18 (all_t rfl (all_t c18 (all_t c18 (all_t c18 (all_t c18 (all_t c18 (all_t c28 (all_t c29 (all_t rfl (all_t c31 (all_t c32 (all_t rfl (all_t rfl (all_t rfl all_nil)))))))))))))))))))))
            have hs1 : (turns (hds 15 3610) 0 3610 (cb2 m) (m + 22) p15_e11 (p15_e22 x0)).run = some (.exit 0, p15_e4, (p15_e22 x0)) := Eq.mp (by kernel_rfl) hp2
            have hp1 := turns_step ht1 hs1
            have ht0 : (turn (hds 15 3610) 0 3610 (cb2 m) p15_e6 (p15_e20 x0)).run = some (.normal, p15_e13, (p15_e20 x0)) := M.run_of_path _ [tT, tT, tT, fF, fF, fF, fF, fF, fF, fF, fF, fF] _ _ (by kernel_rfl) (all_t rfl (all_t rfl (all_t rfl (all_f c6 (all_f c6 (all_f c6 (all_f c6 (all_f c6 (all_f c6 (all_f c6 (all_f c6 (all_f Bool.false_ne_true all_nil))))))))))))
            have hs0 : (turns (hds 15 3610) 0 3610 (cb2 m) (m + 23) p15_e13 (p15_e20 x0)).run = some (.exit 0, p15_e4, (p15_e22 x0)) := Eq.mp (by kernel_rfl) hp1
            have hp0 := turns_step ht0 hs0
            exact Eq.trans (Eq.mp (by kernel_rfl) hp0) hq
          cases hp
      · skip
        refine ite_cases h (fun c32 h => ?_) (fun c32 h => ?_)
        · skip
          refine ite_cases h (fun c42 h => ?_) (fun c42 h => ?_)
          · skip
            obtain ⟨c43, h⟩ := iY h
            obtain ⟨c45, h⟩ := iY h
            obtain ⟨c46, h⟩ := iY h
            cases h
            refine ⟨(.d (.sl (.pair .str .str) [(([99] : Q8), (p15_k3 x0))])), [], runT_ok (LS := (fun k => if k = 3610 then some (.exit 0, p15_e4, (p15_e23 x0)) else none)) (fn := fn15) (vis := [(3610, p15_e6, (p15_e20 x0))]) (by kernel_rfl) rfl (by kernel_rfl) (M.run_of_path _ [tT, tT, tT, tT] _ _ (by kernel_rfl) (all_t rfl (all_t rfl (all_t rfl (all_t rfl all_nil))))) ?_, by simp, (wkR.one (wkV.one (wk1.eq rfl))), trivial⟩
            intro p hp p2 hq
            rcases List.mem_cons.1 hp with rfl | hp
            · skip
              have ht3 : (turn (hds 15 3610) 0 3610 (cb2 m) p15_e12 (p15_e23 x0)).run = some (.exit 0, p15_e4, (p15_e23 x0)) := M.run_of_path _ [fF] _ _ (by kernel_rfl) (all_f Bool.false_ne_true all_nil)
              have hp3 := turns_last (n := m + 20) (by simp) ht3
              have ht2 : (turn (hds 15 3610) 0 3610 (cb2 m) p15_e14 (p15_e20 x0)).run = some (.normal, p15_e12, (p15_e23 x0)) := M.run_of_path _ [tT, tT, tT, tT, tT, tT, tT, tT, tT, tT, tT, tT, tT, tT, tT, tT, tT, tT, tT, tT, tT] _ _ (by kernel_rfl) (all_t rfl (all_t rfl (all_t rfl (all_t c32 (all_t c32 (all_t c32 (all_t c32 (all_t rfl (all_t c32 (all_t c32 (all_t c32 (all_t c32 (all_t c32 (all_t c42 (all_t c43 (all_t rfl (all_t c45 (all_t c46 (all_t rfl (all_t rfl (all_t rfl all_nil)))))))))))))))))))))
              have hs2 : (turns (hds 15 3610) 0 3610 (cb2 m) (m + 21) p15_e12 (p15_e23 x0)).run = some (.exit 0, p15_e4, (p15_e23 x0)) := Eq.mp (by kernel_rfl) hp3
              have hp2 := turns_step ht2 hs2
              have ht1 : (turn (hds 15 3610) 0 3610 (cb2 m) p15_e13 (p15_e20 x0)).run = some (.normal, p15_e14, (p15_e20 x0)) := M.run_of_path _ [tT, tT, tT, tT, tT, tT, tT, tT, tT, tT, tT, tT, tT, fF] _ _ (by kernel_rfl) (all_t rfl (all_t rfl (all_t rfl (all_t c18 (all_t c18 (all_t c18 (all_t c18 (all_t rfl (all_t c18 (all_t c18 (all_t c18 (all_t c18 (all_t c18 (all_f c28 all_nil))))))))))))))
              have hs1 : (turns (hds 15 3610) 0 3610 (cb2 m) (m + 22) p15_e14 (p15_e20 x0)).run = some (.exit 0, p15_e4, (p15_e23 x0)) := Eq.mp (by kernel_rfl) hp2
              have hp1 := turns_step ht1 hs1
              have ht0 : (turn (hds 15 3610) 0 3610 (cb2 m) p15_e6 (p15_e20 x0)).run = some (.normal, p15_e13, (p15_e20 x0)) := M.run_of_path _ [tT, tT, tT, fF, fF, fF, fF, fF, fF, fF, fF, fF] _ _ (by kernel_rfl) (all_t rfl (all_t rfl (all_t rfl (all_f c6 (all_f c6 (all_f c6 (all_f c6 (all_f c6 (all_f c6 (all_f c6 (all_f c6 (all_f Bool.false_ne_true all_nil))))))))))))
              have hs0 : (turns (hds 15 3610) 0 3610 (cb2 m) (m + 23) p15_e13 (p15_e20 x0)).run = some (.exit 0, p15_e4, (p15_e23 x0)) := Eq.mp (by kernel_rfl) hp1
              have hp0 := turns_step ht0 hs0
              exact Eq.trans (Eq.mp (by kernel_rfl) hp0) hq
            cases hp
          · skip
            cases h
            refine ⟨(.d (.sl (.pair .str .str) ([] : Q5))), [], runT_ok (LS := (fun k => if k = 3610 then some (.exit 0, p15_e5, (p15_e20 x0)) else none)) (fn := fn15) (vis := [(3610, p15_e6, (p15_e20 x0))]) (by kernel_rfl) rfl (by kernel_rfl) (M.run_of_path _ [tT, tT, tT, tT] _ _ (by kernel_rfl) (all_t rfl (all_t rfl (all_t rfl (all_t rfl all_nil))))) ?_, by simp, (wkR.one (wkV.one (wk1.eq rfl))), trivial⟩
            intro p hp p2 hq
            rcases List.mem_cons.1 hp with rfl | hp
            · skip
              have ht3 : (turn (hds 15 3610) 0 3610 (cb2 m) p15_e15 (p15_e20 x0)).run = some (.exit 0, p15_e5, (p15_e20 x0)) := M.run_of_path _ [fF] _ _ (by kernel_rfl) (all_f Bool.false_ne_true all_nil)
              have hp3 := turns_last (n := m + 20) (by simp) ht3
              have ht2 : (turn (hds 15 3610) 0 3610 (cb2 m) p15_e14 (p15_e20 x0)).run = some (.normal, p15_e15, (p15_e20 x0)) := M.run_of_path _ [tT, tT, tT, tT, tT, tT, tT, tT, tT, tT, tT, tT, tT, fF] _ _ (by kernel_rfl) (all_t rfl (all_t rfl (all_t rfl (all_t c32 (all_t c32 (all_t c32 (all_t c32 (all_t rfl (all_t c32 (all_t c32 (all_t c32 (all_t c32 (all_t c32 (all_f c42 all_nil))))))))))))))
              have hs2 : (turns (hds 15 3610) 0 3610 (cb2 m) (m + 21) p15_e15 (p15_e20 x0)).run = some (.exit 0, p15_e5, (p15_e20 x0)) := Eq.mp (by kernel_rfl) hp3
              have hp2 := turns_step ht2 hs2
              have ht1 : (turn (hds 15 3610) 0 3610 (cb2 m) p15_e13 (p15_e20 x0)).run = some (.normal, p15_e14, (p15_e20 x0)) := M.run_of_path _ [tT, tT, tT, tT, tT, tT, tT, tT, tT, tT, tT, tT, tT, fF] _ _ (by kernel_rfl) (all_t rfl (all_t rfl (all_t rfl (all_t c18 (all_t c18 (all_t c18 (all_t c18 (all_t rfl (all_t c18 (all_t c18 (all_t c18 (all_t c18 (all_t c18 (all_f c28 all_nil))))))))))))))
              have hs1 : (turns (hds 15 3610) 0 3610 (cb2 m) (m + 22) p15_e14 (p15_e20 x0)).run = some (.exit 0, p15_e5, (p15_e20 x0)) := Eq.mp (by kernel_rfl) hp2
              have hp1 := turns_step ht1 hs1
              have ht0 : (turn (hds 15 3610) 0 3610 (cb2 m) p15_e6 (p15_e20 x0)).run = some (.normal, p15_e13, (p15_e20 x0)) := M.run_of_path _ [tT, tT, tT, fF, fF, fF, fF, fF, fF, fF, fF, fF] _ _ (by kernel_rfl) (all_t rfl (all_t rfl (all_t rfl (all_f c6 (all_f c6 (all_f c6 (all_f c6 (all_f c6 (all_f c6 (all_f c6 (all_f c6 (all_f Bool.false_ne_true all_nil))))))))))))
              have hs0 : (turns (hds 15 3610) 0 3610 (cb2 m) (m + 23) p15_e13 (p15_e20 x0)).run = some (.exit 0, p15_e5, (p15_e20 x0)) := Eq.mp (by kernel_rfl) hp1
              have hp0 := turns_step ht0 hs0
              exact Eq.trans (Eq.mp (by kernel_rfl) hp0) hq
            cases hp
        · skip
          cases h
          refine ⟨(.d (.sl (.pair .str .str) ([] : Q5))), [], runT_ok (LS := (fun k => if k = 3610 then some (.exit 0, p15_e5, (p15_e20 x0)) else none)) (fn := fn15) (vis := [(3610, p15_e6, (p15_e20 x0))]) (by kernel_rfl) rfl (by kernel_rfl) (M.run_of_path _ [tT, tT, tT, tT] _ _ (by kernel_rfl) (all_t rfl (all_t rfl (all_t rfl (all_t rfl all_nil))))) ?_, by simp, (wkR.one (wkV.one (wk1.eq rfl))), trivial⟩
          intro p hp p2 hq
          rcases List.mem_cons.1 hp with rfl | hp
          · skip
            have ht3 : (turn (hds 15 3610) 0 3610 (cb2 m) p15_e15 (p15_e20 x0)).run = some (.exit 0, p15_e5, (p15_e20 x0)) := M.run_of_path _ [fF] _ _ (by kernel_rfl) (all_f Bool.false_ne_true all_nil)
            have hp3 := turns_last (n := m + 20) (by simp) ht3
            have ht2 : (turn (hds 15 3610) 0 3610 (cb2 m) p15_e14 (p15_e20 x0)).run = some (.normal, p15_e15, (p15_e20 x0)) := M.run_of_path _ [tT, tT, tT, fF, fF, fF, fF, fF, fF, fF, fF, fF] _ _ (by kernel_rfl) (all_t rfl (all_t rfl (all_t rfl (all_f c32 (all_f c32 (all_f c32 (all_f c32 (all_f c32 (all_f c32 (all_f c32 (all_f c32 (all_f Bool.false_ne_true all_nil))))))))))))
            have hs2 : (turns (hds 15 3610) 0 3610 (cb2 m) (m + 21) p15_e15 (p15_e20 x0)).run = some (.exit 0, p15_e5, (p15_e20 x0)) := Eq.mp (by kernel_rfl) hp3
            have hp2 := turns_step ht2 hs2
            have ht1 : (turn (hds 15 3610) 0 3610 (cb2 m) p15_e13 (p15_e20 x0)).run = some (.normal, p15_e14, (p15_e20 x0)) := M.run_of_path _ [tT, tT, tT, tT, tT, tT, tT, tT, tT, tT, tT, tT, tT, fF] _ _ (by kernel_rfl) (all_t rfl (all_t rfl (all_t rfl (all_t c18 (all_t c18 (all_t c18 (all_t c18 (all_t rfl (all_t c18 (all_t c18 (all_t c18 (all_t c18 (all_t c18 (all_f c28 all_nil))))))))))))))
            have hs1 : (turns (hds 15 3610) 0 3610 (cb2 m) (m + 22) p15_e14 (p15_e20 x0)).run = some (.exit 0, p15_e5, (p15_e20 x0)) := Eq.mp (by kernel_rfl) hp2
            have hp1 := turns_step ht1 hs1
            have ht0 : (turn (hds 15 3610) 0 3610 (cb2 m) p15_e6 (p15_e20 x0)).run = some (.normal, p15_e13, (p15_e20 x0)) := M.run_of_path _ [tT, tT, tT, fF, fF, fF, fF, fF, fF, fF, fF, fF] _ _ (by kernel_rfl) (all_t rfl (all_t rfl (all_t rfl (all_f c6 (all_f c6 (all_f c6 (all_f c6 (all_f c6 (all_f c6 (all_f c6 (all_f c6 (all_f Bool.false_ne_true all_nil))))))))))))
            have hs0 : (turns (hds 15 3610) 0 3610 (cb2 m) (m + 23) p15_e13 (p15_e20 x0)).run = some (.exit 0, p15_e5, (p15_e20 x0)) := Eq.mp (by kernel_rfl) hp1
            have hp0 := turns_step ht0 hs0
            exact Eq.trans (Eq.mp (by kernel_rfl) hp0) hq
          cases hp
    · skip
      refine ite_cases h (fun c30 h => ?_) (fun c30 h => ?_)
      · skip
        refine ite_cases h (fun c40 h => ?_) (fun c40 h => ?_)
        · skip
          obtain ⟨c41, h⟩ := iY h
          obtain ⟨c43, h⟩ := iY h
          obtain ⟨c44, h⟩ := iY h
          cases h
          refine ⟨(.d (.sl (.pair .str .str) [(([99] : Q8), (p15_k3 x0))])), [], runT_ok (LS := (fun k => if k = 3610 then some (.exit 0, p15_e4, (p15_e23 x0)) else none)) (fn := fn15) (vis := [(3610, p15_e6, (p15_e20 x0))]) (by kernel_rfl) rfl (by kernel_rfl) (M.run_of_path _ [tT, tT, tT, tT] _ _ (by kernel_rfl) (all_t rfl (all_t rfl (all_t rfl (all_t rfl all_nil))))) ?_, by simp, (wkR.one (wkV.one (wk1.eq rfl))), trivial⟩
          intro p hp p2 hq
          rcases List.mem_cons.1 hp with rfl | hp
          · skip
            have ht3 : (turn (hds 15 3610) 0 3610 (cb2 m) p15_e12 (p15_e23 x0)).run = some (.exit 0, p15_e4, (p15_e23 x0)) := M.run_of_path _ [fF] _ _ (by kernel_rfl) (all_f Bool.false_ne_true all_nil)
            have hp3 := turns_last (n := m + 20) (by simp) ht3
            have ht2 : (turn (hds 15 3610) 0 3610 (cb2 m) p15_e14 (p15_e20 x0)).run = some (.normal, p15_e12, (p15_e23 x0)) := M.run_of_path _ [tT, tT, tT, tT, tT, tT, tT, tT, tT, tT, tT, tT, tT, tT, tT, tT, tT, tT, tT, tT, tT] _ _ (by kernel_rfl) (all_t rfl (all_t rfl (all_t rfl (all_t c30 (all_t c30 (all_t c30 (all_t c30 (all_t rfl (all_t c30 (all_t c30 (all_t c30 (all_t c30 (all_t c30 (all_t c40 (all_t c41 (all_t rfl (all_t c43 (all_t c44 (all_t rfl (all_t rfl (all_t rfl all_nil)))))))))))))))))))))
            have hs2 : (turns (hds 15 3610) 0 3610 (cb2 m) (m + 21) p15_e12 (p15_e23 x0)).run = some (.exit 0, p15_e4, (p15_e23 x0)) := Eq.mp (by kernel_rfl) hp3
            have hp2 := turns_step ht2 hs2
            have ht1 : (turn (hds 15 3610) 0 3610 (cb2 m) p15_e13 (p15_e20 x0)).run = some (.normal, p15_e14, (p15_e20 x0)) := M.run_of_path _ [tT, tT, tT, fF, fF, fF, fF, fF, fF, fF, fF, fF] _ _ (by kernel_rfl) (all_t rfl (all_t rfl (all_t rfl (all_f c18 (all_f c18 (all_f c18 (all_f c18 (all_f c18 (all_f c18 (all_f c18 (all_f c18 (all_f Bool.false_ne_true all_nil))))))))))))
            have hs1 : (turns (hds 15 3610) 0 3610 (cb2 m) (m + 22) p15_e14 (p15_e20 x0)).run = some (.exit 0, p15_e4, (p15_e23 x0)) := Eq.mp (by kernel_rfl) hp2
            have hp1 := turns_step ht1 hs1
            have ht0 : (turn (hds 15 3610) 0 3610 (cb2 m) p15_e6 (p15_e20 x0)).run = some (.normal, p15_e13, (p15_e20 x0)) := M.run_of_path _ [tT, tT, tT, fF, fF, fF, fF, fF, fF, fF, fF, fF] _ _ (by kernel_rfl) (all_t rfl (all_t rfl (all_t rfl (all_f c6 (all_f c6 (all_f c6 (all_f c6 (all_f c6 (all_f c6 (all_f c6 (all_f c6 (all_f Bool.false_ne_true all_nil))))))))))))
            have hs0 : (turns (hds 15 3610) 0 3610 (cb2 m) (m + 23) p15_e13 (p15_e20 x0)).run = some (.exit 0, p15_e4, (p15_e23 x0)) := Eq.mp (by kernel_rfl) hp1
            have hp0 := turns_step ht0 hs0
            exact Eq.trans (Eq.mp (by kernel_rfl) hp0) hq
          cases hp
        · skip
          cases h
          refine ⟨(.d (.sl (.pair .str .str) ([] : Q5))), [], runT_ok (LS := (fun k => if k = 3610 then some (.exit 0, p15_e5, (p15_e20 x0)) else none)) (fn := fn15) (vis := [(3610, p15_e6, (p15_e20 x0))]) (by kernel_rfl) rfl (by kernel_rfl) (M.run_of_path _ [tT, tT, tT, tT] _ _ (by kernel_rfl) (all_t rfl (all_t rfl (all_t rfl (all_t rfl all_nil))))) ?_, by simp, (wkR.one (wkV.one (wk1.eq rfl))), trivial⟩
          intro p hp p2 hq
          rcases List.mem_cons.1 hp with rfl | hp
          · skip
            have ht3 : (turn (hds 15 3610) 0 3610 (cb2 m) p15_e15 (p15_e20 x0)).run = some (.exit 0, p15_e5, (p15_e20 x0)) := M.run_of_path _ [fF] _ _ (by kernel_rfl) (all_f Bool.false_ne_true all_nil)
            have hp3 := turns_last (n := m + 20) (by simp) ht3
            have ht2 : (turn (hds 15 3610) 0 3610 (cb2 m) p15_e14 (p15_e20 x0)).run = some (.normal, p15_e15, (p15_e20 x0)) := M.run_of_path _ [tT, tT, tT, tT, tT, tT, tT, tT, tT, tT, tT, tT, tT, fF] _ _ (by kernel_rfl) (all_t rfl (all_t rfl (all_t rfl (all_t c30 (all_t c30 (all_t c30 (all_t c30 (all_t rfl (all_t c30 (all_t c30 (all_t c30 (all_t c30 (all_t c30 (all_f c40 all_nil))))))))))))))
            have hs2 : (turns (hds 15 3610) 0 3610 (cb2 m) (m + 21) p15_e15 (p15_e20 x0)).run = some (.exit 0, p15_e5, (p15_e20 x0)) := Eq.mp (by kernel_rfl) hp3
            have hp2 := turns_step ht2 hs2
            have ht1 : (turn (hds 15 3610) 0 3610 (cb2 m) p15_e13 (p15_e20 x0)).run = some (.normal, p15_e14, (p15_e20 x0)) := M.run_of_path _ [tT, tT, tT, fF, fF, fF, fF, fF, fF, fF, fF, fF] _ _ (by kernel_rfl) (all_t rfl (all_t rfl (all_t rfl (all_f c18 (all_f c18 (all_f c18 (all_f c18 (all_f c18 (all_f c18 (all_f c18 (all_f c18 (all_f Bool.false_ne_true all_nil))))))))))))
            have hs1 : (turns (hds 15 3610) 0 3610 (cb2 m) (m + 22) p15_e14 (p15_e20 x0)).run = some (.exit 0, p15_e5, (p15_e20 x0)) := Eq.mp (by kernel_rfl) hp2
            have hp1 := turns_step ht1 hs1
            have ht0 : (turn (hds 15 3610) 0 3610 (cb2 m) p15_e6 (p15_e20 x0)).run = some (.normal, p15_e13, (p15_e20 x0)) := M.run_of_path _ [tT, tT, tT, fF, fF, fF, fF, fF, fF, fF, fF, fF] _ _ (by kernel_rfl) (all_t rfl (all_t rfl (all_t rfl (all_f c6 (all_f c6 (all_f c6 (all_f c6 (all_f c6 (all_f c6 (all_f c6 (all_f c6 (all_f Bool.false_ne_true all_nil))))))))))))
            have hs0 : (turns (hds 15 3610) 0 3610 (cb2 m) (m + 23) p15_e13 (p15_e20 x0)).run = some (.exit 0, p15_e5, (p15_e20 x0)) := Eq.mp (by kernel_rfl) hp1
            have hp0 := turns_step ht0 hs0
            exact Eq.trans (Eq.mp (by kernel_rfl) hp0) hq
          cases hp
      · skip
        cases h
        refine ⟨(.d (.sl (.pair .str .str) ([] : Q5))), [], runT_ok (LS := (fun k => if k = 3610 then some (.exit 0, p15_e5, (p15_e20 x0)) else none)) (fn := fn15) (vis := [(3610, p15_e6, (p15_e20 x0))]) (by kernel_rfl) rfl (by kernel_rfl) (M.run_of_path _ [tT, tT, tT, tT] _ _ (by kernel_rfl) (all_t rfl (all_t rfl (all_t rfl (all_t rfl all_nil))))) ?_, by simp, (wkR.one (wkV.one (wk1.eq rfl))), trivial⟩
        intro p hp p2 hq
        rcases List.mem_cons.1 hp with rfl | hp
        · skip
          have ht3 : (turn (hds 15 3610) 0 3610 (cb2 m) p15_e15 (p15_e20 x0)).run = some (.exit 0, p15_e5, (p15_e20 x0)) := M.run_of_path _ [fF] _ _ (by kernel_rfl) (all_f Bool.false_ne_true all_nil)
          have hp3 := turns_last (n := m + 20) (by simp) ht3
          have ht2 : (turn (hds 15 3610) 0 3610 (cb2 m) p15_e14 (p15_e20 x0)).run = some (.normal, p15_e15, (p15_e20 x0)) := M.run_of_path _ [tT, tT, tT, fF, fF, fF, fF, fF, fF, fF, fF, fF] _ _ (by kernel_rfl) (all_t rfl (all_t rfl (all_t rfl (all_f c30 (all_f c30 (all_f c30 (all_f c30 (all_f c30 (all_f c30 (all_f c30 (all_f c30 (all_f Bool.false_ne_true all_nil))))))))))))
          have hs2 : (turns (hds 15 3610) 0 3610 (cb2 m) (m + 21) p15_e15 (p15_e20 x0)).run = some (.exit 0, p15_e5, (p15_e20 x0)) := Eq.mp (by kernel_rfl) hp3
          have hp2 := turns_step ht2 hs2
          have ht1 : (turn (hds 15 3610) 0 3610 (cb2 m) p15_e13 (p15_e20 x0)).run = some (.normal, p15_e14, (p15_e20 x0)) := M.run_of_path _ [tT, tT, tT, fF, fF, fF, fF, fF, fF, fF, fF, fF] _ _ (by kernel_rfl) (all_t rfl (all_t rfl (all_t rfl (all_f c18 (all_f c18 (all_f c18 (all_f c18 (all_f c18 (all_f c18 (all_f c18 (all_f c18 (all_f Bool.false_ne_true all_nil))))))))))))
          have hs1 : (turns (hds 15 3610) 0 3610 (cb2 m) (m + 22) p15_e14 (p15_e20 x0)).run = some (.exit 0, p15_e5, (p15_e20 x0)) := Eq.mp (by kernel_rfl) hp2
          have hp1 := turns_step ht1 hs1
          have ht0 : (turn (hds 15 3610) 0 3610 (cb2 m) p15_e6 (p15_e20 x0)).run = some (.normal, p15_e13, (p15_e20 x0)) := M.run_of_path _ [tT, tT, tT, fF, fF, fF, fF, fF, fF, fF, fF, fF] _ _ (by kernel_rfl) (all_t rfl (all_t rfl (all_t rfl (all_f c6 (all_f c6 (all_f c6 (all_f c6 (all_f c6 (all_f c6 (all_f c6 (all_f c6 (all_f Bool.false_ne_true all_nil))))))))))))
          have hs0 : (turns (hds 15 3610) 0 3610 (cb2 m) (m + 23) p15_e13 (p15_e20 x0)).run = some (.exit 0, p15_e5, (p15_e20 x0)) := Eq.mp (by kernel_rfl) hp1
          have hp0 := turns_step ht0 hs0
          exact Eq.trans (Eq.mp (by kernel_rfl) hp0) hq
        cases hp

def valuesG : Q7 := [([120] : Q8), ([121] : Q8), ([120, 121] : Q8), ([49] : Q8), ([34] : Q8), ([92] : Q8), ([123, 125] : Q8), ([122, 32, 122] : Q8)]
def bit1 (l : List Int) (i : Int) (j : Nat) : Bool := decide (i < (((List.length l) : Nat) : Int)) && ((IntKind.wrap .i64 ((((BitVec.ofInt 64 (List.getD l j 0) &&& BitVec.ofInt 64 (1)).toNat : Nat) : Int))) == (1))
def valG (l : List Int) (i : Int) : Q8 := List.getD valuesG (Int.toNat (withinI (pickG l i) (0) (7))) ([] : Q8)
def setG (k : List Int × List Int) : LB := (if bit1 k.1 0 0 then [(([97] : Q8), valG k.2 0)] else []) ++ (if bit1 k.1 1 1 then [(([98] : Q8), valG k.2 1)] else []) ++ (if bit1 k.1 2 2 then [(([99] : Q8), valG k.2 2)] else [])
theorem set15 (k : List Int × List Int) (_ : true = true) : ∃ m, p15 m k = some (setG k) := by
  refine ⟨0, ?_⟩
  have p0 : pickPre k.2 (0) = true := decide_eq_true (by omega)
  have p1 : pickPre k.2 (1) = true := decide_eq_true (by omega)
  have p2 : pickPre k.2 (2) = true := decide_eq_true (by omega)
  have w : ∀ n : Int, 0 ≤ withinI n (0) (7) ∧ withinI n (0) (7) < 8 := fun n => by unfold withinI; omega
  have w1 : ∀ n : Int, decide (0 ≤ (withinI n (0) (7))) = true := fun n => decide_eq_true (w n).1
  have w2 : ∀ n : Int, decide ((withinI n (0) (7)) < 8) = true := fun n => decide_eq_true (w n).2
  unfold p15 setG bit1 valG valuesG
  simp only [p0, p1, p2, w1, w2, ↓reduceIte]
  generalize decide (0 < (((List.length k.1) : Nat) : Int)) = a0
  generalize decide (1 < (((List.length k.1) : Nat) : Int)) = a1
  generalize decide (2 < (((List.length k.1) : Nat) : Int)) = a2
  generalize ((IntKind.wrap .i64 ((((BitVec.ofInt 64 (List.getD k.1 0 0) &&& BitVec.ofInt 64 (1)).toNat : Nat) : Int))) == (1)) = b0
  generalize ((IntKind.wrap .i64 ((((BitVec.ofInt 64 (List.getD k.1 1 0) &&& BitVec.ofInt 64 (1)).toNat : Nat) : Int))) == (1)) = b1
  generalize ((IntKind.wrap .i64 ((((BitVec.ofInt 64 (List.getD k.1 2 0) &&& BitVec.ofInt 64 (1)).toNat : Nat) : Int))) == (1)) = b2
  cases a0 <;> cases b0 <;> cases a1 <;> cases b1 <;> cases a2 <;> cases b2 <;> rfl
def s15 : List AV → Boxes → M (AV × Boxes) := normS [.val (.pair (.sl (.int .i64)) (.sl (.int .i64)))] [] fun xs B => match xs, B with
  | [(.agg [(.d (.sl (.int .i64) c1)), (.d (.sl (.int .i64) c2))])], [] => .chk (true) (.ret ((.d (.sl (.pair .str .str) (setG ((c1, c2))))), []))
  | _, _ => .fail
theorem s15_at : CallAt Tryd.prog 15 s15 := by
  refine CallAt.norm (CallAt.weakE (g := fun n => evCall F S4 n 15) (fun n => evCall_atH mixed kinds hds S4 S4_ok n 15) fun xs B r' B' hr => ?_) _ _
  split at hr
  · rename_i c1 c2
    obtain ⟨hp, hr⟩ := (M.run_chk _ _ _).1 hr
    simp only [M.run, Option.some.injEq, Prod.mk.injEq] at hr
    obtain ⟨rfl, rfl⟩ := hr
    obtain ⟨m, hm⟩ := set15 ((c1, c2)) hp
    obtain ⟨r, B1, h1, h2, h3, h4⟩ := p15_ok m ((c1, c2)) _ hm
    exact ⟨m + 25, r, B1, h1, by simp, h2, h3, h4⟩
  · simp [M.run] at hr
noncomputable def S5 : FuncId → Option (List AV → Boxes → M (AV × Boxes)) := fun f => if f = 15 then some s15 else S4 f
theorem S5_ok : ∀ f s, S5 f = some s → CallAt Tryd.prog f s := by
  intro f s h
  unfold S5 at h
  split at h
  · rename_i e; subst e; cases h; exact s15_at
  · exact S4_ok f s h

end Go.Proofs.YtghkbjflejgieaaDoor.Dec
namespace Go.Proofs.YtghkbjflejgieaaDoor.Dec
open Go.Ev
set_option linter.unusedVariables false
set_option linter.unusedSimpArgs false
set_option maxRecDepth 100000
set_option maxHeartbeats 20000000
theorem runs6 : Known Tryd.prog 6 [] (.d (.bool true)) := known Go.Proofs.YtghkbjflejgieaaDoor.Ev.mixed (kinds := Go.Proofs.YtghkbjflejgieaaDoor.Ev.kinds) (n := 300) Go.Proofs.YtghkbjflejgieaaDoor.Ev.S_ok (by kernel_rfl)
def trueG : List D → M AV
  | [] => .ret (.d (.bool true))
  | _ => .fail
theorem true6 : CallAt Tryd.prog 6 (plainV trueG) := by
  refine plainV_at fun ds r hr => ?_
  unfold trueG at hr
  split at hr
  · simp only [M.run, Option.some.injEq] at hr
    subst hr
    exact runs6
  · simp [M.run] at hr
theorem runs3 : Known Tryd.prog 3 [] (.d (.bool true)) := known Go.Proofs.YtghkbjflejgieaaDoor.Ev.mixed (kinds := Go.Proofs.YtghkbjflejgieaaDoor.Ev.kinds) (n := 300) Go.Proofs.YtghkbjflejgieaaDoor.Ev.S_ok (by kernel_rfl)
theorem true3 : CallAt Tryd.prog 3 (plainV trueG) := by
  refine plainV_at fun ds r hr => ?_
  unfold trueG at hr
  split at hr
  · simp only [M.run, Option.some.injEq] at hr
    subst hr
    exact runs3
  · simp [M.run] at hr

noncomputable def S6 : FuncId → Option (List AV → Boxes → M (AV × Boxes)) := fun f => if f = 6 then some (plainV trueG) else S5 f
theorem S6_ok : ∀ f s, S6 f = some s → CallAt Tryd.prog f s := by
  intro f s h
  unfold S6 at h
  split at h
  · rename_i e; subst e; cases h; exact true6
  · exact S5_ok f s h

noncomputable def S7 : FuncId → Option (List AV → Boxes → M (AV × Boxes)) := fun f => if f = 3 then some (plainV trueG) else S6 f
theorem S7_ok : ∀ f s, S7 f = some s → CallAt Tryd.prog f s := by
  intro f s h
  unfold S7 at h
  split at h
  · rename_i e; subst e; cases h; exact true3
  · exact S6_ok f s h

end Go.Proofs.YtghkbjflejgieaaDoor.Dec
namespace Go.Proofs.YtghkbjflejgieaaDoor.Dec
open Go.Ev
set_option linter.unusedVariables false
set_option linter.unusedSimpArgs false
set_option maxRecDepth 100000
set_option maxHeartbeats 20000000
noncomputable def S8 : FuncId → Option (List AV → Boxes → M (AV × Boxes)) := fun f => if f = 52 then some (plainV trimG) else S7 f
theorem S8_ok : ∀ f s, S8 f = some s → CallAt Tryd.prog f s := by
  intro f s h
  unfold S8 at h
  split at h
  · rename_i e; subst e; cases h; exact Go.Proofs.YtghkbjflejgieaaDoor.Ev.libstringsTrim
  · exact S7_ok f s h

noncomputable def fn36 : AFn := (F 36).getD ⟨0, [], .bad, false, false, noHd⟩
noncomputable def body36 : AC := fn36.body
def p36 (m : Nat) (x0 : Q8) : Option (Bool) :=
  if (x0 == ([] : Q8)) = true then
    some (false)
  else
    if decide ((((List.length x0) : Nat) : Int) > 24) = true then
      some (false)
    else
      if decide (0 < (((List.length x0) : Nat) : Int)) = true then
      if decide ((Lib.indexByte ([97, 98, 99, 100, 101, 102, 103, 104, 105, 106, 107, 108, 109, 110, 111, 112, 113, 114, 115, 116, 117, 118, 119, 120, 121, 122] : Q8) (Nat.toUInt8 (Int.toNat ((UInt8.toNat (List.getD x0 0 0) : Nat) : Int)))) < 0) = true then
        some (false)
      else
        if ((decide (List.length x0 ≤ 9223372036854775807) && decide (List.length ([97, 98, 99, 100, 101, 102, 103, 104, 105, 106, 107, 108, 109, 110, 111, 112, 113, 114, 115, 116, 117, 118, 119, 120, 121, 122, 48, 49, 50, 51, 52, 53, 54, 55, 56, 57, 95] : Q8) < 4294967281)) && asciiB ([97, 98, 99, 100, 101, 102, 103, 104, 105, 106, 107, 108, 109, 110, 111, 112, 113, 114, 115, 116, 117, 118, 119, 120, 121, 122, 48, 49, 50, 51, 52, 53, 54, 55, 56, 57, 95] : Q8)) = true then
        some (((Lib.trimS x0 ([97, 98, 99, 100, 101, 102, 103, 104, 105, 106, 107, 108, 109, 110, 111, 112, 113, 114, 115, 116, 117, 118, 119, 120, 121, 122, 48, 49, 50, 51, 52, 53, 54, 55, 56, 57, 95] : Q8)) == ([] : Q8)))
        else none
      else none
theorem p36_ok (m : Nat) (x0 : Q8) (q : Bool) (h : p36 m x0 = some q) : ∃ r B1, (evCall F S8 (m + 25) 36 [(.d (.str x0))] []).run = some (r, B1) ∧ 0 ≤ B1.length ∧ wkR B1 [] r (.d (.bool (q))) ∧ wkBs B1 [] 0 [] := by
  unfold p36 at h
  refine ite_cases h (fun c0 h => ?_) (fun c0 h => ?_)
  · skip
    cases h
    refine ⟨(.d (.bool false)), [], runT_ok (LS := (fun k => none)) (fn := fn36) (vis := []) (by kernel_rfl) rfl (by kernel_rfl) (M.run_of_path _ [tT, tT, tT, tT, tT, tT, tT, tT, tT, tT] _ _ (by kernel_rfl) (all_t c0 (all_t c0 (all_t c0 (all_t c0 (all_t rfl (all_t rfl (all_t rfl (all_t rfl (all_t rfl (all_t rfl all_nil))))))))))) ?_, by simp, (wkR.one (wkV.one (wk1.eq rfl))), trivial⟩
    intro p hp; cases hp
  · skip
    refine ite_cases h (fun c4 h => ?_) (fun c4 h => ?_)
    · skip
      cases h
      refine ⟨(.d (.bool false)), [], runT_ok (LS := (fun k => none)) (fn := fn36) (vis := []) (by kernel_rfl) rfl (by kernel_rfl) (M.run_of_path _ [fF, fF, fF, fF, tT, tT, tT, tT, tT, tT] _ _ (by kernel_rfl) (all_f c0 (all_f c0 (all_f c0 (all_f c0 (all_t c4 (all_t c4 (all_t c4 (all_t c4 (all_t c4 (all_t rfl all_nil))))))))))) ?_, by simp, (wkR.one (wkV.one (wk1.eq rfl))), trivial⟩
      intro p hp; cases hp
    · skip
      obtain ⟨c7, h⟩ := iY h
      refine ite_cases h (fun c11 h => ?_) (fun c11 h => ?_)
      · skip
        cases h
        refine ⟨(.d (.bool false)), [], runT_ok (LS := (fun k => none)) (fn := fn36) (vis := []) (by kernel_rfl) rfl (by kernel_rfl) (M.run_of_path _ [fF, fF, fF, fF, fF, fF, tT, tT, fF, fF, fF, tT] _ _ (by kernel_rfl) (all_f c0 (all_f c0 (all_f c0 (all_f c0 (all_f c4 (all_f c4 (all_t rfl (all_t c7 (all_f c4 (all_f c4 (all_f c4 (all_t c11 all_nil))))))))))))) ?_, by simp, (wkR.one (wkV.one (wk1.eq rfl))), trivial⟩
        intro p hp; cases hp
      · skip
        obtain ⟨c12, h⟩ := iY h
        cases h
        refine ⟨(.d (.bool ((Lib.trimS x0 ([97, 98, 99, 100, 101, 102, 103, 104, 105, 106, 107, 108, 109, 110, 111, 112, 113, 114, 115, 116, 117, 118, 119, 120, 121, 122, 48, 49, 50, 51, 52, 53, 54, 55, 56, 57, 95] : Q8)) == ([] : Q8)))), [], runT_ok (LS := (fun k => none)) (fn := fn36) (vis := []) (by kernel_rfl) rfl (by kernel_rfl) (M.run_of_path _ [fF, fF, fF, fF, fF, fF, tT, tT, fF, fF, fF, fF, tT] _ _ (by kernel_rfl) (all_f c0 (all_f c0 (all_f c0 (all_f c0 (all_f c4 (all_f c4 (all_t rfl (all_t c7 (all_f c4 (all_f c4 (all_f c4 (all_f c11 (all_t c12 all_nil)))))))))))))) ?_, by simp, (wkR.one (wkV.one (wk1.eq rfl))), trivial⟩
        intro p hp; cases hp

def smallB : Q8 := ([97, 98, 99, 100, 101, 102, 103, 104, 105, 106, 107, 108, 109, 110, 111, 112, 113, 114, 115, 116, 117, 118, 119, 120, 121, 122] : Q8)
def wordsB : Q8 := ([97, 98, 99, 100, 101, 102, 103, 104, 105, 106, 107, 108, 109, 110, 111, 112, 113, 114, 115, 116, 117, 118, 119, 120, 121, 122, 48, 49, 50, 51, 52, 53, 54, 55, 56, 57, 95] : Q8)
def letterB (c : UInt8) : Bool := decide (97 ≤ UInt8.toNat c) && decide (UInt8.toNat c ≤ 122)
def innerB (c : UInt8) : Bool := letterB c || (UInt8.toNat c == 95) || (decide (48 ≤ UInt8.toNat c) && decide (UInt8.toNat c ≤ 57))
def wordG (s : Q8) : Bool := decide (1 ≤ s.length) && decide (s.length ≤ 24) && letterB (s.getD 0 0) && s.all innerB
theorem small_all : ∀ k, k < 256 → decide (Lib.indexByte smallB (Nat.toUInt8 k) < 0) = !(decide (97 ≤ k) && decide (k ≤ 122)) := by decide +kernel
theorem words_all : ∀ k, k < 256 → wordsB.contains (Nat.toUInt8 k) = innerB (Nat.toUInt8 k) := by decide +kernel
theorem u8_round (c : UInt8) : Nat.toUInt8 (UInt8.toNat c) = c := UInt8.ofNat_toNat
theorem words_one (c : UInt8) : wordsB.contains c = innerB c := by
  have := words_all (UInt8.toNat c) (UInt8.toNat_lt c)
  rwa [u8_round] at this
theorem small_one (c : UInt8) : decide (Lib.indexByte smallB (Nat.toUInt8 (Int.toNat ((UInt8.toNat c : Nat) : Int))) < 0) = !letterB c := by
  rw [Int.toNat_natCast]
  exact small_all (UInt8.toNat c) (UInt8.toNat_lt c)
theorem dropW_nil {p : UInt8 → Bool} : ∀ (l : Q8), (∀ x ∈ l.dropWhile p, p x = true) → l.dropWhile p = []
  | [], _ => rfl
  | a :: l, h => by
    rw [List.dropWhile_cons] at h ⊢
    by_cases ha : p a = true
    · rw [if_pos ha] at h ⊢; exact dropW_nil l h
    · rw [if_neg ha] at h; exact absurd (h a (List.mem_cons_self ..)) ha
theorem dropW_all {p : UInt8 → Bool} : ∀ (l : Q8), l.dropWhile p = [] → l.all p = true
  | [], _ => rfl
  | a :: l, h => by
    rw [List.dropWhile_cons] at h
    by_cases ha : p a = true
    · rw [if_pos ha] at h; rw [List.all_cons, ha, dropW_all l h]; rfl
    · rw [if_neg ha] at h; cases h
theorem all_dropW {p : UInt8 → Bool} : ∀ (l : Q8), l.all p = true → l.dropWhile p = []
  | [], _ => rfl
  | a :: l, h => by
    rw [List.all_cons, Bool.and_eq_true] at h
    rw [List.dropWhile_cons, if_pos h.1, all_dropW l h.2]
theorem trim_nil (l cs : Q8) : (Lib.trimS l cs == ([] : Q8)) = l.all (cs.contains ·) := by
  rw [Bool.eq_iff_iff, beq_iff_eq]
  show ((l.reverse.dropWhile (cs.contains ·)).reverse).dropWhile (cs.contains ·) = [] ↔ _
  constructor
  · intro h
    have h1 := dropW_all _ h
    rw [List.all_reverse] at h1
    have h2 := dropW_nil l.reverse (fun x hx => List.all_eq_true.1 h1 x hx)
    have h3 := dropW_all _ h2
    rwa [List.all_reverse] at h3
  · intro h
    have h1 : l.reverse.all (cs.contains ·) = true := by rw [List.all_reverse]; exact h
    rw [all_dropW _ h1]; rfl
theorem word36 (s : Q8) (h : decide (s.length ≤ 9223372036854775807) = true) : ∃ m, p36 m s = some (wordG s) := by
  have h := of_decide_eq_true h
  refine ⟨0, ?_⟩
  unfold p36 wordG
  cases s with
  | nil => rfl
  | cons a l =>
    have e0 : ((a :: l) == ([] : Q8)) = false := rfl
    rw [e0, if_neg (by simp)]
    have e1 : decide (1 ≤ (a :: l).length) = true := decide_eq_true (by simp)
    rw [e1, Bool.true_and]
    by_cases h24 : (a :: l).length ≤ 24
    · have e2 : decide ((((List.length (a :: l)) : Nat) : Int) > 24) = false := decide_eq_false (by omega)
      have e3 : decide (0 < (((List.length (a :: l)) : Nat) : Int)) = true := decide_eq_true (by simp)
      have e4 : decide ((a :: l).length ≤ 24) = true := decide_eq_true h24
      rw [e2, if_neg (by simp), if_pos e3, e4, Bool.true_and]
      have hs := small_one ((a :: l).getD 0 0)
      unfold smallB at hs
      rw [hs]
      cases hL : letterB ((a :: l).getD 0 0) with
      | false => rfl
      | true =>
        rw [if_neg (by simp), Bool.true_and]
        have ht := trim_nil (a :: l) wordsB
        have hw : (fun x => wordsB.contains x) = innerB := funext words_one
        rw [hw] at ht
        unfold wordsB at ht
        rw [ht]
        rw [if_pos]
        rw [Bool.and_eq_true, Bool.and_eq_true]
        exact ⟨⟨decide_eq_true h, by decide⟩, by decide +kernel⟩
    · have e2 : decide ((((List.length (a :: l)) : Nat) : Int) > 24) = true := decide_eq_true (by omega)
      have e4 : decide ((a :: l).length ≤ 24) = false := decide_eq_false h24
      rw [if_pos e2, e4]; rfl
def s36 : List AV → Boxes → M (AV × Boxes) := normS [.val .str] [] fun xs B => match xs, B with
  | [(.d (.str c1))], [] => .chk (decide (List.length c1 ≤ 9223372036854775807)) (.ret ((.d (.bool (wordG c1))), []))
  | _, _ => .fail
theorem s36_at : CallAt Tryd.prog 36 s36 := by
  refine CallAt.norm (CallAt.weakE (g := fun n => evCall F S8 n 36) (fun n => evCall_atH mixed kinds hds S8 S8_ok n 36) fun xs B r' B' hr => ?_) _ _
  split at hr
  · rename_i c1
    obtain ⟨hp, hr⟩ := (M.run_chk _ _ _).1 hr
    simp only [M.run, Option.some.injEq, Prod.mk.injEq] at hr
    obtain ⟨rfl, rfl⟩ := hr
    obtain ⟨m, hm⟩ := word36 c1 hp
    obtain ⟨r, B1, h1, h2, h3, h4⟩ := p36_ok m c1 _ hm
    exact ⟨m + 25, r, B1, h1, by simp, h2, h3, h4⟩
  · simp [M.run] at hr
noncomputable def S9 : FuncId → Option (List AV → Boxes → M (AV × Boxes)) := fun f => if f = 36 then some s36 else S8 f
theorem S9_ok : ∀ f s, S9 f = some s → CallAt Tryd.prog f s := by
  intro f s h
  unfold S9 at h
  split at h
  · rename_i e; subst e; cases h; exact s36_at
  · exact S8_ok f s h

noncomputable def fn40 : AFn := (F 40).getD ⟨0, [], .bad, false, false, noHd⟩
noncomputable def body40 : AC := fn40.body
def l40_0 (m : Nat) : Nat → Q8 → Int → Option (Nat × Int)
  | 0, _, _ => none
  | n + 1, x0, s3 => if decide (s3 < (((List.length x0) : Nat) : Int)) = true then
      if decide (0 ≤ s3) = true then
      if decide (((UInt8.toNat (List.getD x0 (Int.toNat s3) 0) : Nat) : Int) ≥ 97) = true then
        if decide (((UInt8.toNat (List.getD x0 (Int.toNat s3) 0) : Nat) : Int) ≤ 122) = true then
          l40_0 m n x0 ((IntKind.wrap .i64 (s3 + (1))))
        else
          if (s3 == (0)) = true then
            some (0, s3)
          else
            if (((UInt8.toNat (List.getD x0 (Int.toNat s3) 0) : Nat) : Int) != (95)) = true then
              if decide (((UInt8.toNat (List.getD x0 (Int.toNat s3) 0) : Nat) : Int) < 48) = true then
                some (1, s3)
              else
                if decide (((UInt8.toNat (List.getD x0 (Int.toNat s3) 0) : Nat) : Int) > 57) = true then
                  some (2, s3)
                else
                  l40_0 m n x0 ((IntKind.wrap .i64 (s3 + (1))))
            else
              l40_0 m n x0 ((IntKind.wrap .i64 (s3 + (1))))
      else
        if (s3 == (0)) = true then
          some (3, s3)
        else
          if (((UInt8.toNat (List.getD x0 (Int.toNat s3) 0) : Nat) : Int) != (95)) = true then
            if decide (((UInt8.toNat (List.getD x0 (Int.toNat s3) 0) : Nat) : Int) < 48) = true then
              some (4, s3)
            else
              if decide (((UInt8.toNat (List.getD x0 (Int.toNat s3) 0) : Nat) : Int) > 57) = true then
                some (5, s3)
              else
                l40_0 m n x0 ((IntKind.wrap .i64 (s3 + (1))))
          else
            l40_0 m n x0 ((IntKind.wrap .i64 (s3 + (1))))
      else none
    else
      some (6, s3)
def l40_0D : Nat × Int := (0, 0)
@[reducible] def l40_0R (m n : Nat) (x0 : Q8) (s3 : Int) : Nat × Int := Option.getD (l40_0 m n x0 s3) l40_0D
def l40_0H (x0 : Q8) (s3 : Int) : Env := ((.d (.str x0)) :: .top :: .top :: (.d (.int .i64 s3)) :: tp49 [])
def l40_0B (x0 : Q8) (s3 : Int) : Boxes := []
def l40_0E (x0 : Q8) (s3 : Int) : Nat → AEx × Env × Boxes
  | 0 => (.ret, ((.d (.str x0)) :: .top :: (.d (.bool false)) :: (.d (.int .i64 s3)) :: (.d (.bool (decide (((UInt8.toNat (List.getD x0 (Int.toNat s3) 0) : Nat) : Int) ≤ 122)))) :: (.d (.int .i64 s3)) :: (.d (.str x0)) :: (.d (.int .i64 (((List.length x0) : Nat) : Int))) :: (.d (.bool (decide (s3 < (((List.length x0) : Nat) : Int))))) :: .top :: .top :: (.d (.str x0)) :: (.d (.int .i64 s3)) :: (.d (.int .u8 ((UInt8.toNat (List.getD x0 (Int.toNat s3) 0) : Nat) : Int))) :: (.d (.bool (decide (((UInt8.toNat (List.getD x0 (Int.toNat s3) 0) : Nat) : Int) ≥ 97)))) :: (.d (.bool (decide (((UInt8.toNat (List.getD x0 (Int.toNat s3) 0) : Nat) : Int) ≥ 97)))) :: (.d (.str x0)) :: (.d (.int .i64 s3)) :: (.d (.int .u8 ((UInt8.toNat (List.getD x0 (Int.toNat s3) 0) : Nat) : Int))) :: (.d (.bool (decide (((UInt8.toNat (List.getD x0 (Int.toNat s3) 0) : Nat) : Int) ≤ 122)))) :: (.d (.bool (decide (((UInt8.toNat (List.getD x0 (Int.toNat s3) 0) : Nat) : Int) ≤ 122)))) :: (.d (.bool (decide (((UInt8.toNat (List.getD x0 (Int.toNat s3) 0) : Nat) : Int) ≤ 122)))) :: (.d (.bool (!decide (((UInt8.toNat (List.getD x0 (Int.toNat s3) 0) : Nat) : Int) ≤ 122)))) :: (.d (.bool (!decide (((UInt8.toNat (List.getD x0 (Int.toNat s3) 0) : Nat) : Int) ≤ 122)))) :: (.d (.int .i64 s3)) :: (.d (.bool (s3 == (0)))) :: (.d (.bool (s3 == (0)))) :: (.tup []) :: (.tup []) :: (.tup []) :: (.tup []) :: (.tup []) :: (.tup []) :: (.tup []) :: (.tup []) :: (.tup []) :: (.tup []) :: (.tup []) :: (.tup []) :: (.tup []) :: (.tup []) :: (.tup []) :: (.tup []) :: (.d (.bool true)) :: (.d (.bool true)) :: tp8 []), [])
  | 1 => (.ret, ((.d (.str x0)) :: .top :: (.d (.bool false)) :: (.d (.int .i64 s3)) :: (.d (.bool (decide (((UInt8.toNat (List.getD x0 (Int.toNat s3) 0) : Nat) : Int) ≤ 122)))) :: (.d (.int .i64 s3)) :: (.d (.str x0)) :: (.d (.int .i64 (((List.length x0) : Nat) : Int))) :: (.d (.bool (decide (s3 < (((List.length x0) : Nat) : Int))))) :: .top :: .top :: (.d (.str x0)) :: (.d (.int .i64 s3)) :: (.d (.int .u8 ((UInt8.toNat (List.getD x0 (Int.toNat s3) 0) : Nat) : Int))) :: (.d (.bool (decide (((UInt8.toNat (List.getD x0 (Int.toNat s3) 0) : Nat) : Int) ≥ 97)))) :: (.d (.bool (decide (((UInt8.toNat (List.getD x0 (Int.toNat s3) 0) : Nat) : Int) ≥ 97)))) :: (.d (.str x0)) :: (.d (.int .i64 s3)) :: (.d (.int .u8 ((UInt8.toNat (List.getD x0 (Int.toNat s3) 0) : Nat) : Int))) :: (.d (.bool (decide (((UInt8.toNat (List.getD x0 (Int.toNat s3) 0) : Nat) : Int) ≤ 122)))) :: (.d (.bool (decide (((UInt8.toNat (List.getD x0 (Int.toNat s3) 0) : Nat) : Int) ≤ 122)))) :: (.d (.bool (decide (((UInt8.toNat (List.getD x0 (Int.toNat s3) 0) : Nat) : Int) ≤ 122)))) :: (.d (.bool (!decide (((UInt8.toNat (List.getD x0 (Int.toNat s3) 0) : Nat) : Int) ≤ 122)))) :: (.d (.bool (!decide (((UInt8.toNat (List.getD x0 (Int.toNat s3) 0) : Nat) : Int) ≤ 122)))) :: (.d (.int .i64 s3)) :: (.d (.bool (s3 == (0)))) :: (.d (.bool (s3 == (0)))) :: (.d (.str x0)) :: (.d (.int .i64 s3)) :: (.d (.int .u8 ((UInt8.toNat (List.getD x0 (Int.toNat s3) 0) : Nat) : Int))) :: (.d (.bool (((UInt8.toNat (List.getD x0 (Int.toNat s3) 0) : Nat) : Int) != (95)))) :: (.d (.bool (((UInt8.toNat (List.getD x0 (Int.toNat s3) 0) : Nat) : Int) != (95)))) :: (.d (.str x0)) :: (.d (.int .i64 s3)) :: (.d (.int .u8 ((UInt8.toNat (List.getD x0 (Int.toNat s3) 0) : Nat) : Int))) :: (.d (.bool (decide (((UInt8.toNat (List.getD x0 (Int.toNat s3) 0) : Nat) : Int) < 48)))) :: (.d (.bool (decide (((UInt8.toNat (List.getD x0 (Int.toNat s3) 0) : Nat) : Int) < 48)))) :: (.tup []) :: (.tup []) :: (.tup []) :: (.tup []) :: (.d (.bool true)) :: (.d (.bool true)) :: (.d (.bool true)) :: (.d (.bool true)) :: tp8 []), [])
  | 2 => (.ret, ((.d (.str x0)) :: .top :: (.d (.bool false)) :: (.d (.int .i64 s3)) :: (.d (.bool (decide (((UInt8.toNat (List.getD x0 (Int.toNat s3) 0) : Nat) : Int) ≤ 122)))) :: (.d (.int .i64 s3)) :: (.d (.str x0)) :: (.d (.int .i64 (((List.length x0) : Nat) : Int))) :: (.d (.bool (decide (s3 < (((List.length x0) : Nat) : Int))))) :: .top :: .top :: (.d (.str x0)) :: (.d (.int .i64 s3)) :: (.d (.int .u8 ((UInt8.toNat (List.getD x0 (Int.toNat s3) 0) : Nat) : Int))) :: (.d (.bool (decide (((UInt8.toNat (List.getD x0 (Int.toNat s3) 0) : Nat) : Int) ≥ 97)))) :: (.d (.bool (decide (((UInt8.toNat (List.getD x0 (Int.toNat s3) 0) : Nat) : Int) ≥ 97)))) :: (.d (.str x0)) :: (.d (.int .i64 s3)) :: (.d (.int .u8 ((UInt8.toNat (List.getD x0 (Int.toNat s3) 0) : Nat) : Int))) :: (.d (.bool (decide (((UInt8.toNat (List.getD x0 (Int.toNat s3) 0) : Nat) : Int) ≤ 122)))) :: (.d (.bool (decide (((UInt8.toNat (List.getD x0 (Int.toNat s3) 0) : Nat) : Int) ≤ 122)))) :: (.d (.bool (decide (((UInt8.toNat (List.getD x0 (Int.toNat s3) 0) : Nat) : Int) ≤ 122)))) :: (.d (.bool (!decide (((UInt8.toNat (List.getD x0 (Int.toNat s3) 0) : Nat) : Int) ≤ 122)))) :: (.d (.bool (!decide (((UInt8.toNat (List.getD x0 (Int.toNat s3) 0) : Nat) : Int) ≤ 122)))) :: (.d (.int .i64 s3)) :: (.d (.bool (s3 == (0)))) :: (.d (.bool (s3 == (0)))) :: (.d (.str x0)) :: (.d (.int .i64 s3)) :: (.d (.int .u8 ((UInt8.toNat (List.getD x0 (Int.toNat s3) 0) : Nat) : Int))) :: (.d (.bool (((UInt8.toNat (List.getD x0 (Int.toNat s3) 0) : Nat) : Int) != (95)))) :: (.d (.bool (((UInt8.toNat (List.getD x0 (Int.toNat s3) 0) : Nat) : Int) != (95)))) :: (.d (.str x0)) :: (.d (.int .i64 s3)) :: (.d (.int .u8 ((UInt8.toNat (List.getD x0 (Int.toNat s3) 0) : Nat) : Int))) :: (.d (.bool (decide (((UInt8.toNat (List.getD x0 (Int.toNat s3) 0) : Nat) : Int) < 48)))) :: (.d (.bool (decide (((UInt8.toNat (List.getD x0 (Int.toNat s3) 0) : Nat) : Int) < 48)))) :: (.d (.str x0)) :: (.d (.int .i64 s3)) :: (.d (.int .u8 ((UInt8.toNat (List.getD x0 (Int.toNat s3) 0) : Nat) : Int))) :: (.d (.bool (decide (((UInt8.toNat (List.getD x0 (Int.toNat s3) 0) : Nat) : Int) > 57)))) :: (.d (.bool (decide (((UInt8.toNat (List.getD x0 (Int.toNat s3) 0) : Nat) : Int) > 57)))) :: (.d (.bool (decide (((UInt8.toNat (List.getD x0 (Int.toNat s3) 0) : Nat) : Int) > 57)))) :: (.d (.bool (decide (((UInt8.toNat (List.getD x0 (Int.toNat s3) 0) : Nat) : Int) > 57)))) :: (.d (.bool (decide (((UInt8.toNat (List.getD x0 (Int.toNat s3) 0) : Nat) : Int) > 57)))) :: tp8 []), [])
  | 3 => (.ret, ((.d (.str x0)) :: .top :: (.d (.bool false)) :: (.d (.int .i64 s3)) :: (.d (.bool false)) :: (.d (.int .i64 s3)) :: (.d (.str x0)) :: (.d (.int .i64 (((List.length x0) : Nat) : Int))) :: (.d (.bool (decide (s3 < (((List.length x0) : Nat) : Int))))) :: .top :: .top :: (.d (.str x0)) :: (.d (.int .i64 s3)) :: (.d (.int .u8 ((UInt8.toNat (List.getD x0 (Int.toNat s3) 0) : Nat) : Int))) :: (.d (.bool (decide (((UInt8.toNat (List.getD x0 (Int.toNat s3) 0) : Nat) : Int) ≥ 97)))) :: (.d (.bool (decide (((UInt8.toNat (List.getD x0 (Int.toNat s3) 0) : Nat) : Int) ≥ 97)))) :: (.tup []) :: (.tup []) :: (.tup []) :: (.tup []) :: (.d (.bool false)) :: (.d (.bool false)) :: (.d (.bool true)) :: (.d (.bool true)) :: (.d (.int .i64 s3)) :: (.d (.bool (s3 == (0)))) :: (.d (.bool (s3 == (0)))) :: (.tup []) :: (.tup []) :: (.tup []) :: (.tup []) :: (.tup []) :: (.tup []) :: (.tup []) :: (.tup []) :: (.tup []) :: (.tup []) :: (.tup []) :: (.tup []) :: (.tup []) :: (.tup []) :: (.tup []) :: (.tup []) :: (.d (.bool true)) :: (.d (.bool true)) :: tp8 []), [])
  | 4 => (.ret, ((.d (.str x0)) :: .top :: (.d (.bool false)) :: (.d (.int .i64 s3)) :: (.d (.bool false)) :: (.d (.int .i64 s3)) :: (.d (.str x0)) :: (.d (.int .i64 (((List.length x0) : Nat) : Int))) :: (.d (.bool (decide (s3 < (((List.length x0) : Nat) : Int))))) :: .top :: .top :: (.d (.str x0)) :: (.d (.int .i64 s3)) :: (.d (.int .u8 ((UInt8.toNat (List.getD x0 (Int.toNat s3) 0) : Nat) : Int))) :: (.d (.bool (decide (((UInt8.toNat (List.getD x0 (Int.toNat s3) 0) : Nat) : Int) ≥ 97)))) :: (.d (.bool (decide (((UInt8.toNat (List.getD x0 (Int.toNat s3) 0) : Nat) : Int) ≥ 97)))) :: (.tup []) :: (.tup []) :: (.tup []) :: (.tup []) :: (.d (.bool false)) :: (.d (.bool false)) :: (.d (.bool true)) :: (.d (.bool true)) :: (.d (.int .i64 s3)) :: (.d (.bool (s3 == (0)))) :: (.d (.bool (s3 == (0)))) :: (.d (.str x0)) :: (.d (.int .i64 s3)) :: (.d (.int .u8 ((UInt8.toNat (List.getD x0 (Int.toNat s3) 0) : Nat) : Int))) :: (.d (.bool (((UInt8.toNat (List.getD x0 (Int.toNat s3) 0) : Nat) : Int) != (95)))) :: (.d (.bool (((UInt8.toNat (List.getD x0 (Int.toNat s3) 0) : Nat) : Int) != (95)))) :: (.d (.str x0)) :: (.d (.int .i64 s3)) :: (.d (.int .u8 ((UInt8.toNat (List.getD x0 (Int.toNat s3) 0) : Nat) : Int))) :: (.d (.bool (decide (((UInt8.toNat (List.getD x0 (Int.toNat s3) 0) : Nat) : Int) < 48)))) :: (.d (.bool (decide (((UInt8.toNat (List.getD x0 (Int.toNat s3) 0) : Nat) : Int) < 48)))) :: (.tup []) :: (.tup []) :: (.tup []) :: (.tup []) :: (.d (.bool true)) :: (.d (.bool true)) :: (.d (.bool true)) :: (.d (.bool true)) :: tp8 []), [])
  | 5 => (.ret, ((.d (.str x0)) :: .top :: (.d (.bool false)) :: (.d (.int .i64 s3)) :: (.d (.bool false)) :: (.d (.int .i64 s3)) :: (.d (.str x0)) :: (.d (.int .i64 (((List.length x0) : Nat) : Int))) :: (.d (.bool (decide (s3 < (((List.length x0) : Nat) : Int))))) :: .top :: .top :: (.d (.str x0)) :: (.d (.int .i64 s3)) :: (.d (.int .u8 ((UInt8.toNat (List.getD x0 (Int.toNat s3) 0) : Nat) : Int))) :: (.d (.bool (decide (((UInt8.toNat (List.getD x0 (Int.toNat s3) 0) : Nat) : Int) ≥ 97)))) :: (.d (.bool (decide (((UInt8.toNat (List.getD x0 (Int.toNat s3) 0) : Nat) : Int) ≥ 97)))) :: (.tup []) :: (.tup []) :: (.tup []) :: (.tup []) :: (.d (.bool false)) :: (.d (.bool false)) :: (.d (.bool true)) :: (.d (.bool true)) :: (.d (.int .i64 s3)) :: (.d (.bool (s3 == (0)))) :: (.d (.bool (s3 == (0)))) :: (.d (.str x0)) :: (.d (.int .i64 s3)) :: (.d (.int .u8 ((UInt8.toNat (List.getD x0 (Int.toNat s3) 0) : Nat) : Int))) :: (.d (.bool (((UInt8.toNat (List.getD x0 (Int.toNat s3) 0) : Nat) : Int) != (95)))) :: (.d (.bool (((UInt8.toNat (List.getD x0 (Int.toNat s3) 0) : Nat) : Int) != (95)))) :: (.d (.str x0)) :: (.d (.int .i64 s3)) :: (.d (.int .u8 ((UInt8.toNat (List.getD x0 (Int.toNat s3) 0) : Nat) : Int))) :: (.d (.bool (decide (((UInt8.toNat (List.getD x0 (Int.toNat s3) 0) : Nat) : Int) < 48)))) :: (.d (.bool (decide (((UInt8.toNat (List.getD x0 (Int.toNat s3) 0) : Nat) : Int) < 48)))) :: (.d (.str x0)) :: (.d (.int .i64 s3)) :: (.d (.int .u8 ((UInt8.toNat (List.getD x0 (Int.toNat s3) 0) : Nat) : Int))) :: (.d (.bool (decide (((UInt8.toNat (List.getD x0 (Int.toNat s3) 0) : Nat) : Int) > 57)))) :: (.d (.bool (decide (((UInt8.toNat (List.getD x0 (Int.toNat s3) 0) : Nat) : Int) > 57)))) :: (.d (.bool (decide (((UInt8.toNat (List.getD x0 (Int.toNat s3) 0) : Nat) : Int) > 57)))) :: (.d (.bool (decide (((UInt8.toNat (List.getD x0 (Int.toNat s3) 0) : Nat) : Int) > 57)))) :: (.d (.bool (decide (((UInt8.toNat (List.getD x0 (Int.toNat s3) 0) : Nat) : Int) > 57)))) :: tp8 []), [])
  | _ => (.exit 0, ((.d (.str x0)) :: .top :: .top :: (.d (.int .i64 s3)) :: .top :: (.d (.int .i64 s3)) :: (.d (.str x0)) :: (.d (.int .i64 (((List.length x0) : Nat) : Int))) :: (.d (.bool (decide (s3 < (((List.length x0) : Nat) : Int))))) :: tp44 []), [])
noncomputable def lbl40_0 : AC := loopBody 9 body40
@[reducible] noncomputable def cb3 (m : Nat) := (evC byref (evCall F S9 (m + 24)) (m + 24) 0 (hds 40) lbl40_0)


theorem l40_0_step (m n : Nat) (ih : ∀ (x0 : Q8) (s3 : Int) (q : Nat × Int), l40_0 m n x0 s3 = some q → (turns (hds 40 9) 0 9 (cb3 m) n (l40_0H x0 s3) (l40_0B x0 s3)).run = some (l40_0E (x0) (q.2) q.1)) (x0 : Q8) (s3 : Int) (q : Nat × Int) (h : l40_0 m (n + 1) x0 s3 = some q) : (turns (hds 40 9) 0 9 (cb3 m) (n + 1) (l40_0H x0 s3) (l40_0B x0 s3)).run = some (l40_0E (x0) (q.2) q.1) := by
  rw [l40_0] at h
  refine ite_cases h (fun c0 h => ?_) (fun c0 h => ?_)
  · skip
    obtain ⟨c1, h⟩ := iY h
    refine ite_cases h (fun c3 h => ?_) (fun c3 h => ?_)
    · skip
      refine ite_cases h (fun c10 h => ?_) (fun c10 h => ?_)
      · skip
        have ih := ih _ _ q h
        refine turns_step ?_ ih
        exact M.run_of_path _ [tT, tT, tT, tT, tT, tT, tT, tT, tT, tT, fF, fF, fF, fF, fF, fF] _ _ (by kernel_rfl) (all_t c0 (all_t c1 (all_t c0 (all_t c3 (all_t c3 (all_t c3 (all_t c1 (all_t c0 (all_t c3 (all_t c3 (all_nt c10 (all_nt c10 (all_nt c10 (all_nt c10 (all_nt c10 (all_f Bool.false_ne_true all_nil))))))))))))))))
      · skip
        refine ite_cases h (fun c13 h => ?_) (fun c13 h => ?_)
        · skip
          cases h
          refine turns_last (by simp) ?_
          exact M.run_of_path _ [tT, tT, tT, tT, tT, tT, tT, tT, tT, tT, tT, tT, tT, tT, tT, tT, tT, tT, tT, tT, tT, tT, tT] _ _ (by kernel_rfl) (all_t c0 (all_t c1 (all_t c0 (all_t c3 (all_t c3 (all_t c3 (all_t c1 (all_t c0 (all_t c3 (all_t c3 (all_nf c10 (all_nf c10 (all_nf c10 (all_t c13 (all_t c13 (all_t c13 (all_t c13 (all_t c13 (all_t c13 (all_nf c10 (all_t c13 (all_nf c10 (all_t rfl all_nil)))))))))))))))))))))))
        · skip
          refine ite_cases h (fun c20 h => ?_) (fun c20 h => ?_)
          · skip
            refine ite_cases h (fun c27 h => ?_) (fun c27 h => ?_)
            · skip
              cases h
              refine turns_last (by simp) ?_
              exact M.run_of_path _ [tT, tT, tT, tT, tT, tT, tT, tT, tT, tT, tT, tT, tT, fF, fF, fF, tT, tT, fF, fF, tT, tT, tT, tT, tT, tT, tT, tT, tT, tT, tT, tT, tT, fF, tT, tT, fF, tT, tT] _ _ (by kernel_rfl) (all_t c0 (all_t c1 (all_t c0 (all_t c3 (all_t c3 (all_t c3 (all_t c1 (all_t c0 (all_t c3 (all_t c3 (all_nf c10 (all_nf c10 (all_nf c10 (all_f c13 (all_f c13 (all_f c13 (all_t c1 (all_t c0 (all_f c13 (all_f c13 (all_t c20 (all_t c20 (all_t c20 (all_t c1 (all_t c0 (all_t c20 (all_t c20 (all_t c27 (all_t c27 (all_t c27 (all_t c27 (all_t c20 (all_t c27 (all_f c13 (all_t c20 (all_nf c10 (all_f c13 (all_nf c10 (all_t rfl all_nil)))))))))))))))))))))))))))))))))))))))
            · skip
              refine ite_cases h (fun c40 h => ?_) (fun c40 h => ?_)
              · skip
                cases h
                refine turns_last (by simp) ?_
                exact M.run_of_path _ [tT, tT, tT, tT, tT, tT, tT, tT, tT, tT, tT, tT, tT, fF, fF, fF, tT, tT, fF, fF, tT, tT, tT, tT, tT, tT, tT, fF, fF, fF, tT, tT, fF, tT, fF, fF, tT, tT, fF, tT, tT] _ _ (by kernel_rfl) (all_t c0 (all_t c1 (all_t c0 (all_t c3 (all_t c3 (all_t c3 (all_t c1 (all_t c0 (all_t c3 (all_t c3 (all_nf c10 (all_nf c10 (all_nf c10 (all_f c13 (all_f c13 (all_f c13 (all_t c1 (all_t c0 (all_f c13 (all_f c13 (all_t c20 (all_t c20 (all_t c20 (all_t c1 (all_t c0 (all_t c20 (all_t c20 (all_f c27 (all_f c27 (all_f c27 (all_t c1 (all_t c0 (all_f c27 (all_t c20 (all_f c27 (all_f c13 (all_t c20 (all_nf c10 (all_f c13 (all_nf c10 (all_t c40 all_nil)))))))))))))))))))))))))))))))))))))))))
              · skip
                have ih := ih _ _ q h
                refine turns_step ?_ ih
                exact M.run_of_path _ [tT, tT, tT, tT, tT, tT, tT, tT, tT, tT, tT, tT, tT, fF, fF, fF, tT, tT, fF, fF, tT, tT, tT, tT, tT, tT, tT, fF, fF, fF, tT, tT, fF, tT, fF, fF, tT, tT, fF, tT, fF] _ _ (by kernel_rfl) (all_t c0 (all_t c1 (all_t c0 (all_t c3 (all_t c3 (all_t c3 (all_t c1 (all_t c0 (all_t c3 (all_t c3 (all_nf c10 (all_nf c10 (all_nf c10 (all_f c13 (all_f c13 (all_f c13 (all_t c1 (all_t c0 (all_f c13 (all_f c13 (all_t c20 (all_t c20 (all_t c20 (all_t c1 (all_t c0 (all_t c20 (all_t c20 (all_f c27 (all_f c27 (all_f c27 (all_t c1 (all_t c0 (all_f c27 (all_t c20 (all_f c27 (all_f c13 (all_t c20 (all_nf c10 (all_f c13 (all_nf c10 (all_f c40 all_nil)))))))))))))))))))))))))))))))))))))))))
          · skip
            have ih := ih _ _ q h
            refine turns_step ?_ ih
            exact M.run_of_path _ [tT, tT, tT, tT, tT, tT, tT, tT, tT, tT, tT, tT, tT, fF, fF, fF, tT, tT, fF, fF, fF, fF, fF, fF, fF, fF, fF, fF, tT, fF, tT, fF] _ _ (by kernel_rfl) (all_t c0 (all_t c1 (all_t c0 (all_t c3 (all_t c3 (all_t c3 (all_t c1 (all_t c0 (all_t c3 (all_t c3 (all_nf c10 (all_nf c10 (all_nf c10 (all_f c13 (all_f c13 (all_f c13 (all_t c1 (all_t c0 (all_f c13 (all_f c13 (all_f c20 (all_f c20 (all_f c20 (all_f c20 (all_f c20 (all_f c20 (all_f c13 (all_f c20 (all_nf c10 (all_f c13 (all_nf c10 (all_f Bool.false_ne_true all_nil))))))))))))))))))))))))))))))))
    · skip
      refine ite_cases h (fun c11 h => ?_) (fun c11 h => ?_)
      · skip
        cases h
        refine turns_last (by simp) ?_
        exact M.run_of_path _ [tT, tT, tT, fF, fF, fF, fF, fF, tT, tT, tT, tT, tT, tT, tT, tT, tT, tT, tT, tT, tT] _ _ (by kernel_rfl) (all_t c0 (all_t c1 (all_t c0 (all_f c3 (all_f c3 (all_f c3 (all_f c3 (all_f c3 (all_t rfl (all_t rfl (all_t rfl (all_t c11 (all_t c11 (all_t c11 (all_t c11 (all_t c11 (all_t c11 (all_t rfl (all_t c11 (all_t rfl (all_t rfl all_nil)))))))))))))))))))))
      · skip
        refine ite_cases h (fun c18 h => ?_) (fun c18 h => ?_)
        · skip
          refine ite_cases h (fun c25 h => ?_) (fun c25 h => ?_)
          · skip
            cases h
            refine turns_last (by simp) ?_
            exact M.run_of_path _ [tT, tT, tT, fF, fF, fF, fF, fF, tT, tT, tT, fF, fF, fF, tT, tT, fF, fF, tT, tT, tT, tT, tT, tT, tT, tT, tT, tT, tT, tT, tT, fF, tT, tT, fF, tT, tT] _ _ (by kernel_rfl) (all_t c0 (all_t c1 (all_t c0 (all_f c3 (all_f c3 (all_f c3 (all_f c3 (all_f c3 (all_t rfl (all_t rfl (all_t rfl (all_f c11 (all_f c11 (all_f c11 (all_t c1 (all_t c0 (all_f c11 (all_f c11 (all_t c18 (all_t c18 (all_t c18 (all_t c1 (all_t c0 (all_t c18 (all_t c18 (all_t c25 (all_t c25 (all_t c25 (all_t c25 (all_t c18 (all_t c25 (all_f c11 (all_t c18 (all_t rfl (all_f c11 (all_t rfl (all_t rfl all_nil)))))))))))))))))))))))))))))))))))))
          · skip
            refine ite_cases h (fun c38 h => ?_) (fun c38 h => ?_)
            · skip
              cases h
              refine turns_last (by simp) ?_
              exact M.run_of_path _ [tT, tT, tT, fF, fF, fF, fF, fF, tT, tT, tT, fF, fF, fF, tT, tT, fF, fF, tT, tT, tT, tT, tT, tT, tT, fF, fF, fF, tT, tT, fF, tT, fF, fF, tT, tT, fF, tT, tT] _ _ (by kernel_rfl) (all_t c0 (all_t c1 (all_t c0 (all_f c3 (all_f c3 (all_f c3 (all_f c3 (all_f c3 (all_t rfl (all_t rfl (all_t rfl (all_f c11 (all_f c11 (all_f c11 (all_t c1 (all_t c0 (all_f c11 (all_f c11 (all_t c18 (all_t c18 (all_t c18 (all_t c1 (all_t c0 (all_t c18 (all_t c18 (all_f c25 (all_f c25 (all_f c25 (all_t c1 (all_t c0 (all_f c25 (all_t c18 (all_f c25 (all_f c11 (all_t c18 (all_t rfl (all_f c11 (all_t rfl (all_t c38 all_nil)))))))))))))))))))))))))))))))))))))))
            · skip
              have ih := ih _ _ q h
              refine turns_step ?_ ih
              exact M.run_of_path _ [tT, tT, tT, fF, fF, fF, fF, fF, tT, tT, tT, fF, fF, fF, tT, tT, fF, fF, tT, tT, tT, tT, tT, tT, tT, fF, fF, fF, tT, tT, fF, tT, fF, fF, tT, tT, fF, tT, fF] _ _ (by kernel_rfl) (all_t c0 (all_t c1 (all_t c0 (all_f c3 (all_f c3 (all_f c3 (all_f c3 (all_f c3 (all_t rfl (all_t rfl (all_t rfl (all_f c11 (all_f c11 (all_f c11 (all_t c1 (all_t c0 (all_f c11 (all_f c11 (all_t c18 (all_t c18 (all_t c18 (all_t c1 (all_t c0 (all_t c18 (all_t c18 (all_f c25 (all_f c25 (all_f c25 (all_t c1 (all_t c0 (all_f c25 (all_t c18 (all_f c25 (all_f c11 (all_t c18 (all_t rfl (all_f c11 (all_t rfl (all_f c38 all_nil)))))))))))))))))))))))))))))))))))))))
        · skip
          have ih := ih _ _ q h
          refine turns_step ?_ ih
          exact M.run_of_path _ [tT, tT, tT, fF, fF, fF, fF, fF, tT, tT, tT, fF, fF, fF, tT, tT, fF, fF, fF, fF, fF, fF, fF, fF, fF, fF, tT, fF, tT, fF] _ _ (by kernel_rfl) (all_t c0 (all_t c1 (all_t c0 (all_f c3 (all_f c3 (all_f c3 (all_f c3 (all_f c3 (all_t rfl (all_t rfl (all_t rfl (all_f c11 (all_f c11 (all_f c11 (all_t c1 (all_t c0 (all_f c11 (all_f c11 (all_f c18 (all_f c18 (all_f c18 (all_f c18 (all_f c18 (all_f c18 (all_f c11 (all_f c18 (all_t rfl (all_f c11 (all_t rfl (all_f Bool.false_ne_true all_nil))))))))))))))))))))))))))))))
  · skip
    cases h
    refine turns_last (by simp) ?_
    exact M.run_of_path _ [fF] _ _ (by kernel_rfl) (all_f c0 all_nil)
theorem l40_0_ok (m : Nat) : ∀ (n : Nat) (x0 : Q8) (s3 : Int) (q : Nat × Int), l40_0 m n x0 s3 = some q → (turns (hds 40 9) 0 9 (cb3 m) n (l40_0H x0 s3) (l40_0B x0 s3)).run = some (l40_0E (x0) (q.2) q.1)
  | 0, x0, s3, q, h => by cases h
  | n + 1, x0, s3, q, h => l40_0_step m n (l40_0_ok m n) x0 s3 q h

def p40 (m : Nat) (x0 : Q8) : Option (Bool) :=
  if (Option.isSome (l40_0 m (m + 24) x0 0)) = true then
  if ((l40_0R m (m + 24) x0 0).1 == 0) = true then
    some (false)
  else
    if ((l40_0R m (m + 24) x0 0).1 == 1) = true then
      some (false)
    else
      if ((l40_0R m (m + 24) x0 0).1 == 2) = true then
        some (false)
      else
        if ((l40_0R m (m + 24) x0 0).1 == 3) = true then
          some (false)
        else
          if ((l40_0R m (m + 24) x0 0).1 == 4) = true then
            some (false)
          else
            if ((l40_0R m (m + 24) x0 0).1 == 5) = true then
              some (false)
            else
              if ((l40_0R m (m + 24) x0 0).1 == 6) = true then
              if decide ((((List.length x0) : Nat) : Int) ≥ 1) = true then
                some (decide ((((List.length x0) : Nat) : Int) ≤ 24))
              else
                some (false)
              else none
  else none
theorem p40_ok (m : Nat) (x0 : Q8) (q : Bool) (h : p40 m x0 = some q) : ∃ r B1, (evCall F S9 (m + 25) 40 [(.d (.str x0))] []).run = some (r, B1) ∧ 0 ≤ B1.length ∧ wkR B1 [] r (.d (.bool (q))) ∧ wkBs B1 [] 0 [] := by
  unfold p40 at h
  obtain ⟨c0, h⟩ := iY h
  refine ite_cases h (fun c1 h => ?_) (fun c1 h => ?_)
  · skip
    cases h
    refine ⟨(.d (.bool false)), [], runT_ok (LS := (fun k => if k = 9 then some (l40_0E x0 ((l40_0R m (m + 24) x0 0).2) 0) else none)) (fn := fn40) (vis := [(9, l40_0H x0 0, l40_0B x0 0)]) (by kernel_rfl) rfl (by kernel_rfl) (M.run_of_path _ [] _ _ (by kernel_rfl) all_nil) ?_, by simp, (wkR.one (wkV.one (wk1.eq rfl))), trivial⟩
    intro p hp p2 hq
    rcases List.mem_cons.1 hp with rfl | hp
    · skip
      have h3 := l40_0_ok m (m + 24) x0 0 _ (some_getD (d := l40_0D) c0)
      rw [eq_of_beq c1] at h3
      exact Eq.trans (Eq.mp (by kernel_rfl) h3) hq
    cases hp
  · skip
    refine ite_cases h (fun c2 h => ?_) (fun c2 h => ?_)
    · skip
      cases h
      refine ⟨(.d (.bool false)), [], runT_ok (LS := (fun k => if k = 9 then some (l40_0E x0 ((l40_0R m (m + 24) x0 0).2) 1) else none)) (fn := fn40) (vis := [(9, l40_0H x0 0, l40_0B x0 0)]) (by kernel_rfl) rfl (by kernel_rfl) (M.run_of_path _ [] _ _ (by kernel_rfl) all_nil) ?_, by simp, (wkR.one (wkV.one (wk1.eq rfl))), trivial⟩
      intro p hp p2 hq
      rcases List.mem_cons.1 hp with rfl | hp
      · skip
        have h3 := l40_0_ok m (m + 24) x0 0 _ (some_getD (d := l40_0D) c0)
        rw [eq_of_beq c2] at h3
        exact Eq.trans (Eq.mp (by kernel_rfl) h3) hq
      cases hp
    · skip
      refine ite_cases h (fun c3 h => ?_) (fun c3 h => ?_)
      · skip
        cases h
        refine ⟨(.d (.bool false)), [], runT_ok (LS := (fun k => if k = 9 then some (l40_0E x0 ((l40_0R m (m + 24) x0 0).2) 2) else none)) (fn := fn40) (vis := [(9, l40_0H x0 0, l40_0B x0 0)]) (by kernel_rfl) rfl (by kernel_rfl) (M.run_of_path _ [] _ _ (by kernel_rfl) all_nil) ?_, by simp, (wkR.one (wkV.one (wk1.eq rfl))), trivial⟩
        intro p hp p2 hq
        rcases List.mem_cons.1 hp with rfl | hp
        · skip
          have h3 := l40_0_ok m (m + 24) x0 0 _ (some_getD (d := l40_0D) c0)
          rw [eq_of_beq c3] at h3
          exact Eq.trans (Eq.mp (by kernel_rfl) h3) hq
        cases hp
      · skip
        refine ite_cases h (fun c4 h => ?_) (fun c4 h => ?_)
        · skip
          cases h
          refine ⟨(.d (.bool false)), [], runT_ok (LS := (fun k => if k = 9 then some (l40_0E x0 ((l40_0R m (m + 24) x0 0).2) 3) else none)) (fn := fn40) (vis := [(9, l40_0H x0 0, l40_0B x0 0)]) (by kernel_rfl) rfl (by kernel_rfl) (M.run_of_path _ [] _ _ (by kernel_rfl) all_nil) ?_, by simp, (wkR.one (wkV.one (wk1.eq rfl))), trivial⟩
          intro p hp p2 hq
          rcases List.mem_cons.1 hp with rfl | hp
          · skip
            have h3 := l40_0_ok m (m + 24) x0 0 _ (some_getD (d := l40_0D) c0)
            rw [eq_of_beq c4] at h3
            exact Eq.trans (Eq.mp (by kernel_rfl) h3) hq
          cases hp
        · skip
          refine ite_cases h (fun c5 h => ?_) (fun c5 h => ?_)
          · skip
            cases h
            refine ⟨(.d (.bool false)), [], runT_ok (LS := (fun k => if k = 9 then some (l40_0E x0 ((l40_0R m (m + 24) x0 0).2) 4) else none)) (fn := fn40) (vis := [(9, l40_0H x0 0, l40_0B x0 0)]) (by kernel_rfl) rfl (by kernel_rfl) (M.run_of_path _ [] _ _ (by kernel_rfl) all_nil) ?_, by simp, (wkR.one (wkV.one (wk1.eq rfl))), trivial⟩
            intro p hp p2 hq
            rcases List.mem_cons.1 hp with rfl | hp
            · skip
              have h3 := l40_0_ok m (m + 24) x0 0 _ (some_getD (d := l40_0D) c0)
              rw [eq_of_beq c5] at h3
              exact Eq.trans (Eq.mp (by kernel_rfl) h3) hq
            cases hp
          · skip
            refine ite_cases h (fun c6 h => ?_) (fun c6 h => ?_)
            · skip
              cases h
              refine ⟨(.d (.bool false)), [], runT_ok (LS := (fun k => if k = 9 then some (l40_0E x0 ((l40_0R m (m + 24) x0 0).2) 5) else none)) (fn := fn40) (vis := [(9, l40_0H x0 0, l40_0B x0 0)]) (by kernel_rfl) rfl (by kernel_rfl) (M.run_of_path _ [] _ _ (by kernel_rfl) all_nil) ?_, by simp, (wkR.one (wkV.one (wk1.eq rfl))), trivial⟩
              intro p hp p2 hq
              rcases List.mem_cons.1 hp with rfl | hp
              · skip
                have h3 := l40_0_ok m (m + 24) x0 0 _ (some_getD (d := l40_0D) c0)
                rw [eq_of_beq c6] at h3
                exact Eq.trans (Eq.mp (by kernel_rfl) h3) hq
              cases hp
            · skip
              obtain ⟨c7, h⟩ := iY h
              refine ite_cases h (fun c8 h => ?_) (fun c8 h => ?_)
              · skip
                cases h
                refine ⟨(.d (.bool (decide ((((List.length x0) : Nat) : Int) ≤ 24)))), [], runT_ok (LS := (fun k => if k = 9 then some (l40_0E x0 ((l40_0R m (m + 24) x0 0).2) 6) else none)) (fn := fn40) (vis := [(9, l40_0H x0 0, l40_0B x0 0)]) (by kernel_rfl) rfl (by kernel_rfl) (M.run_of_path _ [tT, tT, tT, tT] _ _ (by kernel_rfl) (all_t c8 (all_t c8 (all_t c8 (all_t c8 all_nil))))) ?_, by simp, (wkR.one (wkV.one (wk1.eq rfl))), trivial⟩
                intro p hp p2 hq
                rcases List.mem_cons.1 hp with rfl | hp
                · skip
                  have h3 := l40_0_ok m (m + 24) x0 0 _ (some_getD (d := l40_0D) c0)
                  rw [eq_of_beq c7] at h3
                  exact Eq.trans (Eq.mp (by kernel_rfl) h3) hq
                cases hp
              · skip
                cases h
                refine ⟨(.d (.bool false)), [], runT_ok (LS := (fun k => if k = 9 then some (l40_0E x0 ((l40_0R m (m + 24) x0 0).2) 6) else none)) (fn := fn40) (vis := [(9, l40_0H x0 0, l40_0B x0 0)]) (by kernel_rfl) rfl (by kernel_rfl) (M.run_of_path _ [fF, fF, fF, fF] _ _ (by kernel_rfl) (all_f c8 (all_f c8 (all_f c8 (all_f c8 all_nil))))) ?_, by simp, (wkR.one (wkV.one (wk1.eq rfl))), trivial⟩
                intro p hp p2 hq
                rcases List.mem_cons.1 hp with rfl | hp
                · skip
                  have h3 := l40_0_ok m (m + 24) x0 0 _ (some_getD (d := l40_0D) c0)
                  rw [eq_of_beq c7] at h3
                  exact Eq.trans (Eq.mp (by kernel_rfl) h3) hq
                cases hp

def okAt (k : Nat) (c : UInt8) : Bool := letterB c || (!(k == 0) && innerB c)
def allAt : Nat → Q8 → Bool
  | _, [] => true
  | k, c :: l => okAt k c && allAt (k + 1) l
theorem allAt_succ : ∀ (l : Q8) (k : Nat), allAt (k + 1) l = l.all innerB
  | [], _ => rfl
  | c :: l, k => by
    rw [allAt, allAt_succ l (k + 1), List.all_cons]
    unfold okAt innerB
    cases letterB c <;> rfl
theorem allAt_zero (s : Q8) : (decide (1 ≤ s.length) && decide (s.length ≤ 24) && allAt 0 s) = wordG s := by
  unfold wordG
  cases s with
  | nil => rfl
  | cons a l =>
    rw [allAt, allAt_succ, List.all_cons]
    unfold okAt
    have : letterB a = true → innerB a = true := fun h => by unfold innerB; rw [h]; rfl
    rw [List.getD_cons_zero]
    cases hL : letterB a with
    | false => simp
    | true => rw [this hL]; simp [Bool.and_assoc]
theorem rword_loop (m : Nat) (s : Q8) (h : s.length ≤ 9223372036854775807) : ∀ (n k : Nat), k ≤ s.length → s.length - k < n → ∃ e j, l40_0 m n s (k : Nat) = some (e, j) ∧ ((e = 6 ∧ allAt k (s.drop k) = true) ∨ ((e = 0 ∨ e = 1 ∨ e = 2 ∨ e = 3 ∨ e = 4 ∨ e = 5) ∧ allAt k (s.drop k) = false))
  | 0, k, _, h => by omega
  | n + 1, k, h1, h2 => by
    rw [l40_0]
    by_cases hk : k < s.length
    · have e1 : decide (((k : Nat) : Int) < (((List.length s) : Nat) : Int)) = true := decide_eq_true (by omega)
      have e2 : decide ((0 : Int) ≤ ((k : Nat) : Int)) = true := decide_eq_true (by omega)
      have e7 : IntKind.wrap .i64 (((k : Nat) : Int) + (1)) = ((k + 1 : Nat) : Int) := by rw [wrap_id (by omega) (by omega)]; rfl
      have go := rword_loop m s h n (k + 1) (by omega) (by omega)
      rw [drop_getD s k 0 hk, allAt]
      simp only [show Int.toNat ((k : Nat) : Int) = k from rfl, e1, e2, e7, ↓reduceIte]
      generalize s.getD k 0 = c at *
      have yes : okAt k c = true → ∃ e j, l40_0 m n s ((k + 1 : Nat) : Int) = some (e, j) ∧ ((e = 6 ∧ (okAt k c && allAt (k + 1) (s.drop (k + 1))) = true) ∨ ((e = 0 ∨ e = 1 ∨ e = 2 ∨ e = 3 ∨ e = 4 ∨ e = 5) ∧ (okAt k c && allAt (k + 1) (s.drop (k + 1))) = false)) := by
        intro h; rw [h, Bool.true_and]; exact go
      have no : ∀ e : Nat, (e = 0 ∨ e = 1 ∨ e = 2 ∨ e = 3 ∨ e = 4 ∨ e = 5) → okAt k c = false → ∃ e' j, (some (e, ((k : Nat) : Int)) : Option (Nat × Int)) = some (e', j) ∧ ((e' = 6 ∧ (okAt k c && allAt (k + 1) (s.drop (k + 1))) = true) ∨ ((e' = 0 ∨ e' = 1 ∨ e' = 2 ∨ e' = 3 ∨ e' = 4 ∨ e' = 5) ∧ (okAt k c && allAt (k + 1) (s.drop (k + 1))) = false)) := by
        intro e he h; exact ⟨e, _, rfl, .inr ⟨he, by rw [h]; rfl⟩⟩
      have hk0 : (((k : Nat) : Int) == (0)) = (k == 0) := by cases k <;> rfl
      have hok : okAt k c = (letterB c || (!(k == 0) && innerB c)) := rfl
      generalize okAt k c = o at *
      unfold innerB letterB at hok
      generalize UInt8.toNat c = v at *
      rw [hk0]
      have g1 : decide (((v : Nat) : Int) ≥ 97) = decide (97 ≤ v) := by rw [decide_eq_decide]; omega
      have g2 : decide (((v : Nat) : Int) ≤ 122) = decide (v ≤ 122) := by rw [decide_eq_decide]; omega
      have g3 : (((v : Nat) : Int) != (95)) = !(v == 95) := by
        by_cases h : v = 95
        · subst h; rfl
        · rw [show (v == 95) = false from beq_eq_false_iff_ne.2 h]; simp; omega
      have g4 : decide (((v : Nat) : Int) < 48) = !decide (48 ≤ v) := by
        by_cases h : 48 ≤ v
        · rw [show decide (48 ≤ v) = true from decide_eq_true h]; exact decide_eq_false (by omega)
        · rw [show decide (48 ≤ v) = false from decide_eq_false h]; exact decide_eq_true (by omega)
      have g5 : decide (((v : Nat) : Int) > 57) = !decide (v ≤ 57) := by
        by_cases h : v ≤ 57
        · rw [show decide (v ≤ 57) = true from decide_eq_true h]; exact decide_eq_false (by omega)
        · rw [show decide (v ≤ 57) = false from decide_eq_false h]; exact decide_eq_true (by omega)
      simp only [g1, g2, g3, g4, g5]
      generalize decide (97 ≤ v) = a1 at *
      generalize decide (v ≤ 122) = a2 at *
      generalize (v == 95) = a3 at *
      generalize decide (48 ≤ v) = a4 at *
      generalize decide (v ≤ 57) = a5 at *
      generalize (k == 0) = a0 at *
      cases a0 <;> cases a1 <;> cases a2 <;> cases a3 <;> cases a4 <;> cases a5 <;> simp only [Bool.not_true, Bool.not_false, Bool.and_true, Bool.and_false, Bool.true_and, Bool.false_and, Bool.or_true, Bool.or_false, Bool.and_self, Bool.or_self, ↓reduceIte, Bool.false_eq_true] at hok ⊢ <;> first | exact yes hok | exact no _ (by simp) hok
    · have e1 : decide (((k : Nat) : Int) < (((List.length s) : Nat) : Int)) = false := decide_eq_false (by omega)
      rw [e1, if_neg (by simp), List.drop_eq_nil_of_le (by omega)]
      exact ⟨6, _, rfl, .inl ⟨rfl, rfl⟩⟩
theorem rword40 (s : Q8) (h : decide (s.length ≤ 9223372036854775807) = true) : ∃ m, p40 m s = some (wordG s) := by
  have h := of_decide_eq_true h
  refine ⟨s.length, ?_⟩
  obtain ⟨e, j, hr, hc⟩ := rword_loop s.length s h (s.length + 24) 0 (by omega) (by omega)
  simp only [Int.natCast_zero, List.drop_zero] at hr hc
  unfold p40
  have hz := allAt_zero s
  have q1 : decide ((((List.length s) : Nat) : Int) ≥ 1) = decide (1 ≤ s.length) := by rw [decide_eq_decide]; omega
  have q2 : decide ((((List.length s) : Nat) : Int) ≤ 24) = decide (s.length ≤ 24) := by rw [decide_eq_decide]; omega
  simp only [l40_0R, hr, q1, q2, Option.isSome_some, Option.getD_some, ↓reduceIte]
  rcases hc with ⟨rfl, hc⟩ | ⟨rfl | rfl | rfl | rfl | rfl | rfl, hc⟩ <;> rw [hc] at hz <;> rw [← hz]
  · cases decide (1 ≤ s.length) <;> cases decide (s.length ≤ 24) <;> rfl
  all_goals (rw [Bool.and_false]; rfl)
def s40 : List AV → Boxes → M (AV × Boxes) := normS [.val .str] [] fun xs B => match xs, B with
  | [(.d (.str c1))], [] => .chk (decide (List.length c1 ≤ 9223372036854775807)) (.ret ((.d (.bool (wordG c1))), []))
  | _, _ => .fail
theorem s40_at : CallAt Tryd.prog 40 s40 := by
  refine CallAt.norm (CallAt.weakE (g := fun n => evCall F S9 n 40) (fun n => evCall_atH mixed kinds hds S9 S9_ok n 40) fun xs B r' B' hr => ?_) _ _
  split at hr
  · rename_i c1
    obtain ⟨hp, hr⟩ := (M.run_chk _ _ _).1 hr
    simp only [M.run, Option.some.injEq, Prod.mk.injEq] at hr
    obtain ⟨rfl, rfl⟩ := hr
    obtain ⟨m, hm⟩ := rword40 c1 hp
    obtain ⟨r, B1, h1, h2, h3, h4⟩ := p40_ok m c1 _ hm
    exact ⟨m + 25, r, B1, h1, by simp, h2, h3, h4⟩
  · simp [M.run] at hr
noncomputable def S10 : FuncId → Option (List AV → Boxes → M (AV × Boxes)) := fun f => if f = 40 then some s40 else S9 f
theorem S10_ok : ∀ f s, S10 f = some s → CallAt Tryd.prog f s := by
  intro f s h
  unfold S10 at h
  split at h
  · rename_i e; subst e; cases h; exact s40_at
  · exact S9_ok f s h

end Go.Proofs.YtghkbjflejgieaaDoor.Dec
