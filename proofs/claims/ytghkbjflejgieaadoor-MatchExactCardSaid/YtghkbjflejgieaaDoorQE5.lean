/- DERIVED: THE SHELF's CONTRACTS AT THIS DUMP, IN PLAIN WORDS (tools/lay-plain.mjs out of 'YtghkbjflejgieaaDoorShelf.lean', which tools/lay-shelf.mjs wrote): THE SAME DECLARATIONS UNDER THE SAME NAMES: 'import', 'namespace', 'open', 'def', 'theorem' AND NOTHING ELSE: no command of the shelf's: FOR A HAND-IN. Each laying: the table of numbers ('.._ren') and one theorem, a field a fact of the dump's o -/
import Derived.Test.YtghkbjflejgieaaDoorQE4
import Derived.Shelf.Strings.Builder1
import Derived.Shelf.Strings.Builder2
import Derived.Shelf.Strings.OnBuilder
import Derived.Shelf.Small.Strs
import Derived.Shelf.Strings.SlTrimAscii
import Derived.Test.YtghkbjflejgieaaDoorProg
import Derived.KernelRfl
namespace Go.Proofs
open Go.Shelf
def Tryd.lays169_ren : Go.Shelf.Ren := ⟨fun | 169 => 56 | n => n, fun | 70 => 82 | 9 => 9 | 0 => 0 | 72 => 85 | 37 => 83 | 127 => 100 | 3 => 3 | 5 => 5 | n => n, fun | n => n⟩
theorem Tryd.lays169 : Go.Proofs.Lays.n169 Tryd.prog Tryd.lays169_ren := {
  mixed := by kernel_rfl
  f169 := Tryd.func56.trans (congrArg some (by kernel_rfl))
  t0 := Tryd.underlying0
  a0 := Tryd.isAgg0
  z0 := Tryd.sizeOf0
  v0 := Tryd.zeroValue0
  t3 := Tryd.underlying3
  a3 := Tryd.isAgg3
  z3 := Tryd.sizeOf3
  v3 := Tryd.zeroValue3
  t9 := Tryd.underlying9
  a9 := Tryd.isAgg9
  z9 := Tryd.sizeOf9
  v9 := Tryd.zeroValue9
  t37 := Tryd.underlying83
  a37 := Tryd.isAgg83
  z37 := Tryd.sizeOf83
  v37 := Tryd.zeroValue83
  t70 := Tryd.underlying82
  a70 := Tryd.isAgg82
  z70 := Tryd.sizeOf82
  v70 := Tryd.zeroValue82
  t72 := Tryd.underlying85
  a72 := Tryd.isAgg85
  z72 := Tryd.sizeOf85
  v72 := Tryd.zeroValue85
  t127 := Tryd.underlying100
  a127 := Tryd.isAgg100
  z127 := Tryd.sizeOf100
  v127 := Tryd.zeroValue100 }
theorem Tryd.Builder_Extra_169 : Builder.Extra Tryd.prog Tryd.lays169_ren := {
  sizeBuilder := by kernel_rfl
  liesBuilder := by kernel_rfl
  t5 := Tryd.underlying5
  a5 := Tryd.isAgg5
  z5 := Tryd.sizeOf5
  v5 := Tryd.zeroValue5
  infoByte := by kernel_rfl
  cellsByte := by kernel_rfl
  sizeByte := by kernel_rfl
  neB5 := by decide }
open Go.RowKit in
/-- (*strings.Builder).String: "String returns the accumulated string.": WHATEVER THE BUILDER HOLDS. (LAID: no walk: one application.) -/
theorem Tryd.Builder_String_any (B b : Nat) (l : List UInt8) (w : World) (h : Lib.IsBuilder 85 5 B b (Lib.byteCells l) w) (hBw : B ≤ w.heap.size) :
    Calls Tryd.prog 56 #[.pointer (some ⟨b, 0, none⟩)] w fun e w' => e = .returned (.string ⟨l.toArray⟩) ∧ Below B w w' := Any.Builder_String_any Tryd.lays169 Tryd.Builder_Extra_169 B b l w h hBw
def Tryd.lays165_ren : Go.Shelf.Ren := ⟨fun | 165 => 57 | 240 => 68 | 241 => 69 | 276 => 75 | 277 => 76 | n => n, fun | 70 => 82 | 3 => 3 | 0 => 0 | 4 => 4 | 9 => 9 | 20 => 20 | 72 => 85 | 37 => 83 | 164 => 105 | 5 => 5 | n => n, fun | n => n⟩
theorem Tryd.lays165 : Go.Proofs.Lays.n165 Tryd.prog Tryd.lays165_ren := {
  mixed := by kernel_rfl
  f165 := Tryd.func57.trans (congrArg some (by kernel_rfl))
  f240 := Tryd.func68.trans (congrArg some (by kernel_rfl))
  f241 := Tryd.func69.trans (congrArg some (by kernel_rfl))
  f276 := Tryd.func75.trans (congrArg some (by kernel_rfl))
  f277 := Tryd.func76.trans (congrArg some (by kernel_rfl))
  t0 := Tryd.underlying0
  a0 := Tryd.isAgg0
  z0 := Tryd.sizeOf0
  v0 := Tryd.zeroValue0
  t3 := Tryd.underlying3
  a3 := Tryd.isAgg3
  z3 := Tryd.sizeOf3
  v3 := Tryd.zeroValue3
  t4 := Tryd.underlying4
  a4 := Tryd.isAgg4
  z4 := Tryd.sizeOf4
  v4 := Tryd.zeroValue4
  t9 := Tryd.underlying9
  a9 := Tryd.isAgg9
  z9 := Tryd.sizeOf9
  v9 := Tryd.zeroValue9
  t20 := Tryd.underlying20
  a20 := Tryd.isAgg20
  z20 := Tryd.sizeOf20
  v20 := Tryd.zeroValue20
  t37 := Tryd.underlying83
  a37 := Tryd.isAgg83
  z37 := Tryd.sizeOf83
  v37 := Tryd.zeroValue83
  t70 := Tryd.underlying82
  a70 := Tryd.isAgg82
  z70 := Tryd.sizeOf82
  v70 := Tryd.zeroValue82
  t72 := Tryd.underlying85
  a72 := Tryd.isAgg85
  z72 := Tryd.sizeOf85
  v72 := Tryd.zeroValue85
  t164 := Tryd.underlying105
  a164 := Tryd.isAgg105
  z164 := Tryd.sizeOf105
  v164 := Tryd.zeroValue105 }
theorem Tryd.Builder_Extra_165 : Builder.Extra Tryd.prog Tryd.lays165_ren := {
  sizeBuilder := by kernel_rfl
  liesBuilder := by kernel_rfl
  t5 := Tryd.underlying5
  a5 := Tryd.isAgg5
  z5 := Tryd.sizeOf5
  v5 := Tryd.zeroValue5
  infoByte := by kernel_rfl
  cellsByte := by kernel_rfl
  sizeByte := by kernel_rfl
  neB5 := by decide }
open Go.RowKit in
/-- (*strings.Builder).Grow AT A BUILDER THAT HAS NOT BEEN WRITTEN ('var b strings.Builder; b.Grow(n)'): "Grow grows b's capacity, if necessary, to guarantee space for another n bytes.": it holds no byte behind it as before it. (LAID: no walk: one application.) -/
theorem Tryd.Builder_Grow_fresh (B b n : Nat) (w : World) (hB : B ≤ b) (hbk : w.heap[b]? = some (.cells #[.pointer none, .slice none 0 0] 85 (0, 0))) (hBw : B ≤ w.heap.size) (hn : n ≤ 281474976710656) :
    Calls Tryd.prog 57 #[.pointer (some ⟨b, 0, none⟩), .int .i64 n] w fun e w' => e = .returned (.tuple #[]) ∧ (Lib.BuilderAt 85 5 B b (.pointer (some ⟨b, 0, none⟩)) [] w' ∧ Below B w w') := Any.Builder_Grow_fresh Tryd.lays165 Tryd.Builder_Extra_165 B b n w hB hbk hBw hn
def Tryd.lays156_ren : Go.Shelf.Ren := ⟨fun | 156 => 46 | 165 => 57 | 166 => 58 | 169 => 56 | 240 => 68 | 241 => 69 | 276 => 75 | 277 => 76 | n => n, fun | 31 => 27 | 9 => 9 | 3 => 3 | 4 => 4 | 0 => 0 | 20 => 20 | 72 => 85 | 76 => 91 | 70 => 82 | 37 => 83 | 75 => 87 | 127 => 100 | 164 => 105 | 5 => 5 | 80 => 89 | n => n, fun | n => n⟩
theorem Tryd.lays156 : Go.Proofs.Lays.n156 Tryd.prog Tryd.lays156_ren := {
  mixed := by kernel_rfl
  f156 := Tryd.func46.trans (congrArg some (by kernel_rfl))
  f165 := Tryd.func57.trans (congrArg some (by kernel_rfl))
  f166 := Tryd.func58.trans (congrArg some (by kernel_rfl))
  f169 := Tryd.func56.trans (congrArg some (by kernel_rfl))
  f240 := Tryd.func68.trans (congrArg some (by kernel_rfl))
  f241 := Tryd.func69.trans (congrArg some (by kernel_rfl))
  f276 := Tryd.func75.trans (congrArg some (by kernel_rfl))
  f277 := Tryd.func76.trans (congrArg some (by kernel_rfl))
  t0 := Tryd.underlying0
  a0 := Tryd.isAgg0
  z0 := Tryd.sizeOf0
  v0 := Tryd.zeroValue0
  t3 := Tryd.underlying3
  a3 := Tryd.isAgg3
  z3 := Tryd.sizeOf3
  v3 := Tryd.zeroValue3
  t4 := Tryd.underlying4
  a4 := Tryd.isAgg4
  z4 := Tryd.sizeOf4
  v4 := Tryd.zeroValue4
  t9 := Tryd.underlying9
  a9 := Tryd.isAgg9
  z9 := Tryd.sizeOf9
  v9 := Tryd.zeroValue9
  t20 := Tryd.underlying20
  a20 := Tryd.isAgg20
  z20 := Tryd.sizeOf20
  v20 := Tryd.zeroValue20
  t31 := Tryd.underlying27
  a31 := Tryd.isAgg27
  z31 := Tryd.sizeOf27
  v31 := Tryd.zeroValue27
  t37 := Tryd.underlying83
  a37 := Tryd.isAgg83
  z37 := Tryd.sizeOf83
  v37 := Tryd.zeroValue83
  t70 := Tryd.underlying82
  a70 := Tryd.isAgg82
  z70 := Tryd.sizeOf82
  v70 := Tryd.zeroValue82
  t72 := Tryd.underlying85
  a72 := Tryd.isAgg85
  z72 := Tryd.sizeOf85
  v72 := Tryd.zeroValue85
  t75 := Tryd.underlying87
  a75 := Tryd.isAgg87
  z75 := Tryd.sizeOf87
  v75 := Tryd.zeroValue87
  t76 := Tryd.underlying91
  a76 := Tryd.isAgg91
  z76 := Tryd.sizeOf91
  v76 := Tryd.zeroValue91
  t127 := Tryd.underlying100
  a127 := Tryd.isAgg100
  z127 := Tryd.sizeOf100
  v127 := Tryd.zeroValue100
  t164 := Tryd.underlying105
  a164 := Tryd.isAgg105
  z164 := Tryd.sizeOf105
  v164 := Tryd.zeroValue105 }
theorem Tryd.Builder_Extra_156 : Builder.Extra Tryd.prog Tryd.lays156_ren := {
  sizeBuilder := by kernel_rfl
  liesBuilder := by kernel_rfl
  t5 := Tryd.underlying5
  a5 := Tryd.isAgg5
  z5 := Tryd.sizeOf5
  v5 := Tryd.zeroValue5
  infoByte := by kernel_rfl
  cellsByte := by kernel_rfl
  sizeByte := by kernel_rfl
  neB5 := by decide }
open Go.RowKit in
/-- No element: the empty string; the world is as it was. (Whatever the slice's address and capacity: a nil slice too.) (LAID: no walk: one application.) -/
theorem Tryd.strings_Join_none (a : Option Addr) (c : Nat) (sep : ByteArray) (w : World) :
    Calls Tryd.prog 46 #[.slice a 0 c, .string sep] w fun e w' => e = .returned (.string ⟨#[]⟩) ∧ w' = w := Any.strings_Join_none Tryd.lays156 Tryd.Builder_Extra_156 a c sep w
open Go.RowKit in
/-- strings.Join: "Join concatenates the elements of its first argument to create a single string. The separator string sep is placed between elements in the resulting string.": HOWEVER MANY ELEMENTS. Below the heap's end the world is as it was. (LAID: no walk: one application.) -/
theorem Tryd.strings_Join (bk o c : Nat) (xs : List ByteArray) (sep : ByteArray) (w : World) (hcells : ∀ (j : Nat) x, xs[j]? = some x → w.cell? ⟨bk, o + j, none⟩ = some (.string x)) (hbk : bk < w.heap.size) (hN : xs.length ≤ 140737488355328) (hcap : xs.length ≤ c) (hlen : (Lib.join (xs.map (·.data.toList)) sep.data.toList).length ≤ 140737488355328) :
    Calls Tryd.prog 46 #[.slice (some ⟨bk, o, none⟩) xs.length c, .string sep] w fun e w' => e = .returned (.string ⟨(Lib.join (xs.map (·.data.toList)) sep.data.toList).toArray⟩) ∧ Below w.heap.size w w' := Any.strings_Join Tryd.lays156 Tryd.Builder_Extra_156 bk o c xs sep w hcells hbk hN hcap hlen
def Tryd.lays160_ren : Go.Shelf.Ren := ⟨fun | 160 => 52 | 232 => 61 | 231 => 60 | 227 => 62 | 234 => 64 | 233 => 63 | 236 => 66 | 235 => 65 | 228 => 71 | 271 => 74 | 151 => 73 | 197 => 72 | 120 => 79 | 152 => 78 | 260 => 77 | 137 => 51 | 119 => 80 | 224 => 81 | 225 => 82 | 217 => 59 | 266 => 70 | n => n, fun | 9 => 9 | 4 => 4 | 3 => 3 | 5 => 5 | 117 => 96 | 116 => 95 | 0 => 0 | 124 => 99 | 21 => 21 | 105 => 102 | 46 => 110 | 119 => 109 | 139 => 113 | 138 => 112 | n => n, fun | 3 => 1 | 4 => 2 | n => n⟩
theorem Tryd.lays160 : Go.Proofs.Lays.n160 Tryd.prog Tryd.lays160_ren := {
  mixed := by kernel_rfl
  f119 := Tryd.func80.trans (congrArg some (by kernel_rfl))
  f120 := Tryd.func79.trans (congrArg some (by kernel_rfl))
  f137 := Tryd.func51.trans (congrArg some (by kernel_rfl))
  f151 := Tryd.func73.trans (congrArg some (by kernel_rfl))
  f152 := Tryd.func78.trans (congrArg some (by kernel_rfl))
  f160 := Tryd.func52.trans (congrArg some (by kernel_rfl))
  f197 := Tryd.func72.trans (congrArg some (by kernel_rfl))
  f217 := Tryd.func59.trans (congrArg some (by kernel_rfl))
  f224 := Tryd.func81.trans (congrArg some (by kernel_rfl))
  f225 := Tryd.func82.trans (congrArg some (by kernel_rfl))
  f227 := Tryd.func62.trans (congrArg some (by kernel_rfl))
  f228 := Tryd.func71.trans (congrArg some (by kernel_rfl))
  f231 := Tryd.func60.trans (congrArg some (by kernel_rfl))
  f232 := Tryd.func61.trans (congrArg some (by kernel_rfl))
  f233 := Tryd.func63.trans (congrArg some (by kernel_rfl))
  f234 := Tryd.func64.trans (congrArg some (by kernel_rfl))
  f235 := Tryd.func65.trans (congrArg some (by kernel_rfl))
  f236 := Tryd.func66.trans (congrArg some (by kernel_rfl))
  f260 := Tryd.func77.trans (congrArg some (by kernel_rfl))
  f266 := Tryd.func70.trans (congrArg some (by kernel_rfl))
  f271 := Tryd.func74.trans (congrArg some (by kernel_rfl))
  t0 := Tryd.underlying0
  a0 := Tryd.isAgg0
  z0 := Tryd.sizeOf0
  v0 := Tryd.zeroValue0
  t3 := Tryd.underlying3
  a3 := Tryd.isAgg3
  z3 := Tryd.sizeOf3
  v3 := Tryd.zeroValue3
  t4 := Tryd.underlying4
  a4 := Tryd.isAgg4
  z4 := Tryd.sizeOf4
  v4 := Tryd.zeroValue4
  t5 := Tryd.underlying5
  a5 := Tryd.isAgg5
  z5 := Tryd.sizeOf5
  v5 := Tryd.zeroValue5
  t9 := Tryd.underlying9
  a9 := Tryd.isAgg9
  z9 := Tryd.sizeOf9
  v9 := Tryd.zeroValue9
  t21 := Tryd.underlying21
  a21 := Tryd.isAgg21
  z21 := Tryd.sizeOf21
  v21 := Tryd.zeroValue21
  t46 := Tryd.underlying110
  a46 := Tryd.isAgg110
  z46 := Tryd.sizeOf110
  v46 := Tryd.zeroValue110
  t105 := Tryd.underlying102
  a105 := Tryd.isAgg102
  z105 := Tryd.sizeOf102
  v105 := Tryd.zeroValue102
  t116 := Tryd.underlying95
  a116 := Tryd.isAgg95
  z116 := Tryd.sizeOf95
  t117 := Tryd.underlying96
  a117 := Tryd.isAgg96
  z117 := Tryd.sizeOf96
  v117 := Tryd.zeroValue96
  t119 := Tryd.underlying109
  a119 := Tryd.isAgg109
  z119 := Tryd.sizeOf109
  t124 := Tryd.underlying99
  a124 := Tryd.isAgg99
  z124 := Tryd.sizeOf99
  v124 := Tryd.zeroValue99
  t138 := Tryd.underlying112
  a138 := Tryd.isAgg112
  z138 := Tryd.sizeOf112
  v138 := Tryd.zeroValue112
  t139 := Tryd.underlying113
  a139 := Tryd.isAgg113
  z139 := Tryd.sizeOf113
  v139 := Tryd.zeroValue113
  g3 := by kernel_rfl
  g4 := by kernel_rfl }
open Go.RowKit Go.Lib in
theorem Tryd.strings_Trim_set (s cutset : ByteArray) (w : World) (hs : s.size ≤ 9223372036854775807) (hcs : cutset.size < 4294967281) (hascii : ∀ (j : Nat) b, cutset.data.toList[j]? = some b → b.toNat < 128) :
    Calls Tryd.prog 52 #[.string s, .string cutset] w fun e w' => e = .returned (.string ⟨(Lib.trimS s.data.toList cutset.data.toList).toArray⟩) ∧ Below w.heap.size w w' := Any.strings_Trim_laid Tryd.lays160 (by kernel_rfl) s cutset w hs hcs hascii
def Tryd.lays240_ren : Go.Shelf.Ren := ⟨fun | 240 => 68 | 276 => 75 | n => n, fun | 0 => 0 | 37 => 83 | 4 => 4 | 9 => 9 | 20 => 20 | 70 => 82 | 72 => 85 | 164 => 105 | n => n, fun | n => n⟩
theorem Tryd.lays240 : Go.Proofs.Lays.n240 Tryd.prog Tryd.lays240_ren := {
  mixed := by kernel_rfl
  f240 := Tryd.func68.trans (congrArg some (by kernel_rfl))
  f276 := Tryd.func75.trans (congrArg some (by kernel_rfl))
  t0 := Tryd.underlying0
  a0 := Tryd.isAgg0
  z0 := Tryd.sizeOf0
  v0 := Tryd.zeroValue0
  t4 := Tryd.underlying4
  a4 := Tryd.isAgg4
  z4 := Tryd.sizeOf4
  v4 := Tryd.zeroValue4
  t9 := Tryd.underlying9
  a9 := Tryd.isAgg9
  z9 := Tryd.sizeOf9
  v9 := Tryd.zeroValue9
  t20 := Tryd.underlying20
  a20 := Tryd.isAgg20
  z20 := Tryd.sizeOf20
  v20 := Tryd.zeroValue20
  t70 := Tryd.underlying82
  a70 := Tryd.isAgg82
  z70 := Tryd.sizeOf82
  v70 := Tryd.zeroValue82
  t72 := Tryd.underlying85
  a72 := Tryd.isAgg85
  z72 := Tryd.sizeOf85
  v72 := Tryd.zeroValue85
  t164 := Tryd.underlying105
  a164 := Tryd.isAgg105
  z164 := Tryd.sizeOf105
  v164 := Tryd.zeroValue105 }
theorem Tryd.Builder_X72_240 : Builder.X72 Tryd.prog Tryd.lays240_ren := {
  sizeBuilder := by kernel_rfl
  liesBuilder := by kernel_rfl }
end Go.Proofs
namespace Go.Proofs.YtghkbjflejgieaaDoor.Ev
open Go.Ev
theorem mixed : Tryd.prog.follows .mixedOrders = true := by kernel_rfl
instance ctx : Ctx := ⟨fun t e => t = .int .u8 → e = 5, fun _ => False, fun _ => True, fun _ _ _ h => h⟩
instance tagOK : TagOK Tryd.prog := tagOK_of (u := 5) (fun _ _ => Iff.rfl) (by kernel_rfl)
def kinds : FuncId → Bool × Bool := fun f => (true, f == 50)
theorem clone33 : CallAt Tryd.prog 33 (plainS (cloneG (.pair .str .str) 32)) :=
  clone_at mixed 24 24 23 (.pair .str .str) 32 Tryd.func33 (by kernel_rfl) (by kernel_rfl) (by kernel_rfl) (by kernel_rfl) (by kernel_rfl) (by kernel_rfl) (by kernel_rfl) (by kernel_rfl) (by kernel_rfl) (by kernel_rfl) (by kernel_rfl) (by kernel_rfl) (by kernel_rfl) (by kernel_rfl) (by kernel_rfl) (by kernel_rfl) (by kernel_rfl) (by kernel_rfl) (by kernel_rfl)
theorem libstringsTrim : CallAt Tryd.prog 52 (plainV trimG) := trim_at Tryd.func52 (by kernel_rfl) (by kernel_rfl) Tryd.strings_Trim_set
theorem libstringsJoin : CallAt Tryd.prog 46 (plainV joinG) := join_at Tryd.func46 (by kernel_rfl) (by kernel_rfl) Tryd.strings_Join_none Tryd.strings_Join
theorem libCopyCheck : CallAt Tryd.prog 68 (copyCheckS 85) := copyCheck_at Tryd.func68 (by kernel_rfl) (by kernel_rfl) (fun b w h1 h2 h3 => Any.Builder_copyCheck_fresh Tryd.lays240 Tryd.Builder_X72_240 b w h1 h2 h3) (fun b w h => Any.Builder_copyCheck_used Tryd.lays240 Tryd.Builder_X72_240 b w h)
def S : FuncId → Option (List AV → Boxes → M (AV × Boxes)) := fun f => if f = 33 then some (plainS (cloneG (.pair .str .str) 32)) else if f = 52 then some (plainV trimG) else if f = 46 then some (plainV joinG) else if f = 68 then some (copyCheckS 85) else none
theorem S_ok : ∀ f s, S f = some s → CallAt Tryd.prog f s := by
  intro f s h
  unfold S at h
  split at h
  · rename_i e; subst e; cases h; exact clone33
  split at h
  · rename_i e; subst e; cases h; exact libstringsTrim
  split at h
  · rename_i e; subst e; cases h; exact libstringsJoin
  split at h
  · rename_i e; subst e; cases h; exact libCopyCheck
  cases h
end Go.Proofs.YtghkbjflejgieaaDoor.Ev
namespace Go.Proofs.YtghkbjflejgieaaDoor.Dec
open Go.Ev
set_option linter.unusedVariables false
set_option linter.unusedSimpArgs false
set_option maxRecDepth 100000
theorem mixed : Tryd.prog.follows .mixedOrders = true := by kernel_rfl
open Go.Proofs.YtghkbjflejgieaaDoor.Ev (ctx tagOK)
def kinds : FuncId → Bool × Bool := fun _ => (true, false)
def hds : FuncId → Nat → Hd := fun f => noHd
@[reducible] noncomputable def F := fnsH Tryd.prog kinds hds
@[reducible] noncomputable def byref : FuncId → Bool := fun g => match F g with | some h => h.byref | none => false
noncomputable def S0 : FuncId → Option (List AV → Boxes → M (AV × Boxes)) := fun _ => none
set_option maxHeartbeats 20000000 in
theorem S0_ok : ∀ f s, S0 f = some s → CallAt Tryd.prog f s := fun f s h => by cases h
theorem some_getD {α : Type} {o : Option α} {d : α} (h : o.isSome = true) : o = some (o.getD d) := by
  cases o with
  | none => cases h
  | some a => rfl
theorem ite_cases {c : Prop} [Decidable c] {α : Type} {a b : Option α} {q : α} {G : Prop} (h : (if c then a else b) = some q) (h1 : c → a = some q → G) (h2 : ¬ c → b = some q → G) : G := by
  by_cases hc : c
  · rw [if_pos hc] at h; exact h1 hc h
  · rw [if_neg hc] at h; exact h2 hc h
theorem all_t {c : Bool} {l : List Bool} (h : c = true) (h2 : l.all id = true) : ((c == true) :: l).all id = true := by subst h; simpa using h2
theorem all_f {c : Bool} {l : List Bool} (h : ¬ c = true) (h2 : l.all id = true) : ((c == false) :: l).all id = true := by
  cases c with
  | false => simpa using h2
  | true => exact absurd rfl h
theorem turns_eq {h : Hd} {k0 keep : Nat} {f : LoopG} {n : Nat} {e e2 : Env} {B B2 : Boxes} {r : Option (AEx × Env × Boxes)} (h1 : e = e2) (h2 : B = B2) (h3 : (turns h k0 keep f n e2 B2).run = r) : (turns h k0 keep f n e B).run = r := by
  subst h1; subst h2; exact h3
theorem all_nil : ([] : List Bool).all id = true := rfl
theorem all_nt {c : Bool} {l : List Bool} (h : c = true) (h2 : l.all id = true) : (((!c) == false) :: l).all id = true := by subst h; simpa using h2
theorem all_nf {c : Bool} {l : List Bool} (h : ¬ c = true) (h2 : l.all id = true) : (((!c) == true) :: l).all id = true := by
  cases c with
  | false => simpa using h2
  | true => exact absurd rfl h
theorem all_nnt {c : Bool} {l : List Bool} (h : c = true) (h2 : l.all id = true) : (((!(!c)) == true) :: l).all id = true := by subst h; simpa using h2
theorem all_nnf {c : Bool} {l : List Bool} (h : ¬ c = true) (h2 : l.all id = true) : (((!(!c)) == false) :: l).all id = true := by
  cases c with
  | false => simpa using h2
  | true => exact absurd rfl h

noncomputable def S1 : FuncId → Option (List AV → Boxes → M (AV × Boxes)) := fun f => if f = 20 then some withinS else S0 f
set_option maxHeartbeats 20000000 in
theorem S1_ok : ∀ f s, S1 f = some s → CallAt Tryd.prog f s := by
  intro f s h
  unfold S1 at h
  split at h
  · rename_i e; subst e; cases h; exact (within_at mixed (kinds := kinds) (by kernel_rfl))
  · exact S0_ok f s h

end Go.Proofs.YtghkbjflejgieaaDoor.Dec
namespace Go.Proofs.YtghkbjflejgieaaDoor.Dec
open Go.Ev
set_option linter.unusedVariables false
set_option linter.unusedSimpArgs false
set_option maxRecDepth 100000
noncomputable def fn29 : AFn := (F 29).getD ⟨0, [], .bad, false, false, noHd⟩
noncomputable def body29 : AC := fn29.body
def l29_0 (m : Nat) : Nat → List ((List UInt8) × (List UInt8)) → List UInt8 → Int → Int → Option (Nat × Int)
  | 0, _, _, _, _ => none
  | n + 1, x0, x1, s8, s9 => if decide (s9 < s8) = true then
      if decide (0 ≤ s9) = true then
        if decide (s9 < (((List.length x0) : Nat) : Int)) = true then
          if ((List.getD x0 (Int.toNat s9) (([] : List UInt8), ([] : List UInt8))).1 == x1) = true then
            some (0, s9)
          else
            l29_0 m n x0 x1 s8 ((IntKind.wrap .i64 (s9 + (1))))
        else
          none
      else
        none
    else
      some (1, s9)
def l29_0D : Nat × Int := (0, 0)
@[reducible] def l29_0R (m n : Nat) (x0 : List ((List UInt8) × (List UInt8))) (x1 : List UInt8) (s8 : Int) (s9 : Int) : Nat × Int := Option.getD (l29_0 m n x0 x1 s8 s9) l29_0D
def l29_0H (x0 : List ((List UInt8) × (List UInt8))) (x1 : List UInt8) (s8 : Int) (s9 : Int) : Env := [.top, (.d (.str x1)), .top, .top, .top, .top, .top, (.d (.sl (.pair .str .str) x0)), (.d (.int .i64 s8)), (.d (.int .i64 s9)), .top, .top, .top, .top, .top, .top, .top, .top, .top, .top]
def l29_0B (x0 : List ((List UInt8) × (List UInt8))) (x1 : List UInt8) (s8 : Int) (s9 : Int) : Boxes := []
def l29_0E (x0 : List ((List UInt8) × (List UInt8))) (x1 : List UInt8) (s8 : Int) (s9 : Int) : Nat → AEx × Env × Boxes
  | 0 => (.ret, [.top, (.d (.str x1)), .top, .top, (.d (.str (List.getD x0 (Int.toNat s9) (([] : List UInt8), ([] : List UInt8))).2)), .top, (.ptr 0 0), (.d (.sl (.pair .str .str) x0)), (.d (.int .i64 s8)), (.d (.int .i64 s9)), (.d (.bool (decide (s9 < s8)))), (.cptr [(.str (List.getD x0 (Int.toNat s9) (([] : List UInt8), ([] : List UInt8))).1), (.str (List.getD x0 (Int.toNat s9) (([] : List UInt8), ([] : List UInt8))).2)] 0), (.agg [(.d (.str (List.getD x0 (Int.toNat s9) (([] : List UInt8), ([] : List UInt8))).1)), (.d (.str (List.getD x0 (Int.toNat s9) (([] : List UInt8), ([] : List UInt8))).2))]), (.ptr 0 0), (.d (.str (List.getD x0 (Int.toNat s9) (([] : List UInt8), ([] : List UInt8))).1)), (.d (.str x1)), (.d (.bool ((List.getD x0 (Int.toNat s9) (([] : List UInt8), ([] : List UInt8))).1 == x1))), (.ptr 0 1), (.d (.str (List.getD x0 (Int.toNat s9) (([] : List UInt8), ([] : List UInt8))).2)), .top], [(.cells [(.d (.str (List.getD x0 (Int.toNat s9) (([] : List UInt8), ([] : List UInt8))).1)), (.d (.str (List.getD x0 (Int.toNat s9) (([] : List UInt8), ([] : List UInt8))).2))])])
  | _ => (.exit 0, [.top, (.d (.str x1)), .top, .top, .top, .top, .top, (.d (.sl (.pair .str .str) x0)), (.d (.int .i64 s8)), (.d (.int .i64 s9)), (.d (.bool (decide (s9 < s8)))), .top, .top, .top, .top, .top, .top, .top, .top, .top], [])
noncomputable def lbl29_0 : AC := loopBody 898 body29

set_option maxHeartbeats 20000000 in
theorem l29_0_w0 (m n : Nat) (x0 : List ((List UInt8) × (List UInt8))) (x1 : List UInt8) (s8 : Int) (s9 : Int) (c0 : decide (s9 < s8) = true) (c1 : decide (0 ≤ s9) = true) (c2 : decide (s9 < (((List.length x0) : Nat) : Int)) = true) (c3 : ((List.getD x0 (Int.toNat s9) (([] : List UInt8), ([] : List UInt8))).1 == x1) = true) : (turns (hds 29 898) 0 898 (evC byref (evCall F S1 (m + 24)) (m + 24) 0 (hds 29) lbl29_0) (n + 1) (l29_0H x0 x1 s8 s9) (l29_0B x0 x1 s8 s9)).run = some (.ret, [.top, (.d (.str x1)), .top, .top, (.d (.str (List.getD x0 (Int.toNat s9) (([] : List UInt8), ([] : List UInt8))).2)), .top, (.ptr 0 0), (.d (.sl (.pair .str .str) x0)), (.d (.int .i64 s8)), (.d (.int .i64 s9)), (.d (.bool (decide (s9 < s8)))), (.cptr [(.str (List.getD x0 (Int.toNat s9) (([] : List UInt8), ([] : List UInt8))).1), (.str (List.getD x0 (Int.toNat s9) (([] : List UInt8), ([] : List UInt8))).2)] 0), (.agg [(.d (.str (List.getD x0 (Int.toNat s9) (([] : List UInt8), ([] : List UInt8))).1)), (.d (.str (List.getD x0 (Int.toNat s9) (([] : List UInt8), ([] : List UInt8))).2))]), (.ptr 0 0), (.d (.str (List.getD x0 (Int.toNat s9) (([] : List UInt8), ([] : List UInt8))).1)), (.d (.str x1)), (.d (.bool ((List.getD x0 (Int.toNat s9) (([] : List UInt8), ([] : List UInt8))).1 == x1))), (.ptr 0 1), (.d (.str (List.getD x0 (Int.toNat s9) (([] : List UInt8), ([] : List UInt8))).2)), .top], [(.cells [(.d (.str (List.getD x0 (Int.toNat s9) (([] : List UInt8), ([] : List UInt8))).1)), (.d (.str (List.getD x0 (Int.toNat s9) (([] : List UInt8), ([] : List UInt8))).2))])]) := by
  exact turns_last (by simp) (M.run_of_path _ [true, true, true, true] _ _ (by kernel_rfl) (all_t c0 (all_t c1 (all_t c2 (all_t c3 all_nil))))) 
set_option maxHeartbeats 20000000 in
theorem l29_0_w1 (m n : Nat) (x0 : List ((List UInt8) × (List UInt8))) (x1 : List UInt8) (s8 : Int) (s9 : Int) (r : AEx × Env × Boxes) (c0 : decide (s9 < s8) = true) (c1 : decide (0 ≤ s9) = true) (c2 : decide (s9 < (((List.length x0) : Nat) : Int)) = true) (c3 : ¬ ((List.getD x0 (Int.toNat s9) (([] : List UInt8), ([] : List UInt8))).1 == x1) = true) (ih : (turns (hds 29 898) 0 898 (evC byref (evCall F S1 (m + 24)) (m + 24) 0 (hds 29) lbl29_0) n (l29_0H x0 x1 s8 ((IntKind.wrap .i64 (s9 + (1))))) (l29_0B x0 x1 s8 ((IntKind.wrap .i64 (s9 + (1)))))).run = some r) : (turns (hds 29 898) 0 898 (evC byref (evCall F S1 (m + 24)) (m + 24) 0 (hds 29) lbl29_0) (n + 1) (l29_0H x0 x1 s8 s9) (l29_0B x0 x1 s8 s9)).run = some r := by
  exact turns_step (M.run_of_path _ [true, true, true, false] _ _ (by kernel_rfl) (all_t c0 (all_t c1 (all_t c2 (all_f c3 all_nil))))) ih
set_option maxHeartbeats 20000000 in
theorem l29_0_w2 (m n : Nat) (x0 : List ((List UInt8) × (List UInt8))) (x1 : List UInt8) (s8 : Int) (s9 : Int) (c0 : ¬ decide (s9 < s8) = true) : (turns (hds 29 898) 0 898 (evC byref (evCall F S1 (m + 24)) (m + 24) 0 (hds 29) lbl29_0) (n + 1) (l29_0H x0 x1 s8 s9) (l29_0B x0 x1 s8 s9)).run = some (.exit 0, [.top, (.d (.str x1)), .top, .top, .top, .top, .top, (.d (.sl (.pair .str .str) x0)), (.d (.int .i64 s8)), (.d (.int .i64 s9)), (.d (.bool (decide (s9 < s8)))), .top, .top, .top, .top, .top, .top, .top, .top, .top], []) := by
  exact turns_last (by simp) (M.run_of_path _ [false] _ _ (by kernel_rfl) (all_f c0 all_nil)) 

set_option maxHeartbeats 20000000 in
theorem l29_0_step (m n : Nat) (ih : ∀ (x0 : List ((List UInt8) × (List UInt8))) (x1 : List UInt8) (s8 : Int) (s9 : Int) (q : Nat × Int), l29_0 m n x0 x1 s8 s9 = some q → (turns (hds 29 898) 0 898 (evC byref (evCall F S1 (m + 24)) (m + 24) 0 (hds 29) lbl29_0) n (l29_0H x0 x1 s8 s9) (l29_0B x0 x1 s8 s9)).run = some (l29_0E (x0) (x1) (s8) (q.2) q.1)) (x0 : List ((List UInt8) × (List UInt8))) (x1 : List UInt8) (s8 : Int) (s9 : Int) (q : Nat × Int) (h : l29_0 m (n + 1) x0 x1 s8 s9 = some q) : (turns (hds 29 898) 0 898 (evC byref (evCall F S1 (m + 24)) (m + 24) 0 (hds 29) lbl29_0) (n + 1) (l29_0H x0 x1 s8 s9) (l29_0B x0 x1 s8 s9)).run = some (l29_0E (x0) (x1) (s8) (q.2) q.1) := by
  rw [l29_0] at h
  refine ite_cases h (fun c0 h => ?_) (fun c0 h => ?_)
  · skip
    refine ite_cases h (fun c1 h => ?_) (fun c1 h => ?_)
    · skip
      refine ite_cases h (fun c2 h => ?_) (fun c2 h => ?_)
      · skip
        refine ite_cases h (fun c3 h => ?_) (fun c3 h => ?_)
        · skip
          cases h
          exact l29_0_w0 m n x0 x1 s8 s9 c0 c1 c2 c3
        · skip
          exact l29_0_w1 m n x0 x1 s8 s9 _ c0 c1 c2 c3 (ih _ _ _ _ q h)
      · skip
        cases h
    · skip
      cases h
  · skip
    cases h
    exact l29_0_w2 m n x0 x1 s8 s9 c0
set_option maxHeartbeats 20000000 in
theorem l29_0_ok (m : Nat) : ∀ (n : Nat) (x0 : List ((List UInt8) × (List UInt8))) (x1 : List UInt8) (s8 : Int) (s9 : Int) (q : Nat × Int), l29_0 m n x0 x1 s8 s9 = some q → (turns (hds 29 898) 0 898 (evC byref (evCall F S1 (m + 24)) (m + 24) 0 (hds 29) lbl29_0) n (l29_0H x0 x1 s8 s9) (l29_0B x0 x1 s8 s9)).run = some (l29_0E (x0) (x1) (s8) (q.2) q.1)
  | 0, x0, x1, s8, s9, q, h => by cases h
  | n + 1, x0, x1, s8, s9, q, h => l29_0_step m n (l29_0_ok m n) x0 x1 s8 s9 q h

def p29 (m : Nat) (x0 : List ((List UInt8) × (List UInt8))) (x1 : List UInt8) : Option ((List UInt8)) :=
  if (Option.isSome (l29_0 m (m + 24) x0 x1 ((((List.length x0) : Nat) : Int)) 0)) = true then
    if ((l29_0R m (m + 24) x0 x1 ((((List.length x0) : Nat) : Int)) 0).1 == 0) = true then
      some ((List.getD x0 (Int.toNat (l29_0R m (m + 24) x0 x1 ((((List.length x0) : Nat) : Int)) 0).2) (([] : List UInt8), ([] : List UInt8))).2)
    else
      if ((l29_0R m (m + 24) x0 x1 ((((List.length x0) : Nat) : Int)) 0).1 == 1) = true then
        some (([] : List UInt8))
      else
        none
  else
    none
set_option maxHeartbeats 20000000 in
theorem p29_ok (m : Nat) (x0 : List ((List UInt8) × (List UInt8))) (x1 : List UInt8) (q : (List UInt8)) (h : p29 m x0 x1 = some q) : ∃ r B1, (evCall F S1 (m + 25) 29 [(.d (.sl (.pair .str .str) x0)), (.d (.str x1))] []).run = some (r, B1) ∧ 0 ≤ B1.length ∧ wkR B1 [] r (.d (.str q)) ∧ wkBs B1 [] 0 [] := by
  unfold p29 at h
  refine ite_cases h (fun c0 h => ?_) (fun c0 h => ?_)
  · skip
    refine ite_cases h (fun c1 h => ?_) (fun c1 h => ?_)
    · skip
      cases h
      refine ⟨(.d (.str (List.getD x0 (Int.toNat (l29_0R m (m + 24) x0 x1 ((((List.length x0) : Nat) : Int)) 0).2) (([] : List UInt8), ([] : List UInt8))).2)), [], runT_ok (LS := (fun k => if k = 898 then some (l29_0E x0 x1 (((((List.length x0) : Nat) : Int))) ((l29_0R m (m + 24) x0 x1 ((((List.length x0) : Nat) : Int)) 0).2) 0) else none)) (fn := fn29) (vis := [(898, l29_0H x0 x1 ((((List.length x0) : Nat) : Int)) 0, l29_0B x0 x1 ((((List.length x0) : Nat) : Int)) 0)]) (by kernel_rfl) rfl (by kernel_rfl) (M.run_of_path _ [] _ _ (by kernel_rfl) all_nil) ?_, by simp, (wkR.one (wkV.one (wk1.eq rfl))), trivial⟩
      intro p hp p2 hq
      rcases List.mem_cons.1 hp with rfl | hp
      · skip
        have h3 := l29_0_ok m (m + 24) x0 x1 ((((List.length x0) : Nat) : Int)) 0 _ (some_getD (d := l29_0D) c0)
        rw [eq_of_beq c1] at h3
        exact Eq.trans (Eq.mp (by kernel_rfl) h3) hq
      cases hp
    · skip
      refine ite_cases h (fun c2 h => ?_) (fun c2 h => ?_)
      · skip
        cases h
        refine ⟨(.d (.str ([] : List UInt8))), [], runT_ok (LS := (fun k => if k = 898 then some (l29_0E x0 x1 (((((List.length x0) : Nat) : Int))) ((l29_0R m (m + 24) x0 x1 ((((List.length x0) : Nat) : Int)) 0).2) 1) else none)) (fn := fn29) (vis := [(898, l29_0H x0 x1 ((((List.length x0) : Nat) : Int)) 0, l29_0B x0 x1 ((((List.length x0) : Nat) : Int)) 0)]) (by kernel_rfl) rfl (by kernel_rfl) (M.run_of_path _ [] _ _ (by kernel_rfl) all_nil) ?_, by simp, (wkR.one (wkV.one (wk1.eq rfl))), trivial⟩
        intro p hp p2 hq
        rcases List.mem_cons.1 hp with rfl | hp
        · skip
          have h3 := l29_0_ok m (m + 24) x0 x1 ((((List.length x0) : Nat) : Int)) 0 _ (some_getD (d := l29_0D) c0)
          rw [eq_of_beq c2] at h3
          exact Eq.trans (Eq.mp (by kernel_rfl) h3) hq
        cases hp
      · skip
        cases h
  · skip
    cases h

abbrev LB := List ((List UInt8) × (List UInt8))
abbrev MT := (List UInt8) × (List UInt8) × Int
/-- The first value of a name. -/
def getG : LB → List UInt8 → List UInt8
  | [], _ => []
  | x :: l, n => if (x.1 == n) = true then x.2 else getG l n
theorem get_loop (m : Nat) (l : LB) (nm : List UInt8) (hb : l.length ≤ 1000000) : ∀ (n k : Nat), k ≤ l.length → l.length - k < n → (∃ j, l29_0 m n l nm (l.length : Nat) (k : Nat) = some (0, ((j : Nat) : Int)) ∧ getG (l.drop k) nm = (l.getD j (([] : List UInt8), ([] : List UInt8))).2) ∨ (∃ j, l29_0 m n l nm (l.length : Nat) (k : Nat) = some (1, j) ∧ getG (l.drop k) nm = [])
  | 0, k, _, h => by omega
  | n + 1, k, h1, h2 => by
    rw [l29_0]
    by_cases hk : k < l.length
    · have e1 : decide (((k : Nat) : Int) < (((List.length l) : Nat) : Int)) = true := decide_eq_true (by omega)
      have e2 : decide ((0 : Int) ≤ ((k : Nat) : Int)) = true := decide_eq_true (by omega)
      have e7 : IntKind.wrap .i64 (((k : Nat) : Int) + (1)) = ((k + 1 : Nat) : Int) := by rw [wrap_id (by omega) (by omega)]; rfl
      rw [drop_getD l k (([] : List UInt8), ([] : List UInt8)) hk, show Int.toNat ((k : Nat) : Int) = k from rfl, e7, if_pos e1, if_pos e2, if_pos e1, getG]
      by_cases hc : ((l.getD k (([] : List UInt8), ([] : List UInt8))).1 == nm) = true
      · rw [if_pos hc, if_pos hc]
        exact .inl ⟨k, rfl, rfl⟩
      · rw [if_neg hc, if_neg hc]
        exact get_loop m l nm hb n (k + 1) (by omega) (by omega)
    · have e1 : decide (((k : Nat) : Int) < (((List.length l) : Nat) : Int)) = false := decide_eq_false (by omega)
      rw [e1, if_neg (by simp), List.drop_eq_nil_of_le (by omega)]
      exact .inr ⟨_, rfl, rfl⟩
theorem get29 (l : LB) (nm : List UInt8) (h : decide (List.length l ≤ 1000000) = true) : ∃ m, p29 m l nm = some (getG l nm) := by
  have h := of_decide_eq_true h
  refine ⟨l.length, ?_⟩
  unfold p29 l29_0R
  rcases get_loop l.length l nm h (l.length + 24) 0 (by omega) (by omega) with ⟨j, h1, h2⟩ | ⟨j, h1, h2⟩
  · simp only [Int.natCast_zero, List.drop_zero] at h1 h2
    rw [h1, h2]
    simp
  · simp only [Int.natCast_zero, List.drop_zero] at h1 h2
    rw [h1, h2]
    simp
def s29 : List AV → Boxes → M (AV × Boxes) := normS [.val (.sl (.pair .str .str)), .val .str] [] fun xs B => match xs, B with
  | [(.d (.sl (.pair .str .str) c1)), (.d (.str c2))], [] => .chk (decide (List.length c1 ≤ 1000000)) (.ret ((.d (.str (getG c1 c2))), []))
  | _, _ => .fail
theorem s29_at : CallAt Tryd.prog 29 s29 := by
  refine CallAt.norm (CallAt.weakE (g := fun n => evCall F S1 n 29) (fun n => evCall_atH mixed kinds hds S1 S1_ok n 29) fun xs B r' B' hr => ?_) _ _
  split at hr
  · rename_i c1 c2
    obtain ⟨hp, hr⟩ := (M.run_chk _ _ _).1 hr
    simp only [M.run, Option.some.injEq, Prod.mk.injEq] at hr
    obtain ⟨rfl, rfl⟩ := hr
    obtain ⟨m, hm⟩ := get29 c1 c2 hp
    obtain ⟨r, B1, h1, h2, h3, h4⟩ := p29_ok m c1 c2 _ hm
    exact ⟨m + 25, r, B1, h1, by simp, h2, h3, h4⟩
  · simp [M.run] at hr
noncomputable def S2 : FuncId → Option (List AV → Boxes → M (AV × Boxes)) := fun f => if f = 29 then some s29 else S1 f
set_option maxHeartbeats 20000000 in
theorem S2_ok : ∀ f s, S2 f = some s → CallAt Tryd.prog f s := by
  intro f s h
  unfold S2 at h
  split at h
  · rename_i e; subst e; cases h; exact s29_at
  · exact S1_ok f s h

end Go.Proofs.YtghkbjflejgieaaDoor.Dec
namespace Go.Proofs.YtghkbjflejgieaaDoor.Dec
open Go.Ev
set_option linter.unusedVariables false
set_option linter.unusedSimpArgs false
set_option maxRecDepth 100000
noncomputable def fn21 : AFn := (F 21).getD ⟨0, [], .bad, false, false, noHd⟩
noncomputable def body21 : AC := fn21.body
def l21_0 (m : Nat) : Nat → List ((List UInt8) × (List UInt8)) → List ((List UInt8) × (List UInt8) × Int) → Int → Int → Option (Nat × Int)
  | 0, _, _, _, _ => none
  | n + 1, x0, x1, s8, s9 => if decide (s9 < s8) = true then
      if decide (0 ≤ s9) = true then
        if decide (s9 < (((List.length x1) : Nat) : Int)) = true then
          if decide (List.length x0 ≤ 1000000) = true then
            if ((List.getD x1 (Int.toNat s9) (([] : List UInt8), (([] : List UInt8), 0))).2.2 == (1)) = true then
              if ((getG x0 (List.getD x1 (Int.toNat s9) (([] : List UInt8), (([] : List UInt8), 0))).1) == (List.getD x1 (Int.toNat s9) (([] : List UInt8), (([] : List UInt8), 0))).2.1) = true then
                l21_0 m n x0 x1 s8 ((IntKind.wrap .i64 (s9 + (1))))
              else
                some (0, s9)
            else
              if ((List.getD x1 (Int.toNat s9) (([] : List UInt8), (([] : List UInt8), 0))).2.2 == (2)) = true then
                if ((getG x0 (List.getD x1 (Int.toNat s9) (([] : List UInt8), (([] : List UInt8), 0))).1) == (List.getD x1 (Int.toNat s9) (([] : List UInt8), (([] : List UInt8), 0))).2.1) = true then
                  some (1, s9)
                else
                  l21_0 m n x0 x1 s8 ((IntKind.wrap .i64 (s9 + (1))))
              else
                if ((List.getD x1 (Int.toNat s9) (([] : List UInt8), (([] : List UInt8), 0))).2.2 == (3)) = true then
                  if decide ((((List.length (getG x0 (List.getD x1 (Int.toNat s9) (([] : List UInt8), (([] : List UInt8), 0))).1)) : Nat) : Int) ≥ (((List.length (List.getD x1 (Int.toNat s9) (([] : List UInt8), (([] : List UInt8), 0))).2.1) : Nat) : Int)) = true then
                    if (decide (0 ≤ (((List.length (List.getD x1 (Int.toNat s9) (([] : List UInt8), (([] : List UInt8), 0))).2.1) : Nat) : Int)) && decide ((((List.length (List.getD x1 (Int.toNat s9) (([] : List UInt8), (([] : List UInt8), 0))).2.1) : Nat) : Int) ≤ (((List.length (getG x0 (List.getD x1 (Int.toNat s9) (([] : List UInt8), (([] : List UInt8), 0))).1)) : Nat) : Int))) = true then
                      if ((List.drop 0 (List.take (Int.toNat (((List.length (List.getD x1 (Int.toNat s9) (([] : List UInt8), (([] : List UInt8), 0))).2.1) : Nat) : Int)) (getG x0 (List.getD x1 (Int.toNat s9) (([] : List UInt8), (([] : List UInt8), 0))).1))) == (List.getD x1 (Int.toNat s9) (([] : List UInt8), (([] : List UInt8), 0))).2.1) = true then
                        l21_0 m n x0 x1 s8 ((IntKind.wrap .i64 (s9 + (1))))
                      else
                        some (2, s9)
                    else
                      none
                  else
                    some (3, s9)
                else
                  if ((List.getD x1 (Int.toNat s9) (([] : List UInt8), (([] : List UInt8), 0))).2.2 == (4)) = true then
                    if decide ((((List.length (getG x0 (List.getD x1 (Int.toNat s9) (([] : List UInt8), (([] : List UInt8), 0))).1)) : Nat) : Int) ≥ (((List.length (List.getD x1 (Int.toNat s9) (([] : List UInt8), (([] : List UInt8), 0))).2.1) : Nat) : Int)) = true then
                      if (decide (0 ≤ (((List.length (List.getD x1 (Int.toNat s9) (([] : List UInt8), (([] : List UInt8), 0))).2.1) : Nat) : Int)) && decide ((((List.length (List.getD x1 (Int.toNat s9) (([] : List UInt8), (([] : List UInt8), 0))).2.1) : Nat) : Int) ≤ (((List.length (getG x0 (List.getD x1 (Int.toNat s9) (([] : List UInt8), (([] : List UInt8), 0))).1)) : Nat) : Int))) = true then
                        if ((List.drop 0 (List.take (Int.toNat (((List.length (List.getD x1 (Int.toNat s9) (([] : List UInt8), (([] : List UInt8), 0))).2.1) : Nat) : Int)) (getG x0 (List.getD x1 (Int.toNat s9) (([] : List UInt8), (([] : List UInt8), 0))).1))) == (List.getD x1 (Int.toNat s9) (([] : List UInt8), (([] : List UInt8), 0))).2.1) = true then
                          some (4, s9)
                        else
                          l21_0 m n x0 x1 s8 ((IntKind.wrap .i64 (s9 + (1))))
                      else
                        none
                    else
                      l21_0 m n x0 x1 s8 ((IntKind.wrap .i64 (s9 + (1))))
                  else
                    some (5, s9)
          else
            none
        else
          none
      else
        none
    else
      some (6, s9)
def l21_0D : Nat × Int := (0, 0)
@[reducible] def l21_0R (m n : Nat) (x0 : List ((List UInt8) × (List UInt8))) (x1 : List ((List UInt8) × (List UInt8) × Int)) (s8 : Int) (s9 : Int) : Nat × Int := Option.getD (l21_0 m n x0 x1 s8 s9) l21_0D
def l21_0H (x0 : List ((List UInt8) × (List UInt8))) (x1 : List ((List UInt8) × (List UInt8) × Int)) (s8 : Int) (s9 : Int) : Env := [(.d (.sl (.pair .str .str) x0)), .top, .top, .top, .top, .top, .top, (.d (.sl (.pair .str (.pair .str (.int .i64))) x1)), (.d (.int .i64 s8)), (.d (.int .i64 s9)), .top, .top, .top, .top, .top, .top, .top, .top]
def l21_0B (x0 : List ((List UInt8) × (List UInt8))) (x1 : List ((List UInt8) × (List UInt8) × Int)) (s8 : Int) (s9 : Int) : Boxes := []
def l21_0E (x0 : List ((List UInt8) × (List UInt8))) (x1 : List ((List UInt8) × (List UInt8) × Int)) (s8 : Int) (s9 : Int) : Nat → AEx × Env × Boxes
  | 0 => (.ret, [(.d (.sl (.pair .str .str) x0)), .top, .top, .top, (.d (.bool false)), .top, (.ptr 0 0), (.d (.sl (.pair .str (.pair .str (.int .i64))) x1)), (.d (.int .i64 s8)), (.d (.int .i64 s9)), (.d (.bool (decide (s9 < s8)))), (.cptr [(.str (List.getD x1 (Int.toNat s9) (([] : List UInt8), (([] : List UInt8), 0))).1), (.str (List.getD x1 (Int.toNat s9) (([] : List UInt8), (([] : List UInt8), 0))).2.1), (.int .i64 (List.getD x1 (Int.toNat s9) (([] : List UInt8), (([] : List UInt8), 0))).2.2)] 0), (.agg [(.d (.str (List.getD x1 (Int.toNat s9) (([] : List UInt8), (([] : List UInt8), 0))).1)), (.d (.str (List.getD x1 (Int.toNat s9) (([] : List UInt8), (([] : List UInt8), 0))).2.1)), (.d (.int .i64 (List.getD x1 (Int.toNat s9) (([] : List UInt8), (([] : List UInt8), 0))).2.2))]), (.d (.sl (.pair .str .str) x0)), (.agg [(.d (.str (List.getD x1 (Int.toNat s9) (([] : List UInt8), (([] : List UInt8), 0))).1)), (.d (.str (List.getD x1 (Int.toNat s9) (([] : List UInt8), (([] : List UInt8), 0))).2.1)), (.d (.int .i64 (List.getD x1 (Int.toNat s9) (([] : List UInt8), (([] : List UInt8), 0))).2.2))]), (.d (.bool ((getG x0 (List.getD x1 (Int.toNat s9) (([] : List UInt8), (([] : List UInt8), 0))).1) == (List.getD x1 (Int.toNat s9) (([] : List UInt8), (([] : List UInt8), 0))).2.1))), (.d (.bool (!((getG x0 (List.getD x1 (Int.toNat s9) (([] : List UInt8), (([] : List UInt8), 0))).1) == (List.getD x1 (Int.toNat s9) (([] : List UInt8), (([] : List UInt8), 0))).2.1)))), .top], [(.cells [(.d (.str (List.getD x1 (Int.toNat s9) (([] : List UInt8), (([] : List UInt8), 0))).1)), (.d (.str (List.getD x1 (Int.toNat s9) (([] : List UInt8), (([] : List UInt8), 0))).2.1)), (.d (.int .i64 (List.getD x1 (Int.toNat s9) (([] : List UInt8), (([] : List UInt8), 0))).2.2))])])
  | 1 => (.ret, [(.d (.sl (.pair .str .str) x0)), .top, .top, .top, (.d (.bool false)), .top, (.ptr 0 0), (.d (.sl (.pair .str (.pair .str (.int .i64))) x1)), (.d (.int .i64 s8)), (.d (.int .i64 s9)), (.d (.bool (decide (s9 < s8)))), (.cptr [(.str (List.getD x1 (Int.toNat s9) (([] : List UInt8), (([] : List UInt8), 0))).1), (.str (List.getD x1 (Int.toNat s9) (([] : List UInt8), (([] : List UInt8), 0))).2.1), (.int .i64 (List.getD x1 (Int.toNat s9) (([] : List UInt8), (([] : List UInt8), 0))).2.2)] 0), (.agg [(.d (.str (List.getD x1 (Int.toNat s9) (([] : List UInt8), (([] : List UInt8), 0))).1)), (.d (.str (List.getD x1 (Int.toNat s9) (([] : List UInt8), (([] : List UInt8), 0))).2.1)), (.d (.int .i64 (List.getD x1 (Int.toNat s9) (([] : List UInt8), (([] : List UInt8), 0))).2.2))]), (.d (.sl (.pair .str .str) x0)), (.agg [(.d (.str (List.getD x1 (Int.toNat s9) (([] : List UInt8), (([] : List UInt8), 0))).1)), (.d (.str (List.getD x1 (Int.toNat s9) (([] : List UInt8), (([] : List UInt8), 0))).2.1)), (.d (.int .i64 (List.getD x1 (Int.toNat s9) (([] : List UInt8), (([] : List UInt8), 0))).2.2))]), (.d (.bool (!((getG x0 (List.getD x1 (Int.toNat s9) (([] : List UInt8), (([] : List UInt8), 0))).1) == (List.getD x1 (Int.toNat s9) (([] : List UInt8), (([] : List UInt8), 0))).2.1)))), (.d (.bool (!(!((getG x0 (List.getD x1 (Int.toNat s9) (([] : List UInt8), (([] : List UInt8), 0))).1) == (List.getD x1 (Int.toNat s9) (([] : List UInt8), (([] : List UInt8), 0))).2.1))))), .top], [(.cells [(.d (.str (List.getD x1 (Int.toNat s9) (([] : List UInt8), (([] : List UInt8), 0))).1)), (.d (.str (List.getD x1 (Int.toNat s9) (([] : List UInt8), (([] : List UInt8), 0))).2.1)), (.d (.int .i64 (List.getD x1 (Int.toNat s9) (([] : List UInt8), (([] : List UInt8), 0))).2.2))])])
  | 2 => (.ret, [(.d (.sl (.pair .str .str) x0)), .top, .top, .top, (.d (.bool false)), .top, (.ptr 0 0), (.d (.sl (.pair .str (.pair .str (.int .i64))) x1)), (.d (.int .i64 s8)), (.d (.int .i64 s9)), (.d (.bool (decide (s9 < s8)))), (.cptr [(.str (List.getD x1 (Int.toNat s9) (([] : List UInt8), (([] : List UInt8), 0))).1), (.str (List.getD x1 (Int.toNat s9) (([] : List UInt8), (([] : List UInt8), 0))).2.1), (.int .i64 (List.getD x1 (Int.toNat s9) (([] : List UInt8), (([] : List UInt8), 0))).2.2)] 0), (.agg [(.d (.str (List.getD x1 (Int.toNat s9) (([] : List UInt8), (([] : List UInt8), 0))).1)), (.d (.str (List.getD x1 (Int.toNat s9) (([] : List UInt8), (([] : List UInt8), 0))).2.1)), (.d (.int .i64 (List.getD x1 (Int.toNat s9) (([] : List UInt8), (([] : List UInt8), 0))).2.2))]), (.d (.sl (.pair .str .str) x0)), (.agg [(.d (.str (List.getD x1 (Int.toNat s9) (([] : List UInt8), (([] : List UInt8), 0))).1)), (.d (.str (List.getD x1 (Int.toNat s9) (([] : List UInt8), (([] : List UInt8), 0))).2.1)), (.d (.int .i64 (List.getD x1 (Int.toNat s9) (([] : List UInt8), (([] : List UInt8), 0))).2.2))]), (.d (.bool ((List.drop 0 (List.take (Int.toNat (((List.length (List.getD x1 (Int.toNat s9) (([] : List UInt8), (([] : List UInt8), 0))).2.1) : Nat) : Int)) (getG x0 (List.getD x1 (Int.toNat s9) (([] : List UInt8), (([] : List UInt8), 0))).1))) == (List.getD x1 (Int.toNat s9) (([] : List UInt8), (([] : List UInt8), 0))).2.1))), (.d (.bool (!((List.drop 0 (List.take (Int.toNat (((List.length (List.getD x1 (Int.toNat s9) (([] : List UInt8), (([] : List UInt8), 0))).2.1) : Nat) : Int)) (getG x0 (List.getD x1 (Int.toNat s9) (([] : List UInt8), (([] : List UInt8), 0))).1))) == (List.getD x1 (Int.toNat s9) (([] : List UInt8), (([] : List UInt8), 0))).2.1)))), .top], [(.cells [(.d (.str (List.getD x1 (Int.toNat s9) (([] : List UInt8), (([] : List UInt8), 0))).1)), (.d (.str (List.getD x1 (Int.toNat s9) (([] : List UInt8), (([] : List UInt8), 0))).2.1)), (.d (.int .i64 (List.getD x1 (Int.toNat s9) (([] : List UInt8), (([] : List UInt8), 0))).2.2))])])
  | 3 => (.ret, [(.d (.sl (.pair .str .str) x0)), .top, .top, .top, (.d (.bool false)), .top, (.ptr 0 0), (.d (.sl (.pair .str (.pair .str (.int .i64))) x1)), (.d (.int .i64 s8)), (.d (.int .i64 s9)), (.d (.bool (decide (s9 < s8)))), (.cptr [(.str (List.getD x1 (Int.toNat s9) (([] : List UInt8), (([] : List UInt8), 0))).1), (.str (List.getD x1 (Int.toNat s9) (([] : List UInt8), (([] : List UInt8), 0))).2.1), (.int .i64 (List.getD x1 (Int.toNat s9) (([] : List UInt8), (([] : List UInt8), 0))).2.2)] 0), (.agg [(.d (.str (List.getD x1 (Int.toNat s9) (([] : List UInt8), (([] : List UInt8), 0))).1)), (.d (.str (List.getD x1 (Int.toNat s9) (([] : List UInt8), (([] : List UInt8), 0))).2.1)), (.d (.int .i64 (List.getD x1 (Int.toNat s9) (([] : List UInt8), (([] : List UInt8), 0))).2.2))]), (.d (.sl (.pair .str .str) x0)), (.agg [(.d (.str (List.getD x1 (Int.toNat s9) (([] : List UInt8), (([] : List UInt8), 0))).1)), (.d (.str (List.getD x1 (Int.toNat s9) (([] : List UInt8), (([] : List UInt8), 0))).2.1)), (.d (.int .i64 (List.getD x1 (Int.toNat s9) (([] : List UInt8), (([] : List UInt8), 0))).2.2))]), (.d (.bool false)), (.d (.bool true)), .top], [(.cells [(.d (.str (List.getD x1 (Int.toNat s9) (([] : List UInt8), (([] : List UInt8), 0))).1)), (.d (.str (List.getD x1 (Int.toNat s9) (([] : List UInt8), (([] : List UInt8), 0))).2.1)), (.d (.int .i64 (List.getD x1 (Int.toNat s9) (([] : List UInt8), (([] : List UInt8), 0))).2.2))])])
  | 4 => (.ret, [(.d (.sl (.pair .str .str) x0)), .top, .top, .top, (.d (.bool false)), .top, (.ptr 0 0), (.d (.sl (.pair .str (.pair .str (.int .i64))) x1)), (.d (.int .i64 s8)), (.d (.int .i64 s9)), (.d (.bool (decide (s9 < s8)))), (.cptr [(.str (List.getD x1 (Int.toNat s9) (([] : List UInt8), (([] : List UInt8), 0))).1), (.str (List.getD x1 (Int.toNat s9) (([] : List UInt8), (([] : List UInt8), 0))).2.1), (.int .i64 (List.getD x1 (Int.toNat s9) (([] : List UInt8), (([] : List UInt8), 0))).2.2)] 0), (.agg [(.d (.str (List.getD x1 (Int.toNat s9) (([] : List UInt8), (([] : List UInt8), 0))).1)), (.d (.str (List.getD x1 (Int.toNat s9) (([] : List UInt8), (([] : List UInt8), 0))).2.1)), (.d (.int .i64 (List.getD x1 (Int.toNat s9) (([] : List UInt8), (([] : List UInt8), 0))).2.2))]), (.d (.sl (.pair .str .str) x0)), (.agg [(.d (.str (List.getD x1 (Int.toNat s9) (([] : List UInt8), (([] : List UInt8), 0))).1)), (.d (.str (List.getD x1 (Int.toNat s9) (([] : List UInt8), (([] : List UInt8), 0))).2.1)), (.d (.int .i64 (List.getD x1 (Int.toNat s9) (([] : List UInt8), (([] : List UInt8), 0))).2.2))]), (.d (.bool (!((List.drop 0 (List.take (Int.toNat (((List.length (List.getD x1 (Int.toNat s9) (([] : List UInt8), (([] : List UInt8), 0))).2.1) : Nat) : Int)) (getG x0 (List.getD x1 (Int.toNat s9) (([] : List UInt8), (([] : List UInt8), 0))).1))) == (List.getD x1 (Int.toNat s9) (([] : List UInt8), (([] : List UInt8), 0))).2.1)))), (.d (.bool (!(!((List.drop 0 (List.take (Int.toNat (((List.length (List.getD x1 (Int.toNat s9) (([] : List UInt8), (([] : List UInt8), 0))).2.1) : Nat) : Int)) (getG x0 (List.getD x1 (Int.toNat s9) (([] : List UInt8), (([] : List UInt8), 0))).1))) == (List.getD x1 (Int.toNat s9) (([] : List UInt8), (([] : List UInt8), 0))).2.1))))), .top], [(.cells [(.d (.str (List.getD x1 (Int.toNat s9) (([] : List UInt8), (([] : List UInt8), 0))).1)), (.d (.str (List.getD x1 (Int.toNat s9) (([] : List UInt8), (([] : List UInt8), 0))).2.1)), (.d (.int .i64 (List.getD x1 (Int.toNat s9) (([] : List UInt8), (([] : List UInt8), 0))).2.2))])])
  | 5 => (.ret, [(.d (.sl (.pair .str .str) x0)), .top, .top, .top, (.d (.bool false)), .top, (.ptr 0 0), (.d (.sl (.pair .str (.pair .str (.int .i64))) x1)), (.d (.int .i64 s8)), (.d (.int .i64 s9)), (.d (.bool (decide (s9 < s8)))), (.cptr [(.str (List.getD x1 (Int.toNat s9) (([] : List UInt8), (([] : List UInt8), 0))).1), (.str (List.getD x1 (Int.toNat s9) (([] : List UInt8), (([] : List UInt8), 0))).2.1), (.int .i64 (List.getD x1 (Int.toNat s9) (([] : List UInt8), (([] : List UInt8), 0))).2.2)] 0), (.agg [(.d (.str (List.getD x1 (Int.toNat s9) (([] : List UInt8), (([] : List UInt8), 0))).1)), (.d (.str (List.getD x1 (Int.toNat s9) (([] : List UInt8), (([] : List UInt8), 0))).2.1)), (.d (.int .i64 (List.getD x1 (Int.toNat s9) (([] : List UInt8), (([] : List UInt8), 0))).2.2))]), (.d (.sl (.pair .str .str) x0)), (.agg [(.d (.str (List.getD x1 (Int.toNat s9) (([] : List UInt8), (([] : List UInt8), 0))).1)), (.d (.str (List.getD x1 (Int.toNat s9) (([] : List UInt8), (([] : List UInt8), 0))).2.1)), (.d (.int .i64 (List.getD x1 (Int.toNat s9) (([] : List UInt8), (([] : List UInt8), 0))).2.2))]), (.d (.bool false)), (.d (.bool true)), .top], [(.cells [(.d (.str (List.getD x1 (Int.toNat s9) (([] : List UInt8), (([] : List UInt8), 0))).1)), (.d (.str (List.getD x1 (Int.toNat s9) (([] : List UInt8), (([] : List UInt8), 0))).2.1)), (.d (.int .i64 (List.getD x1 (Int.toNat s9) (([] : List UInt8), (([] : List UInt8), 0))).2.2))])])
  | _ => (.exit 0, [(.d (.sl (.pair .str .str) x0)), .top, .top, .top, .top, .top, .top, (.d (.sl (.pair .str (.pair .str (.int .i64))) x1)), (.d (.int .i64 s8)), (.d (.int .i64 s9)), (.d (.bool (decide (s9 < s8)))), .top, .top, .top, .top, .top, .top, .top], [])
noncomputable def lbl21_0 : AC := loopBody 897 body21

set_option maxHeartbeats 20000000 in
theorem l21_0_w0 (m n : Nat) (x0 : List ((List UInt8) × (List UInt8))) (x1 : List ((List UInt8) × (List UInt8) × Int)) (s8 : Int) (s9 : Int) (r : AEx × Env × Boxes) (c0 : decide (s9 < s8) = true) (c1 : decide (0 ≤ s9) = true) (c2 : decide (s9 < (((List.length x1) : Nat) : Int)) = true) (c3 : decide (List.length x0 ≤ 1000000) = true) (c4 : ((List.getD x1 (Int.toNat s9) (([] : List UInt8), (([] : List UInt8), 0))).2.2 == (1)) = true) (c5 : ((getG x0 (List.getD x1 (Int.toNat s9) (([] : List UInt8), (([] : List UInt8), 0))).1) == (List.getD x1 (Int.toNat s9) (([] : List UInt8), (([] : List UInt8), 0))).2.1) = true) (ih : (turns (hds 21 897) 0 897 (evC byref (evCall F S2 (m + 24)) (m + 24) 0 (hds 21) lbl21_0) n (l21_0H x0 x1 s8 ((IntKind.wrap .i64 (s9 + (1))))) (l21_0B x0 x1 s8 ((IntKind.wrap .i64 (s9 + (1)))))).run = some r) : (turns (hds 21 897) 0 897 (evC byref (evCall F S2 (m + 24)) (m + 24) 0 (hds 21) lbl21_0) (n + 1) (l21_0H x0 x1 s8 s9) (l21_0B x0 x1 s8 s9)).run = some r := by
  exact turns_step (M.run_of_path _ [true, true, true, true, true, false] _ _ (by kernel_rfl) (all_t c0 (all_t c1 (all_t c2 (all_t c3 (all_t c4 (all_nt c5 all_nil))))))) ih
set_option maxHeartbeats 20000000 in
theorem l21_0_w1 (m n : Nat) (x0 : List ((List UInt8) × (List UInt8))) (x1 : List ((List UInt8) × (List UInt8) × Int)) (s8 : Int) (s9 : Int) (c0 : decide (s9 < s8) = true) (c1 : decide (0 ≤ s9) = true) (c2 : decide (s9 < (((List.length x1) : Nat) : Int)) = true) (c3 : decide (List.length x0 ≤ 1000000) = true) (c4 : ((List.getD x1 (Int.toNat s9) (([] : List UInt8), (([] : List UInt8), 0))).2.2 == (1)) = true) (c5 : ¬ ((getG x0 (List.getD x1 (Int.toNat s9) (([] : List UInt8), (([] : List UInt8), 0))).1) == (List.getD x1 (Int.toNat s9) (([] : List UInt8), (([] : List UInt8), 0))).2.1) = true) : (turns (hds 21 897) 0 897 (evC byref (evCall F S2 (m + 24)) (m + 24) 0 (hds 21) lbl21_0) (n + 1) (l21_0H x0 x1 s8 s9) (l21_0B x0 x1 s8 s9)).run = some (.ret, [(.d (.sl (.pair .str .str) x0)), .top, .top, .top, (.d (.bool false)), .top, (.ptr 0 0), (.d (.sl (.pair .str (.pair .str (.int .i64))) x1)), (.d (.int .i64 s8)), (.d (.int .i64 s9)), (.d (.bool (decide (s9 < s8)))), (.cptr [(.str (List.getD x1 (Int.toNat s9) (([] : List UInt8), (([] : List UInt8), 0))).1), (.str (List.getD x1 (Int.toNat s9) (([] : List UInt8), (([] : List UInt8), 0))).2.1), (.int .i64 (List.getD x1 (Int.toNat s9) (([] : List UInt8), (([] : List UInt8), 0))).2.2)] 0), (.agg [(.d (.str (List.getD x1 (Int.toNat s9) (([] : List UInt8), (([] : List UInt8), 0))).1)), (.d (.str (List.getD x1 (Int.toNat s9) (([] : List UInt8), (([] : List UInt8), 0))).2.1)), (.d (.int .i64 (List.getD x1 (Int.toNat s9) (([] : List UInt8), (([] : List UInt8), 0))).2.2))]), (.d (.sl (.pair .str .str) x0)), (.agg [(.d (.str (List.getD x1 (Int.toNat s9) (([] : List UInt8), (([] : List UInt8), 0))).1)), (.d (.str (List.getD x1 (Int.toNat s9) (([] : List UInt8), (([] : List UInt8), 0))).2.1)), (.d (.int .i64 (List.getD x1 (Int.toNat s9) (([] : List UInt8), (([] : List UInt8), 0))).2.2))]), (.d (.bool ((getG x0 (List.getD x1 (Int.toNat s9) (([] : List UInt8), (([] : List UInt8), 0))).1) == (List.getD x1 (Int.toNat s9) (([] : List UInt8), (([] : List UInt8), 0))).2.1))), (.d (.bool (!((getG x0 (List.getD x1 (Int.toNat s9) (([] : List UInt8), (([] : List UInt8), 0))).1) == (List.getD x1 (Int.toNat s9) (([] : List UInt8), (([] : List UInt8), 0))).2.1)))), .top], [(.cells [(.d (.str (List.getD x1 (Int.toNat s9) (([] : List UInt8), (([] : List UInt8), 0))).1)), (.d (.str (List.getD x1 (Int.toNat s9) (([] : List UInt8), (([] : List UInt8), 0))).2.1)), (.d (.int .i64 (List.getD x1 (Int.toNat s9) (([] : List UInt8), (([] : List UInt8), 0))).2.2))])]) := by
  exact turns_last (by simp) (M.run_of_path _ [true, true, true, true, true, true] _ _ (by kernel_rfl) (all_t c0 (all_t c1 (all_t c2 (all_t c3 (all_t c4 (all_nf c5 all_nil))))))) 
set_option maxHeartbeats 20000000 in
theorem l21_0_w2 (m n : Nat) (x0 : List ((List UInt8) × (List UInt8))) (x1 : List ((List UInt8) × (List UInt8) × Int)) (s8 : Int) (s9 : Int) (c0 : decide (s9 < s8) = true) (c1 : decide (0 ≤ s9) = true) (c2 : decide (s9 < (((List.length x1) : Nat) : Int)) = true) (c3 : decide (List.length x0 ≤ 1000000) = true) (c4 : ¬ ((List.getD x1 (Int.toNat s9) (([] : List UInt8), (([] : List UInt8), 0))).2.2 == (1)) = true) (c5 : ((List.getD x1 (Int.toNat s9) (([] : List UInt8), (([] : List UInt8), 0))).2.2 == (2)) = true) (c6 : ((getG x0 (List.getD x1 (Int.toNat s9) (([] : List UInt8), (([] : List UInt8), 0))).1) == (List.getD x1 (Int.toNat s9) (([] : List UInt8), (([] : List UInt8), 0))).2.1) = true) : (turns (hds 21 897) 0 897 (evC byref (evCall F S2 (m + 24)) (m + 24) 0 (hds 21) lbl21_0) (n + 1) (l21_0H x0 x1 s8 s9) (l21_0B x0 x1 s8 s9)).run = some (.ret, [(.d (.sl (.pair .str .str) x0)), .top, .top, .top, (.d (.bool false)), .top, (.ptr 0 0), (.d (.sl (.pair .str (.pair .str (.int .i64))) x1)), (.d (.int .i64 s8)), (.d (.int .i64 s9)), (.d (.bool (decide (s9 < s8)))), (.cptr [(.str (List.getD x1 (Int.toNat s9) (([] : List UInt8), (([] : List UInt8), 0))).1), (.str (List.getD x1 (Int.toNat s9) (([] : List UInt8), (([] : List UInt8), 0))).2.1), (.int .i64 (List.getD x1 (Int.toNat s9) (([] : List UInt8), (([] : List UInt8), 0))).2.2)] 0), (.agg [(.d (.str (List.getD x1 (Int.toNat s9) (([] : List UInt8), (([] : List UInt8), 0))).1)), (.d (.str (List.getD x1 (Int.toNat s9) (([] : List UInt8), (([] : List UInt8), 0))).2.1)), (.d (.int .i64 (List.getD x1 (Int.toNat s9) (([] : List UInt8), (([] : List UInt8), 0))).2.2))]), (.d (.sl (.pair .str .str) x0)), (.agg [(.d (.str (List.getD x1 (Int.toNat s9) (([] : List UInt8), (([] : List UInt8), 0))).1)), (.d (.str (List.getD x1 (Int.toNat s9) (([] : List UInt8), (([] : List UInt8), 0))).2.1)), (.d (.int .i64 (List.getD x1 (Int.toNat s9) (([] : List UInt8), (([] : List UInt8), 0))).2.2))]), (.d (.bool (!((getG x0 (List.getD x1 (Int.toNat s9) (([] : List UInt8), (([] : List UInt8), 0))).1) == (List.getD x1 (Int.toNat s9) (([] : List UInt8), (([] : List UInt8), 0))).2.1)))), (.d (.bool (!(!((getG x0 (List.getD x1 (Int.toNat s9) (([] : List UInt8), (([] : List UInt8), 0))).1) == (List.getD x1 (Int.toNat s9) (([] : List UInt8), (([] : List UInt8), 0))).2.1))))), .top], [(.cells [(.d (.str (List.getD x1 (Int.toNat s9) (([] : List UInt8), (([] : List UInt8), 0))).1)), (.d (.str (List.getD x1 (Int.toNat s9) (([] : List UInt8), (([] : List UInt8), 0))).2.1)), (.d (.int .i64 (List.getD x1 (Int.toNat s9) (([] : List UInt8), (([] : List UInt8), 0))).2.2))])]) := by
  exact turns_last (by simp) (M.run_of_path _ [true, true, true, true, false, true, true] _ _ (by kernel_rfl) (all_t c0 (all_t c1 (all_t c2 (all_t c3 (all_f c4 (all_t c5 (all_nnt c6 all_nil)))))))) 
set_option maxHeartbeats 20000000 in
theorem l21_0_w3 (m n : Nat) (x0 : List ((List UInt8) × (List UInt8))) (x1 : List ((List UInt8) × (List UInt8) × Int)) (s8 : Int) (s9 : Int) (r : AEx × Env × Boxes) (c0 : decide (s9 < s8) = true) (c1 : decide (0 ≤ s9) = true) (c2 : decide (s9 < (((List.length x1) : Nat) : Int)) = true) (c3 : decide (List.length x0 ≤ 1000000) = true) (c4 : ¬ ((List.getD x1 (Int.toNat s9) (([] : List UInt8), (([] : List UInt8), 0))).2.2 == (1)) = true) (c5 : ((List.getD x1 (Int.toNat s9) (([] : List UInt8), (([] : List UInt8), 0))).2.2 == (2)) = true) (c6 : ¬ ((getG x0 (List.getD x1 (Int.toNat s9) (([] : List UInt8), (([] : List UInt8), 0))).1) == (List.getD x1 (Int.toNat s9) (([] : List UInt8), (([] : List UInt8), 0))).2.1) = true) (ih : (turns (hds 21 897) 0 897 (evC byref (evCall F S2 (m + 24)) (m + 24) 0 (hds 21) lbl21_0) n (l21_0H x0 x1 s8 ((IntKind.wrap .i64 (s9 + (1))))) (l21_0B x0 x1 s8 ((IntKind.wrap .i64 (s9 + (1)))))).run = some r) : (turns (hds 21 897) 0 897 (evC byref (evCall F S2 (m + 24)) (m + 24) 0 (hds 21) lbl21_0) (n + 1) (l21_0H x0 x1 s8 s9) (l21_0B x0 x1 s8 s9)).run = some r := by
  exact turns_step (M.run_of_path _ [true, true, true, true, false, true, false] _ _ (by kernel_rfl) (all_t c0 (all_t c1 (all_t c2 (all_t c3 (all_f c4 (all_t c5 (all_nnf c6 all_nil)))))))) ih
set_option maxHeartbeats 20000000 in
theorem l21_0_w4 (m n : Nat) (x0 : List ((List UInt8) × (List UInt8))) (x1 : List ((List UInt8) × (List UInt8) × Int)) (s8 : Int) (s9 : Int) (r : AEx × Env × Boxes) (c0 : decide (s9 < s8) = true) (c1 : decide (0 ≤ s9) = true) (c2 : decide (s9 < (((List.length x1) : Nat) : Int)) = true) (c3 : decide (List.length x0 ≤ 1000000) = true) (c4 : ¬ ((List.getD x1 (Int.toNat s9) (([] : List UInt8), (([] : List UInt8), 0))).2.2 == (1)) = true) (c5 : ¬ ((List.getD x1 (Int.toNat s9) (([] : List UInt8), (([] : List UInt8), 0))).2.2 == (2)) = true) (c6 : ((List.getD x1 (Int.toNat s9) (([] : List UInt8), (([] : List UInt8), 0))).2.2 == (3)) = true) (c7 : decide ((((List.length (getG x0 (List.getD x1 (Int.toNat s9) (([] : List UInt8), (([] : List UInt8), 0))).1)) : Nat) : Int) ≥ (((List.length (List.getD x1 (Int.toNat s9) (([] : List UInt8), (([] : List UInt8), 0))).2.1) : Nat) : Int)) = true) (c11 : (decide (0 ≤ (((List.length (List.getD x1 (Int.toNat s9) (([] : List UInt8), (([] : List UInt8), 0))).2.1) : Nat) : Int)) && decide ((((List.length (List.getD x1 (Int.toNat s9) (([] : List UInt8), (([] : List UInt8), 0))).2.1) : Nat) : Int) ≤ (((List.length (getG x0 (List.getD x1 (Int.toNat s9) (([] : List UInt8), (([] : List UInt8), 0))).1)) : Nat) : Int))) = true) (c15 : ((List.drop 0 (List.take (Int.toNat (((List.length (List.getD x1 (Int.toNat s9) (([] : List UInt8), (([] : List UInt8), 0))).2.1) : Nat) : Int)) (getG x0 (List.getD x1 (Int.toNat s9) (([] : List UInt8), (([] : List UInt8), 0))).1))) == (List.getD x1 (Int.toNat s9) (([] : List UInt8), (([] : List UInt8), 0))).2.1) = true) (ih : (turns (hds 21 897) 0 897 (evC byref (evCall F S2 (m + 24)) (m + 24) 0 (hds 21) lbl21_0) n (l21_0H x0 x1 s8 ((IntKind.wrap .i64 (s9 + (1))))) (l21_0B x0 x1 s8 ((IntKind.wrap .i64 (s9 + (1)))))).run = some r) : (turns (hds 21 897) 0 897 (evC byref (evCall F S2 (m + 24)) (m + 24) 0 (hds 21) lbl21_0) (n + 1) (l21_0H x0 x1 s8 s9) (l21_0B x0 x1 s8 s9)).run = some r := by
  exact turns_step (M.run_of_path _ [true, true, true, true, false, false, true, true, true, true, true, true, true, true, true, false] _ _ (by kernel_rfl) (all_t c0 (all_t c1 (all_t c2 (all_t c3 (all_f c4 (all_f c5 (all_t c6 (all_t c7 (all_t c7 (all_t c7 (all_t c7 (all_t c11 (all_t c7 (all_t c7 (all_t c7 (all_nt c15 all_nil))))))))))))))))) ih
set_option maxHeartbeats 20000000 in
theorem l21_0_w5 (m n : Nat) (x0 : List ((List UInt8) × (List UInt8))) (x1 : List ((List UInt8) × (List UInt8) × Int)) (s8 : Int) (s9 : Int) (c0 : decide (s9 < s8) = true) (c1 : decide (0 ≤ s9) = true) (c2 : decide (s9 < (((List.length x1) : Nat) : Int)) = true) (c3 : decide (List.length x0 ≤ 1000000) = true) (c4 : ¬ ((List.getD x1 (Int.toNat s9) (([] : List UInt8), (([] : List UInt8), 0))).2.2 == (1)) = true) (c5 : ¬ ((List.getD x1 (Int.toNat s9) (([] : List UInt8), (([] : List UInt8), 0))).2.2 == (2)) = true) (c6 : ((List.getD x1 (Int.toNat s9) (([] : List UInt8), (([] : List UInt8), 0))).2.2 == (3)) = true) (c7 : decide ((((List.length (getG x0 (List.getD x1 (Int.toNat s9) (([] : List UInt8), (([] : List UInt8), 0))).1)) : Nat) : Int) ≥ (((List.length (List.getD x1 (Int.toNat s9) (([] : List UInt8), (([] : List UInt8), 0))).2.1) : Nat) : Int)) = true) (c11 : (decide (0 ≤ (((List.length (List.getD x1 (Int.toNat s9) (([] : List UInt8), (([] : List UInt8), 0))).2.1) : Nat) : Int)) && decide ((((List.length (List.getD x1 (Int.toNat s9) (([] : List UInt8), (([] : List UInt8), 0))).2.1) : Nat) : Int) ≤ (((List.length (getG x0 (List.getD x1 (Int.toNat s9) (([] : List UInt8), (([] : List UInt8), 0))).1)) : Nat) : Int))) = true) (c15 : ¬ ((List.drop 0 (List.take (Int.toNat (((List.length (List.getD x1 (Int.toNat s9) (([] : List UInt8), (([] : List UInt8), 0))).2.1) : Nat) : Int)) (getG x0 (List.getD x1 (Int.toNat s9) (([] : List UInt8), (([] : List UInt8), 0))).1))) == (List.getD x1 (Int.toNat s9) (([] : List UInt8), (([] : List UInt8), 0))).2.1) = true) : (turns (hds 21 897) 0 897 (evC byref (evCall F S2 (m + 24)) (m + 24) 0 (hds 21) lbl21_0) (n + 1) (l21_0H x0 x1 s8 s9) (l21_0B x0 x1 s8 s9)).run = some (.ret, [(.d (.sl (.pair .str .str) x0)), .top, .top, .top, (.d (.bool false)), .top, (.ptr 0 0), (.d (.sl (.pair .str (.pair .str (.int .i64))) x1)), (.d (.int .i64 s8)), (.d (.int .i64 s9)), (.d (.bool (decide (s9 < s8)))), (.cptr [(.str (List.getD x1 (Int.toNat s9) (([] : List UInt8), (([] : List UInt8), 0))).1), (.str (List.getD x1 (Int.toNat s9) (([] : List UInt8), (([] : List UInt8), 0))).2.1), (.int .i64 (List.getD x1 (Int.toNat s9) (([] : List UInt8), (([] : List UInt8), 0))).2.2)] 0), (.agg [(.d (.str (List.getD x1 (Int.toNat s9) (([] : List UInt8), (([] : List UInt8), 0))).1)), (.d (.str (List.getD x1 (Int.toNat s9) (([] : List UInt8), (([] : List UInt8), 0))).2.1)), (.d (.int .i64 (List.getD x1 (Int.toNat s9) (([] : List UInt8), (([] : List UInt8), 0))).2.2))]), (.d (.sl (.pair .str .str) x0)), (.agg [(.d (.str (List.getD x1 (Int.toNat s9) (([] : List UInt8), (([] : List UInt8), 0))).1)), (.d (.str (List.getD x1 (Int.toNat s9) (([] : List UInt8), (([] : List UInt8), 0))).2.1)), (.d (.int .i64 (List.getD x1 (Int.toNat s9) (([] : List UInt8), (([] : List UInt8), 0))).2.2))]), (.d (.bool ((List.drop 0 (List.take (Int.toNat (((List.length (List.getD x1 (Int.toNat s9) (([] : List UInt8), (([] : List UInt8), 0))).2.1) : Nat) : Int)) (getG x0 (List.getD x1 (Int.toNat s9) (([] : List UInt8), (([] : List UInt8), 0))).1))) == (List.getD x1 (Int.toNat s9) (([] : List UInt8), (([] : List UInt8), 0))).2.1))), (.d (.bool (!((List.drop 0 (List.take (Int.toNat (((List.length (List.getD x1 (Int.toNat s9) (([] : List UInt8), (([] : List UInt8), 0))).2.1) : Nat) : Int)) (getG x0 (List.getD x1 (Int.toNat s9) (([] : List UInt8), (([] : List UInt8), 0))).1))) == (List.getD x1 (Int.toNat s9) (([] : List UInt8), (([] : List UInt8), 0))).2.1)))), .top], [(.cells [(.d (.str (List.getD x1 (Int.toNat s9) (([] : List UInt8), (([] : List UInt8), 0))).1)), (.d (.str (List.getD x1 (Int.toNat s9) (([] : List UInt8), (([] : List UInt8), 0))).2.1)), (.d (.int .i64 (List.getD x1 (Int.toNat s9) (([] : List UInt8), (([] : List UInt8), 0))).2.2))])]) := by
  exact turns_last (by simp) (M.run_of_path _ [true, true, true, true, false, false, true, true, true, true, true, true, true, true, true, true] _ _ (by kernel_rfl) (all_t c0 (all_t c1 (all_t c2 (all_t c3 (all_f c4 (all_f c5 (all_t c6 (all_t c7 (all_t c7 (all_t c7 (all_t c7 (all_t c11 (all_t c7 (all_t c7 (all_t c7 (all_nf c15 all_nil))))))))))))))))) 
set_option maxHeartbeats 20000000 in
theorem l21_0_w6 (m n : Nat) (x0 : List ((List UInt8) × (List UInt8))) (x1 : List ((List UInt8) × (List UInt8) × Int)) (s8 : Int) (s9 : Int) (c0 : decide (s9 < s8) = true) (c1 : decide (0 ≤ s9) = true) (c2 : decide (s9 < (((List.length x1) : Nat) : Int)) = true) (c3 : decide (List.length x0 ≤ 1000000) = true) (c4 : ¬ ((List.getD x1 (Int.toNat s9) (([] : List UInt8), (([] : List UInt8), 0))).2.2 == (1)) = true) (c5 : ¬ ((List.getD x1 (Int.toNat s9) (([] : List UInt8), (([] : List UInt8), 0))).2.2 == (2)) = true) (c6 : ((List.getD x1 (Int.toNat s9) (([] : List UInt8), (([] : List UInt8), 0))).2.2 == (3)) = true) (c7 : ¬ decide ((((List.length (getG x0 (List.getD x1 (Int.toNat s9) (([] : List UInt8), (([] : List UInt8), 0))).1)) : Nat) : Int) ≥ (((List.length (List.getD x1 (Int.toNat s9) (([] : List UInt8), (([] : List UInt8), 0))).2.1) : Nat) : Int)) = true) : (turns (hds 21 897) 0 897 (evC byref (evCall F S2 (m + 24)) (m + 24) 0 (hds 21) lbl21_0) (n + 1) (l21_0H x0 x1 s8 s9) (l21_0B x0 x1 s8 s9)).run = some (.ret, [(.d (.sl (.pair .str .str) x0)), .top, .top, .top, (.d (.bool false)), .top, (.ptr 0 0), (.d (.sl (.pair .str (.pair .str (.int .i64))) x1)), (.d (.int .i64 s8)), (.d (.int .i64 s9)), (.d (.bool (decide (s9 < s8)))), (.cptr [(.str (List.getD x1 (Int.toNat s9) (([] : List UInt8), (([] : List UInt8), 0))).1), (.str (List.getD x1 (Int.toNat s9) (([] : List UInt8), (([] : List UInt8), 0))).2.1), (.int .i64 (List.getD x1 (Int.toNat s9) (([] : List UInt8), (([] : List UInt8), 0))).2.2)] 0), (.agg [(.d (.str (List.getD x1 (Int.toNat s9) (([] : List UInt8), (([] : List UInt8), 0))).1)), (.d (.str (List.getD x1 (Int.toNat s9) (([] : List UInt8), (([] : List UInt8), 0))).2.1)), (.d (.int .i64 (List.getD x1 (Int.toNat s9) (([] : List UInt8), (([] : List UInt8), 0))).2.2))]), (.d (.sl (.pair .str .str) x0)), (.agg [(.d (.str (List.getD x1 (Int.toNat s9) (([] : List UInt8), (([] : List UInt8), 0))).1)), (.d (.str (List.getD x1 (Int.toNat s9) (([] : List UInt8), (([] : List UInt8), 0))).2.1)), (.d (.int .i64 (List.getD x1 (Int.toNat s9) (([] : List UInt8), (([] : List UInt8), 0))).2.2))]), (.d (.bool false)), (.d (.bool true)), .top], [(.cells [(.d (.str (List.getD x1 (Int.toNat s9) (([] : List UInt8), (([] : List UInt8), 0))).1)), (.d (.str (List.getD x1 (Int.toNat s9) (([] : List UInt8), (([] : List UInt8), 0))).2.1)), (.d (.int .i64 (List.getD x1 (Int.toNat s9) (([] : List UInt8), (([] : List UInt8), 0))).2.2))])]) := by
  exact turns_last (by simp) (M.run_of_path _ [true, true, true, true, false, false, true, false, false, false, false, false, false, false, true] _ _ (by kernel_rfl) (all_t c0 (all_t c1 (all_t c2 (all_t c3 (all_f c4 (all_f c5 (all_t c6 (all_f c7 (all_f c7 (all_f c7 (all_f c7 (all_f c7 (all_f c7 (all_f c7 (all_t rfl all_nil)))))))))))))))) 
set_option maxHeartbeats 20000000 in
theorem l21_0_w7 (m n : Nat) (x0 : List ((List UInt8) × (List UInt8))) (x1 : List ((List UInt8) × (List UInt8) × Int)) (s8 : Int) (s9 : Int) (c0 : decide (s9 < s8) = true) (c1 : decide (0 ≤ s9) = true) (c2 : decide (s9 < (((List.length x1) : Nat) : Int)) = true) (c3 : decide (List.length x0 ≤ 1000000) = true) (c4 : ¬ ((List.getD x1 (Int.toNat s9) (([] : List UInt8), (([] : List UInt8), 0))).2.2 == (1)) = true) (c5 : ¬ ((List.getD x1 (Int.toNat s9) (([] : List UInt8), (([] : List UInt8), 0))).2.2 == (2)) = true) (c6 : ¬ ((List.getD x1 (Int.toNat s9) (([] : List UInt8), (([] : List UInt8), 0))).2.2 == (3)) = true) (c7 : ((List.getD x1 (Int.toNat s9) (([] : List UInt8), (([] : List UInt8), 0))).2.2 == (4)) = true) (c8 : decide ((((List.length (getG x0 (List.getD x1 (Int.toNat s9) (([] : List UInt8), (([] : List UInt8), 0))).1)) : Nat) : Int) ≥ (((List.length (List.getD x1 (Int.toNat s9) (([] : List UInt8), (([] : List UInt8), 0))).2.1) : Nat) : Int)) = true) (c12 : (decide (0 ≤ (((List.length (List.getD x1 (Int.toNat s9) (([] : List UInt8), (([] : List UInt8), 0))).2.1) : Nat) : Int)) && decide ((((List.length (List.getD x1 (Int.toNat s9) (([] : List UInt8), (([] : List UInt8), 0))).2.1) : Nat) : Int) ≤ (((List.length (getG x0 (List.getD x1 (Int.toNat s9) (([] : List UInt8), (([] : List UInt8), 0))).1)) : Nat) : Int))) = true) (c16 : ((List.drop 0 (List.take (Int.toNat (((List.length (List.getD x1 (Int.toNat s9) (([] : List UInt8), (([] : List UInt8), 0))).2.1) : Nat) : Int)) (getG x0 (List.getD x1 (Int.toNat s9) (([] : List UInt8), (([] : List UInt8), 0))).1))) == (List.getD x1 (Int.toNat s9) (([] : List UInt8), (([] : List UInt8), 0))).2.1) = true) : (turns (hds 21 897) 0 897 (evC byref (evCall F S2 (m + 24)) (m + 24) 0 (hds 21) lbl21_0) (n + 1) (l21_0H x0 x1 s8 s9) (l21_0B x0 x1 s8 s9)).run = some (.ret, [(.d (.sl (.pair .str .str) x0)), .top, .top, .top, (.d (.bool false)), .top, (.ptr 0 0), (.d (.sl (.pair .str (.pair .str (.int .i64))) x1)), (.d (.int .i64 s8)), (.d (.int .i64 s9)), (.d (.bool (decide (s9 < s8)))), (.cptr [(.str (List.getD x1 (Int.toNat s9) (([] : List UInt8), (([] : List UInt8), 0))).1), (.str (List.getD x1 (Int.toNat s9) (([] : List UInt8), (([] : List UInt8), 0))).2.1), (.int .i64 (List.getD x1 (Int.toNat s9) (([] : List UInt8), (([] : List UInt8), 0))).2.2)] 0), (.agg [(.d (.str (List.getD x1 (Int.toNat s9) (([] : List UInt8), (([] : List UInt8), 0))).1)), (.d (.str (List.getD x1 (Int.toNat s9) (([] : List UInt8), (([] : List UInt8), 0))).2.1)), (.d (.int .i64 (List.getD x1 (Int.toNat s9) (([] : List UInt8), (([] : List UInt8), 0))).2.2))]), (.d (.sl (.pair .str .str) x0)), (.agg [(.d (.str (List.getD x1 (Int.toNat s9) (([] : List UInt8), (([] : List UInt8), 0))).1)), (.d (.str (List.getD x1 (Int.toNat s9) (([] : List UInt8), (([] : List UInt8), 0))).2.1)), (.d (.int .i64 (List.getD x1 (Int.toNat s9) (([] : List UInt8), (([] : List UInt8), 0))).2.2))]), (.d (.bool (!((List.drop 0 (List.take (Int.toNat (((List.length (List.getD x1 (Int.toNat s9) (([] : List UInt8), (([] : List UInt8), 0))).2.1) : Nat) : Int)) (getG x0 (List.getD x1 (Int.toNat s9) (([] : List UInt8), (([] : List UInt8), 0))).1))) == (List.getD x1 (Int.toNat s9) (([] : List UInt8), (([] : List UInt8), 0))).2.1)))), (.d (.bool (!(!((List.drop 0 (List.take (Int.toNat (((List.length (List.getD x1 (Int.toNat s9) (([] : List UInt8), (([] : List UInt8), 0))).2.1) : Nat) : Int)) (getG x0 (List.getD x1 (Int.toNat s9) (([] : List UInt8), (([] : List UInt8), 0))).1))) == (List.getD x1 (Int.toNat s9) (([] : List UInt8), (([] : List UInt8), 0))).2.1))))), .top], [(.cells [(.d (.str (List.getD x1 (Int.toNat s9) (([] : List UInt8), (([] : List UInt8), 0))).1)), (.d (.str (List.getD x1 (Int.toNat s9) (([] : List UInt8), (([] : List UInt8), 0))).2.1)), (.d (.int .i64 (List.getD x1 (Int.toNat s9) (([] : List UInt8), (([] : List UInt8), 0))).2.2))])]) := by
  exact turns_last (by simp) (M.run_of_path _ [true, true, true, true, false, false, false, true, true, true, true, true, true, true, true, true, true] _ _ (by kernel_rfl) (all_t c0 (all_t c1 (all_t c2 (all_t c3 (all_f c4 (all_f c5 (all_f c6 (all_t c7 (all_t c8 (all_t c8 (all_t c8 (all_t c8 (all_t c12 (all_t c8 (all_t c8 (all_t c8 (all_nnt c16 all_nil)))))))))))))))))) 
set_option maxHeartbeats 20000000 in
theorem l21_0_w8 (m n : Nat) (x0 : List ((List UInt8) × (List UInt8))) (x1 : List ((List UInt8) × (List UInt8) × Int)) (s8 : Int) (s9 : Int) (r : AEx × Env × Boxes) (c0 : decide (s9 < s8) = true) (c1 : decide (0 ≤ s9) = true) (c2 : decide (s9 < (((List.length x1) : Nat) : Int)) = true) (c3 : decide (List.length x0 ≤ 1000000) = true) (c4 : ¬ ((List.getD x1 (Int.toNat s9) (([] : List UInt8), (([] : List UInt8), 0))).2.2 == (1)) = true) (c5 : ¬ ((List.getD x1 (Int.toNat s9) (([] : List UInt8), (([] : List UInt8), 0))).2.2 == (2)) = true) (c6 : ¬ ((List.getD x1 (Int.toNat s9) (([] : List UInt8), (([] : List UInt8), 0))).2.2 == (3)) = true) (c7 : ((List.getD x1 (Int.toNat s9) (([] : List UInt8), (([] : List UInt8), 0))).2.2 == (4)) = true) (c8 : decide ((((List.length (getG x0 (List.getD x1 (Int.toNat s9) (([] : List UInt8), (([] : List UInt8), 0))).1)) : Nat) : Int) ≥ (((List.length (List.getD x1 (Int.toNat s9) (([] : List UInt8), (([] : List UInt8), 0))).2.1) : Nat) : Int)) = true) (c12 : (decide (0 ≤ (((List.length (List.getD x1 (Int.toNat s9) (([] : List UInt8), (([] : List UInt8), 0))).2.1) : Nat) : Int)) && decide ((((List.length (List.getD x1 (Int.toNat s9) (([] : List UInt8), (([] : List UInt8), 0))).2.1) : Nat) : Int) ≤ (((List.length (getG x0 (List.getD x1 (Int.toNat s9) (([] : List UInt8), (([] : List UInt8), 0))).1)) : Nat) : Int))) = true) (c16 : ¬ ((List.drop 0 (List.take (Int.toNat (((List.length (List.getD x1 (Int.toNat s9) (([] : List UInt8), (([] : List UInt8), 0))).2.1) : Nat) : Int)) (getG x0 (List.getD x1 (Int.toNat s9) (([] : List UInt8), (([] : List UInt8), 0))).1))) == (List.getD x1 (Int.toNat s9) (([] : List UInt8), (([] : List UInt8), 0))).2.1) = true) (ih : (turns (hds 21 897) 0 897 (evC byref (evCall F S2 (m + 24)) (m + 24) 0 (hds 21) lbl21_0) n (l21_0H x0 x1 s8 ((IntKind.wrap .i64 (s9 + (1))))) (l21_0B x0 x1 s8 ((IntKind.wrap .i64 (s9 + (1)))))).run = some r) : (turns (hds 21 897) 0 897 (evC byref (evCall F S2 (m + 24)) (m + 24) 0 (hds 21) lbl21_0) (n + 1) (l21_0H x0 x1 s8 s9) (l21_0B x0 x1 s8 s9)).run = some r := by
  exact turns_step (M.run_of_path _ [true, true, true, true, false, false, false, true, true, true, true, true, true, true, true, true, false] _ _ (by kernel_rfl) (all_t c0 (all_t c1 (all_t c2 (all_t c3 (all_f c4 (all_f c5 (all_f c6 (all_t c7 (all_t c8 (all_t c8 (all_t c8 (all_t c8 (all_t c12 (all_t c8 (all_t c8 (all_t c8 (all_nnf c16 all_nil)))))))))))))))))) ih
set_option maxHeartbeats 20000000 in
theorem l21_0_w9 (m n : Nat) (x0 : List ((List UInt8) × (List UInt8))) (x1 : List ((List UInt8) × (List UInt8) × Int)) (s8 : Int) (s9 : Int) (r : AEx × Env × Boxes) (c0 : decide (s9 < s8) = true) (c1 : decide (0 ≤ s9) = true) (c2 : decide (s9 < (((List.length x1) : Nat) : Int)) = true) (c3 : decide (List.length x0 ≤ 1000000) = true) (c4 : ¬ ((List.getD x1 (Int.toNat s9) (([] : List UInt8), (([] : List UInt8), 0))).2.2 == (1)) = true) (c5 : ¬ ((List.getD x1 (Int.toNat s9) (([] : List UInt8), (([] : List UInt8), 0))).2.2 == (2)) = true) (c6 : ¬ ((List.getD x1 (Int.toNat s9) (([] : List UInt8), (([] : List UInt8), 0))).2.2 == (3)) = true) (c7 : ((List.getD x1 (Int.toNat s9) (([] : List UInt8), (([] : List UInt8), 0))).2.2 == (4)) = true) (c8 : ¬ decide ((((List.length (getG x0 (List.getD x1 (Int.toNat s9) (([] : List UInt8), (([] : List UInt8), 0))).1)) : Nat) : Int) ≥ (((List.length (List.getD x1 (Int.toNat s9) (([] : List UInt8), (([] : List UInt8), 0))).2.1) : Nat) : Int)) = true) (ih : (turns (hds 21 897) 0 897 (evC byref (evCall F S2 (m + 24)) (m + 24) 0 (hds 21) lbl21_0) n (l21_0H x0 x1 s8 ((IntKind.wrap .i64 (s9 + (1))))) (l21_0B x0 x1 s8 ((IntKind.wrap .i64 (s9 + (1)))))).run = some r) : (turns (hds 21 897) 0 897 (evC byref (evCall F S2 (m + 24)) (m + 24) 0 (hds 21) lbl21_0) (n + 1) (l21_0H x0 x1 s8 s9) (l21_0B x0 x1 s8 s9)).run = some r := by
  exact turns_step (M.run_of_path _ [true, true, true, true, false, false, false, true, false, false, false, false, false, false, false, false] _ _ (by kernel_rfl) (all_t c0 (all_t c1 (all_t c2 (all_t c3 (all_f c4 (all_f c5 (all_f c6 (all_t c7 (all_f c8 (all_f c8 (all_f c8 (all_f c8 (all_f c8 (all_f c8 (all_f c8 (all_f Bool.false_ne_true all_nil))))))))))))))))) ih
set_option maxHeartbeats 20000000 in
theorem l21_0_w10 (m n : Nat) (x0 : List ((List UInt8) × (List UInt8))) (x1 : List ((List UInt8) × (List UInt8) × Int)) (s8 : Int) (s9 : Int) (c0 : decide (s9 < s8) = true) (c1 : decide (0 ≤ s9) = true) (c2 : decide (s9 < (((List.length x1) : Nat) : Int)) = true) (c3 : decide (List.length x0 ≤ 1000000) = true) (c4 : ¬ ((List.getD x1 (Int.toNat s9) (([] : List UInt8), (([] : List UInt8), 0))).2.2 == (1)) = true) (c5 : ¬ ((List.getD x1 (Int.toNat s9) (([] : List UInt8), (([] : List UInt8), 0))).2.2 == (2)) = true) (c6 : ¬ ((List.getD x1 (Int.toNat s9) (([] : List UInt8), (([] : List UInt8), 0))).2.2 == (3)) = true) (c7 : ¬ ((List.getD x1 (Int.toNat s9) (([] : List UInt8), (([] : List UInt8), 0))).2.2 == (4)) = true) : (turns (hds 21 897) 0 897 (evC byref (evCall F S2 (m + 24)) (m + 24) 0 (hds 21) lbl21_0) (n + 1) (l21_0H x0 x1 s8 s9) (l21_0B x0 x1 s8 s9)).run = some (.ret, [(.d (.sl (.pair .str .str) x0)), .top, .top, .top, (.d (.bool false)), .top, (.ptr 0 0), (.d (.sl (.pair .str (.pair .str (.int .i64))) x1)), (.d (.int .i64 s8)), (.d (.int .i64 s9)), (.d (.bool (decide (s9 < s8)))), (.cptr [(.str (List.getD x1 (Int.toNat s9) (([] : List UInt8), (([] : List UInt8), 0))).1), (.str (List.getD x1 (Int.toNat s9) (([] : List UInt8), (([] : List UInt8), 0))).2.1), (.int .i64 (List.getD x1 (Int.toNat s9) (([] : List UInt8), (([] : List UInt8), 0))).2.2)] 0), (.agg [(.d (.str (List.getD x1 (Int.toNat s9) (([] : List UInt8), (([] : List UInt8), 0))).1)), (.d (.str (List.getD x1 (Int.toNat s9) (([] : List UInt8), (([] : List UInt8), 0))).2.1)), (.d (.int .i64 (List.getD x1 (Int.toNat s9) (([] : List UInt8), (([] : List UInt8), 0))).2.2))]), (.d (.sl (.pair .str .str) x0)), (.agg [(.d (.str (List.getD x1 (Int.toNat s9) (([] : List UInt8), (([] : List UInt8), 0))).1)), (.d (.str (List.getD x1 (Int.toNat s9) (([] : List UInt8), (([] : List UInt8), 0))).2.1)), (.d (.int .i64 (List.getD x1 (Int.toNat s9) (([] : List UInt8), (([] : List UInt8), 0))).2.2))]), (.d (.bool false)), (.d (.bool true)), .top], [(.cells [(.d (.str (List.getD x1 (Int.toNat s9) (([] : List UInt8), (([] : List UInt8), 0))).1)), (.d (.str (List.getD x1 (Int.toNat s9) (([] : List UInt8), (([] : List UInt8), 0))).2.1)), (.d (.int .i64 (List.getD x1 (Int.toNat s9) (([] : List UInt8), (([] : List UInt8), 0))).2.2))])]) := by
  exact turns_last (by simp) (M.run_of_path _ [true, true, true, true, false, false, false, false, true] _ _ (by kernel_rfl) (all_t c0 (all_t c1 (all_t c2 (all_t c3 (all_f c4 (all_f c5 (all_f c6 (all_f c7 (all_t rfl all_nil)))))))))) 
set_option maxHeartbeats 20000000 in
theorem l21_0_w11 (m n : Nat) (x0 : List ((List UInt8) × (List UInt8))) (x1 : List ((List UInt8) × (List UInt8) × Int)) (s8 : Int) (s9 : Int) (c0 : ¬ decide (s9 < s8) = true) : (turns (hds 21 897) 0 897 (evC byref (evCall F S2 (m + 24)) (m + 24) 0 (hds 21) lbl21_0) (n + 1) (l21_0H x0 x1 s8 s9) (l21_0B x0 x1 s8 s9)).run = some (.exit 0, [(.d (.sl (.pair .str .str) x0)), .top, .top, .top, .top, .top, .top, (.d (.sl (.pair .str (.pair .str (.int .i64))) x1)), (.d (.int .i64 s8)), (.d (.int .i64 s9)), (.d (.bool (decide (s9 < s8)))), .top, .top, .top, .top, .top, .top, .top], []) := by
  exact turns_last (by simp) (M.run_of_path _ [false] _ _ (by kernel_rfl) (all_f c0 all_nil)) 

set_option maxHeartbeats 20000000 in
theorem l21_0_step (m n : Nat) (ih : ∀ (x0 : List ((List UInt8) × (List UInt8))) (x1 : List ((List UInt8) × (List UInt8) × Int)) (s8 : Int) (s9 : Int) (q : Nat × Int), l21_0 m n x0 x1 s8 s9 = some q → (turns (hds 21 897) 0 897 (evC byref (evCall F S2 (m + 24)) (m + 24) 0 (hds 21) lbl21_0) n (l21_0H x0 x1 s8 s9) (l21_0B x0 x1 s8 s9)).run = some (l21_0E (x0) (x1) (s8) (q.2) q.1)) (x0 : List ((List UInt8) × (List UInt8))) (x1 : List ((List UInt8) × (List UInt8) × Int)) (s8 : Int) (s9 : Int) (q : Nat × Int) (h : l21_0 m (n + 1) x0 x1 s8 s9 = some q) : (turns (hds 21 897) 0 897 (evC byref (evCall F S2 (m + 24)) (m + 24) 0 (hds 21) lbl21_0) (n + 1) (l21_0H x0 x1 s8 s9) (l21_0B x0 x1 s8 s9)).run = some (l21_0E (x0) (x1) (s8) (q.2) q.1) := by
  rw [l21_0] at h
  refine ite_cases h (fun c0 h => ?_) (fun c0 h => ?_)
  · skip
    refine ite_cases h (fun c1 h => ?_) (fun c1 h => ?_)
    · skip
      refine ite_cases h (fun c2 h => ?_) (fun c2 h => ?_)
      · skip
        refine ite_cases h (fun c3 h => ?_) (fun c3 h => ?_)
        · skip
          refine ite_cases h (fun c4 h => ?_) (fun c4 h => ?_)
          · skip
            refine ite_cases h (fun c5 h => ?_) (fun c5 h => ?_)
            · skip
              exact l21_0_w0 m n x0 x1 s8 s9 _ c0 c1 c2 c3 c4 c5 (ih _ _ _ _ q h)
            · skip
              cases h
              exact l21_0_w1 m n x0 x1 s8 s9 c0 c1 c2 c3 c4 c5
          · skip
            refine ite_cases h (fun c5 h => ?_) (fun c5 h => ?_)
            · skip
              refine ite_cases h (fun c6 h => ?_) (fun c6 h => ?_)
              · skip
                cases h
                exact l21_0_w2 m n x0 x1 s8 s9 c0 c1 c2 c3 c4 c5 c6
              · skip
                exact l21_0_w3 m n x0 x1 s8 s9 _ c0 c1 c2 c3 c4 c5 c6 (ih _ _ _ _ q h)
            · skip
              refine ite_cases h (fun c6 h => ?_) (fun c6 h => ?_)
              · skip
                refine ite_cases h (fun c7 h => ?_) (fun c7 h => ?_)
                · skip
                  refine ite_cases h (fun c11 h => ?_) (fun c11 h => ?_)
                  · skip
                    refine ite_cases h (fun c15 h => ?_) (fun c15 h => ?_)
                    · skip
                      exact l21_0_w4 m n x0 x1 s8 s9 _ c0 c1 c2 c3 c4 c5 c6 c7 c11 c15 (ih _ _ _ _ q h)
                    · skip
                      cases h
                      exact l21_0_w5 m n x0 x1 s8 s9 c0 c1 c2 c3 c4 c5 c6 c7 c11 c15
                  · skip
                    cases h
                · skip
                  cases h
                  exact l21_0_w6 m n x0 x1 s8 s9 c0 c1 c2 c3 c4 c5 c6 c7
              · skip
                refine ite_cases h (fun c7 h => ?_) (fun c7 h => ?_)
                · skip
                  refine ite_cases h (fun c8 h => ?_) (fun c8 h => ?_)
                  · skip
                    refine ite_cases h (fun c12 h => ?_) (fun c12 h => ?_)
                    · skip
                      refine ite_cases h (fun c16 h => ?_) (fun c16 h => ?_)
                      · skip
                        cases h
                        exact l21_0_w7 m n x0 x1 s8 s9 c0 c1 c2 c3 c4 c5 c6 c7 c8 c12 c16
                      · skip
                        exact l21_0_w8 m n x0 x1 s8 s9 _ c0 c1 c2 c3 c4 c5 c6 c7 c8 c12 c16 (ih _ _ _ _ q h)
                    · skip
                      cases h
                  · skip
                    exact l21_0_w9 m n x0 x1 s8 s9 _ c0 c1 c2 c3 c4 c5 c6 c7 c8 (ih _ _ _ _ q h)
                · skip
                  cases h
                  exact l21_0_w10 m n x0 x1 s8 s9 c0 c1 c2 c3 c4 c5 c6 c7
        · skip
          cases h
      · skip
        cases h
    · skip
      cases h
  · skip
    cases h
    exact l21_0_w11 m n x0 x1 s8 s9 c0
set_option maxHeartbeats 20000000 in
theorem l21_0_ok (m : Nat) : ∀ (n : Nat) (x0 : List ((List UInt8) × (List UInt8))) (x1 : List ((List UInt8) × (List UInt8) × Int)) (s8 : Int) (s9 : Int) (q : Nat × Int), l21_0 m n x0 x1 s8 s9 = some q → (turns (hds 21 897) 0 897 (evC byref (evCall F S2 (m + 24)) (m + 24) 0 (hds 21) lbl21_0) n (l21_0H x0 x1 s8 s9) (l21_0B x0 x1 s8 s9)).run = some (l21_0E (x0) (x1) (s8) (q.2) q.1)
  | 0, x0, x1, s8, s9, q, h => by cases h
  | n + 1, x0, x1, s8, s9, q, h => l21_0_step m n (l21_0_ok m n) x0 x1 s8 s9 q h

def p21 (m : Nat) (x0 : List ((List UInt8) × (List UInt8))) (x1 : List ((List UInt8) × (List UInt8) × Int)) : Option (Bool) :=
  if (Option.isSome (l21_0 m (m + 24) x0 x1 ((((List.length x1) : Nat) : Int)) 0)) = true then
    if ((l21_0R m (m + 24) x0 x1 ((((List.length x1) : Nat) : Int)) 0).1 == 0) = true then
      some (false)
    else
      if ((l21_0R m (m + 24) x0 x1 ((((List.length x1) : Nat) : Int)) 0).1 == 1) = true then
        some (false)
      else
        if ((l21_0R m (m + 24) x0 x1 ((((List.length x1) : Nat) : Int)) 0).1 == 2) = true then
          some (false)
        else
          if ((l21_0R m (m + 24) x0 x1 ((((List.length x1) : Nat) : Int)) 0).1 == 3) = true then
            some (false)
          else
            if ((l21_0R m (m + 24) x0 x1 ((((List.length x1) : Nat) : Int)) 0).1 == 4) = true then
              some (false)
            else
              if ((l21_0R m (m + 24) x0 x1 ((((List.length x1) : Nat) : Int)) 0).1 == 5) = true then
                some (false)
              else
                if ((l21_0R m (m + 24) x0 x1 ((((List.length x1) : Nat) : Int)) 0).1 == 6) = true then
                  some (true)
                else
                  none
  else
    none
set_option maxHeartbeats 20000000 in
theorem p21_ok (m : Nat) (x0 : List ((List UInt8) × (List UInt8))) (x1 : List ((List UInt8) × (List UInt8) × Int)) (q : Bool) (h : p21 m x0 x1 = some q) : ∃ r B1, (evCall F S2 (m + 25) 21 [(.d (.sl (.pair .str .str) x0)), (.d (.sl (.pair .str (.pair .str (.int .i64))) x1))] []).run = some (r, B1) ∧ 0 ≤ B1.length ∧ wkR B1 [] r (.d (.bool (q))) ∧ wkBs B1 [] 0 [] := by
  unfold p21 at h
  refine ite_cases h (fun c0 h => ?_) (fun c0 h => ?_)
  · skip
    refine ite_cases h (fun c1 h => ?_) (fun c1 h => ?_)
    · skip
      cases h
      refine ⟨(.d (.bool false)), [], runT_ok (LS := (fun k => if k = 897 then some (l21_0E x0 x1 (((((List.length x1) : Nat) : Int))) ((l21_0R m (m + 24) x0 x1 ((((List.length x1) : Nat) : Int)) 0).2) 0) else none)) (fn := fn21) (vis := [(897, l21_0H x0 x1 ((((List.length x1) : Nat) : Int)) 0, l21_0B x0 x1 ((((List.length x1) : Nat) : Int)) 0)]) (by kernel_rfl) rfl (by kernel_rfl) (M.run_of_path _ [] _ _ (by kernel_rfl) all_nil) ?_, by simp, (wkR.one (wkV.one (wk1.eq rfl))), trivial⟩
      intro p hp p2 hq
      rcases List.mem_cons.1 hp with rfl | hp
      · skip
        have h3 := l21_0_ok m (m + 24) x0 x1 ((((List.length x1) : Nat) : Int)) 0 _ (some_getD (d := l21_0D) c0)
        rw [eq_of_beq c1] at h3
        exact Eq.trans (Eq.mp (by kernel_rfl) h3) hq
      cases hp
    · skip
      refine ite_cases h (fun c2 h => ?_) (fun c2 h => ?_)
      · skip
        cases h
        refine ⟨(.d (.bool false)), [], runT_ok (LS := (fun k => if k = 897 then some (l21_0E x0 x1 (((((List.length x1) : Nat) : Int))) ((l21_0R m (m + 24) x0 x1 ((((List.length x1) : Nat) : Int)) 0).2) 1) else none)) (fn := fn21) (vis := [(897, l21_0H x0 x1 ((((List.length x1) : Nat) : Int)) 0, l21_0B x0 x1 ((((List.length x1) : Nat) : Int)) 0)]) (by kernel_rfl) rfl (by kernel_rfl) (M.run_of_path _ [] _ _ (by kernel_rfl) all_nil) ?_, by simp, (wkR.one (wkV.one (wk1.eq rfl))), trivial⟩
        intro p hp p2 hq
        rcases List.mem_cons.1 hp with rfl | hp
        · skip
          have h3 := l21_0_ok m (m + 24) x0 x1 ((((List.length x1) : Nat) : Int)) 0 _ (some_getD (d := l21_0D) c0)
          rw [eq_of_beq c2] at h3
          exact Eq.trans (Eq.mp (by kernel_rfl) h3) hq
        cases hp
      · skip
        refine ite_cases h (fun c3 h => ?_) (fun c3 h => ?_)
        · skip
          cases h
          refine ⟨(.d (.bool false)), [], runT_ok (LS := (fun k => if k = 897 then some (l21_0E x0 x1 (((((List.length x1) : Nat) : Int))) ((l21_0R m (m + 24) x0 x1 ((((List.length x1) : Nat) : Int)) 0).2) 2) else none)) (fn := fn21) (vis := [(897, l21_0H x0 x1 ((((List.length x1) : Nat) : Int)) 0, l21_0B x0 x1 ((((List.length x1) : Nat) : Int)) 0)]) (by kernel_rfl) rfl (by kernel_rfl) (M.run_of_path _ [] _ _ (by kernel_rfl) all_nil) ?_, by simp, (wkR.one (wkV.one (wk1.eq rfl))), trivial⟩
          intro p hp p2 hq
          rcases List.mem_cons.1 hp with rfl | hp
          · skip
            have h3 := l21_0_ok m (m + 24) x0 x1 ((((List.length x1) : Nat) : Int)) 0 _ (some_getD (d := l21_0D) c0)
            rw [eq_of_beq c3] at h3
            exact Eq.trans (Eq.mp (by kernel_rfl) h3) hq
          cases hp
        · skip
          refine ite_cases h (fun c4 h => ?_) (fun c4 h => ?_)
          · skip
            cases h
            refine ⟨(.d (.bool false)), [], runT_ok (LS := (fun k => if k = 897 then some (l21_0E x0 x1 (((((List.length x1) : Nat) : Int))) ((l21_0R m (m + 24) x0 x1 ((((List.length x1) : Nat) : Int)) 0).2) 3) else none)) (fn := fn21) (vis := [(897, l21_0H x0 x1 ((((List.length x1) : Nat) : Int)) 0, l21_0B x0 x1 ((((List.length x1) : Nat) : Int)) 0)]) (by kernel_rfl) rfl (by kernel_rfl) (M.run_of_path _ [] _ _ (by kernel_rfl) all_nil) ?_, by simp, (wkR.one (wkV.one (wk1.eq rfl))), trivial⟩
            intro p hp p2 hq
            rcases List.mem_cons.1 hp with rfl | hp
            · skip
              have h3 := l21_0_ok m (m + 24) x0 x1 ((((List.length x1) : Nat) : Int)) 0 _ (some_getD (d := l21_0D) c0)
              rw [eq_of_beq c4] at h3
              exact Eq.trans (Eq.mp (by kernel_rfl) h3) hq
            cases hp
          · skip
            refine ite_cases h (fun c5 h => ?_) (fun c5 h => ?_)
            · skip
              cases h
              refine ⟨(.d (.bool false)), [], runT_ok (LS := (fun k => if k = 897 then some (l21_0E x0 x1 (((((List.length x1) : Nat) : Int))) ((l21_0R m (m + 24) x0 x1 ((((List.length x1) : Nat) : Int)) 0).2) 4) else none)) (fn := fn21) (vis := [(897, l21_0H x0 x1 ((((List.length x1) : Nat) : Int)) 0, l21_0B x0 x1 ((((List.length x1) : Nat) : Int)) 0)]) (by kernel_rfl) rfl (by kernel_rfl) (M.run_of_path _ [] _ _ (by kernel_rfl) all_nil) ?_, by simp, (wkR.one (wkV.one (wk1.eq rfl))), trivial⟩
              intro p hp p2 hq
              rcases List.mem_cons.1 hp with rfl | hp
              · skip
                have h3 := l21_0_ok m (m + 24) x0 x1 ((((List.length x1) : Nat) : Int)) 0 _ (some_getD (d := l21_0D) c0)
                rw [eq_of_beq c5] at h3
                exact Eq.trans (Eq.mp (by kernel_rfl) h3) hq
              cases hp
            · skip
              refine ite_cases h (fun c6 h => ?_) (fun c6 h => ?_)
              · skip
                cases h
                refine ⟨(.d (.bool false)), [], runT_ok (LS := (fun k => if k = 897 then some (l21_0E x0 x1 (((((List.length x1) : Nat) : Int))) ((l21_0R m (m + 24) x0 x1 ((((List.length x1) : Nat) : Int)) 0).2) 5) else none)) (fn := fn21) (vis := [(897, l21_0H x0 x1 ((((List.length x1) : Nat) : Int)) 0, l21_0B x0 x1 ((((List.length x1) : Nat) : Int)) 0)]) (by kernel_rfl) rfl (by kernel_rfl) (M.run_of_path _ [] _ _ (by kernel_rfl) all_nil) ?_, by simp, (wkR.one (wkV.one (wk1.eq rfl))), trivial⟩
                intro p hp p2 hq
                rcases List.mem_cons.1 hp with rfl | hp
                · skip
                  have h3 := l21_0_ok m (m + 24) x0 x1 ((((List.length x1) : Nat) : Int)) 0 _ (some_getD (d := l21_0D) c0)
                  rw [eq_of_beq c6] at h3
                  exact Eq.trans (Eq.mp (by kernel_rfl) h3) hq
                cases hp
              · skip
                refine ite_cases h (fun c7 h => ?_) (fun c7 h => ?_)
                · skip
                  cases h
                  refine ⟨(.d (.bool true)), [], runT_ok (LS := (fun k => if k = 897 then some (l21_0E x0 x1 (((((List.length x1) : Nat) : Int))) ((l21_0R m (m + 24) x0 x1 ((((List.length x1) : Nat) : Int)) 0).2) 6) else none)) (fn := fn21) (vis := [(897, l21_0H x0 x1 ((((List.length x1) : Nat) : Int)) 0, l21_0B x0 x1 ((((List.length x1) : Nat) : Int)) 0)]) (by kernel_rfl) rfl (by kernel_rfl) (M.run_of_path _ [] _ _ (by kernel_rfl) all_nil) ?_, by simp, (wkR.one (wkV.one (wk1.eq rfl))), trivial⟩
                  intro p hp p2 hq
                  rcases List.mem_cons.1 hp with rfl | hp
                  · skip
                    have h3 := l21_0_ok m (m + 24) x0 x1 ((((List.length x1) : Nat) : Int)) 0 _ (some_getD (d := l21_0D) c0)
                    rw [eq_of_beq c7] at h3
                    exact Eq.trans (Eq.mp (by kernel_rfl) h3) hq
                  cases hp
                · skip
                  cases h
  · skip
    cases h

def preB (v p : List UInt8) : Bool := decide (p.length ≤ v.length) && (v.take p.length == p)
/-- Does a matcher hold of labels? -/
def holdsG (l : LB) (m : MT) : Bool := if m.2.2 = 1 then getG l m.1 == m.2.1 else if m.2.2 = 2 then !(getG l m.1 == m.2.1) else if m.2.2 = 3 then preB (getG l m.1) m.2.1 else if m.2.2 = 4 then !preB (getG l m.1) m.2.1 else false
def allG (l : LB) (ms : List MT) : Bool := ms.all (holdsG l)
theorem all_loop (m : Nat) (l : LB) (ms : List MT) (hl : l.length ≤ 1000000) (hb : ms.length ≤ 1000000) : ∀ (n k : Nat), k ≤ ms.length → ms.length - k < n → ∃ e j, l21_0 m n l ms (ms.length : Nat) (k : Nat) = some (e, j) ∧ ((e = 6 ∧ allG l (ms.drop k) = true) ∨ ((e = 0 ∨ e = 1 ∨ e = 2 ∨ e = 3 ∨ e = 4 ∨ e = 5) ∧ allG l (ms.drop k) = false))
  | 0, k, _, h => by omega
  | n + 1, k, h1, h2 => by
    rw [l21_0]
    by_cases hk : k < ms.length
    · have e1 : decide (((k : Nat) : Int) < (((List.length ms) : Nat) : Int)) = true := decide_eq_true (by omega)
      have e2 : decide ((0 : Int) ≤ ((k : Nat) : Int)) = true := decide_eq_true (by omega)
      have e3 : decide (List.length l ≤ 1000000) = true := decide_eq_true hl
      have e7 : IntKind.wrap .i64 (((k : Nat) : Int) + (1)) = ((k + 1 : Nat) : Int) := by rw [wrap_id (by omega) (by omega)]; rfl
      rw [drop_getD ms k (([] : List UInt8), (([] : List UInt8), 0)) hk]
      simp only [show Int.toNat ((k : Nat) : Int) = k from rfl, e1, e2, e3, e7, ↓reduceIte]
      have go := all_loop m l ms hl hb n (k + 1) (by omega) (by omega)
      generalize ms.getD k (([] : List UInt8), (([] : List UInt8), 0)) = q at *
      have hcons : allG l (q :: ms.drop (k + 1)) = (holdsG l q && allG l (ms.drop (k + 1))) := rfl
      rw [hcons]
      have yes : holdsG l q = true → ∃ e j, l21_0 m n l ms (ms.length : Nat) ((k + 1 : Nat) : Int) = some (e, j) ∧ ((e = 6 ∧ (holdsG l q && allG l (ms.drop (k + 1))) = true) ∨ ((e = 0 ∨ e = 1 ∨ e = 2 ∨ e = 3 ∨ e = 4 ∨ e = 5) ∧ (holdsG l q && allG l (ms.drop (k + 1))) = false)) := by
        intro h; rw [h, Bool.true_and]; exact go
      have no : ∀ e : Nat, (e = 0 ∨ e = 1 ∨ e = 2 ∨ e = 3 ∨ e = 4 ∨ e = 5) → holdsG l q = false → ∃ e' j, (some (e, ((k : Nat) : Int)) : Option (Nat × Int)) = some (e', j) ∧ ((e' = 6 ∧ (holdsG l q && allG l (ms.drop (k + 1))) = true) ∨ ((e' = 0 ∨ e' = 1 ∨ e' = 2 ∨ e' = 3 ∨ e' = 4 ∨ e' = 5) ∧ (holdsG l q && allG l (ms.drop (k + 1))) = false)) := by
        intro e he h; exact ⟨e, _, rfl, .inr ⟨he, by rw [h]; rfl⟩⟩
      generalize allG l (ms.drop (k + 1)) = rest at *
      have hv : holdsG l q = if q.2.2 = 1 then getG l q.1 == q.2.1 else if q.2.2 = 2 then !(getG l q.1 == q.2.1) else if q.2.2 = 3 then preB (getG l q.1) q.2.1 else if q.2.2 = 4 then !preB (getG l q.1) q.2.1 else false := rfl
      generalize holdsG l q = hq at *
      generalize getG l q.1 = v at *
      obtain ⟨nm, p, kd⟩ := q
      simp only at hv ⊢
      by_cases k1 : kd = 1
      · subst k1
        have d1 : ((1 : Int) == (1)) = true := rfl
        simp only [d1, ↓reduceIte] at hv ⊢
        by_cases hc : (v == p) = true
        · rw [if_pos hc]; exact yes (by rw [hv, hc])
        · rw [if_neg hc]; exact no 0 (by simp) (by rw [hv]; simpa using hc)
      · have d1 : (kd == (1)) = false := by simpa using k1
        rw [if_neg k1] at hv
        simp only [d1, ↓reduceIte, Bool.false_eq_true]
        by_cases k2 : kd = 2
        · subst k2
          have d2 : ((2 : Int) == (2)) = true := rfl
          simp only [d2, ↓reduceIte] at hv ⊢
          by_cases hc : (v == p) = true
          · rw [if_pos hc]; exact no 1 (by simp) (by rw [hv, hc]; rfl)
          · rw [if_neg hc]; exact yes (by rw [hv]; simpa using hc)
        · have d2 : (kd == (2)) = false := by simpa using k2
          rw [if_neg k2] at hv
          simp only [d2, ↓reduceIte, Bool.false_eq_true]
          by_cases hlen : p.length ≤ v.length
          · have f1 : decide ((((List.length v) : Nat) : Int) ≥ (((List.length p) : Nat) : Int)) = true := decide_eq_true (by omega)
            have f2 : (decide (0 ≤ (((List.length p) : Nat) : Int)) && decide ((((List.length p) : Nat) : Int) ≤ (((List.length v) : Nat) : Int))) = true := by simp; omega
            have f3 : List.drop 0 (List.take (Int.toNat (((List.length p) : Nat) : Int)) v) = v.take p.length := by rw [Int.toNat_natCast, List.drop_zero]
            have f4 : preB v p = (v.take p.length == p) := by unfold preB; rw [show decide (p.length ≤ v.length) = true from decide_eq_true hlen, Bool.true_and]
            rw [f4] at hv
            simp only [f1, f2, f3, ↓reduceIte]
            by_cases k3 : kd = 3
            · subst k3
              have d3 : ((3 : Int) == (3)) = true := rfl
              simp only [d3, ↓reduceIte] at hv ⊢
              by_cases hc : (v.take p.length == p) = true
              · rw [if_pos hc]; exact yes (by rw [hv, hc])
              · rw [if_neg hc]; exact no 2 (by simp) (by rw [hv]; simpa using hc)
            · have d3 : (kd == (3)) = false := by simpa using k3
              rw [if_neg k3] at hv
              simp only [d3, ↓reduceIte, Bool.false_eq_true]
              by_cases k4 : kd = 4
              · subst k4
                have d4 : ((4 : Int) == (4)) = true := rfl
                simp only [d4, ↓reduceIte] at hv ⊢
                by_cases hc : (v.take p.length == p) = true
                · rw [if_pos hc]; exact no 4 (by simp) (by rw [hv, hc]; rfl)
                · rw [if_neg hc]; exact yes (by rw [hv]; simpa using hc)
              · have d4 : (kd == (4)) = false := by simpa using k4
                rw [if_neg k4] at hv
                simp only [d4, ↓reduceIte, Bool.false_eq_true]
                exact no 5 (by simp) hv
          · have f1 : decide ((((List.length v) : Nat) : Int) ≥ (((List.length p) : Nat) : Int)) = false := decide_eq_false (by omega)
            have f4 : preB v p = false := by unfold preB; rw [show decide (p.length ≤ v.length) = false from decide_eq_false hlen, Bool.false_and]
            rw [f4] at hv
            simp only [f1, ↓reduceIte, Bool.false_eq_true]
            by_cases k3 : kd = 3
            · subst k3
              have d3 : ((3 : Int) == (3)) = true := rfl
              simp only [d3, ↓reduceIte] at hv ⊢
              exact no 3 (by simp) hv
            · have d3 : (kd == (3)) = false := by simpa using k3
              rw [if_neg k3] at hv
              simp only [d3, ↓reduceIte, Bool.false_eq_true]
              by_cases k4 : kd = 4
              · subst k4
                have d4 : ((4 : Int) == (4)) = true := rfl
                simp only [d4, ↓reduceIte] at hv ⊢
                exact yes hv
              · have d4 : (kd == (4)) = false := by simpa using k4
                rw [if_neg k4] at hv
                simp only [d4, ↓reduceIte, Bool.false_eq_true]
                exact no 5 (by simp) hv
    · have e1 : decide (((k : Nat) : Int) < (((List.length ms) : Nat) : Int)) = false := decide_eq_false (by omega)
      rw [e1, if_neg (by simp), List.drop_eq_nil_of_le (by omega)]
      exact ⟨6, _, rfl, .inl ⟨rfl, rfl⟩⟩
theorem all21 (l : LB) (ms : List MT) (h : decide (List.length l ≤ 1000000 ∧ List.length ms ≤ 1000000) = true) : ∃ m, p21 m l ms = some (allG l ms) := by
  have h := of_decide_eq_true h
  refine ⟨ms.length, ?_⟩
  unfold p21
  obtain ⟨e, j, hr, hc⟩ := all_loop ms.length l ms h.1 h.2 (ms.length + 24) 0 (by omega) (by omega)
  simp only [Int.natCast_zero, List.drop_zero] at hr hc
  simp only [l21_0R, hr, Option.isSome_some, Option.getD_some, ↓reduceIte]
  rcases hc with ⟨rfl, hc⟩ | ⟨rfl | rfl | rfl | rfl | rfl | rfl, hc⟩ <;> rw [hc] <;> rfl
def s21 : List AV → Boxes → M (AV × Boxes) := normS [.val (.sl (.pair .str .str)), .val (.sl (.pair .str (.pair .str (.int .i64))))] [] fun xs B => match xs, B with
  | [(.d (.sl (.pair .str .str) c1)), (.d (.sl (.pair .str (.pair .str (.int .i64))) c2))], [] => .chk (decide (List.length c1 ≤ 1000000 ∧ List.length c2 ≤ 1000000)) (.ret ((.d (.bool (allG c1 c2))), []))
  | _, _ => .fail
theorem s21_at : CallAt Tryd.prog 21 s21 := by
  refine CallAt.norm (CallAt.weakE (g := fun n => evCall F S2 n 21) (fun n => evCall_atH mixed kinds hds S2 S2_ok n 21) fun xs B r' B' hr => ?_) _ _
  split at hr
  · rename_i c1 c2
    obtain ⟨hp, hr⟩ := (M.run_chk _ _ _).1 hr
    simp only [M.run, Option.some.injEq, Prod.mk.injEq] at hr
    obtain ⟨rfl, rfl⟩ := hr
    obtain ⟨m, hm⟩ := all21 c1 c2 hp
    obtain ⟨r, B1, h1, h2, h3, h4⟩ := p21_ok m c1 c2 _ hm
    exact ⟨m + 25, r, B1, h1, by simp, h2, h3, h4⟩
  · simp [M.run] at hr
noncomputable def S3 : FuncId → Option (List AV → Boxes → M (AV × Boxes)) := fun f => if f = 21 then some s21 else S2 f
set_option maxHeartbeats 20000000 in
theorem S3_ok : ∀ f s, S3 f = some s → CallAt Tryd.prog f s := by
  intro f s h
  unfold S3 at h
  split at h
  · rename_i e; subst e; cases h; exact s21_at
  · exact S2_ok f s h

end Go.Proofs.YtghkbjflejgieaaDoor.Dec
namespace Go.Proofs.YtghkbjflejgieaaDoor.Dec
open Go.Ev
set_option linter.unusedVariables false
set_option linter.unusedSimpArgs false
set_option maxRecDepth 100000
noncomputable def fn39 : AFn := (F 39).getD ⟨0, [], .bad, false, false, noHd⟩
noncomputable def body39 : AC := fn39.body
def p39 (m : Nat) (x0 : List Int) (x1 : Int) : Option (Int) :=
  if ((((List.length x0) : Nat) : Int) == (0)) = true then
    some ((0))
  else
    if decide ((((List.length x0) : Nat) : Int) = 0) = true then
      none
    else
      if decide (0 ≤ (Int.tmod x1 (((List.length x0) : Nat) : Int))) = true then
        if decide ((Int.tmod x1 (((List.length x0) : Nat) : Int)) < (((List.length x0) : Nat) : Int)) = true then
          some ((List.getD x0 (Int.toNat (Int.tmod x1 (((List.length x0) : Nat) : Int))) 0))
        else
          none
      else
        none
set_option maxHeartbeats 20000000 in
theorem p39_ok (m : Nat) (x0 : List Int) (x1 : Int) (q : Int) (h : p39 m x0 x1 = some q) : ∃ r B1, (evCall F S3 (m + 25) 39 [(.d (.sl (.int .i64) x0)), (.d (.int .i64 x1))] []).run = some (r, B1) ∧ 0 ≤ B1.length ∧ wkR B1 [] r (.d (.int .i64 q)) ∧ wkBs B1 [] 0 [] := by
  unfold p39 at h
  refine ite_cases h (fun c0 h => ?_) (fun c0 h => ?_)
  · skip
    cases h
    refine ⟨(.d (.int .i64 (0))), [], runT_ok (LS := (fun k => none)) (fn := fn39) (vis := []) (by kernel_rfl) rfl (by kernel_rfl) (M.run_of_path _ [true] _ _ (by kernel_rfl) (all_t c0 all_nil)) ?_, by simp, (wkR.one (wkV.one (wk1.eq rfl))), trivial⟩
    intro p hp; cases hp
  · skip
    refine ite_cases h (fun c1 h => ?_) (fun c1 h => ?_)
    · skip
      cases h
    · skip
      refine ite_cases h (fun c2 h => ?_) (fun c2 h => ?_)
      · skip
        refine ite_cases h (fun c3 h => ?_) (fun c3 h => ?_)
        · skip
          cases h
          refine ⟨(.d (.int .i64 (List.getD x0 (Int.toNat (Int.tmod x1 (((List.length x0) : Nat) : Int))) 0))), [], runT_ok (LS := (fun k => none)) (fn := fn39) (vis := []) (by kernel_rfl) rfl (by kernel_rfl) (M.run_of_path _ [false, true, true, true] _ _ (by kernel_rfl) (all_f c0 (all_nf c1 (all_t c2 (all_t c3 all_nil))))) ?_, by simp, (wkR.one (wkV.one (wk1.eq rfl))), trivial⟩
          intro p hp; cases hp
        · skip
          cases h
      · skip
        cases h

def pickPre (l : List Int) (i : Int) : Bool := decide (0 ≤ i ∧ i ≤ 1000)
def pickG (l : List Int) (i : Int) : Int := if l = [] then 0 else l.getD (Int.toNat (Int.tmod i (((List.length l) : Nat) : Int))) 0
theorem pick39 (l : List Int) (i : Int) (h : pickPre l i = true) : ∃ m, p39 m l i = some (pickG l i) := by
  have h := of_decide_eq_true h
  refine ⟨0, ?_⟩
  unfold p39 pickG
  by_cases h0 : l = []
  · subst h0; rfl
  · have hl : 0 < l.length := by cases l <;> simp_all
    have e1 : ((((List.length l) : Nat) : Int) == (0)) = false := by rw [beq_eq_false_iff_ne]; omega
    have e2 : decide ((((List.length l) : Nat) : Int) = 0) = false := decide_eq_false (by omega)
    have t1 := Int.tmod_nonneg (((List.length l) : Nat) : Int) h.1
    have t2 := Int.tmod_lt_of_pos i (show (0 : Int) < (((List.length l) : Nat) : Int) by omega)
    have e3 : decide (0 ≤ (Int.tmod i (((List.length l) : Nat) : Int))) = true := decide_eq_true t1
    have e4 : decide ((Int.tmod i (((List.length l) : Nat) : Int)) < (((List.length l) : Nat) : Int)) = true := decide_eq_true t2
    rw [e1, e2, if_neg (by simp), if_neg (by simp), if_pos e3, if_pos e4, if_neg h0]
def s39 : List AV → Boxes → M (AV × Boxes) := normS [.val (.sl (.int .i64)), .val (.int .i64)] [] fun xs B => match xs, B with
  | [(.d (.sl (.int .i64) c1)), (.d (.int .i64 c2))], [] => .chk (pickPre c1 c2) (.ret ((.d (.int .i64 (pickG c1 c2))), []))
  | _, _ => .fail
theorem s39_at : CallAt Tryd.prog 39 s39 := by
  refine CallAt.norm (CallAt.weakE (g := fun n => evCall F S3 n 39) (fun n => evCall_atH mixed kinds hds S3 S3_ok n 39) fun xs B r' B' hr => ?_) _ _
  split at hr
  · rename_i c1 c2
    obtain ⟨hp, hr⟩ := (M.run_chk _ _ _).1 hr
    simp only [M.run, Option.some.injEq, Prod.mk.injEq] at hr
    obtain ⟨rfl, rfl⟩ := hr
    obtain ⟨m, hm⟩ := pick39 c1 c2 hp
    obtain ⟨r, B1, h1, h2, h3, h4⟩ := p39_ok m c1 c2 _ hm
    exact ⟨m + 25, r, B1, h1, by simp, h2, h3, h4⟩
  · simp [M.run] at hr
noncomputable def S4 : FuncId → Option (List AV → Boxes → M (AV × Boxes)) := fun f => if f = 39 then some s39 else S3 f
set_option maxHeartbeats 20000000 in
theorem S4_ok : ∀ f s, S4 f = some s → CallAt Tryd.prog f s := by
  intro f s h
  unfold S4 at h
  split at h
  · rename_i e; subst e; cases h; exact s39_at
  · exact S3_ok f s h

end Go.Proofs.YtghkbjflejgieaaDoor.Dec
