/- DERIVED: THE SHELF's CONTRACTS AT THIS DUMP, IN PLAIN WORDS (tools/lay-plain.mjs out of 'YtahdcmicifokgaaDoorShelf.lean', which tools/lay-shelf.mjs wrote): THE SAME DECLARATIONS UNDER THE SAME NAMES: 'import', 'namespace', 'open', 'def', 'theorem' AND NOTHING ELSE: no command of the shelf's: FOR A HAND-IN. Each laying: the table of numbers ('.._ren') and one theorem, a field a fact of the dump's o -/
import Derived.Test.YtahdcmicifokgaaDoorQF4
import Derived.Shelf.Strings.Builder1
import Derived.Shelf.Strings.Builder2
import Derived.Shelf.Strings.OnBuilder
import Derived.Shelf.Small.Strs
import Derived.Shelf.Strings.SlTrimAscii
import Derived.Test.YtahdcmicifokgaaDoorProg
import Derived.KernelRfl
namespace Go.Proofs
open Go.Shelf
def Tryd.lays169_ren : Go.Shelf.Ren := ⟨fun | 169 => 55 | n => n, fun | 70 => 92 | 9 => 9 | 0 => 0 | 72 => 94 | 37 => 78 | 127 => 113 | 3 => 3 | 5 => 5 | n => n, fun | n => n⟩
theorem Tryd.lays169 : Go.Proofs.Lays.n169 Tryd.prog Tryd.lays169_ren := {
  mixed := by kernel_rfl
  f169 := Tryd.func55.trans (congrArg some (by kernel_rfl))
  t0 := Tryd.underlying0
  a0 := Tryd.isAgg0
  z0 := Tryd.sizeOf0
  v0 := Tryd.zeroValue0
  t3 := Tryd.underlying3
  a3 := Tryd.isAgg3
  z3 := Tryd.sizeOf3
  v3 := Tryd.zeroValue3
  t9 := Tryd.underlying9
  a9 := Tryd.isAgg9
  z9 := Tryd.sizeOf9
  v9 := Tryd.zeroValue9
  t37 := Tryd.underlying78
  a37 := Tryd.isAgg78
  z37 := Tryd.sizeOf78
  v37 := Tryd.zeroValue78
  t70 := Tryd.underlying92
  a70 := Tryd.isAgg92
  z70 := Tryd.sizeOf92
  v70 := Tryd.zeroValue92
  t72 := Tryd.underlying94
  a72 := Tryd.isAgg94
  z72 := Tryd.sizeOf94
  v72 := Tryd.zeroValue94
  t127 := Tryd.underlying113
  a127 := Tryd.isAgg113
  z127 := Tryd.sizeOf113
  v127 := Tryd.zeroValue113 }
theorem Tryd.Builder_Extra_169 : Builder.Extra Tryd.prog Tryd.lays169_ren := {
  sizeBuilder := by kernel_rfl
  liesBuilder := by kernel_rfl
  t5 := Tryd.underlying5
  a5 := Tryd.isAgg5
  z5 := Tryd.sizeOf5
  v5 := Tryd.zeroValue5
  infoByte := by kernel_rfl
  cellsByte := by kernel_rfl
  sizeByte := by kernel_rfl
  neB5 := by decide }
open Go.RowKit in
theorem Tryd.Builder_String_any (B b : Nat) (l : List UInt8) (w : World) (h : Lib.IsBuilder 94 5 B b (Lib.byteCells l) w) (hBw : B ≤ w.heap.size) :
    Calls Tryd.prog 55 #[.pointer (some ⟨b, 0, none⟩)] w fun e w' => e = .returned (.string ⟨l.toArray⟩) ∧ Below B w w' := Any.Builder_String_any Tryd.lays169 Tryd.Builder_Extra_169 B b l w h hBw
def Tryd.lays165_ren : Go.Shelf.Ren := ⟨fun | 165 => 56 | 240 => 77 | 241 => 78 | 276 => 94 | 277 => 95 | n => n, fun | 70 => 92 | 3 => 3 | 0 => 0 | 4 => 4 | 9 => 9 | 20 => 20 | 72 => 94 | 37 => 78 | 164 => 127 | 5 => 5 | n => n, fun | n => n⟩
theorem Tryd.lays165 : Go.Proofs.Lays.n165 Tryd.prog Tryd.lays165_ren := {
  mixed := by kernel_rfl
  f165 := Tryd.func56.trans (congrArg some (by kernel_rfl))
  f240 := Tryd.func77.trans (congrArg some (by kernel_rfl))
  f241 := Tryd.func78.trans (congrArg some (by kernel_rfl))
  f276 := Tryd.func94.trans (congrArg some (by kernel_rfl))
  f277 := Tryd.func95.trans (congrArg some (by kernel_rfl))
  t0 := Tryd.underlying0
  a0 := Tryd.isAgg0
  z0 := Tryd.sizeOf0
  v0 := Tryd.zeroValue0
  t3 := Tryd.underlying3
  a3 := Tryd.isAgg3
  z3 := Tryd.sizeOf3
  v3 := Tryd.zeroValue3
  t4 := Tryd.underlying4
  a4 := Tryd.isAgg4
  z4 := Tryd.sizeOf4
  v4 := Tryd.zeroValue4
  t9 := Tryd.underlying9
  a9 := Tryd.isAgg9
  z9 := Tryd.sizeOf9
  v9 := Tryd.zeroValue9
  t20 := Tryd.underlying20
  a20 := Tryd.isAgg20
  z20 := Tryd.sizeOf20
  v20 := Tryd.zeroValue20
  t37 := Tryd.underlying78
  a37 := Tryd.isAgg78
  z37 := Tryd.sizeOf78
  v37 := Tryd.zeroValue78
  t70 := Tryd.underlying92
  a70 := Tryd.isAgg92
  z70 := Tryd.sizeOf92
  v70 := Tryd.zeroValue92
  t72 := Tryd.underlying94
  a72 := Tryd.isAgg94
  z72 := Tryd.sizeOf94
  v72 := Tryd.zeroValue94
  t164 := Tryd.underlying127
  a164 := Tryd.isAgg127
  z164 := Tryd.sizeOf127
  v164 := Tryd.zeroValue127 }
theorem Tryd.Builder_Extra_165 : Builder.Extra Tryd.prog Tryd.lays165_ren := {
  sizeBuilder := by kernel_rfl
  liesBuilder := by kernel_rfl
  t5 := Tryd.underlying5
  a5 := Tryd.isAgg5
  z5 := Tryd.sizeOf5
  v5 := Tryd.zeroValue5
  infoByte := by kernel_rfl
  cellsByte := by kernel_rfl
  sizeByte := by kernel_rfl
  neB5 := by decide }
open Go.RowKit in
theorem Tryd.Builder_Grow_fresh (B b n : Nat) (w : World) (hB : B ≤ b) (hbk : w.heap[b]? = some (.cells #[.pointer none, .slice none 0 0] 94 (0, 0))) (hBw : B ≤ w.heap.size) (hn : n ≤ 281474976710656) :
    Calls Tryd.prog 56 #[.pointer (some ⟨b, 0, none⟩), .int .i64 n] w fun e w' => e = .returned (.tuple #[]) ∧ (Lib.BuilderAt 94 5 B b (.pointer (some ⟨b, 0, none⟩)) [] w' ∧ Below B w w') := Any.Builder_Grow_fresh Tryd.lays165 Tryd.Builder_Extra_165 B b n w hB hbk hBw hn
def Tryd.lays156_ren : Go.Shelf.Ren := ⟨fun | 156 => 33 | 165 => 56 | 166 => 57 | 169 => 55 | 240 => 77 | 241 => 78 | 276 => 94 | 277 => 95 | n => n, fun | 31 => 38 | 9 => 9 | 3 => 3 | 4 => 4 | 0 => 0 | 20 => 20 | 72 => 94 | 76 => 100 | 70 => 92 | 37 => 78 | 75 => 96 | 127 => 113 | 164 => 127 | 5 => 5 | 80 => 98 | n => n, fun | n => n⟩
theorem Tryd.lays156 : Go.Proofs.Lays.n156 Tryd.prog Tryd.lays156_ren := {
  mixed := by kernel_rfl
  f156 := Tryd.func33.trans (congrArg some (by kernel_rfl))
  f165 := Tryd.func56.trans (congrArg some (by kernel_rfl))
  f166 := Tryd.func57.trans (congrArg some (by kernel_rfl))
  f169 := Tryd.func55.trans (congrArg some (by kernel_rfl))
  f240 := Tryd.func77.trans (congrArg some (by kernel_rfl))
  f241 := Tryd.func78.trans (congrArg some (by kernel_rfl))
  f276 := Tryd.func94.trans (congrArg some (by kernel_rfl))
  f277 := Tryd.func95.trans (congrArg some (by kernel_rfl))
  t0 := Tryd.underlying0
  a0 := Tryd.isAgg0
  z0 := Tryd.sizeOf0
  v0 := Tryd.zeroValue0
  t3 := Tryd.underlying3
  a3 := Tryd.isAgg3
  z3 := Tryd.sizeOf3
  v3 := Tryd.zeroValue3
  t4 := Tryd.underlying4
  a4 := Tryd.isAgg4
  z4 := Tryd.sizeOf4
  v4 := Tryd.zeroValue4
  t9 := Tryd.underlying9
  a9 := Tryd.isAgg9
  z9 := Tryd.sizeOf9
  v9 := Tryd.zeroValue9
  t20 := Tryd.underlying20
  a20 := Tryd.isAgg20
  z20 := Tryd.sizeOf20
  v20 := Tryd.zeroValue20
  t31 := Tryd.underlying38
  a31 := Tryd.isAgg38
  z31 := Tryd.sizeOf38
  v31 := Tryd.zeroValue38
  t37 := Tryd.underlying78
  a37 := Tryd.isAgg78
  z37 := Tryd.sizeOf78
  v37 := Tryd.zeroValue78
  t70 := Tryd.underlying92
  a70 := Tryd.isAgg92
  z70 := Tryd.sizeOf92
  v70 := Tryd.zeroValue92
  t72 := Tryd.underlying94
  a72 := Tryd.isAgg94
  z72 := Tryd.sizeOf94
  v72 := Tryd.zeroValue94
  t75 := Tryd.underlying96
  a75 := Tryd.isAgg96
  z75 := Tryd.sizeOf96
  v75 := Tryd.zeroValue96
  t76 := Tryd.underlying100
  a76 := Tryd.isAgg100
  z76 := Tryd.sizeOf100
  v76 := Tryd.zeroValue100
  t127 := Tryd.underlying113
  a127 := Tryd.isAgg113
  z127 := Tryd.sizeOf113
  v127 := Tryd.zeroValue113
  t164 := Tryd.underlying127
  a164 := Tryd.isAgg127
  z164 := Tryd.sizeOf127
  v164 := Tryd.zeroValue127 }
theorem Tryd.Builder_Extra_156 : Builder.Extra Tryd.prog Tryd.lays156_ren := {
  sizeBuilder := by kernel_rfl
  liesBuilder := by kernel_rfl
  t5 := Tryd.underlying5
  a5 := Tryd.isAgg5
  z5 := Tryd.sizeOf5
  v5 := Tryd.zeroValue5
  infoByte := by kernel_rfl
  cellsByte := by kernel_rfl
  sizeByte := by kernel_rfl
  neB5 := by decide }
open Go.RowKit in
theorem Tryd.strings_Join_none (a : Option Addr) (c : Nat) (sep : ByteArray) (w : World) :
    Calls Tryd.prog 33 #[.slice a 0 c, .string sep] w fun e w' => e = .returned (.string ⟨#[]⟩) ∧ w' = w := Any.strings_Join_none Tryd.lays156 Tryd.Builder_Extra_156 a c sep w
open Go.RowKit in
theorem Tryd.strings_Join (bk o c : Nat) (xs : List ByteArray) (sep : ByteArray) (w : World) (hcells : ∀ (j : Nat) x, xs[j]? = some x → w.cell? ⟨bk, o + j, none⟩ = some (.string x)) (hbk : bk < w.heap.size) (hN : xs.length ≤ 140737488355328) (hcap : xs.length ≤ c) (hlen : (Lib.join (xs.map (·.data.toList)) sep.data.toList).length ≤ 140737488355328) :
    Calls Tryd.prog 33 #[.slice (some ⟨bk, o, none⟩) xs.length c, .string sep] w fun e w' => e = .returned (.string ⟨(Lib.join (xs.map (·.data.toList)) sep.data.toList).toArray⟩) ∧ Below w.heap.size w w' := Any.strings_Join Tryd.lays156 Tryd.Builder_Extra_156 bk o c xs sep w hcells hbk hN hcap hlen
def Tryd.lays160_ren : Go.Shelf.Ren := ⟨fun | 160 => 76 | 232 => 88 | 231 => 87 | 227 => 89 | 234 => 91 | 233 => 90 | 236 => 93 | 235 => 92 | 228 => 99 | 271 => 102 | 151 => 101 | 197 => 100 | 120 => 107 | 152 => 106 | 260 => 105 | 137 => 75 | 119 => 108 | 224 => 109 | 225 => 110 | 217 => 86 | 266 => 98 | n => n, fun | 9 => 9 | 4 => 4 | 3 => 3 | 5 => 5 | 117 => 123 | 116 => 122 | 0 => 0 | 124 => 126 | 21 => 21 | 105 => 133 | 46 => 131 | 119 => 137 | 139 => 140 | 138 => 139 | n => n, fun | 3 => 1 | 4 => 2 | n => n⟩
theorem Tryd.lays160 : Go.Proofs.Lays.n160 Tryd.prog Tryd.lays160_ren := {
  mixed := by kernel_rfl
  f119 := Tryd.func108.trans (congrArg some (by kernel_rfl))
  f120 := Tryd.func107.trans (congrArg some (by kernel_rfl))
  f137 := Tryd.func75.trans (congrArg some (by kernel_rfl))
  f151 := Tryd.func101.trans (congrArg some (by kernel_rfl))
  f152 := Tryd.func106.trans (congrArg some (by kernel_rfl))
  f160 := Tryd.func76.trans (congrArg some (by kernel_rfl))
  f197 := Tryd.func100.trans (congrArg some (by kernel_rfl))
  f217 := Tryd.func86.trans (congrArg some (by kernel_rfl))
  f224 := Tryd.func109.trans (congrArg some (by kernel_rfl))
  f225 := Tryd.func110.trans (congrArg some (by kernel_rfl))
  f227 := Tryd.func89.trans (congrArg some (by kernel_rfl))
  f228 := Tryd.func99.trans (congrArg some (by kernel_rfl))
  f231 := Tryd.func87.trans (congrArg some (by kernel_rfl))
  f232 := Tryd.func88.trans (congrArg some (by kernel_rfl))
  f233 := Tryd.func90.trans (congrArg some (by kernel_rfl))
  f234 := Tryd.func91.trans (congrArg some (by kernel_rfl))
  f235 := Tryd.func92.trans (congrArg some (by kernel_rfl))
  f236 := Tryd.func93.trans (congrArg some (by kernel_rfl))
  f260 := Tryd.func105.trans (congrArg some (by kernel_rfl))
  f266 := Tryd.func98.trans (congrArg some (by kernel_rfl))
  f271 := Tryd.func102.trans (congrArg some (by kernel_rfl))
  t0 := Tryd.underlying0
  a0 := Tryd.isAgg0
  z0 := Tryd.sizeOf0
  v0 := Tryd.zeroValue0
  t3 := Tryd.underlying3
  a3 := Tryd.isAgg3
  z3 := Tryd.sizeOf3
  v3 := Tryd.zeroValue3
  t4 := Tryd.underlying4
  a4 := Tryd.isAgg4
  z4 := Tryd.sizeOf4
  v4 := Tryd.zeroValue4
  t5 := Tryd.underlying5
  a5 := Tryd.isAgg5
  z5 := Tryd.sizeOf5
  v5 := Tryd.zeroValue5
  t9 := Tryd.underlying9
  a9 := Tryd.isAgg9
  z9 := Tryd.sizeOf9
  v9 := Tryd.zeroValue9
  t21 := Tryd.underlying21
  a21 := Tryd.isAgg21
  z21 := Tryd.sizeOf21
  v21 := Tryd.zeroValue21
  t46 := Tryd.underlying131
  a46 := Tryd.isAgg131
  z46 := Tryd.sizeOf131
  v46 := Tryd.zeroValue131
  t105 := Tryd.underlying133
  a105 := Tryd.isAgg133
  z105 := Tryd.sizeOf133
  v105 := Tryd.zeroValue133
  t116 := Tryd.underlying122
  a116 := Tryd.isAgg122
  z116 := Tryd.sizeOf122
  t117 := Tryd.underlying123
  a117 := Tryd.isAgg123
  z117 := Tryd.sizeOf123
  v117 := Tryd.zeroValue123
  t119 := Tryd.underlying137
  a119 := Tryd.isAgg137
  z119 := Tryd.sizeOf137
  t124 := Tryd.underlying126
  a124 := Tryd.isAgg126
  z124 := Tryd.sizeOf126
  v124 := Tryd.zeroValue126
  t138 := Tryd.underlying139
  a138 := Tryd.isAgg139
  z138 := Tryd.sizeOf139
  v138 := Tryd.zeroValue139
  t139 := Tryd.underlying140
  a139 := Tryd.isAgg140
  z139 := Tryd.sizeOf140
  v139 := Tryd.zeroValue140
  g3 := by kernel_rfl
  g4 := by kernel_rfl }
def Tryd.lays106_ren : Go.Shelf.Ren := ⟨fun | 106 => 51 | 213 => 74 | 265 => 85 | n => n, fun | 9 => 9 | 3 => 3 | n => n, fun | n => n⟩
theorem Tryd.lays106 : Go.Proofs.Lays.n106 Tryd.prog Tryd.lays106_ren := {
  mixed := by kernel_rfl
  f106 := Tryd.func51.trans (congrArg some (by kernel_rfl))
  f213 := Tryd.func74.trans (congrArg some (by kernel_rfl))
  f265 := Tryd.func85.trans (congrArg some (by kernel_rfl))
  t3 := Tryd.underlying3
  a3 := Tryd.isAgg3
  z3 := Tryd.sizeOf3
  v3 := Tryd.zeroValue3
  t9 := Tryd.underlying9
  a9 := Tryd.isAgg9
  z9 := Tryd.sizeOf9
  v9 := Tryd.zeroValue9 }
open Go.RowKit in
theorem Tryd.strings_Compare (a b : ByteArray) (w : World) :
    Calls Tryd.prog 51 #[.string a, .string b] w fun e w' => e = .returned (.int .i64 (Lib.compareBytes a.data.toList b.data.toList)) ∧ w' = w := Any.strings_Compare Tryd.lays106 a b w
open Go.RowKit Go.Lib in
theorem Tryd.strings_Trim_set (s cutset : ByteArray) (w : World) (hs : s.size ≤ 9223372036854775807) (hcs : cutset.size < 4294967281) (hascii : ∀ (j : Nat) b, cutset.data.toList[j]? = some b → b.toNat < 128) :
    Calls Tryd.prog 76 #[.string s, .string cutset] w fun e w' => e = .returned (.string ⟨(Lib.trimS s.data.toList cutset.data.toList).toArray⟩) ∧ Below w.heap.size w w' := Any.strings_Trim_laid Tryd.lays160 (by kernel_rfl) s cutset w hs hcs hascii
def Tryd.lays240_ren : Go.Shelf.Ren := ⟨fun | 240 => 77 | 276 => 94 | n => n, fun | 0 => 0 | 37 => 78 | 4 => 4 | 9 => 9 | 20 => 20 | 70 => 92 | 72 => 94 | 164 => 127 | n => n, fun | n => n⟩
theorem Tryd.lays240 : Go.Proofs.Lays.n240 Tryd.prog Tryd.lays240_ren := {
  mixed := by kernel_rfl
  f240 := Tryd.func77.trans (congrArg some (by kernel_rfl))
  f276 := Tryd.func94.trans (congrArg some (by kernel_rfl))
  t0 := Tryd.underlying0
  a0 := Tryd.isAgg0
  z0 := Tryd.sizeOf0
  v0 := Tryd.zeroValue0
  t4 := Tryd.underlying4
  a4 := Tryd.isAgg4
  z4 := Tryd.sizeOf4
  v4 := Tryd.zeroValue4
  t9 := Tryd.underlying9
  a9 := Tryd.isAgg9
  z9 := Tryd.sizeOf9
  v9 := Tryd.zeroValue9
  t20 := Tryd.underlying20
  a20 := Tryd.isAgg20
  z20 := Tryd.sizeOf20
  v20 := Tryd.zeroValue20
  t70 := Tryd.underlying92
  a70 := Tryd.isAgg92
  z70 := Tryd.sizeOf92
  v70 := Tryd.zeroValue92
  t72 := Tryd.underlying94
  a72 := Tryd.isAgg94
  z72 := Tryd.sizeOf94
  v72 := Tryd.zeroValue94
  t164 := Tryd.underlying127
  a164 := Tryd.isAgg127
  z164 := Tryd.sizeOf127
  v164 := Tryd.zeroValue127 }
theorem Tryd.Builder_X72_240 : Builder.X72 Tryd.prog Tryd.lays240_ren := {
  sizeBuilder := by kernel_rfl
  liesBuilder := by kernel_rfl }
end Go.Proofs
namespace Go.Proofs.YtahdcmicifokgaaDoor.Ev
open Go.Ev
theorem mixed : Tryd.prog.follows .mixedOrders = true := by kernel_rfl
instance ctx : Ctx := ⟨fun t e => t = .int .u8 → e = 5, fun _ => False, fun _ => True, fun _ _ _ h => h⟩
instance tagOK : TagOK Tryd.prog := tagOK_of (u := 5) (fun _ _ => Iff.rfl) (by kernel_rfl)
def kinds : FuncId → Bool × Bool := fun f => (true, f == 39 || f == 44 || f == 65 || f == 81 || f == 83 || f == 84 || f == 97 || f == 104)
theorem clone36 : CallAt Tryd.prog 36 (plainS (cloneG (.pair .str .str) 32)) :=
  clone_at mixed 26 26 35 (.pair .str .str) 32 Tryd.func36 (by kernel_rfl) (by kernel_rfl) (by kernel_rfl) (by kernel_rfl) (by kernel_rfl) (by kernel_rfl) (by kernel_rfl) (by kernel_rfl) (by kernel_rfl) (by kernel_rfl) (by kernel_rfl) (by kernel_rfl) (by kernel_rfl) (by kernel_rfl) (by kernel_rfl) (by kernel_rfl) (by kernel_rfl) (by kernel_rfl) (by kernel_rfl)
theorem clone43 : CallAt Tryd.prog 43 (plainS (cloneG (.pair (.sl (.pair .str .str)) (.int .i64)) 32)) :=
  clone_at mixed 48 48 54 (.pair (.sl (.pair .str .str)) (.int .i64)) 32 Tryd.func43 (by kernel_rfl) (by kernel_rfl) (by kernel_rfl) (by kernel_rfl) (by kernel_rfl) (by kernel_rfl) (by kernel_rfl) (by kernel_rfl) (by kernel_rfl) (by kernel_rfl) (by kernel_rfl) (by kernel_rfl) (by kernel_rfl) (by kernel_rfl) (by kernel_rfl) (by kernel_rfl) (by kernel_rfl) (by kernel_rfl) (by kernel_rfl)
theorem libstringsTrim : CallAt Tryd.prog 76 (plainV trimG) := trim_at Tryd.func76 (by kernel_rfl) (by kernel_rfl) Tryd.strings_Trim_set
theorem libstringsCompare : CallAt Tryd.prog 51 (plainV compareG) := compare_at Tryd.func51 (by kernel_rfl) (by kernel_rfl) Tryd.strings_Compare
theorem libstringsJoin : CallAt Tryd.prog 33 (plainV joinG) := join_at Tryd.func33 (by kernel_rfl) (by kernel_rfl) Tryd.strings_Join_none Tryd.strings_Join
theorem libCopyCheck : CallAt Tryd.prog 77 (copyCheckS 94) := copyCheck_at Tryd.func77 (by kernel_rfl) (by kernel_rfl) (fun b w h1 h2 h3 => Any.Builder_copyCheck_fresh Tryd.lays240 Tryd.Builder_X72_240 b w h1 h2 h3) (fun b w h => Any.Builder_copyCheck_used Tryd.lays240 Tryd.Builder_X72_240 b w h)
def S : FuncId → Option (List AV → Boxes → M (AV × Boxes)) := fun f => if f = 36 then some (plainS (cloneG (.pair .str .str) 32)) else if f = 43 then some (plainS (cloneG (.pair (.sl (.pair .str .str)) (.int .i64)) 32)) else if f = 76 then some (plainV trimG) else if f = 51 then some (plainV compareG) else if f = 33 then some (plainV joinG) else if f = 77 then some (copyCheckS 94) else none
theorem S_ok : ∀ f s, S f = some s → CallAt Tryd.prog f s := by
  intro f s h
  unfold S at h
  split at h
  · rename_i e; subst e; cases h; exact clone36
  split at h
  · rename_i e; subst e; cases h; exact clone43
  split at h
  · rename_i e; subst e; cases h; exact libstringsTrim
  split at h
  · rename_i e; subst e; cases h; exact libstringsCompare
  split at h
  · rename_i e; subst e; cases h; exact libstringsJoin
  split at h
  · rename_i e; subst e; cases h; exact libCopyCheck
  cases h
end Go.Proofs.YtahdcmicifokgaaDoor.Ev
namespace Go.Proofs.YtahdcmicifokgaaDoor.Dec
open Go.Ev
set_option linter.unusedVariables false
set_option linter.unusedSimpArgs false
set_option maxRecDepth 100000
set_option maxHeartbeats 20000000
abbrev tT := true
abbrev fF := false
theorem iY {β : Type} {c : Prop} [Decidable c] {x : Option β} {q : β} (h : (if c then x else none) = some q) : c ∧ x = some q := by
  by_cases hc : c
  · rw [if_pos hc] at h; exact ⟨hc, h⟩
  · rw [if_neg hc] at h; cases h
abbrev Q0 := List ((List ((List UInt8) × (List UInt8))) × Int)
abbrev Q1 := (List ((List Int) × (List Int))) × (List Int)
abbrev Q2 := List ((List UInt8) × (List UInt8))
abbrev Q3 := List (List UInt8)
abbrev Q4 := List UInt8
@[reducible] def tp0 (l : Env) : Env := l
@[reducible] def tp1 (l : Env) : Env := .top :: tp0 l
@[reducible] def tp2 (l : Env) : Env := .top :: tp1 l
@[reducible] def tp3 (l : Env) : Env := .top :: tp2 l
@[reducible] def tp4 (l : Env) : Env := .top :: tp3 l
@[reducible] def tp5 (l : Env) : Env := .top :: tp4 l
@[reducible] def tp6 (l : Env) : Env := .top :: tp5 l
@[reducible] def tp7 (l : Env) : Env := .top :: tp6 l
@[reducible] def tp8 (l : Env) : Env := .top :: tp7 l
@[reducible] def tp9 (l : Env) : Env := .top :: tp8 l
@[reducible] def tp10 (l : Env) : Env := .top :: tp9 l
@[reducible] def tp11 (l : Env) : Env := .top :: tp10 l
@[reducible] def tp12 (l : Env) : Env := .top :: tp11 l
@[reducible] def tp13 (l : Env) : Env := .top :: tp12 l
@[reducible] def tp14 (l : Env) : Env := .top :: tp13 l
@[reducible] def tp15 (l : Env) : Env := .top :: tp14 l
@[reducible] def tp16 (l : Env) : Env := .top :: tp15 l
@[reducible] def tp17 (l : Env) : Env := .top :: tp16 l
@[reducible] def tp18 (l : Env) : Env := .top :: tp17 l
@[reducible] def tp19 (l : Env) : Env := .top :: tp18 l
@[reducible] def tp20 (l : Env) : Env := .top :: tp19 l
@[reducible] def tp21 (l : Env) : Env := .top :: tp20 l
@[reducible] def tp22 (l : Env) : Env := .top :: tp21 l
@[reducible] def tp23 (l : Env) : Env := .top :: tp22 l
@[reducible] def tp24 (l : Env) : Env := .top :: tp23 l
@[reducible] def tp25 (l : Env) : Env := .top :: tp24 l
@[reducible] def tp26 (l : Env) : Env := .top :: tp25 l
@[reducible] def tp27 (l : Env) : Env := .top :: tp26 l
@[reducible] def tp28 (l : Env) : Env := .top :: tp27 l
@[reducible] def tp29 (l : Env) : Env := .top :: tp28 l
@[reducible] def tp30 (l : Env) : Env := .top :: tp29 l
@[reducible] def tp31 (l : Env) : Env := .top :: tp30 l
@[reducible] def tp32 (l : Env) : Env := .top :: tp31 l
@[reducible] def tp33 (l : Env) : Env := .top :: tp32 l
@[reducible] def tp34 (l : Env) : Env := .top :: tp33 l
@[reducible] def tp35 (l : Env) : Env := .top :: tp34 l
@[reducible] def tp36 (l : Env) : Env := .top :: tp35 l
@[reducible] def tp37 (l : Env) : Env := .top :: tp36 l
@[reducible] def tp38 (l : Env) : Env := .top :: tp37 l
@[reducible] def tp39 (l : Env) : Env := .top :: tp38 l
@[reducible] def tp40 (l : Env) : Env := .top :: tp39 l
@[reducible] def tp41 (l : Env) : Env := .top :: tp40 l
@[reducible] def tp42 (l : Env) : Env := .top :: tp41 l
@[reducible] def tp43 (l : Env) : Env := .top :: tp42 l
@[reducible] def tp44 (l : Env) : Env := .top :: tp43 l
@[reducible] def tp45 (l : Env) : Env := .top :: tp44 l
@[reducible] def tp46 (l : Env) : Env := .top :: tp45 l
@[reducible] def tp47 (l : Env) : Env := .top :: tp46 l
@[reducible] def tp48 (l : Env) : Env := .top :: tp47 l
@[reducible] def tp49 (l : Env) : Env := .top :: tp48 l
@[reducible] def tp50 (l : Env) : Env := .top :: tp49 l
@[reducible] def tp51 (l : Env) : Env := .top :: tp50 l
@[reducible] def tp52 (l : Env) : Env := .top :: tp51 l
@[reducible] def tp53 (l : Env) : Env := .top :: tp52 l
@[reducible] def tp54 (l : Env) : Env := .top :: tp53 l
@[reducible] def tp55 (l : Env) : Env := .top :: tp54 l
@[reducible] def tp56 (l : Env) : Env := .top :: tp55 l
@[reducible] def tp57 (l : Env) : Env := .top :: tp56 l
@[reducible] def tp58 (l : Env) : Env := .top :: tp57 l
@[reducible] def tp59 (l : Env) : Env := .top :: tp58 l
@[reducible] def tp60 (l : Env) : Env := .top :: tp59 l
@[reducible] def tp61 (l : Env) : Env := .top :: tp60 l
@[reducible] def tp62 (l : Env) : Env := .top :: tp61 l
@[reducible] def tp63 (l : Env) : Env := .top :: tp62 l
@[reducible] def tp64 (l : Env) : Env := .top :: tp63 l
@[reducible] def tp65 (l : Env) : Env := .top :: tp64 l
@[reducible] def tp66 (l : Env) : Env := .top :: tp65 l
@[reducible] def tp67 (l : Env) : Env := .top :: tp66 l
@[reducible] def tp68 (l : Env) : Env := .top :: tp67 l
@[reducible] def tp69 (l : Env) : Env := .top :: tp68 l
@[reducible] def tp70 (l : Env) : Env := .top :: tp69 l
@[reducible] def tp71 (l : Env) : Env := .top :: tp70 l
@[reducible] def tp72 (l : Env) : Env := .top :: tp71 l
@[reducible] def tp73 (l : Env) : Env := .top :: tp72 l
@[reducible] def tp74 (l : Env) : Env := .top :: tp73 l
@[reducible] def tp75 (l : Env) : Env := .top :: tp74 l
@[reducible] def tp76 (l : Env) : Env := .top :: tp75 l
@[reducible] def tp77 (l : Env) : Env := .top :: tp76 l
@[reducible] def tp78 (l : Env) : Env := .top :: tp77 l
@[reducible] def tp79 (l : Env) : Env := .top :: tp78 l
@[reducible] def tp80 (l : Env) : Env := .top :: tp79 l
@[reducible] def tp81 (l : Env) : Env := .top :: tp80 l
@[reducible] def tp82 (l : Env) : Env := .top :: tp81 l
@[reducible] def tp83 (l : Env) : Env := .top :: tp82 l
@[reducible] def tp84 (l : Env) : Env := .top :: tp83 l
@[reducible] def tp85 (l : Env) : Env := .top :: tp84 l
@[reducible] def tp86 (l : Env) : Env := .top :: tp85 l
@[reducible] def tp87 (l : Env) : Env := .top :: tp86 l
@[reducible] def tp88 (l : Env) : Env := .top :: tp87 l
@[reducible] def tp89 (l : Env) : Env := .top :: tp88 l
@[reducible] def tp90 (l : Env) : Env := .top :: tp89 l
@[reducible] def tp91 (l : Env) : Env := .top :: tp90 l
@[reducible] def tp92 (l : Env) : Env := .top :: tp91 l
@[reducible] def tp93 (l : Env) : Env := .top :: tp92 l
@[reducible] def tp94 (l : Env) : Env := .top :: tp93 l
@[reducible] def tp95 (l : Env) : Env := .top :: tp94 l
@[reducible] def tp96 (l : Env) : Env := .top :: tp95 l
@[reducible] def tp97 (l : Env) : Env := .top :: tp96 l
@[reducible] def tp98 (l : Env) : Env := .top :: tp97 l
@[reducible] def tp99 (l : Env) : Env := .top :: tp98 l
@[reducible] def tp100 (l : Env) : Env := .top :: tp99 l
@[reducible] def tp101 (l : Env) : Env := .top :: tp100 l
@[reducible] def tp102 (l : Env) : Env := .top :: tp101 l
@[reducible] def tp103 (l : Env) : Env := .top :: tp102 l
@[reducible] def tp104 (l : Env) : Env := .top :: tp103 l
@[reducible] def tp105 (l : Env) : Env := .top :: tp104 l
@[reducible] def tp106 (l : Env) : Env := .top :: tp105 l
@[reducible] def tp107 (l : Env) : Env := .top :: tp106 l
@[reducible] def tp108 (l : Env) : Env := .top :: tp107 l
@[reducible] def tp109 (l : Env) : Env := .top :: tp108 l
@[reducible] def tp110 (l : Env) : Env := .top :: tp109 l
@[reducible] def tp111 (l : Env) : Env := .top :: tp110 l
@[reducible] def tp112 (l : Env) : Env := .top :: tp111 l
@[reducible] def tp113 (l : Env) : Env := .top :: tp112 l
@[reducible] def tp114 (l : Env) : Env := .top :: tp113 l
@[reducible] def tp115 (l : Env) : Env := .top :: tp114 l
@[reducible] def tp116 (l : Env) : Env := .top :: tp115 l
@[reducible] def tp117 (l : Env) : Env := .top :: tp116 l
@[reducible] def tp118 (l : Env) : Env := .top :: tp117 l
@[reducible] def tp119 (l : Env) : Env := .top :: tp118 l
@[reducible] def tp120 (l : Env) : Env := .top :: tp119 l
@[reducible] def tp121 (l : Env) : Env := .top :: tp120 l
@[reducible] def tp122 (l : Env) : Env := .top :: tp121 l
@[reducible] def tp123 (l : Env) : Env := .top :: tp122 l
@[reducible] def tp124 (l : Env) : Env := .top :: tp123 l
@[reducible] def tp125 (l : Env) : Env := .top :: tp124 l
@[reducible] def tp126 (l : Env) : Env := .top :: tp125 l
@[reducible] def tp127 (l : Env) : Env := .top :: tp126 l
@[reducible] def tp128 (l : Env) : Env := .top :: tp127 l
@[reducible] def tp129 (l : Env) : Env := .top :: tp128 l
@[reducible] def tp130 (l : Env) : Env := .top :: tp129 l
@[reducible] def tp131 (l : Env) : Env := .top :: tp130 l
@[reducible] def tp132 (l : Env) : Env := .top :: tp131 l
@[reducible] def tp133 (l : Env) : Env := .top :: tp132 l
@[reducible] def tp134 (l : Env) : Env := .top :: tp133 l
@[reducible] def tp135 (l : Env) : Env := .top :: tp134 l
@[reducible] def tp136 (l : Env) : Env := .top :: tp135 l
@[reducible] def tp137 (l : Env) : Env := .top :: tp136 l
@[reducible] def tp138 (l : Env) : Env := .top :: tp137 l
@[reducible] def tp139 (l : Env) : Env := .top :: tp138 l
@[reducible] def tp140 (l : Env) : Env := .top :: tp139 l
@[reducible] def tp141 (l : Env) : Env := .top :: tp140 l
@[reducible] def tp142 (l : Env) : Env := .top :: tp141 l
@[reducible] def tp143 (l : Env) : Env := .top :: tp142 l
@[reducible] def tp144 (l : Env) : Env := .top :: tp143 l
@[reducible] def tp145 (l : Env) : Env := .top :: tp144 l
@[reducible] def tp146 (l : Env) : Env := .top :: tp145 l
@[reducible] def tp147 (l : Env) : Env := .top :: tp146 l
@[reducible] def tp148 (l : Env) : Env := .top :: tp147 l
@[reducible] def tp149 (l : Env) : Env := .top :: tp148 l
@[reducible] def tp150 (l : Env) : Env := .top :: tp149 l
@[reducible] def tp151 (l : Env) : Env := .top :: tp150 l
@[reducible] def tp152 (l : Env) : Env := .top :: tp151 l
@[reducible] def tp153 (l : Env) : Env := .top :: tp152 l
@[reducible] def tp154 (l : Env) : Env := .top :: tp153 l
@[reducible] def tp155 (l : Env) : Env := .top :: tp154 l
@[reducible] def tp156 (l : Env) : Env := .top :: tp155 l
@[reducible] def tp157 (l : Env) : Env := .top :: tp156 l
@[reducible] def tp158 (l : Env) : Env := .top :: tp157 l
@[reducible] def tp159 (l : Env) : Env := .top :: tp158 l
@[reducible] def tp160 (l : Env) : Env := .top :: tp159 l
@[reducible] def tp161 (l : Env) : Env := .top :: tp160 l
@[reducible] def tp162 (l : Env) : Env := .top :: tp161 l
@[reducible] def tp163 (l : Env) : Env := .top :: tp162 l
@[reducible] def tp164 (l : Env) : Env := .top :: tp163 l
@[reducible] def tp165 (l : Env) : Env := .top :: tp164 l
@[reducible] def tp166 (l : Env) : Env := .top :: tp165 l
@[reducible] def tp167 (l : Env) : Env := .top :: tp166 l
@[reducible] def tp168 (l : Env) : Env := .top :: tp167 l
@[reducible] def tp169 (l : Env) : Env := .top :: tp168 l
@[reducible] def tp170 (l : Env) : Env := .top :: tp169 l
@[reducible] def tp171 (l : Env) : Env := .top :: tp170 l
@[reducible] def tp172 (l : Env) : Env := .top :: tp171 l
@[reducible] def tp173 (l : Env) : Env := .top :: tp172 l
@[reducible] def tp174 (l : Env) : Env := .top :: tp173 l
@[reducible] def tp175 (l : Env) : Env := .top :: tp174 l
@[reducible] def tp176 (l : Env) : Env := .top :: tp175 l
@[reducible] def tp177 (l : Env) : Env := .top :: tp176 l
@[reducible] def tp178 (l : Env) : Env := .top :: tp177 l
@[reducible] def tp179 (l : Env) : Env := .top :: tp178 l
@[reducible] def tp180 (l : Env) : Env := .top :: tp179 l
@[reducible] def tp181 (l : Env) : Env := .top :: tp180 l
@[reducible] def tp182 (l : Env) : Env := .top :: tp181 l
@[reducible] def tp183 (l : Env) : Env := .top :: tp182 l
@[reducible] def tp184 (l : Env) : Env := .top :: tp183 l
@[reducible] def tp185 (l : Env) : Env := .top :: tp184 l
@[reducible] def tp186 (l : Env) : Env := .top :: tp185 l
@[reducible] def tp187 (l : Env) : Env := .top :: tp186 l
@[reducible] def tp188 (l : Env) : Env := .top :: tp187 l
@[reducible] def tp189 (l : Env) : Env := .top :: tp188 l
@[reducible] def tp190 (l : Env) : Env := .top :: tp189 l
@[reducible] def tp191 (l : Env) : Env := .top :: tp190 l
@[reducible] def tp192 (l : Env) : Env := .top :: tp191 l
@[reducible] def tp193 (l : Env) : Env := .top :: tp192 l
@[reducible] def tp194 (l : Env) : Env := .top :: tp193 l
@[reducible] def tp195 (l : Env) : Env := .top :: tp194 l
@[reducible] def tp196 (l : Env) : Env := .top :: tp195 l
@[reducible] def tp197 (l : Env) : Env := .top :: tp196 l
@[reducible] def tp198 (l : Env) : Env := .top :: tp197 l
@[reducible] def tp199 (l : Env) : Env := .top :: tp198 l
@[reducible] def tp200 (l : Env) : Env := .top :: tp199 l
@[reducible] def tp201 (l : Env) : Env := .top :: tp200 l
@[reducible] def tp202 (l : Env) : Env := .top :: tp201 l
@[reducible] def tp203 (l : Env) : Env := .top :: tp202 l
@[reducible] def tp204 (l : Env) : Env := .top :: tp203 l
@[reducible] def tp205 (l : Env) : Env := .top :: tp204 l
@[reducible] def tp206 (l : Env) : Env := .top :: tp205 l
@[reducible] def tp207 (l : Env) : Env := .top :: tp206 l
@[reducible] def tp208 (l : Env) : Env := .top :: tp207 l
@[reducible] def tp209 (l : Env) : Env := .top :: tp208 l
@[reducible] def tp210 (l : Env) : Env := .top :: tp209 l
@[reducible] def tp211 (l : Env) : Env := .top :: tp210 l
@[reducible] def tp212 (l : Env) : Env := .top :: tp211 l
@[reducible] def tp213 (l : Env) : Env := .top :: tp212 l
@[reducible] def tp214 (l : Env) : Env := .top :: tp213 l
@[reducible] def tp215 (l : Env) : Env := .top :: tp214 l
@[reducible] def tp216 (l : Env) : Env := .top :: tp215 l
@[reducible] def tp217 (l : Env) : Env := .top :: tp216 l
@[reducible] def tp218 (l : Env) : Env := .top :: tp217 l
@[reducible] def tp219 (l : Env) : Env := .top :: tp218 l
@[reducible] def tp220 (l : Env) : Env := .top :: tp219 l
@[reducible] def tp221 (l : Env) : Env := .top :: tp220 l
@[reducible] def tp222 (l : Env) : Env := .top :: tp221 l
@[reducible] def tp223 (l : Env) : Env := .top :: tp222 l
@[reducible] def tp224 (l : Env) : Env := .top :: tp223 l
@[reducible] def tp225 (l : Env) : Env := .top :: tp224 l
@[reducible] def tp226 (l : Env) : Env := .top :: tp225 l
@[reducible] def tp227 (l : Env) : Env := .top :: tp226 l
@[reducible] def tp228 (l : Env) : Env := .top :: tp227 l
@[reducible] def tp229 (l : Env) : Env := .top :: tp228 l
@[reducible] def tp230 (l : Env) : Env := .top :: tp229 l
@[reducible] def tp231 (l : Env) : Env := .top :: tp230 l
@[reducible] def tp232 (l : Env) : Env := .top :: tp231 l
@[reducible] def tp233 (l : Env) : Env := .top :: tp232 l
@[reducible] def tp234 (l : Env) : Env := .top :: tp233 l
@[reducible] def tp235 (l : Env) : Env := .top :: tp234 l
@[reducible] def tp236 (l : Env) : Env := .top :: tp235 l
@[reducible] def tp237 (l : Env) : Env := .top :: tp236 l
@[reducible] def tp238 (l : Env) : Env := .top :: tp237 l
@[reducible] def tp239 (l : Env) : Env := .top :: tp238 l
@[reducible] def tp240 (l : Env) : Env := .top :: tp239 l
@[reducible] def tp241 (l : Env) : Env := .top :: tp240 l
@[reducible] def tp242 (l : Env) : Env := .top :: tp241 l
@[reducible] def tp243 (l : Env) : Env := .top :: tp242 l
@[reducible] def tp244 (l : Env) : Env := .top :: tp243 l
@[reducible] def tp245 (l : Env) : Env := .top :: tp244 l
@[reducible] def tp246 (l : Env) : Env := .top :: tp245 l
@[reducible] def tp247 (l : Env) : Env := .top :: tp246 l
@[reducible] def tp248 (l : Env) : Env := .top :: tp247 l
@[reducible] def tp249 (l : Env) : Env := .top :: tp248 l
@[reducible] def tp250 (l : Env) : Env := .top :: tp249 l
@[reducible] def tp251 (l : Env) : Env := .top :: tp250 l
@[reducible] def tp252 (l : Env) : Env := .top :: tp251 l
@[reducible] def tp253 (l : Env) : Env := .top :: tp252 l
@[reducible] def tp254 (l : Env) : Env := .top :: tp253 l
@[reducible] def tp255 (l : Env) : Env := .top :: tp254 l
@[reducible] def tp256 (l : Env) : Env := .top :: tp255 l
@[reducible] def tp257 (l : Env) : Env := .top :: tp256 l
@[reducible] def tp258 (l : Env) : Env := .top :: tp257 l
@[reducible] def tp259 (l : Env) : Env := .top :: tp258 l
@[reducible] def tp260 (l : Env) : Env := .top :: tp259 l
theorem mixed : Tryd.prog.follows .mixedOrders = true := by kernel_rfl
open Go.Proofs.YtahdcmicifokgaaDoor.Ev (ctx tagOK)
def kinds : FuncId → Bool × Bool := fun f => (true, f == 39 || f == 44 || f == 65 || f == 83)
def hds : FuncId → Nat → Hd := fun f => noHd
@[reducible] noncomputable def F := fnsH Tryd.prog kinds hds
@[reducible] noncomputable def byref : FuncId → Bool := fun g => match F g with | some h => h.byref | none => false
noncomputable def S0 : FuncId → Option (List AV → Boxes → M (AV × Boxes)) := fun _ => none
theorem S0_ok : ∀ f s, S0 f = some s → CallAt Tryd.prog f s := fun f s h => by cases h
theorem some_getD {α : Type} {o : Option α} {d : α} (h : o.isSome = true) : o = some (o.getD d) := by
  cases o with
  | none => cases h
  | some a => rfl
theorem ite_cases {c : Prop} [Decidable c] {α : Type} {a b : Option α} {q : α} {G : Prop} (h : (if c then a else b) = some q) (h1 : c → a = some q → G) (h2 : ¬ c → b = some q → G) : G := by
  by_cases hc : c
  · rw [if_pos hc] at h; exact h1 hc h
  · rw [if_neg hc] at h; exact h2 hc h
theorem all_t {c : Bool} {l : List Bool} (h : c = true) (h2 : l.all id = true) : ((c == true) :: l).all id = true := by subst h; simpa using h2
theorem all_f {c : Bool} {l : List Bool} (h : ¬ c = true) (h2 : l.all id = true) : ((c == false) :: l).all id = true := by
  cases c with
  | false => simpa using h2
  | true => exact absurd rfl h
theorem turns_eq {h : Hd} {k0 keep : Nat} {f : LoopG} {n : Nat} {e e2 : Env} {B B2 : Boxes} {r : Option (AEx × Env × Boxes)} (h1 : e = e2) (h2 : B = B2) (h3 : (turns h k0 keep f n e2 B2).run = r) : (turns h k0 keep f n e B).run = r := by
  subst h1; subst h2; exact h3
theorem all_nil : ([] : List Bool).all id = true := rfl
theorem all_nt {c : Bool} {l : List Bool} (h : c = true) (h2 : l.all id = true) : (((!c) == false) :: l).all id = true := by subst h; simpa using h2
theorem all_nf {c : Bool} {l : List Bool} (h : ¬ c = true) (h2 : l.all id = true) : (((!c) == true) :: l).all id = true := by
  cases c with
  | false => simpa using h2
  | true => exact absurd rfl h
theorem all_nnt {c : Bool} {l : List Bool} (h : c = true) (h2 : l.all id = true) : (((!(!c)) == true) :: l).all id = true := by subst h; simpa using h2
theorem all_nnf {c : Bool} {l : List Bool} (h : ¬ c = true) (h2 : l.all id = true) : (((!(!c)) == false) :: l).all id = true := by
  cases c with
  | false => simpa using h2
  | true => exact absurd rfl h

noncomputable def S1 : FuncId → Option (List AV → Boxes → M (AV × Boxes)) := fun f => if f = 10 then some withinS else S0 f
theorem S1_ok : ∀ f s, S1 f = some s → CallAt Tryd.prog f s := by
  intro f s h
  unfold S1 at h
  split at h
  · rename_i e; subst e; cases h; exact (within_at mixed (kinds := kinds) (by kernel_rfl))
  · exact S0_ok f s h

noncomputable def S2 : FuncId → Option (List AV → Boxes → M (AV × Boxes)) := fun f => if f = 76 then some (plainV trimG) else S1 f
theorem S2_ok : ∀ f s, S2 f = some s → CallAt Tryd.prog f s := by
  intro f s h
  unfold S2 at h
  split at h
  · rename_i e; subst e; cases h; exact Go.Proofs.YtahdcmicifokgaaDoor.Ev.libstringsTrim
  · exact S1_ok f s h

noncomputable def S3 : FuncId → Option (List AV → Boxes → M (AV × Boxes)) := fun f => if f = 33 then some (plainV joinG) else S2 f
theorem S3_ok : ∀ f s, S3 f = some s → CallAt Tryd.prog f s := by
  intro f s h
  unfold S3 at h
  split at h
  · rename_i e; subst e; cases h; exact Go.Proofs.YtahdcmicifokgaaDoor.Ev.libstringsJoin
  · exact S2_ok f s h

noncomputable def S4 : FuncId → Option (List AV → Boxes → M (AV × Boxes)) := fun f => if f = 77 then some (copyCheckS 94) else S3 f
theorem S4_ok : ∀ f s, S4 f = some s → CallAt Tryd.prog f s := by
  intro f s h
  unfold S4 at h
  split at h
  · rename_i e; subst e; cases h; exact Go.Proofs.YtahdcmicifokgaaDoor.Ev.libCopyCheck
  · exact S3_ok f s h

noncomputable def S5 : FuncId → Option (List AV → Boxes → M (AV × Boxes)) := fun f => if f = 51 then some (plainV compareG) else S4 f
theorem S5_ok : ∀ f s, S5 f = some s → CallAt Tryd.prog f s := by
  intro f s h
  unfold S5 at h
  split at h
  · rename_i e; subst e; cases h; exact Go.Proofs.YtahdcmicifokgaaDoor.Ev.libstringsCompare
  · exact S4_ok f s h

noncomputable def S6 : FuncId → Option (List AV → Boxes → M (AV × Boxes)) := fun f => if f = 36 then some (plainS (cloneG (.pair .str .str) 32)) else S5 f
theorem S6_ok : ∀ f s, S6 f = some s → CallAt Tryd.prog f s := by
  intro f s h
  unfold S6 at h
  split at h
  · rename_i e; subst e; cases h; exact Go.Proofs.YtahdcmicifokgaaDoor.Ev.clone36
  · exact S5_ok f s h

end Go.Proofs.YtahdcmicifokgaaDoor.Dec
namespace Go.Proofs.YtahdcmicifokgaaDoor.Dec
open Go.Ev
set_option linter.unusedVariables false
set_option linter.unusedSimpArgs false
set_option maxRecDepth 100000
set_option maxHeartbeats 20000000
noncomputable def fn24 : AFn := (F 24).getD ⟨0, [], .bad, false, false, noHd⟩
noncomputable def body24 : AC := fn24.body
def l24_0 (m : Nat) : Nat → Q2 → Q4 → Int → Int → Option (Nat × Int)
  | 0, _, _, _, _ => none
  | n + 1, x0, x1, s8, s9 => if decide (s9 < s8) = true then
      if decide (0 ≤ s9) = true then
      if decide (s9 < (((List.length x0) : Nat) : Int)) = true then
      if ((List.getD x0 (Int.toNat s9) (([] : Q4), ([] : Q4))).1 == x1) = true then
        some (0, s9)
      else
        l24_0 m n x0 x1 s8 ((IntKind.wrap .i64 (s9 + (1))))
      else none
      else none
    else
      some (1, s9)
def l24_0D : Nat × Int := (0, 0)
@[reducible] def l24_0R (m n : Nat) (x0 : Q2) (x1 : Q4) (s8 : Int) (s9 : Int) : Nat × Int := Option.getD (l24_0 m n x0 x1 s8 s9) l24_0D
def l24_0H (x0 : Q2) (x1 : Q4) (s8 : Int) (s9 : Int) : Env := (.top :: (.d (.str x1)) :: .top :: .top :: .top :: .top :: .top :: (.d (.sl (.pair .str .str) x0)) :: (.d (.int .i64 s8)) :: (.d (.int .i64 s9)) :: tp10 [])
def l24_0B (x0 : Q2) (x1 : Q4) (s8 : Int) (s9 : Int) : Boxes := []
def l24_0E (x0 : Q2) (x1 : Q4) (s8 : Int) (s9 : Int) : Nat → AEx × Env × Boxes
  | 0 => (.ret, [.top, (.d (.str x1)), .top, .top, (.d (.str (List.getD x0 (Int.toNat s9) (([] : Q4), ([] : Q4))).2)), .top, (.ptr 0 0), (.d (.sl (.pair .str .str) x0)), (.d (.int .i64 s8)), (.d (.int .i64 s9)), (.d (.bool (decide (s9 < s8)))), (.cptr [(.str (List.getD x0 (Int.toNat s9) (([] : Q4), ([] : Q4))).1), (.str (List.getD x0 (Int.toNat s9) (([] : Q4), ([] : Q4))).2)] 0), (.agg [(.d (.str (List.getD x0 (Int.toNat s9) (([] : Q4), ([] : Q4))).1)), (.d (.str (List.getD x0 (Int.toNat s9) (([] : Q4), ([] : Q4))).2))]), (.ptr 0 0), (.d (.str (List.getD x0 (Int.toNat s9) (([] : Q4), ([] : Q4))).1)), (.d (.str x1)), (.d (.bool ((List.getD x0 (Int.toNat s9) (([] : Q4), ([] : Q4))).1 == x1))), (.ptr 0 1), (.d (.str (List.getD x0 (Int.toNat s9) (([] : Q4), ([] : Q4))).2)), .top], [(.cells [(.d (.str (List.getD x0 (Int.toNat s9) (([] : Q4), ([] : Q4))).1)), (.d (.str (List.getD x0 (Int.toNat s9) (([] : Q4), ([] : Q4))).2))])])
  | _ => (.exit 0, (.top :: (.d (.str x1)) :: .top :: .top :: .top :: .top :: .top :: (.d (.sl (.pair .str .str) x0)) :: (.d (.int .i64 s8)) :: (.d (.int .i64 s9)) :: (.d (.bool (decide (s9 < s8)))) :: tp9 []), [])
noncomputable def lbl24_0 : AC := loopBody 898 body24
@[reducible] noncomputable def cb0 (m : Nat) := (evC byref (evCall F S6 (m + 24)) (m + 24) 0 (hds 24) lbl24_0)


theorem l24_0_step (m n : Nat) (ih : ∀ (x0 : Q2) (x1 : Q4) (s8 : Int) (s9 : Int) (q : Nat × Int), l24_0 m n x0 x1 s8 s9 = some q → (turns (hds 24 898) 0 898 (cb0 m) n (l24_0H x0 x1 s8 s9) (l24_0B x0 x1 s8 s9)).run = some (l24_0E (x0) (x1) (s8) (q.2) q.1)) (x0 : Q2) (x1 : Q4) (s8 : Int) (s9 : Int) (q : Nat × Int) (h : l24_0 m (n + 1) x0 x1 s8 s9 = some q) : (turns (hds 24 898) 0 898 (cb0 m) (n + 1) (l24_0H x0 x1 s8 s9) (l24_0B x0 x1 s8 s9)).run = some (l24_0E (x0) (x1) (s8) (q.2) q.1) := by
  rw [l24_0] at h
  refine ite_cases h (fun c0 h => ?_) (fun c0 h => ?_)
  · skip
    obtain ⟨c1, h⟩ := iY h
    obtain ⟨c2, h⟩ := iY h
    refine ite_cases h (fun c3 h => ?_) (fun c3 h => ?_)
    · skip
      cases h
      refine turns_last (by simp) ?_
      exact M.run_of_path _ [tT, tT, tT, tT] _ _ (by kernel_rfl) (all_t c0 (all_t c1 (all_t c2 (all_t c3 all_nil))))
    · skip
      have ih := ih _ _ _ _ q h
      refine turns_step ?_ ih
      exact M.run_of_path _ [tT, tT, tT, fF] _ _ (by kernel_rfl) (all_t c0 (all_t c1 (all_t c2 (all_f c3 all_nil))))
  · skip
    cases h
    refine turns_last (by simp) ?_
    exact M.run_of_path _ [fF] _ _ (by kernel_rfl) (all_f c0 all_nil)
theorem l24_0_ok (m : Nat) : ∀ (n : Nat) (x0 : Q2) (x1 : Q4) (s8 : Int) (s9 : Int) (q : Nat × Int), l24_0 m n x0 x1 s8 s9 = some q → (turns (hds 24 898) 0 898 (cb0 m) n (l24_0H x0 x1 s8 s9) (l24_0B x0 x1 s8 s9)).run = some (l24_0E (x0) (x1) (s8) (q.2) q.1)
  | 0, x0, x1, s8, s9, q, h => by cases h
  | n + 1, x0, x1, s8, s9, q, h => l24_0_step m n (l24_0_ok m n) x0 x1 s8 s9 q h

def p24 (m : Nat) (x0 : Q2) (x1 : Q4) : Option ((Q4)) :=
  if (Option.isSome (l24_0 m (m + 24) x0 x1 ((((List.length x0) : Nat) : Int)) 0)) = true then
  if ((l24_0R m (m + 24) x0 x1 ((((List.length x0) : Nat) : Int)) 0).1 == 0) = true then
    some ((List.getD x0 (Int.toNat (l24_0R m (m + 24) x0 x1 ((((List.length x0) : Nat) : Int)) 0).2) (([] : Q4), ([] : Q4))).2)
  else
    if ((l24_0R m (m + 24) x0 x1 ((((List.length x0) : Nat) : Int)) 0).1 == 1) = true then
    some (([] : Q4))
    else none
  else none
theorem p24_ok (m : Nat) (x0 : Q2) (x1 : Q4) (q : (Q4)) (h : p24 m x0 x1 = some q) : ∃ r B1, (evCall F S6 (m + 25) 24 [(.d (.sl (.pair .str .str) x0)), (.d (.str x1))] []).run = some (r, B1) ∧ 0 ≤ B1.length ∧ wkR B1 [] r (.d (.str q)) ∧ wkBs B1 [] 0 [] := by
  unfold p24 at h
  obtain ⟨c0, h⟩ := iY h
  refine ite_cases h (fun c1 h => ?_) (fun c1 h => ?_)
  · skip
    cases h
    refine ⟨(.d (.str (List.getD x0 (Int.toNat (l24_0R m (m + 24) x0 x1 ((((List.length x0) : Nat) : Int)) 0).2) (([] : Q4), ([] : Q4))).2)), [], runT_ok (LS := (fun k => if k = 898 then some (l24_0E x0 x1 (((((List.length x0) : Nat) : Int))) ((l24_0R m (m + 24) x0 x1 ((((List.length x0) : Nat) : Int)) 0).2) 0) else none)) (fn := fn24) (vis := [(898, l24_0H x0 x1 ((((List.length x0) : Nat) : Int)) 0, l24_0B x0 x1 ((((List.length x0) : Nat) : Int)) 0)]) (by kernel_rfl) rfl (by kernel_rfl) (M.run_of_path _ [] _ _ (by kernel_rfl) all_nil) ?_, by simp, (wkR.one (wkV.one (wk1.eq rfl))), trivial⟩
    intro p hp p2 hq
    rcases List.mem_cons.1 hp with rfl | hp
    · skip
      have h3 := l24_0_ok m (m + 24) x0 x1 ((((List.length x0) : Nat) : Int)) 0 _ (some_getD (d := l24_0D) c0)
      rw [eq_of_beq c1] at h3
      exact Eq.trans (Eq.mp (by kernel_rfl) h3) hq
    cases hp
  · skip
    obtain ⟨c2, h⟩ := iY h
    cases h
    refine ⟨(.d (.str ([] : Q4))), [], runT_ok (LS := (fun k => if k = 898 then some (l24_0E x0 x1 (((((List.length x0) : Nat) : Int))) ((l24_0R m (m + 24) x0 x1 ((((List.length x0) : Nat) : Int)) 0).2) 1) else none)) (fn := fn24) (vis := [(898, l24_0H x0 x1 ((((List.length x0) : Nat) : Int)) 0, l24_0B x0 x1 ((((List.length x0) : Nat) : Int)) 0)]) (by kernel_rfl) rfl (by kernel_rfl) (M.run_of_path _ [] _ _ (by kernel_rfl) all_nil) ?_, by simp, (wkR.one (wkV.one (wk1.eq rfl))), trivial⟩
    intro p hp p2 hq
    rcases List.mem_cons.1 hp with rfl | hp
    · skip
      have h3 := l24_0_ok m (m + 24) x0 x1 ((((List.length x0) : Nat) : Int)) 0 _ (some_getD (d := l24_0D) c0)
      rw [eq_of_beq c2] at h3
      exact Eq.trans (Eq.mp (by kernel_rfl) h3) hq
    cases hp

abbrev LB := Q2
abbrev MT := (Q4) × (Q4) × Int
def getG : LB → Q4 → Q4
  | [], _ => []
  | x :: l, n => if (x.1 == n) = true then x.2 else getG l n
theorem get_loop (m : Nat) (l : LB) (nm : Q4) (hb : l.length ≤ 1000000) : ∀ (n k : Nat), k ≤ l.length → l.length - k < n → (∃ j, l24_0 m n l nm (l.length : Nat) (k : Nat) = some (0, ((j : Nat) : Int)) ∧ getG (l.drop k) nm = (l.getD j (([] : Q4), ([] : Q4))).2) ∨ (∃ j, l24_0 m n l nm (l.length : Nat) (k : Nat) = some (1, j) ∧ getG (l.drop k) nm = [])
  | 0, k, _, h => by omega
  | n + 1, k, h1, h2 => by
    rw [l24_0]
    by_cases hk : k < l.length
    · have e1 : decide (((k : Nat) : Int) < (((List.length l) : Nat) : Int)) = true := decide_eq_true (by omega)
      have e2 : decide ((0 : Int) ≤ ((k : Nat) : Int)) = true := decide_eq_true (by omega)
      have e7 : IntKind.wrap .i64 (((k : Nat) : Int) + (1)) = ((k + 1 : Nat) : Int) := by rw [wrap_id (by omega) (by omega)]; rfl
      rw [drop_getD l k (([] : Q4), ([] : Q4)) hk, show Int.toNat ((k : Nat) : Int) = k from rfl, e7, if_pos e1, if_pos e2, if_pos e1, getG]
      by_cases hc : ((l.getD k (([] : Q4), ([] : Q4))).1 == nm) = true
      · rw [if_pos hc, if_pos hc]
        exact .inl ⟨k, rfl, rfl⟩
      · rw [if_neg hc, if_neg hc]
        exact get_loop m l nm hb n (k + 1) (by omega) (by omega)
    · have e1 : decide (((k : Nat) : Int) < (((List.length l) : Nat) : Int)) = false := decide_eq_false (by omega)
      rw [e1, if_neg (by simp), List.drop_eq_nil_of_le (by omega)]
      exact .inr ⟨_, rfl, rfl⟩
theorem get29 (l : LB) (nm : Q4) (h : decide (List.length l ≤ 1000000) = true) : ∃ m, p24 m l nm = some (getG l nm) := by
  have h := of_decide_eq_true h
  refine ⟨l.length, ?_⟩
  unfold p24 l24_0R
  rcases get_loop l.length l nm h (l.length + 24) 0 (by omega) (by omega) with ⟨j, h1, h2⟩ | ⟨j, h1, h2⟩
  · simp only [Int.natCast_zero, List.drop_zero] at h1 h2
    rw [h1, h2]
    simp
  · simp only [Int.natCast_zero, List.drop_zero] at h1 h2
    rw [h1, h2]
    simp
def s24 : List AV → Boxes → M (AV × Boxes) := normS [.val (.sl (.pair .str .str)), .val .str] [] fun xs B => match xs, B with
  | [(.d (.sl (.pair .str .str) c1)), (.d (.str c2))], [] => .chk (decide (List.length c1 ≤ 1000000)) (.ret ((.d (.str (getG c1 c2))), []))
  | _, _ => .fail
theorem s24_at : CallAt Tryd.prog 24 s24 := by
  refine CallAt.norm (CallAt.weakE (g := fun n => evCall F S6 n 24) (fun n => evCall_atH mixed kinds hds S6 S6_ok n 24) fun xs B r' B' hr => ?_) _ _
  split at hr
  · rename_i c1 c2
    obtain ⟨hp, hr⟩ := (M.run_chk _ _ _).1 hr
    simp only [M.run, Option.some.injEq, Prod.mk.injEq] at hr
    obtain ⟨rfl, rfl⟩ := hr
    obtain ⟨m, hm⟩ := get29 c1 c2 hp
    obtain ⟨r, B1, h1, h2, h3, h4⟩ := p24_ok m c1 c2 _ hm
    exact ⟨m + 25, r, B1, h1, by simp, h2, h3, h4⟩
  · simp [M.run] at hr
noncomputable def S7 : FuncId → Option (List AV → Boxes → M (AV × Boxes)) := fun f => if f = 24 then some s24 else S6 f
theorem S7_ok : ∀ f s, S7 f = some s → CallAt Tryd.prog f s := by
  intro f s h
  unfold S7 at h
  split at h
  · rename_i e; subst e; cases h; exact s24_at
  · exact S6_ok f s h

noncomputable def fn30 : AFn := (F 30).getD ⟨0, [], .bad, false, false, noHd⟩
noncomputable def body30 : AC := fn30.body
def p30 (m : Nat) (x0 : List Int) (x1 : Int) : Option (Int) :=
  if ((((List.length x0) : Nat) : Int) == (0)) = true then
    some ((0))
  else
    if decide ((((List.length x0) : Nat) : Int) = 0) = true then
      none
    else
      if decide (0 ≤ (Int.tmod x1 (((List.length x0) : Nat) : Int))) = true then
      if decide ((Int.tmod x1 (((List.length x0) : Nat) : Int)) < (((List.length x0) : Nat) : Int)) = true then
      some ((List.getD x0 (Int.toNat (Int.tmod x1 (((List.length x0) : Nat) : Int))) 0))
      else none
      else none
theorem p30_ok (m : Nat) (x0 : List Int) (x1 : Int) (q : Int) (h : p30 m x0 x1 = some q) : ∃ r B1, (evCall F S7 (m + 25) 30 [(.d (.sl (.int .i64) x0)), (.d (.int .i64 x1))] []).run = some (r, B1) ∧ 0 ≤ B1.length ∧ wkR B1 [] r (.d (.int .i64 q)) ∧ wkBs B1 [] 0 [] := by
  unfold p30 at h
  refine ite_cases h (fun c0 h => ?_) (fun c0 h => ?_)
  · skip
    cases h
    refine ⟨(.d (.int .i64 (0))), [], runT_ok (LS := (fun k => none)) (fn := fn30) (vis := []) (by kernel_rfl) rfl (by kernel_rfl) (M.run_of_path _ [tT] _ _ (by kernel_rfl) (all_t c0 all_nil)) ?_, by simp, (wkR.one (wkV.one (wk1.eq rfl))), trivial⟩
    intro p hp; cases hp
  · skip
    refine ite_cases h (fun _ h => by cases h) (fun c1 h => ?_)
    obtain ⟨c2, h⟩ := iY h
    obtain ⟨c3, h⟩ := iY h
    cases h
    refine ⟨(.d (.int .i64 (List.getD x0 (Int.toNat (Int.tmod x1 (((List.length x0) : Nat) : Int))) 0))), [], runT_ok (LS := (fun k => none)) (fn := fn30) (vis := []) (by kernel_rfl) rfl (by kernel_rfl) (M.run_of_path _ [fF, tT, tT, tT] _ _ (by kernel_rfl) (all_f c0 (all_nf c1 (all_t c2 (all_t c3 all_nil))))) ?_, by simp, (wkR.one (wkV.one (wk1.eq rfl))), trivial⟩
    intro p hp; cases hp

def pickPre (l : List Int) (i : Int) : Bool := decide (0 ≤ i ∧ i ≤ 1000)
def pickG (l : List Int) (i : Int) : Int := if l = [] then 0 else l.getD (Int.toNat (Int.tmod i (((List.length l) : Nat) : Int))) 0
theorem pick39 (l : List Int) (i : Int) (h : pickPre l i = true) : ∃ m, p30 m l i = some (pickG l i) := by
  have h := of_decide_eq_true h
  refine ⟨0, ?_⟩
  unfold p30 pickG
  by_cases h0 : l = []
  · subst h0; rfl
  · have hl : 0 < l.length := by cases l <;> simp_all
    have e1 : ((((List.length l) : Nat) : Int) == (0)) = false := by rw [beq_eq_false_iff_ne]; omega
    have e2 : decide ((((List.length l) : Nat) : Int) = 0) = false := decide_eq_false (by omega)
    have t1 := Int.tmod_nonneg (((List.length l) : Nat) : Int) h.1
    have t2 := Int.tmod_lt_of_pos i (show (0 : Int) < (((List.length l) : Nat) : Int) by omega)
    have e3 : decide (0 ≤ (Int.tmod i (((List.length l) : Nat) : Int))) = true := decide_eq_true t1
    have e4 : decide ((Int.tmod i (((List.length l) : Nat) : Int)) < (((List.length l) : Nat) : Int)) = true := decide_eq_true t2
    rw [e1, e2, if_neg (by simp), if_neg (by simp), if_pos e3, if_pos e4, if_neg h0]
def s30 : List AV → Boxes → M (AV × Boxes) := normS [.val (.sl (.int .i64)), .val (.int .i64)] [] fun xs B => match xs, B with
  | [(.d (.sl (.int .i64) c1)), (.d (.int .i64 c2))], [] => .chk (pickPre c1 c2) (.ret ((.d (.int .i64 (pickG c1 c2))), []))
  | _, _ => .fail
theorem s30_at : CallAt Tryd.prog 30 s30 := by
  refine CallAt.norm (CallAt.weakE (g := fun n => evCall F S7 n 30) (fun n => evCall_atH mixed kinds hds S7 S7_ok n 30) fun xs B r' B' hr => ?_) _ _
  split at hr
  · rename_i c1 c2
    obtain ⟨hp, hr⟩ := (M.run_chk _ _ _).1 hr
    simp only [M.run, Option.some.injEq, Prod.mk.injEq] at hr
    obtain ⟨rfl, rfl⟩ := hr
    obtain ⟨m, hm⟩ := pick39 c1 c2 hp
    obtain ⟨r, B1, h1, h2, h3, h4⟩ := p30_ok m c1 c2 _ hm
    exact ⟨m + 25, r, B1, h1, by simp, h2, h3, h4⟩
  · simp [M.run] at hr
noncomputable def S8 : FuncId → Option (List AV → Boxes → M (AV × Boxes)) := fun f => if f = 30 then some s30 else S7 f
theorem S8_ok : ∀ f s, S8 f = some s → CallAt Tryd.prog f s := by
  intro f s h
  unfold S8 at h
  split at h
  · rename_i e; subst e; cases h; exact s30_at
  · exact S7_ok f s h

end Go.Proofs.YtahdcmicifokgaaDoor.Dec
namespace Go.Proofs.YtahdcmicifokgaaDoor.Dec
open Go.Ev
set_option linter.unusedVariables false
set_option linter.unusedSimpArgs false
set_option maxRecDepth 100000
set_option maxHeartbeats 20000000
noncomputable def fn8 : AFn := (F 8).getD ⟨0, [], .bad, false, false, noHd⟩
noncomputable def body8 : AC := fn8.body
noncomputable def lbu8_0 : AC := loopBody 3610 body8
@[reducible] noncomputable def cb1 (m : Nat) := (evC byref (evCall F S8 (m + 24)) (m + 24) 0 (hds 8) lbu8_0)
def p8 (m : Nat) (x0 : (List Int) × (List Int)) : Option ((Q2)) :=
  if decide (0 < (((List.length x0.1) : Nat) : Int)) = true then
    if ((IntKind.wrap .i64 ((((BitVec.ofInt 64 (List.getD x0.1 0 0) &&& BitVec.ofInt 64 (1)).toNat : Nat) : Int))) == (1)) = true then
      if pickPre x0.2 (0) = true then
      if decide (0 ≤ (withinI (pickG x0.2 (0)) (0) (7))) = true then
      if decide ((withinI (pickG x0.2 (0)) (0) (7)) < 8) = true then
      if decide (1 < (((List.length x0.1) : Nat) : Int)) = true then
        if ((IntKind.wrap .i64 ((((BitVec.ofInt 64 (List.getD x0.1 1 0) &&& BitVec.ofInt 64 (1)).toNat : Nat) : Int))) == (1)) = true then
          if pickPre x0.2 (1) = true then
          if decide (0 ≤ (withinI (pickG x0.2 (1)) (0) (7))) = true then
          if decide ((withinI (pickG x0.2 (1)) (0) (7)) < 8) = true then
          if decide (2 < (((List.length x0.1) : Nat) : Int)) = true then
            if ((IntKind.wrap .i64 ((((BitVec.ofInt 64 (List.getD x0.1 2 0) &&& BitVec.ofInt 64 (1)).toNat : Nat) : Int))) == (1)) = true then
              if pickPre x0.2 (2) = true then
              if decide (0 ≤ (withinI (pickG x0.2 (2)) (0) (7))) = true then
              if decide ((withinI (pickG x0.2 (2)) (0) (7)) < 8) = true then
              some ([(([97] : Q4), (List.getD [([120] : Q4), ([121] : Q4), ([120, 121] : Q4), ([49] : Q4), ([34] : Q4), ([92] : Q4), ([123, 125] : Q4), ([122, 32, 122] : Q4)] (Int.toNat (withinI (pickG x0.2 (0)) (0) (7))) ([] : Q4))), (([98] : Q4), (List.getD [([120] : Q4), ([121] : Q4), ([120, 121] : Q4), ([49] : Q4), ([34] : Q4), ([92] : Q4), ([123, 125] : Q4), ([122, 32, 122] : Q4)] (Int.toNat (withinI (pickG x0.2 (1)) (0) (7))) ([] : Q4))), (([99] : Q4), (List.getD [([120] : Q4), ([121] : Q4), ([120, 121] : Q4), ([49] : Q4), ([34] : Q4), ([92] : Q4), ([123, 125] : Q4), ([122, 32, 122] : Q4)] (Int.toNat (withinI (pickG x0.2 (2)) (0) (7))) ([] : Q4)))])
              else none
              else none
              else none
            else
              some ([(([97] : Q4), (List.getD [([120] : Q4), ([121] : Q4), ([120, 121] : Q4), ([49] : Q4), ([34] : Q4), ([92] : Q4), ([123, 125] : Q4), ([122, 32, 122] : Q4)] (Int.toNat (withinI (pickG x0.2 (0)) (0) (7))) ([] : Q4))), (([98] : Q4), (List.getD [([120] : Q4), ([121] : Q4), ([120, 121] : Q4), ([49] : Q4), ([34] : Q4), ([92] : Q4), ([123, 125] : Q4), ([122, 32, 122] : Q4)] (Int.toNat (withinI (pickG x0.2 (1)) (0) (7))) ([] : Q4)))])
          else
            some ([(([97] : Q4), (List.getD [([120] : Q4), ([121] : Q4), ([120, 121] : Q4), ([49] : Q4), ([34] : Q4), ([92] : Q4), ([123, 125] : Q4), ([122, 32, 122] : Q4)] (Int.toNat (withinI (pickG x0.2 (0)) (0) (7))) ([] : Q4))), (([98] : Q4), (List.getD [([120] : Q4), ([121] : Q4), ([120, 121] : Q4), ([49] : Q4), ([34] : Q4), ([92] : Q4), ([123, 125] : Q4), ([122, 32, 122] : Q4)] (Int.toNat (withinI (pickG x0.2 (1)) (0) (7))) ([] : Q4)))])
          else none
          else none
          else none
        else
          if decide (2 < (((List.length x0.1) : Nat) : Int)) = true then
            if ((IntKind.wrap .i64 ((((BitVec.ofInt 64 (List.getD x0.1 2 0) &&& BitVec.ofInt 64 (1)).toNat : Nat) : Int))) == (1)) = true then
              if pickPre x0.2 (2) = true then
              if decide (0 ≤ (withinI (pickG x0.2 (2)) (0) (7))) = true then
              if decide ((withinI (pickG x0.2 (2)) (0) (7)) < 8) = true then
              some ([(([97] : Q4), (List.getD [([120] : Q4), ([121] : Q4), ([120, 121] : Q4), ([49] : Q4), ([34] : Q4), ([92] : Q4), ([123, 125] : Q4), ([122, 32, 122] : Q4)] (Int.toNat (withinI (pickG x0.2 (0)) (0) (7))) ([] : Q4))), (([99] : Q4), (List.getD [([120] : Q4), ([121] : Q4), ([120, 121] : Q4), ([49] : Q4), ([34] : Q4), ([92] : Q4), ([123, 125] : Q4), ([122, 32, 122] : Q4)] (Int.toNat (withinI (pickG x0.2 (2)) (0) (7))) ([] : Q4)))])
              else none
              else none
              else none
            else
              some ([(([97] : Q4), (List.getD [([120] : Q4), ([121] : Q4), ([120, 121] : Q4), ([49] : Q4), ([34] : Q4), ([92] : Q4), ([123, 125] : Q4), ([122, 32, 122] : Q4)] (Int.toNat (withinI (pickG x0.2 (0)) (0) (7))) ([] : Q4)))])
          else
            some ([(([97] : Q4), (List.getD [([120] : Q4), ([121] : Q4), ([120, 121] : Q4), ([49] : Q4), ([34] : Q4), ([92] : Q4), ([123, 125] : Q4), ([122, 32, 122] : Q4)] (Int.toNat (withinI (pickG x0.2 (0)) (0) (7))) ([] : Q4)))])
      else
        if decide (2 < (((List.length x0.1) : Nat) : Int)) = true then
          if ((IntKind.wrap .i64 ((((BitVec.ofInt 64 (List.getD x0.1 2 0) &&& BitVec.ofInt 64 (1)).toNat : Nat) : Int))) == (1)) = true then
            if pickPre x0.2 (2) = true then
            if decide (0 ≤ (withinI (pickG x0.2 (2)) (0) (7))) = true then
            if decide ((withinI (pickG x0.2 (2)) (0) (7)) < 8) = true then
            some ([(([97] : Q4), (List.getD [([120] : Q4), ([121] : Q4), ([120, 121] : Q4), ([49] : Q4), ([34] : Q4), ([92] : Q4), ([123, 125] : Q4), ([122, 32, 122] : Q4)] (Int.toNat (withinI (pickG x0.2 (0)) (0) (7))) ([] : Q4))), (([99] : Q4), (List.getD [([120] : Q4), ([121] : Q4), ([120, 121] : Q4), ([49] : Q4), ([34] : Q4), ([92] : Q4), ([123, 125] : Q4), ([122, 32, 122] : Q4)] (Int.toNat (withinI (pickG x0.2 (2)) (0) (7))) ([] : Q4)))])
            else none
            else none
            else none
          else
            some ([(([97] : Q4), (List.getD [([120] : Q4), ([121] : Q4), ([120, 121] : Q4), ([49] : Q4), ([34] : Q4), ([92] : Q4), ([123, 125] : Q4), ([122, 32, 122] : Q4)] (Int.toNat (withinI (pickG x0.2 (0)) (0) (7))) ([] : Q4)))])
        else
          some ([(([97] : Q4), (List.getD [([120] : Q4), ([121] : Q4), ([120, 121] : Q4), ([49] : Q4), ([34] : Q4), ([92] : Q4), ([123, 125] : Q4), ([122, 32, 122] : Q4)] (Int.toNat (withinI (pickG x0.2 (0)) (0) (7))) ([] : Q4)))])
      else none
      else none
      else none
    else
      if decide (1 < (((List.length x0.1) : Nat) : Int)) = true then
        if ((IntKind.wrap .i64 ((((BitVec.ofInt 64 (List.getD x0.1 1 0) &&& BitVec.ofInt 64 (1)).toNat : Nat) : Int))) == (1)) = true then
          if pickPre x0.2 (1) = true then
          if decide (0 ≤ (withinI (pickG x0.2 (1)) (0) (7))) = true then
          if decide ((withinI (pickG x0.2 (1)) (0) (7)) < 8) = true then
          if decide (2 < (((List.length x0.1) : Nat) : Int)) = true then
            if ((IntKind.wrap .i64 ((((BitVec.ofInt 64 (List.getD x0.1 2 0) &&& BitVec.ofInt 64 (1)).toNat : Nat) : Int))) == (1)) = true then
              if pickPre x0.2 (2) = true then
              if decide (0 ≤ (withinI (pickG x0.2 (2)) (0) (7))) = true then
              if decide ((withinI (pickG x0.2 (2)) (0) (7)) < 8) = true then
              some ([(([98] : Q4), (List.getD [([120] : Q4), ([121] : Q4), ([120, 121] : Q4), ([49] : Q4), ([34] : Q4), ([92] : Q4), ([123, 125] : Q4), ([122, 32, 122] : Q4)] (Int.toNat (withinI (pickG x0.2 (1)) (0) (7))) ([] : Q4))), (([99] : Q4), (List.getD [([120] : Q4), ([121] : Q4), ([120, 121] : Q4), ([49] : Q4), ([34] : Q4), ([92] : Q4), ([123, 125] : Q4), ([122, 32, 122] : Q4)] (Int.toNat (withinI (pickG x0.2 (2)) (0) (7))) ([] : Q4)))])
              else none
              else none
              else none
            else
              some ([(([98] : Q4), (List.getD [([120] : Q4), ([121] : Q4), ([120, 121] : Q4), ([49] : Q4), ([34] : Q4), ([92] : Q4), ([123, 125] : Q4), ([122, 32, 122] : Q4)] (Int.toNat (withinI (pickG x0.2 (1)) (0) (7))) ([] : Q4)))])
          else
            some ([(([98] : Q4), (List.getD [([120] : Q4), ([121] : Q4), ([120, 121] : Q4), ([49] : Q4), ([34] : Q4), ([92] : Q4), ([123, 125] : Q4), ([122, 32, 122] : Q4)] (Int.toNat (withinI (pickG x0.2 (1)) (0) (7))) ([] : Q4)))])
          else none
          else none
          else none
        else
          if decide (2 < (((List.length x0.1) : Nat) : Int)) = true then
            if ((IntKind.wrap .i64 ((((BitVec.ofInt 64 (List.getD x0.1 2 0) &&& BitVec.ofInt 64 (1)).toNat : Nat) : Int))) == (1)) = true then
              if pickPre x0.2 (2) = true then
              if decide (0 ≤ (withinI (pickG x0.2 (2)) (0) (7))) = true then
              if decide ((withinI (pickG x0.2 (2)) (0) (7)) < 8) = true then
              some ([(([99] : Q4), (List.getD [([120] : Q4), ([121] : Q4), ([120, 121] : Q4), ([49] : Q4), ([34] : Q4), ([92] : Q4), ([123, 125] : Q4), ([122, 32, 122] : Q4)] (Int.toNat (withinI (pickG x0.2 (2)) (0) (7))) ([] : Q4)))])
              else none
              else none
              else none
            else
              some (([] : Q2))
          else
            some (([] : Q2))
      else
        if decide (2 < (((List.length x0.1) : Nat) : Int)) = true then
          if ((IntKind.wrap .i64 ((((BitVec.ofInt 64 (List.getD x0.1 2 0) &&& BitVec.ofInt 64 (1)).toNat : Nat) : Int))) == (1)) = true then
            if pickPre x0.2 (2) = true then
            if decide (0 ≤ (withinI (pickG x0.2 (2)) (0) (7))) = true then
            if decide ((withinI (pickG x0.2 (2)) (0) (7)) < 8) = true then
            some ([(([99] : Q4), (List.getD [([120] : Q4), ([121] : Q4), ([120, 121] : Q4), ([49] : Q4), ([34] : Q4), ([92] : Q4), ([123, 125] : Q4), ([122, 32, 122] : Q4)] (Int.toNat (withinI (pickG x0.2 (2)) (0) (7))) ([] : Q4)))])
            else none
            else none
            else none
          else
            some (([] : Q2))
        else
          some (([] : Q2))
  else
    if decide (1 < (((List.length x0.1) : Nat) : Int)) = true then
      if ((IntKind.wrap .i64 ((((BitVec.ofInt 64 (List.getD x0.1 1 0) &&& BitVec.ofInt 64 (1)).toNat : Nat) : Int))) == (1)) = true then
        if pickPre x0.2 (1) = true then
        if decide (0 ≤ (withinI (pickG x0.2 (1)) (0) (7))) = true then
        if decide ((withinI (pickG x0.2 (1)) (0) (7)) < 8) = true then
        if decide (2 < (((List.length x0.1) : Nat) : Int)) = true then
          if ((IntKind.wrap .i64 ((((BitVec.ofInt 64 (List.getD x0.1 2 0) &&& BitVec.ofInt 64 (1)).toNat : Nat) : Int))) == (1)) = true then
            if pickPre x0.2 (2) = true then
            if decide (0 ≤ (withinI (pickG x0.2 (2)) (0) (7))) = true then
            if decide ((withinI (pickG x0.2 (2)) (0) (7)) < 8) = true then
            some ([(([98] : Q4), (List.getD [([120] : Q4), ([121] : Q4), ([120, 121] : Q4), ([49] : Q4), ([34] : Q4), ([92] : Q4), ([123, 125] : Q4), ([122, 32, 122] : Q4)] (Int.toNat (withinI (pickG x0.2 (1)) (0) (7))) ([] : Q4))), (([99] : Q4), (List.getD [([120] : Q4), ([121] : Q4), ([120, 121] : Q4), ([49] : Q4), ([34] : Q4), ([92] : Q4), ([123, 125] : Q4), ([122, 32, 122] : Q4)] (Int.toNat (withinI (pickG x0.2 (2)) (0) (7))) ([] : Q4)))])
            else none
            else none
            else none
          else
            some ([(([98] : Q4), (List.getD [([120] : Q4), ([121] : Q4), ([120, 121] : Q4), ([49] : Q4), ([34] : Q4), ([92] : Q4), ([123, 125] : Q4), ([122, 32, 122] : Q4)] (Int.toNat (withinI (pickG x0.2 (1)) (0) (7))) ([] : Q4)))])
        else
          some ([(([98] : Q4), (List.getD [([120] : Q4), ([121] : Q4), ([120, 121] : Q4), ([49] : Q4), ([34] : Q4), ([92] : Q4), ([123, 125] : Q4), ([122, 32, 122] : Q4)] (Int.toNat (withinI (pickG x0.2 (1)) (0) (7))) ([] : Q4)))])
        else none
        else none
        else none
      else
        if decide (2 < (((List.length x0.1) : Nat) : Int)) = true then
          if ((IntKind.wrap .i64 ((((BitVec.ofInt 64 (List.getD x0.1 2 0) &&& BitVec.ofInt 64 (1)).toNat : Nat) : Int))) == (1)) = true then
            if pickPre x0.2 (2) = true then
            if decide (0 ≤ (withinI (pickG x0.2 (2)) (0) (7))) = true then
            if decide ((withinI (pickG x0.2 (2)) (0) (7)) < 8) = true then
            some ([(([99] : Q4), (List.getD [([120] : Q4), ([121] : Q4), ([120, 121] : Q4), ([49] : Q4), ([34] : Q4), ([92] : Q4), ([123, 125] : Q4), ([122, 32, 122] : Q4)] (Int.toNat (withinI (pickG x0.2 (2)) (0) (7))) ([] : Q4)))])
            else none
            else none
            else none
          else
            some (([] : Q2))
        else
          some (([] : Q2))
    else
      if decide (2 < (((List.length x0.1) : Nat) : Int)) = true then
        if ((IntKind.wrap .i64 ((((BitVec.ofInt 64 (List.getD x0.1 2 0) &&& BitVec.ofInt 64 (1)).toNat : Nat) : Int))) == (1)) = true then
          if pickPre x0.2 (2) = true then
          if decide (0 ≤ (withinI (pickG x0.2 (2)) (0) (7))) = true then
          if decide ((withinI (pickG x0.2 (2)) (0) (7)) < 8) = true then
          some ([(([99] : Q4), (List.getD [([120] : Q4), ([121] : Q4), ([120, 121] : Q4), ([49] : Q4), ([34] : Q4), ([92] : Q4), ([123, 125] : Q4), ([122, 32, 122] : Q4)] (Int.toNat (withinI (pickG x0.2 (2)) (0) (7))) ([] : Q4)))])
          else none
          else none
          else none
        else
          some (([] : Q2))
      else
        some (([] : Q2))
@[reducible] def p8_k1 (x0 : (List Int) × (List Int)) := (List.getD [([120] : Q4), ([121] : Q4), ([120, 121] : Q4), ([49] : Q4), ([34] : Q4), ([92] : Q4), ([123, 125] : Q4), ([122, 32, 122] : Q4)] (Int.toNat (withinI (pickG x0.2 (0)) (0) (7))) ([] : Q4))
@[reducible] def p8_k2 (x0 : (List Int) × (List Int)) := (List.getD [([120] : Q4), ([121] : Q4), ([120, 121] : Q4), ([49] : Q4), ([34] : Q4), ([92] : Q4), ([123, 125] : Q4), ([122, 32, 122] : Q4)] (Int.toNat (withinI (pickG x0.2 (1)) (0) (7))) ([] : Q4))
@[reducible] def p8_k3 (x0 : (List Int) × (List Int)) := (List.getD [([120] : Q4), ([121] : Q4), ([120, 121] : Q4), ([49] : Q4), ([34] : Q4), ([92] : Q4), ([123, 125] : Q4), ([122, 32, 122] : Q4)] (Int.toNat (withinI (pickG x0.2 (2)) (0) (7))) ([] : Q4))
@[reducible] def p8_e1  := [([120] : Q4), ([121] : Q4), ([120, 121] : Q4), ([49] : Q4), ([34] : Q4), ([92] : Q4), ([123, 125] : Q4), ([122, 32, 122] : Q4)]
@[reducible] def p8_e2  : Env := (.top :: (.ptr 0 0) :: .top :: (.sr 1 0 3 2 none) :: (.d (.sl .str p8_e1)) :: .top :: .top :: .top :: .top :: (.d (.sl .str [([97] : Q4), ([98] : Q4), ([99] : Q4)])) :: (.d (.int .i64 (3))) :: (.d (.int .i64 (3))) :: (.d (.bool false)) :: tp35 [])
@[reducible] def p8_e3  : Env := (.top :: (.ptr 0 0) :: .top :: (.sr 1 0 2 2 none) :: (.d (.sl .str p8_e1)) :: .top :: .top :: .top :: .top :: (.d (.sl .str [([97] : Q4), ([98] : Q4), ([99] : Q4)])) :: (.d (.int .i64 (3))) :: (.d (.int .i64 (3))) :: (.d (.bool false)) :: tp35 [])
@[reducible] def p8_e4  : Env := (.top :: (.ptr 0 0) :: .top :: (.sr 1 0 1 2 none) :: (.d (.sl .str p8_e1)) :: .top :: .top :: .top :: .top :: (.d (.sl .str [([97] : Q4), ([98] : Q4), ([99] : Q4)])) :: (.d (.int .i64 (3))) :: (.d (.int .i64 (3))) :: (.d (.bool false)) :: tp35 [])
@[reducible] def p8_e5  : Env := (.top :: (.ptr 0 0) :: .top :: (.sr 1 0 0 2 none) :: (.d (.sl .str p8_e1)) :: .top :: .top :: .top :: .top :: (.d (.sl .str [([97] : Q4), ([98] : Q4), ([99] : Q4)])) :: (.d (.int .i64 (3))) :: (.d (.int .i64 (3))) :: (.d (.bool false)) :: tp35 [])
@[reducible] def p8_e6  : Env := (.top :: (.ptr 0 0) :: .top :: (.sr 1 0 0 2 none) :: (.d (.sl .str p8_e1)) :: .top :: .top :: .top :: .top :: (.d (.sl .str [([97] : Q4), ([98] : Q4), ([99] : Q4)])) :: (.d (.int .i64 (3))) :: (.d (.int .i64 (0))) :: tp36 [])
@[reducible] def p8_e7  : Env := (.top :: (.ptr 0 0) :: .top :: (.sr 1 0 3 2 none) :: (.d (.sl .str p8_e1)) :: .top :: .top :: .top :: .top :: (.d (.sl .str [([97] : Q4), ([98] : Q4), ([99] : Q4)])) :: (.d (.int .i64 (3))) :: (.d (.int .i64 (3))) :: tp36 [])
@[reducible] def p8_e8  : Env := (.top :: (.ptr 0 0) :: .top :: (.sr 1 0 2 2 none) :: (.d (.sl .str p8_e1)) :: .top :: .top :: .top :: .top :: (.d (.sl .str [([97] : Q4), ([98] : Q4), ([99] : Q4)])) :: (.d (.int .i64 (3))) :: (.d (.int .i64 (2))) :: tp36 [])
@[reducible] def p8_e9  : Env := (.top :: (.ptr 0 0) :: .top :: (.sr 1 0 1 2 none) :: (.d (.sl .str p8_e1)) :: .top :: .top :: .top :: .top :: (.d (.sl .str [([97] : Q4), ([98] : Q4), ([99] : Q4)])) :: (.d (.int .i64 (3))) :: (.d (.int .i64 (1))) :: tp36 [])
@[reducible] def p8_e10  : Env := (.top :: (.ptr 0 0) :: .top :: (.sr 1 0 2 2 none) :: (.d (.sl .str p8_e1)) :: .top :: .top :: .top :: .top :: (.d (.sl .str [([97] : Q4), ([98] : Q4), ([99] : Q4)])) :: (.d (.int .i64 (3))) :: (.d (.int .i64 (3))) :: tp36 [])
@[reducible] def p8_e11  : Env := (.top :: (.ptr 0 0) :: .top :: (.sr 1 0 1 2 none) :: (.d (.sl .str p8_e1)) :: .top :: .top :: .top :: .top :: (.d (.sl .str [([97] : Q4), ([98] : Q4), ([99] : Q4)])) :: (.d (.int .i64 (3))) :: (.d (.int .i64 (2))) :: tp36 [])
@[reducible] def p8_e12  : Env := (.top :: (.ptr 0 0) :: .top :: (.sr 1 0 1 2 none) :: (.d (.sl .str p8_e1)) :: .top :: .top :: .top :: .top :: (.d (.sl .str [([97] : Q4), ([98] : Q4), ([99] : Q4)])) :: (.d (.int .i64 (3))) :: (.d (.int .i64 (3))) :: tp36 [])
@[reducible] def p8_e13  : Env := (.top :: (.ptr 0 0) :: .top :: (.sr 1 0 0 2 none) :: (.d (.sl .str p8_e1)) :: .top :: .top :: .top :: .top :: (.d (.sl .str [([97] : Q4), ([98] : Q4), ([99] : Q4)])) :: (.d (.int .i64 (3))) :: (.d (.int .i64 (1))) :: tp36 [])
@[reducible] def p8_e14  : Env := (.top :: (.ptr 0 0) :: .top :: (.sr 1 0 0 2 none) :: (.d (.sl .str p8_e1)) :: .top :: .top :: .top :: .top :: (.d (.sl .str [([97] : Q4), ([98] : Q4), ([99] : Q4)])) :: (.d (.int .i64 (3))) :: (.d (.int .i64 (2))) :: tp36 [])
@[reducible] def p8_e15  : Env := (.top :: (.ptr 0 0) :: .top :: (.sr 1 0 0 2 none) :: (.d (.sl .str p8_e1)) :: .top :: .top :: .top :: .top :: (.d (.sl .str [([97] : Q4), ([98] : Q4), ([99] : Q4)])) :: (.d (.int .i64 (3))) :: (.d (.int .i64 (3))) :: tp36 [])
@[reducible] def p8_e16 (x0 : (List Int) × (List Int)) : Boxes := [(.cells [(.d (.sl (.int .i64) x0.1)), (.d (.sl (.int .i64) x0.2))]), (.arr (.pair .str .str) [(([97] : Q4), (p8_k1 x0)), (([98] : Q4), (p8_k2 x0)), (([99] : Q4), (p8_k3 x0))] true)]
@[reducible] def p8_e17 (x0 : (List Int) × (List Int)) : Boxes := [(.cells [(.d (.sl (.int .i64) x0.1)), (.d (.sl (.int .i64) x0.2))]), (.arr (.pair .str .str) [(([97] : Q4), (p8_k1 x0)), (([98] : Q4), (p8_k2 x0))] true)]
@[reducible] def p8_e18 (x0 : (List Int) × (List Int)) : Boxes := [(.cells [(.d (.sl (.int .i64) x0.1)), (.d (.sl (.int .i64) x0.2))]), (.arr (.pair .str .str) [(([97] : Q4), (p8_k1 x0)), (([99] : Q4), (p8_k3 x0))] true)]
@[reducible] def p8_e19 (x0 : (List Int) × (List Int)) : Boxes := [(.cells [(.d (.sl (.int .i64) x0.1)), (.d (.sl (.int .i64) x0.2))]), (.arr (.pair .str .str) [(([98] : Q4), (p8_k2 x0)), (([99] : Q4), (p8_k3 x0))] true)]
@[reducible] def p8_e20 (x0 : (List Int) × (List Int)) : Boxes := [(.cells [(.d (.sl (.int .i64) x0.1)), (.d (.sl (.int .i64) x0.2))]), (.arr (.pair .str .str) ([] : Q2) true)]
@[reducible] def p8_e21 (x0 : (List Int) × (List Int)) : Boxes := [(.cells [(.d (.sl (.int .i64) x0.1)), (.d (.sl (.int .i64) x0.2))]), (.arr (.pair .str .str) [(([97] : Q4), (p8_k1 x0))] true)]
@[reducible] def p8_e22 (x0 : (List Int) × (List Int)) : Boxes := [(.cells [(.d (.sl (.int .i64) x0.1)), (.d (.sl (.int .i64) x0.2))]), (.arr (.pair .str .str) [(([98] : Q4), (p8_k2 x0))] true)]
@[reducible] def p8_e23 (x0 : (List Int) × (List Int)) : Boxes := [(.cells [(.d (.sl (.int .i64) x0.1)), (.d (.sl (.int .i64) x0.2))]), (.arr (.pair .str .str) [(([99] : Q4), (p8_k3 x0))] true)]
theorem p8_ok (m : Nat) (x0 : (List Int) × (List Int)) (q : (Q2)) (h : p8 m x0 = some q) : ∃ r B1, (evCall F S8 (m + 25) 8 [(.agg [(.d (.sl (.int .i64) x0.1)), (.d (.sl (.int .i64) x0.2))])] []).run = some (r, B1) ∧ 0 ≤ B1.length ∧ wkR B1 [] r (.d (.sl (.pair .str .str) q)) ∧ wkBs B1 [] 0 [] := by
  unfold p8 at h
  refine ite_cases h (fun c6 h => ?_) (fun c6 h => ?_)
  · skip
    refine ite_cases h (fun c16 h => ?_) (fun c16 h => ?_)
    · skip
      obtain ⟨c17, h⟩ := iY h
      obtain ⟨c19, h⟩ := iY h
      obtain ⟨c20, h⟩ := iY h
      refine ite_cases h (fun c27 h => ?_) (fun c27 h => ?_)
      · skip
        refine ite_cases h (fun c37 h => ?_) (fun c37 h => ?_)
        · skip
          obtain ⟨c38, h⟩ := iY h
          obtain ⟨c40, h⟩ := iY h
          obtain ⟨c41, h⟩ := iY h
          refine ite_cases h (fun c48 h => ?_) (fun c48 h => ?_)
          · skip
            refine ite_cases h (fun c58 h => ?_) (fun c58 h => ?_)
            · skip
              obtain ⟨c59, h⟩ := iY h
              obtain ⟨c61, h⟩ := iY h
              obtain ⟨c62, h⟩ := iY h
              cases h
              refine ⟨(.d (.sl (.pair .str .str) [(([97] : Q4), (p8_k1 x0)), (([98] : Q4), (p8_k2 x0)), (([99] : Q4), (p8_k3 x0))])), [], runT_ok (LS := (fun k => if k = 3610 then some (.exit 0, p8_e2, (p8_e16 x0)) else none)) (fn := fn8) (vis := [(3610, p8_e6, (p8_e20 x0))]) (by kernel_rfl) rfl (by kernel_rfl) (M.run_of_path _ [tT, tT, tT, tT] _ _ (by kernel_rfl) (all_t rfl (all_t rfl (all_t rfl (all_t rfl all_nil))))) ?_, by simp, (wkR.one (wkV.one (wk1.eq rfl))), trivial⟩
              intro p hp p2 hq
              rcases List.mem_cons.1 hp with rfl | hp
              · skip
                have ht3 : (turn (hds 8 3610) 0 3610 (cb1 m) p8_e7 (p8_e16 x0)).run = some (.exit 0, p8_e2, (p8_e16 x0)) := M.run_of_path _ [fF] _ _ (by kernel_rfl) (all_f Bool.false_ne_true all_nil)
                have hp3 := turns_last (n := m + 20) (by simp) ht3
                have ht2 : (turn (hds 8 3610) 0 3610 (cb1 m) p8_e8 (p8_e17 x0)).run = some (.normal, p8_e7, (p8_e16 x0)) := M.run_of_path _ [tT, tT, tT, tT, tT, tT, tT, tT, tT, tT, tT, tT, tT, tT, tT, tT, tT, tT, tT, tT, tT] _ _ (by kernel_rfl) (all_t rfl (all_t rfl (all_t rfl (all_t c48 (all_t c48 (all_t c48 (all_t c48 (all_t rfl (all_t c48 (all_t c48 (all_t c48 (all_t c48 (all_t c48 (all_t c58 (all_t c59 (all_t rfl (all_t c61 (all_t c62 (all_t rfl (all_t rfl (all_t rfl all_nil)))))))))))))))))))))
                have hs2 : (turns (hds 8 3610) 0 3610 (cb1 m) (m + 21) p8_e7 (p8_e16 x0)).run = some (.exit 0, p8_e2, (p8_e16 x0)) := Eq.mp (by kernel_rfl) hp3
                have hp2 := turns_step ht2 hs2
                have ht1 : (turn (hds 8 3610) 0 3610 (cb1 m) p8_e9 (p8_e21 x0)).run = some (.normal, p8_e8, (p8_e17 x0)) := M.run_of_path _ [tT, tT, tT, tT, tT, tT, tT, tT, tT, tT, tT, tT, tT, tT, tT, tT, tT, tT, tT, tT, tT] _ _ (by kernel_rfl) (all_t rfl (all_t rfl (all_t rfl (all_t c27 (all_t c27 (all_t c27 (all_t c27 (all_t rfl (all_t c27 (all_t c27 (all_t c27 (all_t c27 (all_t c27 (all_t c37 (all_t c38 (all_t rfl (all_t c40 (all_t c41 (all_t rfl (all_t rfl (all_t rfl all_nil)))))))))))))))))))))
                have hs1 : (turns (hds 8 3610) 0 3610 (cb1 m) (m + 22) p8_e8 (p8_e17 x0)).run = some (.exit 0, p8_e2, (p8_e16 x0)) := Eq.mp (by kernel_rfl) hp2
                have hp1 := turns_step ht1 hs1
                have ht0 : (turn (hds 8 3610) 0 3610 (cb1 m) p8_e6 (p8_e20 x0)).run = some (.normal, p8_e9, (p8_e21 x0)) := M.run_of_path _ [tT, tT, tT, tT, tT, tT, tT, tT, tT, tT, tT, tT, tT, tT, tT, tT, tT, tT, tT, tT, tT] _ _ (by kernel_rfl) (all_t rfl (all_t rfl (all_t rfl (all_t c6 (all_t c6 (all_t c6 (all_t c6 (all_t rfl (all_t c6 (all_t c6 (all_t c6 (all_t c6 (all_t c6 (all_t c16 (all_t c17 (all_t rfl (all_t c19 (all_t c20 (all_t rfl (all_t rfl (all_t rfl all_nil)))))))))))))))))))))
                have hs0 : (turns (hds 8 3610) 0 3610 (cb1 m) (m + 23) p8_e9 (p8_e21 x0)).run = some (.exit 0, p8_e2, (p8_e16 x0)) := Eq.mp (by kernel_rfl) hp1
                have hp0 := turns_step ht0 hs0
                exact Eq.trans (Eq.mp (by kernel_rfl) hp0) hq
              cases hp
            · skip
              cases h
              refine ⟨(.d (.sl (.pair .str .str) [(([97] : Q4), (p8_k1 x0)), (([98] : Q4), (p8_k2 x0))])), [], runT_ok (LS := (fun k => if k = 3610 then some (.exit 0, p8_e3, (p8_e17 x0)) else none)) (fn := fn8) (vis := [(3610, p8_e6, (p8_e20 x0))]) (by kernel_rfl) rfl (by kernel_rfl) (M.run_of_path _ [tT, tT, tT, tT] _ _ (by kernel_rfl) (all_t rfl (all_t rfl (all_t rfl (all_t rfl all_nil))))) ?_, by simp, (wkR.one (wkV.one (wk1.eq rfl))), trivial⟩
              intro p hp p2 hq
              rcases List.mem_cons.1 hp with rfl | hp
              · skip
                have ht3 : (turn (hds 8 3610) 0 3610 (cb1 m) p8_e10 (p8_e17 x0)).run = some (.exit 0, p8_e3, (p8_e17 x0)) := M.run_of_path _ [fF] _ _ (by kernel_rfl) (all_f Bool.false_ne_true all_nil)
                have hp3 := turns_last (n := m + 20) (by simp) ht3
                have ht2 : (turn (hds 8 3610) 0 3610 (cb1 m) p8_e8 (p8_e17 x0)).run = some (.normal, p8_e10, (p8_e17 x0)) := M.run_of_path _ [tT, tT, tT, tT, tT, tT, tT, tT, tT, tT, tT, tT, tT, fF] _ _ (by kernel_rfl) (all_t rfl (all_t rfl (all_t rfl (all_t c48 (all_t c48 (all_t c48 (all_t c48 (all_t rfl (all_t c48 (all_t c48 (all_t c48 (all_t c48 (all_t c48 (all_f c58 all_nil))))))))))))))
                have hs2 : (turns (hds 8 3610) 0 3610 (cb1 m) (m + 21) p8_e10 (p8_e17 x0)).run = some (.exit 0, p8_e3, (p8_e17 x0)) := Eq.mp (by kernel_rfl) hp3
                have hp2 := turns_step ht2 hs2
                have ht1 : (turn (hds 8 3610) 0 3610 (cb1 m) p8_e9 (p8_e21 x0)).run = some (.normal, p8_e8, (p8_e17 x0)) := M.run_of_path _ [tT, tT, tT, tT, tT, tT, tT, tT, tT, tT, tT, tT, tT, tT, tT, tT, tT, tT, tT, tT, tT] _ _ (by kernel_rfl) (all_t rfl (all_t rfl (all_t rfl (all_t c27 (all_t c27 (all_t c27 (all_t c27 (all_t rfl (all_t c27 (all_t c27 (all_t c27 (all_t c27 (all_t c27 (all_t c37 (all_t c38 (all_t rfl (all_t c40 (all_t c41 (all_t rfl (all_t rfl (all_t rfl all_nil)))))))))))))))))))))
                have hs1 : (turns (hds 8 3610) 0 3610 (cb1 m) (m + 22) p8_e8 (p8_e17 x0)).run = some (.exit 0, p8_e3, (p8_e17 x0)) := Eq.mp (by kernel_rfl) hp2
                have hp1 := turns_step ht1 hs1
                have ht0 : (turn (hds 8 3610) 0 3610 (cb1 m) p8_e6 (p8_e20 x0)).run = some (.normal, p8_e9, (p8_e21 x0)) := M.run_of_path _ [tT, tT, tT, tT, tT, tT, tT, tT, tT, tT, tT, tT, tT, tT, tT, tT, tT, tT, tT, tT, tT] _ _ (by kernel_rfl) (all_t rfl (all_t rfl (all_t rfl (all_t c6 (all_t c6 (all_t c6 (all_t c6 (all_t rfl (all_t c6 (all_t c6 (all_t c6 (all_t c6 (all_t c6 (all_t c16 (all_t c17 (all_t rfl (all_t c19 (all_t c20 (all_t rfl (all_t rfl (all_t rfl all_nil)))))))))))))))))))))
                have hs0 : (turns (hds 8 3610) 0 3610 (cb1 m) (m + 23) p8_e9 (p8_e21 x0)).run = some (.exit 0, p8_e3, (p8_e17 x0)) := Eq.mp (by kernel_rfl) hp1
                have hp0 := turns_step ht0 hs0
                exact Eq.trans (Eq.mp (by kernel_rfl) hp0) hq
              cases hp
          · skip
            cases h
            refine ⟨(.d (.sl (.pair .str .str) [(([97] : Q4), (p8_k1 x0)), (([98] : Q4), (p8_k2 x0))])), [], runT_ok (LS := (fun k => if k = 3610 then some (.exit 0, p8_e3, (p8_e17 x0)) else none)) (fn := fn8) (vis := [(3610, p8_e6, (p8_e20 x0))]) (by kernel_rfl) rfl (by kernel_rfl) (M.run_of_path _ [tT, tT, tT, tT] _ _ (by kernel_rfl) (all_t rfl (all_t rfl (all_t rfl (all_t rfl all_nil))))) ?_, by simp, (wkR.one (wkV.one (wk1.eq rfl))), trivial⟩
            intro p hp p2 hq
            rcases List.mem_cons.1 hp with rfl | hp
            · skip
              have ht3 : (turn (hds 8 3610) 0 3610 (cb1 m) p8_e10 (p8_e17 x0)).run = some (.exit 0, p8_e3, (p8_e17 x0)) := M.run_of_path _ [fF] _ _ (by kernel_rfl) (all_f Bool.false_ne_true all_nil)
              have hp3 := turns_last (n := m + 20) (by simp) ht3
              have ht2 : (turn (hds 8 3610) 0 3610 (cb1 m) p8_e8 (p8_e17 x0)).run = some (.normal, p8_e10, (p8_e17 x0)) := M.run_of_path _ [tT, tT, tT, fF, fF, fF, fF, fF, fF, fF, fF, fF] _ _ (by kernel_rfl) (all_t rfl (all_t rfl (all_t rfl (all_f c48 (all_f c48 (all_f c48 (all_f c48 (all_f c48 (all_f c48 (all_f c48 (all_f c48 (all_f Bool.false_ne_true all_nil))))))))))))
              have hs2 : (turns (hds 8 3610) 0 3610 (cb1 m) (m + 21) p8_e10 (p8_e17 x0)).run = some (.exit 0, p8_e3, (p8_e17 x0)) := Eq.mp (by kernel_rfl) hp3
              have hp2 := turns_step ht2 hs2
              have ht1 : (turn (hds 8 3610) 0 3610 (cb1 m) p8_e9 (p8_e21 x0)).run = some (.normal, p8_e8, (p8_e17 x0)) := M.run_of_path _ [tT, tT, tT, tT, tT, tT, tT, tT, tT, tT, tT, tT, tT, tT, tT, tT, tT, tT, tT, tT, tT] _ _ (by kernel_rfl) (all_t rfl (all_t rfl (all_t rfl (all_t c27 (all_t c27 (all_t c27 (all_t c27 (all_t rfl (all_t c27 (all_t c27 (all_t c27 (all_t c27 (all_t c27 (all_t c37 (all_t c38 (all_t rfl (all_t c40 (all_t c41 (all_t rfl (all_t rfl (all_t rfl all_nil)))))))))))))))))))))
              have hs1 : (turns (hds 8 3610) 0 3610 (cb1 m) (m + 22) p8_e8 (p8_e17 x0)).run = some (.exit 0, p8_e3, (p8_e17 x0)) := Eq.mp (by kernel_rfl) hp2
              have hp1 := turns_step ht1 hs1
              have ht0 : (turn (hds 8 3610) 0 3610 (cb1 m) p8_e6 (p8_e20 x0)).run = some (.normal, p8_e9, (p8_e21 x0)) := M.run_of_path _ [tT, tT, tT, tT, tT, tT, tT, tT, tT, tT, tT, tT, tT, tT, tT, tT, tT, tT, tT, tT, tT] _ _ (by kernel_rfl) (all_t rfl (all_t rfl (all_t rfl (all_t c6 (all_t c6 (all_t c6 (all_t c6 (all_t rfl (all_t c6 (all_t c6 (all_t c6 (all_t c6 (all_t c6 (all_t c16 (all_t c17 (all_t rfl (all_t c19 (all_t c20 (all_t rfl (all_t rfl (all_t rfl all_nil)))))))))))))))))))))
              have hs0 : (turns (hds 8 3610) 0 3610 (cb1 m) (m + 23) p8_e9 (p8_e21 x0)).run = some (.exit 0, p8_e3, (p8_e17 x0)) := Eq.mp (by kernel_rfl) hp1
              have hp0 := turns_step ht0 hs0
              exact Eq.trans (Eq.mp (by kernel_rfl) hp0) hq
            cases hp
        · skip
          refine ite_cases h (fun c41 h => ?_) (fun c41 h => ?_)
          · skip
            refine ite_cases h (fun c51 h => ?_) (fun c51 h => ?_)
            · skip
              obtain ⟨c52, h⟩ := iY h
              obtain ⟨c54, h⟩ := iY h
              obtain ⟨c55, h⟩ := iY h
              cases h
              refine ⟨(.d (.sl (.pair .str .str) [(([97] : Q4), (p8_k1 x0)), (([99] : Q4), (p8_k3 x0))])), [], runT_ok (LS := (fun k => if k = 3610 then some (.exit 0, p8_e3, (p8_e18 x0)) else none)) (fn := fn8) (vis := [(3610, p8_e6, (p8_e20 x0))]) (by kernel_rfl) rfl (by kernel_rfl) (M.run_of_path _ [tT, tT, tT, tT] _ _ (by kernel_rfl) (all_t rfl (all_t rfl (all_t rfl (all_t rfl all_nil))))) ?_, by simp, (wkR.one (wkV.one (wk1.eq rfl))), trivial⟩
              intro p hp p2 hq
              rcases List.mem_cons.1 hp with rfl | hp
              · skip
                have ht3 : (turn (hds 8 3610) 0 3610 (cb1 m) p8_e10 (p8_e18 x0)).run = some (.exit 0, p8_e3, (p8_e18 x0)) := M.run_of_path _ [fF] _ _ (by kernel_rfl) (all_f Bool.false_ne_true all_nil)
                have hp3 := turns_last (n := m + 20) (by simp) ht3
                have ht2 : (turn (hds 8 3610) 0 3610 (cb1 m) p8_e11 (p8_e21 x0)).run = some (.normal, p8_e10, (p8_e18 x0)) := M.run_of_path _ [tT, tT, tT, tT, tT, tT, tT, tT, tT, tT, tT, tT, tT, tT, tT, tT, tT, tT, tT, tT, tT] _ _ (by kernel_rfl) (all_t rfl (all_t rfl (all_t rfl (all_t c41 (all_t c41 (all_t c41 (all_t c41 (all_t rfl (all_t c41 (all_t c41 (all_t c41 (all_t c41 (all_t c41 (all_t c51 (all_t c52 (all_t rfl (all_t c54 (all_t c55 (all_t rfl (all_t rfl (all_t rfl all_nil)))))))))))))))))))))
                have hs2 : (turns (hds 8 3610) 0 3610 (cb1 m) (m + 21) p8_e10 (p8_e18 x0)).run = some (.exit 0, p8_e3, (p8_e18 x0)) := Eq.mp (by kernel_rfl) hp3
                have hp2 := turns_step ht2 hs2
                have ht1 : (turn (hds 8 3610) 0 3610 (cb1 m) p8_e9 (p8_e21 x0)).run = some (.normal, p8_e11, (p8_e21 x0)) := M.run_of_path _ [tT, tT, tT, tT, tT, tT, tT, tT, tT, tT, tT, tT, tT, fF] _ _ (by kernel_rfl) (all_t rfl (all_t rfl (all_t rfl (all_t c27 (all_t c27 (all_t c27 (all_t c27 (all_t rfl (all_t c27 (all_t c27 (all_t c27 (all_t c27 (all_t c27 (all_f c37 all_nil))))))))))))))
                have hs1 : (turns (hds 8 3610) 0 3610 (cb1 m) (m + 22) p8_e11 (p8_e21 x0)).run = some (.exit 0, p8_e3, (p8_e18 x0)) := Eq.mp (by kernel_rfl) hp2
                have hp1 := turns_step ht1 hs1
                have ht0 : (turn (hds 8 3610) 0 3610 (cb1 m) p8_e6 (p8_e20 x0)).run = some (.normal, p8_e9, (p8_e21 x0)) := M.run_of_path _ [tT, tT, tT, tT, tT, tT, tT, tT, tT, tT, tT, tT, tT, tT, tT, tT, tT, tT, tT, tT, tT] _ _ (by kernel_rfl) (all_t rfl (all_t rfl (all_t rfl (all_t c6 (all_t c6 (all_t c6 (all_t c6 (all_t rfl (all_t c6 (all_t c6 (all_t c6 (all_t c6 (all_t c6 (all_t c16 (all_t c17 (all_t rfl (all_t c19 (all_t c20 (all_t rfl (all_t rfl (all_t rfl all_nil)))))))))))))))))))))
                have hs0 : (turns (hds 8 3610) 0 3610 (cb1 m) (m + 23) p8_e9 (p8_e21 x0)).run = some (.exit 0, p8_e3, (p8_e18 x0)) := Eq.mp (by kernel_rfl) hp1
                have hp0 := turns_step ht0 hs0
                exact Eq.trans (Eq.mp (by kernel_rfl) hp0) hq
              cases hp
            · skip
              cases h
              refine ⟨(.d (.sl (.pair .str .str) [(([97] : Q4), (p8_k1 x0))])), [], runT_ok (LS := (fun k => if k = 3610 then some (.exit 0, p8_e4, (p8_e21 x0)) else none)) (fn := fn8) (vis := [(3610, p8_e6, (p8_e20 x0))]) (by kernel_rfl) rfl (by kernel_rfl) (M.run_of_path _ [tT, tT, tT, tT] _ _ (by kernel_rfl) (all_t rfl (all_t rfl (all_t rfl (all_t rfl all_nil))))) ?_, by simp, (wkR.one (wkV.one (wk1.eq rfl))), trivial⟩
              intro p hp p2 hq
              rcases List.mem_cons.1 hp with rfl | hp
              · skip
                have ht3 : (turn (hds 8 3610) 0 3610 (cb1 m) p8_e12 (p8_e21 x0)).run = some (.exit 0, p8_e4, (p8_e21 x0)) := M.run_of_path _ [fF] _ _ (by kernel_rfl) (all_f Bool.false_ne_true all_nil)
                have hp3 := turns_last (n := m + 20) (by simp) ht3
                have ht2 : (turn (hds 8 3610) 0 3610 (cb1 m) p8_e11 (p8_e21 x0)).run = some (.normal, p8_e12, (p8_e21 x0)) := M.run_of_path _ [tT, tT, tT, tT, tT, tT, tT, tT, tT, tT, tT, tT, tT, fF] _ _ (by kernel_rfl) (all_t rfl (all_t rfl (all_t rfl (all_t c41 (all_t c41 (all_t c41 (all_t c41 (all_t rfl (all_t c41 (all_t c41 (all_t c41 (all_t c41 (all_t c41 (all_f c51 all_nil))))))))))))))
                have hs2 : (turns (hds 8 3610) 0 3610 (cb1 m) (m + 21) p8_e12 (p8_e21 x0)).run = some (.exit 0, p8_e4, (p8_e21 x0)) := Eq.mp (by kernel_rfl) hp3
                have hp2 := turns_step ht2 hs2
                have ht1 : (turn (hds 8 3610) 0 3610 (cb1 m) p8_e9 (p8_e21 x0)).run = some (.normal, p8_e11, (p8_e21 x0)) := M.run_of_path _ [tT, tT, tT, tT, tT, tT, tT, tT, tT, tT, tT, tT, tT, fF] _ _ (by kernel_rfl) (all_t rfl (all_t rfl (all_t rfl (all_t c27 (all_t c27 (all_t c27 (all_t c27 (all_t rfl (all_t c27 (all_t c27 (all_t c27 (all_t c27 (all_t c27 (all_f c37 all_nil))))))))))))))
                have hs1 : (turns (hds 8 3610) 0 3610 (cb1 m) (m + 22) p8_e11 (p8_e21 x0)).run = some (.exit 0, p8_e4, (p8_e21 x0)) := Eq.mp (by kernel_rfl) hp2
                have hp1 := turns_step ht1 hs1
                have ht0 : (turn (hds 8 3610) 0 3610 (cb1 m) p8_e6 (p8_e20 x0)).run = some (.normal, p8_e9, (p8_e21 x0)) := M.run_of_path _ [tT, tT, tT, tT, tT, tT, tT, tT, tT, tT, tT, tT, tT, tT, tT, tT, tT, tT, tT, tT, tT] _ _ (by kernel_rfl) (all_t rfl (all_t rfl (all_t rfl (all_t c6 (all_t c6 (all_t c6 (all_t c6 (all_t rfl (all_t c6 (all_t c6 (all_t c6 (all_t c6 (all_t c6 (all_t c16 (all_t c17 (all_t rfl (all_t c19 (all_t c20 (all_t rfl (all_t rfl (all_t rfl all_nil)))))))))))))))))))))
                have hs0 : (turns (hds 8 3610) 0 3610 (cb1 m) (m + 23) p8_e9 (p8_e21 x0)).run = some (.exit 0, p8_e4, (p8_e21 x0)) := Eq.mp (by kernel_rfl) hp1
                have hp0 := turns_step ht0 hs0
                exact Eq.trans (Eq.mp (by kernel_rfl) hp0) hq
              cases hp
          · skip
            cases h
            refine ⟨(.d (.sl (.pair .str .str) [(([97] : Q4), (p8_k1 x0))])), [], runT_ok (LS := (fun k => if k = 3610 then some (.exit 0, p8_e4, (p8_e21 x0)) else none)) (fn := fn8) (vis := [(3610, p8_e6, (p8_e20 x0))]) (by kernel_rfl) rfl (by kernel_rfl) (M.run_of_path _ [tT, tT, tT, tT] _ _ (by kernel_rfl) (all_t rfl (all_t rfl (all_t rfl (all_t rfl all_nil))))) ?_, by simp, (wkR.one (wkV.one (wk1.eq rfl))), trivial⟩
            intro p hp p2 hq
            rcases List.mem_cons.1 hp with rfl | hp
            · skip
              have ht3 : (turn (hds 8 3610) 0 3610 (cb1 m) p8_e12 (p8_e21 x0)).run = some (.exit 0, p8_e4, (p8_e21 x0)) := M.run_of_path _ [fF] _ _ (by kernel_rfl) (all_f Bool.false_ne_true all_nil)
              have hp3 := turns_last (n := m + 20) (by simp) ht3
              have ht2 : (turn (hds 8 3610) 0 3610 (cb1 m) p8_e11 (p8_e21 x0)).run = some (.normal, p8_e12, (p8_e21 x0)) := M.run_of_path _ [tT, tT, tT, fF, fF, fF, fF, fF, fF, fF, fF, fF] _ _ (by kernel_rfl) (all_t rfl (all_t rfl (all_t rfl (all_f c41 (all_f c41 (all_f c41 (all_f c41 (all_f c41 (all_f c41 (all_f c41 (all_f c41 (all_f Bool.false_ne_true all_nil))))))))))))
              have hs2 : (turns (hds 8 3610) 0 3610 (cb1 m) (m + 21) p8_e12 (p8_e21 x0)).run = some (.exit 0, p8_e4, (p8_e21 x0)) := Eq.mp (by kernel_rfl) hp3
              have hp2 := turns_step ht2 hs2
              have ht1 : (turn (hds 8 3610) 0 3610 (cb1 m) p8_e9 (p8_e21 x0)).run = some (.normal, p8_e11, (p8_e21 x0)) := M.run_of_path _ [tT, tT, tT, tT, tT, tT, tT, tT, tT, tT, tT, tT, tT, fF] _ _ (by kernel_rfl) (all_t rfl (all_t rfl (all_t rfl (all_t c27 (all_t c27 (all_t c27 (all_t c27 (all_t rfl (all_t c27 (all_t c27 (all_t c27 (all_t c27 (all_t c27 (all_f c37 all_nil))))))))))))))
              have hs1 : (turns (hds 8 3610) 0 3610 (cb1 m) (m + 22) p8_e11 (p8_e21 x0)).run = some (.exit 0, p8_e4, (p8_e21 x0)) := Eq.mp (by kernel_rfl) hp2
              have hp1 := turns_step ht1 hs1
              have ht0 : (turn (hds 8 3610) 0 3610 (cb1 m) p8_e6 (p8_e20 x0)).run = some (.normal, p8_e9, (p8_e21 x0)) := M.run_of_path _ [tT, tT, tT, tT, tT, tT, tT, tT, tT, tT, tT, tT, tT, tT, tT, tT, tT, tT, tT, tT, tT] _ _ (by kernel_rfl) (all_t rfl (all_t rfl (all_t rfl (all_t c6 (all_t c6 (all_t c6 (all_t c6 (all_t rfl (all_t c6 (all_t c6 (all_t c6 (all_t c6 (all_t c6 (all_t c16 (all_t c17 (all_t rfl (all_t c19 (all_t c20 (all_t rfl (all_t rfl (all_t rfl all_nil)))))))))))))))))))))
              have hs0 : (turns (hds 8 3610) 0 3610 (cb1 m) (m + 23) p8_e9 (p8_e21 x0)).run = some (.exit 0, p8_e4, (p8_e21 x0)) := Eq.mp (by kernel_rfl) hp1
              have hp0 := turns_step ht0 hs0
              exact Eq.trans (Eq.mp (by kernel_rfl) hp0) hq
            cases hp
      · skip
        refine ite_cases h (fun c39 h => ?_) (fun c39 h => ?_)
        · skip
          refine ite_cases h (fun c49 h => ?_) (fun c49 h => ?_)
          · skip
            obtain ⟨c50, h⟩ := iY h
            obtain ⟨c52, h⟩ := iY h
            obtain ⟨c53, h⟩ := iY h
            cases h
            refine ⟨(.d (.sl (.pair .str .str) [(([97] : Q4), (p8_k1 x0)), (([99] : Q4), (p8_k3 x0))])), [], runT_ok (LS := (fun k => if k = 3610 then some (.exit 0, p8_e3, (p8_e18 x0)) else none)) (fn := fn8) (vis := [(3610, p8_e6, (p8_e20 x0))]) (by kernel_rfl) rfl (by kernel_rfl) (M.run_of_path _ [tT, tT, tT, tT] _ _ (by kernel_rfl) (all_t rfl (all_t rfl (all_t rfl (all_t rfl all_nil))))) ?_, by simp, (wkR.one (wkV.one (wk1.eq rfl))), trivial⟩
            intro p hp p2 hq
            rcases List.mem_cons.1 hp with rfl | hp
            · skip
              have ht3 : (turn (hds 8 3610) 0 3610 (cb1 m) p8_e10 (p8_e18 x0)).run = some (.exit 0, p8_e3, (p8_e18 x0)) := M.run_of_path _ [fF] _ _ (by kernel_rfl) (all_f Bool.false_ne_true all_nil)
              have hp3 := turns_last (n := m + 20) (by simp) ht3
              have ht2 : (turn (hds 8 3610) 0 3610 (cb1 m) p8_e11 (p8_e21 x0)).run = some (.normal, p8_e10, (p8_e18 x0)) := M.run_of_path _ [tT, tT, tT, tT, tT, tT, tT, tT, tT, tT, tT, tT, tT, tT, tT, tT, tT, tT, tT, tT, tT] _ _ (by kernel_rfl) (all_t rfl (all_t rfl (all_t rfl (all_t c39 (all_t c39 (all_t c39 (all_t c39 (all_t rfl (all_t c39 (all_t c39 (all_t c39 (all_t c39 (all_t c39 (all_t c49 (all_t c50 (all_t rfl (all_t c52 (all_t c53 (all_t rfl (all_t rfl (all_t rfl all_nil)))))))))))))))))))))
              have hs2 : (turns (hds 8 3610) 0 3610 (cb1 m) (m + 21) p8_e10 (p8_e18 x0)).run = some (.exit 0, p8_e3, (p8_e18 x0)) := Eq.mp (by kernel_rfl) hp3
              have hp2 := turns_step ht2 hs2
              have ht1 : (turn (hds 8 3610) 0 3610 (cb1 m) p8_e9 (p8_e21 x0)).run = some (.normal, p8_e11, (p8_e21 x0)) := M.run_of_path _ [tT, tT, tT, fF, fF, fF, fF, fF, fF, fF, fF, fF] _ _ (by kernel_rfl) (all_t rfl (all_t rfl (all_t rfl (all_f c27 (all_f c27 (all_f c27 (all_f c27 (all_f c27 (all_f c27 (all_f c27 (all_f c27 (all_f Bool.false_ne_true all_nil))))))))))))
              have hs1 : (turns (hds 8 3610) 0 3610 (cb1 m) (m + 22) p8_e11 (p8_e21 x0)).run = some (.exit 0, p8_e3, (p8_e18 x0)) := Eq.mp (by kernel_rfl) hp2
              have hp1 := turns_step ht1 hs1
              have ht0 : (turn (hds 8 3610) 0 3610 (cb1 m) p8_e6 (p8_e20 x0)).run = some (.normal, p8_e9, (p8_e21 x0)) := M.run_of_path _ [tT, tT, tT, tT, tT, tT, tT, tT, tT, tT, tT, tT, tT, tT, tT, tT, tT, tT, tT, tT, tT] _ _ (by kernel_rfl) (all_t rfl (all_t rfl (all_t rfl (all_t c6 (all_t c6 (all_t c6 (all_t c6 (all_t rfl (all_t c6 (all_t c6 (all_t c6 (all_t c6 (all_t c6 (all_t c16 (all_t c17 (all_t rfl (all_t c19 (all_t c20 (all_t rfl (all_t rfl (all_t rfl all_nil)))))))))))))))))))))
              have hs0 : (turns (hds 8 3610) 0 3610 (cb1 m) (m + 23) p8_e9 (p8_e21 x0)).run = some (.exit 0, p8_e3, (p8_e18 x0)) := Eq.mp (by kernel_rfl) hp1
              have hp0 := turns_step ht0 hs0
              exact Eq.trans (Eq.mp (by kernel_rfl) hp0) hq
            cases hp
          · skip
            cases h
            refine ⟨(.d (.sl (.pair .str .str) [(([97] : Q4), (p8_k1 x0))])), [], runT_ok (LS := (fun k => if k = 3610 then some (.exit 0, p8_e4, (p8_e21 x0)) else none)) (fn := fn8) (vis := [(3610, p8_e6, (p8_e20 x0))]) (by kernel_rfl) rfl (by kernel_rfl) (M.run_of_path _ [tT, tT, tT, tT] _ _ (by kernel_rfl) (all_t rfl (all_t rfl (all_t rfl (all_t rfl all_nil))))) ?_, by simp, (wkR.one (wkV.one (wk1.eq rfl))), trivial⟩
            intro p hp p2 hq
            rcases List.mem_cons.1 hp with rfl | hp
            · skip
              have ht3 : (turn (hds 8 3610) 0 3610 (cb1 m) p8_e12 (p8_e21 x0)).run = some (.exit 0, p8_e4, (p8_e21 x0)) := M.run_of_path _ [fF] _ _ (by kernel_rfl) (all_f Bool.false_ne_true all_nil)
              have hp3 := turns_last (n := m + 20) (by simp) ht3
              have ht2 : (turn (hds 8 3610) 0 3610 (cb1 m) p8_e11 (p8_e21 x0)).run = some (.normal, p8_e12, (p8_e21 x0)) := M.run_of_path _ [tT, tT, tT, tT, tT, tT, tT, tT, tT, tT, tT, tT, tT, fF] _ _ (by kernel_rfl) (all_t rfl (all_t rfl (all_t rfl (all_t c39 (all_t c39 (all_t c39 (all_t c39 (all_t rfl (all_t c39 (all_t c39 (all_t c39 (all_t c39 (all_t c39 (all_f c49 all_nil))))))))))))))
              have hs2 : (turns (hds 8 3610) 0 3610 (cb1 m) (m + 21) p8_e12 (p8_e21 x0)).run = some (.exit 0, p8_e4, (p8_e21 x0)) := Eq.mp (by kernel_rfl) hp3
              have hp2 := turns_step ht2 hs2
              have ht1 : (turn (hds 8 3610) 0 3610 (cb1 m) p8_e9 (p8_e21 x0)).run = some (.normal, p8_e11, (p8_e21 x0)) := M.run_of_path _ [tT, tT, tT, fF, fF, fF, fF, fF, fF, fF, fF, fF] _ _ (by kernel_rfl) (all_t rfl (all_t rfl (all_t rfl (all_f c27 (all_f c27 (all_f c27 (all_f c27 (all_f c27 (all_f c27 (all_f c27 (all_f c27 (all_f Bool.false_ne_true all_nil))))))))))))
              have hs1 : (turns (hds 8 3610) 0 3610 (cb1 m) (m + 22) p8_e11 (p8_e21 x0)).run = some (.exit 0, p8_e4, (p8_e21 x0)) := Eq.mp (by kernel_rfl) hp2
              have hp1 := turns_step ht1 hs1
              have ht0 : (turn (hds 8 3610) 0 3610 (cb1 m) p8_e6 (p8_e20 x0)).run = some (.normal, p8_e9, (p8_e21 x0)) := M.run_of_path _ [tT, tT, tT, tT, tT, tT, tT, tT, tT, tT, tT, tT, tT, tT, tT, tT, tT, tT, tT, tT, tT] _ _ (by kernel_rfl) (all_t rfl (all_t rfl (all_t rfl (all_t c6 (all_t c6 (all_t c6 (all_t c6 (all_t rfl (all_t c6 (all_t c6 (all_t c6 (all_t c6 (all_t c6 (all_t c16 (all_t c17 (all_t rfl (all_t c19 (all_t c20 (all_t rfl (all_t rfl (all_t rfl all_nil)))))))))))))))))))))
              have hs0 : (turns (hds 8 3610) 0 3610 (cb1 m) (m + 23) p8_e9 (p8_e21 x0)).run = some (.exit 0, p8_e4, (p8_e21 x0)) := Eq.mp (by kernel_rfl) hp1
              have hp0 := turns_step ht0 hs0
              exact Eq.trans (Eq.mp (by kernel_rfl) hp0) hq
            cases hp
        · skip
          cases h
          refine ⟨(.d (.sl (.pair .str .str) [(([97] : Q4), (p8_k1 x0))])), [], runT_ok (LS := (fun k => if k = 3610 then some (.exit 0, p8_e4, (p8_e21 x0)) else none)) (fn := fn8) (vis := [(3610, p8_e6, (p8_e20 x0))]) (by kernel_rfl) rfl (by kernel_rfl) (M.run_of_path _ [tT, tT, tT, tT] _ _ (by kernel_rfl) (all_t rfl (all_t rfl (all_t rfl (all_t rfl all_nil))))) ?_, by simp, (wkR.one (wkV.one (wk1.eq rfl))), trivial⟩
          intro p hp p2 hq
          rcases List.mem_cons.1 hp with rfl | hp
          · skip
            have ht3 : (turn (hds 8 3610) 0 3610 (cb1 m) p8_e12 (p8_e21 x0)).run = some (.exit 0, p8_e4, (p8_e21 x0)) := M.run_of_path _ [fF] _ _ (by kernel_rfl) (all_f Bool.false_ne_true all_nil)
            have hp3 := turns_last (n := m + 20) (by simp) ht3
            have ht2 : (turn (hds 8 3610) 0 3610 (cb1 m) p8_e11 (p8_e21 x0)).run = some (.normal, p8_e12, (p8_e21 x0)) := M.run_of_path _ [tT, tT, tT, fF, fF, fF, fF, fF, fF, fF, fF, fF] _ _ (by kernel_rfl) (all_t rfl (all_t rfl (all_t rfl (all_f c39 (all_f c39 (all_f c39 (all_f c39 (all_f c39 (all_f c39 (all_f c39 (all_f c39 (all_f Bool.false_ne_true all_nil))))))))))))
            have hs2 : (turns (hds 8 3610) 0 3610 (cb1 m) (m + 21) p8_e12 (p8_e21 x0)).run = some (.exit 0, p8_e4, (p8_e21 x0)) := Eq.mp (by kernel_rfl) hp3
            have hp2 := turns_step ht2 hs2
            have ht1 : (turn (hds 8 3610) 0 3610 (cb1 m) p8_e9 (p8_e21 x0)).run = some (.normal, p8_e11, (p8_e21 x0)) := M.run_of_path _ [tT, tT, tT, fF, fF, fF, fF, fF, fF, fF, fF, fF] _ _ (by kernel_rfl) (all_t rfl (all_t rfl (all_t rfl (all_f c27 (all_f c27 (all_f c27 (all_f c27 (all_f c27 (all_f c27 (all_f c27 (all_f c27 (all_f Bool.false_ne_true all_nil))))))))))))
            have hs1 : (turns (hds 8 3610) 0 3610 (cb1 m) (m + 22) p8_e11 (p8_e21 x0)).run = some (.exit 0, p8_e4, (p8_e21 x0)) := Eq.mp (by kernel_rfl) hp2
            have hp1 := turns_step ht1 hs1
            have ht0 : (turn (hds 8 3610) 0 3610 (cb1 m) p8_e6 (p8_e20 x0)).run = some (.normal, p8_e9, (p8_e21 x0)) := M.run_of_path _ [tT, tT, tT, tT, tT, tT, tT, tT, tT, tT, tT, tT, tT, tT, tT, tT, tT, tT, tT, tT, tT] _ _ (by kernel_rfl) (all_t rfl (all_t rfl (all_t rfl (all_t c6 (all_t c6 (all_t c6 (all_t c6 (all_t rfl (all_t c6 (all_t c6 (all_t c6 (all_t c6 (all_t c6 (all_t c16 (all_t c17 (all_t rfl (all_t c19 (all_t c20 (all_t rfl (all_t rfl (all_t rfl all_nil)))))))))))))))))))))
            have hs0 : (turns (hds 8 3610) 0 3610 (cb1 m) (m + 23) p8_e9 (p8_e21 x0)).run = some (.exit 0, p8_e4, (p8_e21 x0)) := Eq.mp (by kernel_rfl) hp1
            have hp0 := turns_step ht0 hs0
            exact Eq.trans (Eq.mp (by kernel_rfl) hp0) hq
          cases hp
    · skip
      refine ite_cases h (fun c20 h => ?_) (fun c20 h => ?_)
      · skip
        refine ite_cases h (fun c30 h => ?_) (fun c30 h => ?_)
        · skip
          obtain ⟨c31, h⟩ := iY h
          obtain ⟨c33, h⟩ := iY h
          obtain ⟨c34, h⟩ := iY h
          refine ite_cases h (fun c41 h => ?_) (fun c41 h => ?_)
          · skip
            refine ite_cases h (fun c51 h => ?_) (fun c51 h => ?_)
            · skip
              obtain ⟨c52, h⟩ := iY h
              obtain ⟨c54, h⟩ := iY h
              obtain ⟨c55, h⟩ := iY h
              cases h
              refine ⟨(.d (.sl (.pair .str .str) [(([98] : Q4), (p8_k2 x0)), (([99] : Q4), (p8_k3 x0))])), [], runT_ok (LS := (fun k => if k = 3610 then some (.exit 0, p8_e3, (p8_e19 x0)) else none)) (fn := fn8) (vis := [(3610, p8_e6, (p8_e20 x0))]) (by kernel_rfl) rfl (by kernel_rfl) (M.run_of_path _ [tT, tT, tT, tT] _ _ (by kernel_rfl) (all_t rfl (all_t rfl (all_t rfl (all_t rfl all_nil))))) ?_, by simp, (wkR.one (wkV.one (wk1.eq rfl))), trivial⟩
              intro p hp p2 hq
              rcases List.mem_cons.1 hp with rfl | hp
              · skip
                have ht3 : (turn (hds 8 3610) 0 3610 (cb1 m) p8_e10 (p8_e19 x0)).run = some (.exit 0, p8_e3, (p8_e19 x0)) := M.run_of_path _ [fF] _ _ (by kernel_rfl) (all_f Bool.false_ne_true all_nil)
                have hp3 := turns_last (n := m + 20) (by simp) ht3
                have ht2 : (turn (hds 8 3610) 0 3610 (cb1 m) p8_e11 (p8_e22 x0)).run = some (.normal, p8_e10, (p8_e19 x0)) := M.run_of_path _ [tT, tT, tT, tT, tT, tT, tT, tT, tT, tT, tT, tT, tT, tT, tT, tT, tT, tT, tT, tT, tT] _ _ (by kernel_rfl) (all_t rfl (all_t rfl (all_t rfl (all_t c41 (all_t c41 (all_t c41 (all_t c41 (all_t rfl (all_t c41 (all_t c41 (all_t c41 (all_t c41 (all_t c41 (all_t c51 (all_t c52 (all_t rfl (all_t c54 (all_t c55 (all_t rfl (all_t rfl (all_t rfl all_nil)))))))))))))))))))))
                have hs2 : (turns (hds 8 3610) 0 3610 (cb1 m) (m + 21) p8_e10 (p8_e19 x0)).run = some (.exit 0, p8_e3, (p8_e19 x0)) := Eq.mp (by kernel_rfl) hp3
                have hp2 := turns_step ht2 hs2
                have ht1 : (turn (hds 8 3610) 0 3610 (cb1 m) p8_e13 (p8_e20 x0)).run = some (.normal, p8_e11, (p8_e22 x0)) := M.run_of_path _ [tT, tT, tT, tT, tT, tT, tT, tT, tT, tT, tT, tT, tT, tT, tT, tT, tT, tT, tT, tT, tT] _ _ (by kernel_rfl) (all_t rfl (all_t rfl (all_t rfl (all_t c20 (all_t c20 (all_t c20 (all_t c20 (all_t rfl (all_t c20 (all_t c20 (all_t c20 (all_t c20 (all_t c20 (all_t c30 (all_t c31 (all_t rfl (all_t c33 (all_t c34 (all_t rfl (all_t rfl (all_t rfl all_nil)))))))))))))))))))))
                have hs1 : (turns (hds 8 3610) 0 3610 (cb1 m) (m + 22) p8_e11 (p8_e22 x0)).run = some (.exit 0, p8_e3, (p8_e19 x0)) := Eq.mp (by kernel_rfl) hp2
                have hp1 := turns_step ht1 hs1
                have ht0 : (turn (hds 8 3610) 0 3610 (cb1 m) p8_e6 (p8_e20 x0)).run = some (.normal, p8_e13, (p8_e20 x0)) := M.run_of_path _ [tT, tT, tT, tT, tT, tT, tT, tT, tT, tT, tT, tT, tT, fF] _ _ (by kernel_rfl) (all_t rfl (all_t rfl (all_t rfl (all_t c6 (all_t c6 (all_t c6 (all_t c6 (all_t rfl (all_t c6 (all_t c6 (all_t c6 (all_t c6 (all_t c6 (all_f c16 all_nil))))))))))))))
                have hs0 : (turns (hds 8 3610) 0 3610 (cb1 m) (m + 23) p8_e13 (p8_e20 x0)).run = some (.exit 0, p8_e3, (p8_e19 x0)) := Eq.mp (by kernel_rfl) hp1
                have hp0 := turns_step ht0 hs0
                exact Eq.trans (Eq.mp (by kernel_rfl) hp0) hq
              cases hp
            · skip
              cases h
              refine ⟨(.d (.sl (.pair .str .str) [(([98] : Q4), (p8_k2 x0))])), [], runT_ok (LS := (fun k => if k = 3610 then some (.exit 0, p8_e4, (p8_e22 x0)) else none)) (fn := fn8) (vis := [(3610, p8_e6, (p8_e20 x0))]) (by kernel_rfl) rfl (by kernel_rfl) (M.run_of_path _ [tT, tT, tT, tT] _ _ (by kernel_rfl) (all_t rfl (all_t rfl (all_t rfl (all_t rfl all_nil))))) ?_, by simp, (wkR.one (wkV.one (wk1.eq rfl))), trivial⟩
              intro p hp p2 hq
              rcases List.mem_cons.1 hp with rfl | hp
              · skip
                have ht3 : (turn (hds 8 3610) 0 3610 (cb1 m) p8_e12 (p8_e22 x0)).run = some (.exit 0, p8_e4, (p8_e22 x0)) := M.run_of_path _ [fF] _ _ (by kernel_rfl) (all_f Bool.false_ne_true all_nil)
                have hp3 := turns_last (n := m + 20) (by simp) ht3
                have ht2 : (turn (hds 8 3610) 0 3610 (cb1 m) p8_e11 (p8_e22 x0)).run = some (.normal, p8_e12, (p8_e22 x0)) := M.run_of_path _ [tT, tT, tT, tT, tT, tT, tT, tT, tT, tT, tT, tT, tT, fF] _ _ (by kernel_rfl) (all_t rfl (all_t rfl (all_t rfl (all_t c41 (all_t c41 (all_t c41 (all_t c41 (all_t rfl (all_t c41 (all_t c41 (all_t c41 (all_t c41 (all_t c41 (all_f c51 all_nil))))))))))))))
                have hs2 : (turns (hds 8 3610) 0 3610 (cb1 m) (m + 21) p8_e12 (p8_e22 x0)).run = some (.exit 0, p8_e4, (p8_e22 x0)) := Eq.mp (by kernel_rfl) hp3
                have hp2 := turns_step ht2 hs2
                have ht1 : (turn (hds 8 3610) 0 3610 (cb1 m) p8_e13 (p8_e20 x0)).run = some (.normal, p8_e11, (p8_e22 x0)) := M.run_of_path _ [tT, tT, tT, tT, tT, tT, tT, tT, tT, tT, tT, tT, tT, tT, tT, tT, tT, tT, tT, tT, tT] _ _ (by kernel_rfl) (all_t rfl (all_t rfl (all_t rfl (all_t c20 (all_t c20 (all_t c20 (all_t c20 (all_t rfl (all_t c20 (all_t c20 (all_t c20 (all_t c20 (all_t c20 (all_t c30 (all_t c31 (all_t rfl (all_t c33 (all_t c34 (all_t rfl (all_t rfl (all_t rfl all_nil)))))))))))))))))))))
                have hs1 : (turns (hds 8 3610) 0 3610 (cb1 m) (m + 22) p8_e11 (p8_e22 x0)).run = some (.exit 0, p8_e4, (p8_e22 x0)) := Eq.mp (by kernel_rfl) hp2
                have hp1 := turns_step ht1 hs1
                have ht0 : (turn (hds 8 3610) 0 3610 (cb1 m) p8_e6 (p8_e20 x0)).run = some (.normal, p8_e13, (p8_e20 x0)) := M.run_of_path _ [tT, tT, tT, tT, tT, tT, tT, tT, tT, tT, tT, tT, tT, fF] _ _ (by kernel_rfl) (all_t rfl (all_t rfl (all_t rfl (all_t c6 (all_t c6 (all_t c6 (all_t c6 (all_t rfl (all_t c6 (all_t c6 (all_t c6 (all_t c6 (all_t c6 (all_f c16 all_nil))))))))))))))
                have hs0 : (turns (hds 8 3610) 0 3610 (cb1 m) (m + 23) p8_e13 (p8_e20 x0)).run = some (.exit 0, p8_e4, (p8_e22 x0)) := Eq.mp (by kernel_rfl) hp1
                have hp0 := turns_step ht0 hs0
                exact Eq.trans (Eq.mp (by kernel_rfl) hp0) hq
              cases hp
          · skip
            cases h
            refine ⟨(.d (.sl (.pair .str .str) [(([98] : Q4), (p8_k2 x0))])), [], runT_ok (LS := (fun k => if k = 3610 then some (.exit 0, p8_e4, (p8_e22 x0)) else none)) (fn := fn8) (vis := [(3610, p8_e6, (p8_e20 x0))]) (by kernel_rfl) rfl (by kernel_rfl) (M.run_of_path _ [tT, tT, tT, tT] _ _ (by kernel_rfl) (all_t rfl (all_t rfl (all_t rfl (all_t rfl all_nil))))) ?_, by simp, (wkR.one (wkV.one (wk1.eq rfl))), trivial⟩
            intro p hp p2 hq
            rcases List.mem_cons.1 hp with rfl | hp
            · skip
              have ht3 : (turn (hds 8 3610) 0 3610 (cb1 m) p8_e12 (p8_e22 x0)).run = some (.exit 0, p8_e4, (p8_e22 x0)) := M.run_of_path _ [fF] _ _ (by kernel_rfl) (all_f Bool.false_ne_true all_nil)
              have hp3 := turns_last (n := m + 20) (by simp) ht3
              have ht2 : (turn (hds 8 3610) 0 3610 (cb1 m) p8_e11 (p8_e22 x0)).run = some (.normal, p8_e12, (p8_e22 x0)) := M.run_of_path _ [tT, tT, tT, fF, fF, fF, fF, fF, fF, fF, fF, fF] _ _ (by kernel_rfl) (all_t rfl (all_t rfl (all_t rfl (all_f c41 (all_f c41 (all_f c41 (all_f c41 (all_f c41 (all_f c41 (all_f c41 (all_f c41 (all_f Bool.false_ne_true all_nil))))))))))))
              have hs2 : (turns (hds 8 3610) 0 3610 (cb1 m) (m + 21) p8_e12 (p8_e22 x0)).run = some (.exit 0, p8_e4, (p8_e22 x0)) := Eq.mp (by kernel_rfl) hp3
              have hp2 := turns_step ht2 hs2
              have ht1 : (turn (hds 8 3610) 0 3610 (cb1 m) p8_e13 (p8_e20 x0)).run = some (.normal, p8_e11, (p8_e22 x0)) := M.run_of_path _ [tT, tT, tT, tT, tT, tT, tT, tT, tT, tT, tT, tT, tT, tT, tT, tT, tT, tT, tT, tT, tT] _ _ (by kernel_rfl) (all_t rfl (all_t rfl (all_t rfl (all_t c20 (all_t c20 (all_t c20 (all_t c20 (all_t rfl (all_t c20 (all_t c20 (all_t c20 (all_t c20 (all_t c20 (all_t c30 (all_t c31 (all_t rfl (all_t c33 (all_t c34 (all_t rfl (all_t rfl (all_t rfl all_nil)))))))))))))))))))))
              have hs1 : (turns (hds 8 3610) 0 3610 (cb1 m) (m + 22) p8_e11 (p8_e22 x0)).run = some (.exit 0, p8_e4, (p8_e22 x0)) := Eq.mp (by kernel_rfl) hp2
              have hp1 := turns_step ht1 hs1
              have ht0 : (turn (hds 8 3610) 0 3610 (cb1 m) p8_e6 (p8_e20 x0)).run = some (.normal, p8_e13, (p8_e20 x0)) := M.run_of_path _ [tT, tT, tT, tT, tT, tT, tT, tT, tT, tT, tT, tT, tT, fF] _ _ (by kernel_rfl) (all_t rfl (all_t rfl (all_t rfl (all_t c6 (all_t c6 (all_t c6 (all_t c6 (all_t rfl (all_t c6 (all_t c6 (all_t c6 (all_t c6 (all_t c6 (all_f c16 all_nil))))))))))))))
              have hs0 : (turns (hds 8 3610) 0 3610 (cb1 m) (m + 23) p8_e13 (p8_e20 x0)).run = some (.exit 0, p8_e4, (p8_e22 x0)) := Eq.mp (by kernel_rfl) hp1
              have hp0 := turns_step ht0 hs0
              exact Eq.trans (Eq.mp (by kernel_rfl) hp0) hq
            cases hp
        · skip
          refine ite_cases h (fun c34 h => ?_) (fun c34 h => ?_)
          · skip
            refine ite_cases h (fun c44 h => ?_) (fun c44 h => ?_)
            · skip
              obtain ⟨c45, h⟩ := iY h
              obtain ⟨c47, h⟩ := iY h
              obtain ⟨c48, h⟩ := iY h
              cases h
              refine ⟨(.d (.sl (.pair .str .str) [(([99] : Q4), (p8_k3 x0))])), [], runT_ok (LS := (fun k => if k = 3610 then some (.exit 0, p8_e4, (p8_e23 x0)) else none)) (fn := fn8) (vis := [(3610, p8_e6, (p8_e20 x0))]) (by kernel_rfl) rfl (by kernel_rfl) (M.run_of_path _ [tT, tT, tT, tT] _ _ (by kernel_rfl) (all_t rfl (all_t rfl (all_t rfl (all_t rfl all_nil))))) ?_, by simp, (wkR.one (wkV.one (wk1.eq rfl))), trivial⟩
              intro p hp p2 hq
              rcases List.mem_cons.1 hp with rfl | hp
              · skip
                have ht3 : (turn (hds 8 3610) 0 3610 (cb1 m) p8_e12 (p8_e23 x0)).run = some (.exit 0, p8_e4, (p8_e23 x0)) := M.run_of_path _ [fF] _ _ (by kernel_rfl) (all_f Bool.false_ne_true all_nil)
                have hp3 := turns_last (n := m + 20) (by simp) ht3
                have ht2 : (turn (hds 8 3610) 0 3610 (cb1 m) p8_e14 (p8_e20 x0)).run = some (.normal, p8_e12, (p8_e23 x0)) := M.run_of_path _ [tT, tT, tT, tT, tT, tT, tT, tT, tT, tT, tT, tT, tT, tT, tT, tT, tT, tT, tT, tT, tT] _ _ (by kernel_rfl) (all_t rfl (all_t rfl (all_t rfl (all_t c34 (all_t c34 (all_t c34 (all_t c34 (all_t rfl (all_t c34 (all_t c34 (all_t c34 (all_t c34 (all_t c34 (all_t c44 (all_t c45 (all_t rfl (all_t c47 (all_t c48 (all_t rfl (all_t rfl (all_t rfl all_nil)))))))))))))))))))))
                have hs2 : (turns (hds 8 3610) 0 3610 (cb1 m) (m + 21) p8_e12 (p8_e23 x0)).run = some (.exit 0, p8_e4, (p8_e23 x0)) := Eq.mp (by kernel_rfl) hp3
                have hp2 := turns_step ht2 hs2
                have ht1 : (turn (hds 8 3610) 0 3610 (cb1 m) p8_e13 (p8_e20 x0)).run = some (.normal, p8_e14, (p8_e20 x0)) := M.run_of_path _ [tT, tT, tT, tT, tT, tT, tT, tT, tT, tT, tT, tT, tT, fF] _ _ (by kernel_rfl) (all_t rfl (all_t rfl (all_t rfl (all_t c20 (all_t c20 (all_t c20 (all_t c20 (all_t rfl (all_t c20 (all_t c20 (all_t c20 (all_t c20 (all_t c20 (all_f c30 all_nil))))))))))))))
                have hs1 : (turns (hds 8 3610) 0 3610 (cb1 m) (m + 22) p8_e14 (p8_e20 x0)).run = some (.exit 0, p8_e4, (p8_e23 x0)) := Eq.mp (by kernel_rfl) hp2
                have hp1 := turns_step ht1 hs1
                have ht0 : (turn (hds 8 3610) 0 3610 (cb1 m) p8_e6 (p8_e20 x0)).run = some (.normal, p8_e13, (p8_e20 x0)) := M.run_of_path _ [tT, tT, tT, tT, tT, tT, tT, tT, tT, tT, tT, tT, tT, fF] _ _ (by kernel_rfl) (all_t rfl (all_t rfl (all_t rfl (all_t c6 (all_t c6 (all_t c6 (all_t c6 (all_t rfl (all_t c6 (all_t c6 (all_t c6 (all_t c6 (all_t c6 (all_f c16 all_nil))))))))))))))
                have hs0 : (turns (hds 8 3610) 0 3610 (cb1 m) (m + 23) p8_e13 (p8_e20 x0)).run = some (.exit 0, p8_e4, (p8_e23 x0)) := Eq.mp (by kernel_rfl) hp1
                have hp0 := turns_step ht0 hs0
                exact Eq.trans (Eq.mp (by kernel_rfl) hp0) hq
              cases hp
            · skip
              cases h
              refine ⟨(.d (.sl (.pair .str .str) ([] : Q2))), [], runT_ok (LS := (fun k => if k = 3610 then some (.exit 0, p8_e5, (p8_e20 x0)) else none)) (fn := fn8) (vis := [(3610, p8_e6, (p8_e20 x0))]) (by kernel_rfl) rfl (by kernel_rfl) (M.run_of_path _ [tT, tT, tT, tT] _ _ (by kernel_rfl) (all_t rfl (all_t rfl (all_t rfl (all_t rfl all_nil))))) ?_, by simp, (wkR.one (wkV.one (wk1.eq rfl))), trivial⟩
              intro p hp p2 hq
              rcases List.mem_cons.1 hp with rfl | hp
              · skip
                have ht3 : (turn (hds 8 3610) 0 3610 (cb1 m) p8_e15 (p8_e20 x0)).run = some (.exit 0, p8_e5, (p8_e20 x0)) := M.run_of_path _ [fF] _ _ (by kernel_rfl) (all_f Bool.false_ne_true all_nil)
                have hp3 := turns_last (n := m + 20) (by simp) ht3
                have ht2 : (turn (hds 8 3610) 0 3610 (cb1 m) p8_e14 (p8_e20 x0)).run = some (.normal, p8_e15, (p8_e20 x0)) := M.run_of_path _ [tT, tT, tT, tT, tT, tT, tT, tT, tT, tT, tT, tT, tT, fF] _ _ (by kernel_rfl) (all_t rfl (all_t rfl (all_t rfl (all_t c34 (all_t c34 (all_t c34 (all_t c34 (all_t rfl (all_t c34 (all_t c34 (all_t c34 (all_t c34 (all_t c34 (all_f c44 all_nil))))))))))))))
                have hs2 : (turns (hds 8 3610) 0 3610 (cb1 m) (m + 21) p8_e15 (p8_e20 x0)).run = some (.exit 0, p8_e5, (p8_e20 x0)) := Eq.mp (by kernel_rfl) hp3
                have hp2 := turns_step ht2 hs2
                have ht1 : (turn (hds 8 3610) 0 3610 (cb1 m) p8_e13 (p8_e20 x0)).run = some (.normal, p8_e14, (p8_e20 x0)) := M.run_of_path _ [tT, tT, tT, tT, tT, tT, tT, tT, tT, tT, tT, tT, tT, fF] _ _ (by kernel_rfl) (all_t rfl (all_t rfl (all_t rfl (all_t c20 (all_t c20 (all_t c20 (all_t c20 (all_t rfl (all_t c20 (all_t c20 (all_t c20 (all_t c20 (all_t c20 (all_f c30 all_nil))))))))))))))
                have hs1 : (turns (hds 8 3610) 0 3610 (cb1 m) (m + 22) p8_e14 (p8_e20 x0)).run = some (.exit 0, p8_e5, (p8_e20 x0)) := Eq.mp (by kernel_rfl) hp2
                have hp1 := turns_step ht1 hs1
                have ht0 : (turn (hds 8 3610) 0 3610 (cb1 m) p8_e6 (p8_e20 x0)).run = some (.normal, p8_e13, (p8_e20 x0)) := M.run_of_path _ [tT, tT, tT, tT, tT, tT, tT, tT, tT, tT, tT, tT, tT, fF] _ _ (by kernel_rfl) (all_t rfl (all_t rfl (all_t rfl (all_t c6 (all_t c6 (all_t c6 (all_t c6 (all_t rfl (all_t c6 (all_t c6 (all_t c6 (all_t c6 (all_t c6 (all_f c16 all_nil))))))))))))))
                have hs0 : (turns (hds 8 3610) 0 3610 (cb1 m) (m + 23) p8_e13 (p8_e20 x0)).run = some (.exit 0, p8_e5, (p8_e20 x0)) := Eq.mp (by kernel_rfl) hp1
                have hp0 := turns_step ht0 hs0
                exact Eq.trans (Eq.mp (by kernel_rfl) hp0) hq
              cases hp
          · skip
            cases h
            refine ⟨(.d (.sl (.pair .str .str) ([] : Q2))), [], runT_ok (LS := (fun k => if k = 3610 then some (.exit 0, p8_e5, (p8_e20 x0)) else none)) (fn := fn8) (vis := [(3610, p8_e6, (p8_e20 x0))]) (by kernel_rfl) rfl (by kernel_rfl) (M.run_of_path _ [tT, tT, tT, tT] _ _ (by kernel_rfl) (all_t rfl (all_t rfl (all_t rfl (all_t rfl all_nil))))) ?_, by simp, (wkR.one (wkV.one (wk1.eq rfl))), trivial⟩
            intro p hp p2 hq
            rcases List.mem_cons.1 hp with rfl | hp
            · skip
              have ht3 : (turn (hds 8 3610) 0 3610 (cb1 m) p8_e15 (p8_e20 x0)).run = some (.exit 0, p8_e5, (p8_e20 x0)) := M.run_of_path _ [fF] _ _ (by kernel_rfl) (all_f Bool.false_ne_true all_nil)
              have hp3 := turns_last (n := m + 20) (by simp) ht3
              have ht2 : (turn (hds 8 3610) 0 3610 (cb1 m) p8_e14 (p8_e20 x0)).run = some (.normal, p8_e15, (p8_e20 x0)) := M.run_of_path _ [tT, tT, tT, fF, fF, fF, fF, fF, fF, fF, fF, fF] _ _ (by kernel_rfl) (all_t rfl (all_t rfl (all_t rfl (all_f c34 (all_f c34 (all_f c34 (all_f c34 (all_f c34 (all_f c34 (all_f c34 (all_f c34 (all_f Bool.false_ne_true all_nil))))))))))))
              have hs2 : (turns (hds 8 3610) 0 3610 (cb1 m) (m + 21) p8_e15 (p8_e20 x0)).run = some (.exit 0, p8_e5, (p8_e20 x0)) := Eq.mp (by kernel_rfl) hp3
              have hp2 := turns_step ht2 hs2
              have ht1 : (turn (hds 8 3610) 0 3610 (cb1 m) p8_e13 (p8_e20 x0)).run = some (.normal, p8_e14, (p8_e20 x0)) := M.run_of_path _ [tT, tT, tT, tT, tT, tT, tT, tT, tT, tT, tT, tT, tT, fF] _ _ (by kernel_rfl) (all_t rfl (all_t rfl (all_t rfl (all_t c20 (all_t c20 (all_t c20 (all_t c20 (all_t rfl (all_t c20 (all_t c20 (all_t c20 (all_t c20 (all_t c20 (all_f c30 all_nil))))))))))))))
              have hs1 : (turns (hds 8 3610) 0 3610 (cb1 m) (m + 22) p8_e14 (p8_e20 x0)).run = some (.exit 0, p8_e5, (p8_e20 x0)) := Eq.mp (by kernel_rfl) hp2
              have hp1 := turns_step ht1 hs1
              have ht0 : (turn (hds 8 3610) 0 3610 (cb1 m) p8_e6 (p8_e20 x0)).run = some (.normal, p8_e13, (p8_e20 x0)) := M.run_of_path _ [tT, tT, tT, tT, tT, tT, tT, tT, tT, tT, tT, tT, tT, fF] _ _ (by kernel_rfl) (all_t rfl (all_t rfl (all_t rfl (all_t c6 (all_t c6 (all_t c6 (all_t c6 (all_t rfl (all_t c6 (all_t c6 (all_t c6 (all_t c6 (all_t c6 (all_f c16 all_nil))))))))))))))
              have hs0 : (turns (hds 8 3610) 0 3610 (cb1 m) (m + 23) p8_e13 (p8_e20 x0)).run = some (.exit 0, p8_e5, (p8_e20 x0)) := Eq.mp (by kernel_rfl) hp1
              have hp0 := turns_step ht0 hs0
              exact Eq.trans (Eq.mp (by kernel_rfl) hp0) hq
            cases hp
      · skip
        refine ite_cases h (fun c32 h => ?_) (fun c32 h => ?_)
        · skip
          refine ite_cases h (fun c42 h => ?_) (fun c42 h => ?_)
          · skip
            obtain ⟨c43, h⟩ := iY h
            obtain ⟨c45, h⟩ := iY h
            obtain ⟨c46, h⟩ := iY h
            cases h
            refine ⟨(.d (.sl (.pair .str .str) [(([99] : Q4), (p8_k3 x0))])), [], runT_ok (LS := (fun k => if k = 3610 then some (.exit 0, p8_e4, (p8_e23 x0)) else none)) (fn := fn8) (vis := [(3610, p8_e6, (p8_e20 x0))]) (by kernel_rfl) rfl (by kernel_rfl) (M.run_of_path _ [tT, tT, tT, tT] _ _ (by kernel_rfl) (all_t rfl (all_t rfl (all_t rfl (all_t rfl all_nil))))) ?_, by simp, (wkR.one (wkV.one (wk1.eq rfl))), trivial⟩
            intro p hp p2 hq
            rcases List.mem_cons.1 hp with rfl | hp
            · skip
              have ht3 : (turn (hds 8 3610) 0 3610 (cb1 m) p8_e12 (p8_e23 x0)).run = some (.exit 0, p8_e4, (p8_e23 x0)) := M.run_of_path _ [fF] _ _ (by kernel_rfl) (all_f Bool.false_ne_true all_nil)
              have hp3 := turns_last (n := m + 20) (by simp) ht3
              have ht2 : (turn (hds 8 3610) 0 3610 (cb1 m) p8_e14 (p8_e20 x0)).run = some (.normal, p8_e12, (p8_e23 x0)) := M.run_of_path _ [tT, tT, tT, tT, tT, tT, tT, tT, tT, tT, tT, tT, tT, tT, tT, tT, tT, tT, tT, tT, tT] _ _ (by kernel_rfl) (all_t rfl (all_t rfl (all_t rfl (all_t c32 (all_t c32 (all_t c32 (all_t c32 (all_t rfl (all_t c32 (all_t c32 (all_t c32 (all_t c32 (all_t c32 (all_t c42 (all_t c43 (all_t rfl (all_t c45 (all_t c46 (all_t rfl (all_t rfl (all_t rfl all_nil)))))))))))))))))))))
              have hs2 : (turns (hds 8 3610) 0 3610 (cb1 m) (m + 21) p8_e12 (p8_e23 x0)).run = some (.exit 0, p8_e4, (p8_e23 x0)) := Eq.mp (by kernel_rfl) hp3
              have hp2 := turns_step ht2 hs2
              have ht1 : (turn (hds 8 3610) 0 3610 (cb1 m) p8_e13 (p8_e20 x0)).run = some (.normal, p8_e14, (p8_e20 x0)) := M.run_of_path _ [tT, tT, tT, fF, fF, fF, fF, fF, fF, fF, fF, fF] _ _ (by kernel_rfl) (all_t rfl (all_t rfl (all_t rfl (all_f c20 (all_f c20 (all_f c20 (all_f c20 (all_f c20 (all_f c20 (all_f c20 (all_f c20 (all_f Bool.false_ne_true all_nil))))))))))))
              have hs1 : (turns (hds 8 3610) 0 3610 (cb1 m) (m + 22) p8_e14 (p8_e20 x0)).run = some (.exit 0, p8_e4, (p8_e23 x0)) := Eq.mp (by kernel_rfl) hp2
              have hp1 := turns_step ht1 hs1
              have ht0 : (turn (hds 8 3610) 0 3610 (cb1 m) p8_e6 (p8_e20 x0)).run = some (.normal, p8_e13, (p8_e20 x0)) := M.run_of_path _ [tT, tT, tT, tT, tT, tT, tT, tT, tT, tT, tT, tT, tT, fF] _ _ (by kernel_rfl) (all_t rfl (all_t rfl (all_t rfl (all_t c6 (all_t c6 (all_t c6 (all_t c6 (all_t rfl (all_t c6 (all_t c6 (all_t c6 (all_t c6 (all_t c6 (all_f c16 all_nil))))))))))))))
              have hs0 : (turns (hds 8 3610) 0 3610 (cb1 m) (m + 23) p8_e13 (p8_e20 x0)).run = some (.exit 0, p8_e4, (p8_e23 x0)) := Eq.mp (by kernel_rfl) hp1
              have hp0 := turns_step ht0 hs0
              exact Eq.trans (Eq.mp (by kernel_rfl) hp0) hq
            cases hp
          · skip
            cases h
            refine ⟨(.d (.sl (.pair .str .str) ([] : Q2))), [], runT_ok (LS := (fun k => if k = 3610 then some (.exit 0, p8_e5, (p8_e20 x0)) else none)) (fn := fn8) (vis := [(3610, p8_e6, (p8_e20 x0))]) (by kernel_rfl) rfl (by kernel_rfl) (M.run_of_path _ [tT, tT, tT, tT] _ _ (by kernel_rfl) (all_t rfl (all_t rfl (all_t rfl (all_t rfl all_nil))))) ?_, by simp, (wkR.one (wkV.one (wk1.eq rfl))), trivial⟩
            intro p hp p2 hq
            rcases List.mem_cons.1 hp with rfl | hp
            · skip
              have ht3 : (turn (hds 8 3610) 0 3610 (cb1 m) p8_e15 (p8_e20 x0)).run = some (.exit 0, p8_e5, (p8_e20 x0)) := M.run_of_path _ [fF] _ _ (by kernel_rfl) (all_f Bool.false_ne_true all_nil)
              have hp3 := turns_last (n := m + 20) (by simp) ht3
              have ht2 : (turn (hds 8 3610) 0 3610 (cb1 m) p8_e14 (p8_e20 x0)).run = some (.normal, p8_e15, (p8_e20 x0)) := M.run_of_path _ [tT, tT, tT, tT, tT, tT, tT, tT, tT, tT, tT, tT, tT, fF] _ _ (by kernel_rfl) (all_t rfl (all_t rfl (all_t rfl (all_t c32 (all_t c32 (all_t c32 (all_t c32 (all_t rfl (all_t c32 (all_t c32 (all_t c32 (all_t c32 (all_t c32 (all_f c42 all_nil))))))))))))))
              have hs2 : (turns (hds 8 3610) 0 3610 (cb1 m) (m + 21) p8_e15 (p8_e20 x0)).run = some (.exit 0, p8_e5, (p8_e20 x0)) := Eq.mp (by kernel_rfl) hp3
              have hp2 := turns_step ht2 hs2
              have ht1 : (turn (hds 8 3610) 0 3610 (cb1 m) p8_e13 (p8_e20 x0)).run = some (.normal, p8_e14, (p8_e20 x0)) := M.run_of_path _ [tT, tT, tT, fF, fF, fF, fF, fF, fF, fF, fF, fF] _ _ (by kernel_rfl) (all_t rfl (all_t rfl (all_t rfl (all_f c20 (all_f c20 (all_f c20 (all_f c20 (all_f c20 (all_f c20 (all_f c20 (all_f c20 (all_f Bool.false_ne_true all_nil))))))))))))
              have hs1 : (turns (hds 8 3610) 0 3610 (cb1 m) (m + 22) p8_e14 (p8_e20 x0)).run = some (.exit 0, p8_e5, (p8_e20 x0)) := Eq.mp (by kernel_rfl) hp2
              have hp1 := turns_step ht1 hs1
              have ht0 : (turn (hds 8 3610) 0 3610 (cb1 m) p8_e6 (p8_e20 x0)).run = some (.normal, p8_e13, (p8_e20 x0)) := M.run_of_path _ [tT, tT, tT, tT, tT, tT, tT, tT, tT, tT, tT, tT, tT, fF] _ _ (by kernel_rfl) (all_t rfl (all_t rfl (all_t rfl (all_t c6 (all_t c6 (all_t c6 (all_t c6 (all_t rfl (all_t c6 (all_t c6 (all_t c6 (all_t c6 (all_t c6 (all_f c16 all_nil))))))))))))))
              have hs0 : (turns (hds 8 3610) 0 3610 (cb1 m) (m + 23) p8_e13 (p8_e20 x0)).run = some (.exit 0, p8_e5, (p8_e20 x0)) := Eq.mp (by kernel_rfl) hp1
              have hp0 := turns_step ht0 hs0
              exact Eq.trans (Eq.mp (by kernel_rfl) hp0) hq
            cases hp
        · skip
          cases h
          refine ⟨(.d (.sl (.pair .str .str) ([] : Q2))), [], runT_ok (LS := (fun k => if k = 3610 then some (.exit 0, p8_e5, (p8_e20 x0)) else none)) (fn := fn8) (vis := [(3610, p8_e6, (p8_e20 x0))]) (by kernel_rfl) rfl (by kernel_rfl) (M.run_of_path _ [tT, tT, tT, tT] _ _ (by kernel_rfl) (all_t rfl (all_t rfl (all_t rfl (all_t rfl all_nil))))) ?_, by simp, (wkR.one (wkV.one (wk1.eq rfl))), trivial⟩
          intro p hp p2 hq
          rcases List.mem_cons.1 hp with rfl | hp
          · skip
            have ht3 : (turn (hds 8 3610) 0 3610 (cb1 m) p8_e15 (p8_e20 x0)).run = some (.exit 0, p8_e5, (p8_e20 x0)) := M.run_of_path _ [fF] _ _ (by kernel_rfl) (all_f Bool.false_ne_true all_nil)
            have hp3 := turns_last (n := m + 20) (by simp) ht3
            have ht2 : (turn (hds 8 3610) 0 3610 (cb1 m) p8_e14 (p8_e20 x0)).run = some (.normal, p8_e15, (p8_e20 x0)) := M.run_of_path _ [tT, tT, tT, fF, fF, fF, fF, fF, fF, fF, fF, fF] _ _ (by kernel_rfl) (all_t rfl (all_t rfl (all_t rfl (all_f c32 (all_f c32 (all_f c32 (all_f c32 (all_f c32 (all_f c32 (all_f c32 (all_f c32 (all_f Bool.false_ne_true all_nil))))))))))))
            have hs2 : (turns (hds 8 3610) 0 3610 (cb1 m) (m + 21) p8_e15 (p8_e20 x0)).run = some (.exit 0, p8_e5, (p8_e20 x0)) := Eq.mp (by kernel_rfl) hp3
            have hp2 := turns_step ht2 hs2
            have ht1 : (turn (hds 8 3610) 0 3610 (cb1 m) p8_e13 (p8_e20 x0)).run = some (.normal, p8_e14, (p8_e20 x0)) := M.run_of_path _ [tT, tT, tT, fF, fF, fF, fF, fF, fF, fF, fF, fF] _ _ (by kernel_rfl) (all_t rfl (all_t rfl (all_t rfl (all_f c20 (all_f c20 (all_f c20 (all_f c20 (all_f c20 (all_f c20 (all_f c20 (all_f c20 (all_f Bool.false_ne_true all_nil))))))))))))
            have hs1 : (turns (hds 8 3610) 0 3610 (cb1 m) (m + 22) p8_e14 (p8_e20 x0)).run = some (.exit 0, p8_e5, (p8_e20 x0)) := Eq.mp (by kernel_rfl) hp2
            have hp1 := turns_step ht1 hs1
            have ht0 : (turn (hds 8 3610) 0 3610 (cb1 m) p8_e6 (p8_e20 x0)).run = some (.normal, p8_e13, (p8_e20 x0)) := M.run_of_path _ [tT, tT, tT, tT, tT, tT, tT, tT, tT, tT, tT, tT, tT, fF] _ _ (by kernel_rfl) (all_t rfl (all_t rfl (all_t rfl (all_t c6 (all_t c6 (all_t c6 (all_t c6 (all_t rfl (all_t c6 (all_t c6 (all_t c6 (all_t c6 (all_t c6 (all_f c16 all_nil))))))))))))))
            have hs0 : (turns (hds 8 3610) 0 3610 (cb1 m) (m + 23) p8_e13 (p8_e20 x0)).run = some (.exit 0, p8_e5, (p8_e20 x0)) := Eq.mp (by kernel_rfl) hp1
            have hp0 := turns_step ht0 hs0
            exact Eq.trans (Eq.mp (by kernel_rfl) hp0) hq
          cases hp
  · skip
    refine ite_cases h (fun c18 h => ?_) (fun c18 h => ?_)
    · skip
      refine ite_cases h (fun c28 h => ?_) (fun c28 h => ?_)
      · skip
        obtain ⟨c29, h⟩ := iY h
        obtain ⟨c31, h⟩ := iY h
        obtain ⟨c32, h⟩ := iY h
        refine ite_cases h (fun c39 h => ?_) (fun c39 h => ?_)
        · skip
          refine ite_cases h (fun c49 h => ?_) (fun c49 h => ?_)
          · skip
            obtain ⟨c50, h⟩ := iY h
            obtain ⟨c52, h⟩ := iY h
            obtain ⟨c53, h⟩ := iY h
            cases h
            refine ⟨(.d (.sl (.pair .str .str) [(([98] : Q4), (p8_k2 x0)), (([99] : Q4), (p8_k3 x0))])), [], runT_ok (LS := (fun k => if k = 3610 then some (.exit 0, p8_e3, (p8_e19 x0)) else none)) (fn := fn8) (vis := [(3610, p8_e6, (p8_e20 x0))]) (by kernel_rfl) rfl (by kernel_rfl) (M.run_of_path _ [tT, tT, tT, tT] _ _ (by kernel_rfl) (all_t rfl (all_t rfl (all_t rfl (all_t rfl all_nil))))) ?_, by simp, (wkR.one (wkV.one (wk1.eq rfl))), trivial⟩
            intro p hp p2 hq
            rcases List.mem_cons.1 hp with rfl | hp
            · skip
              have ht3 : (turn (hds 8 3610) 0 3610 (cb1 m) p8_e10 (p8_e19 x0)).run = some (.exit 0, p8_e3, (p8_e19 x0)) := M.run_of_path _ [fF] _ _ (by kernel_rfl) (all_f Bool.false_ne_true all_nil)
              have hp3 := turns_last (n := m + 20) (by simp) ht3
              have ht2 : (turn (hds 8 3610) 0 3610 (cb1 m) p8_e11 (p8_e22 x0)).run = some (.normal, p8_e10, (p8_e19 x0)) := M.run_of_path _ [tT, tT, tT, tT, tT, tT, tT, tT, tT, tT, tT, tT, tT, tT, tT, tT, tT, tT, tT, tT, tT] _ _ (by kernel_rfl) (all_t rfl (all_t rfl (all_t rfl (all_t c39 (all_t c39 (all_t c39 (all_t c39 (all_t rfl (all_t c39 (all_t c39 (all_t c39 (all_t c39 (all_t c39 (all_t c49 (all_t c50 (all_t rfl (all_t c52 (all_t c53 (all_t rfl (all_t rfl (all_t rfl all_nil)))))))))))))))))))))
              have hs2 : (turns (hds 8 3610) 0 3610 (cb1 m) (m + 21) p8_e10 (p8_e19 x0)).run = some (.exit 0, p8_e3, (p8_e19 x0)) := Eq.mp (by kernel_rfl) hp3
              have hp2 := turns_step ht2 hs2
              have ht1 : (turn (hds 8 3610) 0 3610 (cb1 m) p8_e13 (p8_e20 x0)).run = some (.normal, p8_e11, (p8_e22 x0)) := M.run_of_path _ [tT, tT, tT, tT, tT, tT, tT, tT, tT, tT, tT, tT, tT, tT, tT, tT, tT, tT, tT, tT, tT] _ _ (by kernel_rfl) (all_t rfl (all_t rfl (all_t rfl (all_t c18 (all_t c18 (all_t c18 (all_t c18 (all_t rfl (all_t c18 (all_t c18 (all_t c18 (all_t c18 (all_t c18 (all_t c28 (all_t c29 (all_t rfl (all_t c31 (all_t c32 (all_t rfl (all_t rfl (all_t rfl all_nil)))))))))))))))))))))
              have hs1 : (turns (hds 8 3610) 0 3610 (cb1 m) (m + 22) p8_e11 (p8_e22 x0)).run = some (.exit 0, p8_e3, (p8_e19 x0)) := Eq.mp (by kernel_rfl) hp2
              have hp1 := turns_step ht1 hs1
              have ht0 : (turn (hds 8 3610) 0 3610 (cb1 m) p8_e6 (p8_e20 x0)).run = some (.normal, p8_e13, (p8_e20 x0)) := M.run_of_path _ [tT, tT, tT, fF, fF, fF, fF, fF, fF, fF, fF, fF] _ _ (by kernel_rfl) (all_t rfl (all_t rfl (all_t rfl (all_f c6 (all_f c6 (all_f c6 (all_f c6 (all_f c6 (all_f c6 (all_f c6 (all_f c6 (all_f Bool.false_ne_true all_nil))))))))))))
              have hs0 : (turns (hds 8 3610) 0 3610 (cb1 m) (m + 23) p8_e13 (p8_e20 x0)).run = some (.exit 0, p8_e3, (p8_e19 x0)) := Eq.mp (by kernel_rfl) hp1
              have hp0 := turns_step ht0 hs0
              exact Eq.trans (Eq.mp (by kernel_rfl) hp0) hq
            cases hp
          · skip
            cases h
            refine ⟨(.d (.sl (.pair .str .str) [(([98] : Q4), (p8_k2 x0))])), [], runT_ok (LS := (fun k => if k = 3610 then some (.exit 0, p8_e4, (p8_e22 x0)) else none)) (fn := fn8) (vis := [(3610, p8_e6, (p8_e20 x0))]) (by kernel_rfl) rfl (by kernel_rfl) (M.run_of_path _ [tT, tT, tT, tT] _ _ (by kernel_rfl) (all_t rfl (all_t rfl (all_t rfl (all_t rfl all_nil))))) ?_, by simp, (wkR.one (wkV.one (wk1.eq rfl))), trivial⟩
            intro p hp p2 hq
            rcases List.mem_cons.1 hp with rfl | hp
            · skip
              have ht3 : (turn (hds 8 3610) 0 3610 (cb1 m) p8_e12 (p8_e22 x0)).run = some (.exit 0, p8_e4, (p8_e22 x0)) := M.run_of_path _ [fF] _ _ (by kernel_rfl) (all_f Bool.false_ne_true all_nil)
              have hp3 := turns_last (n := m + 20) (by simp) ht3
              have ht2 : (turn (hds 8 3610) 0 3610 (cb1 m) p8_e11 (p8_e22 x0)).run = some (.normal, p8_e12, (p8_e22 x0)) := M.run_of_path _ [tT, tT, tT, tT, tT, tT, tT, tT, tT, tT, tT, tT, tT, fF] _ _ (by kernel_rfl) (all_t rfl (all_t rfl (all_t rfl (all_t c39 (all_t c39 (all_t c39 (all_t c39 (all_t rfl (all_t c39 (all_t c39 (all_t c39 (all_t c39 (all_t c39 (all_f c49 all_nil))))))))))))))
              have hs2 : (turns (hds 8 3610) 0 3610 (cb1 m) (m + 21) p8_e12 (p8_e22 x0)).run = some (.exit 0, p8_e4, (p8_e22 x0)) := Eq.mp (by kernel_rfl) hp3
              have hp2 := turns_step ht2 hs2
              have ht1 : (turn (hds 8 3610) 0 3610 (cb1 m) p8_e13 (p8_e20 x0)).run = some (.normal, p8_e11, (p8_e22 x0)) := M.run_of_path _ [tT, tT, tT, tT, tT, tT, tT, tT, tT, tT, tT, tT, tT, tT, tT, tT, tT, tT, tT, tT, tT] _ _ (by kernel_rfl) (all_t rfl (all_t rfl (all_t rfl (all_t c18 (all_t c18 (all_t c18 (all_t c18 (all_t rfl (all_t c18 (all_t c18 (all_t c18 (all_t c18 (all_t c18 (all_t c28 (all_t c29 (all_t rfl (all_t c31 (all_t c32 (all_t rfl (all_t rfl (all_t rfl all_nil)))))))))))))))))))))
              have hs1 : (turns (hds 8 3610) 0 3610 (cb1 m) (m + 22) p8_e11 (p8_e22 x0)).run = some (.exit 0, p8_e4, (p8_e22 x0)) := Eq.mp (by kernel_rfl) hp2
              have hp1 := turns_step ht1 hs1
              have ht0 : (turn (hds 8 3610) 0 3610 (cb1 m) p8_e6 (p8_e20 x0)).run = some (.normal, p8_e13, (p8_e20 x0)) := M.run_of_path _ [tT, tT, tT, fF, fF, fF, fF, fF, fF, fF, fF, fF] _ _ (by kernel_rfl) (all_t rfl (all_t rfl (all_t rfl (all_f c6 (all_f c6 (all_f c6 (all_f c6 (all_f c6 (all_f c6 (all_f c6 (all_f c6 (all_f Bool.false_ne_true all_nil))))))))))))
              have hs0 : (turns (hds 8 3610) 0 3610 (cb1 m) (m + 23) p8_e13 (p8_e20 x0)).run = some (.exit 0, p8_e4, (p8_e22 x0)) := Eq.mp (by kernel_rfl) hp1
              have hp0 := turns_step ht0 hs0
              exact Eq.trans (Eq.mp (by kernel_rfl) hp0) hq
            cases hp
        · skip
          cases h
          refine ⟨(.d (.sl (.pair .str .str) [(([98] : Q4), (p8_k2 x0))])), [], runT_ok (LS := (fun k => if k = 3610 then some (.exit 0, p8_e4, (p8_e22 x0)) else none)) (fn := fn8) (vis := [(3610, p8_e6, (p8_e20 x0))]) (by kernel_rfl) rfl (by kernel_rfl) (M.run_of_path _ [tT, tT, tT, tT] _ _ (by kernel_rfl) (all_t rfl (all_t rfl (all_t rfl (all_t rfl all_nil))))) ?_, by simp, (wkR.one (wkV.one (wk1.eq rfl))), trivial⟩
          intro p hp p2 hq
          rcases List.mem_cons.1 hp with rfl | hp
          · skip
            have ht3 : (turn (hds 8 3610) 0 3610 (cb1 m) p8_e12 (p8_e22 x0)).run = some (.exit 0, p8_e4, (p8_e22 x0)) := M.run_of_path _ [fF] _ _ (by kernel_rfl) (all_f Bool.false_ne_true all_nil)
            have hp3 := turns_last (n := m + 20) (by simp) ht3
            have ht2 : (turn (hds 8 3610) 0 3610 (cb1 m) p8_e11 (p8_e22 x0)).run = some (.normal, p8_e12, (p8_e22 x0)) := M.run_of_path _ [tT, tT, tT, fF, fF, fF, fF, fF, fF, fF, fF, fF] _ _ (by kernel_rfl) (all_t rfl (all_t rfl (all_t rfl (all_f c39 (all_f c39 (all_f c39 (all_f c39 (all_f c39 (all_f c39 (all_f c39 (all_f c39 (all_f Bool.false_ne_true all_nil))))))))))))
            have hs2 : (turns (hds 8 3610) 0 3610 (cb1 m) (m + 21) p8_e12 (p8_e22 x0)).run = some (.exit 0, p8_e4, (p8_e22 x0)) := Eq.mp (by kernel_rfl) hp3
            have hp2 := turns_step ht2 hs2
            have ht1 : (turn (hds 8 3610) 0 3610 (cb1 m) p8_e13 (p8_e20 x0)).run = some (.normal, p8_e11, (p8_e22 x0)) := M.run_of_path _ [tT, tT, tT, tT, tT, tT, tT, tT, tT, tT, tT, tT, tT, tT, tT, tT, tT, tT, tT, tT, tT] _ _ (by kernel_rfl) (all_t rfl (all_t rfl (all_t rfl (all_t c18 (all_t c18 (all_t c18 (all_t c18 (all_t rfl (all_t c18 (all_t c18 (all_t c18 (all_t c18 (all_t c18 (all_t c28 (all_t c29 (all_t rfl (all_t c31 (all_t c32 (all_t rfl (all_t rfl (all_t rfl all_nil)))))))))))))))))))))
            have hs1 : (turns (hds 8 3610) 0 3610 (cb1 m) (m + 22) p8_e11 (p8_e22 x0)).run = some (.exit 0, p8_e4, (p8_e22 x0)) := Eq.mp (by kernel_rfl) hp2
            have hp1 := turns_step ht1 hs1
            have ht0 : (turn (hds 8 3610) 0 3610 (cb1 m) p8_e6 (p8_e20 x0)).run = some (.normal, p8_e13, (p8_e20 x0)) := M.run_of_path _ [tT, tT, tT, fF, fF, fF, fF, fF, fF, fF, fF, fF] _ _ (by kernel_rfl) (all_t rfl (all_t rfl (all_t rfl (all_f c6 (all_f c6 (all_f c6 (all_f c6 (all_f c6 (all_f c6 (all_f c6 (all_f c6 (all_f Bool.false_ne_true all_nil))))))))))))
            have hs0 : (turns (hds 8 3610) 0 3610 (cb1 m) (m + 23) p8_e13 (p8_e20 x0)).run = some (.exit 0, p8_e4, (p8_e22 x0)) := Eq.mp (by kernel_rfl) hp1
            have hp0 := turns_step ht0 hs0
            exact Eq.trans (Eq.mp (by kernel_rfl) hp0) hq
          cases hp
      · skip
        refine ite_cases h (fun c32 h => ?_) (fun c32 h => ?_)
        · skip
          refine ite_cases h (fun c42 h => ?_) (fun c42 h => ?_)
          · skip
            obtain ⟨c43, h⟩ := iY h
            obtain ⟨c45, h⟩ := iY h
            obtain ⟨c46, h⟩ := iY h
            cases h
            refine ⟨(.d (.sl (.pair .str .str) [(([99] : Q4), (p8_k3 x0))])), [], runT_ok (LS := (fun k => if k = 3610 then some (.exit 0, p8_e4, (p8_e23 x0)) else none)) (fn := fn8) (vis := [(3610, p8_e6, (p8_e20 x0))]) (by kernel_rfl) rfl (by kernel_rfl) (M.run_of_path _ [tT, tT, tT, tT] _ _ (by kernel_rfl) (all_t rfl (all_t rfl (all_t rfl (all_t rfl all_nil))))) ?_, by simp, (wkR.one (wkV.one (wk1.eq rfl))), trivial⟩
            intro p hp p2 hq
            rcases List.mem_cons.1 hp with rfl | hp
            · skip
              have ht3 : (turn (hds 8 3610) 0 3610 (cb1 m) p8_e12 (p8_e23 x0)).run = some (.exit 0, p8_e4, (p8_e23 x0)) := M.run_of_path _ [fF] _ _ (by kernel_rfl) (all_f Bool.false_ne_true all_nil)
              have hp3 := turns_last (n := m + 20) (by simp) ht3
              have ht2 : (turn (hds 8 3610) 0 3610 (cb1 m) p8_e14 (p8_e20 x0)).run = some (.normal, p8_e12, (p8_e23 x0)) := M.run_of_path _ [tT, tT, tT, tT, tT, tT, tT, tT, tT, tT, tT, tT, tT, tT, tT, tT, tT, tT, tT, tT, tT] _ _ (by kernel_rfl) (all_t rfl (all_t rfl (all_t rfl (all_t c32 (all_t c32 (all_t c32 (all_t c32 (all_t rfl (all_t c32 (all_t c32 (all_t c32 (all_t c32 (all_t c32 (all_t c42 (all_t c43 (all_t rfl (all_t c45 (all_t c46 (all_t rfl (all_t rfl (all_t rfl all_nil)))))))))))))))))))))
              have hs2 : (turns (hds 8 3610) 0 3610 (cb1 m) (m + 21) p8_e12 (p8_e23 x0)).run = some (.exit 0, p8_e4, (p8_e23 x0)) := Eq.mp (by kernel_rfl) hp3
              have hp2 := turns_step ht2 hs2
              have ht1 : (turn (hds 8 3610) 0 3610 (cb1 m) p8_e13 (p8_e20 x0)).run = some (.normal, p8_e14, (p8_e20 x0)) := M.run_of_path _ [tT, tT, tT, tT, tT, tT, tT, tT, tT, tT, tT, tT, tT, fF] _ _ (by kernel_rfl) (all_t rfl (all_t rfl (all_t rfl (all_t c18 (all_t c18 (all_t c18 (all_t c18 (all_t rfl (all_t c18 (all_t c18 (all_t c18 (all_t c18 (all_t c18 (all_f c28 all_nil))))))))))))))
              have hs1 : (turns (hds 8 3610) 0 3610 (cb1 m) (m + 22) p8_e14 (p8_e20 x0)).run = some (.exit 0, p8_e4, (p8_e23 x0)) := Eq.mp (by kernel_rfl) hp2
              have hp1 := turns_step ht1 hs1
              have ht0 : (turn (hds 8 3610) 0 3610 (cb1 m) p8_e6 (p8_e20 x0)).run = some (.normal, p8_e13, (p8_e20 x0)) := M.run_of_path _ [tT, tT, tT, fF, fF, fF, fF, fF, fF, fF, fF, fF] _ _ (by kernel_rfl) (all_t rfl (all_t rfl (all_t rfl (all_f c6 (all_f c6 (all_f c6 (all_f c6 (all_f c6 (all_f c6 (all_f c6 (all_f c6 (all_f Bool.false_ne_true all_nil))))))))))))
              have hs0 : (turns (hds 8 3610) 0 3610 (cb1 m) (m + 23) p8_e13 (p8_e20 x0)).run = some (.exit 0, p8_e4, (p8_e23 x0)) := Eq.mp (by kernel_rfl) hp1
              have hp0 := turns_step ht0 hs0
              exact Eq.trans (Eq.mp (by kernel_rfl) hp0) hq
            cases hp
          · skip
            cases h
            refine ⟨(.d (.sl (.pair .str .str) ([] : Q2))), [], runT_ok (LS := (fun k => if k = 3610 then some (.exit 0, p8_e5, (p8_e20 x0)) else none)) (fn := fn8) (vis := [(3610, p8_e6, (p8_e20 x0))]) (by kernel_rfl) rfl (by kernel_rfl) (M.run_of_path _ [tT, tT, tT, tT] _ _ (by kernel_rfl) (all_t rfl (all_t rfl (all_t rfl (all_t rfl all_nil))))) ?_, by simp, (wkR.one (wkV.one (wk1.eq rfl))), trivial⟩
            intro p hp p2 hq
            rcases List.mem_cons.1 hp with rfl | hp
            · skip
              have ht3 : (turn (hds 8 3610) 0 3610 (cb1 m) p8_e15 (p8_e20 x0)).run = some (.exit 0, p8_e5, (p8_e20 x0)) := M.run_of_path _ [fF] _ _ (by kernel_rfl) (all_f Bool.false_ne_true all_nil)
              have hp3 := turns_last (n := m + 20) (by simp) ht3
              have ht2 : (turn (hds 8 3610) 0 3610 (cb1 m) p8_e14 (p8_e20 x0)).run = some (.normal, p8_e15, (p8_e20 x0)) := M.run_of_path _ [tT, tT, tT, tT, tT, tT, tT, tT, tT, tT, tT, tT, tT, fF] _ _ (by kernel_rfl) (all_t rfl (all_t rfl (all_t rfl (all_t c32 (all_t c32 (all_t c32 (all_t c32 (all_t rfl (all_t c32 (all_t c32 (all_t c32 (all_t c32 (all_t c32 (all_f c42 all_nil))))))))))))))
              have hs2 : (turns (hds 8 3610) 0 3610 (cb1 m) (m + 21) p8_e15 (p8_e20 x0)).run = some (.exit 0, p8_e5, (p8_e20 x0)) := Eq.mp (by kernel_rfl) hp3
              have hp2 := turns_step ht2 hs2
              have ht1 : (turn (hds 8 3610) 0 3610 (cb1 m) p8_e13 (p8_e20 x0)).run = some (.normal, p8_e14, (p8_e20 x0)) := M.run_of_path _ [tT, tT, tT, tT, tT, tT, tT, tT, tT, tT, tT, tT, tT, fF] _ _ (by kernel_rfl) (all_t rfl (all_t rfl (all_t rfl (all_t c18 (all_t c18 (all_t c18 (all_t c18 (all_t rfl (all_t c18 (all_t c18 (all_t c18 (all_t c18 (all_t c18 (all_f c28 all_nil))))))))))))))
              have hs1 : (turns (hds 8 3610) 0 3610 (cb1 m) (m + 22) p8_e14 (p8_e20 x0)).run = some (.exit 0, p8_e5, (p8_e20 x0)) := Eq.mp (by kernel_rfl) hp2
              have hp1 := turns_step ht1 hs1
              have ht0 : (turn (hds 8 3610) 0 3610 (cb1 m) p8_e6 (p8_e20 x0)).run = some (.normal, p8_e13, (p8_e20 x0)) := M.run_of_path _ [tT, tT, tT, fF, fF, fF, fF, fF, fF, fF, fF, fF] _ _ (by kernel_rfl) (all_t rfl (all_t rfl (all_t rfl (all_f c6 (all_f c6 (all_f c6 (all_f c6 (all_f c6 (all_f c6 (all_f c6 (all_f c6 (all_f Bool.false_ne_true all_nil))))))))))))
              have hs0 : (turns (hds 8 3610) 0 3610 (cb1 m) (m + 23) p8_e13 (p8_e20 x0)).run = some (.exit 0, p8_e5, (p8_e20 x0)) := Eq.mp (by kernel_rfl) hp1
              have hp0 := turns_step ht0 hs0
              exact Eq.trans (Eq.mp (by kernel_rfl) hp0) hq
            cases hp
        · skip
          cases h
          refine ⟨(.d (.sl (.pair .str .str) ([] : Q2))), [], runT_ok (LS := (fun k => if k = 3610 then some (.exit 0, p8_e5, (p8_e20 x0)) else none)) (fn := fn8) (vis := [(3610, p8_e6, (p8_e20 x0))]) (by kernel_rfl) rfl (by kernel_rfl) (M.run_of_path _ [tT, tT, tT, tT] _ _ (by kernel_rfl) (all_t rfl (all_t rfl (all_t rfl (all_t rfl all_nil))))) ?_, by simp, (wkR.one (wkV.one (wk1.eq rfl))), trivial⟩
          intro p hp p2 hq
          rcases List.mem_cons.1 hp with rfl | hp
          · skip
            have ht3 : (turn (hds 8 3610) 0 3610 (cb1 m) p8_e15 (p8_e20 x0)).run = some (.exit 0, p8_e5, (p8_e20 x0)) := M.run_of_path _ [fF] _ _ (by kernel_rfl) (all_f Bool.false_ne_true all_nil)
            have hp3 := turns_last (n := m + 20) (by simp) ht3
            have ht2 : (turn (hds 8 3610) 0 3610 (cb1 m) p8_e14 (p8_e20 x0)).run = some (.normal, p8_e15, (p8_e20 x0)) := M.run_of_path _ [tT, tT, tT, fF, fF, fF, fF, fF, fF, fF, fF, fF] _ _ (by kernel_rfl) (all_t rfl (all_t rfl (all_t rfl (all_f c32 (all_f c32 (all_f c32 (all_f c32 (all_f c32 (all_f c32 (all_f c32 (all_f c32 (all_f Bool.false_ne_true all_nil))))))))))))
            have hs2 : (turns (hds 8 3610) 0 3610 (cb1 m) (m + 21) p8_e15 (p8_e20 x0)).run = some (.exit 0, p8_e5, (p8_e20 x0)) := Eq.mp (by kernel_rfl) hp3
            have hp2 := turns_step ht2 hs2
            have ht1 : (turn (hds 8 3610) 0 3610 (cb1 m) p8_e13 (p8_e20 x0)).run = some (.normal, p8_e14, (p8_e20 x0)) := M.run_of_path _ [tT, tT, tT, tT, tT, tT, tT, tT, tT, tT, tT, tT, tT, fF] _ _ (by kernel_rfl) (all_t rfl (all_t rfl (all_t rfl (all_t c18 (all_t c18 (all_t c18 (all_t c18 (all_t rfl (all_t c18 (all_t c18 (all_t c18 (all_t c18 (all_t c18 (all_f c28 all_nil))))))))))))))
            have hs1 : (turns (hds 8 3610) 0 3610 (cb1 m) (m + 22) p8_e14 (p8_e20 x0)).run = some (.exit 0, p8_e5, (p8_e20 x0)) := Eq.mp (by kernel_rfl) hp2
            have hp1 := turns_step ht1 hs1
            have ht0 : (turn (hds 8 3610) 0 3610 (cb1 m) p8_e6 (p8_e20 x0)).run = some (.normal, p8_e13, (p8_e20 x0)) := M.run_of_path _ [tT, tT, tT, fF, fF, fF, fF, fF, fF, fF, fF, fF] _ _ (by kernel_rfl) (all_t rfl (all_t rfl (all_t rfl (all_f c6 (all_f c6 (all_f c6 (all_f c6 (all_f c6 (all_f c6 (all_f c6 (all_f c6 (all_f Bool.false_ne_true all_nil))))))))))))
            have hs0 : (turns (hds 8 3610) 0 3610 (cb1 m) (m + 23) p8_e13 (p8_e20 x0)).run = some (.exit 0, p8_e5, (p8_e20 x0)) := Eq.mp (by kernel_rfl) hp1
            have hp0 := turns_step ht0 hs0
            exact Eq.trans (Eq.mp (by kernel_rfl) hp0) hq
          cases hp
    · skip
      refine ite_cases h (fun c30 h => ?_) (fun c30 h => ?_)
      · skip
        refine ite_cases h (fun c40 h => ?_) (fun c40 h => ?_)
        · skip
          obtain ⟨c41, h⟩ := iY h
          obtain ⟨c43, h⟩ := iY h
          obtain ⟨c44, h⟩ := iY h
          cases h
          refine ⟨(.d (.sl (.pair .str .str) [(([99] : Q4), (p8_k3 x0))])), [], runT_ok (LS := (fun k => if k = 3610 then some (.exit 0, p8_e4, (p8_e23 x0)) else none)) (fn := fn8) (vis := [(3610, p8_e6, (p8_e20 x0))]) (by kernel_rfl) rfl (by kernel_rfl) (M.run_of_path _ [tT, tT, tT, tT] _ _ (by kernel_rfl) (all_t rfl (all_t rfl (all_t rfl (all_t rfl all_nil))))) ?_, by simp, (wkR.one (wkV.one (wk1.eq rfl))), trivial⟩
          intro p hp p2 hq
          rcases List.mem_cons.1 hp with rfl | hp
          · skip
            have ht3 : (turn (hds 8 3610) 0 3610 (cb1 m) p8_e12 (p8_e23 x0)).run = some (.exit 0, p8_e4, (p8_e23 x0)) := M.run_of_path _ [fF] _ _ (by kernel_rfl) (all_f Bool.false_ne_true all_nil)
            have hp3 := turns_last (n := m + 20) (by simp) ht3
            have ht2 : (turn (hds 8 3610) 0 3610 (cb1 m) p8_e14 (p8_e20 x0)).run = some (.normal, p8_e12, (p8_e23 x0)) := M.run_of_path _ [tT, tT, tT, tT, tT, tT, tT, tT, tT, tT, tT, tT, tT, tT, tT, tT, tT, tT, tT, tT, tT] _ _ (by kernel_rfl) (all_t rfl (all_t rfl (all_t rfl (all_t c30 (all_t c30 (all_t c30 (all_t c30 (all_t rfl (all_t c30 (all_t c30 (all_t c30 (all_t c30 (all_t c30 (all_t c40 (all_t c41 (all_t rfl (all_t c43 (all_t c44 (all_t rfl (all_t rfl (all_t rfl all_nil)))))))))))))))))))))
            have hs2 : (turns (hds 8 3610) 0 3610 (cb1 m) (m + 21) p8_e12 (p8_e23 x0)).run = some (.exit 0, p8_e4, (p8_e23 x0)) := Eq.mp (by kernel_rfl) hp3
            have hp2 := turns_step ht2 hs2
            have ht1 : (turn (hds 8 3610) 0 3610 (cb1 m) p8_e13 (p8_e20 x0)).run = some (.normal, p8_e14, (p8_e20 x0)) := M.run_of_path _ [tT, tT, tT, fF, fF, fF, fF, fF, fF, fF, fF, fF] _ _ (by kernel_rfl) (all_t rfl (all_t rfl (all_t rfl (all_f c18 (all_f c18 (all_f c18 (all_f c18 (all_f c18 (all_f c18 (all_f c18 (all_f c18 (all_f Bool.false_ne_true all_nil))))))))))))
            have hs1 : (turns (hds 8 3610) 0 3610 (cb1 m) (m + 22) p8_e14 (p8_e20 x0)).run = some (.exit 0, p8_e4, (p8_e23 x0)) := Eq.mp (by kernel_rfl) hp2
            have hp1 := turns_step ht1 hs1
            have ht0 : (turn (hds 8 3610) 0 3610 (cb1 m) p8_e6 (p8_e20 x0)).run = some (.normal, p8_e13, (p8_e20 x0)) := M.run_of_path _ [tT, tT, tT, fF, fF, fF, fF, fF, fF, fF, fF, fF] _ _ (by kernel_rfl) (all_t rfl (all_t rfl (all_t rfl (all_f c6 (all_f c6 (all_f c6 (all_f c6 (all_f c6 (all_f c6 (all_f c6 (all_f c6 (all_f Bool.false_ne_true all_nil))))))))))))
            have hs0 : (turns (hds 8 3610) 0 3610 (cb1 m) (m + 23) p8_e13 (p8_e20 x0)).run = some (.exit 0, p8_e4, (p8_e23 x0)) := Eq.mp (by kernel_rfl) hp1
            have hp0 := turns_step ht0 hs0
            exact Eq.trans (Eq.mp (by kernel_rfl) hp0) hq
          cases hp
        · skip
          cases h
          refine ⟨(.d (.sl (.pair .str .str) ([] : Q2))), [], runT_ok (LS := (fun k => if k = 3610 then some (.exit 0, p8_e5, (p8_e20 x0)) else none)) (fn := fn8) (vis := [(3610, p8_e6, (p8_e20 x0))]) (by kernel_rfl) rfl (by kernel_rfl) (M.run_of_path _ [tT, tT, tT, tT] _ _ (by kernel_rfl) (all_t rfl (all_t rfl (all_t rfl (all_t rfl all_nil))))) ?_, by simp, (wkR.one (wkV.one (wk1.eq rfl))), trivial⟩
          intro p hp p2 hq
          rcases List.mem_cons.1 hp with rfl | hp
          · skip
            have ht3 : (turn (hds 8 3610) 0 3610 (cb1 m) p8_e15 (p8_e20 x0)).run = some (.exit 0, p8_e5, (p8_e20 x0)) := M.run_of_path _ [fF] _ _ (by kernel_rfl) (all_f Bool.false_ne_true all_nil)
            have hp3 := turns_last (n := m + 20) (by simp) ht3
            have ht2 : (turn (hds 8 3610) 0 3610 (cb1 m) p8_e14 (p8_e20 x0)).run = some (.normal, p8_e15, (p8_e20 x0)) := M.run_of_path _ [tT, tT, tT, tT, tT, tT, tT, tT, tT, tT, tT, tT, tT, fF] _ _ (by kernel_rfl) (all_t rfl (all_t rfl (all_t rfl (all_t c30 (all_t c30 (all_t c30 (all_t c30 (all_t rfl (all_t c30 (all_t c30 (all_t c30 (all_t c30 (all_t c30 (all_f c40 all_nil))))))))))))))
            have hs2 : (turns (hds 8 3610) 0 3610 (cb1 m) (m + 21) p8_e15 (p8_e20 x0)).run = some (.exit 0, p8_e5, (p8_e20 x0)) := Eq.mp (by kernel_rfl) hp3
            have hp2 := turns_step ht2 hs2
            have ht1 : (turn (hds 8 3610) 0 3610 (cb1 m) p8_e13 (p8_e20 x0)).run = some (.normal, p8_e14, (p8_e20 x0)) := M.run_of_path _ [tT, tT, tT, fF, fF, fF, fF, fF, fF, fF, fF, fF] _ _ (by kernel_rfl) (all_t rfl (all_t rfl (all_t rfl (all_f c18 (all_f c18 (all_f c18 (all_f c18 (all_f c18 (all_f c18 (all_f c18 (all_f c18 (all_f Bool.false_ne_true all_nil))))))))))))
            have hs1 : (turns (hds 8 3610) 0 3610 (cb1 m) (m + 22) p8_e14 (p8_e20 x0)).run = some (.exit 0, p8_e5, (p8_e20 x0)) := Eq.mp (by kernel_rfl) hp2
            have hp1 := turns_step ht1 hs1
            have ht0 : (turn (hds 8 3610) 0 3610 (cb1 m) p8_e6 (p8_e20 x0)).run = some (.normal, p8_e13, (p8_e20 x0)) := M.run_of_path _ [tT, tT, tT, fF, fF, fF, fF, fF, fF, fF, fF, fF] _ _ (by kernel_rfl) (all_t rfl (all_t rfl (all_t rfl (all_f c6 (all_f c6 (all_f c6 (all_f c6 (all_f c6 (all_f c6 (all_f c6 (all_f c6 (all_f Bool.false_ne_true all_nil))))))))))))
            have hs0 : (turns (hds 8 3610) 0 3610 (cb1 m) (m + 23) p8_e13 (p8_e20 x0)).run = some (.exit 0, p8_e5, (p8_e20 x0)) := Eq.mp (by kernel_rfl) hp1
            have hp0 := turns_step ht0 hs0
            exact Eq.trans (Eq.mp (by kernel_rfl) hp0) hq
          cases hp
      · skip
        cases h
        refine ⟨(.d (.sl (.pair .str .str) ([] : Q2))), [], runT_ok (LS := (fun k => if k = 3610 then some (.exit 0, p8_e5, (p8_e20 x0)) else none)) (fn := fn8) (vis := [(3610, p8_e6, (p8_e20 x0))]) (by kernel_rfl) rfl (by kernel_rfl) (M.run_of_path _ [tT, tT, tT, tT] _ _ (by kernel_rfl) (all_t rfl (all_t rfl (all_t rfl (all_t rfl all_nil))))) ?_, by simp, (wkR.one (wkV.one (wk1.eq rfl))), trivial⟩
        intro p hp p2 hq
        rcases List.mem_cons.1 hp with rfl | hp
        · skip
          have ht3 : (turn (hds 8 3610) 0 3610 (cb1 m) p8_e15 (p8_e20 x0)).run = some (.exit 0, p8_e5, (p8_e20 x0)) := M.run_of_path _ [fF] _ _ (by kernel_rfl) (all_f Bool.false_ne_true all_nil)
          have hp3 := turns_last (n := m + 20) (by simp) ht3
          have ht2 : (turn (hds 8 3610) 0 3610 (cb1 m) p8_e14 (p8_e20 x0)).run = some (.normal, p8_e15, (p8_e20 x0)) := M.run_of_path _ [tT, tT, tT, fF, fF, fF, fF, fF, fF, fF, fF, fF] _ _ (by kernel_rfl) (all_t rfl (all_t rfl (all_t rfl (all_f c30 (all_f c30 (all_f c30 (all_f c30 (all_f c30 (all_f c30 (all_f c30 (all_f c30 (all_f Bool.false_ne_true all_nil))))))))))))
          have hs2 : (turns (hds 8 3610) 0 3610 (cb1 m) (m + 21) p8_e15 (p8_e20 x0)).run = some (.exit 0, p8_e5, (p8_e20 x0)) := Eq.mp (by kernel_rfl) hp3
          have hp2 := turns_step ht2 hs2
          have ht1 : (turn (hds 8 3610) 0 3610 (cb1 m) p8_e13 (p8_e20 x0)).run = some (.normal, p8_e14, (p8_e20 x0)) := M.run_of_path _ [tT, tT, tT, fF, fF, fF, fF, fF, fF, fF, fF, fF] _ _ (by kernel_rfl) (all_t rfl (all_t rfl (all_t rfl (all_f c18 (all_f c18 (all_f c18 (all_f c18 (all_f c18 (all_f c18 (all_f c18 (all_f c18 (all_f Bool.false_ne_true all_nil))))))))))))
          have hs1 : (turns (hds 8 3610) 0 3610 (cb1 m) (m + 22) p8_e14 (p8_e20 x0)).run = some (.exit 0, p8_e5, (p8_e20 x0)) := Eq.mp (by kernel_rfl) hp2
          have hp1 := turns_step ht1 hs1
          have ht0 : (turn (hds 8 3610) 0 3610 (cb1 m) p8_e6 (p8_e20 x0)).run = some (.normal, p8_e13, (p8_e20 x0)) := M.run_of_path _ [tT, tT, tT, fF, fF, fF, fF, fF, fF, fF, fF, fF] _ _ (by kernel_rfl) (all_t rfl (all_t rfl (all_t rfl (all_f c6 (all_f c6 (all_f c6 (all_f c6 (all_f c6 (all_f c6 (all_f c6 (all_f c6 (all_f Bool.false_ne_true all_nil))))))))))))
          have hs0 : (turns (hds 8 3610) 0 3610 (cb1 m) (m + 23) p8_e13 (p8_e20 x0)).run = some (.exit 0, p8_e5, (p8_e20 x0)) := Eq.mp (by kernel_rfl) hp1
          have hp0 := turns_step ht0 hs0
          exact Eq.trans (Eq.mp (by kernel_rfl) hp0) hq
        cases hp

def valuesG : Q3 := [([120] : Q4), ([121] : Q4), ([120, 121] : Q4), ([49] : Q4), ([34] : Q4), ([92] : Q4), ([123, 125] : Q4), ([122, 32, 122] : Q4)]
def bit1 (l : List Int) (i : Int) (j : Nat) : Bool := decide (i < (((List.length l) : Nat) : Int)) && ((IntKind.wrap .i64 ((((BitVec.ofInt 64 (List.getD l j 0) &&& BitVec.ofInt 64 (1)).toNat : Nat) : Int))) == (1))
def valG (l : List Int) (i : Int) : Q4 := List.getD valuesG (Int.toNat (withinI (pickG l i) (0) (7))) ([] : Q4)
def setG (k : List Int × List Int) : LB := (if bit1 k.1 0 0 then [(([97] : Q4), valG k.2 0)] else []) ++ (if bit1 k.1 1 1 then [(([98] : Q4), valG k.2 1)] else []) ++ (if bit1 k.1 2 2 then [(([99] : Q4), valG k.2 2)] else [])
theorem set15 (k : List Int × List Int) (_ : true = true) : ∃ m, p8 m k = some (setG k) := by
  refine ⟨0, ?_⟩
  have p0 : pickPre k.2 (0) = true := decide_eq_true (by omega)
  have p1 : pickPre k.2 (1) = true := decide_eq_true (by omega)
  have p2 : pickPre k.2 (2) = true := decide_eq_true (by omega)
  have w : ∀ n : Int, 0 ≤ withinI n (0) (7) ∧ withinI n (0) (7) < 8 := fun n => by unfold withinI; omega
  have w1 : ∀ n : Int, decide (0 ≤ (withinI n (0) (7))) = true := fun n => decide_eq_true (w n).1
  have w2 : ∀ n : Int, decide ((withinI n (0) (7)) < 8) = true := fun n => decide_eq_true (w n).2
  unfold p8 setG bit1 valG valuesG
  simp only [p0, p1, p2, w1, w2, ↓reduceIte]
  generalize decide (0 < (((List.length k.1) : Nat) : Int)) = a0
  generalize decide (1 < (((List.length k.1) : Nat) : Int)) = a1
  generalize decide (2 < (((List.length k.1) : Nat) : Int)) = a2
  generalize ((IntKind.wrap .i64 ((((BitVec.ofInt 64 (List.getD k.1 0 0) &&& BitVec.ofInt 64 (1)).toNat : Nat) : Int))) == (1)) = b0
  generalize ((IntKind.wrap .i64 ((((BitVec.ofInt 64 (List.getD k.1 1 0) &&& BitVec.ofInt 64 (1)).toNat : Nat) : Int))) == (1)) = b1
  generalize ((IntKind.wrap .i64 ((((BitVec.ofInt 64 (List.getD k.1 2 0) &&& BitVec.ofInt 64 (1)).toNat : Nat) : Int))) == (1)) = b2
  cases a0 <;> cases b0 <;> cases a1 <;> cases b1 <;> cases a2 <;> cases b2 <;> rfl
def s8 : List AV → Boxes → M (AV × Boxes) := normS [.val (.pair (.sl (.int .i64)) (.sl (.int .i64)))] [] fun xs B => match xs, B with
  | [(.agg [(.d (.sl (.int .i64) c1)), (.d (.sl (.int .i64) c2))])], [] => .chk (true) (.ret ((.d (.sl (.pair .str .str) (setG ((c1, c2))))), []))
  | _, _ => .fail
theorem s8_at : CallAt Tryd.prog 8 s8 := by
  refine CallAt.norm (CallAt.weakE (g := fun n => evCall F S8 n 8) (fun n => evCall_atH mixed kinds hds S8 S8_ok n 8) fun xs B r' B' hr => ?_) _ _
  split at hr
  · rename_i c1 c2
    obtain ⟨hp, hr⟩ := (M.run_chk _ _ _).1 hr
    simp only [M.run, Option.some.injEq, Prod.mk.injEq] at hr
    obtain ⟨rfl, rfl⟩ := hr
    obtain ⟨m, hm⟩ := set15 ((c1, c2)) hp
    obtain ⟨r, B1, h1, h2, h3, h4⟩ := p8_ok m ((c1, c2)) _ hm
    exact ⟨m + 25, r, B1, h1, by simp, h2, h3, h4⟩
  · simp [M.run] at hr
noncomputable def S9 : FuncId → Option (List AV → Boxes → M (AV × Boxes)) := fun f => if f = 8 then some s8 else S8 f
theorem S9_ok : ∀ f s, S9 f = some s → CallAt Tryd.prog f s := by
  intro f s h
  unfold S9 at h
  split at h
  · rename_i e; subst e; cases h; exact s8_at
  · exact S8_ok f s h

end Go.Proofs.YtahdcmicifokgaaDoor.Dec
namespace Go.Proofs.YtahdcmicifokgaaDoor.Dec
open Go.Ev
set_option linter.unusedVariables false
set_option linter.unusedSimpArgs false
set_option maxRecDepth 100000
set_option maxHeartbeats 20000000
noncomputable def fn53 : AFn := (F 53).getD ⟨0, [], .bad, false, false, noHd⟩
noncomputable def body53 : AC := fn53.body
def p53 (m : Nat) (x0 : Q4) : Option (Bool) :=
  if (x0 == ([] : Q4)) = true then
    some (false)
  else
    if decide ((((List.length x0) : Nat) : Int) > 24) = true then
      some (false)
    else
      if decide (0 < (((List.length x0) : Nat) : Int)) = true then
      if decide ((Lib.indexByte ([97, 98, 99, 100, 101, 102, 103, 104, 105, 106, 107, 108, 109, 110, 111, 112, 113, 114, 115, 116, 117, 118, 119, 120, 121, 122] : Q4) (Nat.toUInt8 (Int.toNat ((UInt8.toNat (List.getD x0 0 0) : Nat) : Int)))) < 0) = true then
        some (false)
      else
        if ((decide (List.length x0 ≤ 9223372036854775807) && decide (List.length ([97, 98, 99, 100, 101, 102, 103, 104, 105, 106, 107, 108, 109, 110, 111, 112, 113, 114, 115, 116, 117, 118, 119, 120, 121, 122, 48, 49, 50, 51, 52, 53, 54, 55, 56, 57, 95] : Q4) < 4294967281)) && asciiB ([97, 98, 99, 100, 101, 102, 103, 104, 105, 106, 107, 108, 109, 110, 111, 112, 113, 114, 115, 116, 117, 118, 119, 120, 121, 122, 48, 49, 50, 51, 52, 53, 54, 55, 56, 57, 95] : Q4)) = true then
        some (((Lib.trimS x0 ([97, 98, 99, 100, 101, 102, 103, 104, 105, 106, 107, 108, 109, 110, 111, 112, 113, 114, 115, 116, 117, 118, 119, 120, 121, 122, 48, 49, 50, 51, 52, 53, 54, 55, 56, 57, 95] : Q4)) == ([] : Q4)))
        else none
      else none
theorem p53_ok (m : Nat) (x0 : Q4) (q : Bool) (h : p53 m x0 = some q) : ∃ r B1, (evCall F S9 (m + 25) 53 [(.d (.str x0))] []).run = some (r, B1) ∧ 0 ≤ B1.length ∧ wkR B1 [] r (.d (.bool (q))) ∧ wkBs B1 [] 0 [] := by
  unfold p53 at h
  refine ite_cases h (fun c0 h => ?_) (fun c0 h => ?_)
  · skip
    cases h
    refine ⟨(.d (.bool false)), [], runT_ok (LS := (fun k => none)) (fn := fn53) (vis := []) (by kernel_rfl) rfl (by kernel_rfl) (M.run_of_path _ [tT, tT, tT, tT, tT, tT, tT, tT, tT, tT] _ _ (by kernel_rfl) (all_t c0 (all_t c0 (all_t c0 (all_t c0 (all_t rfl (all_t rfl (all_t rfl (all_t rfl (all_t rfl (all_t rfl all_nil))))))))))) ?_, by simp, (wkR.one (wkV.one (wk1.eq rfl))), trivial⟩
    intro p hp; cases hp
  · skip
    refine ite_cases h (fun c4 h => ?_) (fun c4 h => ?_)
    · skip
      cases h
      refine ⟨(.d (.bool false)), [], runT_ok (LS := (fun k => none)) (fn := fn53) (vis := []) (by kernel_rfl) rfl (by kernel_rfl) (M.run_of_path _ [fF, fF, fF, fF, tT, tT, tT, tT, tT, tT] _ _ (by kernel_rfl) (all_f c0 (all_f c0 (all_f c0 (all_f c0 (all_t c4 (all_t c4 (all_t c4 (all_t c4 (all_t c4 (all_t rfl all_nil))))))))))) ?_, by simp, (wkR.one (wkV.one (wk1.eq rfl))), trivial⟩
      intro p hp; cases hp
    · skip
      obtain ⟨c7, h⟩ := iY h
      refine ite_cases h (fun c11 h => ?_) (fun c11 h => ?_)
      · skip
        cases h
        refine ⟨(.d (.bool false)), [], runT_ok (LS := (fun k => none)) (fn := fn53) (vis := []) (by kernel_rfl) rfl (by kernel_rfl) (M.run_of_path _ [fF, fF, fF, fF, fF, fF, tT, tT, fF, fF, fF, tT] _ _ (by kernel_rfl) (all_f c0 (all_f c0 (all_f c0 (all_f c0 (all_f c4 (all_f c4 (all_t rfl (all_t c7 (all_f c4 (all_f c4 (all_f c4 (all_t c11 all_nil))))))))))))) ?_, by simp, (wkR.one (wkV.one (wk1.eq rfl))), trivial⟩
        intro p hp; cases hp
      · skip
        obtain ⟨c12, h⟩ := iY h
        cases h
        refine ⟨(.d (.bool ((Lib.trimS x0 ([97, 98, 99, 100, 101, 102, 103, 104, 105, 106, 107, 108, 109, 110, 111, 112, 113, 114, 115, 116, 117, 118, 119, 120, 121, 122, 48, 49, 50, 51, 52, 53, 54, 55, 56, 57, 95] : Q4)) == ([] : Q4)))), [], runT_ok (LS := (fun k => none)) (fn := fn53) (vis := []) (by kernel_rfl) rfl (by kernel_rfl) (M.run_of_path _ [fF, fF, fF, fF, fF, fF, tT, tT, fF, fF, fF, fF, tT] _ _ (by kernel_rfl) (all_f c0 (all_f c0 (all_f c0 (all_f c0 (all_f c4 (all_f c4 (all_t rfl (all_t c7 (all_f c4 (all_f c4 (all_f c4 (all_f c11 (all_t c12 all_nil)))))))))))))) ?_, by simp, (wkR.one (wkV.one (wk1.eq rfl))), trivial⟩
        intro p hp; cases hp

def smallB : Q4 := ([97, 98, 99, 100, 101, 102, 103, 104, 105, 106, 107, 108, 109, 110, 111, 112, 113, 114, 115, 116, 117, 118, 119, 120, 121, 122] : Q4)
def wordsB : Q4 := ([97, 98, 99, 100, 101, 102, 103, 104, 105, 106, 107, 108, 109, 110, 111, 112, 113, 114, 115, 116, 117, 118, 119, 120, 121, 122, 48, 49, 50, 51, 52, 53, 54, 55, 56, 57, 95] : Q4)
def letterB (c : UInt8) : Bool := decide (97 ≤ UInt8.toNat c) && decide (UInt8.toNat c ≤ 122)
def innerB (c : UInt8) : Bool := letterB c || (UInt8.toNat c == 95) || (decide (48 ≤ UInt8.toNat c) && decide (UInt8.toNat c ≤ 57))
def wordG (s : Q4) : Bool := decide (1 ≤ s.length) && decide (s.length ≤ 24) && letterB (s.getD 0 0) && s.all innerB
theorem small_all : ∀ k, k < 256 → decide (Lib.indexByte smallB (Nat.toUInt8 k) < 0) = !(decide (97 ≤ k) && decide (k ≤ 122)) := by decide +kernel
theorem words_all : ∀ k, k < 256 → wordsB.contains (Nat.toUInt8 k) = innerB (Nat.toUInt8 k) := by decide +kernel
theorem u8_round (c : UInt8) : Nat.toUInt8 (UInt8.toNat c) = c := UInt8.ofNat_toNat
theorem words_one (c : UInt8) : wordsB.contains c = innerB c := by
  have := words_all (UInt8.toNat c) (UInt8.toNat_lt c)
  rwa [u8_round] at this
theorem small_one (c : UInt8) : decide (Lib.indexByte smallB (Nat.toUInt8 (Int.toNat ((UInt8.toNat c : Nat) : Int))) < 0) = !letterB c := by
  rw [Int.toNat_natCast]
  exact small_all (UInt8.toNat c) (UInt8.toNat_lt c)
theorem dropW_nil {p : UInt8 → Bool} : ∀ (l : Q4), (∀ x ∈ l.dropWhile p, p x = true) → l.dropWhile p = []
  | [], _ => rfl
  | a :: l, h => by
    rw [List.dropWhile_cons] at h ⊢
    by_cases ha : p a = true
    · rw [if_pos ha] at h ⊢; exact dropW_nil l h
    · rw [if_neg ha] at h; exact absurd (h a (List.mem_cons_self ..)) ha
theorem dropW_all {p : UInt8 → Bool} : ∀ (l : Q4), l.dropWhile p = [] → l.all p = true
  | [], _ => rfl
  | a :: l, h => by
    rw [List.dropWhile_cons] at h
    by_cases ha : p a = true
    · rw [if_pos ha] at h; rw [List.all_cons, ha, dropW_all l h]; rfl
    · rw [if_neg ha] at h; cases h
theorem all_dropW {p : UInt8 → Bool} : ∀ (l : Q4), l.all p = true → l.dropWhile p = []
  | [], _ => rfl
  | a :: l, h => by
    rw [List.all_cons, Bool.and_eq_true] at h
    rw [List.dropWhile_cons, if_pos h.1, all_dropW l h.2]
theorem trim_nil (l cs : Q4) : (Lib.trimS l cs == ([] : Q4)) = l.all (cs.contains ·) := by
  rw [Bool.eq_iff_iff, beq_iff_eq]
  show ((l.reverse.dropWhile (cs.contains ·)).reverse).dropWhile (cs.contains ·) = [] ↔ _
  constructor
  · intro h
    have h1 := dropW_all _ h
    rw [List.all_reverse] at h1
    have h2 := dropW_nil l.reverse (fun x hx => List.all_eq_true.1 h1 x hx)
    have h3 := dropW_all _ h2
    rwa [List.all_reverse] at h3
  · intro h
    have h1 : l.reverse.all (cs.contains ·) = true := by rw [List.all_reverse]; exact h
    rw [all_dropW _ h1]; rfl
theorem word36 (s : Q4) (h : decide (s.length ≤ 9223372036854775807) = true) : ∃ m, p53 m s = some (wordG s) := by
  have h := of_decide_eq_true h
  refine ⟨0, ?_⟩
  unfold p53 wordG
  cases s with
  | nil => rfl
  | cons a l =>
    have e0 : ((a :: l) == ([] : Q4)) = false := rfl
    rw [e0, if_neg (by simp)]
    have e1 : decide (1 ≤ (a :: l).length) = true := decide_eq_true (by simp)
    rw [e1, Bool.true_and]
    by_cases h24 : (a :: l).length ≤ 24
    · have e2 : decide ((((List.length (a :: l)) : Nat) : Int) > 24) = false := decide_eq_false (by omega)
      have e3 : decide (0 < (((List.length (a :: l)) : Nat) : Int)) = true := decide_eq_true (by simp)
      have e4 : decide ((a :: l).length ≤ 24) = true := decide_eq_true h24
      rw [e2, if_neg (by simp), if_pos e3, e4, Bool.true_and]
      have hs := small_one ((a :: l).getD 0 0)
      unfold smallB at hs
      rw [hs]
      cases hL : letterB ((a :: l).getD 0 0) with
      | false => rfl
      | true =>
        rw [if_neg (by simp), Bool.true_and]
        have ht := trim_nil (a :: l) wordsB
        have hw : (fun x => wordsB.contains x) = innerB := funext words_one
        rw [hw] at ht
        unfold wordsB at ht
        rw [ht]
        rw [if_pos]
        rw [Bool.and_eq_true, Bool.and_eq_true]
        exact ⟨⟨decide_eq_true h, by decide⟩, by decide +kernel⟩
    · have e2 : decide ((((List.length (a :: l)) : Nat) : Int) > 24) = true := decide_eq_true (by omega)
      have e4 : decide ((a :: l).length ≤ 24) = false := decide_eq_false h24
      rw [if_pos e2, e4]; rfl
def s53 : List AV → Boxes → M (AV × Boxes) := normS [.val .str] [] fun xs B => match xs, B with
  | [(.d (.str c1))], [] => .chk (decide (List.length c1 ≤ 9223372036854775807)) (.ret ((.d (.bool (wordG c1))), []))
  | _, _ => .fail
theorem s53_at : CallAt Tryd.prog 53 s53 := by
  refine CallAt.norm (CallAt.weakE (g := fun n => evCall F S9 n 53) (fun n => evCall_atH mixed kinds hds S9 S9_ok n 53) fun xs B r' B' hr => ?_) _ _
  split at hr
  · rename_i c1
    obtain ⟨hp, hr⟩ := (M.run_chk _ _ _).1 hr
    simp only [M.run, Option.some.injEq, Prod.mk.injEq] at hr
    obtain ⟨rfl, rfl⟩ := hr
    obtain ⟨m, hm⟩ := word36 c1 hp
    obtain ⟨r, B1, h1, h2, h3, h4⟩ := p53_ok m c1 _ hm
    exact ⟨m + 25, r, B1, h1, by simp, h2, h3, h4⟩
  · simp [M.run] at hr
noncomputable def S10 : FuncId → Option (List AV → Boxes → M (AV × Boxes)) := fun f => if f = 53 then some s53 else S9 f
theorem S10_ok : ∀ f s, S10 f = some s → CallAt Tryd.prog f s := by
  intro f s h
  unfold S10 at h
  split at h
  · rename_i e; subst e; cases h; exact s53_at
  · exact S9_ok f s h

noncomputable def fn32 : AFn := (F 32).getD ⟨0, [], .bad, false, false, noHd⟩
noncomputable def body32 : AC := fn32.body
def l32_0 (m : Nat) : Nat → Q4 → Int → Int → List Int → Option (Nat × Int × (List Int))
  | 0, _, _, _, _ => none
  | n + 1, x0, s7, s8, b1 => if decide (s8 < s7) = true then
      if decide (0 ≤ s8) = true then
      if decide (s8 < (((List.length x0) : Nat) : Int)) = true then
      if (((UInt8.toNat (List.getD x0 (Int.toNat s8) 0) : Nat) : Int) == (34)) = true then
        if decide ((((List.length b1) + 1) * 1) ≤ 70368744177664) = true then
        if decide (((((List.length b1) + 1) + 1) * 1) ≤ 70368744177664) = true then
        if decide (((List.length b1) + 1) = (List.length (b1 ++ [(92)]))) = true then
        l32_0 m n x0 s7 ((IntKind.wrap .i64 (s8 + (1)))) (((b1 ++ [(92)]) ++ [((UInt8.toNat (List.getD x0 (Int.toNat s8) 0) : Nat) : Int)]))
        else none
        else none
        else none
      else
        if (((UInt8.toNat (List.getD x0 (Int.toNat s8) 0) : Nat) : Int) == (92)) = true then
          if decide ((((List.length b1) + 1) * 1) ≤ 70368744177664) = true then
          if decide (((((List.length b1) + 1) + 1) * 1) ≤ 70368744177664) = true then
          if decide (((List.length b1) + 1) = (List.length (b1 ++ [(92)]))) = true then
          l32_0 m n x0 s7 ((IntKind.wrap .i64 (s8 + (1)))) (((b1 ++ [(92)]) ++ [((UInt8.toNat (List.getD x0 (Int.toNat s8) 0) : Nat) : Int)]))
          else none
          else none
          else none
        else
          if decide ((((List.length b1) + 1) * 1) ≤ 70368744177664) = true then
          l32_0 m n x0 s7 ((IntKind.wrap .i64 (s8 + (1)))) ((b1 ++ [((UInt8.toNat (List.getD x0 (Int.toNat s8) 0) : Nat) : Int)]))
          else none
      else none
      else none
    else
      some (0, s8, b1)
def l32_0D : Nat × Int × (List Int) := (0, 0, [])
@[reducible] def l32_0R (m n : Nat) (x0 : Q4) (s7 : Int) (s8 : Int) (b1 : List Int) : Nat × Int × (List Int) := Option.getD (l32_0 m n x0 s7 s8 b1) l32_0D
def l32_0H (x0 : Q4) (s7 : Int) (s8 : Int) (b1 : List Int) : Env := ((.d (.str x0)) :: .top :: .top :: (.ptr 0 0) :: .top :: .top :: .top :: (.d (.int .i64 s7)) :: (.d (.int .i64 s8)) :: tp20 [])
def l32_0B (x0 : Q4) (s7 : Int) (s8 : Int) (b1 : List Int) : Boxes := [(.cells [(.ptr 0 0), (.sr 1 0 (List.length b1) 1 none)]), (.arr (.int .u8) b1 true)]
def l32_0E (x0 : Q4) (s7 : Int) (s8 : Int) (b1 : List Int) : Nat → AEx × Env × Boxes
  | _ => (.exit 0, ((.d (.str x0)) :: .top :: .top :: (.ptr 0 0) :: .top :: .top :: .top :: (.d (.int .i64 s7)) :: (.d (.int .i64 s8)) :: (.d (.bool (decide (s8 < s7)))) :: tp19 []), [(.cells [(.ptr 0 0), (.sr 1 0 (List.length b1) 1 none)]), (.arr (.int .u8) b1 true)])
noncomputable def lbl32_0 : AC := loopBody 393 body32
@[reducible] noncomputable def cb2 (m : Nat) := (evC byref (evCall F S10 (m + 24)) (m + 24) 0 (hds 32) lbl32_0)


theorem l32_0_step (m n : Nat) (ih : ∀ (x0 : Q4) (s7 : Int) (s8 : Int) (b1 : List Int) (q : Nat × Int × (List Int)), l32_0 m n x0 s7 s8 b1 = some q → (turns (hds 32 393) 0 393 (cb2 m) n (l32_0H x0 s7 s8 b1) (l32_0B x0 s7 s8 b1)).run = some (l32_0E (x0) (s7) (q.2.1) (q.2.2) q.1)) (x0 : Q4) (s7 : Int) (s8 : Int) (b1 : List Int) (q : Nat × Int × (List Int)) (h : l32_0 m (n + 1) x0 s7 s8 b1 = some q) : (turns (hds 32 393) 0 393 (cb2 m) (n + 1) (l32_0H x0 s7 s8 b1) (l32_0B x0 s7 s8 b1)).run = some (l32_0E (x0) (s7) (q.2.1) (q.2.2) q.1) := by
  rw [l32_0] at h
  refine ite_cases h (fun c0 h => ?_) (fun c0 h => ?_)
  · skip
    obtain ⟨c1, h⟩ := iY h
    obtain ⟨c2, h⟩ := iY h
    refine ite_cases h (fun c3 h => ?_) (fun c3 h => ?_)
    · skip
      obtain ⟨c10, h⟩ := iY h
      obtain ⟨c15, h⟩ := iY h
      obtain ⟨c16, h⟩ := iY h
      have ih := ih _ _ _ _ q h
      have ht : (turn (hds 32 393) 0 393 (cb2 m) (l32_0H x0 s7 s8 b1) (l32_0B x0 s7 s8 b1)).run = some (.normal, ((.d (.str x0)) :: .top :: .top :: (.ptr 0 0) :: .top :: .top :: .top :: (.d (.int .i64 s7)) :: (.d (.int .i64 (IntKind.wrap .i64 (s8 + (1))))) :: tp20 []), [(.cells [(.ptr 0 0), (.sr 1 0 (((List.length b1) + 1) + 1) 1 none)]), (.arr (.int .u8) ((b1 ++ [(92)]) ++ [((UInt8.toNat (List.getD x0 (Int.toNat s8) 0) : Nat) : Int)]) true)]) := M.run_of_path _ [tT, tT, tT, tT, tT, tT, tT, tT, tT, tT, tT, tT, tT, tT, tT, tT, tT] _ _ (by kernel_rfl) (all_t c0 (all_t c1 (all_t c2 (all_t c3 (all_t c3 (all_t c3 (all_t c3 (all_t c3 (all_t rfl (all_t rfl (all_t c10 (all_t (show decide ((List.length b1) = (List.length b1)) = true from decide_eq_true rfl) (all_t c1 (all_t c2 (all_t rfl (all_t c15 (all_t c16 all_nil)))))))))))))))))
      refine turns_step ht (turns_eq ?_ ?_ ih)
      · unfold l32_0H
        first | (simp; done) | (simp [Nat.add_assoc]; done) | (simp; omega)
      · unfold l32_0B
        simp
    · skip
      refine ite_cases h (fun c10 h => ?_) (fun c10 h => ?_)
      · skip
        obtain ⟨c12, h⟩ := iY h
        obtain ⟨c17, h⟩ := iY h
        obtain ⟨c18, h⟩ := iY h
        have ih := ih _ _ _ _ q h
        have ht : (turn (hds 32 393) 0 393 (cb2 m) (l32_0H x0 s7 s8 b1) (l32_0B x0 s7 s8 b1)).run = some (.normal, ((.d (.str x0)) :: .top :: .top :: (.ptr 0 0) :: .top :: .top :: .top :: (.d (.int .i64 s7)) :: (.d (.int .i64 (IntKind.wrap .i64 (s8 + (1))))) :: tp20 []), [(.cells [(.ptr 0 0), (.sr 1 0 (((List.length b1) + 1) + 1) 1 none)]), (.arr (.int .u8) ((b1 ++ [(92)]) ++ [((UInt8.toNat (List.getD x0 (Int.toNat s8) 0) : Nat) : Int)]) true)]) := M.run_of_path _ [tT, tT, tT, fF, fF, fF, tT, tT, fF, fF, tT, tT, tT, tT, tT, tT, tT, tT, tT] _ _ (by kernel_rfl) (all_t c0 (all_t c1 (all_t c2 (all_f c3 (all_f c3 (all_f c3 (all_t c1 (all_t c2 (all_f c3 (all_f c3 (all_t c10 (all_t rfl (all_t c12 (all_t (show decide ((List.length b1) = (List.length b1)) = true from decide_eq_true rfl) (all_t c1 (all_t c2 (all_t rfl (all_t c17 (all_t c18 all_nil)))))))))))))))))))
        refine turns_step ht (turns_eq ?_ ?_ ih)
        · unfold l32_0H
          first | (simp; done) | (simp [Nat.add_assoc]; done) | (simp; omega)
        · unfold l32_0B
          simp
      · skip
        obtain ⟨c14, h⟩ := iY h
        have ih := ih _ _ _ _ q h
        have ht : (turn (hds 32 393) 0 393 (cb2 m) (l32_0H x0 s7 s8 b1) (l32_0B x0 s7 s8 b1)).run = some (.normal, ((.d (.str x0)) :: .top :: .top :: (.ptr 0 0) :: .top :: .top :: .top :: (.d (.int .i64 s7)) :: (.d (.int .i64 (IntKind.wrap .i64 (s8 + (1))))) :: tp20 []), [(.cells [(.ptr 0 0), (.sr 1 0 ((List.length b1) + 1) 1 none)]), (.arr (.int .u8) (b1 ++ [((UInt8.toNat (List.getD x0 (Int.toNat s8) 0) : Nat) : Int)]) true)]) := M.run_of_path _ [tT, tT, tT, fF, fF, fF, tT, tT, fF, fF, fF, tT, tT, tT, tT, tT] _ _ (by kernel_rfl) (all_t c0 (all_t c1 (all_t c2 (all_f c3 (all_f c3 (all_f c3 (all_t c1 (all_t c2 (all_f c3 (all_f c3 (all_f c10 (all_t c1 (all_t c2 (all_t rfl (all_t c14 (all_t (show decide ((List.length b1) = (List.length b1)) = true from decide_eq_true rfl) all_nil))))))))))))))))
        refine turns_step ht (turns_eq ?_ ?_ ih)
        · unfold l32_0H
          first | (simp; done) | (simp [Nat.add_assoc]; done) | (simp; omega)
        · unfold l32_0B
          simp
  · skip
    cases h
    refine turns_last (by simp) ?_
    exact M.run_of_path _ [fF] _ _ (by kernel_rfl) (all_f c0 all_nil)
theorem l32_0_ok (m : Nat) : ∀ (n : Nat) (x0 : Q4) (s7 : Int) (s8 : Int) (b1 : List Int) (q : Nat × Int × (List Int)), l32_0 m n x0 s7 s8 b1 = some q → (turns (hds 32 393) 0 393 (cb2 m) n (l32_0H x0 s7 s8 b1) (l32_0B x0 s7 s8 b1)).run = some (l32_0E (x0) (s7) (q.2.1) (q.2.2) q.1)
  | 0, x0, s7, s8, b1, q, h => by cases h
  | n + 1, x0, s7, s8, b1, q, h => l32_0_step m n (l32_0_ok m n) x0 s7 s8 b1 q h

def p32 (m : Nat) (x0 : Q4) : Option ((Q4)) :=
  if (Option.isSome (l32_0 m (m + 24) x0 ((((List.length x0) : Nat) : Int)) 0 ([(34)]))) = true then
  if decide ((((List.length (l32_0R m (m + 24) x0 ((((List.length x0) : Nat) : Int)) 0 ([(34)])).2.2) + 1) * 1) ≤ 70368744177664) = true then
  if decide (((List.length (l32_0R m (m + 24) x0 ((((List.length x0) : Nat) : Int)) 0 ([(34)])).2.2) + 1) = 0) = true then
    none
  else
    if (((decide (((((List.length (l32_0R m (m + 24) x0 ((((List.length x0) : Nat) : Int)) 0 ([(34)])).2.2) + 1) : Nat) : Int) = (((List.length ((l32_0R m (m + 24) x0 ((((List.length x0) : Nat) : Int)) 0 ([(34)])).2.2 ++ [(34)])) : Nat) : Int)) && (!List.isEmpty ((l32_0R m (m + 24) x0 ((((List.length x0) : Nat) : Int)) 0 ([(34)])).2.2 ++ [(34)]))) && decide ((List.length ((l32_0R m (m + 24) x0 ((((List.length x0) : Nat) : Int)) 0 ([(34)])).2.2 ++ [(34)])) ≤ 9223372036854775807)) && List.all ((l32_0R m (m + 24) x0 ((((List.length x0) : Nat) : Int)) 0 ([(34)])).2.2 ++ [(34)]) (fun n => decide (0 ≤ n) && decide (n < 256))) = true then
    some ((List.map (fun (n : Int) => UInt8.ofNat n.toNat) ((l32_0R m (m + 24) x0 ((((List.length x0) : Nat) : Int)) 0 ([(34)])).2.2 ++ [(34)])))
    else none
  else none
  else none
theorem p32_ok (m : Nat) (x0 : Q4) (q : (Q4)) (h : p32 m x0 = some q) : ∃ r B1, (evCall F S10 (m + 25) 32 [(.d (.str x0))] []).run = some (r, B1) ∧ 0 ≤ B1.length ∧ wkR B1 [] r (.d (.str q)) ∧ wkBs B1 [] 0 [] := by
  unfold p32 at h
  obtain ⟨c3, h⟩ := iY h
  obtain ⟨c5, h⟩ := iY h
  refine ite_cases h (fun _ h => by cases h) (fun c7 h => ?_)
  obtain ⟨c8, h⟩ := iY h
  cases h
  refine ⟨(.d (.str (List.map (fun (n : Int) => UInt8.ofNat n.toNat) ((l32_0R m (m + 24) x0 ((((List.length x0) : Nat) : Int)) 0 ([(34)])).2.2 ++ [(34)])))), [], runT_ok (LS := (fun k => if k = 393 then some (l32_0E x0 (((((List.length x0) : Nat) : Int))) ((l32_0R m (m + 24) x0 ((((List.length x0) : Nat) : Int)) 0 ([(34)])).2.1) ((l32_0R m (m + 24) x0 ((((List.length x0) : Nat) : Int)) 0 ([(34)])).2.2) 0) else none)) (fn := fn32) (vis := [(393, l32_0H x0 ((((List.length x0) : Nat) : Int)) 0 ([(34)]), l32_0B x0 ((((List.length x0) : Nat) : Int)) 0 ([(34)]))]) (by kernel_rfl) rfl (by kernel_rfl) (M.run_of_path _ [tT, fF, tT, tT, tT, tT, tT, tT] _ _ (by kernel_rfl) (all_t rfl (all_f Bool.false_ne_true (all_t rfl (all_t rfl (all_t c5 (all_t (show decide ((List.length (l32_0R m (m + 24) x0 ((((List.length x0) : Nat) : Int)) 0 ([(34)])).2.2) = (List.length (l32_0R m (m + 24) x0 ((((List.length x0) : Nat) : Int)) 0 ([(34)])).2.2)) = true from decide_eq_true rfl) (all_nf c7 (all_t c8 all_nil))))))))) ?_, by simp, (wkR.one (wkV.one (wk1.eq rfl))), trivial⟩
  intro p hp p2 hq
  rcases List.mem_cons.1 hp with rfl | hp
  · skip
    have h3 := l32_0_ok m (m + 24) x0 ((((List.length x0) : Nat) : Int)) 0 ([(34)]) _ (some_getD (d := l32_0D) c3)
    exact Eq.trans (Eq.mp (by kernel_rfl) h3) hq
  cases hp

def escI (c : UInt8) : List Int := if UInt8.toNat c = 34 ∨ UInt8.toNat c = 92 then [92, ((UInt8.toNat c : Nat) : Int)] else [((UInt8.toNat c : Nat) : Int)]
def escB (c : UInt8) : Q4 := if UInt8.toNat c = 34 ∨ UInt8.toNat c = 92 then [92, c] else [c]
def quoteG (s : Q4) : Q4 := 34 :: (s.flatMap escB ++ [34])
theorem escB_le (c : UInt8) : (escB c).length ≤ 2 := by unfold escB; split <;> simp
theorem escI_le (c : UInt8) : (escI c).length ≤ 2 := by unfold escI; split <;> simp
theorem esc_map (c : UInt8) : (escI c).map (fun (n : Int) => UInt8.ofNat n.toNat) = escB c := by
  unfold escI escB
  split
  · rw [List.map_cons, List.map_cons, List.map_nil, Int.toNat_natCast, UInt8.ofNat_toNat]; rfl
  · rw [List.map_cons, List.map_nil, Int.toNat_natCast, UInt8.ofNat_toNat]
theorem escI_in (c : UInt8) : ∀ n ∈ escI c, 0 ≤ n ∧ n < 256 := by
  intro n hn
  have := UInt8.toNat_lt c
  unfold escI at hn
  split at hn
  · simp only [List.mem_cons, List.not_mem_nil, or_false] at hn
    omega
  · simp only [List.mem_cons, List.not_mem_nil, or_false] at hn
    omega
theorem flat_le {f : UInt8 → List Int} (hf : ∀ c, (f c).length ≤ 2) : ∀ (s : Q4), (s.flatMap f).length ≤ 2 * s.length
  | [] => Nat.le_refl _
  | c :: s => by rw [List.flatMap_cons, List.length_append, List.length_cons]; have := hf c; have := flat_le hf s; omega
theorem flatB_le {f : UInt8 → Q4} (hf : ∀ c, (f c).length ≤ 2) : ∀ (s : Q4), (s.flatMap f).length ≤ 2 * s.length
  | [] => Nat.le_refl _
  | c :: s => by rw [List.flatMap_cons, List.length_append, List.length_cons]; have := hf c; have := flatB_le hf s; omega
theorem quote_le (s : Q4) : (quoteG s).length ≤ 2 * s.length + 2 := by
  unfold quoteG
  rw [List.length_cons, List.length_append]
  have := flatB_le escB_le s
  simp only [List.length_cons, List.length_nil]
  omega
theorem flat_map (s : Q4) : (s.flatMap escI).map (fun (n : Int) => UInt8.ofNat n.toNat) = s.flatMap escB := by
  rw [List.map_flatMap]
  congr 1
  funext c
  exact esc_map c
theorem quote_loop (m : Nat) (s : Q4) (hs : s.length ≤ 1000000) : ∀ (n k : Nat) (b : List Int), k ≤ s.length → s.length - k < n → b.length + 2 * (s.length - k) ≤ 3000000 → l32_0 m n s (s.length : Nat) (k : Nat) b = some (0, ((s.length : Nat) : Int), b ++ (s.drop k).flatMap escI)
  | 0, k, _, _, h, _ => by omega
  | n + 1, k, b, h1, h2, h3 => by
    rw [l32_0]
    by_cases hk : k < s.length
    · have e1 : decide (((k : Nat) : Int) < (((List.length s) : Nat) : Int)) = true := decide_eq_true (by omega)
      have e2 : decide ((0 : Int) ≤ ((k : Nat) : Int)) = true := decide_eq_true (by omega)
      have e7 : IntKind.wrap .i64 (((k : Nat) : Int) + (1)) = ((k + 1 : Nat) : Int) := by rw [wrap_id (by omega) (by omega)]; rfl
      have go := fun b' (hb : b'.length ≤ b.length + 2) => quote_loop m s hs n (k + 1) b' (by omega) (by omega) (by omega)
      rw [drop_getD s k 0 hk, List.flatMap_cons]
      simp only [show Int.toNat ((k : Nat) : Int) = k from rfl, e1, e2, e7, ↓reduceIte]
      generalize s.getD k 0 = c at *
      have a1 : decide (((List.length b) + 1) * 1 ≤ 70368744177664) = true := decide_eq_true (by omega)
      have a2 : decide ((((List.length b) + 1) + 1) * 1 ≤ 70368744177664) = true := decide_eq_true (by omega)
      have a3 : decide (((List.length b) + 1) = (List.length (b ++ [(92)]))) = true := decide_eq_true (by simp)
      have yes : (UInt8.toNat c = 34 ∨ UInt8.toNat c = 92) → l32_0 m n s (s.length : Nat) ((k + 1 : Nat) : Int) ((b ++ [(92)]) ++ [((UInt8.toNat c : Nat) : Int)]) = some (0, ((s.length : Nat) : Int), b ++ (escI c ++ (s.drop (k + 1)).flatMap escI)) := by
        intro h
        rw [go _ (by simp)]
        unfold escI
        rw [if_pos h]
        simp
      have no : ¬ (UInt8.toNat c = 34 ∨ UInt8.toNat c = 92) → l32_0 m n s (s.length : Nat) ((k + 1 : Nat) : Int) (b ++ [((UInt8.toNat c : Nat) : Int)]) = some (0, ((s.length : Nat) : Int), b ++ (escI c ++ (s.drop (k + 1)).flatMap escI)) := by
        intro h
        rw [go _ (by simp)]
        unfold escI
        rw [if_neg h]
        simp
      simp only [a1, a2, a3, ↓reduceIte]
      by_cases c1 : UInt8.toNat c = 34
      · rw [if_pos (by rw [c1]; rfl)]; exact yes (.inl c1)
      · rw [if_neg (by simp; omega)]
        by_cases c2 : UInt8.toNat c = 92
        · rw [if_pos (by rw [c2]; rfl)]; exact yes (.inr c2)
        · rw [if_neg (by simp; omega)]; exact no (by simp [c1, c2])
    · have e1 : decide (((k : Nat) : Int) < (((List.length s) : Nat) : Int)) = false := decide_eq_false (by omega)
      have e0 : k = s.length := by omega
      subst e0
      rw [e1, if_neg (by simp), List.drop_length]
      simp
theorem quote45 (s : Q4) (h : decide (s.length ≤ 1000000) = true) : ∃ m, p32 m s = some (quoteG s) := by
  have h := of_decide_eq_true h
  refine ⟨s.length, ?_⟩
  have hr := quote_loop s.length s h (s.length + 24) 0 [(34)] (by omega) (by omega) (by simp; omega)
  simp only [Int.natCast_zero, List.drop_zero] at hr
  have hl := flat_le escI_le s
  have hin : ∀ n ∈ s.flatMap escI, 0 ≤ n ∧ n < 256 := by
    intro n hn
    obtain ⟨c, _, hc⟩ := List.mem_flatMap.1 hn
    exact escI_in c n hc
  have hm := flat_map s
  unfold p32 quoteG
  simp only [l32_0R, hr, Option.isSome_some, Option.getD_some, ↓reduceIte]
  generalize s.flatMap escI = t at *
  have l1 : List.length ([(34)] ++ t : List Int) = t.length + 1 := by simp
  have l2 : List.length ([(34)] ++ t ++ [(34)] : List Int) = t.length + 2 := by simp
  rw [l1, l2, if_pos (decide_eq_true (by omega)), if_neg (by simp)]
  rw [if_pos]
  · rw [List.map_append, List.map_append, hm]; rfl
  · rw [Bool.and_eq_true, Bool.and_eq_true, Bool.and_eq_true]
    refine ⟨⟨⟨decide_eq_true rfl, by simp⟩, decide_eq_true (by omega)⟩, ?_⟩
    rw [List.all_eq_true]
    intro n hn
    rw [Bool.and_eq_true, decide_eq_true_eq, decide_eq_true_eq]
    simp only [List.mem_append, List.mem_cons, List.not_mem_nil, or_false] at hn
    rcases hn with (rfl | hn) | rfl
    · omega
    · exact hin n hn
    · omega
def s32 : List AV → Boxes → M (AV × Boxes) := normS [.val .str] [] fun xs B => match xs, B with
  | [(.d (.str c1))], [] => .chk (decide (List.length c1 ≤ 1000000)) (.ret ((.d (.str (quoteG c1))), []))
  | _, _ => .fail
theorem s32_at : CallAt Tryd.prog 32 s32 := by
  refine CallAt.norm (CallAt.weakE (g := fun n => evCall F S10 n 32) (fun n => evCall_atH mixed kinds hds S10 S10_ok n 32) fun xs B r' B' hr => ?_) _ _
  split at hr
  · rename_i c1
    obtain ⟨hp, hr⟩ := (M.run_chk _ _ _).1 hr
    simp only [M.run, Option.some.injEq, Prod.mk.injEq] at hr
    obtain ⟨rfl, rfl⟩ := hr
    obtain ⟨m, hm⟩ := quote45 c1 hp
    obtain ⟨r, B1, h1, h2, h3, h4⟩ := p32_ok m c1 _ hm
    exact ⟨m + 25, r, B1, h1, by simp, h2, h3, h4⟩
  · simp [M.run] at hr
noncomputable def S11 : FuncId → Option (List AV → Boxes → M (AV × Boxes)) := fun f => if f = 32 then some s32 else S10 f
theorem S11_ok : ∀ f s, S11 f = some s → CallAt Tryd.prog f s := by
  intro f s h
  unfold S11 at h
  split at h
  · rename_i e; subst e; cases h; exact s32_at
  · exact S10_ok f s h

end Go.Proofs.YtahdcmicifokgaaDoor.Dec
namespace Go.Proofs.YtahdcmicifokgaaDoor.Dec
open Go.Ev
set_option linter.unusedVariables false
set_option linter.unusedSimpArgs false
set_option maxRecDepth 100000
set_option maxHeartbeats 20000000
noncomputable def fn31 : AFn := (F 31).getD ⟨0, [], .bad, false, false, noHd⟩
noncomputable def body31 : AC := fn31.body
def l31_0 (m : Nat) : Nat → Q2 → Int → Int → Option (Nat × Int)
  | 0, _, _, _ => none
  | n + 1, x0, s6, s7 => if decide (s7 < s6) = true then
      if decide (0 ≤ s7) = true then
      if decide (s7 < (((List.length x0) : Nat) : Int)) = true then
      if decide (List.length (List.getD x0 (Int.toNat s7) (([] : Q4), ([] : Q4))).1 ≤ 9223372036854775807) = true then
      if (wordG (List.getD x0 (Int.toNat s7) (([] : Q4), ([] : Q4))).1) = true then
        if ((List.getD x0 (Int.toNat s7) (([] : Q4), ([] : Q4))).2 == ([] : Q4)) = true then
          some (1, s7)
        else
          if decide ((((List.length (List.getD x0 (Int.toNat s7) (([] : Q4), ([] : Q4))).2) : Nat) : Int) > 24) = true then
            some (2, s7)
          else
            if decide (s7 > 0) = true then
              if decide (0 ≤ (IntKind.wrap .i64 (s7 - (1)))) = true then
              if decide ((IntKind.wrap .i64 (s7 - (1))) < (((List.length x0) : Nat) : Int)) = true then
              if (Op.bytesLess (List.getD x0 (Int.toNat (IntKind.wrap .i64 (s7 - (1)))) (([] : Q4), ([] : Q4))).1 (List.getD x0 (Int.toNat s7) (([] : Q4), ([] : Q4))).1) = true then
                l31_0 m n x0 s6 ((IntKind.wrap .i64 (s7 + (1))))
              else
                some (3, s7)
              else none
              else none
            else
              l31_0 m n x0 s6 ((IntKind.wrap .i64 (s7 + (1))))
      else
        some (0, s7)
      else none
      else none
      else none
    else
      some (4, s7)
def l31_0D : Nat × Int := (0, 0)
@[reducible] def l31_0R (m n : Nat) (x0 : Q2) (s6 : Int) (s7 : Int) : Nat × Int := Option.getD (l31_0 m n x0 s6 s7) l31_0D
def l31_0H (x0 : Q2) (s6 : Int) (s7 : Int) : Env := ((.d (.sl (.pair .str .str) x0)) :: .top :: .top :: .top :: .top :: (.d (.sl (.pair .str .str) x0)) :: (.d (.int .i64 s6)) :: (.d (.int .i64 s7)) :: tp38 [])
def l31_0B (x0 : Q2) (s6 : Int) (s7 : Int) : Boxes := []
def l31_0E (x0 : Q2) (s6 : Int) (s7 : Int) : Nat → AEx × Env × Boxes
  | 0 => (.ret, [(.d (.sl (.pair .str .str) x0)), .top, (.d (.bool false)), (.d (.int .i64 s7)), (.ptr 0 0), (.d (.sl (.pair .str .str) x0)), (.d (.int .i64 s6)), (.d (.int .i64 s7)), (.d (.bool (decide (s7 < s6)))), (.d (.int .i64 s7)), (.cptr [(.str (List.getD x0 (Int.toNat s7) (([] : Q4), ([] : Q4))).1), (.str (List.getD x0 (Int.toNat s7) (([] : Q4), ([] : Q4))).2)] 0), (.agg [(.d (.str (List.getD x0 (Int.toNat s7) (([] : Q4), ([] : Q4))).1)), (.d (.str (List.getD x0 (Int.toNat s7) (([] : Q4), ([] : Q4))).2))]), (.ptr 0 0), (.d (.str (List.getD x0 (Int.toNat s7) (([] : Q4), ([] : Q4))).1)), (.d (.bool (wordG (List.getD x0 (Int.toNat s7) (([] : Q4), ([] : Q4))).1))), (.d (.bool (!(wordG (List.getD x0 (Int.toNat s7) (([] : Q4), ([] : Q4))).1)))), (.d (.bool (!(wordG (List.getD x0 (Int.toNat s7) (([] : Q4), ([] : Q4))).1)))), (.tup []), (.tup []), (.tup []), (.d (.bool true)), (.d (.bool true)), (.tup []), (.tup []), (.tup []), (.tup []), (.d (.bool true)), (.d (.bool true)), (.tup []), (.tup []), (.tup []), (.tup []), (.tup []), (.tup []), (.tup []), (.tup []), (.tup []), (.tup []), (.tup []), (.tup []), (.tup []), (.d (.bool true)), .top, .top, .top, .top], [(.cells [(.d (.str (List.getD x0 (Int.toNat s7) (([] : Q4), ([] : Q4))).1)), (.d (.str (List.getD x0 (Int.toNat s7) (([] : Q4), ([] : Q4))).2))]), .dead, .dead, .dead, .dead, .dead, .dead, .dead, .dead, .dead, .dead, .dead, .dead, .dead, .dead, .dead, .dead, .dead, .dead, .dead, .dead, .dead, .dead, .dead, .dead, .dead, .dead, .dead, .dead, .dead, .dead, .dead, .dead, .dead, .dead, .dead, .dead, .dead, .dead, .dead, .dead, .dead, .dead, .dead, .dead, .dead, .dead, .dead, .dead, .dead, .dead, .dead, .dead, .dead, .dead, .dead, .dead, .dead, .dead, .dead, .dead, .dead, .dead, .dead, .dead, .dead, .dead, .dead, .dead, .dead, .dead, .dead, .dead, .dead, .dead, .dead, .dead, .dead, .dead, .dead, .dead, .dead, .dead, .dead, .dead, .dead, .dead, .dead, .dead, .dead, .dead, .dead, .dead, .dead, .dead, .dead, .dead, .dead, .dead, .dead, .dead, .dead, .dead, .dead, .dead, .dead, .dead, .dead, .dead, .dead, .dead, .dead, .dead, .dead, .dead, .dead, .dead, .dead, .dead, .dead, .dead])
  | 1 => (.ret, [(.d (.sl (.pair .str .str) x0)), .top, (.d (.bool false)), (.d (.int .i64 s7)), (.ptr 0 0), (.d (.sl (.pair .str .str) x0)), (.d (.int .i64 s6)), (.d (.int .i64 s7)), (.d (.bool (decide (s7 < s6)))), (.d (.int .i64 s7)), (.cptr [(.str (List.getD x0 (Int.toNat s7) (([] : Q4), ([] : Q4))).1), (.str (List.getD x0 (Int.toNat s7) (([] : Q4), ([] : Q4))).2)] 0), (.agg [(.d (.str (List.getD x0 (Int.toNat s7) (([] : Q4), ([] : Q4))).1)), (.d (.str (List.getD x0 (Int.toNat s7) (([] : Q4), ([] : Q4))).2))]), (.ptr 0 0), (.d (.str (List.getD x0 (Int.toNat s7) (([] : Q4), ([] : Q4))).1)), (.d (.bool (wordG (List.getD x0 (Int.toNat s7) (([] : Q4), ([] : Q4))).1))), (.d (.bool (!(wordG (List.getD x0 (Int.toNat s7) (([] : Q4), ([] : Q4))).1)))), (.d (.bool (!(wordG (List.getD x0 (Int.toNat s7) (([] : Q4), ([] : Q4))).1)))), (.ptr 0 1), (.d (.str (List.getD x0 (Int.toNat s7) (([] : Q4), ([] : Q4))).2)), (.d (.bool ((List.getD x0 (Int.toNat s7) (([] : Q4), ([] : Q4))).2 == ([] : Q4)))), (.d (.bool ((List.getD x0 (Int.toNat s7) (([] : Q4), ([] : Q4))).2 == ([] : Q4)))), (.d (.bool ((List.getD x0 (Int.toNat s7) (([] : Q4), ([] : Q4))).2 == ([] : Q4)))), (.tup []), (.tup []), (.tup []), (.tup []), (.d (.bool true)), (.d (.bool true)), (.tup []), (.tup []), (.tup []), (.tup []), (.tup []), (.tup []), (.tup []), (.tup []), (.tup []), (.tup []), (.tup []), (.tup []), (.tup []), (.d (.bool true)), .top, .top, .top, .top], [(.cells [(.d (.str (List.getD x0 (Int.toNat s7) (([] : Q4), ([] : Q4))).1)), (.d (.str (List.getD x0 (Int.toNat s7) (([] : Q4), ([] : Q4))).2))]), .dead, .dead, .dead, .dead, .dead, .dead, .dead, .dead, .dead, .dead, .dead, .dead, .dead, .dead, .dead, .dead, .dead, .dead, .dead, .dead, .dead, .dead, .dead, .dead, .dead, .dead, .dead, .dead, .dead, .dead, .dead, .dead, .dead, .dead, .dead, .dead, .dead, .dead, .dead, .dead, .dead, .dead, .dead, .dead, .dead, .dead, .dead, .dead, .dead, .dead, .dead, .dead, .dead, .dead, .dead, .dead, .dead, .dead, .dead, .dead, .dead, .dead, .dead, .dead, .dead, .dead, .dead, .dead, .dead, .dead, .dead, .dead, .dead, .dead, .dead, .dead, .dead, .dead, .dead, .dead, .dead, .dead, .dead, .dead, .dead, .dead, .dead, .dead, .dead, .dead, .dead, .dead, .dead, .dead, .dead, .dead, .dead, .dead, .dead, .dead, .dead, .dead, .dead, .dead, .dead, .dead, .dead, .dead, .dead, .dead, .dead, .dead, .dead, .dead, .dead, .dead, .dead, .dead, .dead, .dead])
  | 2 => (.ret, [(.d (.sl (.pair .str .str) x0)), .top, (.d (.bool false)), (.d (.int .i64 s7)), (.ptr 0 0), (.d (.sl (.pair .str .str) x0)), (.d (.int .i64 s6)), (.d (.int .i64 s7)), (.d (.bool (decide (s7 < s6)))), (.d (.int .i64 s7)), (.cptr [(.str (List.getD x0 (Int.toNat s7) (([] : Q4), ([] : Q4))).1), (.str (List.getD x0 (Int.toNat s7) (([] : Q4), ([] : Q4))).2)] 0), (.agg [(.d (.str (List.getD x0 (Int.toNat s7) (([] : Q4), ([] : Q4))).1)), (.d (.str (List.getD x0 (Int.toNat s7) (([] : Q4), ([] : Q4))).2))]), (.ptr 0 0), (.d (.str (List.getD x0 (Int.toNat s7) (([] : Q4), ([] : Q4))).1)), (.d (.bool (wordG (List.getD x0 (Int.toNat s7) (([] : Q4), ([] : Q4))).1))), (.d (.bool (!(wordG (List.getD x0 (Int.toNat s7) (([] : Q4), ([] : Q4))).1)))), (.d (.bool (!(wordG (List.getD x0 (Int.toNat s7) (([] : Q4), ([] : Q4))).1)))), (.ptr 0 1), (.d (.str (List.getD x0 (Int.toNat s7) (([] : Q4), ([] : Q4))).2)), (.d (.bool ((List.getD x0 (Int.toNat s7) (([] : Q4), ([] : Q4))).2 == ([] : Q4)))), (.d (.bool ((List.getD x0 (Int.toNat s7) (([] : Q4), ([] : Q4))).2 == ([] : Q4)))), (.d (.bool ((List.getD x0 (Int.toNat s7) (([] : Q4), ([] : Q4))).2 == ([] : Q4)))), (.ptr 0 1), (.d (.str (List.getD x0 (Int.toNat s7) (([] : Q4), ([] : Q4))).2)), (.d (.int .i64 (((List.length (List.getD x0 (Int.toNat s7) (([] : Q4), ([] : Q4))).2) : Nat) : Int))), (.d (.bool (decide ((((List.length (List.getD x0 (Int.toNat s7) (([] : Q4), ([] : Q4))).2) : Nat) : Int) > 24)))), (.d (.bool (decide ((((List.length (List.getD x0 (Int.toNat s7) (([] : Q4), ([] : Q4))).2) : Nat) : Int) > 24)))), (.d (.bool (decide ((((List.length (List.getD x0 (Int.toNat s7) (([] : Q4), ([] : Q4))).2) : Nat) : Int) > 24)))), (.tup []), (.tup []), (.tup []), (.tup []), (.tup []), (.tup []), (.tup []), (.tup []), (.tup []), (.tup []), (.tup []), (.tup []), (.tup []), (.d (.bool true)), .top, .top, .top, .top], [(.cells [(.d (.str (List.getD x0 (Int.toNat s7) (([] : Q4), ([] : Q4))).1)), (.d (.str (List.getD x0 (Int.toNat s7) (([] : Q4), ([] : Q4))).2))]), .dead, .dead, .dead, .dead, .dead, .dead, .dead, .dead, .dead, .dead, .dead, .dead, .dead, .dead, .dead, .dead, .dead, .dead, .dead, .dead, .dead, .dead, .dead, .dead, .dead, .dead, .dead, .dead, .dead, .dead, .dead, .dead, .dead, .dead, .dead, .dead, .dead, .dead, .dead, .dead, .dead, .dead, .dead, .dead, .dead, .dead, .dead, .dead, .dead, .dead, .dead, .dead, .dead, .dead, .dead, .dead, .dead, .dead, .dead, .dead, .dead, .dead, .dead, .dead, .dead, .dead, .dead, .dead, .dead, .dead, .dead, .dead, .dead, .dead, .dead, .dead, .dead, .dead, .dead, .dead, .dead, .dead, .dead, .dead, .dead, .dead, .dead, .dead, .dead, .dead, .dead, .dead, .dead, .dead, .dead, .dead, .dead, .dead, .dead, .dead, .dead, .dead, .dead, .dead, .dead, .dead, .dead, .dead, .dead, .dead, .dead, .dead, .dead, .dead, .dead, .dead, .dead, .dead, .dead, .dead])
  | 3 => (.ret, [(.d (.sl (.pair .str .str) x0)), .top, (.d (.bool false)), (.d (.int .i64 s7)), (.ptr 0 0), (.d (.sl (.pair .str .str) x0)), (.d (.int .i64 s6)), (.d (.int .i64 s7)), (.d (.bool (decide (s7 < s6)))), (.d (.int .i64 s7)), (.cptr [(.str (List.getD x0 (Int.toNat s7) (([] : Q4), ([] : Q4))).1), (.str (List.getD x0 (Int.toNat s7) (([] : Q4), ([] : Q4))).2)] 0), (.agg [(.d (.str (List.getD x0 (Int.toNat s7) (([] : Q4), ([] : Q4))).1)), (.d (.str (List.getD x0 (Int.toNat s7) (([] : Q4), ([] : Q4))).2))]), (.ptr 0 0), (.d (.str (List.getD x0 (Int.toNat s7) (([] : Q4), ([] : Q4))).1)), (.d (.bool (wordG (List.getD x0 (Int.toNat s7) (([] : Q4), ([] : Q4))).1))), (.d (.bool (!(wordG (List.getD x0 (Int.toNat s7) (([] : Q4), ([] : Q4))).1)))), (.d (.bool (!(wordG (List.getD x0 (Int.toNat s7) (([] : Q4), ([] : Q4))).1)))), (.ptr 0 1), (.d (.str (List.getD x0 (Int.toNat s7) (([] : Q4), ([] : Q4))).2)), (.d (.bool ((List.getD x0 (Int.toNat s7) (([] : Q4), ([] : Q4))).2 == ([] : Q4)))), (.d (.bool ((List.getD x0 (Int.toNat s7) (([] : Q4), ([] : Q4))).2 == ([] : Q4)))), (.d (.bool ((List.getD x0 (Int.toNat s7) (([] : Q4), ([] : Q4))).2 == ([] : Q4)))), (.ptr 0 1), (.d (.str (List.getD x0 (Int.toNat s7) (([] : Q4), ([] : Q4))).2)), (.d (.int .i64 (((List.length (List.getD x0 (Int.toNat s7) (([] : Q4), ([] : Q4))).2) : Nat) : Int))), (.d (.bool (decide ((((List.length (List.getD x0 (Int.toNat s7) (([] : Q4), ([] : Q4))).2) : Nat) : Int) > 24)))), (.d (.bool (decide ((((List.length (List.getD x0 (Int.toNat s7) (([] : Q4), ([] : Q4))).2) : Nat) : Int) > 24)))), (.d (.bool (decide ((((List.length (List.getD x0 (Int.toNat s7) (([] : Q4), ([] : Q4))).2) : Nat) : Int) > 24)))), (.d (.int .i64 s7)), (.d (.bool (decide (s7 > 0)))), (.d (.bool (decide (s7 > 0)))), (.d (.sl (.pair .str .str) x0)), (.d (.int .i64 s7)), (.d (.int .i64 (IntKind.wrap .i64 (s7 - (1))))), (.cptr [(.str (List.getD x0 (Int.toNat (IntKind.wrap .i64 (s7 - (1)))) (([] : Q4), ([] : Q4))).1), (.str (List.getD x0 (Int.toNat (IntKind.wrap .i64 (s7 - (1)))) (([] : Q4), ([] : Q4))).2)] 0), (.cptr [(.str (List.getD x0 (Int.toNat (IntKind.wrap .i64 (s7 - (1)))) (([] : Q4), ([] : Q4))).1), (.str (List.getD x0 (Int.toNat (IntKind.wrap .i64 (s7 - (1)))) (([] : Q4), ([] : Q4))).2)] 0), (.d (.str (List.getD x0 (Int.toNat (IntKind.wrap .i64 (s7 - (1)))) (([] : Q4), ([] : Q4))).1)), (.ptr 0 0), (.d (.str (List.getD x0 (Int.toNat s7) (([] : Q4), ([] : Q4))).1)), (.d (.bool (!(Op.bytesLess (List.getD x0 (Int.toNat (IntKind.wrap .i64 (s7 - (1)))) (([] : Q4), ([] : Q4))).1 (List.getD x0 (Int.toNat s7) (([] : Q4), ([] : Q4))).1)))), (.d (.bool (!(Op.bytesLess (List.getD x0 (Int.toNat (IntKind.wrap .i64 (s7 - (1)))) (([] : Q4), ([] : Q4))).1 (List.getD x0 (Int.toNat s7) (([] : Q4), ([] : Q4))).1)))), (.d (.bool (!(Op.bytesLess (List.getD x0 (Int.toNat (IntKind.wrap .i64 (s7 - (1)))) (([] : Q4), ([] : Q4))).1 (List.getD x0 (Int.toNat s7) (([] : Q4), ([] : Q4))).1)))), .top, .top, .top, .top], [(.cells [(.d (.str (List.getD x0 (Int.toNat s7) (([] : Q4), ([] : Q4))).1)), (.d (.str (List.getD x0 (Int.toNat s7) (([] : Q4), ([] : Q4))).2))]), .dead, .dead, .dead, .dead, .dead, .dead, .dead, .dead, .dead, .dead, .dead, .dead, .dead, .dead, .dead, .dead, .dead, .dead, .dead, .dead, .dead, .dead, .dead, .dead, .dead, .dead, .dead, .dead, .dead, .dead, .dead, .dead, .dead, .dead, .dead, .dead, .dead, .dead, .dead, .dead, .dead, .dead, .dead, .dead, .dead, .dead, .dead, .dead, .dead, .dead, .dead, .dead, .dead, .dead, .dead, .dead, .dead, .dead, .dead, .dead, .dead, .dead, .dead, .dead, .dead, .dead, .dead, .dead, .dead, .dead, .dead, .dead, .dead, .dead, .dead, .dead, .dead, .dead, .dead, .dead, .dead, .dead, .dead, .dead, .dead, .dead, .dead, .dead, .dead, .dead, .dead, .dead, .dead, .dead, .dead, .dead, .dead, .dead, .dead, .dead, .dead, .dead, .dead, .dead, .dead, .dead, .dead, .dead, .dead, .dead, .dead, .dead, .dead, .dead, .dead, .dead, .dead, .dead, .dead, .dead])
  | _ => (.exit 0, ((.d (.sl (.pair .str .str) x0)) :: .top :: .top :: .top :: .top :: (.d (.sl (.pair .str .str) x0)) :: (.d (.int .i64 s6)) :: (.d (.int .i64 s7)) :: (.d (.bool (decide (s7 < s6)))) :: tp37 []), [])
noncomputable def lbl31_0 : AC := loopBody 225 body31
@[reducible] noncomputable def cb3 (m : Nat) := (evC byref (evCall F S11 (m + 24)) (m + 24) 0 (hds 31) lbl31_0)


theorem l31_0_step (m n : Nat) (ih : ∀ (x0 : Q2) (s6 : Int) (s7 : Int) (q : Nat × Int), l31_0 m n x0 s6 s7 = some q → (turns (hds 31 225) 0 225 (cb3 m) n (l31_0H x0 s6 s7) (l31_0B x0 s6 s7)).run = some (l31_0E (x0) (s6) (q.2) q.1)) (x0 : Q2) (s6 : Int) (s7 : Int) (q : Nat × Int) (h : l31_0 m (n + 1) x0 s6 s7 = some q) : (turns (hds 31 225) 0 225 (cb3 m) (n + 1) (l31_0H x0 s6 s7) (l31_0B x0 s6 s7)).run = some (l31_0E (x0) (s6) (q.2) q.1) := by
  rw [l31_0] at h
  refine ite_cases h (fun c0 h => ?_) (fun c0 h => ?_)
  · skip
    obtain ⟨c1, h⟩ := iY h
    obtain ⟨c2, h⟩ := iY h
    obtain ⟨c3, h⟩ := iY h
    refine ite_cases h (fun c4 h => ?_) (fun c4 h => ?_)
    · skip
      refine ite_cases h (fun c8 h => ?_) (fun c8 h => ?_)
      · skip
        cases h
        refine turns_last (by simp) ?_
        exact M.run_of_path _ [tT, tT, tT, tT, fF, fF, fF, fF, tT, tT, tT, tT, tT, tT, tT, tT, tT, tT, tT] _ _ (by kernel_rfl) (all_t c0 (all_t c1 (all_t c2 (all_t c3 (all_nt c4 (all_nt c4 (all_nt c4 (all_nt c4 (all_t c8 (all_t c8 (all_t c8 (all_t c8 (all_t c8 (all_t rfl (all_t rfl (all_t rfl (all_t rfl (all_t rfl (all_t rfl all_nil)))))))))))))))))))
      · skip
        refine ite_cases h (fun c13 h => ?_) (fun c13 h => ?_)
        · skip
          cases h
          refine turns_last (by simp) ?_
          exact M.run_of_path _ [tT, tT, tT, tT, fF, fF, fF, fF, fF, fF, fF, fF, fF, tT, tT, tT, tT, tT, tT] _ _ (by kernel_rfl) (all_t c0 (all_t c1 (all_t c2 (all_t c3 (all_nt c4 (all_nt c4 (all_nt c4 (all_nt c4 (all_f c8 (all_f c8 (all_f c8 (all_f c8 (all_f c8 (all_t c13 (all_t c13 (all_t c13 (all_t c13 (all_t c13 (all_t rfl all_nil)))))))))))))))))))
        · skip
          refine ite_cases h (fun c16 h => ?_) (fun c16 h => ?_)
          · skip
            obtain ⟨c20, h⟩ := iY h
            obtain ⟨c21, h⟩ := iY h
            refine ite_cases h (fun c30 h => ?_) (fun c30 h => ?_)
            · skip
              have ih := ih _ _ _ q h
              refine turns_step ?_ ih
              exact M.run_of_path _ [tT, tT, tT, tT, fF, fF, fF, fF, fF, fF, fF, fF, fF, fF, fF, fF, tT, tT, tT, tT, tT, tT, tT, tT, tT, tT, tT, fF, tT, fF, fF] _ _ (by kernel_rfl) (all_t c0 (all_t c1 (all_t c2 (all_t c3 (all_nt c4 (all_nt c4 (all_nt c4 (all_nt c4 (all_f c8 (all_f c8 (all_f c8 (all_f c8 (all_f c8 (all_f c13 (all_f c13 (all_f c13 (all_t c16 (all_t c16 (all_t c16 (all_t c16 (all_t c20 (all_t c21 (all_t c16 (all_t c16 (all_t c16 (all_t c16 (all_t c16 (all_f c13 (all_t c16 (all_f c13 (all_nt c30 all_nil)))))))))))))))))))))))))))))))
            · skip
              cases h
              refine turns_last (by simp) ?_
              exact M.run_of_path _ [tT, tT, tT, tT, fF, fF, fF, fF, fF, fF, fF, fF, fF, fF, fF, fF, tT, tT, tT, tT, tT, tT, tT, tT, tT, tT, tT, fF, tT, fF, tT] _ _ (by kernel_rfl) (all_t c0 (all_t c1 (all_t c2 (all_t c3 (all_nt c4 (all_nt c4 (all_nt c4 (all_nt c4 (all_f c8 (all_f c8 (all_f c8 (all_f c8 (all_f c8 (all_f c13 (all_f c13 (all_f c13 (all_t c16 (all_t c16 (all_t c16 (all_t c16 (all_t c20 (all_t c21 (all_t c16 (all_t c16 (all_t c16 (all_t c16 (all_t c16 (all_f c13 (all_t c16 (all_f c13 (all_nf c30 all_nil)))))))))))))))))))))))))))))))
          · skip
            have ih := ih _ _ _ q h
            refine turns_step ?_ ih
            exact M.run_of_path _ [tT, tT, tT, tT, fF, fF, fF, fF, fF, fF, fF, fF, fF, fF, fF, fF, fF, fF, fF, fF, fF, fF, fF, fF, fF, fF, fF, fF, fF] _ _ (by kernel_rfl) (all_t c0 (all_t c1 (all_t c2 (all_t c3 (all_nt c4 (all_nt c4 (all_nt c4 (all_nt c4 (all_f c8 (all_f c8 (all_f c8 (all_f c8 (all_f c8 (all_f c13 (all_f c13 (all_f c13 (all_f c16 (all_f c16 (all_f c16 (all_f c16 (all_f c16 (all_f c16 (all_f c16 (all_f c16 (all_f c16 (all_f c13 (all_f c16 (all_f c13 (all_f Bool.false_ne_true all_nil)))))))))))))))))))))))))))))
    · skip
      cases h
      refine turns_last (by simp) ?_
      exact M.run_of_path _ [tT, tT, tT, tT, tT, tT, tT, tT, tT, tT, tT, tT, tT, tT, tT, tT, tT, tT, tT] _ _ (by kernel_rfl) (all_t c0 (all_t c1 (all_t c2 (all_t c3 (all_nf c4 (all_nf c4 (all_nf c4 (all_nf c4 (all_t rfl (all_t rfl (all_t rfl (all_t rfl (all_t rfl (all_t rfl (all_t rfl (all_t rfl (all_t rfl (all_t rfl (all_t rfl all_nil)))))))))))))))))))
  · skip
    cases h
    refine turns_last (by simp) ?_
    exact M.run_of_path _ [fF] _ _ (by kernel_rfl) (all_f c0 all_nil)
theorem l31_0_ok (m : Nat) : ∀ (n : Nat) (x0 : Q2) (s6 : Int) (s7 : Int) (q : Nat × Int), l31_0 m n x0 s6 s7 = some q → (turns (hds 31 225) 0 225 (cb3 m) n (l31_0H x0 s6 s7) (l31_0B x0 s6 s7)).run = some (l31_0E (x0) (s6) (q.2) q.1)
  | 0, x0, s6, s7, q, h => by cases h
  | n + 1, x0, s6, s7, q, h => l31_0_step m n (l31_0_ok m n) x0 s6 s7 q h

def p31 (m : Nat) (x0 : Q2) : Option (Bool) :=
  if (Option.isSome (l31_0 m (m + 24) x0 ((((List.length x0) : Nat) : Int)) 0)) = true then
  if ((l31_0R m (m + 24) x0 ((((List.length x0) : Nat) : Int)) 0).1 == 0) = true then
    some (false)
  else
    if ((l31_0R m (m + 24) x0 ((((List.length x0) : Nat) : Int)) 0).1 == 1) = true then
      some (false)
    else
      if ((l31_0R m (m + 24) x0 ((((List.length x0) : Nat) : Int)) 0).1 == 2) = true then
        some (false)
      else
        if ((l31_0R m (m + 24) x0 ((((List.length x0) : Nat) : Int)) 0).1 == 3) = true then
          some (false)
        else
          if ((l31_0R m (m + 24) x0 ((((List.length x0) : Nat) : Int)) 0).1 == 4) = true then
          some (decide ((((List.length x0) : Nat) : Int) ≤ 6))
          else none
  else none
theorem p31_ok (m : Nat) (x0 : Q2) (q : Bool) (h : p31 m x0 = some q) : ∃ r B1, (evCall F S11 (m + 25) 31 [(.d (.sl (.pair .str .str) x0))] []).run = some (r, B1) ∧ 0 ≤ B1.length ∧ wkR B1 [] r (.d (.bool (q))) ∧ wkBs B1 [] 0 [] := by
  unfold p31 at h
  obtain ⟨c0, h⟩ := iY h
  refine ite_cases h (fun c1 h => ?_) (fun c1 h => ?_)
  · skip
    cases h
    refine ⟨(.d (.bool false)), [], runT_ok (LS := (fun k => if k = 225 then some (l31_0E x0 (((((List.length x0) : Nat) : Int))) ((l31_0R m (m + 24) x0 ((((List.length x0) : Nat) : Int)) 0).2) 0) else none)) (fn := fn31) (vis := [(225, l31_0H x0 ((((List.length x0) : Nat) : Int)) 0, l31_0B x0 ((((List.length x0) : Nat) : Int)) 0)]) (by kernel_rfl) rfl (by kernel_rfl) (M.run_of_path _ [] _ _ (by kernel_rfl) all_nil) ?_, by simp, (wkR.one (wkV.one (wk1.eq rfl))), trivial⟩
    intro p hp p2 hq
    rcases List.mem_cons.1 hp with rfl | hp
    · skip
      have h3 := l31_0_ok m (m + 24) x0 ((((List.length x0) : Nat) : Int)) 0 _ (some_getD (d := l31_0D) c0)
      rw [eq_of_beq c1] at h3
      exact Eq.trans (Eq.mp (by kernel_rfl) h3) hq
    cases hp
  · skip
    refine ite_cases h (fun c2 h => ?_) (fun c2 h => ?_)
    · skip
      cases h
      refine ⟨(.d (.bool false)), [], runT_ok (LS := (fun k => if k = 225 then some (l31_0E x0 (((((List.length x0) : Nat) : Int))) ((l31_0R m (m + 24) x0 ((((List.length x0) : Nat) : Int)) 0).2) 1) else none)) (fn := fn31) (vis := [(225, l31_0H x0 ((((List.length x0) : Nat) : Int)) 0, l31_0B x0 ((((List.length x0) : Nat) : Int)) 0)]) (by kernel_rfl) rfl (by kernel_rfl) (M.run_of_path _ [] _ _ (by kernel_rfl) all_nil) ?_, by simp, (wkR.one (wkV.one (wk1.eq rfl))), trivial⟩
      intro p hp p2 hq
      rcases List.mem_cons.1 hp with rfl | hp
      · skip
        have h3 := l31_0_ok m (m + 24) x0 ((((List.length x0) : Nat) : Int)) 0 _ (some_getD (d := l31_0D) c0)
        rw [eq_of_beq c2] at h3
        exact Eq.trans (Eq.mp (by kernel_rfl) h3) hq
      cases hp
    · skip
      refine ite_cases h (fun c3 h => ?_) (fun c3 h => ?_)
      · skip
        cases h
        refine ⟨(.d (.bool false)), [], runT_ok (LS := (fun k => if k = 225 then some (l31_0E x0 (((((List.length x0) : Nat) : Int))) ((l31_0R m (m + 24) x0 ((((List.length x0) : Nat) : Int)) 0).2) 2) else none)) (fn := fn31) (vis := [(225, l31_0H x0 ((((List.length x0) : Nat) : Int)) 0, l31_0B x0 ((((List.length x0) : Nat) : Int)) 0)]) (by kernel_rfl) rfl (by kernel_rfl) (M.run_of_path _ [] _ _ (by kernel_rfl) all_nil) ?_, by simp, (wkR.one (wkV.one (wk1.eq rfl))), trivial⟩
        intro p hp p2 hq
        rcases List.mem_cons.1 hp with rfl | hp
        · skip
          have h3 := l31_0_ok m (m + 24) x0 ((((List.length x0) : Nat) : Int)) 0 _ (some_getD (d := l31_0D) c0)
          rw [eq_of_beq c3] at h3
          exact Eq.trans (Eq.mp (by kernel_rfl) h3) hq
        cases hp
      · skip
        refine ite_cases h (fun c4 h => ?_) (fun c4 h => ?_)
        · skip
          cases h
          refine ⟨(.d (.bool false)), [], runT_ok (LS := (fun k => if k = 225 then some (l31_0E x0 (((((List.length x0) : Nat) : Int))) ((l31_0R m (m + 24) x0 ((((List.length x0) : Nat) : Int)) 0).2) 3) else none)) (fn := fn31) (vis := [(225, l31_0H x0 ((((List.length x0) : Nat) : Int)) 0, l31_0B x0 ((((List.length x0) : Nat) : Int)) 0)]) (by kernel_rfl) rfl (by kernel_rfl) (M.run_of_path _ [] _ _ (by kernel_rfl) all_nil) ?_, by simp, (wkR.one (wkV.one (wk1.eq rfl))), trivial⟩
          intro p hp p2 hq
          rcases List.mem_cons.1 hp with rfl | hp
          · skip
            have h3 := l31_0_ok m (m + 24) x0 ((((List.length x0) : Nat) : Int)) 0 _ (some_getD (d := l31_0D) c0)
            rw [eq_of_beq c4] at h3
            exact Eq.trans (Eq.mp (by kernel_rfl) h3) hq
          cases hp
        · skip
          obtain ⟨c5, h⟩ := iY h
          cases h
          refine ⟨(.d (.bool (decide ((((List.length x0) : Nat) : Int) ≤ 6)))), [], runT_ok (LS := (fun k => if k = 225 then some (l31_0E x0 (((((List.length x0) : Nat) : Int))) ((l31_0R m (m + 24) x0 ((((List.length x0) : Nat) : Int)) 0).2) 4) else none)) (fn := fn31) (vis := [(225, l31_0H x0 ((((List.length x0) : Nat) : Int)) 0, l31_0B x0 ((((List.length x0) : Nat) : Int)) 0)]) (by kernel_rfl) rfl (by kernel_rfl) (M.run_of_path _ [] _ _ (by kernel_rfl) all_nil) ?_, by simp, (wkR.one (wkV.one (wk1.eq rfl))), trivial⟩
          intro p hp p2 hq
          rcases List.mem_cons.1 hp with rfl | hp
          · skip
            have h3 := l31_0_ok m (m + 24) x0 ((((List.length x0) : Nat) : Int)) 0 _ (some_getD (d := l31_0D) c0)
            rw [eq_of_beq c5] at h3
            exact Eq.trans (Eq.mp (by kernel_rfl) h3) hq
          cases hp

def lab1 (x : (Q4) × (Q4)) : Bool := wordG x.1 && decide (1 ≤ x.2.length) && decide (x.2.length ≤ 24)
def lrise : LB → Bool
  | a :: b :: l => Op.bytesLess a.1 b.1 && lrise (b :: l)
  | _ => true
def lrightG (l : LB) : Bool := l.all lab1 && lrise l && decide (l.length ≤ 6)
def lrightPre (l : LB) : Bool := decide (l.length ≤ 1000000 ∧ ∀ x ∈ l, x.1.length ≤ 9223372036854775807)
def lR (l : LB) (k : Nat) : Bool := (l.drop k).all lab1 && lrise (l.drop (k - 1))
theorem lright_loop (m : Nat) (l : LB) (h1 : l.length ≤ 1000000) (h2 : ∀ x ∈ l, x.1.length ≤ 9223372036854775807) : ∀ (n k : Nat), k ≤ l.length → l.length - k < n → ∃ e j, l31_0 m n l (l.length : Nat) (k : Nat) = some (e, j) ∧ ((e = 4 ∧ lR l k = true) ∨ (e < 4 ∧ lR l k = false))
  | 0, k, _, h => by omega
  | n + 1, k, g1, g2 => by
    rw [l31_0]
    by_cases hk : k < l.length
    · have e1 : decide (((k : Nat) : Int) < (((List.length l) : Nat) : Int)) = true := decide_eq_true (by omega)
      have e2 : decide ((0 : Int) ≤ ((k : Nat) : Int)) = true := decide_eq_true (by omega)
      have e7 : IntKind.wrap .i64 (((k : Nat) : Int) + (1)) = ((k + 1 : Nat) : Int) := by rw [wrap_id (by omega) (by omega)]; rfl
      have hq := h2 _ (getD_mem l k (([] : Q4), ([] : Q4)) hk)
      obtain ⟨e, j, go, hc⟩ := lright_loop m l h1 h2 n (k + 1) (by omega) (by omega)
      have hd := drop_getD l k (([] : Q4), ([] : Q4)) hk
      have hR : lR l k = (lab1 (l.getD k (([] : Q4), ([] : Q4))) && (decide (k = 0) || Op.bytesLess (l.getD (k - 1) (([] : Q4), ([] : Q4))).1 (l.getD k (([] : Q4), ([] : Q4))).1) && lR l (k + 1)) := by
        unfold lR
        rw [hd, List.all_cons, show k + 1 - 1 = k from rfl]
        cases k with
        | zero => rw [show (0 - 1 : Nat) = 0 from rfl, hd]; simp [Bool.and_assoc]
        | succ k =>
          rw [show k + 1 - 1 = k from rfl]
          have hd0 := drop_getD l k (([] : Q4), ([] : Q4)) (by omega)
          have hr : lrise (l.drop k) = (Op.bytesLess (l.getD k (([] : Q4), ([] : Q4))).1 (l.getD (k + 1) (([] : Q4), ([] : Q4))).1 && lrise (l.drop (k + 1))) := by
            rw [hd0, hd, lrise]
          rw [hr]
          have : decide (k + 1 = 0) = false := decide_eq_false (by omega)
          rw [this, Bool.false_or]
          generalize lab1 (l.getD (k + 1) (([] : Q4), ([] : Q4))) = A
          generalize List.all (l.drop (k + 1 + 1)) lab1 = B
          generalize Op.bytesLess (l.getD k (([] : Q4), ([] : Q4))).1 (l.getD (k + 1) (([] : Q4), ([] : Q4))).1 = C
          generalize lrise (l.drop (k + 1)) = D
          cases A <;> cases B <;> cases C <;> rfl
      have hl : lab1 (l.getD k (([] : Q4), ([] : Q4))) = (wordG (l.getD k (([] : Q4), ([] : Q4))).1 && decide (1 ≤ (l.getD k (([] : Q4), ([] : Q4))).2.length) && decide ((l.getD k (([] : Q4), ([] : Q4))).2.length ≤ 24)) := rfl
      simp only [show Int.toNat ((k : Nat) : Int) = k from rfl, e1, e2, e7, ↓reduceIte]
      have e3 : decide (List.length (l.getD k (([] : Q4), ([] : Q4))).1 ≤ 9223372036854775807) = true := decide_eq_true hq
      rw [if_pos e3]
      have yes : lab1 (l.getD k (([] : Q4), ([] : Q4))) = true → (decide (k = 0) || Op.bytesLess (l.getD (k - 1) (([] : Q4), ([] : Q4))).1 (l.getD k (([] : Q4), ([] : Q4))).1) = true → ∃ e j, l31_0 m n l (l.length : Nat) ((k + 1 : Nat) : Int) = some (e, j) ∧ ((e = 4 ∧ lR l k = true) ∨ (e < 4 ∧ lR l k = false)) := by
        intro a b
        rw [hR, a, b]
        exact ⟨e, j, go, by rw [Bool.and_self, Bool.true_and]; exact hc⟩
      have no : ∀ e' : Nat, e' < 4 → (lab1 (l.getD k (([] : Q4), ([] : Q4))) && (decide (k = 0) || Op.bytesLess (l.getD (k - 1) (([] : Q4), ([] : Q4))).1 (l.getD k (([] : Q4), ([] : Q4))).1)) = false → ∃ e j, (some (e', ((k : Nat) : Int)) : Option (Nat × Int)) = some (e, j) ∧ ((e = 4 ∧ lR l k = true) ∨ (e < 4 ∧ lR l k = false)) := by
        intro e' he' a
        rw [hR, a]
        exact ⟨_, _, rfl, .inr ⟨he', rfl⟩⟩
      cases c1 : wordG (l.getD k (([] : Q4), ([] : Q4))).1 with
      | false => 
        rw [c1] at hl
        rw [if_neg (by simp)]
        exact no 0 (by omega) (by rw [hl]; rfl)
      | true =>
        rw [c1, Bool.true_and] at hl
        rw [if_pos rfl]
        by_cases c2 : (l.getD k (([] : Q4), ([] : Q4))).2 = []
        · rw [if_pos (by rw [c2]; rfl)]
          exact no 1 (by omega) (by rw [hl, c2]; rfl)
        · have p2 : 1 ≤ (l.getD k (([] : Q4), ([] : Q4))).2.length := by
            cases h : (l.getD k (([] : Q4), ([] : Q4))).2 with
            | nil => exact absurd h c2
            | cons a t => simp
          rw [if_neg (by rw [beq_iff_eq]; exact c2)]
          rw [show decide (1 ≤ (l.getD k (([] : Q4), ([] : Q4))).2.length) = true from decide_eq_true p2, Bool.true_and] at hl
          by_cases c3 : (l.getD k (([] : Q4), ([] : Q4))).2.length ≤ 24
          · rw [if_neg (show ¬ decide ((((List.length (l.getD k (([] : Q4), ([] : Q4))).2) : Nat) : Int) > 24) = true by rw [decide_eq_true_eq]; omega)]
            rw [decide_eq_true c3] at hl
            by_cases c4 : k = 0
            · subst c4
              rw [if_neg (by simp)]
              exact yes hl rfl
            · have w1 : IntKind.wrap .i64 (((k : Nat) : Int) - (1)) = ((k - 1 : Nat) : Int) := by rw [wrap_id (by omega) (by omega)]; omega
              rw [if_pos (show decide (((k : Nat) : Int) > 0) = true from decide_eq_true (by omega)), w1, if_pos (decide_eq_true (by omega)), if_pos (decide_eq_true (by omega)), show Int.toNat ((k - 1 : Nat) : Int) = k - 1 from rfl]
              cases c5 : Op.bytesLess (l.getD (k - 1) (([] : Q4), ([] : Q4))).1 (l.getD k (([] : Q4), ([] : Q4))).1 with
              | true => rw [if_pos rfl]; exact yes hl (by rw [c5, Bool.or_true])
              | false => rw [if_neg (by simp)]; exact no 3 (by omega) (by rw [c5, decide_eq_false c4]; simp)
          · rw [if_pos (show decide ((((List.length (l.getD k (([] : Q4), ([] : Q4))).2) : Nat) : Int) > 24) = true from decide_eq_true (by omega))]
            exact no 2 (by omega) (by rw [hl, decide_eq_false c3]; rfl)
    · have e1 : decide (((k : Nat) : Int) < (((List.length l) : Nat) : Int)) = false := decide_eq_false (by omega)
      have e0 : k = l.length := by omega
      subst e0
      rw [e1, if_neg (by simp)]
      refine ⟨4, _, rfl, .inl ⟨rfl, ?_⟩⟩
      unfold lR
      rw [List.drop_length, List.all_nil, Bool.true_and]
      rcases Nat.eq_zero_or_pos l.length with h | h
      · rw [h, List.drop_eq_nil_of_le (by omega)]; rfl
      · rw [drop_getD l (l.length - 1) (([] : Q4), ([] : Q4)) (by omega), List.drop_eq_nil_of_le (by omega)]; rfl
theorem lright49 (l : LB) (h : lrightPre l = true) : ∃ m, p31 m l = some (lrightG l) := by
  have ⟨h1, h2⟩ := of_decide_eq_true h
  refine ⟨l.length, ?_⟩
  obtain ⟨e, j, hr, hc⟩ := lright_loop l.length l h1 h2 (l.length + 24) 0 (by omega) (by omega)
  have q2 : decide ((((List.length l) : Nat) : Int) ≤ 6) = decide (l.length ≤ 6) := by rw [decide_eq_decide]; omega
  have hR : lrightG l = (lR l 0 && decide (l.length ≤ 6)) := by unfold lrightG lR; rfl
  simp only [Int.natCast_zero] at hr
  unfold p31
  rw [hR]
  simp only [l31_0R, hr, q2, Option.isSome_some, Option.getD_some, ↓reduceIte]
  rcases hc with ⟨rfl, hc⟩ | ⟨hlt, hc⟩
  · rw [hc, Bool.true_and]; rfl
  · rw [hc, Bool.false_and]
    have : e = 0 ∨ e = 1 ∨ e = 2 ∨ e = 3 := by omega
    rcases this with rfl | rfl | rfl | rfl <;> rfl
def s31 : List AV → Boxes → M (AV × Boxes) := normS [.val (.sl (.pair .str .str))] [] fun xs B => match xs, B with
  | [(.d (.sl (.pair .str .str) c1))], [] => .chk (lrightPre c1) (.ret ((.d (.bool (lrightG c1))), []))
  | _, _ => .fail
theorem s31_at : CallAt Tryd.prog 31 s31 := by
  refine CallAt.norm (CallAt.weakE (g := fun n => evCall F S11 n 31) (fun n => evCall_atH mixed kinds hds S11 S11_ok n 31) fun xs B r' B' hr => ?_) _ _
  split at hr
  · rename_i c1
    obtain ⟨hp, hr⟩ := (M.run_chk _ _ _).1 hr
    simp only [M.run, Option.some.injEq, Prod.mk.injEq] at hr
    obtain ⟨rfl, rfl⟩ := hr
    obtain ⟨m, hm⟩ := lright49 c1 hp
    obtain ⟨r, B1, h1, h2, h3, h4⟩ := p31_ok m c1 _ hm
    exact ⟨m + 25, r, B1, h1, by simp, h2, h3, h4⟩
  · simp [M.run] at hr
noncomputable def S12 : FuncId → Option (List AV → Boxes → M (AV × Boxes)) := fun f => if f = 31 then some s31 else S11 f
theorem S12_ok : ∀ f s, S12 f = some s → CallAt Tryd.prog f s := by
  intro f s h
  unfold S12 at h
  split at h
  · rename_i e; subst e; cases h; exact s31_at
  · exact S11_ok f s h

end Go.Proofs.YtahdcmicifokgaaDoor.Dec
namespace Go.Proofs.YtahdcmicifokgaaDoor.Dec
open Go.Ev
set_option linter.unusedVariables false
set_option linter.unusedSimpArgs false
set_option maxRecDepth 100000
set_option maxHeartbeats 20000000
noncomputable def fn9 : AFn := (F 9).getD ⟨0, [], .bad, false, false, noHd⟩
noncomputable def body9 : AC := fn9.body
def l9_0 (m : Nat) : Nat → Q2 → Int → Int → Q3 → Option (Nat × Int × (Q3))
  | 0, _, _, _, _ => none
  | n + 1, x0, s10, s11, b0 => if decide (s11 < s10) = true then
      if decide (0 ≤ s11) = true then
      if decide (s11 < (((List.length x0) : Nat) : Int)) = true then
      if decide (List.length (List.getD x0 (Int.toNat s11) (([] : Q4), ([] : Q4))).1 + List.length ([61] : Q4) ≤ 4611686018427387904) = true then
      if decide (List.length (List.getD x0 (Int.toNat s11) (([] : Q4), ([] : Q4))).2 ≤ 1000000) = true then
      if decide (List.length ((List.getD x0 (Int.toNat s11) (([] : Q4), ([] : Q4))).1 ++ ([61] : Q4)) + List.length (quoteG (List.getD x0 (Int.toNat s11) (([] : Q4), ([] : Q4))).2) ≤ 4611686018427387904) = true then
      if decide ((((List.length b0) + 1) * 16) ≤ 70368744177664) = true then
      l9_0 m n x0 s10 ((IntKind.wrap .i64 (s11 + (1)))) ((b0 ++ [(((List.getD x0 (Int.toNat s11) (([] : Q4), ([] : Q4))).1 ++ ([61] : Q4)) ++ (quoteG (List.getD x0 (Int.toNat s11) (([] : Q4), ([] : Q4))).2))]))
      else none
      else none
      else none
      else none
      else none
      else none
    else
      some (0, s11, b0)
def l9_0D : Nat × Int × (Q3) := (0, 0, [])
@[reducible] def l9_0R (m n : Nat) (x0 : Q2) (s10 : Int) (s11 : Int) (b0 : Q3) : Nat × Int × (Q3) := Option.getD (l9_0 m n x0 s10 s11 b0) l9_0D
def l9_0H (x0 : Q2) (s10 : Int) (s11 : Int) (b0 : Q3) : Env := (.top :: .top :: .top :: (.sr 0 0 (List.length b0) 1 none) :: .top :: .top :: .top :: .top :: .top :: (.d (.sl (.pair .str .str) x0)) :: (.d (.int .i64 s10)) :: (.d (.int .i64 s11)) :: tp18 [])
def l9_0B (x0 : Q2) (s10 : Int) (s11 : Int) (b0 : Q3) : Boxes := [(.arr .str b0 true)]
def l9_0E (x0 : Q2) (s10 : Int) (s11 : Int) (b0 : Q3) : Nat → AEx × Env × Boxes
  | _ => (.exit 0, (.top :: .top :: .top :: (.sr 0 0 (List.length b0) 1 none) :: .top :: .top :: .top :: .top :: .top :: (.d (.sl (.pair .str .str) x0)) :: (.d (.int .i64 s10)) :: (.d (.int .i64 s11)) :: (.d (.bool (decide (s11 < s10)))) :: tp17 []), [(.arr .str b0 true)])
noncomputable def lbl9_0 : AC := loopBody 3592 body9
@[reducible] noncomputable def cb4 (m : Nat) := (evC byref (evCall F S12 (m + 24)) (m + 24) 0 (hds 9) lbl9_0)


theorem l9_0_step (m n : Nat) (ih : ∀ (x0 : Q2) (s10 : Int) (s11 : Int) (b0 : Q3) (q : Nat × Int × (Q3)), l9_0 m n x0 s10 s11 b0 = some q → (turns (hds 9 3592) 0 3592 (cb4 m) n (l9_0H x0 s10 s11 b0) (l9_0B x0 s10 s11 b0)).run = some (l9_0E (x0) (s10) (q.2.1) (q.2.2) q.1)) (x0 : Q2) (s10 : Int) (s11 : Int) (b0 : Q3) (q : Nat × Int × (Q3)) (h : l9_0 m (n + 1) x0 s10 s11 b0 = some q) : (turns (hds 9 3592) 0 3592 (cb4 m) (n + 1) (l9_0H x0 s10 s11 b0) (l9_0B x0 s10 s11 b0)).run = some (l9_0E (x0) (s10) (q.2.1) (q.2.2) q.1) := by
  rw [l9_0] at h
  refine ite_cases h (fun c0 h => ?_) (fun c0 h => ?_)
  · skip
    obtain ⟨c1, h⟩ := iY h
    obtain ⟨c2, h⟩ := iY h
    obtain ⟨c3, h⟩ := iY h
    obtain ⟨c4, h⟩ := iY h
    obtain ⟨c5, h⟩ := iY h
    obtain ⟨c7, h⟩ := iY h
    have ih := ih _ _ _ _ q h
    have ht : (turn (hds 9 3592) 0 3592 (cb4 m) (l9_0H x0 s10 s11 b0) (l9_0B x0 s10 s11 b0)).run = some (.normal, (.top :: .top :: .top :: (.sr 0 0 ((List.length b0) + 1) 1 none) :: .top :: .top :: .top :: .top :: .top :: (.d (.sl (.pair .str .str) x0)) :: (.d (.int .i64 s10)) :: (.d (.int .i64 (IntKind.wrap .i64 (s11 + (1))))) :: tp18 []), [(.arr .str (b0 ++ [(((List.getD x0 (Int.toNat s11) (([] : Q4), ([] : Q4))).1 ++ ([61] : Q4)) ++ (quoteG (List.getD x0 (Int.toNat s11) (([] : Q4), ([] : Q4))).2))]) true)]) := M.run_of_path _ [tT, tT, tT, tT, tT, tT, tT, tT, tT] _ _ (by kernel_rfl) (all_t c0 (all_t c1 (all_t c2 (all_t c3 (all_t c4 (all_t c5 (all_t rfl (all_t c7 (all_t (show decide ((List.length b0) = (List.length b0)) = true from decide_eq_true rfl) all_nil)))))))))
    refine turns_step ht (turns_eq ?_ ?_ ih)
    · unfold l9_0H
      first | (simp; done) | (simp [Nat.add_assoc]; done) | (simp; omega)
    · unfold l9_0B
      simp
  · skip
    cases h
    refine turns_last (by simp) ?_
    exact M.run_of_path _ [fF] _ _ (by kernel_rfl) (all_f c0 all_nil)
theorem l9_0_ok (m : Nat) : ∀ (n : Nat) (x0 : Q2) (s10 : Int) (s11 : Int) (b0 : Q3) (q : Nat × Int × (Q3)), l9_0 m n x0 s10 s11 b0 = some q → (turns (hds 9 3592) 0 3592 (cb4 m) n (l9_0H x0 s10 s11 b0) (l9_0B x0 s10 s11 b0)).run = some (l9_0E (x0) (s10) (q.2.1) (q.2.2) q.1)
  | 0, x0, s10, s11, b0, q, h => by cases h
  | n + 1, x0, s10, s11, b0, q, h => l9_0_step m n (l9_0_ok m n) x0 s10 s11 b0 q h

def p9 (m : Nat) (x0 : Q2) : Option ((Q4)) :=
  if lrightPre x0 = true then
  if (lrightG x0) = true then
    if (Option.isSome (l9_0 m (m + 24) x0 ((((List.length x0) : Nat) : Int)) 0 (([] : Q3)))) = true then
    if (decide (List.length (List.take (List.length (l9_0R m (m + 24) x0 ((((List.length x0) : Nat) : Int)) 0 (([] : Q3))).2.2) (List.drop 0 (l9_0R m (m + 24) x0 ((((List.length x0) : Nat) : Int)) 0 (([] : Q3))).2.2)) ≤ 140737488355328) && decide (List.length (Lib.join (List.take (List.length (l9_0R m (m + 24) x0 ((((List.length x0) : Nat) : Int)) 0 (([] : Q3))).2.2) (List.drop 0 (l9_0R m (m + 24) x0 ((((List.length x0) : Nat) : Int)) 0 (([] : Q3))).2.2)) ([44] : Q4)) ≤ 140737488355328)) = true then
    if decide (List.length ([123] : Q4) + List.length (Lib.join (List.take (List.length (l9_0R m (m + 24) x0 ((((List.length x0) : Nat) : Int)) 0 (([] : Q3))).2.2) (List.drop 0 (l9_0R m (m + 24) x0 ((((List.length x0) : Nat) : Int)) 0 (([] : Q3))).2.2)) ([44] : Q4)) ≤ 4611686018427387904) = true then
    if decide (List.length (([123] : Q4) ++ (Lib.join (List.take (List.length (l9_0R m (m + 24) x0 ((((List.length x0) : Nat) : Int)) 0 (([] : Q3))).2.2) (List.drop 0 (l9_0R m (m + 24) x0 ((((List.length x0) : Nat) : Int)) 0 (([] : Q3))).2.2)) ([44] : Q4))) + List.length ([125] : Q4) ≤ 4611686018427387904) = true then
    some (((([123] : Q4) ++ (Lib.join (List.take (List.length (l9_0R m (m + 24) x0 ((((List.length x0) : Nat) : Int)) 0 (([] : Q3))).2.2) (List.drop 0 (l9_0R m (m + 24) x0 ((((List.length x0) : Nat) : Int)) 0 (([] : Q3))).2.2)) ([44] : Q4))) ++ ([125] : Q4)))
    else none
    else none
    else none
    else none
  else
    some (([] : Q4))
  else none
theorem p9_ok (m : Nat) (x0 : Q2) (q : (Q4)) (h : p9 m x0 = some q) : ∃ r B1, (evCall F S12 (m + 25) 9 [(.d (.sl (.pair .str .str) x0))] []).run = some (r, B1) ∧ 0 ≤ B1.length ∧ wkR B1 [] r (.d (.str q)) ∧ wkBs B1 [] 0 [] := by
  unfold p9 at h
  obtain ⟨c0, h⟩ := iY h
  refine ite_cases h (fun c1 h => ?_) (fun c1 h => ?_)
  · skip
    obtain ⟨c2, h⟩ := iY h
    obtain ⟨c4, h⟩ := iY h
    obtain ⟨c5, h⟩ := iY h
    obtain ⟨c6, h⟩ := iY h
    cases h
    refine ⟨(.d (.str ((([123] : Q4) ++ (Lib.join (List.take (List.length (l9_0R m (m + 24) x0 ((((List.length x0) : Nat) : Int)) 0 (([] : Q3))).2.2) (List.drop 0 (l9_0R m (m + 24) x0 ((((List.length x0) : Nat) : Int)) 0 (([] : Q3))).2.2)) ([44] : Q4))) ++ ([125] : Q4)))), [], runT_ok (LS := (fun k => if k = 3592 then some (l9_0E x0 (((((List.length x0) : Nat) : Int))) ((l9_0R m (m + 24) x0 ((((List.length x0) : Nat) : Int)) 0 (([] : Q3))).2.1) ((l9_0R m (m + 24) x0 ((((List.length x0) : Nat) : Int)) 0 (([] : Q3))).2.2) 0) else none)) (fn := fn9) (vis := [(3592, l9_0H x0 ((((List.length x0) : Nat) : Int)) 0 (([] : Q3)), l9_0B x0 ((((List.length x0) : Nat) : Int)) 0 (([] : Q3)))]) (by kernel_rfl) rfl (by kernel_rfl) (M.run_of_path _ [tT, fF, tT, tT, tT, tT] _ _ (by kernel_rfl) (all_t c0 (all_nt c1 (all_t (show decide ((0 + (List.length (l9_0R m (m + 24) x0 ((((List.length x0) : Nat) : Int)) 0 (([] : Q3))).2.2)) ≤ (List.length (l9_0R m (m + 24) x0 ((((List.length x0) : Nat) : Int)) 0 (([] : Q3))).2.2)) = true from decide_eq_true (Nat.le_of_eq (Nat.zero_add _))) (all_t c4 (all_t c5 (all_t c6 all_nil))))))) ?_, by simp, (wkR.one (wkV.one (wk1.eq rfl))), trivial⟩
    intro p hp p2 hq
    rcases List.mem_cons.1 hp with rfl | hp
    · skip
      have h3 := l9_0_ok m (m + 24) x0 ((((List.length x0) : Nat) : Int)) 0 (([] : Q3)) _ (some_getD (d := l9_0D) c2)
      exact Eq.trans (Eq.mp (by kernel_rfl) h3) hq
    cases hp
  · skip
    cases h
    refine ⟨(.d (.str ([] : Q4))), [], runT_ok (LS := (fun k => none)) (fn := fn9) (vis := []) (by kernel_rfl) rfl (by kernel_rfl) (M.run_of_path _ [tT, tT] _ _ (by kernel_rfl) (all_t c0 (all_nf c1 all_nil))) ?_, by simp, (wkR.one (wkV.one (wk1.eq rfl))), trivial⟩
    intro p hp; cases hp

theorem inter_le (sep : Q4) (B : Nat) : ∀ (l : Q3), (∀ x ∈ l, x.length ≤ B) → (Lib.join l sep).length ≤ l.length * (B + sep.length)
  | [], _ => Nat.zero_le _
  | [a], h => by
    have := h a (List.mem_cons_self ..)
    have e : Lib.join [a] sep = a := by unfold Lib.join; simp [List.intercalate]
    rw [e]
    simp only [List.length_cons, List.length_nil]
    omega
  | a :: b :: l, h => by
    have e : Lib.join (a :: b :: l) sep = a ++ (sep ++ Lib.join (b :: l) sep) := by unfold Lib.join; simp [List.intercalate]
    rw [e, List.length_append, List.length_append]
    have h1 := h a (List.mem_cons_self ..)
    have h2 := inter_le sep B (b :: l) (fun x hx => h x (List.mem_cons_of_mem _ hx))
    have : (a :: b :: l).length * (B + sep.length) = (b :: l).length * (B + sep.length) + (B + sep.length) := by
      rw [List.length_cons, Nat.succ_mul]
    omega
def litemG (x : (Q4) × (Q4)) : Q4 := (x.1 ++ [61]) ++ quoteG x.2
def lprintG (l : LB) : Q4 := if lrightG l = true then ([123] ++ Lib.join (l.map litemG) [44]) ++ [125] else []
theorem lright_all {l : LB} (h : lrightG l = true) : l.length ≤ 6 ∧ ∀ x ∈ l, x.1.length ≤ 24 ∧ x.2.length ≤ 24 := by
  unfold lrightG at h
  rw [Bool.and_eq_true, Bool.and_eq_true, decide_eq_true_eq] at h
  refine ⟨h.2, fun x hx => ?_⟩
  have := List.all_eq_true.1 h.1.1 x hx
  unfold lab1 wordG at this
  simp only [Bool.and_eq_true, decide_eq_true_eq] at this
  omega
theorem litem_le {x : (Q4) × (Q4)} (h : x.1.length ≤ 24 ∧ x.2.length ≤ 24) : (litemG x).length ≤ 100 := by
  unfold litemG
  rw [List.length_append, List.length_append]
  have := quote_le x.2
  simp only [List.length_cons, List.length_nil]
  omega
theorem lprint_loop (m : Nat) (l : LB) (h1 : l.length ≤ 6) (h2 : ∀ x ∈ l, x.1.length ≤ 24 ∧ x.2.length ≤ 24) : ∀ (n k : Nat) (b : Q3), k ≤ l.length → l.length - k < n → b.length ≤ k → l9_0 m n l (l.length : Nat) (k : Nat) b = some (0, ((l.length : Nat) : Int), b ++ (l.drop k).map litemG)
  | 0, k, _, _, h, _ => by omega
  | n + 1, k, b, g1, g2, g3 => by
    rw [l9_0]
    by_cases hk : k < l.length
    · have e1 : decide (((k : Nat) : Int) < (((List.length l) : Nat) : Int)) = true := decide_eq_true (by omega)
      have e2 : decide ((0 : Int) ≤ ((k : Nat) : Int)) = true := decide_eq_true (by omega)
      have e7 : IntKind.wrap .i64 (((k : Nat) : Int) + (1)) = ((k + 1 : Nat) : Int) := by rw [wrap_id (by omega) (by omega)]; rfl
      have hq := h2 _ (getD_mem l k (([] : Q4), ([] : Q4)) hk)
      have go := fun x => lprint_loop m l h1 h2 n (k + 1) (b ++ [x]) (by omega) (by omega) (by simp; omega)
      rw [drop_getD l k (([] : Q4), ([] : Q4)) hk]
      simp only [show Int.toNat ((k : Nat) : Int) = k from rfl, e1, e2, e7, ↓reduceIte]
      generalize l.getD k (([] : Q4), ([] : Q4)) = q at *
      have hi : litemG q = (q.1 ++ [61]) ++ quoteG q.2 := rfl
      have hql := quote_le q.2
      have b0 : decide (List.length q.2 ≤ 1000000) = true := decide_eq_true (by omega)
      have b1 : decide (((List.length b) + 1) * 16 ≤ 70368744177664) = true := decide_eq_true (by omega)
      have b2 : decide (List.length q.1 + List.length ([61] : Q4) ≤ 4611686018427387904) = true := decide_eq_true (by simp; omega)
      have b3 : decide (List.length (q.1 ++ [61]) + List.length (quoteG q.2) ≤ 4611686018427387904) = true := decide_eq_true (by rw [List.length_append]; simp only [List.length_cons, List.length_nil]; omega)
      simp only [b0, b1, b2, b3, ↓reduceIte]
      rw [go, List.map_cons, hi]
      simp
    · have e1 : decide (((k : Nat) : Int) < (((List.length l) : Nat) : Int)) = false := decide_eq_false (by omega)
      have e0 : k = l.length := by omega
      subst e0
      rw [e1, if_neg (by simp), List.drop_length]
      simp
theorem lprint30 (l : LB) (h : lrightPre l = true) : ∃ m, p9 m l = some (lprintG l) := by
  refine ⟨l.length, ?_⟩
  unfold p9 lprintG
  rw [if_pos h]
  by_cases hr : lrightG l = true
  · obtain ⟨h1, h2⟩ := lright_all hr
    rw [if_pos hr, if_pos hr]
    have hl := lprint_loop l.length l h1 h2 (l.length + 24) 0 [] (by omega) (by omega) (by simp)
    simp only [Int.natCast_zero, List.drop_zero, List.nil_append] at hl
    simp only [l9_0R, hl, Option.isSome_some, Option.getD_some, ↓reduceIte, List.drop_zero, List.take_length]
    have hj := inter_le [44] 100 (l.map litemG) (by
      intro x hx
      obtain ⟨y, hy, rfl⟩ := List.mem_map.1 hx
      exact litem_le (h2 y hy))
    have hm : (l.map litemG).length = l.length := by simp
    rw [hm] at hj
    generalize hJ : Lib.join (l.map litemG) [44] = J at *
    have : l.length * (100 + ([44] : Q4).length) ≤ 606 := by
      simp only [List.length_cons, List.length_nil]; omega
    rw [if_pos, if_pos, if_pos]
    · exact decide_eq_true (by simp; omega)
    · exact decide_eq_true (by simp; omega)
    · rw [Bool.and_eq_true]
      exact ⟨decide_eq_true (by rw [hm]; omega), decide_eq_true (by omega)⟩
  · rw [if_neg hr, if_neg hr]
def s9 : List AV → Boxes → M (AV × Boxes) := normS [.val (.sl (.pair .str .str))] [] fun xs B => match xs, B with
  | [(.d (.sl (.pair .str .str) c1))], [] => .chk (lrightPre c1) (.ret ((.d (.str (lprintG c1))), []))
  | _, _ => .fail
theorem s9_at : CallAt Tryd.prog 9 s9 := by
  refine CallAt.norm (CallAt.weakE (g := fun n => evCall F S12 n 9) (fun n => evCall_atH mixed kinds hds S12 S12_ok n 9) fun xs B r' B' hr => ?_) _ _
  split at hr
  · rename_i c1
    obtain ⟨hp, hr⟩ := (M.run_chk _ _ _).1 hr
    simp only [M.run, Option.some.injEq, Prod.mk.injEq] at hr
    obtain ⟨rfl, rfl⟩ := hr
    obtain ⟨m, hm⟩ := lprint30 c1 hp
    obtain ⟨r, B1, h1, h2, h3, h4⟩ := p9_ok m c1 _ hm
    exact ⟨m + 25, r, B1, h1, by simp, h2, h3, h4⟩
  · simp [M.run] at hr
noncomputable def S13 : FuncId → Option (List AV → Boxes → M (AV × Boxes)) := fun f => if f = 9 then some s9 else S12 f
theorem S13_ok : ∀ f s, S13 f = some s → CallAt Tryd.prog f s := by
  intro f s h
  unfold S13 at h
  split at h
  · rename_i e; subst e; cases h; exact s9_at
  · exact S12_ok f s h

noncomputable def fn41 : AFn := (F 41).getD ⟨0, [], .bad, false, false, noHd⟩
noncomputable def body41 : AC := fn41.body
def l41_0 (m : Nat) : Nat → Q2 → Q2 → Int → Int → Option (Nat × Int)
  | 0, _, _, _, _ => none
  | n + 1, x0, x1, s12, s13 => if decide (s13 < s12) = true then
      if decide (0 ≤ s13) = true then
      if decide (s13 < (((List.length x0) : Nat) : Int)) = true then
      if decide (s13 < (((List.length x1) : Nat) : Int)) = true then
      if (((List.getD x0 (Int.toNat s13) (([] : Q4), ([] : Q4))).1 == (List.getD x1 (Int.toNat s13) (([] : Q4), ([] : Q4))).1) && (((List.getD x0 (Int.toNat s13) (([] : Q4), ([] : Q4))).2 == (List.getD x1 (Int.toNat s13) (([] : Q4), ([] : Q4))).2) && true)) = true then
        l41_0 m n x0 x1 s12 ((IntKind.wrap .i64 (s13 + (1))))
      else
        some (0, s13)
      else none
      else none
      else none
    else
      some (1, s13)
def l41_0D : Nat × Int := (0, 0)
@[reducible] def l41_0R (m n : Nat) (x0 : Q2) (x1 : Q2) (s12 : Int) (s13 : Int) : Nat × Int := Option.getD (l41_0 m n x0 x1 s12 s13) l41_0D
def l41_0H (x0 : Q2) (x1 : Q2) (s12 : Int) (s13 : Int) : Env := ((.d (.sl (.pair .str .str) x0)) :: (.d (.sl (.pair .str .str) x1)) :: tp10 ((.d (.int .i64 s12)) :: (.d (.int .i64 s13)) :: tp12 []))
def l41_0B (x0 : Q2) (x1 : Q2) (s12 : Int) (s13 : Int) : Boxes := []
def l41_0E (x0 : Q2) (x1 : Q2) (s12 : Int) (s13 : Int) : Nat → AEx × Env × Boxes
  | 0 => (.ret, [(.d (.sl (.pair .str .str) x0)), (.d (.sl (.pair .str .str) x1)), .top, .top, (.d (.bool false)), (.d (.int .i64 s13)), .top, .top, .top, .top, .top, .top, (.d (.int .i64 s12)), (.d (.int .i64 s13)), (.d (.bool (decide (s13 < s12)))), (.d (.int .i64 s13)), (.d (.sl (.pair .str .str) x0)), (.d (.int .i64 s13)), (.cptr [(.str (List.getD x0 (Int.toNat s13) (([] : Q4), ([] : Q4))).1), (.str (List.getD x0 (Int.toNat s13) (([] : Q4), ([] : Q4))).2)] 0), (.agg [(.d (.str (List.getD x0 (Int.toNat s13) (([] : Q4), ([] : Q4))).1)), (.d (.str (List.getD x0 (Int.toNat s13) (([] : Q4), ([] : Q4))).2))]), (.d (.sl (.pair .str .str) x1)), (.d (.int .i64 s13)), (.cptr [(.str (List.getD x1 (Int.toNat s13) (([] : Q4), ([] : Q4))).1), (.str (List.getD x1 (Int.toNat s13) (([] : Q4), ([] : Q4))).2)] 0), (.agg [(.d (.str (List.getD x1 (Int.toNat s13) (([] : Q4), ([] : Q4))).1)), (.d (.str (List.getD x1 (Int.toNat s13) (([] : Q4), ([] : Q4))).2))]), (.d (.bool (!(((List.getD x0 (Int.toNat s13) (([] : Q4), ([] : Q4))).1 == (List.getD x1 (Int.toNat s13) (([] : Q4), ([] : Q4))).1) && (((List.getD x0 (Int.toNat s13) (([] : Q4), ([] : Q4))).2 == (List.getD x1 (Int.toNat s13) (([] : Q4), ([] : Q4))).2) && true))))), .top], [.dead, .dead, .dead, .dead, .dead, .dead, .dead, .dead, .dead, .dead, .dead, .dead, .dead, .dead, .dead, .dead, .dead, .dead, .dead, .dead, .dead, .dead, .dead, .dead, .dead, .dead, .dead, .dead, .dead, .dead, .dead, .dead, .dead, .dead, .dead, .dead])
  | _ => (.exit 0, ((.d (.sl (.pair .str .str) x0)) :: (.d (.sl (.pair .str .str) x1)) :: tp10 ((.d (.int .i64 s12)) :: (.d (.int .i64 s13)) :: (.d (.bool (decide (s13 < s12)))) :: tp11 [])), [])
noncomputable def lbl41_0 : AC := loopBody 12291 body41
@[reducible] noncomputable def cb5 (m : Nat) := (evC byref (evCall F S13 (m + 24)) (m + 24) 0 (hds 41) lbl41_0)


theorem l41_0_step (m n : Nat) (ih : ∀ (x0 : Q2) (x1 : Q2) (s12 : Int) (s13 : Int) (q : Nat × Int), l41_0 m n x0 x1 s12 s13 = some q → (turns (hds 41 12291) 0 12291 (cb5 m) n (l41_0H x0 x1 s12 s13) (l41_0B x0 x1 s12 s13)).run = some (l41_0E (x0) (x1) (s12) (q.2) q.1)) (x0 : Q2) (x1 : Q2) (s12 : Int) (s13 : Int) (q : Nat × Int) (h : l41_0 m (n + 1) x0 x1 s12 s13 = some q) : (turns (hds 41 12291) 0 12291 (cb5 m) (n + 1) (l41_0H x0 x1 s12 s13) (l41_0B x0 x1 s12 s13)).run = some (l41_0E (x0) (x1) (s12) (q.2) q.1) := by
  rw [l41_0] at h
  refine ite_cases h (fun c0 h => ?_) (fun c0 h => ?_)
  · skip
    obtain ⟨c1, h⟩ := iY h
    obtain ⟨c2, h⟩ := iY h
    obtain ⟨c4, h⟩ := iY h
    refine ite_cases h (fun c5 h => ?_) (fun c5 h => ?_)
    · skip
      have ih := ih _ _ _ _ q h
      refine turns_step ?_ ih
      exact M.run_of_path _ [tT, tT, tT, tT, tT, fF] _ _ (by kernel_rfl) (all_t c0 (all_t c1 (all_t c2 (all_t c1 (all_t c4 (all_nt c5 all_nil))))))
    · skip
      cases h
      refine turns_last (by simp) ?_
      exact M.run_of_path _ [tT, tT, tT, tT, tT, tT] _ _ (by kernel_rfl) (all_t c0 (all_t c1 (all_t c2 (all_t c1 (all_t c4 (all_nf c5 all_nil))))))
  · skip
    cases h
    refine turns_last (by simp) ?_
    exact M.run_of_path _ [fF] _ _ (by kernel_rfl) (all_f c0 all_nil)
theorem l41_0_ok (m : Nat) : ∀ (n : Nat) (x0 : Q2) (x1 : Q2) (s12 : Int) (s13 : Int) (q : Nat × Int), l41_0 m n x0 x1 s12 s13 = some q → (turns (hds 41 12291) 0 12291 (cb5 m) n (l41_0H x0 x1 s12 s13) (l41_0B x0 x1 s12 s13)).run = some (l41_0E (x0) (x1) (s12) (q.2) q.1)
  | 0, x0, x1, s12, s13, q, h => by cases h
  | n + 1, x0, x1, s12, s13, q, h => l41_0_step m n (l41_0_ok m n) x0 x1 s12 s13 q h

def p41 (m : Nat) (x0 : Q2) (x1 : Q2) : Option (Bool) :=
  if ((((List.length x0) : Nat) : Int) != (((List.length x1) : Nat) : Int)) = true then
    some (false)
  else
    if (Option.isSome (l41_0 m (m + 24) x0 x1 ((((List.length x0) : Nat) : Int)) 0)) = true then
    if ((l41_0R m (m + 24) x0 x1 ((((List.length x0) : Nat) : Int)) 0).1 == 0) = true then
      some (false)
    else
      if ((l41_0R m (m + 24) x0 x1 ((((List.length x0) : Nat) : Int)) 0).1 == 1) = true then
      some (true)
      else none
    else none
theorem p41_ok (m : Nat) (x0 : Q2) (x1 : Q2) (q : Bool) (h : p41 m x0 x1 = some q) : ∃ r B1, (evCall F S13 (m + 25) 41 [(.d (.sl (.pair .str .str) x0)), (.d (.sl (.pair .str .str) x1))] []).run = some (r, B1) ∧ 0 ≤ B1.length ∧ wkR B1 [] r (.d (.bool (q))) ∧ wkBs B1 [] 0 [] := by
  unfold p41 at h
  refine ite_cases h (fun c0 h => ?_) (fun c0 h => ?_)
  · skip
    cases h
    refine ⟨(.d (.bool false)), [], runT_ok (LS := (fun k => none)) (fn := fn41) (vis := []) (by kernel_rfl) rfl (by kernel_rfl) (M.run_of_path _ [tT] _ _ (by kernel_rfl) (all_t c0 all_nil)) ?_, by simp, (wkR.one (wkV.one (wk1.eq rfl))), trivial⟩
    intro p hp; cases hp
  · skip
    obtain ⟨c1, h⟩ := iY h
    refine ite_cases h (fun c2 h => ?_) (fun c2 h => ?_)
    · skip
      cases h
      refine ⟨(.d (.bool false)), [], runT_ok (LS := (fun k => if k = 12291 then some (l41_0E x0 x1 (((((List.length x0) : Nat) : Int))) ((l41_0R m (m + 24) x0 x1 ((((List.length x0) : Nat) : Int)) 0).2) 0) else none)) (fn := fn41) (vis := [(12291, l41_0H x0 x1 ((((List.length x0) : Nat) : Int)) 0, l41_0B x0 x1 ((((List.length x0) : Nat) : Int)) 0)]) (by kernel_rfl) rfl (by kernel_rfl) (M.run_of_path _ [fF] _ _ (by kernel_rfl) (all_f c0 all_nil)) ?_, by simp, (wkR.one (wkV.one (wk1.eq rfl))), trivial⟩
      intro p hp p2 hq
      rcases List.mem_cons.1 hp with rfl | hp
      · skip
        have h3 := l41_0_ok m (m + 24) x0 x1 ((((List.length x0) : Nat) : Int)) 0 _ (some_getD (d := l41_0D) c1)
        rw [eq_of_beq c2] at h3
        exact Eq.trans (Eq.mp (by kernel_rfl) h3) hq
      cases hp
    · skip
      obtain ⟨c3, h⟩ := iY h
      cases h
      refine ⟨(.d (.bool true)), [], runT_ok (LS := (fun k => if k = 12291 then some (l41_0E x0 x1 (((((List.length x0) : Nat) : Int))) ((l41_0R m (m + 24) x0 x1 ((((List.length x0) : Nat) : Int)) 0).2) 1) else none)) (fn := fn41) (vis := [(12291, l41_0H x0 x1 ((((List.length x0) : Nat) : Int)) 0, l41_0B x0 x1 ((((List.length x0) : Nat) : Int)) 0)]) (by kernel_rfl) rfl (by kernel_rfl) (M.run_of_path _ [fF] _ _ (by kernel_rfl) (all_f c0 all_nil)) ?_, by simp, (wkR.one (wkV.one (wk1.eq rfl))), trivial⟩
      intro p hp p2 hq
      rcases List.mem_cons.1 hp with rfl | hp
      · skip
        have h3 := l41_0_ok m (m + 24) x0 x1 ((((List.length x0) : Nat) : Int)) 0 _ (some_getD (d := l41_0D) c1)
        rw [eq_of_beq c3] at h3
        exact Eq.trans (Eq.mp (by kernel_rfl) h3) hq
      cases hp

theorem eq41_loop (m : Nat) (a b : Q2) (hl : a.length = b.length) (hb : a.length < 4611686018427387904) : ∀ n k, k ≤ a.length → a.length - k < n → ∃ j, l41_0 m n a b (((List.length a) : Nat) : Int) (k : Nat) = some (if a.drop k == b.drop k then 1 else 0, j)
  | 0, k, _, h => by omega
  | n + 1, k, hk, hn => by
    rw [l41_0]
    by_cases h : k < a.length
    · have hs : ∀ u v : (Q4) × (Q4), ((u.1 == v.1) && ((u.2 == v.2) && true)) = (u == v) := fun u v => by rw [Bool.and_true]; rfl
      have e1 : decide (((k : Nat) : Int) < ((a.length : Nat) : Int)) = true := decide_eq_true (by omega)
      have e2 : decide ((0 : Int) ≤ ((k : Nat) : Int)) = true := decide_eq_true (by omega)
      have e3 : decide (((k : Nat) : Int) < ((b.length : Nat) : Int)) = true := decide_eq_true (by omega)
      simp only [e1, e2, e3, if_true, Int.toNat_natCast,hs]
      rw [drop_getD a k (([] : Q4), ([] : Q4)) h, drop_getD b k (([] : Q4), ([] : Q4)) (by omega)]
      have ew : IntKind.wrap .i64 (((k : Nat) : Int) + (1)) = ((k + 1 : Nat) : Int) := by rw [wrap_id (by omega) (by omega)]; rfl
      rw [ew]
      obtain ⟨j, hj⟩ := eq41_loop m a b hl hb n (k + 1) (by omega) (by omega)
      have hc : ((a.getD k (([] : Q4), ([] : Q4))) :: a.drop (k + 1) == (b.getD k (([] : Q4), ([] : Q4))) :: b.drop (k + 1)) = (((a.getD k (([] : Q4), ([] : Q4))) == (b.getD k (([] : Q4), ([] : Q4)))) && (a.drop (k + 1) == b.drop (k + 1))) := rfl
      rw [hc]
      rcases Bool.eq_false_or_eq_true ((a.getD k (([] : Q4), ([] : Q4))) == (b.getD k (([] : Q4), ([] : Q4)))) with he | he
      · exact ⟨j, by simp only [he, hj]; simp⟩
      · exact ⟨(k : Nat), by simp only [he]; simp⟩
    · have e1 : decide (((k : Nat) : Int) < ((a.length : Nat) : Int)) = false := decide_eq_false (by omega)
      refine ⟨(k : Nat), ?_⟩
      simp only [e1, Bool.false_eq_true, if_false]
      rw [List.drop_eq_nil_of_le (by omega), List.drop_eq_nil_of_le (by omega)]
      rfl
theorem eq41 (a b : Q2) (h : decide (List.length a < 4611686018427387904) = true) : ∃ m, p41 m a b = some (a == b) := by
  have hb := of_decide_eq_true h
  refine ⟨a.length, ?_⟩
  unfold p41 l41_0R
  by_cases hl : a.length = b.length
  · have e0 : ((((List.length a) : Nat) : Int) != (((List.length b) : Nat) : Int)) = false := by simp [hl]
    obtain ⟨j, hj⟩ := eq41_loop a.length a b hl hb (a.length + 24) 0 (by omega) (by omega)
    simp only [Int.natCast_zero, List.drop_zero] at hj
    rw [e0]
    simp only [Bool.false_eq_true, if_false]
    rw [hj]
    cases hab : a == b <;> simp [hab]
  · have e0 : ((((List.length a) : Nat) : Int) != (((List.length b) : Nat) : Int)) = true := by simp; omega
    rw [e0]
    have : (a == b) = false := by
      rw [beq_eq_false_iff_ne]
      intro e; rw [e] at hl; exact hl rfl
    simp [this]
def s41 : List AV → Boxes → M (AV × Boxes) := normS [.val (.sl (.pair .str .str)), .val (.sl (.pair .str .str))] [] fun xs B => match xs, B with
  | [(.d (.sl (.pair .str .str) c1)), (.d (.sl (.pair .str .str) c2))], [] => .chk (decide (List.length c1 < 4611686018427387904)) (.ret ((.d (.bool ((show Q2 from c1) == c2))), []))
  | _, _ => .fail
theorem s41_at : CallAt Tryd.prog 41 s41 := by
  refine CallAt.norm (CallAt.weakE (g := fun n => evCall F S13 n 41) (fun n => evCall_atH mixed kinds hds S13 S13_ok n 41) fun xs B r' B' hr => ?_) _ _
  split at hr
  · rename_i c1 c2
    obtain ⟨hp, hr⟩ := (M.run_chk _ _ _).1 hr
    simp only [M.run, Option.some.injEq, Prod.mk.injEq] at hr
    obtain ⟨rfl, rfl⟩ := hr
    obtain ⟨m, hm⟩ := eq41 c1 c2 hp
    obtain ⟨r, B1, h1, h2, h3, h4⟩ := p41_ok m c1 c2 _ hm
    exact ⟨m + 25, r, B1, h1, by simp, h2, h3, h4⟩
  · simp [M.run] at hr
noncomputable def S14 : FuncId → Option (List AV → Boxes → M (AV × Boxes)) := fun f => if f = 41 then some s41 else S13 f
theorem S14_ok : ∀ f s, S14 f = some s → CallAt Tryd.prog f s := by
  intro f s h
  unfold S14 at h
  split at h
  · rename_i e; subst e; cases h; exact s41_at
  · exact S13_ok f s h

end Go.Proofs.YtahdcmicifokgaaDoor.Dec
