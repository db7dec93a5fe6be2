/- DERIVED: THE SHELF's CONTRACTS AT THIS DUMP, IN PLAIN WORDS (tools/lay-plain.mjs out of 'YtcdpgldecikejaaDoorShelf.lean', which tools/lay-shelf.mjs wrote): THE SAME DECLARATIONS UNDER THE SAME NAMES: 'import', 'namespace', 'open', 'def', 'theorem' AND NOTHING ELSE: no command of the shelf's: FOR A HAND-IN. Each laying: the table of numbers ('.._ren') and one theorem, a field a fact of the dump's o -/
import Derived.Test.YtcdpgldecikejaaDoorQF4
import Derived.Shelf.Strings.Builder1
import Derived.Shelf.Strings.Builder2
import Derived.Shelf.Strings.OnBuilder
import Derived.Shelf.Small.Strs
import Derived.Shelf.LaysM
import Derived.Shelf.Strings.SlTrimAscii
import Derived.Test.YtcdpgldecikejaaDoorProg
import Derived.KernelRfl
namespace Go.Proofs
open Go.Shelf
def Tryd.lays169_ren : Go.Shelf.Ren := ⟨fun | 169 => 37 | n => n, fun | 70 => 60 | 9 => 9 | 0 => 0 | 72 => 62 | 37 => 25 | 127 => 82 | 3 => 3 | 5 => 5 | n => n, fun | n => n⟩
theorem Tryd.lays169 : Go.Proofs.Lays.n169 Tryd.prog Tryd.lays169_ren := {
  mixed := by kernel_rfl
  f169 := Tryd.func37.trans (congrArg some (by kernel_rfl))
  t0 := Tryd.underlying0
  a0 := Tryd.isAgg0
  z0 := Tryd.sizeOf0
  v0 := Tryd.zeroValue0
  t3 := Tryd.underlying3
  a3 := Tryd.isAgg3
  z3 := Tryd.sizeOf3
  v3 := Tryd.zeroValue3
  t9 := Tryd.underlying9
  a9 := Tryd.isAgg9
  z9 := Tryd.sizeOf9
  v9 := Tryd.zeroValue9
  t37 := Tryd.underlying25
  a37 := Tryd.isAgg25
  z37 := Tryd.sizeOf25
  v37 := Tryd.zeroValue25
  t70 := Tryd.underlying60
  a70 := Tryd.isAgg60
  z70 := Tryd.sizeOf60
  v70 := Tryd.zeroValue60
  t72 := Tryd.underlying62
  a72 := Tryd.isAgg62
  z72 := Tryd.sizeOf62
  v72 := Tryd.zeroValue62
  t127 := Tryd.underlying82
  a127 := Tryd.isAgg82
  z127 := Tryd.sizeOf82
  v127 := Tryd.zeroValue82 }
theorem Tryd.Builder_Extra_169 : Builder.Extra Tryd.prog Tryd.lays169_ren := {
  sizeBuilder := by kernel_rfl
  liesBuilder := by kernel_rfl
  t5 := Tryd.underlying5
  a5 := Tryd.isAgg5
  z5 := Tryd.sizeOf5
  v5 := Tryd.zeroValue5
  infoByte := by kernel_rfl
  cellsByte := by kernel_rfl
  sizeByte := by kernel_rfl
  neB5 := by decide }
open Go.RowKit in
/-- (*strings.Builder).String: "String returns the accumulated string.": WHATEVER THE BUILDER HOLDS. (LAID: no walk: one application.) -/
theorem Tryd.Builder_String_any (B b : Nat) (l : List UInt8) (w : World) (h : Lib.IsBuilder 62 5 B b (Lib.byteCells l) w) (hBw : B ≤ w.heap.size) :
    Calls Tryd.prog 37 #[.pointer (some ⟨b, 0, none⟩)] w fun e w' => e = .returned (.string ⟨l.toArray⟩) ∧ Below B w w' := Any.Builder_String_any Tryd.lays169 Tryd.Builder_Extra_169 B b l w h hBw
def Tryd.lays165_ren : Go.Shelf.Ren := ⟨fun | 165 => 55 | 240 => 54 | 241 => 73 | 276 => 72 | 277 => 83 | n => n, fun | 70 => 60 | 3 => 3 | 0 => 0 | 4 => 4 | 9 => 9 | 20 => 20 | 72 => 62 | 37 => 25 | 164 => 96 | 5 => 5 | n => n, fun | n => n⟩
theorem Tryd.lays165 : Go.Proofs.Lays.n165 Tryd.prog Tryd.lays165_ren := {
  mixed := by kernel_rfl
  f165 := Tryd.func55.trans (congrArg some (by kernel_rfl))
  f240 := Tryd.func54.trans (congrArg some (by kernel_rfl))
  f241 := Tryd.func73.trans (congrArg some (by kernel_rfl))
  f276 := Tryd.func72.trans (congrArg some (by kernel_rfl))
  f277 := Tryd.func83.trans (congrArg some (by kernel_rfl))
  t0 := Tryd.underlying0
  a0 := Tryd.isAgg0
  z0 := Tryd.sizeOf0
  v0 := Tryd.zeroValue0
  t3 := Tryd.underlying3
  a3 := Tryd.isAgg3
  z3 := Tryd.sizeOf3
  v3 := Tryd.zeroValue3
  t4 := Tryd.underlying4
  a4 := Tryd.isAgg4
  z4 := Tryd.sizeOf4
  v4 := Tryd.zeroValue4
  t9 := Tryd.underlying9
  a9 := Tryd.isAgg9
  z9 := Tryd.sizeOf9
  v9 := Tryd.zeroValue9
  t20 := Tryd.underlying20
  a20 := Tryd.isAgg20
  z20 := Tryd.sizeOf20
  v20 := Tryd.zeroValue20
  t37 := Tryd.underlying25
  a37 := Tryd.isAgg25
  z37 := Tryd.sizeOf25
  v37 := Tryd.zeroValue25
  t70 := Tryd.underlying60
  a70 := Tryd.isAgg60
  z70 := Tryd.sizeOf60
  v70 := Tryd.zeroValue60
  t72 := Tryd.underlying62
  a72 := Tryd.isAgg62
  z72 := Tryd.sizeOf62
  v72 := Tryd.zeroValue62
  t164 := Tryd.underlying96
  a164 := Tryd.isAgg96
  z164 := Tryd.sizeOf96
  v164 := Tryd.zeroValue96 }
theorem Tryd.Builder_Extra_165 : Builder.Extra Tryd.prog Tryd.lays165_ren := {
  sizeBuilder := by kernel_rfl
  liesBuilder := by kernel_rfl
  t5 := Tryd.underlying5
  a5 := Tryd.isAgg5
  z5 := Tryd.sizeOf5
  v5 := Tryd.zeroValue5
  infoByte := by kernel_rfl
  cellsByte := by kernel_rfl
  sizeByte := by kernel_rfl
  neB5 := by decide }
open Go.RowKit in
/-- (*strings.Builder).Grow AT A BUILDER THAT HAS NOT BEEN WRITTEN ('var b strings.Builder; b.Grow(n)'): "Grow grows b's capacity, if necessary, to guarantee space for another n bytes.": it holds no byte behind it as before it. (LAID: no walk: one application.) -/
theorem Tryd.Builder_Grow_fresh (B b n : Nat) (w : World) (hB : B ≤ b) (hbk : w.heap[b]? = some (.cells #[.pointer none, .slice none 0 0] 62 (0, 0))) (hBw : B ≤ w.heap.size) (hn : n ≤ 281474976710656) :
    Calls Tryd.prog 55 #[.pointer (some ⟨b, 0, none⟩), .int .i64 n] w fun e w' => e = .returned (.tuple #[]) ∧ (Lib.BuilderAt 62 5 B b (.pointer (some ⟨b, 0, none⟩)) [] w' ∧ Below B w w') := Any.Builder_Grow_fresh Tryd.lays165 Tryd.Builder_Extra_165 B b n w hB hbk hBw hn
def Tryd.lays156_ren : Go.Shelf.Ren := ⟨fun | 156 => 38 | 165 => 55 | 166 => 56 | 169 => 37 | 240 => 54 | 241 => 73 | 276 => 72 | 277 => 83 | n => n, fun | 31 => 44 | 9 => 9 | 3 => 3 | 4 => 4 | 0 => 0 | 20 => 20 | 72 => 62 | 76 => 84 | 70 => 60 | 37 => 25 | 75 => 64 | 127 => 82 | 164 => 96 | 5 => 5 | 80 => 66 | n => n, fun | n => n⟩
theorem Tryd.lays156 : Go.Proofs.Lays.n156 Tryd.prog Tryd.lays156_ren := {
  mixed := by kernel_rfl
  f156 := Tryd.func38.trans (congrArg some (by kernel_rfl))
  f165 := Tryd.func55.trans (congrArg some (by kernel_rfl))
  f166 := Tryd.func56.trans (congrArg some (by kernel_rfl))
  f169 := Tryd.func37.trans (congrArg some (by kernel_rfl))
  f240 := Tryd.func54.trans (congrArg some (by kernel_rfl))
  f241 := Tryd.func73.trans (congrArg some (by kernel_rfl))
  f276 := Tryd.func72.trans (congrArg some (by kernel_rfl))
  f277 := Tryd.func83.trans (congrArg some (by kernel_rfl))
  t0 := Tryd.underlying0
  a0 := Tryd.isAgg0
  z0 := Tryd.sizeOf0
  v0 := Tryd.zeroValue0
  t3 := Tryd.underlying3
  a3 := Tryd.isAgg3
  z3 := Tryd.sizeOf3
  v3 := Tryd.zeroValue3
  t4 := Tryd.underlying4
  a4 := Tryd.isAgg4
  z4 := Tryd.sizeOf4
  v4 := Tryd.zeroValue4
  t9 := Tryd.underlying9
  a9 := Tryd.isAgg9
  z9 := Tryd.sizeOf9
  v9 := Tryd.zeroValue9
  t20 := Tryd.underlying20
  a20 := Tryd.isAgg20
  z20 := Tryd.sizeOf20
  v20 := Tryd.zeroValue20
  t31 := Tryd.underlying44
  a31 := Tryd.isAgg44
  z31 := Tryd.sizeOf44
  v31 := Tryd.zeroValue44
  t37 := Tryd.underlying25
  a37 := Tryd.isAgg25
  z37 := Tryd.sizeOf25
  v37 := Tryd.zeroValue25
  t70 := Tryd.underlying60
  a70 := Tryd.isAgg60
  z70 := Tryd.sizeOf60
  v70 := Tryd.zeroValue60
  t72 := Tryd.underlying62
  a72 := Tryd.isAgg62
  z72 := Tryd.sizeOf62
  v72 := Tryd.zeroValue62
  t75 := Tryd.underlying64
  a75 := Tryd.isAgg64
  z75 := Tryd.sizeOf64
  v75 := Tryd.zeroValue64
  t76 := Tryd.underlying84
  a76 := Tryd.isAgg84
  z76 := Tryd.sizeOf84
  v76 := Tryd.zeroValue84
  t127 := Tryd.underlying82
  a127 := Tryd.isAgg82
  z127 := Tryd.sizeOf82
  v127 := Tryd.zeroValue82
  t164 := Tryd.underlying96
  a164 := Tryd.isAgg96
  z164 := Tryd.sizeOf96
  v164 := Tryd.zeroValue96 }
theorem Tryd.Builder_Extra_156 : Builder.Extra Tryd.prog Tryd.lays156_ren := {
  sizeBuilder := by kernel_rfl
  liesBuilder := by kernel_rfl
  t5 := Tryd.underlying5
  a5 := Tryd.isAgg5
  z5 := Tryd.sizeOf5
  v5 := Tryd.zeroValue5
  infoByte := by kernel_rfl
  cellsByte := by kernel_rfl
  sizeByte := by kernel_rfl
  neB5 := by decide }
open Go.RowKit in
/-- No element: the empty string; the world is as it was. (Whatever the slice's address and capacity: a nil slice too.) (LAID: no walk: one application.) -/
theorem Tryd.strings_Join_none (a : Option Addr) (c : Nat) (sep : ByteArray) (w : World) :
    Calls Tryd.prog 38 #[.slice a 0 c, .string sep] w fun e w' => e = .returned (.string ⟨#[]⟩) ∧ w' = w := Any.strings_Join_none Tryd.lays156 Tryd.Builder_Extra_156 a c sep w
open Go.RowKit in
/-- strings.Join: "Join concatenates the elements of its first argument to create a single string. The separator string sep is placed between elements in the resulting string.": HOWEVER MANY ELEMENTS. Below the heap's end the world is as it was. (LAID: no walk: one application.) -/
theorem Tryd.strings_Join (bk o c : Nat) (xs : List ByteArray) (sep : ByteArray) (w : World) (hcells : ∀ (j : Nat) x, xs[j]? = some x → w.cell? ⟨bk, o + j, none⟩ = some (.string x)) (hbk : bk < w.heap.size) (hN : xs.length ≤ 140737488355328) (hcap : xs.length ≤ c) (hlen : (Lib.join (xs.map (·.data.toList)) sep.data.toList).length ≤ 140737488355328) :
    Calls Tryd.prog 38 #[.slice (some ⟨bk, o, none⟩) xs.length c, .string sep] w fun e w' => e = .returned (.string ⟨(Lib.join (xs.map (·.data.toList)) sep.data.toList).toArray⟩) ∧ Below w.heap.size w w' := Any.strings_Join Tryd.lays156 Tryd.Builder_Extra_156 bk o c xs sep w hcells hbk hN hcap hlen
def Tryd.lays160_ren : Go.Shelf.Ren := ⟨fun | 160 => 40 | 232 => 59 | 231 => 58 | 227 => 60 | 234 => 62 | 233 => 61 | 236 => 64 | 235 => 63 | 228 => 75 | 271 => 78 | 151 => 77 | 197 => 76 | 120 => 86 | 152 => 85 | 260 => 84 | 137 => 39 | 119 => 91 | 224 => 88 | 225 => 87 | 217 => 57 | 266 => 74 | n => n, fun | 9 => 9 | 4 => 4 | 3 => 3 | 5 => 5 | 117 => 89 | 116 => 88 | 0 => 0 | 124 => 92 | 21 => 21 | 105 => 99 | 46 => 105 | 119 => 107 | 139 => 110 | 138 => 109 | n => n, fun | 3 => 1 | 4 => 2 | n => n⟩
theorem Tryd.lays160 : Go.Proofs.Lays.n160 Tryd.prog Tryd.lays160_ren := {
  mixed := by kernel_rfl
  f119 := Tryd.func91.trans (congrArg some (by kernel_rfl))
  f120 := Tryd.func86.trans (congrArg some (by kernel_rfl))
  f137 := Tryd.func39.trans (congrArg some (by kernel_rfl))
  f151 := Tryd.func77.trans (congrArg some (by kernel_rfl))
  f152 := Tryd.func85.trans (congrArg some (by kernel_rfl))
  f160 := Tryd.func40.trans (congrArg some (by kernel_rfl))
  f197 := Tryd.func76.trans (congrArg some (by kernel_rfl))
  f217 := Tryd.func57.trans (congrArg some (by kernel_rfl))
  f224 := Tryd.func88.trans (congrArg some (by kernel_rfl))
  f225 := Tryd.func87.trans (congrArg some (by kernel_rfl))
  f227 := Tryd.func60.trans (congrArg some (by kernel_rfl))
  f228 := Tryd.func75.trans (congrArg some (by kernel_rfl))
  f231 := Tryd.func58.trans (congrArg some (by kernel_rfl))
  f232 := Tryd.func59.trans (congrArg some (by kernel_rfl))
  f233 := Tryd.func61.trans (congrArg some (by kernel_rfl))
  f234 := Tryd.func62.trans (congrArg some (by kernel_rfl))
  f235 := Tryd.func63.trans (congrArg some (by kernel_rfl))
  f236 := Tryd.func64.trans (congrArg some (by kernel_rfl))
  f260 := Tryd.func84.trans (congrArg some (by kernel_rfl))
  f266 := Tryd.func74.trans (congrArg some (by kernel_rfl))
  f271 := Tryd.func78.trans (congrArg some (by kernel_rfl))
  t0 := Tryd.underlying0
  a0 := Tryd.isAgg0
  z0 := Tryd.sizeOf0
  v0 := Tryd.zeroValue0
  t3 := Tryd.underlying3
  a3 := Tryd.isAgg3
  z3 := Tryd.sizeOf3
  v3 := Tryd.zeroValue3
  t4 := Tryd.underlying4
  a4 := Tryd.isAgg4
  z4 := Tryd.sizeOf4
  v4 := Tryd.zeroValue4
  t5 := Tryd.underlying5
  a5 := Tryd.isAgg5
  z5 := Tryd.sizeOf5
  v5 := Tryd.zeroValue5
  t9 := Tryd.underlying9
  a9 := Tryd.isAgg9
  z9 := Tryd.sizeOf9
  v9 := Tryd.zeroValue9
  t21 := Tryd.underlying21
  a21 := Tryd.isAgg21
  z21 := Tryd.sizeOf21
  v21 := Tryd.zeroValue21
  t46 := Tryd.underlying105
  a46 := Tryd.isAgg105
  z46 := Tryd.sizeOf105
  v46 := Tryd.zeroValue105
  t105 := Tryd.underlying99
  a105 := Tryd.isAgg99
  z105 := Tryd.sizeOf99
  v105 := Tryd.zeroValue99
  t116 := Tryd.underlying88
  a116 := Tryd.isAgg88
  z116 := Tryd.sizeOf88
  t117 := Tryd.underlying89
  a117 := Tryd.isAgg89
  z117 := Tryd.sizeOf89
  v117 := Tryd.zeroValue89
  t119 := Tryd.underlying107
  a119 := Tryd.isAgg107
  z119 := Tryd.sizeOf107
  t124 := Tryd.underlying92
  a124 := Tryd.isAgg92
  z124 := Tryd.sizeOf92
  v124 := Tryd.zeroValue92
  t138 := Tryd.underlying109
  a138 := Tryd.isAgg109
  z138 := Tryd.sizeOf109
  v138 := Tryd.zeroValue109
  t139 := Tryd.underlying110
  a139 := Tryd.isAgg110
  z139 := Tryd.sizeOf110
  v139 := Tryd.zeroValue110
  g3 := by kernel_rfl
  g4 := by kernel_rfl }
def Tryd.lays106_ren : Go.Shelf.Ren := ⟨fun | 106 => 45 | 213 => 67 | 265 => 81 | n => n, fun | 9 => 9 | 3 => 3 | n => n, fun | n => n⟩
theorem Tryd.lays106 : Go.Proofs.Lays.n106 Tryd.prog Tryd.lays106_ren := {
  mixed := by kernel_rfl
  f106 := Tryd.func45.trans (congrArg some (by kernel_rfl))
  f213 := Tryd.func67.trans (congrArg some (by kernel_rfl))
  f265 := Tryd.func81.trans (congrArg some (by kernel_rfl))
  t3 := Tryd.underlying3
  a3 := Tryd.isAgg3
  z3 := Tryd.sizeOf3
  v3 := Tryd.zeroValue3
  t9 := Tryd.underlying9
  a9 := Tryd.isAgg9
  z9 := Tryd.sizeOf9
  v9 := Tryd.zeroValue9 }
open Go.RowKit in
/-- strings.Compare: "Compare returns an integer comparing two strings lexicographically. The result will be 0 if a == b, -1 if a < b, and +1 if a > b.": IT RETURNS 'Lib.compareBytes a b'; the world is as it was. (LAID: no walk: one application.) -/
theorem Tryd.strings_Compare (a b : ByteArray) (w : World) :
    Calls Tryd.prog 45 #[.string a, .string b] w fun e w' => e = .returned (.int .i64 (Lib.compareBytes a.data.toList b.data.toList)) ∧ w' = w := Any.strings_Compare Tryd.lays106 a b w
open Go.RowKit Go.Lib in
theorem Tryd.strings_Trim_set (s cutset : ByteArray) (w : World) (hs : s.size ≤ 9223372036854775807) (hcs : cutset.size < 4294967281) (hascii : ∀ (j : Nat) b, cutset.data.toList[j]? = some b → b.toNat < 128) :
    Calls Tryd.prog 40 #[.string s, .string cutset] w fun e w' => e = .returned (.string ⟨(Lib.trimS s.data.toList cutset.data.toList).toArray⟩) ∧ Below w.heap.size w w' := Any.strings_Trim_laid Tryd.lays160 (by kernel_rfl) s cutset w hs hcs hascii
def Tryd.lays240_ren : Go.Shelf.Ren := ⟨fun | 240 => 54 | 276 => 72 | n => n, fun | 0 => 0 | 37 => 25 | 4 => 4 | 9 => 9 | 20 => 20 | 70 => 60 | 72 => 62 | 164 => 96 | n => n, fun | n => n⟩
theorem Tryd.lays240 : Go.Proofs.Lays.n240 Tryd.prog Tryd.lays240_ren := {
  mixed := by kernel_rfl
  f240 := Tryd.func54.trans (congrArg some (by kernel_rfl))
  f276 := Tryd.func72.trans (congrArg some (by kernel_rfl))
  t0 := Tryd.underlying0
  a0 := Tryd.isAgg0
  z0 := Tryd.sizeOf0
  v0 := Tryd.zeroValue0
  t4 := Tryd.underlying4
  a4 := Tryd.isAgg4
  z4 := Tryd.sizeOf4
  v4 := Tryd.zeroValue4
  t9 := Tryd.underlying9
  a9 := Tryd.isAgg9
  z9 := Tryd.sizeOf9
  v9 := Tryd.zeroValue9
  t20 := Tryd.underlying20
  a20 := Tryd.isAgg20
  z20 := Tryd.sizeOf20
  v20 := Tryd.zeroValue20
  t70 := Tryd.underlying60
  a70 := Tryd.isAgg60
  z70 := Tryd.sizeOf60
  v70 := Tryd.zeroValue60
  t72 := Tryd.underlying62
  a72 := Tryd.isAgg62
  z72 := Tryd.sizeOf62
  v72 := Tryd.zeroValue62
  t164 := Tryd.underlying96
  a164 := Tryd.isAgg96
  z164 := Tryd.sizeOf96
  v164 := Tryd.zeroValue96 }
theorem Tryd.Builder_X72_240 : Builder.X72 Tryd.prog Tryd.lays240_ren := {
  sizeBuilder := by kernel_rfl
  liesBuilder := by kernel_rfl }
end Go.Proofs
namespace Go.Proofs.YtcdpgldecikejaaDoor.Ev
open Go.Ev
theorem mixed : Tryd.prog.follows .mixedOrders = true := by kernel_rfl
instance ctx : Ctx := ⟨fun t e => t = .int .u8 → e = 5, fun _ => False, fun _ => True, fun _ _ _ h => h⟩
instance tagOK : TagOK Tryd.prog := tagOK_of (u := 5) (fun _ _ => Iff.rfl) (by kernel_rfl)
def kinds : FuncId → Bool × Bool := fun f => (!(f == 20 || f == 48), f == 46 || f == 48)
theorem libstringsTrim : CallAt Tryd.prog 40 (plainV trimG) := trim_at Tryd.func40 (by kernel_rfl) (by kernel_rfl) Tryd.strings_Trim_set
theorem libstringsCompare : CallAt Tryd.prog 45 (plainV compareG) := compare_at Tryd.func45 (by kernel_rfl) (by kernel_rfl) Tryd.strings_Compare
theorem libstringsJoin : CallAt Tryd.prog 38 (plainV joinG) := join_at Tryd.func38 (by kernel_rfl) (by kernel_rfl) Tryd.strings_Join_none Tryd.strings_Join
theorem libCopyCheck : CallAt Tryd.prog 54 (copyCheckS 62) := copyCheck_at Tryd.func54 (by kernel_rfl) (by kernel_rfl) (fun b w h1 h2 h3 => Any.Builder_copyCheck_fresh Tryd.lays240 Tryd.Builder_X72_240 b w h1 h2 h3) (fun b w h => Any.Builder_copyCheck_used Tryd.lays240 Tryd.Builder_X72_240 b w h)
theorem libInsert : CallAt Tryd.prog 48 (insertG (fnsOf Tryd.prog kinds) 48) := insert_at (rot := 69) mixed kinds (by kernel_rfl)
noncomputable def S : FuncId → Option (List AV → Boxes → M (AV × Boxes)) := fun f => if f = 40 then some (plainV trimG) else if f = 45 then some (plainV compareG) else if f = 38 then some (plainV joinG) else if f = 54 then some (copyCheckS 62) else if f = 48 then some (insertG (fnsOf Tryd.prog kinds) 48) else none
theorem S_ok : ∀ f s, S f = some s → CallAt Tryd.prog f s := by
  intro f s h
  unfold S at h
  split at h
  · rename_i e; subst e; cases h; exact libstringsTrim
  split at h
  · rename_i e; subst e; cases h; exact libstringsCompare
  split at h
  · rename_i e; subst e; cases h; exact libstringsJoin
  split at h
  · rename_i e; subst e; cases h; exact libCopyCheck
  split at h
  · rename_i e; subst e; cases h; exact libInsert
  cases h
end Go.Proofs.YtcdpgldecikejaaDoor.Ev
namespace Go.Proofs.YtcdpgldecikejaaDoor.Dec
open Go.Ev
set_option linter.unusedVariables false
set_option linter.unusedSimpArgs false
set_option maxRecDepth 100000
theorem mixed : Tryd.prog.follows .mixedOrders = true := by kernel_rfl
open Go.Proofs.YtcdpgldecikejaaDoor.Ev (ctx tagOK)
def kinds : FuncId → Bool × Bool := fun f => (!(f == 20), f == 48)
def hds : FuncId → Nat → Hd := fun f => if f = 5 then fun k => if k = 1008806316530993552 then ⟨[], [], [11]⟩ else if k = 132226261520350065985680 then ⟨[], [], [11, 74]⟩ else ⟨[], [], []⟩ else if f = 28 then fun k => if k = 25 then ⟨[(3, none)], [], []⟩ else ⟨[], [], []⟩ else noHd
@[reducible] noncomputable def F := fnsH Tryd.prog kinds hds
@[reducible] noncomputable def byref : FuncId → Bool := fun g => match F g with | some h => h.byref | none => false
noncomputable def S0 : FuncId → Option (List AV → Boxes → M (AV × Boxes)) := fun _ => none
set_option maxHeartbeats 20000000 in
theorem S0_ok : ∀ f s, S0 f = some s → CallAt Tryd.prog f s := fun f s h => by cases h
theorem some_getD {α : Type} {o : Option α} {d : α} (h : o.isSome = true) : o = some (o.getD d) := by
  cases o with
  | none => cases h
  | some a => rfl
theorem ite_cases {c : Prop} [Decidable c] {α : Type} {a b : Option α} {q : α} {G : Prop} (h : (if c then a else b) = some q) (h1 : c → a = some q → G) (h2 : ¬ c → b = some q → G) : G := by
  by_cases hc : c
  · rw [if_pos hc] at h; exact h1 hc h
  · rw [if_neg hc] at h; exact h2 hc h
theorem all_t {c : Bool} {l : List Bool} (h : c = true) (h2 : l.all id = true) : ((c == true) :: l).all id = true := by subst h; simpa using h2
theorem all_f {c : Bool} {l : List Bool} (h : ¬ c = true) (h2 : l.all id = true) : ((c == false) :: l).all id = true := by
  cases c with
  | false => simpa using h2
  | true => exact absurd rfl h
theorem turns_eq {h : Hd} {k0 keep : Nat} {f : LoopG} {n : Nat} {e e2 : Env} {B B2 : Boxes} {r : Option (AEx × Env × Boxes)} (h1 : e = e2) (h2 : B = B2) (h3 : (turns h k0 keep f n e2 B2).run = r) : (turns h k0 keep f n e B).run = r := by
  subst h1; subst h2; exact h3
theorem all_nil : ([] : List Bool).all id = true := rfl
theorem all_nt {c : Bool} {l : List Bool} (h : c = true) (h2 : l.all id = true) : (((!c) == false) :: l).all id = true := by subst h; simpa using h2
theorem all_nf {c : Bool} {l : List Bool} (h : ¬ c = true) (h2 : l.all id = true) : (((!c) == true) :: l).all id = true := by
  cases c with
  | false => simpa using h2
  | true => exact absurd rfl h
theorem all_nnt {c : Bool} {l : List Bool} (h : c = true) (h2 : l.all id = true) : (((!(!c)) == true) :: l).all id = true := by subst h; simpa using h2
theorem all_nnf {c : Bool} {l : List Bool} (h : ¬ c = true) (h2 : l.all id = true) : (((!(!c)) == false) :: l).all id = true := by
  cases c with
  | false => simpa using h2
  | true => exact absurd rfl h

noncomputable def S1 : FuncId → Option (List AV → Boxes → M (AV × Boxes)) := fun f => if f = 10 then some withinS else S0 f
set_option maxHeartbeats 20000000 in
theorem S1_ok : ∀ f s, S1 f = some s → CallAt Tryd.prog f s := by
  intro f s h
  unfold S1 at h
  split at h
  · rename_i e; subst e; cases h; exact (within_at mixed (kinds := kinds) (by kernel_rfl))
  · exact S0_ok f s h

noncomputable def S2 : FuncId → Option (List AV → Boxes → M (AV × Boxes)) := fun f => if f = 40 then some (plainV trimG) else S1 f
set_option maxHeartbeats 20000000 in
theorem S2_ok : ∀ f s, S2 f = some s → CallAt Tryd.prog f s := by
  intro f s h
  unfold S2 at h
  split at h
  · rename_i e; subst e; cases h; exact Go.Proofs.YtcdpgldecikejaaDoor.Ev.libstringsTrim
  · exact S1_ok f s h

noncomputable def S3 : FuncId → Option (List AV → Boxes → M (AV × Boxes)) := fun f => if f = 38 then some (plainV joinG) else S2 f
set_option maxHeartbeats 20000000 in
theorem S3_ok : ∀ f s, S3 f = some s → CallAt Tryd.prog f s := by
  intro f s h
  unfold S3 at h
  split at h
  · rename_i e; subst e; cases h; exact Go.Proofs.YtcdpgldecikejaaDoor.Ev.libstringsJoin
  · exact S2_ok f s h

noncomputable def S4 : FuncId → Option (List AV → Boxes → M (AV × Boxes)) := fun f => if f = 54 then some (copyCheckS 62) else S3 f
set_option maxHeartbeats 20000000 in
theorem S4_ok : ∀ f s, S4 f = some s → CallAt Tryd.prog f s := by
  intro f s h
  unfold S4 at h
  split at h
  · rename_i e; subst e; cases h; exact Go.Proofs.YtcdpgldecikejaaDoor.Ev.libCopyCheck
  · exact S3_ok f s h

noncomputable def S5 : FuncId → Option (List AV → Boxes → M (AV × Boxes)) := fun f => if f = 45 then some (plainV compareG) else S4 f
set_option maxHeartbeats 20000000 in
theorem S5_ok : ∀ f s, S5 f = some s → CallAt Tryd.prog f s := by
  intro f s h
  unfold S5 at h
  split at h
  · rename_i e; subst e; cases h; exact Go.Proofs.YtcdpgldecikejaaDoor.Ev.libstringsCompare
  · exact S4_ok f s h

noncomputable def S6 : FuncId → Option (List AV → Boxes → M (AV × Boxes)) := fun f => if f = 48 then some (insertG (fnsOf Tryd.prog Go.Proofs.YtcdpgldecikejaaDoor.Ev.kinds) 48) else S5 f
set_option maxHeartbeats 20000000 in
theorem S6_ok : ∀ f s, S6 f = some s → CallAt Tryd.prog f s := by
  intro f s h
  unfold S6 at h
  split at h
  · rename_i e; subst e; cases h; exact Go.Proofs.YtcdpgldecikejaaDoor.Ev.libInsert
  · exact S5_ok f s h

end Go.Proofs.YtcdpgldecikejaaDoor.Dec
namespace Go.Proofs.YtcdpgldecikejaaDoor.Dec
open Go.Ev
set_option linter.unusedVariables false
set_option linter.unusedSimpArgs false
set_option maxRecDepth 100000
noncomputable def fn26 : AFn := (F 26).getD ⟨0, [], .bad, false, false, noHd⟩
noncomputable def body26 : AC := fn26.body
def l26_0 (m : Nat) : Nat → List ((List UInt8) × (List UInt8)) → List UInt8 → Int → Int → Option (Nat × Int)
  | 0, _, _, _, _ => none
  | n + 1, x0, x1, s8, s9 => if decide (s9 < s8) = true then
      if decide (0 ≤ s9) = true then
        if decide (s9 < (((List.length x0) : Nat) : Int)) = true then
          if ((List.getD x0 (Int.toNat s9) (([] : List UInt8), ([] : List UInt8))).1 == x1) = true then
            some (0, s9)
          else
            l26_0 m n x0 x1 s8 ((IntKind.wrap .i64 (s9 + (1))))
        else
          none
      else
        none
    else
      some (1, s9)
def l26_0D : Nat × Int := (0, 0)
@[reducible] def l26_0R (m n : Nat) (x0 : List ((List UInt8) × (List UInt8))) (x1 : List UInt8) (s8 : Int) (s9 : Int) : Nat × Int := Option.getD (l26_0 m n x0 x1 s8 s9) l26_0D
def l26_0H (x0 : List ((List UInt8) × (List UInt8))) (x1 : List UInt8) (s8 : Int) (s9 : Int) : Env := [.top, (.d (.str x1)), .top, .top, .top, .top, .top, (.d (.sl (.pair .str .str) x0)), (.d (.int .i64 s8)), (.d (.int .i64 s9)), .top, .top, .top, .top, .top, .top, .top, .top, .top, .top]
def l26_0B (x0 : List ((List UInt8) × (List UInt8))) (x1 : List UInt8) (s8 : Int) (s9 : Int) : Boxes := []
def l26_0E (x0 : List ((List UInt8) × (List UInt8))) (x1 : List UInt8) (s8 : Int) (s9 : Int) : Nat → AEx × Env × Boxes
  | 0 => (.ret, [.top, (.d (.str x1)), .top, .top, (.d (.str (List.getD x0 (Int.toNat s9) (([] : List UInt8), ([] : List UInt8))).2)), .top, (.ptr 0 0), (.d (.sl (.pair .str .str) x0)), (.d (.int .i64 s8)), (.d (.int .i64 s9)), (.d (.bool (decide (s9 < s8)))), (.cptr [(.str (List.getD x0 (Int.toNat s9) (([] : List UInt8), ([] : List UInt8))).1), (.str (List.getD x0 (Int.toNat s9) (([] : List UInt8), ([] : List UInt8))).2)] 0), (.agg [(.d (.str (List.getD x0 (Int.toNat s9) (([] : List UInt8), ([] : List UInt8))).1)), (.d (.str (List.getD x0 (Int.toNat s9) (([] : List UInt8), ([] : List UInt8))).2))]), (.ptr 0 0), (.d (.str (List.getD x0 (Int.toNat s9) (([] : List UInt8), ([] : List UInt8))).1)), (.d (.str x1)), (.d (.bool ((List.getD x0 (Int.toNat s9) (([] : List UInt8), ([] : List UInt8))).1 == x1))), (.ptr 0 1), (.d (.str (List.getD x0 (Int.toNat s9) (([] : List UInt8), ([] : List UInt8))).2)), .top], [(.cells [(.d (.str (List.getD x0 (Int.toNat s9) (([] : List UInt8), ([] : List UInt8))).1)), (.d (.str (List.getD x0 (Int.toNat s9) (([] : List UInt8), ([] : List UInt8))).2))])])
  | _ => (.exit 0, [.top, (.d (.str x1)), .top, .top, .top, .top, .top, (.d (.sl (.pair .str .str) x0)), (.d (.int .i64 s8)), (.d (.int .i64 s9)), (.d (.bool (decide (s9 < s8)))), .top, .top, .top, .top, .top, .top, .top, .top, .top], [])
noncomputable def lbl26_0 : AC := loopBody 898 body26

set_option maxHeartbeats 20000000 in
theorem l26_0_w0 (m n : Nat) (x0 : List ((List UInt8) × (List UInt8))) (x1 : List UInt8) (s8 : Int) (s9 : Int) (c0 : decide (s9 < s8) = true) (c1 : decide (0 ≤ s9) = true) (c2 : decide (s9 < (((List.length x0) : Nat) : Int)) = true) (c3 : ((List.getD x0 (Int.toNat s9) (([] : List UInt8), ([] : List UInt8))).1 == x1) = true) : (turns (hds 26 898) 0 898 (evC byref (evCall F S6 (m + 24)) (m + 24) 0 (hds 26) lbl26_0) (n + 1) (l26_0H x0 x1 s8 s9) (l26_0B x0 x1 s8 s9)).run = some (.ret, [.top, (.d (.str x1)), .top, .top, (.d (.str (List.getD x0 (Int.toNat s9) (([] : List UInt8), ([] : List UInt8))).2)), .top, (.ptr 0 0), (.d (.sl (.pair .str .str) x0)), (.d (.int .i64 s8)), (.d (.int .i64 s9)), (.d (.bool (decide (s9 < s8)))), (.cptr [(.str (List.getD x0 (Int.toNat s9) (([] : List UInt8), ([] : List UInt8))).1), (.str (List.getD x0 (Int.toNat s9) (([] : List UInt8), ([] : List UInt8))).2)] 0), (.agg [(.d (.str (List.getD x0 (Int.toNat s9) (([] : List UInt8), ([] : List UInt8))).1)), (.d (.str (List.getD x0 (Int.toNat s9) (([] : List UInt8), ([] : List UInt8))).2))]), (.ptr 0 0), (.d (.str (List.getD x0 (Int.toNat s9) (([] : List UInt8), ([] : List UInt8))).1)), (.d (.str x1)), (.d (.bool ((List.getD x0 (Int.toNat s9) (([] : List UInt8), ([] : List UInt8))).1 == x1))), (.ptr 0 1), (.d (.str (List.getD x0 (Int.toNat s9) (([] : List UInt8), ([] : List UInt8))).2)), .top], [(.cells [(.d (.str (List.getD x0 (Int.toNat s9) (([] : List UInt8), ([] : List UInt8))).1)), (.d (.str (List.getD x0 (Int.toNat s9) (([] : List UInt8), ([] : List UInt8))).2))])]) := by
  exact turns_last (by simp) (M.run_of_path _ [true, true, true, true] _ _ (by kernel_rfl) (all_t c0 (all_t c1 (all_t c2 (all_t c3 all_nil))))) 
set_option maxHeartbeats 20000000 in
theorem l26_0_w1 (m n : Nat) (x0 : List ((List UInt8) × (List UInt8))) (x1 : List UInt8) (s8 : Int) (s9 : Int) (r : AEx × Env × Boxes) (c0 : decide (s9 < s8) = true) (c1 : decide (0 ≤ s9) = true) (c2 : decide (s9 < (((List.length x0) : Nat) : Int)) = true) (c3 : ¬ ((List.getD x0 (Int.toNat s9) (([] : List UInt8), ([] : List UInt8))).1 == x1) = true) (ih : (turns (hds 26 898) 0 898 (evC byref (evCall F S6 (m + 24)) (m + 24) 0 (hds 26) lbl26_0) n (l26_0H x0 x1 s8 ((IntKind.wrap .i64 (s9 + (1))))) (l26_0B x0 x1 s8 ((IntKind.wrap .i64 (s9 + (1)))))).run = some r) : (turns (hds 26 898) 0 898 (evC byref (evCall F S6 (m + 24)) (m + 24) 0 (hds 26) lbl26_0) (n + 1) (l26_0H x0 x1 s8 s9) (l26_0B x0 x1 s8 s9)).run = some r := by
  exact turns_step (M.run_of_path _ [true, true, true, false] _ _ (by kernel_rfl) (all_t c0 (all_t c1 (all_t c2 (all_f c3 all_nil))))) ih
set_option maxHeartbeats 20000000 in
theorem l26_0_w2 (m n : Nat) (x0 : List ((List UInt8) × (List UInt8))) (x1 : List UInt8) (s8 : Int) (s9 : Int) (c0 : ¬ decide (s9 < s8) = true) : (turns (hds 26 898) 0 898 (evC byref (evCall F S6 (m + 24)) (m + 24) 0 (hds 26) lbl26_0) (n + 1) (l26_0H x0 x1 s8 s9) (l26_0B x0 x1 s8 s9)).run = some (.exit 0, [.top, (.d (.str x1)), .top, .top, .top, .top, .top, (.d (.sl (.pair .str .str) x0)), (.d (.int .i64 s8)), (.d (.int .i64 s9)), (.d (.bool (decide (s9 < s8)))), .top, .top, .top, .top, .top, .top, .top, .top, .top], []) := by
  exact turns_last (by simp) (M.run_of_path _ [false] _ _ (by kernel_rfl) (all_f c0 all_nil)) 

set_option maxHeartbeats 20000000 in
theorem l26_0_step (m n : Nat) (ih : ∀ (x0 : List ((List UInt8) × (List UInt8))) (x1 : List UInt8) (s8 : Int) (s9 : Int) (q : Nat × Int), l26_0 m n x0 x1 s8 s9 = some q → (turns (hds 26 898) 0 898 (evC byref (evCall F S6 (m + 24)) (m + 24) 0 (hds 26) lbl26_0) n (l26_0H x0 x1 s8 s9) (l26_0B x0 x1 s8 s9)).run = some (l26_0E (x0) (x1) (s8) (q.2) q.1)) (x0 : List ((List UInt8) × (List UInt8))) (x1 : List UInt8) (s8 : Int) (s9 : Int) (q : Nat × Int) (h : l26_0 m (n + 1) x0 x1 s8 s9 = some q) : (turns (hds 26 898) 0 898 (evC byref (evCall F S6 (m + 24)) (m + 24) 0 (hds 26) lbl26_0) (n + 1) (l26_0H x0 x1 s8 s9) (l26_0B x0 x1 s8 s9)).run = some (l26_0E (x0) (x1) (s8) (q.2) q.1) := by
  rw [l26_0] at h
  refine ite_cases h (fun c0 h => ?_) (fun c0 h => ?_)
  · skip
    refine ite_cases h (fun c1 h => ?_) (fun c1 h => ?_)
    · skip
      refine ite_cases h (fun c2 h => ?_) (fun c2 h => ?_)
      · skip
        refine ite_cases h (fun c3 h => ?_) (fun c3 h => ?_)
        · skip
          cases h
          exact l26_0_w0 m n x0 x1 s8 s9 c0 c1 c2 c3
        · skip
          exact l26_0_w1 m n x0 x1 s8 s9 _ c0 c1 c2 c3 (ih _ _ _ _ q h)
      · skip
        cases h
    · skip
      cases h
  · skip
    cases h
    exact l26_0_w2 m n x0 x1 s8 s9 c0
set_option maxHeartbeats 20000000 in
theorem l26_0_ok (m : Nat) : ∀ (n : Nat) (x0 : List ((List UInt8) × (List UInt8))) (x1 : List UInt8) (s8 : Int) (s9 : Int) (q : Nat × Int), l26_0 m n x0 x1 s8 s9 = some q → (turns (hds 26 898) 0 898 (evC byref (evCall F S6 (m + 24)) (m + 24) 0 (hds 26) lbl26_0) n (l26_0H x0 x1 s8 s9) (l26_0B x0 x1 s8 s9)).run = some (l26_0E (x0) (x1) (s8) (q.2) q.1)
  | 0, x0, x1, s8, s9, q, h => by cases h
  | n + 1, x0, x1, s8, s9, q, h => l26_0_step m n (l26_0_ok m n) x0 x1 s8 s9 q h

def p26 (m : Nat) (x0 : List ((List UInt8) × (List UInt8))) (x1 : List UInt8) : Option ((List UInt8)) :=
  if (Option.isSome (l26_0 m (m + 24) x0 x1 ((((List.length x0) : Nat) : Int)) 0)) = true then
    if ((l26_0R m (m + 24) x0 x1 ((((List.length x0) : Nat) : Int)) 0).1 == 0) = true then
      some ((List.getD x0 (Int.toNat (l26_0R m (m + 24) x0 x1 ((((List.length x0) : Nat) : Int)) 0).2) (([] : List UInt8), ([] : List UInt8))).2)
    else
      if ((l26_0R m (m + 24) x0 x1 ((((List.length x0) : Nat) : Int)) 0).1 == 1) = true then
        some (([] : List UInt8))
      else
        none
  else
    none
set_option maxHeartbeats 20000000 in
theorem p26_ok (m : Nat) (x0 : List ((List UInt8) × (List UInt8))) (x1 : List UInt8) (q : (List UInt8)) (h : p26 m x0 x1 = some q) : ∃ r B1, (evCall F S6 (m + 25) 26 [(.d (.sl (.pair .str .str) x0)), (.d (.str x1))] []).run = some (r, B1) ∧ 0 ≤ B1.length ∧ wkR B1 [] r (.d (.str q)) ∧ wkBs B1 [] 0 [] := by
  unfold p26 at h
  refine ite_cases h (fun c0 h => ?_) (fun c0 h => ?_)
  · skip
    refine ite_cases h (fun c1 h => ?_) (fun c1 h => ?_)
    · skip
      cases h
      refine ⟨(.d (.str (List.getD x0 (Int.toNat (l26_0R m (m + 24) x0 x1 ((((List.length x0) : Nat) : Int)) 0).2) (([] : List UInt8), ([] : List UInt8))).2)), [], runT_ok (LS := (fun k => if k = 898 then some (l26_0E x0 x1 (((((List.length x0) : Nat) : Int))) ((l26_0R m (m + 24) x0 x1 ((((List.length x0) : Nat) : Int)) 0).2) 0) else none)) (fn := fn26) (vis := [(898, l26_0H x0 x1 ((((List.length x0) : Nat) : Int)) 0, l26_0B x0 x1 ((((List.length x0) : Nat) : Int)) 0)]) (by kernel_rfl) rfl (by kernel_rfl) (M.run_of_path _ [] _ _ (by kernel_rfl) all_nil) ?_, by simp, (wkR.one (wkV.one (wk1.eq rfl))), trivial⟩
      intro p hp p2 hq
      rcases List.mem_cons.1 hp with rfl | hp
      · skip
        have h3 := l26_0_ok m (m + 24) x0 x1 ((((List.length x0) : Nat) : Int)) 0 _ (some_getD (d := l26_0D) c0)
        rw [eq_of_beq c1] at h3
        exact Eq.trans (Eq.mp (by kernel_rfl) h3) hq
      cases hp
    · skip
      refine ite_cases h (fun c2 h => ?_) (fun c2 h => ?_)
      · skip
        cases h
        refine ⟨(.d (.str ([] : List UInt8))), [], runT_ok (LS := (fun k => if k = 898 then some (l26_0E x0 x1 (((((List.length x0) : Nat) : Int))) ((l26_0R m (m + 24) x0 x1 ((((List.length x0) : Nat) : Int)) 0).2) 1) else none)) (fn := fn26) (vis := [(898, l26_0H x0 x1 ((((List.length x0) : Nat) : Int)) 0, l26_0B x0 x1 ((((List.length x0) : Nat) : Int)) 0)]) (by kernel_rfl) rfl (by kernel_rfl) (M.run_of_path _ [] _ _ (by kernel_rfl) all_nil) ?_, by simp, (wkR.one (wkV.one (wk1.eq rfl))), trivial⟩
        intro p hp p2 hq
        rcases List.mem_cons.1 hp with rfl | hp
        · skip
          have h3 := l26_0_ok m (m + 24) x0 x1 ((((List.length x0) : Nat) : Int)) 0 _ (some_getD (d := l26_0D) c0)
          rw [eq_of_beq c2] at h3
          exact Eq.trans (Eq.mp (by kernel_rfl) h3) hq
        cases hp
      · skip
        cases h
  · skip
    cases h

abbrev LB := List ((List UInt8) × (List UInt8))
abbrev MT := (List UInt8) × (List UInt8) × Int
/-- The first value of a name. -/
def getG : LB → List UInt8 → List UInt8
  | [], _ => []
  | x :: l, n => if (x.1 == n) = true then x.2 else getG l n
theorem get_loop (m : Nat) (l : LB) (nm : List UInt8) (hb : l.length ≤ 1000000) : ∀ (n k : Nat), k ≤ l.length → l.length - k < n → (∃ j, l26_0 m n l nm (l.length : Nat) (k : Nat) = some (0, ((j : Nat) : Int)) ∧ getG (l.drop k) nm = (l.getD j (([] : List UInt8), ([] : List UInt8))).2) ∨ (∃ j, l26_0 m n l nm (l.length : Nat) (k : Nat) = some (1, j) ∧ getG (l.drop k) nm = [])
  | 0, k, _, h => by omega
  | n + 1, k, h1, h2 => by
    rw [l26_0]
    by_cases hk : k < l.length
    · have e1 : decide (((k : Nat) : Int) < (((List.length l) : Nat) : Int)) = true := decide_eq_true (by omega)
      have e2 : decide ((0 : Int) ≤ ((k : Nat) : Int)) = true := decide_eq_true (by omega)
      have e7 : IntKind.wrap .i64 (((k : Nat) : Int) + (1)) = ((k + 1 : Nat) : Int) := by rw [wrap_id (by omega) (by omega)]; rfl
      rw [drop_getD l k (([] : List UInt8), ([] : List UInt8)) hk, show Int.toNat ((k : Nat) : Int) = k from rfl, e7, if_pos e1, if_pos e2, if_pos e1, getG]
      by_cases hc : ((l.getD k (([] : List UInt8), ([] : List UInt8))).1 == nm) = true
      · rw [if_pos hc, if_pos hc]
        exact .inl ⟨k, rfl, rfl⟩
      · rw [if_neg hc, if_neg hc]
        exact get_loop m l nm hb n (k + 1) (by omega) (by omega)
    · have e1 : decide (((k : Nat) : Int) < (((List.length l) : Nat) : Int)) = false := decide_eq_false (by omega)
      rw [e1, if_neg (by simp), List.drop_eq_nil_of_le (by omega)]
      exact .inr ⟨_, rfl, rfl⟩
theorem get29 (l : LB) (nm : List UInt8) (h : decide (List.length l ≤ 1000000) = true) : ∃ m, p26 m l nm = some (getG l nm) := by
  have h := of_decide_eq_true h
  refine ⟨l.length, ?_⟩
  unfold p26 l26_0R
  rcases get_loop l.length l nm h (l.length + 24) 0 (by omega) (by omega) with ⟨j, h1, h2⟩ | ⟨j, h1, h2⟩
  · simp only [Int.natCast_zero, List.drop_zero] at h1 h2
    rw [h1, h2]
    simp
  · simp only [Int.natCast_zero, List.drop_zero] at h1 h2
    rw [h1, h2]
    simp
def s26 : List AV → Boxes → M (AV × Boxes) := normS [.val (.sl (.pair .str .str)), .val .str] [] fun xs B => match xs, B with
  | [(.d (.sl (.pair .str .str) c1)), (.d (.str c2))], [] => .chk (decide (List.length c1 ≤ 1000000)) (.ret ((.d (.str (getG c1 c2))), []))
  | _, _ => .fail
theorem s26_at : CallAt Tryd.prog 26 s26 := by
  refine CallAt.norm (CallAt.weakE (g := fun n => evCall F S6 n 26) (fun n => evCall_atH mixed kinds hds S6 S6_ok n 26) fun xs B r' B' hr => ?_) _ _
  split at hr
  · rename_i c1 c2
    obtain ⟨hp, hr⟩ := (M.run_chk _ _ _).1 hr
    simp only [M.run, Option.some.injEq, Prod.mk.injEq] at hr
    obtain ⟨rfl, rfl⟩ := hr
    obtain ⟨m, hm⟩ := get29 c1 c2 hp
    obtain ⟨r, B1, h1, h2, h3, h4⟩ := p26_ok m c1 c2 _ hm
    exact ⟨m + 25, r, B1, h1, by simp, h2, h3, h4⟩
  · simp [M.run] at hr
noncomputable def S7 : FuncId → Option (List AV → Boxes → M (AV × Boxes)) := fun f => if f = 26 then some s26 else S6 f
set_option maxHeartbeats 20000000 in
theorem S7_ok : ∀ f s, S7 f = some s → CallAt Tryd.prog f s := by
  intro f s h
  unfold S7 at h
  split at h
  · rename_i e; subst e; cases h; exact s26_at
  · exact S6_ok f s h

noncomputable def fn41 : AFn := (F 41).getD ⟨0, [], .bad, false, false, noHd⟩
noncomputable def body41 : AC := fn41.body
def p41 (m : Nat) (x0 : List Int) (x1 : Int) : Option (Int) :=
  if ((((List.length x0) : Nat) : Int) == (0)) = true then
    some ((0))
  else
    if decide ((((List.length x0) : Nat) : Int) = 0) = true then
      none
    else
      if decide (0 ≤ (Int.tmod x1 (((List.length x0) : Nat) : Int))) = true then
        if decide ((Int.tmod x1 (((List.length x0) : Nat) : Int)) < (((List.length x0) : Nat) : Int)) = true then
          some ((List.getD x0 (Int.toNat (Int.tmod x1 (((List.length x0) : Nat) : Int))) 0))
        else
          none
      else
        none
set_option maxHeartbeats 20000000 in
theorem p41_ok (m : Nat) (x0 : List Int) (x1 : Int) (q : Int) (h : p41 m x0 x1 = some q) : ∃ r B1, (evCall F S7 (m + 25) 41 [(.d (.sl (.int .i64) x0)), (.d (.int .i64 x1))] []).run = some (r, B1) ∧ 0 ≤ B1.length ∧ wkR B1 [] r (.d (.int .i64 q)) ∧ wkBs B1 [] 0 [] := by
  unfold p41 at h
  refine ite_cases h (fun c0 h => ?_) (fun c0 h => ?_)
  · skip
    cases h
    refine ⟨(.d (.int .i64 (0))), [], runT_ok (LS := (fun k => none)) (fn := fn41) (vis := []) (by kernel_rfl) rfl (by kernel_rfl) (M.run_of_path _ [true] _ _ (by kernel_rfl) (all_t c0 all_nil)) ?_, by simp, (wkR.one (wkV.one (wk1.eq rfl))), trivial⟩
    intro p hp; cases hp
  · skip
    refine ite_cases h (fun c1 h => ?_) (fun c1 h => ?_)
    · skip
      cases h
    · skip
      refine ite_cases h (fun c2 h => ?_) (fun c2 h => ?_)
      · skip
        refine ite_cases h (fun c3 h => ?_) (fun c3 h => ?_)
        · skip
          cases h
          refine ⟨(.d (.int .i64 (List.getD x0 (Int.toNat (Int.tmod x1 (((List.length x0) : Nat) : Int))) 0))), [], runT_ok (LS := (fun k => none)) (fn := fn41) (vis := []) (by kernel_rfl) rfl (by kernel_rfl) (M.run_of_path _ [false, true, true, true] _ _ (by kernel_rfl) (all_f c0 (all_nf c1 (all_t c2 (all_t c3 all_nil))))) ?_, by simp, (wkR.one (wkV.one (wk1.eq rfl))), trivial⟩
          intro p hp; cases hp
        · skip
          cases h
      · skip
        cases h

def pickPre (l : List Int) (i : Int) : Bool := decide (0 ≤ i ∧ i ≤ 1000)
def pickG (l : List Int) (i : Int) : Int := if l = [] then 0 else l.getD (Int.toNat (Int.tmod i (((List.length l) : Nat) : Int))) 0
theorem pick39 (l : List Int) (i : Int) (h : pickPre l i = true) : ∃ m, p41 m l i = some (pickG l i) := by
  have h := of_decide_eq_true h
  refine ⟨0, ?_⟩
  unfold p41 pickG
  by_cases h0 : l = []
  · subst h0; rfl
  · have hl : 0 < l.length := by cases l <;> simp_all
    have e1 : ((((List.length l) : Nat) : Int) == (0)) = false := by rw [beq_eq_false_iff_ne]; omega
    have e2 : decide ((((List.length l) : Nat) : Int) = 0) = false := decide_eq_false (by omega)
    have t1 := Int.tmod_nonneg (((List.length l) : Nat) : Int) h.1
    have t2 := Int.tmod_lt_of_pos i (show (0 : Int) < (((List.length l) : Nat) : Int) by omega)
    have e3 : decide (0 ≤ (Int.tmod i (((List.length l) : Nat) : Int))) = true := decide_eq_true t1
    have e4 : decide ((Int.tmod i (((List.length l) : Nat) : Int)) < (((List.length l) : Nat) : Int)) = true := decide_eq_true t2
    rw [e1, e2, if_neg (by simp), if_neg (by simp), if_pos e3, if_pos e4, if_neg h0]
def s41 : List AV → Boxes → M (AV × Boxes) := normS [.val (.sl (.int .i64)), .val (.int .i64)] [] fun xs B => match xs, B with
  | [(.d (.sl (.int .i64) c1)), (.d (.int .i64 c2))], [] => .chk (pickPre c1 c2) (.ret ((.d (.int .i64 (pickG c1 c2))), []))
  | _, _ => .fail
theorem s41_at : CallAt Tryd.prog 41 s41 := by
  refine CallAt.norm (CallAt.weakE (g := fun n => evCall F S7 n 41) (fun n => evCall_atH mixed kinds hds S7 S7_ok n 41) fun xs B r' B' hr => ?_) _ _
  split at hr
  · rename_i c1 c2
    obtain ⟨hp, hr⟩ := (M.run_chk _ _ _).1 hr
    simp only [M.run, Option.some.injEq, Prod.mk.injEq] at hr
    obtain ⟨rfl, rfl⟩ := hr
    obtain ⟨m, hm⟩ := pick39 c1 c2 hp
    obtain ⟨r, B1, h1, h2, h3, h4⟩ := p41_ok m c1 c2 _ hm
    exact ⟨m + 25, r, B1, h1, by simp, h2, h3, h4⟩
  · simp [M.run] at hr
noncomputable def S8 : FuncId → Option (List AV → Boxes → M (AV × Boxes)) := fun f => if f = 41 then some s41 else S7 f
set_option maxHeartbeats 20000000 in
theorem S8_ok : ∀ f s, S8 f = some s → CallAt Tryd.prog f s := by
  intro f s h
  unfold S8 at h
  split at h
  · rename_i e; subst e; cases h; exact s41_at
  · exact S7_ok f s h

end Go.Proofs.YtcdpgldecikejaaDoor.Dec
namespace Go.Proofs.YtcdpgldecikejaaDoor.Dec
open Go.Ev
set_option linter.unusedVariables false
set_option linter.unusedSimpArgs false
set_option maxRecDepth 100000
noncomputable def fn15 : AFn := (F 15).getD ⟨0, [], .bad, false, false, noHd⟩
noncomputable def body15 : AC := fn15.body
noncomputable def lbu15_0 : AC := loopBody 3610 body15
def p15 (m : Nat) (x0 : (List Int) × (List Int)) : Option ((List ((List UInt8) × (List UInt8)))) :=
  if decide (0 < (((List.length x0.1) : Nat) : Int)) = true then
    if ((IntKind.wrap .i64 ((((BitVec.ofInt 64 (List.getD x0.1 0 0) &&& BitVec.ofInt 64 (1)).toNat : Nat) : Int))) == (1)) = true then
      if pickPre x0.2 (0) = true then
        if decide (0 ≤ (withinI (pickG x0.2 (0)) (0) (7))) = true then
          if decide ((withinI (pickG x0.2 (0)) (0) (7)) < 8) = true then
            if decide (1 < (((List.length x0.1) : Nat) : Int)) = true then
              if ((IntKind.wrap .i64 ((((BitVec.ofInt 64 (List.getD x0.1 1 0) &&& BitVec.ofInt 64 (1)).toNat : Nat) : Int))) == (1)) = true then
                if pickPre x0.2 (1) = true then
                  if decide (0 ≤ (withinI (pickG x0.2 (1)) (0) (7))) = true then
                    if decide ((withinI (pickG x0.2 (1)) (0) (7)) < 8) = true then
                      if decide (2 < (((List.length x0.1) : Nat) : Int)) = true then
                        if ((IntKind.wrap .i64 ((((BitVec.ofInt 64 (List.getD x0.1 2 0) &&& BitVec.ofInt 64 (1)).toNat : Nat) : Int))) == (1)) = true then
                          if pickPre x0.2 (2) = true then
                            if decide (0 ≤ (withinI (pickG x0.2 (2)) (0) (7))) = true then
                              if decide ((withinI (pickG x0.2 (2)) (0) (7)) < 8) = true then
                                some ([(([97] : List UInt8), (List.getD [([120] : List UInt8), ([121] : List UInt8), ([120, 121] : List UInt8), ([49] : List UInt8), ([34] : List UInt8), ([92] : List UInt8), ([123, 125] : List UInt8), ([122, 32, 122] : List UInt8)] (Int.toNat (withinI (pickG x0.2 (0)) (0) (7))) ([] : List UInt8))), (([98] : List UInt8), (List.getD [([120] : List UInt8), ([121] : List UInt8), ([120, 121] : List UInt8), ([49] : List UInt8), ([34] : List UInt8), ([92] : List UInt8), ([123, 125] : List UInt8), ([122, 32, 122] : List UInt8)] (Int.toNat (withinI (pickG x0.2 (1)) (0) (7))) ([] : List UInt8))), (([99] : List UInt8), (List.getD [([120] : List UInt8), ([121] : List UInt8), ([120, 121] : List UInt8), ([49] : List UInt8), ([34] : List UInt8), ([92] : List UInt8), ([123, 125] : List UInt8), ([122, 32, 122] : List UInt8)] (Int.toNat (withinI (pickG x0.2 (2)) (0) (7))) ([] : List UInt8)))])
                              else
                                none
                            else
                              none
                          else
                            none
                        else
                          some ([(([97] : List UInt8), (List.getD [([120] : List UInt8), ([121] : List UInt8), ([120, 121] : List UInt8), ([49] : List UInt8), ([34] : List UInt8), ([92] : List UInt8), ([123, 125] : List UInt8), ([122, 32, 122] : List UInt8)] (Int.toNat (withinI (pickG x0.2 (0)) (0) (7))) ([] : List UInt8))), (([98] : List UInt8), (List.getD [([120] : List UInt8), ([121] : List UInt8), ([120, 121] : List UInt8), ([49] : List UInt8), ([34] : List UInt8), ([92] : List UInt8), ([123, 125] : List UInt8), ([122, 32, 122] : List UInt8)] (Int.toNat (withinI (pickG x0.2 (1)) (0) (7))) ([] : List UInt8)))])
                      else
                        some ([(([97] : List UInt8), (List.getD [([120] : List UInt8), ([121] : List UInt8), ([120, 121] : List UInt8), ([49] : List UInt8), ([34] : List UInt8), ([92] : List UInt8), ([123, 125] : List UInt8), ([122, 32, 122] : List UInt8)] (Int.toNat (withinI (pickG x0.2 (0)) (0) (7))) ([] : List UInt8))), (([98] : List UInt8), (List.getD [([120] : List UInt8), ([121] : List UInt8), ([120, 121] : List UInt8), ([49] : List UInt8), ([34] : List UInt8), ([92] : List UInt8), ([123, 125] : List UInt8), ([122, 32, 122] : List UInt8)] (Int.toNat (withinI (pickG x0.2 (1)) (0) (7))) ([] : List UInt8)))])
                    else
                      none
                  else
                    none
                else
                  none
              else
                if decide (2 < (((List.length x0.1) : Nat) : Int)) = true then
                  if ((IntKind.wrap .i64 ((((BitVec.ofInt 64 (List.getD x0.1 2 0) &&& BitVec.ofInt 64 (1)).toNat : Nat) : Int))) == (1)) = true then
                    if pickPre x0.2 (2) = true then
                      if decide (0 ≤ (withinI (pickG x0.2 (2)) (0) (7))) = true then
                        if decide ((withinI (pickG x0.2 (2)) (0) (7)) < 8) = true then
                          some ([(([97] : List UInt8), (List.getD [([120] : List UInt8), ([121] : List UInt8), ([120, 121] : List UInt8), ([49] : List UInt8), ([34] : List UInt8), ([92] : List UInt8), ([123, 125] : List UInt8), ([122, 32, 122] : List UInt8)] (Int.toNat (withinI (pickG x0.2 (0)) (0) (7))) ([] : List UInt8))), (([99] : List UInt8), (List.getD [([120] : List UInt8), ([121] : List UInt8), ([120, 121] : List UInt8), ([49] : List UInt8), ([34] : List UInt8), ([92] : List UInt8), ([123, 125] : List UInt8), ([122, 32, 122] : List UInt8)] (Int.toNat (withinI (pickG x0.2 (2)) (0) (7))) ([] : List UInt8)))])
                        else
                          none
                      else
                        none
                    else
                      none
                  else
                    some ([(([97] : List UInt8), (List.getD [([120] : List UInt8), ([121] : List UInt8), ([120, 121] : List UInt8), ([49] : List UInt8), ([34] : List UInt8), ([92] : List UInt8), ([123, 125] : List UInt8), ([122, 32, 122] : List UInt8)] (Int.toNat (withinI (pickG x0.2 (0)) (0) (7))) ([] : List UInt8)))])
                else
                  some ([(([97] : List UInt8), (List.getD [([120] : List UInt8), ([121] : List UInt8), ([120, 121] : List UInt8), ([49] : List UInt8), ([34] : List UInt8), ([92] : List UInt8), ([123, 125] : List UInt8), ([122, 32, 122] : List UInt8)] (Int.toNat (withinI (pickG x0.2 (0)) (0) (7))) ([] : List UInt8)))])
            else
              if decide (2 < (((List.length x0.1) : Nat) : Int)) = true then
                if ((IntKind.wrap .i64 ((((BitVec.ofInt 64 (List.getD x0.1 2 0) &&& BitVec.ofInt 64 (1)).toNat : Nat) : Int))) == (1)) = true then
                  if pickPre x0.2 (2) = true then
                    if decide (0 ≤ (withinI (pickG x0.2 (2)) (0) (7))) = true then
                      if decide ((withinI (pickG x0.2 (2)) (0) (7)) < 8) = true then
                        some ([(([97] : List UInt8), (List.getD [([120] : List UInt8), ([121] : List UInt8), ([120, 121] : List UInt8), ([49] : List UInt8), ([34] : List UInt8), ([92] : List UInt8), ([123, 125] : List UInt8), ([122, 32, 122] : List UInt8)] (Int.toNat (withinI (pickG x0.2 (0)) (0) (7))) ([] : List UInt8))), (([99] : List UInt8), (List.getD [([120] : List UInt8), ([121] : List UInt8), ([120, 121] : List UInt8), ([49] : List UInt8), ([34] : List UInt8), ([92] : List UInt8), ([123, 125] : List UInt8), ([122, 32, 122] : List UInt8)] (Int.toNat (withinI (pickG x0.2 (2)) (0) (7))) ([] : List UInt8)))])
                      else
                        none
                    else
                      none
                  else
                    none
                else
                  some ([(([97] : List UInt8), (List.getD [([120] : List UInt8), ([121] : List UInt8), ([120, 121] : List UInt8), ([49] : List UInt8), ([34] : List UInt8), ([92] : List UInt8), ([123, 125] : List UInt8), ([122, 32, 122] : List UInt8)] (Int.toNat (withinI (pickG x0.2 (0)) (0) (7))) ([] : List UInt8)))])
              else
                some ([(([97] : List UInt8), (List.getD [([120] : List UInt8), ([121] : List UInt8), ([120, 121] : List UInt8), ([49] : List UInt8), ([34] : List UInt8), ([92] : List UInt8), ([123, 125] : List UInt8), ([122, 32, 122] : List UInt8)] (Int.toNat (withinI (pickG x0.2 (0)) (0) (7))) ([] : List UInt8)))])
          else
            none
        else
          none
      else
        none
    else
      if decide (1 < (((List.length x0.1) : Nat) : Int)) = true then
        if ((IntKind.wrap .i64 ((((BitVec.ofInt 64 (List.getD x0.1 1 0) &&& BitVec.ofInt 64 (1)).toNat : Nat) : Int))) == (1)) = true then
          if pickPre x0.2 (1) = true then
            if decide (0 ≤ (withinI (pickG x0.2 (1)) (0) (7))) = true then
              if decide ((withinI (pickG x0.2 (1)) (0) (7)) < 8) = true then
                if decide (2 < (((List.length x0.1) : Nat) : Int)) = true then
                  if ((IntKind.wrap .i64 ((((BitVec.ofInt 64 (List.getD x0.1 2 0) &&& BitVec.ofInt 64 (1)).toNat : Nat) : Int))) == (1)) = true then
                    if pickPre x0.2 (2) = true then
                      if decide (0 ≤ (withinI (pickG x0.2 (2)) (0) (7))) = true then
                        if decide ((withinI (pickG x0.2 (2)) (0) (7)) < 8) = true then
                          some ([(([98] : List UInt8), (List.getD [([120] : List UInt8), ([121] : List UInt8), ([120, 121] : List UInt8), ([49] : List UInt8), ([34] : List UInt8), ([92] : List UInt8), ([123, 125] : List UInt8), ([122, 32, 122] : List UInt8)] (Int.toNat (withinI (pickG x0.2 (1)) (0) (7))) ([] : List UInt8))), (([99] : List UInt8), (List.getD [([120] : List UInt8), ([121] : List UInt8), ([120, 121] : List UInt8), ([49] : List UInt8), ([34] : List UInt8), ([92] : List UInt8), ([123, 125] : List UInt8), ([122, 32, 122] : List UInt8)] (Int.toNat (withinI (pickG x0.2 (2)) (0) (7))) ([] : List UInt8)))])
                        else
                          none
                      else
                        none
                    else
                      none
                  else
                    some ([(([98] : List UInt8), (List.getD [([120] : List UInt8), ([121] : List UInt8), ([120, 121] : List UInt8), ([49] : List UInt8), ([34] : List UInt8), ([92] : List UInt8), ([123, 125] : List UInt8), ([122, 32, 122] : List UInt8)] (Int.toNat (withinI (pickG x0.2 (1)) (0) (7))) ([] : List UInt8)))])
                else
                  some ([(([98] : List UInt8), (List.getD [([120] : List UInt8), ([121] : List UInt8), ([120, 121] : List UInt8), ([49] : List UInt8), ([34] : List UInt8), ([92] : List UInt8), ([123, 125] : List UInt8), ([122, 32, 122] : List UInt8)] (Int.toNat (withinI (pickG x0.2 (1)) (0) (7))) ([] : List UInt8)))])
              else
                none
            else
              none
          else
            none
        else
          if decide (2 < (((List.length x0.1) : Nat) : Int)) = true then
            if ((IntKind.wrap .i64 ((((BitVec.ofInt 64 (List.getD x0.1 2 0) &&& BitVec.ofInt 64 (1)).toNat : Nat) : Int))) == (1)) = true then
              if pickPre x0.2 (2) = true then
                if decide (0 ≤ (withinI (pickG x0.2 (2)) (0) (7))) = true then
                  if decide ((withinI (pickG x0.2 (2)) (0) (7)) < 8) = true then
                    some ([(([99] : List UInt8), (List.getD [([120] : List UInt8), ([121] : List UInt8), ([120, 121] : List UInt8), ([49] : List UInt8), ([34] : List UInt8), ([92] : List UInt8), ([123, 125] : List UInt8), ([122, 32, 122] : List UInt8)] (Int.toNat (withinI (pickG x0.2 (2)) (0) (7))) ([] : List UInt8)))])
                  else
                    none
                else
                  none
              else
                none
            else
              some (([] : List ((List UInt8) × (List UInt8))))
          else
            some (([] : List ((List UInt8) × (List UInt8))))
      else
        if decide (2 < (((List.length x0.1) : Nat) : Int)) = true then
          if ((IntKind.wrap .i64 ((((BitVec.ofInt 64 (List.getD x0.1 2 0) &&& BitVec.ofInt 64 (1)).toNat : Nat) : Int))) == (1)) = true then
            if pickPre x0.2 (2) = true then
              if decide (0 ≤ (withinI (pickG x0.2 (2)) (0) (7))) = true then
                if decide ((withinI (pickG x0.2 (2)) (0) (7)) < 8) = true then
                  some ([(([99] : List UInt8), (List.getD [([120] : List UInt8), ([121] : List UInt8), ([120, 121] : List UInt8), ([49] : List UInt8), ([34] : List UInt8), ([92] : List UInt8), ([123, 125] : List UInt8), ([122, 32, 122] : List UInt8)] (Int.toNat (withinI (pickG x0.2 (2)) (0) (7))) ([] : List UInt8)))])
                else
                  none
              else
                none
            else
              none
          else
            some (([] : List ((List UInt8) × (List UInt8))))
        else
          some (([] : List ((List UInt8) × (List UInt8))))
  else
    if decide (1 < (((List.length x0.1) : Nat) : Int)) = true then
      if ((IntKind.wrap .i64 ((((BitVec.ofInt 64 (List.getD x0.1 1 0) &&& BitVec.ofInt 64 (1)).toNat : Nat) : Int))) == (1)) = true then
        if pickPre x0.2 (1) = true then
          if decide (0 ≤ (withinI (pickG x0.2 (1)) (0) (7))) = true then
            if decide ((withinI (pickG x0.2 (1)) (0) (7)) < 8) = true then
              if decide (2 < (((List.length x0.1) : Nat) : Int)) = true then
                if ((IntKind.wrap .i64 ((((BitVec.ofInt 64 (List.getD x0.1 2 0) &&& BitVec.ofInt 64 (1)).toNat : Nat) : Int))) == (1)) = true then
                  if pickPre x0.2 (2) = true then
                    if decide (0 ≤ (withinI (pickG x0.2 (2)) (0) (7))) = true then
                      if decide ((withinI (pickG x0.2 (2)) (0) (7)) < 8) = true then
                        some ([(([98] : List UInt8), (List.getD [([120] : List UInt8), ([121] : List UInt8), ([120, 121] : List UInt8), ([49] : List UInt8), ([34] : List UInt8), ([92] : List UInt8), ([123, 125] : List UInt8), ([122, 32, 122] : List UInt8)] (Int.toNat (withinI (pickG x0.2 (1)) (0) (7))) ([] : List UInt8))), (([99] : List UInt8), (List.getD [([120] : List UInt8), ([121] : List UInt8), ([120, 121] : List UInt8), ([49] : List UInt8), ([34] : List UInt8), ([92] : List UInt8), ([123, 125] : List UInt8), ([122, 32, 122] : List UInt8)] (Int.toNat (withinI (pickG x0.2 (2)) (0) (7))) ([] : List UInt8)))])
                      else
                        none
                    else
                      none
                  else
                    none
                else
                  some ([(([98] : List UInt8), (List.getD [([120] : List UInt8), ([121] : List UInt8), ([120, 121] : List UInt8), ([49] : List UInt8), ([34] : List UInt8), ([92] : List UInt8), ([123, 125] : List UInt8), ([122, 32, 122] : List UInt8)] (Int.toNat (withinI (pickG x0.2 (1)) (0) (7))) ([] : List UInt8)))])
              else
                some ([(([98] : List UInt8), (List.getD [([120] : List UInt8), ([121] : List UInt8), ([120, 121] : List UInt8), ([49] : List UInt8), ([34] : List UInt8), ([92] : List UInt8), ([123, 125] : List UInt8), ([122, 32, 122] : List UInt8)] (Int.toNat (withinI (pickG x0.2 (1)) (0) (7))) ([] : List UInt8)))])
            else
              none
          else
            none
        else
          none
      else
        if decide (2 < (((List.length x0.1) : Nat) : Int)) = true then
          if ((IntKind.wrap .i64 ((((BitVec.ofInt 64 (List.getD x0.1 2 0) &&& BitVec.ofInt 64 (1)).toNat : Nat) : Int))) == (1)) = true then
            if pickPre x0.2 (2) = true then
              if decide (0 ≤ (withinI (pickG x0.2 (2)) (0) (7))) = true then
                if decide ((withinI (pickG x0.2 (2)) (0) (7)) < 8) = true then
                  some ([(([99] : List UInt8), (List.getD [([120] : List UInt8), ([121] : List UInt8), ([120, 121] : List UInt8), ([49] : List UInt8), ([34] : List UInt8), ([92] : List UInt8), ([123, 125] : List UInt8), ([122, 32, 122] : List UInt8)] (Int.toNat (withinI (pickG x0.2 (2)) (0) (7))) ([] : List UInt8)))])
                else
                  none
              else
                none
            else
              none
          else
            some (([] : List ((List UInt8) × (List UInt8))))
        else
          some (([] : List ((List UInt8) × (List UInt8))))
    else
      if decide (2 < (((List.length x0.1) : Nat) : Int)) = true then
        if ((IntKind.wrap .i64 ((((BitVec.ofInt 64 (List.getD x0.1 2 0) &&& BitVec.ofInt 64 (1)).toNat : Nat) : Int))) == (1)) = true then
          if pickPre x0.2 (2) = true then
            if decide (0 ≤ (withinI (pickG x0.2 (2)) (0) (7))) = true then
              if decide ((withinI (pickG x0.2 (2)) (0) (7)) < 8) = true then
                some ([(([99] : List UInt8), (List.getD [([120] : List UInt8), ([121] : List UInt8), ([120, 121] : List UInt8), ([49] : List UInt8), ([34] : List UInt8), ([92] : List UInt8), ([123, 125] : List UInt8), ([122, 32, 122] : List UInt8)] (Int.toNat (withinI (pickG x0.2 (2)) (0) (7))) ([] : List UInt8)))])
              else
                none
            else
              none
          else
            none
        else
          some (([] : List ((List UInt8) × (List UInt8))))
      else
        some (([] : List ((List UInt8) × (List UInt8))))
@[reducible] def p15_k1 (x0 : (List Int) × (List Int)) := (List.getD [([120] : List UInt8), ([121] : List UInt8), ([120, 121] : List UInt8), ([49] : List UInt8), ([34] : List UInt8), ([92] : List UInt8), ([123, 125] : List UInt8), ([122, 32, 122] : List UInt8)] (Int.toNat (withinI (pickG x0.2 (0)) (0) (7))) ([] : List UInt8))
@[reducible] def p15_k2 (x0 : (List Int) × (List Int)) := (List.getD [([120] : List UInt8), ([121] : List UInt8), ([120, 121] : List UInt8), ([49] : List UInt8), ([34] : List UInt8), ([92] : List UInt8), ([123, 125] : List UInt8), ([122, 32, 122] : List UInt8)] (Int.toNat (withinI (pickG x0.2 (1)) (0) (7))) ([] : List UInt8))
@[reducible] def p15_k3 (x0 : (List Int) × (List Int)) := (List.getD [([120] : List UInt8), ([121] : List UInt8), ([120, 121] : List UInt8), ([49] : List UInt8), ([34] : List UInt8), ([92] : List UInt8), ([123, 125] : List UInt8), ([122, 32, 122] : List UInt8)] (Int.toNat (withinI (pickG x0.2 (2)) (0) (7))) ([] : List UInt8))
@[reducible] def p15_e1  := [([120] : List UInt8), ([121] : List UInt8), ([120, 121] : List UInt8), ([49] : List UInt8), ([34] : List UInt8), ([92] : List UInt8), ([123, 125] : List UInt8), ([122, 32, 122] : List UInt8)]
@[reducible] def p15_e2  : Env := [.top, (.ptr 0 0), .top, (.sr 1 0 3 2 none), (.d (.sl .str p15_e1)), .top, .top, .top, .top, (.d (.sl .str [([97] : List UInt8), ([98] : List UInt8), ([99] : List UInt8)])), (.d (.int .i64 (3))), (.d (.int .i64 (3))), (.d (.bool false)), .top, .top, .top, .top, .top, .top, .top, .top, .top, .top, .top, .top, .top, .top, .top, .top, .top, .top, .top, .top, .top, .top, .top, .top, .top, .top, .top, .top, .top, .top, .top, .top, .top, .top, .top]
@[reducible] def p15_e3  : Env := [.top, (.ptr 0 0), .top, (.sr 1 0 2 2 none), (.d (.sl .str p15_e1)), .top, .top, .top, .top, (.d (.sl .str [([97] : List UInt8), ([98] : List UInt8), ([99] : List UInt8)])), (.d (.int .i64 (3))), (.d (.int .i64 (3))), (.d (.bool false)), .top, .top, .top, .top, .top, .top, .top, .top, .top, .top, .top, .top, .top, .top, .top, .top, .top, .top, .top, .top, .top, .top, .top, .top, .top, .top, .top, .top, .top, .top, .top, .top, .top, .top, .top]
@[reducible] def p15_e4  : Env := [.top, (.ptr 0 0), .top, (.sr 1 0 1 2 none), (.d (.sl .str p15_e1)), .top, .top, .top, .top, (.d (.sl .str [([97] : List UInt8), ([98] : List UInt8), ([99] : List UInt8)])), (.d (.int .i64 (3))), (.d (.int .i64 (3))), (.d (.bool false)), .top, .top, .top, .top, .top, .top, .top, .top, .top, .top, .top, .top, .top, .top, .top, .top, .top, .top, .top, .top, .top, .top, .top, .top, .top, .top, .top, .top, .top, .top, .top, .top, .top, .top, .top]
@[reducible] def p15_e5  : Env := [.top, (.ptr 0 0), .top, (.sr 1 0 0 2 none), (.d (.sl .str p15_e1)), .top, .top, .top, .top, (.d (.sl .str [([97] : List UInt8), ([98] : List UInt8), ([99] : List UInt8)])), (.d (.int .i64 (3))), (.d (.int .i64 (3))), (.d (.bool false)), .top, .top, .top, .top, .top, .top, .top, .top, .top, .top, .top, .top, .top, .top, .top, .top, .top, .top, .top, .top, .top, .top, .top, .top, .top, .top, .top, .top, .top, .top, .top, .top, .top, .top, .top]
@[reducible] def p15_e6  : Env := [.top, (.ptr 0 0), .top, (.sr 1 0 0 2 none), (.d (.sl .str p15_e1)), .top, .top, .top, .top, (.d (.sl .str [([97] : List UInt8), ([98] : List UInt8), ([99] : List UInt8)])), (.d (.int .i64 (3))), (.d (.int .i64 (0))), .top, .top, .top, .top, .top, .top, .top, .top, .top, .top, .top, .top, .top, .top, .top, .top, .top, .top, .top, .top, .top, .top, .top, .top, .top, .top, .top, .top, .top, .top, .top, .top, .top, .top, .top, .top]
@[reducible] def p15_e7  : Env := [.top, (.ptr 0 0), .top, (.sr 1 0 3 2 none), (.d (.sl .str p15_e1)), .top, .top, .top, .top, (.d (.sl .str [([97] : List UInt8), ([98] : List UInt8), ([99] : List UInt8)])), (.d (.int .i64 (3))), (.d (.int .i64 (3))), .top, .top, .top, .top, .top, .top, .top, .top, .top, .top, .top, .top, .top, .top, .top, .top, .top, .top, .top, .top, .top, .top, .top, .top, .top, .top, .top, .top, .top, .top, .top, .top, .top, .top, .top, .top]
@[reducible] def p15_e8  : Env := [.top, (.ptr 0 0), .top, (.sr 1 0 2 2 none), (.d (.sl .str p15_e1)), .top, .top, .top, .top, (.d (.sl .str [([97] : List UInt8), ([98] : List UInt8), ([99] : List UInt8)])), (.d (.int .i64 (3))), (.d (.int .i64 (2))), .top, .top, .top, .top, .top, .top, .top, .top, .top, .top, .top, .top, .top, .top, .top, .top, .top, .top, .top, .top, .top, .top, .top, .top, .top, .top, .top, .top, .top, .top, .top, .top, .top, .top, .top, .top]
@[reducible] def p15_e9  : Env := [.top, (.ptr 0 0), .top, (.sr 1 0 1 2 none), (.d (.sl .str p15_e1)), .top, .top, .top, .top, (.d (.sl .str [([97] : List UInt8), ([98] : List UInt8), ([99] : List UInt8)])), (.d (.int .i64 (3))), (.d (.int .i64 (1))), .top, .top, .top, .top, .top, .top, .top, .top, .top, .top, .top, .top, .top, .top, .top, .top, .top, .top, .top, .top, .top, .top, .top, .top, .top, .top, .top, .top, .top, .top, .top, .top, .top, .top, .top, .top]
@[reducible] def p15_e10  : Env := [.top, (.ptr 0 0), .top, (.sr 1 0 2 2 none), (.d (.sl .str p15_e1)), .top, .top, .top, .top, (.d (.sl .str [([97] : List UInt8), ([98] : List UInt8), ([99] : List UInt8)])), (.d (.int .i64 (3))), (.d (.int .i64 (3))), .top, .top, .top, .top, .top, .top, .top, .top, .top, .top, .top, .top, .top, .top, .top, .top, .top, .top, .top, .top, .top, .top, .top, .top, .top, .top, .top, .top, .top, .top, .top, .top, .top, .top, .top, .top]
@[reducible] def p15_e11  : Env := [.top, (.ptr 0 0), .top, (.sr 1 0 1 2 none), (.d (.sl .str p15_e1)), .top, .top, .top, .top, (.d (.sl .str [([97] : List UInt8), ([98] : List UInt8), ([99] : List UInt8)])), (.d (.int .i64 (3))), (.d (.int .i64 (2))), .top, .top, .top, .top, .top, .top, .top, .top, .top, .top, .top, .top, .top, .top, .top, .top, .top, .top, .top, .top, .top, .top, .top, .top, .top, .top, .top, .top, .top, .top, .top, .top, .top, .top, .top, .top]
@[reducible] def p15_e12  : Env := [.top, (.ptr 0 0), .top, (.sr 1 0 1 2 none), (.d (.sl .str p15_e1)), .top, .top, .top, .top, (.d (.sl .str [([97] : List UInt8), ([98] : List UInt8), ([99] : List UInt8)])), (.d (.int .i64 (3))), (.d (.int .i64 (3))), .top, .top, .top, .top, .top, .top, .top, .top, .top, .top, .top, .top, .top, .top, .top, .top, .top, .top, .top, .top, .top, .top, .top, .top, .top, .top, .top, .top, .top, .top, .top, .top, .top, .top, .top, .top]
@[reducible] def p15_e13  : Env := [.top, (.ptr 0 0), .top, (.sr 1 0 0 2 none), (.d (.sl .str p15_e1)), .top, .top, .top, .top, (.d (.sl .str [([97] : List UInt8), ([98] : List UInt8), ([99] : List UInt8)])), (.d (.int .i64 (3))), (.d (.int .i64 (1))), .top, .top, .top, .top, .top, .top, .top, .top, .top, .top, .top, .top, .top, .top, .top, .top, .top, .top, .top, .top, .top, .top, .top, .top, .top, .top, .top, .top, .top, .top, .top, .top, .top, .top, .top, .top]
@[reducible] def p15_e14  : Env := [.top, (.ptr 0 0), .top, (.sr 1 0 0 2 none), (.d (.sl .str p15_e1)), .top, .top, .top, .top, (.d (.sl .str [([97] : List UInt8), ([98] : List UInt8), ([99] : List UInt8)])), (.d (.int .i64 (3))), (.d (.int .i64 (2))), .top, .top, .top, .top, .top, .top, .top, .top, .top, .top, .top, .top, .top, .top, .top, .top, .top, .top, .top, .top, .top, .top, .top, .top, .top, .top, .top, .top, .top, .top, .top, .top, .top, .top, .top, .top]
@[reducible] def p15_e15  : Env := [.top, (.ptr 0 0), .top, (.sr 1 0 0 2 none), (.d (.sl .str p15_e1)), .top, .top, .top, .top, (.d (.sl .str [([97] : List UInt8), ([98] : List UInt8), ([99] : List UInt8)])), (.d (.int .i64 (3))), (.d (.int .i64 (3))), .top, .top, .top, .top, .top, .top, .top, .top, .top, .top, .top, .top, .top, .top, .top, .top, .top, .top, .top, .top, .top, .top, .top, .top, .top, .top, .top, .top, .top, .top, .top, .top, .top, .top, .top, .top]
set_option maxHeartbeats 20000000 in
theorem p15_ok (m : Nat) (x0 : (List Int) × (List Int)) (q : (List ((List UInt8) × (List UInt8)))) (h : p15 m x0 = some q) : ∃ r B1, (evCall F S8 (m + 25) 15 [(.agg [(.d (.sl (.int .i64) x0.1)), (.d (.sl (.int .i64) x0.2))])] []).run = some (r, B1) ∧ 0 ≤ B1.length ∧ wkR B1 [] r (.d (.sl (.pair .str .str) q)) ∧ wkBs B1 [] 0 [] := by
  unfold p15 at h
  refine ite_cases h (fun c6 h => ?_) (fun c6 h => ?_)
  · skip
    refine ite_cases h (fun c16 h => ?_) (fun c16 h => ?_)
    · skip
      refine ite_cases h (fun c17 h => ?_) (fun c17 h => ?_)
      · skip
        refine ite_cases h (fun c19 h => ?_) (fun c19 h => ?_)
        · skip
          refine ite_cases h (fun c20 h => ?_) (fun c20 h => ?_)
          · skip
            refine ite_cases h (fun c27 h => ?_) (fun c27 h => ?_)
            · skip
              refine ite_cases h (fun c37 h => ?_) (fun c37 h => ?_)
              · skip
                refine ite_cases h (fun c38 h => ?_) (fun c38 h => ?_)
                · skip
                  refine ite_cases h (fun c40 h => ?_) (fun c40 h => ?_)
                  · skip
                    refine ite_cases h (fun c41 h => ?_) (fun c41 h => ?_)
                    · skip
                      refine ite_cases h (fun c48 h => ?_) (fun c48 h => ?_)
                      · skip
                        refine ite_cases h (fun c58 h => ?_) (fun c58 h => ?_)
                        · skip
                          refine ite_cases h (fun c59 h => ?_) (fun c59 h => ?_)
                          · skip
                            refine ite_cases h (fun c61 h => ?_) (fun c61 h => ?_)
                            · skip
                              refine ite_cases h (fun c62 h => ?_) (fun c62 h => ?_)
                              · skip
                                cases h
                                refine ⟨(.d (.sl (.pair .str .str) [(([97] : List UInt8), (p15_k1 x0)), (([98] : List UInt8), (p15_k2 x0)), (([99] : List UInt8), (p15_k3 x0))])), [], runT_ok (LS := (fun k => if k = 3610 then some (.exit 0, p15_e2, [(.cells [(.d (.sl (.int .i64) x0.1)), (.d (.sl (.int .i64) x0.2))]), (.arr (.pair .str .str) [(([97] : List UInt8), (p15_k1 x0)), (([98] : List UInt8), (p15_k2 x0)), (([99] : List UInt8), (p15_k3 x0))] true)]) else none)) (fn := fn15) (vis := [(3610, p15_e6, [(.cells [(.d (.sl (.int .i64) x0.1)), (.d (.sl (.int .i64) x0.2))]), (.arr (.pair .str .str) ([] : List ((List UInt8) × (List UInt8))) true)])]) (by kernel_rfl) rfl (by kernel_rfl) (M.run_of_path _ [true, true, true, true] _ _ (by kernel_rfl) (all_t rfl (all_t rfl (all_t rfl (all_t rfl all_nil))))) ?_, by simp, (wkR.one (wkV.one (wk1.eq rfl))), trivial⟩
                                intro p hp p2 hq
                                rcases List.mem_cons.1 hp with rfl | hp
                                · skip
                                  have ht3 : (turn (hds 15 3610) 0 3610 (evC byref (evCall F S8 (m + 24)) (m + 24) 0 (hds 15) lbu15_0) p15_e7 [(.cells [(.d (.sl (.int .i64) x0.1)), (.d (.sl (.int .i64) x0.2))]), (.arr (.pair .str .str) [(([97] : List UInt8), (p15_k1 x0)), (([98] : List UInt8), (p15_k2 x0)), (([99] : List UInt8), (p15_k3 x0))] true)]).run = some (.exit 0, p15_e2, [(.cells [(.d (.sl (.int .i64) x0.1)), (.d (.sl (.int .i64) x0.2))]), (.arr (.pair .str .str) [(([97] : List UInt8), (p15_k1 x0)), (([98] : List UInt8), (p15_k2 x0)), (([99] : List UInt8), (p15_k3 x0))] true)]) := M.run_of_path _ [false] _ _ (by kernel_rfl) (all_f Bool.false_ne_true all_nil)
                                  have hp3 := turns_last (n := m + 20) (by simp) ht3
                                  have ht2 : (turn (hds 15 3610) 0 3610 (evC byref (evCall F S8 (m + 24)) (m + 24) 0 (hds 15) lbu15_0) p15_e8 [(.cells [(.d (.sl (.int .i64) x0.1)), (.d (.sl (.int .i64) x0.2))]), (.arr (.pair .str .str) [(([97] : List UInt8), (p15_k1 x0)), (([98] : List UInt8), (p15_k2 x0))] true)]).run = some (.normal, p15_e7, [(.cells [(.d (.sl (.int .i64) x0.1)), (.d (.sl (.int .i64) x0.2))]), (.arr (.pair .str .str) [(([97] : List UInt8), (p15_k1 x0)), (([98] : List UInt8), (p15_k2 x0)), (([99] : List UInt8), (p15_k3 x0))] true)]) := M.run_of_path _ [true, true, true, true, true, true, true, true, true, true, true, true, true, true, true, true, true, true, true, true, true] _ _ (by kernel_rfl) (all_t rfl (all_t rfl (all_t rfl (all_t c48 (all_t c48 (all_t c48 (all_t c48 (all_t rfl (all_t c48 (all_t c48 (all_t c48 (all_t c48 (all_t c48 (all_t c58 (all_t c59 (all_t rfl (all_t c61 (all_t c62 (all_t rfl (all_t rfl (all_t rfl all_nil)))))))))))))))))))))
                                  have hs2 : (turns (hds 15 3610) 0 3610 (evC byref (evCall F S8 (m + 24)) (m + 24) 0 (hds 15) lbu15_0) (m + 21) p15_e7 [(.cells [(.d (.sl (.int .i64) x0.1)), (.d (.sl (.int .i64) x0.2))]), (.arr (.pair .str .str) [(([97] : List UInt8), (p15_k1 x0)), (([98] : List UInt8), (p15_k2 x0)), (([99] : List UInt8), (p15_k3 x0))] true)]).run = some (.exit 0, p15_e2, [(.cells [(.d (.sl (.int .i64) x0.1)), (.d (.sl (.int .i64) x0.2))]), (.arr (.pair .str .str) [(([97] : List UInt8), (p15_k1 x0)), (([98] : List UInt8), (p15_k2 x0)), (([99] : List UInt8), (p15_k3 x0))] true)]) := Eq.mp (by kernel_rfl) hp3
                                  have hp2 := turns_step ht2 hs2
                                  have ht1 : (turn (hds 15 3610) 0 3610 (evC byref (evCall F S8 (m + 24)) (m + 24) 0 (hds 15) lbu15_0) p15_e9 [(.cells [(.d (.sl (.int .i64) x0.1)), (.d (.sl (.int .i64) x0.2))]), (.arr (.pair .str .str) [(([97] : List UInt8), (p15_k1 x0))] true)]).run = some (.normal, p15_e8, [(.cells [(.d (.sl (.int .i64) x0.1)), (.d (.sl (.int .i64) x0.2))]), (.arr (.pair .str .str) [(([97] : List UInt8), (p15_k1 x0)), (([98] : List UInt8), (p15_k2 x0))] true)]) := M.run_of_path _ [true, true, true, true, true, true, true, true, true, true, true, true, true, true, true, true, true, true, true, true, true] _ _ (by kernel_rfl) (all_t rfl (all_t rfl (all_t rfl (all_t c27 (all_t c27 (all_t c27 (all_t c27 (all_t rfl (all_t c27 (all_t c27 (all_t c27 (all_t c27 (all_t c27 (all_t c37 (all_t c38 (all_t rfl (all_t c40 (all_t c41 (all_t rfl (all_t rfl (all_t rfl all_nil)))))))))))))))))))))
                                  have hs1 : (turns (hds 15 3610) 0 3610 (evC byref (evCall F S8 (m + 24)) (m + 24) 0 (hds 15) lbu15_0) (m + 22) p15_e8 [(.cells [(.d (.sl (.int .i64) x0.1)), (.d (.sl (.int .i64) x0.2))]), (.arr (.pair .str .str) [(([97] : List UInt8), (p15_k1 x0)), (([98] : List UInt8), (p15_k2 x0))] true)]).run = some (.exit 0, p15_e2, [(.cells [(.d (.sl (.int .i64) x0.1)), (.d (.sl (.int .i64) x0.2))]), (.arr (.pair .str .str) [(([97] : List UInt8), (p15_k1 x0)), (([98] : List UInt8), (p15_k2 x0)), (([99] : List UInt8), (p15_k3 x0))] true)]) := Eq.mp (by kernel_rfl) hp2
                                  have hp1 := turns_step ht1 hs1
                                  have ht0 : (turn (hds 15 3610) 0 3610 (evC byref (evCall F S8 (m + 24)) (m + 24) 0 (hds 15) lbu15_0) p15_e6 [(.cells [(.d (.sl (.int .i64) x0.1)), (.d (.sl (.int .i64) x0.2))]), (.arr (.pair .str .str) ([] : List ((List UInt8) × (List UInt8))) true)]).run = some (.normal, p15_e9, [(.cells [(.d (.sl (.int .i64) x0.1)), (.d (.sl (.int .i64) x0.2))]), (.arr (.pair .str .str) [(([97] : List UInt8), (p15_k1 x0))] true)]) := M.run_of_path _ [true, true, true, true, true, true, true, true, true, true, true, true, true, true, true, true, true, true, true, true, true] _ _ (by kernel_rfl) (all_t rfl (all_t rfl (all_t rfl (all_t c6 (all_t c6 (all_t c6 (all_t c6 (all_t rfl (all_t c6 (all_t c6 (all_t c6 (all_t c6 (all_t c6 (all_t c16 (all_t c17 (all_t rfl (all_t c19 (all_t c20 (all_t rfl (all_t rfl (all_t rfl all_nil)))))))))))))))))))))
                                  have hs0 : (turns (hds 15 3610) 0 3610 (evC byref (evCall F S8 (m + 24)) (m + 24) 0 (hds 15) lbu15_0) (m + 23) p15_e9 [(.cells [(.d (.sl (.int .i64) x0.1)), (.d (.sl (.int .i64) x0.2))]), (.arr (.pair .str .str) [(([97] : List UInt8), (p15_k1 x0))] true)]).run = some (.exit 0, p15_e2, [(.cells [(.d (.sl (.int .i64) x0.1)), (.d (.sl (.int .i64) x0.2))]), (.arr (.pair .str .str) [(([97] : List UInt8), (p15_k1 x0)), (([98] : List UInt8), (p15_k2 x0)), (([99] : List UInt8), (p15_k3 x0))] true)]) := Eq.mp (by kernel_rfl) hp1
                                  have hp0 := turns_step ht0 hs0
                                  exact Eq.trans (Eq.mp (by kernel_rfl) hp0) hq
                                cases hp
                              · skip
                                cases h
                            · skip
                              cases h
                          · skip
                            cases h
                        · skip
                          cases h
                          refine ⟨(.d (.sl (.pair .str .str) [(([97] : List UInt8), (p15_k1 x0)), (([98] : List UInt8), (p15_k2 x0))])), [], runT_ok (LS := (fun k => if k = 3610 then some (.exit 0, p15_e3, [(.cells [(.d (.sl (.int .i64) x0.1)), (.d (.sl (.int .i64) x0.2))]), (.arr (.pair .str .str) [(([97] : List UInt8), (p15_k1 x0)), (([98] : List UInt8), (p15_k2 x0))] true)]) else none)) (fn := fn15) (vis := [(3610, p15_e6, [(.cells [(.d (.sl (.int .i64) x0.1)), (.d (.sl (.int .i64) x0.2))]), (.arr (.pair .str .str) ([] : List ((List UInt8) × (List UInt8))) true)])]) (by kernel_rfl) rfl (by kernel_rfl) (M.run_of_path _ [true, true, true, true] _ _ (by kernel_rfl) (all_t rfl (all_t rfl (all_t rfl (all_t rfl all_nil))))) ?_, by simp, (wkR.one (wkV.one (wk1.eq rfl))), trivial⟩
                          intro p hp p2 hq
                          rcases List.mem_cons.1 hp with rfl | hp
                          · skip
                            have ht3 : (turn (hds 15 3610) 0 3610 (evC byref (evCall F S8 (m + 24)) (m + 24) 0 (hds 15) lbu15_0) p15_e10 [(.cells [(.d (.sl (.int .i64) x0.1)), (.d (.sl (.int .i64) x0.2))]), (.arr (.pair .str .str) [(([97] : List UInt8), (p15_k1 x0)), (([98] : List UInt8), (p15_k2 x0))] true)]).run = some (.exit 0, p15_e3, [(.cells [(.d (.sl (.int .i64) x0.1)), (.d (.sl (.int .i64) x0.2))]), (.arr (.pair .str .str) [(([97] : List UInt8), (p15_k1 x0)), (([98] : List UInt8), (p15_k2 x0))] true)]) := M.run_of_path _ [false] _ _ (by kernel_rfl) (all_f Bool.false_ne_true all_nil)
                            have hp3 := turns_last (n := m + 20) (by simp) ht3
                            have ht2 : (turn (hds 15 3610) 0 3610 (evC byref (evCall F S8 (m + 24)) (m + 24) 0 (hds 15) lbu15_0) p15_e8 [(.cells [(.d (.sl (.int .i64) x0.1)), (.d (.sl (.int .i64) x0.2))]), (.arr (.pair .str .str) [(([97] : List UInt8), (p15_k1 x0)), (([98] : List UInt8), (p15_k2 x0))] true)]).run = some (.normal, p15_e10, [(.cells [(.d (.sl (.int .i64) x0.1)), (.d (.sl (.int .i64) x0.2))]), (.arr (.pair .str .str) [(([97] : List UInt8), (p15_k1 x0)), (([98] : List UInt8), (p15_k2 x0))] true)]) := M.run_of_path _ [true, true, true, true, true, true, true, true, true, true, true, true, true, false] _ _ (by kernel_rfl) (all_t rfl (all_t rfl (all_t rfl (all_t c48 (all_t c48 (all_t c48 (all_t c48 (all_t rfl (all_t c48 (all_t c48 (all_t c48 (all_t c48 (all_t c48 (all_f c58 all_nil))))))))))))))
                            have hs2 : (turns (hds 15 3610) 0 3610 (evC byref (evCall F S8 (m + 24)) (m + 24) 0 (hds 15) lbu15_0) (m + 21) p15_e10 [(.cells [(.d (.sl (.int .i64) x0.1)), (.d (.sl (.int .i64) x0.2))]), (.arr (.pair .str .str) [(([97] : List UInt8), (p15_k1 x0)), (([98] : List UInt8), (p15_k2 x0))] true)]).run = some (.exit 0, p15_e3, [(.cells [(.d (.sl (.int .i64) x0.1)), (.d (.sl (.int .i64) x0.2))]), (.arr (.pair .str .str) [(([97] : List UInt8), (p15_k1 x0)), (([98] : List UInt8), (p15_k2 x0))] true)]) := Eq.mp (by kernel_rfl) hp3
                            have hp2 := turns_step ht2 hs2
                            have ht1 : (turn (hds 15 3610) 0 3610 (evC byref (evCall F S8 (m + 24)) (m + 24) 0 (hds 15) lbu15_0) p15_e9 [(.cells [(.d (.sl (.int .i64) x0.1)), (.d (.sl (.int .i64) x0.2))]), (.arr (.pair .str .str) [(([97] : List UInt8), (p15_k1 x0))] true)]).run = some (.normal, p15_e8, [(.cells [(.d (.sl (.int .i64) x0.1)), (.d (.sl (.int .i64) x0.2))]), (.arr (.pair .str .str) [(([97] : List UInt8), (p15_k1 x0)), (([98] : List UInt8), (p15_k2 x0))] true)]) := M.run_of_path _ [true, true, true, true, true, true, true, true, true, true, true, true, true, true, true, true, true, true, true, true, true] _ _ (by kernel_rfl) (all_t rfl (all_t rfl (all_t rfl (all_t c27 (all_t c27 (all_t c27 (all_t c27 (all_t rfl (all_t c27 (all_t c27 (all_t c27 (all_t c27 (all_t c27 (all_t c37 (all_t c38 (all_t rfl (all_t c40 (all_t c41 (all_t rfl (all_t rfl (all_t rfl all_nil)))))))))))))))))))))
                            have hs1 : (turns (hds 15 3610) 0 3610 (evC byref (evCall F S8 (m + 24)) (m + 24) 0 (hds 15) lbu15_0) (m + 22) p15_e8 [(.cells [(.d (.sl (.int .i64) x0.1)), (.d (.sl (.int .i64) x0.2))]), (.arr (.pair .str .str) [(([97] : List UInt8), (p15_k1 x0)), (([98] : List UInt8), (p15_k2 x0))] true)]).run = some (.exit 0, p15_e3, [(.cells [(.d (.sl (.int .i64) x0.1)), (.d (.sl (.int .i64) x0.2))]), (.arr (.pair .str .str) [(([97] : List UInt8), (p15_k1 x0)), (([98] : List UInt8), (p15_k2 x0))] true)]) := Eq.mp (by kernel_rfl) hp2
                            have hp1 := turns_step ht1 hs1
                            have ht0 : (turn (hds 15 3610) 0 3610 (evC byref (evCall F S8 (m + 24)) (m + 24) 0 (hds 15) lbu15_0) p15_e6 [(.cells [(.d (.sl (.int .i64) x0.1)), (.d (.sl (.int .i64) x0.2))]), (.arr (.pair .str .str) ([] : List ((List UInt8) × (List UInt8))) true)]).run = some (.normal, p15_e9, [(.cells [(.d (.sl (.int .i64) x0.1)), (.d (.sl (.int .i64) x0.2))]), (.arr (.pair .str .str) [(([97] : List UInt8), (p15_k1 x0))] true)]) := M.run_of_path _ [true, true, true, true, true, true, true, true, true, true, true, true, true, true, true, true, true, true, true, true, true] _ _ (by kernel_rfl) (all_t rfl (all_t rfl (all_t rfl (all_t c6 (all_t c6 (all_t c6 (all_t c6 (all_t rfl (all_t c6 (all_t c6 (all_t c6 (all_t c6 (all_t c6 (all_t c16 (all_t c17 (all_t rfl (all_t c19 (all_t c20 (all_t rfl (all_t rfl (all_t rfl all_nil)))))))))))))))))))))
                            have hs0 : (turns (hds 15 3610) 0 3610 (evC byref (evCall F S8 (m + 24)) (m + 24) 0 (hds 15) lbu15_0) (m + 23) p15_e9 [(.cells [(.d (.sl (.int .i64) x0.1)), (.d (.sl (.int .i64) x0.2))]), (.arr (.pair .str .str) [(([97] : List UInt8), (p15_k1 x0))] true)]).run = some (.exit 0, p15_e3, [(.cells [(.d (.sl (.int .i64) x0.1)), (.d (.sl (.int .i64) x0.2))]), (.arr (.pair .str .str) [(([97] : List UInt8), (p15_k1 x0)), (([98] : List UInt8), (p15_k2 x0))] true)]) := Eq.mp (by kernel_rfl) hp1
                            have hp0 := turns_step ht0 hs0
                            exact Eq.trans (Eq.mp (by kernel_rfl) hp0) hq
                          cases hp
                      · skip
                        cases h
                        refine ⟨(.d (.sl (.pair .str .str) [(([97] : List UInt8), (p15_k1 x0)), (([98] : List UInt8), (p15_k2 x0))])), [], runT_ok (LS := (fun k => if k = 3610 then some (.exit 0, p15_e3, [(.cells [(.d (.sl (.int .i64) x0.1)), (.d (.sl (.int .i64) x0.2))]), (.arr (.pair .str .str) [(([97] : List UInt8), (p15_k1 x0)), (([98] : List UInt8), (p15_k2 x0))] true)]) else none)) (fn := fn15) (vis := [(3610, p15_e6, [(.cells [(.d (.sl (.int .i64) x0.1)), (.d (.sl (.int .i64) x0.2))]), (.arr (.pair .str .str) ([] : List ((List UInt8) × (List UInt8))) true)])]) (by kernel_rfl) rfl (by kernel_rfl) (M.run_of_path _ [true, true, true, true] _ _ (by kernel_rfl) (all_t rfl (all_t rfl (all_t rfl (all_t rfl all_nil))))) ?_, by simp, (wkR.one (wkV.one (wk1.eq rfl))), trivial⟩
                        intro p hp p2 hq
                        rcases List.mem_cons.1 hp with rfl | hp
                        · skip
                          have ht3 : (turn (hds 15 3610) 0 3610 (evC byref (evCall F S8 (m + 24)) (m + 24) 0 (hds 15) lbu15_0) p15_e10 [(.cells [(.d (.sl (.int .i64) x0.1)), (.d (.sl (.int .i64) x0.2))]), (.arr (.pair .str .str) [(([97] : List UInt8), (p15_k1 x0)), (([98] : List UInt8), (p15_k2 x0))] true)]).run = some (.exit 0, p15_e3, [(.cells [(.d (.sl (.int .i64) x0.1)), (.d (.sl (.int .i64) x0.2))]), (.arr (.pair .str .str) [(([97] : List UInt8), (p15_k1 x0)), (([98] : List UInt8), (p15_k2 x0))] true)]) := M.run_of_path _ [false] _ _ (by kernel_rfl) (all_f Bool.false_ne_true all_nil)
                          have hp3 := turns_last (n := m + 20) (by simp) ht3
                          have ht2 : (turn (hds 15 3610) 0 3610 (evC byref (evCall F S8 (m + 24)) (m + 24) 0 (hds 15) lbu15_0) p15_e8 [(.cells [(.d (.sl (.int .i64) x0.1)), (.d (.sl (.int .i64) x0.2))]), (.arr (.pair .str .str) [(([97] : List UInt8), (p15_k1 x0)), (([98] : List UInt8), (p15_k2 x0))] true)]).run = some (.normal, p15_e10, [(.cells [(.d (.sl (.int .i64) x0.1)), (.d (.sl (.int .i64) x0.2))]), (.arr (.pair .str .str) [(([97] : List UInt8), (p15_k1 x0)), (([98] : List UInt8), (p15_k2 x0))] true)]) := M.run_of_path _ [true, true, true, false, false, false, false, false, false, false, false, false] _ _ (by kernel_rfl) (all_t rfl (all_t rfl (all_t rfl (all_f c48 (all_f c48 (all_f c48 (all_f c48 (all_f c48 (all_f c48 (all_f c48 (all_f c48 (all_f Bool.false_ne_true all_nil))))))))))))
                          have hs2 : (turns (hds 15 3610) 0 3610 (evC byref (evCall F S8 (m + 24)) (m + 24) 0 (hds 15) lbu15_0) (m + 21) p15_e10 [(.cells [(.d (.sl (.int .i64) x0.1)), (.d (.sl (.int .i64) x0.2))]), (.arr (.pair .str .str) [(([97] : List UInt8), (p15_k1 x0)), (([98] : List UInt8), (p15_k2 x0))] true)]).run = some (.exit 0, p15_e3, [(.cells [(.d (.sl (.int .i64) x0.1)), (.d (.sl (.int .i64) x0.2))]), (.arr (.pair .str .str) [(([97] : List UInt8), (p15_k1 x0)), (([98] : List UInt8), (p15_k2 x0))] true)]) := Eq.mp (by kernel_rfl) hp3
                          have hp2 := turns_step ht2 hs2
                          have ht1 : (turn (hds 15 3610) 0 3610 (evC byref (evCall F S8 (m + 24)) (m + 24) 0 (hds 15) lbu15_0) p15_e9 [(.cells [(.d (.sl (.int .i64) x0.1)), (.d (.sl (.int .i64) x0.2))]), (.arr (.pair .str .str) [(([97] : List UInt8), (p15_k1 x0))] true)]).run = some (.normal, p15_e8, [(.cells [(.d (.sl (.int .i64) x0.1)), (.d (.sl (.int .i64) x0.2))]), (.arr (.pair .str .str) [(([97] : List UInt8), (p15_k1 x0)), (([98] : List UInt8), (p15_k2 x0))] true)]) := M.run_of_path _ [true, true, true, true, true, true, true, true, true, true, true, true, true, true, true, true, true, true, true, true, true] _ _ (by kernel_rfl) (all_t rfl (all_t rfl (all_t rfl (all_t c27 (all_t c27 (all_t c27 (all_t c27 (all_t rfl (all_t c27 (all_t c27 (all_t c27 (all_t c27 (all_t c27 (all_t c37 (all_t c38 (all_t rfl (all_t c40 (all_t c41 (all_t rfl (all_t rfl (all_t rfl all_nil)))))))))))))))))))))
                          have hs1 : (turns (hds 15 3610) 0 3610 (evC byref (evCall F S8 (m + 24)) (m + 24) 0 (hds 15) lbu15_0) (m + 22) p15_e8 [(.cells [(.d (.sl (.int .i64) x0.1)), (.d (.sl (.int .i64) x0.2))]), (.arr (.pair .str .str) [(([97] : List UInt8), (p15_k1 x0)), (([98] : List UInt8), (p15_k2 x0))] true)]).run = some (.exit 0, p15_e3, [(.cells [(.d (.sl (.int .i64) x0.1)), (.d (.sl (.int .i64) x0.2))]), (.arr (.pair .str .str) [(([97] : List UInt8), (p15_k1 x0)), (([98] : List UInt8), (p15_k2 x0))] true)]) := Eq.mp (by kernel_rfl) hp2
                          have hp1 := turns_step ht1 hs1
                          have ht0 : (turn (hds 15 3610) 0 3610 (evC byref (evCall F S8 (m + 24)) (m + 24) 0 (hds 15) lbu15_0) p15_e6 [(.cells [(.d (.sl (.int .i64) x0.1)), (.d (.sl (.int .i64) x0.2))]), (.arr (.pair .str .str) ([] : List ((List UInt8) × (List UInt8))) true)]).run = some (.normal, p15_e9, [(.cells [(.d (.sl (.int .i64) x0.1)), (.d (.sl (.int .i64) x0.2))]), (.arr (.pair .str .str) [(([97] : List UInt8), (p15_k1 x0))] true)]) := M.run_of_path _ [true, true, true, true, true, true, true, true, true, true, true, true, true, true, true, true, true, true, true, true, true] _ _ (by kernel_rfl) (all_t rfl (all_t rfl (all_t rfl (all_t c6 (all_t c6 (all_t c6 (all_t c6 (all_t rfl (all_t c6 (all_t c6 (all_t c6 (all_t c6 (all_t c6 (all_t c16 (all_t c17 (all_t rfl (all_t c19 (all_t c20 (all_t rfl (all_t rfl (all_t rfl all_nil)))))))))))))))))))))
                          have hs0 : (turns (hds 15 3610) 0 3610 (evC byref (evCall F S8 (m + 24)) (m + 24) 0 (hds 15) lbu15_0) (m + 23) p15_e9 [(.cells [(.d (.sl (.int .i64) x0.1)), (.d (.sl (.int .i64) x0.2))]), (.arr (.pair .str .str) [(([97] : List UInt8), (p15_k1 x0))] true)]).run = some (.exit 0, p15_e3, [(.cells [(.d (.sl (.int .i64) x0.1)), (.d (.sl (.int .i64) x0.2))]), (.arr (.pair .str .str) [(([97] : List UInt8), (p15_k1 x0)), (([98] : List UInt8), (p15_k2 x0))] true)]) := Eq.mp (by kernel_rfl) hp1
                          have hp0 := turns_step ht0 hs0
                          exact Eq.trans (Eq.mp (by kernel_rfl) hp0) hq
                        cases hp
                    · skip
                      cases h
                  · skip
                    cases h
                · skip
                  cases h
              · skip
                refine ite_cases h (fun c41 h => ?_) (fun c41 h => ?_)
                · skip
                  refine ite_cases h (fun c51 h => ?_) (fun c51 h => ?_)
                  · skip
                    refine ite_cases h (fun c52 h => ?_) (fun c52 h => ?_)
                    · skip
                      refine ite_cases h (fun c54 h => ?_) (fun c54 h => ?_)
                      · skip
                        refine ite_cases h (fun c55 h => ?_) (fun c55 h => ?_)
                        · skip
                          cases h
                          refine ⟨(.d (.sl (.pair .str .str) [(([97] : List UInt8), (p15_k1 x0)), (([99] : List UInt8), (p15_k3 x0))])), [], runT_ok (LS := (fun k => if k = 3610 then some (.exit 0, p15_e3, [(.cells [(.d (.sl (.int .i64) x0.1)), (.d (.sl (.int .i64) x0.2))]), (.arr (.pair .str .str) [(([97] : List UInt8), (p15_k1 x0)), (([99] : List UInt8), (p15_k3 x0))] true)]) else none)) (fn := fn15) (vis := [(3610, p15_e6, [(.cells [(.d (.sl (.int .i64) x0.1)), (.d (.sl (.int .i64) x0.2))]), (.arr (.pair .str .str) ([] : List ((List UInt8) × (List UInt8))) true)])]) (by kernel_rfl) rfl (by kernel_rfl) (M.run_of_path _ [true, true, true, true] _ _ (by kernel_rfl) (all_t rfl (all_t rfl (all_t rfl (all_t rfl all_nil))))) ?_, by simp, (wkR.one (wkV.one (wk1.eq rfl))), trivial⟩
                          intro p hp p2 hq
                          rcases List.mem_cons.1 hp with rfl | hp
                          · skip
                            have ht3 : (turn (hds 15 3610) 0 3610 (evC byref (evCall F S8 (m + 24)) (m + 24) 0 (hds 15) lbu15_0) p15_e10 [(.cells [(.d (.sl (.int .i64) x0.1)), (.d (.sl (.int .i64) x0.2))]), (.arr (.pair .str .str) [(([97] : List UInt8), (p15_k1 x0)), (([99] : List UInt8), (p15_k3 x0))] true)]).run = some (.exit 0, p15_e3, [(.cells [(.d (.sl (.int .i64) x0.1)), (.d (.sl (.int .i64) x0.2))]), (.arr (.pair .str .str) [(([97] : List UInt8), (p15_k1 x0)), (([99] : List UInt8), (p15_k3 x0))] true)]) := M.run_of_path _ [false] _ _ (by kernel_rfl) (all_f Bool.false_ne_true all_nil)
                            have hp3 := turns_last (n := m + 20) (by simp) ht3
                            have ht2 : (turn (hds 15 3610) 0 3610 (evC byref (evCall F S8 (m + 24)) (m + 24) 0 (hds 15) lbu15_0) p15_e11 [(.cells [(.d (.sl (.int .i64) x0.1)), (.d (.sl (.int .i64) x0.2))]), (.arr (.pair .str .str) [(([97] : List UInt8), (p15_k1 x0))] true)]).run = some (.normal, p15_e10, [(.cells [(.d (.sl (.int .i64) x0.1)), (.d (.sl (.int .i64) x0.2))]), (.arr (.pair .str .str) [(([97] : List UInt8), (p15_k1 x0)), (([99] : List UInt8), (p15_k3 x0))] true)]) := M.run_of_path _ [true, true, true, true, true, true, true, true, true, true, true, true, true, true, true, true, true, true, true, true, true] _ _ (by kernel_rfl) (all_t rfl (all_t rfl (all_t rfl (all_t c41 (all_t c41 (all_t c41 (all_t c41 (all_t rfl (all_t c41 (all_t c41 (all_t c41 (all_t c41 (all_t c41 (all_t c51 (all_t c52 (all_t rfl (all_t c54 (all_t c55 (all_t rfl (all_t rfl (all_t rfl all_nil)))))))))))))))))))))
                            have hs2 : (turns (hds 15 3610) 0 3610 (evC byref (evCall F S8 (m + 24)) (m + 24) 0 (hds 15) lbu15_0) (m + 21) p15_e10 [(.cells [(.d (.sl (.int .i64) x0.1)), (.d (.sl (.int .i64) x0.2))]), (.arr (.pair .str .str) [(([97] : List UInt8), (p15_k1 x0)), (([99] : List UInt8), (p15_k3 x0))] true)]).run = some (.exit 0, p15_e3, [(.cells [(.d (.sl (.int .i64) x0.1)), (.d (.sl (.int .i64) x0.2))]), (.arr (.pair .str .str) [(([97] : List UInt8), (p15_k1 x0)), (([99] : List UInt8), (p15_k3 x0))] true)]) := Eq.mp (by kernel_rfl) hp3
                            have hp2 := turns_step ht2 hs2
                            have ht1 : (turn (hds 15 3610) 0 3610 (evC byref (evCall F S8 (m + 24)) (m + 24) 0 (hds 15) lbu15_0) p15_e9 [(.cells [(.d (.sl (.int .i64) x0.1)), (.d (.sl (.int .i64) x0.2))]), (.arr (.pair .str .str) [(([97] : List UInt8), (p15_k1 x0))] true)]).run = some (.normal, p15_e11, [(.cells [(.d (.sl (.int .i64) x0.1)), (.d (.sl (.int .i64) x0.2))]), (.arr (.pair .str .str) [(([97] : List UInt8), (p15_k1 x0))] true)]) := M.run_of_path _ [true, true, true, true, true, true, true, true, true, true, true, true, true, false] _ _ (by kernel_rfl) (all_t rfl (all_t rfl (all_t rfl (all_t c27 (all_t c27 (all_t c27 (all_t c27 (all_t rfl (all_t c27 (all_t c27 (all_t c27 (all_t c27 (all_t c27 (all_f c37 all_nil))))))))))))))
                            have hs1 : (turns (hds 15 3610) 0 3610 (evC byref (evCall F S8 (m + 24)) (m + 24) 0 (hds 15) lbu15_0) (m + 22) p15_e11 [(.cells [(.d (.sl (.int .i64) x0.1)), (.d (.sl (.int .i64) x0.2))]), (.arr (.pair .str .str) [(([97] : List UInt8), (p15_k1 x0))] true)]).run = some (.exit 0, p15_e3, [(.cells [(.d (.sl (.int .i64) x0.1)), (.d (.sl (.int .i64) x0.2))]), (.arr (.pair .str .str) [(([97] : List UInt8), (p15_k1 x0)), (([99] : List UInt8), (p15_k3 x0))] true)]) := Eq.mp (by kernel_rfl) hp2
                            have hp1 := turns_step ht1 hs1
                            have ht0 : (turn (hds 15 3610) 0 3610 (evC byref (evCall F S8 (m + 24)) (m + 24) 0 (hds 15) lbu15_0) p15_e6 [(.cells [(.d (.sl (.int .i64) x0.1)), (.d (.sl (.int .i64) x0.2))]), (.arr (.pair .str .str) ([] : List ((List UInt8) × (List UInt8))) true)]).run = some (.normal, p15_e9, [(.cells [(.d (.sl (.int .i64) x0.1)), (.d (.sl (.int .i64) x0.2))]), (.arr (.pair .str .str) [(([97] : List UInt8), (p15_k1 x0))] true)]) := M.run_of_path _ [true, true, true, true, true, true, true, true, true, true, true, true, true, true, true, true, true, true, true, true, true] _ _ (by kernel_rfl) (all_t rfl (all_t rfl (all_t rfl (all_t c6 (all_t c6 (all_t c6 (all_t c6 (all_t rfl (all_t c6 (all_t c6 (all_t c6 (all_t c6 (all_t c6 (all_t c16 (all_t c17 (all_t rfl (all_t c19 (all_t c20 (all_t rfl (all_t rfl (all_t rfl all_nil)))))))))))))))))))))
                            have hs0 : (turns (hds 15 3610) 0 3610 (evC byref (evCall F S8 (m + 24)) (m + 24) 0 (hds 15) lbu15_0) (m + 23) p15_e9 [(.cells [(.d (.sl (.int .i64) x0.1)), (.d (.sl (.int .i64) x0.2))]), (.arr (.pair .str .str) [(([97] : List UInt8), (p15_k1 x0))] true)]).run = some (.exit 0, p15_e3, [(.cells [(.d (.sl (.int .i64) x0.1)), (.d (.sl (.int .i64) x0.2))]), (.arr (.pair .str .str) [(([97] : List UInt8), (p15_k1 x0)), (([99] : List UInt8), (p15_k3 x0))] true)]) := Eq.mp (by kernel_rfl) hp1
                            have hp0 := turns_step ht0 hs0
                            exact Eq.trans (Eq.mp (by kernel_rfl) hp0) hq
                          cases hp
                        · skip
                          cases h
                      · skip
                        cases h
                    · skip
                      cases h
                  · skip
                    cases h
                    refine ⟨(.d (.sl (.pair .str .str) [(([97] : List UInt8), (p15_k1 x0))])), [], runT_ok (LS := (fun k => if k = 3610 then some (.exit 0, p15_e4, [(.cells [(.d (.sl (.int .i64) x0.1)), (.d (.sl (.int .i64) x0.2))]), (.arr (.pair .str .str) [(([97] : List UInt8), (p15_k1 x0))] true)]) else none)) (fn := fn15) (vis := [(3610, p15_e6, [(.cells [(.d (.sl (.int .i64) x0.1)), (.d (.sl (.int .i64) x0.2))]), (.arr (.pair .str .str) ([] : List ((List UInt8) × (List UInt8))) true)])]) (by kernel_rfl) rfl (by kernel_rfl) (M.run_of_path _ [true, true, true, true] _ _ (by kernel_rfl) (all_t rfl (all_t rfl (all_t rfl (all_t rfl all_nil))))) ?_, by simp, (wkR.one (wkV.one (wk1.eq rfl))), trivial⟩
                    intro p hp p2 hq
                    rcases List.mem_cons.1 hp with rfl | hp
                    · skip
                      have ht3 : (turn (hds 15 3610) 0 3610 (evC byref (evCall F S8 (m + 24)) (m + 24) 0 (hds 15) lbu15_0) p15_e12 [(.cells [(.d (.sl (.int .i64) x0.1)), (.d (.sl (.int .i64) x0.2))]), (.arr (.pair .str .str) [(([97] : List UInt8), (p15_k1 x0))] true)]).run = some (.exit 0, p15_e4, [(.cells [(.d (.sl (.int .i64) x0.1)), (.d (.sl (.int .i64) x0.2))]), (.arr (.pair .str .str) [(([97] : List UInt8), (p15_k1 x0))] true)]) := M.run_of_path _ [false] _ _ (by kernel_rfl) (all_f Bool.false_ne_true all_nil)
                      have hp3 := turns_last (n := m + 20) (by simp) ht3
                      have ht2 : (turn (hds 15 3610) 0 3610 (evC byref (evCall F S8 (m + 24)) (m + 24) 0 (hds 15) lbu15_0) p15_e11 [(.cells [(.d (.sl (.int .i64) x0.1)), (.d (.sl (.int .i64) x0.2))]), (.arr (.pair .str .str) [(([97] : List UInt8), (p15_k1 x0))] true)]).run = some (.normal, p15_e12, [(.cells [(.d (.sl (.int .i64) x0.1)), (.d (.sl (.int .i64) x0.2))]), (.arr (.pair .str .str) [(([97] : List UInt8), (p15_k1 x0))] true)]) := M.run_of_path _ [true, true, true, true, true, true, true, true, true, true, true, true, true, false] _ _ (by kernel_rfl) (all_t rfl (all_t rfl (all_t rfl (all_t c41 (all_t c41 (all_t c41 (all_t c41 (all_t rfl (all_t c41 (all_t c41 (all_t c41 (all_t c41 (all_t c41 (all_f c51 all_nil))))))))))))))
                      have hs2 : (turns (hds 15 3610) 0 3610 (evC byref (evCall F S8 (m + 24)) (m + 24) 0 (hds 15) lbu15_0) (m + 21) p15_e12 [(.cells [(.d (.sl (.int .i64) x0.1)), (.d (.sl (.int .i64) x0.2))]), (.arr (.pair .str .str) [(([97] : List UInt8), (p15_k1 x0))] true)]).run = some (.exit 0, p15_e4, [(.cells [(.d (.sl (.int .i64) x0.1)), (.d (.sl (.int .i64) x0.2))]), (.arr (.pair .str .str) [(([97] : List UInt8), (p15_k1 x0))] true)]) := Eq.mp (by kernel_rfl) hp3
                      have hp2 := turns_step ht2 hs2
                      have ht1 : (turn (hds 15 3610) 0 3610 (evC byref (evCall F S8 (m + 24)) (m + 24) 0 (hds 15) lbu15_0) p15_e9 [(.cells [(.d (.sl (.int .i64) x0.1)), (.d (.sl (.int .i64) x0.2))]), (.arr (.pair .str .str) [(([97] : List UInt8), (p15_k1 x0))] true)]).run = some (.normal, p15_e11, [(.cells [(.d (.sl (.int .i64) x0.1)), (.d (.sl (.int .i64) x0.2))]), (.arr (.pair .str .str) [(([97] : List UInt8), (p15_k1 x0))] true)]) := M.run_of_path _ [true, true, true, true, true, true, true, true, true, true, true, true, true, false] _ _ (by kernel_rfl) (all_t rfl (all_t rfl (all_t rfl (all_t c27 (all_t c27 (all_t c27 (all_t c27 (all_t rfl (all_t c27 (all_t c27 (all_t c27 (all_t c27 (all_t c27 (all_f c37 all_nil))))))))))))))
                      have hs1 : (turns (hds 15 3610) 0 3610 (evC byref (evCall F S8 (m + 24)) (m + 24) 0 (hds 15) lbu15_0) (m + 22) p15_e11 [(.cells [(.d (.sl (.int .i64) x0.1)), (.d (.sl (.int .i64) x0.2))]), (.arr (.pair .str .str) [(([97] : List UInt8), (p15_k1 x0))] true)]).run = some (.exit 0, p15_e4, [(.cells [(.d (.sl (.int .i64) x0.1)), (.d (.sl (.int .i64) x0.2))]), (.arr (.pair .str .str) [(([97] : List UInt8), (p15_k1 x0))] true)]) := Eq.mp (by kernel_rfl) hp2
                      have hp1 := turns_step ht1 hs1
                      have ht0 : (turn (hds 15 3610) 0 3610 (evC byref (evCall F S8 (m + 24)) (m + 24) 0 (hds 15) lbu15_0) p15_e6 [(.cells [(.d (.sl (.int .i64) x0.1)), (.d (.sl (.int .i64) x0.2))]), (.arr (.pair .str .str) ([] : List ((List UInt8) × (List UInt8))) true)]).run = some (.normal, p15_e9, [(.cells [(.d (.sl (.int .i64) x0.1)), (.d (.sl (.int .i64) x0.2))]), (.arr (.pair .str .str) [(([97] : List UInt8), (p15_k1 x0))] true)]) := M.run_of_path _ [true, true, true, true, true, true, true, true, true, true, true, true, true, true, true, true, true, true, true, true, true] _ _ (by kernel_rfl) (all_t rfl (all_t rfl (all_t rfl (all_t c6 (all_t c6 (all_t c6 (all_t c6 (all_t rfl (all_t c6 (all_t c6 (all_t c6 (all_t c6 (all_t c6 (all_t c16 (all_t c17 (all_t rfl (all_t c19 (all_t c20 (all_t rfl (all_t rfl (all_t rfl all_nil)))))))))))))))))))))
                      have hs0 : (turns (hds 15 3610) 0 3610 (evC byref (evCall F S8 (m + 24)) (m + 24) 0 (hds 15) lbu15_0) (m + 23) p15_e9 [(.cells [(.d (.sl (.int .i64) x0.1)), (.d (.sl (.int .i64) x0.2))]), (.arr (.pair .str .str) [(([97] : List UInt8), (p15_k1 x0))] true)]).run = some (.exit 0, p15_e4, [(.cells [(.d (.sl (.int .i64) x0.1)), (.d (.sl (.int .i64) x0.2))]), (.arr (.pair .str .str) [(([97] : List UInt8), (p15_k1 x0))] true)]) := Eq.mp (by kernel_rfl) hp1
                      have hp0 := turns_step ht0 hs0
                      exact Eq.trans (Eq.mp (by kernel_rfl) hp0) hq
                    cases hp
                · skip
                  cases h
                  refine ⟨(.d (.sl (.pair .str .str) [(([97] : List UInt8), (p15_k1 x0))])), [], runT_ok (LS := (fun k => if k = 3610 then some (.exit 0, p15_e4, [(.cells [(.d (.sl (.int .i64) x0.1)), (.d (.sl (.int .i64) x0.2))]), (.arr (.pair .str .str) [(([97] : List UInt8), (p15_k1 x0))] true)]) else none)) (fn := fn15) (vis := [(3610, p15_e6, [(.cells [(.d (.sl (.int .i64) x0.1)), (.d (.sl (.int .i64) x0.2))]), (.arr (.pair .str .str) ([] : List ((List UInt8) × (List UInt8))) true)])]) (by kernel_rfl) rfl (by kernel_rfl) (M.run_of_path _ [true, true, true, true] _ _ (by kernel_rfl) (all_t rfl (all_t rfl (all_t rfl (all_t rfl all_nil))))) ?_, by simp, (wkR.one (wkV.one (wk1.eq rfl))), trivial⟩
                  intro p hp p2 hq
                  rcases List.mem_cons.1 hp with rfl | hp
                  · skip
                    have ht3 : (turn (hds 15 3610) 0 3610 (evC byref (evCall F S8 (m + 24)) (m + 24) 0 (hds 15) lbu15_0) p15_e12 [(.cells [(.d (.sl (.int .i64) x0.1)), (.d (.sl (.int .i64) x0.2))]), (.arr (.pair .str .str) [(([97] : List UInt8), (p15_k1 x0))] true)]).run = some (.exit 0, p15_e4, [(.cells [(.d (.sl (.int .i64) x0.1)), (.d (.sl (.int .i64) x0.2))]), (.arr (.pair .str .str) [(([97] : List UInt8), (p15_k1 x0))] true)]) := M.run_of_path _ [false] _ _ (by kernel_rfl) (all_f Bool.false_ne_true all_nil)
                    have hp3 := turns_last (n := m + 20) (by simp) ht3
                    have ht2 : (turn (hds 15 3610) 0 3610 (evC byref (evCall F S8 (m + 24)) (m + 24) 0 (hds 15) lbu15_0) p15_e11 [(.cells [(.d (.sl (.int .i64) x0.1)), (.d (.sl (.int .i64) x0.2))]), (.arr (.pair .str .str) [(([97] : List UInt8), (p15_k1 x0))] true)]).run = some (.normal, p15_e12, [(.cells [(.d (.sl (.int .i64) x0.1)), (.d (.sl (.int .i64) x0.2))]), (.arr (.pair .str .str) [(([97] : List UInt8), (p15_k1 x0))] true)]) := M.run_of_path _ [true, true, true, false, false, false, false, false, false, false, false, false] _ _ (by kernel_rfl) (all_t rfl (all_t rfl (all_t rfl (all_f c41 (all_f c41 (all_f c41 (all_f c41 (all_f c41 (all_f c41 (all_f c41 (all_f c41 (all_f Bool.false_ne_true all_nil))))))))))))
                    have hs2 : (turns (hds 15 3610) 0 3610 (evC byref (evCall F S8 (m + 24)) (m + 24) 0 (hds 15) lbu15_0) (m + 21) p15_e12 [(.cells [(.d (.sl (.int .i64) x0.1)), (.d (.sl (.int .i64) x0.2))]), (.arr (.pair .str .str) [(([97] : List UInt8), (p15_k1 x0))] true)]).run = some (.exit 0, p15_e4, [(.cells [(.d (.sl (.int .i64) x0.1)), (.d (.sl (.int .i64) x0.2))]), (.arr (.pair .str .str) [(([97] : List UInt8), (p15_k1 x0))] true)]) := Eq.mp (by kernel_rfl) hp3
                    have hp2 := turns_step ht2 hs2
                    have ht1 : (turn (hds 15 3610) 0 3610 (evC byref (evCall F S8 (m + 24)) (m + 24) 0 (hds 15) lbu15_0) p15_e9 [(.cells [(.d (.sl (.int .i64) x0.1)), (.d (.sl (.int .i64) x0.2))]), (.arr (.pair .str .str) [(([97] : List UInt8), (p15_k1 x0))] true)]).run = some (.normal, p15_e11, [(.cells [(.d (.sl (.int .i64) x0.1)), (.d (.sl (.int .i64) x0.2))]), (.arr (.pair .str .str) [(([97] : List UInt8), (p15_k1 x0))] true)]) := M.run_of_path _ [true, true, true, true, true, true, true, true, true, true, true, true, true, false] _ _ (by kernel_rfl) (all_t rfl (all_t rfl (all_t rfl (all_t c27 (all_t c27 (all_t c27 (all_t c27 (all_t rfl (all_t c27 (all_t c27 (all_t c27 (all_t c27 (all_t c27 (all_f c37 all_nil))))))))))))))
                    have hs1 : (turns (hds 15 3610) 0 3610 (evC byref (evCall F S8 (m + 24)) (m + 24) 0 (hds 15) lbu15_0) (m + 22) p15_e11 [(.cells [(.d (.sl (.int .i64) x0.1)), (.d (.sl (.int .i64) x0.2))]), (.arr (.pair .str .str) [(([97] : List UInt8), (p15_k1 x0))] true)]).run = some (.exit 0, p15_e4, [(.cells [(.d (.sl (.int .i64) x0.1)), (.d (.sl (.int .i64) x0.2))]), (.arr (.pair .str .str) [(([97] : List UInt8), (p15_k1 x0))] true)]) := Eq.mp (by kernel_rfl) hp2
                    have hp1 := turns_step ht1 hs1
                    have ht0 : (turn (hds 15 3610) 0 3610 (evC byref (evCall F S8 (m + 24)) (m + 24) 0 (hds 15) lbu15_0) p15_e6 [(.cells [(.d (.sl (.int .i64) x0.1)), (.d (.sl (.int .i64) x0.2))]), (.arr (.pair .str .str) ([] : List ((List UInt8) × (List UInt8))) true)]).run = some (.normal, p15_e9, [(.cells [(.d (.sl (.int .i64) x0.1)), (.d (.sl (.int .i64) x0.2))]), (.arr (.pair .str .str) [(([97] : List UInt8), (p15_k1 x0))] true)]) := M.run_of_path _ [true, true, true, true, true, true, true, true, true, true, true, true, true, true, true, true, true, true, true, true, true] _ _ (by kernel_rfl) (all_t rfl (all_t rfl (all_t rfl (all_t c6 (all_t c6 (all_t c6 (all_t c6 (all_t rfl (all_t c6 (all_t c6 (all_t c6 (all_t c6 (all_t c6 (all_t c16 (all_t c17 (all_t rfl (all_t c19 (all_t c20 (all_t rfl (all_t rfl (all_t rfl all_nil)))))))))))))))))))))
                    have hs0 : (turns (hds 15 3610) 0 3610 (evC byref (evCall F S8 (m + 24)) (m + 24) 0 (hds 15) lbu15_0) (m + 23) p15_e9 [(.cells [(.d (.sl (.int .i64) x0.1)), (.d (.sl (.int .i64) x0.2))]), (.arr (.pair .str .str) [(([97] : List UInt8), (p15_k1 x0))] true)]).run = some (.exit 0, p15_e4, [(.cells [(.d (.sl (.int .i64) x0.1)), (.d (.sl (.int .i64) x0.2))]), (.arr (.pair .str .str) [(([97] : List UInt8), (p15_k1 x0))] true)]) := Eq.mp (by kernel_rfl) hp1
                    have hp0 := turns_step ht0 hs0
                    exact Eq.trans (Eq.mp (by kernel_rfl) hp0) hq
                  cases hp
            · skip
              refine ite_cases h (fun c39 h => ?_) (fun c39 h => ?_)
              · skip
                refine ite_cases h (fun c49 h => ?_) (fun c49 h => ?_)
                · skip
                  refine ite_cases h (fun c50 h => ?_) (fun c50 h => ?_)
                  · skip
                    refine ite_cases h (fun c52 h => ?_) (fun c52 h => ?_)
                    · skip
                      refine ite_cases h (fun c53 h => ?_) (fun c53 h => ?_)
                      · skip
                        cases h
                        refine ⟨(.d (.sl (.pair .str .str) [(([97] : List UInt8), (p15_k1 x0)), (([99] : List UInt8), (p15_k3 x0))])), [], runT_ok (LS := (fun k => if k = 3610 then some (.exit 0, p15_e3, [(.cells [(.d (.sl (.int .i64) x0.1)), (.d (.sl (.int .i64) x0.2))]), (.arr (.pair .str .str) [(([97] : List UInt8), (p15_k1 x0)), (([99] : List UInt8), (p15_k3 x0))] true)]) else none)) (fn := fn15) (vis := [(3610, p15_e6, [(.cells [(.d (.sl (.int .i64) x0.1)), (.d (.sl (.int .i64) x0.2))]), (.arr (.pair .str .str) ([] : List ((List UInt8) × (List UInt8))) true)])]) (by kernel_rfl) rfl (by kernel_rfl) (M.run_of_path _ [true, true, true, true] _ _ (by kernel_rfl) (all_t rfl (all_t rfl (all_t rfl (all_t rfl all_nil))))) ?_, by simp, (wkR.one (wkV.one (wk1.eq rfl))), trivial⟩
                        intro p hp p2 hq
                        rcases List.mem_cons.1 hp with rfl | hp
                        · skip
                          have ht3 : (turn (hds 15 3610) 0 3610 (evC byref (evCall F S8 (m + 24)) (m + 24) 0 (hds 15) lbu15_0) p15_e10 [(.cells [(.d (.sl (.int .i64) x0.1)), (.d (.sl (.int .i64) x0.2))]), (.arr (.pair .str .str) [(([97] : List UInt8), (p15_k1 x0)), (([99] : List UInt8), (p15_k3 x0))] true)]).run = some (.exit 0, p15_e3, [(.cells [(.d (.sl (.int .i64) x0.1)), (.d (.sl (.int .i64) x0.2))]), (.arr (.pair .str .str) [(([97] : List UInt8), (p15_k1 x0)), (([99] : List UInt8), (p15_k3 x0))] true)]) := M.run_of_path _ [false] _ _ (by kernel_rfl) (all_f Bool.false_ne_true all_nil)
                          have hp3 := turns_last (n := m + 20) (by simp) ht3
                          have ht2 : (turn (hds 15 3610) 0 3610 (evC byref (evCall F S8 (m + 24)) (m + 24) 0 (hds 15) lbu15_0) p15_e11 [(.cells [(.d (.sl (.int .i64) x0.1)), (.d (.sl (.int .i64) x0.2))]), (.arr (.pair .str .str) [(([97] : List UInt8), (p15_k1 x0))] true)]).run = some (.normal, p15_e10, [(.cells [(.d (.sl (.int .i64) x0.1)), (.d (.sl (.int .i64) x0.2))]), (.arr (.pair .str .str) [(([97] : List UInt8), (p15_k1 x0)), (([99] : List UInt8), (p15_k3 x0))] true)]) := M.run_of_path _ [true, true, true, true, true, true, true, true, true, true, true, true, true, true, true, true, true, true, true, true, true] _ _ (by kernel_rfl) (all_t rfl (all_t rfl (all_t rfl (all_t c39 (all_t c39 (all_t c39 (all_t c39 (all_t rfl (all_t c39 (all_t c39 (all_t c39 (all_t c39 (all_t c39 (all_t c49 (all_t c50 (all_t rfl (all_t c52 (all_t c53 (all_t rfl (all_t rfl (all_t rfl all_nil)))))))))))))))))))))
                          have hs2 : (turns (hds 15 3610) 0 3610 (evC byref (evCall F S8 (m + 24)) (m + 24) 0 (hds 15) lbu15_0) (m + 21) p15_e10 [(.cells [(.d (.sl (.int .i64) x0.1)), (.d (.sl (.int .i64) x0.2))]), (.arr (.pair .str .str) [(([97] : List UInt8), (p15_k1 x0)), (([99] : List UInt8), (p15_k3 x0))] true)]).run = some (.exit 0, p15_e3, [(.cells [(.d (.sl (.int .i64) x0.1)), (.d (.sl (.int .i64) x0.2))]), (.arr (.pair .str .str) [(([97] : List UInt8), (p15_k1 x0)), (([99] : List UInt8), (p15_k3 x0))] true)]) := Eq.mp (by kernel_rfl) hp3
                          have hp2 := turns_step ht2 hs2
                          have ht1 : (turn (hds 15 3610) 0 3610 (evC byref (evCall F S8 (m + 24)) (m + 24) 0 (hds 15) lbu15_0) p15_e9 [(.cells [(.d (.sl (.int .i64) x0.1)), (.d (.sl (.int .i64) x0.2))]), (.arr (.pair .str .str) [(([97] : List UInt8), (p15_k1 x0))] true)]).run = some (.normal, p15_e11, [(.cells [(.d (.sl (.int .i64) x0.1)), (.d (.sl (.int .i64) x0.2))]), (.arr (.pair .str .str) [(([97] : List UInt8), (p15_k1 x0))] true)]) := M.run_of_path _ [true, true, true, false, false, false, false, false, false, false, false, false] _ _ (by kernel_rfl) (all_t rfl (all_t rfl (all_t rfl (all_f c27 (all_f c27 (all_f c27 (all_f c27 (all_f c27 (all_f c27 (all_f c27 (all_f c27 (all_f Bool.false_ne_true all_nil))))))))))))
                          have hs1 : (turns (hds 15 3610) 0 3610 (evC byref (evCall F S8 (m + 24)) (m + 24) 0 (hds 15) lbu15_0) (m + 22) p15_e11 [(.cells [(.d (.sl (.int .i64) x0.1)), (.d (.sl (.int .i64) x0.2))]), (.arr (.pair .str .str) [(([97] : List UInt8), (p15_k1 x0))] true)]).run = some (.exit 0, p15_e3, [(.cells [(.d (.sl (.int .i64) x0.1)), (.d (.sl (.int .i64) x0.2))]), (.arr (.pair .str .str) [(([97] : List UInt8), (p15_k1 x0)), (([99] : List UInt8), (p15_k3 x0))] true)]) := Eq.mp (by kernel_rfl) hp2
                          have hp1 := turns_step ht1 hs1
                          have ht0 : (turn (hds 15 3610) 0 3610 (evC byref (evCall F S8 (m + 24)) (m + 24) 0 (hds 15) lbu15_0) p15_e6 [(.cells [(.d (.sl (.int .i64) x0.1)), (.d (.sl (.int .i64) x0.2))]), (.arr (.pair .str .str) ([] : List ((List UInt8) × (List UInt8))) true)]).run = some (.normal, p15_e9, [(.cells [(.d (.sl (.int .i64) x0.1)), (.d (.sl (.int .i64) x0.2))]), (.arr (.pair .str .str) [(([97] : List UInt8), (p15_k1 x0))] true)]) := M.run_of_path _ [true, true, true, true, true, true, true, true, true, true, true, true, true, true, true, true, true, true, true, true, true] _ _ (by kernel_rfl) (all_t rfl (all_t rfl (all_t rfl (all_t c6 (all_t c6 (all_t c6 (all_t c6 (all_t rfl (all_t c6 (all_t c6 (all_t c6 (all_t c6 (all_t c6 (all_t c16 (all_t c17 (all_t rfl (all_t c19 (all_t c20 (all_t rfl (all_t rfl (all_t rfl all_nil)))))))))))))))))))))
                          have hs0 : (turns (hds 15 3610) 0 3610 (evC byref (evCall F S8 (m + 24)) (m + 24) 0 (hds 15) lbu15_0) (m + 23) p15_e9 [(.cells [(.d (.sl (.int .i64) x0.1)), (.d (.sl (.int .i64) x0.2))]), (.arr (.pair .str .str) [(([97] : List UInt8), (p15_k1 x0))] true)]).run = some (.exit 0, p15_e3, [(.cells [(.d (.sl (.int .i64) x0.1)), (.d (.sl (.int .i64) x0.2))]), (.arr (.pair .str .str) [(([97] : List UInt8), (p15_k1 x0)), (([99] : List UInt8), (p15_k3 x0))] true)]) := Eq.mp (by kernel_rfl) hp1
                          have hp0 := turns_step ht0 hs0
                          exact Eq.trans (Eq.mp (by kernel_rfl) hp0) hq
                        cases hp
                      · skip
                        cases h
                    · skip
                      cases h
                  · skip
                    cases h
                · skip
                  cases h
                  refine ⟨(.d (.sl (.pair .str .str) [(([97] : List UInt8), (p15_k1 x0))])), [], runT_ok (LS := (fun k => if k = 3610 then some (.exit 0, p15_e4, [(.cells [(.d (.sl (.int .i64) x0.1)), (.d (.sl (.int .i64) x0.2))]), (.arr (.pair .str .str) [(([97] : List UInt8), (p15_k1 x0))] true)]) else none)) (fn := fn15) (vis := [(3610, p15_e6, [(.cells [(.d (.sl (.int .i64) x0.1)), (.d (.sl (.int .i64) x0.2))]), (.arr (.pair .str .str) ([] : List ((List UInt8) × (List UInt8))) true)])]) (by kernel_rfl) rfl (by kernel_rfl) (M.run_of_path _ [true, true, true, true] _ _ (by kernel_rfl) (all_t rfl (all_t rfl (all_t rfl (all_t rfl all_nil))))) ?_, by simp, (wkR.one (wkV.one (wk1.eq rfl))), trivial⟩
                  intro p hp p2 hq
                  rcases List.mem_cons.1 hp with rfl | hp
                  · skip
                    have ht3 : (turn (hds 15 3610) 0 3610 (evC byref (evCall F S8 (m + 24)) (m + 24) 0 (hds 15) lbu15_0) p15_e12 [(.cells [(.d (.sl (.int .i64) x0.1)), (.d (.sl (.int .i64) x0.2))]), (.arr (.pair .str .str) [(([97] : List UInt8), (p15_k1 x0))] true)]).run = some (.exit 0, p15_e4, [(.cells [(.d (.sl (.int .i64) x0.1)), (.d (.sl (.int .i64) x0.2))]), (.arr (.pair .str .str) [(([97] : List UInt8), (p15_k1 x0))] true)]) := M.run_of_path _ [false] _ _ (by kernel_rfl) (all_f Bool.false_ne_true all_nil)
                    have hp3 := turns_last (n := m + 20) (by simp) ht3
                    have ht2 : (turn (hds 15 3610) 0 3610 (evC byref (evCall F S8 (m + 24)) (m + 24) 0 (hds 15) lbu15_0) p15_e11 [(.cells [(.d (.sl (.int .i64) x0.1)), (.d (.sl (.int .i64) x0.2))]), (.arr (.pair .str .str) [(([97] : List UInt8), (p15_k1 x0))] true)]).run = some (.normal, p15_e12, [(.cells [(.d (.sl (.int .i64) x0.1)), (.d (.sl (.int .i64) x0.2))]), (.arr (.pair .str .str) [(([97] : List UInt8), (p15_k1 x0))] true)]) := M.run_of_path _ [true, true, true, true, true, true, true, true, true, true, true, true, true, false] _ _ (by kernel_rfl) (all_t rfl (all_t rfl (all_t rfl (all_t c39 (all_t c39 (all_t c39 (all_t c39 (all_t rfl (all_t c39 (all_t c39 (all_t c39 (all_t c39 (all_t c39 (all_f c49 all_nil))))))))))))))
                    have hs2 : (turns (hds 15 3610) 0 3610 (evC byref (evCall F S8 (m + 24)) (m + 24) 0 (hds 15) lbu15_0) (m + 21) p15_e12 [(.cells [(.d (.sl (.int .i64) x0.1)), (.d (.sl (.int .i64) x0.2))]), (.arr (.pair .str .str) [(([97] : List UInt8), (p15_k1 x0))] true)]).run = some (.exit 0, p15_e4, [(.cells [(.d (.sl (.int .i64) x0.1)), (.d (.sl (.int .i64) x0.2))]), (.arr (.pair .str .str) [(([97] : List UInt8), (p15_k1 x0))] true)]) := Eq.mp (by kernel_rfl) hp3
                    have hp2 := turns_step ht2 hs2
                    have ht1 : (turn (hds 15 3610) 0 3610 (evC byref (evCall F S8 (m + 24)) (m + 24) 0 (hds 15) lbu15_0) p15_e9 [(.cells [(.d (.sl (.int .i64) x0.1)), (.d (.sl (.int .i64) x0.2))]), (.arr (.pair .str .str) [(([97] : List UInt8), (p15_k1 x0))] true)]).run = some (.normal, p15_e11, [(.cells [(.d (.sl (.int .i64) x0.1)), (.d (.sl (.int .i64) x0.2))]), (.arr (.pair .str .str) [(([97] : List UInt8), (p15_k1 x0))] true)]) := M.run_of_path _ [true, true, true, false, false, false, false, false, false, false, false, false] _ _ (by kernel_rfl) (all_t rfl (all_t rfl (all_t rfl (all_f c27 (all_f c27 (all_f c27 (all_f c27 (all_f c27 (all_f c27 (all_f c27 (all_f c27 (all_f Bool.false_ne_true all_nil))))))))))))
                    have hs1 : (turns (hds 15 3610) 0 3610 (evC byref (evCall F S8 (m + 24)) (m + 24) 0 (hds 15) lbu15_0) (m + 22) p15_e11 [(.cells [(.d (.sl (.int .i64) x0.1)), (.d (.sl (.int .i64) x0.2))]), (.arr (.pair .str .str) [(([97] : List UInt8), (p15_k1 x0))] true)]).run = some (.exit 0, p15_e4, [(.cells [(.d (.sl (.int .i64) x0.1)), (.d (.sl (.int .i64) x0.2))]), (.arr (.pair .str .str) [(([97] : List UInt8), (p15_k1 x0))] true)]) := Eq.mp (by kernel_rfl) hp2
                    have hp1 := turns_step ht1 hs1
                    have ht0 : (turn (hds 15 3610) 0 3610 (evC byref (evCall F S8 (m + 24)) (m + 24) 0 (hds 15) lbu15_0) p15_e6 [(.cells [(.d (.sl (.int .i64) x0.1)), (.d (.sl (.int .i64) x0.2))]), (.arr (.pair .str .str) ([] : List ((List UInt8) × (List UInt8))) true)]).run = some (.normal, p15_e9, [(.cells [(.d (.sl (.int .i64) x0.1)), (.d (.sl (.int .i64) x0.2))]), (.arr (.pair .str .str) [(([97] : List UInt8), (p15_k1 x0))] true)]) := M.run_of_path _ [true, true, true, true, true, true, true, true, true, true, true, true, true, true, true, true, true, true, true, true, true] _ _ (by kernel_rfl) (all_t rfl (all_t rfl (all_t rfl (all_t c6 (all_t c6 (all_t c6 (all_t c6 (all_t rfl (all_t c6 (all_t c6 (all_t c6 (all_t c6 (all_t c6 (all_t c16 (all_t c17 (all_t rfl (all_t c19 (all_t c20 (all_t rfl (all_t rfl (all_t rfl all_nil)))))))))))))))))))))
                    have hs0 : (turns (hds 15 3610) 0 3610 (evC byref (evCall F S8 (m + 24)) (m + 24) 0 (hds 15) lbu15_0) (m + 23) p15_e9 [(.cells [(.d (.sl (.int .i64) x0.1)), (.d (.sl (.int .i64) x0.2))]), (.arr (.pair .str .str) [(([97] : List UInt8), (p15_k1 x0))] true)]).run = some (.exit 0, p15_e4, [(.cells [(.d (.sl (.int .i64) x0.1)), (.d (.sl (.int .i64) x0.2))]), (.arr (.pair .str .str) [(([97] : List UInt8), (p15_k1 x0))] true)]) := Eq.mp (by kernel_rfl) hp1
                    have hp0 := turns_step ht0 hs0
                    exact Eq.trans (Eq.mp (by kernel_rfl) hp0) hq
                  cases hp
              · skip
                cases h
                refine ⟨(.d (.sl (.pair .str .str) [(([97] : List UInt8), (p15_k1 x0))])), [], runT_ok (LS := (fun k => if k = 3610 then some (.exit 0, p15_e4, [(.cells [(.d (.sl (.int .i64) x0.1)), (.d (.sl (.int .i64) x0.2))]), (.arr (.pair .str .str) [(([97] : List UInt8), (p15_k1 x0))] true)]) else none)) (fn := fn15) (vis := [(3610, p15_e6, [(.cells [(.d (.sl (.int .i64) x0.1)), (.d (.sl (.int .i64) x0.2))]), (.arr (.pair .str .str) ([] : List ((List UInt8) × (List UInt8))) true)])]) (by kernel_rfl) rfl (by kernel_rfl) (M.run_of_path _ [true, true, true, true] _ _ (by kernel_rfl) (all_t rfl (all_t rfl (all_t rfl (all_t rfl all_nil))))) ?_, by simp, (wkR.one (wkV.one (wk1.eq rfl))), trivial⟩
                intro p hp p2 hq
                rcases List.mem_cons.1 hp with rfl | hp
                · skip
                  have ht3 : (turn (hds 15 3610) 0 3610 (evC byref (evCall F S8 (m + 24)) (m + 24) 0 (hds 15) lbu15_0) p15_e12 [(.cells [(.d (.sl (.int .i64) x0.1)), (.d (.sl (.int .i64) x0.2))]), (.arr (.pair .str .str) [(([97] : List UInt8), (p15_k1 x0))] true)]).run = some (.exit 0, p15_e4, [(.cells [(.d (.sl (.int .i64) x0.1)), (.d (.sl (.int .i64) x0.2))]), (.arr (.pair .str .str) [(([97] : List UInt8), (p15_k1 x0))] true)]) := M.run_of_path _ [false] _ _ (by kernel_rfl) (all_f Bool.false_ne_true all_nil)
                  have hp3 := turns_last (n := m + 20) (by simp) ht3
                  have ht2 : (turn (hds 15 3610) 0 3610 (evC byref (evCall F S8 (m + 24)) (m + 24) 0 (hds 15) lbu15_0) p15_e11 [(.cells [(.d (.sl (.int .i64) x0.1)), (.d (.sl (.int .i64) x0.2))]), (.arr (.pair .str .str) [(([97] : List UInt8), (p15_k1 x0))] true)]).run = some (.normal, p15_e12, [(.cells [(.d (.sl (.int .i64) x0.1)), (.d (.sl (.int .i64) x0.2))]), (.arr (.pair .str .str) [(([97] : List UInt8), (p15_k1 x0))] true)]) := M.run_of_path _ [true, true, true, false, false, false, false, false, false, false, false, false] _ _ (by kernel_rfl) (all_t rfl (all_t rfl (all_t rfl (all_f c39 (all_f c39 (all_f c39 (all_f c39 (all_f c39 (all_f c39 (all_f c39 (all_f c39 (all_f Bool.false_ne_true all_nil))))))))))))
                  have hs2 : (turns (hds 15 3610) 0 3610 (evC byref (evCall F S8 (m + 24)) (m + 24) 0 (hds 15) lbu15_0) (m + 21) p15_e12 [(.cells [(.d (.sl (.int .i64) x0.1)), (.d (.sl (.int .i64) x0.2))]), (.arr (.pair .str .str) [(([97] : List UInt8), (p15_k1 x0))] true)]).run = some (.exit 0, p15_e4, [(.cells [(.d (.sl (.int .i64) x0.1)), (.d (.sl (.int .i64) x0.2))]), (.arr (.pair .str .str) [(([97] : List UInt8), (p15_k1 x0))] true)]) := Eq.mp (by kernel_rfl) hp3
                  have hp2 := turns_step ht2 hs2
                  have ht1 : (turn (hds 15 3610) 0 3610 (evC byref (evCall F S8 (m + 24)) (m + 24) 0 (hds 15) lbu15_0) p15_e9 [(.cells [(.d (.sl (.int .i64) x0.1)), (.d (.sl (.int .i64) x0.2))]), (.arr (.pair .str .str) [(([97] : List UInt8), (p15_k1 x0))] true)]).run = some (.normal, p15_e11, [(.cells [(.d (.sl (.int .i64) x0.1)), (.d (.sl (.int .i64) x0.2))]), (.arr (.pair .str .str) [(([97] : List UInt8), (p15_k1 x0))] true)]) := M.run_of_path _ [true, true, true, false, false, false, false, false, false, false, false, false] _ _ (by kernel_rfl) (all_t rfl (all_t rfl (all_t rfl (all_f c27 (all_f c27 (all_f c27 (all_f c27 (all_f c27 (all_f c27 (all_f c27 (all_f c27 (all_f Bool.false_ne_true all_nil))))))))))))
                  have hs1 : (turns (hds 15 3610) 0 3610 (evC byref (evCall F S8 (m + 24)) (m + 24) 0 (hds 15) lbu15_0) (m + 22) p15_e11 [(.cells [(.d (.sl (.int .i64) x0.1)), (.d (.sl (.int .i64) x0.2))]), (.arr (.pair .str .str) [(([97] : List UInt8), (p15_k1 x0))] true)]).run = some (.exit 0, p15_e4, [(.cells [(.d (.sl (.int .i64) x0.1)), (.d (.sl (.int .i64) x0.2))]), (.arr (.pair .str .str) [(([97] : List UInt8), (p15_k1 x0))] true)]) := Eq.mp (by kernel_rfl) hp2
                  have hp1 := turns_step ht1 hs1
                  have ht0 : (turn (hds 15 3610) 0 3610 (evC byref (evCall F S8 (m + 24)) (m + 24) 0 (hds 15) lbu15_0) p15_e6 [(.cells [(.d (.sl (.int .i64) x0.1)), (.d (.sl (.int .i64) x0.2))]), (.arr (.pair .str .str) ([] : List ((List UInt8) × (List UInt8))) true)]).run = some (.normal, p15_e9, [(.cells [(.d (.sl (.int .i64) x0.1)), (.d (.sl (.int .i64) x0.2))]), (.arr (.pair .str .str) [(([97] : List UInt8), (p15_k1 x0))] true)]) := M.run_of_path _ [true, true, true, true, true, true, true, true, true, true, true, true, true, true, true, true, true, true, true, true, true] _ _ (by kernel_rfl) (all_t rfl (all_t rfl (all_t rfl (all_t c6 (all_t c6 (all_t c6 (all_t c6 (all_t rfl (all_t c6 (all_t c6 (all_t c6 (all_t c6 (all_t c6 (all_t c16 (all_t c17 (all_t rfl (all_t c19 (all_t c20 (all_t rfl (all_t rfl (all_t rfl all_nil)))))))))))))))))))))
                  have hs0 : (turns (hds 15 3610) 0 3610 (evC byref (evCall F S8 (m + 24)) (m + 24) 0 (hds 15) lbu15_0) (m + 23) p15_e9 [(.cells [(.d (.sl (.int .i64) x0.1)), (.d (.sl (.int .i64) x0.2))]), (.arr (.pair .str .str) [(([97] : List UInt8), (p15_k1 x0))] true)]).run = some (.exit 0, p15_e4, [(.cells [(.d (.sl (.int .i64) x0.1)), (.d (.sl (.int .i64) x0.2))]), (.arr (.pair .str .str) [(([97] : List UInt8), (p15_k1 x0))] true)]) := Eq.mp (by kernel_rfl) hp1
                  have hp0 := turns_step ht0 hs0
                  exact Eq.trans (Eq.mp (by kernel_rfl) hp0) hq
                cases hp
          · skip
            cases h
        · skip
          cases h
      · skip
        cases h
    · skip
      refine ite_cases h (fun c20 h => ?_) (fun c20 h => ?_)
      · skip
        refine ite_cases h (fun c30 h => ?_) (fun c30 h => ?_)
        · skip
          refine ite_cases h (fun c31 h => ?_) (fun c31 h => ?_)
          · skip
            refine ite_cases h (fun c33 h => ?_) (fun c33 h => ?_)
            · skip
              refine ite_cases h (fun c34 h => ?_) (fun c34 h => ?_)
              · skip
                refine ite_cases h (fun c41 h => ?_) (fun c41 h => ?_)
                · skip
                  refine ite_cases h (fun c51 h => ?_) (fun c51 h => ?_)
                  · skip
                    refine ite_cases h (fun c52 h => ?_) (fun c52 h => ?_)
                    · skip
                      refine ite_cases h (fun c54 h => ?_) (fun c54 h => ?_)
                      · skip
                        refine ite_cases h (fun c55 h => ?_) (fun c55 h => ?_)
                        · skip
                          cases h
                          refine ⟨(.d (.sl (.pair .str .str) [(([98] : List UInt8), (p15_k2 x0)), (([99] : List UInt8), (p15_k3 x0))])), [], runT_ok (LS := (fun k => if k = 3610 then some (.exit 0, p15_e3, [(.cells [(.d (.sl (.int .i64) x0.1)), (.d (.sl (.int .i64) x0.2))]), (.arr (.pair .str .str) [(([98] : List UInt8), (p15_k2 x0)), (([99] : List UInt8), (p15_k3 x0))] true)]) else none)) (fn := fn15) (vis := [(3610, p15_e6, [(.cells [(.d (.sl (.int .i64) x0.1)), (.d (.sl (.int .i64) x0.2))]), (.arr (.pair .str .str) ([] : List ((List UInt8) × (List UInt8))) true)])]) (by kernel_rfl) rfl (by kernel_rfl) (M.run_of_path _ [true, true, true, true] _ _ (by kernel_rfl) (all_t rfl (all_t rfl (all_t rfl (all_t rfl all_nil))))) ?_, by simp, (wkR.one (wkV.one (wk1.eq rfl))), trivial⟩
                          intro p hp p2 hq
                          rcases List.mem_cons.1 hp with rfl | hp
                          · skip
                            have ht3 : (turn (hds 15 3610) 0 3610 (evC byref (evCall F S8 (m + 24)) (m + 24) 0 (hds 15) lbu15_0) p15_e10 [(.cells [(.d (.sl (.int .i64) x0.1)), (.d (.sl (.int .i64) x0.2))]), (.arr (.pair .str .str) [(([98] : List UInt8), (p15_k2 x0)), (([99] : List UInt8), (p15_k3 x0))] true)]).run = some (.exit 0, p15_e3, [(.cells [(.d (.sl (.int .i64) x0.1)), (.d (.sl (.int .i64) x0.2))]), (.arr (.pair .str .str) [(([98] : List UInt8), (p15_k2 x0)), (([99] : List UInt8), (p15_k3 x0))] true)]) := M.run_of_path _ [false] _ _ (by kernel_rfl) (all_f Bool.false_ne_true all_nil)
                            have hp3 := turns_last (n := m + 20) (by simp) ht3
                            have ht2 : (turn (hds 15 3610) 0 3610 (evC byref (evCall F S8 (m + 24)) (m + 24) 0 (hds 15) lbu15_0) p15_e11 [(.cells [(.d (.sl (.int .i64) x0.1)), (.d (.sl (.int .i64) x0.2))]), (.arr (.pair .str .str) [(([98] : List UInt8), (p15_k2 x0))] true)]).run = some (.normal, p15_e10, [(.cells [(.d (.sl (.int .i64) x0.1)), (.d (.sl (.int .i64) x0.2))]), (.arr (.pair .str .str) [(([98] : List UInt8), (p15_k2 x0)), (([99] : List UInt8), (p15_k3 x0))] true)]) := M.run_of_path _ [true, true, true, true, true, true, true, true, true, true, true, true, true, true, true, true, true, true, true, true, true] _ _ (by kernel_rfl) (all_t rfl (all_t rfl (all_t rfl (all_t c41 (all_t c41 (all_t c41 (all_t c41 (all_t rfl (all_t c41 (all_t c41 (all_t c41 (all_t c41 (all_t c41 (all_t c51 (all_t c52 (all_t rfl (all_t c54 (all_t c55 (all_t rfl (all_t rfl (all_t rfl all_nil)))))))))))))))))))))
                            have hs2 : (turns (hds 15 3610) 0 3610 (evC byref (evCall F S8 (m + 24)) (m + 24) 0 (hds 15) lbu15_0) (m + 21) p15_e10 [(.cells [(.d (.sl (.int .i64) x0.1)), (.d (.sl (.int .i64) x0.2))]), (.arr (.pair .str .str) [(([98] : List UInt8), (p15_k2 x0)), (([99] : List UInt8), (p15_k3 x0))] true)]).run = some (.exit 0, p15_e3, [(.cells [(.d (.sl (.int .i64) x0.1)), (.d (.sl (.int .i64) x0.2))]), (.arr (.pair .str .str) [(([98] : List UInt8), (p15_k2 x0)), (([99] : List UInt8), (p15_k3 x0))] true)]) := Eq.mp (by kernel_rfl) hp3
                            have hp2 := turns_step ht2 hs2
                            have ht1 : (turn (hds 15 3610) 0 3610 (evC byref (evCall F S8 (m + 24)) (m + 24) 0 (hds 15) lbu15_0) p15_e13 [(.cells [(.d (.sl (.int .i64) x0.1)), (.d (.sl (.int .i64) x0.2))]), (.arr (.pair .str .str) ([] : List ((List UInt8) × (List UInt8))) true)]).run = some (.normal, p15_e11, [(.cells [(.d (.sl (.int .i64) x0.1)), (.d (.sl (.int .i64) x0.2))]), (.arr (.pair .str .str) [(([98] : List UInt8), (p15_k2 x0))] true)]) := M.run_of_path _ [true, true, true, true, true, true, true, true, true, true, true, true, true, true, true, true, true, true, true, true, true] _ _ (by kernel_rfl) (all_t rfl (all_t rfl (all_t rfl (all_t c20 (all_t c20 (all_t c20 (all_t c20 (all_t rfl (all_t c20 (all_t c20 (all_t c20 (all_t c20 (all_t c20 (all_t c30 (all_t c31 (all_t rfl (all_t c33 (all_t c34 (all_t rfl (all_t rfl (all_t rfl all_nil)))))))))))))))))))))
                            have hs1 : (turns (hds 15 3610) 0 3610 (evC byref (evCall F S8 (m + 24)) (m + 24) 0 (hds 15) lbu15_0) (m + 22) p15_e11 [(.cells [(.d (.sl (.int .i64) x0.1)), (.d (.sl (.int .i64) x0.2))]), (.arr (.pair .str .str) [(([98] : List UInt8), (p15_k2 x0))] true)]).run = some (.exit 0, p15_e3, [(.cells [(.d (.sl (.int .i64) x0.1)), (.d (.sl (.int .i64) x0.2))]), (.arr (.pair .str .str) [(([98] : List UInt8), (p15_k2 x0)), (([99] : List UInt8), (p15_k3 x0))] true)]) := Eq.mp (by kernel_rfl) hp2
                            have hp1 := turns_step ht1 hs1
                            have ht0 : (turn (hds 15 3610) 0 3610 (evC byref (evCall F S8 (m + 24)) (m + 24) 0 (hds 15) lbu15_0) p15_e6 [(.cells [(.d (.sl (.int .i64) x0.1)), (.d (.sl (.int .i64) x0.2))]), (.arr (.pair .str .str) ([] : List ((List UInt8) × (List UInt8))) true)]).run = some (.normal, p15_e13, [(.cells [(.d (.sl (.int .i64) x0.1)), (.d (.sl (.int .i64) x0.2))]), (.arr (.pair .str .str) ([] : List ((List UInt8) × (List UInt8))) true)]) := M.run_of_path _ [true, true, true, true, true, true, true, true, true, true, true, true, true, false] _ _ (by kernel_rfl) (all_t rfl (all_t rfl (all_t rfl (all_t c6 (all_t c6 (all_t c6 (all_t c6 (all_t rfl (all_t c6 (all_t c6 (all_t c6 (all_t c6 (all_t c6 (all_f c16 all_nil))))))))))))))
                            have hs0 : (turns (hds 15 3610) 0 3610 (evC byref (evCall F S8 (m + 24)) (m + 24) 0 (hds 15) lbu15_0) (m + 23) p15_e13 [(.cells [(.d (.sl (.int .i64) x0.1)), (.d (.sl (.int .i64) x0.2))]), (.arr (.pair .str .str) ([] : List ((List UInt8) × (List UInt8))) true)]).run = some (.exit 0, p15_e3, [(.cells [(.d (.sl (.int .i64) x0.1)), (.d (.sl (.int .i64) x0.2))]), (.arr (.pair .str .str) [(([98] : List UInt8), (p15_k2 x0)), (([99] : List UInt8), (p15_k3 x0))] true)]) := Eq.mp (by kernel_rfl) hp1
                            have hp0 := turns_step ht0 hs0
                            exact Eq.trans (Eq.mp (by kernel_rfl) hp0) hq
                          cases hp
                        · skip
                          cases h
                      · skip
                        cases h
                    · skip
                      cases h
                  · skip
                    cases h
                    refine ⟨(.d (.sl (.pair .str .str) [(([98] : List UInt8), (p15_k2 x0))])), [], runT_ok (LS := (fun k => if k = 3610 then some (.exit 0, p15_e4, [(.cells [(.d (.sl (.int .i64) x0.1)), (.d (.sl (.int .i64) x0.2))]), (.arr (.pair .str .str) [(([98] : List UInt8), (p15_k2 x0))] true)]) else none)) (fn := fn15) (vis := [(3610, p15_e6, [(.cells [(.d (.sl (.int .i64) x0.1)), (.d (.sl (.int .i64) x0.2))]), (.arr (.pair .str .str) ([] : List ((List UInt8) × (List UInt8))) true)])]) (by kernel_rfl) rfl (by kernel_rfl) (M.run_of_path _ [true, true, true, true] _ _ (by kernel_rfl) (all_t rfl (all_t rfl (all_t rfl (all_t rfl all_nil))))) ?_, by simp, (wkR.one (wkV.one (wk1.eq rfl))), trivial⟩
                    intro p hp p2 hq
                    rcases List.mem_cons.1 hp with rfl | hp
                    · skip
                      have ht3 : (turn (hds 15 3610) 0 3610 (evC byref (evCall F S8 (m + 24)) (m + 24) 0 (hds 15) lbu15_0) p15_e12 [(.cells [(.d (.sl (.int .i64) x0.1)), (.d (.sl (.int .i64) x0.2))]), (.arr (.pair .str .str) [(([98] : List UInt8), (p15_k2 x0))] true)]).run = some (.exit 0, p15_e4, [(.cells [(.d (.sl (.int .i64) x0.1)), (.d (.sl (.int .i64) x0.2))]), (.arr (.pair .str .str) [(([98] : List UInt8), (p15_k2 x0))] true)]) := M.run_of_path _ [false] _ _ (by kernel_rfl) (all_f Bool.false_ne_true all_nil)
                      have hp3 := turns_last (n := m + 20) (by simp) ht3
                      have ht2 : (turn (hds 15 3610) 0 3610 (evC byref (evCall F S8 (m + 24)) (m + 24) 0 (hds 15) lbu15_0) p15_e11 [(.cells [(.d (.sl (.int .i64) x0.1)), (.d (.sl (.int .i64) x0.2))]), (.arr (.pair .str .str) [(([98] : List UInt8), (p15_k2 x0))] true)]).run = some (.normal, p15_e12, [(.cells [(.d (.sl (.int .i64) x0.1)), (.d (.sl (.int .i64) x0.2))]), (.arr (.pair .str .str) [(([98] : List UInt8), (p15_k2 x0))] true)]) := M.run_of_path _ [true, true, true, true, true, true, true, true, true, true, true, true, true, false] _ _ (by kernel_rfl) (all_t rfl (all_t rfl (all_t rfl (all_t c41 (all_t c41 (all_t c41 (all_t c41 (all_t rfl (all_t c41 (all_t c41 (all_t c41 (all_t c41 (all_t c41 (all_f c51 all_nil))))))))))))))
                      have hs2 : (turns (hds 15 3610) 0 3610 (evC byref (evCall F S8 (m + 24)) (m + 24) 0 (hds 15) lbu15_0) (m + 21) p15_e12 [(.cells [(.d (.sl (.int .i64) x0.1)), (.d (.sl (.int .i64) x0.2))]), (.arr (.pair .str .str) [(([98] : List UInt8), (p15_k2 x0))] true)]).run = some (.exit 0, p15_e4, [(.cells [(.d (.sl (.int .i64) x0.1)), (.d (.sl (.int .i64) x0.2))]), (.arr (.pair .str .str) [(([98] : List UInt8), (p15_k2 x0))] true)]) := Eq.mp (by kernel_rfl) hp3
                      have hp2 := turns_step ht2 hs2
                      have ht1 : (turn (hds 15 3610) 0 3610 (evC byref (evCall F S8 (m + 24)) (m + 24) 0 (hds 15) lbu15_0) p15_e13 [(.cells [(.d (.sl (.int .i64) x0.1)), (.d (.sl (.int .i64) x0.2))]), (.arr (.pair .str .str) ([] : List ((List UInt8) × (List UInt8))) true)]).run = some (.normal, p15_e11, [(.cells [(.d (.sl (.int .i64) x0.1)), (.d (.sl (.int .i64) x0.2))]), (.arr (.pair .str .str) [(([98] : List UInt8), (p15_k2 x0))] true)]) := M.run_of_path _ [true, true, true, true, true, true, true, true, true, true, true, true, true, true, true, true, true, true, true, true, true] _ _ (by kernel_rfl) (all_t rfl (all_t rfl (all_t rfl (all_t c20 (all_t c20 (all_t c20 (all_t c20 (all_t rfl (all_t c20 (all_t c20 (all_t c20 (all_t c20 (all_t c20 (all_t c30 (all_t c31 (all_t rfl (all_t c33 (all_t c34 (all_t rfl (all_t rfl (all_t rfl all_nil)))))))))))))))))))))
                      have hs1 : (turns (hds 15 3610) 0 3610 (evC byref (evCall F S8 (m + 24)) (m + 24) 0 (hds 15) lbu15_0) (m + 22) p15_e11 [(.cells [(.d (.sl (.int .i64) x0.1)), (.d (.sl (.int .i64) x0.2))]), (.arr (.pair .str .str) [(([98] : List UInt8), (p15_k2 x0))] true)]).run = some (.exit 0, p15_e4, [(.cells [(.d (.sl (.int .i64) x0.1)), (.d (.sl (.int .i64) x0.2))]), (.arr (.pair .str .str) [(([98] : List UInt8), (p15_k2 x0))] true)]) := Eq.mp (by kernel_rfl) hp2
                      have hp1 := turns_step ht1 hs1
                      have ht0 : (turn (hds 15 3610) 0 3610 (evC byref (evCall F S8 (m + 24)) (m + 24) 0 (hds 15) lbu15_0) p15_e6 [(.cells [(.d (.sl (.int .i64) x0.1)), (.d (.sl (.int .i64) x0.2))]), (.arr (.pair .str .str) ([] : List ((List UInt8) × (List UInt8))) true)]).run = some (.normal, p15_e13, [(.cells [(.d (.sl (.int .i64) x0.1)), (.d (.sl (.int .i64) x0.2))]), (.arr (.pair .str .str) ([] : List ((List UInt8) × (List UInt8))) true)]) := M.run_of_path _ [true, true, true, true, true, true, true, true, true, true, true, true, true, false] _ _ (by kernel_rfl) (all_t rfl (all_t rfl (all_t rfl (all_t c6 (all_t c6 (all_t c6 (all_t c6 (all_t rfl (all_t c6 (all_t c6 (all_t c6 (all_t c6 (all_t c6 (all_f c16 all_nil))))))))))))))
                      have hs0 : (turns (hds 15 3610) 0 3610 (evC byref (evCall F S8 (m + 24)) (m + 24) 0 (hds 15) lbu15_0) (m + 23) p15_e13 [(.cells [(.d (.sl (.int .i64) x0.1)), (.d (.sl (.int .i64) x0.2))]), (.arr (.pair .str .str) ([] : List ((List UInt8) × (List UInt8))) true)]).run = some (.exit 0, p15_e4, [(.cells [(.d (.sl (.int .i64) x0.1)), (.d (.sl (.int .i64) x0.2))]), (.arr (.pair .str .str) [(([98] : List UInt8), (p15_k2 x0))] true)]) := Eq.mp (by kernel_rfl) hp1
                      have hp0 := turns_step ht0 hs0
                      exact Eq.trans (Eq.mp (by kernel_rfl) hp0) hq
                    cases hp
                · skip
                  cases h
                  refine ⟨(.d (.sl (.pair .str .str) [(([98] : List UInt8), (p15_k2 x0))])), [], runT_ok (LS := (fun k => if k = 3610 then some (.exit 0, p15_e4, [(.cells [(.d (.sl (.int .i64) x0.1)), (.d (.sl (.int .i64) x0.2))]), (.arr (.pair .str .str) [(([98] : List UInt8), (p15_k2 x0))] true)]) else none)) (fn := fn15) (vis := [(3610, p15_e6, [(.cells [(.d (.sl (.int .i64) x0.1)), (.d (.sl (.int .i64) x0.2))]), (.arr (.pair .str .str) ([] : List ((List UInt8) × (List UInt8))) true)])]) (by kernel_rfl) rfl (by kernel_rfl) (M.run_of_path _ [true, true, true, true] _ _ (by kernel_rfl) (all_t rfl (all_t rfl (all_t rfl (all_t rfl all_nil))))) ?_, by simp, (wkR.one (wkV.one (wk1.eq rfl))), trivial⟩
                  intro p hp p2 hq
                  rcases List.mem_cons.1 hp with rfl | hp
                  · skip
                    have ht3 : (turn (hds 15 3610) 0 3610 (evC byref (evCall F S8 (m + 24)) (m + 24) 0 (hds 15) lbu15_0) p15_e12 [(.cells [(.d (.sl (.int .i64) x0.1)), (.d (.sl (.int .i64) x0.2))]), (.arr (.pair .str .str) [(([98] : List UInt8), (p15_k2 x0))] true)]).run = some (.exit 0, p15_e4, [(.cells [(.d (.sl (.int .i64) x0.1)), (.d (.sl (.int .i64) x0.2))]), (.arr (.pair .str .str) [(([98] : List UInt8), (p15_k2 x0))] true)]) := M.run_of_path _ [false] _ _ (by kernel_rfl) (all_f Bool.false_ne_true all_nil)
                    have hp3 := turns_last (n := m + 20) (by simp) ht3
                    have ht2 : (turn (hds 15 3610) 0 3610 (evC byref (evCall F S8 (m + 24)) (m + 24) 0 (hds 15) lbu15_0) p15_e11 [(.cells [(.d (.sl (.int .i64) x0.1)), (.d (.sl (.int .i64) x0.2))]), (.arr (.pair .str .str) [(([98] : List UInt8), (p15_k2 x0))] true)]).run = some (.normal, p15_e12, [(.cells [(.d (.sl (.int .i64) x0.1)), (.d (.sl (.int .i64) x0.2))]), (.arr (.pair .str .str) [(([98] : List UInt8), (p15_k2 x0))] true)]) := M.run_of_path _ [true, true, true, false, false, false, false, false, false, false, false, false] _ _ (by kernel_rfl) (all_t rfl (all_t rfl (all_t rfl (all_f c41 (all_f c41 (all_f c41 (all_f c41 (all_f c41 (all_f c41 (all_f c41 (all_f c41 (all_f Bool.false_ne_true all_nil))))))))))))
                    have hs2 : (turns (hds 15 3610) 0 3610 (evC byref (evCall F S8 (m + 24)) (m + 24) 0 (hds 15) lbu15_0) (m + 21) p15_e12 [(.cells [(.d (.sl (.int .i64) x0.1)), (.d (.sl (.int .i64) x0.2))]), (.arr (.pair .str .str) [(([98] : List UInt8), (p15_k2 x0))] true)]).run = some (.exit 0, p15_e4, [(.cells [(.d (.sl (.int .i64) x0.1)), (.d (.sl (.int .i64) x0.2))]), (.arr (.pair .str .str) [(([98] : List UInt8), (p15_k2 x0))] true)]) := Eq.mp (by kernel_rfl) hp3
                    have hp2 := turns_step ht2 hs2
                    have ht1 : (turn (hds 15 3610) 0 3610 (evC byref (evCall F S8 (m + 24)) (m + 24) 0 (hds 15) lbu15_0) p15_e13 [(.cells [(.d (.sl (.int .i64) x0.1)), (.d (.sl (.int .i64) x0.2))]), (.arr (.pair .str .str) ([] : List ((List UInt8) × (List UInt8))) true)]).run = some (.normal, p15_e11, [(.cells [(.d (.sl (.int .i64) x0.1)), (.d (.sl (.int .i64) x0.2))]), (.arr (.pair .str .str) [(([98] : List UInt8), (p15_k2 x0))] true)]) := M.run_of_path _ [true, true, true, true, true, true, true, true, true, true, true, true, true, true, true, true, true, true, true, true, true] _ _ (by kernel_rfl) (all_t rfl (all_t rfl (all_t rfl (all_t c20 (all_t c20 (all_t c20 (all_t c20 (all_t rfl (all_t c20 (all_t c20 (all_t c20 (all_t c20 (all_t c20 (all_t c30 (all_t c31 (all_t rfl (all_t c33 (all_t c34 (all_t rfl (all_t rfl (all_t rfl all_nil)))))))))))))))))))))
                    have hs1 : (turns (hds 15 3610) 0 3610 (evC byref (evCall F S8 (m + 24)) (m + 24) 0 (hds 15) lbu15_0) (m + 22) p15_e11 [(.cells [(.d (.sl (.int .i64) x0.1)), (.d (.sl (.int .i64) x0.2))]), (.arr (.pair .str .str) [(([98] : List UInt8), (p15_k2 x0))] true)]).run = some (.exit 0, p15_e4, [(.cells [(.d (.sl (.int .i64) x0.1)), (.d (.sl (.int .i64) x0.2))]), (.arr (.pair .str .str) [(([98] : List UInt8), (p15_k2 x0))] true)]) := Eq.mp (by kernel_rfl) hp2
                    have hp1 := turns_step ht1 hs1
                    have ht0 : (turn (hds 15 3610) 0 3610 (evC byref (evCall F S8 (m + 24)) (m + 24) 0 (hds 15) lbu15_0) p15_e6 [(.cells [(.d (.sl (.int .i64) x0.1)), (.d (.sl (.int .i64) x0.2))]), (.arr (.pair .str .str) ([] : List ((List UInt8) × (List UInt8))) true)]).run = some (.normal, p15_e13, [(.cells [(.d (.sl (.int .i64) x0.1)), (.d (.sl (.int .i64) x0.2))]), (.arr (.pair .str .str) ([] : List ((List UInt8) × (List UInt8))) true)]) := M.run_of_path _ [true, true, true, true, true, true, true, true, true, true, true, true, true, false] _ _ (by kernel_rfl) (all_t rfl (all_t rfl (all_t rfl (all_t c6 (all_t c6 (all_t c6 (all_t c6 (all_t rfl (all_t c6 (all_t c6 (all_t c6 (all_t c6 (all_t c6 (all_f c16 all_nil))))))))))))))
                    have hs0 : (turns (hds 15 3610) 0 3610 (evC byref (evCall F S8 (m + 24)) (m + 24) 0 (hds 15) lbu15_0) (m + 23) p15_e13 [(.cells [(.d (.sl (.int .i64) x0.1)), (.d (.sl (.int .i64) x0.2))]), (.arr (.pair .str .str) ([] : List ((List UInt8) × (List UInt8))) true)]).run = some (.exit 0, p15_e4, [(.cells [(.d (.sl (.int .i64) x0.1)), (.d (.sl (.int .i64) x0.2))]), (.arr (.pair .str .str) [(([98] : List UInt8), (p15_k2 x0))] true)]) := Eq.mp (by kernel_rfl) hp1
                    have hp0 := turns_step ht0 hs0
                    exact Eq.trans (Eq.mp (by kernel_rfl) hp0) hq
                  cases hp
              · skip
                cases h
            · skip
              cases h
          · skip
            cases h
        · skip
          refine ite_cases h (fun c34 h => ?_) (fun c34 h => ?_)
          · skip
            refine ite_cases h (fun c44 h => ?_) (fun c44 h => ?_)
            · skip
              refine ite_cases h (fun c45 h => ?_) (fun c45 h => ?_)
              · skip
                refine ite_cases h (fun c47 h => ?_) (fun c47 h => ?_)
                · skip
                  refine ite_cases h (fun c48 h => ?_) (fun c48 h => ?_)
                  · skip
                    cases h
                    refine ⟨(.d (.sl (.pair .str .str) [(([99] : List UInt8), (p15_k3 x0))])), [], runT_ok (LS := (fun k => if k = 3610 then some (.exit 0, p15_e4, [(.cells [(.d (.sl (.int .i64) x0.1)), (.d (.sl (.int .i64) x0.2))]), (.arr (.pair .str .str) [(([99] : List UInt8), (p15_k3 x0))] true)]) else none)) (fn := fn15) (vis := [(3610, p15_e6, [(.cells [(.d (.sl (.int .i64) x0.1)), (.d (.sl (.int .i64) x0.2))]), (.arr (.pair .str .str) ([] : List ((List UInt8) × (List UInt8))) true)])]) (by kernel_rfl) rfl (by kernel_rfl) (M.run_of_path _ [true, true, true, true] _ _ (by kernel_rfl) (all_t rfl (all_t rfl (all_t rfl (all_t rfl all_nil))))) ?_, by simp, (wkR.one (wkV.one (wk1.eq rfl))), trivial⟩
                    intro p hp p2 hq
                    rcases List.mem_cons.1 hp with rfl | hp
                    · skip
                      have ht3 : (turn (hds 15 3610) 0 3610 (evC byref (evCall F S8 (m + 24)) (m + 24) 0 (hds 15) lbu15_0) p15_e12 [(.cells [(.d (.sl (.int .i64) x0.1)), (.d (.sl (.int .i64) x0.2))]), (.arr (.pair .str .str) [(([99] : List UInt8), (p15_k3 x0))] true)]).run = some (.exit 0, p15_e4, [(.cells [(.d (.sl (.int .i64) x0.1)), (.d (.sl (.int .i64) x0.2))]), (.arr (.pair .str .str) [(([99] : List UInt8), (p15_k3 x0))] true)]) := M.run_of_path _ [false] _ _ (by kernel_rfl) (all_f Bool.false_ne_true all_nil)
                      have hp3 := turns_last (n := m + 20) (by simp) ht3
                      have ht2 : (turn (hds 15 3610) 0 3610 (evC byref (evCall F S8 (m + 24)) (m + 24) 0 (hds 15) lbu15_0) p15_e14 [(.cells [(.d (.sl (.int .i64) x0.1)), (.d (.sl (.int .i64) x0.2))]), (.arr (.pair .str .str) ([] : List ((List UInt8) × (List UInt8))) true)]).run = some (.normal, p15_e12, [(.cells [(.d (.sl (.int .i64) x0.1)), (.d (.sl (.int .i64) x0.2))]), (.arr (.pair .str .str) [(([99] : List UInt8), (p15_k3 x0))] true)]) := M.run_of_path _ [true, true, true, true, true, true, true, true, true, true, true, true, true, true, true, true, true, true, true, true, true] _ _ (by kernel_rfl) (all_t rfl (all_t rfl (all_t rfl (all_t c34 (all_t c34 (all_t c34 (all_t c34 (all_t rfl (all_t c34 (all_t c34 (all_t c34 (all_t c34 (all_t c34 (all_t c44 (all_t c45 (all_t rfl (all_t c47 (all_t c48 (all_t rfl (all_t rfl (all_t rfl all_nil)))))))))))))))))))))
                      have hs2 : (turns (hds 15 3610) 0 3610 (evC byref (evCall F S8 (m + 24)) (m + 24) 0 (hds 15) lbu15_0) (m + 21) p15_e12 [(.cells [(.d (.sl (.int .i64) x0.1)), (.d (.sl (.int .i64) x0.2))]), (.arr (.pair .str .str) [(([99] : List UInt8), (p15_k3 x0))] true)]).run = some (.exit 0, p15_e4, [(.cells [(.d (.sl (.int .i64) x0.1)), (.d (.sl (.int .i64) x0.2))]), (.arr (.pair .str .str) [(([99] : List UInt8), (p15_k3 x0))] true)]) := Eq.mp (by kernel_rfl) hp3
                      have hp2 := turns_step ht2 hs2
                      have ht1 : (turn (hds 15 3610) 0 3610 (evC byref (evCall F S8 (m + 24)) (m + 24) 0 (hds 15) lbu15_0) p15_e13 [(.cells [(.d (.sl (.int .i64) x0.1)), (.d (.sl (.int .i64) x0.2))]), (.arr (.pair .str .str) ([] : List ((List UInt8) × (List UInt8))) true)]).run = some (.normal, p15_e14, [(.cells [(.d (.sl (.int .i64) x0.1)), (.d (.sl (.int .i64) x0.2))]), (.arr (.pair .str .str) ([] : List ((List UInt8) × (List UInt8))) true)]) := M.run_of_path _ [true, true, true, true, true, true, true, true, true, true, true, true, true, false] _ _ (by kernel_rfl) (all_t rfl (all_t rfl (all_t rfl (all_t c20 (all_t c20 (all_t c20 (all_t c20 (all_t rfl (all_t c20 (all_t c20 (all_t c20 (all_t c20 (all_t c20 (all_f c30 all_nil))))))))))))))
                      have hs1 : (turns (hds 15 3610) 0 3610 (evC byref (evCall F S8 (m + 24)) (m + 24) 0 (hds 15) lbu15_0) (m + 22) p15_e14 [(.cells [(.d (.sl (.int .i64) x0.1)), (.d (.sl (.int .i64) x0.2))]), (.arr (.pair .str .str) ([] : List ((List UInt8) × (List UInt8))) true)]).run = some (.exit 0, p15_e4, [(.cells [(.d (.sl (.int .i64) x0.1)), (.d (.sl (.int .i64) x0.2))]), (.arr (.pair .str .str) [(([99] : List UInt8), (p15_k3 x0))] true)]) := Eq.mp (by kernel_rfl) hp2
                      have hp1 := turns_step ht1 hs1
                      have ht0 : (turn (hds 15 3610) 0 3610 (evC byref (evCall F S8 (m + 24)) (m + 24) 0 (hds 15) lbu15_0) p15_e6 [(.cells [(.d (.sl (.int .i64) x0.1)), (.d (.sl (.int .i64) x0.2))]), (.arr (.pair .str .str) ([] : List ((List UInt8) × (List UInt8))) true)]).run = some (.normal, p15_e13, [(.cells [(.d (.sl (.int .i64) x0.1)), (.d (.sl (.int .i64) x0.2))]), (.arr (.pair .str .str) ([] : List ((List UInt8) × (List UInt8))) true)]) := M.run_of_path _ [true, true, true, true, true, true, true, true, true, true, true, true, true, false] _ _ (by kernel_rfl) (all_t rfl (all_t rfl (all_t rfl (all_t c6 (all_t c6 (all_t c6 (all_t c6 (all_t rfl (all_t c6 (all_t c6 (all_t c6 (all_t c6 (all_t c6 (all_f c16 all_nil))))))))))))))
                      have hs0 : (turns (hds 15 3610) 0 3610 (evC byref (evCall F S8 (m + 24)) (m + 24) 0 (hds 15) lbu15_0) (m + 23) p15_e13 [(.cells [(.d (.sl (.int .i64) x0.1)), (.d (.sl (.int .i64) x0.2))]), (.arr (.pair .str .str) ([] : List ((List UInt8) × (List UInt8))) true)]).run = some (.exit 0, p15_e4, [(.cells [(.d (.sl (.int .i64) x0.1)), (.d (.sl (.int .i64) x0.2))]), (.arr (.pair .str .str) [(([99] : List UInt8), (p15_k3 x0))] true)]) := Eq.mp (by kernel_rfl) hp1
                      have hp0 := turns_step ht0 hs0
                      exact Eq.trans (Eq.mp (by kernel_rfl) hp0) hq
                    cases hp
                  · skip
                    cases h
                · skip
                  cases h
              · skip
                cases h
            · skip
              cases h
              refine ⟨(.d (.sl (.pair .str .str) ([] : List ((List UInt8) × (List UInt8))))), [], runT_ok (LS := (fun k => if k = 3610 then some (.exit 0, p15_e5, [(.cells [(.d (.sl (.int .i64) x0.1)), (.d (.sl (.int .i64) x0.2))]), (.arr (.pair .str .str) ([] : List ((List UInt8) × (List UInt8))) true)]) else none)) (fn := fn15) (vis := [(3610, p15_e6, [(.cells [(.d (.sl (.int .i64) x0.1)), (.d (.sl (.int .i64) x0.2))]), (.arr (.pair .str .str) ([] : List ((List UInt8) × (List UInt8))) true)])]) (by kernel_rfl) rfl (by kernel_rfl) (M.run_of_path _ [true, true, true, true] _ _ (by kernel_rfl) (all_t rfl (all_t rfl (all_t rfl (all_t rfl all_nil))))) ?_, by simp, (wkR.one (wkV.one (wk1.eq rfl))), trivial⟩
              intro p hp p2 hq
              rcases List.mem_cons.1 hp with rfl | hp
              · skip
                have ht3 : (turn (hds 15 3610) 0 3610 (evC byref (evCall F S8 (m + 24)) (m + 24) 0 (hds 15) lbu15_0) p15_e15 [(.cells [(.d (.sl (.int .i64) x0.1)), (.d (.sl (.int .i64) x0.2))]), (.arr (.pair .str .str) ([] : List ((List UInt8) × (List UInt8))) true)]).run = some (.exit 0, p15_e5, [(.cells [(.d (.sl (.int .i64) x0.1)), (.d (.sl (.int .i64) x0.2))]), (.arr (.pair .str .str) ([] : List ((List UInt8) × (List UInt8))) true)]) := M.run_of_path _ [false] _ _ (by kernel_rfl) (all_f Bool.false_ne_true all_nil)
                have hp3 := turns_last (n := m + 20) (by simp) ht3
                have ht2 : (turn (hds 15 3610) 0 3610 (evC byref (evCall F S8 (m + 24)) (m + 24) 0 (hds 15) lbu15_0) p15_e14 [(.cells [(.d (.sl (.int .i64) x0.1)), (.d (.sl (.int .i64) x0.2))]), (.arr (.pair .str .str) ([] : List ((List UInt8) × (List UInt8))) true)]).run = some (.normal, p15_e15, [(.cells [(.d (.sl (.int .i64) x0.1)), (.d (.sl (.int .i64) x0.2))]), (.arr (.pair .str .str) ([] : List ((List UInt8) × (List UInt8))) true)]) := M.run_of_path _ [true, true, true, true, true, true, true, true, true, true, true, true, true, false] _ _ (by kernel_rfl) (all_t rfl (all_t rfl (all_t rfl (all_t c34 (all_t c34 (all_t c34 (all_t c34 (all_t rfl (all_t c34 (all_t c34 (all_t c34 (all_t c34 (all_t c34 (all_f c44 all_nil))))))))))))))
                have hs2 : (turns (hds 15 3610) 0 3610 (evC byref (evCall F S8 (m + 24)) (m + 24) 0 (hds 15) lbu15_0) (m + 21) p15_e15 [(.cells [(.d (.sl (.int .i64) x0.1)), (.d (.sl (.int .i64) x0.2))]), (.arr (.pair .str .str) ([] : List ((List UInt8) × (List UInt8))) true)]).run = some (.exit 0, p15_e5, [(.cells [(.d (.sl (.int .i64) x0.1)), (.d (.sl (.int .i64) x0.2))]), (.arr (.pair .str .str) ([] : List ((List UInt8) × (List UInt8))) true)]) := Eq.mp (by kernel_rfl) hp3
                have hp2 := turns_step ht2 hs2
                have ht1 : (turn (hds 15 3610) 0 3610 (evC byref (evCall F S8 (m + 24)) (m + 24) 0 (hds 15) lbu15_0) p15_e13 [(.cells [(.d (.sl (.int .i64) x0.1)), (.d (.sl (.int .i64) x0.2))]), (.arr (.pair .str .str) ([] : List ((List UInt8) × (List UInt8))) true)]).run = some (.normal, p15_e14, [(.cells [(.d (.sl (.int .i64) x0.1)), (.d (.sl (.int .i64) x0.2))]), (.arr (.pair .str .str) ([] : List ((List UInt8) × (List UInt8))) true)]) := M.run_of_path _ [true, true, true, true, true, true, true, true, true, true, true, true, true, false] _ _ (by kernel_rfl) (all_t rfl (all_t rfl (all_t rfl (all_t c20 (all_t c20 (all_t c20 (all_t c20 (all_t rfl (all_t c20 (all_t c20 (all_t c20 (all_t c20 (all_t c20 (all_f c30 all_nil))))))))))))))
                have hs1 : (turns (hds 15 3610) 0 3610 (evC byref (evCall F S8 (m + 24)) (m + 24) 0 (hds 15) lbu15_0) (m + 22) p15_e14 [(.cells [(.d (.sl (.int .i64) x0.1)), (.d (.sl (.int .i64) x0.2))]), (.arr (.pair .str .str) ([] : List ((List UInt8) × (List UInt8))) true)]).run = some (.exit 0, p15_e5, [(.cells [(.d (.sl (.int .i64) x0.1)), (.d (.sl (.int .i64) x0.2))]), (.arr (.pair .str .str) ([] : List ((List UInt8) × (List UInt8))) true)]) := Eq.mp (by kernel_rfl) hp2
                have hp1 := turns_step ht1 hs1
                have ht0 : (turn (hds 15 3610) 0 3610 (evC byref (evCall F S8 (m + 24)) (m + 24) 0 (hds 15) lbu15_0) p15_e6 [(.cells [(.d (.sl (.int .i64) x0.1)), (.d (.sl (.int .i64) x0.2))]), (.arr (.pair .str .str) ([] : List ((List UInt8) × (List UInt8))) true)]).run = some (.normal, p15_e13, [(.cells [(.d (.sl (.int .i64) x0.1)), (.d (.sl (.int .i64) x0.2))]), (.arr (.pair .str .str) ([] : List ((List UInt8) × (List UInt8))) true)]) := M.run_of_path _ [true, true, true, true, true, true, true, true, true, true, true, true, true, false] _ _ (by kernel_rfl) (all_t rfl (all_t rfl (all_t rfl (all_t c6 (all_t c6 (all_t c6 (all_t c6 (all_t rfl (all_t c6 (all_t c6 (all_t c6 (all_t c6 (all_t c6 (all_f c16 all_nil))))))))))))))
                have hs0 : (turns (hds 15 3610) 0 3610 (evC byref (evCall F S8 (m + 24)) (m + 24) 0 (hds 15) lbu15_0) (m + 23) p15_e13 [(.cells [(.d (.sl (.int .i64) x0.1)), (.d (.sl (.int .i64) x0.2))]), (.arr (.pair .str .str) ([] : List ((List UInt8) × (List UInt8))) true)]).run = some (.exit 0, p15_e5, [(.cells [(.d (.sl (.int .i64) x0.1)), (.d (.sl (.int .i64) x0.2))]), (.arr (.pair .str .str) ([] : List ((List UInt8) × (List UInt8))) true)]) := Eq.mp (by kernel_rfl) hp1
                have hp0 := turns_step ht0 hs0
                exact Eq.trans (Eq.mp (by kernel_rfl) hp0) hq
              cases hp
          · skip
            cases h
            refine ⟨(.d (.sl (.pair .str .str) ([] : List ((List UInt8) × (List UInt8))))), [], runT_ok (LS := (fun k => if k = 3610 then some (.exit 0, p15_e5, [(.cells [(.d (.sl (.int .i64) x0.1)), (.d (.sl (.int .i64) x0.2))]), (.arr (.pair .str .str) ([] : List ((List UInt8) × (List UInt8))) true)]) else none)) (fn := fn15) (vis := [(3610, p15_e6, [(.cells [(.d (.sl (.int .i64) x0.1)), (.d (.sl (.int .i64) x0.2))]), (.arr (.pair .str .str) ([] : List ((List UInt8) × (List UInt8))) true)])]) (by kernel_rfl) rfl (by kernel_rfl) (M.run_of_path _ [true, true, true, true] _ _ (by kernel_rfl) (all_t rfl (all_t rfl (all_t rfl (all_t rfl all_nil))))) ?_, by simp, (wkR.one (wkV.one (wk1.eq rfl))), trivial⟩
            intro p hp p2 hq
            rcases List.mem_cons.1 hp with rfl | hp
            · skip
              have ht3 : (turn (hds 15 3610) 0 3610 (evC byref (evCall F S8 (m + 24)) (m + 24) 0 (hds 15) lbu15_0) p15_e15 [(.cells [(.d (.sl (.int .i64) x0.1)), (.d (.sl (.int .i64) x0.2))]), (.arr (.pair .str .str) ([] : List ((List UInt8) × (List UInt8))) true)]).run = some (.exit 0, p15_e5, [(.cells [(.d (.sl (.int .i64) x0.1)), (.d (.sl (.int .i64) x0.2))]), (.arr (.pair .str .str) ([] : List ((List UInt8) × (List UInt8))) true)]) := M.run_of_path _ [false] _ _ (by kernel_rfl) (all_f Bool.false_ne_true all_nil)
              have hp3 := turns_last (n := m + 20) (by simp) ht3
              have ht2 : (turn (hds 15 3610) 0 3610 (evC byref (evCall F S8 (m + 24)) (m + 24) 0 (hds 15) lbu15_0) p15_e14 [(.cells [(.d (.sl (.int .i64) x0.1)), (.d (.sl (.int .i64) x0.2))]), (.arr (.pair .str .str) ([] : List ((List UInt8) × (List UInt8))) true)]).run = some (.normal, p15_e15, [(.cells [(.d (.sl (.int .i64) x0.1)), (.d (.sl (.int .i64) x0.2))]), (.arr (.pair .str .str) ([] : List ((List UInt8) × (List UInt8))) true)]) := M.run_of_path _ [true, true, true, false, false, false, false, false, false, false, false, false] _ _ (by kernel_rfl) (all_t rfl (all_t rfl (all_t rfl (all_f c34 (all_f c34 (all_f c34 (all_f c34 (all_f c34 (all_f c34 (all_f c34 (all_f c34 (all_f Bool.false_ne_true all_nil))))))))))))
              have hs2 : (turns (hds 15 3610) 0 3610 (evC byref (evCall F S8 (m + 24)) (m + 24) 0 (hds 15) lbu15_0) (m + 21) p15_e15 [(.cells [(.d (.sl (.int .i64) x0.1)), (.d (.sl (.int .i64) x0.2))]), (.arr (.pair .str .str) ([] : List ((List UInt8) × (List UInt8))) true)]).run = some (.exit 0, p15_e5, [(.cells [(.d (.sl (.int .i64) x0.1)), (.d (.sl (.int .i64) x0.2))]), (.arr (.pair .str .str) ([] : List ((List UInt8) × (List UInt8))) true)]) := Eq.mp (by kernel_rfl) hp3
              have hp2 := turns_step ht2 hs2
              have ht1 : (turn (hds 15 3610) 0 3610 (evC byref (evCall F S8 (m + 24)) (m + 24) 0 (hds 15) lbu15_0) p15_e13 [(.cells [(.d (.sl (.int .i64) x0.1)), (.d (.sl (.int .i64) x0.2))]), (.arr (.pair .str .str) ([] : List ((List UInt8) × (List UInt8))) true)]).run = some (.normal, p15_e14, [(.cells [(.d (.sl (.int .i64) x0.1)), (.d (.sl (.int .i64) x0.2))]), (.arr (.pair .str .str) ([] : List ((List UInt8) × (List UInt8))) true)]) := M.run_of_path _ [true, true, true, true, true, true, true, true, true, true, true, true, true, false] _ _ (by kernel_rfl) (all_t rfl (all_t rfl (all_t rfl (all_t c20 (all_t c20 (all_t c20 (all_t c20 (all_t rfl (all_t c20 (all_t c20 (all_t c20 (all_t c20 (all_t c20 (all_f c30 all_nil))))))))))))))
              have hs1 : (turns (hds 15 3610) 0 3610 (evC byref (evCall F S8 (m + 24)) (m + 24) 0 (hds 15) lbu15_0) (m + 22) p15_e14 [(.cells [(.d (.sl (.int .i64) x0.1)), (.d (.sl (.int .i64) x0.2))]), (.arr (.pair .str .str) ([] : List ((List UInt8) × (List UInt8))) true)]).run = some (.exit 0, p15_e5, [(.cells [(.d (.sl (.int .i64) x0.1)), (.d (.sl (.int .i64) x0.2))]), (.arr (.pair .str .str) ([] : List ((List UInt8) × (List UInt8))) true)]) := Eq.mp (by kernel_rfl) hp2
              have hp1 := turns_step ht1 hs1
              have ht0 : (turn (hds 15 3610) 0 3610 (evC byref (evCall F S8 (m + 24)) (m + 24) 0 (hds 15) lbu15_0) p15_e6 [(.cells [(.d (.sl (.int .i64) x0.1)), (.d (.sl (.int .i64) x0.2))]), (.arr (.pair .str .str) ([] : List ((List UInt8) × (List UInt8))) true)]).run = some (.normal, p15_e13, [(.cells [(.d (.sl (.int .i64) x0.1)), (.d (.sl (.int .i64) x0.2))]), (.arr (.pair .str .str) ([] : List ((List UInt8) × (List UInt8))) true)]) := M.run_of_path _ [true, true, true, true, true, true, true, true, true, true, true, true, true, false] _ _ (by kernel_rfl) (all_t rfl (all_t rfl (all_t rfl (all_t c6 (all_t c6 (all_t c6 (all_t c6 (all_t rfl (all_t c6 (all_t c6 (all_t c6 (all_t c6 (all_t c6 (all_f c16 all_nil))))))))))))))
              have hs0 : (turns (hds 15 3610) 0 3610 (evC byref (evCall F S8 (m + 24)) (m + 24) 0 (hds 15) lbu15_0) (m + 23) p15_e13 [(.cells [(.d (.sl (.int .i64) x0.1)), (.d (.sl (.int .i64) x0.2))]), (.arr (.pair .str .str) ([] : List ((List UInt8) × (List UInt8))) true)]).run = some (.exit 0, p15_e5, [(.cells [(.d (.sl (.int .i64) x0.1)), (.d (.sl (.int .i64) x0.2))]), (.arr (.pair .str .str) ([] : List ((List UInt8) × (List UInt8))) true)]) := Eq.mp (by kernel_rfl) hp1
              have hp0 := turns_step ht0 hs0
              exact Eq.trans (Eq.mp (by kernel_rfl) hp0) hq
            cases hp
      · skip
        refine ite_cases h (fun c32 h => ?_) (fun c32 h => ?_)
        · skip
          refine ite_cases h (fun c42 h => ?_) (fun c42 h => ?_)
          · skip
            refine ite_cases h (fun c43 h => ?_) (fun c43 h => ?_)
            · skip
              refine ite_cases h (fun c45 h => ?_) (fun c45 h => ?_)
              · skip
                refine ite_cases h (fun c46 h => ?_) (fun c46 h => ?_)
                · skip
                  cases h
                  refine ⟨(.d (.sl (.pair .str .str) [(([99] : List UInt8), (p15_k3 x0))])), [], runT_ok (LS := (fun k => if k = 3610 then some (.exit 0, p15_e4, [(.cells [(.d (.sl (.int .i64) x0.1)), (.d (.sl (.int .i64) x0.2))]), (.arr (.pair .str .str) [(([99] : List UInt8), (p15_k3 x0))] true)]) else none)) (fn := fn15) (vis := [(3610, p15_e6, [(.cells [(.d (.sl (.int .i64) x0.1)), (.d (.sl (.int .i64) x0.2))]), (.arr (.pair .str .str) ([] : List ((List UInt8) × (List UInt8))) true)])]) (by kernel_rfl) rfl (by kernel_rfl) (M.run_of_path _ [true, true, true, true] _ _ (by kernel_rfl) (all_t rfl (all_t rfl (all_t rfl (all_t rfl all_nil))))) ?_, by simp, (wkR.one (wkV.one (wk1.eq rfl))), trivial⟩
                  intro p hp p2 hq
                  rcases List.mem_cons.1 hp with rfl | hp
                  · skip
                    have ht3 : (turn (hds 15 3610) 0 3610 (evC byref (evCall F S8 (m + 24)) (m + 24) 0 (hds 15) lbu15_0) p15_e12 [(.cells [(.d (.sl (.int .i64) x0.1)), (.d (.sl (.int .i64) x0.2))]), (.arr (.pair .str .str) [(([99] : List UInt8), (p15_k3 x0))] true)]).run = some (.exit 0, p15_e4, [(.cells [(.d (.sl (.int .i64) x0.1)), (.d (.sl (.int .i64) x0.2))]), (.arr (.pair .str .str) [(([99] : List UInt8), (p15_k3 x0))] true)]) := M.run_of_path _ [false] _ _ (by kernel_rfl) (all_f Bool.false_ne_true all_nil)
                    have hp3 := turns_last (n := m + 20) (by simp) ht3
                    have ht2 : (turn (hds 15 3610) 0 3610 (evC byref (evCall F S8 (m + 24)) (m + 24) 0 (hds 15) lbu15_0) p15_e14 [(.cells [(.d (.sl (.int .i64) x0.1)), (.d (.sl (.int .i64) x0.2))]), (.arr (.pair .str .str) ([] : List ((List UInt8) × (List UInt8))) true)]).run = some (.normal, p15_e12, [(.cells [(.d (.sl (.int .i64) x0.1)), (.d (.sl (.int .i64) x0.2))]), (.arr (.pair .str .str) [(([99] : List UInt8), (p15_k3 x0))] true)]) := M.run_of_path _ [true, true, true, true, true, true, true, true, true, true, true, true, true, true, true, true, true, true, true, true, true] _ _ (by kernel_rfl) (all_t rfl (all_t rfl (all_t rfl (all_t c32 (all_t c32 (all_t c32 (all_t c32 (all_t rfl (all_t c32 (all_t c32 (all_t c32 (all_t c32 (all_t c32 (all_t c42 (all_t c43 (all_t rfl (all_t c45 (all_t c46 (all_t rfl (all_t rfl (all_t rfl all_nil)))))))))))))))))))))
                    have hs2 : (turns (hds 15 3610) 0 3610 (evC byref (evCall F S8 (m + 24)) (m + 24) 0 (hds 15) lbu15_0) (m + 21) p15_e12 [(.cells [(.d (.sl (.int .i64) x0.1)), (.d (.sl (.int .i64) x0.2))]), (.arr (.pair .str .str) [(([99] : List UInt8), (p15_k3 x0))] true)]).run = some (.exit 0, p15_e4, [(.cells [(.d (.sl (.int .i64) x0.1)), (.d (.sl (.int .i64) x0.2))]), (.arr (.pair .str .str) [(([99] : List UInt8), (p15_k3 x0))] true)]) := Eq.mp (by kernel_rfl) hp3
                    have hp2 := turns_step ht2 hs2
                    have ht1 : (turn (hds 15 3610) 0 3610 (evC byref (evCall F S8 (m + 24)) (m + 24) 0 (hds 15) lbu15_0) p15_e13 [(.cells [(.d (.sl (.int .i64) x0.1)), (.d (.sl (.int .i64) x0.2))]), (.arr (.pair .str .str) ([] : List ((List UInt8) × (List UInt8))) true)]).run = some (.normal, p15_e14, [(.cells [(.d (.sl (.int .i64) x0.1)), (.d (.sl (.int .i64) x0.2))]), (.arr (.pair .str .str) ([] : List ((List UInt8) × (List UInt8))) true)]) := M.run_of_path _ [true, true, true, false, false, false, false, false, false, false, false, false] _ _ (by kernel_rfl) (all_t rfl (all_t rfl (all_t rfl (all_f c20 (all_f c20 (all_f c20 (all_f c20 (all_f c20 (all_f c20 (all_f c20 (all_f c20 (all_f Bool.false_ne_true all_nil))))))))))))
                    have hs1 : (turns (hds 15 3610) 0 3610 (evC byref (evCall F S8 (m + 24)) (m + 24) 0 (hds 15) lbu15_0) (m + 22) p15_e14 [(.cells [(.d (.sl (.int .i64) x0.1)), (.d (.sl (.int .i64) x0.2))]), (.arr (.pair .str .str) ([] : List ((List UInt8) × (List UInt8))) true)]).run = some (.exit 0, p15_e4, [(.cells [(.d (.sl (.int .i64) x0.1)), (.d (.sl (.int .i64) x0.2))]), (.arr (.pair .str .str) [(([99] : List UInt8), (p15_k3 x0))] true)]) := Eq.mp (by kernel_rfl) hp2
                    have hp1 := turns_step ht1 hs1
                    have ht0 : (turn (hds 15 3610) 0 3610 (evC byref (evCall F S8 (m + 24)) (m + 24) 0 (hds 15) lbu15_0) p15_e6 [(.cells [(.d (.sl (.int .i64) x0.1)), (.d (.sl (.int .i64) x0.2))]), (.arr (.pair .str .str) ([] : List ((List UInt8) × (List UInt8))) true)]).run = some (.normal, p15_e13, [(.cells [(.d (.sl (.int .i64) x0.1)), (.d (.sl (.int .i64) x0.2))]), (.arr (.pair .str .str) ([] : List ((List UInt8) × (List UInt8))) true)]) := M.run_of_path _ [true, true, true, true, true, true, true, true, true, true, true, true, true, false] _ _ (by kernel_rfl) (all_t rfl (all_t rfl (all_t rfl (all_t c6 (all_t c6 (all_t c6 (all_t c6 (all_t rfl (all_t c6 (all_t c6 (all_t c6 (all_t c6 (all_t c6 (all_f c16 all_nil))))))))))))))
                    have hs0 : (turns (hds 15 3610) 0 3610 (evC byref (evCall F S8 (m + 24)) (m + 24) 0 (hds 15) lbu15_0) (m + 23) p15_e13 [(.cells [(.d (.sl (.int .i64) x0.1)), (.d (.sl (.int .i64) x0.2))]), (.arr (.pair .str .str) ([] : List ((List UInt8) × (List UInt8))) true)]).run = some (.exit 0, p15_e4, [(.cells [(.d (.sl (.int .i64) x0.1)), (.d (.sl (.int .i64) x0.2))]), (.arr (.pair .str .str) [(([99] : List UInt8), (p15_k3 x0))] true)]) := Eq.mp (by kernel_rfl) hp1
                    have hp0 := turns_step ht0 hs0
                    exact Eq.trans (Eq.mp (by kernel_rfl) hp0) hq
                  cases hp
                · skip
                  cases h
              · skip
                cases h
            · skip
              cases h
          · skip
            cases h
            refine ⟨(.d (.sl (.pair .str .str) ([] : List ((List UInt8) × (List UInt8))))), [], runT_ok (LS := (fun k => if k = 3610 then some (.exit 0, p15_e5, [(.cells [(.d (.sl (.int .i64) x0.1)), (.d (.sl (.int .i64) x0.2))]), (.arr (.pair .str .str) ([] : List ((List UInt8) × (List UInt8))) true)]) else none)) (fn := fn15) (vis := [(3610, p15_e6, [(.cells [(.d (.sl (.int .i64) x0.1)), (.d (.sl (.int .i64) x0.2))]), (.arr (.pair .str .str) ([] : List ((List UInt8) × (List UInt8))) true)])]) (by kernel_rfl) rfl (by kernel_rfl) (M.run_of_path _ [true, true, true, true] _ _ (by kernel_rfl) (all_t rfl (all_t rfl (all_t rfl (all_t rfl all_nil))))) ?_, by simp, (wkR.one (wkV.one (wk1.eq rfl))), trivial⟩
            intro p hp p2 hq
            rcases List.mem_cons.1 hp with rfl | hp
            · skip
              have ht3 : (turn (hds 15 3610) 0 3610 (evC byref (evCall F S8 (m + 24)) (m + 24) 0 (hds 15) lbu15_0) p15_e15 [(.cells [(.d (.sl (.int .i64) x0.1)), (.d (.sl (.int .i64) x0.2))]), (.arr (.pair .str .str) ([] : List ((List UInt8) × (List UInt8))) true)]).run = some (.exit 0, p15_e5, [(.cells [(.d (.sl (.int .i64) x0.1)), (.d (.sl (.int .i64) x0.2))]), (.arr (.pair .str .str) ([] : List ((List UInt8) × (List UInt8))) true)]) := M.run_of_path _ [false] _ _ (by kernel_rfl) (all_f Bool.false_ne_true all_nil)
              have hp3 := turns_last (n := m + 20) (by simp) ht3
              have ht2 : (turn (hds 15 3610) 0 3610 (evC byref (evCall F S8 (m + 24)) (m + 24) 0 (hds 15) lbu15_0) p15_e14 [(.cells [(.d (.sl (.int .i64) x0.1)), (.d (.sl (.int .i64) x0.2))]), (.arr (.pair .str .str) ([] : List ((List UInt8) × (List UInt8))) true)]).run = some (.normal, p15_e15, [(.cells [(.d (.sl (.int .i64) x0.1)), (.d (.sl (.int .i64) x0.2))]), (.arr (.pair .str .str) ([] : List ((List UInt8) × (List UInt8))) true)]) := M.run_of_path _ [true, true, true, true, true, true, true, true, true, true, true, true, true, false] _ _ (by kernel_rfl) (all_t rfl (all_t rfl (all_t rfl (all_t c32 (all_t c32 (all_t c32 (all_t c32 (all_t rfl (all_t c32 (all_t c32 (all_t c32 (all_t c32 (all_t c32 (all_f c42 all_nil))))))))))))))
              have hs2 : (turns (hds 15 3610) 0 3610 (evC byref (evCall F S8 (m + 24)) (m + 24) 0 (hds 15) lbu15_0) (m + 21) p15_e15 [(.cells [(.d (.sl (.int .i64) x0.1)), (.d (.sl (.int .i64) x0.2))]), (.arr (.pair .str .str) ([] : List ((List UInt8) × (List UInt8))) true)]).run = some (.exit 0, p15_e5, [(.cells [(.d (.sl (.int .i64) x0.1)), (.d (.sl (.int .i64) x0.2))]), (.arr (.pair .str .str) ([] : List ((List UInt8) × (List UInt8))) true)]) := Eq.mp (by kernel_rfl) hp3
              have hp2 := turns_step ht2 hs2
              have ht1 : (turn (hds 15 3610) 0 3610 (evC byref (evCall F S8 (m + 24)) (m + 24) 0 (hds 15) lbu15_0) p15_e13 [(.cells [(.d (.sl (.int .i64) x0.1)), (.d (.sl (.int .i64) x0.2))]), (.arr (.pair .str .str) ([] : List ((List UInt8) × (List UInt8))) true)]).run = some (.normal, p15_e14, [(.cells [(.d (.sl (.int .i64) x0.1)), (.d (.sl (.int .i64) x0.2))]), (.arr (.pair .str .str) ([] : List ((List UInt8) × (List UInt8))) true)]) := M.run_of_path _ [true, true, true, false, false, false, false, false, false, false, false, false] _ _ (by kernel_rfl) (all_t rfl (all_t rfl (all_t rfl (all_f c20 (all_f c20 (all_f c20 (all_f c20 (all_f c20 (all_f c20 (all_f c20 (all_f c20 (all_f Bool.false_ne_true all_nil))))))))))))
              have hs1 : (turns (hds 15 3610) 0 3610 (evC byref (evCall F S8 (m + 24)) (m + 24) 0 (hds 15) lbu15_0) (m + 22) p15_e14 [(.cells [(.d (.sl (.int .i64) x0.1)), (.d (.sl (.int .i64) x0.2))]), (.arr (.pair .str .str) ([] : List ((List UInt8) × (List UInt8))) true)]).run = some (.exit 0, p15_e5, [(.cells [(.d (.sl (.int .i64) x0.1)), (.d (.sl (.int .i64) x0.2))]), (.arr (.pair .str .str) ([] : List ((List UInt8) × (List UInt8))) true)]) := Eq.mp (by kernel_rfl) hp2
              have hp1 := turns_step ht1 hs1
              have ht0 : (turn (hds 15 3610) 0 3610 (evC byref (evCall F S8 (m + 24)) (m + 24) 0 (hds 15) lbu15_0) p15_e6 [(.cells [(.d (.sl (.int .i64) x0.1)), (.d (.sl (.int .i64) x0.2))]), (.arr (.pair .str .str) ([] : List ((List UInt8) × (List UInt8))) true)]).run = some (.normal, p15_e13, [(.cells [(.d (.sl (.int .i64) x0.1)), (.d (.sl (.int .i64) x0.2))]), (.arr (.pair .str .str) ([] : List ((List UInt8) × (List UInt8))) true)]) := M.run_of_path _ [true, true, true, true, true, true, true, true, true, true, true, true, true, false] _ _ (by kernel_rfl) (all_t rfl (all_t rfl (all_t rfl (all_t c6 (all_t c6 (all_t c6 (all_t c6 (all_t rfl (all_t c6 (all_t c6 (all_t c6 (all_t c6 (all_t c6 (all_f c16 all_nil))))))))))))))
              have hs0 : (turns (hds 15 3610) 0 3610 (evC byref (evCall F S8 (m + 24)) (m + 24) 0 (hds 15) lbu15_0) (m + 23) p15_e13 [(.cells [(.d (.sl (.int .i64) x0.1)), (.d (.sl (.int .i64) x0.2))]), (.arr (.pair .str .str) ([] : List ((List UInt8) × (List UInt8))) true)]).run = some (.exit 0, p15_e5, [(.cells [(.d (.sl (.int .i64) x0.1)), (.d (.sl (.int .i64) x0.2))]), (.arr (.pair .str .str) ([] : List ((List UInt8) × (List UInt8))) true)]) := Eq.mp (by kernel_rfl) hp1
              have hp0 := turns_step ht0 hs0
              exact Eq.trans (Eq.mp (by kernel_rfl) hp0) hq
            cases hp
        · skip
          cases h
          refine ⟨(.d (.sl (.pair .str .str) ([] : List ((List UInt8) × (List UInt8))))), [], runT_ok (LS := (fun k => if k = 3610 then some (.exit 0, p15_e5, [(.cells [(.d (.sl (.int .i64) x0.1)), (.d (.sl (.int .i64) x0.2))]), (.arr (.pair .str .str) ([] : List ((List UInt8) × (List UInt8))) true)]) else none)) (fn := fn15) (vis := [(3610, p15_e6, [(.cells [(.d (.sl (.int .i64) x0.1)), (.d (.sl (.int .i64) x0.2))]), (.arr (.pair .str .str) ([] : List ((List UInt8) × (List UInt8))) true)])]) (by kernel_rfl) rfl (by kernel_rfl) (M.run_of_path _ [true, true, true, true] _ _ (by kernel_rfl) (all_t rfl (all_t rfl (all_t rfl (all_t rfl all_nil))))) ?_, by simp, (wkR.one (wkV.one (wk1.eq rfl))), trivial⟩
          intro p hp p2 hq
          rcases List.mem_cons.1 hp with rfl | hp
          · skip
            have ht3 : (turn (hds 15 3610) 0 3610 (evC byref (evCall F S8 (m + 24)) (m + 24) 0 (hds 15) lbu15_0) p15_e15 [(.cells [(.d (.sl (.int .i64) x0.1)), (.d (.sl (.int .i64) x0.2))]), (.arr (.pair .str .str) ([] : List ((List UInt8) × (List UInt8))) true)]).run = some (.exit 0, p15_e5, [(.cells [(.d (.sl (.int .i64) x0.1)), (.d (.sl (.int .i64) x0.2))]), (.arr (.pair .str .str) ([] : List ((List UInt8) × (List UInt8))) true)]) := M.run_of_path _ [false] _ _ (by kernel_rfl) (all_f Bool.false_ne_true all_nil)
            have hp3 := turns_last (n := m + 20) (by simp) ht3
            have ht2 : (turn (hds 15 3610) 0 3610 (evC byref (evCall F S8 (m + 24)) (m + 24) 0 (hds 15) lbu15_0) p15_e14 [(.cells [(.d (.sl (.int .i64) x0.1)), (.d (.sl (.int .i64) x0.2))]), (.arr (.pair .str .str) ([] : List ((List UInt8) × (List UInt8))) true)]).run = some (.normal, p15_e15, [(.cells [(.d (.sl (.int .i64) x0.1)), (.d (.sl (.int .i64) x0.2))]), (.arr (.pair .str .str) ([] : List ((List UInt8) × (List UInt8))) true)]) := M.run_of_path _ [true, true, true, false, false, false, false, false, false, false, false, false] _ _ (by kernel_rfl) (all_t rfl (all_t rfl (all_t rfl (all_f c32 (all_f c32 (all_f c32 (all_f c32 (all_f c32 (all_f c32 (all_f c32 (all_f c32 (all_f Bool.false_ne_true all_nil))))))))))))
            have hs2 : (turns (hds 15 3610) 0 3610 (evC byref (evCall F S8 (m + 24)) (m + 24) 0 (hds 15) lbu15_0) (m + 21) p15_e15 [(.cells [(.d (.sl (.int .i64) x0.1)), (.d (.sl (.int .i64) x0.2))]), (.arr (.pair .str .str) ([] : List ((List UInt8) × (List UInt8))) true)]).run = some (.exit 0, p15_e5, [(.cells [(.d (.sl (.int .i64) x0.1)), (.d (.sl (.int .i64) x0.2))]), (.arr (.pair .str .str) ([] : List ((List UInt8) × (List UInt8))) true)]) := Eq.mp (by kernel_rfl) hp3
            have hp2 := turns_step ht2 hs2
            have ht1 : (turn (hds 15 3610) 0 3610 (evC byref (evCall F S8 (m + 24)) (m + 24) 0 (hds 15) lbu15_0) p15_e13 [(.cells [(.d (.sl (.int .i64) x0.1)), (.d (.sl (.int .i64) x0.2))]), (.arr (.pair .str .str) ([] : List ((List UInt8) × (List UInt8))) true)]).run = some (.normal, p15_e14, [(.cells [(.d (.sl (.int .i64) x0.1)), (.d (.sl (.int .i64) x0.2))]), (.arr (.pair .str .str) ([] : List ((List UInt8) × (List UInt8))) true)]) := M.run_of_path _ [true, true, true, false, false, false, false, false, false, false, false, false] _ _ (by kernel_rfl) (all_t rfl (all_t rfl (all_t rfl (all_f c20 (all_f c20 (all_f c20 (all_f c20 (all_f c20 (all_f c20 (all_f c20 (all_f c20 (all_f Bool.false_ne_true all_nil))))))))))))
            have hs1 : (turns (hds 15 3610) 0 3610 (evC byref (evCall F S8 (m + 24)) (m + 24) 0 (hds 15) lbu15_0) (m + 22) p15_e14 [(.cells [(.d (.sl (.int .i64) x0.1)), (.d (.sl (.int .i64) x0.2))]), (.arr (.pair .str .str) ([] : List ((List UInt8) × (List UInt8))) true)]).run = some (.exit 0, p15_e5, [(.cells [(.d (.sl (.int .i64) x0.1)), (.d (.sl (.int .i64) x0.2))]), (.arr (.pair .str .str) ([] : List ((List UInt8) × (List UInt8))) true)]) := Eq.mp (by kernel_rfl) hp2
            have hp1 := turns_step ht1 hs1
            have ht0 : (turn (hds 15 3610) 0 3610 (evC byref (evCall F S8 (m + 24)) (m + 24) 0 (hds 15) lbu15_0) p15_e6 [(.cells [(.d (.sl (.int .i64) x0.1)), (.d (.sl (.int .i64) x0.2))]), (.arr (.pair .str .str) ([] : List ((List UInt8) × (List UInt8))) true)]).run = some (.normal, p15_e13, [(.cells [(.d (.sl (.int .i64) x0.1)), (.d (.sl (.int .i64) x0.2))]), (.arr (.pair .str .str) ([] : List ((List UInt8) × (List UInt8))) true)]) := M.run_of_path _ [true, true, true, true, true, true, true, true, true, true, true, true, true, false] _ _ (by kernel_rfl) (all_t rfl (all_t rfl (all_t rfl (all_t c6 (all_t c6 (all_t c6 (all_t c6 (all_t rfl (all_t c6 (all_t c6 (all_t c6 (all_t c6 (all_t c6 (all_f c16 all_nil))))))))))))))
            have hs0 : (turns (hds 15 3610) 0 3610 (evC byref (evCall F S8 (m + 24)) (m + 24) 0 (hds 15) lbu15_0) (m + 23) p15_e13 [(.cells [(.d (.sl (.int .i64) x0.1)), (.d (.sl (.int .i64) x0.2))]), (.arr (.pair .str .str) ([] : List ((List UInt8) × (List UInt8))) true)]).run = some (.exit 0, p15_e5, [(.cells [(.d (.sl (.int .i64) x0.1)), (.d (.sl (.int .i64) x0.2))]), (.arr (.pair .str .str) ([] : List ((List UInt8) × (List UInt8))) true)]) := Eq.mp (by kernel_rfl) hp1
            have hp0 := turns_step ht0 hs0
            exact Eq.trans (Eq.mp (by kernel_rfl) hp0) hq
          cases hp
  · skip
    refine ite_cases h (fun c18 h => ?_) (fun c18 h => ?_)
    · skip
      refine ite_cases h (fun c28 h => ?_) (fun c28 h => ?_)
      · skip
        refine ite_cases h (fun c29 h => ?_) (fun c29 h => ?_)
        · skip
          refine ite_cases h (fun c31 h => ?_) (fun c31 h => ?_)
          · skip
            refine ite_cases h (fun c32 h => ?_) (fun c32 h => ?_)
            · skip
              refine ite_cases h (fun c39 h => ?_) (fun c39 h => ?_)
              · skip
                refine ite_cases h (fun c49 h => ?_) (fun c49 h => ?_)
                · skip
                  refine ite_cases h (fun c50 h => ?_) (fun c50 h => ?_)
                  · skip
                    refine ite_cases h (fun c52 h => ?_) (fun c52 h => ?_)
                    · skip
                      refine ite_cases h (fun c53 h => ?_) (fun c53 h => ?_)
                      · skip
                        cases h
                        refine ⟨(.d (.sl (.pair .str .str) [(([98] : List UInt8), (p15_k2 x0)), (([99] : List UInt8), (p15_k3 x0))])), [], runT_ok (LS := (fun k => if k = 3610 then some (.exit 0, p15_e3, [(.cells [(.d (.sl (.int .i64) x0.1)), (.d (.sl (.int .i64) x0.2))]), (.arr (.pair .str .str) [(([98] : List UInt8), (p15_k2 x0)), (([99] : List UInt8), (p15_k3 x0))] true)]) else none)) (fn := fn15) (vis := [(3610, p15_e6, [(.cells [(.d (.sl (.int .i64) x0.1)), (.d (.sl (.int .i64) x0.2))]), (.arr (.pair .str .str) ([] : List ((List UInt8) × (List UInt8))) true)])]) (by kernel_rfl) rfl (by kernel_rfl) (M.run_of_path _ [true, true, true, true] _ _ (by kernel_rfl) (all_t rfl (all_t rfl (all_t rfl (all_t rfl all_nil))))) ?_, by simp, (wkR.one (wkV.one (wk1.eq rfl))), trivial⟩
                        intro p hp p2 hq
                        rcases List.mem_cons.1 hp with rfl | hp
                        · skip
                          have ht3 : (turn (hds 15 3610) 0 3610 (evC byref (evCall F S8 (m + 24)) (m + 24) 0 (hds 15) lbu15_0) p15_e10 [(.cells [(.d (.sl (.int .i64) x0.1)), (.d (.sl (.int .i64) x0.2))]), (.arr (.pair .str .str) [(([98] : List UInt8), (p15_k2 x0)), (([99] : List UInt8), (p15_k3 x0))] true)]).run = some (.exit 0, p15_e3, [(.cells [(.d (.sl (.int .i64) x0.1)), (.d (.sl (.int .i64) x0.2))]), (.arr (.pair .str .str) [(([98] : List UInt8), (p15_k2 x0)), (([99] : List UInt8), (p15_k3 x0))] true)]) := M.run_of_path _ [false] _ _ (by kernel_rfl) (all_f Bool.false_ne_true all_nil)
                          have hp3 := turns_last (n := m + 20) (by simp) ht3
                          have ht2 : (turn (hds 15 3610) 0 3610 (evC byref (evCall F S8 (m + 24)) (m + 24) 0 (hds 15) lbu15_0) p15_e11 [(.cells [(.d (.sl (.int .i64) x0.1)), (.d (.sl (.int .i64) x0.2))]), (.arr (.pair .str .str) [(([98] : List UInt8), (p15_k2 x0))] true)]).run = some (.normal, p15_e10, [(.cells [(.d (.sl (.int .i64) x0.1)), (.d (.sl (.int .i64) x0.2))]), (.arr (.pair .str .str) [(([98] : List UInt8), (p15_k2 x0)), (([99] : List UInt8), (p15_k3 x0))] true)]) := M.run_of_path _ [true, true, true, true, true, true, true, true, true, true, true, true, true, true, true, true, true, true, true, true, true] _ _ (by kernel_rfl) (all_t rfl (all_t rfl (all_t rfl (all_t c39 (all_t c39 (all_t c39 (all_t c39 (all_t rfl (all_t c39 (all_t c39 (all_t c39 (all_t c39 (all_t c39 (all_t c49 (all_t c50 (all_t rfl (all_t c52 (all_t c53 (all_t rfl (all_t rfl (all_t rfl all_nil)))))))))))))))))))))
                          have hs2 : (turns (hds 15 3610) 0 3610 (evC byref (evCall F S8 (m + 24)) (m + 24) 0 (hds 15) lbu15_0) (m + 21) p15_e10 [(.cells [(.d (.sl (.int .i64) x0.1)), (.d (.sl (.int .i64) x0.2))]), (.arr (.pair .str .str) [(([98] : List UInt8), (p15_k2 x0)), (([99] : List UInt8), (p15_k3 x0))] true)]).run = some (.exit 0, p15_e3, [(.cells [(.d (.sl (.int .i64) x0.1)), (.d (.sl (.int .i64) x0.2))]), (.arr (.pair .str .str) [(([98] : List UInt8), (p15_k2 x0)), (([99] : List UInt8), (p15_k3 x0))] true)]) := Eq.mp (by kernel_rfl) hp3
                          have hp2 := turns_step ht2 hs2
                          have ht1 : (turn (hds 15 3610) 0 3610 (evC byref (evCall F S8 (m + 24)) (m + 24) 0 (hds 15) lbu15_0) p15_e13 [(.cells [(.d (.sl (.int .i64) x0.1)), (.d (.sl (.int .i64) x0.2))]), (.arr (.pair .str .str) ([] : List ((List UInt8) × (List UInt8))) true)]).run = some (.normal, p15_e11, [(.cells [(.d (.sl (.int .i64) x0.1)), (.d (.sl (.int .i64) x0.2))]), (.arr (.pair .str .str) [(([98] : List UInt8), (p15_k2 x0))] true)]) := M.run_of_path _ [true, true, true, true, true, true, true, true, true, true, true, true, true, true, true, true, true, true, true, true, true] _ _ (by kernel_rfl) (all_t rfl (all_t rfl (all_t rfl (all_t c18 (all_t c18 (all_t c18 (all_t c18 (all_t rfl (all_t c18 (all_t c18 (all_t c18 (all_t c18 (all_t c18 (all_t c28 (all_t c29 (all_t rfl (all_t c31 (all_t c32 (all_t rfl (all_t rfl (all_t rfl all_nil)))))))))))))))))))))
                          have hs1 : (turns (hds 15 3610) 0 3610 (evC byref (evCall F S8 (m + 24)) (m + 24) 0 (hds 15) lbu15_0) (m + 22) p15_e11 [(.cells [(.d (.sl (.int .i64) x0.1)), (.d (.sl (.int .i64) x0.2))]), (.arr (.pair .str .str) [(([98] : List UInt8), (p15_k2 x0))] true)]).run = some (.exit 0, p15_e3, [(.cells [(.d (.sl (.int .i64) x0.1)), (.d (.sl (.int .i64) x0.2))]), (.arr (.pair .str .str) [(([98] : List UInt8), (p15_k2 x0)), (([99] : List UInt8), (p15_k3 x0))] true)]) := Eq.mp (by kernel_rfl) hp2
                          have hp1 := turns_step ht1 hs1
                          have ht0 : (turn (hds 15 3610) 0 3610 (evC byref (evCall F S8 (m + 24)) (m + 24) 0 (hds 15) lbu15_0) p15_e6 [(.cells [(.d (.sl (.int .i64) x0.1)), (.d (.sl (.int .i64) x0.2))]), (.arr (.pair .str .str) ([] : List ((List UInt8) × (List UInt8))) true)]).run = some (.normal, p15_e13, [(.cells [(.d (.sl (.int .i64) x0.1)), (.d (.sl (.int .i64) x0.2))]), (.arr (.pair .str .str) ([] : List ((List UInt8) × (List UInt8))) true)]) := M.run_of_path _ [true, true, true, false, false, false, false, false, false, false, false, false] _ _ (by kernel_rfl) (all_t rfl (all_t rfl (all_t rfl (all_f c6 (all_f c6 (all_f c6 (all_f c6 (all_f c6 (all_f c6 (all_f c6 (all_f c6 (all_f Bool.false_ne_true all_nil))))))))))))
                          have hs0 : (turns (hds 15 3610) 0 3610 (evC byref (evCall F S8 (m + 24)) (m + 24) 0 (hds 15) lbu15_0) (m + 23) p15_e13 [(.cells [(.d (.sl (.int .i64) x0.1)), (.d (.sl (.int .i64) x0.2))]), (.arr (.pair .str .str) ([] : List ((List UInt8) × (List UInt8))) true)]).run = some (.exit 0, p15_e3, [(.cells [(.d (.sl (.int .i64) x0.1)), (.d (.sl (.int .i64) x0.2))]), (.arr (.pair .str .str) [(([98] : List UInt8), (p15_k2 x0)), (([99] : List UInt8), (p15_k3 x0))] true)]) := Eq.mp (by kernel_rfl) hp1
                          have hp0 := turns_step ht0 hs0
                          exact Eq.trans (Eq.mp (by kernel_rfl) hp0) hq
                        cases hp
                      · skip
                        cases h
                    · skip
                      cases h
                  · skip
                    cases h
                · skip
                  cases h
                  refine ⟨(.d (.sl (.pair .str .str) [(([98] : List UInt8), (p15_k2 x0))])), [], runT_ok (LS := (fun k => if k = 3610 then some (.exit 0, p15_e4, [(.cells [(.d (.sl (.int .i64) x0.1)), (.d (.sl (.int .i64) x0.2))]), (.arr (.pair .str .str) [(([98] : List UInt8), (p15_k2 x0))] true)]) else none)) (fn := fn15) (vis := [(3610, p15_e6, [(.cells [(.d (.sl (.int .i64) x0.1)), (.d (.sl (.int .i64) x0.2))]), (.arr (.pair .str .str) ([] : List ((List UInt8) × (List UInt8))) true)])]) (by kernel_rfl) rfl (by kernel_rfl) (M.run_of_path _ [true, true, true, true] _ _ (by kernel_rfl) (all_t rfl (all_t rfl (all_t rfl (all_t rfl all_nil))))) ?_, by simp, (wkR.one (wkV.one (wk1.eq rfl))), trivial⟩
                  intro p hp p2 hq
                  rcases List.mem_cons.1 hp with rfl | hp
                  · skip
                    have ht3 : (turn (hds 15 3610) 0 3610 (evC byref (evCall F S8 (m + 24)) (m + 24) 0 (hds 15) lbu15_0) p15_e12 [(.cells [(.d (.sl (.int .i64) x0.1)), (.d (.sl (.int .i64) x0.2))]), (.arr (.pair .str .str) [(([98] : List UInt8), (p15_k2 x0))] true)]).run = some (.exit 0, p15_e4, [(.cells [(.d (.sl (.int .i64) x0.1)), (.d (.sl (.int .i64) x0.2))]), (.arr (.pair .str .str) [(([98] : List UInt8), (p15_k2 x0))] true)]) := M.run_of_path _ [false] _ _ (by kernel_rfl) (all_f Bool.false_ne_true all_nil)
                    have hp3 := turns_last (n := m + 20) (by simp) ht3
                    have ht2 : (turn (hds 15 3610) 0 3610 (evC byref (evCall F S8 (m + 24)) (m + 24) 0 (hds 15) lbu15_0) p15_e11 [(.cells [(.d (.sl (.int .i64) x0.1)), (.d (.sl (.int .i64) x0.2))]), (.arr (.pair .str .str) [(([98] : List UInt8), (p15_k2 x0))] true)]).run = some (.normal, p15_e12, [(.cells [(.d (.sl (.int .i64) x0.1)), (.d (.sl (.int .i64) x0.2))]), (.arr (.pair .str .str) [(([98] : List UInt8), (p15_k2 x0))] true)]) := M.run_of_path _ [true, true, true, true, true, true, true, true, true, true, true, true, true, false] _ _ (by kernel_rfl) (all_t rfl (all_t rfl (all_t rfl (all_t c39 (all_t c39 (all_t c39 (all_t c39 (all_t rfl (all_t c39 (all_t c39 (all_t c39 (all_t c39 (all_t c39 (all_f c49 all_nil))))))))))))))
                    have hs2 : (turns (hds 15 3610) 0 3610 (evC byref (evCall F S8 (m + 24)) (m + 24) 0 (hds 15) lbu15_0) (m + 21) p15_e12 [(.cells [(.d (.sl (.int .i64) x0.1)), (.d (.sl (.int .i64) x0.2))]), (.arr (.pair .str .str) [(([98] : List UInt8), (p15_k2 x0))] true)]).run = some (.exit 0, p15_e4, [(.cells [(.d (.sl (.int .i64) x0.1)), (.d (.sl (.int .i64) x0.2))]), (.arr (.pair .str .str) [(([98] : List UInt8), (p15_k2 x0))] true)]) := Eq.mp (by kernel_rfl) hp3
                    have hp2 := turns_step ht2 hs2
                    have ht1 : (turn (hds 15 3610) 0 3610 (evC byref (evCall F S8 (m + 24)) (m + 24) 0 (hds 15) lbu15_0) p15_e13 [(.cells [(.d (.sl (.int .i64) x0.1)), (.d (.sl (.int .i64) x0.2))]), (.arr (.pair .str .str) ([] : List ((List UInt8) × (List UInt8))) true)]).run = some (.normal, p15_e11, [(.cells [(.d (.sl (.int .i64) x0.1)), (.d (.sl (.int .i64) x0.2))]), (.arr (.pair .str .str) [(([98] : List UInt8), (p15_k2 x0))] true)]) := M.run_of_path _ [true, true, true, true, true, true, true, true, true, true, true, true, true, true, true, true, true, true, true, true, true] _ _ (by kernel_rfl) (all_t rfl (all_t rfl (all_t rfl (all_t c18 (all_t c18 (all_t c18 (all_t c18 (all_t rfl (all_t c18 (all_t c18 (all_t c18 (all_t c18 (all_t c18 (all_t c28 (all_t c29 (all_t rfl (all_t c31 (all_t c32 (all_t rfl (all_t rfl (all_t rfl all_nil)))))))))))))))))))))
                    have hs1 : (turns (hds 15 3610) 0 3610 (evC byref (evCall F S8 (m + 24)) (m + 24) 0 (hds 15) lbu15_0) (m + 22) p15_e11 [(.cells [(.d (.sl (.int .i64) x0.1)), (.d (.sl (.int .i64) x0.2))]), (.arr (.pair .str .str) [(([98] : List UInt8), (p15_k2 x0))] true)]).run = some (.exit 0, p15_e4, [(.cells [(.d (.sl (.int .i64) x0.1)), (.d (.sl (.int .i64) x0.2))]), (.arr (.pair .str .str) [(([98] : List UInt8), (p15_k2 x0))] true)]) := Eq.mp (by kernel_rfl) hp2
                    have hp1 := turns_step ht1 hs1
                    have ht0 : (turn (hds 15 3610) 0 3610 (evC byref (evCall F S8 (m + 24)) (m + 24) 0 (hds 15) lbu15_0) p15_e6 [(.cells [(.d (.sl (.int .i64) x0.1)), (.d (.sl (.int .i64) x0.2))]), (.arr (.pair .str .str) ([] : List ((List UInt8) × (List UInt8))) true)]).run = some (.normal, p15_e13, [(.cells [(.d (.sl (.int .i64) x0.1)), (.d (.sl (.int .i64) x0.2))]), (.arr (.pair .str .str) ([] : List ((List UInt8) × (List UInt8))) true)]) := M.run_of_path _ [true, true, true, false, false, false, false, false, false, false, false, false] _ _ (by kernel_rfl) (all_t rfl (all_t rfl (all_t rfl (all_f c6 (all_f c6 (all_f c6 (all_f c6 (all_f c6 (all_f c6 (all_f c6 (all_f c6 (all_f Bool.false_ne_true all_nil))))))))))))
                    have hs0 : (turns (hds 15 3610) 0 3610 (evC byref (evCall F S8 (m + 24)) (m + 24) 0 (hds 15) lbu15_0) (m + 23) p15_e13 [(.cells [(.d (.sl (.int .i64) x0.1)), (.d (.sl (.int .i64) x0.2))]), (.arr (.pair .str .str) ([] : List ((List UInt8) × (List UInt8))) true)]).run = some (.exit 0, p15_e4, [(.cells [(.d (.sl (.int .i64) x0.1)), (.d (.sl (.int .i64) x0.2))]), (.arr (.pair .str .str) [(([98] : List UInt8), (p15_k2 x0))] true)]) := Eq.mp (by kernel_rfl) hp1
                    have hp0 := turns_step ht0 hs0
                    exact Eq.trans (Eq.mp (by kernel_rfl) hp0) hq
                  cases hp
              · skip
                cases h
                refine ⟨(.d (.sl (.pair .str .str) [(([98] : List UInt8), (p15_k2 x0))])), [], runT_ok (LS := (fun k => if k = 3610 then some (.exit 0, p15_e4, [(.cells [(.d (.sl (.int .i64) x0.1)), (.d (.sl (.int .i64) x0.2))]), (.arr (.pair .str .str) [(([98] : List UInt8), (p15_k2 x0))] true)]) else none)) (fn := fn15) (vis := [(3610, p15_e6, [(.cells [(.d (.sl (.int .i64) x0.1)), (.d (.sl (.int .i64) x0.2))]), (.arr (.pair .str .str) ([] : List ((List UInt8) × (List UInt8))) true)])]) (by kernel_rfl) rfl (by kernel_rfl) (M.run_of_path _ [true, true, true, true] _ _ (by kernel_rfl) (all_t rfl (all_t rfl (all_t rfl (all_t rfl all_nil))))) ?_, by simp, (wkR.one (wkV.one (wk1.eq rfl))), trivial⟩
                intro p hp p2 hq
                rcases List.mem_cons.1 hp with rfl | hp
                · skip
                  have ht3 : (turn (hds 15 3610) 0 3610 (evC byref (evCall F S8 (m + 24)) (m + 24) 0 (hds 15) lbu15_0) p15_e12 [(.cells [(.d (.sl (.int .i64) x0.1)), (.d (.sl (.int .i64) x0.2))]), (.arr (.pair .str .str) [(([98] : List UInt8), (p15_k2 x0))] true)]).run = some (.exit 0, p15_e4, [(.cells [(.d (.sl (.int .i64) x0.1)), (.d (.sl (.int .i64) x0.2))]), (.arr (.pair .str .str) [(([98] : List UInt8), (p15_k2 x0))] true)]) := M.run_of_path _ [false] _ _ (by kernel_rfl) (all_f Bool.false_ne_true all_nil)
                  have hp3 := turns_last (n := m + 20) (by simp) ht3
                  have ht2 : (turn (hds 15 3610) 0 3610 (evC byref (evCall F S8 (m + 24)) (m + 24) 0 (hds 15) lbu15_0) p15_e11 [(.cells [(.d (.sl (.int .i64) x0.1)), (.d (.sl (.int .i64) x0.2))]), (.arr (.pair .str .str) [(([98] : List UInt8), (p15_k2 x0))] true)]).run = some (.normal, p15_e12, [(.cells [(.d (.sl (.int .i64) x0.1)), (.d (.sl (.int .i64) x0.2))]), (.arr (.pair .str .str) [(([98] : List UInt8), (p15_k2 x0))] true)]) := M.run_of_path _ [true, true, true, false, false, false, false, false, false, false, false, false] _ _ (by kernel_rfl) (all_t rfl (all_t rfl (all_t rfl (all_f c39 (all_f c39 (all_f c39 (all_f c39 (all_f c39 (all_f c39 (all_f c39 (all_f c39 (all_f Bool.false_ne_true all_nil))))))))))))
                  have hs2 : (turns (hds 15 3610) 0 3610 (evC byref (evCall F S8 (m + 24)) (m + 24) 0 (hds 15) lbu15_0) (m + 21) p15_e12 [(.cells [(.d (.sl (.int .i64) x0.1)), (.d (.sl (.int .i64) x0.2))]), (.arr (.pair .str .str) [(([98] : List UInt8), (p15_k2 x0))] true)]).run = some (.exit 0, p15_e4, [(.cells [(.d (.sl (.int .i64) x0.1)), (.d (.sl (.int .i64) x0.2))]), (.arr (.pair .str .str) [(([98] : List UInt8), (p15_k2 x0))] true)]) := Eq.mp (by kernel_rfl) hp3
                  have hp2 := turns_step ht2 hs2
                  have ht1 : (turn (hds 15 3610) 0 3610 (evC byref (evCall F S8 (m + 24)) (m + 24) 0 (hds 15) lbu15_0) p15_e13 [(.cells [(.d (.sl (.int .i64) x0.1)), (.d (.sl (.int .i64) x0.2))]), (.arr (.pair .str .str) ([] : List ((List UInt8) × (List UInt8))) true)]).run = some (.normal, p15_e11, [(.cells [(.d (.sl (.int .i64) x0.1)), (.d (.sl (.int .i64) x0.2))]), (.arr (.pair .str .str) [(([98] : List UInt8), (p15_k2 x0))] true)]) := M.run_of_path _ [true, true, true, true, true, true, true, true, true, true, true, true, true, true, true, true, true, true, true, true, true] _ _ (by kernel_rfl) (all_t rfl (all_t rfl (all_t rfl (all_t c18 (all_t c18 (all_t c18 (all_t c18 (all_t rfl (all_t c18 (all_t c18 (all_t c18 (all_t c18 (all_t c18 (all_t c28 (all_t c29 (all_t rfl (all_t c31 (all_t c32 (all_t rfl (all_t rfl (all_t rfl all_nil)))))))))))))))))))))
                  have hs1 : (turns (hds 15 3610) 0 3610 (evC byref (evCall F S8 (m + 24)) (m + 24) 0 (hds 15) lbu15_0) (m + 22) p15_e11 [(.cells [(.d (.sl (.int .i64) x0.1)), (.d (.sl (.int .i64) x0.2))]), (.arr (.pair .str .str) [(([98] : List UInt8), (p15_k2 x0))] true)]).run = some (.exit 0, p15_e4, [(.cells [(.d (.sl (.int .i64) x0.1)), (.d (.sl (.int .i64) x0.2))]), (.arr (.pair .str .str) [(([98] : List UInt8), (p15_k2 x0))] true)]) := Eq.mp (by kernel_rfl) hp2
                  have hp1 := turns_step ht1 hs1
                  have ht0 : (turn (hds 15 3610) 0 3610 (evC byref (evCall F S8 (m + 24)) (m + 24) 0 (hds 15) lbu15_0) p15_e6 [(.cells [(.d (.sl (.int .i64) x0.1)), (.d (.sl (.int .i64) x0.2))]), (.arr (.pair .str .str) ([] : List ((List UInt8) × (List UInt8))) true)]).run = some (.normal, p15_e13, [(.cells [(.d (.sl (.int .i64) x0.1)), (.d (.sl (.int .i64) x0.2))]), (.arr (.pair .str .str) ([] : List ((List UInt8) × (List UInt8))) true)]) := M.run_of_path _ [true, true, true, false, false, false, false, false, false, false, false, false] _ _ (by kernel_rfl) (all_t rfl (all_t rfl (all_t rfl (all_f c6 (all_f c6 (all_f c6 (all_f c6 (all_f c6 (all_f c6 (all_f c6 (all_f c6 (all_f Bool.false_ne_true all_nil))))))))))))
                  have hs0 : (turns (hds 15 3610) 0 3610 (evC byref (evCall F S8 (m + 24)) (m + 24) 0 (hds 15) lbu15_0) (m + 23) p15_e13 [(.cells [(.d (.sl (.int .i64) x0.1)), (.d (.sl (.int .i64) x0.2))]), (.arr (.pair .str .str) ([] : List ((List UInt8) × (List UInt8))) true)]).run = some (.exit 0, p15_e4, [(.cells [(.d (.sl (.int .i64) x0.1)), (.d (.sl (.int .i64) x0.2))]), (.arr (.pair .str .str) [(([98] : List UInt8), (p15_k2 x0))] true)]) := Eq.mp (by kernel_rfl) hp1
                  have hp0 := turns_step ht0 hs0
                  exact Eq.trans (Eq.mp (by kernel_rfl) hp0) hq
                cases hp
            · skip
              cases h
          · skip
            cases h
        · skip
          cases h
      · skip
        refine ite_cases h (fun c32 h => ?_) (fun c32 h => ?_)
        · skip
          refine ite_cases h (fun c42 h => ?_) (fun c42 h => ?_)
          · skip
            refine ite_cases h (fun c43 h => ?_) (fun c43 h => ?_)
            · skip
              refine ite_cases h (fun c45 h => ?_) (fun c45 h => ?_)
              · skip
                refine ite_cases h (fun c46 h => ?_) (fun c46 h => ?_)
                · skip
                  cases h
                  refine ⟨(.d (.sl (.pair .str .str) [(([99] : List UInt8), (p15_k3 x0))])), [], runT_ok (LS := (fun k => if k = 3610 then some (.exit 0, p15_e4, [(.cells [(.d (.sl (.int .i64) x0.1)), (.d (.sl (.int .i64) x0.2))]), (.arr (.pair .str .str) [(([99] : List UInt8), (p15_k3 x0))] true)]) else none)) (fn := fn15) (vis := [(3610, p15_e6, [(.cells [(.d (.sl (.int .i64) x0.1)), (.d (.sl (.int .i64) x0.2))]), (.arr (.pair .str .str) ([] : List ((List UInt8) × (List UInt8))) true)])]) (by kernel_rfl) rfl (by kernel_rfl) (M.run_of_path _ [true, true, true, true] _ _ (by kernel_rfl) (all_t rfl (all_t rfl (all_t rfl (all_t rfl all_nil))))) ?_, by simp, (wkR.one (wkV.one (wk1.eq rfl))), trivial⟩
                  intro p hp p2 hq
                  rcases List.mem_cons.1 hp with rfl | hp
                  · skip
                    have ht3 : (turn (hds 15 3610) 0 3610 (evC byref (evCall F S8 (m + 24)) (m + 24) 0 (hds 15) lbu15_0) p15_e12 [(.cells [(.d (.sl (.int .i64) x0.1)), (.d (.sl (.int .i64) x0.2))]), (.arr (.pair .str .str) [(([99] : List UInt8), (p15_k3 x0))] true)]).run = some (.exit 0, p15_e4, [(.cells [(.d (.sl (.int .i64) x0.1)), (.d (.sl (.int .i64) x0.2))]), (.arr (.pair .str .str) [(([99] : List UInt8), (p15_k3 x0))] true)]) := M.run_of_path _ [false] _ _ (by kernel_rfl) (all_f Bool.false_ne_true all_nil)
                    have hp3 := turns_last (n := m + 20) (by simp) ht3
                    have ht2 : (turn (hds 15 3610) 0 3610 (evC byref (evCall F S8 (m + 24)) (m + 24) 0 (hds 15) lbu15_0) p15_e14 [(.cells [(.d (.sl (.int .i64) x0.1)), (.d (.sl (.int .i64) x0.2))]), (.arr (.pair .str .str) ([] : List ((List UInt8) × (List UInt8))) true)]).run = some (.normal, p15_e12, [(.cells [(.d (.sl (.int .i64) x0.1)), (.d (.sl (.int .i64) x0.2))]), (.arr (.pair .str .str) [(([99] : List UInt8), (p15_k3 x0))] true)]) := M.run_of_path _ [true, true, true, true, true, true, true, true, true, true, true, true, true, true, true, true, true, true, true, true, true] _ _ (by kernel_rfl) (all_t rfl (all_t rfl (all_t rfl (all_t c32 (all_t c32 (all_t c32 (all_t c32 (all_t rfl (all_t c32 (all_t c32 (all_t c32 (all_t c32 (all_t c32 (all_t c42 (all_t c43 (all_t rfl (all_t c45 (all_t c46 (all_t rfl (all_t rfl (all_t rfl all_nil)))))))))))))))))))))
                    have hs2 : (turns (hds 15 3610) 0 3610 (evC byref (evCall F S8 (m + 24)) (m + 24) 0 (hds 15) lbu15_0) (m + 21) p15_e12 [(.cells [(.d (.sl (.int .i64) x0.1)), (.d (.sl (.int .i64) x0.2))]), (.arr (.pair .str .str) [(([99] : List UInt8), (p15_k3 x0))] true)]).run = some (.exit 0, p15_e4, [(.cells [(.d (.sl (.int .i64) x0.1)), (.d (.sl (.int .i64) x0.2))]), (.arr (.pair .str .str) [(([99] : List UInt8), (p15_k3 x0))] true)]) := Eq.mp (by kernel_rfl) hp3
                    have hp2 := turns_step ht2 hs2
                    have ht1 : (turn (hds 15 3610) 0 3610 (evC byref (evCall F S8 (m + 24)) (m + 24) 0 (hds 15) lbu15_0) p15_e13 [(.cells [(.d (.sl (.int .i64) x0.1)), (.d (.sl (.int .i64) x0.2))]), (.arr (.pair .str .str) ([] : List ((List UInt8) × (List UInt8))) true)]).run = some (.normal, p15_e14, [(.cells [(.d (.sl (.int .i64) x0.1)), (.d (.sl (.int .i64) x0.2))]), (.arr (.pair .str .str) ([] : List ((List UInt8) × (List UInt8))) true)]) := M.run_of_path _ [true, true, true, true, true, true, true, true, true, true, true, true, true, false] _ _ (by kernel_rfl) (all_t rfl (all_t rfl (all_t rfl (all_t c18 (all_t c18 (all_t c18 (all_t c18 (all_t rfl (all_t c18 (all_t c18 (all_t c18 (all_t c18 (all_t c18 (all_f c28 all_nil))))))))))))))
                    have hs1 : (turns (hds 15 3610) 0 3610 (evC byref (evCall F S8 (m + 24)) (m + 24) 0 (hds 15) lbu15_0) (m + 22) p15_e14 [(.cells [(.d (.sl (.int .i64) x0.1)), (.d (.sl (.int .i64) x0.2))]), (.arr (.pair .str .str) ([] : List ((List UInt8) × (List UInt8))) true)]).run = some (.exit 0, p15_e4, [(.cells [(.d (.sl (.int .i64) x0.1)), (.d (.sl (.int .i64) x0.2))]), (.arr (.pair .str .str) [(([99] : List UInt8), (p15_k3 x0))] true)]) := Eq.mp (by kernel_rfl) hp2
                    have hp1 := turns_step ht1 hs1
                    have ht0 : (turn (hds 15 3610) 0 3610 (evC byref (evCall F S8 (m + 24)) (m + 24) 0 (hds 15) lbu15_0) p15_e6 [(.cells [(.d (.sl (.int .i64) x0.1)), (.d (.sl (.int .i64) x0.2))]), (.arr (.pair .str .str) ([] : List ((List UInt8) × (List UInt8))) true)]).run = some (.normal, p15_e13, [(.cells [(.d (.sl (.int .i64) x0.1)), (.d (.sl (.int .i64) x0.2))]), (.arr (.pair .str .str) ([] : List ((List UInt8) × (List UInt8))) true)]) := M.run_of_path _ [true, true, true, false, false, false, false, false, false, false, false, false] _ _ (by kernel_rfl) (all_t rfl (all_t rfl (all_t rfl (all_f c6 (all_f c6 (all_f c6 (all_f c6 (all_f c6 (all_f c6 (all_f c6 (all_f c6 (all_f Bool.false_ne_true all_nil))))))))))))
                    have hs0 : (turns (hds 15 3610) 0 3610 (evC byref (evCall F S8 (m + 24)) (m + 24) 0 (hds 15) lbu15_0) (m + 23) p15_e13 [(.cells [(.d (.sl (.int .i64) x0.1)), (.d (.sl (.int .i64) x0.2))]), (.arr (.pair .str .str) ([] : List ((List UInt8) × (List UInt8))) true)]).run = some (.exit 0, p15_e4, [(.cells [(.d (.sl (.int .i64) x0.1)), (.d (.sl (.int .i64) x0.2))]), (.arr (.pair .str .str) [(([99] : List UInt8), (p15_k3 x0))] true)]) := Eq.mp (by kernel_rfl) hp1
                    have hp0 := turns_step ht0 hs0
                    exact Eq.trans (Eq.mp (by kernel_rfl) hp0) hq
                  cases hp
                · skip
                  cases h
              · skip
                cases h
            · skip
              cases h
          · skip
            cases h
            refine ⟨(.d (.sl (.pair .str .str) ([] : List ((List UInt8) × (List UInt8))))), [], runT_ok (LS := (fun k => if k = 3610 then some (.exit 0, p15_e5, [(.cells [(.d (.sl (.int .i64) x0.1)), (.d (.sl (.int .i64) x0.2))]), (.arr (.pair .str .str) ([] : List ((List UInt8) × (List UInt8))) true)]) else none)) (fn := fn15) (vis := [(3610, p15_e6, [(.cells [(.d (.sl (.int .i64) x0.1)), (.d (.sl (.int .i64) x0.2))]), (.arr (.pair .str .str) ([] : List ((List UInt8) × (List UInt8))) true)])]) (by kernel_rfl) rfl (by kernel_rfl) (M.run_of_path _ [true, true, true, true] _ _ (by kernel_rfl) (all_t rfl (all_t rfl (all_t rfl (all_t rfl all_nil))))) ?_, by simp, (wkR.one (wkV.one (wk1.eq rfl))), trivial⟩
            intro p hp p2 hq
            rcases List.mem_cons.1 hp with rfl | hp
            · skip
              have ht3 : (turn (hds 15 3610) 0 3610 (evC byref (evCall F S8 (m + 24)) (m + 24) 0 (hds 15) lbu15_0) p15_e15 [(.cells [(.d (.sl (.int .i64) x0.1)), (.d (.sl (.int .i64) x0.2))]), (.arr (.pair .str .str) ([] : List ((List UInt8) × (List UInt8))) true)]).run = some (.exit 0, p15_e5, [(.cells [(.d (.sl (.int .i64) x0.1)), (.d (.sl (.int .i64) x0.2))]), (.arr (.pair .str .str) ([] : List ((List UInt8) × (List UInt8))) true)]) := M.run_of_path _ [false] _ _ (by kernel_rfl) (all_f Bool.false_ne_true all_nil)
              have hp3 := turns_last (n := m + 20) (by simp) ht3
              have ht2 : (turn (hds 15 3610) 0 3610 (evC byref (evCall F S8 (m + 24)) (m + 24) 0 (hds 15) lbu15_0) p15_e14 [(.cells [(.d (.sl (.int .i64) x0.1)), (.d (.sl (.int .i64) x0.2))]), (.arr (.pair .str .str) ([] : List ((List UInt8) × (List UInt8))) true)]).run = some (.normal, p15_e15, [(.cells [(.d (.sl (.int .i64) x0.1)), (.d (.sl (.int .i64) x0.2))]), (.arr (.pair .str .str) ([] : List ((List UInt8) × (List UInt8))) true)]) := M.run_of_path _ [true, true, true, true, true, true, true, true, true, true, true, true, true, false] _ _ (by kernel_rfl) (all_t rfl (all_t rfl (all_t rfl (all_t c32 (all_t c32 (all_t c32 (all_t c32 (all_t rfl (all_t c32 (all_t c32 (all_t c32 (all_t c32 (all_t c32 (all_f c42 all_nil))))))))))))))
              have hs2 : (turns (hds 15 3610) 0 3610 (evC byref (evCall F S8 (m + 24)) (m + 24) 0 (hds 15) lbu15_0) (m + 21) p15_e15 [(.cells [(.d (.sl (.int .i64) x0.1)), (.d (.sl (.int .i64) x0.2))]), (.arr (.pair .str .str) ([] : List ((List UInt8) × (List UInt8))) true)]).run = some (.exit 0, p15_e5, [(.cells [(.d (.sl (.int .i64) x0.1)), (.d (.sl (.int .i64) x0.2))]), (.arr (.pair .str .str) ([] : List ((List UInt8) × (List UInt8))) true)]) := Eq.mp (by kernel_rfl) hp3
              have hp2 := turns_step ht2 hs2
              have ht1 : (turn (hds 15 3610) 0 3610 (evC byref (evCall F S8 (m + 24)) (m + 24) 0 (hds 15) lbu15_0) p15_e13 [(.cells [(.d (.sl (.int .i64) x0.1)), (.d (.sl (.int .i64) x0.2))]), (.arr (.pair .str .str) ([] : List ((List UInt8) × (List UInt8))) true)]).run = some (.normal, p15_e14, [(.cells [(.d (.sl (.int .i64) x0.1)), (.d (.sl (.int .i64) x0.2))]), (.arr (.pair .str .str) ([] : List ((List UInt8) × (List UInt8))) true)]) := M.run_of_path _ [true, true, true, true, true, true, true, true, true, true, true, true, true, false] _ _ (by kernel_rfl) (all_t rfl (all_t rfl (all_t rfl (all_t c18 (all_t c18 (all_t c18 (all_t c18 (all_t rfl (all_t c18 (all_t c18 (all_t c18 (all_t c18 (all_t c18 (all_f c28 all_nil))))))))))))))
              have hs1 : (turns (hds 15 3610) 0 3610 (evC byref (evCall F S8 (m + 24)) (m + 24) 0 (hds 15) lbu15_0) (m + 22) p15_e14 [(.cells [(.d (.sl (.int .i64) x0.1)), (.d (.sl (.int .i64) x0.2))]), (.arr (.pair .str .str) ([] : List ((List UInt8) × (List UInt8))) true)]).run = some (.exit 0, p15_e5, [(.cells [(.d (.sl (.int .i64) x0.1)), (.d (.sl (.int .i64) x0.2))]), (.arr (.pair .str .str) ([] : List ((List UInt8) × (List UInt8))) true)]) := Eq.mp (by kernel_rfl) hp2
              have hp1 := turns_step ht1 hs1
              have ht0 : (turn (hds 15 3610) 0 3610 (evC byref (evCall F S8 (m + 24)) (m + 24) 0 (hds 15) lbu15_0) p15_e6 [(.cells [(.d (.sl (.int .i64) x0.1)), (.d (.sl (.int .i64) x0.2))]), (.arr (.pair .str .str) ([] : List ((List UInt8) × (List UInt8))) true)]).run = some (.normal, p15_e13, [(.cells [(.d (.sl (.int .i64) x0.1)), (.d (.sl (.int .i64) x0.2))]), (.arr (.pair .str .str) ([] : List ((List UInt8) × (List UInt8))) true)]) := M.run_of_path _ [true, true, true, false, false, false, false, false, false, false, false, false] _ _ (by kernel_rfl) (all_t rfl (all_t rfl (all_t rfl (all_f c6 (all_f c6 (all_f c6 (all_f c6 (all_f c6 (all_f c6 (all_f c6 (all_f c6 (all_f Bool.false_ne_true all_nil))))))))))))
              have hs0 : (turns (hds 15 3610) 0 3610 (evC byref (evCall F S8 (m + 24)) (m + 24) 0 (hds 15) lbu15_0) (m + 23) p15_e13 [(.cells [(.d (.sl (.int .i64) x0.1)), (.d (.sl (.int .i64) x0.2))]), (.arr (.pair .str .str) ([] : List ((List UInt8) × (List UInt8))) true)]).run = some (.exit 0, p15_e5, [(.cells [(.d (.sl (.int .i64) x0.1)), (.d (.sl (.int .i64) x0.2))]), (.arr (.pair .str .str) ([] : List ((List UInt8) × (List UInt8))) true)]) := Eq.mp (by kernel_rfl) hp1
              have hp0 := turns_step ht0 hs0
              exact Eq.trans (Eq.mp (by kernel_rfl) hp0) hq
            cases hp
        · skip
          cases h
          refine ⟨(.d (.sl (.pair .str .str) ([] : List ((List UInt8) × (List UInt8))))), [], runT_ok (LS := (fun k => if k = 3610 then some (.exit 0, p15_e5, [(.cells [(.d (.sl (.int .i64) x0.1)), (.d (.sl (.int .i64) x0.2))]), (.arr (.pair .str .str) ([] : List ((List UInt8) × (List UInt8))) true)]) else none)) (fn := fn15) (vis := [(3610, p15_e6, [(.cells [(.d (.sl (.int .i64) x0.1)), (.d (.sl (.int .i64) x0.2))]), (.arr (.pair .str .str) ([] : List ((List UInt8) × (List UInt8))) true)])]) (by kernel_rfl) rfl (by kernel_rfl) (M.run_of_path _ [true, true, true, true] _ _ (by kernel_rfl) (all_t rfl (all_t rfl (all_t rfl (all_t rfl all_nil))))) ?_, by simp, (wkR.one (wkV.one (wk1.eq rfl))), trivial⟩
          intro p hp p2 hq
          rcases List.mem_cons.1 hp with rfl | hp
          · skip
            have ht3 : (turn (hds 15 3610) 0 3610 (evC byref (evCall F S8 (m + 24)) (m + 24) 0 (hds 15) lbu15_0) p15_e15 [(.cells [(.d (.sl (.int .i64) x0.1)), (.d (.sl (.int .i64) x0.2))]), (.arr (.pair .str .str) ([] : List ((List UInt8) × (List UInt8))) true)]).run = some (.exit 0, p15_e5, [(.cells [(.d (.sl (.int .i64) x0.1)), (.d (.sl (.int .i64) x0.2))]), (.arr (.pair .str .str) ([] : List ((List UInt8) × (List UInt8))) true)]) := M.run_of_path _ [false] _ _ (by kernel_rfl) (all_f Bool.false_ne_true all_nil)
            have hp3 := turns_last (n := m + 20) (by simp) ht3
            have ht2 : (turn (hds 15 3610) 0 3610 (evC byref (evCall F S8 (m + 24)) (m + 24) 0 (hds 15) lbu15_0) p15_e14 [(.cells [(.d (.sl (.int .i64) x0.1)), (.d (.sl (.int .i64) x0.2))]), (.arr (.pair .str .str) ([] : List ((List UInt8) × (List UInt8))) true)]).run = some (.normal, p15_e15, [(.cells [(.d (.sl (.int .i64) x0.1)), (.d (.sl (.int .i64) x0.2))]), (.arr (.pair .str .str) ([] : List ((List UInt8) × (List UInt8))) true)]) := M.run_of_path _ [true, true, true, false, false, false, false, false, false, false, false, false] _ _ (by kernel_rfl) (all_t rfl (all_t rfl (all_t rfl (all_f c32 (all_f c32 (all_f c32 (all_f c32 (all_f c32 (all_f c32 (all_f c32 (all_f c32 (all_f Bool.false_ne_true all_nil))))))))))))
            have hs2 : (turns (hds 15 3610) 0 3610 (evC byref (evCall F S8 (m + 24)) (m + 24) 0 (hds 15) lbu15_0) (m + 21) p15_e15 [(.cells [(.d (.sl (.int .i64) x0.1)), (.d (.sl (.int .i64) x0.2))]), (.arr (.pair .str .str) ([] : List ((List UInt8) × (List UInt8))) true)]).run = some (.exit 0, p15_e5, [(.cells [(.d (.sl (.int .i64) x0.1)), (.d (.sl (.int .i64) x0.2))]), (.arr (.pair .str .str) ([] : List ((List UInt8) × (List UInt8))) true)]) := Eq.mp (by kernel_rfl) hp3
            have hp2 := turns_step ht2 hs2
            have ht1 : (turn (hds 15 3610) 0 3610 (evC byref (evCall F S8 (m + 24)) (m + 24) 0 (hds 15) lbu15_0) p15_e13 [(.cells [(.d (.sl (.int .i64) x0.1)), (.d (.sl (.int .i64) x0.2))]), (.arr (.pair .str .str) ([] : List ((List UInt8) × (List UInt8))) true)]).run = some (.normal, p15_e14, [(.cells [(.d (.sl (.int .i64) x0.1)), (.d (.sl (.int .i64) x0.2))]), (.arr (.pair .str .str) ([] : List ((List UInt8) × (List UInt8))) true)]) := M.run_of_path _ [true, true, true, true, true, true, true, true, true, true, true, true, true, false] _ _ (by kernel_rfl) (all_t rfl (all_t rfl (all_t rfl (all_t c18 (all_t c18 (all_t c18 (all_t c18 (all_t rfl (all_t c18 (all_t c18 (all_t c18 (all_t c18 (all_t c18 (all_f c28 all_nil))))))))))))))
            have hs1 : (turns (hds 15 3610) 0 3610 (evC byref (evCall F S8 (m + 24)) (m + 24) 0 (hds 15) lbu15_0) (m + 22) p15_e14 [(.cells [(.d (.sl (.int .i64) x0.1)), (.d (.sl (.int .i64) x0.2))]), (.arr (.pair .str .str) ([] : List ((List UInt8) × (List UInt8))) true)]).run = some (.exit 0, p15_e5, [(.cells [(.d (.sl (.int .i64) x0.1)), (.d (.sl (.int .i64) x0.2))]), (.arr (.pair .str .str) ([] : List ((List UInt8) × (List UInt8))) true)]) := Eq.mp (by kernel_rfl) hp2
            have hp1 := turns_step ht1 hs1
            have ht0 : (turn (hds 15 3610) 0 3610 (evC byref (evCall F S8 (m + 24)) (m + 24) 0 (hds 15) lbu15_0) p15_e6 [(.cells [(.d (.sl (.int .i64) x0.1)), (.d (.sl (.int .i64) x0.2))]), (.arr (.pair .str .str) ([] : List ((List UInt8) × (List UInt8))) true)]).run = some (.normal, p15_e13, [(.cells [(.d (.sl (.int .i64) x0.1)), (.d (.sl (.int .i64) x0.2))]), (.arr (.pair .str .str) ([] : List ((List UInt8) × (List UInt8))) true)]) := M.run_of_path _ [true, true, true, false, false, false, false, false, false, false, false, false] _ _ (by kernel_rfl) (all_t rfl (all_t rfl (all_t rfl (all_f c6 (all_f c6 (all_f c6 (all_f c6 (all_f c6 (all_f c6 (all_f c6 (all_f c6 (all_f Bool.false_ne_true all_nil))))))))))))
            have hs0 : (turns (hds 15 3610) 0 3610 (evC byref (evCall F S8 (m + 24)) (m + 24) 0 (hds 15) lbu15_0) (m + 23) p15_e13 [(.cells [(.d (.sl (.int .i64) x0.1)), (.d (.sl (.int .i64) x0.2))]), (.arr (.pair .str .str) ([] : List ((List UInt8) × (List UInt8))) true)]).run = some (.exit 0, p15_e5, [(.cells [(.d (.sl (.int .i64) x0.1)), (.d (.sl (.int .i64) x0.2))]), (.arr (.pair .str .str) ([] : List ((List UInt8) × (List UInt8))) true)]) := Eq.mp (by kernel_rfl) hp1
            have hp0 := turns_step ht0 hs0
            exact Eq.trans (Eq.mp (by kernel_rfl) hp0) hq
          cases hp
    · skip
      refine ite_cases h (fun c30 h => ?_) (fun c30 h => ?_)
      · skip
        refine ite_cases h (fun c40 h => ?_) (fun c40 h => ?_)
        · skip
          refine ite_cases h (fun c41 h => ?_) (fun c41 h => ?_)
          · skip
            refine ite_cases h (fun c43 h => ?_) (fun c43 h => ?_)
            · skip
              refine ite_cases h (fun c44 h => ?_) (fun c44 h => ?_)
              · skip
                cases h
                refine ⟨(.d (.sl (.pair .str .str) [(([99] : List UInt8), (p15_k3 x0))])), [], runT_ok (LS := (fun k => if k = 3610 then some (.exit 0, p15_e4, [(.cells [(.d (.sl (.int .i64) x0.1)), (.d (.sl (.int .i64) x0.2))]), (.arr (.pair .str .str) [(([99] : List UInt8), (p15_k3 x0))] true)]) else none)) (fn := fn15) (vis := [(3610, p15_e6, [(.cells [(.d (.sl (.int .i64) x0.1)), (.d (.sl (.int .i64) x0.2))]), (.arr (.pair .str .str) ([] : List ((List UInt8) × (List UInt8))) true)])]) (by kernel_rfl) rfl (by kernel_rfl) (M.run_of_path _ [true, true, true, true] _ _ (by kernel_rfl) (all_t rfl (all_t rfl (all_t rfl (all_t rfl all_nil))))) ?_, by simp, (wkR.one (wkV.one (wk1.eq rfl))), trivial⟩
                intro p hp p2 hq
                rcases List.mem_cons.1 hp with rfl | hp
                · skip
                  have ht3 : (turn (hds 15 3610) 0 3610 (evC byref (evCall F S8 (m + 24)) (m + 24) 0 (hds 15) lbu15_0) p15_e12 [(.cells [(.d (.sl (.int .i64) x0.1)), (.d (.sl (.int .i64) x0.2))]), (.arr (.pair .str .str) [(([99] : List UInt8), (p15_k3 x0))] true)]).run = some (.exit 0, p15_e4, [(.cells [(.d (.sl (.int .i64) x0.1)), (.d (.sl (.int .i64) x0.2))]), (.arr (.pair .str .str) [(([99] : List UInt8), (p15_k3 x0))] true)]) := M.run_of_path _ [false] _ _ (by kernel_rfl) (all_f Bool.false_ne_true all_nil)
                  have hp3 := turns_last (n := m + 20) (by simp) ht3
                  have ht2 : (turn (hds 15 3610) 0 3610 (evC byref (evCall F S8 (m + 24)) (m + 24) 0 (hds 15) lbu15_0) p15_e14 [(.cells [(.d (.sl (.int .i64) x0.1)), (.d (.sl (.int .i64) x0.2))]), (.arr (.pair .str .str) ([] : List ((List UInt8) × (List UInt8))) true)]).run = some (.normal, p15_e12, [(.cells [(.d (.sl (.int .i64) x0.1)), (.d (.sl (.int .i64) x0.2))]), (.arr (.pair .str .str) [(([99] : List UInt8), (p15_k3 x0))] true)]) := M.run_of_path _ [true, true, true, true, true, true, true, true, true, true, true, true, true, true, true, true, true, true, true, true, true] _ _ (by kernel_rfl) (all_t rfl (all_t rfl (all_t rfl (all_t c30 (all_t c30 (all_t c30 (all_t c30 (all_t rfl (all_t c30 (all_t c30 (all_t c30 (all_t c30 (all_t c30 (all_t c40 (all_t c41 (all_t rfl (all_t c43 (all_t c44 (all_t rfl (all_t rfl (all_t rfl all_nil)))))))))))))))))))))
                  have hs2 : (turns (hds 15 3610) 0 3610 (evC byref (evCall F S8 (m + 24)) (m + 24) 0 (hds 15) lbu15_0) (m + 21) p15_e12 [(.cells [(.d (.sl (.int .i64) x0.1)), (.d (.sl (.int .i64) x0.2))]), (.arr (.pair .str .str) [(([99] : List UInt8), (p15_k3 x0))] true)]).run = some (.exit 0, p15_e4, [(.cells [(.d (.sl (.int .i64) x0.1)), (.d (.sl (.int .i64) x0.2))]), (.arr (.pair .str .str) [(([99] : List UInt8), (p15_k3 x0))] true)]) := Eq.mp (by kernel_rfl) hp3
                  have hp2 := turns_step ht2 hs2
                  have ht1 : (turn (hds 15 3610) 0 3610 (evC byref (evCall F S8 (m + 24)) (m + 24) 0 (hds 15) lbu15_0) p15_e13 [(.cells [(.d (.sl (.int .i64) x0.1)), (.d (.sl (.int .i64) x0.2))]), (.arr (.pair .str .str) ([] : List ((List UInt8) × (List UInt8))) true)]).run = some (.normal, p15_e14, [(.cells [(.d (.sl (.int .i64) x0.1)), (.d (.sl (.int .i64) x0.2))]), (.arr (.pair .str .str) ([] : List ((List UInt8) × (List UInt8))) true)]) := M.run_of_path _ [true, true, true, false, false, false, false, false, false, false, false, false] _ _ (by kernel_rfl) (all_t rfl (all_t rfl (all_t rfl (all_f c18 (all_f c18 (all_f c18 (all_f c18 (all_f c18 (all_f c18 (all_f c18 (all_f c18 (all_f Bool.false_ne_true all_nil))))))))))))
                  have hs1 : (turns (hds 15 3610) 0 3610 (evC byref (evCall F S8 (m + 24)) (m + 24) 0 (hds 15) lbu15_0) (m + 22) p15_e14 [(.cells [(.d (.sl (.int .i64) x0.1)), (.d (.sl (.int .i64) x0.2))]), (.arr (.pair .str .str) ([] : List ((List UInt8) × (List UInt8))) true)]).run = some (.exit 0, p15_e4, [(.cells [(.d (.sl (.int .i64) x0.1)), (.d (.sl (.int .i64) x0.2))]), (.arr (.pair .str .str) [(([99] : List UInt8), (p15_k3 x0))] true)]) := Eq.mp (by kernel_rfl) hp2
                  have hp1 := turns_step ht1 hs1
                  have ht0 : (turn (hds 15 3610) 0 3610 (evC byref (evCall F S8 (m + 24)) (m + 24) 0 (hds 15) lbu15_0) p15_e6 [(.cells [(.d (.sl (.int .i64) x0.1)), (.d (.sl (.int .i64) x0.2))]), (.arr (.pair .str .str) ([] : List ((List UInt8) × (List UInt8))) true)]).run = some (.normal, p15_e13, [(.cells [(.d (.sl (.int .i64) x0.1)), (.d (.sl (.int .i64) x0.2))]), (.arr (.pair .str .str) ([] : List ((List UInt8) × (List UInt8))) true)]) := M.run_of_path _ [true, true, true, false, false, false, false, false, false, false, false, false] _ _ (by kernel_rfl) (all_t rfl (all_t rfl (all_t rfl (all_f c6 (all_f c6 (all_f c6 (all_f c6 (all_f c6 (all_f c6 (all_f c6 (all_f c6 (all_f Bool.false_ne_true all_nil))))))))))))
                  have hs0 : (turns (hds 15 3610) 0 3610 (evC byref (evCall F S8 (m + 24)) (m + 24) 0 (hds 15) lbu15_0) (m + 23) p15_e13 [(.cells [(.d (.sl (.int .i64) x0.1)), (.d (.sl (.int .i64) x0.2))]), (.arr (.pair .str .str) ([] : List ((List UInt8) × (List UInt8))) true)]).run = some (.exit 0, p15_e4, [(.cells [(.d (.sl (.int .i64) x0.1)), (.d (.sl (.int .i64) x0.2))]), (.arr (.pair .str .str) [(([99] : List UInt8), (p15_k3 x0))] true)]) := Eq.mp (by kernel_rfl) hp1
                  have hp0 := turns_step ht0 hs0
                  exact Eq.trans (Eq.mp (by kernel_rfl) hp0) hq
                cases hp
              · skip
                cases h
            · skip
              cases h
          · skip
            cases h
        · skip
          cases h
          refine ⟨(.d (.sl (.pair .str .str) ([] : List ((List UInt8) × (List UInt8))))), [], runT_ok (LS := (fun k => if k = 3610 then some (.exit 0, p15_e5, [(.cells [(.d (.sl (.int .i64) x0.1)), (.d (.sl (.int .i64) x0.2))]), (.arr (.pair .str .str) ([] : List ((List UInt8) × (List UInt8))) true)]) else none)) (fn := fn15) (vis := [(3610, p15_e6, [(.cells [(.d (.sl (.int .i64) x0.1)), (.d (.sl (.int .i64) x0.2))]), (.arr (.pair .str .str) ([] : List ((List UInt8) × (List UInt8))) true)])]) (by kernel_rfl) rfl (by kernel_rfl) (M.run_of_path _ [true, true, true, true] _ _ (by kernel_rfl) (all_t rfl (all_t rfl (all_t rfl (all_t rfl all_nil))))) ?_, by simp, (wkR.one (wkV.one (wk1.eq rfl))), trivial⟩
          intro p hp p2 hq
          rcases List.mem_cons.1 hp with rfl | hp
          · skip
            have ht3 : (turn (hds 15 3610) 0 3610 (evC byref (evCall F S8 (m + 24)) (m + 24) 0 (hds 15) lbu15_0) p15_e15 [(.cells [(.d (.sl (.int .i64) x0.1)), (.d (.sl (.int .i64) x0.2))]), (.arr (.pair .str .str) ([] : List ((List UInt8) × (List UInt8))) true)]).run = some (.exit 0, p15_e5, [(.cells [(.d (.sl (.int .i64) x0.1)), (.d (.sl (.int .i64) x0.2))]), (.arr (.pair .str .str) ([] : List ((List UInt8) × (List UInt8))) true)]) := M.run_of_path _ [false] _ _ (by kernel_rfl) (all_f Bool.false_ne_true all_nil)
            have hp3 := turns_last (n := m + 20) (by simp) ht3
            have ht2 : (turn (hds 15 3610) 0 3610 (evC byref (evCall F S8 (m + 24)) (m + 24) 0 (hds 15) lbu15_0) p15_e14 [(.cells [(.d (.sl (.int .i64) x0.1)), (.d (.sl (.int .i64) x0.2))]), (.arr (.pair .str .str) ([] : List ((List UInt8) × (List UInt8))) true)]).run = some (.normal, p15_e15, [(.cells [(.d (.sl (.int .i64) x0.1)), (.d (.sl (.int .i64) x0.2))]), (.arr (.pair .str .str) ([] : List ((List UInt8) × (List UInt8))) true)]) := M.run_of_path _ [true, true, true, true, true, true, true, true, true, true, true, true, true, false] _ _ (by kernel_rfl) (all_t rfl (all_t rfl (all_t rfl (all_t c30 (all_t c30 (all_t c30 (all_t c30 (all_t rfl (all_t c30 (all_t c30 (all_t c30 (all_t c30 (all_t c30 (all_f c40 all_nil))))))))))))))
            have hs2 : (turns (hds 15 3610) 0 3610 (evC byref (evCall F S8 (m + 24)) (m + 24) 0 (hds 15) lbu15_0) (m + 21) p15_e15 [(.cells [(.d (.sl (.int .i64) x0.1)), (.d (.sl (.int .i64) x0.2))]), (.arr (.pair .str .str) ([] : List ((List UInt8) × (List UInt8))) true)]).run = some (.exit 0, p15_e5, [(.cells [(.d (.sl (.int .i64) x0.1)), (.d (.sl (.int .i64) x0.2))]), (.arr (.pair .str .str) ([] : List ((List UInt8) × (List UInt8))) true)]) := Eq.mp (by kernel_rfl) hp3
            have hp2 := turns_step ht2 hs2
            have ht1 : (turn (hds 15 3610) 0 3610 (evC byref (evCall F S8 (m + 24)) (m + 24) 0 (hds 15) lbu15_0) p15_e13 [(.cells [(.d (.sl (.int .i64) x0.1)), (.d (.sl (.int .i64) x0.2))]), (.arr (.pair .str .str) ([] : List ((List UInt8) × (List UInt8))) true)]).run = some (.normal, p15_e14, [(.cells [(.d (.sl (.int .i64) x0.1)), (.d (.sl (.int .i64) x0.2))]), (.arr (.pair .str .str) ([] : List ((List UInt8) × (List UInt8))) true)]) := M.run_of_path _ [true, true, true, false, false, false, false, false, false, false, false, false] _ _ (by kernel_rfl) (all_t rfl (all_t rfl (all_t rfl (all_f c18 (all_f c18 (all_f c18 (all_f c18 (all_f c18 (all_f c18 (all_f c18 (all_f c18 (all_f Bool.false_ne_true all_nil))))))))))))
            have hs1 : (turns (hds 15 3610) 0 3610 (evC byref (evCall F S8 (m + 24)) (m + 24) 0 (hds 15) lbu15_0) (m + 22) p15_e14 [(.cells [(.d (.sl (.int .i64) x0.1)), (.d (.sl (.int .i64) x0.2))]), (.arr (.pair .str .str) ([] : List ((List UInt8) × (List UInt8))) true)]).run = some (.exit 0, p15_e5, [(.cells [(.d (.sl (.int .i64) x0.1)), (.d (.sl (.int .i64) x0.2))]), (.arr (.pair .str .str) ([] : List ((List UInt8) × (List UInt8))) true)]) := Eq.mp (by kernel_rfl) hp2
            have hp1 := turns_step ht1 hs1
            have ht0 : (turn (hds 15 3610) 0 3610 (evC byref (evCall F S8 (m + 24)) (m + 24) 0 (hds 15) lbu15_0) p15_e6 [(.cells [(.d (.sl (.int .i64) x0.1)), (.d (.sl (.int .i64) x0.2))]), (.arr (.pair .str .str) ([] : List ((List UInt8) × (List UInt8))) true)]).run = some (.normal, p15_e13, [(.cells [(.d (.sl (.int .i64) x0.1)), (.d (.sl (.int .i64) x0.2))]), (.arr (.pair .str .str) ([] : List ((List UInt8) × (List UInt8))) true)]) := M.run_of_path _ [true, true, true, false, false, false, false, false, false, false, false, false] _ _ (by kernel_rfl) (all_t rfl (all_t rfl (all_t rfl (all_f c6 (all_f c6 (all_f c6 (all_f c6 (all_f c6 (all_f c6 (all_f c6 (all_f c6 (all_f Bool.false_ne_true all_nil))))))))))))
            have hs0 : (turns (hds 15 3610) 0 3610 (evC byref (evCall F S8 (m + 24)) (m + 24) 0 (hds 15) lbu15_0) (m + 23) p15_e13 [(.cells [(.d (.sl (.int .i64) x0.1)), (.d (.sl (.int .i64) x0.2))]), (.arr (.pair .str .str) ([] : List ((List UInt8) × (List UInt8))) true)]).run = some (.exit 0, p15_e5, [(.cells [(.d (.sl (.int .i64) x0.1)), (.d (.sl (.int .i64) x0.2))]), (.arr (.pair .str .str) ([] : List ((List UInt8) × (List UInt8))) true)]) := Eq.mp (by kernel_rfl) hp1
            have hp0 := turns_step ht0 hs0
            exact Eq.trans (Eq.mp (by kernel_rfl) hp0) hq
          cases hp
      · skip
        cases h
        refine ⟨(.d (.sl (.pair .str .str) ([] : List ((List UInt8) × (List UInt8))))), [], runT_ok (LS := (fun k => if k = 3610 then some (.exit 0, p15_e5, [(.cells [(.d (.sl (.int .i64) x0.1)), (.d (.sl (.int .i64) x0.2))]), (.arr (.pair .str .str) ([] : List ((List UInt8) × (List UInt8))) true)]) else none)) (fn := fn15) (vis := [(3610, p15_e6, [(.cells [(.d (.sl (.int .i64) x0.1)), (.d (.sl (.int .i64) x0.2))]), (.arr (.pair .str .str) ([] : List ((List UInt8) × (List UInt8))) true)])]) (by kernel_rfl) rfl (by kernel_rfl) (M.run_of_path _ [true, true, true, true] _ _ (by kernel_rfl) (all_t rfl (all_t rfl (all_t rfl (all_t rfl all_nil))))) ?_, by simp, (wkR.one (wkV.one (wk1.eq rfl))), trivial⟩
        intro p hp p2 hq
        rcases List.mem_cons.1 hp with rfl | hp
        · skip
          have ht3 : (turn (hds 15 3610) 0 3610 (evC byref (evCall F S8 (m + 24)) (m + 24) 0 (hds 15) lbu15_0) p15_e15 [(.cells [(.d (.sl (.int .i64) x0.1)), (.d (.sl (.int .i64) x0.2))]), (.arr (.pair .str .str) ([] : List ((List UInt8) × (List UInt8))) true)]).run = some (.exit 0, p15_e5, [(.cells [(.d (.sl (.int .i64) x0.1)), (.d (.sl (.int .i64) x0.2))]), (.arr (.pair .str .str) ([] : List ((List UInt8) × (List UInt8))) true)]) := M.run_of_path _ [false] _ _ (by kernel_rfl) (all_f Bool.false_ne_true all_nil)
          have hp3 := turns_last (n := m + 20) (by simp) ht3
          have ht2 : (turn (hds 15 3610) 0 3610 (evC byref (evCall F S8 (m + 24)) (m + 24) 0 (hds 15) lbu15_0) p15_e14 [(.cells [(.d (.sl (.int .i64) x0.1)), (.d (.sl (.int .i64) x0.2))]), (.arr (.pair .str .str) ([] : List ((List UInt8) × (List UInt8))) true)]).run = some (.normal, p15_e15, [(.cells [(.d (.sl (.int .i64) x0.1)), (.d (.sl (.int .i64) x0.2))]), (.arr (.pair .str .str) ([] : List ((List UInt8) × (List UInt8))) true)]) := M.run_of_path _ [true, true, true, false, false, false, false, false, false, false, false, false] _ _ (by kernel_rfl) (all_t rfl (all_t rfl (all_t rfl (all_f c30 (all_f c30 (all_f c30 (all_f c30 (all_f c30 (all_f c30 (all_f c30 (all_f c30 (all_f Bool.false_ne_true all_nil))))))))))))
          have hs2 : (turns (hds 15 3610) 0 3610 (evC byref (evCall F S8 (m + 24)) (m + 24) 0 (hds 15) lbu15_0) (m + 21) p15_e15 [(.cells [(.d (.sl (.int .i64) x0.1)), (.d (.sl (.int .i64) x0.2))]), (.arr (.pair .str .str) ([] : List ((List UInt8) × (List UInt8))) true)]).run = some (.exit 0, p15_e5, [(.cells [(.d (.sl (.int .i64) x0.1)), (.d (.sl (.int .i64) x0.2))]), (.arr (.pair .str .str) ([] : List ((List UInt8) × (List UInt8))) true)]) := Eq.mp (by kernel_rfl) hp3
          have hp2 := turns_step ht2 hs2
          have ht1 : (turn (hds 15 3610) 0 3610 (evC byref (evCall F S8 (m + 24)) (m + 24) 0 (hds 15) lbu15_0) p15_e13 [(.cells [(.d (.sl (.int .i64) x0.1)), (.d (.sl (.int .i64) x0.2))]), (.arr (.pair .str .str) ([] : List ((List UInt8) × (List UInt8))) true)]).run = some (.normal, p15_e14, [(.cells [(.d (.sl (.int .i64) x0.1)), (.d (.sl (.int .i64) x0.2))]), (.arr (.pair .str .str) ([] : List ((List UInt8) × (List UInt8))) true)]) := M.run_of_path _ [true, true, true, false, false, false, false, false, false, false, false, false] _ _ (by kernel_rfl) (all_t rfl (all_t rfl (all_t rfl (all_f c18 (all_f c18 (all_f c18 (all_f c18 (all_f c18 (all_f c18 (all_f c18 (all_f c18 (all_f Bool.false_ne_true all_nil))))))))))))
          have hs1 : (turns (hds 15 3610) 0 3610 (evC byref (evCall F S8 (m + 24)) (m + 24) 0 (hds 15) lbu15_0) (m + 22) p15_e14 [(.cells [(.d (.sl (.int .i64) x0.1)), (.d (.sl (.int .i64) x0.2))]), (.arr (.pair .str .str) ([] : List ((List UInt8) × (List UInt8))) true)]).run = some (.exit 0, p15_e5, [(.cells [(.d (.sl (.int .i64) x0.1)), (.d (.sl (.int .i64) x0.2))]), (.arr (.pair .str .str) ([] : List ((List UInt8) × (List UInt8))) true)]) := Eq.mp (by kernel_rfl) hp2
          have hp1 := turns_step ht1 hs1
          have ht0 : (turn (hds 15 3610) 0 3610 (evC byref (evCall F S8 (m + 24)) (m + 24) 0 (hds 15) lbu15_0) p15_e6 [(.cells [(.d (.sl (.int .i64) x0.1)), (.d (.sl (.int .i64) x0.2))]), (.arr (.pair .str .str) ([] : List ((List UInt8) × (List UInt8))) true)]).run = some (.normal, p15_e13, [(.cells [(.d (.sl (.int .i64) x0.1)), (.d (.sl (.int .i64) x0.2))]), (.arr (.pair .str .str) ([] : List ((List UInt8) × (List UInt8))) true)]) := M.run_of_path _ [true, true, true, false, false, false, false, false, false, false, false, false] _ _ (by kernel_rfl) (all_t rfl (all_t rfl (all_t rfl (all_f c6 (all_f c6 (all_f c6 (all_f c6 (all_f c6 (all_f c6 (all_f c6 (all_f c6 (all_f Bool.false_ne_true all_nil))))))))))))
          have hs0 : (turns (hds 15 3610) 0 3610 (evC byref (evCall F S8 (m + 24)) (m + 24) 0 (hds 15) lbu15_0) (m + 23) p15_e13 [(.cells [(.d (.sl (.int .i64) x0.1)), (.d (.sl (.int .i64) x0.2))]), (.arr (.pair .str .str) ([] : List ((List UInt8) × (List UInt8))) true)]).run = some (.exit 0, p15_e5, [(.cells [(.d (.sl (.int .i64) x0.1)), (.d (.sl (.int .i64) x0.2))]), (.arr (.pair .str .str) ([] : List ((List UInt8) × (List UInt8))) true)]) := Eq.mp (by kernel_rfl) hp1
          have hp0 := turns_step ht0 hs0
          exact Eq.trans (Eq.mp (by kernel_rfl) hp0) hq
        cases hp

def valuesG : List (List UInt8) := [([120] : List UInt8), ([121] : List UInt8), ([120, 121] : List UInt8), ([49] : List UInt8), ([34] : List UInt8), ([92] : List UInt8), ([123, 125] : List UInt8), ([122, 32, 122] : List UInt8)]
def bit1 (l : List Int) (i : Int) (j : Nat) : Bool := decide (i < (((List.length l) : Nat) : Int)) && ((IntKind.wrap .i64 ((((BitVec.ofInt 64 (List.getD l j 0) &&& BitVec.ofInt 64 (1)).toNat : Nat) : Int))) == (1))
def valG (l : List Int) (i : Int) : List UInt8 := List.getD valuesG (Int.toNat (withinI (pickG l i) (0) (7))) ([] : List UInt8)
/-- A set of numbers. -/
def setG (k : List Int × List Int) : LB := (if bit1 k.1 0 0 then [(([97] : List UInt8), valG k.2 0)] else []) ++ (if bit1 k.1 1 1 then [(([98] : List UInt8), valG k.2 1)] else []) ++ (if bit1 k.1 2 2 then [(([99] : List UInt8), valG k.2 2)] else [])
theorem set15 (k : List Int × List Int) (_ : true = true) : ∃ m, p15 m k = some (setG k) := by
  refine ⟨0, ?_⟩
  have p0 : pickPre k.2 (0) = true := decide_eq_true (by omega)
  have p1 : pickPre k.2 (1) = true := decide_eq_true (by omega)
  have p2 : pickPre k.2 (2) = true := decide_eq_true (by omega)
  have w : ∀ n : Int, 0 ≤ withinI n (0) (7) ∧ withinI n (0) (7) < 8 := fun n => by unfold withinI; omega
  have w1 : ∀ n : Int, decide (0 ≤ (withinI n (0) (7))) = true := fun n => decide_eq_true (w n).1
  have w2 : ∀ n : Int, decide ((withinI n (0) (7)) < 8) = true := fun n => decide_eq_true (w n).2
  unfold p15 setG bit1 valG valuesG
  simp only [p0, p1, p2, w1, w2, ↓reduceIte]
  generalize decide (0 < (((List.length k.1) : Nat) : Int)) = a0
  generalize decide (1 < (((List.length k.1) : Nat) : Int)) = a1
  generalize decide (2 < (((List.length k.1) : Nat) : Int)) = a2
  generalize ((IntKind.wrap .i64 ((((BitVec.ofInt 64 (List.getD k.1 0 0) &&& BitVec.ofInt 64 (1)).toNat : Nat) : Int))) == (1)) = b0
  generalize ((IntKind.wrap .i64 ((((BitVec.ofInt 64 (List.getD k.1 1 0) &&& BitVec.ofInt 64 (1)).toNat : Nat) : Int))) == (1)) = b1
  generalize ((IntKind.wrap .i64 ((((BitVec.ofInt 64 (List.getD k.1 2 0) &&& BitVec.ofInt 64 (1)).toNat : Nat) : Int))) == (1)) = b2
  cases a0 <;> cases b0 <;> cases a1 <;> cases b1 <;> cases a2 <;> cases b2 <;> rfl
def s15 : List AV → Boxes → M (AV × Boxes) := normS [.val (.pair (.sl (.int .i64)) (.sl (.int .i64)))] [] fun xs B => match xs, B with
  | [(.agg [(.d (.sl (.int .i64) c1)), (.d (.sl (.int .i64) c2))])], [] => .chk (true) (.ret ((.d (.sl (.pair .str .str) (setG ((c1, c2))))), []))
  | _, _ => .fail
theorem s15_at : CallAt Tryd.prog 15 s15 := by
  refine CallAt.norm (CallAt.weakE (g := fun n => evCall F S8 n 15) (fun n => evCall_atH mixed kinds hds S8 S8_ok n 15) fun xs B r' B' hr => ?_) _ _
  split at hr
  · rename_i c1 c2
    obtain ⟨hp, hr⟩ := (M.run_chk _ _ _).1 hr
    simp only [M.run, Option.some.injEq, Prod.mk.injEq] at hr
    obtain ⟨rfl, rfl⟩ := hr
    obtain ⟨m, hm⟩ := set15 ((c1, c2)) hp
    obtain ⟨r, B1, h1, h2, h3, h4⟩ := p15_ok m ((c1, c2)) _ hm
    exact ⟨m + 25, r, B1, h1, by simp, h2, h3, h4⟩
  · simp [M.run] at hr
noncomputable def S9 : FuncId → Option (List AV → Boxes → M (AV × Boxes)) := fun f => if f = 15 then some s15 else S8 f
set_option maxHeartbeats 20000000 in
theorem S9_ok : ∀ f s, S9 f = some s → CallAt Tryd.prog f s := by
  intro f s h
  unfold S9 at h
  split at h
  · rename_i e; subst e; cases h; exact s15_at
  · exact S8_ok f s h

end Go.Proofs.YtcdpgldecikejaaDoor.Dec
namespace Go.Proofs.YtcdpgldecikejaaDoor.Dec
open Go.Ev
set_option linter.unusedVariables false
set_option linter.unusedSimpArgs false
set_option maxRecDepth 100000
noncomputable def fn13 : AFn := (F 13).getD ⟨0, [], .bad, false, false, noHd⟩
noncomputable def body13 : AC := fn13.body
def p13 (m : Nat) (x0 : List UInt8) : Option (Bool) :=
  if (x0 == ([] : List UInt8)) = true then
    some (false)
  else
    if decide ((((List.length x0) : Nat) : Int) > 24) = true then
      some (false)
    else
      if decide (0 < (((List.length x0) : Nat) : Int)) = true then
        if decide ((Lib.indexByte ([97, 98, 99, 100, 101, 102, 103, 104, 105, 106, 107, 108, 109, 110, 111, 112, 113, 114, 115, 116, 117, 118, 119, 120, 121, 122] : List UInt8) (Nat.toUInt8 (Int.toNat ((UInt8.toNat (List.getD x0 0 0) : Nat) : Int)))) < 0) = true then
          some (false)
        else
          if ((decide (List.length x0 ≤ 9223372036854775807) && decide (List.length ([97, 98, 99, 100, 101, 102, 103, 104, 105, 106, 107, 108, 109, 110, 111, 112, 113, 114, 115, 116, 117, 118, 119, 120, 121, 122, 48, 49, 50, 51, 52, 53, 54, 55, 56, 57, 95] : List UInt8) < 4294967281)) && asciiB ([97, 98, 99, 100, 101, 102, 103, 104, 105, 106, 107, 108, 109, 110, 111, 112, 113, 114, 115, 116, 117, 118, 119, 120, 121, 122, 48, 49, 50, 51, 52, 53, 54, 55, 56, 57, 95] : List UInt8)) = true then
            some (((Lib.trimS x0 ([97, 98, 99, 100, 101, 102, 103, 104, 105, 106, 107, 108, 109, 110, 111, 112, 113, 114, 115, 116, 117, 118, 119, 120, 121, 122, 48, 49, 50, 51, 52, 53, 54, 55, 56, 57, 95] : List UInt8)) == ([] : List UInt8)))
          else
            none
      else
        none
set_option maxHeartbeats 20000000 in
theorem p13_ok (m : Nat) (x0 : List UInt8) (q : Bool) (h : p13 m x0 = some q) : ∃ r B1, (evCall F S9 (m + 25) 13 [(.d (.str x0))] []).run = some (r, B1) ∧ 0 ≤ B1.length ∧ wkR B1 [] r (.d (.bool (q))) ∧ wkBs B1 [] 0 [] := by
  unfold p13 at h
  refine ite_cases h (fun c0 h => ?_) (fun c0 h => ?_)
  · skip
    cases h
    refine ⟨(.d (.bool false)), [], runT_ok (LS := (fun k => none)) (fn := fn13) (vis := []) (by kernel_rfl) rfl (by kernel_rfl) (M.run_of_path _ [true, true, true, true, true, true, true, true, true, true] _ _ (by kernel_rfl) (all_t c0 (all_t c0 (all_t c0 (all_t c0 (all_t rfl (all_t rfl (all_t rfl (all_t rfl (all_t rfl (all_t rfl all_nil))))))))))) ?_, by simp, (wkR.one (wkV.one (wk1.eq rfl))), trivial⟩
    intro p hp; cases hp
  · skip
    refine ite_cases h (fun c4 h => ?_) (fun c4 h => ?_)
    · skip
      cases h
      refine ⟨(.d (.bool false)), [], runT_ok (LS := (fun k => none)) (fn := fn13) (vis := []) (by kernel_rfl) rfl (by kernel_rfl) (M.run_of_path _ [false, false, false, false, true, true, true, true, true, true] _ _ (by kernel_rfl) (all_f c0 (all_f c0 (all_f c0 (all_f c0 (all_t c4 (all_t c4 (all_t c4 (all_t c4 (all_t c4 (all_t rfl all_nil))))))))))) ?_, by simp, (wkR.one (wkV.one (wk1.eq rfl))), trivial⟩
      intro p hp; cases hp
    · skip
      refine ite_cases h (fun c7 h => ?_) (fun c7 h => ?_)
      · skip
        refine ite_cases h (fun c11 h => ?_) (fun c11 h => ?_)
        · skip
          cases h
          refine ⟨(.d (.bool false)), [], runT_ok (LS := (fun k => none)) (fn := fn13) (vis := []) (by kernel_rfl) rfl (by kernel_rfl) (M.run_of_path _ [false, false, false, false, false, false, true, true, false, false, false, true] _ _ (by kernel_rfl) (all_f c0 (all_f c0 (all_f c0 (all_f c0 (all_f c4 (all_f c4 (all_t rfl (all_t c7 (all_f c4 (all_f c4 (all_f c4 (all_t c11 all_nil))))))))))))) ?_, by simp, (wkR.one (wkV.one (wk1.eq rfl))), trivial⟩
          intro p hp; cases hp
        · skip
          refine ite_cases h (fun c12 h => ?_) (fun c12 h => ?_)
          · skip
            cases h
            refine ⟨(.d (.bool ((Lib.trimS x0 ([97, 98, 99, 100, 101, 102, 103, 104, 105, 106, 107, 108, 109, 110, 111, 112, 113, 114, 115, 116, 117, 118, 119, 120, 121, 122, 48, 49, 50, 51, 52, 53, 54, 55, 56, 57, 95] : List UInt8)) == ([] : List UInt8)))), [], runT_ok (LS := (fun k => none)) (fn := fn13) (vis := []) (by kernel_rfl) rfl (by kernel_rfl) (M.run_of_path _ [false, false, false, false, false, false, true, true, false, false, false, false, true] _ _ (by kernel_rfl) (all_f c0 (all_f c0 (all_f c0 (all_f c0 (all_f c4 (all_f c4 (all_t rfl (all_t c7 (all_f c4 (all_f c4 (all_f c4 (all_f c11 (all_t c12 all_nil)))))))))))))) ?_, by simp, (wkR.one (wkV.one (wk1.eq rfl))), trivial⟩
            intro p hp; cases hp
          · skip
            cases h
      · skip
        cases h

def smallB : List UInt8 := ([97, 98, 99, 100, 101, 102, 103, 104, 105, 106, 107, 108, 109, 110, 111, 112, 113, 114, 115, 116, 117, 118, 119, 120, 121, 122] : List UInt8)
def wordsB : List UInt8 := ([97, 98, 99, 100, 101, 102, 103, 104, 105, 106, 107, 108, 109, 110, 111, 112, 113, 114, 115, 116, 117, 118, 119, 120, 121, 122, 48, 49, 50, 51, 52, 53, 54, 55, 56, 57, 95] : List UInt8)
def letterB (c : UInt8) : Bool := decide (97 ≤ UInt8.toNat c) && decide (UInt8.toNat c ≤ 122)
def innerB (c : UInt8) : Bool := letterB c || (UInt8.toNat c == 95) || (decide (48 ≤ UInt8.toNat c) && decide (UInt8.toNat c ≤ 57))
/-- May a text be a name? -/
def wordG (s : List UInt8) : Bool := decide (1 ≤ s.length) && decide (s.length ≤ 24) && letterB (s.getD 0 0) && s.all innerB
theorem small_all : ∀ k, k < 256 → decide (Lib.indexByte smallB (Nat.toUInt8 k) < 0) = !(decide (97 ≤ k) && decide (k ≤ 122)) := by decide +kernel
theorem words_all : ∀ k, k < 256 → wordsB.contains (Nat.toUInt8 k) = innerB (Nat.toUInt8 k) := by decide +kernel
theorem u8_round (c : UInt8) : Nat.toUInt8 (UInt8.toNat c) = c := UInt8.ofNat_toNat
theorem words_one (c : UInt8) : wordsB.contains c = innerB c := by
  have := words_all (UInt8.toNat c) (UInt8.toNat_lt c)
  rwa [u8_round] at this
theorem small_one (c : UInt8) : decide (Lib.indexByte smallB (Nat.toUInt8 (Int.toNat ((UInt8.toNat c : Nat) : Int))) < 0) = !letterB c := by
  rw [Int.toNat_natCast]
  exact small_all (UInt8.toNat c) (UInt8.toNat_lt c)
theorem dropW_nil {p : UInt8 → Bool} : ∀ (l : List UInt8), (∀ x ∈ l.dropWhile p, p x = true) → l.dropWhile p = []
  | [], _ => rfl
  | a :: l, h => by
    rw [List.dropWhile_cons] at h ⊢
    by_cases ha : p a = true
    · rw [if_pos ha] at h ⊢; exact dropW_nil l h
    · rw [if_neg ha] at h; exact absurd (h a (List.mem_cons_self ..)) ha
theorem dropW_all {p : UInt8 → Bool} : ∀ (l : List UInt8), l.dropWhile p = [] → l.all p = true
  | [], _ => rfl
  | a :: l, h => by
    rw [List.dropWhile_cons] at h
    by_cases ha : p a = true
    · rw [if_pos ha] at h; rw [List.all_cons, ha, dropW_all l h]; rfl
    · rw [if_neg ha] at h; cases h
theorem all_dropW {p : UInt8 → Bool} : ∀ (l : List UInt8), l.all p = true → l.dropWhile p = []
  | [], _ => rfl
  | a :: l, h => by
    rw [List.all_cons, Bool.and_eq_true] at h
    rw [List.dropWhile_cons, if_pos h.1, all_dropW l h.2]
theorem trim_nil (l cs : List UInt8) : (Lib.trimS l cs == ([] : List UInt8)) = l.all (cs.contains ·) := by
  rw [Bool.eq_iff_iff, beq_iff_eq]
  show ((l.reverse.dropWhile (cs.contains ·)).reverse).dropWhile (cs.contains ·) = [] ↔ _
  constructor
  · intro h
    have h1 := dropW_all _ h
    rw [List.all_reverse] at h1
    have h2 := dropW_nil l.reverse (fun x hx => List.all_eq_true.1 h1 x hx)
    have h3 := dropW_all _ h2
    rwa [List.all_reverse] at h3
  · intro h
    have h1 : l.reverse.all (cs.contains ·) = true := by rw [List.all_reverse]; exact h
    rw [all_dropW _ h1]; rfl
theorem word36 (s : List UInt8) (h : decide (s.length ≤ 9223372036854775807) = true) : ∃ m, p13 m s = some (wordG s) := by
  have h := of_decide_eq_true h
  refine ⟨0, ?_⟩
  unfold p13 wordG
  cases s with
  | nil => rfl
  | cons a l =>
    have e0 : ((a :: l) == ([] : List UInt8)) = false := rfl
    rw [e0, if_neg (by simp)]
    have e1 : decide (1 ≤ (a :: l).length) = true := decide_eq_true (by simp)
    rw [e1, Bool.true_and]
    by_cases h24 : (a :: l).length ≤ 24
    · have e2 : decide ((((List.length (a :: l)) : Nat) : Int) > 24) = false := decide_eq_false (by omega)
      have e3 : decide (0 < (((List.length (a :: l)) : Nat) : Int)) = true := decide_eq_true (by simp)
      have e4 : decide ((a :: l).length ≤ 24) = true := decide_eq_true h24
      rw [e2, if_neg (by simp), if_pos e3, e4, Bool.true_and]
      have hs := small_one ((a :: l).getD 0 0)
      unfold smallB at hs
      rw [hs]
      cases hL : letterB ((a :: l).getD 0 0) with
      | false => rfl
      | true =>
        rw [if_neg (by simp), Bool.true_and]
        have ht := trim_nil (a :: l) wordsB
        have hw : (fun x => wordsB.contains x) = innerB := funext words_one
        rw [hw] at ht
        unfold wordsB at ht
        rw [ht]
        rw [if_pos]
        rw [Bool.and_eq_true, Bool.and_eq_true]
        exact ⟨⟨decide_eq_true h, by decide⟩, by decide +kernel⟩
    · have e2 : decide ((((List.length (a :: l)) : Nat) : Int) > 24) = true := decide_eq_true (by omega)
      have e4 : decide ((a :: l).length ≤ 24) = false := decide_eq_false h24
      rw [if_pos e2, e4]; rfl
def s13 : List AV → Boxes → M (AV × Boxes) := normS [.val .str] [] fun xs B => match xs, B with
  | [(.d (.str c1))], [] => .chk (decide (List.length c1 ≤ 9223372036854775807)) (.ret ((.d (.bool (wordG c1))), []))
  | _, _ => .fail
theorem s13_at : CallAt Tryd.prog 13 s13 := by
  refine CallAt.norm (CallAt.weakE (g := fun n => evCall F S9 n 13) (fun n => evCall_atH mixed kinds hds S9 S9_ok n 13) fun xs B r' B' hr => ?_) _ _
  split at hr
  · rename_i c1
    obtain ⟨hp, hr⟩ := (M.run_chk _ _ _).1 hr
    simp only [M.run, Option.some.injEq, Prod.mk.injEq] at hr
    obtain ⟨rfl, rfl⟩ := hr
    obtain ⟨m, hm⟩ := word36 c1 hp
    obtain ⟨r, B1, h1, h2, h3, h4⟩ := p13_ok m c1 _ hm
    exact ⟨m + 25, r, B1, h1, by simp, h2, h3, h4⟩
  · simp [M.run] at hr
noncomputable def S10 : FuncId → Option (List AV → Boxes → M (AV × Boxes)) := fun f => if f = 13 then some s13 else S9 f
set_option maxHeartbeats 20000000 in
theorem S10_ok : ∀ f s, S10 f = some s → CallAt Tryd.prog f s := by
  intro f s h
  unfold S10 at h
  split at h
  · rename_i e; subst e; cases h; exact s13_at
  · exact S9_ok f s h

noncomputable def fn9 : AFn := (F 9).getD ⟨0, [], .bad, false, false, noHd⟩
noncomputable def body9 : AC := fn9.body
def l9_0 (m : Nat) : Nat → List UInt8 → Int → Int → List Int → Option (Nat × Int × (List Int))
  | 0, _, _, _, _ => none
  | n + 1, x0, s7, s8, b1 => if decide (s8 < s7) = true then
      if decide (0 ≤ s8) = true then
        if decide (s8 < (((List.length x0) : Nat) : Int)) = true then
          if (((UInt8.toNat (List.getD x0 (Int.toNat s8) 0) : Nat) : Int) == (34)) = true then
            if decide ((((List.length b1) + 1) * 1) ≤ 70368744177664) = true then
              if decide (((((List.length b1) + 1) + 1) * 1) ≤ 70368744177664) = true then
                if decide (((List.length b1) + 1) = (List.length (b1 ++ [(92)]))) = true then
                  l9_0 m n x0 s7 ((IntKind.wrap .i64 (s8 + (1)))) (((b1 ++ [(92)]) ++ [((UInt8.toNat (List.getD x0 (Int.toNat s8) 0) : Nat) : Int)]))
                else
                  none
              else
                none
            else
              none
          else
            if (((UInt8.toNat (List.getD x0 (Int.toNat s8) 0) : Nat) : Int) == (92)) = true then
              if decide ((((List.length b1) + 1) * 1) ≤ 70368744177664) = true then
                if decide (((((List.length b1) + 1) + 1) * 1) ≤ 70368744177664) = true then
                  if decide (((List.length b1) + 1) = (List.length (b1 ++ [(92)]))) = true then
                    l9_0 m n x0 s7 ((IntKind.wrap .i64 (s8 + (1)))) (((b1 ++ [(92)]) ++ [((UInt8.toNat (List.getD x0 (Int.toNat s8) 0) : Nat) : Int)]))
                  else
                    none
                else
                  none
              else
                none
            else
              if decide ((((List.length b1) + 1) * 1) ≤ 70368744177664) = true then
                l9_0 m n x0 s7 ((IntKind.wrap .i64 (s8 + (1)))) ((b1 ++ [((UInt8.toNat (List.getD x0 (Int.toNat s8) 0) : Nat) : Int)]))
              else
                none
        else
          none
      else
        none
    else
      some (0, s8, b1)
def l9_0D : Nat × Int × (List Int) := (0, 0, [])
@[reducible] def l9_0R (m n : Nat) (x0 : List UInt8) (s7 : Int) (s8 : Int) (b1 : List Int) : Nat × Int × (List Int) := Option.getD (l9_0 m n x0 s7 s8 b1) l9_0D
def l9_0H (x0 : List UInt8) (s7 : Int) (s8 : Int) (b1 : List Int) : Env := [(.d (.str x0)), .top, .top, (.ptr 0 0), .top, .top, .top, (.d (.int .i64 s7)), (.d (.int .i64 s8)), .top, .top, .top, .top, .top, .top, .top, .top, .top, .top, .top, .top, .top, .top, .top, .top, .top, .top, .top, .top]
def l9_0B (x0 : List UInt8) (s7 : Int) (s8 : Int) (b1 : List Int) : Boxes := [(.cells [(.ptr 0 0), (.sr 1 0 (List.length b1) 1 none)]), (.arr (.int .u8) b1 true)]
def l9_0E (x0 : List UInt8) (s7 : Int) (s8 : Int) (b1 : List Int) : Nat → AEx × Env × Boxes
  | _ => (.exit 0, [(.d (.str x0)), .top, .top, (.ptr 0 0), .top, .top, .top, (.d (.int .i64 s7)), (.d (.int .i64 s8)), (.d (.bool (decide (s8 < s7)))), .top, .top, .top, .top, .top, .top, .top, .top, .top, .top, .top, .top, .top, .top, .top, .top, .top, .top, .top], [(.cells [(.ptr 0 0), (.sr 1 0 (List.length b1) 1 none)]), (.arr (.int .u8) b1 true)])
noncomputable def lbl9_0 : AC := loopBody 393 body9

set_option maxHeartbeats 20000000 in
theorem l9_0_w0 (m n : Nat) (x0 : List UInt8) (s7 : Int) (s8 : Int) (b1 : List Int) (r : AEx × Env × Boxes) (c0 : decide (s8 < s7) = true) (c1 : decide (0 ≤ s8) = true) (c2 : decide (s8 < (((List.length x0) : Nat) : Int)) = true) (c3 : (((UInt8.toNat (List.getD x0 (Int.toNat s8) 0) : Nat) : Int) == (34)) = true) (c10 : decide ((((List.length b1) + 1) * 1) ≤ 70368744177664) = true) (c15 : decide (((((List.length b1) + 1) + 1) * 1) ≤ 70368744177664) = true) (c16 : decide (((List.length b1) + 1) = (List.length (b1 ++ [(92)]))) = true) (ih : (turns (hds 9 393) 0 393 (evC byref (evCall F S10 (m + 24)) (m + 24) 0 (hds 9) lbl9_0) n (l9_0H x0 s7 ((IntKind.wrap .i64 (s8 + (1)))) (((b1 ++ [(92)]) ++ [((UInt8.toNat (List.getD x0 (Int.toNat s8) 0) : Nat) : Int)]))) (l9_0B x0 s7 ((IntKind.wrap .i64 (s8 + (1)))) (((b1 ++ [(92)]) ++ [((UInt8.toNat (List.getD x0 (Int.toNat s8) 0) : Nat) : Int)])))).run = some r) : (turns (hds 9 393) 0 393 (evC byref (evCall F S10 (m + 24)) (m + 24) 0 (hds 9) lbl9_0) (n + 1) (l9_0H x0 s7 s8 b1) (l9_0B x0 s7 s8 b1)).run = some r := by
  have ht : (turn (hds 9 393) 0 393 (evC byref (evCall F S10 (m + 24)) (m + 24) 0 (hds 9) lbl9_0) (l9_0H x0 s7 s8 b1) (l9_0B x0 s7 s8 b1)).run = some (.normal, [(.d (.str x0)), .top, .top, (.ptr 0 0), .top, .top, .top, (.d (.int .i64 s7)), (.d (.int .i64 (IntKind.wrap .i64 (s8 + (1))))), .top, .top, .top, .top, .top, .top, .top, .top, .top, .top, .top, .top, .top, .top, .top, .top, .top, .top, .top, .top], [(.cells [(.ptr 0 0), (.sr 1 0 (((List.length b1) + 1) + 1) 1 none)]), (.arr (.int .u8) ((b1 ++ [(92)]) ++ [((UInt8.toNat (List.getD x0 (Int.toNat s8) 0) : Nat) : Int)]) true)]) := M.run_of_path _ [true, true, true, true, true, true, true, true, true, true, true, true, true, true, true, true, true] _ _ (by kernel_rfl) (all_t c0 (all_t c1 (all_t c2 (all_t c3 (all_t c3 (all_t c3 (all_t c3 (all_t c3 (all_t rfl (all_t rfl (all_t c10 (all_t (show decide ((List.length b1) = (List.length b1)) = true from decide_eq_true rfl) (all_t c1 (all_t c2 (all_t rfl (all_t c15 (all_t c16 all_nil)))))))))))))))))
  refine turns_step ht (turns_eq ?_ ?_ ih)
  · unfold l9_0H
    first | (simp; done) | (simp [Nat.add_assoc]; done) | (simp; omega)
  · unfold l9_0B
    simp
set_option maxHeartbeats 20000000 in
theorem l9_0_w1 (m n : Nat) (x0 : List UInt8) (s7 : Int) (s8 : Int) (b1 : List Int) (r : AEx × Env × Boxes) (c0 : decide (s8 < s7) = true) (c1 : decide (0 ≤ s8) = true) (c2 : decide (s8 < (((List.length x0) : Nat) : Int)) = true) (c3 : ¬ (((UInt8.toNat (List.getD x0 (Int.toNat s8) 0) : Nat) : Int) == (34)) = true) (c10 : (((UInt8.toNat (List.getD x0 (Int.toNat s8) 0) : Nat) : Int) == (92)) = true) (c12 : decide ((((List.length b1) + 1) * 1) ≤ 70368744177664) = true) (c17 : decide (((((List.length b1) + 1) + 1) * 1) ≤ 70368744177664) = true) (c18 : decide (((List.length b1) + 1) = (List.length (b1 ++ [(92)]))) = true) (ih : (turns (hds 9 393) 0 393 (evC byref (evCall F S10 (m + 24)) (m + 24) 0 (hds 9) lbl9_0) n (l9_0H x0 s7 ((IntKind.wrap .i64 (s8 + (1)))) (((b1 ++ [(92)]) ++ [((UInt8.toNat (List.getD x0 (Int.toNat s8) 0) : Nat) : Int)]))) (l9_0B x0 s7 ((IntKind.wrap .i64 (s8 + (1)))) (((b1 ++ [(92)]) ++ [((UInt8.toNat (List.getD x0 (Int.toNat s8) 0) : Nat) : Int)])))).run = some r) : (turns (hds 9 393) 0 393 (evC byref (evCall F S10 (m + 24)) (m + 24) 0 (hds 9) lbl9_0) (n + 1) (l9_0H x0 s7 s8 b1) (l9_0B x0 s7 s8 b1)).run = some r := by
  have ht : (turn (hds 9 393) 0 393 (evC byref (evCall F S10 (m + 24)) (m + 24) 0 (hds 9) lbl9_0) (l9_0H x0 s7 s8 b1) (l9_0B x0 s7 s8 b1)).run = some (.normal, [(.d (.str x0)), .top, .top, (.ptr 0 0), .top, .top, .top, (.d (.int .i64 s7)), (.d (.int .i64 (IntKind.wrap .i64 (s8 + (1))))), .top, .top, .top, .top, .top, .top, .top, .top, .top, .top, .top, .top, .top, .top, .top, .top, .top, .top, .top, .top], [(.cells [(.ptr 0 0), (.sr 1 0 (((List.length b1) + 1) + 1) 1 none)]), (.arr (.int .u8) ((b1 ++ [(92)]) ++ [((UInt8.toNat (List.getD x0 (Int.toNat s8) 0) : Nat) : Int)]) true)]) := M.run_of_path _ [true, true, true, false, false, false, true, true, false, false, true, true, true, true, true, true, true, true, true] _ _ (by kernel_rfl) (all_t c0 (all_t c1 (all_t c2 (all_f c3 (all_f c3 (all_f c3 (all_t c1 (all_t c2 (all_f c3 (all_f c3 (all_t c10 (all_t rfl (all_t c12 (all_t (show decide ((List.length b1) = (List.length b1)) = true from decide_eq_true rfl) (all_t c1 (all_t c2 (all_t rfl (all_t c17 (all_t c18 all_nil)))))))))))))))))))
  refine turns_step ht (turns_eq ?_ ?_ ih)
  · unfold l9_0H
    first | (simp; done) | (simp [Nat.add_assoc]; done) | (simp; omega)
  · unfold l9_0B
    simp
set_option maxHeartbeats 20000000 in
theorem l9_0_w2 (m n : Nat) (x0 : List UInt8) (s7 : Int) (s8 : Int) (b1 : List Int) (r : AEx × Env × Boxes) (c0 : decide (s8 < s7) = true) (c1 : decide (0 ≤ s8) = true) (c2 : decide (s8 < (((List.length x0) : Nat) : Int)) = true) (c3 : ¬ (((UInt8.toNat (List.getD x0 (Int.toNat s8) 0) : Nat) : Int) == (34)) = true) (c10 : ¬ (((UInt8.toNat (List.getD x0 (Int.toNat s8) 0) : Nat) : Int) == (92)) = true) (c14 : decide ((((List.length b1) + 1) * 1) ≤ 70368744177664) = true) (ih : (turns (hds 9 393) 0 393 (evC byref (evCall F S10 (m + 24)) (m + 24) 0 (hds 9) lbl9_0) n (l9_0H x0 s7 ((IntKind.wrap .i64 (s8 + (1)))) ((b1 ++ [((UInt8.toNat (List.getD x0 (Int.toNat s8) 0) : Nat) : Int)]))) (l9_0B x0 s7 ((IntKind.wrap .i64 (s8 + (1)))) ((b1 ++ [((UInt8.toNat (List.getD x0 (Int.toNat s8) 0) : Nat) : Int)])))).run = some r) : (turns (hds 9 393) 0 393 (evC byref (evCall F S10 (m + 24)) (m + 24) 0 (hds 9) lbl9_0) (n + 1) (l9_0H x0 s7 s8 b1) (l9_0B x0 s7 s8 b1)).run = some r := by
  have ht : (turn (hds 9 393) 0 393 (evC byref (evCall F S10 (m + 24)) (m + 24) 0 (hds 9) lbl9_0) (l9_0H x0 s7 s8 b1) (l9_0B x0 s7 s8 b1)).run = some (.normal, [(.d (.str x0)), .top, .top, (.ptr 0 0), .top, .top, .top, (.d (.int .i64 s7)), (.d (.int .i64 (IntKind.wrap .i64 (s8 + (1))))), .top, .top, .top, .top, .top, .top, .top, .top, .top, .top, .top, .top, .top, .top, .top, .top, .top, .top, .top, .top], [(.cells [(.ptr 0 0), (.sr 1 0 ((List.length b1) + 1) 1 none)]), (.arr (.int .u8) (b1 ++ [((UInt8.toNat (List.getD x0 (Int.toNat s8) 0) : Nat) : Int)]) true)]) := M.run_of_path _ [true, true, true, false, false, false, true, true, false, false, false, true, true, true, true, true] _ _ (by kernel_rfl) (all_t c0 (all_t c1 (all_t c2 (all_f c3 (all_f c3 (all_f c3 (all_t c1 (all_t c2 (all_f c3 (all_f c3 (all_f c10 (all_t c1 (all_t c2 (all_t rfl (all_t c14 (all_t (show decide ((List.length b1) = (List.length b1)) = true from decide_eq_true rfl) all_nil))))))))))))))))
  refine turns_step ht (turns_eq ?_ ?_ ih)
  · unfold l9_0H
    first | (simp; done) | (simp [Nat.add_assoc]; done) | (simp; omega)
  · unfold l9_0B
    simp
set_option maxHeartbeats 20000000 in
theorem l9_0_w3 (m n : Nat) (x0 : List UInt8) (s7 : Int) (s8 : Int) (b1 : List Int) (c0 : ¬ decide (s8 < s7) = true) : (turns (hds 9 393) 0 393 (evC byref (evCall F S10 (m + 24)) (m + 24) 0 (hds 9) lbl9_0) (n + 1) (l9_0H x0 s7 s8 b1) (l9_0B x0 s7 s8 b1)).run = some (.exit 0, [(.d (.str x0)), .top, .top, (.ptr 0 0), .top, .top, .top, (.d (.int .i64 s7)), (.d (.int .i64 s8)), (.d (.bool (decide (s8 < s7)))), .top, .top, .top, .top, .top, .top, .top, .top, .top, .top, .top, .top, .top, .top, .top, .top, .top, .top, .top], [(.cells [(.ptr 0 0), (.sr 1 0 (List.length b1) 1 none)]), (.arr (.int .u8) b1 true)]) := by
  exact turns_last (by simp) (M.run_of_path _ [false] _ _ (by kernel_rfl) (all_f c0 all_nil)) 

set_option maxHeartbeats 20000000 in
theorem l9_0_step (m n : Nat) (ih : ∀ (x0 : List UInt8) (s7 : Int) (s8 : Int) (b1 : List Int) (q : Nat × Int × (List Int)), l9_0 m n x0 s7 s8 b1 = some q → (turns (hds 9 393) 0 393 (evC byref (evCall F S10 (m + 24)) (m + 24) 0 (hds 9) lbl9_0) n (l9_0H x0 s7 s8 b1) (l9_0B x0 s7 s8 b1)).run = some (l9_0E (x0) (s7) (q.2.1) (q.2.2) q.1)) (x0 : List UInt8) (s7 : Int) (s8 : Int) (b1 : List Int) (q : Nat × Int × (List Int)) (h : l9_0 m (n + 1) x0 s7 s8 b1 = some q) : (turns (hds 9 393) 0 393 (evC byref (evCall F S10 (m + 24)) (m + 24) 0 (hds 9) lbl9_0) (n + 1) (l9_0H x0 s7 s8 b1) (l9_0B x0 s7 s8 b1)).run = some (l9_0E (x0) (s7) (q.2.1) (q.2.2) q.1) := by
  rw [l9_0] at h
  refine ite_cases h (fun c0 h => ?_) (fun c0 h => ?_)
  · skip
    refine ite_cases h (fun c1 h => ?_) (fun c1 h => ?_)
    · skip
      refine ite_cases h (fun c2 h => ?_) (fun c2 h => ?_)
      · skip
        refine ite_cases h (fun c3 h => ?_) (fun c3 h => ?_)
        · skip
          refine ite_cases h (fun c10 h => ?_) (fun c10 h => ?_)
          · skip
            refine ite_cases h (fun c15 h => ?_) (fun c15 h => ?_)
            · skip
              refine ite_cases h (fun c16 h => ?_) (fun c16 h => ?_)
              · skip
                exact l9_0_w0 m n x0 s7 s8 b1 _ c0 c1 c2 c3 c10 c15 c16 (ih _ _ _ _ q h)
              · skip
                cases h
            · skip
              cases h
          · skip
            cases h
        · skip
          refine ite_cases h (fun c10 h => ?_) (fun c10 h => ?_)
          · skip
            refine ite_cases h (fun c12 h => ?_) (fun c12 h => ?_)
            · skip
              refine ite_cases h (fun c17 h => ?_) (fun c17 h => ?_)
              · skip
                refine ite_cases h (fun c18 h => ?_) (fun c18 h => ?_)
                · skip
                  exact l9_0_w1 m n x0 s7 s8 b1 _ c0 c1 c2 c3 c10 c12 c17 c18 (ih _ _ _ _ q h)
                · skip
                  cases h
              · skip
                cases h
            · skip
              cases h
          · skip
            refine ite_cases h (fun c14 h => ?_) (fun c14 h => ?_)
            · skip
              exact l9_0_w2 m n x0 s7 s8 b1 _ c0 c1 c2 c3 c10 c14 (ih _ _ _ _ q h)
            · skip
              cases h
      · skip
        cases h
    · skip
      cases h
  · skip
    cases h
    exact l9_0_w3 m n x0 s7 s8 b1 c0
set_option maxHeartbeats 20000000 in
theorem l9_0_ok (m : Nat) : ∀ (n : Nat) (x0 : List UInt8) (s7 : Int) (s8 : Int) (b1 : List Int) (q : Nat × Int × (List Int)), l9_0 m n x0 s7 s8 b1 = some q → (turns (hds 9 393) 0 393 (evC byref (evCall F S10 (m + 24)) (m + 24) 0 (hds 9) lbl9_0) n (l9_0H x0 s7 s8 b1) (l9_0B x0 s7 s8 b1)).run = some (l9_0E (x0) (s7) (q.2.1) (q.2.2) q.1)
  | 0, x0, s7, s8, b1, q, h => by cases h
  | n + 1, x0, s7, s8, b1, q, h => l9_0_step m n (l9_0_ok m n) x0 s7 s8 b1 q h

def p9 (m : Nat) (x0 : List UInt8) : Option ((List UInt8)) :=
  if (Option.isSome (l9_0 m (m + 24) x0 ((((List.length x0) : Nat) : Int)) 0 ([(34)]))) = true then
    if decide ((((List.length (l9_0R m (m + 24) x0 ((((List.length x0) : Nat) : Int)) 0 ([(34)])).2.2) + 1) * 1) ≤ 70368744177664) = true then
      if decide (((List.length (l9_0R m (m + 24) x0 ((((List.length x0) : Nat) : Int)) 0 ([(34)])).2.2) + 1) = 0) = true then
        none
      else
        if (((decide (((((List.length (l9_0R m (m + 24) x0 ((((List.length x0) : Nat) : Int)) 0 ([(34)])).2.2) + 1) : Nat) : Int) = (((List.length ((l9_0R m (m + 24) x0 ((((List.length x0) : Nat) : Int)) 0 ([(34)])).2.2 ++ [(34)])) : Nat) : Int)) && (!List.isEmpty ((l9_0R m (m + 24) x0 ((((List.length x0) : Nat) : Int)) 0 ([(34)])).2.2 ++ [(34)]))) && decide ((List.length ((l9_0R m (m + 24) x0 ((((List.length x0) : Nat) : Int)) 0 ([(34)])).2.2 ++ [(34)])) ≤ 9223372036854775807)) && List.all ((l9_0R m (m + 24) x0 ((((List.length x0) : Nat) : Int)) 0 ([(34)])).2.2 ++ [(34)]) (fun n => decide (0 ≤ n) && decide (n < 256))) = true then
          some ((List.map (fun (n : Int) => UInt8.ofNat n.toNat) ((l9_0R m (m + 24) x0 ((((List.length x0) : Nat) : Int)) 0 ([(34)])).2.2 ++ [(34)])))
        else
          none
    else
      none
  else
    none
set_option maxHeartbeats 20000000 in
theorem p9_ok (m : Nat) (x0 : List UInt8) (q : (List UInt8)) (h : p9 m x0 = some q) : ∃ r B1, (evCall F S10 (m + 25) 9 [(.d (.str x0))] []).run = some (r, B1) ∧ 0 ≤ B1.length ∧ wkR B1 [] r (.d (.str q)) ∧ wkBs B1 [] 0 [] := by
  unfold p9 at h
  refine ite_cases h (fun c3 h => ?_) (fun c3 h => ?_)
  · skip
    refine ite_cases h (fun c5 h => ?_) (fun c5 h => ?_)
    · skip
      refine ite_cases h (fun c7 h => ?_) (fun c7 h => ?_)
      · skip
        cases h
      · skip
        refine ite_cases h (fun c8 h => ?_) (fun c8 h => ?_)
        · skip
          cases h
          refine ⟨(.d (.str (List.map (fun (n : Int) => UInt8.ofNat n.toNat) ((l9_0R m (m + 24) x0 ((((List.length x0) : Nat) : Int)) 0 ([(34)])).2.2 ++ [(34)])))), [], runT_ok (LS := (fun k => if k = 393 then some (l9_0E x0 (((((List.length x0) : Nat) : Int))) ((l9_0R m (m + 24) x0 ((((List.length x0) : Nat) : Int)) 0 ([(34)])).2.1) ((l9_0R m (m + 24) x0 ((((List.length x0) : Nat) : Int)) 0 ([(34)])).2.2) 0) else none)) (fn := fn9) (vis := [(393, l9_0H x0 ((((List.length x0) : Nat) : Int)) 0 ([(34)]), l9_0B x0 ((((List.length x0) : Nat) : Int)) 0 ([(34)]))]) (by kernel_rfl) rfl (by kernel_rfl) (M.run_of_path _ [true, false, true, true, true, true, true, true] _ _ (by kernel_rfl) (all_t rfl (all_f Bool.false_ne_true (all_t rfl (all_t rfl (all_t c5 (all_t (show decide ((List.length (l9_0R m (m + 24) x0 ((((List.length x0) : Nat) : Int)) 0 ([(34)])).2.2) = (List.length (l9_0R m (m + 24) x0 ((((List.length x0) : Nat) : Int)) 0 ([(34)])).2.2)) = true from decide_eq_true rfl) (all_nf c7 (all_t c8 all_nil))))))))) ?_, by simp, (wkR.one (wkV.one (wk1.eq rfl))), trivial⟩
          intro p hp p2 hq
          rcases List.mem_cons.1 hp with rfl | hp
          · skip
            have h3 := l9_0_ok m (m + 24) x0 ((((List.length x0) : Nat) : Int)) 0 ([(34)]) _ (some_getD (d := l9_0D) c3)
            exact Eq.trans (Eq.mp (by kernel_rfl) h3) hq
          cases hp
        · skip
          cases h
    · skip
      cases h
  · skip
    cases h

def escI (c : UInt8) : List Int := if UInt8.toNat c = 34 ∨ UInt8.toNat c = 92 then [92, ((UInt8.toNat c : Nat) : Int)] else [((UInt8.toNat c : Nat) : Int)]
def escB (c : UInt8) : List UInt8 := if UInt8.toNat c = 34 ∨ UInt8.toNat c = 92 then [92, c] else [c]
/-- A quoted text. -/
def quoteG (s : List UInt8) : List UInt8 := 34 :: (s.flatMap escB ++ [34])
theorem escB_le (c : UInt8) : (escB c).length ≤ 2 := by unfold escB; split <;> simp
theorem escI_le (c : UInt8) : (escI c).length ≤ 2 := by unfold escI; split <;> simp
theorem esc_map (c : UInt8) : (escI c).map (fun (n : Int) => UInt8.ofNat n.toNat) = escB c := by
  unfold escI escB
  split
  · rw [List.map_cons, List.map_cons, List.map_nil, Int.toNat_natCast, UInt8.ofNat_toNat]; rfl
  · rw [List.map_cons, List.map_nil, Int.toNat_natCast, UInt8.ofNat_toNat]
theorem escI_in (c : UInt8) : ∀ n ∈ escI c, 0 ≤ n ∧ n < 256 := by
  intro n hn
  have := UInt8.toNat_lt c
  unfold escI at hn
  split at hn
  · simp only [List.mem_cons, List.not_mem_nil, or_false] at hn
    omega
  · simp only [List.mem_cons, List.not_mem_nil, or_false] at hn
    omega
theorem flat_le {f : UInt8 → List Int} (hf : ∀ c, (f c).length ≤ 2) : ∀ (s : List UInt8), (s.flatMap f).length ≤ 2 * s.length
  | [] => Nat.le_refl _
  | c :: s => by rw [List.flatMap_cons, List.length_append, List.length_cons]; have := hf c; have := flat_le hf s; omega
theorem flatB_le {f : UInt8 → List UInt8} (hf : ∀ c, (f c).length ≤ 2) : ∀ (s : List UInt8), (s.flatMap f).length ≤ 2 * s.length
  | [] => Nat.le_refl _
  | c :: s => by rw [List.flatMap_cons, List.length_append, List.length_cons]; have := hf c; have := flatB_le hf s; omega
theorem quote_le (s : List UInt8) : (quoteG s).length ≤ 2 * s.length + 2 := by
  unfold quoteG
  rw [List.length_cons, List.length_append]
  have := flatB_le escB_le s
  simp only [List.length_cons, List.length_nil]
  omega
theorem flat_map (s : List UInt8) : (s.flatMap escI).map (fun (n : Int) => UInt8.ofNat n.toNat) = s.flatMap escB := by
  rw [List.map_flatMap]
  congr 1
  funext c
  exact esc_map c
theorem quote_loop (m : Nat) (s : List UInt8) (hs : s.length ≤ 2000000) : ∀ (n k : Nat) (b : List Int), k ≤ s.length → s.length - k < n → b.length + 2 * (s.length - k) ≤ 6000000 → l9_0 m n s (s.length : Nat) (k : Nat) b = some (0, ((s.length : Nat) : Int), b ++ (s.drop k).flatMap escI)
  | 0, k, _, _, h, _ => by omega
  | n + 1, k, b, h1, h2, h3 => by
    rw [l9_0]
    by_cases hk : k < s.length
    · have e1 : decide (((k : Nat) : Int) < (((List.length s) : Nat) : Int)) = true := decide_eq_true (by omega)
      have e2 : decide ((0 : Int) ≤ ((k : Nat) : Int)) = true := decide_eq_true (by omega)
      have e7 : IntKind.wrap .i64 (((k : Nat) : Int) + (1)) = ((k + 1 : Nat) : Int) := by rw [wrap_id (by omega) (by omega)]; rfl
      have go := fun b' (hb : b'.length ≤ b.length + 2) => quote_loop m s hs n (k + 1) b' (by omega) (by omega) (by omega)
      rw [drop_getD s k 0 hk, List.flatMap_cons]
      simp only [show Int.toNat ((k : Nat) : Int) = k from rfl, e1, e2, e7, ↓reduceIte]
      generalize s.getD k 0 = c at *
      have a1 : decide (((List.length b) + 1) * 1 ≤ 70368744177664) = true := decide_eq_true (by omega)
      have a2 : decide ((((List.length b) + 1) + 1) * 1 ≤ 70368744177664) = true := decide_eq_true (by omega)
      have a3 : decide (((List.length b) + 1) = (List.length (b ++ [(92)]))) = true := decide_eq_true (by simp)
      have yes : (UInt8.toNat c = 34 ∨ UInt8.toNat c = 92) → l9_0 m n s (s.length : Nat) ((k + 1 : Nat) : Int) ((b ++ [(92)]) ++ [((UInt8.toNat c : Nat) : Int)]) = some (0, ((s.length : Nat) : Int), b ++ (escI c ++ (s.drop (k + 1)).flatMap escI)) := by
        intro h
        rw [go _ (by simp)]
        unfold escI
        rw [if_pos h]
        simp
      have no : ¬ (UInt8.toNat c = 34 ∨ UInt8.toNat c = 92) → l9_0 m n s (s.length : Nat) ((k + 1 : Nat) : Int) (b ++ [((UInt8.toNat c : Nat) : Int)]) = some (0, ((s.length : Nat) : Int), b ++ (escI c ++ (s.drop (k + 1)).flatMap escI)) := by
        intro h
        rw [go _ (by simp)]
        unfold escI
        rw [if_neg h]
        simp
      simp only [a1, a2, a3, ↓reduceIte]
      by_cases c1 : UInt8.toNat c = 34
      · rw [if_pos (by rw [c1]; rfl)]; exact yes (.inl c1)
      · rw [if_neg (by simp; omega)]
        by_cases c2 : UInt8.toNat c = 92
        · rw [if_pos (by rw [c2]; rfl)]; exact yes (.inr c2)
        · rw [if_neg (by simp; omega)]; exact no (by simp [c1, c2])
    · have e1 : decide (((k : Nat) : Int) < (((List.length s) : Nat) : Int)) = false := decide_eq_false (by omega)
      have e0 : k = s.length := by omega
      subst e0
      rw [e1, if_neg (by simp), List.drop_length]
      simp
theorem quote45 (s : List UInt8) (h : decide (s.length ≤ 2000000) = true) : ∃ m, p9 m s = some (quoteG s) := by
  have h := of_decide_eq_true h
  refine ⟨s.length, ?_⟩
  have hr := quote_loop s.length s h (s.length + 24) 0 [(34)] (by omega) (by omega) (by simp; omega)
  simp only [Int.natCast_zero, List.drop_zero] at hr
  have hl := flat_le escI_le s
  have hin : ∀ n ∈ s.flatMap escI, 0 ≤ n ∧ n < 256 := by
    intro n hn
    obtain ⟨c, _, hc⟩ := List.mem_flatMap.1 hn
    exact escI_in c n hc
  have hm := flat_map s
  unfold p9 quoteG
  simp only [l9_0R, hr, Option.isSome_some, Option.getD_some, ↓reduceIte]
  generalize s.flatMap escI = t at *
  have l1 : List.length ([(34)] ++ t : List Int) = t.length + 1 := by simp
  have l2 : List.length ([(34)] ++ t ++ [(34)] : List Int) = t.length + 2 := by simp
  rw [l1, l2, if_pos (decide_eq_true (by omega)), if_neg (by simp)]
  rw [if_pos]
  · rw [List.map_append, List.map_append, hm]; rfl
  · rw [Bool.and_eq_true, Bool.and_eq_true, Bool.and_eq_true]
    refine ⟨⟨⟨decide_eq_true rfl, by simp⟩, decide_eq_true (by omega)⟩, ?_⟩
    rw [List.all_eq_true]
    intro n hn
    rw [Bool.and_eq_true, decide_eq_true_eq, decide_eq_true_eq]
    simp only [List.mem_append, List.mem_cons, List.not_mem_nil, or_false] at hn
    rcases hn with (rfl | hn) | rfl
    · omega
    · exact hin n hn
    · omega
def s9 : List AV → Boxes → M (AV × Boxes) := normS [.val .str] [] fun xs B => match xs, B with
  | [(.d (.str c1))], [] => .chk (decide (List.length c1 ≤ 2000000)) (.ret ((.d (.str (quoteG c1))), []))
  | _, _ => .fail
theorem s9_at : CallAt Tryd.prog 9 s9 := by
  refine CallAt.norm (CallAt.weakE (g := fun n => evCall F S10 n 9) (fun n => evCall_atH mixed kinds hds S10 S10_ok n 9) fun xs B r' B' hr => ?_) _ _
  split at hr
  · rename_i c1
    obtain ⟨hp, hr⟩ := (M.run_chk _ _ _).1 hr
    simp only [M.run, Option.some.injEq, Prod.mk.injEq] at hr
    obtain ⟨rfl, rfl⟩ := hr
    obtain ⟨m, hm⟩ := quote45 c1 hp
    obtain ⟨r, B1, h1, h2, h3, h4⟩ := p9_ok m c1 _ hm
    exact ⟨m + 25, r, B1, h1, by simp, h2, h3, h4⟩
  · simp [M.run] at hr
noncomputable def S11 : FuncId → Option (List AV → Boxes → M (AV × Boxes)) := fun f => if f = 9 then some s9 else S10 f
set_option maxHeartbeats 20000000 in
theorem S11_ok : ∀ f s, S11 f = some s → CallAt Tryd.prog f s := by
  intro f s h
  unfold S11 at h
  split at h
  · rename_i e; subst e; cases h; exact s9_at
  · exact S10_ok f s h

end Go.Proofs.YtcdpgldecikejaaDoor.Dec
