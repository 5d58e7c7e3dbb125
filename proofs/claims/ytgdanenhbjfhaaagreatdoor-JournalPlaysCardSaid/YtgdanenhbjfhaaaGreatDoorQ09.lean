import Derived.Shelf.Strings.Builder1
import Derived.Shelf.Strings.Trim
import Derived.Shelf.Small.Utf8
import Derived.Shelf.Small.Bits
import Derived.Shelf.Small.Strs
import Derived.Shelf.Strings.BuilderF
import Derived.Shelf.Strings.BuilderK
import Derived.Shelf.Utf8.RuneCount
import Derived.Shelf.Strconv.Itoa0
import Derived.Shelf.Strconv.Itoa1
import Derived.Shelf.LaysM
import Derived.Shelf.Strconv.Itoa2
import Derived.Shelf.Strconv.Itoa3
import Derived.Shelf.Strconv.Clone
import Derived.Shelf.Strconv.SyntaxError
import Derived.Shelf.LaysC
import Derived.Shelf.Strconv.ToError
import Derived.Shelf.Strconv.Lower
import Derived.Ground.MpProg
import Derived.Shelf.Pu.ParseUintPublic10
import Derived.Shelf.Strings.Search1
import Derived.Shelf.Strings.Search2
import Derived.Shelf.Strings.Search3
import Derived.Shelf.Strings.Cut
import Derived.Shelf.Strings.Count
import Derived.Shelf.Strings.Shaped
import Derived.Shelf.Strings.Prefix
import Derived.Shelf.Strings.Split
import Derived.Shelf.Strings.SplitShaped
import Derived.Shelf.Unicode.Decode
import Derived.Shelf.Strings.Runes
import Derived.Shelf.Strings.RuneCount
import Derived.Shelf.Strings.AsciiSet
import Derived.Shelf.Strings.Explode
import Derived.Shelf.Unicode.DecodeSlow
import Derived.Shelf.Unicode.DecodeAny
import Derived.Shelf.Unicode.DecodeLast
import Derived.Ground.SlgmProg
import Derived.Shelf.SortM.Plain
import Derived.Shelf.SortM.SortNone
import Derived.Shelf.SlIter.Nil
import Derived.Shelf.SlMaps.Clone
import Derived.Ground.GgzProg
import Derived.Ground.SlmcProg
import Derived.Test.YtgdanenhbjfhaaaGreatDoorProg
import Derived.Lib.ParseIntBMem
import Derived.Lib.Hide
import Derived.Laws.Strings3
import Derived.Laws.Closers25
import Derived.Laws.Closers25b
import Derived.WalkKit
import Derived.BigCall
import Derived.BigGuard
/- Several texts of this session in one: the walks of the functions that the laws reach, and what they tell. -/
/-
  DERIVED: THE SHELF's CONTRACTS AT THIS DUMP, IN PLAIN WORDS (tools/lay-plain.mjs out of 'TryzShelf.lean', which tools/lay-shelf.mjs wrote): THE SAME DECLARATIONS UNDER THE SAME NAMES: 'import', 'namespace', 'open', 'def', 'theorem' AND NOTHING ELSE: no command of the shelf's: FOR A HAND-IN. Each laying: the table of numbers ('.._ren') and one theorem, a field a fact of the dump's own or the kernel's comparison; each contract: ONE APPLICATION.
-/
namespace Go.Proofs
open Go.Shelf
def Tryz.lays170_ren : Go.Shelf.Ren := ⟨fun | 170 => 61 | n => n, fun | 70 => 99 | 3 => 3 | 0 => 0 | 72 => 101 | 37 => 96 | 5 => 5 | n => n, fun | n => n⟩
theorem Tryz.lays170 : Go.Proofs.Lays.n170 Tryz.prog Tryz.lays170_ren := {
  mixed := by kernel_rfl
  f170 := Tryz.func61.trans (congrArg some (by kernel_rfl))
  t0 := Tryz.underlying0
  a0 := Tryz.isAgg0
  z0 := Tryz.sizeOf0
  v0 := Tryz.zeroValue0
  t3 := Tryz.underlying3
  a3 := Tryz.isAgg3
  z3 := Tryz.sizeOf3
  v3 := Tryz.zeroValue3
  t37 := Tryz.underlying96
  a37 := Tryz.isAgg96
  z37 := Tryz.sizeOf96
  v37 := Tryz.zeroValue96
  t70 := Tryz.underlying99
  a70 := Tryz.isAgg99
  z70 := Tryz.sizeOf99
  v70 := Tryz.zeroValue99
  t72 := Tryz.underlying101
  a72 := Tryz.isAgg101
  z72 := Tryz.sizeOf101
  v72 := Tryz.zeroValue101 }
def Tryz.lays169_ren : Go.Shelf.Ren := ⟨fun | 169 => 60 | n => n, fun | 70 => 99 | 9 => 9 | 0 => 0 | 72 => 101 | 37 => 96 | 127 => 136 | 3 => 3 | 5 => 5 | n => n, fun | n => n⟩
theorem Tryz.lays169 : Go.Proofs.Lays.n169 Tryz.prog Tryz.lays169_ren := {
  mixed := by kernel_rfl
  f169 := Tryz.func60.trans (congrArg some (by kernel_rfl))
  t0 := Tryz.underlying0
  a0 := Tryz.isAgg0
  z0 := Tryz.sizeOf0
  v0 := Tryz.zeroValue0
  t3 := Tryz.underlying3
  a3 := Tryz.isAgg3
  z3 := Tryz.sizeOf3
  v3 := Tryz.zeroValue3
  t9 := Tryz.underlying9
  a9 := Tryz.isAgg9
  z9 := Tryz.sizeOf9
  v9 := Tryz.zeroValue9
  t37 := Tryz.underlying96
  a37 := Tryz.isAgg96
  z37 := Tryz.sizeOf96
  v37 := Tryz.zeroValue96
  t70 := Tryz.underlying99
  a70 := Tryz.isAgg99
  z70 := Tryz.sizeOf99
  v70 := Tryz.zeroValue99
  t72 := Tryz.underlying101
  a72 := Tryz.isAgg101
  z72 := Tryz.sizeOf101
  v72 := Tryz.zeroValue101
  t127 := Tryz.underlying136
  a127 := Tryz.isAgg136
  z127 := Tryz.sizeOf136
  v127 := Tryz.zeroValue136 }
theorem Tryz.Builder_Extra_169 : Builder.Extra Tryz.prog Tryz.lays169_ren := {
  sizeBuilder := by kernel_rfl
  liesBuilder := by kernel_rfl
  t5 := Tryz.underlying5
  a5 := Tryz.isAgg5
  z5 := Tryz.sizeOf5
  v5 := Tryz.zeroValue5
  infoByte := by kernel_rfl
  cellsByte := by kernel_rfl
  sizeByte := by kernel_rfl
  neB5 := by decide }
def Tryz.lays160_ren : Go.Shelf.Ren := ⟨fun | 160 => 102 | 232 => 118 | 231 => 117 | 227 => 119 | 234 => 121 | 233 => 120 | 236 => 123 | 235 => 122 | 228 => 145 | 271 => 147 | 151 => 146 | 197 => 109 | 120 => 161 | 152 => 160 | 260 => 136 | 137 => 169 | 119 => 170 | 224 => 139 | 225 => 138 | 217 => 137 | 266 => 156 | n => n, fun | 9 => 9 | 4 => 4 | 3 => 3 | 5 => 5 | 117 => 164 | 116 => 163 | 0 => 0 | 124 => 167 | 21 => 21 | 105 => 152 | 46 => 132 | 119 => 192 | 139 => 195 | 138 => 194 | n => n, fun | 3 => 2 | 4 => 3 | n => n⟩
theorem Tryz.lays160 : Go.Proofs.Lays.n160 Tryz.prog Tryz.lays160_ren := {
  mixed := by kernel_rfl
  f119 := Tryz.func170.trans (congrArg some (by kernel_rfl))
  f120 := Tryz.func161.trans (congrArg some (by kernel_rfl))
  f137 := Tryz.func169.trans (congrArg some (by kernel_rfl))
  f151 := Tryz.func146.trans (congrArg some (by kernel_rfl))
  f152 := Tryz.func160.trans (congrArg some (by kernel_rfl))
  f160 := Tryz.func102.trans (congrArg some (by kernel_rfl))
  f197 := Tryz.func109.trans (congrArg some (by kernel_rfl))
  f217 := Tryz.func137.trans (congrArg some (by kernel_rfl))
  f224 := Tryz.func139.trans (congrArg some (by kernel_rfl))
  f225 := Tryz.func138.trans (congrArg some (by kernel_rfl))
  f227 := Tryz.func119.trans (congrArg some (by kernel_rfl))
  f228 := Tryz.func145.trans (congrArg some (by kernel_rfl))
  f231 := Tryz.func117.trans (congrArg some (by kernel_rfl))
  f232 := Tryz.func118.trans (congrArg some (by kernel_rfl))
  f233 := Tryz.func120.trans (congrArg some (by kernel_rfl))
  f234 := Tryz.func121.trans (congrArg some (by kernel_rfl))
  f235 := Tryz.func122.trans (congrArg some (by kernel_rfl))
  f236 := Tryz.func123.trans (congrArg some (by kernel_rfl))
  f260 := Tryz.func136.trans (congrArg some (by kernel_rfl))
  f266 := Tryz.func156.trans (congrArg some (by kernel_rfl))
  f271 := Tryz.func147.trans (congrArg some (by kernel_rfl))
  t0 := Tryz.underlying0
  a0 := Tryz.isAgg0
  z0 := Tryz.sizeOf0
  v0 := Tryz.zeroValue0
  t3 := Tryz.underlying3
  a3 := Tryz.isAgg3
  z3 := Tryz.sizeOf3
  v3 := Tryz.zeroValue3
  t4 := Tryz.underlying4
  a4 := Tryz.isAgg4
  z4 := Tryz.sizeOf4
  v4 := Tryz.zeroValue4
  t5 := Tryz.underlying5
  a5 := Tryz.isAgg5
  z5 := Tryz.sizeOf5
  v5 := Tryz.zeroValue5
  t9 := Tryz.underlying9
  a9 := Tryz.isAgg9
  z9 := Tryz.sizeOf9
  v9 := Tryz.zeroValue9
  t21 := Tryz.underlying21
  a21 := Tryz.isAgg21
  z21 := Tryz.sizeOf21
  v21 := Tryz.zeroValue21
  t46 := Tryz.underlying132
  a46 := Tryz.isAgg132
  z46 := Tryz.sizeOf132
  v46 := Tryz.zeroValue132
  t105 := Tryz.underlying152
  a105 := Tryz.isAgg152
  z105 := Tryz.sizeOf152
  v105 := Tryz.zeroValue152
  t116 := Tryz.underlying163
  a116 := Tryz.isAgg163
  z116 := Tryz.sizeOf163
  t117 := Tryz.underlying164
  a117 := Tryz.isAgg164
  z117 := Tryz.sizeOf164
  v117 := Tryz.zeroValue164
  t119 := Tryz.underlying192
  a119 := Tryz.isAgg192
  z119 := Tryz.sizeOf192
  t124 := Tryz.underlying167
  a124 := Tryz.isAgg167
  z124 := Tryz.sizeOf167
  v124 := Tryz.zeroValue167
  t138 := Tryz.underlying194
  a138 := Tryz.isAgg194
  z138 := Tryz.sizeOf194
  v138 := Tryz.zeroValue194
  t139 := Tryz.underlying195
  a139 := Tryz.isAgg195
  z139 := Tryz.sizeOf195
  v139 := Tryz.zeroValue195
  g3 := by kernel_rfl
  g4 := by kernel_rfl }
open Go.RowKit in
/-- (*strings.Builder).Len: "Len returns the number of accumulated bytes; b.Len() == len(b.String()).": the world is as it was. (THE FORM '_f': 'Lib.IsBuilderF'.) (LAID: no walk: one application.) -/
theorem Tryz.Builder_Len_f (B b : Nat) (bs : List Value) (w : World) (h : Lib.IsBuilderF 101 5 B b bs w) :
    Calls Tryz.prog 61 #[.pointer (some ⟨b, 0, none⟩)] w fun e w' => e = .returned (.int .i64 bs.length) ∧ w' = w := Any.Builder_Len_f Tryz.lays170 B b bs w h
open Go.RowKit in
/-- (*strings.Builder).String: "String returns the accumulated string.": WHATEVER THE BUILDER HOLDS; THE FORM '_f': OF A BUILDER THAT MAY HAVE BEEN READ BEFORE; AND IT IS A BUILDER STILL, holding the same bytes: it can be written on. (LAID: no walk: one application.) -/
theorem Tryz.Builder_String_any_f (B b : Nat) (l : List UInt8) (w : World) (h : Lib.IsBuilderF 101 5 B b (Lib.byteCells l) w) (hBw : B ≤ w.heap.size) :
    Calls Tryz.prog 60 #[.pointer (some ⟨b, 0, none⟩)] w fun e w' => e = .returned (.string ⟨l.toArray⟩) ∧ (Lib.IsBuilderF 101 5 B b (Lib.byteCells l) w' ∧ Below B w w') := Any.Builder_String_any_f Tryz.lays169 Tryz.Builder_Extra_169 B b l w h hBw
def Tryz.laysC245_ren : Go.Shelf.Ren := ⟨fun | 245 => 149 | 279 => 164 | 280 => 165 | 281 => 166 | 282 => 167 | 316 => 171 | 171 => 173 | 205 => 172 | 243 => 174 | 246 => 175 | 283 => 112 | 284 => 113 | 285 => 114 | 286 => 115 | 129 => 135 | 317 => 141 | 318 => 142 | 319 => 143 | 320 => 144 | 337 => 158 | 338 => 159 | n => n, fun | 9 => 9 | 3 => 3 | 75 => 103 | 167 => 199 | 4 => 4 | 168 => 201 | 210 => 211 | 37 => 96 | 0 => 0 | 127 => 136 | 145 => 215 | 143 => 213 | 2 => 2 | 171 => 156 | 53 => 134 | 5 => 5 | 173 => 159 | 212 => 181 | 51 => 107 | 20 => 20 | 213 => 182 | 46 => 132 | 232 => 207 | 233 => 208 | 80 => 109 | n => n, fun | 15 => 6 | 16 => 7 | 17 => 1 | 18 => 4 | 19 => 5 | n => n⟩
theorem Tryz.laysC245 : Go.Proofs.LaysC.n245 Tryz.prog Tryz.laysC245_ren := {
  mixed := by kernel_rfl
  f129 := Tryz.func135.trans (congrArg some (by kernel_rfl))
  f171 := Tryz.func173.trans (congrArg some (by kernel_rfl))
  f205 := Tryz.func172.trans (congrArg some (by kernel_rfl))
  f243 := Tryz.func174.trans (congrArg some (by kernel_rfl))
  f245 := Tryz.func149.trans (congrArg some (by kernel_rfl))
  f246 := Tryz.func175.trans (congrArg some (by kernel_rfl))
  f279 := Tryz.func164.trans (congrArg some (by kernel_rfl))
  f280 := Tryz.func165.trans (congrArg some (by kernel_rfl))
  f281 := Tryz.func166.trans (congrArg some (by kernel_rfl))
  f282 := Tryz.func167.trans (congrArg some (by kernel_rfl))
  f283 := Tryz.func112.trans (congrArg some (by kernel_rfl))
  f284 := Tryz.func113.trans (congrArg some (by kernel_rfl))
  f285 := Tryz.func114.trans (congrArg some (by kernel_rfl))
  f286 := Tryz.func115.trans (congrArg some (by kernel_rfl))
  f316 := Tryz.func171.trans (congrArg some (by kernel_rfl))
  f317 := Tryz.func141.trans (congrArg some (by kernel_rfl))
  f318 := Tryz.func142.trans (congrArg some (by kernel_rfl))
  f319 := Tryz.func143.trans (congrArg some (by kernel_rfl))
  f320 := Tryz.func144.trans (congrArg some (by kernel_rfl))
  f337 := Tryz.func158.trans (congrArg some (by kernel_rfl))
  f338 := Tryz.func159.trans (congrArg some (by kernel_rfl))
  t0 := Tryz.underlying0
  a0 := Tryz.isAgg0
  z0 := Tryz.sizeOf0
  v0 := Tryz.zeroValue0
  t2 := Tryz.underlying2
  a2 := Tryz.isAgg2
  z2 := Tryz.sizeOf2
  v2 := Tryz.zeroValue2
  t3 := Tryz.underlying3
  a3 := Tryz.isAgg3
  z3 := Tryz.sizeOf3
  v3 := Tryz.zeroValue3
  t4 := Tryz.underlying4
  a4 := Tryz.isAgg4
  z4 := Tryz.sizeOf4
  v4 := Tryz.zeroValue4
  t5 := Tryz.underlying5
  a5 := Tryz.isAgg5
  z5 := Tryz.sizeOf5
  v5 := Tryz.zeroValue5
  t9 := Tryz.underlying9
  a9 := Tryz.isAgg9
  z9 := Tryz.sizeOf9
  v9 := Tryz.zeroValue9
  t20 := Tryz.underlying20
  a20 := Tryz.isAgg20
  z20 := Tryz.sizeOf20
  v20 := Tryz.zeroValue20
  t37 := Tryz.underlying96
  a37 := Tryz.isAgg96
  z37 := Tryz.sizeOf96
  v37 := Tryz.zeroValue96
  t46 := Tryz.underlying132
  a46 := Tryz.isAgg132
  z46 := Tryz.sizeOf132
  v46 := Tryz.zeroValue132
  t51 := Tryz.underlying107
  a51 := Tryz.isAgg107
  z51 := Tryz.sizeOf107
  v51 := Tryz.zeroValue107
  t53 := Tryz.underlying134
  a53 := Tryz.isAgg134
  z53 := Tryz.sizeOf134
  v53 := Tryz.zeroValue134
  t75 := Tryz.underlying103
  a75 := Tryz.isAgg103
  z75 := Tryz.sizeOf103
  v75 := Tryz.zeroValue103
  t127 := Tryz.underlying136
  a127 := Tryz.isAgg136
  z127 := Tryz.sizeOf136
  v127 := Tryz.zeroValue136
  t143 := Tryz.underlying213
  a143 := Tryz.isAgg213
  z143 := Tryz.sizeOf213
  v143 := Tryz.zeroValue213
  t145 := Tryz.underlying215
  a145 := Tryz.isAgg215
  z145 := Tryz.sizeOf215
  v145 := Tryz.zeroValue215
  t167 := Tryz.underlying199
  a167 := Tryz.isAgg199
  z167 := Tryz.sizeOf199
  v167 := Tryz.zeroValue199
  t168 := Tryz.underlying201
  a168 := Tryz.isAgg201
  z168 := Tryz.sizeOf201
  v168 := Tryz.zeroValue201
  t171 := Tryz.underlying156
  a171 := Tryz.isAgg156
  z171 := Tryz.sizeOf156
  v171 := Tryz.zeroValue156
  t173 := Tryz.underlying159
  a173 := Tryz.isAgg159
  z173 := Tryz.sizeOf159
  v173 := Tryz.zeroValue159
  t210 := Tryz.underlying211
  a210 := Tryz.isAgg211
  z210 := Tryz.sizeOf211
  v210 := Tryz.zeroValue211
  t212 := Tryz.underlying181
  a212 := Tryz.isAgg181
  z212 := Tryz.sizeOf181
  v212 := Tryz.zeroValue181
  t213 := Tryz.underlying182
  a213 := Tryz.isAgg182
  z213 := Tryz.sizeOf182
  t232 := Tryz.underlying207
  a232 := Tryz.isAgg207
  z232 := Tryz.sizeOf207
  v232 := Tryz.zeroValue207
  t233 := Tryz.underlying208
  a233 := Tryz.isAgg208
  z233 := Tryz.sizeOf208
  v233 := Tryz.zeroValue208
  g15 := by kernel_rfl
  g16 := by kernel_rfl
  g17 := by kernel_rfl
  g18 := by kernel_rfl
  g19 := by kernel_rfl
  t80 := Tryz.underlying109
  a80 := Tryz.isAgg109
  z80 := Tryz.sizeOf109
  v80 := Tryz.zeroValue109
  i0 := by kernel_rfl
  i2 := by kernel_rfl
  i3 := by kernel_rfl
  i4 := by kernel_rfl
  i5 := by kernel_rfl
  i9 := by kernel_rfl
  i20 := by kernel_rfl
  i37 := by kernel_rfl
  i46 := by kernel_rfl
  i51 := by kernel_rfl
  i53 := by kernel_rfl
  i75 := by kernel_rfl
  i80 := by kernel_rfl
  i127 := by kernel_rfl
  i143 := by kernel_rfl
  i145 := by kernel_rfl
  i167 := by kernel_rfl
  i168 := by kernel_rfl
  i171 := by kernel_rfl
  i173 := by kernel_rfl
  i210 := by kernel_rfl
  i212 := by kernel_rfl
  i232 := by kernel_rfl
  i233 := by kernel_rfl
  m15 := by kernel_rfl
  m16 := by kernel_rfl
  m17 := by kernel_rfl
  m18 := by kernel_rfl
  m19 := by kernel_rfl
  c0 := by kernel_rfl
  c2 := by kernel_rfl
  c3 := by kernel_rfl
  c4 := by kernel_rfl
  c5 := by kernel_rfl
  c9 := by kernel_rfl
  c20 := by kernel_rfl
  c37 := by kernel_rfl
  c46 := by kernel_rfl
  c51 := by kernel_rfl
  c53 := by kernel_rfl
  c75 := by kernel_rfl
  c80 := by kernel_rfl
  c127 := by kernel_rfl
  c143 := by kernel_rfl
  c145 := by kernel_rfl
  c167 := by kernel_rfl
  c168 := by kernel_rfl
  c171 := by kernel_rfl
  c173 := by kernel_rfl
  c210 := by kernel_rfl
  c212 := by kernel_rfl
  c213 := by kernel_rfl
  c232 := by kernel_rfl
  c233 := by kernel_rfl }
open Go.RowKit in
/-- strconv.toError, at the inner package's ErrSyntax: 'syntaxError(fn, s)' as an error: A *NumError IN A NEW BLOCK. (LAID: no walk: one application.) -/
theorem Tryz.strconv_toError_syntax (fn s : ByteArray) (base bits : Int) (ev : Value) (w : World) (hlim : s.size ≤ 281474976710656) (hv : w.cell? ⟨6, 0, none⟩ = some ev) (hev : ev = .nilIface ∨ ∃ te pe, ev = .iface te pe) :
    Calls Tryz.prog 149 #[.string fn, .string s, .int .i64 base, .int .i64 bits, .iface 199 (.int .i64 2)] w fun e w' => ∃ N, e = .returned (.iface 201 (.pointer (some ⟨N, 0, none⟩))) ∧ w.heap.size ≤ N ∧ w'.heap[N]? = some (.cells #[.string fn, .string s, ev] 211 (0, 0)) ∧ Below w.heap.size w w' := Any.strconv_toError_syntax Tryz.laysC245 fn s base bits ev w hlim hv hev
def Tryz.lays321_ren : Go.Shelf.Ren := ⟨fun | 321 => 162 | n => n, fun | 5 => 5 | n => n, fun | n => n⟩
theorem Tryz.lays321 : Go.Proofs.Lays.n321 Tryz.prog Tryz.lays321_ren := {
  mixed := by kernel_rfl
  f321 := Tryz.func162.trans (congrArg some (by kernel_rfl))
  t5 := Tryz.underlying5
  a5 := Tryz.isAgg5
  z5 := Tryz.sizeOf5
  v5 := Tryz.zeroValue5 }
open Go.RowKit in
/-- internal/strconv.lower: 'c | ('x' - 'X')': the bit 32 set. The world is as it was. (LAID: no walk: one application.) -/
theorem Tryz.internal_strconv_lower (c : Int) (w : World) :
    Calls Tryz.prog 162 #[.int .u8 c] w fun e w' => e = .returned (.int .u8 (bits .or .u8 c 32)) ∧ w' = w := Any.internal_strconv_lower Tryz.lays321 c w
def Tryz.lays145_ren : Go.Shelf.Ren := ⟨fun | 145 => 101 | 220 => 116 | 219 => 111 | 217 => 137 | 225 => 138 | 224 => 139 | 267 => 140 | 266 => 156 | 314 => 157 | n => n, fun | 9 => 9 | 4 => 4 | 59 => 144 | 3 => 3 | 5 => 5 | 46 => 132 | 146 => 196 | 51 => 107 | n => n, fun | 1 => 0 | n => n⟩
theorem Tryz.lays145 : Go.Proofs.Lays.n145 Tryz.prog Tryz.lays145_ren := {
  mixed := by kernel_rfl
  f145 := Tryz.func101.trans (congrArg some (by kernel_rfl))
  f217 := Tryz.func137.trans (congrArg some (by kernel_rfl))
  f219 := Tryz.func111.trans (congrArg some (by kernel_rfl))
  f220 := Tryz.func116.trans (congrArg some (by kernel_rfl))
  f224 := Tryz.func139.trans (congrArg some (by kernel_rfl))
  f225 := Tryz.func138.trans (congrArg some (by kernel_rfl))
  f266 := Tryz.func156.trans (congrArg some (by kernel_rfl))
  f267 := Tryz.func140.trans (congrArg some (by kernel_rfl))
  f314 := Tryz.func157.trans (congrArg some (by kernel_rfl))
  t3 := Tryz.underlying3
  a3 := Tryz.isAgg3
  z3 := Tryz.sizeOf3
  v3 := Tryz.zeroValue3
  t4 := Tryz.underlying4
  a4 := Tryz.isAgg4
  z4 := Tryz.sizeOf4
  v4 := Tryz.zeroValue4
  t5 := Tryz.underlying5
  a5 := Tryz.isAgg5
  z5 := Tryz.sizeOf5
  v5 := Tryz.zeroValue5
  t9 := Tryz.underlying9
  a9 := Tryz.isAgg9
  z9 := Tryz.sizeOf9
  v9 := Tryz.zeroValue9
  t46 := Tryz.underlying132
  a46 := Tryz.isAgg132
  z46 := Tryz.sizeOf132
  v46 := Tryz.zeroValue132
  t51 := Tryz.underlying107
  a51 := Tryz.isAgg107
  z51 := Tryz.sizeOf107
  v51 := Tryz.zeroValue107
  t59 := Tryz.underlying144
  a59 := Tryz.isAgg144
  z59 := Tryz.sizeOf144
  v59 := Tryz.zeroValue144
  t146 := Tryz.underlying196
  a146 := Tryz.isAgg196
  z146 := Tryz.sizeOf196
  v146 := Tryz.zeroValue196
  g1 := by kernel_rfl }
open Go.RowKit Go.Lib in
/-- strings.Cut: "Cut slices s around the first instance of sep, returning the text before and after sep. The found result reports whether sep appears in s. If sep does not appear in s, cut returns s, "", false.": IT RETURNS 'Lib.cut s sep'; the world is as it was but for the count of draws. (LAID: no walk: one application.) -/
theorem Tryz.strings_Cut (s sep : ByteArray) (m : Int) (w : World) (hs : s.size < 4294967281) (hm : w.cell? ⟨0, 0, none⟩ = some (.int .i64 m)) :
    Calls Tryz.prog 101 #[.string s, .string sep] w fun e w' => e = .returned (.tuple #[.string ⟨(Lib.cut s.data.toList sep.data.toList).1.toArray⟩, .string ⟨(Lib.cut s.data.toList sep.data.toList).2.1.toArray⟩, .bool (Lib.cut s.data.toList sep.data.toList).2.2]) ∧ ∃ n, w' = w.drewN n := Any.strings_Cut Tryz.lays145 s sep m w hs hm
def Tryz.lays99_ren : Go.Shelf.Ren := ⟨fun | 99 => 86 | 206 => 100 | n => n, fun | 9 => 9 | 4 => 4 | 3 => 3 | n => n, fun | n => n⟩
theorem Tryz.lays99 : Go.Proofs.Lays.n99 Tryz.prog Tryz.lays99_ren := {
  mixed := by kernel_rfl
  f99 := Tryz.func86.trans (congrArg some (by kernel_rfl))
  f206 := Tryz.func100.trans (congrArg some (by kernel_rfl))
  t3 := Tryz.underlying3
  a3 := Tryz.isAgg3
  z3 := Tryz.sizeOf3
  v3 := Tryz.zeroValue3
  t4 := Tryz.underlying4
  a4 := Tryz.isAgg4
  z4 := Tryz.sizeOf4
  v4 := Tryz.zeroValue4
  t9 := Tryz.underlying9
  a9 := Tryz.isAgg9
  z9 := Tryz.sizeOf9
  v9 := Tryz.zeroValue9 }
open Go.RowKit Go.Lib in
/-- strings.HasPrefix: "HasPrefix reports whether the string s begins with prefix.": IT RETURNS 'Lib.hasPrefix s prefix'; the world is as it was. (LAID: no walk: one application.) -/
theorem Tryz.strings_HasPrefix (s p : ByteArray) (w : World) :
    Calls Tryz.prog 86 #[.string s, .string p] w fun e w' => e = .returned (.bool (Lib.hasPrefix s.data.toList p.data.toList)) ∧ w' = w := Any.strings_HasPrefix Tryz.lays99 s p w
def Tryz.lays146_ren : Go.Shelf.Ren := ⟨fun | 146 => 55 | 221 => 79 | 268 => 95 | 138 => 96 | 143 => 97 | 195 => 108 | 197 => 109 | 218 => 110 | 219 => 111 | 260 => 136 | 217 => 137 | 225 => 138 | 224 => 139 | 267 => 140 | 266 => 156 | 314 => 157 | n => n, fun | 9 => 9 | 31 => 37 | 3 => 3 | 4 => 4 | 0 => 0 | 105 => 152 | 21 => 21 | 5 => 5 | 46 => 132 | 119 => 192 | 139 => 195 | 138 => 194 | 146 => 196 | 51 => 107 | n => n, fun | 1 => 0 | 3 => 2 | 4 => 3 | n => n⟩
theorem Tryz.lays146 : Go.Proofs.Lays.n146 Tryz.prog Tryz.lays146_ren := {
  mixed := by kernel_rfl
  f138 := Tryz.func96.trans (congrArg some (by kernel_rfl))
  f143 := Tryz.func97.trans (congrArg some (by kernel_rfl))
  f146 := Tryz.func55.trans (congrArg some (by kernel_rfl))
  f195 := Tryz.func108.trans (congrArg some (by kernel_rfl))
  f197 := Tryz.func109.trans (congrArg some (by kernel_rfl))
  f217 := Tryz.func137.trans (congrArg some (by kernel_rfl))
  f218 := Tryz.func110.trans (congrArg some (by kernel_rfl))
  f219 := Tryz.func111.trans (congrArg some (by kernel_rfl))
  f221 := Tryz.func79.trans (congrArg some (by kernel_rfl))
  f224 := Tryz.func139.trans (congrArg some (by kernel_rfl))
  f225 := Tryz.func138.trans (congrArg some (by kernel_rfl))
  f260 := Tryz.func136.trans (congrArg some (by kernel_rfl))
  f266 := Tryz.func156.trans (congrArg some (by kernel_rfl))
  f267 := Tryz.func140.trans (congrArg some (by kernel_rfl))
  f268 := Tryz.func95.trans (congrArg some (by kernel_rfl))
  f314 := Tryz.func157.trans (congrArg some (by kernel_rfl))
  t0 := Tryz.underlying0
  a0 := Tryz.isAgg0
  z0 := Tryz.sizeOf0
  v0 := Tryz.zeroValue0
  t3 := Tryz.underlying3
  a3 := Tryz.isAgg3
  z3 := Tryz.sizeOf3
  v3 := Tryz.zeroValue3
  t4 := Tryz.underlying4
  a4 := Tryz.isAgg4
  z4 := Tryz.sizeOf4
  v4 := Tryz.zeroValue4
  t5 := Tryz.underlying5
  a5 := Tryz.isAgg5
  z5 := Tryz.sizeOf5
  v5 := Tryz.zeroValue5
  t9 := Tryz.underlying9
  a9 := Tryz.isAgg9
  z9 := Tryz.sizeOf9
  v9 := Tryz.zeroValue9
  t21 := Tryz.underlying21
  a21 := Tryz.isAgg21
  z21 := Tryz.sizeOf21
  v21 := Tryz.zeroValue21
  t31 := Tryz.underlying37
  a31 := Tryz.isAgg37
  z31 := Tryz.sizeOf37
  v31 := Tryz.zeroValue37
  t46 := Tryz.underlying132
  a46 := Tryz.isAgg132
  z46 := Tryz.sizeOf132
  v46 := Tryz.zeroValue132
  t51 := Tryz.underlying107
  a51 := Tryz.isAgg107
  z51 := Tryz.sizeOf107
  v51 := Tryz.zeroValue107
  t105 := Tryz.underlying152
  a105 := Tryz.isAgg152
  z105 := Tryz.sizeOf152
  v105 := Tryz.zeroValue152
  t119 := Tryz.underlying192
  a119 := Tryz.isAgg192
  z119 := Tryz.sizeOf192
  t138 := Tryz.underlying194
  a138 := Tryz.isAgg194
  z138 := Tryz.sizeOf194
  v138 := Tryz.zeroValue194
  t139 := Tryz.underlying195
  a139 := Tryz.isAgg195
  z139 := Tryz.sizeOf195
  v139 := Tryz.zeroValue195
  t146 := Tryz.underlying196
  a146 := Tryz.isAgg196
  z146 := Tryz.sizeOf196
  v146 := Tryz.zeroValue196
  g1 := by kernel_rfl
  g3 := by kernel_rfl
  g4 := by kernel_rfl }
open Go.RowKit Go.Lib in
/-- strings.Split. (LAID: no walk: one application.) -/
theorem Tryz.strings_Split (s sep : ByteArray) (m : Int) (w : World) (hs : s.size < 4294967281) (hm : w.cell? ⟨0, 0, none⟩ = some (.int .i64 m)) (h1 : 1 ≤ sep.size) :
    Calls Tryz.prog 55 #[.string s, .string sep] w fun e w' =>
      e = .returned (.slice (some ⟨w.heap.size, 0, none⟩) (Lib.countB s sep + 1) (Lib.countB s sep + 1)) ∧ w' = w.alloc (.cells ((Lib.splitB sep 0 (Lib.countB s sep) s).map Value.string).toArray 9) := Any.strings_Split Tryz.lays146 (by kernel_rfl) s sep m w hs hm h1
def Tryz.laysSlM6_f93_ren : Go.Shelf.Ren := ⟨fun | 6 => 93 | 8 => 107 | 9 => 106 | 19 => 134 | 20 => 135 | 21 => 125 | 22 => 126 | 23 => 127 | 24 => 128 | 25 => 129 | 26 => 130 | 27 => 131 | 28 => 132 | 29 => 133 | 36 => 150 | 31 => 151 | 32 => 152 | 37 => 153 | 38 => 154 | 39 => 155 | 41 => 168 | n => n, fun | 27 => 37 | 29 => 9 | 3 => 3 | 32 => 132 | 26 => 37 | 0 => 0 | 44 => 107 | 46 => 134 | 4 => 4 | 36 => 172 | 35 => 171 | 41 => 176 | 5 => 5 | 9 => 9 | 53 => 186 | 57 => 190 | 63 => 204 | 64 => 205 | n => n, fun | n => n⟩
theorem Tryz.laysSlM6_f93 : Go.Proofs.SlLaysM.n6 Tryz.prog Tryz.laysSlM6_f93_ren := {
  mixed := by kernel_rfl
  f6 := ⟨Tryz.f93.name, by decide, Tryz.func93.trans (congrArg some (by kernel_rfl))⟩
  f8 := Tryz.func107.trans (congrArg some (by kernel_rfl))
  f9 := ⟨Tryz.f106.name, by decide, Tryz.func106.trans (congrArg some (by kernel_rfl))⟩
  f19 := Tryz.func134.trans (congrArg some (by kernel_rfl))
  f20 := Tryz.func135.trans (congrArg some (by kernel_rfl))
  f21 := ⟨Tryz.f125.name, by decide, Tryz.func125.trans (congrArg some (by kernel_rfl))⟩
  f22 := ⟨Tryz.f126.name, by decide, Tryz.func126.trans (congrArg some (by kernel_rfl))⟩
  f23 := ⟨Tryz.f127.name, by decide, Tryz.func127.trans (congrArg some (by kernel_rfl))⟩
  f24 := ⟨Tryz.f128.name, by decide, Tryz.func128.trans (congrArg some (by kernel_rfl))⟩
  f25 := ⟨Tryz.f129.name, by decide, Tryz.func129.trans (congrArg some (by kernel_rfl))⟩
  f26 := ⟨Tryz.f130.name, by decide, Tryz.func130.trans (congrArg some (by kernel_rfl))⟩
  f27 := ⟨Tryz.f131.name, by decide, Tryz.func131.trans (congrArg some (by kernel_rfl))⟩
  f28 := ⟨Tryz.f132.name, by decide, Tryz.func132.trans (congrArg some (by kernel_rfl))⟩
  f29 := ⟨Tryz.f133.name, by decide, Tryz.func133.trans (congrArg some (by kernel_rfl))⟩
  f31 := Tryz.func151.trans (congrArg some (by kernel_rfl))
  f32 := Tryz.func152.trans (congrArg some (by kernel_rfl))
  f36 := ⟨Tryz.f150.name, by decide, Tryz.func150.trans (congrArg some (by kernel_rfl))⟩
  f37 := ⟨Tryz.f153.name, by decide, Tryz.func153.trans (congrArg some (by kernel_rfl))⟩
  f38 := ⟨Tryz.f154.name, by decide, Tryz.func154.trans (congrArg some (by kernel_rfl))⟩
  f39 := ⟨Tryz.f155.name, by decide, Tryz.func155.trans (congrArg some (by kernel_rfl))⟩
  f41 := ⟨Tryz.f168.name, by decide, Tryz.func168.trans (congrArg some (by kernel_rfl))⟩
  t0 := Tryz.underlying0
  a0 := Tryz.isAgg0
  z0 := Tryz.sizeOf0
  v0 := Tryz.zeroValue0
  t3 := Tryz.underlying3
  a3 := Tryz.isAgg3
  z3 := Tryz.sizeOf3
  v3 := Tryz.zeroValue3
  t4 := Tryz.underlying4
  a4 := Tryz.isAgg4
  z4 := Tryz.sizeOf4
  v4 := Tryz.zeroValue4
  t5 := Tryz.underlying5
  a5 := Tryz.isAgg5
  z5 := Tryz.sizeOf5
  v5 := Tryz.zeroValue5
  t9 := Tryz.underlying9
  a9 := Tryz.isAgg9
  z9 := Tryz.sizeOf9
  v9 := Tryz.zeroValue9
  t26 := Tryz.underlying37
  a26 := Tryz.isAgg37
  z26 := Tryz.sizeOf37
  v26 := Tryz.zeroValue37
  t27 := Tryz.underlying37
  a27 := Tryz.isAgg37
  z27 := Tryz.sizeOf37
  v27 := Tryz.zeroValue37
  t29 := Tryz.underlying9
  a29 := Tryz.isAgg9
  z29 := Tryz.sizeOf9
  v29 := Tryz.zeroValue9
  t32 := Tryz.underlying132
  a32 := Tryz.isAgg132
  z32 := Tryz.sizeOf132
  v32 := Tryz.zeroValue132
  t35 := Tryz.underlying171
  a35 := Tryz.isAgg171
  z35 := Tryz.sizeOf171
  v35 := Tryz.zeroValue171
  t36 := Tryz.underlying172
  a36 := Tryz.isAgg172
  z36 := Tryz.sizeOf172
  v36 := Tryz.zeroValue172
  t41 := Tryz.underlying176
  a41 := Tryz.isAgg176
  z41 := Tryz.sizeOf176
  v41 := Tryz.zeroValue176
  t44 := Tryz.underlying107
  a44 := Tryz.isAgg107
  z44 := Tryz.sizeOf107
  v44 := Tryz.zeroValue107
  t46 := Tryz.underlying134
  a46 := Tryz.isAgg134
  z46 := Tryz.sizeOf134
  v46 := Tryz.zeroValue134
  t53 := Tryz.underlying186
  a53 := Tryz.isAgg186
  z53 := Tryz.sizeOf186
  v53 := Tryz.zeroValue186
  t57 := Tryz.underlying190
  a57 := Tryz.isAgg190
  z57 := Tryz.sizeOf190
  v57 := Tryz.zeroValue190
  t63 := Tryz.underlying204
  a63 := Tryz.isAgg204
  z63 := Tryz.sizeOf204
  v63 := Tryz.zeroValue204
  t64 := Tryz.underlying205
  a64 := Tryz.isAgg205
  z64 := Tryz.sizeOf205
  v64 := Tryz.zeroValue205 }
def Tryz.keysA_ren : Go.Shelf.Ren := ⟨fun | 7 => 78 | 10 => 94 | n => n, fun | 23 => 64 | 26 => 9 | 3 => 66 | 28 => 128 | 0 => 0 | 27 => 127 | 33 => 58 | 4 => 4 | n => n, fun | n => n⟩
theorem Tryz.keysA : Go.Proofs.SlLaysZ.n7 Tryz.prog Tryz.keysA_ren := {
  mixed := by kernel_rfl
  f7 := ⟨Tryz.f78.name, by decide, Tryz.func78.trans (congrArg some (by kernel_rfl))⟩
  f10 := ⟨Tryz.f94.name, by decide, Tryz.func94.trans (congrArg some (by kernel_rfl))⟩
  t0 := Tryz.underlying0
  a0 := Tryz.isAgg0
  z0 := Tryz.sizeOf0
  v0 := Tryz.zeroValue0
  t4 := Tryz.underlying4
  a4 := Tryz.isAgg4
  z4 := Tryz.sizeOf4
  v4 := Tryz.zeroValue4
  t23 := Tryz.underlying64
  a23 := Tryz.isAgg64
  z23 := Tryz.sizeOf64
  v23 := Tryz.zeroValue64
  t26 := Tryz.underlying9
  a26 := Tryz.isAgg9
  z26 := Tryz.sizeOf9
  v26 := Tryz.zeroValue9
  t27 := Tryz.underlying127
  a27 := Tryz.isAgg127
  z27 := Tryz.sizeOf127
  v27 := Tryz.zeroValue127
  t28 := Tryz.underlying128
  a28 := Tryz.isAgg128
  z28 := Tryz.sizeOf128
  v28 := Tryz.zeroValue128
  t33 := Tryz.underlying58
  a33 := Tryz.isAgg58
  z33 := Tryz.sizeOf58
  v33 := Tryz.zeroValue58 }
def Tryz.sortedA_ren : Go.Shelf.Ren := ⟨fun | 6 => 77 | 8 => 92 | 9 => 93 | 11 => 105 | 13 => 107 | 12 => 106 | 23 => 134 | 24 => 135 | 14 => 125 | 15 => 126 | 16 => 127 | 17 => 128 | 18 => 129 | 19 => 130 | 20 => 131 | 21 => 132 | 22 => 133 | 25 => 150 | 26 => 151 | 27 => 152 | 28 => 153 | 29 => 154 | 30 => 155 | 31 => 168 | n => n, fun | 26 => 9 | 28 => 128 | 24 => 37 | 0 => 0 | 3 => 3 | 37 => 132 | 48 => 107 | 50 => 134 | 4 => 4 | 40 => 172 | 39 => 171 | 45 => 176 | 5 => 5 | 9 => 9 | 51 => 186 | 55 => 190 | 57 => 204 | 58 => 205 | 33 => 58 | n => n, fun | n => n⟩
theorem Tryz.sortedA : Go.Proofs.SlLaysZ.n6 Tryz.prog Tryz.sortedA_ren := {
  mixed := by kernel_rfl
  f6 := ⟨Tryz.f77.name, by decide, Tryz.func77.trans (congrArg some (by kernel_rfl))⟩
  f8 := ⟨Tryz.f92.name, by decide, Tryz.func92.trans (congrArg some (by kernel_rfl))⟩
  f11 := ⟨Tryz.f105.name, by decide, Tryz.func105.trans (congrArg some (by kernel_rfl))⟩
  t0 := Tryz.underlying0
  a0 := Tryz.isAgg0
  z0 := Tryz.sizeOf0
  v0 := Tryz.zeroValue0
  t24 := Tryz.underlying37
  a24 := Tryz.isAgg37
  z24 := Tryz.sizeOf37
  v24 := Tryz.zeroValue37
  t26 := Tryz.underlying9
  a26 := Tryz.isAgg9
  z26 := Tryz.sizeOf9
  v26 := Tryz.zeroValue9
  t28 := Tryz.underlying128
  a28 := Tryz.isAgg128
  z28 := Tryz.sizeOf128
  v28 := Tryz.zeroValue128
  i26 := by kernel_rfl }
def Tryz.cloneM_ren : Go.Shelf.Ren := ⟨fun | 5 => 40 | 7 => 72 | n => n, fun | 23 => 64 | 25 => 9 | 3 => 66 | 4 => 4 | 20 => 20 | n => n, fun | n => n⟩
theorem Tryz.cloneM : Go.Proofs.SlLaysW.n5 Tryz.prog Tryz.cloneM_ren := {
  mixed := by kernel_rfl
  f5 := ⟨Tryz.f40.name, by decide, Tryz.func40.trans (congrArg some (by kernel_rfl))⟩
  f7 := Tryz.func72.trans (congrArg some (by kernel_rfl))
  t4 := Tryz.underlying4
  a4 := Tryz.isAgg4
  z4 := Tryz.sizeOf4
  v4 := Tryz.zeroValue4
  t20 := Tryz.underlying20
  a20 := Tryz.isAgg20
  z20 := Tryz.sizeOf20
  v20 := Tryz.zeroValue20
  t23 := Tryz.underlying64
  a23 := Tryz.isAgg64
  z23 := Tryz.sizeOf64
  v23 := Tryz.zeroValue64 }
end Go.Proofs
/- strconv.ParseUint(s, 16, 8) at a text of two bytes. -/
namespace Go.Proofs.YtgdanenhbjfhaaaGreatDoor.Hand
open Go.Shelf Go.RowKit
set_option linter.unusedVariables false
set_option linter.unusedSimpArgs false
def lowN (n : Nat) : Nat := if n / 32 % 2 = 1 then n else n + 32
theorem low_bits : ∀ n : Fin 256, bits .or .u8 ((n.val : Nat) : Int) 32 = ((lowN n.val : Nat) : Int) := by decide +kernel
theorem low_lt : ∀ n : Fin 256, lowN n.val < 256 := by decide +kernel
def hexv (c : UInt8) : Option Nat := if 48 ≤ c.toNat ∧ c.toNat ≤ 57 then some (c.toNat - 48) else if 97 ≤ lowN c.toNat ∧ lowN c.toNat ≤ 102 then some (lowN c.toNat - 87) else none
def hexG : Nat → List UInt8 → Option Nat
  | acc, [] => some acc
  | acc, c :: t => match hexv c with
    | some d => hexG (acc * 16 + d) t
    | none => none
def hexOut : Option Nat → Value
  | some n => .tuple #[.int .u64 n, .nilIface]
  | none => .tuple #[.int .u64 0, .iface 199 (.int .i64 2)]
theorem lower_walk (n : Nat) (h : n < 256) (w : World) : Calls Tryz.prog 162 #[.int .u8 n] w fun e w' => e = .returned (.int .u8 (lowN n)) ∧ w = w' := by
  refine (Tryz.internal_strconv_lower n w).mono ?_
  rintro e w' ⟨rfl, rfl⟩
  exact ⟨by rw [low_bits ⟨n, h⟩], rfl⟩
set_option maxHeartbeats 8000000 in
set_option maxRecDepth 100000 in
theorem parse16_in (t : ByteArray) (h2 : t.size = 2) (w : World) :
    Calls Tryz.prog 148 #[.string t, .int .i64 16, .int .i64 8] w fun e w' => e = .returned (hexOut (hexG 0 t.data.toList)) ∧ w' = Lib.bytesWorld w 5 t := by
  have hemp : t.toList.isEmpty = false := by
    rw [← decide_eq_emptyBytes]
    exact decide_eq_false (fun h => by rw [h] at h2; exact absurd h2 (by decide))
  have hcv := Lib.run_convert_string_bytes (P := Tryz.prog) w 9 96 5 t (u := .string) Tryz.underlying9 Tryz.underlying96 Tryz.underlying5
  have hB : ∀ j, j < t.size → (Lib.bytesWorld w 5 t).cell? ⟨w.heap.size, j, none⟩ = some (.int .u8 (t.data.toList.getD j 0).toNat) := fun j hj => Lib.bytesWorld_cell w 5 t j hj
  obtain ⟨W1, hW1⟩ : ∃ W1, W1 = Lib.bytesWorld w 5 t := ⟨_, rfl⟩
  rw [← hW1] at hcv hB ⊢
  clear hW1
  obtain ⟨bs, hL⟩ : ∃ bs, bs = t.data.toList := ⟨_, rfl⟩
  have hLn : bs.length = t.size := by rw [hL, Lib.size_eq]
  rw [← hL] at hB ⊢
  clear hL
  have hmv : IntKind.u64.wrap (IntKind.u64.wrap 256 - 1) = 255 := by
    rw [IntKind.wrap_u64, IntKind.wrap_u64]
    decide
  have hmax : t.size ≤ 2 := by omega
  have H2 := Lib.hid h2
  have HLn := Lib.hid hLn
  clear h2 hLn
  go_enter Tryz.func148, Tryz.ntmps148
  go_wp2
  go_loop [12, 13, 101] (fun vu vn vi => ∃ (k acc : Nat) (a : Int), vu = .bool false ∧ vn = .int .u64 a ∧ vi = .int .i64 k ∧ k ≤ t.size ∧ Hid (a = (acc : Int) ∧ acc < 16 ^ k ∧ hexG 0 bs = hexG acc (bs.drop k)))
    (fun _ _ vi => t.size - (intOf vi).toNat)
  case atStart => exact ⟨0, 0, 0, rfl, rfl, rfl, by omega, rfl, by simp, rfl⟩
  case round =>
    obtain ⟨k, acc, a, rfl, rfl, rfl, hk, hh⟩ := hrel
    obtain ⟨ha, hacc, hdec⟩ := hh.out
    clear hh
    by_cases hkn : k < t.size
    · have hLn := HLn.out
      have hc := hB k hkn
      have hdrop : bs.drop k = bs[k]'(by omega) :: bs.drop (k + 1) := List.drop_eq_getElem_cons (by omega)
      have hget : bs.getD k 0 = bs[k]'(by omega) := by simp [List.getD, List.getElem?_eq_getElem (show k < bs.length by omega)]
      rw [hdrop] at hdec
      rw [hget] at hc
      generalize bs[k]'(by omega) = c at hc hdec
      have hc256 : c.toNat < 256 := c.toNat_lt
      clear hB hdrop hget hLn
      have hacc2 : acc ≤ 15 := by
        have : k ≤ 1 := by omega
        rcases Nat.le_one_iff_eq_zero_or_eq_one.1 this with e | e <;> subst e <;> omega
      have hp : 16 ^ (k + 1) = 16 ^ k * 16 := Nat.pow_succ 16 k
      have a0 : 0 ≤ a := by omega
      have a1 : a ≤ 15 := by omega
      have icut : a < 1152921504606846976 := by omega
      obtain ⟨H, hH⟩ : ∃ H, Hid (hexG 0 bs = H) := ⟨_, Lib.hid rfl⟩
      rw [hH.out] at hdec ⊢
      by_cases hdig : 48 ≤ c.toNat ∧ c.toNat ≤ 57
      · have hv : hexv c = some (c.toNat - 48) := by unfold hexv; rw [if_pos hdig]
        obtain ⟨hd0, hd1⟩ := hdig
        have HN : Hid (a * 16 + ((c.toNat : Int) - 48) = ((acc * 16 + (c.toNat - 48) : Nat) : Int) ∧ acc * 16 + (c.toNat - 48) < 16 ^ (k + 1) ∧ H = hexG (acc * 16 + (c.toNat - 48)) (bs.drop (k + 1))) :=
          Lib.hid ⟨by omega, by omega, by rw [hdec, hexG, hv]⟩
        have iov : a * 16 + ((c.toNat : Int) - 48) ≤ 255 := by omega
        clear hdec ha hv hacc hacc2 hp
        generalize c.toNat = n at *
        go_wp2
        refine ⟨⟨k + 1, acc * 16 + (n - 48), a * 16 + ((n : Int) - 48), rfl, (by first | rfl | (congr 1; omega)), (by first | rfl | (congr 1; omega)), by omega, HN⟩, by simp [intOf]; omega⟩
      · have hm := low_lt ⟨c.toNat, hc256⟩
        simp only at hm
        by_cases hlet : 97 ≤ lowN c.toNat ∧ lowN c.toNat ≤ 102
        · have hv : hexv c = some (lowN c.toNat - 87) := by unfold hexv; rw [if_neg hdig, if_pos hlet]
          obtain ⟨hl0, hl1⟩ := hlet
          have HN : Hid (a * 16 + ((lowN c.toNat : Int) - 97 + 10) = ((acc * 16 + (lowN c.toNat - 87) : Nat) : Int) ∧ acc * 16 + (lowN c.toNat - 87) < 16 ^ (k + 1) ∧ H = hexG (acc * 16 + (lowN c.toNat - 87)) (bs.drop (k + 1))) :=
            Lib.hid ⟨by omega, by omega, by rw [hdec, hexG, hv]⟩
          have h95 : ((c.toNat : Int) == 95) = false := by
            rw [beq_eq_false_iff_ne]
            intro e
            have : c.toNat = 95 := by omega
            rw [this] at hl1
            exact absurd hl1 (by decide)
          clear hdec ha hv hacc hacc2 hp
          have hlow := fun w => lower_walk c.toNat hc256 w
          generalize lowN c.toNat = m at *
          generalize c.toNat = n at *
          have iov : a * 16 + ((m : Int) - 97 + 10) ≤ 255 := by omega
          have hlow := Lib.hid hlow
          go_wp2_with (go_at_call 162; refine (hlow.out _).mono ?_; rintro e w' ⟨rfl, rfl⟩)
          all_goals
            refine ⟨⟨k + 1, acc * 16 + (m - 87), a * 16 + ((m : Int) - 97 + 10), rfl, (by first | rfl | (congr 1; omega)), (by first | rfl | (congr 1; omega)), by omega, HN⟩, by simp [intOf]; omega⟩
        · have hv : hexv c = none := by unfold hexv; rw [if_neg hdig, if_neg hlet]
          have hF : H = none := by rw [hdec, hexG, hv]
          subst hF
          clear hdec ha hv hacc hacc2 hp
          by_cases h95 : c.toNat = 95
          · rw [h95] at hc
            have hlow : ∀ w, Calls Tryz.prog 162 #[.int .u8 95] w fun e w' => e = .returned (.int .u8 127) ∧ w = w' := fun w => lower_walk 95 (by decide) w
            have hlow := Lib.hid hlow
            clear h95 hlet hdig
            go_wp2_with (go_at_call 162; refine (hlow.out _).mono ?_; rintro e w' ⟨rfl, rfl⟩)
            all_goals go_ret2
            all_goals exact ⟨by rw [hH.out]; rfl, rfl⟩
          have h95' : ((c.toNat : Int) == 95) = false := by
            rw [beq_eq_false_iff_ne]
            omega
          have hlow := Lib.hid (fun w => lower_walk c.toNat hc256 w)
          generalize lowN c.toNat = m at *
          generalize c.toNat = n at *
          by_cases hz : 97 ≤ m ∧ m ≤ 122
          · obtain ⟨hz0, hz1⟩ := hz
            have hz2 : 103 ≤ m := by omega
            clear hlet
            go_wp2_with (go_at_call 162; refine (hlow.out _).mono ?_; rintro e w' ⟨rfl, rfl⟩)
            all_goals go_ret2
            all_goals exact ⟨by rw [hH.out]; rfl, rfl⟩
          · clear hlet
            go_wp2_with (go_at_call 162; refine (hlow.out _).mono ?_; rintro e w' ⟨rfl, rfl⟩)
            all_goals go_ret2
            all_goals exact ⟨by rw [hH.out]; rfl, rfl⟩
    · have hkk : k = t.size := by omega
      subst hkk
      have hF : hexG acc (bs.drop t.size) = some acc := by rw [List.drop_eq_nil_of_le (by have := HLn.out; omega)]; rfl
      rw [hF] at hdec
      subst ha
      clear hacc hF
      go_wp2
      go_ret2
      exact ⟨by first | rfl | (rw [hdec]; rfl), rfl⟩
end Go.Proofs.YtgdanenhbjfhaaaGreatDoor.Hand
