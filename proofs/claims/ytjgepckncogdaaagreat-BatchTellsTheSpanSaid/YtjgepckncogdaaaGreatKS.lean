/- Contracts of functions, walks, plain facts. Conditions: those of each theorem. -/
import Derived.Shelf.GgClosure.StringsRunes
import Derived.Shelf.Strings.Runes
import Derived.Shelf.Bits.Mul64
import Derived.Shelf.Strings.FuncGrows
import Derived.Shelf.Bytes.SlSearch0
import Derived.Shelf.Bytes.SlClone
import Derived.Shelf.Bytes.SlEqualAll
import Derived.Test.YtjgepckncogdaaaGreatProg
set_option linter.unusedVariables false
set_option linter.unusedSimpArgs false
set_option maxRecDepth 100000
set_option maxHeartbeats 16000000
namespace Go.Proofs
open Go.Shelf
def Tryz.lays119_ren:Go.Shelf.Ren:=⟨fun | 119=>296 | n=>n,fun | 21=>21 | 4=>4 | n=>n,fun | n=>n⟩
theorem Tryz.lays119:Go.Proofs.Lays.n119 prog Tryz.lays119_ren:={
  mixed:=by kernel_rfl
  f119:=func296.trans (congrArg some (by kernel_rfl))
  t4:=underlying4
  a4:=Tryz.isAgg4
  z4:=Tryz.sizeOf4
  v4:=Tryz.zeroValue4
  t21:=underlying21
  a21:=Tryz.isAgg21
  z21:=Tryz.sizeOf21
  v21:=Tryz.zeroValue21 }
theorem Tryz.utf8_ValidRune (r:Int) (w:World) :
    Calls prog 296 #[.int .i32 r] w fun e w'=>e=.returned (.bool (Lib.validRune r))/\w'=w:=Any.utf8_ValidRune Tryz.lays119 r w
def Tryz.lays128_ren:Go.Shelf.Ren:=⟨fun | 128=>302 | n=>n,fun | 51=>22 | 3=>3 | 4=>4 | 46=>198 | 5=>5 | 9=>9 | n=>n,fun | n=>n⟩
theorem Tryz.lays128:Go.Proofs.Lays.n128 prog Tryz.lays128_ren:={
  mixed:=by kernel_rfl
  f128:=func302.trans (congrArg some (by kernel_rfl))
  t3:=underlying3
  a3:=Tryz.isAgg3
  z3:=Tryz.sizeOf3
  v3:=Tryz.zeroValue3
  t4:=underlying4
  a4:=Tryz.isAgg4
  z4:=Tryz.sizeOf4
  v4:=Tryz.zeroValue4
  t5:=underlying5
  a5:=Tryz.isAgg5
  z5:=Tryz.sizeOf5
  v5:=Tryz.zeroValue5
  t9:=underlying9
  a9:=Tryz.isAgg9
  z9:=Tryz.sizeOf9
  v9:=Tryz.zeroValue9
  t46:=underlying198
  a46:=Tryz.isAgg198
  z46:=Tryz.sizeOf198
  v46:=Tryz.zeroValue198
  t51:=underlying22
  a51:=Tryz.isAgg22
  z51:=Tryz.sizeOf22
  v51:=Tryz.zeroValue22 }
theorem Tryz.bits_Len32 (x:Int) (w:World) (h0:0<=x) (h1:x<=4294967295) :
    Calls prog 302 #[.int .u32 x] w fun e w'=>e=.returned (.int .i64 (Lib.bitLen x.toNat))/\w'=w:=Any.bits_Len32 Tryz.lays128 x w h0 h1
def Tryz.lays125_ren:Go.Shelf.Ren:=⟨fun | 125=>287 | 128=>302 | 129=>303 | n=>n,fun | 46=>198 | 3=>3 | 51=>22 | 53=>123 | 4=>4 | 5=>5 | 9=>9 | n=>n,fun | n=>n⟩
theorem Tryz.lays125:Go.Proofs.Lays.n125 prog Tryz.lays125_ren:={
  mixed:=by kernel_rfl
  f125:=func287.trans (congrArg some (by kernel_rfl))
  f128:=func302.trans (congrArg some (by kernel_rfl))
  f129:=func303.trans (congrArg some (by kernel_rfl))
  t3:=underlying3
  a3:=Tryz.isAgg3
  z3:=Tryz.sizeOf3
  v3:=Tryz.zeroValue3
  t4:=underlying4
  a4:=Tryz.isAgg4
  z4:=Tryz.sizeOf4
  v4:=Tryz.zeroValue4
  t5:=underlying5
  a5:=Tryz.isAgg5
  z5:=Tryz.sizeOf5
  v5:=Tryz.zeroValue5
  t9:=underlying9
  a9:=Tryz.isAgg9
  z9:=Tryz.sizeOf9
  v9:=Tryz.zeroValue9
  t46:=underlying198
  a46:=Tryz.isAgg198
  z46:=Tryz.sizeOf198
  v46:=Tryz.zeroValue198
  t51:=underlying22
  a51:=Tryz.isAgg22
  z51:=Tryz.sizeOf22
  v51:=Tryz.zeroValue22
  t53:=underlying123
  a53:=Tryz.isAgg123
  z53:=Tryz.sizeOf123
  v53:=Tryz.zeroValue123 }
theorem Tryz.bits_Len (x:Int) (w:World) (h0:0<=x) (h1:x<=18446744073709551615) :
    Calls prog 287 #[.int .u64 x] w fun e w'=>e=.returned (.int .i64 (Lib.bitLen x.toNat))/\w'=w:=Any.bits_Len Tryz.lays125 x w h0 h1
def Tryz.lays134_ren:Go.Shelf.Ren:=⟨fun | 134=>299 | 129=>303 | n=>n,fun | 53=>123 | 3=>3 | 4=>4 | 46=>198 | 5=>5 | 9=>9 | n=>n,fun | n=>n⟩
theorem Tryz.lays134:Go.Proofs.Lays.n134 prog Tryz.lays134_ren:={
  mixed:=by kernel_rfl
  f129:=func303.trans (congrArg some (by kernel_rfl))
  f134:=func299.trans (congrArg some (by kernel_rfl))
  t3:=underlying3
  a3:=Tryz.isAgg3
  z3:=Tryz.sizeOf3
  v3:=Tryz.zeroValue3
  t4:=underlying4
  a4:=Tryz.isAgg4
  z4:=Tryz.sizeOf4
  v4:=Tryz.zeroValue4
  t5:=underlying5
  a5:=Tryz.isAgg5
  z5:=Tryz.sizeOf5
  v5:=Tryz.zeroValue5
  t9:=underlying9
  a9:=Tryz.isAgg9
  z9:=Tryz.sizeOf9
  v9:=Tryz.zeroValue9
  t46:=underlying198
  a46:=Tryz.isAgg198
  z46:=Tryz.sizeOf198
  v46:=Tryz.zeroValue198
  t53:=underlying123
  a53:=Tryz.isAgg123
  z53:=Tryz.sizeOf123
  v53:=Tryz.zeroValue123 }
theorem Tryz.bits_LeadingZeros64 (x:Int) (w:World) (h0:0<=x) (h1:x<=18446744073709551615) :
    Calls prog 299 #[.int .u64 x] w fun e w'=>e=.returned (.int .i64 (64 - (Lib.bitLen x.toNat:Int)))/\w'=w:=Any.bits_LeadingZeros64 Tryz.lays134 x w h0 h1
def Tryz.lays137_ren:Go.Shelf.Ren:=⟨fun | 137=>295 | 217=>306 | 266=>316 | n=>n,fun | 9=>9 | 5=>5 | 3=>3 | n=>n,fun | n=>n⟩
theorem Tryz.lays137:Go.Proofs.Lays.n137 prog Tryz.lays137_ren:={
  mixed:=by kernel_rfl
  f137:=func295.trans (congrArg some (by kernel_rfl))
  f217:=func306.trans (congrArg some (by kernel_rfl))
  f266:=func316.trans (congrArg some (by kernel_rfl))
  t3:=underlying3
  a3:=Tryz.isAgg3
  z3:=Tryz.sizeOf3
  v3:=Tryz.zeroValue3
  t5:=underlying5
  a5:=Tryz.isAgg5
  z5:=Tryz.sizeOf5
  v5:=Tryz.zeroValue5
  t9:=underlying9
  a9:=Tryz.isAgg9
  z9:=Tryz.sizeOf9
  v9:=Tryz.zeroValue9 }
open Go.RowKit in
theorem Tryz.strings_IndexByte (s:ByteArray) (c:Int) (w:World) :
    Calls prog 295 #[.string s,.int .u8 c] w fun e w'=>e=.returned (.int .i64 (Lib.indexByte s.data.toList c.toNat.toUInt8))/\w'=w:=Any.strings_IndexByte Tryz.lays137 s c w
def Tryz.lays129_ren:Go.Shelf.Ren:=⟨fun | 129=>303 | n=>n,fun | 53=>123 | 3=>3 | 4=>4 | 46=>198 | 5=>5 | 9=>9 | n=>n,fun | n=>n⟩
theorem Tryz.lays129:Go.Proofs.Lays.n129 prog Tryz.lays129_ren:={
  mixed:=by kernel_rfl
  f129:=func303.trans (congrArg some (by kernel_rfl))
  t3:=underlying3
  a3:=Tryz.isAgg3
  z3:=Tryz.sizeOf3
  v3:=Tryz.zeroValue3
  t4:=underlying4
  a4:=Tryz.isAgg4
  z4:=Tryz.sizeOf4
  v4:=Tryz.zeroValue4
  t5:=underlying5
  a5:=Tryz.isAgg5
  z5:=Tryz.sizeOf5
  v5:=Tryz.zeroValue5
  t9:=underlying9
  a9:=Tryz.isAgg9
  z9:=Tryz.sizeOf9
  v9:=Tryz.zeroValue9
  t46:=underlying198
  a46:=Tryz.isAgg198
  z46:=Tryz.sizeOf198
  v46:=Tryz.zeroValue198
  t53:=underlying123
  a53:=Tryz.isAgg123
  z53:=Tryz.sizeOf123
  v53:=Tryz.zeroValue123 }
theorem Tryz.bits_Len64 (x:Int) (w:World) (h0:0<=x) (h1:x<=18446744073709551615) :
    Calls prog 303 #[.int .u64 x] w fun e w'=>e=.returned (.int .i64 (Lib.bitLen x.toNat))/\w'=w:=Any.bits_Len64 Tryz.lays129 x w h0 h1
def Tryz.lays217_ren:Go.Shelf.Ren:=⟨fun | 217=>306 | 266=>316 | n=>n,fun | 9=>9 | 5=>5 | 3=>3 | n=>n,fun | n=>n⟩
theorem Tryz.lays217:Go.Proofs.Lays.n217 prog Tryz.lays217_ren:={
  mixed:=by kernel_rfl
  f217:=func306.trans (congrArg some (by kernel_rfl))
  f266:=func316.trans (congrArg some (by kernel_rfl))
  t3:=underlying3
  a3:=Tryz.isAgg3
  z3:=Tryz.sizeOf3
  v3:=Tryz.zeroValue3
  t5:=underlying5
  a5:=Tryz.isAgg5
  z5:=Tryz.sizeOf5
  v5:=Tryz.zeroValue5
  t9:=underlying9
  a9:=Tryz.isAgg9
  z9:=Tryz.sizeOf9
  v9:=Tryz.zeroValue9 }
open Go.RowKit Go.Lib in
theorem Tryz.stringslite_IndexByte (s:ByteArray) (c:Int) (w:World) :
    Calls prog 306 #[.string s,.int .u8 c] w fun e w'=>e=.returned (.int .i64 (Lib.indexByte s.data.toList c.toNat.toUInt8))/\w'=w:=Any.stringslite_IndexByte Tryz.lays217 s c w
def Tryz.lays224_ren:Go.Shelf.Ren:=⟨fun | 224=>297 | n=>n,fun | 3=>3 | n=>n,fun | n=>n⟩
theorem Tryz.lays224:Go.Proofs.Lays.n224 prog Tryz.lays224_ren:={
  mixed:=by kernel_rfl
  f224:=func297.trans (congrArg some (by kernel_rfl))
  t3:=underlying3
  a3:=Tryz.isAgg3
  z3:=Tryz.sizeOf3
  v3:=Tryz.zeroValue3 }
open Go.RowKit Go.Lib in
theorem Tryz.bytealg_Cutover (n:Int) (h0:0<=n) (h1:n<4611686018427387904) (w:World) :
    Calls prog 297 #[.int .i64 n] w fun e w'=>e=.returned (.int .i64 ((n+16) / 8))/\w'=w:=Any.bytealg_Cutover Tryz.lays224 n h0 h1 w
def Tryz.lays315_ren:Go.Shelf.Ren:=⟨fun | 315=>294 | n=>n,fun | 9=>9 | 40=>271 | 4=>4 | 3=>3 | 0=>0 | 21=>21 | n=>n,fun | n=>n⟩
theorem Tryz.lays315:Go.Proofs.Lays.n315 prog Tryz.lays315_ren:={
  mixed:=by kernel_rfl
  f315:=func294.trans (congrArg some (by kernel_rfl))
  t0:=underlying0
  a0:=Tryz.isAgg0
  z0:=Tryz.sizeOf0
  v0:=Tryz.zeroValue0
  t3:=underlying3
  a3:=Tryz.isAgg3
  z3:=Tryz.sizeOf3
  v3:=Tryz.zeroValue3
  t4:=underlying4
  a4:=Tryz.isAgg4
  z4:=Tryz.sizeOf4
  v4:=Tryz.zeroValue4
  t9:=underlying9
  a9:=Tryz.isAgg9
  z9:=Tryz.sizeOf9
  v9:=Tryz.zeroValue9
  t21:=underlying21
  a21:=Tryz.isAgg21
  z21:=Tryz.sizeOf21
  v21:=Tryz.zeroValue21
  t40:=underlying271
  a40:=Tryz.isAgg271
  z40:=Tryz.sizeOf271
  v40:=Tryz.zeroValue271 }
open Go.RowKit Go.Lib in
theorem Tryz.strings_indexFunc (g:Nat) (lb:Array Value) (eg:∀args w,(callFunc g args).run prog w=.ok (.enter g args) w) (p:Nat->Bool) (truth:Bool) (s:ByteArray) (w:World) (hp:PredAt prog g lb encR p w) :
    Calls prog 294 #[.string s,.func (.func g) #[] lb,.bool truth] w fun e w'=>e=.returned (.int .i64 (Lib.idxFunc p truth s))/\Below w.heap.size w w':=Any.strings_indexFunc Tryz.lays315 g lb eg p truth s w hp
def Tryz.laysGw15_ren:Go.Shelf.Ren:=⟨fun | 15=>277 | 20=>294 | n=>n,fun | 9=>9 | 23=>271 | 3=>3 | 4=>4 | 0=>0 | 21=>21 | n=>n,fun | n=>n⟩
theorem Tryz.laysGw15:Go.Proofs.LaysGw.n15 prog Tryz.laysGw15_ren:={
  mixed:=by kernel_rfl
  f15:=func277.trans (congrArg some (by kernel_rfl))
  f20:=func294.trans (congrArg some (by kernel_rfl))
  t0:=underlying0
  a0:=Tryz.isAgg0
  z0:=Tryz.sizeOf0
  v0:=Tryz.zeroValue0
  i0:=by kernel_rfl
  t3:=underlying3
  a3:=Tryz.isAgg3
  z3:=Tryz.sizeOf3
  v3:=Tryz.zeroValue3
  i3:=by kernel_rfl
  t4:=underlying4
  a4:=Tryz.isAgg4
  z4:=Tryz.sizeOf4
  v4:=Tryz.zeroValue4
  i4:=by kernel_rfl
  t9:=underlying9
  a9:=Tryz.isAgg9
  z9:=Tryz.sizeOf9
  v9:=Tryz.zeroValue9
  i9:=by kernel_rfl
  t21:=underlying21
  a21:=Tryz.isAgg21
  z21:=Tryz.sizeOf21
  v21:=Tryz.zeroValue21
  i21:=by kernel_rfl
  t23:=underlying271
  a23:=Tryz.isAgg271
  z23:=Tryz.sizeOf271
  v23:=Tryz.zeroValue271
  i23:=by kernel_rfl }
open Go.RowKit Go.Lib in
theorem Tryz.strings_IndexFunc (g:Nat) (lb:Array Value) (eg:∀args w,(callFunc g args).run prog w=.ok (.enter g args) w) (p:Nat->Bool) (s:ByteArray) (w:World) (hp:PredAt prog g lb encR p w) :
    Calls prog 277 #[.string s,.func (.func g) #[] lb] w fun e w'=>e=.returned (.int .i64 (Lib.idxFunc p true s))/\Below w.heap.size w w':=Any.strings_IndexFunc Tryz.laysGw15 g lb eg p s w hp
def Tryz.laysGw17_ren:Go.Shelf.Ren:=⟨fun | 17=>238 | 15=>277 | 20=>294 | n=>n,fun | 9=>9 | 23=>271 | 4=>4 | 3=>3 | 0=>0 | 21=>21 | n=>n,fun | n=>n⟩
theorem Tryz.laysGw17:Go.Proofs.LaysGw.n17 prog Tryz.laysGw17_ren:={
  mixed:=by kernel_rfl
  f15:=func277.trans (congrArg some (by kernel_rfl))
  f17:=func238.trans (congrArg some (by kernel_rfl))
  f20:=func294.trans (congrArg some (by kernel_rfl))
  t0:=underlying0
  a0:=Tryz.isAgg0
  z0:=Tryz.sizeOf0
  v0:=Tryz.zeroValue0
  i0:=by kernel_rfl
  t3:=underlying3
  a3:=Tryz.isAgg3
  z3:=Tryz.sizeOf3
  v3:=Tryz.zeroValue3
  i3:=by kernel_rfl
  t4:=underlying4
  a4:=Tryz.isAgg4
  z4:=Tryz.sizeOf4
  v4:=Tryz.zeroValue4
  i4:=by kernel_rfl
  t9:=underlying9
  a9:=Tryz.isAgg9
  z9:=Tryz.sizeOf9
  v9:=Tryz.zeroValue9
  i9:=by kernel_rfl
  t21:=underlying21
  a21:=Tryz.isAgg21
  z21:=Tryz.sizeOf21
  v21:=Tryz.zeroValue21
  i21:=by kernel_rfl
  t23:=underlying271
  a23:=Tryz.isAgg271
  z23:=Tryz.sizeOf271
  v23:=Tryz.zeroValue271
  i23:=by kernel_rfl }
open Go.RowKit Go.Lib in
theorem Tryz.strings_ContainsFunc (g:Nat) (lb:Array Value) (eg:∀args w,(callFunc g args).run prog w=.ok (.enter g args) w) (p:Nat->Bool) (s:ByteArray) (w:World) (hp:PredAt prog g lb encR p w) :
    Calls prog 238 #[.string s,.func (.func g) #[] lb] w fun e w'=>e=.returned (.bool (decide (0<=Lib.idxFunc p true s)))/\Below w.heap.size w w':=Any.strings_ContainsFunc Tryz.laysGw17 g lb eg p s w hp
open Go.RowKit Go.Lib in
theorem Tryz.strings_indexFunc_runes (g:Nat) (lb:Array Value) (eg:∀args w,(callFunc g args).run prog w=.ok (.enter g args) w) (p:Nat->Bool) (truth:Bool) (s:ByteArray) (w:World) (hp:PredAtRunes prog g lb p w) :
    Calls prog 294 #[.string s,.func (.func g) #[] lb,.bool truth] w fun e w'=>e=.returned (.int .i64 (Lib.idxFunc p truth s))/\Below w.heap.size w w':=Any.strings_indexFunc_runes Tryz.lays315 g lb eg p truth s w hp
open Go.RowKit Go.Lib in
theorem Tryz.strings_IndexFunc_runes (g:Nat) (lb:Array Value) (eg:∀args w,(callFunc g args).run prog w=.ok (.enter g args) w) (p:Nat->Bool) (s:ByteArray) (w:World) (hp:PredAtRunes prog g lb p w) :
    Calls prog 277 #[.string s,.func (.func g) #[] lb] w fun e w'=>e=.returned (.int .i64 (Lib.idxFunc p true s))/\Below w.heap.size w w':=Any.strings_IndexFunc_runes Tryz.laysGw15 g lb eg p s w hp
open Go.RowKit Go.Lib in
theorem Tryz.strings_ContainsFunc_runes (g:Nat) (lb:Array Value) (eg:∀args w,(callFunc g args).run prog w=.ok (.enter g args) w) (p:Nat->Bool) (s:ByteArray) (w:World) (hp:PredAtRunes prog g lb p w) :
    Calls prog 238 #[.string s,.func (.func g) #[] lb] w fun e w'=>e=.returned (.bool (decide (0<=Lib.idxFunc p true s)))/\Below w.heap.size w w':=Any.strings_ContainsFunc_runes Tryz.laysGw17 g lb eg p s w hp
def Tryz.lays152_ren:Go.Shelf.Ren:=⟨fun | 152=>278 | 137=>295 | 119=>296 | 224=>297 | 225=>298 | 217=>306 | 266=>316 | n=>n,fun | 9=>9 | 21=>21 | 3=>3 | 4=>4 | 5=>5 | 0=>0 | 46=>198 | n=>n,fun | n=>n⟩
theorem Tryz.lays152:Go.Proofs.Lays.n152 prog Tryz.lays152_ren:={
  mixed:=by kernel_rfl
  f119:=func296.trans (congrArg some (by kernel_rfl))
  f137:=func295.trans (congrArg some (by kernel_rfl))
  f152:=func278.trans (congrArg some (by kernel_rfl))
  f217:=func306.trans (congrArg some (by kernel_rfl))
  f224:=func297.trans (congrArg some (by kernel_rfl))
  f225:=func298.trans (congrArg some (by kernel_rfl))
  f266:=func316.trans (congrArg some (by kernel_rfl))
  t0:=underlying0
  a0:=Tryz.isAgg0
  z0:=Tryz.sizeOf0
  v0:=Tryz.zeroValue0
  t3:=underlying3
  a3:=Tryz.isAgg3
  z3:=Tryz.sizeOf3
  v3:=Tryz.zeroValue3
  t4:=underlying4
  a4:=Tryz.isAgg4
  z4:=Tryz.sizeOf4
  v4:=Tryz.zeroValue4
  t5:=underlying5
  a5:=Tryz.isAgg5
  z5:=Tryz.sizeOf5
  v5:=Tryz.zeroValue5
  t9:=underlying9
  a9:=Tryz.isAgg9
  z9:=Tryz.sizeOf9
  v9:=Tryz.zeroValue9
  t21:=underlying21
  a21:=Tryz.isAgg21
  z21:=Tryz.sizeOf21
  v21:=Tryz.zeroValue21
  t46:=underlying198
  a46:=Tryz.isAgg198
  z46:=Tryz.sizeOf198
  v46:=Tryz.zeroValue198 }
open Go.RowKit Go.Lib in
theorem Tryz.strings_IndexRune_ascii (s:ByteArray) (r:Int) (w:World) (h0:0<=r) (h1:r<128) :
    Calls prog 278 #[.string s,.int .i32 r] w fun e w'=>e=.returned (.int .i64 (Lib.indexByte s.data.toList r.toNat.toUInt8))/\w'=w:=Any.strings_IndexRune_ascii Tryz.lays152 s r w h0 h1
def Tryz.lays151_ren:Go.Shelf.Ren:=⟨fun | 151=>240 | 152=>278 | 137=>295 | 119=>296 | 224=>297 | 225=>298 | 217=>306 | 266=>316 | n=>n,fun | 9=>9 | 21=>21 | 4=>4 | 3=>3 | 5=>5 | 0=>0 | 46=>198 | n=>n,fun | n=>n⟩
theorem Tryz.lays151:Go.Proofs.Lays.n151 prog Tryz.lays151_ren:={
  mixed:=by kernel_rfl
  f119:=func296.trans (congrArg some (by kernel_rfl))
  f137:=func295.trans (congrArg some (by kernel_rfl))
  f151:=func240.trans (congrArg some (by kernel_rfl))
  f152:=func278.trans (congrArg some (by kernel_rfl))
  f217:=func306.trans (congrArg some (by kernel_rfl))
  f224:=func297.trans (congrArg some (by kernel_rfl))
  f225:=func298.trans (congrArg some (by kernel_rfl))
  f266:=func316.trans (congrArg some (by kernel_rfl))
  t0:=underlying0
  a0:=Tryz.isAgg0
  z0:=Tryz.sizeOf0
  v0:=Tryz.zeroValue0
  t3:=underlying3
  a3:=Tryz.isAgg3
  z3:=Tryz.sizeOf3
  v3:=Tryz.zeroValue3
  t4:=underlying4
  a4:=Tryz.isAgg4
  z4:=Tryz.sizeOf4
  v4:=Tryz.zeroValue4
  t5:=underlying5
  a5:=Tryz.isAgg5
  z5:=Tryz.sizeOf5
  v5:=Tryz.zeroValue5
  t9:=underlying9
  a9:=Tryz.isAgg9
  z9:=Tryz.sizeOf9
  v9:=Tryz.zeroValue9
  t21:=underlying21
  a21:=Tryz.isAgg21
  z21:=Tryz.sizeOf21
  v21:=Tryz.zeroValue21
  t46:=underlying198
  a46:=Tryz.isAgg198
  z46:=Tryz.sizeOf198
  v46:=Tryz.zeroValue198 }
open Go.RowKit Go.Lib in
theorem Tryz.strings_ContainsRune_ascii (s:ByteArray) (r:Int) (w:World) (h0:0<=r) (h1:r<128) :
    Calls prog 240 #[.string s,.int .i32 r] w fun e w'=>e=.returned (.bool (decide (0<=Lib.indexByte s.data.toList r.toNat.toUInt8)))/\w'=w:=Any.strings_ContainsRune_ascii Tryz.lays151 s r w h0 h1
def Tryz.lays264_ren:Go.Shelf.Ren:=⟨fun | 264=>280 | n=>n,fun | 53=>123 | 46=>198 | n=>n,fun | n=>n⟩
theorem Tryz.lays264:Go.Proofs.Lays.n264 prog Tryz.lays264_ren:={
  mixed:=by kernel_rfl
  f264:=func280.trans (congrArg some (by kernel_rfl))
  t46:=underlying198
  a46:=Tryz.isAgg198
  z46:=Tryz.sizeOf198
  v46:=Tryz.zeroValue198
  t53:=underlying123
  a53:=Tryz.isAgg123
  z53:=Tryz.sizeOf123
  v53:=Tryz.zeroValue123 }
open Go.RowKit Go.Lib in
theorem Tryz.bits_Mul64 (x y:Nat) (hx:x<18446744073709551616) (hy:y<18446744073709551616) (w:World) :
    Calls prog 280 #[.int .u64 x,.int .u64 y] w fun e w'=>e=.returned (.tuple #[.int .u64 ((x * y / 18446744073709551616:Nat):Int),.int .u64 ((x * y % 18446744073709551616:Nat):Int)])/\w'=w:=Any.bits_Mul64 Tryz.lays264 x y hx hy w
open Go.RowKit Go.Lib in
theorem Tryz.strings_indexFunc_grows (g:Nat) (lb:Array Value) (eg:∀args w,(callFunc g args).run prog w=.ok (.enter g args) w) (p:Nat->Bool) (truth:Bool) (s:ByteArray) (w:World) (hp:PredGrows prog g lb p w) :
    Calls prog 294 #[.string s,.func (.func g) #[] lb,.bool truth] w fun e w'=>e=.returned (.int .i64 (Lib.idxFunc p truth s))/\Below w.heap.size w w':=Any.strings_indexFunc_grows Tryz.lays315 g lb eg p truth s w hp
open Go.RowKit Go.Lib in
theorem Tryz.strings_IndexFunc_grows (g:Nat) (lb:Array Value) (eg:∀args w,(callFunc g args).run prog w=.ok (.enter g args) w) (p:Nat->Bool) (s:ByteArray) (w:World) (hp:PredGrows prog g lb p w) :
    Calls prog 277 #[.string s,.func (.func g) #[] lb] w fun e w'=>e=.returned (.int .i64 (Lib.idxFunc p true s))/\Below w.heap.size w w':=Any.strings_IndexFunc_grows Tryz.laysGw15 g lb eg p s w hp
open Go.RowKit Go.Lib in
theorem Tryz.strings_ContainsFunc_grows (g:Nat) (lb:Array Value) (eg:∀args w,(callFunc g args).run prog w=.ok (.enter g args) w) (p:Nat->Bool) (s:ByteArray) (w:World) (hp:PredGrows prog g lb p w) :
    Calls prog 238 #[.string s,.func (.func g) #[] lb] w fun e w'=>e=.returned (.bool (decide (0<=Lib.idxFunc p true s)))/\Below w.heap.size w w':=Any.strings_ContainsFunc_grows Tryz.laysGw17 g lb eg p s w hp
def Tryz.lays115_ren:Go.Shelf.Ren:=⟨fun | 115=>88 | n=>n,fun | 37=>25 | 4=>4 | 9=>9 | 5=>5 | n=>n,fun | n=>n⟩
theorem Tryz.lays115:Go.Proofs.Lays.n115 prog Tryz.lays115_ren:={
  mixed:=by kernel_rfl
  f115:=func88.trans (congrArg some (by kernel_rfl))
  t4:=underlying4
  a4:=Tryz.isAgg4
  z4:=Tryz.sizeOf4
  v4:=Tryz.zeroValue4
  t9:=underlying9
  a9:=Tryz.isAgg9
  z9:=Tryz.sizeOf9
  v9:=Tryz.zeroValue9
  t37:=underlying25
  a37:=Tryz.isAgg25
  z37:=Tryz.sizeOf25
  v37:=Tryz.zeroValue25 }
open Go.Proofs Go.RowKit Go.Lib in
theorem Tryz.bytes_Equal_strs (v1 v2:Value) (t1 t2:ByteArray) (w:World) (h1:(convert 25 9 v1).run prog w=.ok (.string t1) w) (h2:(convert 25 9 v2).run prog w=.ok (.string t2) w) :
    Calls prog 88 #[v1,v2] w fun e w'=>e=.returned (.bool (t1.toList == t2.toList))/\w'=w:=Any.bytes_Equal_strs Tryz.lays115 v1 v2 t1 t2 w h1 h2
def Tryz.laysSlK4_ren:Go.Shelf.Ren:=⟨fun | 4=>92 | n=>n,fun | 22=>25 | 4=>4 | 5=>5 | n=>n,fun | n=>n⟩
theorem Tryz.laysSlK4:Go.Proofs.SlLaysK.n4 prog Tryz.laysSlK4_ren:={
  mixed:=by kernel_rfl
  f4:=func92.trans (congrArg some (by kernel_rfl))
  t4:=underlying4
  a4:=Tryz.isAgg4
  z4:=Tryz.sizeOf4
  v4:=Tryz.zeroValue4
  t22:=underlying25
  a22:=Tryz.isAgg25
  z22:=Tryz.sizeOf25
  v22:=Tryz.zeroValue25
  t5:=underlying5
  i5:=by kernel_rfl }
open Go.RowKit Go.Lib in
theorem Tryz.bytes_Clone_at (a:Addr) (n c:Nat) (xs:List Int) (w:World) (hx:xs.length=n) (hbig:n<=140737488355328) (hc:∀i,i<n->w.cell? (a.add i)=some (.int .u8 (xs.getD i 0))) :
    Calls prog 92 #[.slice (some a) n c] w fun e w'=>∃v',e=.returned v'/\w'.ownsRow w.heap.size 5 1 v' n (xs.map (Value.int .u8))/\v'≠.slice none 0 0/\Below w.heap.size w w':=Any.bytes_Clone_at Tryz.laysSlK4 a n c xs w hx hbig hc
open Go.RowKit Go.Lib in
theorem Tryz.bytes_Clone_nil (n c:Nat) (w:World) :
    Calls prog 92 #[.slice none n c] w fun e w'=>e=.returned (.slice none 0 0)/\w'=w:=Any.bytes_Clone_nil Tryz.laysSlK4 n c w
def Tryz.laysnb115_ren:Go.Shelf.Ren:=⟨fun | 115=>88 | n=>n,fun | 37=>25 | 4=>4 | 9=>9 | 5=>5 | n=>n,fun | n=>n⟩
theorem Tryz.laysnb115:Go.Proofs.Lays.nb115 prog Tryz.laysnb115_ren:={
  mixed:=by kernel_rfl
  f115:=func88.trans (congrArg some (by kernel_rfl))
  t4:=underlying4
  a4:=Tryz.isAgg4
  z4:=Tryz.sizeOf4
  v4:=Tryz.zeroValue4
  t9:=underlying9
  a9:=Tryz.isAgg9
  z9:=Tryz.sizeOf9
  v9:=Tryz.zeroValue9
  t37:=underlying25
  a37:=Tryz.isAgg25
  z37:=Tryz.sizeOf25
  v37:=Tryz.zeroValue25
  t5:=underlying5
  a5:=Tryz.isAgg5
  z5:=Tryz.sizeOf5
  v5:=Tryz.zeroValue5 }
theorem Tryz.bytes_Equal_all (p1 p2:Option Addr) (n c m d:Nat) (xs ys:List Int) (w:World) (hx:xs.length=n) (hy:ys.length=m) (h1:Lib.BytesIn w p1 n xs) (h2:Lib.BytesIn w p2 m ys) :
    Calls prog 88 #[.slice p1 n c,.slice p2 m d] w fun e w'=>e=.returned (.bool (Lib.bytesOf xs == Lib.bytesOf ys))/\w'=w:=Any.bytes_Equal_all Tryz.laysnb115 p1 p2 n c m d xs ys w hx hy h1 h2
theorem Tryz.bytes_Equal (v1 v2:Value) (xs ys:List Int) (w:World) (h1:(convert 25 9 v1).run prog w=.ok (.string (strOfNums xs)) w) (h2:(convert 25 9 v2).run prog w=.ok (.string (strOfNums ys)) w) :
    Calls prog 88 #[v1,v2] w fun e w'=>e=.returned (.bool (Lib.bytesOf xs == Lib.bytesOf ys))/\w'=w:=Any.bytes_Equal Tryz.lays115 v1 v2 xs ys w h1 h2
end Go.Proofs
