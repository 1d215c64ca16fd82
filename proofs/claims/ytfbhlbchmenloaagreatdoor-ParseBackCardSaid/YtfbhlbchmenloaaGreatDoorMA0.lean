/-
  The law's own walk, its plain statement and its row: the law holds. Its condition: none beside the given row's own.
-/
import Derived.Test.YtfbhlbchmenloaaGreatDoorProg
import Derived.Below
import Derived.WalkKit
import Derived.WalkSmall
import Derived.Deep.Draws
import Derived.Lib.ItoaMem
import Derived.Lib.LaidU8
import Derived.Shelf.Unicode.DecodeSlow
import Derived.Test.YtfbhlbchmenloaaGreatDoorMAW0
import Derived.Shelf.Utf8.RuneCount
import Derived.Shelf.Strconv.Itoa0
import Derived.Shelf.Strconv.Itoa1
import Derived.Shelf.LaysM
import Derived.Shelf.Strconv.Itoa2
import Derived.Shelf.Strconv.Itoa3
import Derived.Shelf.Strconv.Clone
import Derived.Shelf.Strconv.SyntaxError
import Derived.Shelf.LaysC
import Derived.Shelf.Strconv.ToError
import Derived.Shelf.Strconv.Lower
import Derived.Shelf.Strconv.ParseUint10
import Derived.Shelf.Strconv.ParseUint10Empty
import Derived.Shelf.Strconv.ParseUint10Any
import Derived.Shelf.Strconv.RangeError
import Derived.Shelf.Strconv.ToErrorRange
import Derived.Shelf.Strconv.ParseUintEmpty
import Derived.Shelf.Strconv.ParseUint10b64
import Derived.Shelf.Strconv.ParseUint10b32
import Derived.Shelf.Strconv.ParseUint10b16
import Derived.Shelf.Strconv.ParseUint10b8
import Derived.Shelf.Strconv.ParseUint10At
import Derived.Ground.MpProg
import Derived.Shelf.Pu.ParseUintPublic10
import Derived.Shelf.Pu.ErrVarParseUint
import Derived.Shelf.Strings.Search1
import Derived.Shelf.Strings.Search2
import Derived.Shelf.Strings.Search3
import Derived.Shelf.Strings.Count
import Derived.Shelf.Strings.Shaped
import Derived.Shelf.Strings.Prefix
import Derived.Shelf.Strings.Split
import Derived.Shelf.Strings.SplitShaped
import Derived.Shelf.Unicode.Decode
import Derived.Shelf.Strings.RuneCount
import Derived.Shelf.Strings.Explode
import Derived.Shelf.Unicode.DecodeAny
import Derived.Shelf.Slices.Turned
import Derived.Ground.Names2Prog
import Derived.Shelf.Slices.Clone
import Derived.Shelf.Bytes.SlIndexAt
import Derived.Shelf.Bytes.SlSearch0
import Derived.Shelf.Bytes.SlSmallAll
import Derived.Shelf.Bytes.SlEqualAll
import Derived.Shelf.Bytes.Small
import Derived.Shelf.Bytes.IndexByte
import Derived.Laws.MakeOwn
import Derived.Laws.OwnMore
import Derived.Lib.SplitLaws
import Derived.Test.YtfbhlbchmenloaaGreatDoorCards
import Derived.Test.YtfbhlbchmenloaaGreatDoorTie
import Derived.ProofKit
import Derived.OpenShut
import Derived.Deep.DeepHandedRow
import Derived.Deep.DeepWitnessRowRef
import Derived.Shelf.Vars
import Derived.Lib.LaidTab
import Derived.Stop.LaidErr
import Derived.LoopTactic
import Derived.Deep.LoopGhost
import Derived.Deep.QuietTactic
import Derived.BigQuiet
import Derived.WalkSpells
import Derived.Lib.AtoiErrMem
import Derived.WalkLawsBesides
import Derived.Lib.RuneCountTail
import Derived.Lib.OthersKept
import Derived.KernelRfl
import Derived.Deep.OwnRows
import Derived.Maps.AppendAt
import Derived.Lib.IndexLaws
import Derived.OrdersHeld
import Derived.Lib.SlBytesRowKit2
import Derived.Deep.RegionHeld3
import Derived.Deep.AppendLies
import Derived.OwnWalk
import Derived.Laws.BytesArg
import Derived.Tactics
import Derived.Lib.ConvBytes
import Derived.Laws.Slices
import Derived.RowKit3
import Derived.WideLaws
import Derived.Deep.DeepCutAuto
import Derived.Deep.CutBlock
import Derived.Laws.Rows
import Derived.Lib.AppendStr
import Derived.ArgAppend
import Derived.Laws.IdiomCopy
import Derived.Laws.BitsLemmas
import Derived.RowKit
section
namespace Go.Proofs.YtfbhlbchmenloaaGreatDoor.H
open Go.RowKit Go.Proofs.YtfbhlbchmenloaaGreatDoorW.PrintWords
set_option linter.unusedVariables false

/-- The laid variables, as the contracts want them. -/
structure LaidA (w:World):Prop where
  utf8:Lib.Utf8Tabs 1 2 w
  syn:∃ tp p,w.var? Tryz.prog "strconv.ErrSyntax"=some #[.iface tp p]
  rng:∃ tp p,w.var? Tryz.prog "strconv.ErrRange"=some #[.iface tp p]
  pow:Lib.TabIs Tryz.prog w "internal/strconv.uint64pow10" .u64 Lib.pow10Tab
  maxLen:∃ m,w.cell? ⟨0,0,none⟩=some (.int .i64 m)

theorem var_below {P:Program} {w w':World} {n:String} {cs:Array Value} (h:Below w.heap.size w w') (hv:w.var? P n=some cs):w'.var? P n=some cs:=by
  have hv0:=hv
  unfold World.var? at hv ⊢
  cases hg:P.globalNamed n with
  | none=>rw [hg] at hv;simp at hv
  | some g=>
    rw [hg] at hv
    simp only [Option.bind_some] at hv ⊢
    have hlt:g < w.heap.size:=by
      by_cases hl:g < w.heap.size
      · exact hl
      · rw [Array.getElem?_eq_none (by omega)] at hv
        simp at hv
    rw [h.block g hlt]
    exact hv

theorem LaidA.below {w w':World} (h:LaidA w) (hb:Below w.heap.size w w'):LaidA w' where
  utf8:=Utf8Tabs_below h.utf8 hb
  syn:=let ⟨tp,p,hv⟩:=h.syn;⟨tp,p,var_below hb hv⟩
  rng:=let ⟨tp,p,hv⟩:=h.rng;⟨tp,p,var_below hb hv⟩
  pow:=var_below hb h.pow
  maxLen:=let ⟨m,hm⟩:=h.maxLen;⟨m,pw_cell_below hb hm⟩
theorem LaidA.alloc {w:World} (h:LaidA w) (o:Obj):LaidA (w.alloc o):=h.below (below_alloc (Below.refl _ _) o)
theorem LaidA.drewN {w:World} (h:LaidA w) (n:Nat):LaidA (w.drewN n):=h.below (pw_below_drewN (Below.refl _ _) n)
theorem LaidA.drew {w:World} (h:LaidA w):LaidA w.drew:=h.below (below_drew (Below.refl _ _))
end Go.Proofs.YtfbhlbchmenloaaGreatDoor.H
end
section
namespace Go.Proofs
open Go.Shelf
def Tryz.lays283_ren:Go.Shelf.Ren:=⟨fun | 283=>103 | n=>n,fun | 3=>3 | 9=>9 | 4=>4 | n=>n,fun | n=>n⟩
theorem Tryz.lays283:Go.Proofs.Lays.n283 Tryz.prog Tryz.lays283_ren:={
  mixed:=by kernel_rfl
  f283:=Tryz.func103.trans (congrArg some (by kernel_rfl))
  t3:=Tryz.underlying3
  a3:=Tryz.isAgg3
  z3:=Tryz.sizeOf3
  v3:=Tryz.zeroValue3
  t4:=Tryz.underlying4
  a4:=Tryz.isAgg4
  z4:=Tryz.sizeOf4
  v4:=Tryz.zeroValue4
  t9:=Tryz.underlying9
  a9:=Tryz.isAgg9
  z9:=Tryz.sizeOf9
  v9:=Tryz.zeroValue9 }
open Go.Lib in
theorem Tryz.internal_strconv_small (i:Nat) (h:i < 100) (w:World) :
    Calls Tryz.prog 103 #[.int .i64 i] w fun e w'=>e=.returned (.string ⟨(Lib.decDigits i).toArray⟩)∧w'=w:=Any.internal_strconv_small Tryz.lays283 i h w
def Tryz.laysM284_ren:Go.Shelf.Ren:=⟨fun | 284=>104 | 129=>108 | 317=>107 | 318=>109 | n=>n,fun | 53=>24 | 3=>3 | 212=>154 | 0=>0 | 4=>4 | 46=>101 | 5=>5 | 9=>9 | n=>n,fun | 17=>5 | n=>n⟩
theorem Tryz.laysM284:Go.Proofs.LaysM.n284 Tryz.prog Tryz.laysM284_ren:={
  mixed:=by kernel_rfl
  f129:=Tryz.func108.trans (congrArg some (by kernel_rfl))
  f284:=Tryz.func104.trans (congrArg some (by kernel_rfl))
  f317:=Tryz.func107.trans (congrArg some (by kernel_rfl))
  f318:=Tryz.func109.trans (congrArg some (by kernel_rfl))
  t0:=Tryz.underlying0
  a0:=Tryz.isAgg0
  z0:=Tryz.sizeOf0
  v0:=Tryz.zeroValue0
  t3:=Tryz.underlying3
  a3:=Tryz.isAgg3
  z3:=Tryz.sizeOf3
  v3:=Tryz.zeroValue3
  t4:=Tryz.underlying4
  a4:=Tryz.isAgg4
  z4:=Tryz.sizeOf4
  v4:=Tryz.zeroValue4
  t5:=Tryz.underlying5
  a5:=Tryz.isAgg5
  z5:=Tryz.sizeOf5
  v5:=Tryz.zeroValue5
  t9:=Tryz.underlying9
  a9:=Tryz.isAgg9
  z9:=Tryz.sizeOf9
  v9:=Tryz.zeroValue9
  t46:=Tryz.underlying101
  a46:=Tryz.isAgg101
  z46:=Tryz.sizeOf101
  v46:=Tryz.zeroValue101
  t53:=Tryz.underlying24
  a53:=Tryz.isAgg24
  z53:=Tryz.sizeOf24
  v53:=Tryz.zeroValue24
  t212:=Tryz.underlying154
  a212:=Tryz.isAgg154
  z212:=Tryz.sizeOf154
  v212:=Tryz.zeroValue154
  g17:=by kernel_rfl
  i0:=by kernel_rfl
  i3:=by kernel_rfl
  i4:=by kernel_rfl
  i5:=by kernel_rfl
  i9:=by kernel_rfl
  i46:=by kernel_rfl
  i53:=by kernel_rfl
  i212:=by kernel_rfl
  m17:=by kernel_rfl }
open Go.Lib in
theorem Tryz.internal_strconv_numDigits (u:Nat) (h1:1≤u) (h2:u < 18446744073709551616) (w:World) (htab:Lib.TabIs Tryz.prog w "internal/strconv.uint64pow10" .u64 Lib.pow10Tab) :
    Calls Tryz.prog 104 #[.int .u64 u] w fun e w'=>e=.returned (.int .i64 (Lib.nDigits u))∧w'=w:=Any.internal_strconv_numDigits Tryz.laysM284 u h1 h2 w htab
def Tryz.lays285_ren:Go.Shelf.Ren:=⟨fun | 285=>105 | n=>n,fun | 37=>36 | 53=>24 | 3=>3 | 4=>4 | 51=>23 | 9=>9 | 5=>5 | 0=>0 | n=>n,fun | n=>n⟩
theorem Tryz.lays285:Go.Proofs.Lays.n285 Tryz.prog Tryz.lays285_ren:={
  mixed:=by kernel_rfl
  f285:=Tryz.func105.trans (congrArg some (by kernel_rfl))
  t0:=Tryz.underlying0
  a0:=Tryz.isAgg0
  z0:=Tryz.sizeOf0
  v0:=Tryz.zeroValue0
  t3:=Tryz.underlying3
  a3:=Tryz.isAgg3
  z3:=Tryz.sizeOf3
  v3:=Tryz.zeroValue3
  t4:=Tryz.underlying4
  a4:=Tryz.isAgg4
  z4:=Tryz.sizeOf4
  v4:=Tryz.zeroValue4
  t5:=Tryz.underlying5
  a5:=Tryz.isAgg5
  z5:=Tryz.sizeOf5
  v5:=Tryz.zeroValue5
  t9:=Tryz.underlying9
  a9:=Tryz.isAgg9
  z9:=Tryz.sizeOf9
  v9:=Tryz.zeroValue9
  t37:=Tryz.underlying36
  a37:=Tryz.isAgg36
  z37:=Tryz.sizeOf36
  v37:=Tryz.zeroValue36
  t51:=Tryz.underlying23
  a51:=Tryz.isAgg23
  z51:=Tryz.sizeOf23
  v51:=Tryz.zeroValue23
  t53:=Tryz.underlying24
  a53:=Tryz.isAgg24
  z53:=Tryz.sizeOf24
  v53:=Tryz.zeroValue24 }
open Go.RowKit Go.Sort Go.Lib in
theorem Tryz.internal_strconv_formatBase10 (blk off cap:Nat) (u:Nat) (d:Array UInt8) (w:World) (hH:Holds (fun (b:UInt8)=>Value.int .u8 (b.toNat:Int)) w blk off d) (hu:u < 10 ^ d.size) (hu64:u < 18446744073709551616) (hsz:d.size < 4611686018427387904) :
    Calls Tryz.prog 105 #[.slice (some ⟨blk,off,none⟩) d.size cap,.int .u64 u] w fun e w'=>
      e=.returned (.tuple #[])∧∃ (n v':Nat) (dk:Array UInt8),w'=(putRow (fun (b:UInt8)=>Value.int .u8 (b.toNat:Int)) w blk off dk).drewN n∧FmtInv d.size u 0 v' dk:=Any.internal_strconv_formatBase10 Tryz.lays285 blk off cap u d w hH hu hu64 hsz
def Tryz.laysM171_ren:Go.Shelf.Ren:=⟨fun | 171=>98 | 243=>101 | 246=>102 | 283=>103 | 284=>104 | 285=>105 | 286=>106 | 129=>108 | 317=>107 | 318=>109 | 319=>110 | 320=>111 | 337=>112 | 338=>113 | n=>n,fun | 3=>3 | 9=>9 | 2=>2 | 4=>4 | 171=>148 | 0=>0 | 53=>24 | 37=>36 | 5=>5 | 173=>151 | 212=>154 | 51=>23 | 20=>20 | 213=>155 | 46=>101 | 232=>159 | 233=>160 | n=>n,fun | 17=>5 | 18=>6 | 19=>7 | n=>n⟩
theorem Tryz.laysM171:Go.Proofs.LaysM.n171 Tryz.prog Tryz.laysM171_ren:={
  mixed:=by kernel_rfl
  f129:=Tryz.func108.trans (congrArg some (by kernel_rfl))
  f171:=Tryz.func98.trans (congrArg some (by kernel_rfl))
  f243:=Tryz.func101.trans (congrArg some (by kernel_rfl))
  f246:=Tryz.func102.trans (congrArg some (by kernel_rfl))
  f283:=Tryz.func103.trans (congrArg some (by kernel_rfl))
  f284:=Tryz.func104.trans (congrArg some (by kernel_rfl))
  f285:=Tryz.func105.trans (congrArg some (by kernel_rfl))
  f286:=Tryz.func106.trans (congrArg some (by kernel_rfl))
  f317:=Tryz.func107.trans (congrArg some (by kernel_rfl))
  f318:=Tryz.func109.trans (congrArg some (by kernel_rfl))
  f319:=Tryz.func110.trans (congrArg some (by kernel_rfl))
  f320:=Tryz.func111.trans (congrArg some (by kernel_rfl))
  f337:=Tryz.func112.trans (congrArg some (by kernel_rfl))
  f338:=Tryz.func113.trans (congrArg some (by kernel_rfl))
  t0:=Tryz.underlying0
  a0:=Tryz.isAgg0
  z0:=Tryz.sizeOf0
  v0:=Tryz.zeroValue0
  t2:=Tryz.underlying2
  a2:=Tryz.isAgg2
  z2:=Tryz.sizeOf2
  v2:=Tryz.zeroValue2
  t3:=Tryz.underlying3
  a3:=Tryz.isAgg3
  z3:=Tryz.sizeOf3
  v3:=Tryz.zeroValue3
  t4:=Tryz.underlying4
  a4:=Tryz.isAgg4
  z4:=Tryz.sizeOf4
  v4:=Tryz.zeroValue4
  t5:=Tryz.underlying5
  a5:=Tryz.isAgg5
  z5:=Tryz.sizeOf5
  v5:=Tryz.zeroValue5
  t9:=Tryz.underlying9
  a9:=Tryz.isAgg9
  z9:=Tryz.sizeOf9
  v9:=Tryz.zeroValue9
  t20:=Tryz.underlying20
  a20:=Tryz.isAgg20
  z20:=Tryz.sizeOf20
  v20:=Tryz.zeroValue20
  t37:=Tryz.underlying36
  a37:=Tryz.isAgg36
  z37:=Tryz.sizeOf36
  v37:=Tryz.zeroValue36
  t46:=Tryz.underlying101
  a46:=Tryz.isAgg101
  z46:=Tryz.sizeOf101
  v46:=Tryz.zeroValue101
  t51:=Tryz.underlying23
  a51:=Tryz.isAgg23
  z51:=Tryz.sizeOf23
  v51:=Tryz.zeroValue23
  t53:=Tryz.underlying24
  a53:=Tryz.isAgg24
  z53:=Tryz.sizeOf24
  v53:=Tryz.zeroValue24
  t171:=Tryz.underlying148
  a171:=Tryz.isAgg148
  z171:=Tryz.sizeOf148
  v171:=Tryz.zeroValue148
  t173:=Tryz.underlying151
  a173:=Tryz.isAgg151
  z173:=Tryz.sizeOf151
  v173:=Tryz.zeroValue151
  t212:=Tryz.underlying154
  a212:=Tryz.isAgg154
  z212:=Tryz.sizeOf154
  v212:=Tryz.zeroValue154
  t213:=Tryz.underlying155
  a213:=Tryz.isAgg155
  z213:=Tryz.sizeOf155
  t232:=Tryz.underlying159
  a232:=Tryz.isAgg159
  z232:=Tryz.sizeOf159
  v232:=Tryz.zeroValue159
  t233:=Tryz.underlying160
  a233:=Tryz.isAgg160
  z233:=Tryz.sizeOf160
  v233:=Tryz.zeroValue160
  g17:=by kernel_rfl
  g18:=by kernel_rfl
  g19:=by kernel_rfl
  i0:=by kernel_rfl
  i2:=by kernel_rfl
  i3:=by kernel_rfl
  i4:=by kernel_rfl
  i5:=by kernel_rfl
  i9:=by kernel_rfl
  i20:=by kernel_rfl
  i37:=by kernel_rfl
  i46:=by kernel_rfl
  i51:=by kernel_rfl
  i53:=by kernel_rfl
  i171:=by kernel_rfl
  i173:=by kernel_rfl
  i212:=by kernel_rfl
  i232:=by kernel_rfl
  i233:=by kernel_rfl
  m17:=by kernel_rfl
  m18:=by kernel_rfl
  m19:=by kernel_rfl }
open Go.RowKit Go.Sort Go.Lib in
theorem Tryz.strconv_Itoa (n:Int) (h0:-9223372036854775808≤n) (h1:n≤9223372036854775807) (w:World) (htab:Lib.TabIs Tryz.prog w "internal/strconv.uint64pow10" .u64 Lib.pow10Tab) :
    Calls Tryz.prog 98 #[.int .i64 n] w fun e w'=>e=.returned (.string ⟨(Lib.itoa n).toArray⟩)∧∃ k os,w'=grow (w.drewN k) os:=Any.strconv_Itoa Tryz.laysM171 n h0 h1 w htab
def Tryz.laysPu14_ren:Go.Shelf.Ren:=⟨fun | 14=>70 | 16=>79 | 17=>80 | 19=>86 | 20=>87 | 21=>88 | 22=>89 | 23=>90 | 24=>91 | 25=>96 | 27=>98 | 26=>97 | 28=>101 | 29=>102 | 30=>103 | 31=>104 | 32=>105 | 33=>106 | 35=>108 | 34=>107 | 36=>109 | 37=>110 | 38=>111 | 39=>112 | 40=>113 | n=>n,fun | 9=>9 | 3=>3 | 22=>24 | 24=>115 | 25=>116 | 4=>4 | 34=>127 | 5=>5 | 36=>101 | 37=>36 | 0=>0 | 39=>129 | 21=>21 | 44=>138 | 47=>143 | 50=>146 | 48=>144 | 2=>2 | 52=>148 | 55=>151 | 59=>154 | 60=>23 | 20=>20 | 61=>155 | 65=>159 | 66=>160 | 67=>161 | n=>n,fun | 0=>3 | 1=>4 | 2=>5 | 3=>6 | 4=>7 | n=>n⟩
theorem Tryz.laysPu14:Go.Proofs.LaysPu.n14 Tryz.prog Tryz.laysPu14_ren:={
  mixed:=by kernel_rfl
  f14:=Tryz.func70.trans (congrArg some (by kernel_rfl))
  f16:=Tryz.func79.trans (congrArg some (by kernel_rfl))
  f17:=Tryz.func80.trans (congrArg some (by kernel_rfl))
  f19:=Tryz.func86.trans (congrArg some (by kernel_rfl))
  f20:=Tryz.func87.trans (congrArg some (by kernel_rfl))
  f21:=Tryz.func88.trans (congrArg some (by kernel_rfl))
  f22:=Tryz.func89.trans (congrArg some (by kernel_rfl))
  f23:=Tryz.func90.trans (congrArg some (by kernel_rfl))
  f24:=Tryz.func91.trans (congrArg some (by kernel_rfl))
  f25:=Tryz.func96.trans (congrArg some (by kernel_rfl))
  f26:=Tryz.func97.trans (congrArg some (by kernel_rfl))
  f27:=Tryz.func98.trans (congrArg some (by kernel_rfl))
  f28:=Tryz.func101.trans (congrArg some (by kernel_rfl))
  f29:=Tryz.func102.trans (congrArg some (by kernel_rfl))
  f30:=Tryz.func103.trans (congrArg some (by kernel_rfl))
  f31:=Tryz.func104.trans (congrArg some (by kernel_rfl))
  f32:=Tryz.func105.trans (congrArg some (by kernel_rfl))
  f33:=Tryz.func106.trans (congrArg some (by kernel_rfl))
  f34:=Tryz.func107.trans (congrArg some (by kernel_rfl))
  f35:=Tryz.func108.trans (congrArg some (by kernel_rfl))
  f36:=Tryz.func109.trans (congrArg some (by kernel_rfl))
  f37:=Tryz.func110.trans (congrArg some (by kernel_rfl))
  f38:=Tryz.func111.trans (congrArg some (by kernel_rfl))
  f39:=Tryz.func112.trans (congrArg some (by kernel_rfl))
  f40:=Tryz.func113.trans (congrArg some (by kernel_rfl))
  t0:=Tryz.underlying0
  a0:=Tryz.isAgg0
  z0:=Tryz.sizeOf0
  v0:=Tryz.zeroValue0
  i0:=by kernel_rfl
  t2:=Tryz.underlying2
  a2:=Tryz.isAgg2
  z2:=Tryz.sizeOf2
  v2:=Tryz.zeroValue2
  i2:=by kernel_rfl
  t3:=Tryz.underlying3
  a3:=Tryz.isAgg3
  z3:=Tryz.sizeOf3
  v3:=Tryz.zeroValue3
  i3:=by kernel_rfl
  t4:=Tryz.underlying4
  a4:=Tryz.isAgg4
  z4:=Tryz.sizeOf4
  v4:=Tryz.zeroValue4
  i4:=by kernel_rfl
  t5:=Tryz.underlying5
  a5:=Tryz.isAgg5
  z5:=Tryz.sizeOf5
  v5:=Tryz.zeroValue5
  i5:=by kernel_rfl
  t9:=Tryz.underlying9
  a9:=Tryz.isAgg9
  z9:=Tryz.sizeOf9
  v9:=Tryz.zeroValue9
  i9:=by kernel_rfl
  t20:=Tryz.underlying20
  a20:=Tryz.isAgg20
  z20:=Tryz.sizeOf20
  v20:=Tryz.zeroValue20
  i20:=by kernel_rfl
  t21:=Tryz.underlying21
  a21:=Tryz.isAgg21
  z21:=Tryz.sizeOf21
  v21:=Tryz.zeroValue21
  i21:=by kernel_rfl
  t22:=Tryz.underlying24
  a22:=Tryz.isAgg24
  z22:=Tryz.sizeOf24
  v22:=Tryz.zeroValue24
  i22:=by kernel_rfl
  t24:=Tryz.underlying115
  a24:=Tryz.isAgg115
  z24:=Tryz.sizeOf115
  v24:=Tryz.zeroValue115
  i24:=by kernel_rfl
  t25:=Tryz.underlying116
  a25:=Tryz.isAgg116
  z25:=Tryz.sizeOf116
  v25:=Tryz.zeroValue116
  i25:=by kernel_rfl
  t34:=Tryz.underlying127
  a34:=Tryz.isAgg127
  z34:=Tryz.sizeOf127
  v34:=Tryz.zeroValue127
  i34:=by kernel_rfl
  c34:=by kernel_rfl
  t36:=Tryz.underlying101
  a36:=Tryz.isAgg101
  z36:=Tryz.sizeOf101
  v36:=Tryz.zeroValue101
  i36:=by kernel_rfl
  t37:=Tryz.underlying36
  a37:=Tryz.isAgg36
  z37:=Tryz.sizeOf36
  v37:=Tryz.zeroValue36
  i37:=by kernel_rfl
  t39:=Tryz.underlying129
  a39:=Tryz.isAgg129
  z39:=Tryz.sizeOf129
  v39:=Tryz.zeroValue129
  i39:=by kernel_rfl
  t44:=Tryz.underlying138
  a44:=Tryz.isAgg138
  z44:=Tryz.sizeOf138
  v44:=Tryz.zeroValue138
  i44:=by kernel_rfl
  t47:=Tryz.underlying143
  a47:=Tryz.isAgg143
  z47:=Tryz.sizeOf143
  v47:=Tryz.zeroValue143
  i47:=by kernel_rfl
  t48:=Tryz.underlying144
  a48:=Tryz.isAgg144
  z48:=Tryz.sizeOf144
  v48:=Tryz.zeroValue144
  i48:=by kernel_rfl
  t50:=Tryz.underlying146
  a50:=Tryz.isAgg146
  z50:=Tryz.sizeOf146
  v50:=Tryz.zeroValue146
  i50:=by kernel_rfl
  t52:=Tryz.underlying148
  a52:=Tryz.isAgg148
  z52:=Tryz.sizeOf148
  v52:=Tryz.zeroValue148
  i52:=by kernel_rfl
  t55:=Tryz.underlying151
  a55:=Tryz.isAgg151
  z55:=Tryz.sizeOf151
  v55:=Tryz.zeroValue151
  i55:=by kernel_rfl
  t59:=Tryz.underlying154
  a59:=Tryz.isAgg154
  z59:=Tryz.sizeOf154
  v59:=Tryz.zeroValue154
  i59:=by kernel_rfl
  t60:=Tryz.underlying23
  a60:=Tryz.isAgg23
  z60:=Tryz.sizeOf23
  v60:=Tryz.zeroValue23
  i60:=by kernel_rfl
  t61:=Tryz.underlying155
  a61:=Tryz.isAgg155
  z61:=Tryz.sizeOf155
  t65:=Tryz.underlying159
  a65:=Tryz.isAgg159
  z65:=Tryz.sizeOf159
  v65:=Tryz.zeroValue159
  i65:=by kernel_rfl
  t66:=Tryz.underlying160
  a66:=Tryz.isAgg160
  z66:=Tryz.sizeOf160
  v66:=Tryz.zeroValue160
  i66:=by kernel_rfl
  t67:=Tryz.underlying161
  a67:=Tryz.isAgg161
  z67:=Tryz.sizeOf161
  v67:=Tryz.zeroValue161
  i67:=by kernel_rfl
  g0:=by kernel_rfl
  m0:=by kernel_rfl
  g1:=by kernel_rfl
  m1:=by kernel_rfl
  g2:=by kernel_rfl
  m2:=by kernel_rfl
  g3:=by kernel_rfl
  m3:=by kernel_rfl
  g4:=by kernel_rfl
  m4:=by kernel_rfl }
open Go.RowKit in
theorem Tryz.strconv_ParseUint_10_at64_ok (s:ByteArray) (hmax:s.size≤9223372036854775806) (u:Nat) (h:Lib.parseUintB 64 s.data.toList=.ok u) (w:World) :
    Calls Tryz.prog 70 #[.string s,.int .i64 10,.int .i64 64] w fun e w'=>e=.returned (.tuple #[.int .u64 u,.nilIface])∧(w'=w∨w'=Lib.bytesWorld w 5 s):=Any.strconv_ParseUint_10_at64_ok Tryz.laysPu14 s hmax u h w
open Go.RowKit in
theorem Tryz.strconv_ParseUint_10_at64_range_var (s:ByteArray) (hlim:s.size≤281474976710656) (h:Lib.parseUintB 64 s.data.toList=.range) (tp:TypeId) (p:Value) (w:World) (hvar:w.var? Tryz.prog "strconv.ErrRange"=some #[.iface tp p]) :
    Calls Tryz.prog 70 #[.string s,.int .i64 10,.int .i64 64] w fun e w'=>∃ N,e=.returned (.tuple #[.int .u64 18446744073709551615,.iface 129 (.pointer (some ⟨N,0,none⟩))])∧w.heap.size≤N∧w'.heap[N]? = some (.cells #[.string ⟨#[80,97,114,115,101,85,105,110,116]⟩,.string s,.iface tp p] 138 (0,0))∧Below w.heap.size w w':=Any.strconv_ParseUint_10_at64_range_var Tryz.laysPu14 s hlim h tp p w hvar
def Tryz.lays146_ren:Go.Shelf.Ren:=⟨fun | 146=>57 | 221=>66 | 268=>74 | 138=>75 | 143=>76 | 195=>83 | 197=>72 | 218=>84 | 219=>85 | 260=>81 | 217=>92 | 225=>93 | 224=>94 | 267=>95 | 266=>99 | 314=>100 | n=>n,fun | 9=>9 | 31=>22 | 3=>3 | 4=>4 | 0=>0 | 105=>119 | 21=>21 | 5=>5 | 46=>101 | 119=>132 | 139=>135 | 138=>134 | 146=>141 | 51=>23 | n=>n,fun | 1=>0 | 3=>1 | 4=>2 | n=>n⟩
theorem Tryz.lays146:Go.Proofs.Lays.n146 Tryz.prog Tryz.lays146_ren:={
  mixed:=by kernel_rfl
  f138:=Tryz.func75.trans (congrArg some (by kernel_rfl))
  f143:=Tryz.func76.trans (congrArg some (by kernel_rfl))
  f146:=Tryz.func57.trans (congrArg some (by kernel_rfl))
  f195:=Tryz.func83.trans (congrArg some (by kernel_rfl))
  f197:=Tryz.func72.trans (congrArg some (by kernel_rfl))
  f217:=Tryz.func92.trans (congrArg some (by kernel_rfl))
  f218:=Tryz.func84.trans (congrArg some (by kernel_rfl))
  f219:=Tryz.func85.trans (congrArg some (by kernel_rfl))
  f221:=Tryz.func66.trans (congrArg some (by kernel_rfl))
  f224:=Tryz.func94.trans (congrArg some (by kernel_rfl))
  f225:=Tryz.func93.trans (congrArg some (by kernel_rfl))
  f260:=Tryz.func81.trans (congrArg some (by kernel_rfl))
  f266:=Tryz.func99.trans (congrArg some (by kernel_rfl))
  f267:=Tryz.func95.trans (congrArg some (by kernel_rfl))
  f268:=Tryz.func74.trans (congrArg some (by kernel_rfl))
  f314:=Tryz.func100.trans (congrArg some (by kernel_rfl))
  t0:=Tryz.underlying0
  a0:=Tryz.isAgg0
  z0:=Tryz.sizeOf0
  v0:=Tryz.zeroValue0
  t3:=Tryz.underlying3
  a3:=Tryz.isAgg3
  z3:=Tryz.sizeOf3
  v3:=Tryz.zeroValue3
  t4:=Tryz.underlying4
  a4:=Tryz.isAgg4
  z4:=Tryz.sizeOf4
  v4:=Tryz.zeroValue4
  t5:=Tryz.underlying5
  a5:=Tryz.isAgg5
  z5:=Tryz.sizeOf5
  v5:=Tryz.zeroValue5
  t9:=Tryz.underlying9
  a9:=Tryz.isAgg9
  z9:=Tryz.sizeOf9
  v9:=Tryz.zeroValue9
  t21:=Tryz.underlying21
  a21:=Tryz.isAgg21
  z21:=Tryz.sizeOf21
  v21:=Tryz.zeroValue21
  t31:=Tryz.underlying22
  a31:=Tryz.isAgg22
  z31:=Tryz.sizeOf22
  v31:=Tryz.zeroValue22
  t46:=Tryz.underlying101
  a46:=Tryz.isAgg101
  z46:=Tryz.sizeOf101
  v46:=Tryz.zeroValue101
  t51:=Tryz.underlying23
  a51:=Tryz.isAgg23
  z51:=Tryz.sizeOf23
  v51:=Tryz.zeroValue23
  t105:=Tryz.underlying119
  a105:=Tryz.isAgg119
  z105:=Tryz.sizeOf119
  v105:=Tryz.zeroValue119
  t119:=Tryz.underlying132
  a119:=Tryz.isAgg132
  z119:=Tryz.sizeOf132
  t138:=Tryz.underlying134
  a138:=Tryz.isAgg134
  z138:=Tryz.sizeOf134
  v138:=Tryz.zeroValue134
  t139:=Tryz.underlying135
  a139:=Tryz.isAgg135
  z139:=Tryz.sizeOf135
  v139:=Tryz.zeroValue135
  t146:=Tryz.underlying141
  a146:=Tryz.isAgg141
  z146:=Tryz.sizeOf141
  v146:=Tryz.zeroValue141
  g1:=by kernel_rfl
  g3:=by kernel_rfl
  g4:=by kernel_rfl }
open Go.RowKit Go.Lib in
theorem Tryz.strings_Split (s sep:ByteArray) (m:Int) (w:World) (hs:s.size < 4294967281) (hm:w.cell? ⟨0,0,none⟩=some (.int .i64 m)) (h1:1≤sep.size) :
    Calls Tryz.prog 57 #[.string s,.string sep] w fun e w'=>
      e=.returned (.slice (some ⟨w.heap.size,0,none⟩) (Lib.countB s sep + 1) (Lib.countB s sep + 1))∧w'=w.alloc (.cells ((Lib.splitB sep 0 (Lib.countB s sep) s).map Value.string).toArray 9):=Any.strings_Split Tryz.lays146 (by kernel_rfl) s sep m w hs hm h1
def Tryz.lays197_ren:Go.Shelf.Ren:=⟨fun | 197=>72 | 260=>81 | n=>n,fun | 9=>9 | 21=>21 | 3=>3 | 4=>4 | 5=>5 | 105=>119 | 119=>132 | 0=>0 | 46=>101 | 139=>135 | 138=>134 | n=>n,fun | 3=>1 | 4=>2 | n=>n⟩
theorem Tryz.lays197:Go.Proofs.Lays.n197 Tryz.prog Tryz.lays197_ren:={
  mixed:=by kernel_rfl
  f197:=Tryz.func72.trans (congrArg some (by kernel_rfl))
  f260:=Tryz.func81.trans (congrArg some (by kernel_rfl))
  t0:=Tryz.underlying0
  a0:=Tryz.isAgg0
  z0:=Tryz.sizeOf0
  v0:=Tryz.zeroValue0
  t3:=Tryz.underlying3
  a3:=Tryz.isAgg3
  z3:=Tryz.sizeOf3
  v3:=Tryz.zeroValue3
  t4:=Tryz.underlying4
  a4:=Tryz.isAgg4
  z4:=Tryz.sizeOf4
  v4:=Tryz.zeroValue4
  t5:=Tryz.underlying5
  a5:=Tryz.isAgg5
  z5:=Tryz.sizeOf5
  v5:=Tryz.zeroValue5
  t9:=Tryz.underlying9
  a9:=Tryz.isAgg9
  z9:=Tryz.sizeOf9
  v9:=Tryz.zeroValue9
  t21:=Tryz.underlying21
  a21:=Tryz.isAgg21
  z21:=Tryz.sizeOf21
  v21:=Tryz.zeroValue21
  t46:=Tryz.underlying101
  a46:=Tryz.isAgg101
  z46:=Tryz.sizeOf101
  v46:=Tryz.zeroValue101
  t105:=Tryz.underlying119
  a105:=Tryz.isAgg119
  z105:=Tryz.sizeOf119
  v105:=Tryz.zeroValue119
  t119:=Tryz.underlying132
  a119:=Tryz.isAgg132
  z119:=Tryz.sizeOf132
  t138:=Tryz.underlying134
  a138:=Tryz.isAgg134
  z138:=Tryz.sizeOf134
  v138:=Tryz.zeroValue134
  t139:=Tryz.underlying135
  a139:=Tryz.isAgg135
  z139:=Tryz.sizeOf135
  v139:=Tryz.zeroValue135
  g3:=by kernel_rfl
  g4:=by kernel_rfl }
def Tryz.lays260_ren:Go.Shelf.Ren:=⟨fun | 260=>81 | n=>n,fun | 9=>9 | 21=>21 | 3=>3 | 4=>4 | 5=>5 | 119=>132 | 0=>0 | 46=>101 | 139=>135 | 138=>134 | n=>n,fun | 3=>1 | 4=>2 | n=>n⟩
theorem Tryz.lays260:Go.Proofs.Lays.n260 Tryz.prog Tryz.lays260_ren:={
  mixed:=by kernel_rfl
  f260:=Tryz.func81.trans (congrArg some (by kernel_rfl))
  t0:=Tryz.underlying0
  a0:=Tryz.isAgg0
  z0:=Tryz.sizeOf0
  v0:=Tryz.zeroValue0
  t3:=Tryz.underlying3
  a3:=Tryz.isAgg3
  z3:=Tryz.sizeOf3
  v3:=Tryz.zeroValue3
  t4:=Tryz.underlying4
  a4:=Tryz.isAgg4
  z4:=Tryz.sizeOf4
  v4:=Tryz.zeroValue4
  t5:=Tryz.underlying5
  a5:=Tryz.isAgg5
  z5:=Tryz.sizeOf5
  v5:=Tryz.zeroValue5
  t9:=Tryz.underlying9
  a9:=Tryz.isAgg9
  z9:=Tryz.sizeOf9
  v9:=Tryz.zeroValue9
  t21:=Tryz.underlying21
  a21:=Tryz.isAgg21
  z21:=Tryz.sizeOf21
  v21:=Tryz.zeroValue21
  t46:=Tryz.underlying101
  a46:=Tryz.isAgg101
  z46:=Tryz.sizeOf101
  v46:=Tryz.zeroValue101
  t119:=Tryz.underlying132
  a119:=Tryz.isAgg132
  z119:=Tryz.sizeOf132
  t138:=Tryz.underlying134
  a138:=Tryz.isAgg134
  z138:=Tryz.sizeOf134
  v138:=Tryz.zeroValue134
  t139:=Tryz.underlying135
  a139:=Tryz.isAgg135
  z139:=Tryz.sizeOf135
  v139:=Tryz.zeroValue135
  g3:=by kernel_rfl
  g4:=by kernel_rfl }
open Go.RowKit Go.Lib in
theorem Tryz.utf8_DecodeRuneInString (s:ByteArray) (w:World) (hT:Lib.Utf8Tabs 1 2 w) :
    Calls Tryz.prog 72 #[.string s] w fun e w'=>e=.returned (.tuple #[.int .i32 (Lib.decodeGo s).1,.int .i64 (Lib.decodeGo s).2])∧Below w.heap.size w w':=Any.utf8_DecodeRuneInString Tryz.lays197 s w hT
def Tryz.laysNm216_ren:Go.Shelf.Ren:=⟨fun | 16=>42 | n=>n,fun | 24=>22 | 9=>9 | 4=>4 | n=>n,fun | n=>n⟩
theorem Tryz.laysNm216:Go.Proofs.Lays2.n16 Tryz.prog Tryz.laysNm216_ren:={
  mixed:=by kernel_rfl
  f16:=Tryz.func42.trans (congrArg some (by kernel_rfl))
  t4:=Tryz.underlying4
  a4:=Tryz.isAgg4
  z4:=Tryz.sizeOf4
  v4:=Tryz.zeroValue4
  t9:=Tryz.underlying9
  a9:=Tryz.isAgg9
  z9:=Tryz.sizeOf9
  v9:=Tryz.zeroValue9
  t24:=Tryz.underlying22
  a24:=Tryz.isAgg22
  z24:=Tryz.sizeOf22
  v24:=Tryz.zeroValue22
  i9:=by kernel_rfl }
open Go.RowKit Go.Lib in
theorem Tryz.slices_Clone_string (b off n c:Nat) (zs:List ByteArray) (w:World) (hz:n≤zs.length) (hbig:n * 16≤140737488355328) (hc:∀ j,j < zs.length→w.cell? ⟨b,off + j,none⟩=some (.string (zs.getD j ByteArray.empty))) :
    Calls Tryz.prog 42 #[.slice (some ⟨b,off,none⟩) n c] w fun e w'=>∃ v',e=.returned v'∧w'.ownsRow w.heap.size 9 1 v' n ((zs.take n).map (Value.string))∧v'≠.slice none 0 0∧Below w.heap.size w w':=Any.slices_Clone_string Tryz.laysNm216 b off n c zs w hz hbig hc
def Tryz.lays187_ren:Go.Shelf.Ren:=⟨fun | 187=>53 | 255=>64 | n=>n,fun | 37=>36 | 5=>5 | 3=>3 | n=>n,fun | n=>n⟩
theorem Tryz.lays187:Go.Proofs.Lays.n187 Tryz.prog Tryz.lays187_ren:={
  mixed:=by kernel_rfl
  f187:=Tryz.func53.trans (congrArg some (by kernel_rfl))
  f255:=Tryz.func64.trans (congrArg some (by kernel_rfl))
  t3:=Tryz.underlying3
  a3:=Tryz.isAgg3
  z3:=Tryz.sizeOf3
  v3:=Tryz.zeroValue3
  t5:=Tryz.underlying5
  a5:=Tryz.isAgg5
  z5:=Tryz.sizeOf5
  v5:=Tryz.zeroValue5
  t37:=Tryz.underlying36
  a37:=Tryz.isAgg36
  z37:=Tryz.sizeOf36
  v37:=Tryz.zeroValue36 }
open Go.RowKit Go.Lib in
theorem Tryz.bytes_IndexByte_at (a:Addr) (n c:Nat) (xs:List Int) (cv:Int) (w:World) (hx:xs.length=n) (hc:∀ i,i < n→w.cell? (a.add i)=some (.int .u8 (xs.getD i 0))) :
    Calls Tryz.prog 53 #[.slice (some a) n c,.int .u8 cv] w fun e w'=>e=.returned (.int .i64 (Lib.indexByte (Lib.bytesOf xs) cv.toNat.toUInt8))∧w'=w:=Any.bytes_IndexByte_at Tryz.lays187 a n c xs cv w hx hc
def Tryz.laysnb140_ren:Go.Shelf.Ren:=⟨fun | 140=>65 | 117=>73 | 115=>82 | n=>n,fun | 37=>36 | 4=>4 | 3=>3 | 9=>9 | 5=>5 | n=>n,fun | n=>n⟩
theorem Tryz.laysnb140:Go.Proofs.Lays.nb140 Tryz.prog Tryz.laysnb140_ren:={
  mixed:=by kernel_rfl
  f115:=Tryz.func82.trans (congrArg some (by kernel_rfl))
  f117:=Tryz.func73.trans (congrArg some (by kernel_rfl))
  f140:=Tryz.func65.trans (congrArg some (by kernel_rfl))
  t3:=Tryz.underlying3
  a3:=Tryz.isAgg3
  z3:=Tryz.sizeOf3
  v3:=Tryz.zeroValue3
  t4:=Tryz.underlying4
  a4:=Tryz.isAgg4
  z4:=Tryz.sizeOf4
  v4:=Tryz.zeroValue4
  t9:=Tryz.underlying9
  a9:=Tryz.isAgg9
  z9:=Tryz.sizeOf9
  v9:=Tryz.zeroValue9
  t37:=Tryz.underlying36
  a37:=Tryz.isAgg36
  z37:=Tryz.sizeOf36
  v37:=Tryz.zeroValue36
  t5:=Tryz.underlying5
  a5:=Tryz.isAgg5
  z5:=Tryz.sizeOf5
  v5:=Tryz.zeroValue5 }
theorem Tryz.bytes_TrimSuffix_all (p1 p2:Option Addr) (n c m d:Nat) (xs ys:List Int) (w:World) (hx:xs.length=n) (hy:ys.length=m) (hnc:n≤c) (hbig:n≤9223372036854775807) (h1:Lib.BytesIn w p1 n xs) (h2:Lib.BytesIn w p2 m ys) :
    Calls Tryz.prog 65 #[.slice p1 n c,.slice p2 m d] w fun e w'=>e=.returned (Lib.trimSuffixV p1 n c xs ys)∧w'=w:=Any.bytes_TrimSuffix_all Tryz.laysnb140 p1 p2 n c m d xs ys w hx hy hnc hbig h1 h2
theorem Tryz.bytes_IndexByte_nil (cv:Int) (w:World) :
    Calls Tryz.prog 53 #[.slice none 0 0,.int .u8 cv] w fun e w'=>e=.returned (.int .i64 (-1))∧w'=w:=Any.bytes_IndexByte_nil Tryz.lays187 cv w
end Go.Proofs
end
section
namespace Go.Proofs.YtfbhlbchmenloaaGreatDoor.H
open Go.RowKit Go.Proofs.YtfbhlbchmenloaaGreatDoorW.PrintWords Go.Proofs.YtfbhlbchmenloaaGreatDoorW.PrintLast Go.Proofs.YtfbhlbchmenloaaGreatDoorW.PrintMore
set_option linter.unusedVariables false

def utf8_DecodeRuneInString.f (a0:ByteArray):Option (Int×Int):=some (((Lib.decodeGo a0).1:Int),((Lib.decodeGo a0).2:Int))
theorem utf8_DecodeRuneInString.calls (a0:ByteArray) (r1:Int) (r2:Int) (w:World) (HLD:LaidA w) (h:utf8_DecodeRuneInString.f a0=some (r1,r2)) :
    Calls Tryz.prog 72 #[.string a0] w fun e w'=>e=.returned (.tuple #[.int .i32 r1,.int .i64 r2])∧Below w.heap.size w w':=by
  unfold utf8_DecodeRuneInString.f at h
  obtain ⟨rfl,rfl⟩:=Prod.mk.inj (Option.some.inj h)
  exact Tryz.utf8_DecodeRuneInString a0 w HLD.utf8

def strings_Split.f (a0 a1:ByteArray):Option (List ByteArray):=if a0.size < 4294967281∧1≤a1.size then some (Lib.splitB a1 0 (Lib.countB a0 a1) a0) else none
theorem strings_Split.calls (a0 a1:ByteArray) (r:List ByteArray) (w:World) (HLD:LaidA w) (h:strings_Split.f a0 a1=some r) :
    Calls Tryz.prog 57 #[.string a0,.string a1] w fun e w'=>∃ v0_:Value,e=.returned (v0_)∧Kd.R Kd.string 9 w' w.heap.size (fun _=>True) v0_ r∧Below w.heap.size w w':=by
  unfold strings_Split.f at h
  by_cases hc:a0.size < 4294967281∧1≤a1.size
  · rw [if_pos hc] at h
    obtain rfl:=Option.some.inj h
    obtain ⟨m,hm⟩:=HLD.maxLen
    refine (Tryz.strings_Split a0 a1 m w hc.1 hm hc.2).mono ?_
    rintro e w' ⟨rfl,rfl⟩
    refine ⟨_,rfl,?_,below_alloc (Below.refl _ _) _⟩
    have hlen:=Lib.splitB_all a1 hc.2 0 (Lib.countB a0 a1) a0 rfl
    have hle:=Lib.countB_le a1 hc.2 a0.size a0 (Nat.le_refl _)
    refine Kd.R_of_own ?_ (fun _ _=>trivial)
    have h:=World.ownsRow_lit (base:=w.heap.size) (e:=9) (size:=1) w ((Lib.splitB a1 0 (Lib.countB a0 a1) a0).map Value.string).toArray (Lib.countB a0 a1 + 1) (Nat.le_refl _) (by simp [maxLen];omega) (by simp [hlen])
    rw [hlen]
    simpa [encs] using h
  · rw [if_neg hc] at h
    cases h
end Go.Proofs.YtfbhlbchmenloaaGreatDoor.H
end
section
namespace Go.Proofs.YtfbhlbchmenloaaGreatDoor.R
open Go.ChangeShapes Go.WideShapes Go.ChangeAt Go.RowKit Go.Proofs.YtfbhlbchmenloaaGreatDoor.H
set_option linter.unusedVariables false

theorem own:ownKnob Tryz.prog.godebug=none:=by kernel_rfl
theorem star : "*" ++ "errors.errorString" = "*errors.errorString":=by decide
theorem rowStar (u:TypeId) (h:Tryz.prog.typeName? 3 u=some "*errors.errorString"):u=144:=
  typeName_ptr_named (nm := "errors.errorString") (by rw [star];kernel_rfl) (by kernel_rfl) (by decide) u (by rw [star];exact h)
theorem firstEq:Go.Pinned.utf8First=Lib.firstData:=by kernel_rfl
theorem acceptEq:(Rows.laid_unicode_utf8_acceptRanges:DataW Unit)=Lib.acceptData:=by kernel_rfl

/-- The list that every row of this seat bears. -/
def laidL:List (String×DataW Unit):=[("math/bits.deBruijn32tab",Rows.laid_math_bits_deBruijn32tab),("math/bits.deBruijn64tab",Rows.laid_math_bits_deBruijn64tab),("internal/strconv.uint64pow10",Rows.laid_internal_strconv_uint64pow10),("unicode/utf8.acceptRanges",Rows.laid_unicode_utf8_acceptRanges),("strconv.ErrRange",Rows.laid_strconv_ErrRange),("strconv.ErrSyntax",Rows.laid_strconv_ErrSyntax),("unicode/utf8.first",Rows.laid_unicode_utf8_first)]

theorem laidA_of {W:World} (hL0:laidMetH Tryz.prog laidL W) (hsh:W.ShapedOpen Tryz.prog):LaidA W:=by
  have hL:laidMet Tryz.prog laidL W:=hL0
  have hF:("unicode/utf8.first",Lib.firstData)∈laidL:=by rw [← firstEq];simp [laidL,Rows.laid_unicode_utf8_first]
  have hA:("unicode/utf8.acceptRanges",Lib.acceptData)∈laidL:=by rw [← acceptEq];simp [laidL]
  refine ⟨?_,?_,?_,?_,?_⟩
  · exact utf8Tabs_of_reads (ρ:=Tryz.lays260_ren) Tryz.lays260 ⟨by kernel_rfl,by kernel_rfl,by kernel_rfl,by kernel_rfl,by kernel_rfl,by kernel_rfl,by kernel_rfl⟩ (Lib.laidMet.reads hL hF) (Lib.laidMet.reads hL hA)
  · obtain ⟨a,_,hv,_⟩:=laid_sentinel (g:=3) hL.tail.tail.tail.tail.tail (by kernel_rfl) (by kernel_rfl) Tryz.underlying115 rowStar Tryz.underlying144 Tryz.underlying146 rfl rfl Tryz.underlying9 (by kernel_rfl) (by kernel_rfl)
    exact ⟨_,_,hv⟩
  · obtain ⟨a,_,hv,_⟩:=laid_sentinel (g:=4) hL.tail.tail.tail.tail (by kernel_rfl) (by kernel_rfl) Tryz.underlying115 rowStar Tryz.underlying144 Tryz.underlying146 rfl rfl Tryz.underlying9 (by kernel_rfl) (by kernel_rfl)
    exact ⟨_,_,hv⟩
  · exact Lib.tabIs_of_head (g:=5) (zs:=Lib.pow10Tab) (by kernel_rfl) (by kernel_rfl) Tryz.underlying154 Tryz.underlying24 (by kernel_rfl) (by kernel_rfl) hL.tail.tail
  · exact Go.Proofs.cell_of_shapedOpen_int (zero:=#[.int .i64 0]) (t:=3) hsh (of_decide_eq_true (by kernel_rfl)) (by kernel_rfl) rfl (by kernel_rfl) (by kernel_rfl) Tryz.underlying3

/-- A world for the witness: the settled one with two blocks more (the errors' texts), the listed variables holding what their initialisers lay. -/
noncomputable def laidWorld (os:Os):World:=
  let N:=(World.settled Tryz.prog os).heap.size
  let w0:=World.holding Tryz.prog os ⟨#[.cells #[.string ⟨#[105,110,118,97,108,105,100,32,115,121,110,116,97,120]⟩] 146,.cells #[.string ⟨#[118,97,108,117,101,32,111,117,116,32,111,102,32,114,97,110,103,101]⟩] 146],#[],[]⟩
  let put (h:Array Obj) (g:Nat) (cs:Array Value):Array Obj:=h.modify g fun
    | .cells _ t frozen=>.cells cs t frozen
    | o=>o
  let h0:=put w0.heap 3 #[.iface 144 (.pointer (some ⟨N,0,none⟩))]
  let h1:=put h0 4 #[.iface 144 (.pointer (some ⟨N + 1,0,none⟩))]
  let h2:=put h1 1 (Lib.firstTab.map fun z=>Value.int .u8 z).toArray
  let h3:=put h2 2 ((List.range 16).flatMap fun i=>[Value.int .u8 (Lib.accLo i),Value.int .u8 (Lib.accHi i)]).toArray
  let h4:=put h3 5 (Lib.pow10Tab.map fun z=>Value.int .u64 z).toArray
  let h5:=put h4 6 (([0,1,28,2,29,14,24,3,30,22,20,15,25,17,4,8,31,27,13,23,21,19,16,7,26,12,18,6,11,5,10,9]:List Int).map fun z=>Value.int .u8 z).toArray
  let h6:=put h5 7 (([0,1,56,2,57,49,28,3,61,58,42,50,38,29,17,4,62,47,59,36,45,43,51,22,53,39,33,30,24,18,12,5,63,55,48,27,60,41,37,16,46,35,44,21,52,32,23,11,54,26,40,15,34,20,31,10,25,14,19,9,13,8,7,6]:List Int).map fun z=>Value.int .u8 z).toArray
  { w0 with heap:=h6 }
set_option maxRecDepth 1000000 in
theorem laid_met (os:Os) (args:Array Value):laidMet Tryz.prog laidL ((laidWorld os).forCall (fun _ _=>0) ⟨#[],args,[]⟩).memory:=
  laidMet_of_run' 8 (by kernel_rfl) (by kernel_rfl)
end Go.Proofs.YtfbhlbchmenloaaGreatDoor.R
end
section
namespace Go.Proofs.YtfbhlbchmenloaaGreatDoor
open Go Go.Proofs.YtfbhlbchmenloaaGreatDoorW.PrintWords Go.Proofs.YtfbhlbchmenloaaGreatDoorW.PrintLast
theorem pS:(∀ (a:Act) (v:Value) (d:Tmp),a.put (some d) v={ tmps:=a.tmps.setIfInBounds d v,defers:=a.defers })∧(∀ (a:Act) (v:Value),a.put none v=a)∧(∀ (l:List Value) (i:Nat) (a:Value),l.toArray.setIfInBounds i a=(l.set i a).toArray)∧(∀ (x:Value) (xs:List Value) (a:Value),(x::xs).set 0 a=a::xs)∧(∀ (x:Value) (xs:List Value) (i:Nat) (a:Value),(x::xs).set (i + 1) a=x::xs.set i a)∧(∀ n:Int,IntKind.i64.wrap n=Go.RowKit.wrap64 n)∧(∀ n:Int,IntKind.i32.wrap n=Go.RowKit.wrap32 n):=
  ⟨fun _ _ _=>rfl,fun _ _=>rfl,fun l i a=>List.setIfInBounds_toArray l i a,fun _ _ _=>rfl,fun _ _ _ _=>rfl,i64_w,i32_w⟩
end Go.Proofs.YtfbhlbchmenloaaGreatDoor
end
section
namespace Go.Proofs.YtfbhlbchmenloaaGreatDoor.H
open Go.RowKit Go.Proofs.YtfbhlbchmenloaaGreatDoorW.PrintWords
set_option linter.unusedVariables false

def isDig (c:UInt8):Bool:=48≤c.toNat&&c.toNat≤57
/-- What Number tells. -/
def numF (l:List UInt8):Int×Bool:=
  if l.length < 1∨20 < l.length then (0,false)
  else if l.all isDig=true then
    match Lib.parseUintB 64 l with
    | .ok u=>((u:Int),true)
    | _=>(0,false)
  else (0,false)
def words_Number.f (a0:ByteArray):Option (Int×Bool):=some (numF a0.data.toList)

theorem num_long (s:ByteArray) (h:s.size < 1∨20 < s.size):numF s.data.toList=(0,false):=by
  unfold numF;rw [if_pos (by simpa using h)]

/-- A byte that is no digit at k. -/
theorem num_bad (s:ByteArray) (h:¬ (s.size < 1∨20 < s.size)) (k:Nat) (hk:k < s.size) (hb:(s[k]'hk).toNat < 48∨57 < (s[k]'hk).toNat):numF s.data.toList=(0,false):=by
  unfold numF
  rw [if_neg (by simpa using h),if_neg]
  intro ha
  have h1:=List.all_eq_true.1 ha (s[k]'hk) (by
    show s.data[k]'hk∈s.data.toList
    exact Array.mem_toList_iff.2 (Array.getElem_mem hk))
  simp [isDig] at h1
  omega
theorem num_good (s:ByteArray) (h:¬ (s.size < 1∨20 < s.size)) (hd:∀ k,(hk:k < s.size)→48≤(s[k]'hk).toNat∧(s[k]'hk).toNat≤57) :
    numF s.data.toList=match Lib.parseUintB 64 s.data.toList with | .ok u=>((u:Int),true) | _=>(0,false):=by
  unfold numF
  rw [if_neg (by simpa using h),if_pos]
  refine List.all_eq_true.2 fun c hc=>?_
  obtain ⟨k,hk,rfl⟩:=List.getElem_of_mem hc
  have:=hd k (by simpa using hk)
  simp [isDig]
  exact this

theorem ret_num {s:ByteArray} {a:Int} {b:Bool} (h:numF s.data.toList=(a,b)):Ending.returned (.tuple #[.int .u64 a,.bool b])=.returned (.tuple #[.int .u64 (numF s.data.toList).1,.bool (numF s.data.toList).2]):=by rw [h]

set_option maxHeartbeats 1000000 in
set_option maxRecDepth 100000 in
theorem number_walk (s:ByteArray) (w:World) (HLD:LaidA w) :
    Calls Tryz.prog 61 #[.string s] w fun e w'=>e=.returned (.tuple #[.int .u64 (numF s.data.toList).1,.bool (numF s.data.toList).2])∧Below w.heap.size w w':=by
  by_cases h1:s.size < 1
  · have Hn:=Aside0.mk (num_long s (.inl h1))
    have d1:decide (s.size < 1)=true:=by simpa using h1
    go_enter Tryz.func61,Tryz.ntmps61
    go_wp2
    go_ret2
    exact ⟨ret_num Hn.out,Below.refl _ _⟩
  · by_cases h20:20 < s.size
    · have Hn:=Aside0.mk (num_long s (.inr h20))
      have d1:decide (s.size < 1)=false:=by simpa using h1
      have d2:decide (20 < s.size)=true:=by simpa using h20
      go_enter Tryz.func61,Tryz.ntmps61
      go_wp2
      go_ret2
      exact ⟨ret_num Hn.out,Below.refl _ _⟩
    · have Hb:=Aside0.mk (num_bad s (by omega))
      have Hg:=Aside0.mk (num_good s (by omega))
      have d1:decide (s.size < 1)=false:=by simpa using h1
      have d2:decide (20 < s.size)=false:=by simpa using h20
      go_enter Tryz.func61,Tryz.ntmps61
      go_wp2
      go_loop [4] (fun i=>∃ k:Nat,k≤s.size∧i=.int .i64 k∧Aside0 (∀ j,(hj:j < s.size)→j < k→48≤(s[j]'hj).toNat∧(s[j]'hj).toNat≤57)) (fun i=>s.size - (intOf i).toNat)
      case atStart=>exact ⟨0,Nat.zero_le _,rfl,⟨fun j hj h=>absurd h (Nat.not_lt_zero _)⟩⟩
      case round=>
        obtain ⟨k,hk,rfl,HA⟩:=hrel
        by_cases hlt:k < s.size
        · by_cases c1:(s[k]'hlt).toNat < 48
          · have e1:decide (((s[k]'hlt).toNat:Int) < 48)=true:=decide_eq_true (by omega)
            have Hn:=Aside0.mk (Hb.out k hlt (.inl c1))
            go_wp2
            go_ret2
            exact ⟨ret_num Hn.out,Below.refl _ _⟩
          · have e1:decide (((s[k]'hlt).toNat:Int) < 48)=false:=decide_eq_false (by omega)
            by_cases c2:57 < (s[k]'hlt).toNat
            · have e2:decide (57 < ((s[k]'hlt).toNat:Int))=true:=decide_eq_true (by omega)
              have Hn:=Aside0.mk (Hb.out k hlt (.inr c2))
              go_wp2
              go_ret2
              exact ⟨ret_num Hn.out,Below.refl _ _⟩
            · have e2:decide (57 < ((s[k]'hlt).toNat:Int))=false:=decide_eq_false (by omega)
              have HB:Aside0 (48≤(s[k]'hlt).toNat∧(s[k]'hlt).toNat≤57):=⟨by omega⟩
              go_wp2
              go_round
              case rel=>
                refine ⟨k + 1,by omega,by go_num,⟨fun j hj hjk=>?_⟩⟩
                by_cases e:j=k
                · subst e;exact HB.out
                · exact HA.out j hj (by omega)
              case measure=>simp [intOf];omega
        · have Hn0:=Hg.out (fun j hj=>HA.out j hj (by omega))
          have hs48:s.size≤281474976710656:=by omega
          have hmax:s.size≤9223372036854775806:=by omega
          rcases hp:Lib.parseUintB 64 s.data.toList with u | _ | _
          ·
            rw [hp] at Hn0
            have Hn:=Aside0.mk Hn0
            have HP:=Aside0.mk hp
            clear Hn0 hp
            go_wp2_with (go_at_call 70;refine (Tryz.strconv_ParseUint_10_at64_ok s hmax u HP.out _).mono ?_;rintro e w' ⟨rfl,hw'⟩)
            go_ret2
            refine ⟨ret_num Hn.out,?_⟩
            rcases hw' with rfl | rfl
            · exact Below.refl _ _
            · exact Lib.bytesWorld_below _ _ _
          ·
            rw [hp] at Hn0
            have Hn:=Aside0.mk Hn0
            have HP:=Aside0.mk hp
            clear Hn0 hp
            obtain ⟨tp,p,hv⟩:=HLD.syn
            have HV:=Aside0.mk hv
            clear hv
            go_wp2_with (go_at_call 70;refine (show Calls Tryz.prog 70 #[.string s,.int .i64 10,.int .i64 64] _ _ from Any.strconv_ParseUint_10_at64_syntax_var Tryz.laysPu14 s hs48 HP.out tp p _ HV.out).mono ?_;rintro e w' ⟨N,rfl,_,_,hb⟩)
            go_ret2
            exact ⟨ret_num Hn.out,hb⟩
          ·
            rw [hp] at Hn0
            have Hn:=Aside0.mk Hn0
            have HP:=Aside0.mk hp
            clear Hn0 hp
            obtain ⟨tp,p,hv⟩:=HLD.rng
            have HV:=Aside0.mk hv
            clear hv
            go_wp2_with (go_at_call 70;refine (Tryz.strconv_ParseUint_10_at64_range_var s hs48 HP.out tp p _ HV.out).mono ?_;rintro e w' ⟨N,rfl,_,_,hb⟩)
            go_ret2
            exact ⟨ret_num Hn.out,hb⟩
theorem words_Number.calls (a0:ByteArray) (r1:Int) (r2:Bool) (w:World) (HLD:LaidA w) (h:words_Number.f a0=some (r1,r2)) :
    Calls Tryz.prog 61 #[.string a0] w fun e w'=>e=.returned (.tuple #[.int .u64 r1,.bool r2])∧Below w.heap.size w w':=by
  have e:=Option.some.inj h
  have h1:=number_walk a0 w HLD
  rw [e] at h1
  exact h1
end Go.Proofs.YtfbhlbchmenloaaGreatDoor.H
end
section
namespace Go.Proofs.YtfbhlbchmenloaaGreatDoor.H
open Go.RowKit Go.Proofs.YtfbhlbchmenloaaGreatDoorW.PrintWords
set_option linter.unusedVariables false

/-- Is the rune that stands at pos well formed? -/
def okAt (s:ByteArray) (pos:Nat):Bool:=(Utf8.decode s pos).1 != 65533 || decide (1 < (Utf8.decode s pos).2)
theorem decodeGo_at (s:ByteArray) (pos:Nat) (h:pos < s.size):Lib.decodeGo (s.extract pos s.size)=Utf8.decode s pos:=by
  unfold Lib.decodeGo
  rw [if_neg (by rw [ByteArray.size_extract];omega),Lib.tail_decode,Nat.add_zero]

set_option maxHeartbeats 1000000 in
set_option maxRecDepth 100000 in
theorem spelt_walk (s:ByteArray) (pos:Nat) (hp:pos < s.size) (hs:s.size≤140737488351232) (w:World) (HLD:LaidA w) :
    Calls Tryz.prog 63 #[.string s,.int .i64 pos,.int .i32 (Utf8.decode s pos).1] w fun e w'=>e=.returned (.bool (okAt s pos))∧Below w.heap.size w w':=by
  have hle:=decode_le s pos
  by_cases h:(Utf8.decode s pos).1=65533
  · have e1:(((Utf8.decode s pos).1:Int) != 65533)=false:=by rw [bne_eq_false_iff_eq];omega
    have HO:Aside0 (okAt s pos=decide (1 < (Utf8.decode s pos).2)):=⟨by unfold okAt;rw [show ((Utf8.decode s pos).1 != 65533)=false by rw [bne_eq_false_iff_eq];exact h];rfl⟩
    have HG:=Aside0.mk (decodeGo_at s pos hp)
    clear h
    go_enter Tryz.func63,Tryz.ntmps63
    go_wp2_with (go_at_call 72;refine (Tryz.utf8_DecodeRuneInString (s.extract pos s.size) _ HLD.utf8).mono ?_;rintro e w' ⟨rfl,hb⟩)
    go_ret
    refine ⟨?_,hb⟩
    rw [HO.out,HG.out]
    simp
    omega
  · have e1:(((Utf8.decode s pos).1:Int) != 65533)=true:=by rw [bne_iff_ne];omega
    have HO:Aside0 (okAt s pos=true):=⟨by unfold okAt;rw [show ((Utf8.decode s pos).1 != 65533)=true by rw [bne_iff_ne];exact h];rfl⟩
    clear h
    go_enter Tryz.func63,Tryz.ntmps63
    go_wp2
    go_ret
    exact ⟨by rw [HO.out];rfl,Below.refl _ _⟩

theorem spelt_is (s:ByteArray) (pos:Nat) (b:Bool) (hb:okAt s pos=b) (hp:pos < s.size) (hs:s.size≤140737488351232) (w:World) (HLD:LaidA w) :
    Calls Tryz.prog 63 #[.string s,.int .i64 pos,.int .i32 (Utf8.decode s pos).1] w fun e w'=>e=.returned (.bool b)∧Below w.heap.size w w':=by
  subst hb;exact spelt_walk s pos hp hs w HLD

/-- May the rune at pos stand in a key? -/
def keyAt (s:ByteArray) (pos:Nat):Bool:=
  okAt s pos&&decide (32 < (Utf8.decode s pos).1)&&!(decide (127≤(Utf8.decode s pos).1)&&decide ((Utf8.decode s pos).1≤160))&&(Utf8.decode s pos).1 != 8232&&(Utf8.decode s pos).1 != 8233
def keyFrom (s:ByteArray):Nat→Nat→Bool
  | 0,_=>true
  | f + 1,pos=>if pos < s.size then keyAt s pos&&keyFrom s f (pos + (Utf8.decode s pos).2) else true
def keyF (s:ByteArray):Bool:=!(decide (s.size < 1))&&!(decide (250 < s.size))&&keyFrom s s.size 0
theorem keyFrom_end (s:ByteArray) (f pos:Nat) (h:¬ pos < s.size):keyFrom s f pos=true:=by cases f<;>simp [keyFrom,h]
theorem ret_key {s:ByteArray} {b:Bool} (h:keyF s=b):Ending.returned (.bool b)=.returned (.bool (keyF s)):=by rw [h]

set_option maxHeartbeats 2000000 in
set_option maxRecDepth 100000 in
theorem key_walk (s:ByteArray) (w:World) (HLD:LaidA w) :
    Calls Tryz.prog 52 #[.string s] w fun e w'=>e=.returned (.bool (keyF s))∧Below w.heap.size w w':=by
  by_cases h1:s.size < 1
  · have HK:Aside0 (keyF s=false):=⟨by simp [keyF,h1]⟩
    have d1:decide (s.size < 1)=true:=decide_eq_true h1
    go_enter Tryz.func52,Tryz.ntmps52
    go_wp2
    go_ret
    exact ⟨ret_key HK.out,Below.refl _ _⟩
  · by_cases h2:250 < s.size
    · have HK:Aside0 (keyF s=false):=⟨by simp [keyF,h2]⟩
      have d1:decide (s.size < 1)=false:=decide_eq_false h1
      have d2:decide (250 < s.size)=true:=decide_eq_true h2
      go_enter Tryz.func52,Tryz.ntmps52
      go_wp2
      go_ret
      exact ⟨ret_key HK.out,Below.refl _ _⟩
    · have HK:Aside0 (keyF s=keyFrom s s.size 0):=⟨by simp [keyF,h1,h2]⟩
      have d1:decide (s.size < 1)=false:=decide_eq_false h1
      have d2:decide (250 < s.size)=false:=decide_eq_false h2
      have hs:s.size≤140737488351232:=by omega
      go_enter Tryz.func52,Tryz.ntmps52
      go_wp2
      go_loopw [] (fun wr=>∃ (pos b:Nat),Aside0 (wr.heap[w.heap.size]? = some (.stringIter s pos))∧Aside0 (Below w.heap.size w wr)∧Aside0 (keyFrom s b pos=keyF s)∧s.size≤pos + b) (fun wr=>s.size - wr.iterPos w.heap.size)
      case atStart=>
        exact ⟨0,s.size,⟨World.iter_heap w s 0⟩,⟨below_alloc (Below.refl _ _) _⟩,⟨HK.out.symm⟩,by omega⟩
      case round=>
        obtain ⟨pos,b,HI,HB,HO,hb⟩:=hrel
        have hit:=HI.out
        have hsz:w.heap.size < wr.heap.size:=(Array.getElem?_eq_some_iff.1 hit).1
        by_cases hp:pos < s.size
        · have hnx:∀ ty,(Instr.next (.pointer (some ⟨w.heap.size,0,none⟩)) true ty).run Tryz.prog wr=_:=fun ty=>Lib.run_next_any_at wr w.heap.size s pos ty hit hp
          have hwd:=Lib.decode_width_pos s pos hp
          have HI2:=Aside0.mk (Lib.iterAt_heap wr w.heap.size s pos (pos + (Utf8.decode s pos).2) hit)
          have HB2:=Aside0.mk (Lib.below_iterAt HB.out (k:=w.heap.size) (Nat.le_refl _) s (pos + (Utf8.decode s pos).2))
          have HL2:=HLD.below HB2.out
          have HS2:=Aside0.mk (Lib.iterAt_size wr w.heap.size s (pos + (Utf8.decode s pos).2))
          clear hit
          obtain ⟨f,rfl⟩:∃ f,b=f + 1:=⟨b - 1,by omega⟩
          have HO1:Aside0 (keyFrom s (f + 1) pos=(keyAt s pos&&keyFrom s f (pos + (Utf8.decode s pos).2))):=⟨by simp [keyFrom,hp]⟩
          have hle:=decode_le s pos
          by_cases hk:okAt s pos=true
          · have HK0:=Aside0.mk hk
            clear hk
            by_cases c1:(Utf8.decode s pos).1≤32
            · have HF:Aside0 (keyF s=false):=⟨by rw [← HO.out,HO1.out];simp [keyAt,HK0.out,(show ¬ 32 < (Utf8.decode s pos).1 by omega)]⟩
              have e1:decide (((Utf8.decode s pos).1:Int)≤32)=true:=decide_eq_true (by omega)
              clear hle
              go_wp2_with (go_at_call 63;refine (spelt_is s pos true HK0.out hp hs _ HL2).mono ?_;rintro e w1 ⟨rfl,hb1⟩)
              go_ret
              exact ⟨ret_key HF.out,below_then HB2.out (by rw [HS2.out];omega) hb1⟩
            · have e1:decide (((Utf8.decode s pos).1:Int)≤32)=false:=decide_eq_false (by omega)
              by_cases c2:127≤(Utf8.decode s pos).1∧(Utf8.decode s pos).1≤160
              · have HF:Aside0 (keyF s=false):=⟨by rw [← HO.out,HO1.out];simp [keyAt,c2.1,c2.2]⟩
                have e2:decide (127≤((Utf8.decode s pos).1:Int))=true:=decide_eq_true (by omega)
                have e3:decide (((Utf8.decode s pos).1:Int)≤160)=true:=decide_eq_true (by omega)
                clear hle c1 c2
                go_wp2_with (go_at_call 63;refine (spelt_is s pos true HK0.out hp hs _ HL2).mono ?_;rintro e w1 ⟨rfl,hb1⟩)
                go_ret
                exact ⟨ret_key HF.out,below_then HB2.out (by rw [HS2.out];omega) hb1⟩
              · by_cases c3:(Utf8.decode s pos).1=8232∨(Utf8.decode s pos).1=8233
                · have HF:Aside0 (keyF s=false):=⟨by rw [← HO.out,HO1.out];rcases c3 with c3 | c3<;>simp [keyAt,c3]⟩
                  have e2:decide (127≤((Utf8.decode s pos).1:Int))=true:=decide_eq_true (by omega)
                  have e3:decide (((Utf8.decode s pos).1:Int)≤160)=false:=decide_eq_false (by omega)
                  by_cases c4:(Utf8.decode s pos).1=8232
                  · have e4:(((Utf8.decode s pos).1:Int)==8232)=true:=beq_iff_eq.2 (by omega)
                    clear hle c1 c2 c3 c4
                    go_wp2_with (go_at_call 63;refine (spelt_is s pos true HK0.out hp hs _ HL2).mono ?_;rintro e w1 ⟨rfl,hb1⟩)
                    go_ret
                    exact ⟨ret_key HF.out,below_then HB2.out (by rw [HS2.out];omega) hb1⟩
                  · have e4:(((Utf8.decode s pos).1:Int)==8232)=false:=beq_eq_false_iff_ne.2 (by omega)
                    have e5:(((Utf8.decode s pos).1:Int)==8233)=true:=beq_iff_eq.2 (by omega)
                    clear hle c1 c2 c3 c4
                    go_wp2_with (go_at_call 63;refine (spelt_is s pos true HK0.out hp hs _ HL2).mono ?_;rintro e w1 ⟨rfl,hb1⟩)
                    go_ret
                    exact ⟨ret_key HF.out,below_then HB2.out (by rw [HS2.out];omega) hb1⟩
                · have HC:Aside0 (keyFrom s f (pos + (Utf8.decode s pos).2)=keyF s):=⟨by rw [← HO.out,HO1.out,show keyAt s pos=true by simp [keyAt,HK0.out];omega];rfl⟩
                  have e4:(((Utf8.decode s pos).1:Int)==8232)=false:=beq_eq_false_iff_ne.2 (by omega)
                  have e5:(((Utf8.decode s pos).1:Int)==8233)=false:=beq_eq_false_iff_ne.2 (by omega)
                  by_cases c4:127≤(Utf8.decode s pos).1
                  · have e2:decide (127≤((Utf8.decode s pos).1:Int))=true:=decide_eq_true (by omega)
                    have e3:decide (((Utf8.decode s pos).1:Int)≤160)=false:=decide_eq_false (by omega)
                    clear hle c1 c2 c3 c4
                    go_wp2_with (go_at_call 63;refine (spelt_is s pos true HK0.out hp hs _ HL2).mono ?_;rintro e w1 ⟨rfl,hb1⟩)
                    have HI3:Aside0 (w1.heap[w.heap.size]? = some (.stringIter s (pos + (Utf8.decode s pos).2))):=⟨(hb1.block _ (by rw [HS2.out];omega)).trans HI2.out⟩
                    go_roundw
                    case rel=>exact ⟨pos + (Utf8.decode s pos).2,f,HI3,⟨below_then HB2.out (by rw [HS2.out];omega) hb1⟩,HC,by omega⟩
                    case measure=>
                      simp only [World.iterPos,HI3.out,HI.out]
                      omega
                  · have e2:decide (127≤((Utf8.decode s pos).1:Int))=false:=decide_eq_false (by omega)
                    clear hle c1 c2 c3 c4
                    go_wp2_with (go_at_call 63;refine (spelt_is s pos true HK0.out hp hs _ HL2).mono ?_;rintro e w1 ⟨rfl,hb1⟩)
                    have HI3:Aside0 (w1.heap[w.heap.size]? = some (.stringIter s (pos + (Utf8.decode s pos).2))):=⟨(hb1.block _ (by rw [HS2.out];omega)).trans HI2.out⟩
                    go_roundw
                    case rel=>exact ⟨pos + (Utf8.decode s pos).2,f,HI3,⟨below_then HB2.out (by rw [HS2.out];omega) hb1⟩,HC,by omega⟩
                    case measure=>
                      simp only [World.iterPos,HI3.out,HI.out]
                      omega
          · have HK0:Aside0 (okAt s pos=false):=⟨by simpa using hk⟩
            clear hk hle
            have HF:Aside0 (keyF s=false):=⟨by rw [← HO.out,HO1.out];simp [keyAt,HK0.out]⟩
            go_wp2_with (go_at_call 63;refine (spelt_is s pos false HK0.out hp hs _ HL2).mono ?_;rintro e w1 ⟨rfl,hb1⟩)
            go_ret
            exact ⟨ret_key HF.out,below_then HB2.out (by rw [HS2.out];omega) hb1⟩
        · have hnx:∀ ty,(Instr.next (.pointer (some ⟨w.heap.size,0,none⟩)) true ty).run Tryz.prog wr=_:=fun ty=>Lib.run_next_end_at wr w.heap.size s pos ty hit hp
          clear hit
          go_wp2
          go_ret
          have h2:=HO.out
          rw [keyFrom_end s b pos hp] at h2
          exact ⟨ret_key h2.symm,HB.out⟩
def words_Key.f (a0:ByteArray):Option Bool:=some (keyF a0)
theorem words_Key.calls (a0:ByteArray) (r:Bool) (w:World) (HLD:LaidA w) (h:words_Key.f a0=some r) :
    Calls Tryz.prog 52 #[.string a0] w fun e w'=>e=.returned (.bool r)∧Below w.heap.size w w':=by
  obtain rfl:=Option.some.inj h
  exact key_walk a0 w HLD
end Go.Proofs.YtfbhlbchmenloaaGreatDoor.H
end
section
namespace Go.Proofs.YtfbhlbchmenloaaGreatDoor.H
open Go.RowKit Go.Proofs.YtfbhlbchmenloaaGreatDoorW.PrintWords
set_option linter.unusedVariables false
/-- A command that leads to no memory; nothing: none. -/
inductive Cm
  | nil
  | store (verb key data:ByteArray) (flags exp cas:Int) (quiet:Bool)
  | arith (key:ByteArray) (by_:Int) (down quiet:Bool)
  | touch (key:ByteArray) (exp:Int) (quiet:Bool)
  | delete (key:ByteArray) (quiet:Bool)
  | flush (quiet:Bool)
  | bad (text:ByteArray)
  | word (name:ByteArray)
/-- As the machine holds it. -/
def anyW:Cm→Value
  | .nil=>.nilIface
  | .store v k d f e c q=>.iface 73 (.agg #[.string v,.string k,.string d,.int .u32 f,.int .i64 e,.int .u64 c,.bool q])
  | .arith k b d q=>.iface 76 (.agg #[.string k,.int .u64 b,.bool d,.bool q])
  | .touch k e q=>.iface 79 (.agg #[.string k,.int .i64 e,.bool q])
  | .delete k q=>.iface 82 (.agg #[.string k,.bool q])
  | .flush q=>.iface 85 (.agg #[.bool q])
  | .bad t=>.iface 88 (.agg #[.string t])
  | .word n=>.iface 91 (.agg #[.string n])
def parse_get.f (l0:List ByteArray):Option (Cm×Int):=none
theorem parse_get.calls (A0:Option Addr) (c0:Nat) (l0:List ByteArray) (r1:Cm) (r2:Int) (w:World) (HLD:LaidA w) (hr0:Kd.C Kd.string w A0 l0.length l0) (hc0:l0.length≤c0) (h:parse_get.f l0=some (r1,r2)) :
    Calls Tryz.prog 48 #[.slice A0 l0.length c0] w fun e w'=>e=.returned (.tuple #[anyW r1,.int .i64 r2])∧Below w.heap.size w w':=by cases h
end Go.Proofs.YtfbhlbchmenloaaGreatDoor.H
end
section
namespace Go.Proofs.YtfbhlbchmenloaaGreatDoor.H
open Go.RowKit Go.Proofs.YtfbhlbchmenloaaGreatDoorW.PrintWords Go.Proofs.YtfbhlbchmenloaaGreatDoorW.PrintLast Go.Proofs.YtfbhlbchmenloaaGreatDoorW.PrintMore
set_option linter.unusedVariables false
set_option linter.unusedSimpArgs false
/-- A command as it is told. -/
structure Cd where
  what:ByteArray
  verb:ByteArray
  keys:List ByteArray
  data:ByteArray
  flags:Int
  exp:Int
  cas:Int
  by_:Int
  withCas:Bool
  withTouch:Bool
  down:Bool
  quiet:Bool
def cdV (d:Cd) (v:Value):Value:=.agg #[.string d.what,.string d.verb,v,.string d.data,.int .u32 d.flags,.int .i64 d.exp,.int .u64 d.cas,.int .u64 d.by_,.bool d.withCas,.bool d.withTouch,.bool d.down,.bool d.quiet]
def ez:ByteArray:=⟨#[]⟩
def toD:Cm→Cd
  | .nil=>⟨ez,ez,[],ez,0,0,0,0,false,false,false,false⟩
  | .store v k d f e c q=>⟨⟨#[115,116,111,114,101]⟩,v,[k],d,f,e,c,0,false,false,false,q⟩
  | .arith k b d q=>⟨⟨#[97,114,105,116,104]⟩,ez,[k],ez,0,0,0,b,false,false,d,q⟩
  | .touch k e q=>⟨⟨#[116,111,117,99,104]⟩,ez,[k],ez,0,e,0,0,false,false,false,q⟩
  | .delete k q=>⟨⟨#[100,101,108,101,116,101]⟩,ez,[k],ez,0,0,0,0,false,false,false,q⟩
  | .flush q=>⟨⟨#[102,108,117,115,104]⟩,ez,[],ez,0,0,0,0,false,false,false,q⟩
  | .bad t=>⟨⟨#[98,97,100]⟩,t,[],ez,0,0,0,0,false,false,false,false⟩
  | .word n=>⟨⟨#[119,111,114,100]⟩,n,[],ez,0,0,0,0,false,false,false,false⟩
theorem new_at {X:World} {o:Obj} {g:Nat} (h:X.heap.size=g):(X.alloc o).heap[g]? = some o:=by subst h;exact heap_alloc_new X o
/-- A row of one text, new. -/
theorem row_one {w:World} {base g:Nat} {k:ByteArray} {ok:Nat→Prop} (h:w.heap[g]? = some (.cells #[.string k] 9 (0,0))) (hb:base≤g) (hok:ok g):Kd.R Kd.string 9 w base ok (.slice (some ⟨g,0,none⟩) 1 1) [k]:=
  Kd.R_of_own (h1:=fun _=>rfl) ⟨rfl,.inr ⟨g,1,_,rfl,hb,h,by simp,by decide,rfl,rfl⟩⟩ (fun b e=>by obtain rfl:=Option.some.inj e;exact hok)
theorem missGet (T:TypeId) (p:Value) (h:(T==69)=false) (W:World):(Instr.typeAssert (.iface T p) 20 69 true).run Tryz.prog W=.ok (.tuple #[.agg #[.slice none 0 0,.bool false,.bool false,.int .i64 0],.bool false]) W:=by
  simp [Instr.typeAssert]
  simpa using h
theorem hitGet (p:Value) (W:World):(Instr.typeAssert (.iface 69 p) 20 69 true).run Tryz.prog W=.ok (.tuple #[p,.bool true]) W:=by simp [Instr.typeAssert]
theorem noneGet (W:World):(Instr.typeAssert .nilIface 20 69 true).run Tryz.prog W=.ok (.tuple #[.agg #[.slice none 0 0,.bool false,.bool false,.int .i64 0],.bool false]) W:=by simp [Instr.typeAssert]
theorem missStore (T:TypeId) (p:Value) (h:(T==73)=false) (W:World):(Instr.typeAssert (.iface T p) 20 73 true).run Tryz.prog W=.ok (.tuple #[.agg #[.string ⟨#[]⟩,.string ⟨#[]⟩,.string ⟨#[]⟩,.int .u32 0,.int .i64 0,.int .u64 0,.bool false],.bool false]) W:=by
  simp [Instr.typeAssert]
  simpa using h
theorem hitStore (p:Value) (W:World):(Instr.typeAssert (.iface 73 p) 20 73 true).run Tryz.prog W=.ok (.tuple #[p,.bool true]) W:=by simp [Instr.typeAssert]
theorem noneStore (W:World):(Instr.typeAssert .nilIface 20 73 true).run Tryz.prog W=.ok (.tuple #[.agg #[.string ⟨#[]⟩,.string ⟨#[]⟩,.string ⟨#[]⟩,.int .u32 0,.int .i64 0,.int .u64 0,.bool false],.bool false]) W:=by simp [Instr.typeAssert]
theorem missArith (T:TypeId) (p:Value) (h:(T==76)=false) (W:World):(Instr.typeAssert (.iface T p) 20 76 true).run Tryz.prog W=.ok (.tuple #[.agg #[.string ⟨#[]⟩,.int .u64 0,.bool false,.bool false],.bool false]) W:=by
  simp [Instr.typeAssert]
  simpa using h
theorem hitArith (p:Value) (W:World):(Instr.typeAssert (.iface 76 p) 20 76 true).run Tryz.prog W=.ok (.tuple #[p,.bool true]) W:=by simp [Instr.typeAssert]
theorem noneArith (W:World):(Instr.typeAssert .nilIface 20 76 true).run Tryz.prog W=.ok (.tuple #[.agg #[.string ⟨#[]⟩,.int .u64 0,.bool false,.bool false],.bool false]) W:=by simp [Instr.typeAssert]
theorem missTouch (T:TypeId) (p:Value) (h:(T==79)=false) (W:World):(Instr.typeAssert (.iface T p) 20 79 true).run Tryz.prog W=.ok (.tuple #[.agg #[.string ⟨#[]⟩,.int .i64 0,.bool false],.bool false]) W:=by
  simp [Instr.typeAssert]
  simpa using h
theorem hitTouch (p:Value) (W:World):(Instr.typeAssert (.iface 79 p) 20 79 true).run Tryz.prog W=.ok (.tuple #[p,.bool true]) W:=by simp [Instr.typeAssert]
theorem noneTouch (W:World):(Instr.typeAssert .nilIface 20 79 true).run Tryz.prog W=.ok (.tuple #[.agg #[.string ⟨#[]⟩,.int .i64 0,.bool false],.bool false]) W:=by simp [Instr.typeAssert]
theorem missDelete (T:TypeId) (p:Value) (h:(T==82)=false) (W:World):(Instr.typeAssert (.iface T p) 20 82 true).run Tryz.prog W=.ok (.tuple #[.agg #[.string ⟨#[]⟩,.bool false],.bool false]) W:=by
  simp [Instr.typeAssert]
  simpa using h
theorem hitDelete (p:Value) (W:World):(Instr.typeAssert (.iface 82 p) 20 82 true).run Tryz.prog W=.ok (.tuple #[p,.bool true]) W:=by simp [Instr.typeAssert]
theorem noneDelete (W:World):(Instr.typeAssert .nilIface 20 82 true).run Tryz.prog W=.ok (.tuple #[.agg #[.string ⟨#[]⟩,.bool false],.bool false]) W:=by simp [Instr.typeAssert]
theorem missFlush (T:TypeId) (p:Value) (h:(T==85)=false) (W:World):(Instr.typeAssert (.iface T p) 20 85 true).run Tryz.prog W=.ok (.tuple #[.agg #[.bool false],.bool false]) W:=by
  simp [Instr.typeAssert]
  simpa using h
theorem hitFlush (p:Value) (W:World):(Instr.typeAssert (.iface 85 p) 20 85 true).run Tryz.prog W=.ok (.tuple #[p,.bool true]) W:=by simp [Instr.typeAssert]
theorem noneFlush (W:World):(Instr.typeAssert .nilIface 20 85 true).run Tryz.prog W=.ok (.tuple #[.agg #[.bool false],.bool false]) W:=by simp [Instr.typeAssert]
theorem missBad (T:TypeId) (p:Value) (h:(T==88)=false) (W:World):(Instr.typeAssert (.iface T p) 20 88 true).run Tryz.prog W=.ok (.tuple #[.agg #[.string ⟨#[]⟩],.bool false]) W:=by
  simp [Instr.typeAssert]
  simpa using h
theorem hitBad (p:Value) (W:World):(Instr.typeAssert (.iface 88 p) 20 88 true).run Tryz.prog W=.ok (.tuple #[p,.bool true]) W:=by simp [Instr.typeAssert]
theorem noneBad (W:World):(Instr.typeAssert .nilIface 20 88 true).run Tryz.prog W=.ok (.tuple #[.agg #[.string ⟨#[]⟩],.bool false]) W:=by simp [Instr.typeAssert]
theorem missWord (T:TypeId) (p:Value) (h:(T==91)=false) (W:World):(Instr.typeAssert (.iface T p) 20 91 true).run Tryz.prog W=.ok (.tuple #[.agg #[.string ⟨#[]⟩],.bool false]) W:=by
  simp [Instr.typeAssert]
  simpa using h
theorem hitWord (p:Value) (W:World):(Instr.typeAssert (.iface 91 p) 20 91 true).run Tryz.prog W=.ok (.tuple #[p,.bool true]) W:=by simp [Instr.typeAssert]
theorem noneWord (W:World):(Instr.typeAssert .nilIface 20 91 true).run Tryz.prog W=.ok (.tuple #[.agg #[.string ⟨#[]⟩],.bool false]) W:=by simp [Instr.typeAssert]
attribute [local go_sem] missGet hitGet noneGet missStore hitStore noneStore missArith hitArith noneArith missTouch hitTouch noneTouch missDelete hitDelete noneDelete missFlush hitFlush noneFlush missBad hitBad noneBad missWord hitWord noneWord
set_option maxHeartbeats 8000000 in
set_option maxRecDepth 100000 in
theorem event_To.calls (c:Cm) (w:World):Calls Tryz.prog 29 #[anyW c] w fun e w'=>∃ v0_:Value,e=.returned (cdV (toD c) v0_)∧Kd.R Kd.string 9 w' w.heap.size (fun _=>True) v0_ (toD c).keys∧Below w.heap.size w w':=by
  have huCommand:=Tryz.underlying29
  have huGet:=Tryz.underlying69
  have huStore:=Tryz.underlying73
  have huArith:=Tryz.underlying76
  have huTouch:=Tryz.underlying79
  have huDelete:=Tryz.underlying82
  have huFlush:=Tryz.underlying85
  have huBad:=Tryz.underlying88
  have huWord:=Tryz.underlying91
  cases c with
  | nil=>
    unfold anyW
    go_enter Tryz.func29,Tryz.ntmps29
    go_wp2
    refine bodyPost_ret (results_cell_row rfl _ _ w.heap.size 29 #[.string ⟨#[]⟩,.string ⟨#[]⟩,.slice none 0 0,.string ⟨#[]⟩,.int .u32 0,.int .i64 0,.int .u64 0,.int .u64 0,.bool false,.bool false,.bool false,.bool false] (0,0) _ rfl (blk_alloc (blk_alloc (blk_alloc (blk_alloc (blk_alloc (blk_alloc (blk_alloc (blk_alloc (heap_alloc_new w _) _) _) _) _) _) _) _) _) Tryz.underlying29 rfl (by kernel_rfl)) rfl ?_
    exact ⟨.slice none 0 0,rfl,Kd.R_nil _ _ _ _ _,by (repeat apply below_alloc);exact Below.refl _ _⟩
  | store v k d f e c q=>
    unfold anyW
    go_enter Tryz.func29,Tryz.ntmps29
    go_wp2
    refine bodyPost_ret (results_cell_row rfl _ _ w.heap.size 29 #[.string ⟨#[115,116,111,114,101]⟩,.string v,.slice (some ⟨w.heap.size + 1 + 1 + 1,0,none⟩) 1 1,.string d,.int .u32 f,.int .i64 e,.int .u64 c,.int .u64 0,.bool false,.bool false,.bool false,.bool q] (0,0) _ rfl (blk_alloc (blk_alloc (blk_alloc (heap_alloc_new w _) _) _) _) Tryz.underlying29 rfl (by kernel_rfl)) rfl ?_
    exact ⟨.slice (some ⟨w.heap.size + 1 + 1 + 1,0,none⟩) 1 1,rfl,row_one (new_at (by simp)) (by omega) trivial,by (repeat apply below_alloc);exact Below.refl _ _⟩
  | arith k b d q=>
    unfold anyW
    go_enter Tryz.func29,Tryz.ntmps29
    go_wp2
    refine bodyPost_ret (results_cell_row rfl _ _ w.heap.size 29 #[.string ⟨#[97,114,105,116,104]⟩,.string ⟨#[]⟩,.slice (some ⟨w.heap.size + 1 + 1 + 1 + 1,0,none⟩) 1 1,.string ⟨#[]⟩,.int .u32 0,.int .i64 0,.int .u64 0,.int .u64 b,.bool false,.bool false,.bool d,.bool q] (0,0) _ rfl (blk_alloc (blk_alloc (blk_alloc (blk_alloc (heap_alloc_new w _) _) _) _) _) Tryz.underlying29 rfl (by kernel_rfl)) rfl ?_
    exact ⟨.slice (some ⟨w.heap.size + 1 + 1 + 1 + 1,0,none⟩) 1 1,rfl,row_one (new_at (by simp)) (by omega) trivial,by (repeat apply below_alloc);exact Below.refl _ _⟩
  | touch k e q=>
    unfold anyW
    go_enter Tryz.func29,Tryz.ntmps29
    go_wp2
    refine bodyPost_ret (results_cell_row rfl _ _ w.heap.size 29 #[.string ⟨#[116,111,117,99,104]⟩,.string ⟨#[]⟩,.slice (some ⟨w.heap.size + 1 + 1 + 1 + 1 + 1,0,none⟩) 1 1,.string ⟨#[]⟩,.int .u32 0,.int .i64 e,.int .u64 0,.int .u64 0,.bool false,.bool false,.bool false,.bool q] (0,0) _ rfl (blk_alloc (blk_alloc (blk_alloc (blk_alloc (blk_alloc (heap_alloc_new w _) _) _) _) _) _) Tryz.underlying29 rfl (by kernel_rfl)) rfl ?_
    exact ⟨.slice (some ⟨w.heap.size + 1 + 1 + 1 + 1 + 1,0,none⟩) 1 1,rfl,row_one (new_at (by simp)) (by omega) trivial,by (repeat apply below_alloc);exact Below.refl _ _⟩
  | delete k q=>
    unfold anyW
    go_enter Tryz.func29,Tryz.ntmps29
    go_wp2
    refine bodyPost_ret (results_cell_row rfl _ _ w.heap.size 29 #[.string ⟨#[100,101,108,101,116,101]⟩,.string ⟨#[]⟩,.slice (some ⟨w.heap.size + 1 + 1 + 1 + 1 + 1 + 1,0,none⟩) 1 1,.string ⟨#[]⟩,.int .u32 0,.int .i64 0,.int .u64 0,.int .u64 0,.bool false,.bool false,.bool false,.bool q] (0,0) _ rfl (blk_alloc (blk_alloc (blk_alloc (blk_alloc (blk_alloc (blk_alloc (heap_alloc_new w _) _) _) _) _) _) _) Tryz.underlying29 rfl (by kernel_rfl)) rfl ?_
    exact ⟨.slice (some ⟨w.heap.size + 1 + 1 + 1 + 1 + 1 + 1,0,none⟩) 1 1,rfl,row_one (new_at (by simp)) (by omega) trivial,by (repeat apply below_alloc);exact Below.refl _ _⟩
  | flush q=>
    unfold anyW
    go_enter Tryz.func29,Tryz.ntmps29
    go_wp2
    refine bodyPost_ret (results_cell_row rfl _ _ w.heap.size 29 #[.string ⟨#[102,108,117,115,104]⟩,.string ⟨#[]⟩,.slice none 0 0,.string ⟨#[]⟩,.int .u32 0,.int .i64 0,.int .u64 0,.int .u64 0,.bool false,.bool false,.bool false,.bool q] (0,0) _ rfl (blk_alloc (blk_alloc (blk_alloc (blk_alloc (blk_alloc (blk_alloc (heap_alloc_new w _) _) _) _) _) _) _) Tryz.underlying29 rfl (by kernel_rfl)) rfl ?_
    exact ⟨.slice none 0 0,rfl,Kd.R_nil _ _ _ _ _,by (repeat apply below_alloc);exact Below.refl _ _⟩
  | bad t=>
    unfold anyW
    go_enter Tryz.func29,Tryz.ntmps29
    go_wp2
    refine bodyPost_ret (results_cell_row rfl _ _ w.heap.size 29 #[.string ⟨#[98,97,100]⟩,.string t,.slice none 0 0,.string ⟨#[]⟩,.int .u32 0,.int .i64 0,.int .u64 0,.int .u64 0,.bool false,.bool false,.bool false,.bool false] (0,0) _ rfl (blk_alloc (blk_alloc (blk_alloc (blk_alloc (blk_alloc (blk_alloc (blk_alloc (heap_alloc_new w _) _) _) _) _) _) _) _) Tryz.underlying29 rfl (by kernel_rfl)) rfl ?_
    exact ⟨.slice none 0 0,rfl,Kd.R_nil _ _ _ _ _,by (repeat apply below_alloc);exact Below.refl _ _⟩
  | word n=>
    unfold anyW
    go_enter Tryz.func29,Tryz.ntmps29
    go_wp2
    refine bodyPost_ret (results_cell_row rfl _ _ w.heap.size 29 #[.string ⟨#[119,111,114,100]⟩,.string n,.slice none 0 0,.string ⟨#[]⟩,.int .u32 0,.int .i64 0,.int .u64 0,.int .u64 0,.bool false,.bool false,.bool false,.bool false] (0,0) _ rfl (blk_alloc (blk_alloc (blk_alloc (blk_alloc (blk_alloc (blk_alloc (blk_alloc (blk_alloc (heap_alloc_new w _) _) _) _) _) _) _) _) _) Tryz.underlying29 rfl (by kernel_rfl)) rfl ?_
    exact ⟨.slice none 0 0,rfl,Kd.R_nil _ _ _ _ _,by (repeat apply below_alloc);exact Below.refl _ _⟩
end Go.Proofs.YtfbhlbchmenloaaGreatDoor.H
end
section
namespace Go.Proofs.YtfbhlbchmenloaaGreatDoor.H
open Go.RowKit Go.Proofs.YtfbhlbchmenloaaGreatDoorW.PrintWords Go.Proofs.YtfbhlbchmenloaaGreatDoorW.PrintLast Go.Proofs.YtfbhlbchmenloaaGreatDoorW.PrintMore
set_option linter.unusedVariables false
set_option linter.unusedSimpArgs false

/-- What a Parser holds. -/
structure PS where
  b:List Int
  skip:Bool
  c:Cm
  n:Int
def cellsP (vb:Value) (s:Bool) (c:Cm) (n:Int):Array Value:=#[vb,.bool s,anyW c,.int .i64 n]
/-- It stands at block g; its bytes lie in a row of its own, that was made behind w0. -/
def IsS55 (w0 W:World) (g:Nat) (ps:PS):Prop:=
  w0.heap.size≤g∧∃ vb,W.heap[g]? = some (.cells (cellsP vb ps.skip ps.c ps.n) 55 (0,0))∧QRow W w0.heap.size 5 1 vb ps.b.length (nums .u8 ps.b)
section
variable {w0 W W1:World} {g:Nat} {ps:PS}
theorem IsS55.lt (h:IsS55 w0 W g ps):g < W.heap.size:=by obtain ⟨_,vb,hb,_⟩:=h;exact blk_lt hb
theorem IsS55.move (h:IsS55 w0 W g ps) (hm:∀ k,k < W.heap.size→(k=g∨∃ cs,W.heap[k]? = some (.cells cs 5 (0,0)))→W1.heap[k]? = W.heap[k]?):IsS55 w0 W1 g ps:=by
  obtain ⟨hg,vb,hb,hq⟩:=h
  exact ⟨hg,vb,(hm g (blk_lt hb) (.inl rfl)).trans hb,q_move hq fun k hk=>hm k (q_lt hq k hk) (.inr (q_typed hq k hk).2)⟩
theorem IsS55.below (h:IsS55 w0 W g ps) (hw:Below W.heap.size W W1):IsS55 w0 W1 g ps:=h.move fun k hk _=>hw.block k hk
theorem IsS55.alloc (h:IsS55 w0 W g ps) (o:Obj):IsS55 w0 (W.alloc o) g ps:=h.below (below_alloc (Below.refl _ _) o)
theorem IsS55.drewN (h:IsS55 w0 W g ps) (m:Nat):IsS55 w0 (W.drewN m) g ps:=h
theorem IsS55.drew (h:IsS55 w0 W g ps):IsS55 w0 W.drew g ps:=h
/-- What a block's object is of. -/
def TypedAt (W:World) (k t:Nat):Prop:=∃ cs fr,W.heap[k]? = some (.cells cs t fr)
theorem TypedAt.of {k t:Nat} {cs:Array Value} {fr:Nat×Nat} (h:W.heap[k]? = some (.cells cs t fr)):TypedAt W k t:=⟨cs,fr,h⟩
theorem TypedAt.below {k t:Nat} (h:TypedAt W k t) (hw:Below W.heap.size W W1):TypedAt W1 k t:=by
  obtain ⟨cs,fr,h⟩:=h
  exact ⟨cs,fr,blk_below h hw⟩
theorem TypedAt.alloc {k t:Nat} (h:TypedAt W k t) (o:Obj):TypedAt (W.alloc o) k t:=h.below (below_alloc (Below.refl _ _) o)
theorem TypedAt.drewN {k t:Nat} (h:TypedAt W k t) (m:Nat):TypedAt (W.drewN m) k t:=h
theorem TypedAt.drew {k t:Nat} (h:TypedAt W k t):TypedAt W.drew k t:=h
theorem IsS55.farT {p:Addr} {t:Nat} (h:IsS55 w0 W g ps) (hne:g≠p.block) (ht:TypedAt W p.block t) (h5:t≠5) (u:Value):IsS55 w0 (W.setCell p u) g ps:=by
  obtain ⟨cs,fr,ht⟩:=ht
  refine h.move fun k hk hc=>Below.heap_setCell W p u k fun e=>?_
  subst e
  rcases hc with hc | ⟨cs',hc⟩
  · exact hne hc.symm
  · rw [ht] at hc
    injection hc with hc
    injection hc with _ hc
    exact h5 hc
end
/-- All but the Parser's block, and rows of bytes, stays. -/
def KeepRow (W W1:World) (g:Nat):Prop:=W.heap.size≤W1.heap.size∧∀ k,k < W.heap.size→k≠g→(∀ cs,W.heap[k]?≠some (.cells cs 5 (0,0)))→W1.heap[k]? = W.heap[k]?
theorem KeepRow.blk {W W1:World} {g g':Nat} {o:Obj} (hk:KeepRow W W1 g) (hb:W.heap[g']? = some o) (hne:g'≠g) (h5:∀ cs,o≠.cells cs 5 (0,0)):W1.heap[g']? = some o:=
  (hk.2 g' (blk_lt hb) hne fun cs e=>h5 cs (Option.some.inj (hb.symm.trans e))).trans hb

def psNew:PS:=⟨[],false,.nil,0⟩
def psFeed (ps:PS) (l:List Int):PS:={ ps with b:=ps.b++l }
def psUse (ps:PS) (n:Nat):PS:={ ps with b:=ps.b.drop n }

section
variable {P:Program} {ops:Array Oper} {rest:List Oper} {o:Oper} {a:Act} {Q:Exit→Act→World→Prop}
theorem run_append_none (w:World) (t ty e:TypeId) (i:TypeInfo) (ht:P.underlying t=some (.slice e)) (hi:P.info? e=some i) (A B:Option Addr) (n cap c:Nat) (hn:n≤cap) (hB:n=0∨∃ b,B=some b) :
    (Builtin.append_ #[t,t] ty #[.slice B n cap,.slice A 0 c]).run P w=.ok (.slice B n cap) w:=by
  rcases hB with rfl | ⟨b,rfl⟩
  · cases B<;>cases A<;>simp [Builtin.append_,run_underlying ht,sizeOf,typeInfo,hi,Builtin.lenOf,Builtin.firstCells,loadCells,loadCellsFrom,storeCells,hn]
  · cases A<;>simp [Builtin.append_,run_underlying ht,sizeOf,typeInfo,hi,Builtin.lenOf,Builtin.firstCells,loadCells,loadCellsFrom,storeCells,hn]
theorem C_cells {w:World} {A:Option Addr} {xs:List Int} (h:Kd.C (Kd.int .u8) w A xs.length xs) (hn:0 < xs.length):∃ ad,A=some ad∧∀ j u,(nums .u8 xs)[j]? = some u→w.cell? (ad.add j)=some u:=by
  obtain ⟨_,_,h3⟩:=h
  obtain ⟨ad,rfl,hc⟩:=h3 hn
  refine ⟨ad,rfl,fun j u hj=>?_⟩
  unfold nums at hj
  rw [List.getElem?_map,Option.map_eq_some_iff] at hj
  obtain ⟨x,hx,rfl⟩:=hj
  obtain ⟨c,hcl,hK,hcc⟩:=hc j x hx
  have hK2:c=[Value.int .u8 x]:=hK
  subst hK2
  have:=hcc 0 (.int .u8 x) rfl
  simpa [Kd.int,Kd.scalar] using this
theorem bytes_append {W:World} (base:Nat) (t ty e:TypeId) (ht:P.underlying t=some (.slice e)) (hinfo:(P.info? e).map (fun i=>(i.zero,i.size,i.bytes))=some (some (.int .u8 0),1,1))
    (v:Value) (xs ys:List Int) (A:Option Addr) (c:Nat) (HO:QRow W base e 1 v xs.length (nums .u8 xs)) (HR:Kd.C (Kd.int .u8) W A ys.length ys) (hbase:base≤W.heap.size) (hl:xs.length + ys.length≤140737488355328) :
    ∃ v1 w1,(Builtin.append_ #[t,t] ty #[v,.slice A ys.length c]).run P W=.ok v1 w1∧QRow w1 base e 1 v1 (xs++ys).length (nums .u8 (xs++ys))∧W.grownBy w1 v.ownBlock∧(v1.ownBlock=v.ownBlock∨∃ b,v1.ownBlock=some b∧W.heap.size≤b):=by
  obtain ⟨i0,hi,hzz⟩:=Option.map_eq_some_iff.1 hinfo
  simp only [Prod.mk.injEq] at hzz
  obtain ⟨hz0,hz1,hz2⟩:=hzz
  by_cases hm:ys.length=0
  · have hy:ys=[]:=List.eq_nil_of_length_eq_zero hm
    subst hy
    have hr:∃ B n cap,v=.slice B n cap∧n≤cap∧(n=0∨∃ b,B=some b):=by
      rcases HO.2 with ⟨h0,B,rfl,_⟩ | ⟨g,off,cap,cur,rfl,_,_,hnc,_⟩
      · exact ⟨B,0,0,rfl,Nat.le_refl _,.inl rfl⟩
      · exact ⟨_,_,_,rfl,hnc,.inr ⟨_,rfl⟩⟩
    obtain ⟨B,n,cap,rfl,hn,hB⟩:=hr
    refine ⟨_,_,run_append_none W t ty e i0 ht hi A B n cap c hn hB,?_,⟨rfl,rfl,rfl,Nat.le_refl _,fun _ _ _=>rfl⟩,.inl rfl⟩
    rw [List.append_nil]
    exact HO
  · obtain ⟨ad,rfl,hc⟩:=C_cells HR (by omega)
    obtain ⟨v1,w1,h1,h2,h3,h4⟩:=q_append (P:=P) W base t ty e i0 (.int .u8 0) 1 1 ht hi hz0 hz1 hz2 rfl (by decide) v xs.length (nums .u8 xs) HO ad ys.length c (nums .u8 ys) (by rw [nums_length,Nat.mul_one]) hc
      (fun u hu=>by
        unfold nums at hu
        obtain ⟨x,_,rfl⟩:=List.mem_map.1 hu
        rfl) (by omega) (by simp only [maxLen];omega) (by omega) hbase
    exact ⟨v1,w1,h1,by rw [List.length_append,nums_append];exact h2,h3,h4⟩
theorem bytes_append_wp {W:World} (base:Nat) (hgd:o.guard=none) (s x:Operand) (t e:TypeId)
    (ho:o.op=.call { callee:=.builtin .append,args:=#[s,x],argTypes:=#[t,t] })
    (ht:P.underlying t=some (.slice e)) (hinfo:(P.info? e).map (fun i=>(i.zero,i.size,i.bytes))=some (some (.int .u8 0),1,1))
    (v:Value) (xs ys:List Int) (A:Option Addr) (c:Nat) (hs:a.eval s=v) (hx:a.eval x=.slice A ys.length c)
    (HO:QRow W base e 1 v xs.length (nums .u8 xs)) (HR:Kd.C (Kd.int .u8) W A ys.length ys) (hbase:base≤W.heap.size) (hl:xs.length + ys.length≤140737488355328)
    (h:∀ v1 w1,QRow w1 base e 1 v1 (xs++ys).length (nums .u8 (xs++ys))→W.grownBy w1 v.ownBlock→(v1.ownBlock=v.ownBlock∨∃ b,v1.ownBlock=some b∧W.heap.size≤b)→wpList P ops Q rest (a.put o.dst v1) w1) :
    wpList P ops Q (o::rest) a W:=by
  obtain ⟨v1,w1,hr,h1,h2,h3⟩:=bytes_append (P:=P) base t o.type e ht hinfo v xs ys A c HO HR hbase hl
  refine wpList_plain hgd fun K hK=>?_
  unfold Oper.wp execOp
  simp only [ho,resolve,invoke,builtin,Sem.run_bind,Sem.run_pure,Result.andThen_ok,List.map_toArray,List.map_cons,List.map_nil,hs,hx,hr]
  exact hK _ _ (h v1 w1 h1 h2 h3)
end
set_option maxHeartbeats 4000000 in
set_option maxRecDepth 100000 in
theorem New_walk (w0 W:World) (hB:Below w0.heap.size w0 W) :
    Calls Tryz.prog 12 #[] W fun e w'=>∃ g,e=.returned (.pointer (some ⟨g,0,none⟩))∧IsS55 w0 w' g psNew∧Below w0.heap.size w0 w'∧Below W.heap.size W w':=by
  have hu:=Tryz.underlying55
  go_enter Tryz.func12,Tryz.ntmps12
  go_wp2
  go_ret
  refine ⟨W.heap.size,rfl,⟨hB.size,.slice none 0 0,heap_alloc_new W _,?_⟩,below_alloc hB _,below_alloc (Below.refl _ _) _⟩
  exact ⟨rfl,.inl ⟨rfl,none,rfl,fun a e=>by cases e⟩⟩
/-- What is left where a Parser's row is put in its place. -/
theorem store_b {w0 W w1:World} {g:Nat} {ps:PS} {vb v1:Value} {xs:List Int} (hg:w0.heap.size≤g) (hb:W.heap[g]? = some (.cells (cellsP vb ps.skip ps.c ps.n) 55 (0,0)))
    (hq:QRow W w0.heap.size 5 1 vb ps.b.length (nums .u8 ps.b)) (hB:Below w0.heap.size w0 W) (hb1:w1.heap[g]? = some (.cells (cellsP vb ps.skip ps.c ps.n) 55 (0,0)))
    (hq1:QRow w1 w0.heap.size 5 1 v1 xs.length (nums .u8 xs)) (hG:W.grownBy w1 vb.ownBlock) (ps':PS) (he:ps'={ ps with b:=xs }) :
    IsS55 w0 (w1.setCell ⟨g,0,none⟩ v1) g ps'∧Below w0.heap.size w0 (w1.setCell ⟨g,0,none⟩ v1)∧KeepRow W (w1.setCell ⟨g,0,none⟩ v1) g:=by
  subst he
  refine ⟨⟨hg,v1,blk_set hb1 0 v1,q_move hq1 fun k hk=>Below.heap_setCell w1 _ v1 k fun e=>?_⟩,below_set (hB.grown hG hB.size (fun k hk=>(q_typed hq k hk).1)) hg,?_,fun k hk hne h5=>?_⟩
  · obtain ⟨_,cs,hcs⟩:=q_typed hq1 k hk
    rw [e,hb1] at hcs
    injection hcs with hcs
    injection hcs with _ hcs
    exact absurd hcs (by decide)
  · have:=hG.size
    simpa using this
  · refine (Below.heap_setCell w1 _ v1 k hne).trans (hG.block k hk fun e=>?_)
    obtain ⟨_,cs,hcs⟩:=q_typed hq k e.symm
    exact h5 cs hcs
set_option maxHeartbeats 4000000 in
set_option maxRecDepth 100000 in
theorem Feed_walk (g:Nat) (ps:PS) (A:Option Addr) (c:Nat) (l:List Int) (w0 W:World) (hI:IsS55 w0 W g ps) (hB:Below w0.heap.size w0 W) (hr:Kd.C (Kd.int .u8) W A l.length l) (hc:l.length≤c) (hl:ps.b.length + l.length≤140737488355328) :
    Calls Tryz.prog 13 #[.pointer (some ⟨g,0,none⟩),.slice A l.length c] W fun e w'=>e=.returned (.tuple #[])∧IsS55 w0 w' g (psFeed ps l)∧Below w0.heap.size w0 w'∧KeepRow W w' g:=by
  obtain ⟨hg,vb,hb,hq⟩:=hI
  have hu:=Tryz.underlying55
  have hub:=Tryz.underlying36
  have hc0:W.cell? ⟨g,0,none⟩=some vb:=(blk_cell hb 0).trans rfl
  have hf0:=blk_frozen hb 0
  have HB:=Aside0.mk hb
  have HQ:=Aside0.mk hq
  have HR:=Aside0.mk hr
  have HL:=Aside0.mk hl
  have HBW:=Aside0.mk hB
  have HNE:=Aside0.mk (show some g≠vb.ownBlock from fun e=>by
    obtain ⟨_,cs,hcs⟩:=q_typed hq g e.symm
    rw [hb] at hcs
    injection hcs with hcs
    injection hcs with _ hcs
    exact absurd hcs (by decide))
  clear hb hq hr hl hB
  have hin:(Tryz.prog.info? 5).map (fun i=>(i.zero,i.size,i.bytes))=some (some (.int .u8 0),1,1):=by kernel_rfl
  go_enter Tryz.func13,Tryz.ntmps13
  go_wp2_with ((with_reducible refine gate_builtin (b:=.append) (xs:=#[.tmp 8,.tmp 9]) rfl ?_);at_builtin;refine bytes_append_wp w0.heap.size rfl (.tmp 8) (.tmp 9) 36 5 rfl hub hin vb ps.b l A c rfl rfl HQ.out HR.out HBW.out.size HL.out ?_;intro v1 w1 hq1 hg1 hat1;have hne1:=HNE.out;have hb1:=blk_grown HB.out hg1 hne1;obtain ⟨A1,c1,hv1,hnc1⟩:=q_slice hq1;subst hv1;have hc1:w1.cell? ⟨g,0,none⟩=some vb:=(blk_cell hb1 0).trans rfl;have hf1:=blk_frozen hb1 0;have HB1:=Aside0.mk hb1;have HQ1:=Aside0.mk hq1;have HG1:=Aside0.mk hg1;have HAT:=Aside0.mk hat1;clear hb1 hq1 hg1 hat1 hne1)
  first | go_end0 | ((try simp only [Exit.inBlock,Exit.then]);refine bodyPost_ret (results_none rfl _ _ _) rfl ?_)
  refine ⟨rfl,?_⟩
  rw [← List.length_append]
  exact store_b hg HB.out HQ.out HBW.out HB1.out HQ1.out HG1.out _ rfl
theorem store_u {w0 W:World} {g:Nat} {ps:PS} {vb v1:Value} {xs:List Int} (hg:w0.heap.size≤g) (hb:W.heap[g]? = some (.cells (cellsP vb ps.skip ps.c ps.n) 55 (0,0)))
    (hB:Below w0.heap.size w0 W) (hq1:QRow W w0.heap.size 5 1 v1 xs.length (nums .u8 xs)) (ps':PS) (he:ps'={ ps with b:=xs }) :
    IsS55 w0 (W.setCell ⟨g,0,none⟩ v1) g ps'∧Below w0.heap.size w0 (W.setCell ⟨g,0,none⟩ v1)∧KeepBut W (W.setCell ⟨g,0,none⟩ v1) g none:=by
  subst he
  refine ⟨⟨hg,v1,blk_set hb 0 v1,q_move hq1 fun k hk=>Below.heap_setCell W _ v1 k fun e=>?_⟩,below_set hB hg,?_,fun k hk hne _=>Below.heap_setCell W _ v1 k hne⟩
  · obtain ⟨_,cs,hcs⟩:=q_typed hq1 k hk
    rw [e,hb] at hcs
    injection hcs with hcs
    injection hcs with _ hcs
    exact absurd hcs (by decide)
  · simp
set_option maxHeartbeats 4000000 in
set_option maxRecDepth 100000 in
theorem use_walk (g:Nat) (ps:PS) (n:Nat) (w0 W:World) (hI:IsS55 w0 W g ps) (hB:Below w0.heap.size w0 W) (hn:n≤ps.b.length) :
    Calls Tryz.prog 54 #[.pointer (some ⟨g,0,none⟩),.int .i64 n] W fun e w'=>e=.returned (.tuple #[])∧IsS55 w0 w' g (psUse ps n)∧Below w0.heap.size w0 w'∧KeepBut W w' g none:=by
  obtain ⟨hg,vb,hb,hq⟩:=hI
  have hu:=Tryz.underlying55
  have hub:=Tryz.underlying36
  have hue:=Tryz.underlying5
  have hmax:=q_max hq
  obtain ⟨A0,c0,rfl,hnc⟩:=q_slice hq
  have hc0:W.cell? ⟨g,0,none⟩=some (.slice A0 ps.b.length c0):=(blk_cell hb 0).trans rfl
  have hf0:=blk_frozen hb 0
  have hq2:=q_drop hq hn
  have HB:=Aside0.mk hb
  have HQ:=Aside0.mk hq
  have HQ2:=Aside0.mk hq2
  have HBW:=Aside0.mk hB
  have n0:decide ((0:Int)≤(n:Int))=true:=decide_eq_true (by omega)
  have n1:decide ((n:Int)≤(ps.b.length:Int))=true:=decide_eq_true (by omega)
  have n2:decide (n≤ps.b.length)=true:=decide_eq_true hn
  clear hb hq hq2 hB
  go_enter Tryz.func54,Tryz.ntmps54
  have HQN:=Aside0.mk (show (nums .u8 ps.b).drop (n * 1)=nums .u8 (ps.b.drop n) from by rw [Nat.mul_one];exact List.map_drop.symm)
  have HLN:=Aside0.mk (show (ps.b.drop n).length=ps.b.length - n from List.length_drop ..)
  go_wp2
  all_goals (first | go_end0 | ((try simp only [Exit.inBlock,Exit.then]);refine bodyPost_ret (results_none rfl _ _ _) rfl ?_))
  all_goals refine ⟨rfl,?_⟩
  · have hq2:=HQ2.out
    rw [HQN.out,← HLN.out] at hq2
    rw [← HLN.out]
    simp only [h,if_true,Nat.sub_self] at hq2 ⊢
    exact store_u hg HB.out HBW.out hq2 _ rfl
  · have hq2:=HQ2.out
    rw [HQN.out,← HLN.out] at hq2
    rw [← HLN.out]
    simp only [h,if_false,Nat.mul_one] at hq2 ⊢
    exact store_u hg HB.out HBW.out hq2 _ rfl
end Go.Proofs.YtfbhlbchmenloaaGreatDoor.H
end
section
namespace Go.Proofs.YtfbhlbchmenloaaGreatDoor.H
open Go.RowKit Go.Proofs.YtfbhlbchmenloaaGreatDoorW.PrintWords Go.Proofs.YtfbhlbchmenloaaGreatDoorW.PrintLast Go.Proofs.YtfbhlbchmenloaaGreatDoorW.PrintMore
set_option linter.unusedVariables false
set_option linter.unusedSimpArgs false
theorem KB_trans {W W1 W2:World} {g:Nat} (h1:KeepBut W W1 g none) (h2:KeepBut W1 W2 g none):KeepBut W W2 g none:=
  ⟨Nat.le_trans h1.1 h2.1,fun k hk hne hr=>(h2.2 k (Nat.lt_of_lt_of_le hk h1.1) hne hr).trans (h1.2 k hk hne hr)⟩
theorem KB_set {W:World} {g i:Nat} (u:Value):KeepBut W (W.setCell ⟨g,i,none⟩ u) g none:=⟨by simp,fun k hk hne _=>Below.heap_setCell W _ u k hne⟩
/-- Where the first byte 10 is; -1: nowhere. -/
def idx10 (b:List Int):Int:=Lib.indexByte (Lib.bytesOf b) 10
theorem q_bytes {w:World} {base:Nat} {A:Option Addr} {c:Nat} {xs:List Int} (h:QRow w base 5 1 (.slice A xs.length c) xs.length (nums .u8 xs)) (hn:0 < xs.length):∃ ad,A=some ad∧∀ i,i < xs.length→w.cell? (ad.add i)=some (.int .u8 (xs.getD i 0)):=by
  obtain ⟨ad,rfl,hc⟩:=q_cells h hn
  refine ⟨ad,rfl,fun i hi=>hc i _ ?_⟩
  unfold nums
  rw [List.getElem?_map,List.getD_eq_getElem?_getD,List.getElem?_eq_getElem hi]
  rfl
theorem q_bytes2 {w:World} {base:Nat} {A:Option Addr} {c:Nat} {xs:List Int} (h:QRow w base 5 1 (.slice A xs.length c) xs.length (nums .u8 xs)) (hn:0 < xs.length):∃ gb ob,A=some ⟨gb,ob,none⟩∧∀ i,i < xs.length→w.cell? ⟨gb,ob + i,none⟩=some (.int .u8 (xs.getD i 0)):=by
  obtain ⟨ad,hA,hc⟩:=q_bytes h hn
  rcases h.2 with ⟨h0,_⟩ | ⟨g,off,cap,cur,he,_⟩
  · omega
  · injection he with h1 _ _
    rw [hA] at h1
    obtain rfl:=Option.some.inj h1
    refine ⟨g,off * 1,hA,fun i hi=>?_⟩
    rw [← add_at]
    exact hc i hi
theorem idx_walk {w:World} {base:Nat} {A:Option Addr} {c:Nat} {xs:List Int} (h:QRow w base 5 1 (.slice A xs.length c) xs.length (nums .u8 xs)) :
    Calls Tryz.prog 53 #[.slice A xs.length c,.int .u8 10] w fun e w'=>e=.returned (.int .i64 (idx10 xs))∧w'=w:=by
  by_cases hn:0 < xs.length
  · obtain ⟨ad,rfl,hc⟩:=q_bytes h hn
    exact Tryz.bytes_IndexByte_at ad xs.length c xs 10 w rfl hc
  · have hx:xs=[]:=List.eq_nil_of_length_eq_zero (by omega)
    subst hx
    rcases h.2 with ⟨_,B,he,_⟩ | ⟨g,off,cap,cur,he,_⟩
    · injection he with h1 h2 h3
      subst h1;subst h3
      cases A with
      | none=>exact (Tryz.bytes_IndexByte_nil 10 w).mono fun e w' hh=>hh
      | some ad=>exact Tryz.bytes_IndexByte_at ad 0 0 [] 10 w rfl (fun i hi=>absurd hi (Nat.not_lt_zero i))
    · injection he with h1 h2 h3
      subst h1
      exact Tryz.bytes_IndexByte_at _ 0 c [] 10 w rfl (fun i hi=>absurd hi (Nat.not_lt_zero i))
theorem idx_lt (b:List Int) (h:¬ idx10 b < 0):(idx10 b).toNat < b.length:=by
  unfold idx10 at h ⊢
  have:=(Lib.indexByte_some (l:=Lib.bytesOf b) (c:=10) (o:=(Lib.indexByte (Lib.bytesOf b) 10).toNat) (by omega)).1
  have h2:=(List.getElem?_eq_some_iff.1 this).1
  rw [Lib.bytesOf_length] at h2
  exact h2
def psPass (ps:PS):Bool×PS:=
  if ps.skip=false then (true,ps) else if idx10 ps.b < 0 then (false,psUse ps ps.b.length) else (true,{ psUse ps ((idx10 ps.b).toNat + 1) with skip:=false })
/-- A Parser's fields, as the walk reads them. -/
theorem fieldsP {W:World} {g:Nat} {vb:Value} {s:Bool} {c:Cm} {n:Int} (hb:W.heap[g]? = some (.cells (cellsP vb s c n) 55 (0,0))) :
    W.cell? ⟨g,0,none⟩=some vb∧W.cell? ⟨g,1,none⟩=some (.bool s)∧W.cell? ⟨g,2,none⟩=some (anyW c)∧W.cell? ⟨g,3,none⟩=some (.int .i64 n)∧W.frozen? ⟨g,0,none⟩=false∧W.frozen? ⟨g,1,none⟩=false∧W.frozen? ⟨g,2,none⟩=false∧W.frozen? ⟨g,3,none⟩=false:=
  ⟨(blk_cell hb 0).trans rfl,(blk_cell hb 1).trans rfl,(blk_cell hb 2).trans rfl,(blk_cell hb 3).trans rfl,blk_frozen hb 0,blk_frozen hb 1,blk_frozen hb 2,blk_frozen hb 3⟩
theorem IsS55.skip {w0 W:World} {g:Nat} {ps:PS} (h:IsS55 w0 W g ps) (b:Bool):IsS55 w0 (W.setCell ⟨g,1,none⟩ (.bool b)) g { ps with skip:=b }:=by
  obtain ⟨hg,vb,hb,hq⟩:=h
  refine ⟨hg,vb,blk_set hb 1 (.bool b),q_move hq fun k hk=>Below.heap_setCell W _ _ k fun e=>?_⟩
  obtain ⟨_,cs,hcs⟩:=q_typed hq k hk
  rw [e,hb] at hcs
  injection hcs with hcs
  injection hcs with _ hcs
  exact absurd hcs (by decide)
set_option maxHeartbeats 4000000 in
set_option maxRecDepth 100000 in
theorem pass_walk (g:Nat) (ps:PS) (w0 W:World) (hI:IsS55 w0 W g ps) (hB:Below w0.heap.size w0 W) :
    Calls Tryz.prog 39 #[.pointer (some ⟨g,0,none⟩)] W fun e w'=>e=.returned (.bool (psPass ps).1)∧IsS55 w0 w' g (psPass ps).2∧Below w0.heap.size w0 w'∧KeepBut W w' g none:=by
  have hI0:=hI
  obtain ⟨hg,vb,hb,hq⟩:=hI
  have hu:=Tryz.underlying55
  have hmax:=q_max hq
  obtain ⟨A0,c0,rfl,hnc⟩:=q_slice hq
  obtain ⟨k0,k1,k2,k3,f0,f1,f2,f3⟩:=fieldsP hb
  have HI:=Aside0.mk hI0
  have HQ:=Aside0.mk hq
  have HBW:=Aside0.mk hB
  clear hI0 hb hq hB
  by_cases hs:ps.skip=false
  · have HP:=Aside0.mk (show psPass ps=(true,ps) from if_pos hs)
    rw [hs] at k1
    go_enter Tryz.func39,Tryz.ntmps39
    go_wp2
    go_ret
    rw [HP.out]
    exact ⟨rfl,HI.out,HBW.out,KeepBut.refl _ _ _⟩
  · have hs2:ps.skip=true:=by simpa using hs
    rw [hs2] at k1
    by_cases hi:idx10 ps.b < 0
    · have HP:=Aside0.mk (show psPass ps=(false,psUse ps ps.b.length) from by unfold psPass;rw [if_neg hs,if_pos hi])
      have d1:decide (idx10 ps.b < 0)=true:=decide_eq_true hi
      go_enter Tryz.func39,Tryz.ntmps39
      go_wp2_with (first | (go_at_call 53;refine (idx_walk HQ.out).mono ?_;rintro e w' ⟨rfl,rfl⟩) | (go_at_call 54;refine (use_walk g ps ps.b.length w0 _ HI.out HBW.out (Nat.le_refl _)).mono ?_;rintro e w' ⟨rfl,hi',hb',hk'⟩;have HI2:=Aside0.mk hi';have HB2:=Aside0.mk hb';have HK2:=Aside0.mk hk';clear hi' hb' hk'))
      go_ret
      rw [HP.out]
      exact ⟨rfl,HI2.out,HB2.out,HK2.out⟩
    · have HP:=Aside0.mk (show psPass ps=(true,{ psUse ps ((idx10 ps.b).toNat + 1) with skip:=false }) from by unfold psPass;rw [if_neg hs,if_neg hi])
      have d1:decide (idx10 ps.b < 0)=false:=decide_eq_false hi
      have hlt:=idx_lt ps.b hi
      have HJ:=Aside0.mk (show wrap64 (idx10 ps.b + 1)=(((idx10 ps.b).toNat + 1:Nat):Int) from by unfold wrap64;omega)
      have HLT:=Aside0.mk hlt
      clear hlt hi
      go_enter Tryz.func39,Tryz.ntmps39
      go_wp2_with (first | (go_at_call 53;refine (idx_walk HQ.out).mono ?_;rintro e w' ⟨rfl,rfl⟩) | (go_at_call 54;rw [HJ.out];refine (use_walk g ps ((idx10 ps.b).toNat + 1) w0 _ HI.out HBW.out HLT.out).mono ?_;rintro e w' ⟨rfl,hi',hb',hk'⟩;obtain ⟨hg2,vb2,hb2,hq2⟩:=id hi';obtain ⟨l0,l1,l2,l3,m0,m1,m2,m3⟩:=fieldsP hb2;have HI2:=Aside0.mk hi';have HB2:=Aside0.mk hb';have HK2:=Aside0.mk hk';clear hi' hb' hk' hb2 hq2))
      go_ret
      rw [HP.out]
      exact ⟨rfl,HI2.out.skip false,below_set HB2.out hg,KB_trans HK2.out (KB_set _)⟩
end Go.Proofs.YtfbhlbchmenloaaGreatDoor.H
end
section
namespace Go.Proofs.YtfbhlbchmenloaaGreatDoor.H
open Go.RowKit Go.Proofs.YtfbhlbchmenloaaGreatDoorW.PrintWords Go.Proofs.YtfbhlbchmenloaaGreatDoorW.PrintLast Go.Proofs.YtfbhlbchmenloaaGreatDoorW.PrintMore
set_option linter.unusedVariables false
set_option linter.unusedSimpArgs false
def psEnd (b:List Int) (n:Nat):Int:=
  if b.length≤n then -1 else if b.getD n 0=10 then 1 else if b.getD n 0≠13 then 0 else if b.length - n=1 then -1 else if b.getD (n + 1) 0=10 then 2 else 0
set_option maxHeartbeats 4000000 in
set_option maxRecDepth 100000 in
theorem end_walk (g:Nat) (ps:PS) (n:Nat) (hn:ps.n=(n:Int)) (w0 W:World) (hI:IsS55 w0 W g ps) :
    Calls Tryz.prog 56 #[.pointer (some ⟨g,0,none⟩)] W fun e w'=>e=.returned (.int .i64 (psEnd ps.b n))∧Drawn0 W w':=by
  obtain ⟨hg,vb,hb,hq⟩:=hI
  have hu:=Tryz.underlying55
  have hub:=Tryz.underlying36
  have hue:=Tryz.underlying5
  have hmax:=q_max hq
  obtain ⟨A0,c0,rfl,hnc⟩:=q_slice hq
  obtain ⟨k0,k1,k2,k3,f0,f1,f2,f3⟩:=fieldsP hb
  rw [hn] at k3
  clear f0 f1 f2 f3 k1 k2
  by_cases hl:ps.b.length≤n
  · have HP:=Aside0.mk (show psEnd ps.b n=-1 from if_pos hl)
    have d1:decide ((ps.b.length:Int)≤(n:Int))=true:=decide_eq_true (by omega)
    have d2:decide (ps.b.length≤n)=true:=decide_eq_true (by omega)
    clear hb hq
    go_enter Tryz.func56,Tryz.ntmps56
    go_wp2
    repeat (go_quiet (fail);try go_wp2)
    go_ret
    rw [HP.out]
    exact ⟨rfl,by repeat (first | exact Drawn0.refl _ | apply Drawn0.step)⟩
  · have hl2:n < ps.b.length:=by omega
    obtain ⟨gb,ob,rfl,hcell⟩:=q_bytes2 hq (by omega)
    have d1:decide ((ps.b.length:Int)≤(n:Int))=false:=decide_eq_false (by omega)
    have d2:decide (ps.b.length≤n)=false:=decide_eq_false (by omega)
    have n0:decide ((0:Int)≤(n:Int))=true:=decide_eq_true (by omega)
    have n1:decide ((n:Int)≤(ps.b.length:Int))=true:=decide_eq_true (by omega)
    have n2:decide (n≤ps.b.length)=true:=decide_eq_true (by omega)
    have n3:¬ c0=n:=by omega
    obtain ⟨x,hx⟩:∃ x,x=ps.b.getD n 0:=⟨_,rfl⟩
    have x0:=hcell n hl2
    rw [← hx] at x0
    have m1:decide ((0:Int) < ((ps.b.length - n:Nat):Int))=true:=decide_eq_true (by omega)
    have m2:decide (0 < ps.b.length - n)=true:=decide_eq_true (by omega)
    have m3:(0 < ps.b.length - n)=True:=eq_true (by omega)
    have m4:(n < ps.b.length)=True:=eq_true (by omega)
    clear hb hq
    by_cases h10:x=10
    · have HP:=Aside0.mk (show psEnd ps.b n=1 from by unfold psEnd;rw [if_neg hl,if_pos (hx.symm.trans h10)])
      subst h10
      clear hx hcell
      go_enter Tryz.func56,Tryz.ntmps56
      go_wp2
      repeat (go_quiet (fail);try go_wp2)
      go_ret
      rw [HP.out]
      exact ⟨rfl,by repeat (first | exact Drawn0.refl _ | apply Drawn0.step)⟩
    · by_cases h13:x=13
      · subst h13
        by_cases hl1:ps.b.length - n=1
        · have HP:=Aside0.mk (show psEnd ps.b n=-1 from by unfold psEnd;rw [if_neg hl,if_neg (by rw [← hx];decide),if_neg (by rw [← hx];decide),if_pos hl1])
          have e1:(((ps.b.length - n:Nat):Int)==1)=true:=by rw [hl1];rfl
          have e2:(ps.b.length - n==1)=true:=by rw [hl1];rfl
          clear hx hcell
          go_enter Tryz.func56,Tryz.ntmps56
          go_wp2
          repeat (go_quiet (fail);try go_wp2)
          go_ret
          rw [HP.out]
          exact ⟨rfl,by repeat (first | exact Drawn0.refl _ | apply Drawn0.step)⟩
        · have hl3:n + 1 < ps.b.length:=by omega
          obtain ⟨y,hy⟩:∃ y,y=ps.b.getD (n + 1) 0:=⟨_,rfl⟩
          have x1:=hcell (n + 1) hl3
          rw [← hy] at x1
          have x2:W.cell? ⟨gb,ob + n + 1,none⟩=some (.int .u8 y):=x1
          have e1:(((ps.b.length - n:Nat):Int)==1)=false:=by
            rw [beq_eq_false_iff_ne]
            omega
          have e2:(ps.b.length - n==1)=false:=by
            rw [beq_eq_false_iff_ne]
            omega
          have e3:decide ((1:Int) < ((ps.b.length - n:Nat):Int))=true:=decide_eq_true (by omega)
          have e4:decide (1 < ps.b.length - n)=true:=decide_eq_true (by omega)
          have e5:(1 < ps.b.length - n)=True:=eq_true (by omega)
          by_cases hy10:y=10
          · have HP:=Aside0.mk (show psEnd ps.b n=2 from by unfold psEnd;rw [if_neg hl,if_neg (by rw [← hx];decide),if_neg (by rw [← hx];decide),if_neg hl1,if_pos (hy.symm.trans hy10)])
            subst hy10
            clear hx hy hcell
            go_enter Tryz.func56,Tryz.ntmps56
            go_wp2
            repeat (go_quiet (fail);try go_wp2)
            go_ret
            rw [HP.out]
            exact ⟨rfl,by repeat (first | exact Drawn0.refl _ | apply Drawn0.step)⟩
          · have HP:=Aside0.mk (show psEnd ps.b n=0 from by unfold psEnd;rw [if_neg hl,if_neg (by rw [← hx];decide),if_neg (by rw [← hx];decide),if_neg hl1,if_neg (fun e=>hy10 (hy.trans e))])
            have e6:(y==10)=false:=beq_eq_false_iff_ne.2 hy10
            clear hx hy hcell hy10
            go_enter Tryz.func56,Tryz.ntmps56
            go_wp2
            repeat (go_quiet (fail);try go_wp2)
            go_ret
            rw [HP.out]
            exact ⟨rfl,by repeat (first | exact Drawn0.refl _ | apply Drawn0.step)⟩
      · have HP:=Aside0.mk (show psEnd ps.b n=0 from by unfold psEnd;rw [if_neg hl,if_neg (fun e=>h10 (hx.trans e)),if_pos (fun e=>h13 (hx.trans e))])
        have e6:(x==10)=false:=beq_eq_false_iff_ne.2 h10
        have e7:(x != 13)=true:=bne_iff_ne.2 h13
        clear hx hcell h10 h13
        go_enter Tryz.func56,Tryz.ntmps56
        go_wp2
        repeat (go_quiet (fail);try go_wp2)
        go_ret
        rw [HP.out]
        exact ⟨rfl,by repeat (first | exact Drawn0.refl _ | apply Drawn0.step)⟩
end Go.Proofs.YtfbhlbchmenloaaGreatDoor.H
end
section
namespace Go.Proofs.YtfbhlbchmenloaaGreatDoor.H
open Go.RowKit Go.Proofs.YtfbhlbchmenloaaGreatDoorW.PrintWords Go.Proofs.YtfbhlbchmenloaaGreatDoorW.PrintLast Go.Proofs.YtfbhlbchmenloaaGreatDoorW.PrintMore
set_option linter.unusedVariables false
set_option linter.unusedSimpArgs false
def textChunk:ByteArray:=⟨#[67,76,73,69,78,84,95,69,82,82,79,82,32,98,97,100,32,100,97,116,97,32,99,104,117,110,107]⟩
def withData (c:Cm) (t:ByteArray):Cm:=match c with
  | .store v k _ f e cs q=>.store v k t f e cs q
  | c=>c
def psData (ps:PS) (n:Nat):Cm×Bool×PS:=
  if psEnd ps.b n < 0 then (.nil,false,ps)
  else if psEnd ps.b n=0 then (.bad textChunk,true,{ b:=ps.b.drop n,skip:=true,c:=.nil,n:=ps.n })
  else (withData ps.c (strOfNums (ps.b.take n)),true,{ b:=ps.b.drop (n + (psEnd ps.b n).toNat),skip:=ps.skip,c:=.nil,n:=ps.n })
theorem psEnd_le (b:List Int) (n:Nat) (h:¬ psEnd b n < 0):n + (psEnd b n).toNat≤b.length:=by
  unfold psEnd at h ⊢
  (repeat' split)<;>simp_all<;>omega
theorem IsS55.cm {w0 W:World} {g:Nat} {ps:PS} (h:IsS55 w0 W g ps) (c:Cm):IsS55 w0 (W.setCell ⟨g,2,none⟩ (anyW c)) g { ps with c:=c }:=by
  obtain ⟨hg,vb,hb,hq⟩:=h
  refine ⟨hg,vb,blk_set hb 2 (anyW c),q_move hq fun k hk=>Below.heap_setCell W _ _ k fun e=>?_⟩
  obtain ⟨_,cs,hcs⟩:=q_typed hq k hk
  rw [e,hb] at hcs
  injection hcs with hcs
  injection hcs with _ hcs
  exact absurd hcs (by decide)
theorem bytes_string {w:World} {base:Nat} {A:Option Addr} {c n:Nat} {xs:List Int} (h:QRow w base 5 1 (.slice A xs.length c) xs.length (nums .u8 xs)) (hn:n≤xs.length) (c':Nat) :
    (convert 36 9 (.slice A n c')).run Tryz.prog w=.ok (.string (strOfNums (xs.take n))) w:=by
  have hr:Kd.C (Kd.int .u8) w A n (xs.take n):=by
    refine ⟨by rw [List.length_take];omega,by have:=q_max h;omega,fun h0=>?_⟩
    obtain ⟨ad,rfl,hc⟩:=q_bytes h (by omega)
    refine ⟨ad,rfl,fun j p hj=>⟨[.int .u8 p],rfl,rfl,fun k u hu=>?_⟩⟩
    have hjl:=(List.getElem?_eq_some_iff.1 hj).1
    rw [List.length_take] at hjl
    rw [List.getElem?_take_of_lt (by omega)] at hj
    have hk:k=0:=by
      have:=(List.getElem?_eq_some_iff.1 hu).1
      simp at this
      omega
    subst hk
    obtain rfl:=Option.some.inj hu
    have:=hc j (by omega)
    rw [List.getD_eq_getElem?_getD,hj] at this
    simpa [Kd.int,Kd.scalar] using this
  exact Kd.C_string (P:=Tryz.prog) Tryz.underlying36 Tryz.underlying5 Tryz.underlying9 hr
theorem KB_drewN {W:World} {g:Nat} (m:Nat):KeepBut W (W.drewN m) g none:=⟨Nat.le_refl _,fun _ _ _ _=>rfl⟩
theorem KB_alloc {W:World} {g:Nat} (o:Obj):KeepBut W (W.alloc o) g none:=KeepBut.of_below (below_alloc (Below.refl _ _) o) g none
theorem KB_new {W:World} {g:Nat} {o:Obj} {i:Nat} (u:Value):KeepBut W ((W.alloc o).setCell ⟨W.heap.size,i,none⟩ u) g none:=
  ⟨by simp,fun k hk hne _=>(Below.heap_setCell _ _ u k (Nat.ne_of_lt hk)).trans (Below.heap_alloc W o k hk)⟩
attribute [local go_sem] missStore hitStore noneStore
set_option maxHeartbeats 8000000 in
set_option maxRecDepth 100000 in
theorem data_walk (g:Nat) (ps:PS) (n:Nat) (hn:ps.n=(n:Int)) (w0 W:World) (hI:IsS55 w0 W g ps) (hB:Below w0.heap.size w0 W) :
    Calls Tryz.prog 41 #[.pointer (some ⟨g,0,none⟩)] W fun e w'=>e=.returned (.tuple #[anyW (psData ps n).1,.bool (psData ps n).2.1])∧IsS55 w0 w' g (psData ps n).2.2∧Below w0.heap.size w0 w'∧KeepBut W w' g none:=by
  have hI0:=hI
  obtain ⟨hg,vb,hb,hq⟩:=hI
  have hu:=Tryz.underlying55
  have hus:=Tryz.underlying73
  have hub:=Tryz.underlying36
  have hue:=Tryz.underlying5
  have hmax:=q_max hq
  obtain ⟨A0,c0,rfl,hnc⟩:=q_slice hq
  obtain ⟨k0,k1,k2,k3,f0,f1,f2,f3⟩:=fieldsP hb
  rw [hn] at k3
  have HI:=Aside0.mk hI0
  have HBW:=Aside0.mk hB
  by_cases he:psEnd ps.b n < 0
  · have HP:=Aside0.mk (show psData ps n=(.nil,false,ps) from if_pos he)
    have d1:decide (psEnd ps.b n < 0)=true:=decide_eq_true he
    clear hI0 hb hq hB he
    go_enter Tryz.func41,Tryz.ntmps41
    go_wp2_with (go_at_call 56;refine (end_walk g ps n hn w0 _ HI.out).mono ?_;rintro e w' ⟨rfl,⟨⟨m,rfl⟩⟩⟩)
    go_ret2
    rw [HP.out]
    exact ⟨rfl,HI.out.drewN m,pw_below_drewN HBW.out m,⟨Nat.le_refl _,fun _ _ _ _=>rfl⟩⟩
  · have hle:=psEnd_le ps.b n he
    have hnl:n < ps.b.length:=by
      unfold psEnd at he
      by_cases hh:ps.b.length≤n
      · rw [if_pos hh] at he
        omega
      · omega
    obtain ⟨gb,ob,rfl,_⟩:=q_bytes2 hq (by omega)
    have n3:¬ c0=0:=by omega
    have d1:decide (psEnd ps.b n < 0)=false:=decide_eq_false he
    have n0:decide ((0:Int)≤(n:Int))=true:=decide_eq_true (by omega)
    have n1:decide ((n:Int)≤(c0:Int))=true:=decide_eq_true (by omega)
    have n2:decide (n≤c0)=true:=decide_eq_true (by omega)
    have hcv:∀ m:Nat,(convert 36 9 (.slice (some ⟨gb,ob,none⟩) n c0)).run Tryz.prog (W.drewN m)=.ok (.string (strOfNums (ps.b.take n))) (W.drewN m):=fun m=>bytes_string (show QRow (W.drewN m) w0.heap.size 5 1 (.slice (some ⟨gb,ob,none⟩) ps.b.length c0) ps.b.length (nums .u8 ps.b) from hq) (by omega) c0
    have HJ:=Aside0.mk (show wrap64 ((n:Int) + psEnd ps.b n)=((n + (psEnd ps.b n).toNat:Nat):Int) from by unfold wrap64;omega)
    have HLE:=Aside0.mk hle
    have HE:=Aside0.mk he
    clear hI0 hb hq hB he hle
    by_cases hz:psEnd ps.b n=0
    · have HP:=Aside0.mk (show psData ps n=(.bad textChunk,true,{ b:=ps.b.drop n,skip:=true,c:=.nil,n:=ps.n }) from by unfold psData;rw [if_neg HE.out,if_pos hz])
      have d2:(psEnd ps.b n==0)=true:=by rw [hz];rfl
      go_enter Tryz.func41,Tryz.ntmps41
      go_wp2_with (go_at_call 56;refine (end_walk g ps n hn w0 _ HI.out).mono ?_;rintro e w' ⟨rfl,⟨⟨m,rfl⟩⟩⟩)
      have HNL:=Aside0.mk (show n≤ps.b.length from Nat.le_of_lt hnl)
      go_quiet (fail)
      go_wp2_with (go_at_call 54;refine (use_walk g { ps with c:=.nil } (n) w0 _ ((HI.out.drewN _).cm .nil) (below_set (pw_below_drewN HBW.out _) hg) HNL.out).mono ?_;rintro e w2 ⟨rfl,hi',hb',hk'⟩;obtain ⟨hg2,vb2,hb2,hq2⟩:=id hi';obtain ⟨l0,l1,l2,l3,m0,m1,m2,m3⟩:=fieldsP hb2;have HI2:=Aside0.mk hi';have HB2:=Aside0.mk hb';have HK2:=Aside0.mk hk';clear hi' hb' hk' hb2 hq2)
      go_ret2
      rw [HP.out]
      exact ⟨rfl,HI2.out.skip true,below_set HB2.out hg,KB_trans (KB_trans (KB_trans (KB_drewN _) (KB_set _)) HK2.out) (KB_set _)⟩
    · have HP:=Aside0.mk (show psData ps n=(withData ps.c (strOfNums (ps.b.take n)),true,{ b:=ps.b.drop (n + (psEnd ps.b n).toNat),skip:=ps.skip,c:=.nil,n:=ps.n }) from by unfold psData;rw [if_neg HE.out,if_neg hz])
      have d2:(psEnd ps.b n==0)=false:=beq_eq_false_iff_ne.2 hz
      clear hz
      cases hcc:ps.c
      all_goals
        rw [hcc] at k2 HP
        have HCC:=Aside0.mk hcc
        clear hcc
        unfold anyW at k2
        go_enter Tryz.func41,Tryz.ntmps41
        go_wp2_with (go_at_call 56;refine (end_walk g ps n hn w0 _ HI.out).mono ?_;rintro e w' ⟨rfl,⟨⟨m,rfl⟩⟩⟩)
        go_quiet (fail)
        go_wp2_with (go_at_call 54;rw [HJ.out];refine (use_walk g { ps with c:=.nil } (n + (psEnd ps.b n).toNat) w0 _ ((HI.out.drewN _).cm .nil) (below_set (pw_below_drewN HBW.out _) hg) HLE.out).mono ?_;rintro e w2 ⟨rfl,hi',hb',hk'⟩;obtain ⟨hg2,vb2,hb2,hq2⟩:=id hi';obtain ⟨l0,l1,l2,l3,m0,m1,m2,m3⟩:=fieldsP hb2;have HI2:=Aside0.mk hi';have HB2:=Aside0.mk hb';have HK2:=Aside0.mk hk';clear hi' hb' hk' hb2 hq2)
        go_ret2
        rw [HP.out]
        have hk3:=KB_trans (KB_trans (KB_drewN _) (KB_set _)) HK2.out
        first
          | exact ⟨rfl,HI2.out.alloc _,below_alloc HB2.out _,KB_trans hk3 (KB_alloc _)⟩
          | exact ⟨rfl,(HI2.out.alloc _).farT (Nat.ne_of_lt HI2.out.lt) (TypedAt.of (heap_alloc_new _ _)) (by decide) _,below_set (below_alloc HB2.out _) (Nat.le_trans hg (Nat.le_of_lt HI2.out.lt)),KB_trans hk3 (KB_new _)⟩
end Go.Proofs.YtfbhlbchmenloaaGreatDoor.H
end
section
namespace Go.Proofs.YtfbhlbchmenloaaGreatDoor.H
open Go.RowKit Go.Proofs.YtfbhlbchmenloaaGreatDoorW.PrintWords Go.Proofs.YtfbhlbchmenloaaGreatDoorW.PrintLast Go.Proofs.YtfbhlbchmenloaaGreatDoorW.PrintMore
set_option linter.unusedVariables false
set_option linter.unusedSimpArgs false
/-- A command, or a Get with its keys. -/
inductive Cx
  | pl (c:Cm)
  | get (keys:List ByteArray) (cas touch:Bool) (exp:Int)
/-- As the machine holds it: a Get's keys lie where they are read. -/
def AnyR (w:World) (v:Value):Cx→Prop
  | .pl c=>v=anyW c
  | .get ks ca t e=>∃ A cap,v=.iface 69 (.agg #[.slice A ks.length cap,.bool ca,.bool t,.int .i64 e])∧(0 < ks.length∧ks.length≤64)∧ks.length≤cap∧Kd.F Kd.string w (fun _=>True) A ks.length ks
theorem AnyR.below {w w':World} {v:Value} {x:Cx} (h:AnyR w v x) (hb:Below w.heap.size w w'):AnyR w' v x:=by
  cases x with
  | pl c=>exact h
  | get ks ca t e=>
    obtain ⟨A,cap,h1,h2,h3,h4⟩:=h
    exact ⟨A,cap,h1,h2,h3,Kd.F_below h4 hb⟩
/-- What parse.one tells of a line. -/
def OneIs (s:ByteArray) (x:Cx) (n:Int):Prop:=∀ w:World,LaidA w→Calls Tryz.prog 37 #[.string s] w fun e w'=>∃ v,e=.returned (.tuple #[v,.int .i64 n])∧AnyR w' v x∧Below w.heap.size w w'
def trimL (b:List Int):List Int:=if Lib.hasSuffix (Lib.bytesOf b) [13]=true then b.take (b.length - 1) else b
theorem trimL_len (b:List Int):(trimL b).length≤b.length:=by
  unfold trimL
  split
  · rw [List.length_take];omega
  · omega
theorem trimL_take (b:List Int):trimL b=b.take (trimL b).length:=by
  unfold trimL
  split
  · rw [List.length_take,Nat.min_eq_left (by omega)]
  · rw [List.take_length]
set_option maxHeartbeats 4000000 in
set_option maxRecDepth 100000 in
theorem trim_walk (A:Option Addr) (c:Nat) (l:List Int) (w:World) (h:Lib.BytesIn w A l.length l) (hc:l.length≤c) (hm:l.length≤9223372036854775807) :
    Calls Tryz.prog 55 #[.slice A l.length c] w fun e w'=>e=.returned (.slice A (trimL l).length c)∧Below w.heap.size w w':=by
  have hub:=Tryz.underlying36
  have H1:=Aside0.mk (show Lib.BytesIn (w.alloc (.cells #[.int .u8 13] 5)) A l.length l from fun hn=>by
    obtain ⟨b,o,hA,hcc⟩:=h hn
    refine ⟨b,o,hA,fun i hi=>pw_cell_below (below_alloc (Below.refl _ _) _) (hcc i hi)⟩)
  have H2:=Aside0.mk (show Lib.BytesIn (w.alloc (.cells #[.int .u8 13] 5)) (some ⟨w.heap.size,0,none⟩) 1 [13] from fun hn=>⟨_,_,rfl,fun i hi=>by
    obtain rfl:i=0:=by omega
    exact blk_cell (heap_alloc_new w _) 0⟩)
  have HV:=Aside0.mk (show Lib.trimSuffixV A l.length c l [13]=.slice A (trimL l).length c from by
    rw [Go.RowKit.trimSuffixV_eq rfl h]
    unfold trimL
    have e:Lib.bytesOf [13]=[13]:=rfl
    rw [e]
    split
    · rw [List.length_take,Nat.min_eq_left (by omega)];rfl
    · rfl)
  have HC:=Aside0.mk hc
  have HM:=Aside0.mk hm
  clear h
  go_enter Tryz.func55,Tryz.ntmps55
  go_wp2_with (go_at_call 65;refine (Tryz.bytes_TrimSuffix_all A (some ⟨w.heap.size,0,none⟩) l.length c 1 1 l [13] _ rfl rfl HC.out HM.out H1.out H2.out).mono ?_;rintro e w' ⟨rfl,rfl⟩;rw [HV.out])
  go_ret
  exact ⟨rfl,below_alloc (Below.refl _ _) _⟩
end Go.Proofs.YtfbhlbchmenloaaGreatDoor.H
end
section
namespace Go.Proofs.YtfbhlbchmenloaaGreatDoor.H
open Go.RowKit Go.Proofs.YtfbhlbchmenloaaGreatDoorW.PrintWords Go.Proofs.YtfbhlbchmenloaaGreatDoorW.PrintLast Go.Proofs.YtfbhlbchmenloaaGreatDoorW.PrintMore
set_option linter.unusedVariables false
set_option linter.unusedSimpArgs false
def textLong:ByteArray:=⟨#[67,76,73,69,78,84,95,69,82,82,79,82,32,108,105,110,101,32,116,111,111,32,108,111,110,103]⟩
/-- The line that is read. -/
def lineL (ps:PS):List Int:=trimL (ps.b.take (idx10 ps.b).toNat)
def psLine (ps:PS) (x:Cx) (n:Int):Cx×Bool×PS:=
  if idx10 ps.b < 0 then
    (if 2048 < (trimL ps.b).length then (.pl (.bad textLong),true,{ psUse ps ps.b.length with skip:=true }) else (.pl .nil,false,ps))
  else if 2048 < (lineL ps).length then (.pl (.bad textLong),true,psUse ps ((idx10 ps.b).toNat + 1))
  else if n=-1 then (x,true,psUse ps ((idx10 ps.b).toNat + 1))
  else (.pl .nil,true,{ psUse ps ((idx10 ps.b).toNat + 1) with c:=(match x with | .pl c=>c | _=>.nil),n:=n })
theorem IsS55.num {w0 W:World} {g:Nat} {ps:PS} (h:IsS55 w0 W g ps) (n:Int):IsS55 w0 (W.setCell ⟨g,3,none⟩ (.int .i64 n)) g { ps with n:=n }:=by
  obtain ⟨hg,vb,hb,hq⟩:=h
  refine ⟨hg,vb,blk_set hb 3 (.int .i64 n),q_move hq fun k hk=>Below.heap_setCell W _ _ k fun e=>?_⟩
  obtain ⟨_,cs,hcs⟩:=q_typed hq k hk
  rw [e,hb] at hcs
  injection hcs with hcs
  injection hcs with _ hcs
  exact absurd hcs (by decide)
theorem q_in {w:World} {base:Nat} {A:Option Addr} {c n:Nat} {xs:List Int} (h:QRow w base 5 1 (.slice A xs.length c) xs.length (nums .u8 xs)) (hn:n≤xs.length):Lib.BytesIn w A n (xs.take n):=fun h0=>by
  obtain ⟨gb,ob,hA,hc⟩:=q_bytes2 h (by omega)
  refine ⟨gb,ob,hA,fun i hi=>?_⟩
  rw [hc i (by omega),List.getD_eq_getElem?_getD,List.getD_eq_getElem?_getD,List.getElem?_take_of_lt hi]
theorem KB_below {W W1:World} {g:Nat} (h:Below W.heap.size W W1):KeepBut W W1 g none:=KeepBut.of_below h g none
/-- What was laid stays where a Parser's block alone changes. -/
theorem var_keep {P:Program} {w w':World} {n:String} {cs:Array Value} {g:Nat} {cs0:Array Value} {t:TypeId} {fr:Nat×Nat} (hb:w.heap[g]? = some (.cells cs0 t fr)) (hk:KeepBut w w' g none) (hne:cs0.size≠cs.size) (hv:w.var? P n=some cs):w'.var? P n=some cs:=by
  have hv0:=hv
  unfold World.var? at hv ⊢
  cases hg:P.globalNamed n with
  | none=>rw [hg] at hv;simp at hv
  | some i=>
    rw [hg] at hv
    simp only [Option.bind_some] at hv ⊢
    have hlt:i < w.heap.size:=by
      by_cases hl:i < w.heap.size
      · exact hl
      · rw [Array.getElem?_eq_none (by omega)] at hv
        simp at hv
    have hig:i≠g:=fun e=>by
      subst e
      rw [hb] at hv
      exact hne (congrArg Array.size (Option.some.inj hv))
    rw [hk.2 i hlt hig (by simp)]
    exact hv
theorem cell_keep {w w':World} {g:Nat} {a:Addr} {v:Value} (hk:KeepBut w w' g none) (hne:a.block≠g) (hc:w.cell? a=some v):w'.cell? a=some v:=by
  have hlt:=World.block_lt_of_cell? w a hc
  have e:=hk.2 a.block hlt hne (by simp)
  unfold World.cell? at hc ⊢
  rw [e]
  exact hc
theorem LaidA.keep {w w':World} {g:Nat} {A:Option Addr} {m k:Nat} {s:Bool} {c:Cm} {n:Int} (h:LaidA w) (hb:w.heap[g]? = some (.cells (cellsP (.slice A m k) s c n) 55 (0,0))) (hk:KeepBut w w' g none):LaidA w':=by
  have h0:w.cell? ⟨g,0,none⟩=some (.slice A m k):=(blk_cell hb 0).trans rfl
  have ne:∀ {x:Nat} {z:Int} {q:IntKind},w.cell? ⟨x,0,none⟩=some (.int q z)→x≠g:=fun hx e=>by
    subst e
    rw [h0] at hx
    cases hx
  obtain ⟨⟨u1,u2⟩,⟨t1,p1,hs⟩,⟨t2,p2,hr⟩,hp,m0,hm⟩:=h
  have n1:=ne (u1 0 (by decide))
  have n2:=ne (u2 0 (by decide)).1
  have n3:=ne hm
  exact ⟨⟨fun c hc=>cell_keep hk n1 (u1 c hc),fun i hi=>⟨cell_keep hk n2 (u2 i hi).1,cell_keep hk n2 (u2 i hi).2⟩⟩,⟨t1,p1,var_keep hb hk (by show (4:Nat)≠1;decide) hs⟩,⟨t2,p2,var_keep hb hk (by show (4:Nat)≠1;decide) hr⟩,var_keep hb hk (by show (4:Nat)≠(List.map (fun z=>Value.int IntKind.u64 z) Lib.pow10Tab).toArray.size;rw [List.size_toArray,List.length_map];decide) hp,⟨m0,cell_keep hk n3 hm⟩⟩
set_option maxHeartbeats 8000000 in
set_option maxRecDepth 100000 in
theorem line_walk (g:Nat) (ps:PS) (x:Cx) (n:Int) (w0 W:World) (HLD:LaidA W) (hI:IsS55 w0 W g ps) (hB:Below w0.heap.size w0 W)
    (hone:¬ idx10 ps.b < 0→¬ 2048 < (lineL ps).length→OneIs (strOfNums (lineL ps)) x n) (hx:n≠-1→∃ c,x=.pl c) :
    Calls Tryz.prog 40 #[.pointer (some ⟨g,0,none⟩)] W fun e w'=>∃ v,e=.returned (.tuple #[v,.bool (psLine ps x n).2.1])∧AnyR w' v (psLine ps x n).1∧IsS55 w0 w' g (psLine ps x n).2.2∧Below w0.heap.size w0 w'∧KeepBut W w' g none:=by
  have hI0:=hI
  obtain ⟨hg,vb,hb,hq⟩:=hI
  have hu:=Tryz.underlying55
  have hub:=Tryz.underlying36
  have hue:=Tryz.underlying5
  have hmax:=q_max hq
  obtain ⟨A0,c0,rfl,hnc⟩:=q_slice hq
  obtain ⟨k0,k1,k2,k3,f0,f1,f2,f3⟩:=fieldsP hb
  have HI:=Aside0.mk hI0
  have HBW:=Aside0.mk hB
  have HQ:=Aside0.mk hq
  have HN:=Aside0.mk hnc
  have HM:=Aside0.mk hmax
  have HLW:=Aside0.mk HLD
  have HBK:=Aside0.mk hb
  clear hI0 hb hq hB HLD
  by_cases hi:idx10 ps.b < 0
  · have d1:decide (idx10 ps.b < 0)=true:=decide_eq_true hi
    have HT:=Aside0.mk (show ps.b.take ps.b.length=ps.b from List.take_length)
    have HIN:=Aside0.mk (show Lib.BytesIn W A0 ps.b.length ps.b from by have:=q_in HQ.out (Nat.le_refl _);rwa [HT.out] at this)
    by_cases hl:2048 < (trimL ps.b).length
    · have HP:=Aside0.mk (show psLine ps x n=(.pl (.bad textLong),true,{ psUse ps ps.b.length with skip:=true }) from by unfold psLine;rw [if_pos hi,if_pos hl])
      have d2:decide ((2048:Int) < ((trimL ps.b).length:Int))=true:=decide_eq_true (by omega)
      have d3:decide (2048 < (trimL ps.b).length)=true:=decide_eq_true hl
      clear hi hl hone hx
      go_enter Tryz.func40,Tryz.ntmps40
      go_wp2_with (first | (go_at_call 53;refine (idx_walk HQ.out).mono ?_;rintro e w' ⟨rfl,rfl⟩) | (go_at_call 55;refine (trim_walk A0 c0 ps.b _ HIN.out HN.out HM.out).mono ?_;rintro e w' ⟨rfl,hb1⟩;obtain ⟨l0,l1,l2,l3,m0,m1,m2,m3⟩:=fieldsP (blk_below HBK.out hb1);have HB1:=Aside0.mk hb1;clear hb1) | (go_at_call 54;refine (use_walk g ps ps.b.length w0 _ (HI.out.below HB1.out) (below_step HBW.out HB1.out) (Nat.le_refl _)).mono ?_;rintro e w2 ⟨rfl,hi',hb',hk'⟩;obtain ⟨hg2,vb2,hb2,hq2⟩:=id hi';obtain ⟨o0,o1,o2,o3,p0,p1,p2,p3⟩:=fieldsP hb2;have HI2:=Aside0.mk hi';have HB2:=Aside0.mk hb';have HK2:=Aside0.mk hk';clear hi' hb' hk' hb2 hq2))
      go_ret2
      rw [HP.out]
      exact ⟨_,rfl,rfl,HI2.out.skip true,below_set HB2.out hg,KB_trans (KB_trans (KB_below HB1.out) HK2.out) (KB_set _)⟩
    · have HP:=Aside0.mk (show psLine ps x n=(.pl .nil,false,ps) from by unfold psLine;rw [if_pos hi,if_neg hl])
      have d2:decide ((2048:Int) < ((trimL ps.b).length:Int))=false:=decide_eq_false (by omega)
      have d3:decide (2048 < (trimL ps.b).length)=false:=decide_eq_false hl
      clear hi hl hone hx
      go_enter Tryz.func40,Tryz.ntmps40
      go_wp2_with (first | (go_at_call 53;refine (idx_walk HQ.out).mono ?_;rintro e w' ⟨rfl,rfl⟩) | (go_at_call 55;refine (trim_walk A0 c0 ps.b _ HIN.out HN.out HM.out).mono ?_;rintro e w' ⟨rfl,hb1⟩;obtain ⟨l0,l1,l2,l3,m0,m1,m2,m3⟩:=fieldsP (blk_below HBK.out hb1);have HB1:=Aside0.mk hb1;clear hb1))
      go_ret2
      rw [HP.out]
      exact ⟨_,rfl,rfl,HI.out.below HB1.out,below_step HBW.out HB1.out,KB_below HB1.out⟩
  · have hlt:=idx_lt ps.b hi
    obtain ⟨j,hj⟩:∃ j:Nat,idx10 ps.b=(j:Int):=⟨(idx10 ps.b).toNat,by omega⟩
    have hjt:(idx10 ps.b).toNat=j:=by omega
    rw [hjt] at hlt
    have d1:decide (idx10 ps.b < 0)=false:=decide_eq_false hi
    have d1':decide ((j:Int) < 0)=false:=decide_eq_false (by omega)
    obtain ⟨gb,ob,rfl,_⟩:=q_bytes2 HQ.out (by omega)
    have n0:decide ((0:Int)≤(j:Int))=true:=decide_eq_true (by omega)
    have n1:decide ((j:Int)≤(c0:Int))=true:=decide_eq_true (by omega)
    have n2:decide (j≤c0)=true:=decide_eq_true (by omega)
    have n3:¬ c0=0:=by omega
    have n4:(j≤c0)=True:=eq_true (by omega)
    have HLL:=Aside0.mk (show lineL ps=trimL (ps.b.take j) from by unfold lineL;rw [hjt])
    have HTL:=Aside0.mk (show (ps.b.take j).length=j from by rw [List.length_take];omega)
    have HIN:=Aside0.mk (show Lib.BytesIn W (some ⟨gb,ob,none⟩) (ps.b.take j).length (ps.b.take j) from by rw [HTL.out];exact q_in HQ.out (by omega))
    have hle:=trimL_len (ps.b.take j)
    rw [HTL.out] at hle
    have HJ:=Aside0.mk (show wrap64 ((j:Int) + 1)=((j + 1:Nat):Int) from by unfold wrap64;omega)
    have HLT:=Aside0.mk (show j + 1≤ps.b.length from hlt)
    have HMT:=Aside0.mk (show (ps.b.take j).length≤9223372036854775807 from by rw [HTL.out];omega)
    have HNT:=Aside0.mk (show (ps.b.take j).length≤c0 from by rw [HTL.out];omega)
    have HTX:=Aside0.mk (show strOfNums (ps.b.take (trimL (ps.b.take j)).length)=strOfNums (lineL ps) from by
      rw [HLL.out]
      congr 1
      conv=>rhs;rw [trimL_take,List.take_take,Nat.min_eq_left hle])
    have HLL2:=Aside0.mk (show (trimL (ps.b.take j)).length=(lineL ps).length from by rw [HLL.out])
    have HTN:=Aside0.mk (show (lineL ps).length≤ps.b.length from by rw [← HLL2.out];omega)
    have HTW:=Aside0.mk (show Calls Tryz.prog 55 #[.slice (some ⟨gb,ob,none⟩) j c0] W fun e w'=>e=.returned (.slice (some ⟨gb,ob,none⟩) (lineL ps).length c0)∧Below W.heap.size W w' from by
      have:=trim_walk (some ⟨gb,ob,none⟩) c0 (ps.b.take j) W HIN.out HNT.out HMT.out
      rw [HTL.out,HLL2.out] at this
      exact this)
    have HTX:=Aside0.mk (show strOfNums (ps.b.take (lineL ps).length)=strOfNums (lineL ps) from by rw [← HLL2.out];exact HTX.out)
    clear hle hlt
    by_cases hl:2048 < (lineL ps).length
    · have HP:=Aside0.mk (show psLine ps x n=(.pl (.bad textLong),true,psUse ps (j + 1)) from by unfold psLine;rw [if_neg hi,if_pos hl,hjt])
      have d2:decide ((2048:Int) < ((lineL ps).length:Int))=true:=decide_eq_true (by omega)
      have d3:decide (2048 < (lineL ps).length)=true:=decide_eq_true hl
      clear hi hl hone hx hjt
      go_enter Tryz.func40,Tryz.ntmps40
      go_wp2_with (first | (go_at_call 53;refine (idx_walk HQ.out).mono ?_;rintro e w' ⟨rfl,rfl⟩;rw [hj]) | (go_at_call 55;refine (HTW.out).mono ?_;rintro e w1 ⟨rfl,hb1⟩;have hbk1:=blk_below HBK.out hb1;obtain ⟨l0,l1,l2,l3,m0,m1,m2,m3⟩:=fieldsP hbk1;have hcv:∀ m:Nat,(convert 36 9 (.slice (some ⟨gb,ob,none⟩) (lineL ps).length c0)).run Tryz.prog (w1.drewN m)=.ok (.string (strOfNums (lineL ps))) (w1.drewN m):=(fun m=>(bytes_string (show QRow (w1.drewN m) w0.heap.size 5 1 (.slice (some ⟨gb,ob,none⟩) ps.b.length c0) ps.b.length (nums .u8 ps.b) from q_move HQ.out (fun k hk=>hb1.block k (q_lt HQ.out k hk))) HTN.out c0).trans (by rw [HTX.out]));have HB1:=Aside0.mk hb1;have HBK1:=Aside0.mk hbk1;clear hb1 hbk1))
      go_quiet (fail)
      go_wp2_with (first | (go_at_call 54;rw [HJ.out];refine (use_walk g ps (j + 1) w0 _ ((HI.out.below HB1.out).drewN _) (pw_below_drewN (below_step HBW.out HB1.out) _) HLT.out).mono ?_;rintro e w2 ⟨rfl,hi',hb',hk'⟩;obtain ⟨hg2,vb2,hb2,hq2⟩:=id hi';obtain ⟨o0,o1,o2,o3,p0,p1,p2,p3⟩:=fieldsP hb2;have HI2:=Aside0.mk hi';have HB2:=Aside0.mk hb';have HK2:=Aside0.mk hk';have HL2:=Aside0.mk (LaidA.keep ((HLW.out.below HB1.out).drewN _) (show (w1.drewN _).heap[g]? = _ from HBK1.out) hk');clear hi' hb' hk' hb2 hq2))
      go_ret2
      rw [HP.out]
      exact ⟨_,rfl,rfl,HI2.out,HB2.out,KB_trans (KB_trans (KB_below HB1.out) (KB_drewN _)) HK2.out⟩
    · have HONE:=Aside0.mk (hone hi hl)
      have d2:decide ((2048:Int) < ((lineL ps).length:Int))=false:=decide_eq_false (by omega)
      have d3:decide (2048 < (lineL ps).length)=false:=decide_eq_false hl
      by_cases hn:n=-1
      · have HP:=Aside0.mk (show psLine ps x n=(x,true,psUse ps (j + 1)) from by unfold psLine;rw [if_neg hi,if_neg hl,if_pos hn,hjt])
        subst hn
        clear hi hl hone hx hjt
        go_enter Tryz.func40,Tryz.ntmps40
        go_wp2_with (first | (go_at_call 53;refine (idx_walk HQ.out).mono ?_;rintro e w' ⟨rfl,rfl⟩;rw [hj]) | (go_at_call 55;refine (HTW.out).mono ?_;rintro e w1 ⟨rfl,hb1⟩;have hbk1:=blk_below HBK.out hb1;obtain ⟨l0,l1,l2,l3,m0,m1,m2,m3⟩:=fieldsP hbk1;have hcv:∀ m:Nat,(convert 36 9 (.slice (some ⟨gb,ob,none⟩) (lineL ps).length c0)).run Tryz.prog (w1.drewN m)=.ok (.string (strOfNums (lineL ps))) (w1.drewN m):=(fun m=>(bytes_string (show QRow (w1.drewN m) w0.heap.size 5 1 (.slice (some ⟨gb,ob,none⟩) ps.b.length c0) ps.b.length (nums .u8 ps.b) from q_move HQ.out (fun k hk=>hb1.block k (q_lt HQ.out k hk))) HTN.out c0).trans (by rw [HTX.out]));have HB1:=Aside0.mk hb1;have HBK1:=Aside0.mk hbk1;clear hb1 hbk1))
        go_quiet (fail)
        go_wp2_with (first | (go_at_call 54;rw [HJ.out];refine (use_walk g ps (j + 1) w0 _ ((HI.out.below HB1.out).drewN _) (pw_below_drewN (below_step HBW.out HB1.out) _) HLT.out).mono ?_;rintro e w2 ⟨rfl,hi',hb',hk'⟩;obtain ⟨hg2,vb2,hb2,hq2⟩:=id hi';obtain ⟨o0,o1,o2,o3,p0,p1,p2,p3⟩:=fieldsP hb2;have HI2:=Aside0.mk hi';have HB2:=Aside0.mk hb';have HK2:=Aside0.mk hk';have HL2:=Aside0.mk (LaidA.keep ((HLW.out.below HB1.out).drewN _) (show (w1.drewN _).heap[g]? = _ from HBK1.out) hk');clear hi' hb' hk' hb2 hq2) | (go_at_call 37;refine (HONE.out _ HL2.out).mono ?_;rintro e w3 ⟨v,rfl,hv3,hb3⟩;obtain ⟨hg3,vb3,hbk3,hq3⟩:=HI2.out.below hb3;obtain ⟨r0,r1,r2,r3,s0,s1,s2,s3⟩:=fieldsP hbk3;have HV3:=Aside0.mk hv3;have HB3:=Aside0.mk hb3;clear hv3 hb3 hbk3 hq3))
        go_ret2
        rw [HP.out]
        exact ⟨_,rfl,HV3.out,HI2.out.below HB3.out,below_weaken HB2.out HB2.out.size HB3.out,KB_trans (KB_trans (KB_trans (KB_below HB1.out) (KB_drewN _)) HK2.out) (KB_below HB3.out)⟩
      · obtain ⟨c,rfl⟩:=hx hn
        have HP:=Aside0.mk (show psLine ps (.pl c) n=(.pl .nil,true,{ psUse ps (j + 1) with c:=c,n:=n }) from by unfold psLine;rw [if_neg hi,if_neg hl,if_neg hn,hjt])
        have d4:(n==-1)=false:=beq_eq_false_iff_ne.2 hn
        clear hi hl hone hx hjt hn
        have hform:∃ u,anyW c=u∧(u=.nilIface∨∃ T p,u=.iface T p):=⟨_,rfl,by cases c<;>simp [anyW]⟩
        obtain ⟨u,hF,hF2⟩:=hform
        have HF:=Aside0.mk hF
        clear hF
        rcases hF2 with rfl | ⟨T,p,rfl⟩
        all_goals
          go_enter Tryz.func40,Tryz.ntmps40
          go_wp2_with (first | (go_at_call 53;refine (idx_walk HQ.out).mono ?_;rintro e w' ⟨rfl,rfl⟩;rw [hj]) | (go_at_call 55;refine (HTW.out).mono ?_;rintro e w1 ⟨rfl,hb1⟩;have hbk1:=blk_below HBK.out hb1;obtain ⟨l0,l1,l2,l3,m0,m1,m2,m3⟩:=fieldsP hbk1;have hcv:∀ m:Nat,(convert 36 9 (.slice (some ⟨gb,ob,none⟩) (lineL ps).length c0)).run Tryz.prog (w1.drewN m)=.ok (.string (strOfNums (lineL ps))) (w1.drewN m):=(fun m=>(bytes_string (show QRow (w1.drewN m) w0.heap.size 5 1 (.slice (some ⟨gb,ob,none⟩) ps.b.length c0) ps.b.length (nums .u8 ps.b) from q_move HQ.out (fun k hk=>hb1.block k (q_lt HQ.out k hk))) HTN.out c0).trans (by rw [HTX.out]));have HB1:=Aside0.mk hb1;have HBK1:=Aside0.mk hbk1;clear hb1 hbk1))
          go_quiet (fail)
          go_wp2_with (first | (go_at_call 54;rw [HJ.out];refine (use_walk g ps (j + 1) w0 _ ((HI.out.below HB1.out).drewN _) (pw_below_drewN (below_step HBW.out HB1.out) _) HLT.out).mono ?_;rintro e w2 ⟨rfl,hi',hb',hk'⟩;obtain ⟨hg2,vb2,hb2,hq2⟩:=id hi';obtain ⟨o0,o1,o2,o3,p0,p1,p2,p3⟩:=fieldsP hb2;have HI2:=Aside0.mk hi';have HB2:=Aside0.mk hb';have HK2:=Aside0.mk hk';have HL2:=Aside0.mk (LaidA.keep ((HLW.out.below HB1.out).drewN _) (show (w1.drewN _).heap[g]? = _ from HBK1.out) hk');clear hi' hb' hk' hb2 hq2) | (go_at_call 37;refine (HONE.out _ HL2.out).mono ?_;rintro e w3 ⟨v,rfl,hv3,hb3⟩;obtain ⟨hg3,vb3,hbk3,hq3⟩:=HI2.out.below hb3;obtain ⟨r0,r1,r2,r3,s0,s1,s2,s3⟩:=fieldsP hbk3;have hv4:=hv3.trans HF.out;subst hv4;have HB3:=Aside0.mk hb3;clear hb3 hbk3 hq3))
          go_ret2
          rw [HP.out]
          have hcm:=(HI2.out.below HB3.out).cm c
          rw [HF.out] at hcm
          exact ⟨_,rfl,rfl,hcm.num n,below_set (below_set (below_step HB2.out HB3.out) hg) hg,KB_trans (KB_trans (KB_trans (KB_trans (KB_trans (KB_below HB1.out) (KB_drewN _)) HK2.out) (KB_below HB3.out)) (KB_set _)) (KB_set _)⟩
end Go.Proofs.YtfbhlbchmenloaaGreatDoor.H
end
section
namespace Go.Proofs.YtfbhlbchmenloaaGreatDoor.H
open Go.RowKit Go.Proofs.YtfbhlbchmenloaaGreatDoorW.PrintWords Go.Proofs.YtfbhlbchmenloaaGreatDoorW.PrintLast Go.Proofs.YtfbhlbchmenloaaGreatDoorW.PrintMore
set_option linter.unusedVariables false
set_option linter.unusedSimpArgs false
def isNil:Cm→Bool
  | .nil=>true
  | _=>false
def isNilX:Cx→Bool
  | .pl c=>isNil c
  | _=>false
def dataX (ps:PS):Option (Cx×Bool×PS):=if 0≤ps.n then some (.pl (psData ps ps.n.toNat).1,(psData ps ps.n.toNat).2.1,(psData ps ps.n.toNat).2.2) else none
/-- What next tells; x, n: what parse.one tells of the line. -/
def psNext (ps:PS) (x:Cx) (n:Int):Option (Cx×Bool×PS):=
  if (psPass ps).1=false then some (.pl .nil,false,(psPass ps).2)
  else if isNil (psPass ps).2.c=true then
    (if (psLine (psPass ps).2 x n).2.1=false∨isNilX (psLine (psPass ps).2 x n).1=false then some (psLine (psPass ps).2 x n) else dataX (psLine (psPass ps).2 x n).2.2)
  else dataX (psPass ps).2
theorem anyW_form (c:Cm):anyW c=.nilIface∧isNil c=true∨(∃ T p,anyW c=.iface T p)∧isNil c=false:=by
  cases c<;>simp [anyW,isNil]
theorem anyR_form {w:World} {v:Value} {x:Cx} (h:AnyR w v x):v=.nilIface∧isNilX x=true∨(∃ T p,v=.iface T p)∧isNilX x=false:=by
  cases x with
  | pl c=>
    have h:v=anyW c:=h
    rw [h]
    exact anyW_form c
  | get ks ca t e=>
    obtain ⟨A,cap,h1,_⟩:=h
    exact .inr ⟨⟨_,_,h1⟩,rfl⟩
theorem IsS55.cells {w0 W:World} {g:Nat} {ps:PS} (h:IsS55 w0 W g ps):∃ A m k,W.heap[g]? = some (.cells (cellsP (.slice A m k) ps.skip ps.c ps.n) 55 (0,0)):=by
  obtain ⟨hg,vb,hb,hq⟩:=h
  obtain ⟨A,c,rfl,_⟩:=q_slice hq
  exact ⟨A,_,c,hb⟩
theorem LaidA.kept {w0 w w':World} {g:Nat} {ps:PS} (h:LaidA w) (hI:IsS55 w0 w g ps) (hk:KeepBut w w' g none):LaidA w':=by
  obtain ⟨A,m,k,hb⟩:=hI.cells
  exact h.keep hb hk
set_option maxHeartbeats 8000000 in
set_option maxRecDepth 100000 in
theorem next_walk (g:Nat) (ps:PS) (x:Cx) (n:Int) (y:Cx) (ok:Bool) (ps':PS) (w0 W:World) (HLD:LaidA W) (hI:IsS55 w0 W g ps) (hB:Below w0.heap.size w0 W)
    (hone:¬ idx10 (psPass ps).2.b < 0→¬ 2048 < (lineL (psPass ps).2).length→OneIs (strOfNums (lineL (psPass ps).2)) x n) (hx:n≠-1→∃ c,x=.pl c) (h:psNext ps x n=some (y,ok,ps')) :
    Calls Tryz.prog 28 #[.pointer (some ⟨g,0,none⟩)] W fun e w'=>∃ v,e=.returned (.tuple #[v,.bool ok])∧AnyR w' v y∧IsS55 w0 w' g ps'∧Below w0.heap.size w0 w'∧KeepBut W w' g none:=by
  have hu:=Tryz.underlying55
  have HI:=Aside0.mk hI
  have HBW:=Aside0.mk hB
  have HLW:=Aside0.mk HLD
  have HONE:=Aside0.mk hone
  have HX:=Aside0.mk hx
  have hg:w0.heap.size≤g:=hI.1
  clear hI hB HLD hone hx
  unfold psNext at h
  by_cases hp:(psPass ps).1=false
  · rw [if_pos hp] at h
    obtain ⟨rfl,rfl,rfl⟩:y=.pl .nil∧ok=false∧ps'=(psPass ps).2:=by
      injection h with h
      injection h with h1 h2
      injection h2 with h2 h3
      exact ⟨h1.symm,h2.symm,h3.symm⟩
    clear h
    go_enter Tryz.func28,Tryz.ntmps28
    go_wp2_with (go_at_call 39;refine (pass_walk g ps w0 _ HI.out HBW.out).mono ?_;rintro e w1 ⟨rfl,hi1,hb1,hk1⟩;have HI1:=Aside0.mk hi1;have HB1:=Aside0.mk hb1;have HK1:=Aside0.mk hk1;clear hi1 hb1 hk1)
    go_ret2
    exact ⟨_,rfl,rfl,HI1.out,HB1.out,HK1.out⟩
  · have hp2:(psPass ps).1=true:=by simpa using hp
    rw [if_neg hp] at h
    have HCF:=Aside0.mk (anyW_form (psPass ps).2.c)
    by_cases hc:isNil (psPass ps).2.c=true
    · rw [if_pos hc] at h
      have HCV:=Aside0.mk (show anyW (psPass ps).2.c=.nilIface from by
        rcases HCF.out with h | h
        · exact h.1
        · rw [hc] at h
          exact absurd h.2 (by decide))
      clear hp hc
      have HPT:=Aside0.mk hp2
      clear hp2
      obtain ⟨ry,rok,rps,hrr⟩:∃ a b c,psLine (psPass ps).2 x n=(a,b,c):=⟨_,_,_,rfl⟩
      have HLN:=Aside0.mk (show ∀ w1:World,LaidA w1→IsS55 w0 w1 g (psPass ps).2→Below w0.heap.size w0 w1→Calls Tryz.prog 40 #[.pointer (some ⟨g,0,none⟩)] w1 fun e w'=>∃ v,e=.returned (.tuple #[v,.bool rok])∧AnyR w' v ry∧IsS55 w0 w' g rps∧Below w0.heap.size w0 w'∧KeepBut w1 w' g none from fun w1 h1 h2 h3=>by
        have:=line_walk g (psPass ps).2 x n w0 w1 h1 h2 h3 HONE.out HX.out
        rw [hrr] at this
        exact this)
      rw [hrr] at h
      clear hrr
      simp only at h
      cases rok
      · rw [if_pos (.inl rfl)] at h
        obtain ⟨rfl,rfl,rfl⟩:y=ry∧ok=false∧ps'=rps:=by
          injection h with h
          injection h with h1 h2
          injection h2 with h2 h3
          exact ⟨h1.symm,h2.symm,h3.symm⟩
        clear h
        go_enter Tryz.func28,Tryz.ntmps28
        go_wp2_with (first | (go_at_call 39;refine (pass_walk g ps w0 _ HI.out HBW.out).mono ?_;rintro e w1 ⟨rfl,hi1,hb1,hk1⟩;rw [HPT.out];obtain ⟨hgA,vbA,hbA,hqA⟩:=id hi1;obtain ⟨a0,a1,a2,a3,b0,b1,b2,b3⟩:=fieldsP hbA;rw [HCV.out] at a2;have HI1:=Aside0.mk hi1;have HB1:=Aside0.mk hb1;have HK1:=Aside0.mk hk1;clear hi1 hb1 hk1 hbA hqA) | (go_at_call 40;refine (HLN.out _ (HLW.out.kept HI.out HK1.out) HI1.out HB1.out).mono ?_;rintro e w2 ⟨v,rfl,hv2,hi2,hb2,hk2⟩;have HV2:=Aside0.mk hv2;clear hv2;have HI2:=Aside0.mk hi2;have HB2:=Aside0.mk hb2;have HK2:=Aside0.mk hk2;clear hi2 hb2 hk2))
        go_ret2
        exact ⟨_,rfl,HV2.out,HI2.out,HB2.out,KB_trans HK1.out HK2.out⟩
      · by_cases hnx:isNilX ry=false
        · rw [if_pos (.inr hnx)] at h
          obtain ⟨rfl,rfl,rfl⟩:y=ry∧ok=true∧ps'=rps:=by
            injection h with h
            injection h with h1 h2
            injection h2 with h2 h3
            exact ⟨h1.symm,h2.symm,h3.symm⟩
          clear h
          have HNX:=Aside0.mk hnx
          clear hnx
          go_enter Tryz.func28,Tryz.ntmps28
          go_wp2_with (first | (go_at_call 39;refine (pass_walk g ps w0 _ HI.out HBW.out).mono ?_;rintro e w1 ⟨rfl,hi1,hb1,hk1⟩;rw [HPT.out];obtain ⟨hgA,vbA,hbA,hqA⟩:=id hi1;obtain ⟨a0,a1,a2,a3,b0,b1,b2,b3⟩:=fieldsP hbA;rw [HCV.out] at a2;have HI1:=Aside0.mk hi1;have HB1:=Aside0.mk hb1;have HK1:=Aside0.mk hk1;clear hi1 hb1 hk1 hbA hqA) | (go_at_call 40;refine (HLN.out _ (HLW.out.kept HI.out HK1.out) HI1.out HB1.out).mono ?_;rintro e w2 ⟨v,rfl,hv2,hi2,hb2,hk2⟩;have hfm:=anyR_form hv2;rw [HNX.out] at hfm;rcases hfm with ⟨_,hh⟩ | ⟨⟨T,p,rfl⟩,_⟩;(exact absurd hh (by decide));have HV2:=Aside0.mk hv2;clear hv2;have HI2:=Aside0.mk hi2;have HB2:=Aside0.mk hb2;have HK2:=Aside0.mk hk2;clear hi2 hb2 hk2))
          go_ret2
          exact ⟨_,rfl,HV2.out,HI2.out,HB2.out,KB_trans HK1.out HK2.out⟩
        · have hnx2:isNilX ry=true:=by simpa using hnx
          rw [if_neg (by simp [hnx2])] at h
          unfold dataX at h
          by_cases h0:0≤rps.n
          · rw [if_pos h0] at h
            obtain ⟨rfl,rfl,rfl⟩:y=.pl (psData rps rps.n.toNat).1∧ok=(psData rps rps.n.toNat).2.1∧ps'=(psData rps rps.n.toNat).2.2:=by
              injection h with h
              injection h with h1 h2
              injection h2 with h2 h3
              exact ⟨h1.symm,h2.symm,h3.symm⟩
            have HNN:=Aside0.mk (show rps.n=((rps.n.toNat:Nat):Int) from by omega)
            have HNX:=Aside0.mk hnx2
            clear h hnx hnx2 h0
            go_enter Tryz.func28,Tryz.ntmps28
            go_wp2_with (first | (go_at_call 39;refine (pass_walk g ps w0 _ HI.out HBW.out).mono ?_;rintro e w1 ⟨rfl,hi1,hb1,hk1⟩;rw [HPT.out];obtain ⟨hgA,vbA,hbA,hqA⟩:=id hi1;obtain ⟨a0,a1,a2,a3,b0,b1,b2,b3⟩:=fieldsP hbA;rw [HCV.out] at a2;have HI1:=Aside0.mk hi1;have HB1:=Aside0.mk hb1;have HK1:=Aside0.mk hk1;clear hi1 hb1 hk1 hbA hqA) | (go_at_call 40;refine (HLN.out _ (HLW.out.kept HI.out HK1.out) HI1.out HB1.out).mono ?_;rintro e w2 ⟨v,rfl,hv2,hi2,hb2,hk2⟩;have hfm:=anyR_form hv2;rw [HNX.out] at hfm;rcases hfm with ⟨rfl,_⟩ | ⟨_,hh⟩;rotate_left;(exact absurd hh (by decide));clear hv2;have HI2:=Aside0.mk hi2;have HB2:=Aside0.mk hb2;have HK2:=Aside0.mk hk2;clear hi2 hb2 hk2) | (go_at_call 41;refine (data_walk g rps rps.n.toNat HNN.out w0 _ HI2.out HB2.out).mono ?_;rintro e w3 ⟨rfl,hi3,hb3,hk3⟩;have HI3:=Aside0.mk hi3;have HB3:=Aside0.mk hb3;have HK3:=Aside0.mk hk3;clear hi3 hb3 hk3))
            go_ret2
            exact ⟨_,rfl,rfl,HI3.out,HB3.out,KB_trans (KB_trans HK1.out HK2.out) HK3.out⟩
          · rw [if_neg h0] at h
            cases h
    · rw [if_neg hc] at h
      have HPT:=Aside0.mk hp2
      have hcf:=anyW_form (psPass ps).2.c
      have hc2:isNil (psPass ps).2.c=false:=by simpa using hc
      rw [hc2] at hcf
      clear hp hp2
      rcases hcf with ⟨_,hh⟩ | ⟨⟨T,p,hcv⟩,_⟩
      · exact absurd hh (by decide)
      · have HCV:=Aside0.mk hcv
        clear hcv hc hc2
        unfold dataX at h
        by_cases h0:0≤(psPass ps).2.n
        · rw [if_pos h0] at h
          obtain ⟨rfl,rfl,rfl⟩:y=.pl (psData (psPass ps).2 (psPass ps).2.n.toNat).1∧ok=(psData (psPass ps).2 (psPass ps).2.n.toNat).2.1∧ps'=(psData (psPass ps).2 (psPass ps).2.n.toNat).2.2:=by
            injection h with h
            injection h with h1 h2
            injection h2 with h2 h3
            exact ⟨h1.symm,h2.symm,h3.symm⟩
          have HNN:=Aside0.mk (show (psPass ps).2.n=(((psPass ps).2.n.toNat:Nat):Int) from by omega)
          clear h h0
          go_enter Tryz.func28,Tryz.ntmps28
          go_wp2_with (first | (go_at_call 39;refine (pass_walk g ps w0 _ HI.out HBW.out).mono ?_;rintro e w1 ⟨rfl,hi1,hb1,hk1⟩;rw [HPT.out];obtain ⟨hgA,vbA,hbA,hqA⟩:=id hi1;obtain ⟨a0,a1,a2,a3,b0,b1,b2,b3⟩:=fieldsP hbA;rw [HCV.out] at a2;have HI1:=Aside0.mk hi1;have HB1:=Aside0.mk hb1;have HK1:=Aside0.mk hk1;clear hi1 hb1 hk1 hbA hqA) | (go_at_call 41;refine (data_walk g (psPass ps).2 (psPass ps).2.n.toNat HNN.out w0 _ HI1.out HB1.out).mono ?_;rintro e w3 ⟨rfl,hi3,hb3,hk3⟩;have HI3:=Aside0.mk hi3;have HB3:=Aside0.mk hb3;have HK3:=Aside0.mk hk3;clear hi3 hb3 hk3))
          go_ret2
          exact ⟨_,rfl,rfl,HI3.out,HB3.out,KB_trans HK1.out HK3.out⟩
        · rw [if_neg h0] at h
          cases h
end Go.Proofs.YtfbhlbchmenloaaGreatDoor.H
end
section
namespace Go.Proofs.YtfbhlbchmenloaaGreatDoor.H
open Go.RowKit Go.Proofs.YtfbhlbchmenloaaGreatDoorW.PrintWords Go.Proofs.YtfbhlbchmenloaaGreatDoorW.PrintLast Go.Proofs.YtfbhlbchmenloaaGreatDoorW.PrintMore
set_option linter.unusedVariables false
set_option linter.unusedSimpArgs false
theorem str_cells {w:World} {A:Option Addr} {xs:List ByteArray} (h:Kd.C Kd.string w A xs.length xs) (hn:0 < xs.length):∃ gb ob,A=some ⟨gb,ob,none⟩∧∀ j,j < xs.length→w.cell? ⟨gb,ob + j,none⟩=some (.string (xs.getD j ByteArray.empty)):=by
  obtain ⟨_,_,h3⟩:=h
  obtain ⟨ad,rfl,hc⟩:=h3 hn
  have hcell:∀ j,j < xs.length→w.cell? (ad.add j)=some (.string (xs.getD j ByteArray.empty)):=fun j hj=>by
    obtain ⟨c,hcl,hK,hcc⟩:=hc j (xs[j]'hj) (List.getElem?_eq_getElem hj)
    have h1:=hcc 0 (.string (xs[j]'hj)) (by rw [show c=[Value.string (xs[j]'hj)] from hK];rfl)
    rw [List.getD_eq_getElem?_getD,List.getElem?_eq_getElem hj]
    have e:j * (Kd.string).sz + 0=j:=Nat.mul_one j
    rw [e] at h1
    exact h1
  obtain ⟨b,o,s⟩:=ad
  obtain rfl:s=none:=by simpa [Addr.add] using World.cell?_spot (hcell 0 hn)
  exact ⟨b,o,rfl,fun j hj=>by rw [← add_at];exact hcell j hj⟩
def getD (ks:List ByteArray) (ca t:Bool) (e:Int):Cd:=⟨⟨#[103,101,116]⟩,ez,ks,ez,0,e,0,0,ca,t,false,false⟩
theorem far_cell {W:World} {p a:Addr} {u v:Value} (hne:a.block≠p.block) (h:W.cell? a=some v):(W.setCell p u).cell? a=some v:=by
  have e:=Below.heap_setCell W p u a.block hne
  unfold World.cell? at h ⊢
  rw [e]
  exact h
theorem below_undrew {W W1:World} (h:Below W.drew.heap.size W.drew W1):Below W.heap.size W W1:=below_step (below_drew1 (Below.refl _ _)) h
theorem put12 {W:World} {g:Nat} {c0 c1 c2 c3 c4 c5 c6 c7 c8 c9 c10 c11 v0 v1 v2 v3 v4 v5 v6 v7 v8 v9 v10 v11:Value} (h0:W.heap[g]? = some (.cells #[c0,c1,c2,c3,c4,c5,c6,c7,c8,c9,c10,c11] 29 (0,0))) :
    ((((((((((((W.setCell ⟨g,0,none⟩ v0).setCell ⟨g,1,none⟩ v1).setCell ⟨g,2,none⟩ v2).setCell ⟨g,3,none⟩ v3).setCell ⟨g,4,none⟩ v4).setCell ⟨g,5,none⟩ v5).setCell ⟨g,6,none⟩ v6).setCell ⟨g,7,none⟩ v7).setCell ⟨g,8,none⟩ v8).setCell ⟨g,9,none⟩ v9).setCell ⟨g,10,none⟩ v10).setCell ⟨g,11,none⟩ v11).heap[g]? = some (.cells #[v0,v1,v2,v3,v4,v5,v6,v7,v8,v9,v10,v11] 29 (0,0)):=by
  have h1:(W.setCell ⟨g,0,none⟩ v0).heap[g]? = some (.cells #[v0,c1,c2,c3,c4,c5,c6,c7,c8,c9,c10,c11] 29 (0,0)):=blk_set h0 0 v0
  have h2:((W.setCell ⟨g,0,none⟩ v0).setCell ⟨g,1,none⟩ v1).heap[g]? = some (.cells #[v0,v1,c2,c3,c4,c5,c6,c7,c8,c9,c10,c11] 29 (0,0)):=blk_set h1 1 v1
  have h3:(((W.setCell ⟨g,0,none⟩ v0).setCell ⟨g,1,none⟩ v1).setCell ⟨g,2,none⟩ v2).heap[g]? = some (.cells #[v0,v1,v2,c3,c4,c5,c6,c7,c8,c9,c10,c11] 29 (0,0)):=blk_set h2 2 v2
  have h4:((((W.setCell ⟨g,0,none⟩ v0).setCell ⟨g,1,none⟩ v1).setCell ⟨g,2,none⟩ v2).setCell ⟨g,3,none⟩ v3).heap[g]? = some (.cells #[v0,v1,v2,v3,c4,c5,c6,c7,c8,c9,c10,c11] 29 (0,0)):=blk_set h3 3 v3
  have h5:(((((W.setCell ⟨g,0,none⟩ v0).setCell ⟨g,1,none⟩ v1).setCell ⟨g,2,none⟩ v2).setCell ⟨g,3,none⟩ v3).setCell ⟨g,4,none⟩ v4).heap[g]? = some (.cells #[v0,v1,v2,v3,v4,c5,c6,c7,c8,c9,c10,c11] 29 (0,0)):=blk_set h4 4 v4
  have h6:((((((W.setCell ⟨g,0,none⟩ v0).setCell ⟨g,1,none⟩ v1).setCell ⟨g,2,none⟩ v2).setCell ⟨g,3,none⟩ v3).setCell ⟨g,4,none⟩ v4).setCell ⟨g,5,none⟩ v5).heap[g]? = some (.cells #[v0,v1,v2,v3,v4,v5,c6,c7,c8,c9,c10,c11] 29 (0,0)):=blk_set h5 5 v5
  have h7:(((((((W.setCell ⟨g,0,none⟩ v0).setCell ⟨g,1,none⟩ v1).setCell ⟨g,2,none⟩ v2).setCell ⟨g,3,none⟩ v3).setCell ⟨g,4,none⟩ v4).setCell ⟨g,5,none⟩ v5).setCell ⟨g,6,none⟩ v6).heap[g]? = some (.cells #[v0,v1,v2,v3,v4,v5,v6,c7,c8,c9,c10,c11] 29 (0,0)):=blk_set h6 6 v6
  have h8:((((((((W.setCell ⟨g,0,none⟩ v0).setCell ⟨g,1,none⟩ v1).setCell ⟨g,2,none⟩ v2).setCell ⟨g,3,none⟩ v3).setCell ⟨g,4,none⟩ v4).setCell ⟨g,5,none⟩ v5).setCell ⟨g,6,none⟩ v6).setCell ⟨g,7,none⟩ v7).heap[g]? = some (.cells #[v0,v1,v2,v3,v4,v5,v6,v7,c8,c9,c10,c11] 29 (0,0)):=blk_set h7 7 v7
  have h9:(((((((((W.setCell ⟨g,0,none⟩ v0).setCell ⟨g,1,none⟩ v1).setCell ⟨g,2,none⟩ v2).setCell ⟨g,3,none⟩ v3).setCell ⟨g,4,none⟩ v4).setCell ⟨g,5,none⟩ v5).setCell ⟨g,6,none⟩ v6).setCell ⟨g,7,none⟩ v7).setCell ⟨g,8,none⟩ v8).heap[g]? = some (.cells #[v0,v1,v2,v3,v4,v5,v6,v7,v8,c9,c10,c11] 29 (0,0)):=blk_set h8 8 v8
  have h10:((((((((((W.setCell ⟨g,0,none⟩ v0).setCell ⟨g,1,none⟩ v1).setCell ⟨g,2,none⟩ v2).setCell ⟨g,3,none⟩ v3).setCell ⟨g,4,none⟩ v4).setCell ⟨g,5,none⟩ v5).setCell ⟨g,6,none⟩ v6).setCell ⟨g,7,none⟩ v7).setCell ⟨g,8,none⟩ v8).setCell ⟨g,9,none⟩ v9).heap[g]? = some (.cells #[v0,v1,v2,v3,v4,v5,v6,v7,v8,v9,c10,c11] 29 (0,0)):=blk_set h9 9 v9
  have h11:(((((((((((W.setCell ⟨g,0,none⟩ v0).setCell ⟨g,1,none⟩ v1).setCell ⟨g,2,none⟩ v2).setCell ⟨g,3,none⟩ v3).setCell ⟨g,4,none⟩ v4).setCell ⟨g,5,none⟩ v5).setCell ⟨g,6,none⟩ v6).setCell ⟨g,7,none⟩ v7).setCell ⟨g,8,none⟩ v8).setCell ⟨g,9,none⟩ v9).setCell ⟨g,10,none⟩ v10).heap[g]? = some (.cells #[v0,v1,v2,v3,v4,v5,v6,v7,v8,v9,v10,c11] 29 (0,0)):=blk_set h10 10 v10
  have h12:((((((((((((W.setCell ⟨g,0,none⟩ v0).setCell ⟨g,1,none⟩ v1).setCell ⟨g,2,none⟩ v2).setCell ⟨g,3,none⟩ v3).setCell ⟨g,4,none⟩ v4).setCell ⟨g,5,none⟩ v5).setCell ⟨g,6,none⟩ v6).setCell ⟨g,7,none⟩ v7).setCell ⟨g,8,none⟩ v8).setCell ⟨g,9,none⟩ v9).setCell ⟨g,10,none⟩ v10).setCell ⟨g,11,none⟩ v11).heap[g]? = some (.cells #[v0,v1,v2,v3,v4,v5,v6,v7,v8,v9,v10,v11] 29 (0,0)):=blk_set h11 11 v11
  exact h12
theorem far12 {W:World} {g:Nat} (v0 v1 v2 v3 v4 v5 v6 v7 v8 v9 v10 v11:Value) (k:Nat) (hne:k≠g):((((((((((((W.setCell ⟨g,0,none⟩ v0).setCell ⟨g,1,none⟩ v1).setCell ⟨g,2,none⟩ v2).setCell ⟨g,3,none⟩ v3).setCell ⟨g,4,none⟩ v4).setCell ⟨g,5,none⟩ v5).setCell ⟨g,6,none⟩ v6).setCell ⟨g,7,none⟩ v7).setCell ⟨g,8,none⟩ v8).setCell ⟨g,9,none⟩ v9).setCell ⟨g,10,none⟩ v10).setCell ⟨g,11,none⟩ v11).heap[k]? = W.heap[k]?:=by
  rw [Below.heap_setCell _ ⟨g,11,none⟩ v11 k hne,Below.heap_setCell _ ⟨g,10,none⟩ v10 k hne,Below.heap_setCell _ ⟨g,9,none⟩ v9 k hne,Below.heap_setCell _ ⟨g,8,none⟩ v8 k hne,Below.heap_setCell _ ⟨g,7,none⟩ v7 k hne,Below.heap_setCell _ ⟨g,6,none⟩ v6 k hne,Below.heap_setCell _ ⟨g,5,none⟩ v5 k hne,Below.heap_setCell _ ⟨g,4,none⟩ v4 k hne,Below.heap_setCell _ ⟨g,3,none⟩ v3 k hne,Below.heap_setCell _ ⟨g,2,none⟩ v2 k hne,Below.heap_setCell _ ⟨g,1,none⟩ v1 k hne,Below.heap_setCell _ ⟨g,0,none⟩ v0 k hne]
theorem below12 {w0 W:World} {g:Nat} (h:Below w0.heap.size w0 W) (hg:w0.heap.size≤g) (v0 v1 v2 v3 v4 v5 v6 v7 v8 v9 v10 v11:Value):Below w0.heap.size w0 ((((((((((((W.setCell ⟨g,0,none⟩ v0).setCell ⟨g,1,none⟩ v1).setCell ⟨g,2,none⟩ v2).setCell ⟨g,3,none⟩ v3).setCell ⟨g,4,none⟩ v4).setCell ⟨g,5,none⟩ v5).setCell ⟨g,6,none⟩ v6).setCell ⟨g,7,none⟩ v7).setCell ⟨g,8,none⟩ v8).setCell ⟨g,9,none⟩ v9).setCell ⟨g,10,none⟩ v10).setCell ⟨g,11,none⟩ v11):=
  (below_set (below_set (below_set (below_set (below_set (below_set (below_set (below_set (below_set (below_set (below_set (below_set h hg) hg) hg) hg) hg) hg) hg) hg) hg) hg) hg) hg)
/-- A command's twelve cells. -/
theorem cmdCells {W:World} {g:Nat} {c0 c1 c2 c3 c4 c5 c6 c7 c8 c9 c10 c11:Value} (hb:W.heap[g]? = some (.cells #[c0,c1,c2,c3,c4,c5,c6,c7,c8,c9,c10,c11] 29 (0,0))) :
    (W.cell? ⟨g,0,none⟩=some c0∧W.cell? ⟨g,1,none⟩=some c1∧W.cell? ⟨g,2,none⟩=some c2∧W.cell? ⟨g,3,none⟩=some c3∧W.cell? ⟨g,4,none⟩=some c4∧W.cell? ⟨g,5,none⟩=some c5∧W.cell? ⟨g,6,none⟩=some c6∧W.cell? ⟨g,7,none⟩=some c7∧W.cell? ⟨g,8,none⟩=some c8∧W.cell? ⟨g,9,none⟩=some c9∧W.cell? ⟨g,10,none⟩=some c10∧W.cell? ⟨g,11,none⟩=some c11) ∧
    ∀ i,W.frozen? ⟨g,i,none⟩=false:=
  ⟨⟨(blk_cell hb 0).trans rfl,(blk_cell hb 1).trans rfl,(blk_cell hb 2).trans rfl,(blk_cell hb 3).trans rfl,(blk_cell hb 4).trans rfl,(blk_cell hb 5).trans rfl,(blk_cell hb 6).trans rfl,(blk_cell hb 7).trans rfl,(blk_cell hb 8).trans rfl,(blk_cell hb 9).trans rfl,(blk_cell hb 10).trans rfl,(blk_cell hb 11).trans rfl⟩,fun i=>blk_frozen hb i⟩
attribute [local go_sem] hitGet
set_option maxHeartbeats 8000000 in
set_option maxRecDepth 100000 in
theorem To_get (A:Option Addr) (cap:Nat) (ks:List ByteArray) (ca t:Bool) (e0:Int) (w:World) (hn:0 < ks.length) (h64:ks.length≤64) (hF:Kd.F Kd.string w (fun _=>True) A ks.length ks) :
    Calls Tryz.prog 29 #[.iface 69 (.agg #[.slice A ks.length cap,.bool ca,.bool t,.int .i64 e0])] w fun e' w'=>∃ v0_:Value,e'=.returned (cdV (getD ks ca t e0) v0_)∧Kd.R Kd.string 9 w' w.heap.size (fun _=>True) v0_ ks∧Below w.heap.size w w':=by
  have hu:=Tryz.underlying29
  have hug:=Tryz.underlying69
  obtain ⟨gb,ob,rfl,_⟩:=str_cells (Kd.F_now hF) hn
  have HC:=Aside0.mk (show ∀ W:World,Below w.heap.size w W→Calls Tryz.prog 42 #[.slice (some ⟨gb,ob,none⟩) ks.length cap] W fun e w'=>∃ v',e=.returned v'∧Kd.R Kd.string 9 w' W.heap.size (fun _=>True) v' ks∧Below W.heap.size W w' from fun W hb=>by
    obtain ⟨gb2,ob2,he,hcell⟩:=str_cells (Kd.F_now (Kd.F_below hF hb)) hn
    injection he with he
    injection he with h1 h2
    subst h1;subst h2
    refine (Tryz.slices_Clone_string gb ob ks.length cap ks W (Nat.le_refl _) (by omega) hcell).mono ?_
    rintro e w' ⟨v',rfl,ho,_,hb'⟩
    rw [List.take_length] at ho
    exact ⟨v',rfl,Kd.R_of_own (h1:=fun _=>rfl) ho (fun _ _=>trivial),hb'⟩)
  clear hF
  go_enter Tryz.func29,Tryz.ntmps29
  go_wp2
  generalize hW0:World.alloc (World.alloc w _) _=W0
  have hbg:W0.heap[w.heap.size + 1]? = some (.cells #[.slice (some ⟨gb,ob,none⟩) ks.length cap,.bool ca,.bool t,.int .i64 e0] 69 (0,0)):=by rw [← hW0];exact new_at (by simp)
  have hbr:W0.heap[w.heap.size]? = some (.cells #[.string ⟨#[]⟩,.string ⟨#[]⟩,.slice none 0 0,.string ⟨#[]⟩,.int .u32 0,.int .i64 0,.int .u64 0,.int .u64 0,.bool false,.bool false,.bool false,.bool false] 29 (0,0)):=by rw [← hW0];exact blk_alloc (heap_alloc_new w _) _
  have hB0:Below w.heap.size w W0:=by rw [← hW0];exact below_alloc (below_alloc (Below.refl _ _) _) _
  have x0:W0.cell? ⟨w.heap.size + 1,0,none⟩=some (.slice (some ⟨gb,ob,none⟩) ks.length cap):=(blk_cell hbg 0).trans rfl
  have x1:W0.cell? ⟨w.heap.size + 1,1,none⟩=some (.bool ca):=(blk_cell hbg 1).trans rfl
  have x2:W0.cell? ⟨w.heap.size + 1,2,none⟩=some (.bool t):=(blk_cell hbg 2).trans rfl
  have x3:W0.cell? ⟨w.heap.size + 1,3,none⟩=some (.int .i64 e0):=(blk_cell hbg 3).trans rfl
  have HBG:=Aside0.mk hbg
  have HBR0:=Aside0.mk hbr
  have HB0:=Aside0.mk hB0
  clear hW0 hbg hbr hB0
  have hg1:¬ w.heap.size=w.heap.size + 1:=by omega
  have hg2:¬ w.heap.size + 1=w.heap.size:=by omega
  go_region_held3 (fun w'=>w'.cell? ⟨w.heap.size + 1,0,none⟩=some (.slice (some ⟨gb,ob,none⟩) ks.length cap)∧w'.cell? ⟨w.heap.size + 1,1,none⟩=some (.bool ca)∧w'.cell? ⟨w.heap.size + 1,2,none⟩=some (.bool t)∧w'.cell? ⟨w.heap.size + 1,3,none⟩=some (.int .i64 e0)) (first | with_reducible exact ⟨z0,z1,z2,z3⟩ | (refine ⟨?_,?_,?_,?_⟩<;>(with_reducible repeat (refine far_cell hg2 ?_))<;>with_reducible assumption) | exact ⟨x0,x1,x2,x3⟩)
    (first | (go_at_call 42;refine (HC.out _ (by first | exact HB0.out | exact below_drew1 HB0.out | exact pw_below_drewN HB0.out _)).mono ?_;rintro e w' ⟨v',rfl,hr,hb'⟩;obtain ⟨Av,cv,ev⟩:=Kd.R_slice hr;subst ev;have hbg:=blk_below (blk_drew HBG.out) hb';have hbr:=blk_below (blk_drew HBR0.out) hb';obtain ⟨⟨y0,y1,y2,y3,y4,y5,y6,y7,y8,y9,y10,y11⟩,yf⟩:=cmdCells hbr;have z0:w'.cell? ⟨w.heap.size + 1,0,none⟩=some (.slice (some ⟨gb,ob,none⟩) ks.length cap):=(blk_cell hbg 0).trans rfl;have z1:w'.cell? ⟨w.heap.size + 1,1,none⟩=some (.bool ca):=(blk_cell hbg 1).trans rfl;have z2:w'.cell? ⟨w.heap.size + 1,2,none⟩=some (.bool t):=(blk_cell hbg 2).trans rfl;have z3:w'.cell? ⟨w.heap.size + 1,3,none⟩=some (.int .i64 e0):=(blk_cell hbg 3).trans rfl;have HR:=Aside0.mk hr;have HB':=Aside0.mk hb';have HBR:=Aside0.mk hbr;clear hr hb' hbr hbg))
  go_wp2
  refine bodyPost_ret (results_cell_row rfl _ _ w.heap.size 29 #[.string ⟨#[103,101,116]⟩,.string ⟨#[]⟩,.slice Av ks.length cv,.string ⟨#[]⟩,.int .u32 0,.int .i64 e0,.int .u64 0,.int .u64 0,.bool ca,.bool t,.bool false,.bool false] (0,0) _ rfl (put12 HBR.out) Tryz.underlying29 rfl (by kernel_rfl)) rfl ?_
  have hle:=HB0.out.size
  have hbw:Below w.heap.size w w':=below_step HB0.out (by first | exact HB'.out | exact below_undrew HB'.out)
  refine ⟨.slice Av ks.length cv,rfl,?_,below12 hbw (Nat.le_refl _) _ _ _ _ _ _ _ _ _ _ _ _⟩
  have hR:=Kd.R_types (Kd.R_lower HR.out hle) HBR.out (by decide)
  exact Kd.R_mono (Kd.R_step hR (fun k hk _=>far12 _ _ _ _ _ _ _ _ _ _ _ _ k hk.2)) (fun _ _=>trivial)
end Go.Proofs.YtfbhlbchmenloaaGreatDoor.H
end
section
namespace Go.Proofs.YtfbhlbchmenloaaGreatDoor.H
open Go.RowKit Go.Proofs.YtfbhlbchmenloaaGreatDoorW.PrintWords Go.Proofs.YtfbhlbchmenloaaGreatDoorW.PrintLast Go.Proofs.YtfbhlbchmenloaaGreatDoorW.PrintMore
set_option linter.unusedVariables false
set_option linter.unusedSimpArgs false
def toX:Cx→Cd
  | .pl c=>toD c
  | .get ks ca t e=>getD ks ca t e
theorem To_any {v:Value} {y:Cx} {w:World} (h:AnyR w v y):Calls Tryz.prog 29 #[v] w fun e' w'=>∃ v0_:Value,e'=.returned (cdV (toX y) v0_)∧Kd.R Kd.string 9 w' w.heap.size (fun _=>True) v0_ (toX y).keys∧Below w.heap.size w w':=by
  cases y with
  | pl c=>
    have h:v=anyW c:=h
    subst h
    exact event_To.calls c w
  | get ks ca t e=>
    obtain ⟨A,cap,rfl,⟨h1,h2⟩,h3,h4⟩:=h
    exact To_get A cap ks ca t e w h1 h2 h4
set_option maxHeartbeats 8000000 in
set_option maxRecDepth 100000 in
theorem Next_walk (g:Nat) (ps:PS) (x:Cx) (n:Int) (y:Cx) (ok:Bool) (ps':PS) (w0 W:World) (HLD:LaidA W) (hI:IsS55 w0 W g ps) (hB:Below w0.heap.size w0 W)
    (hone:¬ idx10 (psPass ps).2.b < 0→¬ 2048 < (lineL (psPass ps).2).length→OneIs (strOfNums (lineL (psPass ps).2)) x n) (hx:n≠-1→∃ c,x=.pl c) (h:psNext ps x n=some (y,ok,ps')) :
    Calls Tryz.prog 14 #[.pointer (some ⟨g,0,none⟩)] W fun e w'=>∃ v,e=.returned (.tuple #[cdV (toX y) v,.bool ok])∧Kd.R Kd.string 9 w' W.heap.size (fun _=>True) v (toX y).keys∧IsS55 w0 w' g ps'∧Below w0.heap.size w0 w'∧KeepBut W w' g none:=by
  have hu:=Tryz.underlying29
  have HLT:=Aside0.mk hI.lt
  have HSZ:=Aside0.mk hB.size
  have HNX:=Aside0.mk (fun o=>next_walk g ps x n y ok ps' w0 (W.alloc o) (HLD.alloc o) (hI.alloc o) (below_alloc hB o) hone hx h)
  clear hI hB HLD hone hx h
  go_enter Tryz.func14,Tryz.ntmps14
  go_wp2_with (first
    | (go_at_call 28;refine (HNX.out _).mono ?_;rintro e w1 ⟨v,rfl,hv1,hi1,hb1,hk1⟩;have hbr1:=(hk1.2 W.heap.size (by simp) (Nat.ne_of_gt HLT.out) (by simp)).trans (heap_alloc_new W _);have HV1:=Aside0.mk hv1;have HI1:=Aside0.mk hi1;have HB1:=Aside0.mk hb1;have HK1:=Aside0.mk hk1;have HBR1:=Aside0.mk hbr1;clear hv1 hi1 hb1 hk1 hbr1)
    | (go_at_call 29;refine (To_any HV1.out).mono ?_;rintro e w2 ⟨v2,rfl,hr2,hb2⟩;obtain ⟨Av,cv,ev⟩:=Kd.R_slice hr2;subst ev;unfold cdV;have hbr2:=blk_below HBR1.out hb2;obtain ⟨⟨y0,y1,y2,y3,y4,y5,y6,y7,y8,y9,y10,y11⟩,yf⟩:=cmdCells hbr2;have HR2:=Aside0.mk hr2;have HB2:=Aside0.mk hb2;have HBR2:=Aside0.mk hbr2;clear hr2 hb2 hbr2))
  have hbr:=HBR2.out
  refine bodyPost_ret (results_ct rfl _ _ W.heap.size 29 #[.string (toX y).what,.string (toX y).verb,.slice Av (toX y).keys.length cv,.string (toX y).data,.int .u32 (toX y).flags,.int .i64 (toX y).exp,.int .u64 (toX y).cas,.int .u64 (toX y).by_,.bool (toX y).withCas,.bool (toX y).withTouch,.bool (toX y).down,.bool (toX y).quiet] (0,0) _ rfl (put12 hbr) Tryz.underlying29 rfl (by kernel_rfl)) rfl ?_
  have hb2:=HB2.out
  have hk1:=HK1.out
  have hsz:W.heap.size≤w1.heap.size:=by
    have:=hk1.1
    simp at this
    omega
  refine ⟨.slice Av (toX y).keys.length cv,rfl,?_,?_,?_,?_⟩
  · have hR:=Kd.R_types (Kd.R_lower HR2.out hsz) hbr (by decide)
    exact Kd.R_mono (Kd.R_step hR (fun k hk _=>far12 _ _ _ _ _ _ _ _ _ _ _ _ k hk.2)) (fun _ _=>trivial)
  · refine (HI1.out.below hb2).move fun k hk hc=>far12 _ _ _ _ _ _ _ _ _ _ _ _ k fun e=>?_
    subst e
    rcases hc with e | ⟨cs,hcs⟩
    · exact absurd e.symm (Nat.ne_of_lt HLT.out)
    · rw [hbr] at hcs
      injection hcs with hcs
      injection hcs with _ hcs
      exact absurd hcs (by decide)
  · exact below12 (below_step HB1.out hb2) HSZ.out _ _ _ _ _ _ _ _ _ _ _ _
  · refine ⟨?_,fun k hk hne hr=>?_⟩
    · have:=hb2.size
      simp
      omega
    · rw [far12 _ _ _ _ _ _ _ _ _ _ _ _ k (Nat.ne_of_lt hk),hb2.block k (by omega),hk1.2 k (by simp;omega) hne hr]
      exact Below.heap_alloc W _ k hk
end Go.Proofs.YtfbhlbchmenloaaGreatDoor.H
end
section
namespace Go.Proofs.YtfbhlbchmenloaaGreatDoor.H
open Go.RowKit Go.Proofs.YtfbhlbchmenloaaGreatDoorW.PrintWords Go.Proofs.YtfbhlbchmenloaaGreatDoorW.PrintLast Go.Proofs.YtfbhlbchmenloaaGreatDoorW.PrintMore
set_option linter.unusedVariables false
set_option linter.unusedSimpArgs false
set_option maxHeartbeats 4000000 in
set_option maxRecDepth 100000 in
theorem notKey_walk (k:ByteArray) (w:World) (HLD:LaidA w):Calls Tryz.prog 59 #[.string k] w fun e w'=>e=.returned (.bool (!keyF k))∧Below w.heap.size w w':=by
  have HL:=Aside0.mk HLD
  clear HLD
  go_enter Tryz.func59,Tryz.ntmps59
  go_wp2_with (go_at_call 52;refine (key_walk k _ HL.out).mono ?_;rintro e w' ⟨rfl,hb⟩;have HB:=Aside0.mk hb;clear hb)
  go_ret
  exact ⟨rfl,HB.out⟩
set_option maxHeartbeats 4000000 in
set_option maxRecDepth 100000 in
theorem IndexFunc_walk (A:Option Addr) (c:Nat) (l:List ByteArray) (w:World) (HLD:LaidA w) (hr:Kd.C Kd.string w A l.length l) :
    Calls Tryz.prog 67 #[.slice A l.length c,.func (.func 59) #[] #[]] w fun e w'=>∃ r:Int,e=.returned (.int .i64 r)∧decide (0≤r)=l.any (fun k=>!keyF k)∧Below w.heap.size w w':=by
  have hus:=Tryz.underlying22
  have hmax:=hr.2.1
  have HL:=Aside0.mk HLD
  have HR:=Aside0.mk hr
  clear HLD hr
  go_enter Tryz.func67,Tryz.ntmps67
  go_wp2
  go_loopg [8] l.length (fun kq v8 w'=>∃ i:Nat,v8=.int .i64 (i:Int)∧Aside0 (i + kq=l.length)∧Aside0 (∀ j,j < i→keyF (l.getD j ByteArray.empty)=true)∧Aside0 (Below w.heap.size w w'))
  case atStart=>exact ⟨0,rfl,⟨by omega⟩,⟨fun j hj=>absurd hj (Nat.not_lt_zero j)⟩,⟨Below.refl _ _⟩⟩
  case round=>
    obtain ⟨i,rfl,HI,HK,HB⟩:=hrel
    by_cases hi:i < l.length
    · have d1:decide ((i:Int) < (l.length:Int))=true:=decide_eq_true (by omega)
      have d2:decide (i < l.length)=true:=decide_eq_true hi
      have d3:decide ((0:Int)≤(i:Int))=true:=decide_eq_true (by omega)
      have d4:(i < l.length)=True:=eq_true hi
      obtain ⟨gb,ob,hA,hcell⟩:=str_cells HR.out (by omega)
      obtain ⟨s,hs⟩:∃ s,s=l.getD i ByteArray.empty:=⟨_,rfl⟩
      have x0:=pw_cell_below HB.out (hcell i hi)
      rw [← hs] at x0
      have HW:=Aside0.mk (show wrap64 ((i:Int) + 1)=((i + 1:Nat):Int) from by unfold wrap64;omega)
      have HI2:=Aside0.mk hi
      have HS:=Aside0.mk hs
      clear hi hcell hs
      subst hA
      by_cases hk:keyF s=true
      · have HK2:=Aside0.mk hk
        have hk2:(!keyF s)=false:=by rw [hk];rfl
        clear hk
        go_wp2_with (refine (notKey_walk s _ (HL.out.below HB.out)).mono ?_;rintro e w2 ⟨rfl,hb2⟩;rw [hk2];have HB2:=Aside0.mk hb2;clear hb2)
        go_roundg (l.length - (i + 1))
        case measure=>have:=HI.out;have:=HI2.out;omega
        case rel=>
          refine ⟨i + 1,by rw [← HW.out],⟨by have:=HI2.out;omega⟩,⟨fun j hj=>?_⟩,⟨below_step HB.out HB2.out⟩⟩
          by_cases hji:j < i
          · exact HK.out j hji
          · obtain rfl:j=i:=by omega
            rw [← HS.out]
            exact HK2.out
      · have hk1:keyF s=false:=by simpa using hk
        have HK2:=Aside0.mk hk1
        have hk2:(!keyF s)=true:=by rw [hk1];rfl
        clear hk hk1
        go_wp2_with (refine (notKey_walk s _ (HL.out.below HB.out)).mono ?_;rintro e w2 ⟨rfl,hb2⟩;rw [hk2];have HB2:=Aside0.mk hb2;clear hb2)
        go_ret
        refine ⟨(i:Int),rfl,?_,below_step HB.out HB2.out⟩
        rw [decide_eq_true (by omega)]
        refine (List.any_eq_true.2 ⟨s,?_,by rw [HK2.out];rfl⟩).symm
        rw [HS.out,List.getD_eq_getElem?_getD,List.getElem?_eq_getElem HI2.out]
        exact List.getElem_mem HI2.out
    · have d1:decide ((i:Int) < (l.length:Int))=false:=decide_eq_false (by omega)
      have d2:decide (i < l.length)=false:=decide_eq_false hi
      have HI2:=Aside0.mk hi
      clear hi
      go_wp2
      go_ret
      refine ⟨-1,rfl,?_,HB.out⟩
      rw [decide_eq_false (by omega)]
      refine (List.any_eq_false.2 fun k hk=>?_).symm
      obtain ⟨j,hj,rfl⟩:=List.getElem_of_mem hk
      have:=HK.out j (by have:=HI2.out;omega)
      rw [List.getD_eq_getElem?_getD,List.getElem?_eq_getElem hj] at this
      have e:keyF l[j]=true:=this
      rw [e]
      decide
set_option maxHeartbeats 4000000 in
set_option maxRecDepth 100000 in
theorem ContainsFunc_walk (A:Option Addr) (c:Nat) (l:List ByteArray) (w:World) (HLD:LaidA w) (hr:Kd.C Kd.string w A l.length l) :
    Calls Tryz.prog 58 #[.slice A l.length c,.func (.func 59) #[] #[]] w fun e w'=>e=.returned (.bool (l.any (fun k=>!keyF k)))∧Below w.heap.size w w':=by
  have HL:=Aside0.mk HLD
  have HR:=Aside0.mk hr
  clear HLD hr
  go_enter Tryz.func58,Tryz.ntmps58
  go_wp2_with (go_at_call 67;refine (IndexFunc_walk A c l _ HL.out HR.out).mono ?_;rintro e w' ⟨r,rfl,hd,hb⟩;have HD:=Aside0.mk hd;have HB:=Aside0.mk hb;clear hd hb)
  go_ret
  exact ⟨congrArg (fun b=>Ending.returned (.bool b)) HD.out,HB.out⟩
end Go.Proofs.YtfbhlbchmenloaaGreatDoor.H
end
section
namespace Go.Proofs.YtfbhlbchmenloaaGreatDoor.H
open Go.RowKit Go.Proofs.YtfbhlbchmenloaaGreatDoorW.PrintWords Go.Proofs.YtfbhlbchmenloaaGreatDoorW.PrintLast Go.Proofs.YtfbhlbchmenloaaGreatDoorW.PrintMore
attribute [local go_sem] max2_int min2_int max_two min_two max_three min_three max_four min_four   -- for this text's walks alone
set_option linter.unusedVariables false
set_option linter.unusedSimpArgs false



def errW:Option Int→Value
  | none=>.nilIface
  | some c=>.iface 0 (.int .i64 c)
theorem errW_none:errW none=.nilIface:=rfl
theorem errW_some (c:Int):errW (some c)=.iface 0 (.int .i64 c):=rfl

theorem info9:(Tryz.prog.info? 9).map (fun i=>(i.zero,i.size,i.bytes))=some (some (.string ⟨#[]⟩),1,16):=by kernel_rfl
-- the values' own types
end Go.Proofs.YtfbhlbchmenloaaGreatDoor.H
end
section
namespace Go.Proofs.YtfbhlbchmenloaaGreatDoor.H
open Go.RowKit Go.Proofs.YtfbhlbchmenloaaGreatDoorW.PrintWords Go.Proofs.YtfbhlbchmenloaaGreatDoorW.PrintLast Go.Proofs.YtfbhlbchmenloaaGreatDoorW.PrintMore
attribute [local go_sem] max2_int min2_int max_two min_two max_three min_three max_four min_four   -- for this text's walks alone
set_option linter.unusedVariables false
set_option linter.unusedSimpArgs false

/-! ### words_Split: function 46 -/
def words_Split.l0:Nat→List ByteArray→List ByteArray→Int→Int→Option (List ByteArray)
  | 0,_,_,_,_=>none
  | k + 1,x3,x7,x8,x9=>if x9 < x8 then (if 0≤x9 then (if x9 < (x7.length:Int) then (if (rdOf ByteArray.empty x7 x9).toList=([]:List UInt8) then (words_Split.l0 k x3 x7 x8 (wrap64 (x9 + 1))) else (if x3.length < 8796093022208 then (words_Split.l0 k (x3++[rdOf ByteArray.empty x7 x9]) x7 x8 (wrap64 (x9 + 1))) else (none))) else (none)) else (none)) else (some x3)
def words_Split.f (k:Nat) (a0:ByteArray):Option (List ByteArray):=(strings_Split.f a0 (⟨#[32]⟩:ByteArray)).bind fun t111=>(words_Split.l0 k ([]:List ByteArray) t111 (t111.length:Int) 0)
theorem words_Split.mono_l:∀ k,(∀ y0 y1 y2 y3,LeO (words_Split.l0 k y0 y1 y2 y3) (words_Split.l0 (k + 1) y0 y1 y2 y3))
  | 0=>fun _ _ _ _ r h=>by simp [words_Split.l0] at h
  | k + 1=>by
    have ih0:=words_Split.mono_l k
    · intro y0 y1 y2 y3
      unfold words_Split.l0
      repeat' first
      | (with_reducible exact ih0 _ _ _ _)
      | (with_reducible exact LeO.refl _)
      | (with_reducible exact LeO.none _)
      | (with_reducible refine LeO.ite ?_ ?_)
      | (with_reducible refine LeO.bind ?_ (fun _=>?_))
      | exact ih0 _ _ _ _
      | exact LeO.none _
      | refine LeO.ite ?_ ?_
      | refine LeO.bind ?_ (fun _=>?_)
theorem words_Split.mono:∀ a0 k,LeO (words_Split.f k a0) (words_Split.f (k + 1) a0):=by
  intro a0 k
  have ih0:=words_Split.mono_l k
  unfold words_Split.f
  repeat' first
      | (with_reducible exact ih0 _ _ _ _)
      | (with_reducible exact LeO.refl _)
      | (with_reducible exact LeO.none _)
      | (with_reducible refine LeO.ite ?_ ?_)
      | (with_reducible refine LeO.bind ?_ (fun _=>?_))
      | exact ih0 _ _ _ _
      | exact LeO.none _
      | refine LeO.ite ?_ ?_
      | refine LeO.bind ?_ (fun _=>?_)
set_option maxHeartbeats 8000000 in
set_option maxRecDepth 100000 in
theorem words_Split.calls (k:Nat) (a0:ByteArray) (r:List ByteArray) (w:World) (HLD:LaidA w) (h:words_Split.f k a0=some r) :
    Calls Tryz.prog 46 #[.string a0] w fun e w'=>∃ v0_:Value,e=.returned (v0_)∧Kd.R Kd.string 9 w' w.heap.size (fun _=>True) v0_ r∧Below w.heap.size w w':=by
  have HB:=Aside0.mk (Below.refl w.heap.size w)
  have H:((strings_Split.f a0 (⟨#[32]⟩:ByteArray)).bind fun t111=>(words_Split.l0 k ([]:List ByteArray) t111 (t111.length:Int) 0))=some r:=h
  clear h
  replace H:=Option.bind_eq_some_iff.mp H
  obtain ⟨t111,A20,H⟩:=H
  replace H:(words_Split.l0 k ([]:List ByteArray) t111 (t111.length:Int) 0)=some r:=H
  have A2:=Aside0.mk A20
  clear A20
  have H':=Aside0.mk H
  clear H
  go_enter Tryz.func46,Tryz.ntmps46
  go_wp2_with (first | ((with_reducible refine gate_callee (f:=57) rfl ?_);refine goesL_ (some 7) rfl rfl Tryz.func57 (by kernel_rfl) rfl #[.string a0,.string (⟨#[32]⟩:ByteArray)] rfl (by (try simp only [List.map_toArray,List.map_cons,List.map_nil]);first | done | rfl | (simp only [List.length_drop,List.length_take];rfl)) ?_;(with_reducible refine (strings_Split.calls a0 (⟨#[32]⟩:ByteArray) t111 _ ?side1 A2.out).mono ?_);(case side1=>exact HLD.below (by repeat (first | (with_reducible first | exact HB.out | apply below_alloc | apply pw_below_drewN | apply below_drew1) | exact HB.out)));rintro e w3 ⟨v112,rfl,ho0,hb⟩;refine ⟨_,rfl,?_⟩;have n0_:=Aside0.mk (Kd.R_lower ho0 (below_size (by repeat (first | (with_reducible first | exact HB.out | apply below_alloc | apply pw_below_drewN | apply below_drew1) | exact HB.out))));have n1_:=Aside0.mk (below_step (by repeat (first | (with_reducible first | exact HB.out | apply below_alloc | apply pw_below_drewN | apply below_drew1) | exact HB.out)) hb);clear HB;have HO113:=n0_;have HB:=n1_;clear n0_ n1_;(try clear hb);(try clear hb2);(try clear hk);(try clear hi);(try clear ho0);obtain ⟨Ao4,co4,eo4⟩:=Kd.R_slice HO113.out;subst eo4))
  go_loopg [3,9] k (fun kq v3 v9 w'=>∃ (x3_1:List ByteArray) (x9_1:Int),v9=.int .i64 x9_1∧Aside0 (words_Split.l0 kq x3_1 t111 (t111.length:Int) x9_1=some r)∧Aside0 (kq≤k)∧Aside0 (Kd.R Kd.string 9 w' w.heap.size (fun k_=>some k_≠((.slice Ao4 t111.length co4):Value).ownBlock) v3 x3_1)∧Aside0 (Kd.R Kd.string 9 w' w.heap.size (fun k_=>some k_≠(v3:Value).ownBlock) (.slice Ao4 t111.length co4) t111)∧Aside0 (Below w.heap.size w w'))
  case atStart=>exact ⟨(([]:List ByteArray)),(0),(by first | rfl | (simp;done) | (simp [*];done)),H',⟨Nat.le_refl _⟩,⟨by first | exact Kd.R_nil _ _ _ _ _ | exact Kd.N_nil _ _ _ _ _ | exact Kd.V_nil _ _ _ _ _ | exact Kd.Q_nil _ _ _ _ _ | exact Kd.S_nil _ _ _ _ _⟩,⟨by (with_reducible repeat (first | apply Kd.R_alloc | apply Kd.R_drewN | apply Kd.R_drew));exact Kd.R_mono HO113.out (fun _ hk=>(by simp [Value.ownBlock]))⟩,⟨by repeat (first | (with_reducible first | exact HB.out | apply below_alloc | apply pw_below_drewN | apply below_drew1) | exact HB.out)⟩⟩
  case round=>
    clear H'
    try clear p2
    try clear c4
    obtain ⟨x3_1,x9_1,rfl,HA,HK1,HO_3,HO_7,HB⟩:=hrel
    cases gk with
    | zero=>exact absurd HA.out (by simp [words_Split.l0])
    | succ k1=>
      have H:=HA.out
      clear HA
      simp only [words_Split.l0] at H
      by_cases c5:x9_1 < (t111.length:Int)
      · rw [if_pos c5] at H
        have c5b0:decide (x9_1 < (t111.length:Int))=true:=decide_eq_true c5
        clear c5
        by_cases c6:0≤x9_1
        · rw [if_pos c6] at H
          have c6b0:decide (0≤x9_1)=true:=decide_eq_true c6
          clear c6
          by_cases c7:x9_1 < (t111.length:Int)
          · rw [if_pos c7] at H
            have c7b0:decide (x9_1 < (t111.length:Int))=true:=decide_eq_true c7
            clear c7
            by_cases c8:(rdOf ByteArray.empty t111 x9_1).toList=([]:List UInt8)
            · rw [if_pos c8] at H
              have c8b0:((rdOf ByteArray.empty t111 x9_1).toList==([]:List UInt8))=true:=beq_iff_eq.mpr c8
              have c8b1:((rdOf ByteArray.empty t111 x9_1).toList != ([]:List UInt8))=false:=bne_eq_false_iff_eq.mpr c8
              clear c8
              have H':=Aside0.mk H
              clear H
              have p114:0≤(x9_1:Int):=of_decide_eq_true (by first | (with_reducible assumption) | assumption)
              have q114:x9_1 < (t111.length:Int):=of_decide_eq_true (by first | (with_reducible assumption) | assumption)
              obtain ⟨ad114,e114,hx114_0⟩:=Kd.at_string (Kd.R_reads' HO_7.out).2.2 x9_1 p114 q114
              cases e114
              replace p114:=eq_true p114
              replace q114:=eq_true q114
              go_wp2
              go_roundg k1
              case measure=>have:=HK1.out;omega
              case rel=>exact ⟨(x3_1),(wrap64 (x9_1 + 1)),(by first | rfl | (simp;done) | (simp [*];done)),H',⟨by have:=HK1.out;omega⟩,⟨by (with_reducible repeat (first | apply Kd.R_alloc | apply Kd.R_drewN | apply Kd.R_drew));exact HO_3.out⟩,⟨by (with_reducible repeat (first | apply Kd.R_alloc | apply Kd.R_drewN | apply Kd.R_drew));exact HO_7.out⟩,⟨by repeat (first | (with_reducible first | exact HB.out | apply below_alloc | apply pw_below_drewN | apply below_drew1) | exact HB.out)⟩⟩
            · rw [if_neg c8] at H
              have c8b0:((rdOf ByteArray.empty t111 x9_1).toList==([]:List UInt8))=false:=beq_eq_false_iff_ne.mpr c8
              have c8b1:((rdOf ByteArray.empty t111 x9_1).toList != ([]:List UInt8))=true:=bne_iff_ne.mpr c8
              by_cases c9:x3_1.length < 8796093022208
              · rw [if_pos c9] at H
                have LMc9:=Aside0.mk c9
                clear c9
                obtain ⟨y115,hy115⟩:∃ y_:List ByteArray,y_=(x3_1++[rdOf ByteArray.empty t111 x9_1]):=⟨_,rfl⟩
                replace H:(words_Split.l0 k1 y115 t111 (t111.length:Int) (wrap64 (x9_1 + 1)))=some r:=by first | (rw [hy115];with_reducible exact H) | (have H2_:=(Option.bind_some _ _).symm.trans H;rw [hy115];with_reducible exact H2_) | (have H2_:=(Option.bind_some _ _).symm.trans H;with_reducible exact H2_) | with_reducible exact H | (rw [hy115];exact H) | exact H
                have Ny115:=Aside0.mk hy115
                clear hy115
                have H':=Aside0.mk H
                clear H
                have p114:0≤(x9_1:Int):=of_decide_eq_true (by first | (with_reducible assumption) | assumption)
                have q114:x9_1 < (t111.length:Int):=of_decide_eq_true (by first | (with_reducible assumption) | assumption)
                obtain ⟨ad114,e114,hx114_0⟩:=Kd.at_string (Kd.R_reads' HO_7.out).2.2 x9_1 p114 q114
                cases e114
                replace p114:=eq_true p114
                replace q114:=eq_true q114
                go_wp2_with (first | ((with_reducible refine gate_builtin (b:=.append) (xs:=#[.tmp 15,.tmp 17]) rfl ?_);at_builtin;refine Kd.R_append Kd.string (w0:=w) w.heap.size rfl (.tmp 15) (.tmp 17) 22 9 (.string ⟨#[]⟩) 16 rfl Tryz.underlying22 info9 rfl (by decide) (by omega) u3 x3_1 (rdOf ByteArray.empty t111 x9_1) [.string (rdOf ByteArray.empty t111 x9_1)] (fun k_=>some k_≠(.slice (some ad114) t111.length co4:Value).ownBlock) (fun _=>False) rfl rfl ?aP (fun _ hk=>hk.elim) ?aF ?aO ?aB ?aS ?aL ?_;(case aP=>exact rfl);(case aB=>exact (by repeat (first | (with_reducible first | exact HB.out | apply below_alloc | apply pw_below_drewN | apply below_drew1) | exact HB.out)));(case aF=>exact (fun k_ hk=>Kd.fresh' (Kd.R_lt (by (with_reducible repeat (first | apply Kd.R_alloc | apply Kd.R_drewN | apply Kd.R_drew));exact HO_7.out)) k_ hk));(case aO=>exact (by (with_reducible repeat (first | apply Kd.R_alloc | apply Kd.R_drewN | apply Kd.R_drew));exact HO_3.out));(case aS=>exact (below_size (by repeat (first | (with_reducible first | exact HB.out | apply below_alloc | apply pw_below_drewN | apply below_drew1) | exact HB.out))));(case aL=>have:=LMc9.out;omega);intro v116 w10 ho hb hg hat;rw [← Ny115.out] at ho;have n0_:=Aside0.mk (Kd.R_after (ok:=(fun _=>True)) (by (with_reducible repeat (first | apply Kd.R_alloc | apply Kd.R_drewN | apply Kd.R_drew));exact Kd.R_mono HO_7.out (fun _ hk=>⟨trivial,hk⟩)) hg hat);have n1_:=Aside0.mk (hb);have n2_:=Aside0.mk (ho);clear HO_7;clear HB;clear HO_3;have HO_7:=n0_;have HB:=n1_;have HO117:=n2_;clear n0_ n1_ n2_;clear ho hb hg hat))
                go_roundg k1
                case measure=>have:=HK1.out;omega
                case rel=>exact ⟨(y115),(wrap64 (x9_1 + 1)),(by first | rfl | (simp;done) | (simp [*];done)),H',⟨by have:=HK1.out;omega⟩,⟨by (with_reducible repeat (first | apply Kd.R_alloc | apply Kd.R_drewN | apply Kd.R_drew));exact HO117.out⟩,⟨by (with_reducible repeat (first | apply Kd.R_alloc | apply Kd.R_drewN | apply Kd.R_drew));exact Kd.R_mono HO_7.out (fun _ hk=>hk.2)⟩,⟨by repeat (first | (with_reducible first | exact HB.out | apply below_alloc | apply pw_below_drewN | apply below_drew1) | exact HB.out)⟩⟩
              · rw [if_neg c9] at H
                exact absurd H (by simp)
          · rw [if_neg c7] at H
            exact absurd H (by simp)
        · rw [if_neg c6] at H
          exact absurd H (by simp)
      · rw [if_neg c5] at H
        have c5b0:decide (x9_1 < (t111.length:Int))=false:=decide_eq_false c5
        clear c5
        obtain rfl:=Option.some.inj H
        go_wp2
        go_ret
        exact ⟨_,by first | rfl | (simp [errW_none,errW_some]<;>rfl) | (simp [*,errW_none,errW_some]<;>rfl),by (with_reducible repeat (first | apply Kd.R_alloc | apply Kd.R_drewN | apply Kd.R_drew));exact Kd.R_mono HO_3.out (fun _ hk=>trivial),by repeat (first | (with_reducible first | exact HB.out | apply below_alloc | apply pw_below_drewN | apply below_drew1) | exact HB.out)⟩

end Go.Proofs.YtfbhlbchmenloaaGreatDoor.H
end
section
namespace Go.Proofs.YtfbhlbchmenloaaGreatDoor.H
open Go.RowKit Go.Proofs.YtfbhlbchmenloaaGreatDoorW.PrintWords Go.Proofs.YtfbhlbchmenloaaGreatDoorW.PrintLast Go.Proofs.YtfbhlbchmenloaaGreatDoorW.PrintMore
attribute [local go_sem] max2_int min2_int max_two min_two max_three min_three max_four min_four   -- for this text's walks alone
set_option linter.unusedVariables false
set_option linter.unusedSimpArgs false

/-! ### parse_bad: function 47 -/
def parse_bad.f (a0:ByteArray):Option (Cm×Int):=some ((Cm.bad a0),(-1))
set_option maxHeartbeats 8000000 in
set_option maxRecDepth 100000 in
theorem parse_bad.calls (a0:ByteArray) (r1:Cm) (r2:Int) (w:World) (h:parse_bad.f a0=some (r1,r2)) :
    Calls Tryz.prog 47 #[.string a0] w fun e w'=>e=.returned (.tuple #[anyW r1,.int .i64 r2])∧Drawn0 w w':=by
  have hu88:=Tryz.underlying88
  have H:(some ((Cm.bad a0),(-1)))=some (r1,r2):=h
  clear h
  simp only [Option.some.injEq,Prod.mk.injEq] at H
  obtain ⟨rfl,rfl⟩:=H
  go_enter Tryz.func47,Tryz.ntmps47
  go_wp2
  go_ret2
  exact ⟨by first | rfl | (simp;done) | (simp [*];done),by repeat (first | exact Drawn0.refl _ | apply Drawn0.step)⟩

end Go.Proofs.YtfbhlbchmenloaaGreatDoor.H
end
section
namespace Go.Proofs.YtfbhlbchmenloaaGreatDoor.H
open Go.RowKit Go.Proofs.YtfbhlbchmenloaaGreatDoorW.PrintWords Go.Proofs.YtfbhlbchmenloaaGreatDoorW.PrintLast Go.Proofs.YtfbhlbchmenloaaGreatDoorW.PrintMore
attribute [local go_sem] max2_int min2_int max_two min_two max_three min_three max_four min_four   -- for this text's walks alone
set_option linter.unusedVariables false
set_option linter.unusedSimpArgs false

/-! ### slices_Index_string_string: function 71 -/
def slices_Index_string_string.l0:Nat→List ByteArray→ByteArray→Int→Int→Option (Int)
  | 0,_,_,_,_=>none
  | k + 1,x0,x1,x7,x8=>if x8 < x7 then (if 0≤x8 then (if x8 < (x0.length:Int) then (if x1.toList=(rdOf ByteArray.empty x0 x8).toList then (some x8) else (slices_Index_string_string.l0 k x0 x1 x7 (wrap64 (x8 + 1)))) else (none)) else (none)) else (some (-1))
def slices_Index_string_string.f (k:Nat) (l0:List ByteArray) (a1:ByteArray):Option (Int):=slices_Index_string_string.l0 k l0 a1 (l0.length:Int) 0
theorem slices_Index_string_string.mono_l:∀ k,(∀ y0 y1 y2 y3,LeO (slices_Index_string_string.l0 k y0 y1 y2 y3) (slices_Index_string_string.l0 (k + 1) y0 y1 y2 y3))
  | 0=>fun _ _ _ _ r h=>by simp [slices_Index_string_string.l0] at h
  | k + 1=>by
    have ih0:=slices_Index_string_string.mono_l k
    · intro y0 y1 y2 y3
      unfold slices_Index_string_string.l0
      repeat' first
      | (with_reducible exact ih0 _ _ _ _)
      | (with_reducible exact LeO.refl _)
      | (with_reducible exact LeO.none _)
      | (with_reducible refine LeO.ite ?_ ?_)
      | (with_reducible refine LeO.bind ?_ (fun _=>?_))
      | exact ih0 _ _ _ _
      | exact LeO.none _
      | refine LeO.ite ?_ ?_
      | refine LeO.bind ?_ (fun _=>?_)
theorem slices_Index_string_string.mono:∀ a0 a1 k,LeO (slices_Index_string_string.f k a0 a1) (slices_Index_string_string.f (k + 1) a0 a1):=by
  intro a0 a1 k
  have ih0:=slices_Index_string_string.mono_l k
  unfold slices_Index_string_string.f
  repeat' first
      | (with_reducible exact ih0 _ _ _ _)
      | (with_reducible exact LeO.refl _)
      | (with_reducible exact LeO.none _)
      | (with_reducible refine LeO.ite ?_ ?_)
      | (with_reducible refine LeO.bind ?_ (fun _=>?_))
      | exact ih0 _ _ _ _
      | exact LeO.none _
      | refine LeO.ite ?_ ?_
      | refine LeO.bind ?_ (fun _=>?_)
set_option maxHeartbeats 8000000 in
set_option maxRecDepth 100000 in
theorem slices_Index_string_string.calls (k:Nat) (A0:Option Addr) (c0:Nat) (l0:List ByteArray) (a1:ByteArray) (r:Int) (w:World) (hr0:Kd.C Kd.string w A0 l0.length l0) (hc0:l0.length≤c0) (h:slices_Index_string_string.f k l0 a1=some r) :
    Calls Tryz.prog 71 #[.slice A0 l0.length c0,.string a1] w fun e w'=>e=.returned (.int .i64 r)∧Drawn0 w w':=by
  have HR0:=Aside0.mk hr0
  have HC0:=Aside0.mk hc0
  clear hr0 hc0
  have H:(slices_Index_string_string.l0 k l0 a1 (l0.length:Int) 0)=some r:=h
  clear h
  have H':=Aside0.mk H
  clear H
  go_enter Tryz.func71,Tryz.ntmps71
  go_wp2
  go_loopg [8] k (fun kq v8 w'=>∃ (x8_1:Int),v8=.int .i64 x8_1∧Aside0 (slices_Index_string_string.l0 kq l0 a1 (l0.length:Int) x8_1=some r)∧Aside0 (kq≤k)∧Drawn0 w w')
  case atStart=>exact ⟨(0),(by first | rfl | (simp;done) | (simp [*];done)),H',⟨Nat.le_refl _⟩,by repeat (first | exact Drawn0.refl _ | apply Drawn0.step)⟩
  case round=>
    clear H'
    try clear p2
    obtain ⟨x8_1,rfl,HA,HK1,⟨m1,rfl⟩⟩:=hrel
    cases gk with
    | zero=>exact absurd HA.out (by simp [slices_Index_string_string.l0])
    | succ k1=>
      have H:=HA.out
      clear HA
      simp only [slices_Index_string_string.l0] at H
      by_cases c3:x8_1 < (l0.length:Int)
      · rw [if_pos c3] at H
        have c3b0:decide (x8_1 < (l0.length:Int))=true:=decide_eq_true c3
        clear c3
        by_cases c4:0≤x8_1
        · rw [if_pos c4] at H
          have c4b0:decide (0≤x8_1)=true:=decide_eq_true c4
          clear c4
          by_cases c5:x8_1 < (l0.length:Int)
          · rw [if_pos c5] at H
            have c5b0:decide (x8_1 < (l0.length:Int))=true:=decide_eq_true c5
            clear c5
            by_cases c6:a1.toList=(rdOf ByteArray.empty l0 x8_1).toList
            · rw [if_pos c6] at H
              have c6b0:(a1.toList==(rdOf ByteArray.empty l0 x8_1).toList)=true:=beq_iff_eq.mpr c6
              have c6b1:(a1.toList != (rdOf ByteArray.empty l0 x8_1).toList)=false:=bne_eq_false_iff_eq.mpr c6
              clear c6
              obtain rfl:=Option.some.inj H
              have p126:0≤(x8_1:Int):=of_decide_eq_true (by first | (with_reducible assumption) | assumption)
              have q126:x8_1 < (l0.length:Int):=of_decide_eq_true (by first | (with_reducible assumption) | assumption)
              obtain ⟨ad126,e126,hx126_0⟩:=Kd.at_string HR0.out x8_1 p126 q126
              cases e126
              replace p126:=eq_true p126
              replace q126:=eq_true q126
              go_wp2
              go_ret
              exact ⟨by first | rfl | (simp;done) | (simp [*];done),by repeat (first | exact Drawn0.refl _ | apply Drawn0.step)⟩
            · rw [if_neg c6] at H
              have c6b0:(a1.toList==(rdOf ByteArray.empty l0 x8_1).toList)=false:=beq_eq_false_iff_ne.mpr c6
              have c6b1:(a1.toList != (rdOf ByteArray.empty l0 x8_1).toList)=true:=bne_iff_ne.mpr c6
              have H':=Aside0.mk H
              clear H
              have p126:0≤(x8_1:Int):=of_decide_eq_true (by first | (with_reducible assumption) | assumption)
              have q126:x8_1 < (l0.length:Int):=of_decide_eq_true (by first | (with_reducible assumption) | assumption)
              obtain ⟨ad126,e126,hx126_0⟩:=Kd.at_string HR0.out x8_1 p126 q126
              cases e126
              replace p126:=eq_true p126
              replace q126:=eq_true q126
              go_wp2
              go_roundg k1
              case measure=>have:=HK1.out;omega
              case rel=>exact ⟨(wrap64 (x8_1 + 1)),(by first | rfl | (simp;done) | (simp [*];done)),H',⟨by have:=HK1.out;omega⟩,by repeat (first | exact Drawn0.refl _ | apply Drawn0.step)⟩
          · rw [if_neg c5] at H
            exact absurd H (by simp)
        · rw [if_neg c4] at H
          exact absurd H (by simp)
      · rw [if_neg c3] at H
        have c3b0:decide (x8_1 < (l0.length:Int))=false:=decide_eq_false c3
        clear c3
        obtain rfl:=Option.some.inj H
        go_wp2
        go_ret
        exact ⟨by first | rfl | (simp;done) | (simp [*];done),by repeat (first | exact Drawn0.refl _ | apply Drawn0.step)⟩

end Go.Proofs.YtfbhlbchmenloaaGreatDoor.H
end
section
namespace Go.Proofs.YtfbhlbchmenloaaGreatDoor.H
open Go.RowKit Go.Proofs.YtfbhlbchmenloaaGreatDoorW.PrintWords Go.Proofs.YtfbhlbchmenloaaGreatDoorW.PrintLast Go.Proofs.YtfbhlbchmenloaaGreatDoorW.PrintMore
attribute [local go_sem] max2_int min2_int max_two min_two max_three min_three max_four min_four   -- for this text's walks alone
set_option linter.unusedVariables false
set_option linter.unusedSimpArgs false

/-! ### slices_Contains_string_string: function 62 -/
def slices_Contains_string_string.f (k:Nat) (l0:List ByteArray) (a1:ByteArray):Option (Bool):=(slices_Index_string_string.f k l0 a1).bind fun t127=>(some (decide (t127≥0)))
theorem slices_Contains_string_string.mono:∀ a0 a1 k,LeO (slices_Contains_string_string.f k a0 a1) (slices_Contains_string_string.f (k + 1) a0 a1):=by
  intro a0 a1 k
  unfold slices_Contains_string_string.f
  repeat' first
      | (with_reducible exact slices_Index_string_string.mono _ _ _)
      | (with_reducible exact LeO.refl _)
      | (with_reducible exact LeO.none _)
      | (with_reducible refine LeO.ite ?_ ?_)
      | (with_reducible refine LeO.bind ?_ (fun _=>?_))
      | exact slices_Index_string_string.mono _ _ _
      | exact LeO.none _
      | refine LeO.ite ?_ ?_
      | refine LeO.bind ?_ (fun _=>?_)
set_option maxHeartbeats 8000000 in
set_option maxRecDepth 100000 in
theorem slices_Contains_string_string.calls (k:Nat) (A0:Option Addr) (c0:Nat) (l0:List ByteArray) (a1:ByteArray) (r:Bool) (w:World) (hr0:Kd.C Kd.string w A0 l0.length l0) (hc0:l0.length≤c0) (h:slices_Contains_string_string.f k l0 a1=some r) :
    Calls Tryz.prog 62 #[.slice A0 l0.length c0,.string a1] w fun e w'=>e=.returned (.bool r)∧Drawn0 w w':=by
  have HR0:=Aside0.mk hr0
  have HC0:=Aside0.mk hc0
  clear hr0 hc0
  have H:((slices_Index_string_string.f k l0 a1).bind fun t127=>(some (decide (t127≥0))))=some r:=h
  clear h
  replace H:=Option.bind_eq_some_iff.mp H
  obtain ⟨t127,A30,H⟩:=H
  replace H:(some (decide (t127≥0)))=some r:=H
  have A3:=Aside0.mk A30
  clear A30
  obtain rfl:=Option.some.inj H
  go_enter Tryz.func62,Tryz.ntmps62
  go_wp2_with (first | ((with_reducible refine gate_callee (f:=71) rfl ?_);refine goesL_ (some 7) rfl rfl Tryz.func71 (by kernel_rfl) rfl #[.slice A0 l0.length c0,.string a1] rfl (by (try simp only [List.map_toArray,List.map_cons,List.map_nil]);first | done | rfl | (simp only [List.length_drop,List.length_take];rfl)) ?_;(with_reducible refine (slices_Index_string_string.calls k _ _ l0 a1 t127 _ ?side1 ?side2 A3.out).mono ?_);(case side1=>repeat (first | exact HR0.out | (with_reducible refine Kd.C_alloc ?_ _) | (with_reducible refine Kd.C_drewN ?_ _) | (with_reducible refine Kd.C_drew ?_)));(case side2=>exact HC0.out);rintro e w' ⟨rfl,⟨nd,rfl⟩⟩;refine ⟨_,rfl,?_⟩))
  go_ret
  exact ⟨by first | rfl | (simp;done) | (simp [*];done),by repeat (first | exact Drawn0.refl _ | apply Drawn0.step)⟩

end Go.Proofs.YtfbhlbchmenloaaGreatDoor.H
end
section
namespace Go.Proofs.YtfbhlbchmenloaaGreatDoor.H
open Go.RowKit Go.Proofs.YtfbhlbchmenloaaGreatDoorW.PrintWords Go.Proofs.YtfbhlbchmenloaaGreatDoorW.PrintLast Go.Proofs.YtfbhlbchmenloaaGreatDoorW.PrintMore
attribute [local go_sem] max2_int min2_int max_two min_two max_three min_three max_four min_four   -- for this text's walks alone
set_option linter.unusedVariables false
set_option linter.unusedSimpArgs false

/-! ### parse_ends: function 51 -/
def parse_ends.f (k:Nat) (l0:List ByteArray) (a1:Int) (l2:List ByteArray):Option (Bool×Bool):=if (l0.length:Int)=a1 then (some (false,true)) else (if (l0.length:Int)=(wrap64 (a1 + 1)) then (if 0≤a1 then (if a1 < (l0.length:Int) then ((slices_Contains_string_string.f k l2 (rdOf ByteArray.empty l0 a1)).bind fun t129=>(if t129=true then (some (((rdOf ByteArray.empty l0 a1).toList==([110,111,114,101,112,108,121]:List UInt8)),true)) else (some (false,false)))) else (none)) else (none)) else (some (false,false)))
theorem parse_ends.mono:∀ a0 a1 a2 k,LeO (parse_ends.f k a0 a1 a2) (parse_ends.f (k + 1) a0 a1 a2):=by
  intro a0 a1 a2 k
  unfold parse_ends.f
  repeat' first
      | (with_reducible exact slices_Contains_string_string.mono _ _ _)
      | (with_reducible exact LeO.refl _)
      | (with_reducible exact LeO.none _)
      | (with_reducible refine LeO.ite ?_ ?_)
      | (with_reducible refine LeO.bind ?_ (fun _=>?_))
      | exact slices_Contains_string_string.mono _ _ _
      | exact LeO.none _
      | refine LeO.ite ?_ ?_
      | refine LeO.bind ?_ (fun _=>?_)
set_option maxHeartbeats 8000000 in
set_option maxRecDepth 100000 in
theorem parse_ends.calls (k:Nat) (A0:Option Addr) (c0:Nat) (l0:List ByteArray) (a1:Int) (A2:Option Addr) (c2:Nat) (l2:List ByteArray) (r1:Bool) (r2:Bool) (w:World) (hr0:Kd.C Kd.string w A0 l0.length l0) (hc0:l0.length≤c0) (hr2:Kd.C Kd.string w A2 l2.length l2) (hc2:l2.length≤c2) (h:parse_ends.f k l0 a1 l2=some (r1,r2)) :
    Calls Tryz.prog 51 #[.slice A0 l0.length c0,.int .i64 a1,.slice A2 l2.length c2] w fun e w'=>e=.returned (.tuple #[.bool r1,.bool r2])∧Drawn0 w w':=by
  have HR0:=Aside0.mk hr0
  have HC0:=Aside0.mk hc0
  clear hr0 hc0
  have HR2:=Aside0.mk hr2
  have HC2:=Aside0.mk hc2
  clear hr2 hc2
  have H:(if (l0.length:Int)=a1 then (some (false,true)) else (if (l0.length:Int)=(wrap64 (a1 + 1)) then (if 0≤a1 then (if a1 < (l0.length:Int) then ((slices_Contains_string_string.f k l2 (rdOf ByteArray.empty l0 a1)).bind fun t129=>(if t129=true then (some (((rdOf ByteArray.empty l0 a1).toList==([110,111,114,101,112,108,121]:List UInt8)),true)) else (some (false,false)))) else (none)) else (none)) else (some (false,false))))=some (r1,r2):=h
  clear h
  by_cases c4:(l0.length:Int)=a1
  · rw [if_pos c4] at H
    have c4b0:((l0.length:Int)==a1)=true:=beq_iff_eq.mpr c4
    have c4b1:((l0.length:Int) != a1)=false:=bne_eq_false_iff_eq.mpr c4
    clear c4
    simp only [Option.some.injEq,Prod.mk.injEq] at H
    obtain ⟨rfl,rfl⟩:=H
    go_enter Tryz.func51,Tryz.ntmps51
    go_wp2
    go_ret2
    exact ⟨by first | rfl | (simp;done) | (simp [*];done),by repeat (first | exact Drawn0.refl _ | apply Drawn0.step)⟩
  · rw [if_neg c4] at H
    have c4b0:((l0.length:Int)==a1)=false:=beq_eq_false_iff_ne.mpr c4
    have c4b1:((l0.length:Int) != a1)=true:=bne_iff_ne.mpr c4
    by_cases c5:(l0.length:Int)=(wrap64 (a1 + 1))
    · rw [if_pos c5] at H
      have c5b0:((l0.length:Int)==(wrap64 (a1 + 1)))=true:=beq_iff_eq.mpr c5
      have c5b1:((l0.length:Int) != (wrap64 (a1 + 1)))=false:=bne_eq_false_iff_eq.mpr c5
      clear c5
      by_cases c6:0≤a1
      · rw [if_pos c6] at H
        have c6b0:decide (0≤a1)=true:=decide_eq_true c6
        clear c6
        by_cases c7:a1 < (l0.length:Int)
        · rw [if_pos c7] at H
          have c7b0:decide (a1 < (l0.length:Int))=true:=decide_eq_true c7
          clear c7
          replace H:=Option.bind_eq_some_iff.mp H
          obtain ⟨t129,A80,H⟩:=H
          replace H:(if t129=true then (some (((rdOf ByteArray.empty l0 a1).toList==([110,111,114,101,112,108,121]:List UInt8)),true)) else (some (false,false)))=some (r1,r2):=H
          have A8:=Aside0.mk A80
          clear A80
          by_cases c9:t129=true
          · subst c9
            have H1:(some (((rdOf ByteArray.empty l0 a1).toList==([110,111,114,101,112,108,121]:List UInt8)),true))=some (r1,r2):=by rw [if_pos rfl] at H;exact H
            clear H
            have H:=H1
            clear H1
            simp only [Option.some.injEq,Prod.mk.injEq] at H
            obtain ⟨rfl,rfl⟩:=H
            have p128:0≤(a1:Int):=of_decide_eq_true (by first | (with_reducible assumption) | assumption)
            have q128:a1 < (l0.length:Int):=of_decide_eq_true (by first | (with_reducible assumption) | assumption)
            obtain ⟨ad128,e128,hx128_0⟩:=Kd.at_string HR0.out a1 p128 q128
            cases e128
            replace p128:=eq_true p128
            replace q128:=eq_true q128
            go_enter Tryz.func51,Tryz.ntmps51
            go_wp2_with (first | (go_at_call 62;(with_reducible refine (slices_Contains_string_string.calls k _ _ l2 (rdOf ByteArray.empty l0 a1) true _ ?side1 ?side2 A8.out).mono ?_);(case side1=>repeat (first | exact HR2.out | (with_reducible refine Kd.C_alloc ?_ _) | (with_reducible refine Kd.C_drewN ?_ _) | (with_reducible refine Kd.C_drew ?_)));(case side2=>exact HC2.out);rintro e w' ⟨rfl,⟨nd,rfl⟩⟩;have p130:0≤(a1:Int):=of_decide_eq_true (by first | (with_reducible assumption) | assumption);have q130:a1 < (l0.length:Int):=of_decide_eq_true (by first | (with_reducible assumption) | assumption);obtain ⟨ad130,e130,hx130_0⟩:=Kd.at_string HR0.out a1 p130 q130;obtain rfl:ad128=ad130:=(by injection e130);replace p130:=eq_true p130;replace q130:=eq_true q130))
            go_ret2
            exact ⟨by first | rfl | (simp;done) | (simp [*];done),by repeat (first | exact Drawn0.refl _ | apply Drawn0.step)⟩
          · replace c9:=Bool.eq_false_iff.mpr c9
            subst c9
            have H1:(some (false,false))=some (r1,r2):=by rw [if_neg (show ¬ (false=true) by decide)] at H;exact H
            clear H
            have H:=H1
            clear H1
            simp only [Option.some.injEq,Prod.mk.injEq] at H
            obtain ⟨rfl,rfl⟩:=H
            have p128:0≤(a1:Int):=of_decide_eq_true (by first | (with_reducible assumption) | assumption)
            have q128:a1 < (l0.length:Int):=of_decide_eq_true (by first | (with_reducible assumption) | assumption)
            obtain ⟨ad128,e128,hx128_0⟩:=Kd.at_string HR0.out a1 p128 q128
            cases e128
            replace p128:=eq_true p128
            replace q128:=eq_true q128
            go_enter Tryz.func51,Tryz.ntmps51
            go_wp2_with (first | (go_at_call 62;(with_reducible refine (slices_Contains_string_string.calls k _ _ l2 (rdOf ByteArray.empty l0 a1) false _ ?side1 ?side2 A8.out).mono ?_);(case side1=>repeat (first | exact HR2.out | (with_reducible refine Kd.C_alloc ?_ _) | (with_reducible refine Kd.C_drewN ?_ _) | (with_reducible refine Kd.C_drew ?_)));(case side2=>exact HC2.out);rintro e w' ⟨rfl,⟨nd,rfl⟩⟩))
            go_ret2
            exact ⟨by first | rfl | (simp;done) | (simp [*];done),by repeat (first | exact Drawn0.refl _ | apply Drawn0.step)⟩
        · rw [if_neg c7] at H
          exact absurd H (by simp)
      · rw [if_neg c6] at H
        exact absurd H (by simp)
    · rw [if_neg c5] at H
      have c5b0:((l0.length:Int)==(wrap64 (a1 + 1)))=false:=beq_eq_false_iff_ne.mpr c5
      have c5b1:((l0.length:Int) != (wrap64 (a1 + 1)))=true:=bne_iff_ne.mpr c5
      simp only [Option.some.injEq,Prod.mk.injEq] at H
      obtain ⟨rfl,rfl⟩:=H
      go_enter Tryz.func51,Tryz.ntmps51
      go_wp2
      go_ret2
      exact ⟨by first | rfl | (simp;done) | (simp [*];done),by repeat (first | exact Drawn0.refl _ | apply Drawn0.step)⟩

end Go.Proofs.YtfbhlbchmenloaaGreatDoor.H
end
section
namespace Go.Proofs.YtfbhlbchmenloaaGreatDoor.H
open Go.RowKit Go.Proofs.YtfbhlbchmenloaaGreatDoorW.PrintWords Go.Proofs.YtfbhlbchmenloaaGreatDoorW.PrintLast Go.Proofs.YtfbhlbchmenloaaGreatDoorW.PrintMore
attribute [local go_sem] max2_int min2_int max_two min_two max_three min_three max_four min_four   -- for this text's walks alone
set_option linter.unusedVariables false
set_option linter.unusedSimpArgs false

/-! ### stringslite_HasPrefix: function 78 -/
def stringslite_HasPrefix.f (a0:ByteArray) (a1:ByteArray):Option (Bool):=if (a0.size:Int)≥(a1.size:Int) then (if 0≤(a1.size:Int) then (if (a1.size:Int)≤(a0.size:Int) then (some ((a0.extract 0 ((a1.size:Int):Int).toNat).toList==a1.toList)) else (none)) else (none)) else (some false)
set_option maxHeartbeats 8000000 in
set_option maxRecDepth 100000 in
theorem stringslite_HasPrefix.calls (a0:ByteArray) (a1:ByteArray) (r:Bool) (w:World) (h:stringslite_HasPrefix.f a0 a1=some r) :
    Calls Tryz.prog 78 #[.string a0,.string a1] w fun e w'=>e=.returned (.bool r)∧Drawn0 w w':=by
  have H:(if (a0.size:Int)≥(a1.size:Int) then (if 0≤(a1.size:Int) then (if (a1.size:Int)≤(a0.size:Int) then (some ((a0.extract 0 ((a1.size:Int):Int).toNat).toList==a1.toList)) else (none)) else (none)) else (some false))=some r:=h
  clear h
  by_cases c3:(a0.size:Int)≥(a1.size:Int)
  · rw [if_pos c3] at H
    have c3b0:decide ((a1.size:Int)≤(a0.size:Int))=true:=decide_eq_true c3
    have c3b1:decide (a1.size≤a0.size)=true:=decide_eq_true (Int.ofNat_le.mp c3)
    clear c3
    by_cases c4:0≤(a1.size:Int)
    · rw [if_pos c4] at H
      have c4b0:=eq_true c4
      have c4b1:decide (0≤(a1.size:Int))=true:=decide_eq_true c4
      clear c4
      by_cases c5:(a1.size:Int)≤(a0.size:Int)
      · rw [if_pos c5] at H
        have c5b0:=eq_true c5
        have c5b1:decide ((a1.size:Int)≤(a0.size:Int))=true:=decide_eq_true c5
        clear c5
        obtain rfl:=Option.some.inj H
        go_enter Tryz.func78,Tryz.ntmps78
        go_wp2
        go_ret
        exact ⟨by first | rfl | (simp;done) | (simp [*];done),by repeat (first | exact Drawn0.refl _ | apply Drawn0.step)⟩
      · rw [if_neg c5] at H
        exact absurd H (by simp)
    · rw [if_neg c4] at H
      exact absurd H (by simp)
  · rw [if_neg c3] at H
    have c3b0:decide ((a1.size:Int)≤(a0.size:Int))=false:=decide_eq_false c3
    have c3b1:decide (a1.size≤a0.size)=false:=decide_eq_false (fun h=>c3 (Int.ofNat_le.mpr h))
    clear c3
    obtain rfl:=Option.some.inj H
    go_enter Tryz.func78,Tryz.ntmps78
    go_wp2
    go_ret
    exact ⟨by first | rfl | (simp;done) | (simp [*];done),by repeat (first | exact Drawn0.refl _ | apply Drawn0.step)⟩

end Go.Proofs.YtfbhlbchmenloaaGreatDoor.H
end
section
namespace Go.Proofs.YtfbhlbchmenloaaGreatDoor.H
open Go.RowKit Go.Proofs.YtfbhlbchmenloaaGreatDoorW.PrintWords Go.Proofs.YtfbhlbchmenloaaGreatDoorW.PrintLast Go.Proofs.YtfbhlbchmenloaaGreatDoorW.PrintMore
attribute [local go_sem] max2_int min2_int max_two min_two max_three min_three max_four min_four   -- for this text's walks alone
set_option linter.unusedVariables false
set_option linter.unusedSimpArgs false

/-! ### stringslite_TrimPrefix: function 77 -/
def stringslite_TrimPrefix.f (a0:ByteArray) (a1:ByteArray):Option (ByteArray):=(stringslite_HasPrefix.f a0 a1).bind fun t118=>(if t118=true then (if 0≤(a1.size:Int) then (if (a1.size:Int)≤(a0.size:Int) then (some (a0.extract ((a1.size:Int):Int).toNat a0.size)) else (none)) else (none)) else (some a0))
set_option maxHeartbeats 8000000 in
set_option maxRecDepth 100000 in
theorem stringslite_TrimPrefix.calls (a0:ByteArray) (a1:ByteArray) (r:ByteArray) (w:World) (h:stringslite_TrimPrefix.f a0 a1=some r) :
    Calls Tryz.prog 77 #[.string a0,.string a1] w fun e w'=>e=.returned (.string r)∧Drawn0 w w':=by
  have H:((stringslite_HasPrefix.f a0 a1).bind fun t118=>(if t118=true then (if 0≤(a1.size:Int) then (if (a1.size:Int)≤(a0.size:Int) then (some (a0.extract ((a1.size:Int):Int).toNat a0.size)) else (none)) else (none)) else (some a0)))=some r:=h
  clear h
  replace H:=Option.bind_eq_some_iff.mp H
  obtain ⟨t118,A30,H⟩:=H
  replace H:(if t118=true then (if 0≤(a1.size:Int) then (if (a1.size:Int)≤(a0.size:Int) then (some (a0.extract ((a1.size:Int):Int).toNat a0.size)) else (none)) else (none)) else (some a0))=some r:=H
  have A3:=Aside0.mk A30
  clear A30
  by_cases c4:t118=true
  · subst c4
    have H1:(if 0≤(a1.size:Int) then (if (a1.size:Int)≤(a0.size:Int) then (some (a0.extract ((a1.size:Int):Int).toNat a0.size)) else (none)) else (none))=some r:=by rw [if_pos rfl] at H;exact H
    clear H
    have H:=H1
    clear H1
    by_cases c5:0≤(a1.size:Int)
    · rw [if_pos c5] at H
      have c5b0:=eq_true c5
      have c5b1:decide (0≤(a1.size:Int))=true:=decide_eq_true c5
      clear c5
      by_cases c6:(a1.size:Int)≤(a0.size:Int)
      · rw [if_pos c6] at H
        have c6b0:=eq_true c6
        have c6b1:decide ((a1.size:Int)≤(a0.size:Int))=true:=decide_eq_true c6
        clear c6
        obtain rfl:=Option.some.inj H
        go_enter Tryz.func77,Tryz.ntmps77
        go_wp2_with (first | ((with_reducible refine gate_callee (f:=78) rfl ?_);refine goesL_ (some 7) rfl rfl Tryz.func78 (by kernel_rfl) rfl #[.string a0,.string a1] rfl (by (try simp only [List.map_toArray,List.map_cons,List.map_nil]);first | done | rfl | (simp only [List.length_drop,List.length_take];rfl)) ?_;(with_reducible refine (stringslite_HasPrefix.calls a0 a1 true _ A3.out).mono ?_);rintro e w' ⟨rfl,⟨nd,rfl⟩⟩;refine ⟨_,rfl,?_⟩))
        go_ret
        exact ⟨by first | rfl | (simp;done) | (simp [*];done),by repeat (first | exact Drawn0.refl _ | apply Drawn0.step)⟩
      · rw [if_neg c6] at H
        exact absurd H (by simp)
    · rw [if_neg c5] at H
      exact absurd H (by simp)
  · replace c4:=Bool.eq_false_iff.mpr c4
    subst c4
    have H1:(some a0)=some r:=by rw [if_neg (show ¬ (false=true) by decide)] at H;exact H
    clear H
    have H:=H1
    clear H1
    obtain rfl:=Option.some.inj H
    go_enter Tryz.func77,Tryz.ntmps77
    go_wp2_with (first | ((with_reducible refine gate_callee (f:=78) rfl ?_);refine goesL_ (some 7) rfl rfl Tryz.func78 (by kernel_rfl) rfl #[.string a0,.string a1] rfl (by (try simp only [List.map_toArray,List.map_cons,List.map_nil]);first | done | rfl | (simp only [List.length_drop,List.length_take];rfl)) ?_;(with_reducible refine (stringslite_HasPrefix.calls a0 a1 false _ A3.out).mono ?_);rintro e w' ⟨rfl,⟨nd,rfl⟩⟩;refine ⟨_,rfl,?_⟩))
    go_ret
    exact ⟨by first | rfl | (simp;done) | (simp [*];done),by repeat (first | exact Drawn0.refl _ | apply Drawn0.step)⟩

end Go.Proofs.YtfbhlbchmenloaaGreatDoor.H
end
section
namespace Go.Proofs.YtfbhlbchmenloaaGreatDoor.H
open Go.RowKit Go.Proofs.YtfbhlbchmenloaaGreatDoorW.PrintWords Go.Proofs.YtfbhlbchmenloaaGreatDoorW.PrintLast Go.Proofs.YtfbhlbchmenloaaGreatDoorW.PrintMore
attribute [local go_sem] max2_int min2_int max_two min_two max_three min_three max_four min_four   -- for this text's walks alone
set_option linter.unusedVariables false
set_option linter.unusedSimpArgs false

/-! ### strings_TrimPrefix: function 68 -/
def strings_TrimPrefix.f (a0:ByteArray) (a1:ByteArray):Option (ByteArray):=(stringslite_TrimPrefix.f a0 a1).bind fun t119=>(some t119)
set_option maxHeartbeats 8000000 in
set_option maxRecDepth 100000 in
theorem strings_TrimPrefix.calls (a0:ByteArray) (a1:ByteArray) (r:ByteArray) (w:World) (h:strings_TrimPrefix.f a0 a1=some r) :
    Calls Tryz.prog 68 #[.string a0,.string a1] w fun e w'=>e=.returned (.string r)∧Drawn0 w w':=by
  have H:((stringslite_TrimPrefix.f a0 a1).bind fun t119=>(some t119))=some r:=h
  clear h
  replace H:=Option.bind_eq_some_iff.mp H
  obtain ⟨t119,A30,H⟩:=H
  replace H:(some t119)=some r:=H
  have A3:=Aside0.mk A30
  clear A30
  obtain rfl:=Option.some.inj H
  go_enter Tryz.func68,Tryz.ntmps68
  go_wp2_with (first | ((with_reducible refine gate_callee (f:=77) rfl ?_);refine goesL_ (some 7) rfl rfl Tryz.func77 (by kernel_rfl) rfl #[.string a0,.string a1] rfl (by (try simp only [List.map_toArray,List.map_cons,List.map_nil]);first | done | rfl | (simp only [List.length_drop,List.length_take];rfl)) ?_;(with_reducible refine (stringslite_TrimPrefix.calls a0 a1 t119 _ A3.out).mono ?_);rintro e w' ⟨rfl,⟨nd,rfl⟩⟩;refine ⟨_,rfl,?_⟩))
  go_ret
  exact ⟨by first | rfl | (simp;done) | (simp [*];done),by repeat (first | exact Drawn0.refl _ | apply Drawn0.step)⟩

end Go.Proofs.YtfbhlbchmenloaaGreatDoor.H
end
section
namespace Go.Proofs.YtfbhlbchmenloaaGreatDoor.H
open Go.RowKit Go.Proofs.YtfbhlbchmenloaaGreatDoorW.PrintWords Go.Proofs.YtfbhlbchmenloaaGreatDoorW.PrintLast Go.Proofs.YtfbhlbchmenloaaGreatDoorW.PrintMore
attribute [local go_sem] max2_int min2_int max_two min_two max_three min_three max_four min_four   -- for this text's walks alone
set_option linter.unusedVariables false
set_option linter.unusedSimpArgs false

/-! ### strings_HasPrefix: function 69 -/
def strings_HasPrefix.f (a0:ByteArray) (a1:ByteArray):Option (Bool):=(stringslite_HasPrefix.f a0 a1).bind fun t120=>(some t120)
set_option maxHeartbeats 8000000 in
set_option maxRecDepth 100000 in
theorem strings_HasPrefix.calls (a0:ByteArray) (a1:ByteArray) (r:Bool) (w:World) (h:strings_HasPrefix.f a0 a1=some r) :
    Calls Tryz.prog 69 #[.string a0,.string a1] w fun e w'=>e=.returned (.bool r)∧Drawn0 w w':=by
  have H:((stringslite_HasPrefix.f a0 a1).bind fun t120=>(some t120))=some r:=h
  clear h
  replace H:=Option.bind_eq_some_iff.mp H
  obtain ⟨t120,A30,H⟩:=H
  replace H:(some t120)=some r:=H
  have A3:=Aside0.mk A30
  clear A30
  obtain rfl:=Option.some.inj H
  go_enter Tryz.func69,Tryz.ntmps69
  go_wp2_with (first | ((with_reducible refine gate_callee (f:=78) rfl ?_);refine goesL_ (some 7) rfl rfl Tryz.func78 (by kernel_rfl) rfl #[.string a0,.string a1] rfl (by (try simp only [List.map_toArray,List.map_cons,List.map_nil]);first | done | rfl | (simp only [List.length_drop,List.length_take];rfl)) ?_;(with_reducible refine (stringslite_HasPrefix.calls a0 a1 t120 _ A3.out).mono ?_);rintro e w' ⟨rfl,⟨nd,rfl⟩⟩;refine ⟨_,rfl,?_⟩))
  go_ret
  exact ⟨by first | rfl | (simp;done) | (simp [*];done),by repeat (first | exact Drawn0.refl _ | apply Drawn0.step)⟩

end Go.Proofs.YtfbhlbchmenloaaGreatDoor.H
end
section
namespace Go.Proofs.YtfbhlbchmenloaaGreatDoor.H
open Go.RowKit Go.Proofs.YtfbhlbchmenloaaGreatDoorW.PrintWords Go.Proofs.YtfbhlbchmenloaaGreatDoorW.PrintLast Go.Proofs.YtfbhlbchmenloaaGreatDoorW.PrintMore
attribute [local go_sem] max2_int min2_int max_two min_two max_three min_three max_four min_four   -- for this text's walks alone
set_option linter.unusedVariables false
set_option linter.unusedSimpArgs false

/-! ### words_Signed: function 60 -/
def words_Signed.j0:Nat→ByteArray→Int→Bool→Option (Int×Bool)
  | 0,_,_,_=>none
  | k + 1,x0,x4,x15=>if x15=true then (some (wrap64 (-(wrap64 (x4))),true)) else ((strings_HasPrefix.f x0 (⟨#[45]⟩:ByteArray)).bind fun t125=>(if t125=true then (some (0,false)) else (if x4 < 9223372036854775808 then (some (wrap64 (x4),true)) else (some (0,false)))))
def words_Signed.f (k:Nat) (a0:ByteArray):Option (Int×Bool):=(strings_TrimPrefix.f a0 (⟨#[45]⟩:ByteArray)).bind fun t121=>((words_Number.f t121).bind fun bt122=>(if bt122.2=true then ((strings_HasPrefix.f a0 (⟨#[45]⟩:ByteArray)).bind fun t124=>(if t124=true then (words_Signed.j0 k a0 bt122.1 (decide (bt122.1≤9223372036854775808))) else (words_Signed.j0 k a0 bt122.1 false))) else (some (0,false))))
theorem words_Signed.mono_l:∀ k,(∀ y0 y1 y2,LeO (words_Signed.j0 k y0 y1 y2) (words_Signed.j0 (k + 1) y0 y1 y2))
  | 0=>fun _ _ _ r h=>by simp [words_Signed.j0] at h
  | k + 1=>by
    have ih0:=words_Signed.mono_l k
    · intro y0 y1 y2
      unfold words_Signed.j0
      repeat' first
      | (with_reducible exact ih0 _ _ _)
      | (with_reducible exact LeO.refl _)
      | (with_reducible exact LeO.none _)
      | (with_reducible refine LeO.ite ?_ ?_)
      | (with_reducible refine LeO.bind ?_ (fun _=>?_))
      | exact ih0 _ _ _
      | exact LeO.none _
      | refine LeO.ite ?_ ?_
      | refine LeO.bind ?_ (fun _=>?_)
theorem words_Signed.mono:∀ a0 k,LeO (words_Signed.f k a0) (words_Signed.f (k + 1) a0):=by
  intro a0 k
  have ih0:=words_Signed.mono_l k
  unfold words_Signed.f
  repeat' first
      | (with_reducible exact ih0 _ _ _)
      | (with_reducible exact LeO.refl _)
      | (with_reducible exact LeO.none _)
      | (with_reducible refine LeO.ite ?_ ?_)
      | (with_reducible refine LeO.bind ?_ (fun _=>?_))
      | exact ih0 _ _ _
      | exact LeO.none _
      | refine LeO.ite ?_ ?_
      | refine LeO.bind ?_ (fun _=>?_)
set_option maxHeartbeats 8000000 in
set_option maxRecDepth 100000 in
theorem words_Signed.calls (k:Nat) (a0:ByteArray) (r1:Int) (r2:Bool) (w:World) (HLD:LaidA w) (h:words_Signed.f k a0=some (r1,r2)) :
    Calls Tryz.prog 60 #[.string a0] w fun e w'=>e=.returned (.tuple #[.int .i64 r1,.bool r2])∧Below w.heap.size w w':=by
  have HB:=Aside0.mk (Below.refl w.heap.size w)
  have H:((strings_TrimPrefix.f a0 (⟨#[45]⟩:ByteArray)).bind fun t121=>((words_Number.f t121).bind fun bt122=>(if bt122.2=true then ((strings_HasPrefix.f a0 (⟨#[45]⟩:ByteArray)).bind fun t124=>(if t124=true then (words_Signed.j0 k a0 bt122.1 (decide (bt122.1≤9223372036854775808))) else (words_Signed.j0 k a0 bt122.1 false))) else (some (0,false)))))=some (r1,r2):=h
  clear h
  replace H:=Option.bind_eq_some_iff.mp H
  obtain ⟨t121,A20,H⟩:=H
  replace H:((words_Number.f t121).bind fun bt122=>(if bt122.2=true then ((strings_HasPrefix.f a0 (⟨#[45]⟩:ByteArray)).bind fun t124=>(if t124=true then (words_Signed.j0 k a0 bt122.1 (decide (bt122.1≤9223372036854775808))) else (words_Signed.j0 k a0 bt122.1 false))) else (some (0,false))))=some (r1,r2):=H
  have A2:=Aside0.mk A20
  clear A20
  replace H:=Option.bind_eq_some_iff.mp H
  obtain ⟨⟨t122,t123⟩,A30,H⟩:=H
  replace H:(if t123=true then ((strings_HasPrefix.f a0 (⟨#[45]⟩:ByteArray)).bind fun t124=>(if t124=true then (words_Signed.j0 k a0 t122 (decide (t122≤9223372036854775808))) else (words_Signed.j0 k a0 t122 false))) else (some (0,false)))=some (r1,r2):=H
  have A3:=Aside0.mk A30
  clear A30
  by_cases c4:t123=true
  · subst c4
    have H1:((strings_HasPrefix.f a0 (⟨#[45]⟩:ByteArray)).bind fun t124=>(if t124=true then (words_Signed.j0 k a0 t122 (decide (t122≤9223372036854775808))) else (words_Signed.j0 k a0 t122 false)))=some (r1,r2):=by rw [if_pos rfl] at H;exact H
    clear H
    have H:=H1
    clear H1
    have HC5:=Aside0.mk H
    clear H
    go_enter Tryz.func60,Tryz.ntmps60
    go_upto_region 4 with (first | ((with_reducible refine gate_callee (f:=68) rfl ?_);refine goesL_ (some 8) rfl rfl Tryz.func68 (by kernel_rfl) rfl #[.string a0,.string (⟨#[45]⟩:ByteArray)] rfl (by (try simp only [List.map_toArray,List.map_cons,List.map_nil]);first | done | rfl | (simp only [List.length_drop,List.length_take];rfl)) ?_;(with_reducible refine (strings_TrimPrefix.calls a0 (⟨#[45]⟩:ByteArray) t121 _ A2.out).mono ?_);rintro e w' ⟨rfl,⟨nd,rfl⟩⟩;refine ⟨_,rfl,?_⟩) | ((with_reducible refine gate_callee (f:=61) rfl ?_);refine goesL_ (some 9) rfl rfl Tryz.func61 (by kernel_rfl) rfl #[.string t121] rfl (by (try simp only [List.map_toArray,List.map_cons,List.map_nil]);first | done | rfl | (simp only [List.length_drop,List.length_take];rfl)) ?_;(with_reducible refine (words_Number.calls t121 t122 true _ ?side1 A3.out).mono ?_);(case side1=>exact HLD.below (by repeat (first | (with_reducible first | exact HB.out | apply below_alloc | apply pw_below_drewN | apply below_drew1) | exact HB.out)));rintro e w6 ⟨rfl,hb⟩;refine ⟨_,rfl,?_⟩;have n0_:=Aside0.mk (below_step (by repeat (first | (with_reducible first | exact HB.out | apply below_alloc | apply pw_below_drewN | apply below_drew1) | exact HB.out)) hb);clear HB;have HB:=n0_;clear n0_;(try clear hb);(try clear hb2);(try clear hk);(try clear hi)))
    (try simp only [Act.put,List.setIfInBounds_toArray,List.set_cons_zero,List.set_cons_succ])
    go_cut [15] (fun v15 wc=>∃ (kq:Nat) (x15_4:Bool),v15=.bool x15_4∧Aside0 (words_Signed.j0 kq a0 t122 x15_4=some (r1,r2))∧Aside0 (kq≤k)∧Aside0 (Below w.heap.size w wc))
    case first=>
      have H:=HC5.out
      clear HC5
      replace H:=Option.bind_eq_some_iff.mp H
      obtain ⟨t124,A70,H⟩:=H
      replace H:(if t124=true then (words_Signed.j0 k a0 t122 (decide (t122≤9223372036854775808))) else (words_Signed.j0 k a0 t122 false))=some (r1,r2):=H
      have A7:=Aside0.mk A70
      clear A70
      by_cases c8:t124=true
      · subst c8
        have H1:(words_Signed.j0 k a0 t122 (decide (t122≤9223372036854775808)))=some (r1,r2):=by rw [if_pos rfl] at H;exact H
        clear H
        have H:=H1
        clear H1
        have H':=Aside0.mk H
        clear H
        go_wp2_with (first | ((with_reducible refine gate_callee (f:=69) rfl ?_);refine goesL_ (some 17) rfl rfl Tryz.func69 (by kernel_rfl) rfl #[.string a0,.string (⟨#[45]⟩:ByteArray)] rfl (by (try simp only [List.map_toArray,List.map_cons,List.map_nil]);first | done | rfl | (simp only [List.length_drop,List.length_take];rfl)) ?_;(with_reducible refine (strings_HasPrefix.calls a0 (⟨#[45]⟩:ByteArray) true _ A7.out).mono ?_);rintro e w' ⟨rfl,⟨nd,rfl⟩⟩;refine ⟨_,rfl,?_⟩))
        go_meet
        case rel=>exact ⟨_,(decide (t122≤9223372036854775808)),(by first | rfl | (simp;done) | (simp [*];done)),H',⟨by first | omega | exact Nat.le_refl _⟩,⟨by repeat (first | (with_reducible first | exact HB.out | apply below_alloc | apply pw_below_drewN | apply below_drew1) | exact HB.out)⟩⟩
      · replace c8:=Bool.eq_false_iff.mpr c8
        subst c8
        have H1:(words_Signed.j0 k a0 t122 false)=some (r1,r2):=by rw [if_neg (show ¬ (false=true) by decide)] at H;exact H
        clear H
        have H:=H1
        clear H1
        have H':=Aside0.mk H
        clear H
        go_wp2_with (first | ((with_reducible refine gate_callee (f:=69) rfl ?_);refine goesL_ (some 17) rfl rfl Tryz.func69 (by kernel_rfl) rfl #[.string a0,.string (⟨#[45]⟩:ByteArray)] rfl (by (try simp only [List.map_toArray,List.map_cons,List.map_nil]);first | done | rfl | (simp only [List.length_drop,List.length_take];rfl)) ?_;(with_reducible refine (strings_HasPrefix.calls a0 (⟨#[45]⟩:ByteArray) false _ A7.out).mono ?_);rintro e w' ⟨rfl,⟨nd,rfl⟩⟩;refine ⟨_,rfl,?_⟩))
        go_meet
        case rel=>exact ⟨_,(false),(by first | rfl | (simp;done) | (simp [*];done)),H',⟨by first | omega | exact Nat.le_refl _⟩,⟨by repeat (first | (with_reducible first | exact HB.out | apply below_alloc | apply pw_below_drewN | apply below_drew1) | exact HB.out)⟩⟩
    case rest=>
      clear HC5
      try clear p2
      try clear c4
      try clear c6
      try clear c8
      obtain ⟨kq,x15_4,rfl,HA,HJ4,HB⟩:=hcut
      cases kq with
      | zero=>exact absurd HA.out (by simp [words_Signed.j0])
      | succ kj4=>
        have H:=HA.out
        clear HA
        simp only [words_Signed.j0] at H
        by_cases c9:x15_4=true
        · subst c9
          have H1:(some (wrap64 (-(wrap64 (t122))),true))=some (r1,r2):=by rw [if_pos rfl] at H;exact H
          clear H
          have H:=H1
          clear H1
          simp only [Option.some.injEq,Prod.mk.injEq] at H
          obtain ⟨rfl,rfl⟩:=H
          go_wp2
          go_ret2
          exact ⟨by first | rfl | (simp [errW_none,errW_some]<;>rfl) | (simp [*,errW_none,errW_some]<;>rfl),by repeat (first | (with_reducible first | exact HB.out | apply below_alloc | apply pw_below_drewN | apply below_drew1) | exact HB.out)⟩
        · replace c9:=Bool.eq_false_iff.mpr c9
          subst c9
          have H1:((strings_HasPrefix.f a0 (⟨#[45]⟩:ByteArray)).bind fun t125=>(if t125=true then (some (0,false)) else (if t122 < 9223372036854775808 then (some (wrap64 (t122),true)) else (some (0,false)))))=some (r1,r2):=by rw [if_neg (show ¬ (false=true) by decide)] at H;exact H
          clear H
          have H:=H1
          clear H1
          replace H:=Option.bind_eq_some_iff.mp H
          obtain ⟨t125,A100,H⟩:=H
          replace H:(if t125=true then (some (0,false)) else (if t122 < 9223372036854775808 then (some (wrap64 (t122),true)) else (some (0,false))))=some (r1,r2):=H
          have A10:=Aside0.mk A100
          clear A100
          by_cases c11:t125=true
          · subst c11
            have H1:(some (0,false))=some (r1,r2):=by rw [if_pos rfl] at H;exact H
            clear H
            have H:=H1
            clear H1
            simp only [Option.some.injEq,Prod.mk.injEq] at H
            obtain ⟨rfl,rfl⟩:=H
            go_wp2_with (first | ((with_reducible refine gate_callee (f:=69) rfl ?_);refine goesL_ (some 27) rfl rfl Tryz.func69 (by kernel_rfl) rfl #[.string a0,.string (⟨#[45]⟩:ByteArray)] rfl (by (try simp only [List.map_toArray,List.map_cons,List.map_nil]);first | done | rfl | (simp only [List.length_drop,List.length_take];rfl)) ?_;(with_reducible refine (strings_HasPrefix.calls a0 (⟨#[45]⟩:ByteArray) true _ A10.out).mono ?_);rintro e w' ⟨rfl,⟨nd,rfl⟩⟩;refine ⟨_,rfl,?_⟩))
            go_ret2
            exact ⟨by first | rfl | (simp [errW_none,errW_some]<;>rfl) | (simp [*,errW_none,errW_some]<;>rfl),by repeat (first | (with_reducible first | exact HB.out | apply below_alloc | apply pw_below_drewN | apply below_drew1) | exact HB.out)⟩
          · replace c11:=Bool.eq_false_iff.mpr c11
            subst c11
            have H1:(if t122 < 9223372036854775808 then (some (wrap64 (t122),true)) else (some (0,false)))=some (r1,r2):=by rw [if_neg (show ¬ (false=true) by decide)] at H;exact H
            clear H
            have H:=H1
            clear H1
            by_cases c12:t122 < 9223372036854775808
            · rw [if_pos c12] at H
              have c12b0:decide (t122 < 9223372036854775808)=true:=decide_eq_true c12
              clear c12
              simp only [Option.some.injEq,Prod.mk.injEq] at H
              obtain ⟨rfl,rfl⟩:=H
              go_wp2_with (first | ((with_reducible refine gate_callee (f:=69) rfl ?_);refine goesL_ (some 27) rfl rfl Tryz.func69 (by kernel_rfl) rfl #[.string a0,.string (⟨#[45]⟩:ByteArray)] rfl (by (try simp only [List.map_toArray,List.map_cons,List.map_nil]);first | done | rfl | (simp only [List.length_drop,List.length_take];rfl)) ?_;(with_reducible refine (strings_HasPrefix.calls a0 (⟨#[45]⟩:ByteArray) false _ A10.out).mono ?_);rintro e w' ⟨rfl,⟨nd,rfl⟩⟩;refine ⟨_,rfl,?_⟩))
              go_ret2
              exact ⟨by first | rfl | (simp [errW_none,errW_some]<;>rfl) | (simp [*,errW_none,errW_some]<;>rfl),by repeat (first | (with_reducible first | exact HB.out | apply below_alloc | apply pw_below_drewN | apply below_drew1) | exact HB.out)⟩
            · rw [if_neg c12] at H
              have c12b0:decide (t122 < 9223372036854775808)=false:=decide_eq_false c12
              clear c12
              simp only [Option.some.injEq,Prod.mk.injEq] at H
              obtain ⟨rfl,rfl⟩:=H
              go_wp2_with (first | ((with_reducible refine gate_callee (f:=69) rfl ?_);refine goesL_ (some 27) rfl rfl Tryz.func69 (by kernel_rfl) rfl #[.string a0,.string (⟨#[45]⟩:ByteArray)] rfl (by (try simp only [List.map_toArray,List.map_cons,List.map_nil]);first | done | rfl | (simp only [List.length_drop,List.length_take];rfl)) ?_;(with_reducible refine (strings_HasPrefix.calls a0 (⟨#[45]⟩:ByteArray) false _ A10.out).mono ?_);rintro e w' ⟨rfl,⟨nd,rfl⟩⟩;refine ⟨_,rfl,?_⟩))
              go_ret2
              exact ⟨by first | rfl | (simp [errW_none,errW_some]<;>rfl) | (simp [*,errW_none,errW_some]<;>rfl),by repeat (first | (with_reducible first | exact HB.out | apply below_alloc | apply pw_below_drewN | apply below_drew1) | exact HB.out)⟩
  · replace c4:=Bool.eq_false_iff.mpr c4
    subst c4
    have H1:(some (0,false))=some (r1,r2):=by rw [if_neg (show ¬ (false=true) by decide)] at H;exact H
    clear H
    have H:=H1
    clear H1
    simp only [Option.some.injEq,Prod.mk.injEq] at H
    obtain ⟨rfl,rfl⟩:=H
    go_enter Tryz.func60,Tryz.ntmps60
    go_wp2_with (first | ((with_reducible refine gate_callee (f:=68) rfl ?_);refine goesL_ (some 8) rfl rfl Tryz.func68 (by kernel_rfl) rfl #[.string a0,.string (⟨#[45]⟩:ByteArray)] rfl (by (try simp only [List.map_toArray,List.map_cons,List.map_nil]);first | done | rfl | (simp only [List.length_drop,List.length_take];rfl)) ?_;(with_reducible refine (strings_TrimPrefix.calls a0 (⟨#[45]⟩:ByteArray) t121 _ A2.out).mono ?_);rintro e w' ⟨rfl,⟨nd,rfl⟩⟩;refine ⟨_,rfl,?_⟩) | ((with_reducible refine gate_callee (f:=61) rfl ?_);refine goesL_ (some 9) rfl rfl Tryz.func61 (by kernel_rfl) rfl #[.string t121] rfl (by (try simp only [List.map_toArray,List.map_cons,List.map_nil]);first | done | rfl | (simp only [List.length_drop,List.length_take];rfl)) ?_;(with_reducible refine (words_Number.calls t121 t122 false _ ?side1 A3.out).mono ?_);(case side1=>exact HLD.below (by repeat (first | (with_reducible first | exact HB.out | apply below_alloc | apply pw_below_drewN | apply below_drew1) | exact HB.out)));rintro e w13 ⟨rfl,hb⟩;refine ⟨_,rfl,?_⟩;have n0_:=Aside0.mk (below_step (by repeat (first | (with_reducible first | exact HB.out | apply below_alloc | apply pw_below_drewN | apply below_drew1) | exact HB.out)) hb);clear HB;have HB:=n0_;clear n0_;(try clear hb);(try clear hb2);(try clear hk);(try clear hi)))
    go_ret2
    exact ⟨by first | rfl | (simp [errW_none,errW_some]<;>rfl) | (simp [*,errW_none,errW_some]<;>rfl),by repeat (first | (with_reducible first | exact HB.out | apply below_alloc | apply pw_below_drewN | apply below_drew1) | exact HB.out)⟩

end Go.Proofs.YtfbhlbchmenloaaGreatDoor.H
end
