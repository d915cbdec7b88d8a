/- Numbers as they are written, and read again: plain. No condition. The reference's numbers as texts. No condition. DERIVED: THE SHELF's CONTRACTS AT THIS DUMP, IN PLAIN WORDS (tools/lay-plain.mjs out of 'TryzShelf.lean', which tools/lay-shelf.mjs wrote): THE SAME DECLARATIONS UNDER THE SAME NAMES: 'import', 'namespace', 'open', 'def', 'theorem' AND NOTHING ELSE: no command of the shelf's: FOR A HAND-IN. Each laying: the table of numbers ('.._ren') and one theorem, a field a fact of the dump's own or the kernel's comparison; each contract: ONE APPLICATION. What the library asks of a world in the meter laws, kept along the walk; numbers, fields and joins as texts by the library. No condition. The line of a tally's text. No condition. -/
import Derived.Lib.AtoiAll
import Derived.Lib.ItoaNum
import Derived.Test.YtjhnnjgnkkjmkaaGreatDoorFa
import Derived.Test.YtjhnnjgnkkjmkaaGreatDoorRows
import Derived.Shelf.Strings.Builder1
import Derived.Shelf.Strings.Builder2
import Derived.Shelf.Strings.OnBuilder
import Derived.Shelf.Small.Utf8
import Derived.Shelf.Strconv.Itoa0
import Derived.Shelf.Strconv.Itoa1
import Derived.Shelf.LaysM
import Derived.Shelf.Strconv.Itoa2
import Derived.Shelf.Strconv.Itoa3
import Derived.Shelf.Strings.Fields
import Derived.Shelf.Strings.SplitShaped
import Derived.Shelf.Unicode.Latin
import Derived.Shelf.Unicode.Is16White
import Derived.Shelf.Unicode.IsSpaceAny
import Derived.Shelf.Unicode.Is16Any
import Derived.Shelf.Unicode.Is32Any
import Derived.Shelf.Unicode.ExclAny
import Derived.Test.YtjhnnjgnkkjmkaaGreatDoorProg
import Derived.Stop.LaidErr
import Derived.LaidSub
import Derived.MakeChecks
import Derived.Test.YtjhnnjgnkkjmkaaGreatDoorGa
set_option maxHeartbeats 1000000
set_option maxRecDepth 100000
set_option linter.unusedVariables false
set_option linter.unusedSimpArgs false
namespace Go.Proofs.YtjhnnjgnkkjmkaaGreatDoor
open Go.Lib
abbrev Bs:=List UInt8
theorem dec_small {u:Nat} (h:u<10):decDigits u = [UInt8.ofNat (48+u)]:=by rw [decDigits,dif_pos h]
theorem dec_big {u:Nat} (h:¬u<10):decDigits u=decDigits (u / 10) ++ [UInt8.ofNat (48+u%10)]:=by rw [decDigits,dif_neg h]
def i64 (n:Int):Prop:=-9223372036854775808≤n∧n≤9223372036854775807
open Go.RowKit Go.RR
theorem bs_append (a b:List UInt8):(ByteArray.mk a.toArray) ++ (ByteArray.mk b.toArray)=⟨(a ++ b).toArray⟩:=by
 apply ByteArray.ext
 simp
theorem dec_len:∀(k u:Nat),u<10 ^ (k+1)→(Go.Lib.decDigits u).length≤k+1
 | 0,u,h=>by rw [dec_small (by simpa using h)];simp
 | k+1,u,h=>by
  by_cases h1:u<10
  ·rw [dec_small h1];simp
  ·rw [dec_big h1,List.length_append]
   have:=dec_len k (u / 10) (by rw [Nat.pow_succ] at h;omega)
   simp only [List.length_cons,List.length_nil];omega
end Go.Proofs.YtjhnnjgnkkjmkaaGreatDoor
namespace Go.Proofs
open Go.Shelf
def Tryz.lays156_ren:Go.Shelf.Ren:=⟨fun | 156=>34 | 165=>54 | 166=>55 | 169=>56 | 240=>84 | 241=>85 | 276=>119 | 277=>120 | n=>n,fun | 31=>61 | 9=>9 | 3=>3 | 4=>4 | 0=>0 | 20=>20 | 72=>135 | 76=>139 | 70=>133 | 37=>46 | 75=>138 | 127=>214 | 164=>271 | 5=>5 | 80=>141 | n=>n,fun | n=>n⟩
theorem Tryz.lays156:Go.Proofs.Lays.n156 Tryz.prog Tryz.lays156_ren:={
 mixed:=by kernel_rfl
 f156:=Tryz.func34.trans (congrArg some (by kernel_rfl))
 f165:=Tryz.func54.trans (congrArg some (by kernel_rfl))
 f166:=Tryz.func55.trans (congrArg some (by kernel_rfl))
 f169:=Tryz.func56.trans (congrArg some (by kernel_rfl))
 f240:=Tryz.func84.trans (congrArg some (by kernel_rfl))
 f241:=Tryz.func85.trans (congrArg some (by kernel_rfl))
 f276:=Tryz.func119.trans (congrArg some (by kernel_rfl))
 f277:=Tryz.func120.trans (congrArg some (by kernel_rfl))
 t0:=Tryz.underlying0
 a0:=Tryz.isAgg0
 z0:=Tryz.sizeOf0
 v0:=Tryz.zeroValue0
 t3:=Tryz.underlying3
 a3:=Tryz.isAgg3
 z3:=Tryz.sizeOf3
 v3:=Tryz.zeroValue3
 t4:=Tryz.underlying4
 a4:=Tryz.isAgg4
 z4:=Tryz.sizeOf4
 v4:=Tryz.zeroValue4
 t9:=Tryz.underlying9
 a9:=Tryz.isAgg9
 z9:=Tryz.sizeOf9
 v9:=Tryz.zeroValue9
 t20:=Tryz.underlying20
 a20:=Tryz.isAgg20
 z20:=Tryz.sizeOf20
 v20:=Tryz.zeroValue20
 t31:=Tryz.underlying61
 a31:=Tryz.isAgg61
 z31:=Tryz.sizeOf61
 v31:=Tryz.zeroValue61
 t37:=Tryz.underlying46
 a37:=Tryz.isAgg46
 z37:=Tryz.sizeOf46
 v37:=Tryz.zeroValue46
 t70:=Tryz.underlying133
 a70:=Tryz.isAgg133
 z70:=Tryz.sizeOf133
 v70:=Tryz.zeroValue133
 t72:=Tryz.underlying135
 a72:=Tryz.isAgg135
 z72:=Tryz.sizeOf135
 v72:=Tryz.zeroValue135
 t75:=Tryz.underlying138
 a75:=Tryz.isAgg138
 z75:=Tryz.sizeOf138
 v75:=Tryz.zeroValue138
 t76:=Tryz.underlying139
 a76:=Tryz.isAgg139
 z76:=Tryz.sizeOf139
 v76:=Tryz.zeroValue139
 t127:=Tryz.underlying214
 a127:=Tryz.isAgg214
 z127:=Tryz.sizeOf214
 v127:=Tryz.zeroValue214
 t164:=Tryz.underlying271
 a164:=Tryz.isAgg271
 z164:=Tryz.sizeOf271
 v164:=Tryz.zeroValue271}
theorem Tryz.Builder_Extra_156:Builder.Extra Tryz.prog Tryz.lays156_ren:={
 sizeBuilder:=by kernel_rfl
 liesBuilder:=by kernel_rfl
 t5:=Tryz.underlying5
 a5:=Tryz.isAgg5
 z5:=Tryz.sizeOf5
 v5:=Tryz.zeroValue5
 infoByte:=by kernel_rfl
 cellsByte:=by kernel_rfl
 sizeByte:=by kernel_rfl
 neB5:=by decide}
open Go.RowKit in
theorem Tryz.strings_Join (bk o c:Nat) (xs:List ByteArray) (sep:ByteArray) (w:World) (hcells:∀(j:Nat) x,xs[j]? = some x→w.cell? ⟨bk,o+j,none⟩=some (.string x)) (hbk:bk<w.heap.size) (hN:xs.length≤140737488355328) (hcap:xs.length≤c) (hlen:(Lib.join (xs.map (·.data.toList)) sep.data.toList).length≤140737488355328) :
  Calls Tryz.prog 34 #[.slice (some ⟨bk,o,none⟩) xs.length c,.string sep] w fun e w'=>e = .returned (.string ⟨(Lib.join (xs.map (·.data.toList)) sep.data.toList).toArray⟩)∧Below w.heap.size w w':=Any.strings_Join Tryz.lays156 Tryz.Builder_Extra_156 bk o c xs sep w hcells hbk hN hcap hlen
def Tryz.laysM171_ren:Go.Shelf.Ren:=⟨fun | 171=>33 | 243=>53 | 246=>83 | 283=>115 | 284=>116 | 285=>117 | 286=>118 | 129=>156 | 317=>155 | 318=>157 | 319=>158 | 320=>159 | 337=>189 | 338=>190 | n=>n,fun | 3=>3 | 9=>9 | 2=>2 | 4=>4 | 171=>266 | 0=>0 | 53=>65 | 37=>46 | 5=>5 | 173=>269 | 212=>319 | 51=>123 | 20=>20 | 213=>320 | 46=>237 | 232=>394 | 233=>395 | n=>n,fun | 17=>2 | 18=>4 | 19=>5 | n=>n⟩
theorem Tryz.laysM171:Go.Proofs.LaysM.n171 Tryz.prog Tryz.laysM171_ren:={
 mixed:=by kernel_rfl
 f129:=Tryz.func156.trans (congrArg some (by kernel_rfl))
 f171:=Tryz.func33.trans (congrArg some (by kernel_rfl))
 f243:=Tryz.func53.trans (congrArg some (by kernel_rfl))
 f246:=Tryz.func83.trans (congrArg some (by kernel_rfl))
 f283:=Tryz.func115.trans (congrArg some (by kernel_rfl))
 f284:=Tryz.func116.trans (congrArg some (by kernel_rfl))
 f285:=Tryz.func117.trans (congrArg some (by kernel_rfl))
 f286:=Tryz.func118.trans (congrArg some (by kernel_rfl))
 f317:=Tryz.func155.trans (congrArg some (by kernel_rfl))
 f318:=Tryz.func157.trans (congrArg some (by kernel_rfl))
 f319:=Tryz.func158.trans (congrArg some (by kernel_rfl))
 f320:=Tryz.func159.trans (congrArg some (by kernel_rfl))
 f337:=Tryz.func189.trans (congrArg some (by kernel_rfl))
 f338:=Tryz.func190.trans (congrArg some (by kernel_rfl))
 t0:=Tryz.underlying0
 a0:=Tryz.isAgg0
 z0:=Tryz.sizeOf0
 v0:=Tryz.zeroValue0
 t2:=Tryz.underlying2
 a2:=Tryz.isAgg2
 z2:=Tryz.sizeOf2
 v2:=Tryz.zeroValue2
 t3:=Tryz.underlying3
 a3:=Tryz.isAgg3
 z3:=Tryz.sizeOf3
 v3:=Tryz.zeroValue3
 t4:=Tryz.underlying4
 a4:=Tryz.isAgg4
 z4:=Tryz.sizeOf4
 v4:=Tryz.zeroValue4
 t5:=Tryz.underlying5
 a5:=Tryz.isAgg5
 z5:=Tryz.sizeOf5
 v5:=Tryz.zeroValue5
 t9:=Tryz.underlying9
 a9:=Tryz.isAgg9
 z9:=Tryz.sizeOf9
 v9:=Tryz.zeroValue9
 t20:=Tryz.underlying20
 a20:=Tryz.isAgg20
 z20:=Tryz.sizeOf20
 v20:=Tryz.zeroValue20
 t37:=Tryz.underlying46
 a37:=Tryz.isAgg46
 z37:=Tryz.sizeOf46
 v37:=Tryz.zeroValue46
 t46:=Tryz.underlying237
 a46:=Tryz.isAgg237
 z46:=Tryz.sizeOf237
 v46:=Tryz.zeroValue237
 t51:=Tryz.underlying123
 a51:=Tryz.isAgg123
 z51:=Tryz.sizeOf123
 v51:=Tryz.zeroValue123
 t53:=Tryz.underlying65
 a53:=Tryz.isAgg65
 z53:=Tryz.sizeOf65
 v53:=Tryz.zeroValue65
 t171:=Tryz.underlying266
 a171:=Tryz.isAgg266
 z171:=Tryz.sizeOf266
 v171:=Tryz.zeroValue266
 t173:=Tryz.underlying269
 a173:=Tryz.isAgg269
 z173:=Tryz.sizeOf269
 v173:=Tryz.zeroValue269
 t212:=Tryz.underlying319
 a212:=Tryz.isAgg319
 z212:=Tryz.sizeOf319
 v212:=Tryz.zeroValue319
 t213:=Tryz.underlying320
 a213:=Tryz.isAgg320
 z213:=Tryz.sizeOf320
 t232:=Tryz.underlying394
 a232:=Tryz.isAgg394
 z232:=Tryz.sizeOf394
 v232:=Tryz.zeroValue394
 t233:=Tryz.underlying395
 a233:=Tryz.isAgg395
 z233:=Tryz.sizeOf395
 v233:=Tryz.zeroValue395
 g17:=by kernel_rfl
 g18:=by kernel_rfl
 g19:=by kernel_rfl
 i0:=by kernel_rfl
 i2:=by kernel_rfl
 i3:=by kernel_rfl
 i4:=by kernel_rfl
 i5:=by kernel_rfl
 i9:=by kernel_rfl
 i20:=by kernel_rfl
 i37:=by kernel_rfl
 i46:=by kernel_rfl
 i51:=by kernel_rfl
 i53:=by kernel_rfl
 i171:=by kernel_rfl
 i173:=by kernel_rfl
 i212:=by kernel_rfl
 i232:=by kernel_rfl
 i233:=by kernel_rfl
 m17:=by kernel_rfl
 m18:=by kernel_rfl
 m19:=by kernel_rfl}
open Go.RowKit Go.Sort Go.Lib in
theorem Tryz.strconv_Itoa (n : Int) (h0 : -9223372036854775808 ≤ n) (h1 : n ≤ 9223372036854775807) (w : World) (htab : Lib.TabIs Tryz.prog w "internal/strconv.uint64pow10" .u64 Lib.pow10Tab) :
  Calls Tryz.prog 33 #[.int .i64 n] w fun e w'=>e = .returned (.string ⟨(Lib.itoa n).toArray⟩)∧∃k os,w'=grow (w.drewN k) os:=Any.strconv_Itoa Tryz.laysM171 n h0 h1 w htab
def Tryz.lays157_ren:Go.Shelf.Ren:=⟨fun | 157=>32 | 229=>51 | 199=>52 | 261=>82 | 311=>113 | 312=>114 | n=>n,fun | 9=>9 | 31=>61 | 3=>3 | 5=>5 | 4=>4 | 119=>130 | 0=>0 | 40=>132 | 152=>208 | 21=>21 | 154=>210 | 51=>123 | 141=>212 | 196=>259 | 193=>256 | 198=>261 | 49=>203 | 194=>257 | 201=>264 | 226=>315 | 46=>237 | 227=>316 | n=>n,fun | 0=>0 | 6=>1 | n=>n⟩
theorem Tryz.lays157:Go.Proofs.Lays.n157 Tryz.prog Tryz.lays157_ren:={
 mixed:=by kernel_rfl
 f157:=Tryz.func32.trans (congrArg some (by kernel_rfl))
 f199:=Tryz.func52.trans (congrArg some (by kernel_rfl))
 f229:=Tryz.func51.trans (congrArg some (by kernel_rfl))
 f261:=Tryz.func82.trans (congrArg some (by kernel_rfl))
 f311:=Tryz.func113.trans (congrArg some (by kernel_rfl))
 f312:=Tryz.func114.trans (congrArg some (by kernel_rfl))
 t0:=Tryz.underlying0
 a0:=Tryz.isAgg0
 z0:=Tryz.sizeOf0
 v0:=Tryz.zeroValue0
 t3:=Tryz.underlying3
 a3:=Tryz.isAgg3
 z3:=Tryz.sizeOf3
 v3:=Tryz.zeroValue3
 t4:=Tryz.underlying4
 a4:=Tryz.isAgg4
 z4:=Tryz.sizeOf4
 v4:=Tryz.zeroValue4
 t5:=Tryz.underlying5
 a5:=Tryz.isAgg5
 z5:=Tryz.sizeOf5
 v5:=Tryz.zeroValue5
 t9:=Tryz.underlying9
 a9:=Tryz.isAgg9
 z9:=Tryz.sizeOf9
 v9:=Tryz.zeroValue9
 t21:=Tryz.underlying21
 a21:=Tryz.isAgg21
 z21:=Tryz.sizeOf21
 v21:=Tryz.zeroValue21
 t31:=Tryz.underlying61
 a31:=Tryz.isAgg61
 z31:=Tryz.sizeOf61
 v31:=Tryz.zeroValue61
 t40:=Tryz.underlying132
 a40:=Tryz.isAgg132
 z40:=Tryz.sizeOf132
 v40:=Tryz.zeroValue132
 t46:=Tryz.underlying237
 a46:=Tryz.isAgg237
 z46:=Tryz.sizeOf237
 v46:=Tryz.zeroValue237
 t49:=Tryz.underlying203
 a49:=Tryz.isAgg203
 z49:=Tryz.sizeOf203
 v49:=Tryz.zeroValue203
 t51:=Tryz.underlying123
 a51:=Tryz.isAgg123
 z51:=Tryz.sizeOf123
 v51:=Tryz.zeroValue123
 t119:=Tryz.underlying130
 a119:=Tryz.isAgg130
 z119:=Tryz.sizeOf130
 t141:=Tryz.underlying212
 a141:=Tryz.isAgg212
 z141:=Tryz.sizeOf212
 v141:=Tryz.zeroValue212
 t152:=Tryz.underlying208
 a152:=Tryz.isAgg208
 z152:=Tryz.sizeOf208
 v152:=Tryz.zeroValue208
 t154:=Tryz.underlying210
 a154:=Tryz.isAgg210
 z154:=Tryz.sizeOf210
 v154:=Tryz.zeroValue210
 t193:=Tryz.underlying256
 a193:=Tryz.isAgg256
 z193:=Tryz.sizeOf256
 v193:=Tryz.zeroValue256
 t194:=Tryz.underlying257
 a194:=Tryz.isAgg257
 z194:=Tryz.sizeOf257
 v194:=Tryz.zeroValue257
 t196:=Tryz.underlying259
 a196:=Tryz.isAgg259
 z196:=Tryz.sizeOf259
 v196:=Tryz.zeroValue259
 t198:=Tryz.underlying261
 a198:=Tryz.isAgg261
 z198:=Tryz.sizeOf261
 v198:=Tryz.zeroValue261
 t201:=Tryz.underlying264
 a201:=Tryz.isAgg264
 z201:=Tryz.sizeOf264
 v201:=Tryz.zeroValue264
 t226:=Tryz.underlying315
 a226:=Tryz.isAgg315
 z226:=Tryz.sizeOf315
 v226:=Tryz.zeroValue315
 t227:=Tryz.underlying316
 a227:=Tryz.isAgg316
 z227:=Tryz.sizeOf316
 v227:=Tryz.zeroValue316
 g0:=by kernel_rfl
 g6:=by kernel_rfl}
open Go.RowKit Go.Lib in
theorem Tryz.strings_Fields (s : ByteArray) (w : World) (hs : s.size < 4294967281) (hascii : ∀ (j : Nat) b, s.data.toList[j]? = some b → b.toNat < 128) (htab : Lib.TabIs Tryz.prog w "strings.asciiSpace" .u8 Lib.asciiSpaceTab) :
  Calls Tryz.prog 32 #[.string s] w fun e w'=>
   e = .returned (.slice (some ⟨w.heap.size,0,none⟩) (Lib.fields s.data.toList).length (Lib.fields s.data.toList).length)∧w'=w.alloc (.cells ((Lib.fields s.data.toList).map fun l=>Value.string ⟨l.toArray⟩).toArray 9):=Any.strings_Fields Tryz.lays157 (by kernel_rfl) (by kernel_rfl) s w hs hascii htab
end Go.Proofs
namespace Go.Proofs.YtjhnnjgnkkjmkaaGreatDoor
open Go.RowKit Go.RR
theorem var_chg0 {P:Program} {w w':World} (c:Chg NoB w w') {n:String} {cs:Array Value} (h:w.var? P n=some cs):w'.var? P n=some cs:=by
 unfold World.var? at h ⊢
 cases hg:P.globalNamed n with
 | none=>rw [hg] at h;cases h
 | some g=>
  rw [hg] at h
  simp only [Option.bind_some] at h ⊢
  have hlt:g<w.heap.size:=by
   rcases Nat.lt_or_ge g w.heap.size with h1 | h1
   ·exact h1
   ·rw [Array.getElem?_eq_none h1] at h;cases h
  rw [c.block g hlt id]
  exact h
structure Lb (w:World):Prop where
 tab : Lib.TabIs Tryz.prog w "internal/strconv.uint64pow10" .u64 Lib.pow10Tab
 asc : Lib.TabIs Tryz.prog w "strings.asciiSpace" .u8 Lib.asciiSpaceTab
theorem Lb.chg0 {w w':World} (h:Lb w) (c:Chg NoB w w'):Lb w':=⟨var_chg0 c h.tab,var_chg0 c h.asc⟩
theorem Lb.of {w:World} (sh:w.ShapedOpen Tryz.prog) (hL:laidMetH Tryz.prog Rows.meterTextsRow.laid w):Lb w:=by
 rw [MakeChecks.laidMetH_plain _ _ _ (by kernel_rfl)] at hL
 have h2:=hL.tail.tail
 exact ⟨Lib.tabIs_of_head (g:=2) (t:=319) (e:=65) (by kernel_rfl) (by kernel_rfl) Tryz.underlying319 Tryz.underlying65 (by kernel_rfl) (by kernel_rfl) h2,Lib.tabIs_of_head (g:=0) (t:=130) (e:=5) (by kernel_rfl) (by kernel_rfl) Tryz.underlying130 Tryz.underlying5 (by kernel_rfl) (by kernel_rfl) h2.tail.tail.tail⟩
theorem chg_grow (w:World) (k:Nat) (os:Array Obj):Chg NoB w (Go.Sort.grow (w.drewN k) os):=
 ⟨rfl,rfl,rfl,by simp [Go.Sort.grow],fun i hi _=>by
  show (w.heap ++ os)[i]? = w.heap[i]?
  rw [Array.getElem?_append_left hi]⟩
theorem chg_of_below {w w':World} (h:Below w.heap.size w w'):Chg NoB w w':=by
 obtain ⟨a,b,c,d,e⟩:=h
 exact ⟨a,b,c,d,fun i hi _=>e i hi⟩
theorem itoa_any (n:Int) (w:World) (h:i64 n) (L:Lb w):Calls Tryz.prog 33 #[.int .i64 n] w (RetW (.string ⟨(Go.Lib.itoa n).toArray⟩) fun w'=>Chg NoB w w'):=
 (Tryz.strconv_Itoa n h.1 h.2 w L.tab).mono fun e w' ⟨he,k,os,hw⟩=>⟨he,by rw [hw];exact chg_grow w k os⟩
def strs (l:List Bs):List Value:=l.map fun x=>.string ⟨x.toArray⟩
theorem strs_len (l:List Bs):(strs l).length=l.length:=List.length_map ..
theorem strs_get {l:List Bs} {i:Nat} {x:Bs} (h:l[i]? = some x):(strs l)[i]? = some (.string ⟨x.toArray⟩):=by
 unfold strs;rw [List.getElem?_map,h];rfl
theorem fields_any (words:Bs) (hw:words.length<100000) (ha:∀b∈words,b.toNat<128) (ws:List Bs) (hf:Go.Lib.fields words=ws) (w:World) (L:Lb w):Calls Tryz.prog 32 #[.string ⟨words.toArray⟩] w (RetW (.slice (some ⟨w.heap.size,0,none⟩) ws.length ws.length) fun w'=>Sl w' (fun k=>k=w.heap.size) 1 (.slice (some ⟨w.heap.size,0,none⟩) ws.length ws.length) ws.length (strs ws)∧w'.heap.size=w.heap.size+1∧Chg NoB w w'):=by
 refine (Tryz.strings_Fields ⟨words.toArray⟩ w (by show words.toArray.size<_;rw [List.size_toArray];omega) (fun j b hb=>ha b (List.mem_of_getElem? hb)) L.asc).mono ?_
 rintro e w' ⟨rfl,rfl⟩;have hf':Go.Lib.fields (⟨words.toArray⟩:ByteArray).data.toList=ws:=hf
 rw [hf']
 exact ⟨rfl,Sl.fresh w (strs ws) 9 ws.length (size:=1) (by rw [strs_len,Nat.mul_one]),World.size_alloc ..,(Chg.refl _ _).alloc _⟩
theorem mk_data (l:List Bs):(l.map fun x=>(⟨x.toArray⟩:ByteArray)).map (·.data.toList)=l:=by
 rw [List.map_map]
 conv=>rhs;rw [←List.map_id l]
 exact List.map_congr_left fun x _=>rfl
theorem join_len {m:Nat} : ∀(xs:List Bs) (sep:Bs),(∀x∈xs,x.length≤m)→(Go.Lib.join xs sep).length≤xs.length*(m+sep.length)
 | [],sep,_=>by rw [Go.Lib.join_nil];simp
 | x :: xs,sep,h=>by
  rw [Go.Lib.join_length]
  have hl:∀l:List Bs,(∀x∈l,x.length≤m)→Go.Lib.lens l≤l.length*m:=fun l=>by
   induction l with
   | nil=>intro _;simp [Go.Lib.lens]
   | cons y l ih=>
    intro h;have h1:=ih fun x hx=>h x (List.mem_cons_of_mem _ hx)
    have h2:=h y List.mem_cons_self
    simp only [Go.Lib.lens,List.map_cons,List.sum_cons,List.length_cons] at h1 ⊢
    rw [Nat.succ_mul]
    omega
  have h1:=hl (x :: xs) h
  rw [List.length_cons] at h1 ⊢
  rw [Nat.mul_add,Nat.mul_comm (xs.length+1) sep.length,Nat.mul_succ]
  omega
theorem joins_any {w:World} {S:Nat→Prop} {v:Value} (xs:List Bs) (h:Sl w S 1 v xs.length (strs xs)) (sep:Bs) (h0:xs≠[]) (m:Nat) (hm:∀x∈xs,x.length≤m) (hn:xs.length≤100000000) (hb:xs.length*(m+sep.length)≤100000000) :
  Calls Tryz.prog 34 #[v,.string ⟨sep.toArray⟩] w (RetW (.string ⟨(Go.Lib.join xs sep).toArray⟩) fun w'=>Chg NoB w w'):=by
 obtain ⟨-,p,cap,rfl,hc,hp⟩:=h
 have hpos:0<xs.length:=List.length_pos_iff.2 h0
 obtain ⟨g,off,rfl,-,hg,hcell⟩:=hp hpos
 have hj:=join_len xs sep hm
 have H:=Tryz.strings_Join g off cap (xs.map fun x=>⟨x.toArray⟩) ⟨sep.toArray⟩ w (fun j x hx=>by
  rw [List.getElem?_map] at hx
  cases hj:xs[j]? with
  | none=>rw [hj] at hx;cases hx
  | some y=>
   rw [hj] at hx
   cases hx
   exact hcell j _ (strs_get hj)) hg (by rw [List.length_map];omega) (by rw [List.length_map];exact hc) (by
  rw [mk_data]
  show (Go.Lib.join xs sep).length≤_
  omega)
 rw [mk_data,List.length_map] at H
 exact H.mono fun e w' ⟨he,hb⟩=>⟨he,chg_of_below hb⟩
theorem STRi:(Tryz.prog.info? 9).map (fun i=>(i.zero,i.size,i.bytes))=some (some (.string ⟨#[]⟩),1,16):=by kernel_rfl
def partsT:List Bs→List Int→List Bs
 | w :: ws,n :: ns=>w :: Go.Lib.itoa n :: partsT ws ns
 | _,_=>[]
def lineT (head:Bs) (ws:List Bs) (ns:List Int):Bs:=Go.Lib.join (head :: partsT ws ns) [32] ++ [10]
theorem partsT_len:∀(ws:List Bs) (ns:List Int),ws.length=ns.length→(partsT ws ns).length=2*ns.length
 | [],[],_=>rfl
 | w :: ws,n :: ns,h=>by
  have:=partsT_len ws ns (by simpa using h)
  show (w :: Go.Lib.itoa n :: partsT ws ns).length=_
  simp only [List.length_cons,this]
  omega
 | [],_ :: _,h=>by simp at h
 | _ :: _,[],h=>by simp at h
theorem partsT_next:∀(ws:List Bs) (ns:List Int) (i:Nat) (x:Bs) (n:Int),ws[i]? = some x→ns[i]? = some n→partsT (ws.take (i+1)) (ns.take (i+1))=partsT (ws.take i) (ns.take i) ++ [x,Go.Lib.itoa n]
 | w :: ws,m :: ns,0,x,n,h1,h2=>by
  cases h1;cases h2
  simp [partsT]
 | w :: ws,m :: ns,i+1,x,n,h1,h2=>by
  have:=partsT_next ws ns i x n (by simpa using h1) (by simpa using h2)
  show w :: Go.Lib.itoa m :: partsT (ws.take (i+1)) (ns.take (i+1))=_
  rw [this]
  rfl
 | [],_,_,_,_,h1,_=>by simp at h1
 | _ :: _,[],_,_,_,_,h2=>by simp at h2
theorem partsT_le {m:Nat} : ∀(ws:List Bs) (ns:List Int),(∀x∈ws,x.length≤m)→(∀n∈ns,(Go.Lib.itoa n).length≤m)→∀x∈partsT ws ns,x.length≤m
 | [],_,_,_,x,hx=>by simp [partsT] at hx
 | _ :: _,[],_,_,x,hx=>by simp [partsT] at hx
 | w :: ws,n :: ns,h1,h2,x,hx=>by
  simp only [partsT,List.mem_cons] at hx
  rcases hx with rfl | rfl | hx
  ·exact h1 _ List.mem_cons_self
  ·exact h2 _ List.mem_cons_self
  ·exact partsT_le ws ns (fun y hy=>h1 y (List.mem_cons_of_mem _ hy)) (fun y hy=>h2 y (List.mem_cons_of_mem _ hy)) x hx
theorem itoa_len {n:Int} (h:i64 n):(Go.Lib.itoa n).length≤21:=by
 unfold Go.Lib.itoa
 have h1:=h.1
 have h2:=h.2
 split
 ·have:=dec_len 19 n.natAbs (by omega)
  rw [List.length_cons];omega
 ·have:=dec_len 19 n.toNat (by omega)
  omega
theorem strs_app (a b:List Bs):strs (a ++ b)=strs a ++ strs b:=List.map_append
theorem line_any {w:World} (L:Lb w) (head words:Bs) (ws:List Bs) (hf:Go.Lib.fields words=ws) (hw:words.length<100000) (ha:∀b∈words,b.toNat<128) (hh:head.length≤50) (hws:∀x∈ws,x.length≤50)
  (ns:List Int) (S:Nat→Prop) (v:Value) (hv:Sl w S 1 v ns.length (ns.map (Value.int .i64))) (hl:ws.length=ns.length) (hn:ns.length≤30) (hi:∀n∈ns,i64 n) :
  Calls Tryz.prog 21 #[.string ⟨head.toArray⟩,.string ⟨words.toArray⟩,v] w (RetW (.string ⟨(lineT head ws ns).toArray⟩) fun w'=>Chg NoB w w'):=by
 have C0:Chg NoB w (w.alloc (.cells #[.string ⟨head.toArray⟩] 9)):=(Chg.refl NoB w).alloc _
 have HO:Hid (Own (w.alloc (.cells #[.string ⟨head.toArray⟩] 9)) (fun k=>w.heap.size≤k∧k≠w.heap.size+1) 9 1 (.slice (some ⟨w.heap.size,0,none⟩) 1 1) 1 (strs [head])):=Lib.hid ((Own.fresh w (strs [head]) 9 1 (size:=1) rfl (by decide)).mono fun k e=>by rw [e];exact ⟨Nat.le_refl _,by omega⟩)
 have HF:=Lib.hid (fields_any words hw ha ws hf _ (L.chg0 C0))
 have HL:=Lib.hid L
 have HV:=Lib.hid hv
 obtain ⟨p,cap,hvv,hcap,hcell⟩:=hv.shape
 subst hvv;have HG:=Lib.hid (And.intro hf (And.intro hh (And.intro hws (And.intro hl (And.intro hn hi)))))
 clear hf hw ha hh hws hi L hv;go_enter Tryz.func21,Tryz.ntmps21;go_wp2_with fail;with_reducible refine HF.out.mono ?_
 rintro e w1 ⟨rfl,hS1,hz1,C1⟩;have HS1:=Lib.hid hS1
 have HC1:=Lib.hid (C0.step C1)
 have HO1:=Lib.hid (HO.out.chg0 C1)
 obtain ⟨N,hN⟩:∃k,ws.length=k:=⟨_,rfl⟩
 have HN:=Lib.hid hN
 have hnN:ns.length=N:=by omega
 have HnN:=Lib.hid hnN
 have hN30:N≤30:=by omega
 have hb1:w.heap.size+1<w1.heap.size:=by
  rw [hz1,World.size_alloc];omega
 rw [World.size_alloc] at HS1
 have HB1:=Lib.hid hb1
 clear hb1 hz1;clear hS1 C1 HF HO hl hn;rw [hN] at HS1
 simp only [hN,World.size_alloc]
 clear hN hnN hcap hcell;generalize hw0:w.alloc (.cells #[.string ⟨head.toArray⟩] 9)=w0 at *;clear hw0;go_wp2_with fail;go_loopg [7,15] N (fun gk lv iv wr=>∃i:Nat,i+gk=N∧iv = .int .i64 i∧Chg NoB w wr∧Chg (fun k=>w.heap.size≤k∧k≠w.heap.size+1) w1 wr∧Own wr (fun k=>w.heap.size≤k∧k≠w.heap.size+1) 9 1 lv (1+2*i) (strs (head :: partsT (ws.take i) (ns.take i))))
 case atStart=>exact ⟨0,by omega,rfl,HC1.out,Chg.refl _ _,HO1.out⟩
 case round=>
  obtain ⟨i,hk,rfl,hC,hC1,hO⟩:=hrel
  rename World=>wr;obtain ⟨lp,lc,rfl⟩:=hO.form
  have HK:=Lib.hid hk
  have HC:=Lib.hid hC
  have HC1r:=Lib.hid hC1
  have HOr:=Lib.hid hO
  clear hk hC hC1 hO;by_cases hin:i<N
  ·have t1:decide ((i:Int)<N)=true:=decide_eq_true (by omega)
   have t2:decide (i<N)=true:=decide_eq_true hin
   obtain ⟨x,hx⟩:∃x,ws[i]? = some x:=⟨_,List.getElem?_eq_getElem (by rw [HN.out];exact hin)⟩
   obtain ⟨m,hm⟩:∃x,ns[i]? = some x:=⟨_,List.getElem?_eq_getElem (by rw [HnN.out];exact hin)⟩
   have hil:(i:Int)<ns.length:=by have:=HnN.out;omega
   have hiln:i<ns.length:=by have:=HnN.out;omega
   have hiN0:0<N:=by omega
   have hin0:0<ns.length:=by omega
   have HX:=Lib.hid hx
   have HM:=Lib.hid hm
   obtain ⟨-,p1,c1,e1,-,h1⟩:=HS1.out.chg HC1r.out fun k e h=>h.2 e
   cases e1
   obtain ⟨g1,o1,e1,-,k1l,k1⟩:=h1 hiN0
   cases e1
   replace k1:=k1 i _ (strs_get hx)
   rw [Nat.zero_add] at k1
   obtain ⟨-,p2,c2,e2,hc2,h2⟩:=HV.out.chg0 HC.out
   cases e2
   obtain ⟨g2,o2,e2,-,k2l,k2⟩:=h2 hin0
   subst e2;replace k2:=k2 i (.int .i64 m) (by rw [List.getElem?_map,hm];rfl)
   have HIm:=Lib.hid (HG.out.2.2.2.2.2 m (List.mem_of_getElem? hm))
   clear hx hm;go_wp2_with fail;with_reducible refine (itoa_any m wr HIm.out (HL.out.chg0 HC.out)).mono ?_
   rintro e w3 ⟨rfl,C3⟩;have HC3:=Lib.hid (HC.out.step C3)
   have HC13:=Lib.hid (HC1r.out.step (C3.mono fun _ _ e=>e.elim))
   have oX:=Lib.hid ((HOr.out.chg0 C3).chg0 ((Chg.refl NoB w3).alloc (.cells #[.string ⟨x.toArray⟩,.string ⟨(Go.Lib.itoa m).toArray⟩] 9)))
   have sX:=Lib.hid (Sl.fresh w3 [.string ⟨x.toArray⟩,.string ⟨(Go.Lib.itoa m).toArray⟩] 9 2 (size:=1) rfl)
   obtain ⟨i0,hi0,hz0,hz1,hz2⟩:=info_parts STRi
   have one:∀u∈[Value.string ⟨x.toArray⟩,Value.string ⟨(Go.Lib.itoa m).toArray⟩],u.oneCell'=true:=by simp [Value.oneCell']
   have b1:1+2*i+2≤maxLen:=by unfold maxLen;omega
   have b2:(1+2*i+2)*16≤140737488355328:=by omega
   clear C3 k1 k1l k2 k2l;go_wp2_with (at_builtin;go_must (refine wpList_app rfl _ _ 61 rfl i0 _ 16 Tryz.underlying61 hi0 hz0 hz1 hz2 rfl rfl oX.out _ 2 _ rfl sX.out one b1 b2 ?_))
   intro v' w5 ho5 hg5 hn5;have HO5:Hid (Own w5 (fun k=>w.heap.size≤k∧k≠w.heap.size+1) 9 1 v' (1+2*(i+1)) (strs (head :: partsT (ws.take (i+1)) (ns.take (i+1))))):=Lib.hid (by
    rw [partsT_next ws ns i x m HX.out HM.out,←List.cons_append,strs_app]
    exact ho5.mono fun k hk=>hk.elim (fun hk=>(HOr.out.ownBlock k hk).1) fun hk=>by
     have:=HC13.out.size
     have:=HB1.out
     rw [hk];exact ⟨by omega,by omega⟩)
   have HC5:Hid (Chg NoB w w5):=Lib.hid ((HC3.out.alloc (.cells #[.string ⟨x.toArray⟩,.string ⟨(Go.Lib.itoa m).toArray⟩] 9)).trans (grown_chg (S:=fun k=>w.heap.size≤k∧k≠w.heap.size+1) hg5 fun k hk=>(HOr.out.ownBlock k hk).1) (fun k h1 h2=>by omega))
   have HC15:Hid (Chg (fun k=>w.heap.size≤k∧k≠w.heap.size+1) w1 w5):=Lib.hid ((HC13.out.alloc (.cells #[.string ⟨x.toArray⟩,.string ⟨(Go.Lib.itoa m).toArray⟩] 9)).trans (grown_chg (S:=fun k=>w.heap.size≤k∧k≠w.heap.size+1) hg5 fun k hk=>(HOr.out.ownBlock k hk).1) (fun k _ h=>h))
   obtain ⟨yp,yc,rfl⟩:=ho5.form
   clear hi0 hz0 hz1 hz2 one b1 b2 ho5 hg5 hn5 oX sX;go_wp2_with fail;go_roundg (N - (i+1))
   case rel=>exact ⟨i+1,by have:=HK.out;omega,by go_num,HC5.out,HC15.out,HO5.out⟩
   case measure=>have:=HK.out;omega
  ·have t1:decide ((i:Int)<N)=false:=decide_eq_false (by omega)
   have t2:decide (i<N)=false:=decide_eq_false hin
   obtain rfl:i=N:=by have:=HK.out;omega
   have e1:ws.take i=ws:=List.take_of_length_le (by rw [HN.out];exact Nat.le_refl _)
   have e2:ns.take i=ns:=List.take_of_length_le (by rw [HnN.out];exact Nat.le_refl _)
   have HOx:=HOr.out.sl
   rw [e1,e2] at HOx
   have hlen:(head :: partsT ws ns).length=1+2*i:=by rw [List.length_cons,partsT_len ws ns (by rw [HN.out,HnN.out]),HnN.out];omega
   rw [←hlen] at HOx
   have hj:=(joins_any (head :: partsT ws ns) HOx [32] (by simp) 50 (fun x hx=>by
    rcases List.mem_cons.1 hx with rfl | hx
    ·exact HG.out.2.1
    ·exact partsT_le ws ns HG.out.2.2.1 (fun n hn=>Nat.le_trans (itoa_len (HG.out.2.2.2.2.2 n hn)) (by decide)) x hx) (by rw [hlen];omega) (by rw [hlen];simp;omega))
   rw [hlen] at hj
   have HJ:=Lib.hid hj
   clear hj;have hjl:(Go.Lib.join (head :: partsT ws ns) [32]).length≤10000:=by
    refine Nat.le_trans (join_len (m:=50) _ _ fun x hx=>?_) (by rw [hlen];simp;omega)
    rcases List.mem_cons.1 hx with rfl | hx
    ·exact HG.out.2.1
    ·exact partsT_le ws ns HG.out.2.2.1 (fun n hn=>Nat.le_trans (itoa_len (HG.out.2.2.2.2.2 n hn)) (by decide)) x hx
   have l0:¬9223372036854775807<(Go.Lib.join (head :: partsT ws ns) [32]).length+1:=by omega
   clear HOx e1 e2 hlen hjl;go_wp2_with fail;with_reducible refine HJ.out.mono ?_
   rintro e w3 ⟨rfl,C3⟩;have HC3:=Lib.hid (HC.out.step C3)
   clear C3;go_wp2_with fail;go_ret;exact ⟨congrArg (fun z=>Ending.returned (Value.string z)) (bs_append (Go.Lib.join (head :: partsT ws ns) [32]) [10]),HC3.out⟩
end Go.Proofs.YtjhnnjgnkkjmkaaGreatDoor
