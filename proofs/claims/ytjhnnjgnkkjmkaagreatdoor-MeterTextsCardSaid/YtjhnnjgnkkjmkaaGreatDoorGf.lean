/- Words of bytes: sizes, reading, laying, cutting, signs. No condition. A node's memory: pages of frames by a map; words read and laid. No condition. A node's memory: words loaded and stored, pages. No condition. -/
import Derived.Test.YtjhnnjgnkkjmkaaGreatDoorProg
import Derived.Test.YtjhnnjgnkkjmkaaGreatDoorGa
import Derived.Test.YtjhnnjgnkkjmkaaGreatDoorGe
import Derived.Deep.WholeRow
import Derived.LaidEqlPtr
set_option maxHeartbeats 4000000
set_option maxRecDepth 100000
set_option linter.unusedVariables false
set_option linter.unusedSimpArgs false
namespace Go.Proofs.YtjhnnjgnkkjmkaaGreatDoor
open Go.RowKit Go.RR
theorem size_cases (n:Int):n=1∨n=2∨n=4∨n=8∨((n == 1)=false∧(n == 2)=false∧(n == 4)=false∧(n == 8)=false∧sizeB n=false):=by
 by_cases h1:n=1
 ·exact .inl h1
 by_cases h2:n=2
 ·exact .inr (.inl h2)
 by_cases h4:n=4
 ·exact .inr (.inr (.inl h4))
 by_cases h8:n=8
 ·exact .inr (.inr (.inr (.inl h8)))
 refine .inr (.inr (.inr (.inr ⟨beq_eq_false_iff_ne.2 h1,beq_eq_false_iff_ne.2 h2,beq_eq_false_iff_ne.2 h4,beq_eq_false_iff_ne.2 h8,?_⟩)))
 simp [sizeB,h1,h2,h4,h8]
theorem size_any (n:Int) (w:World):Calls Tryz.prog 130 #[.int .i64 n] w (RetW (.bool (sizeB n)) fun w'=>w'=w):=by
 rcases size_cases n with rfl | rfl | rfl | rfl | ⟨h1,h2,h4,h8,hs⟩
 all_goals
  go_enter Tryz.func130,Tryz.ntmps130;go_wp2_with fail;go_ret;first | exact ⟨rfl,rfl⟩ | exact ⟨ret_bool hs.symm,rfl⟩
def thereB (n at' size:Int):Bool:=sizeB size && (decide (0≤at') && (decide (at'≤n) && decide (size≤n - at')))
theorem there_any (p:Option Addr) (n cap:Nat) (at' size:Int) (w:World) (hn:(n:Int)≤9223372036854775807) (h1 : -9223372036854775808≤at') (h2:at'≤9223372036854775807) :
  Calls Tryz.prog 132 #[.slice p n cap,.int .i64 at',.int .i64 size] w (RetW (.bool (thereB n at' size)) fun w'=>w'=w):=by
 obtain ⟨b0,hb0⟩:∃b,sizeB size=b:=⟨_,rfl⟩
 have HB0:=Lib.hid hb0
 have H0:=Lib.hid (size_any size w)
 rw [hb0] at H0
 have HT:Hid (thereB n at' size=(b0 && (decide (0≤at') && (decide (at'≤n) && decide (size≤n - at'))))):=Lib.hid (by unfold thereB;rw [hb0])
 clear hb0;cases b0
 ·go_enter Tryz.func132,Tryz.ntmps132;go_wp2_with fail;with_reducible refine H0.out.mono ?_
  rintro e w1 ⟨rfl,hw1⟩;subst hw1;go_wp2_with fail;go_ret;exact ⟨ret_bool HT.out.symm,rfl⟩
 ·by_cases c1:0≤at'
  ·by_cases c2:at'≤n
   ·have d1:decide ((0:Int)≤at')=true:=decide_eq_true c1
    have d2:decide (at'≤n)=true:=decide_eq_true c2
    have hw : -9223372036854775808≤(n:Int) - at'∧(n:Int) - at'≤9223372036854775807:=by omega
    obtain ⟨b3,hb3⟩:∃b,decide (size≤n - at')=b:=⟨_,rfl⟩
    have HT2:Hid (thereB n at' size=b3):=Lib.hid (by rw [HT.out,d1,d2,hb3];rfl)
    clear c1 c2;go_enter Tryz.func132,Tryz.ntmps132;go_wp2_with fail;with_reducible refine H0.out.mono ?_
    rintro e w1 ⟨rfl,hw1⟩;subst hw1;cases b3
    all_goals
     go_wp2_with fail;go_ret;exact ⟨ret_bool HT2.out.symm,rfl⟩
   ·have d1:decide ((0:Int)≤at')=true:=decide_eq_true c1
    have d2:decide (at'≤n)=false:=decide_eq_false c2
    have HT2:Hid (thereB n at' size=false):=Lib.hid (by rw [HT.out,d1,d2];rfl)
    clear c1 c2;go_enter Tryz.func132,Tryz.ntmps132;go_wp2_with fail;with_reducible refine H0.out.mono ?_
    rintro e w1 ⟨rfl,hw1⟩;subst hw1;go_wp2_with fail;go_ret;exact ⟨ret_bool HT2.out.symm,rfl⟩
  ·have d1:decide ((0:Int)≤at')=false:=decide_eq_false c1
   have HT2:Hid (thereB n at' size=false):=Lib.hid (by rw [HT.out,d1];rfl)
   clear c1;go_enter Tryz.func132,Tryz.ntmps132;go_wp2_with fail;with_reducible refine H0.out.mono ?_
   rintro e w1 ⟨rfl,hw1⟩;subst hw1;go_wp2_with fail;go_ret;exact ⟨ret_bool HT2.out.symm,rfl⟩
theorem and_mask (v k:Nat) (hv:v<18446744073709551616) (hk:k≤64):bits .and .u64 (v:Int) ((2 ^ k - 1:Nat):Int)=((v%2 ^ k:Nat):Int):=by
 have hp:2 ^ k - 1<18446744073709551616:=by
  have:2 ^ k≤2 ^ 64:=Nat.pow_le_pow_right (by omega) hk
  have h64:(2:Nat) ^ 64=18446744073709551616:=rfl
  omega
 rw [u64_and_nat v _ hv hp,Nat.and_two_pow_sub_one_eq_mod]
theorem aligned_any (at':Nat) (size:Int) (w:World) (ha:at'<18446744073709551616):Calls Tryz.prog 131 #[.int .u64 at',.int .i64 size] w (RetW (.bool (alignedB at' size)) fun w'=>w'=w):=by
 have H0:=Lib.hid (size_any size w)
 rcases size_cases size with rfl | rfl | rfl | rfl | ⟨h1,h2,h4,h8,hs⟩
 ·have m1:bits .and .u64 (at':Int) 0=((at'%2 ^ 0:Nat):Int):=and_mask at' 0 ha (by omega)
  rw [Nat.pow_zero,Nat.mod_one] at m1
  have HT:Hid (alignedB at' 1=true):=Lib.hid (by unfold alignedB;rw [show (1:Int).toNat=1 from rfl,Nat.mod_one];rfl)
  go_enter Tryz.func131,Tryz.ntmps131;go_wp2_with fail;with_reducible refine H0.out.mono ?_
  rintro e w1 ⟨rfl,hw1⟩;subst hw1;go_wp2_with fail;go_ret;exact ⟨ret_bool HT.out.symm,rfl⟩
 ·have m1:bits .and .u64 (at':Int) 1=((at'%2 ^ 1:Nat):Int):=and_mask at' 1 ha (by omega)
  simp only [Nat.reducePow] at m1
  obtain ⟨b,hb⟩:∃b,decide (at'%2=0)=b:=⟨_,rfl⟩
  have HT:Hid (alignedB at' 2=b):=Lib.hid (by rw [←hb];rfl)
  have t1:((at':Int)%2 == 0)=b:=by rw [←hb,Bool.eq_iff_iff,beq_iff_eq,decide_eq_true_iff];omega
  clear hb;go_enter Tryz.func131,Tryz.ntmps131;go_wp2_with fail;with_reducible refine H0.out.mono ?_
  rintro e w1 ⟨rfl,hw1⟩;subst hw1;go_wp2_with fail;go_ret;exact ⟨ret_bool HT.out.symm,rfl⟩
 ·have m1:bits .and .u64 (at':Int) 3=((at'%2 ^ 2:Nat):Int):=and_mask at' 2 ha (by omega)
  simp only [Nat.reducePow] at m1
  obtain ⟨b,hb⟩:∃b,decide (at'%4=0)=b:=⟨_,rfl⟩
  have HT:Hid (alignedB at' 4=b):=Lib.hid (by rw [←hb];rfl)
  have t1:((at':Int)%4 == 0)=b:=by rw [←hb,Bool.eq_iff_iff,beq_iff_eq,decide_eq_true_iff];omega
  clear hb;go_enter Tryz.func131,Tryz.ntmps131;go_wp2_with fail;with_reducible refine H0.out.mono ?_
  rintro e w1 ⟨rfl,hw1⟩;subst hw1;go_wp2_with fail;go_ret;exact ⟨ret_bool HT.out.symm,rfl⟩
 ·have m1:bits .and .u64 (at':Int) 7=((at'%2 ^ 3:Nat):Int):=and_mask at' 3 ha (by omega)
  simp only [Nat.reducePow] at m1
  obtain ⟨b,hb⟩:∃b,decide (at'%8=0)=b:=⟨_,rfl⟩
  have HT:Hid (alignedB at' 8=b):=Lib.hid (by rw [←hb];rfl)
  have t1:((at':Int)%8 == 0)=b:=by rw [←hb,Bool.eq_iff_iff,beq_iff_eq,decide_eq_true_iff];omega
  clear hb;go_enter Tryz.func131,Tryz.ntmps131;go_wp2_with fail;with_reducible refine H0.out.mono ?_
  rintro e w1 ⟨rfl,hw1⟩;subst hw1;go_wp2_with fail;go_ret;exact ⟨ret_bool HT.out.symm,rfl⟩
 ·have HT:Hid (alignedB at' size=false):=Lib.hid (by unfold alignedB;rw [hs];rfl)
  rw [hs] at H0
  go_enter Tryz.func131,Tryz.ntmps131;go_wp2_with fail;with_reducible refine H0.out.mono ?_
  rintro e w1 ⟨rfl,hw1⟩;subst hw1;go_wp2_with fail;go_ret;exact ⟨ret_bool HT.out.symm,rfl⟩
theorem or_byte (v b:Nat) (hv:v<72057594037927936) (hb:b<256):bits .or .u64 ((v:Int)*256) (b:Int)=((v*256+b:Nat):Int):=by
 rw [show (v:Int)*256=((v*256:Nat):Int) by omega,u64_or_nat _ b (by omega) (by omega),nat_join 8 (v*256) b (by simp) (by simpa using hb)]
theorem pow256 {s k:Nat} (hs:s≤8) (hk:k<s):256 ^ (s - (k+1))≤72057594037927936:=by
 have:256 ^ (s - (k+1))≤256 ^ 7:=Nat.pow_le_pow_right (by omega) (by omega)
 simpa using this
theorem get_any (S:Nat→Prop) (g:By) (hg:ByOk g) (v:Value) (n at' s:Nat) (w:World) (h:Sl w S 1 v n (bcells g n)) (hn:n≤1000000) (hs:sizeB s=true) (ha:at'+s≤n) :
  Calls Tryz.prog 108 #[v,.int .i64 at',.int .i64 s] w (RetW (.tuple #[.int .u64 (getW g at' s),.bool true]) fun w'=>w'=w):=by
 obtain ⟨-,p,cap,rfl,hcap,hsp⟩:=h
 have hs8:1≤s∧s≤8:=by rcases sizeB_of hs with h | h | h | h <;> omega
 obtain ⟨gb,off,rfl,-,hgb,hc⟩:=hsp (by omega)
 have H0:=Lib.hid (there_any (some ⟨gb,off,none⟩) n cap at' s w (by omega) (by omega) (by omega))
 rw [show thereB n at' s=true by unfold thereB;rw [hs,decide_eq_true (by omega),decide_eq_true (by omega),decide_eq_true (by omega)];rfl] at H0
 have HC:=Lib.hid hc
 have HG:=Lib.hid hg
 clear hs hsp hc hg;go_enter Tryz.func108,Tryz.ntmps108;go_wp2_with fail;with_reducible refine H0.out.mono ?_
 rintro e w1 ⟨rfl,hw1⟩;subst hw1;go_wp2_with fail;go_loopg [8,9] s (fun m vv iv wr=>m≤s∧iv = .int .i64 ((m:Int) - 1)∧vv = .int .u64 (getW g (at'+m) (s - m))∧wr=w1)
 case atStart=>exact ⟨Nat.le_refl _,by go_num,by rw [Nat.sub_self];rfl,rfl⟩
 case round=>
  obtain ⟨hm,rfl,rfl,rfl⟩:=hrel
  rename Nat=>m
  cases m with
  | zero=>
   have q0:decide ((0:Int)≤((0:Nat):Int) - 1)=false:=by decide
   go_wp2_with fail;go_ret2
   exact ⟨rfl,rfl⟩
  | succ k=>
   have hx:wr.cell? ⟨gb,off+(at'+k),none⟩=some (.int .u8 (g (at'+k))):=HC.out _ _ (bcells_get (by omega))
   have hB:=HG.out (at'+k)
   have hV:=Nat.lt_of_lt_of_le (getW_lt HG.out (s - (k+1)) (at'+(k+1))) (pow256 hs8.2 (by omega))
   have hst:=getW_step g (at'+k) (s - (k+1))
   rw [show s - (k+1)+1=s - k by omega,show at'+k+1=at'+(k+1) by omega] at hst
   have HST:=Lib.hid hst
   obtain ⟨V,hVV⟩:∃V,getW g (at'+(k+1)) (s - (k+1))=V:=⟨_,rfl⟩
   obtain ⟨B,hBB⟩:∃B,g (at'+k)=B:=⟨_,rfl⟩
   rw [hVV] at HST hV ⊢
   rw [hBB] at HST hB hx
   have o1:=or_byte V B hV hB
   have k0:(0:Int)≤k:=by omega
   clear hst hVV hBB;go_wp2_with fail;go_roundg k
   case measure=>omega
   case rel=>exact ⟨by omega,rfl,by rw [HST.out];exact congrArg (Value.int .u64) (by omega),rfl⟩
theorem shr_byte (v i:Nat):(v:Int) / 2 ^ (8*(i:Int)).toNat=((v / 256 ^ i:Nat):Int):=by
 rw [show (8*(i:Int)).toNat=8*i by omega,show (256:Nat) ^ i=2 ^ (8*i) by rw [Nat.pow_mul]]
 simp
theorem put_any (g:By) (gb cap at' s v n:Nat) (T:TypeId) (w:World) (h:Blk w gb (bcells g n).toArray T) (hn:n≤1000000) (hnc:n≤cap) (hs:sizeB s=true) (ha:at'+s≤n) (hv:v<18446744073709551616) :
  Calls Tryz.prog 92 #[.slice (some ⟨gb,0,none⟩) n cap,.int .i64 at',.int .i64 s,.int .u64 v] w (RetW (.bool true) fun w'=>Blk w' gb (bcells (putW g at' s v) n).toArray T∧Chg (· = gb) w w'):=by
 have hs8:1≤s∧s≤8:=by rcases sizeB_of hs with h | h | h | h <;> omega
 have H0:=Lib.hid (there_any (some ⟨gb,0,none⟩) n cap at' s w (by omega) (by omega) (by omega))
 rw [show thereB n at' s=true by unfold thereB;rw [hs,decide_eq_true (by omega),decide_eq_true (by omega),decide_eq_true (by omega)];rfl] at H0
 have HB:=Lib.hid h
 clear hs h;go_enter Tryz.func92,Tryz.ntmps92;go_wp2_with fail;with_reducible refine H0.out.mono ?_
 rintro e w1 ⟨rfl,hw1⟩;subst hw1;go_wp2_with fail;go_loopg [16] s (fun m iv wr=>∃i:Nat,i+m=s∧iv = .int .i64 i∧Blk wr gb (bcells (putW g at' i v) n).toArray T∧Chg (· = gb) w1 wr)
 case atStart=>exact ⟨0,by omega,rfl,by rw [putW_zero];exact HB.out,Chg.refl _ _⟩
 case round=>
  obtain ⟨i,hi,rfl,hblk,hC⟩:=hrel
  rename World=>wr;have HBK:=Lib.hid hblk
  have HC:=Lib.hid hC
  have HI:=Lib.hid hi
  have i0:(0:Int)≤i:=by omega
  have i8:i≤s:=by omega
  clear hblk hC hi;by_cases hlt:i<s
  ·have hx:=HBK.out.cell' (i:=at'+i) (by simpa using bcells_get (g:=putW g at' i v) (show at'+i<n by omega))
   have hf:=HBK.out.frozen (at'+i)
   have hl:=HBK.out.lt
   have s1:=shr_byte v i
   have HX:Hid (Blk (wr.setCell ⟨gb,at'+i,none⟩ (.int .u8 ((v / 256 ^ i%256:Nat):Int))) gb (bcells (putW g at' (i+1) v) n).toArray T):=Lib.hid (by
    have:=HBK.out.set (at'+i) (.int .u8 ((v / 256 ^ i%256:Nat):Int))
    rw [List.setIfInBounds_toArray,bcells_set,←putW_step] at this
    exact this)
   have HC2:Hid (Chg (· = gb) w1 (wr.setCell ⟨gb,at'+i,none⟩ (.int .u8 ((v / 256 ^ i%256:Nat):Int)))):=Lib.hid (HC.out.setCell (.inl rfl) _)
   obtain ⟨q,hq⟩:∃q,v / 256 ^ i=q:=⟨_,rfl⟩
   rw [hq] at s1 HX HC2
   have i1:(i:Int)<s:=by omega
   clear hq;go_wp2_with fail;go_roundg (s - (i+1))
   case measure=>have:=HI.out;omega
   case rel=>exact ⟨i+1,by omega,by go_num,HX.out,HC2.out⟩
  ·obtain rfl:s=i:=by omega
   go_wp2_with fail;go_ret;exact ⟨rfl,HBK.out,HC.out⟩
def maskV (size:Int):Nat:=if size=1 then 255 else if size=2 then 65535 else if size=4 then 4294967295 else 18446744073709551615
theorem mask_any (size:Int) (w:World):Calls Tryz.prog 264 #[.int .i64 size] w (RetW (.int .u64 (maskV size)) fun w'=>w'=w):=by
 have H0:=Lib.hid (size_any size w)
 rcases size_cases size with rfl | rfl | rfl | rfl | ⟨h1,h2,h4,h8,hs⟩
 case inr.inr.inr.inr=>
  have HM:Hid (maskV size=18446744073709551615):=Lib.hid (by
   unfold maskV
   rw [if_neg (beq_eq_false_iff_ne.1 h1),if_neg (beq_eq_false_iff_ne.1 h2),if_neg (beq_eq_false_iff_ne.1 h4)])
  rw [hs] at H0
  clear hs h1 h2 h4 h8;go_enter Tryz.func264,Tryz.ntmps264;go_wp2_with fail;with_reducible refine H0.out.mono ?_
  rintro e w1 ⟨rfl,hw1⟩;subst hw1;go_wp2_with fail;go_ret;exact ⟨by rw [HM.out];rfl,rfl⟩
 all_goals
  go_enter Tryz.func264,Tryz.ntmps264;go_wp2_with fail;with_reducible refine H0.out.mono ?_
  rintro e w1 ⟨rfl,hw1⟩;subst hw1;go_wp2_with fail;go_ret;exact ⟨rfl,rfl⟩
theorem mask_all (v:Nat) (hv:v<18446744073709551616):bits .and .u64 (v:Int) 18446744073709551615=(v:Int):=by
 have:=and_mask v 64 hv (by omega)
 rw [show v%2 ^ 64=v from Nat.mod_eq_of_lt hv] at this
 exact this
theorem cut_any (v:Nat) (size:Int) (w:World) (hv:v<18446744073709551616):Calls Tryz.prog 228 #[.int .u64 v,.int .i64 size] w (RetW (.int .u64 (cutF v size)) fun w'=>w'=w):=by
 have H0:=Lib.hid (mask_any size w)
 have HR:Hid (bits .and .u64 (v:Int) (maskV size:Int)=(cutF v size:Int)):=Lib.hid (by
  rcases size_cases size with rfl | rfl | rfl | rfl | ⟨h1,h2,h4,h8,hs⟩
  ·exact and_mask v 8 hv (by omega)
  ·exact and_mask v 16 hv (by omega)
  ·exact and_mask v 32 hv (by omega)
  ·exact and_mask v 64 hv (by omega)
  ·unfold cutF maskV
   rw [hs,if_neg (beq_eq_false_iff_ne.1 h1),if_neg (beq_eq_false_iff_ne.1 h2),if_neg (beq_eq_false_iff_ne.1 h4)]
   exact mask_all v hv)
 generalize maskV size=m at *;go_enter Tryz.func228,Tryz.ntmps228;go_wp2_with fail;with_reducible refine H0.out.mono ?_
 rintro e w1 ⟨rfl,hw1⟩;subst hw1;go_wp2_with fail;go_ret;exact ⟨by rw [←HR.out];rfl,rfl⟩
theorem bit_top (v k:Nat) (hv:v<18446744073709551616) (hk:k<64):bits .and .u64 (v:Int) ((2 ^ k:Nat):Int)=((v / 2 ^ k%2*2 ^ k:Nat):Int):=by
 have hp:2 ^ k<18446744073709551616:=by
  have:2 ^ k<2 ^ 64:=Nat.pow_lt_pow_right (by omega) hk
  simpa using this
 rw [u64_and_nat v _ hv hp,nat_bit]
theorem or_high (v k:Nat) (hv:v<18446744073709551616) (hk:k≤64):v ||| ((2 ^ (64 - k) - 1)*2 ^ k)=v%2 ^ k+(2 ^ (64 - k) - 1)*2 ^ k:=by
 rw [Nat.add_comm,←nat_join k _ (v%2 ^ k) (by simp) (Nat.mod_lt _ (Nat.two_pow_pos k))]
 apply Nat.eq_of_testBit_eq
 intro i;rw [Nat.testBit_or,Nat.testBit_or,Nat.testBit_mul_two_pow,Nat.testBit_two_pow_sub_one,Nat.testBit_mod_two_pow]
 by_cases h1:i<k
 ·simp [h1,show ¬k≤i by omega]
 ·by_cases h2:i<64
  ·simp [show k≤i by omega,show i - k<64 - k by omega]
  ·have:v.testBit i=false:=Nat.testBit_lt_two_pow (Nat.lt_of_lt_of_le hv (show 2 ^ 64≤2 ^ i from Nat.pow_le_pow_right (by omega) (by omega)))
   simp [this,show ¬i - k<64 - k by omega]
theorem or_high_b (v k:Nat) (hv:v<18446744073709551616) (hk:k≤64) (hk0:0<k):bits .or .u64 (v:Int) (((2 ^ (64 - k) - 1)*2 ^ k:Nat):Int)=((v%2 ^ k+(2 ^ (64 - k) - 1)*2 ^ k:Nat):Int):=by
 have:(2 ^ (64 - k) - 1)*2 ^ k<18446744073709551616:=by
  have h1:2 ^ (64 - k)*2 ^ k=18446744073709551616:=by rw [←Nat.pow_add,show 64 - k+k=64 by omega]
  rw [Nat.sub_mul,h1]
  have:=Nat.two_pow_pos k
  omega
 rw [u64_or_nat v _ hv this,or_high v k hv hk]
theorem sign_any (v:Nat) (size:Int) (w:World) (hv:v<18446744073709551616):Calls Tryz.prog 266 #[.int .u64 v,.int .i64 size] w (RetW (.int .u64 (signW v size)) fun w'=>w'=w):=by
 rcases size_cases size with rfl | rfl | rfl | hs8 | ⟨h1,h2,h4,h8,hs⟩
 ·have H0:Hid (Calls Tryz.prog 264 #[.int .i64 1] w (RetW (.int .u64 255) fun w'=>w'=w)):=Lib.hid (mask_any 1 w)
  have s0:IntKind.u64.signed=false:=rfl
  have e5:bits .xor .u64 IntKind.u64.max 255=18446744073709551360:=by decide +kernel
  have e1:bits .xor .u64 255 127=128:=by decide +kernel
  have e2:bits .and .u64 (v:Int) 128=((v / 128%2*128:Nat):Int):=bit_top v 7 hv (by omega)
  have e3:bits .and .u64 (v:Int) 255=((v%256:Nat):Int):=and_mask v 8 hv (by omega)
  have e4:bits .or .u64 (v:Int) 18446744073709551360=((v%256+18446744073709551360:Nat):Int):=or_high_b v 8 hv (by omega) (by omega)
  obtain ⟨X,hX⟩:∃X,v / 128%2*128=X:=⟨_,rfl⟩
  obtain ⟨Y,hY⟩:∃Y,v%256=Y:=⟨_,rfl⟩
  rw [hX] at e2
  rw [hY] at e3 e4
  have HS:Hid (signW v 1=if Y<128 then Y else Y+18446744073709551360):=Lib.hid (by rw [←hY];rfl)
  obtain ⟨b,hb⟩:∃b,decide (Y<128)=b:=⟨_,rfl⟩
  have t1:((X:Int) == 0)=b:=by rw [←hb,Bool.eq_iff_iff,beq_iff_eq,decide_eq_true_iff];omega
  have t2:((X:Int) != 0) = !b:=by rw [bne,t1]
  have HB:=Lib.hid hb
  clear hb hX hY;go_enter Tryz.func266,Tryz.ntmps266;go_wp2_with fail;with_reducible refine H0.out.mono ?_
  rintro e w1 ⟨rfl,hw1⟩;subst hw1;cases b
  ·have HS2:Hid (signW v 1=Y+18446744073709551360):=Lib.hid (by rw [HS.out,if_neg (of_decide_eq_false HB.out)])
   go_wp2_with fail;go_ret;exact ⟨by rw [HS2.out];rfl,rfl⟩
  ·have HS2:Hid (signW v 1=Y):=Lib.hid (by rw [HS.out,if_pos (of_decide_eq_true HB.out)])
   go_wp2_with fail;go_ret;exact ⟨by rw [HS2.out];rfl,rfl⟩
 ·have H0:Hid (Calls Tryz.prog 264 #[.int .i64 2] w (RetW (.int .u64 65535) fun w'=>w'=w)):=Lib.hid (mask_any 2 w)
  have s0:IntKind.u64.signed=false:=rfl
  have e5:bits .xor .u64 IntKind.u64.max 65535=18446744073709486080:=by decide +kernel
  have e1:bits .xor .u64 65535 32767=32768:=by decide +kernel
  have e2:bits .and .u64 (v:Int) 32768=((v / 32768%2*32768:Nat):Int):=bit_top v 15 hv (by omega)
  have e3:bits .and .u64 (v:Int) 65535=((v%65536:Nat):Int):=and_mask v 16 hv (by omega)
  have e4:bits .or .u64 (v:Int) 18446744073709486080=((v%65536+18446744073709486080:Nat):Int):=or_high_b v 16 hv (by omega) (by omega)
  obtain ⟨X,hX⟩:∃X,v / 32768%2*32768=X:=⟨_,rfl⟩
  obtain ⟨Y,hY⟩:∃Y,v%65536=Y:=⟨_,rfl⟩
  rw [hX] at e2
  rw [hY] at e3 e4
  have HS:Hid (signW v 2=if Y<32768 then Y else Y+18446744073709486080):=Lib.hid (by rw [←hY];rfl)
  obtain ⟨b,hb⟩:∃b,decide (Y<32768)=b:=⟨_,rfl⟩
  have t1:((X:Int) == 0)=b:=by rw [←hb,Bool.eq_iff_iff,beq_iff_eq,decide_eq_true_iff];omega
  have t2:((X:Int) != 0) = !b:=by rw [bne,t1]
  have HB:=Lib.hid hb
  clear hb hX hY;go_enter Tryz.func266,Tryz.ntmps266;go_wp2_with fail;with_reducible refine H0.out.mono ?_
  rintro e w1 ⟨rfl,hw1⟩;subst hw1;cases b
  ·have HS2:Hid (signW v 2=Y+18446744073709486080):=Lib.hid (by rw [HS.out,if_neg (of_decide_eq_false HB.out)])
   go_wp2_with fail;go_ret;exact ⟨by rw [HS2.out];rfl,rfl⟩
  ·have HS2:Hid (signW v 2=Y):=Lib.hid (by rw [HS.out,if_pos (of_decide_eq_true HB.out)])
   go_wp2_with fail;go_ret;exact ⟨by rw [HS2.out];rfl,rfl⟩
 ·have H0:Hid (Calls Tryz.prog 264 #[.int .i64 4] w (RetW (.int .u64 4294967295) fun w'=>w'=w)):=Lib.hid (mask_any 4 w)
  have s0:IntKind.u64.signed=false:=rfl
  have e5:bits .xor .u64 IntKind.u64.max 4294967295=18446744069414584320:=by decide +kernel
  have e1:bits .xor .u64 4294967295 2147483647=2147483648:=by decide +kernel
  have e2:bits .and .u64 (v:Int) 2147483648=((v / 2147483648%2*2147483648:Nat):Int):=bit_top v 31 hv (by omega)
  have e3:bits .and .u64 (v:Int) 4294967295=((v%4294967296:Nat):Int):=and_mask v 32 hv (by omega)
  have e4:bits .or .u64 (v:Int) 18446744069414584320=((v%4294967296+18446744069414584320:Nat):Int):=or_high_b v 32 hv (by omega) (by omega)
  obtain ⟨X,hX⟩:∃X,v / 2147483648%2*2147483648=X:=⟨_,rfl⟩
  obtain ⟨Y,hY⟩:∃Y,v%4294967296=Y:=⟨_,rfl⟩
  rw [hX] at e2
  rw [hY] at e3 e4
  have HS:Hid (signW v 4=if Y<2147483648 then Y else Y+18446744069414584320):=Lib.hid (by rw [←hY];rfl)
  obtain ⟨b,hb⟩:∃b,decide (Y<2147483648)=b:=⟨_,rfl⟩
  have t1:((X:Int) == 0)=b:=by rw [←hb,Bool.eq_iff_iff,beq_iff_eq,decide_eq_true_iff];omega
  have t2:((X:Int) != 0) = !b:=by rw [bne,t1]
  have HB:=Lib.hid hb
  clear hb hX hY;go_enter Tryz.func266,Tryz.ntmps266;go_wp2_with fail;with_reducible refine H0.out.mono ?_
  rintro e w1 ⟨rfl,hw1⟩;subst hw1;cases b
  ·have HS2:Hid (signW v 4=Y+18446744069414584320):=Lib.hid (by rw [HS.out,if_neg (of_decide_eq_false HB.out)])
   go_wp2_with fail;go_ret;exact ⟨by rw [HS2.out];rfl,rfl⟩
  ·have HS2:Hid (signW v 4=Y):=Lib.hid (by rw [HS.out,if_pos (of_decide_eq_true HB.out)])
   go_wp2_with fail;go_ret;exact ⟨by rw [HS2.out];rfl,rfl⟩
 ·
  have hh:(sizeB size && !decide (size=8))=false:=by rw [hs8];rfl
  have HS:Hid (signW v size=v):=Lib.hid (by unfold signW;rw [hh];rfl)
  have H0:Hid (Calls Tryz.prog 264 #[.int .i64 size] w (RetW (.int .u64 18446744073709551615) fun w'=>w'=w)):=Lib.hid (by have:=mask_any size w;rwa [show maskV size=18446744073709551615 by (rw [hs8];rfl)] at this)
  have s0:IntKind.u64.signed=false:=rfl
  have e5:bits .xor .u64 IntKind.u64.max 18446744073709551615=0:=by decide +kernel
  have e1:bits .xor .u64 18446744073709551615 9223372036854775807=9223372036854775808:=by decide +kernel
  have e2:bits .and .u64 (v:Int) 9223372036854775808=((v / 9223372036854775808%2*9223372036854775808:Nat):Int):=bit_top v 63 hv (by omega)
  have e3:=mask_all v hv
  have e4:bits .or .u64 (v:Int) 0=(v:Int):=by have:=u64_or_nat v 0 hv (by omega);rw [Nat.or_zero] at this;exact this
  obtain ⟨X,hX⟩:∃X,v / 9223372036854775808%2*9223372036854775808=X:=⟨_,rfl⟩
  rw [hX] at e2
  obtain ⟨b,hb⟩:∃b,((X:Int) == 0)=b:=⟨_,rfl⟩
  have t2:((X:Int) != 0) = !b:=by rw [bne,hb]
  clear hX hh;try clear hs8
  go_enter Tryz.func266,Tryz.ntmps266;go_wp2_with fail;with_reducible refine H0.out.mono ?_
  rintro e w1 ⟨rfl,hw1⟩;subst hw1;cases b
  all_goals
   go_wp2_with fail;go_ret;exact ⟨by rw [HS.out];rfl,rfl⟩
 ·
  have hh:(sizeB size && !decide (size=8))=false:=by rw [hs];rfl
  have HS:Hid (signW v size=v):=Lib.hid (by unfold signW;rw [hh];rfl)
  have H0:Hid (Calls Tryz.prog 264 #[.int .i64 size] w (RetW (.int .u64 18446744073709551615) fun w'=>w'=w)):=Lib.hid (by have:=mask_any size w;rwa [show maskV size=18446744073709551615 by (unfold maskV;rw [if_neg (beq_eq_false_iff_ne.1 h1),if_neg (beq_eq_false_iff_ne.1 h2),if_neg (beq_eq_false_iff_ne.1 h4)])] at this)
  have s0:IntKind.u64.signed=false:=rfl
  have e5:bits .xor .u64 IntKind.u64.max 18446744073709551615=0:=by decide +kernel
  have e1:bits .xor .u64 18446744073709551615 9223372036854775807=9223372036854775808:=by decide +kernel
  have e2:bits .and .u64 (v:Int) 9223372036854775808=((v / 9223372036854775808%2*9223372036854775808:Nat):Int):=bit_top v 63 hv (by omega)
  have e3:=mask_all v hv
  have e4:bits .or .u64 (v:Int) 0=(v:Int):=by have:=u64_or_nat v 0 hv (by omega);rw [Nat.or_zero] at this;exact this
  obtain ⟨X,hX⟩:∃X,v / 9223372036854775808%2*9223372036854775808=X:=⟨_,rfl⟩
  rw [hX] at e2
  obtain ⟨b,hb⟩:∃b,((X:Int) == 0)=b:=⟨_,rfl⟩
  have t2:((X:Int) != 0) = !b:=by rw [bne,hb]
  clear hX hh;try clear hs8
  go_enter Tryz.func266,Tryz.ntmps266;go_wp2_with fail;with_reducible refine H0.out.mono ?_
  rintro e w1 ⟨rfl,hw1⟩;subst hw1;cases b
  all_goals
   go_wp2_with fail;go_ret;exact ⟨by rw [HS.out];rfl,rfl⟩
def pgMap (m:List (Int×Nat)):List (Int×Value):=m.map fun p=>(p.1,.pointer (some ⟨p.2,0,none⟩))
structure PgsAt (w:World) (S:Nat→Prop) (m:List (Int×Nat)) (b:By):Prop where
 blk:∀p∈m,S p.2∧0≤p.1∧Blk w p.2 (bcells (pgF b p.1.toNat) 4096).toArray 286
 inj:∀p∈m,∀q∈m,p.2=q.2→p.1=q.1
 key:∀p∈m,∀q∈m,p.1=q.1→p.2=q.2
 no:∀f:Nat,mlook (pgMap m) f=none→∀i,i<4096→b (4096*f+i)=0
 ok:ByOk b
def MemAt (w:World) (S:Nat→Prop) (mb:Nat) (b:By) (fr:Nat):Prop:=
 ∃(mp:Nat) (m:List (Int×Nat)),S mb∧S mp∧mp≠mb∧Blk w mb #[.map (some mp),.int .i64 fr] 217∧MapAt w mp .i64 (pgMap m)∧PgsAt w (fun k=>S k∧k≠mb∧k≠mp) m b
theorem PgsAt.chg {w w':World} {S S':Nat→Prop} {m:List (Int×Nat)} {b:By} (h:PgsAt w S m b) (c:Chg S' w w') (hs:∀k,S k→¬S' k):PgsAt w' S m b:=
 ⟨fun p hp=>by obtain ⟨h1,h2,h3⟩:=h.blk p hp;exact ⟨h1,h2,c.blk h3 (hs _ h1)⟩,h.inj,h.key,h.no,h.ok⟩
theorem PgsAt.mono {w:World} {S S':Nat→Prop} {m:List (Int×Nat)} {b:By} (h:PgsAt w S m b) (hs:∀k,k<w.heap.size→S k→S' k):PgsAt w S' m b:=
 ⟨fun p hp=>by obtain ⟨h1,h2,h3⟩:=h.blk p hp;exact ⟨hs _ h3.lt h1,h2,h3⟩,h.inj,h.key,h.no,h.ok⟩
theorem MemAt.chg {w w':World} {S S':Nat→Prop} {mb:Nat} {b:By} {fr:Nat} (h:MemAt w S mb b fr) (c:Chg S' w w') (hs:∀k,S k→¬S' k):MemAt w' S mb b fr:=by
 obtain ⟨mp,m,h1,h2,h3,h4,h5,h6⟩:=h
 exact ⟨mp,m,h1,h2,h3,c.blk h4 (hs _ h1),h5.chg c (hs _ h2),h6.chg c fun k hk=>hs k hk.1⟩
theorem MemAt.chg0 {w w':World} {S:Nat→Prop} {mb:Nat} {b:By} {fr:Nat} (h:MemAt w S mb b fr) (c:Chg NoB w w'):MemAt w' S mb b fr:=h.chg c fun _ _=>id
theorem MemAt.mono {w:World} {S S':Nat→Prop} {mb:Nat} {b:By} {fr:Nat} (h:MemAt w S mb b fr) (hs:∀k,k<w.heap.size→S k→S' k):MemAt w S' mb b fr:=by
 obtain ⟨mp,m,h1,h2,h3,h4,h5,h6⟩:=h
 exact ⟨mp,m,hs _ h4.lt h1,hs _ h5.lt h2,h3,h4,h5,h6.mono fun k hk h=>⟨hs k hk h.1,h.2⟩⟩
theorem pgMap_look {m:List (Int×Nat)} {f:Int} {v:Value} (h:mlook (pgMap m) f=some v):∃g,v = .pointer (some ⟨g,0,none⟩)∧(f,g)∈m:=by
 unfold mlook pgMap at h
 rw [List.find?_map] at h
 cases hf:m.find? ((fun p:Int×Value=>p.1 == f) ∘ fun p:Int×Nat=>(p.1,Value.pointer (some ⟨p.2,0,none⟩))) with
 | none=>rw [hf] at h;cases h
 | some p=>
  rw [hf] at h
  have h1:=List.find?_some hf
  simp at h1
  cases h
  exact ⟨p.2,rfl,by rw [←h1];exact List.mem_of_find?_eq_some hf⟩
theorem look_none {m:List (Int×Nat)} {f:Int} (h:mlook (pgMap m) f=none):∀p∈m,p.1≠f:=fun p hp e=>by
 have:(mlook (pgMap m) f).isSome=true:=by
  unfold mlook pgMap
  rw [Option.isSome_map,List.find?_isSome]
  exact ⟨(p.1,.pointer (some ⟨p.2,0,none⟩)),List.mem_map.2 ⟨p,hp,rfl⟩,by simp [e]⟩
 rw [h] at this
 cases this
theorem pgMap_put (m:List (Int×Nat)) (f:Int) (g:Nat):mput (pgMap m) f (.pointer (some ⟨g,0,none⟩))=pgMap (putI m f g):=by
 induction m with
 | nil=>rfl
 | cons p m ih=>
  show (if p.1=f then _ else _)=pgMap (if p.1=f then _ else _)
  by_cases h:p.1=f
  ·rw [if_pos h,if_pos h];rfl
  ·rw [if_neg h,if_neg h]
   show _ :: mput (pgMap m) f _=_
   rw [ih]
   rfl
theorem putI_none {m:List (Int×Nat)} {f:Int} {g:Nat} (h:mlook (pgMap m) f=none):putI m f g=m ++ [(f,g)]:=by
 induction m with
 | nil=>rfl
 | cons p m ih=>
  have hne:p.1≠f:=fun e=>by
   unfold mlook pgMap at h
   simp [e] at h
  show (if p.1=f then _ else _)=_
  rw [if_neg hne,ih,List.cons_append]
  unfold mlook pgMap at h ⊢
  simpa [hne] using h
theorem zeroPage:Tryz.zeroCells286=(bcells (fun _=>0) 4096).toArray:=by kernel_rfl
theorem PPinfo:(Tryz.prog.info? 240).map (fun i=>(i.zero,i.size,i.bytes))=some (some (.pointer none),1,8):=by kernel_rfl
theorem frames_any {S:Nat→Prop} {w:World} {mb fr:Nat} {b:By} (h:MemAt w S mb b fr):Calls Tryz.prog 94 #[.pointer (some ⟨mb,0,none⟩)] w (RetW (.int .i64 fr) fun w'=>w'=w):=by
 obtain ⟨mp,m,h1,h2,h3,h4,h5,h6⟩:=h
 have e1:=h4.cell' (i:=1) (v:=.int .i64 fr) rfl
 have hl:=h4.lt
 clear h1 h2 h3 h4 h5 h6;go_enter Tryz.func94,Tryz.ntmps94;go_wp2_with fail;go_ret;exact ⟨rfl,rfl⟩
def checkF (fr at':Nat) (size:Int):Int:=if sizeB size=false then 2 else if alignedB at' size=false then 60 else if fr≤at' / 4096 then 61 else 0
theorem check_any {S:Nat→Prop} {w:World} {mb fr:Nat} {b:By} (h:MemAt w S mb b fr) (at':Nat) (size:Int) (ha:at'<18446744073709551616) (hf:fr≤1048576) :
  Calls Tryz.prog 91 #[.pointer (some ⟨mb,0,none⟩),.int .u64 at',.int .i64 size] w (RetW (.int .i64 (checkF fr at' size)) fun w'=>w'=w):=by
 obtain ⟨mp,m,h1,h2,h3,h4,h5,h6⟩:=h
 have e1:=h4.cell' (i:=1) (v:=.int .i64 fr) rfl
 have hl:=h4.lt
 have H0:=Lib.hid (size_any size w)
 have H1:=Lib.hid (aligned_any at' size w ha)
 obtain ⟨b0,hb0⟩:∃x,sizeB size=x:=⟨_,rfl⟩
 obtain ⟨b1,hb1⟩:∃x,alignedB at' size=x:=⟨_,rfl⟩
 obtain ⟨b2,hb2⟩:∃x,decide (fr≤at' / 4096)=x:=⟨_,rfl⟩
 have HR:Hid (checkF fr at' size=if b0=false then 2 else if b1=false then 60 else if b2=true then 61 else 0):=Lib.hid (by
  unfold checkF
  rw [hb0,hb1]
  simp only [←hb2,decide_eq_true_eq])
 rw [hb0] at H0
 rw [hb1] at H1
 have c1:(fr:Int)%18446744073709551616=fr:=by omega
 have t1:decide ((fr:Int)≤(at':Int) / 4096)=b2:=by rw [←hb2,Bool.eq_iff_iff,decide_eq_true_iff,decide_eq_true_iff];omega
 have t2:decide (fr≤at' / 4096)=b2:=hb2
 clear h1 h2 h3 h4 h5 h6 hb0 hb1 hb2;go_enter Tryz.func91,Tryz.ntmps91;cases b0
 ·go_wp2_with fail;with_reducible refine H0.out.mono ?_
  rintro e w1 ⟨rfl,hw1⟩;subst hw1;go_wp2_with fail;go_ret;exact ⟨by rw [HR.out];rfl,rfl⟩
 ·go_wp2_with fail;with_reducible refine H0.out.mono ?_
  rintro e w1 ⟨rfl,hw1⟩;subst hw1;go_wp2_with fail;with_reducible refine H1.out.mono ?_
  rintro e w2 ⟨rfl,hw2⟩;subst hw2;cases b1
  ·go_wp2_with fail;go_ret;exact ⟨by rw [HR.out];rfl,rfl⟩
  ·cases b2
   all_goals
    go_wp2_with fail;go_ret;exact ⟨by rw [HR.out];rfl,rfl⟩
theorem getW_zero {b:By} : ∀(n a:Nat),(∀i,a≤i→i<a+n→b i=0)→getW b a n=0
 | 0,a,_=>rfl
 | n+1,a,h=>by
  show b a+256*getW b (a+1) n=0
  rw [h a (Nat.le_refl _) (by omega),getW_zero n (a+1) fun i h1 h2=>h i (by omega) (by omega)]
theorem align_in {at' s:Nat} (h:alignedB at' s=true):sizeB s=true∧at'%4096+s≤4096∧1≤s∧s≤8:=by
 unfold alignedB at h
 rw [Bool.and_eq_true] at h
 obtain ⟨h1,h2⟩:=h
 have h3:=of_decide_eq_true h2
 refine ⟨h1,?_⟩
 rcases sizeB_of h1 with e | e | e | e
 all_goals
  rw [e] at h3
  simp at h3
  omega
theorem blk_sl4 {w:World} {g:Nat} {h:By} {T:TypeId} (hb:Blk w g (bcells h 4096).toArray T):Sl w (fun _=>True) 1 (.slice (some ⟨g,0,none⟩) 4096 4096) 4096 (bcells h 4096):=
 Sl.of (by rw [bcells_len]) (Nat.le_refl _) trivial hb.lt fun j u hu=>hb.cell' (by rw [Nat.zero_add];simpa using hu)
theorem load_any {S:Nat→Prop} {w:World} {mb fr:Nat} {b:By} (h:MemAt w S mb b fr) (at' s:Nat) (ha:at'<18446744073709551616) (hal:alignedB at' s=true) :
  Calls Tryz.prog 165 #[.pointer (some ⟨mb,0,none⟩),.int .u64 at',.int .i64 s] w (RetW (.int .u64 (getW b at' s)) fun w'=>w'=w):=by
 obtain ⟨mp,m,h1,h2,h3,h4,h5,h6⟩:=h
 obtain ⟨hs,hin,hs1,hs8⟩:=align_in hal
 have e0:=h4.cell' (i:=0) (v:=.map (some mp)) rfl
 have hl:=h4.lt
 obtain ⟨pi,hpi,pz0,pz1,pz2⟩:=info_parts PPinfo
 have hlk:=run_look1 (P:=Tryz.prog) Tryz.underlying215 Tryz.underlying3 hpi pz0 h5 ((at' / 4096:Nat):Int)
 rw [show (((at' / 4096:Nat):Int))=(at':Int) / 4096 by omega] at hlk
 have k1:(at':Int) / 4096≤9223372036854775807:=by omega
 cases hm:mlook (pgMap m) ((at':Int) / 4096) with
 | none=>
  have HZ:Hid (getW b at' s=0):=Lib.hid (getW_zero s at' fun i i1 i2=>by
   have:=h6.no (at' / 4096) (by rw [show (((at' / 4096:Nat):Int))=(at':Int) / 4096 by omega];exact hm) (i - 4096*(at' / 4096)) (by omega)
   rwa [show 4096*(at' / 4096)+(i - 4096*(at' / 4096))=i by omega] at this)
  rw [hm,Option.getD_none] at hlk
  clear h1 h2 h3 h4 h5 h6 hm hal hin hs;go_enter Tryz.func165,Tryz.ntmps165;go_wp2_with fail;go_ret;exact ⟨by rw [HZ.out];rfl,rfl⟩
 | some v=>
  obtain ⟨g,rfl,hg⟩:=pgMap_look hm
  obtain ⟨g1,g2,g3⟩:=h6.blk _ hg
  have hpg:pgF b ((at':Int) / 4096).toNat=pgF b (at' / 4096):=by rw [show ((at':Int) / 4096).toNat=at' / 4096 by omega]
  have HG:=Lib.hid (get_any _ (pgF b (at' / 4096)) (fun i=>h6.ok _) (.slice (some ⟨g,0,none⟩) 4096 4096) 4096 (at'%4096) s w (by rw [←hpg];exact blk_sl4 g3) (by omega) hs hin)
  have HV:Hid (getW (pgF b (at' / 4096)) (at'%4096) s=getW b at' s):=Lib.hid (by rw [getW_pg,Nat.div_add_mod])
  rw [HV.out,show ((at'%4096:Nat):Int)=(at':Int)%4096 by omega] at HG
  have hgl:=g3.lt
  rw [hm,Option.getD_some] at hlk
  clear h1 h2 h3 h4 h5 h6 hm hal hin hs hg g1 g2 g3 hpg;go_enter Tryz.func165,Tryz.ntmps165;go_wp2_with fail;with_reducible refine HG.out.mono ?_
  rintro e w1 ⟨rfl,hw1⟩;subst hw1;go_wp2_with fail;go_ret;exact ⟨rfl,rfl⟩
theorem own_any {S:Nat→Prop} {w:World} {mb fr:Nat} {b:By} (h:MemAt w S mb b fr) (f:Nat) :
  Calls Tryz.prog 93 #[.pointer (some ⟨mb,0,none⟩),.int .i64 f] w (RetPtr fun g w'=>∃(mp:Nat) (m:List (Int×Nat)),Grow S w mb∧Grow S w mp∧mp≠mb∧Blk w' mb #[.map (some mp),.int .i64 fr] 217∧MapAt w' mp .i64 (pgMap m)∧
   PgsAt w' (fun k=>Grow S w k∧k≠mb∧k≠mp) m b∧((f:Int),g)∈m∧Chg S w w'):=by
 obtain ⟨mp,m,h1,h2,h3,h4,h5,h6⟩:=h
 have e0:=h4.cell' (i:=0) (v:=.map (some mp)) rfl
 have hl:=h4.lt
 obtain ⟨pi,hpi,pz0,pz1,pz2⟩:=info_parts PPinfo
 have hlk:=run_look1 (P:=Tryz.prog) Tryz.underlying215 Tryz.underlying3 hpi pz0 h5 f
 cases hm:mlook (pgMap m) f with
 | some v=>
  obtain ⟨g,rfl,hg⟩:=pgMap_look hm
  rw [hm,Option.getD_some] at hlk
  have HE:Hid (∃(mp:Nat) (m:List (Int×Nat)),Grow S w mb∧Grow S w mp∧mp≠mb∧Blk w mb #[.map (some mp),.int .i64 fr] 217∧MapAt w mp .i64 (pgMap m)∧
   PgsAt w (fun k=>Grow S w k∧k≠mb∧k≠mp) m b∧((f:Int),g)∈m∧Chg S w w):=Lib.hid ⟨mp,m,.inl h1,.inl h2,h3,h4,h5,h6.mono fun k hk h=>⟨.inl h.1,h.2⟩,hg,Chg.refl _ _⟩
  clear h1 h2 h3 h4 h5 h6 hm hg;go_enter Tryz.func93,Tryz.ntmps93;go_wp2_with fail;go_ret;exact ⟨_,rfl,HE.out⟩
 | none=>
  rw [hm,Option.getD_none] at hlk
  have HM:=Lib.hid hm
  have H1:=Lib.hid h1
  have H2:=Lib.hid h2
  have H3:=Lib.hid h3
  have H4:=Lib.hid h4
  have H5:=Lib.hid h5
  have H6:=Lib.hid h6
  have A1:=(Chg.refl NoB w).alloc (.cells Tryz.zeroCells286 286)
  have e1:=A1.cell e0 id
  have hM1:=h5.chg A1 id
  clear h1 h2 h3 h4 h5 h6 hm;go_enter Tryz.func93,Tryz.ntmps93;go_wp2_with (refine wpList_mapput rfl _ _ _ 215 3 240 rfl Tryz.underlying215 Tryz.underlying3 rfl hM1 f rfl (.pointer (some ⟨w.heap.size,0,none⟩)) rfl ?_)
  intro w2 hM2 C2;go_wp2_with fail;go_ret;have hB:=HM.out
  have G6:=H6.out
  refine ⟨w.heap.size,rfl,mp,m ++ [((f:Int),w.heap.size)],.inl H1.out,.inl H2.out,H3.out,?_,?_,⟨?_,?_,?_,?_,G6.ok⟩,by simp,?_⟩
  ·exact C2.blk (A1.blk0 H4.out) (fun e=>H3.out e.symm)
  ·rw [pgMap_put,putI_none hB] at hM2
   exact hM2
  ·intro p hp;rcases List.mem_append.1 hp with hp | hp
   ·obtain ⟨g1,g2,g3⟩:=G6.blk p hp
    exact ⟨⟨.inl g1.1,g1.2⟩,g2,C2.blk (A1.blk0 g3) g1.2.2⟩
   ·rw [List.mem_singleton] at hp
    subst hp;have hlt:=H4.out.lt
    have hlt2:=H5.out.lt
    refine ⟨⟨.inr (Nat.le_refl _),by show w.heap.size≠mb;omega,by show w.heap.size≠mp;omega⟩,by show (0:Int)≤f;omega,?_⟩
    have h0:bcells (pgF b (f:Int).toNat) 4096=bcells (fun _=>0) 4096:=bcells_congr fun i hi=>G6.no f hB i hi
    show Blk w2 w.heap.size (bcells (pgF b (f:Int).toNat) 4096).toArray 286
    rw [h0,←zeroPage]
    exact C2.blk (Blk.new w _ _) (fun e=>by omega)
  ·intro p hp q hq e;rcases List.mem_append.1 hp with hp | hp
   ·rcases List.mem_append.1 hq with hq | hq
    ·exact G6.inj p hp q hq e
    ·rw [List.mem_singleton] at hq
     subst hq;have:=(G6.blk p hp).2.2.lt
     omega
   ·rw [List.mem_singleton] at hp
    subst hp;rcases List.mem_append.1 hq with hq | hq
    ·have:=(G6.blk q hq).2.2.lt
     omega
    ·rw [List.mem_singleton] at hq
     subst hq;rfl
  ·intro p hp q hq e;have hno:=look_none hB
   rcases List.mem_append.1 hp with hp | hp
   ·rcases List.mem_append.1 hq with hq | hq
    ·exact G6.key p hp q hq e
    ·rw [List.mem_singleton] at hq
     subst hq;exact absurd e (hno p hp)
   ·rw [List.mem_singleton] at hp
    subst hp;rcases List.mem_append.1 hq with hq | hq
    ·exact absurd e.symm (hno q hq)
    ·rw [List.mem_singleton] at hq
     subst hq;rfl
  ·intro k hk;apply G6.no k
   cases hmk:mlook (pgMap m) k with
   | none=>rfl
   | some v=>
    obtain ⟨g,-,hg⟩:=pgMap_look hmk
    have:(mlook (pgMap (m ++ [((f:Int),w.heap.size)])) k).isSome=true:=by
     unfold mlook pgMap
     rw [Option.isSome_map,List.find?_isSome]
     exact ⟨(k,.pointer (some ⟨g,0,none⟩)),List.mem_map.2 ⟨(k,g),List.mem_append_left _ hg,rfl⟩,by simp⟩
    rw [hk] at this
    cases this
  ·exact (A1.mono (S':=S) fun _ _ h=>h.elim).trans C2 fun k _ e=>by rw [e];exact H2.out
theorem check_zero {fr at':Nat} {s:Int} (h:checkF fr at' s=0):alignedB at' s=true∧at' / 4096<fr:=by
 unfold checkF at h
 split at h
 ·cases h
 ·split at h
  ·cases h
  ·split at h
   ·cases h
   ·rename_i h2 h3
    exact ⟨by simpa using h2,by omega⟩
theorem check_ok {fr at' s:Nat} (h:alignedB at' s=true) (hf:at' / 4096<fr):checkF fr at' s=0:=by
 have hs:=(align_in h).1
 unfold checkF
 rw [if_neg (by rw [hs];simp),if_neg (by rw [h];simp),if_neg (by omega)]
theorem Load_any {S:Nat→Prop} {w:World} {mb fr:Nat} {b:By} (h:MemAt w S mb b fr) (at' s:Nat) (ha:at'<18446744073709551616) (hf:fr≤1048576) :
  Calls Tryz.prog 127 #[.pointer (some ⟨mb,0,none⟩),.int .u64 at',.int .i64 s] w (RetW (.tuple #[.int .u64 ((if checkF fr at' s=0 then getW b at' s else 0:Nat):Int),.int .i64 (checkF fr at' s)]) fun w'=>w'=w):=by
 have H0:=Lib.hid (check_any h at' s ha hf)
 by_cases hc:checkF fr at' s=0
 ·have H1:=Lib.hid (load_any h at' s ha (check_zero hc).1)
  rw [if_pos hc,hc]
  rw [hc] at H0
  clear h hc;go_enter Tryz.func127,Tryz.ntmps127;go_wp2_with fail;with_reducible refine H0.out.mono ?_
  rintro e w1 ⟨rfl,hw1⟩;subst hw1;go_wp2_with fail;with_reducible refine H1.out.mono ?_
  rintro e w2 ⟨rfl,hw2⟩;subst hw2;go_wp2_with fail;go_ret2
  exact ⟨rfl,rfl⟩
 ·rw [if_neg hc]
  have t1:(checkF fr at' s == 0)=false:=beq_eq_false_iff_ne.2 hc
  have t2:(checkF fr at' s != 0)=true:=by rw [bne,t1];rfl
  generalize checkF fr at' s=c at *;clear h hc;go_enter Tryz.func127,Tryz.ntmps127;go_wp2_with fail;with_reducible refine H0.out.mono ?_
  rintro e w1 ⟨rfl,hw1⟩;subst hw1;go_wp2_with fail;go_ret2
  exact ⟨rfl,rfl⟩
theorem PgsAt.put {w w':World} {S:Nat→Prop} {m:List (Int×Nat)} {b:By} (h:PgsAt w S m b) {f g a s v:Nat} (hg:((f:Int),g)∈m) (c:Chg (· = g) w w') (hb:Blk w' g (bcells (putW (pgF b f) a s v) 4096).toArray 286) (ha:a+s≤4096) :
  PgsAt w' S m (putW b (4096*f+a) s v):=by
 refine ⟨fun p hp=>?_,h.inj,h.key,fun k hk i hi=>?_,putW_ok h.ok _ _ _⟩
 ·obtain ⟨h1,h2,h3⟩:=h.blk p hp
  refine ⟨h1,h2,?_⟩
  by_cases e:p.2=g
  ·have e1:p.1=(f:Int):=h.inj p hp _ hg e
   rw [e,e1,show ((f:Int)).toNat=f by omega,←putW_pg]
   exact hb
  ·have hne:p.1.toNat≠f:=fun e2=>e (h.key p hp _ hg (by show p.1=(f:Int);omega))
   rw [bcells_congr (putW_pg_ne b hne ha)]
   exact c.blk h3 e
 ·have hne:k≠f:=fun e=>look_none hk _ hg (by rw [e])
  have:=putW_pg_ne b (n:=s) (v:=v) hne ha i hi
  have h0:=h.no k hk i hi
  unfold pgF at this
  rw [this,h0]
theorem Store_any {S:Nat→Prop} {w:World} {mb fr:Nat} {b:By} (h:MemAt w S mb b fr) (at' s v:Nat) (ha:at'<18446744073709551616) (hf:fr≤1048576) (hv:v<18446744073709551616) (hal:alignedB at' s=true) (hlt:at' / 4096<fr) :
  Calls Tryz.prog 68 #[.pointer (some ⟨mb,0,none⟩),.int .u64 at',.int .i64 s,.int .u64 v] w (RetW (.int .i64 0) fun w'=>MemAt w' (Grow S w) mb (putW b at' s v) fr∧Chg S w w'):=by
 have H0:=Lib.hid (check_any h at' s ha hf)
 rw [check_ok hal hlt] at H0
 obtain ⟨hs,hin,hs1,hs8⟩:=align_in hal
 have HO:=Lib.hid (own_any h (at' / 4096))
 rw [show ((at' / 4096:Nat):Int)=(at':Int) / 4096 by omega] at HO
 have k1:(at':Int) / 4096≤9223372036854775807:=by omega
 have HS:=Lib.hid hs
 clear h hal hs;go_enter Tryz.func68,Tryz.ntmps68;go_wp2_with fail;with_reducible refine H0.out.mono ?_
 rintro e w1 ⟨rfl,hw1⟩;subst hw1;go_wp2_with fail;with_reducible refine HO.out.mono ?_
 rintro e w2 ⟨g,rfl,mp,m,h1,h2,h3,h4,h5,h6,hg,C2⟩;rw [show (at':Int) / 4096=((at' / 4096:Nat):Int) by omega] at hg
 obtain ⟨g1,g2,g3⟩:=h6.blk _ hg
 have g3:Blk w2 g (bcells (pgF b (at' / 4096)) 4096).toArray 286:=by
  have:(((at' / 4096:Nat):Int)).toNat=at' / 4096:=by omega
  rw [←this]
  exact g3
 have HP:=Lib.hid (put_any (pgF b (at' / 4096)) g 4096 (at'%4096) s v 4096 286 w2 g3 (by omega) (by omega) HS.out hin hv)
 rw [show ((at'%4096:Nat):Int)=(at':Int)%4096 by omega] at HP
 have hgl:=g3.lt
 have HE:=Lib.hid (And.intro h1 (And.intro h2 (And.intro h3 (And.intro h4 (And.intro h5 (And.intro h6 (And.intro hg (And.intro g1 C2))))))))
 clear h1 h2 h3 h4 h5 h6 hg g1 g2 g3 C2;go_wp2_with fail;with_reducible refine HP.out.mono ?_
 rintro e w3 ⟨rfl,hb3,C3⟩;have HB3:=Lib.hid hb3
 have HC3:=Lib.hid C3
 clear hb3 C3;go_wp2_with fail;go_ret;obtain ⟨h1,h2,h3,h4,h5,h6,hg,g1,C2⟩:=HE.out
 have hP:=h6.put hg HC3.out HB3.out hin
 rw [show 4096*(at' / 4096)+at'%4096=at' by omega] at hP
 exact ⟨rfl,⟨mp,m,h1,h2,h3,HC3.out.blk h4 (fun e=>g1.2.1 e.symm),h5.chg HC3.out (fun e=>g1.2.2 e.symm),hP⟩,C2.trans HC3.out fun k hk e=>by
  rw [e]
  rcases g1.1 with h | h
  ·exact h
  ·have:k=g:=e
   omega⟩
end Go.Proofs.YtjhnnjgnkkjmkaaGreatDoor
