/- Instructions: their kinds, and which ones are right; what the program and the reference say of them. No condition. Instructions by the reference: rows, parts, right ones. No condition. Instructions by the reference: parts, right ones. No condition. -/
import Derived.Test.YtjhnnjgnkkjmkaaGreatDoorProg
import Derived.Test.YtjhnnjgnkkjmkaaGreatDoorGa
import Derived.Deep.CutBlock
set_option maxHeartbeats 2000000
set_option maxRecDepth 100000
set_option linter.unusedVariables false
namespace Go.Proofs.YtjhnnjgnkkjmkaaGreatDoor
open Go.RowKit Go.RR
structure In where
 op:Int
 rd:Int
 rs:Int
 rt:Int
 im:Int
deriving DecidableEq
def In.cells (i:In):List Value:=[.int .i64 i.op,.int .i64 i.rd,.int .i64 i.rs,.int .i64 i.rt,.int .i64 i.im]
inductive Kd | z | N | I | RI | R | U | B | J | L | S | A
deriving DecidableEq
def Kd.s:Kd→ByteArray
 | .z=>⟨#[]⟩ | .N=>⟨#[78]⟩ | .I=>⟨#[73]⟩ | .RI=>⟨#[82,73]⟩ | .R=>⟨#[82]⟩ | .U=>⟨#[85]⟩ | .B=>⟨#[66]⟩ | .J=>⟨#[74]⟩ | .L=>⟨#[76]⟩ | .S=>⟨#[83]⟩ | .A=>⟨#[65]⟩
def Kd.chr:Kd→Int
 | .z=>0 | .N=>78 | .I=>73 | .RI=>114 | .R=>82 | .U=>85 | .B=>66 | .J=>74 | .L=>76 | .S=>83 | .A=>65
def kdL:List Kd:=[.N,.I,.RI,.RI,.R,.R,.R,.R,.R,.R,.R,.R,.R,.U,.U,.B,.B,.B,.J,.L,.L,.L,.L,.L,.L,.L,.S,.S,.S,.S,.A,.A,.A,.A,.N]
def kd (o:Int):Kd:=if 0≤o then kdL.getD o.toNat .z else .z
def Kd.d:Kd→Bool
 | .I | .J | .RI | .L | .R | .A | .U=>true
 | _=>false
def Kd.q:Kd→Bool
 | .RI | .L | .R | .A | .U | .B | .S=>true
 | _=>false
def Kd.t:Kd→Bool
 | .R | .A | .B | .S=>true
 | _=>false
def Kd.i:Kd→Bool
 | .I | .J | .RI | .L | .B | .S=>true
 | _=>false
def okr (r:Int) (h:Bool):Bool:=(decide (r=0) || h) && decide (0≤r) && decide (r≤15)
def rightB (i:In):Bool:=!decide (kd i.op = .z) && decide (-2048≤i.im) && decide (i.im≤2047) && okr i.rd (kd i.op).d && okr i.rs (kd i.op).q && okr i.rt (kd i.op).t && (decide (i.im=0) || (kd i.op).i)
theorem name_any (k:Kd) (hk:k≠.z) (w:World):Calls Tryz.prog 224 #[.int .u8 k.chr] w fun e w'=>e = .returned (.string k.s)∧w=w':=by
 cases k
 case z=>exact absurd rfl hk
 all_goals
  simp only [Kd.chr,Kd.s]
  go_enter Tryz.func224,Tryz.ntmps224;go_wp2
  go_ret;exact ⟨rfl,rfl⟩
theorem kinds_at (n:Nat) (hn:n<35) (w:World):(Instr.index 9 (.string ⟨#[78,73,114,114,82,82,82,82,82,82,82,82,82,85,85,66,66,66,74,76,76,76,76,76,76,76,83,83,83,83,65,65,65,65,78]⟩) (.int .i64 (n:Int))).run Tryz.prog w = .ok (.int .u8 (kd n).chr) w:=by
 iterate 35 (rcases n with _ | n;· kernel_rfl)
 omega
theorem kd_in (n:Nat) (hn:n<35):kd (n:Int)≠.z:=by
 revert n;decide
theorem kd_neg {o:Int} (h:o<0):kd o = .z:=by unfold kd;rw [if_neg (by omega)]
theorem kd_big {o:Int} (h:35≤o):kd o = .z:=by
 unfold kd
 rw [if_pos (by omega),List.getD_eq_getElem?_getD,List.getElem?_eq_none (by have:kdL.length=35:=rfl;omega)]
 rfl
theorem kind_any (o:Int) (w:World):Calls Tryz.prog 197 #[.int .i64 o] w fun e w'=>e = .returned (.string (kd o).s)∧w=w':=by
 by_cases h0:o<0
 ·rw [kd_neg h0]
  go_enter Tryz.func197,Tryz.ntmps197;go_wp2
  go_ret;exact ⟨rfl,rfl⟩
 ·by_cases h1:35≤o
  ·rw [kd_big h1]
   go_enter Tryz.func197,Tryz.ntmps197;go_wp2
   go_ret;exact ⟨rfl,rfl⟩
  ·obtain ⟨n,rfl⟩:=Int.eq_ofNat_of_zero_le (by omega:0≤o)
   have hn:n<35:=by omega
   have k1:=kinds_at n hn
   have k2:=kd_in n hn
   have b0:((n:Int)<0)=False:=by simp
   have b1:decide ((35:Int)≤n)=false:=by simp;omega
   clear h0 h1;go_enter Tryz.func197,Tryz.ntmps197;go_wp2_with (go_at_call 224;refine (name_any _ k2 _).mono ?_;rintro e w' ⟨rfl,rfl⟩)
   go_ret;exact ⟨rfl,rfl⟩
theorem has_any (k:Kd) (w:World):Calls Tryz.prog 223 #[.string k.s] w fun e w'=>e = .returned (.agg #[.bool k.d,.bool k.q,.bool k.t,.bool k.i])∧Chg NoB w w':=by
 cases k
 all_goals
  simp only [Kd.s,Kd.d,Kd.q,Kd.t,Kd.i]
  go_enter Tryz.func223,Tryz.ntmps223;go_wp2
  exact bodyPost_ret (by simp [results,Tryz.results223,go_sem]) rfl ⟨rfl,(Chg.refl _ _).alloc _⟩
theorem okr_of {r:Int} {h:Bool} (h1:r≠0→h=true) (h2:0≤r) (h3:r≤15):okr r h=true:=by
 unfold okr
 by_cases e:r=0
 ·simp [e]
 ·simp [h1 e,h2,h3]
theorem okr_no {r:Int} {h:Bool} (h1:(r≠0∧h=false)∨r<0∨15<r):okr r h=false:=by
 unfold okr
 rcases h1 with ⟨a,b⟩ | a | a
 ·simp [a,b]
 ·have:¬0≤r:=by omega
  simp [this]
 ·have:¬r≤15:=by omega
  simp [this]
def partOk (i:In):Nat→Bool
 | 0=>okr i.rd (kd i.op).d
 | 1=>okr i.rs (kd i.op).q
 | 2=>okr i.rt (kd i.op).t
 | _=>decide (i.im=0) || (kd i.op).i
theorem rightB_of {i:In} (h:kd i.op≠.z) (h1 : -2048≤i.im) (h2:i.im≤2047) (h3:∀n,n<4→partOk i n=true):rightB i=true:=by
 have a:=h3 0 (by omega)
 have b:=h3 1 (by omega)
 have c:=h3 2 (by omega)
 have d:=h3 3 (by omega)
 simp only [partOk] at a b c d
 unfold rightB
 simp [h,h1,h2,a,b,c]
 simpa using d
theorem rightB_no {i:In} {n:Nat} (h:n<4) (h3:partOk i n=false):rightB i=false:=by
 unfold rightB
 match n,h with
 | 0,_=>simp only [partOk] at h3;simp [h3]
 | 1,_=>simp only [partOk] at h3;simp [h3]
 | 2,_=>simp only [partOk] at h3;simp [h3]
 | 3,_=>simp only [partOk] at h3;simp [h3]
theorem rightB_kind {i:In} (h:kd i.op = .z):rightB i=false:=by simp [rightB,h]
theorem rightB_low {i:In} (h:i.im < -2048):rightB i=false:=by
 have:¬-2048≤i.im:=by omega
 simp [rightB,this]
theorem rightB_high {i:In} (h:2047<i.im):rightB i=false:=by
 have:¬i.im≤2047:=by omega
 simp [rightB,this]
theorem ret_bool {a b:Bool} (h:a=b):Ending.returned (.bool a) = .returned (.bool b):=by rw [h]
theorem kd_z1 {k:Kd} (h:k≠.z):(k.s.toList = [])=False:=eq_false (by cases k <;> first | exact absurd rfl h | decide +kernel)
theorem kd_z2 {k:Kd} (h:k≠.z):k.s.toList.isEmpty=false:=by cases k <;> first | exact absurd rfl h | decide +kernel
theorem right_any (i:In) (w:World):Calls Tryz.prog 196 #[.agg #[.int .i64 i.op,.int .i64 i.rd,.int .i64 i.rs,.int .i64 i.rt,.int .i64 i.im]] w (RetW (.bool (rightB i)) fun w'=>Chg NoB w w'):=by
 obtain ⟨k,hk⟩:∃k,kd i.op=k:=⟨_,rfl⟩
 have HK:=Lib.hid hk
 by_cases hz:k = .z
 ·subst hz;clear hk;go_enter Tryz.func196,Tryz.ntmps196;go_wp2_with fail;refine (kind_any _ _).mono ?_
  rintro e w' ⟨rfl,rfl⟩;rw [HK.out]
  simp only [Kd.s]
  go_wp2
  go_ret;exact ⟨ret_bool (rightB_kind HK.out).symm,(Chg.refl _ _).alloc _⟩
 ·have hz1:=kd_z1 hz
  have hz2:=kd_z2 hz
  clear hk;have HZ:=Lib.hid hz
  clear hz;by_cases hl:i.im < -2048
  ·go_enter Tryz.func196,Tryz.ntmps196;go_wp2_with fail;refine (kind_any _ _).mono ?_
   rintro e w' ⟨rfl,rfl⟩;rw [HK.out]
   go_wp2
   go_ret;exact ⟨ret_bool (rightB_low hl).symm,(Chg.refl _ _).alloc _⟩
  ·by_cases hh:2047<i.im
   ·go_enter Tryz.func196,Tryz.ntmps196;go_wp2_with fail;refine (kind_any _ _).mono ?_
    rintro e w' ⟨rfl,rfl⟩;rw [HK.out]
    go_wp2
    go_ret;exact ⟨ret_bool (rightB_high hh).symm,(Chg.refl _ _).alloc _⟩
   ·have q1:decide (i.im < -2048)=false:=by simp;omega
    have q2:decide (2047<i.im)=false:=by simp;omega
    have HL:=Lib.hid hl
    have HH:=Lib.hid hh
    clear hl hh;go_enter Tryz.func196,Tryz.ntmps196;go_wp2_with fail;refine (kind_any _ _).mono ?_
    rintro e w' ⟨rfl,rfl⟩;rw [HK.out]
    go_wp2_with fail;refine (has_any k _).mono ?_
    rintro e w1 ⟨rfl,C1⟩;obtain ⟨bd,hd⟩:∃b,k.d=b:=⟨_,rfl⟩
    obtain ⟨bq,hq⟩:∃b,k.q=b:=⟨_,rfl⟩
    obtain ⟨bt,ht⟩:∃b,k.t=b:=⟨_,rfl⟩
    obtain ⟨bi,hi⟩:∃b,k.i=b:=⟨_,rfl⟩
    rw [hd,hq,ht,hi]
    have HD:=Lib.hid hd
    have HQ:=Lib.hid hq
    have HT:=Lib.hid ht
    have HI:=Lib.hid hi
    clear hd hq ht hi;have B1:=C1.blk0 (Blk.new w #[.int .i64 i.op,.int .i64 i.rd,.int .i64 i.rs,.int .i64 i.rt,.int .i64 i.im] 50)
    have x1:=B1.cell' (i:=1) (v:=.int .i64 i.rd) (by rfl)
    have x2:=B1.cell' (i:=2) (v:=.int .i64 i.rs) (by rfl)
    have x3:=B1.cell' (i:=3) (v:=.int .i64 i.rt) (by rfl)
    have x4:=B1.cell' (i:=4) (v:=.int .i64 i.im) (by rfl)
    have xl:=B1.lt
    have HC:=Lib.hid (((Chg.refl NoB w).alloc (.cells #[.int .i64 i.op,.int .i64 i.rd,.int .i64 i.rs,.int .i64 i.rt,.int .i64 i.im] 50)).step C1)
    clear B1 C1;go_wp2_with fail;clear x1 x2 x3 x4;go_loopg [33] 4 (fun g ix wr=>∃n:Nat,n+g=4∧ix = .int .i64 n∧(∀m,m<n→partOk i m=true)∧wr=w1.alloc (.cells #[.bool bd,.bool bq,.bool bt,.bool bi] 400))
    case atStart=>exact ⟨0,by omega,rfl,fun m hm=>by omega,rfl⟩
    case round=>
     obtain ⟨n,hn,rfl,hp,rfl⟩:=hrel
     have HP:=Lib.hid hp
     have hn4:n≤4:=by omega
     have HN:=Lib.hid hn
     clear hp hn;rcases (by omega:n=0∨n=1∨n=2∨n=3∨n=4) with rfl | rfl | rfl | rfl | rfl
     ·
      have ix:=fun w:World=>(show (Instr.index 402 (.agg #[.int .i64 i.rd,.int .i64 i.rs,.int .i64 i.rt,.int .i64 i.im]) (.int .i64 0)).run Tryz.prog w = .ok (.int .i64 i.rd) w by kernel_rfl)
      by_cases h0:i.rd=0
      ·have t0:(i.rd != 0)=false:=by simp [h0]
       have t1:decide (i.rd<0)=false:=by simp;omega
       have t2:decide (15<i.rd)=false:=by simp;omega
       have H0:=Lib.hid h0
       clear h0;rcases bd with _ | _
       all_goals
        go_wp2
        go_roundg (4 - (0+1))
        case measure=>have:=HN.out;omega
        case rel=>
         refine ⟨0+1,by have:=HN.out;omega,by go_num,fun m hm=>?_,rfl⟩
         rcases Nat.lt_succ_iff_lt_or_eq.1 hm with h | rfl
         ·exact HP.out m h
         ·exact (okr_of (fun h=>absurd H0.out h) (by have:=H0.out;omega) (by have:=H0.out;omega))
      ·have t0:(i.rd != 0)=true:=by simp [h0]
       have H0:=Lib.hid h0
       clear h0;rcases bd with _ | _
       ·
        go_wp2
        go_ret;exact ⟨ret_bool (rightB_no (n:=0) (by omega) (okr_no (.inl ⟨H0.out,by rw [HK.out];exact HD.out⟩))).symm,HC.out.alloc _⟩
       ·by_cases h1:i.rd<0
        ·have t1:decide (i.rd<0)=true:=by simp;omega
         have H1:=Lib.hid h1
         clear h1;go_wp2
         go_ret;exact ⟨ret_bool (rightB_no (n:=0) (by omega) (okr_no (.inr (.inl H1.out)))).symm,HC.out.alloc _⟩
        ·have t1:decide (i.rd<0)=false:=by simp;omega
         have H1:=Lib.hid h1
         by_cases h2:15<i.rd
         ·have t2:decide (15<i.rd)=true:=by simp;omega
          have H2:=Lib.hid h2
          clear h1 h2;go_wp2
          go_ret;exact ⟨ret_bool (rightB_no (n:=0) (by omega) (okr_no (.inr (.inr H2.out)))).symm,HC.out.alloc _⟩
         ·have t2:decide (15<i.rd)=false:=by simp;omega
          have H2:=Lib.hid h2
          clear h1 h2;go_wp2
          go_roundg (4 - (0+1))
          case measure=>have:=HN.out;omega
          case rel=>
           refine ⟨0+1,by have:=HN.out;omega,by go_num,fun m hm=>?_,rfl⟩
           rcases Nat.lt_succ_iff_lt_or_eq.1 hm with h | rfl
           ·exact HP.out m h
           ·exact (okr_of (fun h=>by rw [HK.out];exact HD.out) (by have:=H1.out;omega) (by have:=H2.out;omega))
     ·
      have ix:=fun w:World=>(show (Instr.index 402 (.agg #[.int .i64 i.rd,.int .i64 i.rs,.int .i64 i.rt,.int .i64 i.im]) (.int .i64 1)).run Tryz.prog w = .ok (.int .i64 i.rs) w by kernel_rfl)
      by_cases h0:i.rs=0
      ·have t0:(i.rs != 0)=false:=by simp [h0]
       have t1:decide (i.rs<0)=false:=by simp;omega
       have t2:decide (15<i.rs)=false:=by simp;omega
       have H0:=Lib.hid h0
       clear h0;rcases bq with _ | _
       all_goals
        go_wp2
        go_roundg (4 - (1+1))
        case measure=>have:=HN.out;omega
        case rel=>
         refine ⟨1+1,by have:=HN.out;omega,by go_num,fun m hm=>?_,rfl⟩
         rcases Nat.lt_succ_iff_lt_or_eq.1 hm with h | rfl
         ·exact HP.out m h
         ·exact (okr_of (fun h=>absurd H0.out h) (by have:=H0.out;omega) (by have:=H0.out;omega))
      ·have t0:(i.rs != 0)=true:=by simp [h0]
       have H0:=Lib.hid h0
       clear h0;rcases bq with _ | _
       ·
        go_wp2
        go_ret;exact ⟨ret_bool (rightB_no (n:=1) (by omega) (okr_no (.inl ⟨H0.out,by rw [HK.out];exact HQ.out⟩))).symm,HC.out.alloc _⟩
       ·by_cases h1:i.rs<0
        ·have t1:decide (i.rs<0)=true:=by simp;omega
         have H1:=Lib.hid h1
         clear h1;go_wp2
         go_ret;exact ⟨ret_bool (rightB_no (n:=1) (by omega) (okr_no (.inr (.inl H1.out)))).symm,HC.out.alloc _⟩
        ·have t1:decide (i.rs<0)=false:=by simp;omega
         have H1:=Lib.hid h1
         by_cases h2:15<i.rs
         ·have t2:decide (15<i.rs)=true:=by simp;omega
          have H2:=Lib.hid h2
          clear h1 h2;go_wp2
          go_ret;exact ⟨ret_bool (rightB_no (n:=1) (by omega) (okr_no (.inr (.inr H2.out)))).symm,HC.out.alloc _⟩
         ·have t2:decide (15<i.rs)=false:=by simp;omega
          have H2:=Lib.hid h2
          clear h1 h2;go_wp2
          go_roundg (4 - (1+1))
          case measure=>have:=HN.out;omega
          case rel=>
           refine ⟨1+1,by have:=HN.out;omega,by go_num,fun m hm=>?_,rfl⟩
           rcases Nat.lt_succ_iff_lt_or_eq.1 hm with h | rfl
           ·exact HP.out m h
           ·exact (okr_of (fun h=>by rw [HK.out];exact HQ.out) (by have:=H1.out;omega) (by have:=H2.out;omega))
     ·
      have ix:=fun w:World=>(show (Instr.index 402 (.agg #[.int .i64 i.rd,.int .i64 i.rs,.int .i64 i.rt,.int .i64 i.im]) (.int .i64 2)).run Tryz.prog w = .ok (.int .i64 i.rt) w by kernel_rfl)
      by_cases h0:i.rt=0
      ·have t0:(i.rt != 0)=false:=by simp [h0]
       have t1:decide (i.rt<0)=false:=by simp;omega
       have t2:decide (15<i.rt)=false:=by simp;omega
       have H0:=Lib.hid h0
       clear h0;rcases bt with _ | _
       all_goals
        go_wp2
        go_roundg (4 - (2+1))
        case measure=>have:=HN.out;omega
        case rel=>
         refine ⟨2+1,by have:=HN.out;omega,by go_num,fun m hm=>?_,rfl⟩
         rcases Nat.lt_succ_iff_lt_or_eq.1 hm with h | rfl
         ·exact HP.out m h
         ·exact (okr_of (fun h=>absurd H0.out h) (by have:=H0.out;omega) (by have:=H0.out;omega))
      ·have t0:(i.rt != 0)=true:=by simp [h0]
       have H0:=Lib.hid h0
       clear h0;rcases bt with _ | _
       ·
        go_wp2
        go_ret;exact ⟨ret_bool (rightB_no (n:=2) (by omega) (okr_no (.inl ⟨H0.out,by rw [HK.out];exact HT.out⟩))).symm,HC.out.alloc _⟩
       ·by_cases h1:i.rt<0
        ·have t1:decide (i.rt<0)=true:=by simp;omega
         have H1:=Lib.hid h1
         clear h1;go_wp2
         go_ret;exact ⟨ret_bool (rightB_no (n:=2) (by omega) (okr_no (.inr (.inl H1.out)))).symm,HC.out.alloc _⟩
        ·have t1:decide (i.rt<0)=false:=by simp;omega
         have H1:=Lib.hid h1
         by_cases h2:15<i.rt
         ·have t2:decide (15<i.rt)=true:=by simp;omega
          have H2:=Lib.hid h2
          clear h1 h2;go_wp2
          go_ret;exact ⟨ret_bool (rightB_no (n:=2) (by omega) (okr_no (.inr (.inr H2.out)))).symm,HC.out.alloc _⟩
         ·have t2:decide (15<i.rt)=false:=by simp;omega
          have H2:=Lib.hid h2
          clear h1 h2;go_wp2
          go_roundg (4 - (2+1))
          case measure=>have:=HN.out;omega
          case rel=>
           refine ⟨2+1,by have:=HN.out;omega,by go_num,fun m hm=>?_,rfl⟩
           rcases Nat.lt_succ_iff_lt_or_eq.1 hm with h | rfl
           ·exact HP.out m h
           ·exact (okr_of (fun h=>by rw [HK.out];exact HT.out) (by have:=H1.out;omega) (by have:=H2.out;omega))
     ·have ix:=fun w:World=>(show (Instr.index 402 (.agg #[.int .i64 i.rd,.int .i64 i.rs,.int .i64 i.rt,.int .i64 i.im]) (.int .i64 3)).run Tryz.prog w = .ok (.int .i64 i.im) w by kernel_rfl)
      by_cases h0:i.im=0
      ·have t0:(i.im != 0)=false:=by simp [h0]
       have H0:=Lib.hid h0
       clear h0;rcases bi with _ | _
       all_goals
        go_wp2
        go_roundg (4 - (3+1))
        case measure=>have:=HN.out;omega
        case rel=>
         refine ⟨3+1,by have:=HN.out;omega,by go_num,fun m hm=>?_,rfl⟩
         rcases Nat.lt_succ_iff_lt_or_eq.1 hm with h | rfl
         ·exact HP.out m h
         ·exact (by show (decide (i.im=0) || (kd i.op).i)=true;rw [H0.out];rfl)
      ·have t0:(i.im != 0)=true:=by simp [h0]
       have H0:=Lib.hid h0
       clear h0;rcases bi with _ | _
       ·
        go_wp2
        go_ret;exact ⟨ret_bool (rightB_no (n:=3) (by omega) (by show (decide (i.im=0) || (kd i.op).i)=false;rw [HK.out,HI.out];simp [H0.out])).symm,HC.out.alloc _⟩
       ·
        go_wp2
        go_roundg (4 - (3+1))
        case measure=>have:=HN.out;omega
        case rel=>
         refine ⟨3+1,by have:=HN.out;omega,by go_num,fun m hm=>?_,rfl⟩
         rcases Nat.lt_succ_iff_lt_or_eq.1 hm with h | rfl
         ·exact HP.out m h
         ·exact (by show (decide (i.im=0) || (kd i.op).i)=true;rw [HK.out,HI.out];simp)
     ·go_wp2
      go_ret;exact ⟨ret_bool (rightB_of (by rw [HK.out];exact HZ.out) (by have:=HL.out;omega) (by have:=HH.out;omega) HP.out).symm,HC.out.alloc _⟩
def rowsL:List (ByteArray×Kd×Int):=[(⟨#[104,97,108,116]⟩,.N,0),(⟨#[108,105]⟩,.I,0),(⟨#[97,100,100,105]⟩,.RI,0),(⟨#[115,108,108,105]⟩,.RI,0),(⟨#[97,100,100]⟩,.R,0),(⟨#[115,117,98]⟩,.R,0),(⟨#[97,110,100]⟩,.R,0),(⟨#[111,114]⟩,.R,0),(⟨#[120,111,114]⟩,.R,0),(⟨#[115,108,116]⟩,.R,0),(⟨#[99,97,100,100]⟩,.R,0),(⟨#[99,115,117,98]⟩,.R,0),(⟨#[99,109,117,108]⟩,.R,0),(⟨#[99,99,111,110,106]⟩,.U,0),(⟨#[99,110,111,114,109]⟩,.U,0),(⟨#[98,101,113]⟩,.B,0),(⟨#[98,110,101]⟩,.B,0),(⟨#[98,108,116]⟩,.B,0),(⟨#[106,97,108]⟩,.J,0),(⟨#[108,98]⟩,.L,1),(⟨#[108,104]⟩,.L,2),(⟨#[108,119]⟩,.L,4),(⟨#[108,100]⟩,.L,8),(⟨#[108,98,117]⟩,.L,1),(⟨#[108,104,117]⟩,.L,2),(⟨#[108,119,117]⟩,.L,4),(⟨#[115,98]⟩,.S,1),(⟨#[115,104]⟩,.S,2),(⟨#[115,119]⟩,.S,4),(⟨#[115,100]⟩,.S,8),(⟨#[115,119,97,112,46,119]⟩,.A,4),(⟨#[115,119,97,112,46,100]⟩,.A,8),(⟨#[97,109,111,97,100,100,46,119]⟩,.A,4),(⟨#[97,109,111,97,100,100,46,100]⟩,.A,8),(⟨#[102,101,110,99,101]⟩,.N,0)]
def rowCells:List Value:=[.string ⟨#[104,97,108,116]⟩,.string ⟨#[78]⟩,.int .i64 0,.string ⟨#[108,105]⟩,.string ⟨#[73]⟩,.int .i64 0,.string ⟨#[97,100,100,105]⟩,.string ⟨#[82,73]⟩,.int .i64 0,.string ⟨#[115,108,108,105]⟩,.string ⟨#[82,73]⟩,.int .i64 0,.string ⟨#[97,100,100]⟩,.string ⟨#[82]⟩,.int .i64 0,.string ⟨#[115,117,98]⟩,.string ⟨#[82]⟩,.int .i64 0,.string ⟨#[97,110,100]⟩,.string ⟨#[82]⟩,.int .i64 0,.string ⟨#[111,114]⟩,.string ⟨#[82]⟩,.int .i64 0,.string ⟨#[120,111,114]⟩,.string ⟨#[82]⟩,.int .i64 0,.string ⟨#[115,108,116]⟩,.string ⟨#[82]⟩,.int .i64 0,.string ⟨#[99,97,100,100]⟩,.string ⟨#[82]⟩,.int .i64 0,.string ⟨#[99,115,117,98]⟩,.string ⟨#[82]⟩,.int .i64 0,.string ⟨#[99,109,117,108]⟩,.string ⟨#[82]⟩,.int .i64 0,.string ⟨#[99,99,111,110,106]⟩,.string ⟨#[85]⟩,.int .i64 0,.string ⟨#[99,110,111,114,109]⟩,.string ⟨#[85]⟩,.int .i64 0,.string ⟨#[98,101,113]⟩,.string ⟨#[66]⟩,.int .i64 0,.string ⟨#[98,110,101]⟩,.string ⟨#[66]⟩,.int .i64 0,.string ⟨#[98,108,116]⟩,.string ⟨#[66]⟩,.int .i64 0,.string ⟨#[106,97,108]⟩,.string ⟨#[74]⟩,.int .i64 0,.string ⟨#[108,98]⟩,.string ⟨#[76]⟩,.int .i64 1,.string ⟨#[108,104]⟩,.string ⟨#[76]⟩,.int .i64 2,.string ⟨#[108,119]⟩,.string ⟨#[76]⟩,.int .i64 4,.string ⟨#[108,100]⟩,.string ⟨#[76]⟩,.int .i64 8,.string ⟨#[108,98,117]⟩,.string ⟨#[76]⟩,.int .i64 1,.string ⟨#[108,104,117]⟩,.string ⟨#[76]⟩,.int .i64 2,.string ⟨#[108,119,117]⟩,.string ⟨#[76]⟩,.int .i64 4,.string ⟨#[115,98]⟩,.string ⟨#[83]⟩,.int .i64 1,.string ⟨#[115,104]⟩,.string ⟨#[83]⟩,.int .i64 2,.string ⟨#[115,119]⟩,.string ⟨#[83]⟩,.int .i64 4,.string ⟨#[115,100]⟩,.string ⟨#[83]⟩,.int .i64 8,.string ⟨#[115,119,97,112,46,119]⟩,.string ⟨#[65]⟩,.int .i64 4,.string ⟨#[115,119,97,112,46,100]⟩,.string ⟨#[65]⟩,.int .i64 8,.string ⟨#[97,109,111,97,100,100,46,119]⟩,.string ⟨#[65]⟩,.int .i64 4,.string ⟨#[97,109,111,97,100,100,46,100]⟩,.string ⟨#[65]⟩,.int .i64 8,.string ⟨#[102,101,110,99,101]⟩,.string ⟨#[78]⟩,.int .i64 0]
theorem rowCells_eq:rowCells=rowsL.flatMap fun r=>[.string r.1,.string r.2.1.s,.int .i64 r.2.2]:=by kernel_rfl
def rowAt (o:Int):ByteArray×Kd×Int:=if 0≤o then rowsL.getD o.toNat (⟨#[]⟩,.z,0) else (⟨#[]⟩,.z,0)
def inOps (o:Int):Bool:=decide (0≤o) && decide (o<35)
theorem rowAt_kd (o:Int):(rowAt o).2.1=kd o:=by
 unfold rowAt kd
 split
 ·obtain ⟨n,rfl⟩:=Int.eq_ofNat_of_zero_le ‹0≤o›
  rw [Int.toNat_natCast]
  by_cases h:n<35
  ·have key:∀n,n<35→(rowsL.getD n (⟨#[]⟩,Kd.z,0)).2.1=kdL.getD n Kd.z:=by decide
   exact key n h
  ·rw [List.getD_eq_getElem?_getD,List.getD_eq_getElem?_getD,List.getElem?_eq_none (by have:rowsL.length=35:=rfl;omega),List.getElem?_eq_none (by have:kdL.length=35:=rfl;omega)];rfl
 ·rfl
theorem rowCells_l:∀(l:List (ByteArray×Kd×Int)) (n:Nat) (r:ByteArray×Kd×Int),l[n]? = some r→
  (l.flatMap fun r=>[Value.string r.1,.string r.2.1.s,.int .i64 r.2.2])[n*3]? = some (.string r.1)∧(l.flatMap fun r=>[Value.string r.1,.string r.2.1.s,.int .i64 r.2.2])[n*3+1]? = some (.string r.2.1.s)∧
  (l.flatMap fun r=>[Value.string r.1,.string r.2.1.s,.int .i64 r.2.2])[n*3+2]? = some (.int .i64 r.2.2)
 | [],n,r,h=>by simp at h
 | q :: l,0,r,h=>by simp at h;subst h;exact ⟨rfl,rfl,rfl⟩
 | q :: l,n+1,r,h=>by
  have:=rowCells_l l n r (by simpa using h)
  rw [show (n+1)*3=n*3+3 by omega]
  exact this
theorem rowCells_at (n:Nat) (hn:n<35):rowCells[n*3]? = some (.string (rowAt n).1)∧rowCells[n*3+1]? = some (.string (kd n).s)∧rowCells[n*3+2]? = some (.int .i64 (rowAt n).2.2):=by
 rw [←rowAt_kd,rowCells_eq]
 refine rowCells_l rowsL n (rowAt n) ?_
 unfold rowAt
 rw [if_pos (by omega),Int.toNat_natCast,List.getD_eq_getElem?_getD,List.getElem?_eq_getElem (by have:rowsL.length=35:=rfl;omega)]
 rfl
theorem rows_any (w:World):Calls Tryz.prog 95 #[] w (RetSl fun v w'=>Sl w' (fun k=>w.heap.size≤k) 3 v 35 rowCells∧Chg NoB w w'):=by
 go_enter Tryz.func95,Tryz.ntmps95;go_wp2
 go_ret;refine ⟨_,rfl,(Sl.fresh w rowCells 188 35 rfl).mono fun k hk=>by omega,(Chg.refl _ _).alloc _⟩
theorem of_any (o:Int) (w:World):Calls Tryz.prog 70 #[.int .i64 o] w (RetW (.tuple #[.agg #[.string (rowAt o).1,.string (kd o).s,.int .i64 (rowAt o).2.2],.bool (inOps o)]) fun w'=>Chg NoB w w'):=by
 have A0:=(Chg.refl NoB w).alloc (.cells #[.string ⟨#[]⟩,.string ⟨#[]⟩,.int .i64 0] 188)
 have B0:=Blk.new w #[.string ⟨#[]⟩,.string ⟨#[]⟩,.int .i64 0] 188
 by_cases h0:o<0
 ·have e1:rowAt o=(⟨#[]⟩,.z,0):=by unfold rowAt;rw [if_neg (by omega)]
  have e2:inOps o=false:=by unfold inOps;simp;omega
  rw [e1,e2,kd_neg h0]
  clear e1 e2 A0 B0;go_enter Tryz.func70,Tryz.ntmps70;go_wp2
  exact bodyPost_ret (by simp [results,Tryz.results70,go_sem];rfl) rfl ⟨rfl,(Chg.refl _ _).alloc _⟩
 ·have q0:decide (o<0)=false:=by simp;omega
  by_cases h1:35≤o
  ·have e1:rowAt o=(⟨#[]⟩,.z,0):=by unfold rowAt;rw [if_pos (by omega),List.getD_eq_getElem?_getD,List.getElem?_eq_none (by have:rowsL.length=35:=rfl;omega)];rfl
   have e2:inOps o=false:=by unfold inOps;simp;omega
   have q1:decide ((35:Int)≤o)=true:=by simp;omega
   rw [e1,e2,kd_big h1]
   clear e1 e2 h0 h1;go_enter Tryz.func70,Tryz.ntmps70;go_wp2_with fail;refine (rows_any _).mono ?_
   rintro e w1 ⟨v,rfl,S1,C1⟩;obtain ⟨p,cap,rfl⟩:=S1.form
   have B1:=C1.blk0 B0
   have hc:=A0.step C1
   have x0:=B1.cell' (i:=0) (v:=.string ⟨#[]⟩) (by rfl)
   have x1:=B1.cell' (i:=1) (v:=.string ⟨#[]⟩) (by rfl)
   have x2:=B1.cell' (i:=2) (v:=.int .i64 0) (by rfl)
   have xf:=B1.frozen
   have xl:=B1.lt
   have HC:=Lib.hid hc
   clear S1 B0 A0 C1 hc;go_wp2
   exact bodyPost_ret (by simp [results,Tryz.results70,go_sem,x0,x1,x2];rfl) rfl ⟨rfl,((HC.out.setCell (.inr (Nat.le_refl _)) _).setCell (.inr (Nat.le_refl _)) _).setCell (.inr (Nat.le_refl _)) _⟩
  ·obtain ⟨n,rfl⟩:=Int.eq_ofNat_of_zero_le (by omega:0≤o)
   have hn:n<35:=by omega
   have e2:inOps n=true:=by unfold inOps;simp;omega
   have q1:decide ((35:Int)≤n)=false:=by simp;omega
   obtain ⟨r0,r1,r2⟩:=rowCells_at n hn
   have HR:=Lib.hid (And.intro r0 (And.intro r1 r2))
   rw [e2]
   clear h0 h1 e2 r0 r1 r2;go_enter Tryz.func70,Tryz.ntmps70;go_wp2_with fail;refine (rows_any _).mono ?_
   rintro e w1 ⟨v,rfl,S1,C1⟩;obtain ⟨p,cap,rfl⟩:=S1.form
   have B1:=Lib.hid (C1.blk0 B0)
   have HC:=Lib.hid (A0.step C1)
   clear S1 B0 A0 C1;go_wp2_with fail;refine (rows_any _).mono ?_
   rintro e w2 ⟨v,rfl,S2,C2⟩;obtain ⟨-,p2,cap2,e,hcp,hs⟩:=S2
   cases e
   obtain ⟨g,of,rfl,hg,hgl,hcell⟩:=hs (by omega)
   have r0:=hcell _ _ HR.out.1
   have r1:=hcell _ _ HR.out.2.1
   have r2:=hcell _ _ HR.out.2.2
   rw [←Nat.add_assoc] at r1 r2
   have B2:=C2.blk0 B1.out
   have x0:=B2.cell' (i:=0) (v:=.string ⟨#[]⟩) (by rfl)
   have x1:=B2.cell' (i:=1) (v:=.string ⟨#[]⟩) (by rfl)
   have x2:=B2.cell' (i:=2) (v:=.int .i64 0) (by rfl)
   have xf:=B2.frozen
   have xl:=B2.lt
   have HC2:=Lib.hid (HC.out.step C2)
   have n0:(0:Int)≤n:=by omega
   have n1:(n:Int)<35:=by omega
   clear hs hcell C2 B1 hg;go_wp2
   exact bodyPost_ret (by simp [results,Tryz.results70,go_sem,x0,x1,x2]) rfl ⟨rfl,((HC2.out.setCell (.inr (Nat.le_refl _)) _).setCell (.inr (Nat.le_refl _)) _).setCell (.inr (Nat.le_refl _)) _⟩
set_option linter.unusedSimpArgs false
def Kd.parts:Kd→ByteArray
 | .I | .J=>⟨#[100,105]⟩
 | .RI | .L=>⟨#[100,115,105]⟩
 | .R | .A=>⟨#[100,115,116]⟩
 | .U=>⟨#[100,115]⟩
 | .B | .S=>⟨#[115,116,105]⟩
 | _=>⟨#[]⟩
def hasP (k:Kd) (p:UInt8):Bool:=k.parts.data.toList.contains p
theorem hasP_d (k:Kd):hasP k 100=k.d:=by cases k <;> decide
theorem hasP_s (k:Kd):hasP k 115=k.q:=by cases k <;> decide
theorem hasP_t (k:Kd):hasP k 116=k.t:=by cases k <;> decide
theorem hasP_i (k:Kd):hasP k 105=k.i:=by cases k <;> decide
theorem parts_small (k:Kd):k.parts.size≤3:=by cases k <;> decide
theorem hasP_yes {k:Kd} {l:ByteArray} (h:k.parts=l) {n:Nat} (hn:n<l.size) {p:UInt8} (hc:l[n]=p):hasP k p=true:=by
 unfold hasP
 rw [h,List.contains_iff_mem]
 subst hc;exact List.getElem_mem (l:=l.data.toList) (by simpa using hn)
theorem hasP_no {k:Kd} {l:ByteArray} (h:k.parts=l) {p:UInt8} (hc:∀m (h:m<l.size),l[m]≠p):hasP k p=false:=by
 unfold hasP
 rw [h]
 cases e:l.data.toList.contains p with
 | false=>rfl
 | true=>
  rw [List.contains_iff_mem] at e
  obtain ⟨i,hi,e⟩:=List.getElem_of_mem e
  exact absurd e (hc i (by simpa using hi))
theorem uses_any (k:Kd) (p:UInt8) (w:World):Calls Tryz.prog 72 #[.string k.s,.int .u8 p.toNat] w (RetW (.bool (hasP k p)) fun w'=>w=w'):=by
 go_enter Tryz.func72,Tryz.ntmps72;go_upto_block 0 with fail
 go_cut [5] (fun l wx=>l = .string k.parts∧wx=w)
 case first=>
  cases k
  all_goals
   simp only [Kd.s,Kd.parts]
   go_wp2_with fail;go_meet
   exact ⟨rfl,rfl⟩
 case rest=>
  obtain ⟨rfl,rfl⟩:=hcut
  have hsm:=parts_small k
  generalize hl:k.parts=l at *;have HL:=Lib.hid hl
  clear hl;go_wp2_with fail;go_loopg [6] l.size (fun g ix wr=>∃n:Nat,n+g=l.size∧ix = .int .i64 n∧(∀m (h:m<l.size),m<n→l[m]≠p)∧wr=wc)
  case atStart=>exact ⟨0,by omega,rfl,fun m h hm=>by omega,rfl⟩
  case round=>
   obtain ⟨n,hn,rfl,hp,rfl⟩:=hrel
   have HP:=Lib.hid hp
   have HN:=Lib.hid hn
   have hn4:n≤l.size:=by omega
   clear hp hn;by_cases hlt:n<l.size
   ·have n0:(0:Int)≤n:=by omega
    by_cases hc:l[n]=p
    ·have t0:((l[n].toNat:Int) == (p.toNat:Int))=true:=by rw [hc];simp
     have t1:(l[n].toNat == p.toNat)=true:=by rw [hc];simp
     have HC:=Lib.hid hc
     clear hc;go_wp2_with fail;go_ret;exact ⟨ret_bool (hasP_yes HL.out hlt HC.out).symm,rfl⟩
    ·have hc':l[n].toNat≠p.toNat:=fun e=>hc (UInt8.toNat_inj.1 e)
     have t0:((l[n].toNat:Int) == (p.toNat:Int))=false:=by simp;omega
     have t1:(l[n].toNat == p.toNat)=false:=by simp;omega
     have HC:=Lib.hid hc
     clear hc hc';go_wp2_with fail;go_roundg (l.size - (n+1))
     case measure=>have:=HN.out;omega
     case rel=>
      refine ⟨n+1,by have:=HN.out;omega,by go_num,fun m h hm=>?_,rfl⟩
      rcases Nat.lt_succ_iff_lt_or_eq.1 hm with h' | rfl
      ·exact HP.out m h h'
      ·exact HC.out
   ·obtain rfl:n=l.size:=by omega
    go_wp2_with fail;go_ret;exact ⟨ret_bool (hasP_no HL.out fun m h=>HP.out m h h).symm,rfl⟩
theorem reg_any (n:Int) (k:Kd) (p:UInt8) (w:World):Calls Tryz.prog 71 #[.int .i64 n,.string k.s,.int .u8 p.toNat] w (RetW (.bool (okr n (hasP k p))) fun w'=>w=w'):=by
 by_cases h0:n=0
 ·have e:okr n (hasP k p)=true:=okr_of (fun h=>absurd h0 h) (by omega) (by omega)
  rw [e]
  subst h0;clear e;go_enter Tryz.func71,Tryz.ntmps71;go_wp2
  go_ret;exact ⟨rfl,rfl⟩
 ·have t0:(n == 0)=false:=by simp [h0]
  by_cases h1:n<0
  ·have e:okr n (hasP k p)=false:=okr_no (.inr (.inl h1))
   have t1:decide (0<n)=false:=by simp;omega
   rw [e]
   clear e h0 h1;go_enter Tryz.func71,Tryz.ntmps71;go_wp2
   go_ret;exact ⟨rfl,rfl⟩
  ·have t1:decide (0<n)=true:=by simp;omega
   by_cases h2:15<n
   ·have e:okr n (hasP k p)=false:=okr_no (.inr (.inr h2))
    have t2:decide (n<16)=false:=by simp;omega
    rw [e]
    clear e h0 h1 h2;go_enter Tryz.func71,Tryz.ntmps71;go_wp2
    go_ret;exact ⟨rfl,rfl⟩
   ·have t2:decide (n<16)=true:=by simp;omega
    have e:okr n (hasP k p)=hasP k p:=by
     cases hb:hasP k p
     ·exact okr_no (.inl ⟨h0,rfl⟩)
     ·exact okr_of (fun _=>rfl) (by omega) (by omega)
    rw [e]
    clear e h0 h1 h2;go_enter Tryz.func71,Tryz.ntmps71;go_wp2_with fail;refine (uses_any k p _).mono ?_
    rintro e w' ⟨rfl,rfl⟩;go_wp2_with fail;go_ret;exact ⟨rfl,rfl⟩
theorem inOps_kd (o:Int):inOps o = !decide (kd o = .z):=by
 by_cases h0:o<0
 ·rw [kd_neg h0];unfold inOps;simp;omega
 ·by_cases h1:35≤o
  ·rw [kd_big h1];unfold inOps;simp;omega
  ·obtain ⟨n,rfl⟩:=Int.eq_ofNat_of_zero_le (by omega:0≤o)
   have:=kd_in n (by omega)
   unfold inOps
   simp [this];omega
theorem rightB_eq (i:In):rightB i=(!decide (kd i.op = .z) && okr i.rd (kd i.op).d && okr i.rs (kd i.op).q && okr i.rt (kd i.op).t && (decide (i.im=0) || ((kd i.op).i && decide (-2048≤i.im) && decide (i.im≤2047)))):=by
 unfold rightB
 by_cases h:i.im=0
 ·simp [h]
 ·simp only [h,decide_false,Bool.false_or]
  cases decide (kd i.op = .z) <;> cases decide (-2048≤i.im) <;> cases decide (i.im≤2047) <;> cases okr i.rd (kd i.op).d <;> cases okr i.rs (kd i.op).q <;> cases okr i.rt (kd i.op).t <;> cases (kd i.op).i <;> rfl
theorem rright_any (i:In) (w:World):Calls Tryz.prog 45 #[.agg #[.int .i64 i.op,.int .i64 i.rd,.int .i64 i.rs,.int .i64 i.rt,.int .i64 i.im]] w (RetW (.bool (rightB i)) fun w'=>Chg NoB w w'):=by
 have B0:=Lib.hid (Blk.new w #[.int .i64 i.op,.int .i64 i.rd,.int .i64 i.rs,.int .i64 i.rt,.int .i64 i.im] 50)
 have A0:=Lib.hid ((Chg.refl NoB w).alloc (.cells #[.int .i64 i.op,.int .i64 i.rd,.int .i64 i.rs,.int .i64 i.rt,.int .i64 i.im] 50))
 obtain ⟨k,hk⟩:∃k,kd i.op=k:=⟨_,rfl⟩
 have HK:=Lib.hid hk
 clear hk;go_enter Tryz.func45,Tryz.ntmps45;go_wp2_with fail;refine (of_any _ _).mono ?_
 rintro e w1 ⟨rfl,C1⟩;rw [inOps_kd,HK.out]
 have B1:=Lib.hid (C1.blk0 B0.out)
 have HC:=Lib.hid (A0.out.step C1)
 clear C1;have x0:=B1.out.cell' (i:=0) (v:=.int .i64 i.op) (by rfl)
 have x1:=B1.out.cell' (i:=1) (v:=.int .i64 i.rd) (by rfl)
 have x2:=B1.out.cell' (i:=2) (v:=.int .i64 i.rs) (by rfl)
 have x3:=B1.out.cell' (i:=3) (v:=.int .i64 i.rt) (by rfl)
 have x4:=B1.out.cell' (i:=4) (v:=.int .i64 i.im) (by rfl)
 have xl:=B1.out.lt
 by_cases hz:k = .z
 ·have d0:decide (k=Kd.z)=true:=by simp [hz]
  rw [d0]
  have HZ:=Lib.hid hz
  clear hz d0;go_wp2_with fail;go_ret;exact ⟨ret_bool (rightB_kind (HK.out.trans HZ.out)).symm,HC.out.alloc _⟩
 ·have d0:decide (k=Kd.z)=false:=by simp [hz]
  rw [d0]
  have HZ:=Lib.hid hz
  clear hz d0;obtain ⟨b1,h1⟩:∃b,okr i.rd (hasP k 100)=b:=⟨_,rfl⟩
  obtain ⟨b2,h2⟩:∃b,okr i.rs (hasP k 115)=b:=⟨_,rfl⟩
  obtain ⟨b3,h3⟩:∃b,okr i.rt (hasP k 116)=b:=⟨_,rfl⟩
  obtain ⟨b4,h4⟩:∃b,hasP k 105=b:=⟨_,rfl⟩
  have H1:=Lib.hid h1
  have H2:=Lib.hid h2
  have H3:=Lib.hid h3
  have H4:=Lib.hid h4
  have E:rightB i=(b1 && b2 && b3 && (decide (i.im=0) || (b4 && decide (-2048≤i.im) && decide (i.im≤2047)))):=by
   rw [rightB_eq,HK.out,←hasP_d,←hasP_s,←hasP_t,←hasP_i,h1,h2,h3,h4];simp [HZ.out]
  have HE:=Lib.hid E
  clear h1 h2 h3 h4 E;go_wp2_with fail;refine (reg_any i.rd k 100 _).mono ?_
  rintro e w' ⟨rfl,rfl⟩;rw [H1.out]
  rcases b1 with _ | _
  ·
   go_wp2_with fail;go_ret;exact ⟨ret_bool (HE.out.trans (by simp)).symm,HC.out.alloc _⟩
  ·go_wp2_with fail;refine (reg_any i.rs k 115 _).mono ?_
   rintro e w' ⟨rfl,rfl⟩;rw [H2.out]
   rcases b2 with _ | _
   ·
    go_wp2_with fail;go_ret;exact ⟨ret_bool (HE.out.trans (by simp)).symm,HC.out.alloc _⟩
   ·go_wp2_with fail;refine (reg_any i.rt k 116 _).mono ?_
    rintro e w' ⟨rfl,rfl⟩;rw [H3.out]
    rcases b3 with _ | _
    ·
     go_wp2_with fail;go_ret;exact ⟨ret_bool (HE.out.trans (by simp)).symm,HC.out.alloc _⟩
    ·by_cases hi:i.im=0
     ·have t0:(i.im == 0)=true:=by simp [hi]
      have HI:=Lib.hid hi
      clear hi;go_wp2_with fail;go_ret;exact ⟨ret_bool (HE.out.trans (by simp [HI.out])).symm,HC.out.alloc _⟩
     ·have t0:(i.im == 0)=false:=by simp [hi]
      have HI:=Lib.hid hi
      clear hi;go_wp2_with fail;refine (uses_any k 105 _).mono ?_
      rintro e w' ⟨rfl,rfl⟩;rw [H4.out]
      rcases b4 with _ | _
      ·
       go_wp2_with fail;go_ret;exact ⟨ret_bool (HE.out.trans (by simp [HI.out])).symm,HC.out.alloc _⟩
      ·by_cases hl : -2048≤i.im
       ·have t1:decide (-2048≤i.im)=true:=by simp;omega
        have HL:=Lib.hid hl
        clear hl;go_wp2_with fail;go_ret;exact ⟨ret_bool (HE.out.trans (by simp [HI.out,HL.out])).symm,HC.out.alloc _⟩
       ·have t1:decide (-2048≤i.im)=false:=by simp;omega
        have HL:=Lib.hid hl
        clear hl;go_wp2_with fail;go_ret;exact ⟨ret_bool (HE.out.trans (by simp [HI.out];have:=HL.out;omega)).symm,HC.out.alloc _⟩
end Go.Proofs.YtjhnnjgnkkjmkaaGreatDoor
