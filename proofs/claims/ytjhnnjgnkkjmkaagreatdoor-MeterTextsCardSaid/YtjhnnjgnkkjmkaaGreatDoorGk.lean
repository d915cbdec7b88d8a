/- Tables: New, Root, an entry's place, what leads on. No condition. Tables: may an entry be laid; a page is mapped. No condition. -/
import Derived.Test.YtjhnnjgnkkjmkaaGreatDoorGi
import Derived.Test.YtjhnnjgnkkjmkaaGreatDoorGg
import Derived.Test.YtjhnnjgnkkjmkaaGreatDoorGe
import Derived.Deep.RegionHeld3
set_option maxHeartbeats 2000000
set_option maxRecDepth 100000
set_option linter.unusedVariables false
set_option linter.unusedSimpArgs false
namespace Go.Proofs.YtjhnnjgnkkjmkaaGreatDoor
open Go.RowKit Go.RR
theorem at_any (f va:Nat) (l:Int) (w:World) (hf:f<17592186044416) (hv:va<18446744073709551616) (hl:levelB l=true) :
  Calls Tryz.prog 126 #[.int .u64 f,.int .u64 va,.int .i64 l] w (RetW (.int .u64 ((f*4096+8*idx va l.toNat:Nat):Int)) fun w'=>w'=w):=by
 have HI:=Lib.hid (index_any va l w hv hl)
 have hix9:idx va l.toNat<512:=Nat.mod_lt _ (by omega)
 obtain ⟨ix,hix⟩:∃ix,idx va l.toNat=ix:=⟨_,rfl⟩
 rw [hix] at HI hix9 ⊢
 have HA:Hid (((f*4096+8*ix:Nat):Int)=(f:Int)*4096+8*(ix:Int)):=Lib.hid (by omega)
 rw [HA.out]
 have h1:(f:Int)<17592186044416:=by omega
 have h2:(ix:Int)<512:=by omega
 have c1:(f:Int)*4096%18446744073709551616=(f:Int)*4096:=by omega
 have c2:8*(ix:Int)%18446744073709551616=8*(ix:Int):=by omega
 have c3:((f:Int)*4096+8*(ix:Int))%18446744073709551616=(f:Int)*4096+8*(ix:Int):=by omega
 clear hix;go_enter Tryz.func126,Tryz.ntmps126;go_wp2_with fail;with_reducible refine HI.out.mono ?_
 rintro e w1 ⟨rfl,hw1⟩;subst hw1;go_wp2_with fail;go_ret;exact ⟨by first | rfl | omega,rfl⟩
theorem root_any {SM:Nat→Prop} {w:World} {mb fr sb mp tb root:Nat} {t:Tst} (h:TabAt w SM mb fr sb mp tb root t) :
  Calls Tryz.prog 66 #[.pointer (some ⟨tb,0,none⟩)] w (RetW (.int .i64 root) fun w'=>w'=w):=by
 have e2:=h.tab.cell' (i:=2) (v:=.int .i64 root) rfl
 have hl:=h.tab.lt
 clear h;go_enter Tryz.func66,Tryz.ntmps66;go_wp2_with fail;go_ret;exact ⟨rfl,rfl⟩
theorem tabNew_any {SM:Nat→Prop} {w:World} {mb fr sb mp n:Nat} {b:By} (hm:MemAt w SM mb b fr) (hk:StkAt w sb mp ⟨0,0,n,[]⟩) (n1:¬SM sb) (n2:¬SM mp) (hn:n≤fr) (hf:fr≤1048576) (h0:0<n) :
  Calls Tryz.prog 62 #[.pointer (some ⟨mb,0,none⟩),.pointer (some ⟨sb,0,none⟩)] w (RetW (.tuple #[.pointer (some ⟨w.heap.size,0,none⟩),.int .i64 0]) fun w'=>
   TabAt w' (fun k=>(SM k∧k<w.heap.size)∨w.heap.size+1≤k) mb fr sb mp w.heap.size 0 ⟨zeroPg b 0,⟨0,1,n,[0]⟩,1⟩∧Chg (fun k=>SM k∨k=sb∨k=mp) w w'):=by
 have HT:Hid (TabAt (w.alloc (.cells #[.pointer (some ⟨mb,0,none⟩),.pointer (some ⟨sb,0,none⟩),.int .i64 0,.int .i64 0] 228)) (fun k=>SM k∧k<w.heap.size) mb fr sb mp w.heap.size 0 ⟨b,⟨0,0,n,[]⟩,0⟩):=Lib.hid (by
  have ca:=(Chg.refl NoB w).alloc (.cells #[.pointer (some ⟨mb,0,none⟩),.pointer (some ⟨sb,0,none⟩),.int .i64 0,.int .i64 0] 228)
  exact ⟨(hm.mono (S':=fun k=>SM k∧k<w.heap.size) fun k hk h=>⟨h,hk⟩).chg0 ca,hk.chg ca id id,Blk.new w _ _,fun e=>n1 e.1,fun e=>n2 e.1,fun e=>Nat.lt_irrefl _ e.2,
   fun e=>by have:=hk.blk.lt;omega,fun e=>by have:=hk.map.lt;omega,⟨Nat.zero_le _,hn⟩,Nat.le_refl _,hf⟩)
 have HK:=Lib.hid (take_some HT.out h0)
 rw [tabTake_some (t:=⟨b,⟨0,0,n,[]⟩,0⟩) h0] at HK
 have HR:Hid (∀w1,TabAt w1 (Grow (fun k=>SM k∧k<w.heap.size) (w.alloc (.cells #[.pointer (some ⟨mb,0,none⟩),.pointer (some ⟨sb,0,none⟩),.int .i64 0,.int .i64 0] 228))) mb fr sb mp w.heap.size 0 ⟨zeroPg b 0,⟨0,1,n,[0]⟩,1⟩→
   Chg (TS (fun k=>SM k∧k<w.heap.size) sb mp w.heap.size) (w.alloc (.cells #[.pointer (some ⟨mb,0,none⟩),.pointer (some ⟨sb,0,none⟩),.int .i64 0,.int .i64 0] 228)) w1→
   TabAt (w1.setCell ⟨w.heap.size,2,none⟩ (.int .i64 0)) (fun k=>(SM k∧k<w.heap.size)∨w.heap.size+1≤k) mb fr sb mp w.heap.size 0 ⟨zeroPg b 0,⟨0,1,n,[0]⟩,1⟩∧Chg (fun k=>SM k∨k=sb∨k=mp) w (w1.setCell ⟨w.heap.size,2,none⟩ (.int .i64 0))):=Lib.hid fun w1 t1 c1=>by
  have hz:(w.alloc (.cells #[.pointer (some ⟨mb,0,none⟩),.pointer (some ⟨sb,0,none⟩),.int .i64 0,.int .i64 0] 228)).heap.size=w.heap.size+1:=by simp
  have c3:Chg (fun k=>k=w.heap.size) w1 (w1.setCell ⟨w.heap.size,2,none⟩ (.int .i64 0)):=(Chg.refl (fun k=>k=w.heap.size) w1).setCell (.inl rfl) _
  have t1':=t1.mono (SM':=fun k=>(SM k∧k<w.heap.size)∨w.heap.size+1≤k) fun k _=>by unfold Grow;rw [hz]
  refine ⟨⟨t1'.mem.chg c3 fun k hk e=>?_,t1'.stk.chg c3 (fun e=>t1'.n4 e.symm) (fun e=>t1'.n5 e.symm),t1'.tab.set 2 _,t1'.n1,t1'.n2,t1'.n3,t1'.n4,t1'.n5,t1'.ok,t1'.us,t1'.fr⟩,?_⟩
  ·exact t1'.n3 (e▸hk)
  ·refine ((((Chg.refl (fun k=>SM k∨k=sb∨k=mp) w).alloc _).trans c1 fun k hk e=>?_)).trans c3 fun k hk e=>?_
   ·rcases e with e | e | e | e
    ·exact .inl e.1
    ·exact .inr (.inl e)
    ·exact .inr (.inr e)
    ·omega
   ·have e:k=w.heap.size:=e
    omega
 clear hm hk n1 n2 hn hf h0 HT;go_enter Tryz.func62,Tryz.ntmps62;go_wp2_with fail;with_reducible refine HK.out.mono ?_
 rintro e w1 ⟨rfl,t1,c1⟩;have HX:=Lib.hid (HR.out _ t1 c1)
 have e2:=t1.tab.cell' (i:=2) (v:=.int .i64 0) rfl
 have hl:=t1.tab.lt
 have hz:=t1.tab.frozen 2
 clear t1 c1;go_wp2_with fail;go_ret2
 exact ⟨rfl,HX.out⟩
theorem TabAt.word_lt {SM:Nat→Prop} {w:World} {mb fr sb mp tb root:Nat} {t:Tst} (h:TabAt w SM mb fr sb mp tb root t) (a:Nat):getW t.b a 8<18446744073709551616:=by
 obtain ⟨_,_,_,_,_,_,_,h6⟩:=h.mem
 exact getW_lt h6.ok 8 a
theorem load8 {SM:Nat→Prop} {w:World} {mb fr:Nat} {b:By} (hm:MemAt w SM mb b fr) (a:Nat) (ha:a / 4096<fr) (h8:a%8=0) (hf:fr≤1048576) :
  Calls Tryz.prog 127 #[.pointer (some ⟨mb,0,none⟩),.int .u64 a,.int .i64 8] w (RetW (.tuple #[.int .u64 (getW b a 8),.int .i64 0]) fun w'=>w'=w):=by
 have hal:alignedB a (8:Nat)=true:=by unfold alignedB;rw [show sizeB ((8:Nat):Int)=true from rfl];exact decide_eq_true h8
 have:=Load_any hm a 8 (by omega) hf
 rw [check_ok hal ha,if_pos rfl] at this
 exact this
theorem store8 {SM:Nat→Prop} {w:World} {mb fr:Nat} {b:By} (hm:MemAt w SM mb b fr) (a v:Nat) (ha:a / 4096<fr) (h8:a%8=0) (hf:fr≤1048576) (hv:v<18446744073709551616) :
  Calls Tryz.prog 68 #[.pointer (some ⟨mb,0,none⟩),.int .u64 a,.int .i64 8,.int .u64 v] w (RetW (.int .i64 0) fun w'=>MemAt w' (Grow SM w) mb (putW b a 8 v) fr∧Chg SM w w'):=
 Store_any hm a 8 v (by omega) hf hv (by unfold alignedB;rw [show sizeB ((8:Nat):Int)=true from rfl];exact decide_eq_true h8) ha
theorem lead_any {SM:Nat→Prop} {w:World} {mb fr sb mp tb root:Nat} {t:Tst} (h:TabAt w SM mb fr sb mp tb root t) (pl:Nat) (hp:pl / 4096<fr) (h8:pl%8=0) :
  Calls Tryz.prog 125 #[.pointer (some ⟨tb,0,none⟩),.int .u64 pl] w (RetW (.tuple #[.int .u64 (leadF t pl).1.1,.int .i64 (leadF t pl).1.2]) fun w'=>TabAt w' (Grow SM w) mb fr sb mp tb root (leadF t pl).2∧Chg (TS SM sb mp tb) w w'):=by
 have H:=Lib.hid h
 have e0:=h.tab.cell' (i:=0) (v:=.pointer (some ⟨mb,0,none⟩)) rfl
 have hl:=h.tab.lt
 obtain ⟨V,hV⟩:∃V,getW t.b pl 8=V:=⟨_,rfl⟩
 have hV64:V<18446744073709551616:=by rw [←hV];exact h.word_lt pl
 have H0:=Lib.hid (load8 h.mem pl hp h8 h.fr)
 rw [hV] at H0
 obtain ⟨G,hG⟩:∃G,pteG V=G:=⟨_,rfl⟩
 obtain ⟨ok,hok⟩:∃ok,pteOkW V=ok:=⟨_,rfl⟩
 have H1:=Lib.hid (pteGet_any V hV64 w)
 rw [hG,hok] at H1
 have H2:=Lib.hid fun w'=>pteLeaf_any G w'
 obtain ⟨lf,hlf⟩:∃lf,leafB G=lf:=⟨_,rfl⟩
 rw [hlf] at H2
 have HL:Hid (leadF t pl=if V≠0 then (if lf=true then ((0,130),t) else ((G.ppn,0),t)) else if (tabTake t).1.2≠0 then ((0,(tabTake t).1.2),(tabTake t).2) else (((tabTake t).1.1,0),{ (tabTake t).2 with b:=putW (tabTake t).2.b pl 8 (pteW (ptrP (tabTake t).1.1))})):=Lib.hid (by
  unfold leadF
  simp only [hV,hG,hlf])
 have HS:Hid (∀w' t',TabAt w' (Grow SM w) mb fr sb mp tb root t'→∀v:Nat,v<18446744073709551616→Calls Tryz.prog 68 #[.pointer (some ⟨mb,0,none⟩),.int .u64 pl,.int .i64 8,.int .u64 v] w' (RetW (.int .i64 0) fun w''=>MemAt w'' (Grow (Grow SM w) w') mb (putW t'.b pl 8 v) fr∧Chg (Grow SM w) w' w'')):=Lib.hid fun w' t' h' v hv=>store8 h'.mem pl v hp h8 h.fr hv
 have HG:Hid (∀w',TabAt w' SM mb fr sb mp tb root t→w.heap.size≤w'.heap.size→TabAt w' (Grow SM w) mb fr sb mp tb root t):=Lib.hid fun w' h' hs=>by
  have:=h.stk.blk.lt;have:=h.stk.map.lt;have:=h.tab.lt
  exact ⟨h'.mem.mono fun k _ e=>.inl e,h'.stk,h'.tab,fun e=>e.elim h.n1 (fun e=>by omega),fun e=>e.elim h.n2 (fun e=>by omega),fun e=>e.elim h.n3 (fun e=>by omega),h.n4,h.n5,h.ok,h.us,h.fr⟩
 clear h hV hG hok hlf hp h8;go_enter Tryz.func125,Tryz.ntmps125;go_wp2_with fail;with_reducible refine H0.out.mono ?_
 rintro e w1 ⟨rfl,hw1⟩;subst hw1;go_wp2_with fail;with_reducible refine H1.out.mono ?_
 rintro e w2 ⟨rfl,C2⟩;obtain ⟨gv,gr,gw,gx,gu,gg,ga,gd,grs,gp⟩:=G
 have HC:=Lib.hid (C2.alloc (.cells #[.bool gv,.bool gr,.bool gw,.bool gx,.bool gu,.bool gg,.bool ga,.bool gd,.int .i64 grs,.int .u64 gp] 233))
 have HP:=Lib.hid (Blk.new w2 #[.bool gv,.bool gr,.bool gw,.bool gx,.bool gu,.bool gg,.bool ga,.bool gd,.int .i64 grs,.int .u64 gp] 233)
 clear C2;go_upto_region 3 with fail;generalize w2.alloc (.cells #[.bool gv,.bool gr,.bool gw,.bool gx,.bool gu,.bool gg,.bool ga,.bool gd,.int .i64 grs,.int .u64 gp] 233)=w3 at *;by_cases hV0:V=0
 ·subst hV0;have HL1:Hid (leadF t pl=if (tabTake t).1.2≠0 then ((0,(tabTake t).1.2),(tabTake t).2) else (((tabTake t).1.1,0),{ (tabTake t).2 with b:=putW (tabTake t).2.b pl 8 (pteW (ptrP (tabTake t).1.1))})):=Lib.hid (by rw [HL.out,if_neg (by simp)])
  have H3:=Lib.hid (H.out.chg0 HC.out)
  have y0:=HP.out.cell' (i:=0) (v:=.bool gv) rfl
  have y1:=HP.out.cell' (i:=1) (v:=.bool gr) rfl
  have y2:=HP.out.cell' (i:=2) (v:=.bool gw) rfl
  have y3:=HP.out.cell' (i:=3) (v:=.bool gx) rfl
  have y4:=HP.out.cell' (i:=4) (v:=.bool gu) rfl
  have y5:=HP.out.cell' (i:=5) (v:=.bool gg) rfl
  have y6:=HP.out.cell' (i:=6) (v:=.bool ga) rfl
  have y7:=HP.out.cell' (i:=7) (v:=.bool gd) rfl
  have y8:=HP.out.cell' (i:=8) (v:=.int .i64 grs) rfl
  have y9:=HP.out.cell' (i:=9) (v:=.int .u64 gp) rfl
  have hpr:=HP.out.lt
  go_upto_region 7 with fail;clear y0 y1 y2 y3 y4 y5 y6 y7 y8 y9 hpr;by_cases hlt:t.s.next<t.s.fin
  ·have HK:=Lib.hid (take_some H3.out hlt)
   rw [tabTake_some hlt] at HL1 HK
   have hnx:t.s.next<1048576:=by have:=H.out.ok.fin;have:=H.out.fr;omega
   obtain ⟨nx,hn⟩:∃nx,t.s.next=nx:=⟨_,rfl⟩
   rw [hn] at HL1 HK hnx
   have HPut:=Lib.hid fun w'=>ptePut_any (ptrP nx) (ptr_ok (by omega)) w'
   have HF:Hid (leadF t pl=((nx,0),{ (⟨zeroPg t.b nx,{ t.s with next:=nx+1,taken:=addN t.s.taken nx},t.used+1⟩:Tst) with b:=putW (zeroPg t.b nx) pl 8 (pteW (ptrP nx))})):=Lib.hid (by rw [HL1.out,if_neg (by simp)])
   clear hn hlt;go_wp2_with fail;with_reducible refine HK.out.mono ?_
   rintro e w4 ⟨rfl,T4,C4⟩;have T4:TabAt w4 (Grow SM w1) mb fr sb mp tb root _:=T4.grow3 H.out HC.out.size
   have HT4:=Lib.hid T4
   have f0:=T4.tab.cell' (i:=0) (v:=.pointer (some ⟨mb,0,none⟩)) rfl
   have hl4:=T4.tab.lt
   have HC4:=Lib.hid C4
   clear T4 C4 hl e0;go_upto_region 10 with fail;refine wp_region_take 9 [0,1,2,3,4,5,6,7] [8] (fun w'=>w'.cell? ⟨tb,0,none⟩=some (.pointer (some ⟨mb,0,none⟩))) (by kernel_rfl) (by kernel_rfl) (fun _ _ _ _ _ h=>h) (f0) ?_
   simp only [pickOps_nil,pickOps_cons,Option.getD_some,List.getElem?_toArray,List.getElem?_cons_zero,List.getElem?_cons_succ,List.cons_append,List.nil_append,List.drop_succ_cons,List.drop_zero]
   repeat
    refine wpTake_cons' rfl ?_
    apply Exists.intro;refine ⟨fun wS hS=>?_,?_⟩
    ·try dsimp only at hS
     obtain f0':=hS
     go_simp;try rfl
    simp only [Act.put,List.setIfInBounds_toArray,List.set_cons_zero,List.set_cons_succ]
   refine wpTake_nil ?_
   refine wpForce_cons rfl (fun K hK=>?_)
   go_simp;have cw:IntKind.u64.wrap ((nx:Nat):Int)=nx:=by show (nx:Int)%18446744073709551616=nx;omega
   rw [cw]
   refine (HPut.out _).mono ?_
   rintro e w5 ⟨rfl,C5'⟩;have C5:=C5'.undrew
   have HT5:=Lib.hid (HT4.out.chg0 C5)
   have HC5:=Lib.hid C5
   have f0:=HT5.out.tab.cell' (i:=0) (v:=.pointer (some ⟨mb,0,none⟩)) rfl
   refine hK _ _ f0 ?_
   refine wpForce_nil ?_
   clear hK K C5 C5';have HSt:=Lib.hid (HS.out _ _ HT5.out (pteW (ptrP nx)) (by have:=pteW_lt (ptrP nx);omega))
   go_wp2_with fail;with_reducible refine HSt.out.mono ?_
   rintro e w6 ⟨rfl,M6,C6⟩;have HX:Hid (TabAt w6 (Grow SM w1) mb fr sb mp tb root { (⟨zeroPg t.b nx,{ t.s with next:=nx+1,taken:=addN t.s.taken nx},t.used+1⟩:Tst) with b:=putW (zeroPg t.b nx) pl 8 (pteW (ptrP nx))}∧Chg (TS SM sb mp tb) w1 w6):=Lib.hid (by
    have c45:=HC4.out.trans HC5.out fun k _ e=>e.elim
    have hs:w1.heap.size≤w5.heap.size:=Nat.le_trans HC.out.size c45.size
    refine ⟨(HT5.out.store M6 C6).grow2 hs,?_⟩
    exact ((HC.out.mono (S':=TS SM sb mp tb) fun _ _ e=>e.elim).trans c45 fun k _ e=>e).trans C6 fun k hk e=>e.elim .inl fun e=>by omega)
   clear M6 C6;go_wp2_with fail;go_ret2
   exact ⟨by rw [HF.out];rfl,by rw [HF.out];exact HX.out⟩
  ·have HK:=Lib.hid (take_none H3.out (by omega))
   rw [tabTake_none (by omega)] at HL1
   have HF:Hid (leadF t pl=((0,50),t)):=Lib.hid (by rw [HL1.out,if_pos (by simp)])
   clear hlt;go_wp2_with fail;with_reducible refine HK.out.mono ?_
   rintro e w4 ⟨rfl,T4,C4⟩;have HX:=Lib.hid (And.intro (HG.out w4 T4 (HC.out.step C4).size) ((HC.out.step C4).mono (S':=TS SM sb mp tb) fun _ _ h=>h.elim))
   clear T4 C4;go_wp2_with fail;go_ret2
   exact ⟨by rw [HF.out];rfl,by rw [HF.out];exact HX.out⟩
 ·have t1:((V:Int) == 0)=false:=beq_eq_false_iff_ne.2 (by omega)
  have t2:((V:Int) != 0)=true:=by rw [bne,t1];rfl
  have HL1:Hid (leadF t pl=if lf=true then ((0,130),t) else ((gp,0),t)):=Lib.hid (by rw [HL.out,if_pos hV0])
  have HX:=Lib.hid fun w4 (c:Chg NoB w1 w4)=>And.intro (HG.out w4 (H.out.chg0 c) c.size) (c.mono (S':=TS SM sb mp tb) fun _ _ h=>h.elim)
  clear hV0;have y0:=HP.out.cell' (i:=0) (v:=.bool gv) rfl
  have y1:=HP.out.cell' (i:=1) (v:=.bool gr) rfl
  have y2:=HP.out.cell' (i:=2) (v:=.bool gw) rfl
  have y3:=HP.out.cell' (i:=3) (v:=.bool gx) rfl
  have y4:=HP.out.cell' (i:=4) (v:=.bool gu) rfl
  have y5:=HP.out.cell' (i:=5) (v:=.bool gg) rfl
  have y6:=HP.out.cell' (i:=6) (v:=.bool ga) rfl
  have y7:=HP.out.cell' (i:=7) (v:=.bool gd) rfl
  have y8:=HP.out.cell' (i:=8) (v:=.int .i64 grs) rfl
  have y9:=HP.out.cell' (i:=9) (v:=.int .u64 gp) rfl
  have hpr:=HP.out.lt
  go_wp2_with fail;with_reducible refine (H2.out _).mono ?_
  rintro e w4 ⟨rfl,C4⟩;have HC4:=Lib.hid (HC.out.step C4)
  have HP:=Lib.hid (C4.blk0 HP.out)
  clear C4 y0 y1 y2 y3 y4 y5 y6 y7 y8 y9 hpr;have y0:=HP.out.cell' (i:=0) (v:=.bool gv) rfl
  have y1:=HP.out.cell' (i:=1) (v:=.bool gr) rfl
  have y2:=HP.out.cell' (i:=2) (v:=.bool gw) rfl
  have y3:=HP.out.cell' (i:=3) (v:=.bool gx) rfl
  have y4:=HP.out.cell' (i:=4) (v:=.bool gu) rfl
  have y5:=HP.out.cell' (i:=5) (v:=.bool gg) rfl
  have y6:=HP.out.cell' (i:=6) (v:=.bool ga) rfl
  have y7:=HP.out.cell' (i:=7) (v:=.bool gd) rfl
  have y8:=HP.out.cell' (i:=8) (v:=.int .i64 grs) rfl
  have y9:=HP.out.cell' (i:=9) (v:=.int .u64 gp) rfl
  have hpr:=HP.out.lt
  cases lf
  ·go_wp2_with fail;go_ret2
   exact ⟨by rw [HL1.out];rfl,by rw [HL1.out];exact HX.out _ HC4.out⟩
  ·go_wp2_with fail;go_ret2
   exact ⟨by rw [HL1.out];rfl,by rw [HL1.out];exact HX.out _ HC4.out⟩
theorem and_zero (x:Nat) (h:x<18446744073709551616):bits .and .u64 (x:Int) 0=0:=by
 have:=and_lo 0 (by omega) (x:Int) (by omega) (by omega)
 simpa [Int.emod_one] using this
theorem wrap_zero:IntKind.i64.wrap 0=0:=rfl
theorem shl_zero (w:World):(Op.shift BinOp.shl IntKind.u64 1 IntKind.i64 (IntKind.i64.wrap 0)).run Tryz.prog w = .ok (.int .u64 1) w:=rfl
theorem pte_guard:Tryz.prog.eqGuardType Tryz.prog.depth 233=false:=by kernel_rfl
theorem ppart_0 (a0 a1 a2 a3 a4 a5 a6 a7:Bool) (a8 a9:Int) (w:World):(_root_.Go.part 4 #[.bool a0,.bool a1,.bool a2,.bool a3,.bool a4,.bool a5,.bool a6,.bool a7,.int .i64 a8,.int .u64 a9] 0).run Tryz.prog w = .ok (.bool a0) w:=by kernel_rfl
theorem ppart_1 (a0 a1 a2 a3 a4 a5 a6 a7:Bool) (a8 a9:Int) (w:World):(_root_.Go.part 4 #[.bool a0,.bool a1,.bool a2,.bool a3,.bool a4,.bool a5,.bool a6,.bool a7,.int .i64 a8,.int .u64 a9] 1).run Tryz.prog w = .ok (.bool a1) w:=by kernel_rfl
theorem ppart_2 (a0 a1 a2 a3 a4 a5 a6 a7:Bool) (a8 a9:Int) (w:World):(_root_.Go.part 4 #[.bool a0,.bool a1,.bool a2,.bool a3,.bool a4,.bool a5,.bool a6,.bool a7,.int .i64 a8,.int .u64 a9] 2).run Tryz.prog w = .ok (.bool a2) w:=by kernel_rfl
theorem ppart_3 (a0 a1 a2 a3 a4 a5 a6 a7:Bool) (a8 a9:Int) (w:World):(_root_.Go.part 4 #[.bool a0,.bool a1,.bool a2,.bool a3,.bool a4,.bool a5,.bool a6,.bool a7,.int .i64 a8,.int .u64 a9] 3).run Tryz.prog w = .ok (.bool a3) w:=by kernel_rfl
theorem ppart_4 (a0 a1 a2 a3 a4 a5 a6 a7:Bool) (a8 a9:Int) (w:World):(_root_.Go.part 4 #[.bool a0,.bool a1,.bool a2,.bool a3,.bool a4,.bool a5,.bool a6,.bool a7,.int .i64 a8,.int .u64 a9] 4).run Tryz.prog w = .ok (.bool a4) w:=by kernel_rfl
theorem ppart_5 (a0 a1 a2 a3 a4 a5 a6 a7:Bool) (a8 a9:Int) (w:World):(_root_.Go.part 4 #[.bool a0,.bool a1,.bool a2,.bool a3,.bool a4,.bool a5,.bool a6,.bool a7,.int .i64 a8,.int .u64 a9] 5).run Tryz.prog w = .ok (.bool a5) w:=by kernel_rfl
theorem ppart_6 (a0 a1 a2 a3 a4 a5 a6 a7:Bool) (a8 a9:Int) (w:World):(_root_.Go.part 4 #[.bool a0,.bool a1,.bool a2,.bool a3,.bool a4,.bool a5,.bool a6,.bool a7,.int .i64 a8,.int .u64 a9] 6).run Tryz.prog w = .ok (.bool a6) w:=by kernel_rfl
theorem ppart_7 (a0 a1 a2 a3 a4 a5 a6 a7:Bool) (a8 a9:Int) (w:World):(_root_.Go.part 4 #[.bool a0,.bool a1,.bool a2,.bool a3,.bool a4,.bool a5,.bool a6,.bool a7,.int .i64 a8,.int .u64 a9] 7).run Tryz.prog w = .ok (.bool a7) w:=by kernel_rfl
theorem ppart_8 (a0 a1 a2 a3 a4 a5 a6 a7:Bool) (a8 a9:Int) (w:World):(_root_.Go.part 3 #[.bool a0,.bool a1,.bool a2,.bool a3,.bool a4,.bool a5,.bool a6,.bool a7,.int .i64 a8,.int .u64 a9] 8).run Tryz.prog w = .ok (.int .i64 a8) w:=by kernel_rfl
theorem ppart_9 (a0 a1 a2 a3 a4 a5 a6 a7:Bool) (a8 a9:Int) (w:World):(_root_.Go.part 65 #[.bool a0,.bool a1,.bool a2,.bool a3,.bool a4,.bool a5,.bool a6,.bool a7,.int .i64 a8,.int .u64 a9] 9).run Tryz.prog w = .ok (.int .u64 a9) w:=by kernel_rfl
theorem peqb (t:TypeId) (h:Tryz.prog.underlying t=some .bool) (a b:Bool) (w:World):(Op.equalIn 9999 t (.bool a) (.bool b)).run Tryz.prog w = .ok (a == b) w:=run_equalIn_bool w 9998 t a b h
theorem peqi (t:TypeId) (h:Tryz.prog.underlying t=some (.int .i64)) (a b:Int) (w:World):(Op.equalIn 9999 t (.int .i64 a) (.int .i64 b)).run Tryz.prog w = .ok (a == b) w:=run_equalIn_int w 9998 t .i64 .i64 a b h
theorem pequ (t:TypeId) (h:Tryz.prog.underlying t=some (.int .u64)) (a b:Int) (w:World):(Op.equalIn 9999 t (.int .u64 a) (.int .u64 b)).run Tryz.prog w = .ok (a == b) w:=run_equalIn_int w 9998 t .u64 .u64 a b h
theorem pte_eq (p:Pte) (w:World):(Op.equalIn 10000 233 (.agg #[.bool p.v,.bool p.r,.bool p.w,.bool p.x,.bool p.u,.bool p.g,.bool p.a,.bool p.d,.int .i64 p.rsw,.int .u64 p.ppn]) (.agg #[.bool p.v,.bool p.r,.bool p.w,.bool p.x,.bool p.u,.bool p.g,.bool p.a,.bool p.d,.int .i64 p.rsw,.int .u64 p.ppn])).run Tryz.prog w = .ok true w:=by
 rw [run_equalIn_agg w 9999 233 _ _ (by kernel_rfl) (by kernel_rfl)]
 simp [Program.fieldsOf,Tryz.underlying233,Op.eqFields,ppart_0,ppart_1,ppart_2,ppart_3,ppart_4,ppart_5,ppart_6,ppart_7,ppart_8,ppart_9,peqb 4 Tryz.underlying4,peqi 3 Tryz.underlying3,pequ 65 Tryz.underlying65]
theorem may_any (p:Pte) (hp:p.Ok) (h8:rightP8 p=true) (hl:leafB p=true) (w:World):Calls Tryz.prog 124 #[.agg #[.bool p.v,.bool p.r,.bool p.w,.bool p.x,.bool p.u,.bool p.g,.bool p.a,.bool p.d,.int .i64 p.rsw,.int .u64 p.ppn],.int .i64 0] w (RetW (.bool true) fun w'=>Chg NoB w w'):=by
 have H1:=Lib.hid fun w'=>ptePut_any p hp w'
 have H2:=Lib.hid fun w'=>pteGet_any (pteW p) (by have:=pteW_lt p;omega) w'
 rw [pteG_W hp] at H2
 obtain ⟨ok,hok⟩:∃ok,pteOkW (pteW p)=ok:=⟨_,rfl⟩
 rw [hok] at H2
 have H3:=Lib.hid fun w'=>pteRight_any p w'
 have H4:=Lib.hid fun w'=>pteLeaf_any p w'
 rw [h8] at H3
 rw [hl] at H4
 have hW:=pteW_lt p
 obtain ⟨W,hWW⟩:∃W,pteW p=W:=⟨_,rfl⟩
 rw [hWW] at H1 H2 hW
 have hpp:p.ppn<17592186044416:=hp.2.2
 clear hok hp hWW h8 hl;obtain ⟨v,r,pw,x,u,g,a,d,rsw,ppn⟩:=p
 have HC0:=Lib.hid ((Chg.refl NoB w).alloc (.cells #[.bool v,.bool r,.bool pw,.bool x,.bool u,.bool g,.bool a,.bool d,.int .i64 rsw,.int .u64 ppn] 233))
 have HB0:=Lib.hid (Blk.new w #[.bool v,.bool r,.bool pw,.bool x,.bool u,.bool g,.bool a,.bool d,.int .i64 rsw,.int .u64 ppn] 233)
 go_enter Tryz.func124,Tryz.ntmps124;go_upto_region 1 with fail;generalize w.alloc (.cells #[.bool v,.bool r,.bool pw,.bool x,.bool u,.bool g,.bool a,.bool d,.int .i64 rsw,.int .u64 ppn] 233)=w1 at *;have x0:=HB0.out.cell' (i:=0) (v:=.bool v) rfl
 have x1:=HB0.out.cell' (i:=1) (v:=.bool r) rfl
 have x2:=HB0.out.cell' (i:=2) (v:=.bool pw) rfl
 have x3:=HB0.out.cell' (i:=3) (v:=.bool x) rfl
 have x4:=HB0.out.cell' (i:=4) (v:=.bool u) rfl
 have x5:=HB0.out.cell' (i:=5) (v:=.bool g) rfl
 have x6:=HB0.out.cell' (i:=6) (v:=.bool a) rfl
 have x7:=HB0.out.cell' (i:=7) (v:=.bool d) rfl
 have x8:=HB0.out.cell' (i:=8) (v:=.int .i64 rsw) rfl
 have x9:=HB0.out.cell' (i:=9) (v:=.int .u64 ppn) rfl
 have hxl:=HB0.out.lt
 go_wp2_with fail;with_reducible refine (H1.out _).mono ?_
 rintro e w2 ⟨rfl,C2⟩;go_wp2_with fail;with_reducible refine (H2.out _).mono ?_
 rintro e w3 ⟨rfl,C3⟩;have HC1:=Lib.hid (((HC0.out.step C2).step C3).alloc (.cells #[.bool v,.bool r,.bool pw,.bool x,.bool u,.bool g,.bool a,.bool d,.int .i64 rsw,.int .u64 ppn] 233))
 have HB1:=Lib.hid ((C3.blk0 (C2.blk0 HB0.out)).alloc (.cells #[.bool v,.bool r,.bool pw,.bool x,.bool u,.bool g,.bool a,.bool d,.int .i64 rsw,.int .u64 ppn] 233))
 have HQ1:=Lib.hid (Blk.new w3 #[.bool v,.bool r,.bool pw,.bool x,.bool u,.bool g,.bool a,.bool d,.int .i64 rsw,.int .u64 ppn] 233)
 clear C2 C3 x0 x1 x2 x3 x4 x5 x6 x7 x8 x9 hxl;go_upto_region 2 with fail;generalize w3.alloc (.cells #[.bool v,.bool r,.bool pw,.bool x,.bool u,.bool g,.bool a,.bool d,.int .i64 rsw,.int .u64 ppn] 233)=w4 at *;obtain ⟨qb,hqb⟩:∃qb,w3.heap.size=qb:=⟨_,rfl⟩
 rw [hqb] at HQ1 ⊢
 clear hqb;have x0:=HB1.out.drew.cell' (i:=0) (v:=.bool v) rfl
 have x1:=HB1.out.drew.cell' (i:=1) (v:=.bool r) rfl
 have x2:=HB1.out.drew.cell' (i:=2) (v:=.bool pw) rfl
 have x3:=HB1.out.drew.cell' (i:=3) (v:=.bool x) rfl
 have x4:=HB1.out.drew.cell' (i:=4) (v:=.bool u) rfl
 have x5:=HB1.out.drew.cell' (i:=5) (v:=.bool g) rfl
 have x6:=HB1.out.drew.cell' (i:=6) (v:=.bool a) rfl
 have x7:=HB1.out.drew.cell' (i:=7) (v:=.bool d) rfl
 have x8:=HB1.out.drew.cell' (i:=8) (v:=.int .i64 rsw) rfl
 have x9:=HB1.out.drew.cell' (i:=9) (v:=.int .u64 ppn) rfl
 have y0:=HQ1.out.drew.cell' (i:=0) (v:=.bool v) rfl
 have y1:=HQ1.out.drew.cell' (i:=1) (v:=.bool r) rfl
 have y2:=HQ1.out.drew.cell' (i:=2) (v:=.bool pw) rfl
 have y3:=HQ1.out.drew.cell' (i:=3) (v:=.bool x) rfl
 have y4:=HQ1.out.drew.cell' (i:=4) (v:=.bool u) rfl
 have y5:=HQ1.out.drew.cell' (i:=5) (v:=.bool g) rfl
 have y6:=HQ1.out.drew.cell' (i:=6) (v:=.bool a) rfl
 have y7:=HQ1.out.drew.cell' (i:=7) (v:=.bool d) rfl
 have y8:=HQ1.out.drew.cell' (i:=8) (v:=.int .i64 rsw) rfl
 have y9:=HQ1.out.drew.cell' (i:=9) (v:=.int .u64 ppn) rfl
 have cX:=HC1.out.drew
 have hq:=pte_eq ⟨v,r,pw,x,u,g,a,d,rsw,ppn⟩
 have hqg:=pte_guard
 have he:=and_zero ppn (by omega)
 have HF:=Lib.hid (show bits .and .u64 (ppn:Int) (IntKind.u64.wrap (IntKind.u64.wrap 1 - 1))=0 from he)
 have hsh:=shl_zero
 have hwz:=wrap_zero
 clear HC0 HB0 HC1 HB1 HQ1;go_region_held3 (fun w'=>w'.cell? ⟨w.heap.size,0,none⟩=some (.bool v)∧w'.cell? ⟨w.heap.size,1,none⟩=some (.bool r)∧w'.cell? ⟨w.heap.size,2,none⟩=some (.bool pw)∧w'.cell? ⟨w.heap.size,3,none⟩=some (.bool x)∧w'.cell? ⟨w.heap.size,4,none⟩=some (.bool u)∧w'.cell? ⟨w.heap.size,5,none⟩=some (.bool g)∧w'.cell? ⟨w.heap.size,6,none⟩=some (.bool a)∧w'.cell? ⟨w.heap.size,7,none⟩=some (.bool d)∧w'.cell? ⟨w.heap.size,8,none⟩=some (.int .i64 rsw)∧w'.cell? ⟨w.heap.size,9,none⟩=some (.int .u64 ppn)∧w'.cell? ⟨qb,0,none⟩=some (.bool v)∧w'.cell? ⟨qb,1,none⟩=some (.bool r)∧w'.cell? ⟨qb,2,none⟩=some (.bool pw)∧w'.cell? ⟨qb,3,none⟩=some (.bool x)∧w'.cell? ⟨qb,4,none⟩=some (.bool u)∧w'.cell? ⟨qb,5,none⟩=some (.bool g)∧w'.cell? ⟨qb,6,none⟩=some (.bool a)∧w'.cell? ⟨qb,7,none⟩=some (.bool d)∧w'.cell? ⟨qb,8,none⟩=some (.int .i64 rsw)∧w'.cell? ⟨qb,9,none⟩=some (.int .u64 ppn)∧Chg NoB w w') (exact ⟨by assumption,by assumption,by assumption,by assumption,by assumption,by assumption,by assumption,by assumption,by assumption,by assumption,by assumption,by assumption,by assumption,by assumption,by assumption,by assumption,by assumption,by assumption,by assumption,by assumption,by assumption⟩)
  (first
   |(go_at_call 162;(with_reducible refine (H3.out _).mono ?_);rintro e wa ⟨rfl,Ca⟩;have x0':=Ca.cell (a:=⟨w.heap.size,0,none⟩) (v:=.bool v) (by assumption) id;have x1':=Ca.cell (a:=⟨w.heap.size,1,none⟩) (v:=.bool r) (by assumption) id;have x2':=Ca.cell (a:=⟨w.heap.size,2,none⟩) (v:=.bool pw) (by assumption) id;have x3':=Ca.cell (a:=⟨w.heap.size,3,none⟩) (v:=.bool x) (by assumption) id;have x4':=Ca.cell (a:=⟨w.heap.size,4,none⟩) (v:=.bool u) (by assumption) id;have x5':=Ca.cell (a:=⟨w.heap.size,5,none⟩) (v:=.bool g) (by assumption) id;have x6':=Ca.cell (a:=⟨w.heap.size,6,none⟩) (v:=.bool a) (by assumption) id;have x7':=Ca.cell (a:=⟨w.heap.size,7,none⟩) (v:=.bool d) (by assumption) id;have x8':=Ca.cell (a:=⟨w.heap.size,8,none⟩) (v:=.int .i64 rsw) (by assumption) id;have x9':=Ca.cell (a:=⟨w.heap.size,9,none⟩) (v:=.int .u64 ppn) (by assumption) id;have y0':=Ca.cell (a:=⟨qb,0,none⟩) (v:=.bool v) (by assumption) id;have y1':=Ca.cell (a:=⟨qb,1,none⟩) (v:=.bool r) (by assumption) id;have y2':=Ca.cell (a:=⟨qb,2,none⟩) (v:=.bool pw) (by assumption) id;have y3':=Ca.cell (a:=⟨qb,3,none⟩) (v:=.bool x) (by assumption) id;have y4':=Ca.cell (a:=⟨qb,4,none⟩) (v:=.bool u) (by assumption) id;have y5':=Ca.cell (a:=⟨qb,5,none⟩) (v:=.bool g) (by assumption) id;have y6':=Ca.cell (a:=⟨qb,6,none⟩) (v:=.bool a) (by assumption) id;have y7':=Ca.cell (a:=⟨qb,7,none⟩) (v:=.bool d) (by assumption) id;have y8':=Ca.cell (a:=⟨qb,8,none⟩) (v:=.int .i64 rsw) (by assumption) id;have y9':=Ca.cell (a:=⟨qb,9,none⟩) (v:=.int .u64 ppn) (by assumption) id;have HC':=Chg.step (by assumption) Ca;clear Ca)
    |(go_at_call 163;(with_reducible refine (H4.out _).mono ?_);rintro e wb ⟨rfl,Cb⟩;have x0':=Cb.cell (a:=⟨w.heap.size,0,none⟩) (v:=.bool v) (by assumption) id;have x1':=Cb.cell (a:=⟨w.heap.size,1,none⟩) (v:=.bool r) (by assumption) id;have x2':=Cb.cell (a:=⟨w.heap.size,2,none⟩) (v:=.bool pw) (by assumption) id;have x3':=Cb.cell (a:=⟨w.heap.size,3,none⟩) (v:=.bool x) (by assumption) id;have x4':=Cb.cell (a:=⟨w.heap.size,4,none⟩) (v:=.bool u) (by assumption) id;have x5':=Cb.cell (a:=⟨w.heap.size,5,none⟩) (v:=.bool g) (by assumption) id;have x6':=Cb.cell (a:=⟨w.heap.size,6,none⟩) (v:=.bool a) (by assumption) id;have x7':=Cb.cell (a:=⟨w.heap.size,7,none⟩) (v:=.bool d) (by assumption) id;have x8':=Cb.cell (a:=⟨w.heap.size,8,none⟩) (v:=.int .i64 rsw) (by assumption) id;have x9':=Cb.cell (a:=⟨w.heap.size,9,none⟩) (v:=.int .u64 ppn) (by assumption) id;have y0':=Cb.cell (a:=⟨qb,0,none⟩) (v:=.bool v) (by assumption) id;have y1':=Cb.cell (a:=⟨qb,1,none⟩) (v:=.bool r) (by assumption) id;have y2':=Cb.cell (a:=⟨qb,2,none⟩) (v:=.bool pw) (by assumption) id;have y3':=Cb.cell (a:=⟨qb,3,none⟩) (v:=.bool x) (by assumption) id;have y4':=Cb.cell (a:=⟨qb,4,none⟩) (v:=.bool u) (by assumption) id;have y5':=Cb.cell (a:=⟨qb,5,none⟩) (v:=.bool g) (by assumption) id;have y6':=Cb.cell (a:=⟨qb,6,none⟩) (v:=.bool a) (by assumption) id;have y7':=Cb.cell (a:=⟨qb,7,none⟩) (v:=.bool d) (by assumption) id;have y8':=Cb.cell (a:=⟨qb,8,none⟩) (v:=.int .i64 rsw) (by assumption) id;have y9':=Cb.cell (a:=⟨qb,9,none⟩) (v:=.int .u64 ppn) (by assumption) id;have HC':=Chg.step (by assumption) Cb;clear Cb))
 all_goals
  have HX:=Lib.hid (by assumption:Chg NoB w _)
  clear x0 x1;go_wp2_with fail;go_ret;exact ⟨congrArg Ending.returned (show Value.bool (bits .and .u64 (ppn:Int) (IntKind.u64.wrap (IntKind.u64.wrap 1 - 1)) == 0)=Value.bool true by rw [HF.out];rfl),HX.out⟩
def ledF (root:Nat) (t:Tst) (va:Nat):(Nat×Int)×Tst:=
 let r:=leadF t (root*4096+8*idx va 2)
 if r.1.2≠0 then ((0,r.1.2),r.2)
 else
  let q:=leadF r.2 (r.1.1*4096+8*idx va 1)
  if q.1.2≠0 then ((0,q.1.2),q.2) else ((q.1.1*4096+8*idx va 0,0),q.2)
theorem mapF_led (root:Nat) (t:Tst) (va:Nat) (p:Pte) (hc:canonB va=true) (hm:mayB p=true) :
  mapF root t va p=if (ledF root t va).1.2≠0 then ((ledF root t va).1.2,(ledF root t va).2)
   else if getW (ledF root t va).2.b (ledF root t va).1.1 8≠0 then (130,(ledF root t va).2)
   else (0,{ (ledF root t va).2 with b:=putW (ledF root t va).2.b (ledF root t va).1.1 8 (pteW p)}):=by
 unfold mapF ledF
 rw [hc,hm]
 dsimp only
 by_cases h1:(leadF t (root*4096+8*idx va 2)).1.2≠0
 ·simp [h1]
 ·simp only [h1,if_false,Bool.not_true,Bool.or_self]
  by_cases h2:(leadF (leadF t (root*4096+8*idx va 2)).2 ((leadF t (root*4096+8*idx va 2)).1.1*4096+8*idx va 1)).1.2≠0
  ·simp [h2]
  ·simp [h2]
structure LedOk (fr root:Nat) (t:Tst) (va:Nat):Prop where
 rt:root<fr
 h1:(leadF t (root*4096+8*idx va 2)).1.2=0→(leadF t (root*4096+8*idx va 2)).1.1<fr
 h2:(leadF t (root*4096+8*idx va 2)).1.2=0→(leadF (leadF t (root*4096+8*idx va 2)).2 ((leadF t (root*4096+8*idx va 2)).1.1*4096+8*idx va 1)).1.2=0→
  (leadF (leadF t (root*4096+8*idx va 2)).2 ((leadF t (root*4096+8*idx va 2)).1.1*4096+8*idx va 1)).1.1<fr
end Go.Proofs.YtjhnnjgnkkjmkaaGreatDoor
