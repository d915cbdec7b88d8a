/- Nodes that run, their links at rest: nothing is sent. No condition. Nodes that run, their links at rest: nothing goes out. No condition. Facts as cells. Plain, no program. No condition. Clusters that run, nothing under way: what lies where; small calls. No condition. -/
import Derived.Test.YtjhnnjgnkkjmkaaGreatDoorIb
import Derived.Test.YtjhnnjgnkkjmkaaGreatDoorGd
import Derived.Test.YtjhnnjgnkkjmkaaGreatDoorGe
import Derived.Test.YtjhnnjgnkkjmkaaGreatDoorFa
import Derived.Test.YtjhnnjgnkkjmkaaGreatDoorId
set_option maxHeartbeats 2000000
set_option maxRecDepth 100000
set_option linter.unusedVariables false
set_option linter.unusedSimpArgs false
namespace Go.Proofs.YtjhnnjgnkkjmkaaGreatDoor
open Go.RowKit Go.RR
theorem Chg.same {w:World} {b:Nat} {cs:Array Value} {T:TypeId} (h:Blk w b cs T) {i:Nat} {v:Value} (hi:cs[i]? = some v):Chg NoB w (w.setCell ⟨b,i,none⟩ v):=by
 have c:=(Chg.refl (fun k=>k=b) w).setCell (a:=⟨b,i,none⟩) (.inl rfl) v
 have e:cs.setIfInBounds i v=cs:=by
  apply Array.ext_getElem?
  intro j;rw [Array.getElem?_setIfInBounds]
  split
  ·rename_i hj
   subst hj;split
   ·exact hi.symm
   ·rename_i hlt
    rw [Array.getElem?_eq_none (by omega)]
  ·rfl
 have h2:=h.set i v
 rw [e] at h2
 refine ⟨c.os,c.tape,c.output,c.size,fun k hk _=>?_⟩
 by_cases hkb:k=b
 ·subst hkb;have h1:w.heap[k]? = some (.cells cs T (0,0)):=h
  have h3:(w.setCell ⟨k,i,none⟩ v).heap[k]? = some (.cells cs T (0,0)):=h2
  rw [h1,h3]
 ·exact c.block k hk hkb
theorem again_quiet {w:World} {sb:Nat} (h:Blk w sb sdC 144) (now:Int):Calls Tryz.prog 249 #[.pointer (some ⟨sb,0,none⟩),.int .i64 now] w (RetW (.slice none 0 0) fun w'=>w'=w):=by
 have f4:=h.cell' (i:=4) (v:=.slice none 0 0) rfl
 have fl:=h.lt
 clear h;go_enter Tryz.func249,Tryz.ntmps249;go_wp2_with fail;go_loopg [13,5] 0 (fun k iv ov wr=>iv = .int .i64 0∧ov = .slice none 0 0∧wr=w)
 case atStart=>exact ⟨rfl,rfl,rfl⟩
 case round=>
  obtain ⟨rfl,rfl,hwr⟩:=hrel
  rename World=>wr;subst hwr;go_wp2_with fail;go_ret;exact ⟨rfl,rfl⟩
theorem sOut_quiet {w:World} {sb:Nat} (h:Blk w sb sdC 144) (now:Nat) (hn:now≤1099511627776):Calls Tryz.prog 213 #[.pointer (some ⟨sb,0,none⟩),.int .i64 now] w (RetW (.slice none 0 0) fun w'=>Chg NoB w w'):=by
 have HA:=Lib.hid (again_quiet h now)
 have H:=Lib.hid h
 have g:∀w',Chg NoB w w'→∀i,w'.cell? ⟨sb,i,none⟩ = #[.int .i64 2,.int .i64 3,.int .i64 12,.slice none 0 0,.slice none 0 0,.int .u64 1][i]?:=h.ever
 have gl:=h.everL
 have t1:decide ((0:Int)≤now)=true:=decide_eq_true (by omega)
 have t2:decide ((now:Int)≤1099511627776)=true:=decide_eq_true (by omega)
 have t3:decide (now≤1099511627776)=true:=decide_eq_true hn
 have m1:max (now:Int) 0=now:=by omega
 have m2:min (now:Int) 1099511627776=now:=by omega
 have cc:=Chg.refl NoB w
 clear h;go_enter Tryz.func213,Tryz.ntmps213;go_wp2_with fail;refine HA.out.mono ?_
 rintro e w1 ⟨rfl,hw⟩;subst hw;go_wp2_with fail;clear cc;go_loopg [5] 0 (fun k ov wr=>ov = .slice none 0 0∧Chg NoB w1 wr)
 case atStart=>exact ⟨rfl,Chg.refl _ _⟩
 case round=>
  obtain ⟨rfl,hC⟩:=hrel
  have HC:=Lib.hid hC
  have g2:∀w',Chg NoB wr w'→∀i,w'.cell? ⟨sb,i,none⟩ = #[.int .i64 2,.int .i64 3,.int .i64 12,.slice none 0 0,.slice none 0 0,.int .u64 1][i]?:=fun w' c=>g w' (HC.out.step c)
  have gl2:∀w',Chg NoB wr w'→sb<w'.heap.size:=fun w' c=>gl w' (HC.out.step c)
  have cc:=Chg.refl NoB wr
  clear g gl hC;go_upto_region 5 with fail;refine wp_region_mix 17 [(true,0),(true,1),(true,2),(true,3),(true,4),(true,5),(true,6),(true,7),(true,8),(true,9),(true,10),(true,11),(true,12),(true,13),(true,14),(true,15),(true,16)] (fun w'=>Chg NoB wr w') (by kernel_rfl) (by kernel_rfl) (fun _ _ _ _ _ h=>h) (cc.drew) ?_
  simp only [pickMix_nil,pickMix_cons,Option.getD_some,List.getElem?_toArray,List.getElem?_cons_zero,List.getElem?_cons_succ,List.cons_append,List.nil_append,List.drop_succ_cons,List.drop_zero]
  iterate 11
   refine wpMix_take rfl ?_;apply Exists.intro;refine ⟨fun wS hS=>?_,?_⟩
   ·try dsimp only at hS
    have cS:=hS
    go_simp;try rfl
   simp only [Act.put,List.setIfInBounds_toArray,List.set_cons_zero,List.set_cons_succ]
  first
  | refine wpMix_off (by rfl) ?_
  |(refine wpMix_on (by rfl) ?_
    apply Exists.intro;refine ⟨fun wS hS=>?_,?_⟩
    ·try dsimp only at hS
     have cS:=hS
     go_simp;try rfl)
  simp only [Act.put,List.setIfInBounds_toArray,List.set_cons_zero,List.set_cons_succ]
  first
  | refine wpMix_off (by rfl) ?_
  |(refine wpMix_on (by rfl) ?_
    apply Exists.intro;refine ⟨fun wS hS=>?_,?_⟩
    ·try dsimp only at hS
     have cS:=hS
     go_simp;try rfl)
  simp only [Act.put,List.setIfInBounds_toArray,List.set_cons_zero,List.set_cons_succ]
  first
  | refine wpMix_off (by rfl) ?_
  |(refine wpMix_on (by rfl) ?_
    apply Exists.intro;refine ⟨fun wS hS=>?_,?_⟩
    ·try dsimp only at hS
     have cS:=hS
     go_simp;try rfl)
  simp only [Act.put,List.setIfInBounds_toArray,List.set_cons_zero,List.set_cons_succ]
  first
  | refine wpMix_off (by rfl) ?_
  |(refine wpMix_on (by rfl) ?_
    apply Exists.intro;refine ⟨fun wS hS=>?_,?_⟩
    ·try dsimp only at hS
     have cS:=hS
     go_simp;try rfl)
  simp only [Act.put,List.setIfInBounds_toArray,List.set_cons_zero,List.set_cons_succ]
  first
  | refine wpMix_off (by rfl) ?_
  |(refine wpMix_on (by rfl) ?_
    apply Exists.intro;refine ⟨fun wS hS=>?_,?_⟩
    ·try dsimp only at hS
     have cS:=hS
     go_simp;try rfl)
  simp only [Act.put,List.setIfInBounds_toArray,List.set_cons_zero,List.set_cons_succ]
  first
  | refine wpMix_off (by rfl) ?_
  |(refine wpMix_on (by rfl) ?_
    apply Exists.intro;refine ⟨fun wS hS=>?_,?_⟩
    ·try dsimp only at hS
     have cS:=hS
     go_simp;try rfl)
  simp only [Act.put,List.setIfInBounds_toArray,List.set_cons_zero,List.set_cons_succ]
  refine wpMix_nil ?_
  have HF:=Lib.hid (HC.out.step cc.drew)
  clear g2 gl2 cc;go_wp2_with fail;go_ret;exact ⟨rfl,HF.out⟩
theorem frames_quiet {w:World} {nb me n:Nat} {page:Int} {pv hv cv v:Value} {SK:Nat→Prop} {cs:List Value} (b2:Blk w nb #[.int .i64 me,pv,hv,cv,v,.int .i64 page] 115) (b3:Sl w SK 1 v n cs) (b4:LksAt w SK me n cs) (i:Nat) (hi:i<n) (him:i≠me) (now:Nat) (hn:now≤1099511627776) :
  Calls Tryz.prog 180 #[.pointer (some ⟨nb,0,none⟩),.int .i64 i,.int .i64 now] w (RetW (.slice none 0 0) fun w'=>Chg NoB w w'):=by
 obtain ⟨hl,p,cap,rfl,hc,hr⟩:=b3
 obtain ⟨gb,off,rfl,hg,hgl,hcell⟩:=hr (by omega)
 obtain ⟨v',hcs,-,hL⟩:=b4 i hi
 obtain ⟨lb,sb,rb,rfl,-,-,l1,l2,-⟩:=hL him
 have f4:=b2.cell' (i:=4) (v:=.slice (some ⟨gb,off,none⟩) n cap) rfl
 have fl:=b2.lt
 have f5:=hcell i _ hcs
 have t1:decide ((0:Int)≤i)=true:=decide_eq_true (by omega)
 have t2:decide ((i:Int)<n)=true:=decide_eq_true (by omega)
 have t3:decide (i<n)=true:=decide_eq_true hi
 have k0:=l1.cell' (i:=0) (v:=.pointer (some ⟨sb,0,none⟩)) rfl
 have kl:=l1.lt
 have HS:=Lib.hid (sOut_quiet l2 now hn)
 have HL:=Lib.hid l1
 clear b2 b4 hr hL l1 l2 hcell hcs hg;go_enter Tryz.func180,Tryz.ntmps180;go_wp2_with fail;refine HS.out.mono ?_
 rintro e w1 ⟨rfl,hC⟩;have HC:=Lib.hid hC
 have hL1:=hC.blk0 HL.out
 have HL1:=Lib.hid hL1
 clear hC hL1 f4 f5 k0 kl;go_wp2_with fail;go_loopg [25,8] 0 (fun k iv ov wr=>iv = .int .i64 0∧ov = .slice none 0 0∧wr=w1)
 case atStart=>exact ⟨rfl,rfl,rfl⟩
 case round=>
  obtain ⟨rfl,rfl,hwr⟩:=hrel
  rename World=>wr;subst hwr;have k2:=HL1.out.cell' (i:=2) (v:=.bool false) rfl
  have kz:=HL1.out.frozen 2
  have kl:=HL1.out.lt
  have HF:=Lib.hid (HC.out.step (Chg.same HL1.out (i:=2) (v:=.bool false) rfl))
  go_wp2_with fail;go_ret;exact ⟨rfl,HF.out⟩
theorem nOut_quiet {w:World} {F:Nat→Prop} {nb me n:Nat} {page:Int} {s:Spc} {c:Cor} {ps:List (Int×Nat×PgS)} (h:RNAt w F nb me n page s c ps) (hn:n≤16) (now:Nat) (hnow:now≤1099511627776) :
  Calls Tryz.prog 143 #[.pointer (some ⟨nb,0,none⟩),.int .i64 now] w (RetW (.slice none 0 0) fun w'=>Chg NoB w w'):=by
 obtain ⟨L,hb,cb,v,cs,SK,SH,b1,b2,b3,b4,b5,b6,f,d1,d2⟩:=h.ex
 obtain ⟨vp,vc,rfl⟩:=b3.form
 have f4:=b2.cell' (i:=4) (v:=.slice vp n vc) rfl
 have fl:=b2.lt
 have HFr:=Lib.hid fun w' (k:Chg NoB w w') (i:Nat) (hi:i<n) (him:i≠me)=>frames_quiet (k.blk0 b2) (b3.chg0 k) (b4.chg k fun _ _=>id) i hi him now hnow
 have HB3:=Lib.hid b3
 have HB4:=Lib.hid b4
 clear h b1 b2 b3 b4 b5 b6 f d1 d2;go_enter Tryz.func143,Tryz.ntmps143;go_wp2_with fail;go_loopg [19,5] n (fun k iv ov wr=>∃i:Nat,iv = .int .i64 i∧i≤n∧k=n - i∧ov = .slice none 0 0∧Chg NoB w wr)
 case atStart=>exact ⟨0,rfl,by omega,by omega,rfl,Chg.refl _ _⟩
 case round=>
  obtain ⟨i,rfl,hin,hk,rfl,hC⟩:=hrel
  have HK:=Lib.hid hk
  have HC:=Lib.hid hC
  clear hk hC;by_cases hi:i<n
  ·have t1:decide ((i:Int)<n)=true:=decide_eq_true (by omega)
   have t2:decide (i<n)=true:=decide_eq_true hi
   obtain ⟨v',hcs,h0,hL⟩:=HB4.out i hi
   obtain ⟨-,p,cap,he,-,hr⟩:=HB3.out
   cases he
   obtain ⟨gb,off,rfl,-,hgl,hcell⟩:=hr (by omega)
   have f5:wr.cell? ⟨gb,off+i,none⟩=some v':=HC.out.cell (hcell i _ hcs) id
   have f5l:=Nat.lt_of_lt_of_le hgl HC.out.size
   clear hr hcell hgl hcs;by_cases him:i=me
   ·obtain rfl:=h0 him
    clear h0 hL him;go_wp2_with fail;go_roundg (n - (i+1))
    case rel=>exact ⟨i+1,by go_num,by omega,rfl,rfl,HC.out⟩
    case measure=>rw [HK.out];omega
   ·obtain ⟨lb,sb,rb,rfl,-,-,-,-,-⟩:=hL him
    have HFi:=Lib.hid (HFr.out wr HC.out i hi him)
    clear h0 hL him;go_wp2_with fail;refine HFi.out.mono ?_
    rintro e w1 ⟨rfl,hC1⟩;have HC1:=Lib.hid (HC.out.step hC1)
    clear hC1;go_wp2_with fail;go_loopg [31,5] 0 (fun k iv ov wx=>iv = .int .i64 0∧ov = .slice none 0 0∧wx=w1)
    case atStart=>exact ⟨rfl,rfl,rfl⟩
    case round=>
     obtain ⟨rfl,rfl,hwx⟩:=hrel
     rename World=>wx;subst hwx;go_wp2_with fail;go_roundg (n - (i+1))
     case rel=>exact ⟨i+1,by go_num,by omega,rfl,rfl,HC1.out⟩
     case measure=>rw [HK.out];omega
  ·have t1:decide ((i:Int)<n)=false:=decide_eq_false (by omega)
   have t2:decide (i<n)=false:=decide_eq_false hi
   go_wp2_with fail;go_ret;exact ⟨rfl,HC.out⟩
structure FactP where
 step:Int
 node:Int
 page:Int
 d:DidP
def FactP.vs (f:FactP):List Value:=[.int .i64 f.step,.int .i64 f.node,.int .i64 f.page,.bool f.d.done,.int .i64 f.d.inst.op,.int .i64 f.d.inst.rd,.int .i64 f.d.inst.rs,.int .i64 f.d.inst.rt,.int .i64 f.d.inst.im,.int .u64 f.d.pc,.int .i64 f.d.cause,.int .i64 f.d.access,.int .u64 f.d.addr,.int .i64 f.d.size,.int .u64 f.d.old,.int .u64 f.d.new]
def fcells (l:List FactP):List Value:=l.flatMap FactP.vs
theorem fcells_get:∀(l:List FactP) (i j:Nat) (f:FactP),l[i]? = some f→j<16→(fcells l)[i*16+j]? = f.vs[j]?
 | [],i,j,f,h,_=>by simp at h
 | x :: l,0,j,f,h,hj=>by
  simp only [List.getElem?_cons_zero,Option.some.injEq] at h
  subst h;unfold fcells
  rw [List.flatMap_cons,List.getElem?_append_left (by show 0*16+j<16;omega),show 0*16+j=j by omega]
 | x :: l,i+1,j,f,h,hj=>by
  rw [List.getElem?_cons_succ] at h
  have ih:=fcells_get l i j f h hj
  unfold fcells at ih ⊢
  rw [List.flatMap_cons,List.getElem?_append_right (by show 16≤_;omega)]
  show (l.flatMap FactP.vs)[(i+1)*16+j - 16]? = _
  rw [show (i+1)*16+j - 16=i*16+j by omega]
  exact ih
structure FactP.Ok (f:FactP):Prop where
 addr:f.d.addr<18446744073709551616
 old:f.d.old<18446744073709551616
 new:f.d.new<18446744073709551616
structure Cst where
 tick:Nat
 steps:Nat
 bad:Nat
 fv:Value
 nf:Nat
 fs:List Value
 ov:Value
 no:Nat
 os:List Value
def rowN (nb:Nat→Nat) (n:Nat):List Value:=(List.range n).map fun i=>.pointer (some ⟨nb i,0,none⟩)
theorem rowN_get (nb:Nat→Nat) {n i:Nat} (h:i<n):(rowN nb n)[i]? = some (.pointer (some ⟨nb i,0,none⟩)):=by
 unfold rowN
 rw [List.getElem?_map,List.getElem?_range h]
 rfl
structure COwn (w:World) (F0:Nat→Prop) (cb:Nat) (n sh:Nat) (nb:Nat→Nat) (x:Cst):Prop where
 f0:F0 cb
 bd:∀k,F0 k→k<w.heap.size
 ex:∃v bag,Blk w cb #[v,.int .i64 sh,.pointer (some ⟨bag,0,none⟩),.int .i64 x.tick,.int .i64 x.steps,.int .i64 x.bad,x.fv,x.ov] 78∧Own w F0 79 1 v n (rowN nb n)∧F0 bag∧Blk w bag #[.slice none 0 0,.int .i64 0] 101
 fo:Own w F0 71 16 x.fv x.nf x.fs
 oo:Own w F0 3 1 x.ov x.no x.os
theorem COwn.chg {w w':World} {F0 S:Nat→Prop} {cb n sh:Nat} {nb:Nat→Nat} {x:Cst} (h:COwn w F0 cb n sh nb x) (c:Chg S w w') (hs:∀k,F0 k→¬S k):COwn w' F0 cb n sh nb x:=by
 obtain ⟨v,bag,h1,h2,h3,h4⟩:=h.ex
 exact ⟨h.f0,fun k hk=>Nat.lt_of_lt_of_le (h.bd k hk) c.size,⟨v,bag,c.blk h1 (hs _ h.f0),h2.chg c hs,h3,c.blk h4 (hs _ h3)⟩,h.fo.chg c hs,h.oo.chg c hs⟩
theorem COwn.chg0 {w w':World} {F0:Nat→Prop} {cb n sh:Nat} {nb:Nat→Nat} {x:Cst} (h:COwn w F0 cb n sh nb x) (c:Chg NoB w w'):COwn w' F0 cb n sh nb x:=h.chg c fun _ _=>id
structure Nst where
 page:Int
 s:Spc
 c:Cor
 ps:List (Int×Nat×PgS)
structure QC (w:World) (F0:Nat→Prop) (Fn:Nat→Nat→Prop) (cb n sh:Nat) (nb:Nat→Nat) (x:Cst) (y:Nat→Nst):Prop where
 own:COwn w F0 cb n sh nb x
 nd:∀i,i<n→RNAt w (Fn i) (nb i) i n (y i).page (y i).s (y i).c (y i).ps
 d0:∀i k,i<n→Fn i k→¬F0 k
 dj:∀i j k,i<n→j<n→Fn i k→Fn j k→i=j
theorem QC.chg {w w':World} {F0 S:Nat→Prop} {Fn:Nat→Nat→Prop} {cb n sh:Nat} {nb:Nat→Nat} {x:Cst} {y:Nat→Nst} (h:QC w F0 Fn cb n sh nb x y) (c:Chg S w w') (h0:∀k,F0 k→¬S k) (hn:∀i k,i<n→Fn i k→¬S k):QC w' F0 Fn cb n sh nb x y:=
 ⟨h.own.chg c h0,fun i hi=>(h.nd i hi).chg c fun k hk=>hn i k hi hk,h.d0,h.dj⟩
theorem QC.chg0 {w w':World} {F0:Nat→Prop} {Fn:Nat→Nat→Prop} {cb n sh:Nat} {nb:Nat→Nat} {x:Cst} {y:Nat→Nst} (h:QC w F0 Fn cb n sh nb x y) (c:Chg NoB w w'):QC w' F0 Fn cb n sh nb x y:=h.chg c (fun _ _=>id) fun _ _ _ _=>id
def InC (F0:Nat→Prop) (Fn:Nat→Nat→Prop) (n:Nat) (k:Nat):Prop:=F0 k∨∃i,i<n∧Fn i k
def updN {α:Type} (f:Nat→α) (i:Nat) (v:α) (j:Nat):α:=if j=i then v else f j
theorem QC.node {w w':World} {F0:Nat→Prop} {Fn:Nat→Nat→Prop} {cb n sh:Nat} {nb:Nat→Nat} {x:Cst} {y:Nat→Nst} (h:QC w F0 Fn cb n sh nb x y) {i:Nat} (hi:i<n) {F':Nat→Prop} {z:Nst} (hz:RNAt w' F' (nb i) i n z.page z.s z.c z.ps) (hF:∀k,F' k→Fn i k∨w.heap.size≤k) (c:Chg (Fn i) w w') :
  QC w' F0 (updN Fn i F') cb n sh nb x (updN y i z):=by
 have hN:∀j k,j<n→updN Fn i F' j k→Fn j k∨(j=i∧w.heap.size≤k):=fun j k hj hk=>by
  unfold updN at hk
  by_cases e:j=i
  ·rw [if_pos e] at hk
   exact (hF k hk).elim (fun h=>.inl (e▸h)) fun h=>.inr ⟨e,h⟩
  ·rw [if_neg e] at hk
   exact .inl hk
 refine ⟨h.own.chg c fun k hk e=>h.d0 i k hi e hk,fun j hj=>?_,fun j k hj hk e=>?_,fun a b k ha hb h1 h2=>?_⟩
 ·unfold updN
  by_cases e:j=i
  ·rw [if_pos e,if_pos e,e];exact hz
  ·rw [if_neg e,if_neg e]
   exact (h.nd j hj).chg c fun k hk hk'=>e (h.dj j i k hj hi hk hk')
 ·rcases hN j k hj hk with h1 | ⟨-,h1⟩
  ·exact h.d0 j k hj h1 e
  ·have:=h.own.bd k e;omega
 ·rcases hN a k ha h1 with h1 | ⟨e1,h1⟩ <;> rcases hN b k hb h2 with h2 | ⟨e2,h2⟩
  ·exact h.dj a b k ha hb h1 h2
  ·have:=(h.nd a ha).bd k h1;omega
  ·have:=(h.nd b hb).bd k h2;omega
  ·rw [e1,e2]
theorem idle_any (w:World):Calls Tryz.prog 77 #[] w (RetW (.agg #[.int .i64 0,.bool false,.int .i64 0,.int .i64 0,.int .i64 0,.int .i64 0,.int .i64 0,.int .u64 0,.int .i64 0,.int .i64 0,.int .u64 0,.int .i64 0,.int .u64 0,.int .u64 0,.int .i64 (-1)]) fun w'=>Chg NoB w w'):=by
 have HC:=Lib.hid ((Chg.refl NoB w).alloc (.cells #[.int .i64 0,.bool false,.int .i64 0,.int .i64 0,.int .i64 0,.int .i64 0,.int .i64 0,.int .u64 0,.int .i64 0,.int .i64 0,.int .u64 0,.int .i64 0,.int .u64 0,.int .u64 0,.int .i64 (-1)] 86))
 go_enter Tryz.func77,Tryz.ntmps77;go_wp2_with fail;exact bodyPost_ret (v:=.agg #[.int .i64 0,.bool false,.int .i64 0,.int .i64 0,.int .i64 0,.int .i64 0,.int .i64 0,.int .u64 0,.int .i64 0,.int .i64 0,.int .u64 0,.int .i64 0,.int .u64 0,.int .u64 0,.int .i64 (-1)]) (by simp [results,Tryz.results77,go_sem]) rfl ⟨rfl,HC.out⟩
theorem qNode_in {w:World} {F0:Nat→Prop} {cb n sh:Nat} {nb:Nat→Nat} {x:Cst} (h:COwn w F0 cb n sh nb x) (i:Nat) (hi:i<n):Calls Tryz.prog 98 #[.pointer (some ⟨cb,0,none⟩),.int .i64 i] w (RetW (.pointer (some ⟨nb i,0,none⟩)) fun w'=>w'=w):=by
 obtain ⟨v,bag,hB,hO,-,-⟩:=h.ex
 obtain ⟨-,p,c,rfl,-,hr⟩:=hO.sl
 obtain ⟨g,off,rfl,-,hgl,hcell⟩:=hr (by omega)
 have f0:=hB.cell' (i:=0) (v:=.slice (some ⟨g,off,none⟩) n c) rfl
 have fl:=hB.lt
 have f1:=hcell i _ (rowN_get nb hi)
 have t0:decide ((i:Int)<0)=false:=decide_eq_false (by omega)
 have t1:decide ((n:Int)≤i)=false:=decide_eq_false (by omega)
 have t2:decide (n≤i)=false:=decide_eq_false (by omega)
 have t3:decide ((i:Int)<n)=true:=decide_eq_true (by omega)
 have t4:decide (i<n)=true:=decide_eq_true hi
 clear h hB hO hr hcell;go_enter Tryz.func98,Tryz.ntmps98;go_wp2_with fail;go_ret;exact ⟨rfl,rfl⟩
theorem qNode_out {w:World} {F0:Nat→Prop} {cb n sh:Nat} {nb:Nat→Nat} {x:Cst} (h:COwn w F0 cb n sh nb x) (i:Nat) (hi:n≤i):Calls Tryz.prog 98 #[.pointer (some ⟨cb,0,none⟩),.int .i64 i] w (RetW (.pointer none) fun w'=>w'=w):=by
 obtain ⟨v,bag,hB,hO,-,-⟩:=h.ex
 obtain ⟨p,c,rfl⟩:=hO.form
 have f0:=hB.cell' (i:=0) (v:=.slice p n c) rfl
 have fl:=hB.lt
 have t0:decide ((i:Int)<0)=false:=decide_eq_false (by omega)
 have t1:decide ((n:Int)≤i)=true:=decide_eq_true (by omega)
 have t2:decide (n≤i)=true:=decide_eq_true hi
 clear h hB hO;go_enter Tryz.func98,Tryz.ntmps98;go_wp2_with fail;go_ret;exact ⟨rfl,rfl⟩
theorem mail_quiet {w:World} {F0:Nat→Prop} {Fn:Nat→Nat→Prop} {cb n sh:Nat} {nb:Nat→Nat} {x:Cst} {y:Nat→Nst} (h:QC w F0 Fn cb n sh nb x y) (hn:n≤16) (ht:x.tick≤1099511627776) (i:Nat) (hi:i<n):Calls Tryz.prog 100 #[.pointer (some ⟨cb,0,none⟩),.int .i64 i] w (RetW (.tuple #[]) fun w'=>Chg NoB w w'):=by
 obtain ⟨tick,steps,bad,fv,nf,fs,ov,no,os⟩:=x
 obtain ⟨v,bag,hB,hO,-,-⟩:=h.own.ex
 obtain ⟨-,p,c,rfl,-,hr⟩:=hO.sl
 obtain ⟨g,off,rfl,-,hgl,hcell⟩:=hr (by omega)
 have f0:=hB.ever
 have fl:=hB.everL
 have f1:∀w',Chg NoB w w'→w'.cell? ⟨g,off+i,none⟩=some (.pointer (some ⟨nb i,0,none⟩)):=fun w' k=>k.cell (hcell i _ (rowN_get nb hi)) id
 have f1l:∀w',Chg NoB w w'→g<w'.heap.size:=fun w' k=>Nat.lt_of_lt_of_le hgl k.size
 have t3:decide ((i:Int)<n)=true:=decide_eq_true (by omega)
 have t4:decide (i<n)=true:=decide_eq_true hi
 have HO:=Lib.hid fun w' (k:Chg NoB w w')=>nOut_quiet ((h.nd i hi).chg0 k) hn tick ht
 have cc:=Chg.refl NoB w
 clear h hB hO hr hcell ht;go_enter Tryz.func100,Tryz.ntmps100;go_upto_region 0 with fail;go_cut [18,19] (fun s18 s19 wx=>s18 = .int .i64 0∧s19 = .int .i64 0∧Chg NoB w wx)
 case first=>
  go_region_held3 (fun w'=>Chg NoB w w') ((repeat (first | with_reducible assumption | with_reducible apply Chg.drew | with_reducible apply Chg.drewN | with_reducible apply Chg.alloc))) (first | (go_at_call 143;(with_reducible refine (HO.out _ (by first | (with_reducible assumption) | (with_reducible exact cc.drew))).mono ?_);rintro e w2 ⟨rfl,hC⟩;have c2:=Chg.step (by first | (with_reducible assumption) | (with_reducible exact cc.drew):Chg NoB w _) hC))
  all_goals go_wp2_with fail
  all_goals go_meet
  all_goals exact ⟨rfl,rfl,by with_reducible assumption⟩
 case rest=>
 obtain ⟨rfl,rfl,hC2⟩:=hcut
 rename World=>w2;have HC2:=Lib.hid hC2
 clear f0 fl f1 f1l cc hC2;go_wp2_with fail;go_loopg [19] 0 (fun k iv wr=>iv = .int .i64 0∧wr=w2)
 case atStart=>exact ⟨rfl,rfl⟩
 case round=>
  obtain ⟨rfl,hwr⟩:=hrel
  rename World=>wr;subst hwr;go_wp2_with fail;refine bodyPost_end (results_none rfl _ _ _) rfl ?_
  exact ⟨rfl,HC2.out⟩
end Go.Proofs.YtjhnnjgnkkjmkaaGreatDoor
