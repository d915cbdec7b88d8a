/- A node of one shared page whose program goes over it: what its instructions do ahead of the page's right and behind it. Plain, no program. No condition. The meter law's cluster: its seven acts. No condition. The meter law's script of seven acts, played. No condition. -/
import Derived.Test.YtjhnnjgnkkjmkaaGreatDoorHf
import Derived.Test.YtjhnnjgnkkjmkaaGreatDoorHk
import Derived.Test.YtjhnnjgnkkjmkaaGreatDoorIm
import Derived.Test.YtjhnnjgnkkjmkaaGreatDoorIg
import Derived.Test.YtjhnnjgnkkjmkaaGreatDoorIi
import Derived.Test.YtjhnnjgnkkjmkaaGreatDoorIo
import Derived.Test.YtjhnnjgnkkjmkaaGreatDoorIj
set_option maxHeartbeats 4000000
set_option linter.unusedVariables false
set_option linter.unusedSimpArgs false
namespace Go.Proofs.YtjhnnjgnkkjmkaaGreatDoor
open Go.RowKit Go.RR
structure FW (s:Spc) (q:List In) (v:Nat):Prop where
 inv:∃t1 t0,SpInv s t1 t0
 prog:HasProg s q
 mem:∃m,Mem s m∧m 0=v
 shp:0<s.shape.shared∧s.shape.shared≤65536
structure NB (s:Spc) (q:List In):Prop where
 ex:∃(b:Tlb) (t1 t0:Nat→Option Nat),s = { ndSp 1 (progB q) with u:={ (ndSp 1 (progB q)).u with tlb:=b}}∧SpInv s t1 t0∧∀j,j≠0→t1 j=none∧t0 j=none
 prog:HasProg s q
 nx:s.stk.next=5
 fin:s.stk.fin=8
theorem nb_made {q:List In} (hr:∀i∈q,rightB i=true) (hl:q.length≤1000):NB (ndSp 1 (progB q)) q:=by
 have hle:(progB q).length≤4096:=by have:=progB_len q;omega
 obtain ⟨-,-,cl0,-,-,t1,t0,I0,hn,hfi,no0,cl,ol,hc⟩:=nd_new 1 (.inl rfl) (progB q) (progB_lt q) hle
 exact ⟨⟨(ndSp (1:Nat) (progB q)).u.tlb,t1,t0,rfl,I0,no0⟩,HasProg.of (by rw [show (ndSp 1 (progB q)).code.length=1 from cl];omega) hr hc,hn,hfi⟩
theorem NB.tlb {s:Spc} {q:List In} (h:NB s q) {b:Tlb} (hb:Coh b s.lf):NB { s with u:={ s.u with tlb:=b}} q:=by
 obtain ⟨b0,t1,t0,e,hI,no⟩:=h.ex
 refine ⟨⟨b,t1,t0,?_,hI.tlb hb,no⟩,⟨h.prog.len,h.prog.at'⟩,h.nx,h.fin⟩
 rw [e]
theorem nb_pure {s:Spc} {q:List In} (h:NB s q) (hr:∀i∈q,rightB i=true) {c:Cor} (hc:c.run=0) {i:In} (hi:atP q c.pc=some i) (hp:pureI i=true) :
  ∃u',tryF nilCx c s.u 0=(⟨true,i,c.pc,-1,0,0,0,0,0⟩,coreF c i,u')∧NB { s with u:=u'} q∧(∀j,instG (readF s.u c.pc 4 0 0).1.1=some j→CxFor nilCx j.op):=by
 obtain ⟨b0,t1,t0,-,hI,no⟩:=h.ex
 obtain ⟨b,hb,e,hcx⟩:=try_pure hI h.prog hr hc hi hp
 exact ⟨_,e,h.tlb hb,hcx⟩
theorem nb_sd {s:Spc} {q:List In} (h:NB s q) (hr:∀i∈q,rightB i=true) {c:Cor} (hc:c.run=0) {i:In} (hi:atP q c.pc=some i) (hop:i.op=29) (hm:memA c i=1073741824) :
  ∃u',tryF nilCx c s.u 0=(⟨false,i,c.pc,15,2,1073741824,8,0,0⟩,c,u')∧SetOk { s with u:=u'} (0:Nat) 2∧(setF { s with u:=u'} (0:Nat) 2).2.shape=s.shape∧FW (setF { s with u:=u'} (0:Nat) 2).2 q 0∧
   (∀j,instG (readF s.u c.pc 4 0 0).1.1=some j→CxFor nilCx j.op):=by
 obtain ⟨b0,t1,t0,es,hI,no⟩:=h.ex
 obtain ⟨k,hpc,hk⟩:=atP_pc hi
 obtain ⟨b,hb,e⟩:=try_prog nilCx hI h.prog hr hk hc hpc 0
 have hcx:∀j,instG (readF s.u c.pc 4 0 0).1.1=some j→j=i:=fun j hj=>by
  obtain ⟨b',-,e'⟩:=fetch_prog hI h.prog hk 0
  rw [hpc,e',instG_W (hr i (List.mem_of_getElem? hk))] at hj
  exact (Option.some.inj hj).symm
 have h2:=h.tlb hb
 have hI2:=hI.tlb hb
 have r0:∀p,rightOf { s with u:={ s.u with tlb:=b}} p=0:=fun p=>by rw [es];rfl
 have f0:∀p,frameOf { s with u:={ s.u with tlb:=b}} p=none:=fun p=>by rw [es];rfl
 have sh:s.shape=ndShp 1:=by rw [es];rfl
 obtain ⟨va,cv,-⟩:=shared_va (p:=0) (o:=0) (by omega) (by omega)
 have hlf:({ s with u:={ s.u with tlb:=b}} : Spc).lf (vpn 1073741824)=none:=by
  rw [show vpn 1073741824=262144+0 from va]
  unfold Spc.lf
  have hc16:=hI2.cl
  have ho16:=hI2.ol
  rw [if_neg (by omega),if_neg (by omega),if_neg (fun e=>e.2 (r0 _))]
 obtain ⟨l1,-⟩:=store_uo hI2.un (va:=1073741824) (size:=8) cv (by decide) (c.r i.rt.toNat) 0
 have e8:=l1 hlf
 obtain ⟨S1,St1,R1,F1,Z1,t1',t0',I2,n2,a1,a0,a2⟩:=set_inv hI2 (p:=0) (r:=2) (by rw [show ({ s with u:={ s.u with tlb:=b}} : Spc).shape=ndShp 1 from sh];decide) (by decide) (by decide) (fun _=>by
  rw [r0,f0,show ({ s with u:={ s.u with tlb:=b}} : Spc).stk.next=5 from h.nx,show ({ s with u:={ s.u with tlb:=b}} : Spc).stk.fin=8 from h.fin,if_pos rfl,(no 1 (by decide)).1,(no (512+0 / 512) (by decide)).2]
  decide)
 refine ⟨{ s.u with tlb:=b},?_,S1,St1.shape,⟨⟨t1',t0',I2⟩,h2.prog.stay St1,?_,?_⟩,fun j hj=>by rw [hcx j hj];exact fun e=>by omega⟩
 ·rw [e]
  obtain ⟨op,rd,rs,rt,im⟩:=i
  subst hop;have ed:doF nilCx c { s.u with tlb:=b} ⟨29,rd,rs,rt,im⟩ 0=overF c { s.u with tlb:=b} ⟨29,rd,rs,rt,im⟩ 0:=rfl
  rw [ed]
  unfold overF
  unfold memA at hm
  dsimp only at hm e8 ⊢
  rw [show kd 29 = .S from rfl,show sizeI 29=8 from rfl,hm,e8,if_neg (by decide),if_pos rfl,if_pos (by simp)]
 ·have q0:rightOf (setF { s with u:={ s.u with tlb:=b}} (0:Nat) 2).2 ((0:Nat):Int)=2:=by
   have:=R1 0
   rwa [if_pos (by decide)] at this
  obtain ⟨f,hf⟩:=Option.isSome_iff_exists.1 (I2.rf ((0:Nat):Int) (by rw [q0];decide))
  refine ⟨fun _=>0,⟨q0,f,hf,fun k hk=>getW_zeros fun i hi=>?_⟩,rfl⟩
  rw [Nat.add_assoc]
  exact Z1 f (f0 _) hf _ (by omega)
 ·rw [St1.shape,show ({ s with u:={ s.u with tlb:=b}} : Spc).shape=ndShp 1 from sh]
  exact ⟨(by decide:(0:Int)<1),(by decide:(1:Int)≤65536)⟩
theorem fs_sd {s:Spc} {q:List In} {v:Nat} (h:FW s q v) (hr:∀i∈q,rightB i=true) {c:Cor} (hc:c.run=0) {i:In} (hi:atP q c.pc=some i) (hop:i.op=29) (hma:memA c i=1073741824) :
  ∃u',tryF nilCx c s.u 0=(⟨true,i,c.pc,-1,2,1073741824,8,0,cutF (c.r i.rt.toNat) 8⟩,pc4 c,u')∧FW { s with u:=u'} q (c.r i.rt.toNat%18446744073709551616)∧
   (∀j,instG (readF s.u c.pc 4 0 0).1.1=some j→CxFor nilCx j.op):=by
 obtain ⟨t1,t0,hI⟩:=h.inv
 obtain ⟨m,hm,hm0⟩:=h.mem
 obtain ⟨k,hpc,hk⟩:=atP_pc hi
 obtain ⟨b,hb,e⟩:=try_prog nilCx hI h.prog hr hk hc hpc 0
 have hcx:∀j,instG (readF s.u c.pc 4 0 0).1.1=some j→j=i:=fun j hj=>by
  obtain ⟨b',-,e'⟩:=fetch_prog hI h.prog hk 0
  rw [hpc,e',instG_W (hr i (List.mem_of_getElem? hk))] at hj
  exact (Option.some.inj hj).symm
 obtain ⟨f,hf,hw⟩:=hm.at'
 have h2:=hI.tlb hb
 obtain ⟨b',hb',es⟩:=store_shared h2 (p:=0) (by omega) hf (by rw [show rightOf ({ s with u:={ s.u with tlb:=b}} : Spc) ((0:Nat):Int)=2 from hm.right];decide) (o:=0) (by omega) (by omega) (c.r i.rt.toNat) 0
 obtain ⟨l1,l2,l3⟩:=lay_mem h2 (q:=q) ⟨h.prog.len,h.prog.at'⟩ (hm.tlb b) hf (k:=0) (by omega) (c.r i.rt.toNat) hb'
 rw [if_pos (show rightOf ({ s with u:={ s.u with tlb:=b}} : Spc) ((0:Nat):Int)=2 from hm.right)] at es
 refine ⟨_,?_,⟨⟨t1,t0,l1⟩,l2,⟨_,l3,rfl⟩,h.shp⟩,fun j hj=>by rw [hcx j hj];exact fun e=>by omega⟩
 rw [e]
 obtain ⟨op,rd,rs,rt,im⟩:=i
 subst hop;have ed:doF nilCx c { s.u with tlb:=b} ⟨29,rd,rs,rt,im⟩ 0=overF c { s.u with tlb:=b} ⟨29,rd,rs,rt,im⟩ 0:=rfl
 rw [ed]
 unfold overF
 unfold memA at hma
 dsimp only at hma es ⊢
 rw [show kd 29 = .S from rfl,show sizeI 29=8 from rfl,hma,show storeF { s.u with tlb:=b} 1073741824 8 (c.r rt.toNat) 0=_ from es,if_neg (by decide),if_pos rfl,if_neg (by simp)]
 rfl
def mq:List In:=[⟨1,1,0,0,1⟩,⟨3,1,1,0,30⟩,⟨29,0,1,1,0⟩]
theorem mq_r:∀i∈mq,rightB i=true:=by decide
def mc0:Cor:=Cor.new 65536
def mc1:Cor:=coreF mc0 ⟨1,1,0,0,1⟩
def mc2:Cor:=coreF mc1 ⟨3,1,1,0,30⟩
theorem mc2_m:memA mc2 ⟨29,0,1,1,0⟩=1073741824:=by rfl
theorem fw_set {s:Spc} {q:List In} {v:Nat} (h:FW s q v):SetOk s (0:Nat) 2∧(setF s (0:Nat) 2).2.shape=s.shape:=by
 obtain ⟨t1,t0,hI⟩:=h.inv
 obtain ⟨m,hm,-⟩:=h.mem
 obtain ⟨S1,St1,-⟩:=set_inv hI (p:=0) (r:=2) h.shp.1 (by decide) (by decide) (fun e=>absurd hm.right.symm e)
 exact ⟨S1,St1.shape⟩
def Bx (x:Cst) (k:Nat):Prop:=x.tick≤k∧x.steps≤k∧x.bad≤k∧x.no≤k∧x.nf≤k
def PA (c:Cor) (k:Nat) (x:Cst) (y:Nat→Nst):Prop:=Bx x k∧(y 0).page = -1∧NB (y 0).s mq∧(y 0).c=c∧(y 0).ps = []
def PB (c:Cor) (k:Nat) (x:Cst) (y:Nat→Nst):Prop:=Bx x k∧(y 0).page=0∧FW (y 0).s mq 0∧(y 0).s.shape=ndShp 1∧(y 0).c=c∧∃pb,hLook (y 0).ps 0=some (pb,holdF (pgNewF 0 0) 2)
def PC (k:Nat) (x:Cst) (y:Nat→Nst):Prop:=Bx x k
theorem upd_at {α:Type} (f:Nat→α) (i:Nat) (v:α):updN f i v i=v:=if_pos rfl
theorem NB.shape {s:Spc} {q:List In} (h:NB s q):s.shape=ndShp 1:=by obtain ⟨b,t1,t0,e,-⟩:=h.ex;rw [e];rfl
set_option maxRecDepth 100000 in
theorem turn_pure {w:World} {cb:Nat} {x:Cst} {F0:Nat→Prop} {Fn:Nat→Nat→Prop} {y:Nat→Nst} {nb:Nat→Nat} {c:Cor} {k:Nat} (hk:k≤100) (hc:c.run=0) {i:In} (hi:atP mq c.pc=some i) (hp:pureI i=true)
  (hQ:QC w F0 Fn cb 2 1 nb x y) (hP:PA c k x y):∃(what:Int) (done:Bool) (op rd rs rt im pc cause access addr size old new ev:Int),what=2∧∀w',Chg NoB w w'→Calls Tryz.prog 49 #[.pointer (some ⟨cb,0,none⟩),.agg #[.int .i64 0,.int .i64 0,.int .i64 0]] w' (RetW (.tuple #[.agg #[.int .i64 what,.bool done,.int .i64 op,.int .i64 rd,.int .i64 rs,.int .i64 rt,.int .i64 im,.int .u64 pc,.int .i64 cause,.int .i64 access,.int .u64 addr,.int .i64 size,.int .u64 old,.int .u64 new,.int .i64 ev],.bool true]) fun w''=>KQ cb nb (InC F0 Fn 2) (PA (coreF c i) (k+1)) w'' w'.heap.size∧Chg (InC F0 Fn 2) w' w''):=by
 obtain ⟨hB,hpg,hN,hyc,hps⟩:=hP
 obtain ⟨u',hT,hN',hX⟩:=nb_pure hN mq_r hc hi hp
 refine ⟨2,true,i.op,i.rd,i.rs,i.rt,i.im,(c.pc:Nat),-1,0,(0:Nat),0,(0:Nat),(0:Nat),-1,rfl,fun w' cw=>?_⟩
 refine (Do_runtrue (nb:=nb) (sh:=1) (Fn:=Fn) (y':=updN y 0 ⟨-1,{ (y 0).s with u:=u'},coreF c i,[]⟩) (fun x1=>x1.tick≤k∧x1.steps≤k∧x1.bad≤k∧x1.no≤k+1∧x1.nf≤k) (fun x1 h=>⟨by have:=h.2.1;omega,by have:=h.2.2.1;omega⟩) (fun j hj=>Nat.lt_of_lt_of_le (hQ.lt j hj) cw.size) 0 0 2 true i.op i.rd i.rs i.rt i.im (c.pc:Nat) (-1) 0 (0:Nat) 0 (0:Nat) (0:Nat) (-1) fun w2 c2=>?_).mono ?_
 ·refine (crun_ran ((hQ.chg0 cw).chg0 c2) (by decide) (by have:=hB.1;omega) (by have:=hB.2.2.2.1;omega) 0 (by decide) 0 ⟨-1,{ (y 0).s with u:=u'},coreF c i,[]⟩ true i.op i.rd i.rs i.rt i.im (c.pc:Nat) (-1) 0 (0:Nat) 0 (0:Nat) (0:Nat) (-1) (by decide) fun w3 hR=>?_).mono ?_
  ·have hr:(y 0).c.run=0:=by rw [hyc];exact hc
   rw [hpg,hyc,hps] at hR
   exact nRun_done hR hc (.inl (by decide)) hX (⟨true,i,c.pc,-1,0,0,0,0,0⟩,coreF c i,u') hT rfl (-1) (-1) { (y 0).s with u:=u'} [] fun w4 F' h4=>
    (nDone_out h4 true i.op i.rd i.rs i.rt i.im (-1) 0 0 c.pc 0 0 0 (by decide)).mono fun e w5 ⟨he,hc5⟩=>⟨he,F',h4.chg0 hc5,fun j hj=>.inl hj,hc5.mono fun _ _ e=>e.elim⟩
  ·rintro e w3 ⟨rfl,x',F0',Fn',h1,hx',h2,h3⟩;refine ⟨rfl,x',F0',Fn',h1,?_,h2,h3⟩
   rw [hx']
   exact ⟨hB.1,hB.2.1,hB.2.2.1,Nat.succ_le_succ hB.2.2.2.1,hB.2.2.2.2⟩
 ·rintro e w3 ⟨rfl,x1,F0',Fn',h1,hx,h2,h3⟩;refine ⟨rfl,⟨_,F0',Fn',_,h1,⟨⟨by have:=hx.1;exact Nat.le_succ_of_le this,Nat.succ_le_succ hx.2.1,Nat.le_succ_of_le hx.2.2.1,hx.2.2.2.1,Nat.le_succ_of_le hx.2.2.2.2⟩,?_⟩,h2⟩,h3⟩
  rw [upd_at]
  exact ⟨rfl,hN',rfl,rfl⟩
set_option maxRecDepth 100000 in
theorem turn_flt {w:World} {cb:Nat} {x:Cst} {F0:Nat→Prop} {Fn:Nat→Nat→Prop} {y:Nat→Nst} {nb:Nat→Nat} {k:Nat} (hk:k≤100) {c:Cor} (hc:c.run=0) (hi:atP mq c.pc=some ⟨29,0,1,1,0⟩) (hm:memA c ⟨29,0,1,1,0⟩=1073741824)
  (hQ:QC w F0 Fn cb 2 1 nb x y) (hP:PA c k x y):∃(what:Int) (done:Bool) (op rd rs rt im pc cause access addr size old new ev:Int),what=3∧∀w',Chg NoB w w'→Calls Tryz.prog 49 #[.pointer (some ⟨cb,0,none⟩),.agg #[.int .i64 0,.int .i64 0,.int .i64 0]] w' (RetW (.tuple #[.agg #[.int .i64 what,.bool done,.int .i64 op,.int .i64 rd,.int .i64 rs,.int .i64 rt,.int .i64 im,.int .u64 pc,.int .i64 cause,.int .i64 access,.int .u64 addr,.int .i64 size,.int .u64 old,.int .u64 new,.int .i64 ev],.bool true]) fun w''=>KQ cb nb (InC F0 Fn 2) (PB c (k+1)) w'' w'.heap.size∧Chg (InC F0 Fn 2) w' w''):=by
 obtain ⟨hB,hpg,hN,hyc,hps⟩:=hP
 obtain ⟨u',hT,hS,hSh,hF,hX⟩:=nb_sd hN mq_r hc hi rfl hm
 have hsh1:({ (y 0).s with u:=u'} : Spc).shape=ndShp 1:=hN.shape
 have hsh0:=hN.shape
 refine ⟨3,false,29,0,1,1,0,(c.pc:Nat),15,2,(1073741824:Nat),8,(0:Nat),(0:Nat),(0:Nat),rfl,fun w' cw=>?_⟩
 refine (Do_runtrueZ (nb:=nb) (sh:=1) (Fn:=Fn) (fun x1 y1=>Bx x1 k∧∃z:Nst,y1=updN y 0 z∧z.page=0∧FW z.s mq 0∧z.s.shape=ndShp 1∧z.c=c∧∃pb,hLook z.ps 0=some (pb,holdF (pgNewF 0 0) 2)) (fun x1 y1 h=>⟨by have:=h.1.2.1;omega,by have:=h.1.2.2.1;omega⟩) (fun j hj=>Nat.lt_of_lt_of_le (hQ.lt j hj) cw.size) 0 0 3 false 29 0 1 1 0 (c.pc:Nat) 15 2 (1073741824:Nat) 8 (0:Nat) (0:Nat) (0:Nat) fun w2 c2=>?_).mono ?_
 ·refine (crun_notZ ((hQ.chg0 cw).chg0 c2) (by decide) (by have:=hB.1;omega) 0 (by decide) 0 (fun z=>z.page=0∧FW z.s mq 0∧z.s.shape=ndShp 1∧z.c=c∧∃pb,hLook z.ps 0=some (pb,holdF (pgNewF 0 0) 2)) 3 (by decide) false 29 0 1 1 0 (c.pc:Nat) 15 2 (1073741824:Nat) 8 (0:Nat) (0:Nat) (0:Nat) fun w3 hR=>?_).mono ?_
  ·rw [hpg,hyc,hps] at hR
   refine (nRun_fault hR hc (.inl (by decide)) hX (⟨false,⟨29,0,1,1,0⟩,c.pc,15,2,1073741824,8,0,0⟩,c,u') hT rfl (show (0:Int)<8 by decide) (.inr rfl) (.inr rfl) 0 rfl (by rw [hsh0];decide) (by rw [hsh0];decide) rfl rfl (by decide) (by decide) hS (hSh.trans rfl)).mono ?_
   rintro e w4 ⟨rfl,F'',ps2,pb,h4,hl,h5,h6⟩;exact ⟨rfl,F'',⟨0,_,c,ps2⟩,⟨rfl,hF,hSh.trans hsh0,rfl,pb,hl⟩,h4,h5,h6⟩
  ·rintro e w3 ⟨rfl,F0',Fn',z,hz,h1,h2,h3⟩;exact ⟨rfl,x,_,F0',Fn',h1,⟨hB,z,rfl,hz⟩,h2,h3⟩
 ·rintro e w3 ⟨rfl,x1,y1,F0',Fn',h1,⟨hx,z,rfl,hz⟩,h2,h3⟩;refine ⟨rfl,⟨_,F0',Fn',_,h1,⟨⟨Nat.le_succ_of_le hx.1,Nat.succ_le_succ hx.2.1,Nat.le_succ_of_le hx.2.2.1,Nat.le_succ_of_le hx.2.2.2.1,Nat.le_succ_of_le hx.2.2.2.2⟩,?_⟩,h2⟩,h3⟩
  rw [upd_at]
  exact hz
set_option maxRecDepth 100000 in
theorem turn_sd {w:World} {cb:Nat} {x:Cst} {F0:Nat→Prop} {Fn:Nat→Nat→Prop} {y:Nat→Nst} {nb:Nat→Nat} {k:Nat} (hk:k≤100) {c:Cor} (hc:c.run=0) (hi:atP mq c.pc=some ⟨29,0,1,1,0⟩) (hm:memA c ⟨29,0,1,1,0⟩=1073741824)
  (hQ:QC w F0 Fn cb 2 1 nb x y) (hP:PB c k x y):∃(what:Int) (done:Bool) (op rd rs rt im pc cause access addr size old new ev:Int),what=2∧∀w',Chg NoB w w'→Calls Tryz.prog 49 #[.pointer (some ⟨cb,0,none⟩),.agg #[.int .i64 0,.int .i64 0,.int .i64 0]] w' (RetW (.tuple #[.agg #[.int .i64 what,.bool done,.int .i64 op,.int .i64 rd,.int .i64 rs,.int .i64 rt,.int .i64 im,.int .u64 pc,.int .i64 cause,.int .i64 access,.int .u64 addr,.int .i64 size,.int .u64 old,.int .u64 new,.int .i64 ev],.bool true]) fun w''=>KQ cb nb (InC F0 Fn 2) (PC (k+1)) w'' w'.heap.size∧Chg (InC F0 Fn 2) w' w''):=by
 obtain ⟨hB,hpg,hW,hsh,hyc,pb,hl⟩:=hP
 obtain ⟨u',hT,hW',hX⟩:=fs_sd hW mq_r hc hi rfl hm
 obtain ⟨hS,hSh⟩:=fw_set hW'
 obtain ⟨nw,hnw⟩:∃n,cutF (c.r 1) 8=n:=⟨_,rfl⟩
 replace hT:tryF nilCx c (y 0).s.u 0=(⟨true,⟨29,0,1,1,0⟩,c.pc,-1,2,1073741824,8,0,cutF (c.r 1) 8⟩,pc4 c,u'):=hT
 rw [hnw] at hT
 clear hnw hW;obtain ⟨A,hA⟩:∃a,(1073741824:Nat)=a:=⟨_,rfl⟩
 rw [hA] at hT
 obtain ⟨st,hst⟩:∃x,holdF (pgNewF 0 0) 2=x:=⟨_,rfl⟩
 have hr2:st.right=2:=by rw [←hst];rfl
 have hfg:st.forget<0:=by rw [←hst];decide
 have hw0:st.want=0:=by rw [←hst];rfl
 rw [hst] at hl
 rw [←hr2] at hS hSh
 obtain ⟨s5,h5⟩:∃x,(setF { (y 0).s with u:=u'} (0:Nat) st.right).2=x:=⟨_,rfl⟩
 rw [h5] at hSh
 obtain ⟨st5,hst5⟩:∃x:PgS,{ st with held:=false} = x:=⟨_,rfl⟩
 have hND:∀(w4:World) (F':Nat→Prop),RNAt w4 F' (nb 0) 0 2 0 { (y 0).s with u:=u'} (pc4 c) (y 0).ps→Calls Tryz.prog 138 #[.pointer (some ⟨nb 0,0,none⟩),.agg #[.bool true,.int .i64 29,.int .i64 0,.int .i64 1,.int .i64 1,.int .i64 0,.int .u64 (c.pc:Nat),.int .i64 (-1),.int .i64 2,.int .u64 (A:Nat),.int .i64 8,.int .u64 (0:Nat),.int .u64 (nw:Nat)]] w4 (RetW (.agg #[.int .i64 2,.bool true,.int .i64 29,.int .i64 0,.int .i64 1,.int .i64 1,.int .i64 0,.int .u64 (c.pc:Nat),.int .i64 (-1),.int .i64 2,.int .u64 (A:Nat),.int .i64 8,.int .u64 (0:Nat),.int .u64 (nw:Nat),.int .i64 (0:Nat)]) fun w'=>∃F'',RNAt w' F'' (nb 0) 0 2 0 s5 (pc4 c) (hPut (y 0).ps pb st5)∧(∀k,F'' k→F' k∨w4.heap.size≤k)∧Chg F' w4 w'):=fun w4 F' h4=>by
  have:=nDone_in h4 true 29 0 1 1 0 (-1) 2 8 c.pc A 0 nw (by decide) 0 (by rw [←hA];rfl) (by show (_:Int)<(y 0).s.shape.shared;rw [hsh];decide) (by show (y 0).s.shape.shared≤_;rw [hsh];decide) hl hfg hS (by rw [h5];exact hSh)
  rw [h5,hst5] at this
  exact this
 refine ⟨2,true,29,0,1,1,0,(c.pc:Nat),-1,2,(A:Nat),8,(0:Nat),(nw:Nat),(0:Nat),rfl,fun w' cw=>?_⟩
 refine (Do_runtrue (nb:=nb) (sh:=1) (Fn:=Fn) (y':=updN y 0 ⟨0,s5,pc4 c,hPut (y 0).ps pb st5⟩) (fun x1=>x1.tick≤k∧x1.steps≤k∧x1.bad≤k∧x1.no≤k+1∧x1.nf≤k+1) (fun x1 h=>⟨by have:=h.2.1;omega,by have:=h.2.2.1;omega⟩) (fun j hj=>Nat.lt_of_lt_of_le (hQ.lt j hj) cw.size) 0 0 2 true 29 0 1 1 0 (c.pc:Nat) (-1) 2 (A:Nat) 8 (0:Nat) (nw:Nat) (0:Nat) fun w2 c2=>?_).mono ?_
 ·refine (crun_fact ((hQ.chg0 cw).chg0 c2) (by decide) (by have:=hB.1;omega) (by have:=hB.2.2.2.1;omega) (by have:=hB.2.2.2.2;omega) 0 (by decide) 0 ⟨0,s5,pc4 c,hPut (y 0).ps pb st5⟩ true 29 0 1 1 0 (c.pc:Nat) (-1) 2 (A:Nat) 8 (0:Nat) (nw:Nat) (0:Nat) (by decide) fun w3 hR=>?_).mono ?_
  ·rw [hpg,hyc] at hR
   have h9:=nRun_done hR hc (.inr ⟨by decide,by rw [hsh];decide,pb,_,hl,hw0⟩) hX (⟨true,⟨29,0,1,1,0⟩,c.pc,-1,2,A,8,0,nw⟩,pc4 c,u') hT rfl (0:Nat) 0 s5 (hPut (y 0).ps pb st5) (fun w4 F' h4=>hND w4 F' h4)
   exact h9
  ·rintro e w3 ⟨rfl,x',F0',Fn',h1,hx',h2,h3⟩;refine ⟨rfl,x',F0',Fn',h1,?_,h2,h3⟩
   rw [hx']
   exact ⟨hB.1,hB.2.1,hB.2.2.1,Nat.succ_le_succ hB.2.2.2.1,Nat.succ_le_succ hB.2.2.2.2⟩
 ·rintro e w3 ⟨rfl,x1,F0',Fn',h1,hx,h2,h3⟩;exact ⟨rfl,⟨_,F0',Fn',_,h1,⟨Nat.le_succ_of_le hx.1,Nat.succ_le_succ hx.2.1,Nat.le_succ_of_le hx.2.2.1,hx.2.2.2.1,hx.2.2.2.2⟩,h2⟩,h3⟩
set_option maxRecDepth 100000 in
theorem act_dl {w:World} {cb:Nat} {x:Cst} {F0:Nat→Prop} {Fn:Nat→Nat→Prop} {y:Nat→Nst} {nb:Nat→Nat} {k0:Nat} (hk:k0≤100) (a b:Int) (hQ:QC w F0 Fn cb 2 1 nb x y) (hB:PC k0 x y):∃(what:Int) (done:Bool) (op rd rs rt im pc cause access addr size old new ev:Int),what=what∧∀w',Chg NoB w w'→Calls Tryz.prog 49 #[.pointer (some ⟨cb,0,none⟩),.agg #[.int .i64 1,.int .i64 a,.int .i64 b]] w' (RetW (.tuple #[.agg #[.int .i64 what,.bool done,.int .i64 op,.int .i64 rd,.int .i64 rs,.int .i64 rt,.int .i64 im,.int .u64 pc,.int .i64 cause,.int .i64 access,.int .u64 addr,.int .i64 size,.int .u64 old,.int .u64 new,.int .i64 ev],.bool false]) fun w''=>KQ cb nb (InC F0 Fn 2) (PC (k0+1)) w'' w'.heap.size∧Chg (InC F0 Fn 2) w' w''):=by
 refine ⟨0,false,0,0,0,0,0,0,0,0,0,0,0,0,-1,rfl,fun w' cw=>?_⟩
 refine (Do_actfalse (nb:=nb) (sh:=1) (n:=2) (F0:=F0) (Fn:=Fn) (y':=y) (fun x1=>Bx x1 k0) (fun x1 h=>⟨by have:=h.2.1;omega,by have:=h.2.2.1;omega⟩) (fun j hj=>Nat.lt_of_lt_of_le (hQ.lt j hj) cw.size) 1 (by decide) a b fun w2 c2=>?_).mono ?_
 ·refine (act_deliver ((hQ.own.chg0 cw).chg0 c2) a b).mono ?_
  rintro e w3 ⟨rfl,c3⟩;exact ⟨rfl,x,F0,Fn,((hQ.chg0 cw).chg0 c2).chg0 c3,hB,fun j hj=>.inl hj,c3.mono fun _ _ e=>e.elim⟩
 ·rintro e w3 ⟨rfl,x1,F0',Fn',h1,hx,h2,h3⟩;exact ⟨rfl,⟨_,F0',Fn',_,h1,⟨Nat.le_succ_of_le hx.1,Nat.succ_le_succ hx.2.1,Nat.succ_le_succ hx.2.2.1,Nat.le_succ_of_le hx.2.2.2.1,Nat.le_succ_of_le hx.2.2.2.2⟩,h2⟩,h3⟩
set_option maxRecDepth 100000 in
theorem act_tk {w:World} {cb:Nat} {x:Cst} {F0:Nat→Prop} {Fn:Nat→Nat→Prop} {y:Nat→Nst} {nb:Nat→Nat} {k0:Nat} (hk:k0≤100) (a b:Int) (hQ:QC w F0 Fn cb 2 1 nb x y) (hB:PC k0 x y):∃(what:Int) (done:Bool) (op rd rs rt im pc cause access addr size old new ev:Int),what=what∧∀w',Chg NoB w w'→Calls Tryz.prog 49 #[.pointer (some ⟨cb,0,none⟩),.agg #[.int .i64 6,.int .i64 a,.int .i64 b]] w' (RetW (.tuple #[.agg #[.int .i64 what,.bool done,.int .i64 op,.int .i64 rd,.int .i64 rs,.int .i64 rt,.int .i64 im,.int .u64 pc,.int .i64 cause,.int .i64 access,.int .u64 addr,.int .i64 size,.int .u64 old,.int .u64 new,.int .i64 ev],.bool true]) fun w''=>KQ cb nb (InC F0 Fn 2) (PC (k0+1)) w'' w'.heap.size∧Chg (InC F0 Fn 2) w' w''):=by
 refine ⟨0,false,0,0,0,0,0,0,0,0,0,0,0,0,-1,rfl,fun w' cw=>?_⟩
 refine (Do_acttrue (nb:=nb) (sh:=1) (n:=2) (F0:=F0) (Fn:=Fn) (y':=y) (fun x1=>x1.tick≤k0+1∧x1.steps≤k0∧x1.bad≤k0∧x1.no≤k0∧x1.nf≤k0) (fun x1 h=>⟨by have:=h.2.1;omega,by have:=h.2.2.1;omega⟩) (fun j hj=>Nat.lt_of_lt_of_le (hQ.lt j hj) cw.size) 6 (by decide) a b fun w2 c2=>?_).mono ?_
 ·refine (act_pass ((hQ.chg0 cw).chg0 c2) (by decide) (by have:=hB.1;omega) a b).mono ?_
  rintro e w3 ⟨rfl,h1,c3⟩;exact ⟨rfl,_,F0,Fn,h1,⟨Nat.succ_le_succ hB.1,hB.2.1,hB.2.2.1,hB.2.2.2.1,hB.2.2.2.2⟩,fun j hj=>.inl hj,c3.mono fun _ _ e=>.inl e⟩
 ·rintro e w3 ⟨rfl,x1,F0',Fn',h1,hx,h2,h3⟩;exact ⟨rfl,⟨_,F0',Fn',_,h1,⟨hx.1,Nat.succ_le_succ hx.2.1,Nat.le_succ_of_le hx.2.2.1,Nat.le_succ_of_le hx.2.2.2.1,Nat.le_succ_of_le hx.2.2.2.2⟩,h2⟩,h3⟩
set_option maxRecDepth 100000 in
theorem act_rb {w:World} {cb:Nat} {x:Cst} {F0:Nat→Prop} {Fn:Nat→Nat→Prop} {y:Nat→Nst} {nb:Nat→Nat} {k0:Nat} (hk:k0≤100) (a:Nat) (ha:2≤a) (b:Int) (hQ:QC w F0 Fn cb 2 1 nb x y) (hB:PC k0 x y):∃(what:Int) (done:Bool) (op rd rs rt im pc cause access addr size old new ev:Int),what=what∧∀w',Chg NoB w w'→Calls Tryz.prog 49 #[.pointer (some ⟨cb,0,none⟩),.agg #[.int .i64 0,.int .i64 a,.int .i64 b]] w' (RetW (.tuple #[.agg #[.int .i64 what,.bool done,.int .i64 op,.int .i64 rd,.int .i64 rs,.int .i64 rt,.int .i64 im,.int .u64 pc,.int .i64 cause,.int .i64 access,.int .u64 addr,.int .i64 size,.int .u64 old,.int .u64 new,.int .i64 ev],.bool false]) fun w''=>KQ cb nb (InC F0 Fn 2) (PC (k0+1)) w'' w'.heap.size∧Chg (InC F0 Fn 2) w' w''):=by
 refine ⟨0,false,0,0,0,0,0,0,0,0,0,0,0,0,-1,rfl,fun w' cw=>?_⟩
 refine (Do_runfalse (nb:=nb) (sh:=1) (n:=2) (F0:=F0) (Fn:=Fn) (y':=y) (fun x1=>Bx x1 k0) (fun x1 h=>⟨by have:=h.2.1;omega,by have:=h.2.2.1;omega⟩) (fun j hj=>Nat.lt_of_lt_of_le (hQ.lt j hj) cw.size) a b 0 false 0 0 0 0 0 0 0 0 0 0 0 0 (-1) fun w2 c2=>?_).mono ?_
 ·refine (crun_bad ((hQ.own.chg0 cw).chg0 c2) a ha b).mono ?_
  rintro e w3 ⟨rfl,c3⟩;exact ⟨rfl,x,F0,Fn,((hQ.chg0 cw).chg0 c2).chg0 c3,hB,fun j hj=>.inl hj,c3.mono fun _ _ e=>e.elim⟩
 ·rintro e w3 ⟨rfl,x1,F0',Fn',h1,hx,h2,h3⟩;exact ⟨rfl,⟨_,F0',Fn',_,h1,⟨Nat.le_succ_of_le hx.1,Nat.succ_le_succ hx.2.1,Nat.succ_le_succ hx.2.2.1,Nat.le_succ_of_le hx.2.2.2.1,Nat.le_succ_of_le hx.2.2.2.2⟩,h2⟩,h3⟩
def scF (i:Nat):Int×Int×Int:=if i=4 then (1,0,0) else if i=5 then (6,0,0) else if i=6 then (0,5,0) else (0,0,0)
def scOk (i:Nat):Bool:=decide (i≠4∧i≠6)
def ranT (t:Nat→Int):Nat→Int:=updN (updN t 2 (t 2+1)) 5 ((updN t 2 (t 2+1)) 5+1)
def fltT (t:Nat→Int):Nat→Int:=updN (updN t 3 (t 3+1)) 5 ((updN t 3 (t 3+1)) 5+1)
def badT (t:Nat→Int):Nat→Int:=updN t 12 (t 12+1)
def tckT (t:Nat→Int):Nat→Int:=updN t 11 (t 11+1)
def tl0:Nat→Int:=fun _=>0
def tlF (i:Nat):Nat→Int:=if i=0 then tl0 else if i=1 then ranT tl0 else if i=2 then ranT (ranT tl0) else if i=3 then fltT (ranT (ranT tl0)) else if i=4 then ranT (fltT (ranT (ranT tl0))) else if i=5 then badT (ranT (fltT (ranT (ranT tl0)))) else if i=6 then tckT (badT (ranT (fltT (ranT (ranT tl0))))) else badT (tckT (badT (ranT (fltT (ranT (ranT tl0))))))
def plF (i:Nat):Cst→(Nat→Nst)→Prop:=if i=0 then PA mc0 0 else if i=1 then PA mc1 1 else if i=2 then PA mc2 2 else if i=3 then PB mc2 3 else PC i
theorem upd_b {t:Nat→Int} {m:Int} (h:∀k,0≤t k∧t k≤m) (i:Nat):∀k,0≤updN t i (t i+1) k∧updN t i (t i+1) k≤m+1:=fun k=>by
 unfold updN
 by_cases e:k=i
 ·rw [if_pos e];have:=h i;omega
 ·rw [if_neg e];have:=h k;omega
theorem tlF_b (i:Nat):∀k,0≤tlF i k∧tlF i k≤20:=by
 have h0:∀k,0≤tl0 k∧tl0 k≤0:=fun k=>⟨Int.le_refl 0,Int.le_refl 0⟩
 have h1:=upd_b (upd_b h0 2) 5
 have h2:=upd_b (upd_b h1 2) 5
 have h3:=upd_b (upd_b h2 3) 5
 have h4:=upd_b (upd_b h3 2) 5
 have h5:=upd_b h4 12
 have h6:=upd_b h5 11
 have h7:=upd_b h6 12
 have w:∀{t:Nat→Int} {m:Int},(∀k,0≤t k∧t k≤m)→m≤20→∀k,0≤t k∧t k≤20:=fun h hm k=>by have:=h k;omega
 unfold tlF
 repeat' split
 ·exact w h0 (by decide)
 ·exact w h1 (by decide)
 ·exact w h2 (by decide)
 ·exact w h3 (by decide)
 ·exact w h4 (by decide)
 ·exact w h5 (by decide)
 ·exact w h6 (by decide)
 ·exact w h7 (by decide)
set_option maxRecDepth 100000 in
theorem script_any {w0 w:World} {mb cb:Nat} {Sa:Nat→Prop} {v:Value} (h:MSt w0 w mb cb Sa v scF tl0 (PA mc0 0)) :
  Calls Tryz.prog 19 #[.pointer (some ⟨mb,0,none⟩),v] w (RetW (.int .i64 5) fun w'=>MSt w0 w' mb cb Sa v scF (tlF 7) (PC 7)):=by
 refine mPlay_any mb 7 (by decide) v Sa scF scOk (fun i w=>MSt w0 w mb cb Sa v scF (tlF i) (plF i)) h (fun i w w' h c=>h.chg0 c) (fun i w h=>h.s) (fun i w h=>h.m.lt) fun i w2 hi h=>?_
 have hb:∀k,0≤tlF i k∧tlF i k<1099511627776:=fun k=>by have:=tlF_b i k;omega
 have e:i=0∨i=1∨i=2∨i=3∨i=4∨i=5∨i=6:=by omega
 rcases e with rfl | rfl | rfl | rfl | rfl | rfl | rfl
 ·exact ms_ran h hb 0 0 (fun w' _ _=>parcel_not mb 0 (by decide) 0 0) fun hQ hP=>turn_pure (i:=⟨1,1,0,0,1⟩) (by decide) rfl rfl rfl hQ hP
 ·exact ms_ran h hb 0 0 (fun w' _ _=>parcel_not mb 0 (by decide) 0 0) fun hQ hP=>turn_pure (i:=⟨3,1,1,0,30⟩) (by decide) rfl rfl rfl hQ hP
 ·exact ms_flt h hb 0 0 (fun w' _ _=>parcel_not mb 0 (by decide) 0 0) fun hQ hP=>turn_flt (by decide) rfl rfl mc2_m hQ hP
 ·exact ms_ran h hb 0 0 (fun w' _ _=>parcel_not mb 0 (by decide) 0 0) fun hQ hP=>turn_sd (by decide) rfl rfl mc2_m hQ hP
 ·exact ms_bad h hb 1 0 0 (fun w' hM hO=>parcel_none hM hO 0 0 (by decide)) fun hQ hP=>act_dl (by decide) 0 0 hQ hP
 ·exact ms_tick h hb 0 0 (fun w' _ _=>parcel_not mb 6 (by decide) 0 0) fun hQ hP=>act_tk (by decide) 0 0 hQ hP
 ·exact ms_bad h hb 0 5 0 (fun w' _ _=>parcel_not mb 0 (by decide) 5 0) fun hQ hP=>act_rb (by decide) 5 (by decide) 0 hQ hP
end Go.Proofs.YtjhnnjgnkkjmkaaGreatDoor
