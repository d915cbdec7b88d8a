/- Cores: over, as far as its address and its kind. No condition. -/
import Derived.Test.YtjhnnjgnkkjmkaaGreatDoorHb
set_option maxHeartbeats 4000000
set_option maxRecDepth 100000
set_option linter.unusedVariables false
set_option linter.unusedSimpArgs false
namespace Go.Proofs.YtjhnnjgnkkjmkaaGreatDoor
open Go.RowKit Go.RR
def DidP.cells (d:DidP):Array Value:=#[.bool d.done,.int .i64 d.inst.op,.int .i64 d.inst.rd,.int .i64 d.inst.rs,.int .i64 d.inst.rt,.int .i64 d.inst.im,.int .u64 d.pc,.int .i64 d.cause,.int .i64 d.access,.int .u64 d.addr,.int .i64 d.size,.int .u64 d.old,.int .u64 d.new]
def DidAt (w:World) (db:Nat) (d:DidP):Prop:=Blk w db d.cells 69
theorem turn_any (o:Int) (b:Nat) (hb:b<18446744073709551616) (x:Nat) (hx:x<18446744073709551616) (w:World) (p q:Nat) (hp:w.cell? ⟨p,0,none⟩=some (.int .i64 o)) (hpl:p<w.heap.size) (hq:w.cell? ⟨q,0,none⟩=some (.int .u64 b)) (hql:q<w.heap.size) :
  Calls Tryz.prog 229 #[.int .u64 x,.pointer (some ⟨p,0,none⟩),.pointer (some ⟨q,0,none⟩)] w (RetW (.int .u64 (turnF o b x)) fun w'=>w'=w):=by
 have n1:IntKind.u64.wrap ((x:Int)+b)=(((x+b)%18446744073709551616:Nat):Int):=by rw [IntKind.wrap_u64];omega
 by_cases h1:o=32∨o=33
 ·have HT:Hid (turnF o b x=(x+b)%18446744073709551616):=Lib.hid (if_pos h1)
  rw [HT.out]
  clear hb hx HT;rcases h1 with rfl | rfl <;>
  ·go_enter Tryz.func229,Tryz.ntmps229;go_wp2_with fail;go_ret;exact ⟨rfl,rfl⟩
 ·have HT:Hid (turnF o b x=b):=Lib.hid (if_neg h1)
  rw [HT.out]
  simp only [not_or] at h1
  have t1:(o == 32)=false:=beq_eq_false_iff_ne.2 h1.1
  have t2:(o == 33)=false:=beq_eq_false_iff_ne.2 h1.2
  clear hb hx h1 HT n1;go_enter Tryz.func229,Tryz.ntmps229;go_wp2_with fail;go_ret;exact ⟨rfl,rfl⟩
theorem sizeI_cases (o:Int):sizeI o=1∨sizeI o=2∨sizeI o=4∨sizeI o=8∨sizeI o=0:=by
 unfold sizeI
 by_cases h1:o=19∨o=23∨o=26
 ·rw [if_pos h1];exact .inl rfl
 ·rw [if_neg h1]
  by_cases h2:o=20∨o=24∨o=27
  ·rw [if_pos h2];exact .inr (.inl rfl)
  ·rw [if_neg h2]
   by_cases h3:o=21∨o=25∨o=28∨o=30∨o=32
   ·rw [if_pos h3];exact .inr (.inr (.inl rfl))
   ·rw [if_neg h3]
    by_cases h4:o=22∨o=29∨o=31∨o=33
    ·rw [if_pos h4];exact .inr (.inr (.inr (.inl rfl)))
    ·rw [if_neg h4];exact .inr (.inr (.inr (.inr rfl)))
theorem MuAt.growS {w w':World} {SM SB:Nat→Prop} {ub mb bb:Nat} {u:Mu} (h:MuAt w' SM SB ub mb bb u) (hb:ub<w.heap.size) (hs:∀k,SB k→k<w.heap.size):MuAt w' (Grow SM w) SB ub mb bb u:=
 ⟨h.blk,h.mem.mono (fun k _ e=>.inl e),h.tlb,h.on,h.asid,h.mode,h.root,h.fr,fun e=>e.elim h.n1 (fun e=>by omega),h.n2,fun k e hk=>e.elim (fun e=>h.n3 k e hk) (fun e=>by have:=hs k hk;omega),h.n4⟩
theorem MuAt.reGrow {w w1 w':World} {SM SB:Nat→Prop} {ub mb bb:Nat} {u:Mu} (h:MuAt w' (Grow SM w1) SB ub mb bb u) (hz:w.heap.size≤w1.heap.size) (hb:ub<w.heap.size) (hs:∀k,SB k→k<w.heap.size):MuAt w' (Grow SM w) SB ub mb bb u:=
 ⟨h.blk,h.mem.mono (fun k _ e=>e.elim .inl fun e=>.inr (Nat.le_trans hz e)),h.tlb,h.on,h.asid,h.mode,h.root,h.fr,fun e=>e.elim (fun e=>h.n1 (.inl e)) (fun e=>by omega),h.n2,fun k e hk=>e.elim (fun e=>h.n3 k (.inl e) hk) (fun e=>by have:=hs k hk;omega),h.n4⟩
theorem turnF_lt (o:Int) {b x:Nat} (hb:b<18446744073709551616):turnF o b x<18446744073709551616:=by
 unfold turnF
 exact lt_ite (Nat.mod_lt _ (by omega)) hb
theorem MuAt.swap_lt {w:World} {SM SB:Nat→Prop} {ub mb bb:Nat} {u:Mu} (h:MuAt w SM SB ub mb bb u) (va size:Nat) (t:Nat→Nat) (pick:Int) (hv:va<18446744073709551616):(swapF u va size t pick).1.1<18446744073709551616:=by
 unfold swapF
 by_cases hc:(placeF u va size 2 pick).1.2 = -1
 ·simp only [hc,ne_eq,not_true_eq_false,if_false]
  obtain ⟨q1,q2,q3⟩:=h.place_ok (size:=size) (a:=2) (pick:=pick) hv (by unfold Acc;omega) hc
  exact getW_64 h.mem.ok (sizeB_al q1)
 ·simp only [ne_eq,hc,not_false_eq_true,if_true]
  omega
theorem MuAt.read_lt {w:World} {SM SB:Nat→Prop} {ub mb bb:Nat} {u:Mu} (h:MuAt w SM SB ub mb bb u) (va size:Nat) (a pick:Int) (hv:va<18446744073709551616) (ha:Acc a):(readF u va size a pick).1.1<18446744073709551616:=by
 unfold readF
 by_cases hc:(placeF u va size a pick).1.2 = -1
 ·simp only [hc,ne_eq,not_true_eq_false,if_false]
  obtain ⟨q1,q2,q3⟩:=h.place_ok (size:=size) (a:=a) (pick:=pick) hv ha hc
  exact getW_64 h.mem.ok (sizeB_al q1)
 ·simp only [ne_eq,hc,not_false_eq_true,if_true]
  omega
theorem Cor.set_pc (c:Cor) (n:Int) (v:Nat) : { (c.set n v) with pc:=c.pc} = c.set n v:=by
 unfold Cor.set
 by_cases h:0≤n∧n<16∧n≠0
 ·rw [if_pos h]
 ·rw [if_neg h]
theorem signW_lt {v:Nat} (s:Int) (hv:v<18446744073709551616):signW v s<18446744073709551616:=by
 unfold signW
 by_cases h:(sizeB s && !decide (s=8))=true
 ·rw [if_pos h]
  simp only [Bool.and_eq_true,Bool.not_eq_true',decide_eq_false_iff_not] at h
  rcases sizeB_of h.1 with rfl | rfl | rfl | rfl
  ·refine lt_ite ?_ ?_ <;> show _<18446744073709551616 <;> simp <;> omega
  ·refine lt_ite ?_ ?_ <;> show _<18446744073709551616 <;> simp <;> omega
  ·refine lt_ite ?_ ?_ <;> show _<18446744073709551616 <;> simp <;> omega
  ·exact absurd rfl h.2
 ·rw [if_neg h];exact hv
theorem toldF_lt {v:Nat} (o:Int) (hv:v<18446744073709551616):toldF o v<18446744073709551616:=by
 unfold toldF
 exact lt_ite (signW_lt _ hv) hv
structure Far (SM SB:Nat→Prop) (cb db ub:Nat):Prop where
 cd:cb≠db
 cu:cb≠ub
 du:db≠ub
 cm:¬SM cb
 cB:¬SB cb
 dm:¬SM db
 dB:¬SB db
theorem over_any {w:World} {SM SB:Nat→Prop} {cb db ub mb bb:Nat} {c:Cor} {u:Mu} (hc:CoreAt w cb c) (hu:MuAt w SM SB ub mb bb u) (i:In) (hi:i.Ok) (hd:DidAt w db ⟨false,i,c.pc,-1,0,0,0,0,0⟩)
  (hf:Far SM SB cb db ub) (hsm:∀k,SM k→k<w.heap.size) (hk:kd i.op = .L∨kd i.op = .S∨kd i.op = .A) (pick:Int) (p1 : -9223372036854775808≤pick) (p2:pick≤9223372036854775807) :
  Calls Tryz.prog 198 #[.pointer (some ⟨cb,0,none⟩),.pointer (some ⟨ub,0,none⟩),.pointer (some ⟨db,0,none⟩),.int .i64 pick] w (RetW (.int .i64 (overF c u i pick).1.cause) fun w'=>
   DidAt w' db { (overF c u i pick).1 with done:=false,cause:=-1}∧CoreAt w' cb { (overF c u i pick).2.1 with pc:=c.pc}∧MuAt w' (Grow SM w) SB ub mb bb (overF c u i pick).2.2∧Chg (fun k=>k=cb∨k=db∨SM k∨SB k) w w'):=by
 obtain ⟨o,rd,rs,rt,im⟩:=i
 have hk1:=hi.s0
 have hk2:=hi.s1
 have hk3:=hi.t0
 have hk4:=hi.t1
 dsimp only at hk1 hk2 hk3 hk4 hk
 obtain ⟨q,rfl⟩:∃q:Nat,rs=q:=⟨rs.toNat,by omega⟩
 obtain ⟨p,rfl⟩:∃p:Nat,rt=p:=⟨rt.toNat,by omega⟩
 have hq:q<16:=by omega
 have hp:p<16:=by omega
 obtain ⟨O,hO⟩:∃O,overF c u ⟨o,rd,q,p,im⟩ pick=O:=⟨_,rfl⟩
 rw [hO]
 have d1:=hc.ever hq
 have d2:=hc.ever hp
 obtain ⟨x,hx⟩:∃x,c.r q=x:=⟨_,rfl⟩
 obtain ⟨y,hy⟩:∃y,c.r p=y:=⟨_,rfl⟩
 obtain ⟨pc,hpc⟩:∃pc,c.pc=pc:=⟨_,rfl⟩
 obtain ⟨im',him⟩:∃u,uof im=u:=⟨_,rfl⟩
 obtain ⟨ad,had⟩:∃a,(x+im')%18446744073709551616=a:=⟨_,rfl⟩
 obtain ⟨sz,hsz⟩:∃s:Nat,sizeI o=s:=⟨(sizeI o).toNat,by rcases sizeI_cases o with h | h | h | h | h <;> rw [h] <;> rfl⟩
 rw [hx] at d1
 rw [hy] at d2
 have hyl:y<18446744073709551616:=by rw [←hy];exact hc.lt p
 have hadl:ad<18446744073709551616:=by omega
 have u1:IntKind.u64.wrap im=(im':Int):=by rw [IntKind.wrap_u64,←him,uof_int]
 have u2:IntKind.u64.wrap ((x:Int)+im')=(ad:Int):=by rw [IntKind.wrap_u64];omega
 rw [hpc] at hd ⊢
 have HC:=Lib.hid hc
 have HU:=Lib.hid hu
 have HD:=Lib.hid hd
 have HF:=Lib.hid hf
 have HSM:=Lib.hid hsm
 have HSB:=Lib.hid hu.n4
 have HUL:=Lib.hid hu.blk.lt
 have HCL:=Lib.hid hc.blk.lt
 have a1:IntKind.i64.wrap (q:Int)=q:=IntWalk.i64_in _ (by omega)
 have a2:IntKind.i64.wrap (p:Int)=p:=IntWalk.i64_in _ (by omega)
 have a3:(q:Int)<16:=by omega
 have a4:(p:Int)<16:=by omega
 have a5:(q:Int).toNat=q:=Int.toNat_natCast q
 have a6:(p:Int).toNat=p:=Int.toNat_natCast p
 have f1:=hd.cell' (i:=1) (v:=.int .i64 o) rfl
 have f2:=hd.cell' (i:=2) (v:=.int .i64 rd) rfl
 have f3:=hd.cell' (i:=3) (v:=.int .i64 q) rfl
 have f4:=hd.cell' (i:=4) (v:=.int .i64 p) rfl
 have f5:=hd.cell' (i:=5) (v:=.int .i64 im) rfl
 have fl:=hd.lt
 have hB:=Blk.new w #[.int .i64 o,.int .i64 rd,.int .i64 q,.int .i64 p,.int .i64 im] 50
 have hA:Chg NoB w (w.alloc (.cells #[.int .i64 o,.int .i64 rd,.int .i64 q,.int .i64 p,.int .i64 im] 50)):=(Chg.refl NoB w).alloc _
 have HO:Hid (O=overF c u ⟨o,rd,q,p,im⟩ pick):=Lib.hid hO.symm
 have HKd:=Lib.hid hk
 have HE:Hid (c.r q=x∧c.r p=y∧c.pc=pc∧uof im=im'∧(x+im')%18446744073709551616=ad∧sizeI o=sz):=Lib.hid ⟨hx,hy,hpc,him,had,hsz⟩
 have hne:db<w.heap.size:=fl
 clear hc hu hd hf hsm hi hk hO hx hy hpc him had hsz hk2 hk4 hq hp;go_enter Tryz.func198,Tryz.ntmps198;go_upto_region 2 with fail;generalize hwA:w.alloc (.cells #[.int .i64 o,.int .i64 rd,.int .i64 q,.int .i64 p,.int .i64 im] 50)=wA at *;obtain ⟨ib,hib⟩:∃ib,w.heap.size=ib:=⟨_,rfl⟩
 have HIB:Hid (ib=w.heap.size):=Lib.hid hib.symm
 rw [hib] at hB hne
 simp only [hib]
 have HBI:=Lib.hid hB
 have g:=hB.ever
 have gl:=hB.everL
 have HA:=Lib.hid hA
 have e1:∀w',Chg NoB wA w'→w'.cell? ⟨cb,q,none⟩=some (.int .u64 x):=fun w' k=>d1 w' (hA.step k)
 have e2:∀w',Chg NoB wA w'→w'.cell? ⟨cb,p,none⟩=some (.int .u64 y):=fun w' k=>d2 w' (hA.step k)
 have el:∀w',Chg NoB wA w'→cb<w'.heap.size:=fun w' k=>(HC.out.chg (hA.step k) id).blk.lt
 have cc:=Chg.refl NoB wA
 clear hwA hib hB hA d1 d2 f1 f2 f3 f4 f5 fl;refine wp_region_mix 16 [(true,0),(true,1),(true,2),(true,3),(true,4),(true,5),(true,6),(true,7),(true,8),(true,9),(true,10),(true,11),(true,12),(true,13),(false,14),(false,15)] (fun w'=>Chg NoB wA w') (by kernel_rfl) (by kernel_rfl) (fun _ _ _ _ _ h=>h) (cc.drew) ?_
 simp only [pickMix_nil,pickMix_cons,Option.getD_some,List.getElem?_toArray,List.getElem?_cons_zero,List.getElem?_cons_succ,List.cons_append,List.nil_append,List.drop_succ_cons,List.drop_zero]
 iterate 14
  refine wpMix_take rfl ?_;apply Exists.intro;refine ⟨fun wS hS=>?_,?_⟩
  ·try dsimp only at hS
   have cS:=hS
   go_simp;try rfl
  simp only [Act.put,List.setIfInBounds_toArray,List.set_cons_zero,List.set_cons_succ]
 refine wpMix_force rfl (fun K hK=>?_)
 go_simp;refine hK _ _ (cc.alloc (.cells #[.int .u64 0] 65)).drew ?_
 clear hK K;refine wpMix_force rfl (fun K hK=>?_)
 go_simp;refine hK _ _ (cc.alloc (.cells #[.int .u64 0] 65)).drew ?_
 clear hK K;refine wpMix_nil ?_
 have f0:(wA.alloc (.cells #[.int .u64 0] 65)).drew.cell? ⟨wA.heap.size,0,none⟩=some (.int .u64 0):=(Blk.new wA #[.int .u64 0] 65).cell' rfl
 go_upto_region 3 with fail;have BQ:Blk (wA.alloc (.cells #[.int .u64 y] 65)).drew wA.heap.size #[.int .u64 y] 65:=Blk.new wA #[.int .u64 y] 65
 have CB:Chg NoB wA (wA.alloc (.cells #[.int .u64 y] 65)).drew:=(cc.alloc _).drew
 have hbq:ib<wA.heap.size:=HBI.out.lt
 clear f0 g gl e1 e2 el cc;generalize (wA.alloc (.cells #[.int .u64 y] 65)).drew=wB at *;obtain ⟨bq,hbq'⟩:∃b,wA.heap.size=b:=⟨_,rfl⟩
 rw [hbq'] at BQ hbq
 simp only [hbq']
 clear hbq';have BI:=CB.blk0 HBI.out
 have CW:=HA.out.step CB
 have HCB:=Lib.hid (HC.out.chg CW id)
 have HUB:=Lib.hid (HU.out.chg0 CW)
 have HDB:=Lib.hid (CW.blk0 HD.out)
 have HCW:=Lib.hid CW
 clear HA HBI CB CW HC HU HD;have HZ:=Lib.hid (fun w=>isize_any o w)
 rw [HE.out.2.2.2.2.2] at HZ
 have hbd:¬ib=db:=by omega
 have hqd:¬bq=db:=by omega
 have g0:∀w',Chg (fun k=>k=db) wB w'→w'.cell? ⟨ib,0,none⟩=some (.int .i64 o):=fun w' k=>(k.blk BI hbd).cell' rfl
 have g4:∀w',Chg (fun k=>k=db) wB w'→w'.cell? ⟨ib,4,none⟩=some (.int .i64 im):=fun w' k=>(k.blk BI hbd).cell' rfl
 have gl:∀w',Chg (fun k=>k=db) wB w'→ib<w'.heap.size:=fun w' k=>(k.blk BI hbd).lt
 have y8:=HDB.out.cell' (i:=8) (v:=.int .i64 0) rfl
 have y9:=HDB.out.cell' (i:=9) (v:=.int .u64 0) rfl
 have y10:=HDB.out.cell' (i:=10) (v:=.int .i64 0) rfl
 have dz:=HDB.out.frozen
 have dl:=HDB.out.lt
 have cc:=Chg.refl (fun k=>k=db) wB
 have HBI:=Lib.hid BI
 have HBQ:=Lib.hid BQ
 clear BI BQ;refine wp_region_mix 19 [(true,0),(true,1),(true,2),(true,3),(true,4),(true,5),(true,6),(true,7),(true,8),(true,9),(false,10),(true,11),(true,12),(false,13),(true,14),(true,15),(false,16),(true,17),(true,18)] (fun w'=>Chg (fun k=>k=db) wB w') (by kernel_rfl) (by kernel_rfl) (fun _ _ _ _ _ h=>h) (cc.drew) ?_
 simp only [pickMix_nil,pickMix_cons,Option.getD_some,List.getElem?_toArray,List.getElem?_cons_zero,List.getElem?_cons_succ,List.cons_append,List.nil_append,List.drop_succ_cons,List.drop_zero]
 iterate 10
  refine wpMix_take rfl ?_;apply Exists.intro;refine ⟨fun wS hS=>?_,?_⟩
  ·try dsimp only at hS
   have cS:=hS
   go_simp;try rfl
  simp only [Act.put,List.setIfInBounds_toArray,List.set_cons_zero,List.set_cons_succ]
 refine wpMix_force rfl (fun K hK=>?_)
 go_simp;refine (HZ.out _).mono ?_
 rintro e w3 ⟨rfl,hw3⟩;subst hw3;refine hK _ _ cc.drew ?_
 clear hK K;iterate 2
  refine wpMix_take rfl ?_;apply Exists.intro;refine ⟨fun wS hS=>?_,?_⟩
  ·try dsimp only at hS
   have cS:=hS
   go_simp;try rfl
  simp only [Act.put,List.setIfInBounds_toArray,List.set_cons_zero,List.set_cons_succ]
 refine wpMix_force rfl (fun K hK=>?_)
 go_simp;have c1:Chg (fun k=>k=db) wB (wB.setCell ⟨db,9,none⟩ (.int .u64 ad)).drew:=(cc.setCell (a:=⟨db,9,none⟩) (.inl rfl) _).drew
 refine hK _ _ c1 ?_
 clear hK K;iterate 2
  refine wpMix_take rfl ?_;apply Exists.intro;refine ⟨fun wS hS=>?_,?_⟩
  ·try dsimp only at hS
   have cS:=hS
   go_simp;try rfl
  simp only [Act.put,List.setIfInBounds_toArray,List.set_cons_zero,List.set_cons_succ]
 refine wpMix_force rfl (fun K hK=>?_)
 go_simp;have c2:Chg (fun k=>k=db) wB ((wB.setCell ⟨db,9,none⟩ (.int .u64 ad)).setCell ⟨db,10,none⟩ (.int .i64 sz)).drew:=((cc.setCell (a:=⟨db,9,none⟩) (.inl rfl) _).setCell (a:=⟨db,10,none⟩) (.inl rfl) _).drew
 refine hK _ _ c2 ?_
 clear hK K;iterate 2
  refine wpMix_take rfl ?_;apply Exists.intro;refine ⟨fun wS hS=>?_,?_⟩
  ·try dsimp only at hS
   have cS:=hS
   go_simp;try rfl
  simp only [Act.put,List.setIfInBounds_toArray,List.set_cons_zero,List.set_cons_succ]
 refine wpMix_nil ?_
 go_upto_region 5 with fail;have DC:Blk (((wB.setCell ⟨db,9,none⟩ (.int .u64 ad)).setCell ⟨db,10,none⟩ (.int .i64 sz)).setCell ⟨db,8,none⟩ (.int .i64 2)).drew db (DidP.cells ⟨false,⟨o,rd,q,p,im⟩,pc,-1,2,ad,sz,0,0⟩) 69:=((HDB.out.set 9 (.int .u64 ad)).set 10 (.int .i64 sz)).set 8 (.int .i64 2)
 have CC:Chg (fun k=>k=db) wB (((wB.setCell ⟨db,9,none⟩ (.int .u64 ad)).setCell ⟨db,10,none⟩ (.int .i64 sz)).setCell ⟨db,8,none⟩ (.int .i64 2)).drew:=(((cc.setCell (a:=⟨db,9,none⟩) (.inl rfl) _).setCell (a:=⟨db,10,none⟩) (.inl rfl) _).setCell (a:=⟨db,8,none⟩) (.inl rfl) _).drew
 clear g0 g4 gl y8 y9 y10 dz dl cc HZ HDB u1 u2 a1 a2 a3 a4 a5 a6;generalize (((wB.setCell ⟨db,9,none⟩ (.int .u64 ad)).setCell ⟨db,10,none⟩ (.int .i64 sz)).setCell ⟨db,8,none⟩ (.int .i64 2)).drew=wC at *;have BI:=CC.blk HBI.out hbd
 have BQ:=CC.blk HBQ.out hqd
 have HCC:=Lib.hid (HCB.out.chg CC HF.out.cd)
 have HUC:=Lib.hid (HUB.out.chg CC (fun e=>HF.out.du e.symm) (fun k hk e=>HF.out.dm (e▸hk)) (fun k hk e=>HF.out.dB (e▸hk)))
 have HCW:=Lib.hid ((HCW.out.mono (S':=fun k=>k=db) fun _ _ e=>e.elim).trans CC fun _ _ e=>e)
 have HDC:=Lib.hid DC
 have HK:=Lib.hid (fun w=>kind_any o w)
 have i0:=BI.cell' (i:=0) (v:=.int .i64 o) rfl
 have il:=BI.lt
 have HBI:=Lib.hid BI
 have HBQ:=Lib.hid BQ
 have HYL:=Lib.hid hyl
 have HADL:=Lib.hid hadl
 clear CC DC BI BQ HCB HUB hyl hadl;rcases HKd.out with hk | hk | hk
 ·rw [hk] at HK
  go_wp2_with fail;refine (HK.out _).mono ?_
  rintro e w3 ⟨rfl,hw3⟩;subst hw3;simp only [Kd.s]
  have y8:=HDC.out.cell' (i:=8) (v:=.int .i64 2) rfl
  have dz:=HDC.out.frozen
  have dl:=HDC.out.lt
  go_upto_region 11 with fail;have HDD:Hid (Blk (wC.setCell ⟨db,8,none⟩ (.int .i64 1)) db (DidP.cells ⟨false,⟨o,rd,q,p,im⟩,pc,-1,1,ad,sz,0,0⟩) 69):=Lib.hid (HDC.out.set 8 (.int .i64 1))
  have CD:Chg (fun k=>k=db) wC (wC.setCell ⟨db,8,none⟩ (.int .i64 1)):=(Chg.refl (fun k=>k=db) wC).setCell (a:=⟨db,8,none⟩) (.inl rfl) _
  generalize wC.setCell ⟨db,8,none⟩ (.int .i64 1)=wD at *;have HUD:=Lib.hid (HUC.out.chg CD (fun e=>HF.out.du e.symm) (fun k hk e=>HF.out.dm (e▸hk)) (fun k hk e=>HF.out.dB (e▸hk)))
  have HCD:=Lib.hid (HCC.out.chg CD HF.out.cd)
  have HCWD:=Lib.hid (HCW.out.step CD)
  have HBD:=Lib.hid (CD.blk HBI.out hbd)
  clear CD y8 dz dl i0 il HDC;have y9:=HDD.out.cell' (i:=9) (v:=.int .u64 ad) rfl
  have y10:=HDD.out.cell' (i:=10) (v:=.int .i64 sz) rfl
  have y11:=HDD.out.cell' (i:=11) (v:=.int .u64 0) rfl
  have dz:=HDD.out.frozen
  have gl:∀w',Chg (fun k=>k=db∨SB k) wD w'→db<w'.heap.size:=fun w' k=>Nat.lt_of_lt_of_le HDD.out.lt k.size
  have hadl:ad<18446744073709551616:=by have:=HE.out.2.2.2.2.1;omega
  have HL:=Lib.hid (fun w' (k:Chg NoB wD w')=>munit_load (HUD.out.chg0 k) ad sz pick hadl p1 p2)
  have hvl:=HUD.out.read_lt ad sz 1 pick hadl (by unfold Acc;omega)
  obtain ⟨⟨⟨v,cz⟩,u1⟩,hR⟩:∃R,readF u ad sz 1 pick=R:=⟨_,rfl⟩
  rw [hR] at HL hvl
  have hvl:v<18446744073709551616:=hvl
  have HRd:=Lib.hid hR
  have cc:=Chg.refl (fun k=>k=db∨SB k) wD
  clear hR hadl;refine wp_region_mix 18 [(true,0),(true,1),(true,2),(true,3),(true,4),(true,5),(true,6),(true,7),(true,8),(true,9),(true,10),(false,11),(true,12),(true,13),(true,14),(true,15),(true,16),(false,17)] (fun w'=>Chg (fun k=>k=db∨SB k) wD w'∧w'.cell? ⟨db,9,none⟩=some (.int .u64 ad)∧w'.cell? ⟨db,10,none⟩=some (.int .i64 sz)) (by kernel_rfl) (by kernel_rfl) (fun _ _ _ _ _ h=>h) (⟨cc.drew,y9,y10⟩) ?_
  simp only [pickMix_nil,pickMix_cons,Option.getD_some,List.getElem?_toArray,List.getElem?_cons_zero,List.getElem?_cons_succ,List.cons_append,List.nil_append,List.drop_succ_cons,List.drop_zero]
  iterate 11
   refine wpMix_take rfl ?_;apply Exists.intro;refine ⟨fun wS hS=>?_,?_⟩
   ·try dsimp only at hS
    obtain ⟨cS,s9,s10⟩:=hS
    go_simp;try rfl
   simp only [Act.put,List.setIfInBounds_toArray,List.set_cons_zero,List.set_cons_succ]
  refine wpMix_force rfl (fun K hK=>?_)
  go_simp;refine (HL.out _ (Chg.refl NoB wD).drew).mono ?_
  rintro e w4 ⟨rfl,hM,c4⟩;have D4:=c4.blk ((Chg.refl NoB wD).drew.blk0 HDD.out) HF.out.dB
  have C4:Chg (fun k=>k=db∨SB k) wD w4:=(cc.drew).step (c4.mono fun _ _ e=>.inr e)
  have HD4:=Lib.hid D4
  have HC4:=Lib.hid C4
  have HM4:=Lib.hid hM
  have z4:=D4.frozen
  have l4:=D4.lt
  have y11:=D4.cell' (i:=11) (v:=.int .u64 0) rfl
  refine hK _ _ ⟨C4,D4.cell' (i:=9) rfl,D4.cell' (i:=10) rfl⟩ ?_
  clear hK K hM c4 C4 D4;iterate 5
   refine wpMix_take rfl ?_;apply Exists.intro;refine ⟨fun wS hS=>?_,?_⟩
   ·try dsimp only at hS
    obtain ⟨cS,s9,s10⟩:=hS
    go_simp;try rfl
   simp only [Act.put,List.setIfInBounds_toArray,List.set_cons_zero,List.set_cons_succ]
  refine wpMix_force rfl (fun K hK=>?_)
  go_simp;have D5:=HD4.out.set 11 (.int .u64 v)
  refine hK _ _ ⟨HC4.out.setCell (a:=⟨db,11,none⟩) (.inl (.inl rfl)) _,D5.cell' (i:=9) rfl,D5.cell' (i:=10) rfl⟩ ?_
  clear hK K D5;refine wpMix_nil ?_
  have y12:=HD4.out.cell' (i:=12) (v:=.int .u64 0) rfl
  clear y9 y10 gl cc HL;go_upto_region 16 with fail;have DE:Blk ((w4.setCell ⟨db,11,none⟩ (.int .u64 v)).setCell ⟨db,12,none⟩ (.int .u64 v)) db (DidP.cells ⟨false,⟨o,rd,q,p,im⟩,pc,-1,1,ad,sz,v,v⟩) 69:=(HD4.out.set 11 (.int .u64 v)).set 12 (.int .u64 v)
  have CE:Chg (fun k=>k=db) w4 ((w4.setCell ⟨db,11,none⟩ (.int .u64 v)).setCell ⟨db,12,none⟩ (.int .u64 v)):=((Chg.refl (fun k=>k=db) w4).setCell (a:=⟨db,11,none⟩) (.inl rfl) _).setCell (a:=⟨db,12,none⟩) (.inl rfl) _
  clear y11 y12 z4 l4;generalize (w4.setCell ⟨db,11,none⟩ (.int .u64 v)).setCell ⟨db,12,none⟩ (.int .u64 v)=wE at *;have HME:=Lib.hid ((HM4.out.chg CE (fun e=>HF.out.du e.symm) (fun k hk e=>HF.out.dm (e▸hk)) (fun k hk e=>HF.out.dB (e▸hk))).growS HUL.out HSB.out)
  have CDE:=HC4.out.step (CE.mono (S':=fun k=>k=db∨SB k) fun _ _ e=>.inl e)
  have HCE:=Lib.hid (HCD.out.chg CDE (fun e=>e.elim HF.out.cd HF.out.cB))
  have hib:¬(ib=db∨SB ib):=fun e=>e.elim hbd (fun e=>by have:=HSB.out ib e;have:=HIB.out;omega)
  have BE:=CDE.blk HBD.out hib
  have HWE:Hid (Chg (fun k=>k=cb∨k=db∨SM k∨SB k) w wE):=Lib.hid ((HCWD.out.mono (S':=fun k=>k=cb∨k=db∨SM k∨SB k) fun k _ e=>.inr (.inl e)).step (CDE.mono fun k _ e=>e.elim (fun e=>.inr (.inl e)) (fun e=>.inr (.inr (.inr e)))))
  have HOL:Hid (O=if cz≠-1 then (⟨false,⟨o,rd,q,p,im⟩,pc,cz,1,ad,sz,0,0⟩,c,u1) else (⟨true,⟨o,rd,q,p,im⟩,pc,-1,1,ad,sz,v,0⟩,{ (c.set rd (toldF o v)) with pc:=(pc+4)%18446744073709551616},u1)):=Lib.hid (by
   obtain ⟨e1,e2,e3,e4,e5,e6⟩:=HE.out
   rw [HO.out]
   unfold overF
   simp only [hk,Int.toNat_natCast,e1,e2,e3,e4,e5,e6,HRd.out,if_true])
  have HDE:=Lib.hid DE
  clear DE CE CDE hib HD4 HC4 HM4 HCD HCWD HBD HDD HUD;by_cases hcz:cz = -1
  ·subst hcz;have HX:Hid (O=(⟨true,⟨o,rd,q,p,im⟩,pc,-1,1,ad,sz,v,0⟩,{ (c.set rd (toldF o v)) with pc:=(pc+4)%18446744073709551616},u1)):=Lib.hid (by rw [HOL.out,if_neg (by simp)])
   have i0:=BE.cell' (i:=0) (v:=.int .i64 o) rfl
   have il:=BE.lt
   have g0:∀w',Chg NoB wE w'→w'.cell? ⟨ib,0,none⟩=some (.int .i64 o):=fun w' k=>(k.blk0 BE).cell' rfl
   have g1:∀w',Chg NoB wE w'→w'.cell? ⟨ib,1,none⟩=some (.int .i64 rd):=fun w' k=>(k.blk0 BE).cell' rfl
   have gl:∀w',Chg NoB wE w'→ib<w'.heap.size:=fun w' k=>(k.blk0 BE).lt
   have e11:∀w',Chg NoB wE w'→w'.cell? ⟨db,11,none⟩=some (.int .u64 v):=fun w' k=>(k.blk0 HDE.out).cell' rfl
   have el:∀w',Chg NoB wE w'→db<w'.heap.size:=fun w' k=>(k.blk0 HDE.out).lt
   have HTo:=Lib.hid (fun w=>told_any o v hvl w)
   have htl:toldF o v<18446744073709551616:=toldF_lt o hvl
   obtain ⟨tv,htv⟩:∃t,toldF o v=t:=⟨_,rfl⟩
   rw [htv] at HX HTo htl
   have HSt:=Lib.hid (fun w' (k:Chg NoB wE w')=>coreSet_any (HCE.out.chg k id) rd tv htl)
   have cc:=Chg.refl NoB wE
   clear BE HOL htv htl;go_upto_region 21 with (refine (HK.out _).mono ?_;rintro e w3 ⟨rfl,hw3⟩;subst hw3;simp only [Kd.s])
   refine wp_region_mix 10 [(true,0),(true,1),(true,2),(true,3),(true,4),(true,5),(true,6),(true,7),(true,8),(false,9)] (fun w'=>Chg NoB wE w') (by kernel_rfl) (by kernel_rfl) (fun _ _ _ _ _ h=>h) (cc.drew) ?_
   simp only [pickMix_nil,pickMix_cons,Option.getD_some,List.getElem?_toArray,List.getElem?_cons_zero,List.getElem?_cons_succ,List.cons_append,List.nil_append,List.drop_succ_cons,List.drop_zero]
   iterate 9
    refine wpMix_take rfl ?_;apply Exists.intro;refine ⟨fun wS hS=>?_,?_⟩
    ·try dsimp only at hS
     have cS:=hS
     go_simp;try rfl
    simp only [Act.put,List.setIfInBounds_toArray,List.set_cons_zero,List.set_cons_succ]
   refine wpMix_force rfl (fun K hK=>?_)
   go_simp;refine (HTo.out _).mono ?_
   rintro e w3 ⟨rfl,hw3⟩;subst hw3;refine hK _ _ cc.drew ?_
   clear hK K;refine wpMix_nil ?_
   go_wp2_with fail;refine (HSt.out _ cc.drew).mono ?_
   rintro e w6 ⟨rfl,h6,c6⟩;have HC6:=Lib.hid h6
   have C6:Chg (fun k=>k=cb) wE w6:=(cc.drew.mono fun _ _ e=>e.elim).step c6
   have D6:=C6.blk HDE.out (fun e=>HF.out.cd e.symm)
   have HD6:=Lib.hid D6
   have HHC6:=Lib.hid C6
   have e8:=D6.cell' (i:=8) (v:=.int .i64 1) rfl
   have e12:=D6.cell' (i:=12) (v:=.int .u64 v) rfl
   have ez:=D6.frozen
   have e6l:=D6.lt
   clear g0 g1 gl e11 el HTo HSt cc C6 c6 h6 D6 i0 il;go_wp2_with fail;go_ret;have DF:DidAt (w6.setCell ⟨db,12,none⟩ (.int .u64 0)) db ⟨false,⟨o,rd,q,p,im⟩,pc,-1,1,ad,sz,v,0⟩:=HD6.out.set 12 (.int .u64 0)
   have CF:Chg (fun k=>k=db) w6 (w6.setCell ⟨db,12,none⟩ (.int .u64 0)):=(Chg.refl (fun k=>k=db) w6).setCell (a:=⟨db,12,none⟩) (.inl rfl) _
   have CF2:=HC6.out.chg CF HF.out.cd
   refine ⟨by rw [HX.out];rfl,by rw [HX.out];exact DF,?_,?_,(HWE.out.step (HHC6.out.mono fun k _ e=>.inl e)).step (CF.mono fun k _ e=>.inr (.inl e))⟩
   ·rw [HX.out,←HE.out.2.2.1]
    show CoreAt _ cb { (c.set rd tv) with pc:=c.pc}
    rw [Cor.set_pc]
    exact CF2
   ·rw [HX.out]
    have hng:∀k,Grow SM w k→k≠cb∧k≠db:=fun k hk=>hk.elim (fun hk=>⟨fun e=>HF.out.cm (e▸hk),fun e=>HF.out.dm (e▸hk)⟩) fun hk=>⟨fun e=>by have:=HIB.out;have:=HCL.out;omega,fun e=>by have:=HIB.out;omega⟩
    exact (HME.out.chg HHC6.out (fun e=>HF.out.cu e.symm) (fun k hk=>(hng k hk).1) (fun k hk e=>HF.out.cB (e▸hk))).chg CF (fun e=>HF.out.du e.symm) (fun k hk=>(hng k hk).2) (fun k hk e=>HF.out.dB (e▸hk))
  ·have t1:(cz != -1)=true:=by simpa using hcz
   have y11:=HDE.out.cell' (i:=11) (v:=.int .u64 v) rfl
   have y12:=HDE.out.cell' (i:=12) (v:=.int .u64 v) rfl
   have ez:=HDE.out.frozen
   have el:=HDE.out.lt
   have HX:Hid (O=(⟨false,⟨o,rd,q,p,im⟩,pc,cz,1,ad,sz,0,0⟩,c,u1)):=Lib.hid (by rw [HOL.out,if_pos hcz])
   clear hcz BE HOL;go_wp2_with fail;go_ret;have DF:DidAt ((wE.setCell ⟨db,11,none⟩ (.int .u64 0)).setCell ⟨db,12,none⟩ (.int .u64 0)) db ⟨false,⟨o,rd,q,p,im⟩,pc,-1,1,ad,sz,0,0⟩:=(HDE.out.set 11 (.int .u64 0)).set 12 (.int .u64 0)
   have CF:Chg (fun k=>k=db) wE ((wE.setCell ⟨db,11,none⟩ (.int .u64 0)).setCell ⟨db,12,none⟩ (.int .u64 0)):=((Chg.refl (fun k=>k=db) wE).setCell (a:=⟨db,11,none⟩) (.inl rfl) _).setCell (a:=⟨db,12,none⟩) (.inl rfl) _
   have CF2:=HCE.out.chg CF HF.out.cd
   refine ⟨by rw [HX.out];rfl,by rw [HX.out];exact DF,?_,?_,HWE.out.step (CF.mono fun k _ e=>.inr (.inl e))⟩
   ·rw [HX.out,←HE.out.2.2.1];exact CF2
   ·rw [HX.out];exact HME.out.chg CF (fun e=>HF.out.du e.symm) (fun k hk e=>hk.elim (fun hk=>HF.out.dm (e▸hk)) fun hk=>by have:=HIB.out;omega) (fun k hk e=>HF.out.dB (e▸hk))
 ·rw [hk] at HK
  go_wp2_with fail;refine (HK.out _).mono ?_
  rintro e w3 ⟨rfl,hw3⟩;subst hw3;simp only [Kd.s]
  go_upto_region 14 with fail;have y9:∀w',Chg NoB wC w'→w'.cell? ⟨db,9,none⟩=some (.int .u64 ad):=fun w' k=>(k.blk0 HDC.out).cell' rfl
  have y10:∀w',Chg NoB wC w'→w'.cell? ⟨db,10,none⟩=some (.int .i64 sz):=fun w' k=>(k.blk0 HDC.out).cell' rfl
  have yl:∀w',Chg NoB wC w'→db<w'.heap.size:=fun w' k=>(k.blk0 HDC.out).lt
  have b0:∀w',Chg NoB wC w'→w'.cell? ⟨bq,0,none⟩=some (.int .u64 y):=fun w' k=>(k.blk0 HBQ.out).cell' rfl
  have bl:∀w',Chg NoB wC w'→bq<w'.heap.size:=fun w' k=>(k.blk0 HBQ.out).lt
  have HL:=Lib.hid (fun w' (k:Chg NoB wC w')=>munit_store (HUC.out.chg0 k) ad sz y pick HADL.out HYL.out p1 p2)
  obtain ⟨⟨cz,u1⟩,hR⟩:∃R,storeF u ad sz y pick=R:=⟨_,rfl⟩
  rw [hR] at HL
  have HRd:=Lib.hid hR
  have cc:=Chg.refl NoB wC
  clear hR i0 il;refine wp_region_mix 11 [(true,0),(true,1),(true,2),(true,3),(true,4),(true,5),(true,6),(true,7),(true,8),(true,9),(true,10)] (fun w'=>Chg NoB wC w') (by kernel_rfl) (by kernel_rfl) (fun _ _ _ _ _ h=>h) (cc.drew) ?_
  simp only [pickMix_nil,pickMix_cons,Option.getD_some,List.getElem?_toArray,List.getElem?_cons_zero,List.getElem?_cons_succ,List.cons_append,List.nil_append,List.drop_succ_cons,List.drop_zero]
  iterate 11
   refine wpMix_take rfl ?_;apply Exists.intro;refine ⟨fun wS hS=>?_,?_⟩
   ·try dsimp only at hS
    have cS:=hS
    go_simp;try rfl
   simp only [Act.put,List.setIfInBounds_toArray,List.set_cons_zero,List.set_cons_succ]
  refine wpMix_nil ?_
  go_wp2_with fail;refine (HL.out _ cc.drew).mono ?_
  rintro e w4 ⟨rfl,hM,c4⟩;have hib:¬(SM ib∨SB ib):=fun e=>e.elim (fun e=>by have:=HSM.out ib e;have:=HIB.out;omega) (fun e=>by have:=HSB.out ib e;have:=HIB.out;omega)
  have hibq:¬(SM bq∨SB bq):=fun e=>e.elim (fun e=>by have:=HSM.out bq e;have:=HIB.out;omega) (fun e=>by have:=HSB.out bq e;have:=HIB.out;omega)
  have C4:Chg (fun k=>SM k∨SB k) wC w4:=(cc.drew.mono fun _ _ e=>e.elim).step c4
  have HD4:=Lib.hid (C4.blk HDC.out (fun e=>e.elim HF.out.dm HF.out.dB))
  have HB4:=Lib.hid (C4.blk HBI.out hib)
  have HQ4:=Lib.hid (C4.blk HBQ.out hibq)
  have HC4:=Lib.hid (HCC.out.chg C4 (fun e=>e.elim HF.out.cm HF.out.cB))
  have HM4:=Lib.hid (hM.reGrow (w:=w) (Nat.le_trans HCW.out.size cc.drew.size) HUL.out HSB.out)
  have HW4:Hid (Chg (fun k=>k=cb∨k=db∨SM k∨SB k) w w4):=Lib.hid ((HCW.out.mono (S':=fun k=>k=cb∨k=db∨SM k∨SB k) fun k _ e=>.inr (.inl e)).step (C4.mono fun k _ e=>.inr (.inr e)))
  have HOL:Hid (O=if cz≠-1 then (⟨false,⟨o,rd,q,p,im⟩,pc,cz,2,ad,sz,0,0⟩,c,u1) else (⟨true,⟨o,rd,q,p,im⟩,pc,-1,2,ad,sz,0,cutF y sz⟩,{ c with pc:=(pc+4)%18446744073709551616},u1)):=Lib.hid (by
   obtain ⟨e1,e2,e3,e4,e5,e6⟩:=HE.out
   rw [HO.out]
   unfold overF
   simp only [hk,Int.toNat_natCast,e1,e2,e3,e4,e5,e6,HRd.out,if_true,reduceCtorEq,if_false])
  clear y9 y10 yl b0 bl cc hib hibq C4 hM c4 HL HUC HCC HDC HCW;have HCt:=Lib.hid (fun w=>cut_any y sz w HYL.out)
  have y10:∀w',Chg NoB w4 w'→w'.cell? ⟨db,10,none⟩=some (.int .i64 sz):=fun w' k=>(k.blk0 HD4.out).cell' rfl
  have yl:∀w',Chg NoB w4 w'→db<w'.heap.size:=fun w' k=>(k.blk0 HD4.out).lt
  have b0:∀w',Chg NoB w4 w'→w'.cell? ⟨bq,0,none⟩=some (.int .u64 y):=fun w' k=>(k.blk0 HQ4.out).cell' rfl
  have bl:∀w',Chg NoB w4 w'→bq<w'.heap.size:=fun w' k=>(k.blk0 HQ4.out).lt
  have cc:=Chg.refl NoB w4
  go_upto_region 15 with fail;refine wp_region_mix 9 [(true,0),(true,1),(true,2),(true,3),(true,4),(true,5),(false,6),(true,7),(true,8)] (fun w'=>Chg NoB w4 w') (by kernel_rfl) (by kernel_rfl) (fun _ _ _ _ _ h=>h) (cc.drew) ?_
  simp only [pickMix_nil,pickMix_cons,Option.getD_some,List.getElem?_toArray,List.getElem?_cons_zero,List.getElem?_cons_succ,List.cons_append,List.nil_append,List.drop_succ_cons,List.drop_zero]
  iterate 6
   refine wpMix_take rfl ?_;apply Exists.intro;refine ⟨fun wS hS=>?_,?_⟩
   ·try dsimp only at hS
    have cS:=hS
    go_simp;try rfl
   simp only [Act.put,List.setIfInBounds_toArray,List.set_cons_zero,List.set_cons_succ]
  refine wpMix_force rfl (fun K hK=>?_)
  go_simp;refine (HCt.out _).mono ?_
  rintro e w3 ⟨rfl,hw3⟩;subst hw3;refine hK _ _ cc.drew ?_
  clear hK K;iterate 2
   refine wpMix_take rfl ?_;apply Exists.intro;refine ⟨fun wS hS=>?_,?_⟩
   ·try dsimp only at hS
    have cS:=hS
    go_simp;try rfl
   simp only [Act.put,List.setIfInBounds_toArray,List.set_cons_zero,List.set_cons_succ]
  refine wpMix_nil ?_
  have y12:=HD4.out.cell' (i:=12) (v:=.int .u64 0) rfl
  have z4:=HD4.out.frozen
  have l4:=HD4.out.lt
  clear y10 yl b0 bl cc HCt;go_upto_region 16 with fail;obtain ⟨nv,hnv⟩:∃n,cutF y sz=n:=⟨_,rfl⟩
  rw [hnv] at HOL
  rw [hnv]
  have DE:Blk (w4.setCell ⟨db,12,none⟩ (.int .u64 nv)).drew db (DidP.cells ⟨false,⟨o,rd,q,p,im⟩,pc,-1,2,ad,sz,0,nv⟩) 69:=HD4.out.set 12 (.int .u64 nv)
  have CE:Chg (fun k=>k=db) w4 (w4.setCell ⟨db,12,none⟩ (.int .u64 nv)).drew:=((Chg.refl (fun k=>k=db) w4).setCell (a:=⟨db,12,none⟩) (.inl rfl) _).drew
  clear y12 z4 l4 hnv;generalize (w4.setCell ⟨db,12,none⟩ (.int .u64 nv)).drew=wE at *;have hng:∀k,Grow SM w k→k≠db:=fun k hk=>hk.elim (fun hk=>fun e=>HF.out.dm (e▸hk)) fun hk=>fun e=>by have:=HIB.out;omega
  have HNG:=Lib.hid hng
  have HME:=Lib.hid (HM4.out.chg CE (fun e=>HF.out.du e.symm) (fun k hk=>hng k hk) (fun k hk e=>HF.out.dB (e▸hk)))
  have HCE:=Lib.hid (HC4.out.chg CE HF.out.cd)
  have BE:=CE.blk HB4.out hbd
  have HWE:Hid (Chg (fun k=>k=cb∨k=db∨SM k∨SB k) w wE):=Lib.hid (HW4.out.step (CE.mono fun k _ e=>.inr (.inl e)))
  have HDE:=Lib.hid DE
  have i0:=BE.cell' (i:=0) (v:=.int .i64 o) rfl
  have il:=BE.lt
  clear DE CE hng HD4 HC4 HM4 HQ4 HB4 HBI HBQ HW4 BE;by_cases hcz:cz = -1
  ·subst hcz;have HX:Hid (O=(⟨true,⟨o,rd,q,p,im⟩,pc,-1,2,ad,sz,0,nv⟩,{ c with pc:=(pc+4)%18446744073709551616},u1)):=Lib.hid (by rw [HOL.out,if_neg (by simp)])
   clear HOL;go_wp2_with (refine (HK.out _).mono ?_;rintro e w3 ⟨rfl,hw3⟩;subst hw3;simp only [Kd.s])
   go_ret;refine ⟨by rw [HX.out];rfl,by rw [HX.out];exact HDE.out,?_,?_,HWE.out⟩
   ·rw [HX.out,←HE.out.2.2.1];exact HCE.out
   ·rw [HX.out];exact HME.out
  ·have t1:(cz != -1)=true:=by simpa using hcz
   have y11:=HDE.out.cell' (i:=11) (v:=.int .u64 0) rfl
   have y12:=HDE.out.cell' (i:=12) (v:=.int .u64 nv) rfl
   have ez:=HDE.out.frozen
   have el:=HDE.out.lt
   have HX:Hid (O=(⟨false,⟨o,rd,q,p,im⟩,pc,cz,2,ad,sz,0,0⟩,c,u1)):=Lib.hid (by rw [HOL.out,if_pos hcz])
   clear hcz HOL;go_wp2_with fail;go_ret;have DF:DidAt ((wE.setCell ⟨db,11,none⟩ (.int .u64 0)).setCell ⟨db,12,none⟩ (.int .u64 0)) db ⟨false,⟨o,rd,q,p,im⟩,pc,-1,2,ad,sz,0,0⟩:=(HDE.out.set 11 (.int .u64 0)).set 12 (.int .u64 0)
   have CF:Chg (fun k=>k=db) wE ((wE.setCell ⟨db,11,none⟩ (.int .u64 0)).setCell ⟨db,12,none⟩ (.int .u64 0)):=((Chg.refl (fun k=>k=db) wE).setCell (a:=⟨db,11,none⟩) (.inl rfl) _).setCell (a:=⟨db,12,none⟩) (.inl rfl) _
   have CF2:=HCE.out.chg CF HF.out.cd
   refine ⟨by rw [HX.out];rfl,by rw [HX.out];exact DF,?_,?_,HWE.out.step (CF.mono fun k _ e=>.inr (.inl e))⟩
   ·rw [HX.out,←HE.out.2.2.1];exact CF2
   ·rw [HX.out];exact HME.out.chg CF (fun e=>HF.out.du e.symm) (fun k hk=>HNG.out k hk) (fun k hk e=>HF.out.dB (e▸hk))
 ·rw [hk] at HK
  go_wp2_with fail;refine (HK.out _).mono ?_
  rintro e w3 ⟨rfl,hw3⟩;subst hw3;simp only [Kd.s]
  go_upto_region 7 with fail;have hib:¬(SM ib∨SB ib):=fun e=>e.elim (fun e=>by have:=HSM.out ib e;have:=HIB.out;omega) (fun e=>by have:=HSB.out ib e;have:=HIB.out;omega)
  have hibq:¬(SM bq∨SB bq):=fun e=>e.elim (fun e=>by have:=HSM.out bq e;have:=HIB.out;omega) (fun e=>by have:=HSB.out bq e;have:=HIB.out;omega)
  have HTu:Hid (∀w0,Chg NoB wC w0→Turns w0 SB 229 #[.pointer (some ⟨ib,0,none⟩),.pointer (some ⟨bq,0,none⟩)] (turnF o y)):=Lib.hid (fun w0 k0=>⟨fun w' k x' hx'=>by
   have B1:=k.blk (k0.blk0 HBI.out) (fun e=>hib (.inr e))
   have B2:=k.blk (k0.blk0 HBQ.out) (fun e=>hibq (.inr e))
   exact turn_any o y HYL.out x' hx' w' ib bq (B1.cell' rfl) B1.lt (B2.cell' rfl) B2.lt,fun x' hx'=>turnF_lt o HYL.out,fun _ _=>rfl⟩)
  have y9:=HDC.out.cell' (i:=9) (v:=.int .u64 ad) rfl
  have y10:=HDC.out.cell' (i:=10) (v:=.int .i64 sz) rfl
  have gl:∀w',Chg (fun k=>k=db∨SM k∨SB k) wC w'→db<w'.heap.size:=fun w' k=>Nat.lt_of_lt_of_le HDC.out.lt k.size
  have HL:=Lib.hid (fun w' (k:Chg NoB wC w')=>munit_swap (HUC.out.chg0 k) ad sz 229 _ _ pick (HTu.out w' k) HADL.out p1 p2)
  have hvl:=HUC.out.swap_lt ad sz (turnF o y) pick HADL.out
  obtain ⟨⟨⟨v,cz⟩,u1⟩,hR⟩:∃R,swapF u ad sz (turnF o y) pick=R:=⟨_,rfl⟩
  rw [hR] at HL hvl
  have HVL:Hid (v<18446744073709551616):=Lib.hid hvl
  have HRd:=Lib.hid hR
  have cc:=Chg.refl (fun k=>k=db∨SM k∨SB k) wC
  clear hR i0 il hvl;refine wp_region_mix 19 [(true,0),(true,1),(true,2),(true,3),(true,4),(true,5),(true,6),(true,7),(true,8),(true,9),(true,10),(true,11),(false,12),(true,13),(true,14),(true,15),(true,16),(true,17),(false,18)] (fun w'=>Chg (fun k=>k=db∨SM k∨SB k) wC w'∧w'.cell? ⟨db,9,none⟩=some (.int .u64 ad)∧w'.cell? ⟨db,10,none⟩=some (.int .i64 sz)) (by kernel_rfl) (by kernel_rfl) (fun _ _ _ _ _ h=>h) (⟨cc.drew,y9,y10⟩) ?_
  simp only [pickMix_nil,pickMix_cons,Option.getD_some,List.getElem?_toArray,List.getElem?_cons_zero,List.getElem?_cons_succ,List.cons_append,List.nil_append,List.drop_succ_cons,List.drop_zero]
  iterate 12
   refine wpMix_take rfl ?_;apply Exists.intro;refine ⟨fun wS hS=>?_,?_⟩
   ·try dsimp only at hS
    obtain ⟨cS,s9,s10⟩:=hS
    go_simp;try rfl
   simp only [Act.put,List.setIfInBounds_toArray,List.set_cons_zero,List.set_cons_succ]
  refine wpMix_force rfl (fun K hK=>?_)
  go_simp;refine (HL.out _ (Chg.refl NoB wC).drew).mono ?_
  rintro e w4 ⟨rfl,hM,c4⟩;have D4:=c4.blk ((Chg.refl NoB wC).drew.blk0 HDC.out) (fun e=>e.elim HF.out.dm HF.out.dB)
  have C4:Chg (fun k=>k=db∨SM k∨SB k) wC w4:=(cc.drew).step (c4.mono fun _ _ e=>.inr e)
  have HD4:=Lib.hid D4
  have HC4:=Lib.hid C4
  have HM4:=Lib.hid (hM.reGrow (w:=w) (Nat.le_trans HCW.out.size cc.drew.size) HUL.out HSB.out)
  have z4:=D4.frozen
  have l4:=D4.lt
  have y11:=D4.cell' (i:=11) (v:=.int .u64 0) rfl
  refine hK _ _ ⟨C4,D4.cell' (i:=9) rfl,D4.cell' (i:=10) rfl⟩ ?_
  clear hK K hM c4 C4 D4;iterate 5
   refine wpMix_take rfl ?_;apply Exists.intro;refine ⟨fun wS hS=>?_,?_⟩
   ·try dsimp only at hS
    obtain ⟨cS,s9,s10⟩:=hS
    go_simp;try rfl
   simp only [Act.put,List.setIfInBounds_toArray,List.set_cons_zero,List.set_cons_succ]
  refine wpMix_force rfl (fun K hK=>?_)
  go_simp;have D5:=HD4.out.set 11 (.int .u64 v)
  refine hK _ _ ⟨HC4.out.setCell (a:=⟨db,11,none⟩) (.inl (.inl rfl)) _,D5.cell' (i:=9) rfl,D5.cell' (i:=10) rfl⟩ ?_
  clear hK K D5;refine wpMix_nil ?_
  clear y9 y10 gl cc HL;go_upto_region 8 with fail;have D5:Blk (w4.setCell ⟨db,11,none⟩ (.int .u64 v)) db (DidP.cells ⟨false,⟨o,rd,q,p,im⟩,pc,-1,2,ad,sz,v,0⟩) 69:=HD4.out.set 11 (.int .u64 v)
  have C5:=HC4.out.setCell (a:=⟨db,11,none⟩) (.inl (.inl rfl)) (.int .u64 v)
  have HM5:=Lib.hid (HM4.out.chg ((Chg.refl (fun k=>k=db) w4).setCell (a:=⟨db,11,none⟩) (.inl rfl) (.int .u64 v)) (fun e=>HF.out.du e.symm) (fun k hk=>hk.elim (fun hk=>fun e=>HF.out.dm (e▸hk)) fun hk=>fun e=>by have:=HIB.out;omega) (fun k hk e=>HF.out.dB (e▸hk)))
  clear y11 z4 l4 HM4 HD4 HC4;generalize w4.setCell ⟨db,11,none⟩ (.int .u64 v)=w5 at *;have hib2:¬(ib=db∨SM ib∨SB ib):=fun e=>e.elim hbd hib
  have HB5:=Lib.hid (C5.blk HBI.out hib2)
  have HC5:=Lib.hid (HCC.out.chg C5 (fun e=>e.elim HF.out.cd fun e=>e.elim HF.out.cm HF.out.cB))
  have HW5:Hid (Chg (fun k=>k=cb∨k=db∨SM k∨SB k) w w5):=Lib.hid ((HCW.out.mono (S':=fun k=>k=cb∨k=db∨SM k∨SB k) fun k _ e=>.inr (.inl e)).step (C5.mono fun k _ e=>.inr e))
  have HD5:=Lib.hid D5
  have hib3:=HB5.out
  have hq5:=C5.blk HBQ.out (fun e=>e.elim hqd hibq)
  have HTc:Hid (∀w',Chg NoB w5 w'→Calls Tryz.prog 229 #[.int .u64 v,.pointer (some ⟨ib,0,none⟩),.pointer (some ⟨bq,0,none⟩)] w' (RetW (.int .u64 (turnF o y v)) fun w''=>w''=w')):=Lib.hid (fun w' k=>by
   have B1:=k.blk0 hib3
   have B2:=k.blk0 hq5
   exact turn_any o y HYL.out v HVL.out w' ib bq (B1.cell' rfl) B1.lt (B2.cell' rfl) B2.lt)
  obtain ⟨tn,htn⟩:∃t,turnF o y v=t:=⟨_,rfl⟩
  have htl:tn<18446744073709551616:=by rw [←htn];exact turnF_lt o HYL.out
  have HCt:=Lib.hid (fun w=>cut_any tn sz w htl)
  obtain ⟨nv,hnv⟩:∃n,cutF tn sz=n:=⟨_,rfl⟩
  rw [htn] at HTc
  rw [hnv] at HCt
  have HOL:Hid (O=if cz≠-1 then (⟨false,⟨o,rd,q,p,im⟩,pc,cz,2,ad,sz,0,0⟩,c,u1) else (⟨true,⟨o,rd,q,p,im⟩,pc,-1,2,ad,sz,v,nv⟩,{ (c.set rd (toldF o v)) with pc:=(pc+4)%18446744073709551616},u1)):=Lib.hid (by
   obtain ⟨e1,e2,e3,e4,e5,e6⟩:=HE.out
   rw [HO.out]
   unfold overF
   simp only [hk,Int.toNat_natCast,e1,e2,e3,e4,e5,e6,HRd.out,if_true,reduceCtorEq,if_false,htn,hnv])
  have y11:∀w',Chg NoB w5 w'→w'.cell? ⟨db,11,none⟩=some (.int .u64 v):=fun w' k=>(k.blk0 HD5.out).cell' rfl
  have y10:∀w',Chg NoB w5 w'→w'.cell? ⟨db,10,none⟩=some (.int .i64 sz):=fun w' k=>(k.blk0 HD5.out).cell' rfl
  have yl:∀w',Chg NoB w5 w'→db<w'.heap.size:=fun w' k=>(k.blk0 HD5.out).lt
  have hen:∀args w,(callFunc 229 args).run Tryz.prog w = .ok (.enter 229 args) w:=fun _ _=>rfl
  have cc:=Chg.refl NoB w5
  clear D5 C5 hib hibq hib2 hib3 hq5 htn htl hnv HTu HDC HUC HCC HCW HBI HBQ hqd;refine wp_region_mix 14 [(true,0),(true,1),(true,2),(true,3),(true,4),(true,5),(true,7),(true,8),(true,9),(true,10),(false,6),(false,11),(true,12),(true,13)] (fun w'=>Chg NoB w5 w') (by kernel_rfl) (by kernel_rfl) (fun _ _ _ _ _ h=>h) (cc.drew) ?_
  simp only [pickMix_nil,pickMix_cons,Option.getD_some,List.getElem?_toArray,List.getElem?_cons_zero,List.getElem?_cons_succ,List.cons_append,List.nil_append,List.drop_succ_cons,List.drop_zero]
  iterate 10
   refine wpMix_take rfl ?_;apply Exists.intro;refine ⟨fun wS hS=>?_,?_⟩
   ·try dsimp only at hS
    have cS:=hS
    go_simp;try rfl
   simp only [Act.put,List.setIfInBounds_toArray,List.set_cons_zero,List.set_cons_succ]
  refine wpMix_force rfl (fun K hK=>?_)
  go_simp;refine (HTc.out _ cc.drew).mono ?_
  rintro e w3 ⟨rfl,hw3⟩;subst hw3;refine hK _ _ cc.drew ?_
  clear hK K;refine wpMix_force rfl (fun K hK=>?_)
  go_simp;refine (HCt.out _).mono ?_
  rintro e w3 ⟨rfl,hw3⟩;subst hw3;refine hK _ _ cc.drew ?_
  clear hK K;iterate 2
   refine wpMix_take rfl ?_;apply Exists.intro;refine ⟨fun wS hS=>?_,?_⟩
   ·try dsimp only at hS
    have cS:=hS
    go_simp;try rfl
   simp only [Act.put,List.setIfInBounds_toArray,List.set_cons_zero,List.set_cons_succ]
  refine wpMix_nil ?_
  have y12:=HD5.out.cell' (i:=12) (v:=.int .u64 0) rfl
  have z4:=HD5.out.frozen
  have l4:=HD5.out.lt
  clear y10 yl y11 cc HCt HTc hen;go_upto_region 16 with fail;have DE:Blk (w5.setCell ⟨db,12,none⟩ (.int .u64 nv)).drew db (DidP.cells ⟨false,⟨o,rd,q,p,im⟩,pc,-1,2,ad,sz,v,nv⟩) 69:=HD5.out.set 12 (.int .u64 nv)
  have CE:Chg (fun k=>k=db) w5 (w5.setCell ⟨db,12,none⟩ (.int .u64 nv)).drew:=((Chg.refl (fun k=>k=db) w5).setCell (a:=⟨db,12,none⟩) (.inl rfl) _).drew
  clear y12 z4 l4;generalize (w5.setCell ⟨db,12,none⟩ (.int .u64 nv)).drew=wE at *;have hng:∀k,Grow SM w k→k≠db:=fun k hk=>hk.elim (fun hk=>fun e=>HF.out.dm (e▸hk)) fun hk=>fun e=>by have:=HIB.out;omega
  have HNG:=Lib.hid hng
  have HME:=Lib.hid (HM5.out.chg CE (fun e=>HF.out.du e.symm) (fun k hk=>hng k hk) (fun k hk e=>HF.out.dB (e▸hk)))
  have HCE:=Lib.hid (HC5.out.chg CE HF.out.cd)
  have BE:=CE.blk HB5.out hbd
  have HWE:Hid (Chg (fun k=>k=cb∨k=db∨SM k∨SB k) w wE):=Lib.hid (HW5.out.step (CE.mono fun k _ e=>.inr (.inl e)))
  have HDE:=Lib.hid DE
  clear DE CE hng HD5 HC5 HM5 HB5 HW5;by_cases hcz:cz = -1
  ·subst hcz;have HX:Hid (O=(⟨true,⟨o,rd,q,p,im⟩,pc,-1,2,ad,sz,v,nv⟩,{ (c.set rd (toldF o v)) with pc:=(pc+4)%18446744073709551616},u1)):=Lib.hid (by rw [HOL.out,if_neg (by simp)])
   have i0:=BE.cell' (i:=0) (v:=.int .i64 o) rfl
   have il:=BE.lt
   have g0:∀w',Chg NoB wE w'→w'.cell? ⟨ib,0,none⟩=some (.int .i64 o):=fun w' k=>(k.blk0 BE).cell' rfl
   have g1:∀w',Chg NoB wE w'→w'.cell? ⟨ib,1,none⟩=some (.int .i64 rd):=fun w' k=>(k.blk0 BE).cell' rfl
   have gl:∀w',Chg NoB wE w'→ib<w'.heap.size:=fun w' k=>(k.blk0 BE).lt
   have e11:∀w',Chg NoB wE w'→w'.cell? ⟨db,11,none⟩=some (.int .u64 v):=fun w' k=>(k.blk0 HDE.out).cell' rfl
   have el:∀w',Chg NoB wE w'→db<w'.heap.size:=fun w' k=>(k.blk0 HDE.out).lt
   have HTo:=Lib.hid (fun w=>told_any o v HVL.out w)
   have htl:toldF o v<18446744073709551616:=toldF_lt o HVL.out
   obtain ⟨tv,htv⟩:∃t,toldF o v=t:=⟨_,rfl⟩
   rw [htv] at HX HTo htl
   have HSt:=Lib.hid (fun w' (k:Chg NoB wE w')=>coreSet_any (HCE.out.chg k id) rd tv htl)
   have cc:=Chg.refl NoB wE
   clear BE HOL htv htl;go_upto_region 21 with (refine (HK.out _).mono ?_;rintro e w3 ⟨rfl,hw3⟩;subst hw3;simp only [Kd.s])
   refine wp_region_mix 10 [(true,0),(true,1),(true,2),(true,3),(true,4),(true,5),(true,6),(true,7),(true,8),(false,9)] (fun w'=>Chg NoB wE w') (by kernel_rfl) (by kernel_rfl) (fun _ _ _ _ _ h=>h) (cc.drew) ?_
   simp only [pickMix_nil,pickMix_cons,Option.getD_some,List.getElem?_toArray,List.getElem?_cons_zero,List.getElem?_cons_succ,List.cons_append,List.nil_append,List.drop_succ_cons,List.drop_zero]
   iterate 9
    refine wpMix_take rfl ?_;apply Exists.intro;refine ⟨fun wS hS=>?_,?_⟩
    ·try dsimp only at hS
     have cS:=hS
     go_simp;try rfl
    simp only [Act.put,List.setIfInBounds_toArray,List.set_cons_zero,List.set_cons_succ]
   refine wpMix_force rfl (fun K hK=>?_)
   go_simp;refine (HTo.out _).mono ?_
   rintro e w3 ⟨rfl,hw3⟩;subst hw3;refine hK _ _ cc.drew ?_
   clear hK K;refine wpMix_nil ?_
   go_wp2_with fail;refine (HSt.out _ cc.drew).mono ?_
   rintro e w6 ⟨rfl,h6,c6⟩;have HC6:=Lib.hid h6
   have C6:Chg (fun k=>k=cb) wE w6:=(cc.drew.mono fun _ _ e=>e.elim).step c6
   have D6:=C6.blk HDE.out (fun e=>HF.out.cd e.symm)
   have HD6:=Lib.hid D6
   have HHC6:=Lib.hid C6
   have e8:=D6.cell' (i:=8) (v:=.int .i64 2) rfl
   have e6l:=D6.lt
   clear g0 g1 gl e11 el HTo HSt cc C6 c6 h6 D6 i0 il;go_wp2_with fail;go_ret;refine ⟨by rw [HX.out];rfl,by rw [HX.out];exact HD6.out,?_,?_,HWE.out.step (HHC6.out.mono fun k _ e=>.inl e)⟩
   ·rw [HX.out,←HE.out.2.2.1]
    show CoreAt _ cb { (c.set rd tv) with pc:=c.pc}
    rw [Cor.set_pc]
    exact HC6.out
   ·rw [HX.out]
    have hng:∀k,Grow SM w k→k≠cb∧k≠db:=fun k hk=>hk.elim (fun hk=>⟨fun e=>HF.out.cm (e▸hk),fun e=>HF.out.dm (e▸hk)⟩) fun hk=>⟨fun e=>by have:=HIB.out;have:=HCL.out;omega,fun e=>by have:=HIB.out;omega⟩
    exact (HME.out.chg HHC6.out (fun e=>HF.out.cu e.symm) (fun k hk=>(hng k hk).1) (fun k hk e=>HF.out.cB (e▸hk)))
  ·have t1:(cz != -1)=true:=by simpa using hcz
   have y11:=HDE.out.cell' (i:=11) (v:=.int .u64 v) rfl
   have y12:=HDE.out.cell' (i:=12) (v:=.int .u64 nv) rfl
   have ez:=HDE.out.frozen
   have el:=HDE.out.lt
   have HX:Hid (O=(⟨false,⟨o,rd,q,p,im⟩,pc,cz,2,ad,sz,0,0⟩,c,u1)):=Lib.hid (by rw [HOL.out,if_pos hcz])
   clear hcz HOL BE;go_wp2_with fail;go_ret;have DF:DidAt ((wE.setCell ⟨db,11,none⟩ (.int .u64 0)).setCell ⟨db,12,none⟩ (.int .u64 0)) db ⟨false,⟨o,rd,q,p,im⟩,pc,-1,2,ad,sz,0,0⟩:=(HDE.out.set 11 (.int .u64 0)).set 12 (.int .u64 0)
   have CF:Chg (fun k=>k=db) wE ((wE.setCell ⟨db,11,none⟩ (.int .u64 0)).setCell ⟨db,12,none⟩ (.int .u64 0)):=((Chg.refl (fun k=>k=db) wE).setCell (a:=⟨db,11,none⟩) (.inl rfl) _).setCell (a:=⟨db,12,none⟩) (.inl rfl) _
   have CF2:=HCE.out.chg CF HF.out.cd
   refine ⟨by rw [HX.out];rfl,by rw [HX.out];exact DF,?_,?_,HWE.out.step (CF.mono fun k _ e=>.inr (.inl e))⟩
   ·rw [HX.out,←HE.out.2.2.1];exact CF2
   ·rw [HX.out];exact HME.out.chg CF (fun e=>HF.out.du e.symm) (fun k hk=>HNG.out k hk) (fun k hk e=>HF.out.dB (e▸hk))
end Go.Proofs.YtjhnnjgnkkjmkaaGreatDoor
