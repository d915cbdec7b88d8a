/- Homes and nodes that run: what lies where. No condition. Pages of homes that run. No condition. Homes that run: a page of a number, its state. No condition. Homes that run: a turn that says nothing; a fault of an owner; an instruction done. No condition. Nodes that run, their links at rest: small calls. No condition. -/
import Derived.Test.YtjhnnjgnkkjmkaaGreatDoorHe
import Derived.Test.YtjhnnjgnkkjmkaaGreatDoorHf
import Derived.Test.YtjhnnjgnkkjmkaaGreatDoorHj
import Derived.Test.YtjhnnjgnkkjmkaaGreatDoorGd
import Derived.Test.YtjhnnjgnkkjmkaaGreatDoorGy
set_option maxHeartbeats 2000000
set_option maxRecDepth 100000
set_option linter.unusedVariables false
set_option linter.unusedSimpArgs false
namespace Go.Proofs.YtjhnnjgnkkjmkaaGreatDoor
open Go.RowKit Go.RR
def pgCe (me number:Int) (s:PgS) (rb:Nat):Array Value:=#[.int .i64 me,.int .i64 number,.int .i64 s.right,.bool s.owner,.int .i64 s.prob,.int .u16 s.set,.int .i64 s.want,.int .u16 s.wait,.bool s.held,.int .i64 s.forget,.int .i64 0,.pointer (some ⟨rb,0,none⟩),.slice none 0 0,.bool false]
structure PgW (w:World) (S:Nat→Prop) (pb:Nat) (me number:Int) (st:PgS):Prop where
 s:S pb
 ex:∃rb,S rb∧Blk w pb (pgCe me number st rb) 368∧Blk w rb ringC 399
theorem PgW.chg {w w':World} {S S':Nat→Prop} {pb:Nat} {me number:Int} {s:PgS} (h:PgW w S pb me number s) (c:Chg S' w w') (hs:∀k,S k→¬S' k):PgW w' S pb me number s:=by
 obtain ⟨rb,h1,h2,h3⟩:=h.ex
 exact ⟨h.s,rb,h1,c.blk h2 (hs _ h.s),c.blk h3 (hs _ h1)⟩
theorem PgW.mono {w:World} {S S':Nat→Prop} {pb:Nat} {me number:Int} {s:PgS} (h:PgW w S pb me number s) (hs:∀k,k<w.heap.size→S k→S' k):PgW w S' pb me number s:=by
 obtain ⟨rb,h1,h2,h3⟩:=h.ex
 exact ⟨hs _ h2.lt h.s,rb,hs _ h3.lt h1,h2,h3⟩
theorem PgW.chgT {w w':World} {S S':Nat→Prop} {pb:Nat} {me number:Int} {s:PgS} (h:PgW w S pb me number s) (c:Chg S' w w') (hs:∀k,S' k→∃cs T,Blk w k cs T∧T≠368∧T≠399):PgW w' S pb me number s:=by
 obtain ⟨rb,h1,h2,h3⟩:=h.ex
 refine ⟨h.s,rb,h1,c.blk h2 fun e=>?_,c.blk h3 fun e=>?_⟩
 ·obtain ⟨cs,T,hb,n1,n2⟩:=hs _ e
  exact n1 (hb.inj h2).2
 ·obtain ⟨cs,T,hb,n1,n2⟩:=hs _ e
  exact n2 (hb.inj h3).2
structure HmW (w:World) (S:Nat→Prop) (hb spb:Nat) (me n sh:Int) (ps:List (Int×Nat×PgS)):Prop where
 s:S hb
 ex:∃mb,S mb∧Blk w hb #[.int .i64 me,.int .i64 n,.pointer (some ⟨spb,0,none⟩),.int .i64 1,.int .i64 1,.int .i64 sh,.map (some mb)] 186∧MapAt w mb .i64 (ps.map fun p=>(p.1,.pointer (some ⟨p.2.1,0,none⟩)))∧Stm w mb
 page:∀p∈ps,PgW w S p.2.1 me p.1 p.2.2
 nd:(ps.map (·.2.1)).Nodup
 kn:∀p∈ps,0≤p.1∧p.1<sh
theorem HmW.chg {w w':World} {S S':Nat→Prop} {hb spb:Nat} {me n sh:Int} {ps:List (Int×Nat×PgS)} (h:HmW w S hb spb me n sh ps) (c:Chg S' w w') (hs:∀k,S k→¬S' k):HmW w' S hb spb me n sh ps:=by
 obtain ⟨mb,h1,h2,h3,h4⟩:=h.ex
 exact ⟨h.s,⟨mb,h1,c.blk h2 (hs _ h.s),h3.chg c (hs _ h1),h4.chg c (hs _ h1)⟩,fun p hp=>(h.page p hp).chg c hs,h.nd,h.kn⟩
theorem HmW.mono {w:World} {S S':Nat→Prop} {hb spb:Nat} {me n sh:Int} {ps:List (Int×Nat×PgS)} (h:HmW w S hb spb me n sh ps) (hs:∀k,k<w.heap.size→S k→S' k):HmW w S' hb spb me n sh ps:=by
 obtain ⟨mb,h1,h2,h3,h4⟩:=h.ex
 exact ⟨hs _ h2.lt h.s,⟨mb,hs _ h3.lt h1,h2,h3,h4⟩,fun p hp=>(h.page p hp).mono hs,h.nd,h.kn⟩
theorem HmW.chg0 {w w':World} {S:Nat→Prop} {hb spb:Nat} {me n sh:Int} {ps:List (Int×Nat×PgS)} (h:HmW w S hb spb me n sh ps) (c:Chg NoB w w'):HmW w' S hb spb me n sh ps:=h.chg c fun _ _=>id
def hLook (ps:List (Int×Nat×PgS)) (n:Int):Option (Nat×PgS):=(ps.find? fun p=>p.1 == n).map (·.2)
theorem hLook_mem {ps:List (Int×Nat×PgS)} {n:Int} {x:Nat×PgS} (h:hLook ps n=some x):(n,x)∈ps:=by
 unfold hLook at h
 rw [Option.map_eq_some_iff] at h
 obtain ⟨p,hp,rfl⟩:=h
 have h1:p.1=n:=by simpa using List.find?_some hp
 have h2:=List.mem_of_find?_eq_some hp
 rw [←h1]
 exact h2
def hPut (ps:List (Int×Nat×PgS)) (pb:Nat) (s:PgS):List (Int×Nat×PgS):=ps.map fun p=>if p.2.1=pb then (p.1,p.2.1,s) else p
theorem hPut_keys (ps:List (Int×Nat×PgS)) (pb:Nat) (s:PgS):(hPut ps pb s).map (fun p=>(p.1,p.2.1))=ps.map (fun p=>(p.1,p.2.1)):=by
 unfold hPut
 rw [List.map_map]
 apply List.map_congr_left
 intro p _;dsimp only [Function.comp]
 split <;> rfl
theorem nodup_inj {α β:Type} {f:α→β} : ∀{l:List α},(l.map f).Nodup→∀{x y:α},x∈l→y∈l→f x=f y→x=y
 | [],_,x,_,hx,_,_=>by cases hx
 | a :: l,h,x,y,hx,hy,e=>by
  rw [List.map_cons,List.nodup_cons] at h
  rcases List.mem_cons.1 hx with ex | hx2 <;> rcases List.mem_cons.1 hy with ey | hy2
  ·rw [ex,ey]
  ·exact (h.1 (List.mem_map.2 ⟨y,hy2,by rw [←e,ex]⟩)).elim
  ·exact (h.1 (List.mem_map.2 ⟨x,hx2,by rw [e,ey]⟩)).elim
  ·exact nodup_inj h.2 hx2 hy2 e
theorem HmW.put {w w':World} {S:Nat→Prop} {hb spb:Nat} {me n sh:Int} {ps:List (Int×Nat×PgS)} (h:HmW w S hb spb me n sh ps) {num:Int} {pb:Nat} {s s':PgS} (hp:(num,pb,s)∈ps) (hP:PgW w' S pb me num s') (c:Chg (fun k=>k=pb) w w') (hne:hb≠pb) (hmb:∀mb,MapAt w mb .i64 (ps.map fun p=>(p.1,.pointer (some ⟨p.2.1,0,none⟩)))→mb≠pb) (hrb:∀rb,Blk w rb ringC 399→rb≠pb) :
  HmW w' S hb spb me n sh (hPut ps pb s'):=by
 obtain ⟨mb,h1,h2,h3,h4⟩:=h.ex
 have hk:=hPut_keys ps pb s'
 have hk1:(hPut ps pb s').map (fun p=>(p.1,Value.pointer (some ⟨p.2.1,0,none⟩)))=ps.map (fun p=>(p.1,Value.pointer (some ⟨p.2.1,0,none⟩))):=by
  have:=congrArg (List.map fun q:Int×Nat=>(q.1,Value.pointer (some ⟨q.2,0,none⟩))) hk
  rw [List.map_map,List.map_map] at this
  exact this
 have hk2:(hPut ps pb s').map (·.2.1)=ps.map (·.2.1):=by
  have:=congrArg (List.map fun q:Int×Nat=>q.2) hk
  rw [List.map_map,List.map_map] at this
  exact this
 refine ⟨h.s,⟨mb,h1,c.blk h2 hne,?_,h4.chg c (hmb mb h3)⟩,fun p hp'=>?_,by rw [hk2];exact h.nd,fun p hp'=>?_⟩
 ·rw [hk1]
  exact h3.chg c (hmb mb h3)
 ·unfold hPut at hp'
  obtain ⟨q,hq,rfl⟩:=List.mem_map.1 hp'
  by_cases e:q.2.1=pb
  ·rw [if_pos e]
   have:q=(num,pb,s):=nodup_inj h.nd hq hp e
   subst this;exact hP
  ·rw [if_neg e]
   obtain ⟨rb,r1,r2,r3⟩:=(h.page q hq).ex
   exact ⟨(h.page q hq).s,rb,r1,c.blk r2 e,c.blk r3 (hrb rb r3)⟩
 ·unfold hPut at hp'
  obtain ⟨q,hq,rfl⟩:=List.mem_map.1 hp'
  have:=h.kn q hq
  split <;> exact this
structure RNAt (w:World) (F:Nat→Prop) (nb:Nat) (me n:Nat) (page:Int) (s:Spc) (c:Cor) (ps:List (Int×Nat×PgS)):Prop where
 bd:∀k,F k→k<w.heap.size
 ex:∃(L:Pl) (hb cb:Nat) (v:Value) (cs:List Value) (SK SH:Nat→Prop),SK nb∧Blk w nb #[.int .i64 me,.pointer (some ⟨L.pb,0,none⟩),.pointer (some ⟨hb,0,none⟩),.pointer (some ⟨cb,0,none⟩),v,.int .i64 page] 115∧Sl w SK 1 v n cs∧LksAt w SK me n cs∧Mc w L s cb c∧HmW w SH hb L.pb me n s.shape.shared ps∧
  (∀k,SK k∨SH k∨Blks L cb k→F k)∧(∀k,SK k→¬SH k∧¬Blks L cb k)∧(∀k,SH k→¬Blks L cb k)
def stCe (s:PgS):Array Value:=#[.int .i64 s.right,.bool s.owner,.int .i64 s.prob,.int .u16 s.set,.int .i64 s.want,.int .u16 s.wait,.bool s.held,.int .i64 s.forget,.int .i64 0]
def turnV (r:Int):Value:=.agg #[.bool false,.int .i64 r,.slice none 0 0]
theorem pBusy_w {w:World} {S:Nat→Prop} {pb:Nat} {me number:Int} {s:PgS} (h:PgW w S pb me number s):Calls Tryz.prog 207 #[.pointer (some ⟨pb,0,none⟩)] w (RetW (.bool s.busy) fun w'=>w'=w):=by
 obtain ⟨right,owner,prob,set,want,wait,held,forget⟩:=s
 obtain ⟨rb,-,hB,-⟩:=h.ex
 have f6:=hB.cell' (i:=6) (v:=.int .i64 want) rfl
 have f8:=hB.cell' (i:=8) (v:=.bool held) rfl
 have fl:=hB.lt
 obtain ⟨b,hb⟩:∃b,(want == 0)=b:=⟨_,rfl⟩
 have HE:Hid (PgS.busy ⟨right,owner,prob,set,want,wait,held,forget⟩=(!b || held)):=Lib.hid (by
  rw [←hb]
  show (decide (want≠0) || held)=_
  by_cases e:want=0
  ·subst e;rfl
  ·rw [decide_eq_true (show want≠0 from e),show (want == 0)=false by simpa using e];rfl)
 rw [HE.out]
 have hb2:decide (want=0)=b:=hb
 have hb3:(want != 0) = !b:=by rw [←hb];rfl
 clear hB h HE;cases b
 ·have hb3:(want != 0)=true:=hb3
  go_enter Tryz.func207,Tryz.ntmps207;go_wp2_with fail;go_ret;exact ⟨rfl,rfl⟩
 ·have hb3:(want != 0)=false:=hb3
  go_enter Tryz.func207,Tryz.ntmps207;go_wp2_with fail;go_ret;exact ⟨by rw [Bool.not_true,Bool.false_or];rfl,rfl⟩
theorem pHold_w {w:World} {S:Nat→Prop} {pb:Nat} {me number:Int} {s:PgS} (h:PgW w S pb me number s) (r:Int):Calls Tryz.prog 210 #[.pointer (some ⟨pb,0,none⟩),.int .i64 r] w (RetW (.tuple #[]) fun w'=>PgW w' S pb me number (holdF s r)∧Chg (fun k=>k=pb) w w'):=by
 obtain ⟨right,owner,prob,set,want,wait,held,forget⟩:=s
 obtain ⟨rb,hrb,hB,hR⟩:=h.ex
 have hne:rb≠pb:=fun e=>by have hR':=hR;rw [e] at hR';exact absurd (hR'.inj hB).2 (by decide)
 have hB:Blk w pb #[.int .i64 me,.int .i64 number,.int .i64 right,.bool owner,.int .i64 prob,.int .u16 set,.int .i64 want,.int .u16 wait,.bool held,.int .i64 forget,.int .i64 0,.pointer (some ⟨rb,0,none⟩),.slice none 0 0,.bool false] 368:=hB
 have f:=hB.cell
 have fz:=hB.frozen
 have fl:=hB.lt
 have c1:=(((Chg.refl (fun k=>k=pb) w).setCell (a:=⟨pb,2,none⟩) (.inl rfl) (.int .i64 r)).setCell (a:=⟨pb,6,none⟩) (.inl rfl) (.int .i64 0)).setCell (a:=⟨pb,8,none⟩) (.inl rfl) (.bool true)
 have HX:=Lib.hid (And.intro (((hB.set 2 (.int .i64 r)).set 6 (.int .i64 0)).set 8 (.bool true)) (And.intro (c1.blk hR hne) c1))
 have HS:=Lib.hid (And.intro h.s hrb)
 clear hB hR h c1 hne hrb;go_enter Tryz.func210,Tryz.ntmps210;go_wp2_with fail;refine bodyPost_end (results_none rfl _ _ _) rfl ?_
 exact ⟨rfl,⟨HS.out.1,rb,HS.out.2,HX.out.1,HX.out.2.1⟩,HX.out.2.2⟩
theorem pGather_w {w:World} {S:Nat→Prop} {pb:Nat} {me number:Int} {s:PgS} (h:PgW w S pb me number s) (hs:s.set=0):Calls Tryz.prog 209 #[.pointer (some ⟨pb,0,none⟩)] w (RetW (.tuple #[]) fun w'=>PgW w' S pb me number (holdF s 2)∧Chg (fun k=>k=pb) w w'):=by
 have HH:=Lib.hid (pHold_w h 2)
 obtain ⟨right,owner,prob,set,want,wait,held,forget⟩:=s
 have hs:set=0:=hs
 subst hs;obtain ⟨rb,hrb,hB,hR⟩:=h.ex
 have f5:=hB.cell' (i:=5) (v:=.int .u16 (0:Nat)) rfl
 have fl:=hB.lt
 clear hB hR h hrb;go_enter Tryz.func209,Tryz.ntmps209;go_wp2_with fail;refine HH.out.mono ?_
 rintro e w1 ⟨rfl,hX⟩;have HX:=Lib.hid hX
 clear hX;go_wp2_with fail;refine bodyPost_end (results_none rfl _ _ _) rfl ?_
 exact ⟨rfl,HX.out⟩
theorem pTurn_w {w:World} {S:Nat→Prop} {pb:Nat} {me number:Int} {s:PgS} (h:PgW w S pb me number s):Calls Tryz.prog 208 #[.pointer (some ⟨pb,0,none⟩)] w (RetW (turnV s.right) fun w'=>PgW w' S pb me number s∧Chg (fun k=>k=pb) w w'):=by
 obtain ⟨right,owner,prob,set,want,wait,held,forget⟩:=s
 obtain ⟨rb,hrb,hB,hR⟩:=h.ex
 have hne:rb≠pb:=fun e=>by have hR':=hR;rw [e] at hR';exact absurd (hR'.inj hB).2 (by decide)
 have hB:Blk w pb #[.int .i64 me,.int .i64 number,.int .i64 right,.bool owner,.int .i64 prob,.int .u16 set,.int .i64 want,.int .u16 wait,.bool held,.int .i64 forget,.int .i64 0,.pointer (some ⟨rb,0,none⟩),.slice none 0 0,.bool false] 368:=hB
 have HS:=Lib.hid (And.intro h.s (And.intro hrb hne))
 have c0:=(Chg.refl NoB w).alloc (.cells #[.bool false,.int .i64 0,.slice none 0 0] 347)
 have HB:=Lib.hid (c0.blk0 hB)
 have HR:=Lib.hid (c0.blk0 hR)
 have HC:=Lib.hid c0
 have HB0:=Lib.hid (Blk.new w #[.bool false,.int .i64 0,.slice none 0 0] 347)
 have HLT:=Lib.hid hB.lt
 clear hB hR h c0 hrb hne;go_enter Tryz.func208,Tryz.ntmps208;go_upto_region 1 with fail;generalize w.alloc (.cells #[.bool false,.int .i64 0,.slice none 0 0] 347)=w0 at *;generalize hb0:w.heap.size=b0 at *;have HZ:=Lib.hid hb0
 clear hb0;have g:=HB.out.ever
 have gl:=HB.out.everL
 have cc:=Chg.refl NoB w0
 go_cut [3] (fun s3 wx=>∃tb,s3 = .pointer (some ⟨tb,0,none⟩)∧Blk wx tb #[.bool false,.int .i64 right,.slice none 0 0] 347∧w0.heap.size≤tb∧Chg NoB w0 wx)
 case first=>
  go_region_held3 (fun w'=>Chg NoB w0 w') ((repeat (first | with_reducible assumption | with_reducible apply Chg.drew | with_reducible apply Chg.drewN | with_reducible apply Chg.alloc))) (fail)
  all_goals go_wp2_with fail
  all_goals go_meet
  all_goals exact ⟨_,rfl,(Blk.new w0 _ _).drew,Nat.le_refl _,(cc.alloc _).drew⟩
 case rest=>
  obtain ⟨tb,rfl,hTB,hlo,hC⟩:=hcut
  rename World=>w1;have hBw:Blk w1 pb #[.int .i64 me,.int .i64 number,.int .i64 right,.bool owner,.int .i64 prob,.int .u16 set,.int .i64 want,.int .u16 wait,.bool held,.int .i64 forget,.int .i64 0,.pointer (some ⟨rb,0,none⟩),.slice none 0 0,.bool false] 368:=hC.blk0 HB.out
  have hRw:=hC.blk0 HR.out
  have f:=hBw.cell
  have fz:=hBw.frozen
  have fl:=hBw.lt
  have c1:=((Chg.refl (fun k=>k=pb) w1).setCell (a:=⟨pb,13,none⟩) (.inl rfl) (.bool false)).setCell (a:=⟨pb,12,none⟩) (.inl rfl) (.slice none 0 0)
  have hB2:=(hBw.set 13 (.bool false)).set 12 (.slice none 0 0)
  have hR2:=c1.blk hRw HS.out.2.2
  have hT2:=c1.blk hTB (by have h1:=HLT.out;have h2:=HC.out.size;have h3:=HZ.out;omega)
  have hZ2:=c1.blk (hC.blk0 HB0.out) (by have h1:=HLT.out;have h3:=HZ.out;omega)
  have hP2:PgW _ S pb me number ⟨right,owner,prob,set,want,wait,held,forget⟩:=⟨HS.out.1,rb,HS.out.2.1,hB2,hR2⟩
  have t:=hTB.cell
  have tl:=hTB.lt
  have z:=(hC.blk0 HB0.out).cell
  have zz:=(hC.blk0 HB0.out).frozen
  have zl:=(hC.blk0 HB0.out).lt
  have hne1:¬b0=pb:=by have:=HLT.out;omega
  have hne2:¬tb=pb:=by have h1:=HLT.out;have h2:=HC.out.size;have h3:=HZ.out;omega
  have HSA:=store_all hZ2 [.bool false,.int .i64 right,.slice none 0 0] rfl
  have HF:Hid (PgW (((w1.setCell ⟨pb,13,none⟩ (.bool false)).setCell ⟨pb,12,none⟩ (.slice none 0 0)).setCells b0 0 [.bool false,.int .i64 right,.slice none 0 0]) S pb me number ⟨right,owner,prob,set,want,wait,held,forget⟩∧Chg (fun k=>k=pb) w (((w1.setCell ⟨pb,13,none⟩ (.bool false)).setCell ⟨pb,12,none⟩ (.slice none 0 0)).setCells b0 0 [.bool false,.int .i64 right,.slice none 0 0])):=Lib.hid ⟨hP2.chgT HSA.2 (fun k e=>by have e:k=b0:=e;rw [e];exact ⟨_,_,hZ2,by decide,by decide⟩),(((HC.out.step hC).mono (S':=fun k=>k=pb) fun _ _ e=>e.elim).trans c1 fun k _ e=>e).trans HSA.2 fun k hk e=>by have e:k=b0:=e;have:=HZ.out;omega⟩
  obtain ⟨w5,hw5⟩:∃x,((w1.setCell ⟨pb,13,none⟩ (.bool false)).setCell ⟨pb,12,none⟩ (.slice none 0 0)).setCells b0 0 [.bool false,.int .i64 right,.slice none 0 0]=x:=⟨_,rfl⟩
  rw [hw5] at HF HSA
  replace hw5:((((w1.setCell ⟨pb,13,none⟩ (.bool false)).setCell ⟨pb,12,none⟩ (.slice none 0 0)).setCell ⟨b0,0,none⟩ (.bool false)).setCell ⟨b0,1,none⟩ (.int .i64 right)).setCell ⟨b0,2,none⟩ (.slice none 0 0)=w5:=hw5
  have q:=HSA.1.cell
  have ql:=HSA.1.lt
  clear hBw hRw c1 hB2 hR2 hT2 hZ2 hP2 hTB HSA hlo hC cc g gl;go_wp2_with fail;exact bodyPost_ret (v:=turnV right) (by unfold turnV;simp [results,Tryz.results208,go_sem,q]) rfl ⟨rfl,HF.out⟩
theorem pWant_hold {w:World} {S:Nat→Prop} {pb:Nat} {me number:Int} {s:PgS} (h:PgW w S pb me number s) (hbs:s.busy=false) (r:Int) (hr:r=1∨r=2) (hlt:s.right<r) (ho:s.owner=true) (hs:s.set=0) :
  Calls Tryz.prog 176 #[.pointer (some ⟨pb,0,none⟩),.int .i64 r] w (RetW (turnV 2) fun w'=>PgW w' S pb me number (holdF s 2)∧Chg (fun k=>k=pb) w w'):=by
 have c0:=(Chg.refl NoB w).alloc (.cells #[.bool false,.int .i64 0,.slice none 0 0] 347)
 have HB0:=Lib.hid (Blk.new w #[.bool false,.int .i64 0,.slice none 0 0] 347)
 have h0:=h.chg c0 fun _ _=>id
 have HBS:=Lib.hid (pBusy_w h0)
 rw [hbs] at HBS
 have HG:=Lib.hid (pGather_w h0 hs)
 have HT:=Lib.hid fun w' (k:PgW w' S pb me number (holdF s 2))=>pTurn_w k
 obtain ⟨rb,hrb,hB,hR⟩:=h0.ex
 obtain ⟨right,owner,prob,set,want,wait,held,forget⟩:=s
 have ho:owner=true:=ho
 have hs:set=0:=hs
 have hlt:right<r:=hlt
 subst ho hs;have f2:=hB.cell' (i:=2) (v:=.int .i64 right) rfl
 have f3:=hB.cell' (i:=3) (v:=.bool true) rfl
 have f5:=hB.cell' (i:=5) (v:=.int .u16 (0:Nat)) rfl
 have fl:=hB.lt
 have t1:decide (r≤right)=false:=decide_eq_false (by omega)
 have HLT:=Lib.hid (And.intro (show pb<w.heap.size by obtain ⟨_,_,hb,_⟩:=h.ex;exact hb.lt) True.intro)
 have HC:=Lib.hid c0
 clear h h0 c0 hB hR hlt hbs;rcases hr with rfl | rfl <;>
 ·go_enter Tryz.func176,Tryz.ntmps176;go_wp2_with fail;refine HBS.out.mono ?_
  rintro e w1 ⟨rfl,hw⟩;subst hw;go_wp2_with fail;refine HG.out.mono ?_
  rintro e w2 ⟨rfl,hP2,hC2⟩;have HT2:=Lib.hid (HT.out w2 hP2)
  have HB2:=Lib.hid (hC2.blk HB0.out (by have:=HLT.out.1;omega))
  have HC2:=Lib.hid ((HC.out.mono (S':=fun k=>k=pb) fun _ _ e=>e.elim).trans hC2 fun k _ e=>e)
  clear hP2 hC2 f2 f3 f5 fl;go_wp2_with fail;refine HT2.out.mono ?_
  rintro e w3 ⟨he,hP3,hC3⟩;have he:e = .returned (.agg #[.bool false,.int .i64 2,.slice none 0 0]):=he
  subst he;have hB3:=hC3.blk HB2.out (by have:=HLT.out.1;omega)
  have k:=hB3.cell
  have kz:=hB3.frozen
  have kl:=hB3.lt
  have HS:=store_all hB3 [.bool false,.int .i64 2,.slice none 0 0] rfl
  have HF:Hid (PgW (w3.setCells w.heap.size 0 [.bool false,.int .i64 2,.slice none 0 0]) S pb me number (holdF ⟨right,true,prob,0,want,wait,held,forget⟩ 2)∧Chg (fun k=>k=pb) w (w3.setCells w.heap.size 0 [.bool false,.int .i64 2,.slice none 0 0])):=Lib.hid ⟨hP3.chgT HS.2 (fun k e=>by have e:k=w.heap.size:=e;rw [e];exact ⟨_,_,hB3,by decide,by decide⟩),(HC2.out.trans hC3 fun k _ e=>e).trans HS.2 fun k hk e=>by have e:k=w.heap.size:=e;omega⟩
  obtain ⟨w5,hw5⟩:∃x,w3.setCells w.heap.size 0 [.bool false,.int .i64 2,.slice none 0 0]=x:=⟨_,rfl⟩
  rw [hw5] at HF HS
  replace hw5:((w3.setCell ⟨w.heap.size,0,none⟩ (.bool false)).setCell ⟨w.heap.size,1,none⟩ (.int .i64 2)).setCell ⟨w.heap.size,2,none⟩ (.slice none 0 0)=w5:=hw5
  have q:=HS.1.cell
  have ql:=HS.1.lt
  clear hP3 hC3 hB3 HS;go_wp2_with fail;exact bodyPost_ret (v:=turnV 2) (by unfold turnV;simp [results,Tryz.results176,go_sem,q]) rfl ⟨rfl,HF.out⟩
theorem pDone_free {w:World} {S:Nat→Prop} {pb:Nat} {me number:Int} {s:PgS} (h:PgW w S pb me number s) (hf:s.forget<0) :
  Calls Tryz.prog 202 #[.pointer (some ⟨pb,0,none⟩)] w (RetW (turnV s.right) fun w'=>PgW w' S pb me number { s with held:=false}∧Chg (fun k=>k=pb) w w'):=by
 have c0:=(Chg.refl NoB w).alloc (.cells #[.bool false,.int .i64 0,.slice none 0 0] 347)
 have HB0:=Lib.hid (Blk.new w #[.bool false,.int .i64 0,.slice none 0 0] 347)
 have h0:=h.chg c0 fun _ _=>id
 have H0:=Lib.hid h0
 have HTn:=Lib.hid fun w' (st:PgS) (k:PgW w' S pb me number st)=>pTurn_w k
 obtain ⟨rb,hrb,hB,hR⟩:=h0.ex
 have hne:rb≠pb:=fun e=>by have hR':=hR;rw [e] at hR';exact absurd (hR'.inj hB).2 (by decide)
 have HS0:=Lib.hid (And.intro h.s hrb)
 have HRL:=Lib.hid fun w' (k:Blk w' rb ringC 399)=>ringLen_any k
 obtain ⟨right,owner,prob,set,want,wait,held,forget⟩:=s
 have hf:forget<0:=hf
 have f8:=hB.cell' (i:=8) (v:=.bool held) rfl
 have fl:=hB.lt
 have t1:decide (0≤forget)=false:=decide_eq_false (by omega)
 have HLT:=Lib.hid (And.intro (show pb<w.heap.size by obtain ⟨_,_,hb,_⟩:=h.ex;exact hb.lt) True.intro)
 have HC:=Lib.hid c0
 have HB:=Lib.hid hB
 have HR:=Lib.hid (And.intro hR hne)
 have HFn:=Lib.hid hf
 show Calls _ _ _ _ (RetW (turnV right) fun w'=>PgW w' S pb me number ⟨right,owner,prob,set,want,wait,false,forget⟩∧Chg (fun k=>k=pb) w w')
 clear h h0 c0 hB hR hf hne hrb;cases held with
 | false=>
  have HT:=Lib.hid (HTn.out _ _ H0.out)
  have HB2:=HB0
  have HC2:Hid (Chg (fun k=>k=pb) w _):=Lib.hid (HC.out.mono (S':=fun k=>k=pb) fun _ _ e=>e.elim)
  go_enter Tryz.func202,Tryz.ntmps202;go_wp2_with fail;refine HT.out.mono ?_
  rintro e w3 ⟨he,hP3,hC3⟩;have he:e = .returned (.agg #[.bool false,.int .i64 right,.slice none 0 0]):=he
  subst he;clear f8 fl;have hB3:=hC3.blk HB2.out (by have:=HLT.out.1;omega)
  have k:=hB3.cell
  have kz:=hB3.frozen
  have kl:=hB3.lt
  have HS:=store_all hB3 [.bool false,.int .i64 right,.slice none 0 0] rfl
  have HF:Hid (PgW (w3.setCells w.heap.size 0 [.bool false,.int .i64 right,.slice none 0 0]) S pb me number ⟨right,owner,prob,set,want,wait,false,forget⟩∧Chg (fun k=>k=pb) w (w3.setCells w.heap.size 0 [.bool false,.int .i64 right,.slice none 0 0])):=Lib.hid ⟨hP3.chgT HS.2 (fun k e=>by have e:k=w.heap.size:=e;rw [e];exact ⟨_,_,hB3,by decide,by decide⟩),(HC2.out.trans hC3 fun k _ e=>e).trans HS.2 fun k hk e=>by have e:k=w.heap.size:=e;omega⟩
  obtain ⟨w5,hw5⟩:∃x,w3.setCells w.heap.size 0 [.bool false,.int .i64 right,.slice none 0 0]=x:=⟨_,rfl⟩
  rw [hw5] at HF HS
  replace hw5:((w3.setCell ⟨w.heap.size,0,none⟩ (.bool false)).setCell ⟨w.heap.size,1,none⟩ (.int .i64 right)).setCell ⟨w.heap.size,2,none⟩ (.slice none 0 0)=w5:=hw5
  have q:=HS.1.cell
  have ql:=HS.1.lt
  clear hP3 hC3 hB3 HS;go_wp2_with fail;exact bodyPost_ret (v:=turnV right) (by unfold turnV;simp [results,Tryz.results202,go_sem,q]) rfl ⟨rfl,HF.out⟩
 | true=>
  have fz:=HB.out.frozen
  have f9:=HB.out.cell' (i:=9) (v:=.int .i64 forget) rfl
  have f11:=HB.out.cell' (i:=11) (v:=.pointer (some ⟨rb,0,none⟩)) rfl
  have c1:=(Chg.refl (fun k=>k=pb) (w.alloc (.cells #[.bool false,.int .i64 0,.slice none 0 0] 347))).setCell (a:=⟨pb,8,none⟩) (.inl rfl) (.bool false)
  have hB1:=HB.out.set 8 (.bool false)
  have hR1:=c1.blk HR.out.1 HR.out.2
  have hP1:PgW _ S pb me number ⟨right,owner,prob,set,want,wait,false,forget⟩:=⟨HS0.out.1,rb,HS0.out.2,hB1,hR1⟩
  have HT:=Lib.hid (HTn.out _ _ hP1)
  have HRL1:=Lib.hid (HRL.out _ hR1)
  have HB2:=Lib.hid (c1.blk HB0.out (by have:=HLT.out.1;omega))
  have HC2:=Lib.hid ((HC.out.mono (S':=fun k=>k=pb) fun _ _ e=>e.elim).trans c1 fun k _ e=>e)
  clear hB1 hR1 hP1 c1;go_enter Tryz.func202,Tryz.ntmps202;go_wp2_with fail;go_loopg [42] 0 (fun k v wr=>wr=(w.alloc (.cells #[.bool false,.int .i64 0,.slice none 0 0] 347)).setCell ⟨pb,8,none⟩ (.bool false))
  case atStart=>rfl
  case round=>
   have hwr:=hrel
   rename World=>wr;subst hwr;go_wp2_with fail;refine HRL1.out.mono ?_
   rintro e w2 ⟨rfl,hw⟩;subst hw;go_wp2_with fail;refine HT.out.mono ?_
   rintro e w3 ⟨he,hP3,hC3⟩;have he:e = .returned (.agg #[.bool false,.int .i64 right,.slice none 0 0]):=he
   subst he;clear f8 f9 f11 fl fz;have hB3:=hC3.blk HB2.out (by have:=HLT.out.1;omega)
   have k:=hB3.cell
   have kz:=hB3.frozen
   have kl:=hB3.lt
   have HS:=store_all hB3 [.bool false,.int .i64 right,.slice none 0 0] rfl
   have HF:Hid (PgW (w3.setCells w.heap.size 0 [.bool false,.int .i64 right,.slice none 0 0]) S pb me number ⟨right,owner,prob,set,want,wait,false,forget⟩∧Chg (fun k=>k=pb) w (w3.setCells w.heap.size 0 [.bool false,.int .i64 right,.slice none 0 0])):=Lib.hid ⟨hP3.chgT HS.2 (fun k e=>by have e:k=w.heap.size:=e;rw [e];exact ⟨_,_,hB3,by decide,by decide⟩),(HC2.out.trans hC3 fun k _ e=>e).trans HS.2 fun k hk e=>by have e:k=w.heap.size:=e;omega⟩
   obtain ⟨w5,hw5⟩:∃x,w3.setCells w.heap.size 0 [.bool false,.int .i64 right,.slice none 0 0]=x:=⟨_,rfl⟩
   rw [hw5] at HF HS
   replace hw5:((w3.setCell ⟨w.heap.size,0,none⟩ (.bool false)).setCell ⟨w.heap.size,1,none⟩ (.int .i64 right)).setCell ⟨w.heap.size,2,none⟩ (.slice none 0 0)=w5:=hw5
   have q:=HS.1.cell
   have ql:=HS.1.lt
   clear hP3 hC3 hB3 HS;go_wp2_with fail;exact bodyPost_ret (v:=turnV right) (by unfold turnV;simp [results,Tryz.results202,go_sem,q]) rfl ⟨rfl,HF.out⟩
theorem hpage_out {w:World} {S:Nat→Prop} {hb spb:Nat} {me n sh:Int} {ps:List (Int×Nat×PgS)} (a:HmW w S hb spb me n sh ps) (num:Int) (h0:num<0) :
  Calls Tryz.prog 168 #[.pointer (some ⟨hb,0,none⟩),.int .i64 num] w (RetW (.pointer none) fun w'=>w'=w):=by
 obtain ⟨mb,-,hB,-,-⟩:=a.ex
 have el:=hB.lt
 have t0:decide (num<0)=true:=decide_eq_true h0
 clear a hB h0;go_enter Tryz.func168,Tryz.ntmps168;go_wp2_with fail;go_ret;exact ⟨rfl,rfl⟩
theorem hlook2 (ps:List (Int×Nat×PgS)) (n:Int):mlook (ps.map fun p=>(p.1,Value.pointer (some ⟨p.2.1,0,none⟩))) n=(hLook ps n).map fun x=>Value.pointer (some ⟨x.1,0,none⟩):=by
 unfold hLook
 induction ps with
 | nil=>rfl
 | cons p ps ih=>
  unfold mlook at ih ⊢
  rw [List.map_cons,List.find?_cons,List.find?_cons]
  cases p.1 == n with
  | true=>rfl
  | false=>exact ih
theorem hLook_app {ps:List (Int×Nat×PgS)} {num:Int} (h:hLook ps num=none) (x:Nat×PgS):hLook (ps ++ [(num,x)]) num=some x:=by
 unfold hLook at h ⊢
 rw [Option.map_eq_none_iff] at h
 rw [List.find?_append,h]
 simp
theorem hpage_known {w:World} {S:Nat→Prop} {hb spb:Nat} {me n sh:Int} {ps:List (Int×Nat×PgS)} (a:HmW w S hb spb me n sh ps) (num:Int) (h0:0≤num) (h1:num<sh) {pb:Nat} {st:PgS} (hf:hLook ps num=some (pb,st)) :
  Calls Tryz.prog 168 #[.pointer (some ⟨hb,0,none⟩),.int .i64 num] w (RetW (.pointer (some ⟨pb,0,none⟩)) fun w'=>w'=w):=by
 obtain ⟨mb,hmS,hB,hM,hSt⟩:=a.ex
 have e5:=hB.cell' (i:=5) (v:=.int .i64 sh) rfl
 have e6:=hB.cell' (i:=6) (v:=.map (some mb)) rfl
 have el:=hB.lt
 have t0:decide (num<0)=false:=decide_eq_false (by omega)
 have t1:decide (sh≤num)=false:=decide_eq_false (by omega)
 obtain ⟨i0,hi0,hz0,hz1,hz2⟩:=info_parts PPinfo3
 have hl:=run_look1 (P:=Tryz.prog) Tryz.underlying184 Tryz.underlying3 hi0 hz0 hM num
 rw [hlook2,hf] at hl
 simp only [Option.map_some,Option.getD_some] at hl
 clear a h0 h1 hi0 hz0 hz1 hz2 hf hB hM hSt hmS;go_enter Tryz.func168,Tryz.ntmps168;go_wp2_with fail;go_ret;exact ⟨rfl,rfl⟩
theorem hLook_put {ps:List (Int×Nat×PgS)} {num:Int} {pb:Nat} {s:PgS} (h:hLook ps num=some (pb,s)) (s':PgS):hLook (hPut ps pb s') num=some (pb,s'):=by
 unfold hLook at h ⊢
 unfold hPut
 rw [Option.map_eq_some_iff] at h
 obtain ⟨p,hp,hps⟩:=h
 rw [List.find?_map]
 have e:((fun p:Int×Nat×PgS=>p.1 == num) ∘ fun p:Int×Nat×PgS=>if p.2.1=pb then (p.1,p.2.1,s') else p)=fun p=>p.1 == num:=by
  funext q
  show ((if q.2.1=pb then (q.1,q.2.1,s') else q).1 == num)=_
  split <;> rfl
 rw [e,hp]
 show some ((if p.2.1=pb then (p.1,p.2.1,s') else p).2)=_
 have:p.2.1=pb:=by rw [hps]
 rw [if_pos this,this]
theorem hpage_w {w:World} {S:Nat→Prop} {hb spb:Nat} {me n sh:Int} {ps:List (Int×Nat×PgS)} (a:HmW w S hb spb me n sh ps) (bd:∀k,S k→k<w.heap.size) (num:Int) (h0:0≤num) (h1:num<sh) (hn:2≤n) (hn2:n≤16) (hs:sh≤65536) :
  Calls Tryz.prog 168 #[.pointer (some ⟨hb,0,none⟩),.int .i64 num] w (RetV fun v w'=>∃(pb:Nat) (st:PgS) (ps':List (Int×Nat×PgS)) (S':Nat→Prop),v = .pointer (some ⟨pb,0,none⟩)∧HmW w' S' hb spb me n sh ps'∧hLook ps' num=some (pb,st)∧
   ((ps'=ps∧hLook ps num=some (pb,st))∨(hLook ps num=none∧st=pgNewF me (num%n)∧ps'=ps ++ [(num,pb,st)]))∧(∀k,S' k→S k∨w.heap.size≤k)∧(∀k,S' k→k<w'.heap.size)∧Chg S w w'):=by
 obtain ⟨mb,hmS,hB,hM,hSt⟩:=a.ex
 have e0:=hB.cell' (i:=0) (v:=.int .i64 me) rfl
 have e1:=hB.cell' (i:=1) (v:=.int .i64 n) rfl
 have e5:=hB.cell' (i:=5) (v:=.int .i64 sh) rfl
 have e6:=hB.cell' (i:=6) (v:=.map (some mb)) rfl
 have el:=hB.lt
 have t0:decide (num<0)=false:=decide_eq_false (by omega)
 have t1:decide (sh≤num)=false:=decide_eq_false (by omega)
 obtain ⟨i0,hi0,hz0,hz1,hz2⟩:=info_parts PPinfo3
 have hl:=run_look1 (P:=Tryz.prog) Tryz.underlying184 Tryz.underlying3 hi0 hz0 hM num
 rw [hlook2] at hl
 have HA:=Lib.hid a
 have HBd:=Lib.hid bd
 have HN:=Lib.hid (And.intro h0 (And.intro h1 (And.intro hn (And.intro hn2 hs))))
 cases hf:hLook ps num with
 | some x=>
  rw [hf] at hl
  obtain ⟨pb,st⟩:=x
  have HF:=Lib.hid hf
  simp only [Option.map_some,Option.getD_some] at hl
  clear a h0 h1 hn hn2 hs hi0 hz0 hz1 hz2 hf bd hB hM hSt hmS;go_enter Tryz.func168,Tryz.ntmps168;go_wp2_with fail;go_ret;exact ⟨_,rfl,pb,st,ps,S,rfl,HA.out,HF.out,.inl ⟨rfl,rfl⟩,fun k hk=>.inl hk,HBd.out,Chg.refl _ _⟩
 | none=>
  rw [hf] at hl
  simp only [Option.map_none,Option.getD_none] at hl
  have HF:=Lib.hid hf
  have HB:=Lib.hid hB
  have HM:=Lib.hid (And.intro hM (And.intro hSt hmS))
  clear a h0 h1 hn hn2 hs hi0 hz0 hz1 hz2 hf bd hB hM hSt hmS;go_enter Tryz.func168,Tryz.ntmps168;go_upto_region 5 with fail;have q0:n≠0:=by have:=HN.out.2.2.1;omega
  have q0':(n == 0)=false:=by simpa using q0
  have q1:IntKind.i64.wrap (num.tmod n)=num%n:=by
   have:=HN.out
   rw [Int.tmod_eq_emod_of_nonneg this.1]
   have h2:=Int.emod_lt_of_pos num (b:=n) (by omega)
   have h3:=Int.emod_nonneg num q0
   exact IntWalk.i64_in _ (by omega)
  have g0:∀w',Chg NoB w w'→w'.cell? ⟨hb,0,none⟩=some (.int .i64 me):=fun w' c=>(c.blk0 HB.out).cell' (i:=0) rfl
  have g1:∀w',Chg NoB w w'→w'.cell? ⟨hb,1,none⟩=some (.int .i64 n):=fun w' c=>(c.blk0 HB.out).cell' (i:=1) rfl
  have gl:∀w',Chg NoB w w'→hb<w'.heap.size:=fun w' c=>(c.blk0 HB.out).lt
  clear e0 e1 e5 e6 el hl;refine wp_region_mix 12 [(true,0),(true,1),(true,2),(true,3),(true,4),(true,5),(true,6),(true,7),(true,8),(true,9),(true,10),(false,11)] (fun w'=>Chg NoB w w') (by kernel_rfl) (by kernel_rfl) (fun _ _ _ _ _ h=>h) ((Chg.refl NoB w).drew) ?_
  simp only [pickMix_nil,pickMix_cons,Option.getD_some,List.getElem?_toArray,List.getElem?_cons_zero,List.getElem?_cons_succ,List.cons_append,List.nil_append,List.drop_succ_cons,List.drop_zero]
  iterate 11
   refine wpMix_take rfl ?_;apply Exists.intro;refine ⟨fun wS hS=>?_,?_⟩
   ·try dsimp only at hS
    have cS:=hS
    go_simp;try rfl
   simp only [Act.put,List.setIfInBounds_toArray,List.set_cons_zero,List.set_cons_succ]
  refine wpMix_force rfl (fun K hK=>?_)
  go_simp;refine (pageNew_any _ _ _ _).mono ?_
  rintro e w2 ⟨v,rfl,pb,rb,rfl,l1,l2,hP,hC⟩;have C2:Chg NoB w w2:=(Chg.refl NoB w).drew.step hC
  have HP:=Lib.hid hP
  have HL:=Lib.hid (And.intro l1 l2)
  refine hK _ _ C2 ?_
  clear hK K hP hC l1 l2;refine wpMix_nil ?_
  have hA2:=HA.out.chg0 C2
  have hB2:=C2.blk0 HB.out
  have e6:=hB2.cell' (i:=6) (v:=.map (some mb)) rfl
  have el:=hB2.lt
  have hM:=HM.out.1.chg C2 id
  have hSt:=HM.out.2.1.chg C2 id
  have HA2:=Lib.hid hA2
  have HC2:=Lib.hid C2
  have HSt2:=Lib.hid hSt
  clear g0 g1 gl q0 q0' q1 C2 hA2 hB2 hSt;have HMN:Hid (mlook (ps.map fun p=>(p.1,Value.pointer (some ⟨p.2.1,0,none⟩))) num=none):=Lib.hid (by rw [hlook2,HF.out];rfl)
  have HM2:=Lib.hid hM
  go_wp2_with (refine wpList_mapput_new rfl _ _ _ 184 3 332 rfl Tryz.underlying184 Tryz.underlying3 rfl hM HSt2.out num HMN.out rfl (.pointer (some ⟨pb,0,none⟩)) rfl ?_)
  intro w3 hM3 hSt3 C3;have HM3:=Lib.hid hM3
  have HSt3:=Lib.hid hSt3
  have HC3:=Lib.hid C3
  clear hM3 C3 e6 el hM hSt3;go_wp2_with fail;go_ret;have hP:=HP.out
  rw [Int.tmod_eq_emod_of_nonneg HN.out.1] at hP
  have hM3:=HM3.out
  have ne1:∀{c:Nat} {cs:Array Value} {T:TypeId},Blk w2 c cs T→¬c=mb:=fun hb=>mapAt_ne HM2.out hb
  have hz:w.heap.size≤w2.heap.size:=HC2.out.size
  have hz3:w2.heap.size≤w3.heap.size:=HC3.out.size
  have hpb:=hP.blk.lt
  have hrb:=hP.ring.lt
  refine ⟨_,rfl,pb,pgNewF me (num%n),ps ++ [(num,pb,pgNewF me (num%n))],fun k=>S k∨k=pb∨k=rb,rfl,⟨.inl HA.out.s,⟨mb,.inl HM.out.2.2,HC3.out.blk (HC2.out.blk0 HB.out) (ne1 (HC2.out.blk0 HB.out)),?_,HSt3.out⟩,fun p hp=>?_,?_,fun p hp=>(List.mem_append.1 hp).elim (HA2.out.kn p) fun hp=>by rw [List.mem_singleton.1 hp];exact ⟨HN.out.1,HN.out.2.1⟩⟩,hLook_app HF.out _,.inr ⟨(by first | trivial | exact HF.out),rfl,rfl⟩,fun k hk=>?_,fun k hk=>?_,?_⟩
  ·rw [List.map_append]
   exact hM3
  ·rcases List.mem_append.1 hp with hp | hp
   ·obtain ⟨rb2,r1,r2,r3⟩:=(HA2.out.page p hp).ex
    exact ⟨.inl (HA2.out.page p hp).s,rb2,.inl r1,HC3.out.blk r2 (ne1 r2),HC3.out.blk r3 (ne1 r3)⟩
   ·rw [List.mem_singleton.1 hp]
    exact ⟨.inr (.inl rfl),rb,.inr (.inr rfl),HC3.out.blk hP.blk (ne1 hP.blk),HC3.out.blk hP.ring (ne1 hP.ring)⟩
  ·rw [List.map_append,List.nodup_append]
   refine ⟨HA2.out.nd,by simp,fun x hx y hy=>?_⟩
   obtain ⟨p,hp,rfl⟩:=List.mem_map.1 hx
   have hy:y=pb:=by simpa using hy
   obtain ⟨rb2,r1,r2,r3⟩:=(HA.out.page p hp).ex
   have:=r2.lt
   have:w.heap.size≤pb:=HL.out.1
   show p.2.1≠y
   omega
  ·rcases hk with hk | hk | hk
   ·exact .inl hk
   ·rw [hk];exact .inr HL.out.1
   ·rw [hk];exact .inr HL.out.2
  ·rcases hk with hk | hk | hk
   ·have:=HBd.out k hk;omega
   ·omega
   ·omega
  ·exact (HC2.out.mono (S':=S) fun _ _ e=>e.elim).trans HC3.out fun k hk e=>by have e:k=mb:=e;rw [e];exact HM.out.2.2
theorem hDo_none {w:World} {S:Nat→Prop} {hb:Nat} {me n sh:Int} {ps:List (Int×Nat×PgS)} {L:Pl} {s:Spc} (a:HmW w S hb L.pb me n sh ps) (hS:SpAt w L s) (num:Nat) (r:Int) (hset:SetOk s num r) :
  Calls Tryz.prog 175 #[.pointer (some ⟨hb,0,none⟩),.int .i64 num,turnV r,.slice none 0 0] w (RetW (.slice none 0 0) fun w'=>∃L':Pl,Ext L L' w∧SpAt w' L' (setF s num r).2∧Chg L.All w w'):=by
 show Calls _ _ #[_,_,.agg #[.bool false,.int .i64 r,.slice none 0 0],_] _ _
 have c0:=(Chg.refl NoB w).alloc (.cells #[.bool false,.int .i64 r,.slice none 0 0] 347)
 have HB:=Lib.hid (Blk.new w #[.bool false,.int .i64 r,.slice none 0 0] 347)
 have hS0:=hS.chg0 c0
 obtain ⟨mb,-,hB,-,-⟩:=a.ex
 have HH:=Lib.hid (c0.blk0 hB)
 have HS:=Lib.hid (And.intro hS0 hset)
 have HC:=Lib.hid c0
 have HBD:=Lib.hid hS.lt
 clear a hS hset hB hS0 c0;go_enter Tryz.func175,Tryz.ntmps175;go_upto_region 1 with fail;obtain ⟨w0,hw0⟩:∃x,w.alloc (.cells #[.bool false,.int .i64 r,.slice none 0 0] 347)=x:=⟨_,rfl⟩
 rw [hw0] at HB HH HS HC
 simp only [hw0]
 generalize hb0:w.heap.size=b0 at *;have HZ:=Lib.hid hb0
 clear hb0 hw0;have g:=HB.out.ever
 have gl:=HB.out.everL
 have c0:=Chg.refl NoB w0
 go_wp2_with fail;go_loopg [24,9] 0 (fun k iv ov wr=>iv = .int .i64 0∧ov = .slice none 0 0∧wr=w0)
 case atStart=>exact ⟨rfl,rfl,rfl⟩
 case round=>
  obtain ⟨rfl,rfl,hwr⟩:=hrel
  rename World=>wr;subst hwr;have cc:=Chg.refl NoB wr
  have h2:=HH.out.ever
  have h2l:=HH.out.everL
  clear c0;go_upto_region 11 with fail;have HSet:=Lib.hid fun w' (k:Chg NoB wr w')=>set_any (HS.out.1.chg0 k) num r HS.out.2
  refine wp_region_mix 7 [(true,0),(true,1),(true,2),(true,3),(true,4),(true,5),(true,6)] (fun w'=>Chg NoB wr w') (by kernel_rfl) (by kernel_rfl) (fun _ _ _ _ _ h=>h) (cc.drew) ?_
  simp only [pickMix_nil,pickMix_cons,Option.getD_some,List.getElem?_toArray,List.getElem?_cons_zero,List.getElem?_cons_succ,List.cons_append,List.nil_append,List.drop_succ_cons,List.drop_zero]
  iterate 7
   refine wpMix_take rfl ?_;apply Exists.intro;refine ⟨fun wS hS=>?_,?_⟩
   ·try dsimp only at hS
    have cS:=hS
    go_simp;try rfl
   simp only [Act.put,List.setIfInBounds_toArray,List.set_cons_zero,List.set_cons_succ]
  refine wpMix_nil ?_
  go_wp2_with fail;refine (HSet.out _ cc.drew).mono ?_
  rintro e w2 ⟨rfl,L',hE,hS2,hC2⟩;have HX:Hid (∃L':Pl,Ext L L' w∧SpAt w2 L' (setF s num r).2∧Chg L.All w w2):=Lib.hid ⟨L',⟨hE.1,hE.2.1,fun k hk=>(hE.2.2 k hk).imp id fun e=>Nat.le_trans (HC.out.step cc.drew).size e⟩,hS2,((HC.out.step cc.drew).mono (S':=L.All) fun _ _ e=>e.elim).trans hC2 fun k _ e=>e⟩
  clear hE hS2 hC2 cc;go_wp2_with fail;go_ret;exact ⟨rfl,HX.out⟩
theorem HmW.putP {w w':World} {S:Nat→Prop} {hb spb:Nat} {me n sh:Int} {ps:List (Int×Nat×PgS)} (h:HmW w S hb spb me n sh ps) {num:Int} {pb:Nat} {s s':PgS} (hp:(num,pb,s)∈ps) (hP:PgW w' S pb me num s') (c:Chg (fun k=>k=pb) w w'):HmW w' S hb spb me n sh (hPut ps pb s'):=by
 obtain ⟨rb,r1,r2,r3⟩:=(h.page _ hp).ex
 have r2:Blk w pb _ 368:=r2
 obtain ⟨mb,h1,h2,h3,h4⟩:=h.ex
 exact h.put hp hP c (fun e=>by rw [e] at h2;exact absurd (h2.inj r2).2 (by decide)) (fun mb hm e=>mapAt_ne hm r2 e.symm) (fun rb hr e=>by rw [e] at hr;exact absurd (hr.inj r2).2 (by decide))
theorem hDone_w {w:World} {S:Nat→Prop} {hb:Nat} {me n sh:Int} {ps:List (Int×Nat×PgS)} {L:Pl} {s:Spc} (a:HmW w S hb L.pb me n sh ps) (bd:∀k,S k→k<w.heap.size) (hS:SpAt w L s) (ap:∀k,S k→¬L.All k) (num:Nat) (h1:(num:Int)<sh) {pb:Nat} {st:PgS} (hf:hLook ps num=some (pb,st)) (hfo:st.forget<0) (hset:SetOk s num st.right) :
  Calls Tryz.prog 174 #[.pointer (some ⟨hb,0,none⟩),.int .i64 num] w (RetW (.slice none 0 0) fun w'=>∃L':Pl,Ext L L' w∧HmW w' S hb L.pb me n sh (hPut ps pb { st with held:=false})∧SpAt w' L' (setF s num st.right).2∧Chg (fun k=>S k∨L.All k) w w'):=by
 have hm:=hLook_mem hf
 have HPg:=Lib.hid (hpage_known a num (by omega) h1 hf)
 have HD:=Lib.hid (pDone_free (a.page _ hm) hfo)
 have HA:=Lib.hid (And.intro a (And.intro hm (And.intro hS (And.intro ap (And.intro hset bd)))))
 clear a hS ap hf hm hset h1 hfo bd;go_enter Tryz.func174,Tryz.ntmps174;go_wp2_with fail;refine HPg.out.mono ?_
 rintro e w1 ⟨rfl,hw⟩;subst hw;go_wp2_with fail;refine HD.out.mono ?_
 rintro e w2 ⟨rfl,hP,hC⟩;have hSpb:S pb:=(HA.out.1.page _ HA.out.2.1).s
 have hA2:=HA.out.1.putP HA.out.2.1 hP hC
 have hS2:=HA.out.2.2.1.chg hC fun k hk (e:k=pb)=>HA.out.2.2.2.1 pb hSpb (e▸hk)
 have HDo:=Lib.hid (hDo_none hA2 hS2 num st.right HA.out.2.2.2.2.1)
 have HA2:=Lib.hid (And.intro hA2 (And.intro hC hSpb))
 clear hP hC hSpb hA2 hS2;go_wp2_with fail;refine HDo.out.mono ?_
 rintro e w3 ⟨rfl,L',hE,hS3,hC3⟩;have HX:Hid (∃L':Pl,Ext L L' w1∧HmW w3 S hb L.pb me n sh (hPut ps pb { st with held:=false})∧SpAt w3 L' (setF s num st.right).2∧Chg (fun k=>S k∨L.All k) w1 w3):=Lib.hid ⟨L',⟨hE.1,hE.2.1,fun k hk=>(hE.2.2 k hk).imp id fun e=>Nat.le_trans HA2.out.2.1.size e⟩,HA2.out.1.chg hC3 HA.out.2.2.2.1,hS3,(HA2.out.2.1.mono (S':=fun k=>S k∨L.All k) fun k _ (e:k=pb)=>.inl (e▸HA2.out.2.2)).trans hC3 fun k _ e=>.inr e⟩
 clear hE hS3 hC3;go_wp2_with fail;go_ret;exact ⟨rfl,HX.out⟩
theorem nFault_any (done:Bool) (op rd rs rt im pc cause access addr size old new:Int) (w:World) :
  Calls Tryz.prog 139 #[.agg #[.bool done,.int .i64 op,.int .i64 rd,.int .i64 rs,.int .i64 rt,.int .i64 im,.int .u64 pc,.int .i64 cause,.int .i64 access,.int .u64 addr,.int .i64 size,.int .u64 old,.int .u64 new]] w (RetW (.bool (decide (0<size) && (decide (cause=13) || decide (cause=15)))) fun w'=>Chg NoB w w'):=by
 have hC:=Lib.hid ((Chg.refl NoB w).alloc (.cells #[.bool done,.int .i64 op,.int .i64 rd,.int .i64 rs,.int .i64 rt,.int .i64 im,.int .u64 pc,.int .i64 cause,.int .i64 access,.int .u64 addr,.int .i64 size,.int .u64 old,.int .u64 new] 69))
 obtain ⟨b1,h1⟩:∃b,decide (0<size)=b:=⟨_,rfl⟩
 obtain ⟨b2,h2⟩:∃b,decide (cause=13)=b:=⟨_,rfl⟩
 obtain ⟨b3,h3⟩:∃b,decide (cause=15)=b:=⟨_,rfl⟩
 have e2:(cause == 13)=b2:=h2
 have e3:(cause == 15)=b3:=h3
 rw [h1,h2,h3]
 cases b1 <;> cases b2 <;>
 ·go_enter Tryz.func139,Tryz.ntmps139;go_wp2_with fail;go_ret;exact ⟨by first | rfl | (cases b3 <;> rfl),hC.out⟩
theorem nPost_none (nb:Nat) (w:World):Calls Tryz.prog 141 #[.pointer (some ⟨nb,0,none⟩),.slice none 0 0] w (RetW (.tuple #[]) fun w'=>w'=w):=by
 go_enter Tryz.func141,Tryz.ntmps141;go_wp2_with fail;go_loopg [11] 0 (fun k iv wr=>iv = .int .i64 0∧wr=w)
 case atStart=>exact ⟨rfl,rfl⟩
 case round=>
  obtain ⟨rfl,hwr⟩:=hrel
  rename World=>wr;subst hwr;go_wp2_with fail;refine bodyPost_end (results_none rfl _ _ _) rfl ?_
  exact ⟨rfl,rfl⟩
theorem cRun_q {w:World} {cb:Nat} {c:Cor} (h:CoreAt w cb c):Calls Tryz.prog 134 #[.pointer (some ⟨cb,0,none⟩)] w (RetW (.int .i64 c.run) fun w'=>w'=w):=by
 have f0:=h.blk.cell' (i:=17) (v:=.int .i64 c.run) rfl
 have fl:=h.blk.lt
 clear h;go_enter Tryz.func134,Tryz.ntmps134;go_wp2_with fail;go_ret;exact ⟨rfl,rfl⟩
theorem which_under {w:World} {L:Pl} {s:Spc} (h:SpAt w L s) (v:Nat) (hv:v<1073741824) :
  Calls Tryz.prog 173 #[.pointer (some ⟨L.pb,0,none⟩),.int .u64 v] w (RetW (.tuple #[.int .i64 0,.bool false]) fun w'=>w'=w):=by
 have fl:=h.blk.lt
 have t1:decide ((v:Int)<1073741824)=true:=decide_eq_true (by omega)
 clear h hv;go_enter Tryz.func173,Tryz.ntmps173;go_wp2_with fail;go_ret2
 exact ⟨rfl,rfl⟩
theorem hState_none {w:World} {S:Nat→Prop} {hb spb:Nat} {me n sh:Int} {ps:List (Int×Nat×PgS)} (a:HmW w S hb spb me n sh ps) (num:Int) (h0:num<0) :
  Calls Tryz.prog 135 #[.pointer (some ⟨hb,0,none⟩),.int .i64 num] w (RetW (.agg #[.int .i64 0,.bool false,.int .i64 0,.int .u16 0,.int .i64 0,.int .u16 0,.bool false,.int .i64 (-1),.int .i64 0]) fun w'=>Chg NoB w w'):=by
 have c0:=(Chg.refl NoB w).alloc (.cells #[.int .i64 0,.bool false,.int .i64 0,.int .u16 0,.int .i64 0,.int .u16 0,.bool false,.int .i64 0,.int .i64 0] 291)
 have HB:=Lib.hid (Blk.new w #[.int .i64 0,.bool false,.int .i64 0,.int .u16 0,.int .i64 0,.int .u16 0,.bool false,.int .i64 0,.int .i64 0] 291)
 have HP:=Lib.hid (hpage_out (a.chg0 c0) num h0)
 have HC:=Lib.hid c0
 clear a c0 h0;go_enter Tryz.func135,Tryz.ntmps135;go_wp2_with fail;refine HP.out.mono ?_
 rintro e w1 ⟨rfl,hw⟩;subst hw;have HS:=Lib.hid (pageState_nil (w.alloc (.cells #[.int .i64 0,.bool false,.int .i64 0,.int .u16 0,.int .i64 0,.int .u16 0,.bool false,.int .i64 0,.int .i64 0] 291)))
 go_wp2_with fail;refine HS.out.mono ?_
 rintro e w2 ⟨rfl,hC⟩;have hB2:=hC.blk0 HB.out
 have k:=hB2.cell
 have kz:=hB2.frozen
 have kl:=hB2.lt
 have HS2:=store_all hB2 [.int .i64 0,.bool false,.int .i64 0,.int .u16 0,.int .i64 0,.int .u16 0,.bool false,.int .i64 (-1),.int .i64 0] rfl
 have HF:Hid (Chg NoB w (w2.setCells w.heap.size 0 [.int .i64 0,.bool false,.int .i64 0,.int .u16 0,.int .i64 0,.int .u16 0,.bool false,.int .i64 (-1),.int .i64 0])):=Lib.hid ((HC.out.step hC).trans HS2.2 fun k hk e=>by have e:k=w.heap.size:=e;omega)
 obtain ⟨w5,hw5⟩:∃x,w2.setCells w.heap.size 0 [.int .i64 0,.bool false,.int .i64 0,.int .u16 0,.int .i64 0,.int .u16 0,.bool false,.int .i64 (-1),.int .i64 0]=x:=⟨_,rfl⟩
 rw [hw5] at HF HS2
 replace hw5:(((((((((w2.setCell ⟨w.heap.size,0,none⟩ (.int .i64 0)).setCell ⟨w.heap.size,1,none⟩ (.bool false)).setCell ⟨w.heap.size,2,none⟩ (.int .i64 0)).setCell ⟨w.heap.size,3,none⟩ (.int .u16 0)).setCell ⟨w.heap.size,4,none⟩ (.int .i64 0)).setCell ⟨w.heap.size,5,none⟩ (.int .u16 0)).setCell ⟨w.heap.size,6,none⟩ (.bool false)).setCell ⟨w.heap.size,7,none⟩ (.int .i64 (-1))).setCell ⟨w.heap.size,8,none⟩ (.int .i64 0))=w5:=hw5
 have q:=HS2.1.cell
 have ql:=HS2.1.lt
 clear hC hB2 HS2;go_wp2_with fail;exact bodyPost_ret (v:=.agg #[.int .i64 0,.bool false,.int .i64 0,.int .u16 0,.int .i64 0,.int .u16 0,.bool false,.int .i64 (-1),.int .i64 0]) (by simp [results,Tryz.results135,go_sem,q]) rfl ⟨rfl,HF.out⟩
end Go.Proofs.YtjhnnjgnkkjmkaaGreatDoor
