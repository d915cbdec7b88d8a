/- Pages of homes that run: what is told of them. No condition. Homes that run: a fault at a page of one's own that is new; a known page's state. No condition. Nodes that run: an instruction that is done. No condition. Nodes that run: an instruction over a page that is held, done. No condition. -/
import Derived.Test.YtjhnnjgnkkjmkaaGreatDoorIa
set_option maxHeartbeats 2000000
set_option maxRecDepth 100000
set_option linter.unusedVariables false
set_option linter.unusedSimpArgs false
namespace Go.Proofs.YtjhnnjgnkkjmkaaGreatDoor
open Go.RowKit Go.RR
theorem pState_w {w:World} {S:Nat→Prop} {pb:Nat} {me number:Int} {s:PgS} (h:PgW w S pb me number s):Calls Tryz.prog 169 #[.pointer (some ⟨pb,0,none⟩)] w (RetW (.agg (stCe s)) fun w'=>Chg NoB w w'):=by
 obtain ⟨right,owner,prob,set,want,wait,held,forget⟩:=s
 obtain ⟨rb,-,hblk,hring⟩:=h.ex
 have hblk:Blk w pb #[.int .i64 me,.int .i64 number,.int .i64 right,.bool owner,.int .i64 prob,.int .u16 set,.int .i64 want,.int .u16 wait,.bool held,.int .i64 forget,.int .i64 0,.pointer (some ⟨rb,0,none⟩),.slice none 0 0,.bool false] 368:=hblk
 have HR:=Lib.hid hring
 have HK:=Lib.hid hblk
 have f:=hblk.cell
 have fl:=hblk.lt
 clear h hblk hring;go_enter Tryz.func169,Tryz.ntmps169;go_upto_region 4 with fail;have hC:=((Chg.refl NoB w).alloc (.cells #[.int .i64 0,.bool false,.int .i64 0,.int .u16 0,.int .i64 0,.int .u16 0,.bool false,.int .i64 0,.int .i64 0] 291)).alloc (.cells #[.int .i64 right,.bool owner,.int .i64 prob,.int .u16 set,.int .i64 want,.int .u16 wait,.bool held,.int .i64 forget,.int .i64 0] 291)
 have hB1:Blk ((w.alloc (.cells #[.int .i64 0,.bool false,.int .i64 0,.int .u16 0,.int .i64 0,.int .u16 0,.bool false,.int .i64 0,.int .i64 0] 291)).alloc (.cells #[.int .i64 right,.bool owner,.int .i64 prob,.int .u16 set,.int .i64 want,.int .u16 wait,.bool held,.int .i64 forget,.int .i64 0] 291)) w.heap.size #[.int .i64 0,.bool false,.int .i64 0,.int .u16 0,.int .i64 0,.int .u16 0,.bool false,.int .i64 0,.int .i64 0] 291:=(Blk.new w #[.int .i64 0,.bool false,.int .i64 0,.int .u16 0,.int .i64 0,.int .u16 0,.bool false,.int .i64 0,.int .i64 0] 291).alloc _
 have hB2:=Blk.new (w.alloc (.cells #[.int .i64 0,.bool false,.int .i64 0,.int .u16 0,.int .i64 0,.int .u16 0,.bool false,.int .i64 0,.int .i64 0] 291)) #[.int .i64 right,.bool owner,.int .i64 prob,.int .u16 set,.int .i64 want,.int .u16 wait,.bool held,.int .i64 forget,.int .i64 0] 291
 rw [World.size_alloc] at hB2
 have hK2:=hC.blk0 HK.out
 have HR2:=Lib.hid (hC.blk0 HR.out)
 generalize (w.alloc (.cells #[.int .i64 0,.bool false,.int .i64 0,.int .u16 0,.int .i64 0,.int .u16 0,.bool false,.int .i64 0,.int .i64 0] 291)).alloc (.cells #[.int .i64 right,.bool owner,.int .i64 prob,.int .u16 set,.int .i64 want,.int .u16 wait,.bool held,.int .i64 forget,.int .i64 0] 291)=w2 at *;obtain ⟨b1,hb1⟩:∃b,w.heap.size=b:=⟨_,rfl⟩
 have HW1:Hid (w.heap.size=b1):=Lib.hid hb1
 rw [hb1] at hB1 hB2
 simp only [hb1]
 have HB1:=Lib.hid hB1
 have HB2:=Lib.hid hB2
 have HC:=Lib.hid hC
 have f11:=hK2.cell' (i:=11) (v:=.pointer (some ⟨rb,0,none⟩)) rfl
 have fl2:=hK2.lt
 clear f fl hB1 hB2 hC hK2 hb1 HK HR;go_wp2_with fail;refine (ringLen_any HR2.out).mono ?_
 rintro e w3 ⟨rfl,hw3⟩;subst hw3;have g:=HB2.out.cell
 have gz:=HB2.out.frozen
 have gl:=HB2.out.lt
 have k:=HB1.out.cell
 have kz:=HB1.out.frozen
 have kl:=HB1.out.lt
 have hz1:¬b1=b1+1:=by omega
 have hz2:¬b1+1=b1:=by omega
 have hw:=HW1.out
 have c8:Chg NoB w (w3.setCell ⟨b1+1,8,none⟩ (.int .i64 0)):=HC.out.setCell (a:=⟨b1+1,8,none⟩) (.inr (by show w.heap.size≤b1+1;omega)) (.int .i64 0)
 have hB8:Blk (w3.setCell ⟨b1+1,8,none⟩ (.int .i64 0)) b1 _ 291:=HB1.out.set_ne (a:=⟨b1+1,8,none⟩) (by show b1≠b1+1;omega) (.int .i64 0)
 have HSA:=store_all hB8 [.int .i64 right,.bool owner,.int .i64 prob,.int .u16 set,.int .i64 want,.int .u16 wait,.bool held,.int .i64 forget,.int .i64 0] rfl
 have HF:Hid (Chg NoB w ((w3.setCell ⟨b1+1,8,none⟩ (.int .i64 0)).setCells b1 0 [.int .i64 right,.bool owner,.int .i64 prob,.int .u16 set,.int .i64 want,.int .u16 wait,.bool held,.int .i64 forget,.int .i64 0])):=Lib.hid (c8.trans HSA.2 fun k hk e=>by have e:k=b1:=e;omega)
 obtain ⟨w5,hw5⟩:∃x,(w3.setCell ⟨b1+1,8,none⟩ (.int .i64 0)).setCells b1 0 [.int .i64 right,.bool owner,.int .i64 prob,.int .u16 set,.int .i64 want,.int .u16 wait,.bool held,.int .i64 forget,.int .i64 0]=x:=⟨_,rfl⟩
 rw [hw5] at HF HSA
 replace hw5:((((((((((w3.setCell ⟨b1+1,8,none⟩ (.int .i64 0)).setCell ⟨b1,0,none⟩ (.int .i64 right)).setCell ⟨b1,1,none⟩ (.bool owner)).setCell ⟨b1,2,none⟩ (.int .i64 prob)).setCell ⟨b1,3,none⟩ (.int .u16 set)).setCell ⟨b1,4,none⟩ (.int .i64 want)).setCell ⟨b1,5,none⟩ (.int .u16 wait)).setCell ⟨b1,6,none⟩ (.bool held)).setCell ⟨b1,7,none⟩ (.int .i64 forget)).setCell ⟨b1,8,none⟩ (.int .i64 0))=w5:=hw5
 have q:=HSA.1.cell
 have ql:=HSA.1.lt
 clear f11 fl2 HSA c8 hB8 hw;go_wp2_with fail;exact bodyPost_ret (v:=.agg #[.int .i64 right,.bool owner,.int .i64 prob,.int .u16 set,.int .i64 want,.int .u16 wait,.bool held,.int .i64 forget,.int .i64 0]) (by simp [results,Tryz.results169,go_sem,q]) rfl ⟨rfl,HF.out⟩
theorem hState_known {w:World} {S:Nat→Prop} {hb spb:Nat} {me n sh:Int} {ps:List (Int×Nat×PgS)} (a:HmW w S hb spb me n sh ps) (num:Int) (h0:0≤num) (h1:num<sh) {pb:Nat} {st:PgS} (hf:hLook ps num=some (pb,st)) :
  Calls Tryz.prog 135 #[.pointer (some ⟨hb,0,none⟩),.int .i64 num] w (RetW (.agg (stCe st)) fun w'=>Chg NoB w w'):=by
 have c0:=(Chg.refl NoB w).alloc (.cells #[.int .i64 0,.bool false,.int .i64 0,.int .u16 0,.int .i64 0,.int .u16 0,.bool false,.int .i64 0,.int .i64 0] 291)
 have HB:=Lib.hid (Blk.new w #[.int .i64 0,.bool false,.int .i64 0,.int .u16 0,.int .i64 0,.int .u16 0,.bool false,.int .i64 0,.int .i64 0] 291)
 have HP:=Lib.hid (hpage_known (a.chg0 c0) num h0 h1 hf)
 have HS:=Lib.hid (pState_w ((a.chg0 c0).page _ (hLook_mem hf)))
 obtain ⟨right,owner,prob,set,want,wait,held,forget⟩:=st
 have HC:=Lib.hid c0
 clear a c0 h0 h1 hf;go_enter Tryz.func135,Tryz.ntmps135;go_wp2_with fail;refine HP.out.mono ?_
 rintro e w1 ⟨rfl,hw⟩;subst hw;go_wp2_with fail;refine HS.out.mono ?_
 rintro e w2 ⟨he,hC⟩;have he:e = .returned (.agg #[.int .i64 right,.bool owner,.int .i64 prob,.int .u16 set,.int .i64 want,.int .u16 wait,.bool held,.int .i64 forget,.int .i64 0]):=he
 subst he;have hB2:=hC.blk0 HB.out
 have k:=hB2.cell
 have kz:=hB2.frozen
 have kl:=hB2.lt
 have HS2:=store_all hB2 [.int .i64 right,.bool owner,.int .i64 prob,.int .u16 set,.int .i64 want,.int .u16 wait,.bool held,.int .i64 forget,.int .i64 0] rfl
 have HF:Hid (Chg NoB w (w2.setCells w.heap.size 0 [.int .i64 right,.bool owner,.int .i64 prob,.int .u16 set,.int .i64 want,.int .u16 wait,.bool held,.int .i64 forget,.int .i64 0])):=Lib.hid ((HC.out.step hC).trans HS2.2 fun k hk e=>by have e:k=w.heap.size:=e;omega)
 obtain ⟨w5,hw5⟩:∃x,w2.setCells w.heap.size 0 [.int .i64 right,.bool owner,.int .i64 prob,.int .u16 set,.int .i64 want,.int .u16 wait,.bool held,.int .i64 forget,.int .i64 0]=x:=⟨_,rfl⟩
 rw [hw5] at HF HS2
 replace hw5:(((((((((w2.setCell ⟨w.heap.size,0,none⟩ (.int .i64 right)).setCell ⟨w.heap.size,1,none⟩ (.bool owner)).setCell ⟨w.heap.size,2,none⟩ (.int .i64 prob)).setCell ⟨w.heap.size,3,none⟩ (.int .u16 set)).setCell ⟨w.heap.size,4,none⟩ (.int .i64 want)).setCell ⟨w.heap.size,5,none⟩ (.int .u16 wait)).setCell ⟨w.heap.size,6,none⟩ (.bool held)).setCell ⟨w.heap.size,7,none⟩ (.int .i64 forget)).setCell ⟨w.heap.size,8,none⟩ (.int .i64 0))=w5:=hw5
 have q:=HS2.1.cell
 have ql:=HS2.1.lt
 clear hC hB2 HS2;go_wp2_with fail;exact bodyPost_ret (v:=.agg #[.int .i64 right,.bool owner,.int .i64 prob,.int .u16 set,.int .i64 want,.int .u16 wait,.bool held,.int .i64 forget,.int .i64 0]) (by simp [results,Tryz.results135,go_sem,q]) rfl ⟨rfl,HF.out⟩
theorem hFault_new {w:World} {S:Nat→Prop} {hb:Nat} {me n sh:Int} {ps:List (Int×Nat×PgS)} {L:Pl} {s:Spc} (a:HmW w S hb L.pb me n sh ps) (bd:∀k,S k→k<w.heap.size) (hS:SpAt w L s) (ap:∀k,S k→¬L.All k) (num:Nat) (h1:(num:Int)<sh) (hsh:s.shape.shared=sh) (va:Nat) (hva:(va:Int)=1073741824+4096*(num:Int))
  (hf:hLook ps num=none) (hown:(num:Int)%n=me) (acc:Int) (hacc:acc=1∨acc=2) (hn:2≤n) (hn2:n≤16) (hs:sh≤65536) (hset:SetOk s num 2) :
  Calls Tryz.prog 140 #[.pointer (some ⟨hb,0,none⟩),.int .u64 va,.int .i64 acc] w (RetW (.tuple #[.slice none 0 0,.int .i64 num]) fun w'=>∃(L':Pl) (S':Nat→Prop) (ps':List (Int×Nat×PgS)) (pb:Nat),Ext L L' w∧HmW w' S' hb L.pb me n sh ps'∧hLook ps' num=some (pb,holdF (pgNewF me me) 2)∧SpAt w' L' (setF s num 2).2∧
   (∀k,S' k→S k∨w.heap.size≤k)∧(∀k,S' k→k<w'.heap.size)∧(∀k,S' k→¬L'.All k)∧Chg (fun k=>S k∨L.All k) w w'):=by
 obtain ⟨mb,hmS,hB,-,-⟩:=a.ex
 have f2:=hB.cell' (i:=2) (v:=.pointer (some ⟨L.pb,0,none⟩)) rfl
 have fl:=hB.lt
 have HW:=Lib.hid (which_in hS va num hva (by omega) (by omega) (by rw [hsh];exact hs) (by rw [hsh];omega) (by rw [hsh];exact h1))
 have HP:=Lib.hid (hpage_w a bd num (by omega) h1 hn hn2 hs)
 have HA:=Lib.hid (And.intro bd (And.intro hS (And.intro ap (And.intro hset (And.intro hf hown)))))
 have hme:(pgNewF me me).owner=true:=decide_eq_true rfl
 clear a bd hS ap h1 hsh hva hf hown hn hn2 hs hset hB hmS;rcases hacc with rfl | rfl <;>
 ·go_enter Tryz.func140,Tryz.ntmps140;go_wp2_with fail;refine HW.out.mono ?_
  rintro e w0 ⟨rfl,hw⟩;subst hw;go_wp2_with fail;refine HP.out.mono ?_
  rintro e w1 ⟨v,rfl,pb,st,ps1,S1,rfl,hH,hlk,hor,hS1,hS1b,hC1⟩;have hst:st=pgNewF me me:=by
   rcases hor with ⟨-,h⟩ | ⟨-,h,-⟩
   ·rw [HA.out.2.2.2.2.1] at h;cases h
   ·rw [h,HA.out.2.2.2.2.2]
  subst hst;have hm:=hLook_mem hlk
  have hPg:=hH.page _ hm
  have hap1:∀k,S1 k→¬L.All k:=fun k hk e=>(hS1 k hk).elim (fun h=>HA.out.2.2.1 k h e) fun h=>by have:=HA.out.2.1.lt k e;omega
  have hSp1:=HA.out.2.1.chg hC1 fun k hk e=>HA.out.2.2.1 k e hk
  have HWn1:=Lib.hid (pWant_hold hPg rfl 1 (.inl rfl) (by show (0:Int)<1;omega) hme rfl)
  have HWn2:=Lib.hid (pWant_hold hPg rfl 2 (.inr rfl) (by show (0:Int)<2;omega) hme rfl)
  have HH:=Lib.hid (And.intro hH (And.intro hm (And.intro hap1 (And.intro hSp1 (And.intro hPg.s (And.intro hS1 (And.intro hS1b (And.intro hC1 hlk))))))))
  clear hH hlk hor hS1 hS1b hC1 hm hPg hap1 hSp1 f2 fl;go_wp2_with fail;first
  |(with_reducible refine HWn1.out.mono ?_)
  |(with_reducible refine HWn2.out.mono ?_)
  rintro e w2 ⟨rfl,hP2,hC2⟩;have hH2:=HH.out.1.putP HH.out.2.1 hP2 hC2
  have hSp2:=HH.out.2.2.2.1.chg hC2 fun k hk (e:k=pb)=>HH.out.2.2.1 pb HH.out.2.2.2.2.1 (e▸hk)
  have HDo:=Lib.hid (hDo_none hH2 hSp2 num 2 HA.out.2.2.2.1)
  have HH2:=Lib.hid (And.intro hH2 hC2)
  clear hP2 hC2 hH2 hSp2 HWn1 HWn2;go_wp2_with fail;refine HDo.out.mono ?_
  rintro e w3 ⟨rfl,L',hE,hS3,hC3⟩;have hz:=Nat.le_trans HH.out.2.2.2.2.2.2.2.1.size HH2.out.2.size
  have HX:Hid (∃(L':Pl) (S':Nat→Prop) (ps':List (Int×Nat×PgS)) (pb:Nat),Ext L L' w0∧HmW w3 S' hb L.pb me n sh ps'∧hLook ps' num=some (pb,holdF (pgNewF me me) 2)∧SpAt w3 L' (setF s num 2).2∧
    (∀k,S' k→S k∨w0.heap.size≤k)∧(∀k,S' k→k<w3.heap.size)∧(∀k,S' k→¬L'.All k)∧Chg (fun k=>S k∨L.All k) w0 w3):=Lib.hid ⟨L',S1,_,pb,⟨hE.1,hE.2.1,fun k hk=>(hE.2.2 k hk).imp id fun e=>Nat.le_trans hz e⟩,HH2.out.1.chg hC3 HH.out.2.2.1,hLook_put HH.out.2.2.2.2.2.2.2.2 _,hS3,HH.out.2.2.2.2.2.1,fun k hk=>Nat.lt_of_lt_of_le (HH.out.2.2.2.2.2.2.1 k hk) (Nat.le_trans HH2.out.2.size hC3.size),fun k hk e=>(hE.2.2 k e).elim (HH.out.2.2.1 k hk) fun e=>by have h1:=HH.out.2.2.2.2.2.2.1 k hk;have h2:=HH2.out.2.size;omega,
     ((HH.out.2.2.2.2.2.2.2.1.mono (S':=fun k=>S k∨L.All k) fun k _ e=>.inl e).trans HH2.out.2 fun k hk (e:k=pb)=>(HH.out.2.2.2.2.2.1 pb HH.out.2.2.2.2.1).elim (fun h=>.inl (e▸h)) fun h=>by omega).trans hC3 fun k _ e=>.inr e⟩
  clear hE hS3 hC3;go_wp2_with fail;go_ret2
  exact ⟨rfl,HX.out⟩
theorem RNAt.make {w:World} {nb me n:Nat} {page:Int} {s:Spc} {c:Cor} {ps:List (Int×Nat×PgS)} {L:Pl} {hb cb:Nat} {v:Value} {cs:List Value} {SK SH:Nat→Prop} (b1:SK nb) (b2:Blk w nb #[.int .i64 me,.pointer (some ⟨L.pb,0,none⟩),.pointer (some ⟨hb,0,none⟩),.pointer (some ⟨cb,0,none⟩),v,.int .i64 page] 115) (b3:Sl w SK 1 v n cs) (b4:LksAt w SK me n cs) (b5:Mc w L s cb c) (b6:HmW w SH hb L.pb me n s.shape.shared ps)
  (d1:∀k,SK k→¬SH k∧¬Blks L cb k) (d2:∀k,SH k→¬Blks L cb k) (e1:∀k,SK k→k<w.heap.size) (e2:∀k,SH k→k<w.heap.size):RNAt w (fun k=>SK k∨SH k∨Blks L cb k) nb me n page s c ps:=
 ⟨fun k hk=>by
  rcases hk with hk | hk | hk | hk
  ·exact e1 k hk
  ·exact e2 k hk
  ·rw [hk];exact b5.co.blk.lt
  ·exact b5.sp.lt k hk,L,hb,cb,v,cs,SK,SH,b1,b2,b3,b4,b5,b6,fun _ h=>h,d1,d2⟩
theorem RNAt.chg {w w':World} {F S:Nat→Prop} {nb me n:Nat} {page:Int} {s:Spc} {c:Cor} {ps:List (Int×Nat×PgS)} (h:RNAt w F nb me n page s c ps) (k:Chg S w w') (hs:∀j,F j→¬S j):RNAt w' F nb me n page s c ps:=by
 obtain ⟨L,hb,cb,v,cs,SK,SH,b1,b2,b3,b4,b5,b6,f,d1,d2⟩:=h.ex
 exact ⟨fun j hj=>Nat.lt_of_lt_of_le (h.bd j hj) k.size,L,hb,cb,v,cs,SK,SH,b1,k.blk b2 (hs _ (f _ (.inl b1))),b3.chg k fun j hj=>hs _ (f _ (.inl hj)),b4.chg k fun j hj=>hs _ (f _ (.inl hj)),⟨b5.sp.chg k fun j hj=>hs _ (f _ (.inr (.inr (.inr hj)))),b5.co.chg k (hs _ (f _ (.inr (.inr (.inl rfl))))),b5.ap⟩,b6.chg k fun j hj=>hs _ (f _ (.inr (.inl hj))),f,d1,d2⟩
theorem RNAt.chg0 {w w':World} {F:Nat→Prop} {nb me n:Nat} {page:Int} {s:Spc} {c:Cor} {ps:List (Int×Nat×PgS)} (h:RNAt w F nb me n page s c ps) (k:Chg NoB w w'):RNAt w' F nb me n page s c ps:=h.chg k fun _ _=>id
theorem nDone_out {w:World} {F:Nat→Prop} {nb me n:Nat} {page:Int} {s:Spc} {c:Cor} {ps:List (Int×Nat×PgS)} (h:RNAt w F nb me n page s c ps) (done:Bool) (op rd rs rt im cause access size:Int) (pc addr old new:Nat) (ha:addr<1073741824) :
  Calls Tryz.prog 138 #[.pointer (some ⟨nb,0,none⟩),.agg #[.bool done,.int .i64 op,.int .i64 rd,.int .i64 rs,.int .i64 rt,.int .i64 im,.int .u64 pc,.int .i64 cause,.int .i64 access,.int .u64 addr,.int .i64 size,.int .u64 old,.int .u64 new]] w (RetW (.agg #[.int .i64 2,.bool done,.int .i64 op,.int .i64 rd,.int .i64 rs,.int .i64 rt,.int .i64 im,.int .u64 pc,.int .i64 cause,.int .i64 access,.int .u64 addr,.int .i64 size,.int .u64 old,.int .u64 new,.int .i64 (-1)]) fun w'=>Chg NoB w w'):=by
 obtain ⟨L,hb,cb,v,cs,SK,SH,b1,b2,b3,b4,b5,b6,f,d1,d2⟩:=h.ex
 have c0:=((Chg.refl NoB w).alloc (.cells #[.bool done,.int .i64 op,.int .i64 rd,.int .i64 rs,.int .i64 rt,.int .i64 im,.int .u64 pc,.int .i64 cause,.int .i64 access,.int .u64 addr,.int .i64 size,.int .u64 old,.int .u64 new] 69)).alloc (.cells #[.int .i64 0,.bool false,.int .i64 0,.int .i64 0,.int .i64 0,.int .i64 0,.int .i64 0,.int .u64 0,.int .i64 0,.int .i64 0,.int .u64 0,.int .i64 0,.int .u64 0,.int .u64 0,.int .i64 0] 86)
 have HBD:=Lib.hid ((Blk.new w #[.bool done,.int .i64 op,.int .i64 rd,.int .i64 rs,.int .i64 rt,.int .i64 im,.int .u64 pc,.int .i64 cause,.int .i64 access,.int .u64 addr,.int .i64 size,.int .u64 old,.int .u64 new] 69).alloc (.cells #[.int .i64 0,.bool false,.int .i64 0,.int .i64 0,.int .i64 0,.int .i64 0,.int .i64 0,.int .u64 0,.int .i64 0,.int .i64 0,.int .u64 0,.int .i64 0,.int .u64 0,.int .u64 0,.int .i64 0] 86))
 have HBE:Hid (Blk ((w.alloc (.cells #[.bool done,.int .i64 op,.int .i64 rd,.int .i64 rs,.int .i64 rt,.int .i64 im,.int .u64 pc,.int .i64 cause,.int .i64 access,.int .u64 addr,.int .i64 size,.int .u64 old,.int .u64 new] 69)).alloc (.cells #[.int .i64 0,.bool false,.int .i64 0,.int .i64 0,.int .i64 0,.int .i64 0,.int .i64 0,.int .u64 0,.int .i64 0,.int .i64 0,.int .u64 0,.int .i64 0,.int .u64 0,.int .u64 0,.int .i64 0] 86)) (w.heap.size+1) #[.int .i64 0,.bool false,.int .i64 0,.int .i64 0,.int .i64 0,.int .i64 0,.int .i64 0,.int .u64 0,.int .i64 0,.int .i64 0,.int .u64 0,.int .i64 0,.int .u64 0,.int .u64 0,.int .i64 0] 86):=Lib.hid (by
  have:=Blk.new (w.alloc (.cells #[.bool done,.int .i64 op,.int .i64 rd,.int .i64 rs,.int .i64 rt,.int .i64 im,.int .u64 pc,.int .i64 cause,.int .i64 access,.int .u64 addr,.int .i64 size,.int .u64 old,.int .u64 new] 69)) #[.int .i64 0,.bool false,.int .i64 0,.int .i64 0,.int .i64 0,.int .i64 0,.int .i64 0,.int .u64 0,.int .i64 0,.int .i64 0,.int .u64 0,.int .i64 0,.int .u64 0,.int .u64 0,.int .i64 0] 86
  rwa [show (w.alloc (.cells #[.bool done,.int .i64 op,.int .i64 rd,.int .i64 rs,.int .i64 rt,.int .i64 im,.int .u64 pc,.int .i64 cause,.int .i64 access,.int .u64 addr,.int .i64 size,.int .u64 old,.int .u64 new] 69)).heap.size=w.heap.size+1 by simp] at this)
 have HBN:=Lib.hid (c0.blk0 b2)
 have HSp:=Lib.hid (b5.sp.chg0 c0)
 have HC:=Lib.hid c0
 have HAd:=Lib.hid ha
 clear h b1 b2 b3 b4 b5 b6 f d1 d2 c0 ha;go_enter Tryz.func138,Tryz.ntmps138;go_upto_region 1 with fail;obtain ⟨w0,hw0⟩:∃x,(w.alloc (.cells #[.bool done,.int .i64 op,.int .i64 rd,.int .i64 rs,.int .i64 rt,.int .i64 im,.int .u64 pc,.int .i64 cause,.int .i64 access,.int .u64 addr,.int .i64 size,.int .u64 old,.int .u64 new] 69)).alloc (.cells #[.int .i64 0,.bool false,.int .i64 0,.int .i64 0,.int .i64 0,.int .i64 0,.int .i64 0,.int .u64 0,.int .i64 0,.int .i64 0,.int .u64 0,.int .i64 0,.int .u64 0,.int .u64 0,.int .i64 0] 86)=x:=⟨_,rfl⟩
 rw [hw0] at HBD HBE HBN HSp HC
 simp only [hw0]
 clear hw0;generalize hb1:w.heap.size+1=b1 at *;generalize hb0:w.heap.size=b0 at *;have HZ:=Lib.hid (And.intro hb0 hb1)
 clear hb0 hb1;have g:=HBN.out.ever
 have gl:=HBN.out.everL
 have gd:=HBD.out.ever
 have gdl:=HBD.out.everL
 have cc:=Chg.refl NoB w0
 have HW:=Lib.hid fun w' (k:Chg NoB w0 w')=>which_under (HSp.out.chg0 k) addr HAd.out
 refine wp_region_mix 11 [(true,0),(true,1),(true,2),(true,3),(true,4),(true,5),(false,6),(true,7),(true,8),(true,9),(false,10)] (fun w'=>Chg NoB w0 w') (by kernel_rfl) (by kernel_rfl) (fun _ _ _ _ _ h=>h) (cc.drew) ?_
 simp only [pickMix_nil,pickMix_cons,Option.getD_some,List.getElem?_toArray,List.getElem?_cons_zero,List.getElem?_cons_succ,List.cons_append,List.nil_append,List.drop_succ_cons,List.drop_zero]
 iterate 6
  refine wpMix_take rfl ?_;apply Exists.intro;refine ⟨fun wS hS=>?_,?_⟩
  ·try dsimp only at hS
   have cS:=hS
   go_simp;try rfl
  simp only [Act.put,List.setIfInBounds_toArray,List.set_cons_zero,List.set_cons_succ]
 refine wpMix_force rfl (fun K hK=>?_)
 go_simp;refine (HW.out _ cc.drew).mono ?_
 rintro e w9 ⟨rfl,hw⟩;subst hw;refine hK _ _ cc.drew ?_
 clear hK K;iterate 3
  refine wpMix_take rfl ?_;apply Exists.intro;refine ⟨fun wS hS=>?_,?_⟩
  ·try dsimp only at hS
   have cS:=hS
   go_simp;try rfl
  simp only [Act.put,List.setIfInBounds_toArray,List.set_cons_zero,List.set_cons_succ]
 refine wpMix_force rfl (fun K hK=>?_)
 go_simp;refine hK _ _ cc.drew ?_
 clear hK K;refine wpMix_nil ?_
 obtain ⟨b,hbz⟩:∃b,(size == 0)=b:=⟨_,rfl⟩
 have hbz2:decide (size=0)=b:=hbz
 have hE0:=HBE.out.drew
 have hD0:=HBD.out.drew
 have HCd:=Lib.hid (HC.out.step cc.drew)
 clear g gl gd gdl cc HW;generalize w0.drew=wd at *;have dd:=hD0.cell
 have ddl:=hD0.lt
 have k:=hE0.cell
 have kz:=hE0.frozen
 have kl:=hE0.lt
 have HSA:=store_all hE0 [.int .i64 2,.bool done,.int .i64 op,.int .i64 rd,.int .i64 rs,.int .i64 rt,.int .i64 im,.int .u64 pc,.int .i64 cause,.int .i64 access,.int .u64 addr,.int .i64 size,.int .u64 old,.int .u64 new,.int .i64 (-1)] rfl
 have HF:Hid (Chg NoB w (wd.setCells b1 0 [.int .i64 2,.bool done,.int .i64 op,.int .i64 rd,.int .i64 rs,.int .i64 rt,.int .i64 im,.int .u64 pc,.int .i64 cause,.int .i64 access,.int .u64 addr,.int .i64 size,.int .u64 old,.int .u64 new,.int .i64 (-1)])):=Lib.hid (HCd.out.trans HSA.2 fun k hk e=>by have e:k=b1:=e;have:=HZ.out;omega)
 obtain ⟨w5,hw5⟩:∃x,wd.setCells b1 0 [.int .i64 2,.bool done,.int .i64 op,.int .i64 rd,.int .i64 rs,.int .i64 rt,.int .i64 im,.int .u64 pc,.int .i64 cause,.int .i64 access,.int .u64 addr,.int .i64 size,.int .u64 old,.int .u64 new,.int .i64 (-1)]=x:=⟨_,rfl⟩
 rw [hw5] at HF HSA
 replace hw5:(((((((((((((((wd.setCell ⟨b1,0,none⟩ (.int .i64 2)).setCell ⟨b1,1,none⟩ (.bool done)).setCell ⟨b1,2,none⟩ (.int .i64 op)).setCell ⟨b1,3,none⟩ (.int .i64 rd)).setCell ⟨b1,4,none⟩ (.int .i64 rs)).setCell ⟨b1,5,none⟩ (.int .i64 rt)).setCell ⟨b1,6,none⟩ (.int .i64 im)).setCell ⟨b1,7,none⟩ (.int .u64 pc)).setCell ⟨b1,8,none⟩ (.int .i64 cause)).setCell ⟨b1,9,none⟩ (.int .i64 access)).setCell ⟨b1,10,none⟩ (.int .u64 addr)).setCell ⟨b1,11,none⟩ (.int .i64 size)).setCell ⟨b1,12,none⟩ (.int .u64 old)).setCell ⟨b1,13,none⟩ (.int .u64 new)).setCell ⟨b1,14,none⟩ (.int .i64 (-1)))=w5:=hw5
 have q:=HSA.1.cell
 have ql:=HSA.1.lt
 clear hE0 HSA;cases b <;>
 ·go_wp2_with fail;exact bodyPost_ret (v:=.agg #[.int .i64 2,.bool done,.int .i64 op,.int .i64 rd,.int .i64 rs,.int .i64 rt,.int .i64 im,.int .u64 pc,.int .i64 cause,.int .i64 access,.int .u64 addr,.int .i64 size,.int .u64 old,.int .u64 new,.int .i64 (-1)]) (by simp [results,Tryz.results138,go_sem,q]) rfl ⟨rfl,HF.out⟩
theorem nDone_in {w:World} {F:Nat→Prop} {nb me n:Nat} {page:Int} {s:Spc} {c:Cor} {ps:List (Int×Nat×PgS)} (h:RNAt w F nb me n page s c ps) (done:Bool) (op rd rs rt im cause access size:Int) (pc addr old new:Nat) (hsz:size≠0) (num:Nat) (ha:(addr:Int)=1073741824+4096*(num:Int)) (hnum:(num:Int)<s.shape.shared) (hsh:s.shape.shared≤65536) {pb:Nat} {st:PgS} (hf:hLook ps num=some (pb,st)) (hfo:st.forget<0) (hset:SetOk s num st.right) (hshape:(setF s num st.right).2.shape=s.shape) :
  Calls Tryz.prog 138 #[.pointer (some ⟨nb,0,none⟩),.agg #[.bool done,.int .i64 op,.int .i64 rd,.int .i64 rs,.int .i64 rt,.int .i64 im,.int .u64 pc,.int .i64 cause,.int .i64 access,.int .u64 addr,.int .i64 size,.int .u64 old,.int .u64 new]] w (RetW (.agg #[.int .i64 2,.bool done,.int .i64 op,.int .i64 rd,.int .i64 rs,.int .i64 rt,.int .i64 im,.int .u64 pc,.int .i64 cause,.int .i64 access,.int .u64 addr,.int .i64 size,.int .u64 old,.int .u64 new,.int .i64 num]) fun w'=>∃F',RNAt w' F' nb me n page (setF s num st.right).2 c (hPut ps pb { st with held:=false})∧(∀k,F' k→F k∨w.heap.size≤k)∧Chg F w w'):=by
 obtain ⟨L,hb,cb,v,cs,SK,SH,b1,b2,b3,b4,b5,b6,f,d1,d2⟩:=h.ex
 have c0:=((Chg.refl NoB w).alloc (.cells #[.bool done,.int .i64 op,.int .i64 rd,.int .i64 rs,.int .i64 rt,.int .i64 im,.int .u64 pc,.int .i64 cause,.int .i64 access,.int .u64 addr,.int .i64 size,.int .u64 old,.int .u64 new] 69)).alloc (.cells #[.int .i64 0,.bool false,.int .i64 0,.int .i64 0,.int .i64 0,.int .i64 0,.int .i64 0,.int .u64 0,.int .i64 0,.int .i64 0,.int .u64 0,.int .i64 0,.int .u64 0,.int .u64 0,.int .i64 0] 86)
 have HBD:=Lib.hid ((Blk.new w #[.bool done,.int .i64 op,.int .i64 rd,.int .i64 rs,.int .i64 rt,.int .i64 im,.int .u64 pc,.int .i64 cause,.int .i64 access,.int .u64 addr,.int .i64 size,.int .u64 old,.int .u64 new] 69).alloc (.cells #[.int .i64 0,.bool false,.int .i64 0,.int .i64 0,.int .i64 0,.int .i64 0,.int .i64 0,.int .u64 0,.int .i64 0,.int .i64 0,.int .u64 0,.int .i64 0,.int .u64 0,.int .u64 0,.int .i64 0] 86))
 have HBE:Hid (Blk ((w.alloc (.cells #[.bool done,.int .i64 op,.int .i64 rd,.int .i64 rs,.int .i64 rt,.int .i64 im,.int .u64 pc,.int .i64 cause,.int .i64 access,.int .u64 addr,.int .i64 size,.int .u64 old,.int .u64 new] 69)).alloc (.cells #[.int .i64 0,.bool false,.int .i64 0,.int .i64 0,.int .i64 0,.int .i64 0,.int .i64 0,.int .u64 0,.int .i64 0,.int .i64 0,.int .u64 0,.int .i64 0,.int .u64 0,.int .u64 0,.int .i64 0] 86)) (w.heap.size+1) #[.int .i64 0,.bool false,.int .i64 0,.int .i64 0,.int .i64 0,.int .i64 0,.int .i64 0,.int .u64 0,.int .i64 0,.int .i64 0,.int .u64 0,.int .i64 0,.int .u64 0,.int .u64 0,.int .i64 0] 86):=Lib.hid (by
  have:=Blk.new (w.alloc (.cells #[.bool done,.int .i64 op,.int .i64 rd,.int .i64 rs,.int .i64 rt,.int .i64 im,.int .u64 pc,.int .i64 cause,.int .i64 access,.int .u64 addr,.int .i64 size,.int .u64 old,.int .u64 new] 69)) #[.int .i64 0,.bool false,.int .i64 0,.int .i64 0,.int .i64 0,.int .i64 0,.int .i64 0,.int .u64 0,.int .i64 0,.int .i64 0,.int .u64 0,.int .i64 0,.int .u64 0,.int .u64 0,.int .i64 0] 86
  rwa [show (w.alloc (.cells #[.bool done,.int .i64 op,.int .i64 rd,.int .i64 rs,.int .i64 rt,.int .i64 im,.int .u64 pc,.int .i64 cause,.int .i64 access,.int .u64 addr,.int .i64 size,.int .u64 old,.int .u64 new] 69)).heap.size=w.heap.size+1 by simp] at this)
 have HBN:=Lib.hid (c0.blk0 b2)
 have HSp:=Lib.hid (b5.sp.chg0 c0)
 have HC:=Lib.hid c0
 have HH:=Lib.hid (fun w' (k:Chg NoB w w')=>hDone_w (b6.chg0 k) (fun j hj=>by have:=h.bd j (f j (.inr (.inl hj)));have:=k.size;omega) (b5.sp.chg0 k) (fun j hj e=>d2 j hj (.inr e)) num hnum hf hfo hset)
 have HR:=Lib.hid (And.intro (h.chg0 c0) (And.intro hshape (And.intro b1 (And.intro b2 (And.intro b3 (And.intro b4 (And.intro b5 (And.intro f (And.intro d1 (And.intro d2 h.bd))))))))))
 have HAd:=Lib.hid (And.intro ha (And.intro hnum hsh))
 have q1:(size == 0)=false:=by simpa using hsz
 have q2:decide (size=0)=false:=decide_eq_false hsz
 clear h b1 b2 b3 b4 b5 b6 f d1 d2 c0 ha hnum hsh hf hfo hset hshape hsz;go_enter Tryz.func138,Tryz.ntmps138;go_upto_region 1 with fail;obtain ⟨w0,hw0⟩:∃x,(w.alloc (.cells #[.bool done,.int .i64 op,.int .i64 rd,.int .i64 rs,.int .i64 rt,.int .i64 im,.int .u64 pc,.int .i64 cause,.int .i64 access,.int .u64 addr,.int .i64 size,.int .u64 old,.int .u64 new] 69)).alloc (.cells #[.int .i64 0,.bool false,.int .i64 0,.int .i64 0,.int .i64 0,.int .i64 0,.int .i64 0,.int .u64 0,.int .i64 0,.int .i64 0,.int .u64 0,.int .i64 0,.int .u64 0,.int .u64 0,.int .i64 0] 86)=x:=⟨_,rfl⟩
 rw [hw0] at HBD HBE HBN HSp HC HR
 simp only [hw0]
 clear hw0;generalize hb1:w.heap.size+1=b1 at *;generalize hb0:w.heap.size=b0 at *;have HZ:=Lib.hid (And.intro hb0 hb1)
 clear hb0 hb1;have g:=HBN.out.ever
 have gl:=HBN.out.everL
 have gd:=HBD.out.ever
 have gdl:=HBD.out.everL
 have cc:=Chg.refl NoB w0
 have HW:=Lib.hid fun w' (k:Chg NoB w0 w')=>which_in (HSp.out.chg0 k) addr num HAd.out.1 (by omega) (by have:=HAd.out.2;omega) HAd.out.2.2 (by have:=HAd.out.2.1;omega) HAd.out.2.1
 refine wp_region_mix 11 [(true,0),(true,1),(true,2),(true,3),(true,4),(true,5),(false,6),(true,7),(true,8),(true,9),(false,10)] (fun w'=>Chg NoB w0 w') (by kernel_rfl) (by kernel_rfl) (fun _ _ _ _ _ h=>h) (cc.drew) ?_
 simp only [pickMix_nil,pickMix_cons,Option.getD_some,List.getElem?_toArray,List.getElem?_cons_zero,List.getElem?_cons_succ,List.cons_append,List.nil_append,List.drop_succ_cons,List.drop_zero]
 iterate 6
  refine wpMix_take rfl ?_;apply Exists.intro;refine ⟨fun wS hS=>?_,?_⟩
  ·try dsimp only at hS
   have cS:=hS
   go_simp;try rfl
  simp only [Act.put,List.setIfInBounds_toArray,List.set_cons_zero,List.set_cons_succ]
 refine wpMix_force rfl (fun K hK=>?_)
 go_simp;refine (HW.out _ cc.drew).mono ?_
 rintro e w9 ⟨rfl,hw⟩;subst hw;refine hK _ _ cc.drew ?_
 clear hK K;iterate 3
  refine wpMix_take rfl ?_;apply Exists.intro;refine ⟨fun wS hS=>?_,?_⟩
  ·try dsimp only at hS
   have cS:=hS
   go_simp;try rfl
  simp only [Act.put,List.setIfInBounds_toArray,List.set_cons_zero,List.set_cons_succ]
 refine wpMix_force rfl (fun K hK=>?_)
 go_simp;refine hK _ _ cc.drew ?_
 clear hK K;refine wpMix_nil ?_
 have HCd:=Lib.hid (HC.out.step cc.drew)
 have hE0:=HBE.out.drew
 have hD0:=HBD.out.drew
 have hN0:=HBN.out.drew
 have HHd:=Lib.hid (HH.out _ HCd.out)
 clear g gl gd gdl cc HW HH HSp;generalize w0.drew=wd at *;have HE0:=Lib.hid hE0
 have HD0:=Lib.hid hD0
 have HN0:=Lib.hid hN0
 have dd:=hD0.cell
 have ddl:=hD0.lt
 have nn:=hN0.cell
 have nnl:=hN0.lt
 clear hE0 hD0 hN0;go_wp2_with fail;refine HHd.out.mono ?_
 rintro e w2 ⟨rfl,L',hE,hH2,hS2,hC2⟩;obtain ⟨-,hshape,b1',b2,b3,b4,b5,f,d1,d2,bd⟩:=HR.out
 have hbF:∀k,(SH k∨L.All k)→k<b0:=fun k hk=>bd k (f k (hk.elim (fun h=>.inr (.inl h)) fun h=>.inr (.inr (.inr h))))
 have hbz:=HZ.out
 have x1:=hC2.blk HN0.out (fun e=>e.elim (d1 _ b1').1 fun e=>(d1 _ b1').2 (.inr e))
 have x2:=hC2.blk HD0.out (fun e=>by have:=hbF _ e;omega)
 have x3:=hC2.blk HE0.out (fun e=>by have:=hbF _ e;omega)
 have hlt1:b1<wd.heap.size:=HE0.out.lt
 have y3:=(b3.chg0 HCd.out).chg hC2 fun k hk e=>e.elim (d1 k hk).1 fun e=>(d1 k hk).2 (.inr e)
 have y4:=(b4.chg HCd.out fun _ _=>id).chg hC2 fun k hk e=>e.elim (d1 k hk).1 fun e=>(d1 k hk).2 (.inr e)
 have hcb:¬(SH cb∨L.All cb):=fun e=>e.elim (fun e=>d2 cb e (.inl rfl)) b5.ap
 have hcbl:cb<b0:=bd cb (f cb (.inr (.inr (.inl rfl))))
 have y5:Mc w2 L' (setF s num st.right).2 cb c:=⟨hS2,(b5.co.chg HCd.out id).chg hC2 hcb,fun e=>(hE.2.2 cb e).elim b5.ap fun e=>by omega⟩
 have y6:HmW w2 SH hb L'.pb me n (setF s num st.right).2.shape.shared (hPut ps pb { st with held:=false}):=by rw [hE.1,hshape];exact hH2
 have x1':Blk w2 nb #[.int .i64 me,.pointer (some ⟨L'.pb,0,none⟩),.pointer (some ⟨hb,0,none⟩),.pointer (some ⟨cb,0,none⟩),v,.int .i64 page] 115:=by rw [hE.1];exact x1
 have hLn:∀k,Blks L' cb k→Blks L cb k∨wd.heap.size≤k:=fun k hk=>hk.elim (fun e=>.inl (.inl e)) fun e=>(hE.2.2 k e).imp .inr id
 have hsz2:=hC2.size
 have hR2:=RNAt.make b1' x1' y3 y4 y5 y6 (fun k hk=>⟨(d1 k hk).1,fun e=>(hLn k e).elim (d1 k hk).2 fun e=>by have:=bd k (f k (.inl hk));omega⟩) (fun k hk e=>(hLn k e).elim (d2 k hk) fun e=>by have:=bd k (f k (.inr (.inl hk)));omega) (fun k hk=>by have:=bd k (f k (.inl hk));omega) (fun k hk=>by have:=bd k (f k (.inr (.inl hk)));omega)
 have hF2:∀k,(SK k∨SH k∨Blks L' cb k)→F k∨wd.heap.size≤k:=fun k hk=>by
  rcases hk with h | h | h
  ·exact .inl (f k (.inl h))
  ·exact .inl (f k (.inr (.inl h)))
  ·exact (hLn k h).imp (fun e=>f k (.inr (.inr e))) id
 have HSA:=store_all x3 [.int .i64 2,.bool done,.int .i64 op,.int .i64 rd,.int .i64 rs,.int .i64 rt,.int .i64 im,.int .u64 pc,.int .i64 cause,.int .i64 access,.int .u64 addr,.int .i64 size,.int .u64 old,.int .u64 new,.int .i64 num] rfl
 have hne:∀k,(SK k∨SH k∨Blks L' cb k)→¬(k=b1):=fun k hk e=>(hF2 k hk).elim (fun h=>by have:=bd k h;omega) fun h=>by omega
 have HF:Hid (∃F',RNAt (w2.setCells b1 0 [.int .i64 2,.bool done,.int .i64 op,.int .i64 rd,.int .i64 rs,.int .i64 rt,.int .i64 im,.int .u64 pc,.int .i64 cause,.int .i64 access,.int .u64 addr,.int .i64 size,.int .u64 old,.int .u64 new,.int .i64 num]) F' nb me n page (setF s num st.right).2 c (hPut ps pb { st with held:=false})∧(∀k,F' k→F k∨w.heap.size≤k)∧Chg F w (w2.setCells b1 0 [.int .i64 2,.bool done,.int .i64 op,.int .i64 rd,.int .i64 rs,.int .i64 rt,.int .i64 im,.int .u64 pc,.int .i64 cause,.int .i64 access,.int .u64 addr,.int .i64 size,.int .u64 old,.int .u64 new,.int .i64 num])):=Lib.hid ⟨_,hR2.chg HSA.2 (fun k hk=>hne k hk),fun k hk=>(hF2 k hk).imp id fun e=>by omega,((HCd.out.mono (S':=F) fun _ _ e=>e.elim).trans hC2 fun k _ e=>f k (e.elim (fun h=>.inr (.inl h)) fun h=>.inr (.inr (.inr h)))).trans HSA.2 fun k hk e=>by have e:k=b1:=e;omega⟩
 obtain ⟨w5,hw5⟩:∃x,w2.setCells b1 0 [.int .i64 2,.bool done,.int .i64 op,.int .i64 rd,.int .i64 rs,.int .i64 rt,.int .i64 im,.int .u64 pc,.int .i64 cause,.int .i64 access,.int .u64 addr,.int .i64 size,.int .u64 old,.int .u64 new,.int .i64 num]=x:=⟨_,rfl⟩
 rw [hw5] at HF HSA
 replace hw5:(((((((((((((((w2.setCell ⟨b1,0,none⟩ (.int .i64 2)).setCell ⟨b1,1,none⟩ (.bool done)).setCell ⟨b1,2,none⟩ (.int .i64 op)).setCell ⟨b1,3,none⟩ (.int .i64 rd)).setCell ⟨b1,4,none⟩ (.int .i64 rs)).setCell ⟨b1,5,none⟩ (.int .i64 rt)).setCell ⟨b1,6,none⟩ (.int .i64 im)).setCell ⟨b1,7,none⟩ (.int .u64 pc)).setCell ⟨b1,8,none⟩ (.int .i64 cause)).setCell ⟨b1,9,none⟩ (.int .i64 access)).setCell ⟨b1,10,none⟩ (.int .u64 addr)).setCell ⟨b1,11,none⟩ (.int .i64 size)).setCell ⟨b1,12,none⟩ (.int .u64 old)).setCell ⟨b1,13,none⟩ (.int .u64 new)).setCell ⟨b1,14,none⟩ (.int .i64 num))=w5:=hw5
 have d2x:=x2.cell
 have d2l:=x2.lt
 have k:=x3.cell
 have kz:=x3.frozen
 have kl:=x3.lt
 have q:=HSA.1.cell
 have ql:=HSA.1.lt
 have HPo:=Lib.hid (nPost_none nb w2)
 clear hE hH2 hS2 hC2 hshape b1' b2 b3 b4 b5 f d1 d2 bd hbF hbz x1 x2 x3 hlt1 y3 y4 hcb hcbl y5 y6 x1' hLn hsz2 hR2 hF2 hne HSA dd ddl nn nnl HR;go_wp2_with fail;refine HPo.out.mono ?_
 rintro e w9 ⟨rfl,hw⟩;subst hw;go_wp2_with fail;exact bodyPost_ret (v:=.agg #[.int .i64 2,.bool done,.int .i64 op,.int .i64 rd,.int .i64 rs,.int .i64 rt,.int .i64 im,.int .u64 pc,.int .i64 cause,.int .i64 access,.int .u64 addr,.int .i64 size,.int .u64 old,.int .u64 new,.int .i64 num]) (by simp [results,Tryz.results138,go_sem,q]) rfl ⟨rfl,HF.out⟩
end Go.Proofs.YtjhnnjgnkkjmkaaGreatDoor
