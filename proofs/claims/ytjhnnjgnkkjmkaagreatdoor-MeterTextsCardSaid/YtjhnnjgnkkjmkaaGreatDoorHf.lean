/- The audit: what is read of a space: frames, used ones, which page an address is in. No condition. The audit: how many frames a space needs; a new home; links. No condition. The audit: a new node: its space, its home, its core, its links. No condition. The audit: a new node. No condition. -/
import Derived.Test.YtjhnnjgnkkjmkaaGreatDoorHe
import Derived.Test.YtjhnnjgnkkjmkaaGreatDoorGz
import Derived.Test.YtjhnnjgnkkjmkaaGreatDoorHa
import Derived.Deep.LoopGhost
import Derived.Test.YtjhnnjgnkkjmkaaGreatDoorHb
import Derived.Test.YtjhnnjgnkkjmkaaGreatDoorHd
set_option maxHeartbeats 4000000
set_option maxRecDepth 100000
set_option linter.unusedVariables false
set_option linter.unusedSimpArgs false
namespace Go.Proofs.YtjhnnjgnkkjmkaaGreatDoor
open Go.RowKit Go.RR
theorem sFrames_any {w:World} {L:Pl} {s:Spc} (h:SpAt w L s):Calls Tryz.prog 69 #[.pointer (some ⟨L.pb,0,none⟩)] w (RetW (.int .i64 s.u.fr) fun w'=>w'=w):=by
 have f3:=h.blk.cell' (i:=3) (v:=.pointer (some ⟨L.mb,0,none⟩)) rfl
 have fl:=h.blk.lt
 have HF:=Lib.hid (frames_any h.mu.mem)
 clear h;go_enter Tryz.func69,Tryz.ntmps69;go_wp2_with fail;refine HF.out.mono ?_
 rintro e w1 ⟨rfl,rfl⟩;go_wp2_with fail;go_ret;exact ⟨rfl,rfl⟩
theorem which_in {w:World} {L:Pl} {s:Spc} (h:SpAt w L s) (v:Nat) (n:Int) (hv:(v:Int)=1073741824+4096*n) (h0:0≤n) (hn:n≤65536) (hs:s.shape.shared≤65536) (hs0:0≤s.shape.shared) (hc:n<s.shape.shared) :
  Calls Tryz.prog 173 #[.pointer (some ⟨L.pb,0,none⟩),.int .u64 v] w (RetW (.tuple #[.int .i64 n,.bool true]) fun w'=>w'=w):=by
 obtain ⟨sh,hsh⟩:∃k,s.shape.shared=k:=⟨_,rfl⟩
 have f2:=h.blk.cell' (i:=2) (v:=.int .i64 s.shape.shared) rfl
 rw [hsh] at f2 hs hc hs0
 have fl:=h.blk.lt
 have t1:decide ((v:Int)<1073741824)=false:=decide_eq_false (by omega)
 have q1:IntKind.u64.wrap ((v:Int) - 1073741824)=4096*n:=by rw [IntKind.wrap_u64];omega
 have q2:IntKind.u64.wrap ((IntKind.u64.wrap ((v:Int) - 1073741824)).tdiv 4096)=n:=by rw [q1,Int.tdiv_eq_ediv_of_nonneg (by omega),IntKind.wrap_u64];omega
 have q3:IntKind.u64.wrap sh=sh:=by rw [IntKind.wrap_u64];omega
 have t2:decide (IntKind.u64.wrap sh≤IntKind.u64.wrap ((IntKind.u64.wrap ((v:Int) - 1073741824)).tdiv 4096))=false:=by rw [q2,q3];exact decide_eq_false (by omega)
 have HQ:Hid (wrap64 n=n):=Lib.hid (IntWalk.wrap64_in _ (by omega))
 have HQ2:=Lib.hid q2
 clear h hsh hv h0 hn hs hc q1 q2 q3 hs0;go_enter Tryz.func173,Tryz.ntmps173;go_wp2_with fail;rw [HQ2.out,HQ.out];go_ret2;exact ⟨rfl,rfl⟩
theorem SpAt.bdd {w:World} {L:Pl} {s:Spc} (h:SpAt w L s):∀k,L.All k→k<w.heap.size:=fun k hk=>hk.elim (fun e=>(h.ap.nm k e).1) (h.ap.bd k)
theorem sNeed_any (p:Int) (hp:p=1∨p=2) (w:World):Calls Tryz.prog 41 #[.agg #[.int .i64 1,.int .i64 1,.int .i64 p]] w (RetW (.int .i64 (7+p)) fun w'=>Chg NoB w w'):=by
 have HR:=Lib.hid fun w'=>shapeRight_any ⟨1,1,p⟩ w'
 have t1:(⟨1,1,p⟩:Shp).ok=true:=by rcases hp with rfl | rfl <;> rfl
 rw [t1] at HR
 clear t1;have k0:Chg NoB w (w.alloc (.cells #[.int .i64 1,.int .i64 1,.int .i64 p] 104)):=(Chg.refl NoB w).alloc _
 have hB:=Lib.hid (Blk.new w #[.int .i64 1,.int .i64 1,.int .i64 p] 104)
 have K0:=Lib.hid k0
 clear k0;rcases hp with rfl | rfl
 all_goals
  go_enter Tryz.func41,Tryz.ntmps41;go_wp2_with fail;refine (HR.out _).mono ?_
  rintro e w1 ⟨rfl,C1⟩;have hB:=C1.blk0 hB.out
  have g:=hB.cell
  have gl:=hB.lt
  have HC:=Lib.hid (K0.out.step C1)
  clear hB C1 HR;go_wp2_with fail;go_ret;exact ⟨rfl,HC.out⟩
theorem homeNew_any {w:World} {L:Pl} {s:Spc} (h:SpAt w L s) (me n:Nat) (p:Int) (hp:p=1∨p=2) (hn:2≤n) (hn2:n≤16) (hm:me<n) (hfr:7+p≤s.u.fr) :
  Calls Tryz.prog 44 #[.int .i64 me,.int .i64 n,.pointer (some ⟨L.pb,0,none⟩),.agg #[.int .i64 1,.int .i64 1,.int .i64 p]] w
   (RetV fun v w'=>∃hb mb,v = .tuple #[.pointer (some ⟨hb,0,none⟩),.int .i64 0]∧w.heap.size≤hb∧w.heap.size≤mb∧HmAt w' ⟨hb,mb,L.pb,me,n,1,1,p⟩ []∧Chg NoB w w'):=by
 have HS:=Lib.hid fun w'=>sNeed_any p hp w'
 have HF:=Lib.hid fun w' (c:Chg NoB w w')=>sFrames_any (h.chg0 c)
 obtain ⟨fr,hfr'⟩:∃k,s.u.fr=k:=⟨_,rfl⟩
 rw [hfr'] at hfr HF
 have hm2:(me:Int)<16:=by omega
 have t1:decide ((n:Int)<2)=false:=decide_eq_false (by omega)
 have t2:decide ((16:Int)<n)=false:=decide_eq_false (by omega)
 have t3:decide ((me:Int)<0)=false:=decide_eq_false (by omega)
 have t4:decide ((n:Int)≤me)=false:=decide_eq_false (by omega)
 have t5:decide ((fr:Int)<7+p)=false:=decide_eq_false (by omega)
 have q2:decide (n<2)=false:=decide_eq_false (by omega)
 have q3:decide (16<n)=false:=decide_eq_false (by omega)
 have q4:decide (n≤me)=false:=decide_eq_false (by omega)
 have hB:=Lib.hid (Blk.new w #[.int .i64 1,.int .i64 1,.int .i64 p] 104)
 have hC:=Lib.hid ((Chg.refl NoB w).alloc (.cells #[.int .i64 1,.int .i64 1,.int .i64 p] 104))
 have hmm:=@run_makeMap Tryz.prog
 clear h hfr hfr' hp hn hn2 hm;go_enter Tryz.func44,Tryz.ntmps44;go_upto_region 1 with fail;generalize w.alloc (.cells #[.int .i64 1,.int .i64 1,.int .i64 p] 104)=w0 at *;have g:=hB.out.ever
 have gl:=hB.out.everL
 have HF0:=Lib.hid fun w' (c:Chg NoB w0 w')=>HF.out w' (hC.out.step c)
 have c0:=Chg.refl NoB w0
 clear hmm;go_upto_region 5 with fail;go_region_held3 (fun w'=>Chg NoB w0 w') ((repeat (first | with_reducible assumption | with_reducible apply Chg.drew | with_reducible apply Chg.drewN | with_reducible apply Chg.alloc))) (first | (go_at_call 69;(with_reducible refine (HF0.out _ (by with_reducible assumption)).mono ?_);rintro e w9 ⟨rfl,hw⟩;subst hw) | (go_at_call 41;(with_reducible refine (HS.out _).mono ?_);rintro e w9 ⟨rfl,hC'⟩;have c9:=Chg.step (by with_reducible assumption:Chg NoB w0 _) hC';clear hC'))
 rename_i w9 c9 _
 have HC9:=Lib.hid (hC.out.step c9)
 have hmm:=@run_makeMap Tryz.prog
 go_wp2_with fail;go_ret2
 have hz:=HC9.out.size
 have hm1:(w9.alloc (.map #[] 0)).heap[w9.heap.size]? = some (.map #[] 0):=at_top rfl
 have hB1:=Blk.new (w9.alloc (.map #[] 0)) #[.int .i64 me,.int .i64 n,.pointer (some ⟨L.pb,0,none⟩),.int .i64 1,.int .i64 1,.int .i64 p,.map (some w9.heap.size)] 186
 rw [World.size_alloc] at hB1
 exact ⟨_,rfl,_,_,rfl,by omega,hz,⟨hB1,MapAt.ofNew (at_alloc _ hm1),(fun p hp=>by cases hp),⟨_,_,at_alloc _ hm1,MapKept.stamped_empty _⟩,(fun p hp=>by cases hp)⟩,(HC9.out.alloc _).alloc _⟩
def LinkAt (w:World) (S:Nat→Prop) (v:Value):Prop:=∃lb sb rb,v = .pointer (some ⟨lb,0,none⟩)∧S lb∧S sb∧Blk w lb #[.pointer (some ⟨sb,0,none⟩),.pointer (some ⟨rb,0,none⟩),.bool false] 120∧Blk w sb sdC 144∧RvAt w S rb
theorem LinkAt.chg {w w':World} {S S':Nat→Prop} {v:Value} (h:LinkAt w S v) (c:Chg S' w w') (hs:∀k,S k→¬S' k):LinkAt w' S v:=by
 obtain ⟨lb,sb,rb,e,h1,h2,b1,b2,b3⟩:=h
 exact ⟨lb,sb,rb,e,h1,h2,c.blk b1 (hs _ h1),c.blk b2 (hs _ h2),b3.chg c hs⟩
theorem LinkAt.mono {w:World} {S S':Nat→Prop} {v:Value} (h:LinkAt w S v) (hs:∀k,k<w.heap.size→S k→S' k):LinkAt w S' v:=by
 obtain ⟨lb,sb,rb,e,h1,h2,b1,b2,b3⟩:=h
 exact ⟨lb,sb,rb,e,hs _ b1.lt h1,hs _ b2.lt h2,b1,b2,b3.mono hs⟩
def LksAt (w:World) (S:Nat→Prop) (me i:Nat) (cs:List Value):Prop:=∀j,j<i→∃v,cs[j]? = some v∧(j=me→v = .pointer none)∧(j≠me→LinkAt w S v)
theorem LksAt.chg {w w':World} {S S':Nat→Prop} {me i:Nat} {cs:List Value} (h:LksAt w S me i cs) (c:Chg S' w w') (hs:∀k,S k→¬S' k):LksAt w' S me i cs:=fun j hj=>by
 obtain ⟨v,h1,h2,h3⟩:=h j hj
 exact ⟨v,h1,h2,fun e=>(h3 e).chg c hs⟩
theorem LksAt.mono {w:World} {S S':Nat→Prop} {me i:Nat} {cs:List Value} (h:LksAt w S me i cs) (hs:∀k,k<w.heap.size→S k→S' k):LksAt w S' me i cs:=fun j hj=>by
 obtain ⟨v,h1,h2,h3⟩:=h j hj
 exact ⟨v,h1,h2,fun e=>(h3 e).mono hs⟩
structure NdAt (w:World) (S:Nat→Prop) (nb pb hb cb n me:Nat):Prop where
 s:S nb
 ex:∃v cs,Blk w nb #[.int .i64 me,.pointer (some ⟨pb,0,none⟩),.pointer (some ⟨hb,0,none⟩),.pointer (some ⟨cb,0,none⟩),v,.int .i64 (-1)] 115∧Sl w S 1 v n cs∧LksAt w S me n cs
theorem NdAt.chg {w w':World} {S S':Nat→Prop} {nb pb hb cb n me:Nat} (h:NdAt w S nb pb hb cb n me) (c:Chg S' w w') (hs:∀k,S k→¬S' k):NdAt w' S nb pb hb cb n me:=by
 obtain ⟨v,cs,h1,h2,h3⟩:=h.ex
 exact ⟨h.s,v,cs,c.blk h1 (hs _ h.s),h2.chg c hs,h3.chg c hs⟩
theorem NdAt.mono {w:World} {S S':Nat→Prop} {nb pb hb cb n me:Nat} (h:NdAt w S nb pb hb cb n me) (hs:∀k,k<w.heap.size→S k→S' k):NdAt w S' nb pb hb cb n me:=by
 obtain ⟨v,cs,h1,h2,h3⟩:=h.ex
 exact ⟨hs _ h1.lt h.s,v,cs,h1,h2.monoIn hs,h3.mono hs⟩
theorem LINKPi:(Tryz.prog.info? 118).map (fun i=>(i.zero,i.size,i.bytes))=some (some (.pointer none),1,8):=by kernel_rfl
theorem pages_any (v:Value) (m cap:Nat) (p:Option Addr) (hm:m≤4096) (w:World):Calls Tryz.prog 39 #[.slice p m cap] w (RetW (.int .i64 1) fun w'=>w'=w):=by
 by_cases h0:m=0
 ·subst h0;go_enter Tryz.func39,Tryz.ntmps39;go_wp2_with fail;go_ret;exact ⟨rfl,rfl⟩
 ·have q:((m:Int)+4096 - 1).tdiv 4096=1:=by rw [Int.tdiv_eq_ediv_of_nonneg (by omega)];omega
  have HH:=Lib.hid h0
  clear h0;go_enter Tryz.func39,Tryz.ntmps39;go_wp2_with fail;go_ret;exact ⟨rfl,rfl⟩
def ndShp (p:Int):Shp:=⟨1,1,p⟩
def ndSp0 (p:Int):Spc:=newS (ndShp p) (7+p).toNat 2 2
def ndSp (p:Int) (d:List Nat):Spc:={ ndSp0 p with u:={ (ndSp0 p).u with b:=codeF (ndSp0 p) 0 d (ndSp0 p).u.b}}
theorem nd_new (p:Nat) (hp:p=1∨p=2) (d:List Nat) (hd:∀x∈d,x<256) (hl:d.length≤4096) :
  LayOk (7+p) 0 65536 codeP (ndShp p).code.toNat 0 (t0S (7+p))∧LayOk (7+p) 0 131072 ownP (ndShp p).priv.toNat 0 (layF 0 65536 codeP (ndShp p).code.toNat 0 (t0S (7+p)) []).2∧
  (ndSp0 p).code.length=1∧(∀f∈(ndSp0 p).code,f<(ndSp0 p).u.fr)∧(ndSp0 p).u.fr=7+p∧
  ∃t1 t0,SpInv (ndSp p d) t1 t0∧(ndSp p d).stk.next=5∧(ndSp p d).stk.fin=7+p∧(∀j,j≠0→t1 j=none∧t0 j=none)∧(ndSp p d).code.length=1∧(ndSp p d).own.length=1∧
   (∀i x,d[i]? = some x→(ndSp p d).u.b (codeAt (ndSp p d) i)=x):=by
 obtain ⟨L1,L2,t1,t0,I0,nx,fin,no,cl,ol⟩:=new_inv (ndShp p) (7+p) 2 2 (by rcases hp with rfl | rfl <;> rfl) (by show (3:Int)+1+1≤((7+p:Nat):Int);omega) (by omega)
 have e0:newS (ndShp p) (7+p) 2 2=ndSp0 p:=by unfold ndSp0;rw [show (7+(p:Int)).toNat=7+p by omega]
 rw [e0] at I0 nx fin cl ol
 have cl1:(ndSp0 p).code.length=1:=cl
 have nx5:(ndSp0 p).stk.next=5:=nx
 have fr:(ndSp0 p).u.fr=7+p:=by rw [←e0];rfl
 obtain ⟨I1,hc⟩:=code_inv I0 hd (by rw [cl1];exact hl)
 refine ⟨L1,L2,cl1,fun f hf=>?_,fr,t1,t0,I1,nx5,fin,no,cl1,ol,hc⟩
 have hm:f∈(ndSp0 p).frames:=List.mem_append_left _ (List.mem_append_left _ hf)
 have h1:=(I0.ft f hm).1
 omega
theorem own_blk {w:World} {S:Nat→Prop} {E:TypeId} {size n:Nat} {v:Value} {us:List Value} (h:Own w S E size v n us) {k:Nat} (hk:v.ownBlock=some k):∃cur,Blk w k cur E:=by
 rcases h.2 with ⟨rfl,_⟩ | ⟨g,off,cap,cur,rfl,hg,hb,_⟩
 ·simp [Value.ownBlock] at hk
 ·simp only [Value.ownBlock,Option.some.injEq] at hk
  subst hk;exact ⟨cur,hb⟩
theorem blk_type {w:World} {b c:Nat} {cs cs':Array Value} {T T':TypeId} (h1:Blk w b cs T) (h2:Blk w c cs' T') (hs:T≠T'):¬b=c:=by
 rintro rfl;exact hs (h1.inj h2).2
theorem LinkAt.chgT {w w':World} {S S':Nat→Prop} {v:Value} (h:LinkAt w S v) (c:Chg S' w w') (hs:∀k,S' k→k<w.heap.size→∃cs T,Blk w k cs T∧T≠120∧T≠144∧T≠147):LinkAt w' S v:=by
 obtain ⟨lb,sb,rb,e,h1,h2,b1,b2,mb,h3,b3,b4⟩:=h
 have n1:¬S' lb:=fun e=>by obtain ⟨cs,T,hb,ht⟩:=hs _ e b1.lt;exact ht.1 (hb.inj b1).2
 have n2:¬S' sb:=fun e=>by obtain ⟨cs,T,hb,ht⟩:=hs _ e b2.lt;exact ht.2.1 (hb.inj b2).2
 have n3:¬S' rb:=fun e=>by obtain ⟨cs,T,hb,ht⟩:=hs _ e b3.lt;exact ht.2.2 (hb.inj b3).2
 have l4:=(Array.getElem?_eq_some_iff.1 b4).1
 have n4:¬S' mb:=fun e=>by
  obtain ⟨cs,T,hb,ht⟩:=hs _ e l4
  have hb:w.heap[mb]? = some (.cells cs T (0,0)):=hb
  rw [b4] at hb
  cases hb
 exact ⟨lb,sb,rb,e,h1,h2,c.blk b1 n1,c.blk b2 n2,mb,h3,c.blk b3 n3,(c.block mb l4 n4).trans b4⟩
theorem LksAt.chgT {w w':World} {S S':Nat→Prop} {me i:Nat} {cs:List Value} (h:LksAt w S me i cs) (c:Chg S' w w') (hs:∀k,S' k→k<w.heap.size→∃cs T,Blk w k cs T∧T≠120∧T≠144∧T≠147):LksAt w' S me i cs:=fun j hj=>by
 obtain ⟨v,h1,h2,h3⟩:=h j hj
 exact ⟨v,h1,h2,fun e=>(h3 e).chgT c hs⟩
structure NLay (w9 wr:World) (nb pb hb cb me m i:Nat) (v:Value) (cs:List Value):Prop where
 blk:Blk wr nb #[.int .i64 me,.pointer (some ⟨pb,0,none⟩),.pointer (some ⟨hb,0,none⟩),.pointer (some ⟨cb,0,none⟩),v,.int .i64 (-1)] 115
 own:Own wr (fun k=>w9.heap.size≤k) 118 1 v m cs
 lks:LksAt wr (fun k=>w9.heap.size≤k) me i cs
 ch:Chg (fun k=>k=nb) w9 wr
 nb:nb<w9.heap.size
theorem NLay.chg0 {w9 wr w':World} {nb pb hb cb me m i:Nat} {v:Value} {cs:List Value} (h:NLay w9 wr nb pb hb cb me m i v cs) (c:Chg NoB wr w'):NLay w9 w' nb pb hb cb me m i v cs:=
 ⟨c.blk0 h.blk,h.own.chg0 c,h.lks.chg c fun _ _=>id,h.ch.then0 c,h.nb⟩
theorem LksAt.app {w:World} {S:Nat→Prop} {me i:Nat} {cs:List Value} (h:LksAt w S me i cs) (x:List Value):LksAt w S me i (cs ++ x):=fun j hj=>by
 obtain ⟨v,h1,h2⟩:=h j hj
 exact ⟨v,by rw [List.getElem?_append_left (List.getElem?_eq_some_iff.1 h1).1];exact h1,h2⟩
theorem NLay.push {w9 wa w5:World} {nb pb hb cb me i:Nat} {v v':Value} {cs:List Value} (h:NLay w9 wa nb pb hb cb me i i v cs) (ho:Own w5 (fun k=>v.ownBlock=some k∨k=wa.heap.size) 118 1 v' (i+1) (cs ++ [.pointer none])) (hg:wa.grownBy w5 v.ownBlock) :
  Blk w5 nb #[.int .i64 me,.pointer (some ⟨pb,0,none⟩),.pointer (some ⟨hb,0,none⟩),.pointer (some ⟨cb,0,none⟩),v,.int .i64 (-1)] 115∧NLay w9 (w5.setCell ⟨nb,4,none⟩ v') nb pb hb cb me (i+1) i v' (cs ++ [.pointer none]):=by
 have C5:Chg (fun k=>v.ownBlock=some k) wa w5:=grown_chg hg fun k hk=>hk
 have hlo:∀k,v.ownBlock=some k→w9.heap.size≤k:=fun k hk=>(h.own.ownBlock k hk).1
 have hnb:¬v.ownBlock=some nb:=fun e=>by have:=hlo nb e;have:=h.nb;omega
 have b5:=C5.blk h.blk hnb
 have CN:Chg (fun k=>k=nb) w5 (w5.setCell ⟨nb,4,none⟩ v'):=(Chg.refl (fun k=>k=nb) w5).setCell (a:=⟨nb,4,none⟩) (.inl rfl) _
 have hge:∀k,w9.heap.size≤k→¬k=nb:=fun k hk e=>by have:=h.nb;omega
 have hz:=h.ch.size
 refine ⟨b5,b5.set 4 v',(ho.mono fun k hk=>hk.elim (hlo k) fun e=>by omega).chg CN hge,?_,?_,h.nb⟩
 ·refine (LksAt.chgT (h.lks) C5 fun k hk _=>?_).chg CN hge |>.app _
  obtain ⟨cur,hc⟩:=own_blk h.own hk
  exact ⟨cur,_,hc,by decide,by decide,by decide⟩
 ·exact (h.ch.trans C5 fun b hb e=>absurd (hlo b e) (by omega)).trans CN fun b hb e=>e
theorem NLay.same {w9 w:World} {nb pb hb cb i:Nat} {v:Value} {cs:List Value} (h:NLay w9 w nb pb hb cb i (i+1) i v cs) (hc:cs[i]? = some (.pointer none)):NLay w9 w nb pb hb cb i (i+1) (i+1) v cs:=
 ⟨h.blk,h.own,fun j hj=>by
  by_cases e:j=i
  ·subst e;exact ⟨_,hc,fun _=>rfl,fun e=>absurd rfl e⟩
  ·exact h.lks j (by omega),h.ch,h.nb⟩
theorem NLay.put {w9 w:World} {nb pb hb cb me i g off cap:Nat} {cs:List Value} {x:Value} (h:NLay w9 w nb pb hb cb me (i+1) i (.slice (some ⟨g,off,none⟩) (i+1) cap) cs) (hne:i≠me) (hx:LinkAt w (fun k=>w9.heap.size≤k) x) :
  NLay w9 (w.setCell ⟨g,off+i,none⟩ x) nb pb hb cb me (i+1) (i+1) (.slice (some ⟨g,off,none⟩) (i+1) cap) (cs.set i x):=by
 have hg:=(h.own.at).1
 have CG:Chg (fun k=>k=g) w (w.setCell ⟨g,off+i,none⟩ x):=(Chg.refl (fun k=>k=g) w).setCell (a:=⟨g,off+i,none⟩) (.inl rfl) _
 have hnb:¬nb=g:=fun e=>by have:=h.nb;omega
 obtain ⟨cur,hc⟩:=own_blk h.own (k:=g) rfl
 have ht:∀k,k=g→k<w.heap.size→∃cs T,Blk w k cs T∧T≠120∧T≠144∧T≠147:=fun k hk _=>by
  subst hk;exact ⟨cur,_,hc,by decide,by decide,by decide⟩
 refine ⟨CG.blk h.blk hnb,h.own.set1 (by omega) x,fun j hj=>?_,h.ch.trans CG fun b hb e=>by omega,h.nb⟩
 by_cases e:j=i
 ·subst e;refine ⟨x,List.getElem?_set_self (by have:=h.own.1;omega),fun e=>absurd e hne,fun _=>hx.chgT CG ht⟩
 ·obtain ⟨v,h1,h2,h3⟩:=h.lks j (by omega)
  exact ⟨v,by rw [List.getElem?_set_ne (fun e'=>e e'.symm)];exact h1,h2,fun e'=>(h3 e').chgT CG ht⟩
theorem ndNew_any {w:World} (me n p:Nat) (hp:p=1∨p=2) (hn:2≤n) (hn2:n≤16) (hm:me<n) (v:Value) (d:List Nat) (Sd:Nat→Prop) (hv:Sl w Sd 1 v d.length (d.map fun x:Nat=>.int .u8 x)) (hd:∀x∈d,x<256) (hl:d.length≤4096) (hsd:∀k,Sd k→k<w.heap.size) :
  Calls Tryz.prog 29 #[.int .i64 me,.agg (confC n p),v] w (RetV fun v w'=>∃(nb hb mb cb:Nat) (L:Pl),v = .tuple #[.pointer (some ⟨nb,0,none⟩),.int .i64 0]∧
   (w.heap.size≤hb∧w.heap.size≤mb∧w.heap.size≤cb∧∀k,L.All k→w.heap.size≤k)∧(¬L.All hb∧¬L.All mb∧¬L.All cb∧¬L.All nb)∧
   NdAt w' (fun k=>w.heap.size≤k∧¬L.All k∧k≠hb∧k≠mb∧k≠cb) nb L.pb hb cb n me∧SpAt w' L (ndSp p d)∧HmAt w' ⟨hb,mb,L.pb,me,n,1,1,p⟩ []∧CoreAt w' cb (Cor.new 65536)∧Chg NoB w w'):=by
 obtain ⟨vp,vc,hvf⟩:=hv.form
 subst hvf;obtain ⟨hL1,hL2,hcl,hcf,hfr,-⟩:=nd_new p hp d hd hl
 have HR:=Lib.hid fun w'=>nright_any n p hn hn2 (by omega) w'
 have HBt:=Lib.hid (between_any me 0 ((n:Int) - 1))
 rw [decide_eq_true (show (0:Int)≤me by omega),decide_eq_true (show (me:Int)≤(n:Int) - 1 by omega)] at HBt
 have HPg:=Lib.hid fun w'=>pages_any (.slice vp d.length vc) d.length vc vp hl w'
 have HNd:=Lib.hid fun w'=>sNeed_any p (by omega) w'
 have e0:newS (ndShp p) (7+p) 2 2=ndSp0 p:=by unfold ndSp0;rw [show (7+(p:Int)).toNat=7+p by omega]
 have e1:((7+p:Nat):Int)=7+(p:Int):=by omega
 have HSN:Hid (∀w',Calls Tryz.prog 40 #[.agg #[.int .i64 1,.int .i64 1,.int .i64 p],.int .i64 (7+(p:Int)),.int .i64 2,.int .i64 2] w' (RetV fun v w''=>∃L:Pl,v = .tuple #[.pointer (some ⟨L.pb,0,none⟩),.int .i64 0]∧SpAt w'' L (ndSp0 p)∧(∀k,L.All k→w'.heap.size≤k)∧Chg NoB w' w'')):=Lib.hid fun w'=>by
  have:=spaceNew_any (ndShp p) (7+p) 2 2 (by rcases hp with rfl | rfl <;> rfl) (by omega) (by omega) (by omega) (by omega) (by omega) (by omega) (by decide) hL1 hL2 w'
  rw [e0,e1] at this
  exact this
 have HCN:Hid (∀w',Calls Tryz.prog 43 #[.int .u64 65536] w' (RetW (.pointer (some ⟨w'.heap.size,0,none⟩)) fun w''=>CoreAt w'' w'.heap.size (Cor.new 65536)∧Chg NoB w' w'')):=Lib.hid fun w'=>coreNew_any 65536 (by omega) w'
 have HV:=Lib.hid hv
 have HX:=Lib.hid (And.intro hd (And.intro hl (And.intro hcl (And.intro hcf (And.intro hfr hsd)))))
 have HP:=Lib.hid (And.intro hp (And.intro hn (And.intro hn2 hm)))
 have hB:=Lib.hid (Blk.new w (confC n p) 44)
 have hC:=Lib.hid ((Chg.refl NoB w).alloc (.cells (confC n p) 44))
 generalize hdl:d.length=m at *;have HM:=Lib.hid hdl
 clear hv hd hl hcl hcf hfr hsd hp hm hL1 hL2 e0 e1 hdl;go_enter Tryz.func29,Tryz.ntmps29;go_upto_region 1 with fail;generalize w.alloc (.cells (confC n p) 44)=w0 at *;unfold confC at hB HR
 obtain ⟨cf,hcf⟩:∃b,w.heap.size=b:=⟨_,rfl⟩
 rw [hcf] at hB
 simp only [hcf]
 have HW:=Lib.hid hcf
 have g:=hB.out.ever
 have gl:=hB.out.everL
 have c0:=Chg.refl NoB w0
 clear hcf hB;go_wp2_with fail;with_reducible refine (HR.out _).mono ?_
 rintro e w1 ⟨rfl,C1⟩;go_wp2_with fail;with_reducible refine (HBt.out _).mono ?_
 rintro e w2 ⟨rfl,hw⟩;subst hw;go_wp2_with fail;with_reducible refine (HPg.out _).mono ?_
 rintro e w2 ⟨rfl,hw⟩;subst hw;go_upto_region 3 with fail;clear c0;go_cut [8] (fun s8 wx=>∃sb:Nat,s8 = .pointer (some ⟨sb,0,none⟩)∧Blk wx sb #[.int .i64 1,.int .i64 1,.int .i64 p] 104∧Chg NoB w0 wx)
 case first=>
  go_region_held3 (fun w'=>Chg NoB w0 w') ((repeat (first | with_reducible assumption | with_reducible apply Chg.drew | with_reducible apply Chg.drewN | with_reducible apply Chg.alloc))) (first | (go_at_call 39;(with_reducible refine (HPg.out _).mono ?_);rintro e w9 ⟨rfl,hw⟩;subst hw));all_goals
   have HH:=Lib.hid (show Chg NoB w0 ((w2.alloc (.cells #[.int .i64 1,.int .i64 1,.int .i64 p] 104)).drew) by with_reducible assumption)
   go_wp2_with fail;go_meet
   exact ⟨_,rfl,(Blk.new w2 _ _).drew,HH.out⟩
 case rest=>
 obtain ⟨sb,rfl,hBS,C3⟩:=hcut
 rename World=>w3;have gs:=hBS.ever
 have gsl:=hBS.everL
 have HC3:=Lib.hid C3
 have g':∀w',Chg NoB w3 w'→∀i,w'.cell? ⟨cf,i,none⟩=_:=fun w' c=>g w' (HC3.out.step c)
 have gl':∀w',Chg NoB w3 w'→cf<w'.heap.size:=fun w' c=>gl w' (HC3.out.step c)
 have c0:=Chg.refl NoB w3
 clear C3 C1 g gl HPg HR HBt hBS;go_upto_region 4 with fail;go_cut [9,10] (fun s9 s10 wx=>∃L:Pl,s9 = .pointer (some ⟨L.pb,0,none⟩)∧s10 = .int .i64 0∧SpAt wx L (ndSp0 p)∧(∀k,L.All k→w3.heap.size≤k)∧Chg NoB w3 wx)
 case first=>
  go_region_held3 (fun w'=>Chg NoB w3 w') ((repeat (first | with_reducible assumption | with_reducible apply Chg.drew | with_reducible apply Chg.drewN | with_reducible apply Chg.alloc))) (first | (go_at_call 41;(with_reducible refine (HNd.out _).mono ?_);rintro e w9 ⟨rfl,hC'⟩;have c9:=Chg.step (by with_reducible assumption:Chg NoB w3 _) hC';clear hC') | (go_at_call 40;(with_reducible refine (HSN.out _).mono ?_);rintro e w9 ⟨v9,rfl,L,rfl,hSp,hLo,hC'⟩;have HLo:=Lib.hid (fun k hk=>Nat.le_trans (Chg.size (by with_reducible assumption:Chg NoB w3 _)) (hLo k hk));have c9:=Chg.step (by with_reducible assumption:Chg NoB w3 _) hC';have HSp:=Lib.hid hSp;clear hC' hSp hLo));all_goals
   go_wp2_with fail;go_meet
   exact ⟨L,rfl,rfl,HSp.out,HLo.out,by with_reducible assumption⟩
 case rest=>
 obtain ⟨L,rfl,rfl,hSp,hLo,C4⟩:=hcut
 rename World=>w4;have CW4:=(hC.out.step HC3.out).step C4
 have hCd:=code_any hSp (.slice vp m vc) d Sd (by rw [HM.out];exact HV.out.chg0 CW4) (fun k hk=>by
   have h1:=HX.out.2.2.2.2.2 k hk
   have h2:=CW4.size
   have h3:=hC.out.size
   have h4:=HC3.out.size
   exact ⟨fun e=>by have:=hLo k e;omega,by omega⟩) HX.out.1 (by rw [HM.out,HX.out.2.2.1];have:=HX.out.2.1;omega) (by rw [HX.out.2.2.1];omega) HX.out.2.2.2.1
 have HCd:=Lib.hid hCd
 have HSp:=Lib.hid hSp
 have HLo:=Lib.hid hLo
 have HC4:=Lib.hid C4
 have HCW4:=Lib.hid CW4
 clear hCd hSp hLo C4 CW4 HSN HNd c0;go_wp2_with fail;with_reducible refine HCd.out.mono ?_
 rintro e w5 ⟨rfl,L',hE,hS5,C5⟩;have hS5:SpAt w5 L' (ndSp p d):=hS5
 have epb:L'.pb=L.pb:=hE.1
 have hLo5:∀k,L'.All k→w3.heap.size≤k:=fun k hk=>(hE.2.2 k hk).elim (HLo.out k) fun e=>Nat.le_trans HC4.out.size e
 have C35:Chg NoB w3 w5:=HC4.out.trans C5 fun b hb e=>by have:=HLo.out b e;omega
 have HC35:=Lib.hid C35
 have HS5:=Lib.hid hS5
 have HLo5:=Lib.hid hLo5
 have HEpb:=Lib.hid epb
 clear hE hS5 C5 epb hLo5 HCd HSp HLo HC4 HCW4;go_wp2_with fail;with_reducible refine (HCN.out _).mono ?_
 rintro e w6 ⟨rfl,hCo,C6⟩;obtain ⟨cb,hcb⟩:∃b,w5.heap.size=b:=⟨_,rfl⟩
 rw [hcb] at hCo
 simp only [hcb]
 have HCo:=Lib.hid hCo
 have HC6:=Lib.hid C6
 have HCB:=Lib.hid hcb
 clear hCo C6 hcb C35;go_upto_region 9 with fail;have hN7:=Blk.new w6 #[.int .i64 me,.pointer (some ⟨L.pb,0,none⟩),.pointer none,.pointer (some ⟨cb,0,none⟩),.slice none 0 0,.int .i64 (-1)] 115
 have C67:=(Chg.refl NoB w6).alloc (.cells #[.int .i64 me,.pointer (some ⟨L.pb,0,none⟩),.pointer none,.pointer (some ⟨cb,0,none⟩),.slice none 0 0,.int .i64 (-1)] 115)
 have HNB0:=Lib.hid (And.intro HCo.out.blk.lt HS5.out.bdd)
 obtain ⟨nb,hnb⟩:∃b,w6.heap.size=b:=⟨_,rfl⟩
 rw [hnb] at hN7
 simp only [hnb]
 generalize w6.alloc (.cells #[.int .i64 me,.pointer (some ⟨L.pb,0,none⟩),.pointer none,.pointer (some ⟨cb,0,none⟩),.slice none 0 0,.int .i64 (-1)] 115)=w7 at *;have C37:=(HC35.out.step HC6.out).step C67
 have HC37:=Lib.hid C37
 have hS7:=HS5.out.chg0 (HC6.out.step C67)
 have hH0:=homeNew_any hS7 me n p (by have:=HP.out.1;omega) HP.out.2.1 HP.out.2.2.1 HP.out.2.2.2 (by show (7:Int)+p≤((ndSp0 p).u.fr:Nat);rw [HX.out.2.2.2.2.1];omega)
 rw [HEpb.out] at hH0
 have HH0:=Lib.hid hH0
 have HS7:=Lib.hid hS7
 have HCo7:=Lib.hid (HCo.out.chg C67 id)
 have HN7:=Lib.hid hN7
 have HZ:=Lib.hid (And.intro hnb (And.intro HC6.out.size (And.intro HC35.out.size (And.intro HC3.out.size hC.out.size))))
 clear hH0 hS7 hnb C67 hN7 HS5 HCo;go_wp2_with fail;with_reducible refine HH0.out.mono ?_
 rintro e w8 ⟨v8,rfl,hb,mb,rfl,hhb,hmb,hH,C8⟩;have hN8:=C8.blk0 HN7.out
 have n2:=hN8.cell' (i:=2) (v:=.pointer none) rfl
 have nl:=hN8.lt
 have nz:=hN8.frozen 2
 have CN:Chg (fun k=>k=nb) w8 (w8.setCell ⟨nb,2,none⟩ (.pointer (some ⟨hb,0,none⟩))):=(Chg.refl (fun k=>k=nb) w8).setCell (a:=⟨nb,2,none⟩) (.inl rfl) _
 have C39:Chg NoB w3 (w8.setCell ⟨nb,2,none⟩ (.pointer (some ⟨hb,0,none⟩))):=(HC37.out.step C8).trans CN fun b hb' e=>by
  have e:b=nb:=e
  have:=HZ.out
  omega
 have hnS:∀k,L'.All k→k≠nb:=fun k hk e=>by
  have h1:=HNB0.out.2 k hk
  have h2:=HZ.out
  omega
 have hcn:cb≠nb:=fun e=>by
  have h1:=HNB0.out.1
  have h2:=HZ.out
  omega
 have hN9:=hN8.set 2 (.pointer (some ⟨hb,0,none⟩))
 have hS9:=(HS7.out.chg0 C8).chg CN hnS
 have hCo9:=(HCo7.out.chg C8 id).chg CN hcn
 have hbn:hb≠nb:=fun e=>by have:=hN8.lt;have h1:=HN7.out.lt;omega
 have hmn:mb≠nb:=fun e=>by have h1:=HN7.out.lt;omega
 have hH9:=hH.chg CN hbn hmn fun p hp=>by cases hp
 go_upto_region 10 with fail;generalize w8.setCell ⟨nb,2,none⟩ (.pointer (some ⟨hb,0,none⟩))=w9 at *;have HTr:=Lib.hid (fun w' (c:Chg (fun k=>k=nb) w9 w')=>(C39.trans c fun b hb' e=>by
  have e:b=nb:=e
  have:=HZ.out
  omega:Chg NoB w3 w'))
 have hN9':NLay w9 w9 nb L.pb hb cb me 0 0 (.slice none 0 0) []:=⟨hN9,Own.nil _ _ _ _,fun j hj=>by omega,Chg.refl _ _,hN9.lt⟩
 have HN9:=Lib.hid hN9'
 have HE9:=Lib.hid (And.intro hS9 (And.intro hCo9 (And.intro hH9 (And.intro hnS (And.intro hcn (And.intro hbn hmn))))))
 have HC39:=Lib.hid C39
 have HHB:=Lib.hid (And.intro hhb hmb)
 clear n2 nl nz CN hnS hcn hN9 hS9 hCo9 hbn hmn hH9 hN8 C8 hH hhb hmb hN9' gs gsl C37;go_wp2_with fail;clear C39;go_loopg [76] n (fun k v wr=>∃(i:Nat) (lv:Value) (cs:List Value),v = .int .i64 i∧i≤n∧k=n - i∧NLay w9 wr nb L.pb hb cb me i i lv cs)
 case atStart=>exact ⟨0,_,_,rfl,by omega,by omega,HN9.out⟩
 case round=>
  obtain ⟨i,lv,cs,rfl,hin,hk,hN⟩:=hrel
  have HK:=Lib.hid hk
  have HN:=Lib.hid hN
  clear hk;by_cases hi:i<n
  ·have t1:decide ((i:Int)<n)=true:=decide_eq_true (by omega)
   have t2:decide (i<n)=true:=decide_eq_true hi
   obtain ⟨xp,xc,hx⟩:=hN.own.form
   subst hx;have b4:=hN.blk.cell' (i:=4) (v:=.slice xp i xc) rfl
   have bl:=hN.blk.lt
   have oX:=Lib.hid (hN.own.chg0 ((Chg.refl NoB _).alloc (.cells #[.pointer none] 118)))
   have sX:=Lib.hid (Sl.fresh wr [.pointer none] 118 1 (size:=1) rfl)
   have HA:=Lib.hid (hN.chg0 ((Chg.refl NoB wr).alloc (.cells #[.pointer none] 118)))
   obtain ⟨i0,hi0,hz0,hz1,hz2⟩:=info_parts LINKPi
   have one:∀u∈[Value.pointer none],u.oneCell'=true:=by simp [Value.oneCell']
   have b1:i+1≤maxLen:=by unfold maxLen;omega
   have b2:(i+1)*8≤140737488355328:=by omega
   clear hN;go_wp2_with (at_builtin;go_must (refine wpList_app rfl _ _ 113 rfl i0 _ 8 Tryz.underlying113 hi0 hz0 hz1 hz2 rfl rfl oX.out _ 1 _ rfl sX.out one b1 b2 ?_))
   intro v' w5 ho5 hg5 hn5;have hP:=HA.out.push (by rw [World.size_alloc];exact ho5) hg5
   have k4:=hP.1.cell' (i:=4) (v:=.slice xp i xc) rfl
   have kz:=hP.1.frozen 4
   have kl:=hP.1.lt
   obtain ⟨g,off,cap,hv',-⟩:=ho5.spot (Nat.succ_pos i)
   subst hv';have HP6:=Lib.hid hP.2
   clear hi0 hz0 hz1 hz2 one b1 b2 ho5 hg5 hn5 hP b4 bl;go_upto_region 14 with fail;generalize w5.setCell ⟨nb,4,none⟩ (.slice (some ⟨g,off,none⟩) (i+1) cap)=w6 at *;clear k4 kz kl;by_cases e:i=me
   ·subst e;have HX:=Lib.hid (HP6.out.same (by rw [List.getElem?_append_right (by have:=HA.out.own.1;omega)];rw [show i - cs.length=0 by have:=HA.out.own.1;omega];rfl))
    go_wp2_with fail;go_roundg (n - (i+1))
    case rel=>exact ⟨i+1,_,_,by go_num,by omega,rfl,HX.out⟩
    case measure=>rw [HK.out];omega
   ·have e1:((i:Int) == me)=false:=beq_eq_false_iff_ne.2 (by omega)
    have e2:(i == me)=false:=beq_eq_false_iff_ne.2 e
    have e3:((i:Int) != me)=true:=by rw [bne,e1];rfl
    have e4:(i != me)=true:=by rw [bne,e2];rfl
    have HE:=Lib.hid e
    have cr:=HTr.out _ HP6.out.ch
    have f4:∀w',Chg NoB w6 w'→w'.cell? ⟨nb,4,none⟩=some (.slice (some ⟨g,off,none⟩) (i+1) cap):=fun w' c=>(c.blk0 HP6.out.blk).cell' (i:=4) rfl
    have f4l:∀w',Chg NoB w6 w'→nb<w'.heap.size:=fun w' c=>(c.blk0 HP6.out.blk).lt
    have fc:∀w',Chg NoB w6 w'→w'.cell? ⟨g,off+i,none⟩=some (.pointer none):=fun w' c=>((HP6.out.chg0 c).own.at).2.2.1 i _ (by rw [List.getElem?_append_right (by have:=HA.out.own.1;omega)];rw [show i - cs.length=0 by have:=HA.out.own.1;omega];rfl)
    have fl:∀w',Chg NoB w6 w'→g<w'.heap.size:=fun w' c=>((HP6.out.chg0 c).own.at).2.1
    have fz:∀w',Chg NoB w6 w'→w'.frozen? ⟨g,off+i,none⟩=false:=fun w' c=>((HP6.out.chg0 c).own.at).2.2.2 _
    have gx:∀w',Chg NoB w6 w'→∀i,w'.cell? ⟨cf,i,none⟩=_:=fun w' c=>g' w' (cr.step c)
    have gxl:∀w',Chg NoB w6 w'→cf<w'.heap.size:=fun w' c=>gl' w' (cr.step c)
    have c0:=Chg.refl NoB w6
    clear e cr;go_wp2_with fail;with_reducible refine (sendNew_any _).mono ?_
    rintro e w7' ⟨rfl,hSB,C7⟩;obtain ⟨sn,hsn⟩:∃b,w6.heap.size=b:=⟨_,rfl⟩
    rw [hsn] at hSB
    simp only [hsn]
    have HSB:=Lib.hid hSB
    have HSN:=Lib.hid hsn
    have HC7:=Lib.hid C7
    clear hSB hsn c0;go_wp2_with fail;with_reducible refine (recvNew_any _).mono ?_
    rintro e w8' ⟨v8,rfl,rn,rfl,hrn,hRv,C8⟩;have C68:=HC7.out.step C8
    have HLK:Hid (NLay w9 ((w8'.setCell ⟨g,off+i,none⟩ (.pointer (some ⟨w8'.heap.size,0,none⟩))).alloc (.cells #[.pointer (some ⟨sn,0,none⟩),.pointer (some ⟨rn,0,none⟩),.bool false] 120)) nb L.pb hb cb me (i+1) (i+1) (.slice (some ⟨g,off,none⟩) (i+1) cap) ((cs ++ [Value.pointer none]).set i (Value.pointer (some ⟨w8'.heap.size,0,none⟩)))):=Lib.hid (by
     rw [←World.setCell_alloc_past _ _ _ _ ((HP6.out.chg0 C68).own.at).2.1]
     have CA:Chg NoB w8' (w8'.alloc (.cells #[.pointer (some ⟨sn,0,none⟩),.pointer (some ⟨rn,0,none⟩),.bool false] 120)):=(Chg.refl NoB _).alloc _
     have z1:=HP6.out.ch.size
     have z2:=HSN.out
     have z3:=C68.size
     refine (HP6.out.chg0 (C68.step CA)).put HE.out ⟨_,sn,rn,rfl,by omega,by omega,Blk.new _ _ _,(C8.step CA).blk0 HSB.out,(hRv.chg0 CA).mono fun k _ hk=>Nat.le_trans (Nat.le_trans z1 HC7.out.size) hk⟩)
    clear C7 C8 hRv hrn;go_wp2_with fail;go_roundg (n - (i+1))
    case rel=>exact ⟨i+1,_,_,by go_num,by omega,rfl,HLK.out⟩
    case measure=>rw [HK.out];omega
  ·have t1:decide ((i:Int)<n)=false:=decide_eq_false (by omega)
   have t2:decide (i<n)=false:=decide_eq_false hi
   have HX:Hid (NLay w9 wr nb L.pb hb cb me n n lv cs):=Lib.hid (by rw [show n=i by omega];exact HN.out)
   clear hN;go_wp2_with fail;go_ret2
   obtain ⟨hS9,hCo9,hH9,hnS,hcn,hbn,hmn⟩:=HE9.out
   have ch:=HX.out.ch
   have z:=HZ.out
   have zb:=HHB.out
   have zc:=HC39.out.size
   have zh:hb<w9.heap.size:=hH9.blk.lt
   have zm:mb<w9.heap.size:=hH9.map.lt
   have zcb:cb<w9.heap.size:=hCo9.blk.lt
   have hlt:=HNB0.out.2
   have hlo:=HLo5.out
   have hcb:=HCB.out
   have hcl:=HNB0.out.1
   have h7:=HN7.out.lt
   have h9:=HX.out.nb
   refine ⟨_,rfl,nb,hb,mb,cb,L',rfl,⟨by omega,by omega,by omega,fun k hk=>by have:=hlo k hk;omega⟩,⟨fun e=>by have:=hlt _ e;omega,fun e=>by have:=hlt _ e;omega,fun e=>by have:=hlt _ e;omega,fun e=>by have:=hlt _ e;omega⟩,?_,hS9.chg ch hnS,?_,hCo9.chg ch hcn,(hC.out.step (HC3.out.step (HC39.out.trans ch fun b hb' e=>by have e:b=nb:=e;omega)))⟩
   ·rw [HEpb.out]
    exact ⟨⟨by omega,fun e=>by have:=hlt _ e;omega,fun e=>hbn e.symm,fun e=>hmn e.symm,fun e=>hcn e.symm⟩,_,_,HX.out.blk,HX.out.own.sl.mono fun k hk=>⟨by omega,fun e=>by have:=hlt _ e;omega,by omega,by omega,by omega⟩,HX.out.lks.mono fun k _ hk=>⟨by omega,fun e=>by have:=hlt _ e;omega,by omega,by omega,by omega⟩⟩
   ·rw [HEpb.out]
    exact hH9.chg ch hbn hmn fun p hp=>by cases hp
end Go.Proofs.YtjhnnjgnkkjmkaaGreatDoor
