/- Programs in a space: instructions' words, code that is laid, what is fetched. Plain, no program. No condition. The space that programs run in here: one page of code, one of its own, two shared ones. Plain, no program. No condition. Words stored into shared pages, and what a core makes of them. Plain, no program. No condition. -/
import Derived.Test.YtjhnnjgnkkjmkaaGreatDoorHa
import Derived.Test.YtjhnnjgnkkjmkaaGreatDoorHb
set_option linter.unusedVariables false
set_option linter.unusedSimpArgs false
namespace Go.Proofs.YtjhnnjgnkkjmkaaGreatDoor
open Go.RowKit Go.RR
theorem instW_lt {i:In} (h:i.Ok):instW i<4294967296:=by
 unfold instW
 have:=h.o1;have:=h.d1;have:=h.s1;have:=h.t1
 have:(i.im%4096).toNat<4096:=by omega
 omega
theorem instOf_W {i:In} (h:i.Ok):instOf (instW i)=i:=by
 obtain ⟨o,rd,rs,rt,im⟩:=i
 have h0:=h.o0;have h1:=h.o1;have h2:=h.d0;have h3:=h.d1;have h4:=h.s0;have h5:=h.s1;have h6:=h.t0;have h7:=h.t1;have h8:=h.i0;have h9:=h.i1
 dsimp only at h0 h1 h2 h3 h4 h5 h6 h7 h8 h9
 have e:∃a b c d m:Nat,o=a∧rd=b∧rs=c∧rt=d∧(im%4096).toNat=m∧a≤34∧b≤15∧c≤15∧d≤15∧m<4096:=⟨o.toNat,rd.toNat,rs.toNat,rt.toNat,_,by omega,by omega,by omega,by omega,rfl,by omega,by omega,by omega,by omega,by omega⟩
 obtain ⟨a,b,c,d,m,rfl,rfl,rfl,rfl,hm,ha,hb,hc,hd,hmm⟩:=e
 have hw:instW ⟨a,b,c,d,im⟩=a+b*256+c*4096+d*65536+m*1048576:=by
  unfold instW
  dsimp only
  rw [hm]
  simp only [Int.toNat_natCast]
 rw [hw]
 unfold instOf
 have e1:(a+b*256+c*4096+d*65536+m*1048576)%256=a:=by omega
 have e2:(a+b*256+c*4096+d*65536+m*1048576) / 256%16=b:=by omega
 have e3:(a+b*256+c*4096+d*65536+m*1048576) / 4096%16=c:=by omega
 have e4:(a+b*256+c*4096+d*65536+m*1048576) / 65536%16=d:=by omega
 have e5:(a+b*256+c*4096+d*65536+m*1048576) / 1048576=m:=by omega
 rw [e1,e2,e3,e4,e5]
 have e6:(if m<2048 then (m:Int) else (m:Int) - 4096)=im:=by split <;> omega
 rw [e6]
theorem instG_W {i:In} (h:rightB i=true):instG (instW i)=some i:=by
 unfold instG
 rw [instOf_W (In.ok h),if_pos h]
def bytesW (v:Nat):Nat→List Nat
 | 0=>[]
 | n+1=>v%256 :: bytesW (v / 256) n
theorem bytesW_len (n:Nat):∀v,(bytesW v n).length=n:=by
 induction n with
 | zero=>exact fun _=>rfl
 | succ n ih=>exact fun v=>congrArg (· + 1) (ih _)
theorem bytesW_get (n:Nat):∀v k,k<n→(bytesW v n)[k]? = some (v / 256 ^ k%256):=by
 induction n with
 | zero=>exact fun v k hk=>absurd hk (by omega)
 | succ n ih=>
  intro v k hk;cases k with
  | zero=>simp [bytesW]
  | succ k=>
   show (bytesW (v / 256) n)[k]? = _
   rw [ih _ k (by omega),Nat.pow_succ,Nat.div_div_eq_div_mul,Nat.mul_comm 256]
theorem bytesW_lt (n:Nat):∀v,∀x∈bytesW v n,x<256:=by
 induction n with
 | zero=>exact fun v x hx=>absurd hx List.not_mem_nil
 | succ n ih=>
  intro v x hx;rcases List.mem_cons.1 hx with rfl | hx
  ·exact Nat.mod_lt _ (by omega)
  ·exact ih _ x hx
def progB (l:List In):List Nat:=l.flatMap fun i=>bytesW (instW i) 4
theorem progB_len (l:List In):(progB l).length=4*l.length:=by
 induction l with
 | nil=>rfl
 | cons i l ih=>
  show (bytesW (instW i) 4 ++ progB l).length=_
  rw [List.length_append,bytesW_len,ih,List.length_cons]
  omega
theorem progB_lt (l:List In):∀x∈progB l,x<256:=by
 intro x hx;obtain ⟨i,-,h⟩:=List.mem_flatMap.1 hx
 exact bytesW_lt 4 _ x h
theorem progB_get (l:List In):∀(k:Nat) (i:In),l[k]? = some i→∀j,j<4→(progB l)[4*k+j]? = some (instW i / 256 ^ j%256):=by
 induction l with
 | nil=>intro k i h;cases h
 | cons x l ih=>
  intro k i h j hj;show (bytesW (instW x) 4 ++ progB l)[4*k+j]? = _
  cases k with
  | zero=>
   cases h
   rw [Nat.mul_zero,Nat.zero_add,List.getElem?_append_left (by rw [bytesW_len];exact hj)]
   exact bytesW_get 4 _ j hj
  | succ k=>
   rw [List.getElem?_append_right (by rw [bytesW_len];omega),bytesW_len,show 4*(k+1)+j - 4=4*k+j by omega]
   exact ih k i h j hj
theorem codeAt_eq (s:Spc) (a:Nat):codeAt s a=s.code.getD (a / 4096) 0*4096+a%4096:=rfl
theorem getD_inj {l:List Nat} (h:l.Nodup) {i j:Nat} (hi:i<l.length) (hj:j<l.length) (e:l.getD i 0=l.getD j 0):i=j:=by
 rw [List.getD_eq_getElem?_getD,List.getD_eq_getElem?_getD,List.getElem?_eq_getElem hi,List.getElem?_eq_getElem hj] at e
 exact (List.getElem_inj h).1 e
theorem codeAt_inj {s:Spc} (h:s.code.Nodup) {i j:Nat} (hi:i<s.code.length*4096) (hj:j<s.code.length*4096) (e:codeAt s i=codeAt s j):i=j:=by
 rw [codeAt_eq,codeAt_eq] at e
 have e1:s.code.getD (i / 4096) 0=s.code.getD (j / 4096) 0:=by omega
 have e2:=getD_inj h (i:=i / 4096) (j:=j / 4096) (by omega) (by omega) e1
 omega
theorem putW_one (f:By) (a v i:Nat) (hv:v<256):putW f a 1 v i=if i=a then v else f i:=by
 by_cases h:i=a
 ·rw [h,if_pos rfl,putW_in (by omega) (by omega),Nat.sub_self,Nat.pow_zero,Nat.div_one]
  exact Nat.mod_eq_of_lt hv
 ·rw [if_neg h,putW_out (by omega)]
theorem codeF_out (s:Spc):∀(d:List Nat) (at':Nat) (b:By) (a:Nat),(∀x∈d,x<256)→(∀i,at'≤i→i<at'+d.length→codeAt s i≠a)→codeF s at' d b a=b a
 | [],_,_,_,_,_=>rfl
 | c :: d,at',b,a,hd,h=>by
  rw [codeF_step,codeF_out s d (at'+1) _ a (fun x hx=>hd x (List.mem_cons_of_mem _ hx)) (fun i h1 h2=>h i (by omega) (by rw [List.length_cons];omega)),putW_one _ _ _ _ (hd c List.mem_cons_self),if_neg]
  exact fun e=>h at' (Nat.le_refl _) (by rw [List.length_cons];omega) e.symm
theorem codeF_in (s:Spc) (hn:s.code.Nodup):∀(d:List Nat) (at':Nat) (b:By),(∀x∈d,x<256)→at'+d.length≤s.code.length*4096→∀i x,d[i]? = some x→codeF s at' d b (codeAt s (at'+i))=x
 | [],_,_,_,_,_,_,h=>by cases h
 | c :: d,at',b,hd,hl,i,x,h=>by
  rw [List.length_cons] at hl
  rw [codeF_step]
  cases i with
  | zero=>
   cases h
   rw [codeF_out s d (at'+1) _ _ (fun y hy=>hd y (List.mem_cons_of_mem _ hy)) (fun j h1 h2 e=>by have:=codeAt_inj hn (by omega) (by omega) e;omega),putW_one _ _ _ _ (hd c List.mem_cons_self),if_pos (by rw [Nat.add_zero])]
  | succ i=>
   rw [show at'+(i+1)=at'+1+i by omega]
   exact codeF_in s hn d (at'+1) _ (fun y hy=>hd y (List.mem_cons_of_mem _ hy)) (by omega) i x h
theorem Spc.code_nodup {s:Spc} {t1 t0:Nat→Option Nat} (h:SpInv s t1 t0):s.code.Nodup:=by
 have:=h.nd
 unfold Spc.frames at this
 rw [List.nodup_append,List.nodup_append] at this
 exact this.1.1
theorem SpInv.bytes {s:Spc} {t1 t0:Nat→Option Nat} (h:SpInv s t1 t0) {b:By} (hb:∀a,IsTab s.root t1 t0 (a / 4096)→b a=s.u.b a):SpInv { s with u:={ s.u with b:=b}} t1 t0:=by
 have hi:=h.inv
 exact ⟨⟨hi.tab.other hb,hi.nx,hi.fin,hi.lo,hi.i1,hi.i0,hi.d,hi.r1,hi.r0⟩,h.coh,h.sat,h.mode,h.fr,h.nd,h.ft,h.cl,h.ol,h.sh,h.rf,h.rp⟩
theorem SpInv.tlb {s:Spc} {t1 t0:Nat→Option Nat} (h:SpInv s t1 t0) {tl:Tlb} (hb:Coh tl s.lf):SpInv { s with u:={ s.u with tlb:=tl}} t1 t0:=
 ⟨h.inv,hb,h.sat,h.mode,h.fr,h.nd,h.ft,h.cl,h.ol,h.sh,h.rf,h.rp⟩
theorem code_inv {s:Spc} {t1 t0:Nat→Option Nat} (h:SpInv s t1 t0) {d:List Nat} (hd:∀x∈d,x<256) (hl:d.length≤s.code.length*4096) :
  SpInv { s with u:={ s.u with b:=codeF s 0 d s.u.b}} t1 t0∧(∀i x,d[i]? = some x→codeF s 0 d s.u.b (codeAt s i)=x):=by
 refine ⟨h.bytes fun a ha=>?_,fun i x e=>?_⟩
 ·refine codeF_out s d 0 _ a hd fun i h1 h2 e=>?_
  have:=(h.ft _ (code_mem (s:=s) (i:=i / 4096) (by omega))).2
  rw [codeAt_eq] at e
  rw [show a / 4096=s.code.getD (i / 4096) 0 by omega] at ha
  exact this ha
 ·have:=codeF_in s (Spc.code_nodup h) d 0 s.u.b hd (by omega) i x e
  rwa [Nat.zero_add] at this
structure HasProg (s:Spc) (l:List In):Prop where
 len:l.length≤s.code.length*1024
 at':∀k i,l[k]? = some i→getW s.u.b (codeAt s (4*k)) 4=instW i
theorem HasProg.of {s:Spc} {l:List In} (hl:l.length≤s.code.length*1024) (hr:∀i∈l,rightB i=true) (h:∀i x,(progB l)[i]? = some x→s.u.b (codeAt s i)=x):HasProg s l:=by
 refine ⟨hl,fun k i e=>?_⟩
 have hk:k<l.length:=by
  by_cases hk:k<l.length
  ·exact hk
  ·rw [List.getElem?_eq_none (by omega)] at e;cases e
 have hi:i∈l:=by rw [List.getElem?_eq_getElem hk] at e;cases e;exact List.getElem_mem hk
 rw [getW_bytes (instW i) 4]
 ·exact Nat.mod_eq_of_lt (Nat.lt_of_lt_of_eq (instW_lt (In.ok (hr i hi))) (by decide))
 ·intro j hj;have e1:=h _ _ (progB_get l k i e j hj)
  rw [←e1]
  have e2:(4*k+j) / 4096=4*k / 4096:=by omega
  have e3:codeAt s (4*k)+j=codeAt s (4*k+j):=by
   rw [codeAt_eq,codeAt_eq,e2]
   omega
  rw [e3]
theorem HasProg.stay {s s':Spc} {l:List In} (h:HasProg s l) (hs:Stay s s'):HasProg s' l:=by
 refine ⟨by rw [hs.code];exact h.len,fun k i e=>?_⟩
 have hk:k<l.length:=by
  by_cases hk:k<l.length
  ·exact hk
  ·rw [List.getElem?_eq_none (by omega)] at e;cases e
 have:=h.len
 rw [←h.at' k i e,codeAt_eq,codeAt_eq,hs.code]
 exact getW_congr 4 _ fun a h1 h2=>hs.old a (by
  rw [show a / 4096=s.code.getD (4*k / 4096) 0 by omega]
  exact code_mem (by omega))
theorem fetch_prog {s:Spc} {t1 t0:Nat→Option Nat} (h:SpInv s t1 t0) {l:List In} (hp:HasProg s l) {k:Nat} {i:In} (hk:l[k]? = some i) (pick:Int) :
  ∃b,Coh b s.lf∧readF s.u (65536+4*k) 4 0 pick=((instW i,-1),{ s.u with tlb:=b}):=by
 have hkl:k<l.length:=by
  by_cases hk':k<l.length
  ·exact hk'
  ·rw [List.getElem?_eq_none (by omega)] at hk;cases hk
 have hlen:=hp.len
 have hcl:=h.cl
 have hv:vpn (65536+4*k)=16+4*k / 4096:=by unfold vpn;omega
 have hc:canonB (65536+4*k)=true:=by
  unfold canonB
  rw [decide_eq_true (by omega)]
  rfl
 have ha:alignedB (65536+4*k) 4=true:=by
  unfold alignedB
  rw [show sizeB 4=true from rfl,decide_eq_true (by show (65536+4*k)%4=0;omega)]
  rfl
 have hlf:s.lf (vpn (65536+4*k))=some (codeP (s.code.getD (4*k / 4096) 0)):=by
  rw [hv]
  unfold Spc.lf
  rw [if_pos (by omega),show 16+4*k / 4096 - 16=4*k / 4096 by omega]
 obtain ⟨b,hb,e⟩:=(read_uo h.un hc ha 0 pick (by decide)).2 _ hlf
 refine ⟨b,hb,?_⟩
 have hck:checkB (codeP (s.code.getD (4*k / 4096) 0)) 0 s.u.mode=true:=by rw [h.mode];rfl
 rw [e,hck,if_pos rfl]
 have hw:=hp.at' k i hk
 rw [codeAt_eq] at hw
 have e2:(65536+4*k)%4096=4*k%4096:=by omega
 rw [e2]
 show ((getW s.u.b (s.code.getD (4*k / 4096) 0*4096+4*k%4096) 4,-1),_)=_
 rw [hw]
theorem try_prog (X:Cx) {s:Spc} {t1 t0:Nat→Option Nat} (h:SpInv s t1 t0) {l:List In} (hp:HasProg s l) (hr:∀i∈l,rightB i=true) {k:Nat} {i:In} (hk:l[k]? = some i) {c:Cor} (hc:c.run=0) (hpc:c.pc=65536+4*k) (pick:Int) :
  ∃b,Coh b s.lf∧tryF X c s.u pick=doF X c { s.u with tlb:=b} i pick:=by
 obtain ⟨b,hb,e⟩:=fetch_prog h hp hk pick
 refine ⟨b,hb,?_⟩
 have hi:i∈l:=List.mem_of_getElem? hk
 unfold tryF
 rw [if_neg (fun h=>h hc),hpc,e]
 dsimp only
 rw [if_neg (by simp),instG_W (hr i hi)]
def shp:Shp:=⟨1,1,2⟩
def mk1 (s:Spc) (p:List In):Spc:={ s with u:={ s.u with b:=codeF s 0 (progB p) s.u.b}}
def mk2 (s:Spc) (p:List In):Spc:=(setF (mk1 s p) 0 2).2
def mk3 (s:Spc) (p:List In):Spc:=(setF (mk2 s p) 1 1).2
structure MkOk (s:Spc) (p:List In):Prop where
 s1:SetOk (mk1 s p) 0 2
 s2:SetOk (mk2 s p) 1 1
 inv:∃t1 t0,SpInv (mk3 s p) t1 t0
 prog:HasProg (mk3 s p) p
 r0:rightOf (mk3 s p) 0=2
 r1:rightOf (mk3 s p) 1=1
 f0:∃f,frameOf (mk3 s p) 0=some f
 f1:∃f,frameOf (mk3 s p) 1=some f
 shape:(mk3 s p).shape=s.shape
 own:(mk3 s p).own=s.own
 code:(mk3 s p).code=s.code
 z1:∀f,frameOf (mk3 s p) 1=some f→∀i,i<4096→(mk3 s p).u.b (f*4096+i)=0
structure MadeOk (s:Spc) (p:List In):Prop where
 l1:LayOk 9 0 65536 codeP shp.code.toNat 0 (t0S 9)
 l2:LayOk 9 0 131072 ownP shp.priv.toNat 0 (layF 0 65536 codeP shp.code.toNat 0 (t0S 9) []).2
 cl:s.code.length=1
 ol:s.own.length=1
 cf:∀f∈s.code,f<s.u.fr
 all:MkOk s p
theorem shared_va {p o:Nat} (hp:p<65536) (ho:o<4096):vpn (1073741824+p*4096+o)=262144+p∧canonB (1073741824+p*4096+o)=true∧(1073741824+p*4096+o)%4096=o:=by
 refine ⟨by unfold vpn;omega,?_,by omega⟩
 unfold canonB
 rw [decide_eq_true (by omega)]
 rfl
theorem ent_ppn (r:Int) (f:Nat):(ent r f).ppn=f:=by unfold ent;split <;> rfl
theorem check_ent (r:Int) (f:Nat):checkB (ent r f) 2 ⟨true,false,false⟩=decide (r=2):=by
 unfold ent
 by_cases h:r=2
 ·rw [if_pos h,decide_eq_true h];rfl
 ·rw [if_neg h,decide_eq_false h];rfl
theorem store_shared {s:Spc} {t1 t0:Nat→Option Nat} (h:SpInv s t1 t0) {p f o:Nat} (hp:p<65536) (hf:frameOf s p=some f) (hr:rightOf s p≠0) (ho:o<4096) (h8:o%8=0) (v:Nat) (pick:Int) :
  ∃b,Coh b s.lf∧storeF s.u (1073741824+p*4096+o) 8 v pick=(if rightOf s p=2 then (-1,{ s.u with tlb:=b,b:=putW s.u.b (f*4096+o) 8 v}) else (15,{ s.u with tlb:=b})):=by
 obtain ⟨e1,e2,e3⟩:=shared_va hp ho
 have ha:alignedB (1073741824+p*4096+o) 8=true:=by
  unfold alignedB
  rw [show sizeB 8=true from rfl,decide_eq_true (by show (1073741824+p*4096+o)%8=0;omega)]
  rfl
 have hl:=lf_at h.cl h.ol hf
 rw [if_neg hr,←e1] at hl
 obtain ⟨b,hb,e⟩:=(store_uo h.un e2 ha v pick).2 _ hl
 refine ⟨b,hb,?_⟩
 have hck:checkB (ent (rightOf s p) f) 2 s.u.mode=decide (rightOf s p=2):=by rw [h.mode];exact check_ent _ _
 rw [e,e3,ent_ppn,hck]
 by_cases h2:rightOf s p=2
 ·rw [if_pos h2,decide_eq_true h2,if_pos rfl];rfl
 ·rw [if_neg h2,decide_eq_false h2,if_neg (by simp)]
end Go.Proofs.YtjhnnjgnkkjmkaaGreatDoor
