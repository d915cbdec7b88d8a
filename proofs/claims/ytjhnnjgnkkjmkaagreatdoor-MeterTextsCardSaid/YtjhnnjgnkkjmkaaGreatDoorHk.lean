/- Programs without memory: what a core makes of them, instruction by instruction. Plain, no program. No condition. Programs over one shared page that may be written: what a core makes of them, instruction by instruction. Plain, no program. No condition. Lists of instructions as cells. Plain, no program. No condition. A program's bytes: of its instructions, of a node's program. No condition. -/
import Derived.Test.YtjhnnjgnkkjmkaaGreatDoorHd
import Derived.Test.YtjhnnjgnkkjmkaaGreatDoorHj
import Derived.Test.YtjhnnjgnkkjmkaaGreatDoorGb
import Derived.Test.YtjhnnjgnkkjmkaaGreatDoorGd
set_option maxHeartbeats 4000000
set_option maxRecDepth 100000
set_option linter.unusedVariables false
set_option linter.unusedSimpArgs false
namespace Go.Proofs.YtjhnnjgnkkjmkaaGreatDoor
open Go.RowKit Go.RR
def pureI (i:In):Bool:=decide (kd i.op≠.L) && (decide (kd i.op≠.S) && (decide (kd i.op≠.A) && !(decide (10≤i.op) && decide (i.op≤14))))
def coreF (c:Cor) (i:In):Cor:=
 if kd i.op = .B∨kd i.op = .J then jumpF c i
 else if kd i.op = .N∧i.op=0 then { c with run:=1}
 else if kd i.op = .N then { c with pc:=(c.pc+4)%18446744073709551616}
 else { (c.set i.rd (reckonF nilCx i (c.r i.rs.toNat) (c.r i.rt.toNat))) with pc:=(c.pc+4)%18446744073709551616}
theorem pureI_iff {i:In} (h:pureI i=true):¬(kd i.op = .L∨kd i.op = .S∨kd i.op = .A)∧CxFor nilCx i.op:=by
 unfold pureI at h
 simp only [Bool.and_eq_true,decide_eq_true_eq,Bool.not_eq_true',Bool.and_eq_false_iff,decide_eq_false_iff_not] at h
 obtain ⟨h1,h2,h3,h4⟩:=h
 exact ⟨fun e=>e.elim h1 fun e=>e.elim h2 h3,fun e=>by rcases h4 with h4 | h4 <;> omega⟩
theorem do_pure {i:In} (h:pureI i=true) (c:Cor) (u:Mu) (pick:Int):doF nilCx c u i pick=(⟨true,i,c.pc,-1,0,0,0,0,0⟩,coreF c i,u):=by
 unfold doF coreF
 rw [if_neg (pureI_iff h).1]
 dsimp only
 split
 ·rfl
 ·split
  ·rfl
  ·split <;> rfl
def atP (q:List In) (pc:Nat):Option In:=if 65536≤pc∧(pc - 65536)%4=0 then q[(pc - 65536) / 4]? else none
theorem atP_pc {q:List In} {pc:Nat} {i:In} (h:atP q pc=some i):∃k,pc=65536+4*k∧q[k]? = some i:=by
 unfold atP at h
 split at h
 ·rename_i e
  exact ⟨(pc - 65536) / 4,by omega,h⟩
 ·cases h
theorem try_pure {s:Spc} {t1 t0:Nat→Option Nat} (h:SpInv s t1 t0) {q:List In} (hp:HasProg s q) (hr:∀i∈q,rightB i=true) {c:Cor} (hc:c.run=0) {i:In} (hi:atP q c.pc=some i) (hpu:pureI i=true) :
  ∃b,Coh b s.lf∧tryF nilCx c s.u 0=(⟨true,i,c.pc,-1,0,0,0,0,0⟩,coreF c i,{ s.u with tlb:=b})∧(∀j,instG (readF s.u c.pc 4 0 0).1.1=some j→CxFor nilCx j.op):=by
 obtain ⟨k,hpc,hk⟩:=atP_pc hi
 obtain ⟨b,hb,e⟩:=try_prog nilCx h hp hr hk hc hpc 0
 refine ⟨b,hb,e.trans (do_pure hpu c _ 0),fun j hj=>?_⟩
 obtain ⟨b',-,e'⟩:=fetch_prog h hp hk 0
 rw [hpc,e',instG_W (hr i (List.mem_of_getElem? hk))] at hj
 cases hj
 exact (pureI_iff hpu).2
structure Mem (s:Spc) (m:Nat→Nat):Prop where
 right:rightOf s (0:Nat)=2
 at':∃f,frameOf s (0:Nat)=some f∧∀k,k<512→getW s.u.b (f*4096+8*k) 8=m k
def pc4 (c:Cor):Cor:={ c with pc:=(c.pc+4)%18446744073709551616}
def memA (c:Cor) (i:In):Nat:=(c.r i.rs.toNat+uof i.im)%18446744073709551616
def layM (m:Nat→Nat) (k v:Nat):Nat→Nat:=fun j=>if j=k then v%18446744073709551616 else m j
theorem set_pc (c:Cor) (n:Int) (v:Nat):(c.set n v).pc=c.pc:=by unfold Cor.set;split <;> rfl
theorem Mem.tlb {s:Spc} {m:Nat→Nat} (h:Mem s m) (b:Tlb):Mem { s with u:={ s.u with tlb:=b}} m:=⟨h.right,h.at'⟩
theorem data_frame {s:Spc} {t1 t0:Nat→Option Nat} (h:SpInv s t1 t0) {f:Nat} (hf:frameOf s (0:Nat)=some f):¬IsTab s.root t1 t0 f∧f ∉ s.code:=by
 have hm:=frameOf_mem hf
 refine ⟨(h.ft f hm).2,fun hc=>?_⟩
 have nd:=h.nd
 unfold Spc.frames at nd
 rw [List.nodup_append] at nd
 have hs:f∈s.shared.map (·.2):=by
  unfold frameOf at hf
  rw [Option.map_eq_some_iff] at hf
  obtain ⟨x,hx,rfl⟩:=hf
  exact List.mem_map.2 ⟨x,List.mem_of_find?_eq_some hx,rfl⟩
 exact nd.2.2 f (List.mem_append_left _ hc) f hs rfl
theorem lay_mem {s:Spc} {t1 t0:Nat→Option Nat} (h:SpInv s t1 t0) {q:List In} (hp:HasProg s q) {m:Nat→Nat} (hm:Mem s m) {f:Nat} (hf:frameOf s (0:Nat)=some f) {k:Nat} (hk:k<512) (v:Nat) {b:Tlb} (hb:Coh b s.lf) :
  SpInv { s with u:={ s.u with tlb:=b,b:=putW s.u.b (f*4096+8*k) 8 v}} t1 t0∧HasProg { s with u:={ s.u with tlb:=b,b:=putW s.u.b (f*4096+8*k) 8 v}} q∧Mem { s with u:={ s.u with tlb:=b,b:=putW s.u.b (f*4096+8*k) 8 v}} (layM m k v):=by
 obtain ⟨d1,d2⟩:=data_frame h hf
 refine ⟨?_,⟨hp.len,fun j i e=>?_⟩,⟨hm.right,f,hf,fun j hj=>?_⟩⟩
 ·refine (h.bytes (b:=putW s.u.b (f*4096+8*k) 8 v) fun a ha=>putW_out ?_).tlb hb
  by_cases e:a / 4096=f
  ·rw [e] at ha;exact (d1 ha).elim
  ·omega
 ·rw [←hp.at' j i e]
  refine getW_congr 4 _ fun a h1 h2=>putW_out ?_
  have hj:j<q.length:=by
   by_cases hj:j<q.length
   ·exact hj
   ·rw [List.getElem?_eq_none (by omega)] at e;cases e
  have hl:=hp.len
  have hc:s.code.getD (4*j / 4096) 0∈s.code:=by
   rw [List.getD_eq_getElem?_getD,List.getElem?_eq_getElem (by omega)]
   exact List.getElem_mem _
  have hne:s.code.getD (4*j / 4096) 0≠f:=fun e=>d2 (e▸hc)
  rw [codeAt_eq] at h1 h2
  have h1:s.code.getD (4*j / 4096) 0*4096+4*j%4096≤a:=h1
  have h2:a<s.code.getD (4*j / 4096) 0*4096+4*j%4096+4:=h2
  omega
 ·obtain ⟨f',hf',hw⟩:=hm.at'
  rw [hf] at hf'
  cases hf'
  show getW (putW s.u.b (f*4096+8*k) 8 v) (f*4096+8*j) 8=layM m k v j
  unfold layM
  by_cases e:j=k
  ·subst e;rw [if_pos rfl,getW_put]
  ·rw [if_neg e]
   exact (getW_put_ne _ (by omega)).trans (hw j hj)
def icells (l:List In):List Value:=l.flatMap In.cells
theorem icells_at:∀(l:List In) (n:Nat) (i:In),l[n]? = some i→(icells l)[n*5]? = some (.int .i64 i.op)∧(icells l)[n*5+1]? = some (.int .i64 i.rd)∧(icells l)[n*5+2]? = some (.int .i64 i.rs)∧(icells l)[n*5+3]? = some (.int .i64 i.rt)∧(icells l)[n*5+4]? = some (.int .i64 i.im)
 | [],n,i,h=>by simp at h
 | j :: l,0,i,h=>by simp at h;subst h;exact ⟨rfl,rfl,rfl,rfl,rfl⟩
 | j :: l,n+1,i,h=>by
  have:=icells_at l n i (by simpa using h)
  rw [show (n+1)*5=n*5+5 by omega]
  exact this
theorem icells_app (a b:List In):icells (a ++ b)=icells a ++ icells b:=by unfold icells;rw [List.flatMap_append]
theorem icells_one (l:List In):∀u∈icells l,u.oneCell'=true:=by
 intro u hu;unfold icells at hu
 obtain ⟨i,-,h⟩:=List.mem_flatMap.1 hu
 simp only [In.cells,List.mem_cons,List.not_mem_nil,or_false] at h
 rcases h with rfl | rfl | rfl | rfl | rfl <;> rfl
structure InsAt (w:World) (p:Option Addr) (cap:Nat) (l:List In):Prop where
 le:l.length≤100000
 cap:l.length≤cap
 spot:0<l.length→∃g of,p=some ⟨g,of,none⟩∧g<w.heap.size∧∀j u,(icells l)[j]? = some u→w.cell? ⟨g,of+j,none⟩=some u
theorem InsAt.of {w:World} {S:Nat→Prop} {v:Value} {l:List In} (h:Sl w S 5 v l.length (icells l)) (hl:l.length≤100000):∃p cap,v = .slice p l.length cap∧InsAt w p cap l:=by
 obtain ⟨-,p,cap,rfl,hc,hs⟩:=h
 refine ⟨p,cap,rfl,hl,hc,fun h0=>?_⟩
 obtain ⟨g,of,hp,-,hg,hcell⟩:=hs h0
 exact ⟨g,of,hp,hg,hcell⟩
theorem InsAt.chg0 {w w':World} {p:Option Addr} {cap:Nat} {l:List In} (h:InsAt w p cap l) (c:Chg NoB w w'):InsAt w' p cap l:=
 ⟨h.le,h.cap,fun h0=>by
  obtain ⟨g,of,hp,hg,hcell⟩:=h.spot h0
  exact ⟨g,of,hp,Nat.lt_of_lt_of_le hg c.size,fun j u hu=>c.cell (hcell j u hu) id⟩⟩
theorem InsAt.at {w:World} {p:Option Addr} {cap:Nat} {l:List In} (h:InsAt w p cap l) {n:Nat} {i:In} (hn:l[n]? = some i):∃g of,p=some ⟨g,of,none⟩∧g<w.heap.size∧
  w.cell? ⟨g,of+n*5,none⟩=some (.int .i64 i.op)∧w.cell? ⟨g,of+n*5+1,none⟩=some (.int .i64 i.rd)∧w.cell? ⟨g,of+n*5+2,none⟩=some (.int .i64 i.rs)∧w.cell? ⟨g,of+n*5+3,none⟩=some (.int .i64 i.rt)∧w.cell? ⟨g,of+n*5+4,none⟩=some (.int .i64 i.im):=by
 have hlt:=(List.getElem?_eq_some_iff.1 hn).1
 obtain ⟨g,of,hp,hg,hcell⟩:=h.spot (by omega)
 obtain ⟨a0,a1,a2,a3,a4⟩:=icells_at l n i hn
 refine ⟨g,of,hp,hg,hcell _ _ a0,?_,?_,?_,?_⟩
 ·rw [Nat.add_assoc];exact hcell _ _ a1
 ·rw [Nat.add_assoc];exact hcell _ _ a2
 ·rw [Nat.add_assoc];exact hcell _ _ a3
 ·rw [Nat.add_assoc];exact hcell _ _ a4
def bc (d:List Nat):List Value:=d.map fun x:Nat=>.int .u8 x
theorem bc_one (d:List Nat):∀u∈bc d,u.oneCell'=true:=by unfold bc;simp [Value.oneCell']
theorem rSize4 (w:World):Calls Tryz.prog 73 #[.int .i64 4] w (RetW (.bool true) fun w'=>Chg NoB w w'):=by
 have hB:=Blk.new w #[.int .i64 1,.int .i64 2,.int .i64 4,.int .i64 8] 3
 have k0:Chg NoB w (w.alloc (.cells #[.int .i64 1,.int .i64 2,.int .i64 4,.int .i64 8] 3)):=(Chg.refl NoB w).alloc _
 go_enter Tryz.func73,Tryz.ntmps73;go_wp2_with fail;generalize w.alloc (.cells #[.int .i64 1,.int .i64 2,.int .i64 4,.int .i64 8] 3)=w1 at *;have HC:=Lib.hid k0
 have g:=hB.cell
 have gl:=hB.lt
 clear k0;go_loopg [7] 2 (fun k i wr=>wr=w1∧((k=2∧i = .int .i64 0)∨(k=1∧i = .int .i64 1)∨(k=0∧i = .int .i64 2)))
 case atStart=>exact ⟨rfl,.inl ⟨rfl,rfl⟩⟩
 case round=>
  obtain ⟨rfl,⟨hk,rfl⟩ | ⟨hk,rfl⟩ | ⟨hk,rfl⟩⟩:=hrel
  ·subst hk;go_wp2_with fail;go_roundg 1
   case rel=>exact ⟨rfl,.inr (.inl ⟨rfl,rfl⟩)⟩
   case measure=>omega
  ·subst hk;go_wp2_with fail;go_roundg 0
   case rel=>exact ⟨rfl,.inr (.inr ⟨rfl,rfl⟩)⟩
   case measure=>omega
  ·go_wp2_with fail;go_ret;exact ⟨rfl,HC.out⟩
theorem bytesW_take (v:Nat):∀(n i:Nat),i<n→(bytesW v n).take (i+1)=(bytesW v n).take i ++ [v / 256 ^ i%256]:=fun n i h=>by
 rw [List.take_add_one,bytesW_get n v i h]
 rfl
theorem rBytes_any (v:Nat) (hv:v<4294967296) (w:World):Calls Tryz.prog 46 #[.int .u64 v,.int .i64 4] w (RetSl fun bv w'=>Own w' (fun k=>w.heap.size≤k) 5 1 bv 4 (bc (bytesW v 4))∧Chg NoB w w'):=by
 have HS:=Lib.hid rSize4
 have HV:=Lib.hid hv
 obtain ⟨i0,hi0,hz0,hz1,hz2⟩:=info_parts b_elem
 have HI:=Lib.hid (And.intro hi0 (And.intro hz0 (And.intro hz1 hz2)))
 clear hi0 hz0 hz1 hz2 hv;go_enter Tryz.func46,Tryz.ntmps46;go_wp2_with fail;go_loopg [0,5,6] 4 (fun k x b iv wr=>∃i:Nat,i≤4∧k=4 - i∧iv = .int .i64 i∧x = .int .u64 (v / 256 ^ i:Nat)∧Own wr (fun k=>w.heap.size≤k) 5 1 b i (bc ((bytesW v 4).take i))∧Chg NoB w wr)
 case atStart=>exact ⟨0,by omega,rfl,rfl,by rw [Nat.pow_zero,Nat.div_one],Own.nil _ _ _ _,Chg.refl NoB w⟩
 case round=>
  obtain ⟨i,h4,rfl,rfl,rfl,hO,hC⟩:=hrel
  obtain ⟨p,c,hb⟩:=hO.form
  subst hb;have HO:=Lib.hid hO
  have HC:=Lib.hid hC
  clear hO hC;by_cases hi:i<4
  ·have t1:decide ((i:Int)<4)=true:=decide_eq_true (by omega)
   have H4:=Lib.hid h4
   have HIL:=Lib.hid hi
   obtain ⟨y,hy⟩:∃y,v / 256 ^ i=y:=⟨_,rfl⟩
   have HY:=Lib.hid hy
   rw [hy]
   clear h4 hy hi;go_upto_region 5 with (refine (HS.out _).mono ?_;rintro e w1 ⟨rfl,c1⟩)
   have oA:=(HO.out.chg0 c1).chg0 ((Chg.refl NoB w1).alloc (.cells #[.int .u8 ((y:Int)%256)] 5))
   have sB:=(Own.fresh w1 [.int .u8 ((y:Int)%256)] 5 1 rfl (by unfold maxLen;omega):Own _ _ _ 1 _ _ _).sl
   have one1:∀u∈[Value.int .u8 ((y:Int)%256)],u.oneCell'=true:=by simp [Value.oneCell']
   have b1:i+1≤maxLen:=by unfold maxLen;have:=H4.out;omega
   have b2:(i+1)*1≤140737488355328:=by have:=H4.out;omega
   obtain ⟨hi0,hz0,hz1,hz2⟩:=HI.out
   have HC1:=Lib.hid ((HC.out.then0 c1).alloc (.cells #[.int .u8 ((y:Int)%256)] 5))
   clear c1;go_wp2_with (at_builtin;go_must (refine wpList_app rfl _ _ 46 rfl i0 _ 1 Tryz.underlying46 hi0 hz0 hz1 hz2 rfl rfl oA _ 1 _ rfl sB one1 b1 b2 ?_))
   intro v4 w4 o4 g4 _;have HO4:=Lib.hid o4
   have HG4:=Lib.hid g4
   have q2:IntKind.i64.wrap ((i:Int)+1)=((i+1:Nat):Int):=IntWalk.i64_in _ (by have:=H4.out;omega)
   clear oA sB one1 b1 b2 hi0 hz0 hz1 hz2 o4 g4;go_wp2_with fail;go_roundg (4 - (i+1))
   case rel=>
    refine ⟨i+1,by have:=HIL.out;omega,rfl,by go_num,?_,?_,?_⟩
    ·rw [Nat.pow_succ,←Nat.div_div_eq_div_mul,HY.out]
     have hy:y<4294967296:=by rw [←HY.out];exact Nat.lt_of_le_of_lt (Nat.div_le_self _ _) HV.out
     have:IntKind.u64.wrap ((y:Int) / 256)=((y / 256:Nat):Int):=by rw [IntKind.wrap_u64];omega
     rw [this]
    ·have e:bc ((bytesW v 4).take (i+1))=bc ((bytesW v 4).take i) ++ [Value.int .u8 ((y:Int)%256)]:=by
      rw [bytesW_take v 4 i HIL.out,HY.out]
      unfold bc
      rw [List.map_append]
      rfl
     rw [e]
     refine HO4.out.mono fun k hk=>?_
     rcases hk with hk | hk
     ·exact (HO.out.ownBlock k hk).1
     ·have:=HC1.out.size
      rw [World.size_alloc] at this
      omega
    ·refine HC1.out.trans (grown_chg (S:=fun k=>(Value.slice p i c).ownBlock=some k) HG4.out fun k hk=>hk) fun k hk e=>?_
     have:=(HO.out.ownBlock k e).1
     omega
   case measure=>have:=HIL.out;omega
  ·have t1:decide ((i:Int)<4)=false:=decide_eq_false (by omega)
   have e4:i=4:=by omega
   subst e4;clear hi h4;go_wp2_with (refine (HS.out _).mono ?_;rintro e w1 ⟨rfl,c1⟩)
   go_ret;exact ⟨_,rfl,HO.out.chg0 c1,HC.out.then0 c1⟩
theorem rPut_any (i:In) (hi:i.Ok) (w:World):Calls Tryz.prog 47 #[.agg #[.int .i64 i.op,.int .i64 i.rd,.int .i64 i.rs,.int .i64 i.rt,.int .i64 i.im]] w (RetW (.int .u32 (instW i)) fun w'=>Chg NoB w w'):=by
 have hw:=instW_lt hi
 obtain ⟨o,rd,rs,rt,im⟩:=i
 have h0:=hi.o0;have h1:=hi.o1;have h2:=hi.d0;have h3:=hi.d1;have h4:=hi.s0;have h5:=hi.s1;have h6:=hi.t0;have h7:=hi.t1;have h8:=hi.i0;have h9:=hi.i1
 dsimp only at h0 h1 h2 h3 h4 h5 h6 h7 h8 h9
 have e:∃a b c d m:Nat,o=a∧rd=b∧rs=c∧rt=d∧(im%4096).toNat=m∧a≤34∧b≤15∧c≤15∧d≤15∧m<4096:=⟨o.toNat,rd.toNat,rs.toNat,rt.toNat,_,by omega,by omega,by omega,by omega,rfl,by omega,by omega,by omega,by omega,by omega⟩
 obtain ⟨a,b,c,d,m,rfl,rfl,rfl,rfl,hm,ha,hb,hc,hd,hmm⟩:=e
 have hw:instW ⟨a,b,c,d,im⟩=a+b*256+c*4096+d*65536+m*1048576:=by
  unfold instW
  dsimp only
  rw [hm]
  simp only [Int.toNat_natCast]
 rw [hw]
 go_enter Tryz.func47,Tryz.ntmps47;by_cases hn:im<0
 ·have t1:decide (im<0)=true:=decide_eq_true hn
  go_wp2_with fail;go_ret;have ev:(a:Int)+256*b+4096*c+65536*d+1048576*(im+4096)=((a+b*256+c*4096+d*65536+m*1048576:Nat):Int):=by omega
  exact ⟨congrArg (fun z=>Ending.returned (Value.int .u32 z)) ev,(Chg.refl NoB w).alloc _⟩
 ·have t1:decide (im<0)=false:=decide_eq_false hn
  go_wp2_with fail;go_ret;have ev:(a:Int)+256*b+4096*c+65536*d+1048576*im=((a+b*256+c*4096+d*65536+m*1048576:Nat):Int):=by omega
  exact ⟨congrArg (fun z=>Ending.returned (Value.int .u32 z)) ev,(Chg.refl NoB w).alloc _⟩
def progL (l:List In):List In:=(l.take 1000).filter rightB
theorem progL_step {l:List In} {i:Nat} {a:In} (h:l[i]? = some a):progL (l.take (i+1))=progL (l.take i) ++ (if i<1000∧rightB a=true then [a] else []):=by
 have hi:=(List.getElem?_eq_some_iff.1 h).1
 have e:l.take (i+1)=l.take i ++ [a]:=by rw [List.take_add_one,h];rfl
 unfold progL
 rw [e,List.take_append,List.length_take,Nat.min_eq_left (by omega),List.filter_append]
 congr 1
 by_cases h1:i<1000
 ·obtain ⟨m,hm⟩:∃m,1000 - i=m+1:=⟨999 - i,by omega⟩
  rw [hm]
  cases hr:rightB a <;> simp [h1,hr]
 ·rw [show 1000 - i=0 by omega,if_neg (fun e=>h1 e.1)]
  rfl
theorem progL_no {l:List In} {i:Nat} {a:In} (h:l[i]? = some a) (hn:¬(i<1000∧rightB a=true)):progL (l.take (i+1))=progL (l.take i):=by
 rw [progL_step h,if_neg hn,List.append_nil]
theorem progL_yes {l:List In} {i:Nat} {a:In} (h:l[i]? = some a) (h1:i<1000) (h2:rightB a=true):progL (l.take (i+1))=progL (l.take i) ++ [a]:=by
 rw [progL_step h,if_pos ⟨h1,h2⟩]
theorem progL_len (l:List In):(progL l).length≤1000:=by unfold progL;exact Nat.le_trans (List.length_filter_le ..) (by rw [List.length_take];omega)
theorem progB_app (a b:List In):progB (a ++ b)=progB a ++ progB b:=by unfold progB;rw [List.flatMap_append]
theorem bc_app (a b:List Nat):bc (a ++ b)=bc a ++ bc b:=List.map_append
theorem code25_any {w:World} (l:List In) (S:Nat→Prop) (v:Value) (hs:Sl w S 5 v l.length (icells l)) (hl:l.length≤100000) :
  Calls Tryz.prog 30 #[v] w (RetSl fun bv w'=>Own w' (fun k=>w.heap.size≤k) 5 1 bv (progB (progL l)).length (bc (progB (progL l)))∧Chg NoB w w'):=by
 obtain ⟨vp,vc,hvf⟩:=hs.form
 subst hvf;have hI:=(InsAt.of hs hl)
 obtain ⟨p',c',hpe,hI⟩:=hI
 cases hpe
 have HI:=Lib.hid hI
 have HRR:=Lib.hid fun (i:In) w'=>rright_any i w'
 obtain ⟨i0,hi0,hz0,hz1,hz2⟩:=info_parts b_elem
 have HIF:=Lib.hid (And.intro hi0 (And.intro hz0 (And.intro hz1 hz2)))
 clear hI hi0 hz0 hz1 hz2 hs;go_enter Tryz.func30,Tryz.ntmps30;go_wp2_with fail;go_loopg [3,8] l.length (fun k b iv wr=>∃i:Nat,i+k=l.length∧iv = .int .i64 i∧Own wr (fun k=>w.heap.size≤k) 5 1 b (progB (progL (l.take i))).length (bc (progB (progL (l.take i))))∧Chg NoB w wr)
 case atStart=>exact ⟨0,by omega,rfl,Own.nil _ _ _ _,Chg.refl NoB w⟩
 case round=>
  obtain ⟨i,hik,rfl,hO,hC⟩:=hrel
  obtain ⟨bp,bcap,hb⟩:=hO.form
  subst hb;have HO:=Lib.hid hO
  have HC:=Lib.hid hC
  have HIK:=Lib.hid hik
  clear hO;by_cases hi:i<l.length
  ·obtain ⟨a,ha⟩:∃a,l[i]? = some a:=⟨l[i],List.getElem?_eq_getElem hi⟩
   obtain ⟨g,of,rfl,hg,x0,x1,x2,x3,x4⟩:=(HI.out.chg0 hC).at ha
   have hcap:=HI.out.cap
   have n0:(0:Int)≤i:=by omega
   have n1:IntKind.i64.wrap (i:Int)=i:=IntWalk.i64_in _ (by omega)
   have n2:(i:Int).toNat=i:=Int.toNat_natCast i
   have t1:decide ((i:Int)<l.length)=true:=decide_eq_true (by omega)
   have q2:IntKind.i64.wrap ((i:Int)+1)=((i+1:Nat):Int):=IntWalk.i64_in _ (by omega)
   have HA:=Lib.hid ha
   have HIL:=Lib.hid hi
   clear hC hik ha hi hl;by_cases hk:i<1000
   ·have t2:decide ((i:Int)<1000)=true:=decide_eq_true (by omega)
    have HK':=Lib.hid hk
    clear hk;go_upto_region 5 with fail;have B0:=Blk.new wr #[.int .i64 a.op,.int .i64 a.rd,.int .i64 a.rs,.int .i64 a.rt,.int .i64 a.im] 50
    have A0:=(Chg.refl NoB wr).alloc (.cells #[.int .i64 a.op,.int .i64 a.rd,.int .i64 a.rs,.int .i64 a.rt,.int .i64 a.im] 50)
    generalize wr.alloc (.cells #[.int .i64 a.op,.int .i64 a.rd,.int .i64 a.rs,.int .i64 a.rt,.int .i64 a.im] 50)=wa at *;obtain ⟨ab,hab⟩:∃ab,wr.heap.size=ab:=⟨_,rfl⟩
    rw [hab] at B0
    simp only [hab]
    have bE:=B0.ever
    have bL:=B0.everL
    have HA0:=Lib.hid A0
    have y0:=B0.cell
    have yl:=B0.lt
    clear A0 B0 hab x0 x1 x2 x3 x4 hg;have HRA:=Lib.hid (fun w'=>HRR.out a w')
    obtain ⟨rb,hrb⟩:∃b,rightB a=b:=⟨_,rfl⟩
    rw [hrb] at HRA
    have HRB:=Lib.hid hrb
    clear hrb;cases rb with
    | false=>
     have HS1:=Lib.hid (progL_no HA.out fun e=>Bool.false_ne_true (HRB.out.symm.trans e.2))
     go_wp2_with (refine (HRA.out _).mono ?_;rintro e w7 ⟨rfl,c7⟩);go_roundg (l.length - (i+1))
     case rel=>exact ⟨i+1,by have:=HIL.out;omega,by go_num,by rw [HS1.out];exact (HO.out.chg0 HA0.out).chg0 c7,(HC.out.step HA0.out).step c7⟩
     case measure=>have:=HIK.out;have:=HIL.out;omega
    | true=>
     have HS1:=Lib.hid (progL_yes HA.out HK'.out HRB.out)
     go_wp2_with fail;refine (HRA.out _).mono ?_
     rintro e w7 ⟨rfl,c7⟩;have HC7:=Lib.hid c7
     have HPu:=Lib.hid (fun w'=>rPut_any a (In.ok HRB.out) w')
     have y0:=bE w7 c7
     have yl:=bL w7 c7
     clear c7;go_wp2_with fail;refine (HPu.out _).mono ?_
     rintro e w8 ⟨rfl,c8⟩;have HC8:=Lib.hid c8
     have hwl:=instW_lt (In.ok HRB.out)
     have HB8:=Lib.hid (fun w'=>rBytes_any (instW a) hwl w')
     have q3:IntKind.u64.wrap ((instW a:Nat):Int)=((instW a:Nat):Int):=by rw [IntKind.wrap_u64];omega
     clear c8 y0 yl bE bL hwl HPu;go_wp2_with fail;refine (HB8.out _).mono ?_
     rintro e w9 ⟨v9,rfl,hO9,c9⟩;have HC9:=Lib.hid ((HA0.out.step HC7.out).step (HC8.out.step c9))
     have oA:=HO.out.chg0 HC9.out
     have sB:=hO9.sl
     have one1:=bc_one (bytesW (instW a) 4)
     have hln:(progB (progL (l.take i))).length≤4000:=by rw [progB_len];have:=progL_len (l.take i);omega
     have b1:(progB (progL (l.take i))).length+4≤maxLen:=by unfold maxLen;omega
     have b2:((progB (progL (l.take i))).length+4)*1≤140737488355328:=by omega
     obtain ⟨hi0,hz0,hz1,hz2⟩:=HIF.out
     clear c9 hln;go_wp2_with (at_builtin;go_must (refine wpList_app rfl _ _ 46 rfl i0 _ 1 Tryz.underlying46 hi0 hz0 hz1 hz2 rfl rfl oA _ 4 _ rfl sB one1 b1 b2 ?_))
     intro v10 w10 o10 g10 _;have HO10:=Lib.hid o10
     have HG10:=Lib.hid g10
     clear oA sB one1 b1 b2 hi0 hz0 hz1 hz2 o10 g10 hO9;go_wp2_with fail;go_roundg (l.length - (i+1))
     case rel=>
      refine ⟨i+1,by have:=HIL.out;omega,by go_num,?_,?_⟩
      ·have e:bc (progB (progL (l.take (i+1))))=bc (progB (progL (l.take i))) ++ bc (bytesW (instW a) 4):=by
        rw [HS1.out,progB_app,bc_app]
        rfl
       have e2:(progB (progL (l.take (i+1)))).length=(progB (progL (l.take i))).length+4:=by
        rw [HS1.out,progB_app,List.length_append];rfl
       rw [e,e2]
       refine HO10.out.mono fun k hk=>?_
       rcases hk with hk | hk
       ·exact (HO.out.ownBlock k hk).1
       ·have:=(HC.out.step HC9.out).size
        omega
      ·refine (HC.out.step HC9.out).trans (grown_chg (S:=fun k=>(Value.slice bp (progB (progL (l.take i))).length bcap).ownBlock=some k) HG10.out fun k hk=>hk) fun k hk e=>?_
       have:=(HO.out.ownBlock k e).1
       omega
     case measure=>have:=HIK.out;have:=HIL.out;omega
   ·have t2:decide ((i:Int)<1000)=false:=decide_eq_false (by omega)
    have HS1:=Lib.hid (progL_no HA.out fun e=>hk e.1)
    clear hk;go_wp2_with fail;go_roundg (l.length - (i+1))
    case rel=>exact ⟨i+1,by have:=HIL.out;omega,by go_num,by rw [HS1.out];exact HO.out.chg0 ((Chg.refl NoB wr).alloc _),HC.out.alloc _⟩
    case measure=>have:=HIK.out;have:=HIL.out;omega
  ·have e:i=l.length:=by omega
   subst e;rw [List.take_length] at HO
   have t1:decide ((l.length:Int)<l.length)=false:=decide_eq_false (by omega)
   have t2:decide (l.length<l.length)=false:=decide_eq_false (by omega)
   have hln:(progB (progL l)).length≤4000:=by rw [progB_len];have:=progL_len l;omega
   clear hC hik hi hl;simp only [List.take_length]
   go_wp2_with fail;go_ret;exact ⟨_,rfl,HO.out,HC.out⟩
theorem INSTi:(Tryz.prog.info? 50).map (fun i=>(i.zero,i.size,i.bytes))=some (some (.agg #[.int .i64 0,.int .i64 0,.int .i64 0,.int .i64 0,.int .i64 0]),5,40):=by kernel_rfl
def preI:List In:=[⟨1,1,0,0,1⟩,⟨3,1,1,0,30⟩]
theorem program_any {w:World} (l:List In) (S:Nat→Prop) (v:Value) (hs:Sl w S 5 v l.length (icells l)) (hl:l.length≤90000) :
  Calls Tryz.prog 17 #[v] w (RetSl fun bv w'=>Own w' (fun k=>w.heap.size≤k) 5 1 bv (progB (progL (preI ++ l))).length (bc (progB (progL (preI ++ l))))∧Chg NoB w w'):=by
 obtain ⟨vp,vc,hvf⟩:=hs.form
 subst hvf;have ca:Chg NoB w (w.alloc (.cells #[.int .i64 1,.int .i64 1,.int .i64 0,.int .i64 0,.int .i64 1,.int .i64 3,.int .i64 1,.int .i64 1,.int .i64 0,.int .i64 30] 50)):=(Chg.refl NoB w).alloc _
 have oX:Own (w.alloc (.cells #[.int .i64 1,.int .i64 1,.int .i64 0,.int .i64 0,.int .i64 1,.int .i64 3,.int .i64 1,.int .i64 1,.int .i64 0,.int .i64 30] 50)) (fun k=>k=w.heap.size) 50 5 (.slice (some ⟨w.heap.size,0,none⟩) 2 2) 2 (icells preI):=Own.fresh w (icells preI) 50 2 rfl (by decide)
 have sX:=hs.chg0 ca
 have HCA:=Lib.hid ca
 have one:=icells_one l
 have b1:2+l.length≤maxLen:=by unfold maxLen;omega
 have b2:(2+l.length)*40≤140737488355328:=by omega
 obtain ⟨i0,hi0,hz0,hz1,hz2⟩:=info_parts INSTi
 have HL:=Lib.hid hl
 clear hs ca hl;go_enter Tryz.func17,Tryz.ntmps17;go_wp2_with (at_builtin;go_must (refine wpList_app rfl _ _ 51 rfl i0 _ 40 Tryz.underlying51 hi0 hz0 hz1 hz2 rfl rfl oX _ l.length _ rfl sX one b1 b2 ?_))
 intro v' w5 ho hg hn;have C5:Chg NoB w w5:=HCA.out.trans (grown_chg (S:=fun k=>k=w.heap.size) hg fun k hk=>by simp [Value.ownBlock] at hk;exact hk.symm) fun k hk e=>by have e:k=w.heap.size:=e;omega
 have hlen:(preI ++ l).length=2+l.length:=by rw [List.length_append];rfl
 have hcd:=code25_any (preI ++ l) _ v' (by rw [icells_app,hlen];exact ho.sl) (by rw [hlen];have:=HL.out;omega)
 have HCd:=Lib.hid hcd
 have HC5:=Lib.hid C5
 clear hi0 hz0 hz1 hz2 one b1 b2 oX sX ho hg hn C5 hlen hcd;go_wp2_with fail;with_reducible refine HCd.out.mono ?_
 rintro e w6 ⟨bv,rfl,hO,C6⟩;have HO:=Lib.hid (And.intro (hO.mono (S':=fun k=>w.heap.size≤k) fun k hk=>Nat.le_trans HC5.out.size hk) (HC5.out.step C6))
 clear hO C6;go_wp2_with fail;go_ret;exact ⟨_,rfl,HO.out.1,HO.out.2⟩
end Go.Proofs.YtjhnnjgnkkjmkaaGreatDoor
