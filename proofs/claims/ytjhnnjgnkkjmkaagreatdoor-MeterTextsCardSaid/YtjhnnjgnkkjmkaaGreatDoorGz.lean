/- Spaces: bytes of code are laid. No condition. Spaces: a page's bytes. No condition. Instructions by words: Get; sizes, signs. No condition. The unit: swap. No condition. -/
import Derived.Test.YtjhnnjgnkkjmkaaGreatDoorGy
import Derived.Test.YtjhnnjgnkkjmkaaGreatDoorGe
import Derived.Test.YtjhnnjgnkkjmkaaGreatDoorGs
import Derived.Test.YtjhnnjgnkkjmkaaGreatDoorGd
set_option maxHeartbeats 2000000
set_option maxRecDepth 100000
set_option linter.unusedVariables false
set_option linter.unusedSimpArgs false
namespace Go.Proofs.YtjhnnjgnkkjmkaaGreatDoor
open Go.RowKit Go.RR
theorem SpAt.remem {w w':World} {L:Pl} {s:Spc} (h:SpAt w L s) {b:By} (hm:MemAt w' (Grow L.SM w) L.mb b s.u.fr) (c:Chg L.SM w w'):SpAt w' (L.grow w w') { s with u:={ s.u with b:=b}}∧Chg L.All w w':=
 h.retab (h.tab.store hm c) (c.mono fun _ _ e=>.inl e)
def codeAt (s:Spc) (k:Nat):Nat:=s.code.getD (k / 4096) 0*4096+k%4096
theorem codeF_step (s:Spc) (a c:Nat) (l:List Nat) (b:By):codeF s a (c :: l) b=codeF s (a+1) l (putW b (codeAt s a) 1 c):=rfl
theorem codeF_snoc (s:Spc) (c:Nat):∀(l:List Nat) (a:Nat) (b:By),codeF s a (l ++ [c]) b=putW (codeF s a l b) (codeAt s (a+l.length)) 1 c
 | [],a,b=>by show putW b (codeAt s a) 1 c=putW b (codeAt s (a+0)) 1 c;rw [Nat.add_zero]
 | x :: l,a,b=>by
  show codeF s (a+1) (l ++ [c]) _=putW (codeF s (a+1) l _) (codeAt s (a+(l.length+1))) 1 c
  rw [codeF_snoc s c l (a+1) _,show a+1+l.length=a+(l.length+1) by omega]
theorem code_any {w:World} {L:Pl} {s:Spc} (h:SpAt w L s) (v:Value) (d:List Nat) (Sd:Nat→Prop) (hv:Sl w Sd 1 v d.length (d.map fun x:Nat=>.int .u8 x)) (hsd:∀k,Sd k→¬L.All k∧k<w.heap.size) (hd:∀x∈d,x<256) (hn:d.length≤s.code.length*4096) (hcl:s.code.length≤16) (hcf:∀f∈s.code,f<s.u.fr) :
  Calls Tryz.prog 42 #[.pointer (some ⟨L.pb,0,none⟩),.int .i64 0,v] w (RetW (.int .i64 0) fun w'=>∃L':Pl,Ext L L' w∧SpAt w' L' { s with u:={ s.u with b:=codeF s 0 d s.u.b}}∧Chg L.All w w'):=by
 obtain ⟨vp,vc,hvf⟩:=hv.form
 subst hvf;have H:=Lib.hid h
 have HV:=Lib.hid hv
 have HSD:=Lib.hid hsd
 have HD:=Lib.hid hd
 have HCF:=Lib.hid hcf
 have HFR:=Lib.hid h.tab.fr
 obtain ⟨cp,cc,hcv⟩:=h.code.form
 obtain ⟨n,hnn⟩:∃n,d.length=n:=⟨_,rfl⟩
 obtain ⟨m,hm⟩:∃m,s.code.length=m:=⟨_,rfl⟩
 rw [hnn,hm] at hn
 rw [hm] at hcl hcv
 rw [hnn] at HV ⊢
 have HN:=Lib.hid hnn
 have HM:=Lib.hid hm
 have HCV:=Lib.hid hcv
 have f8:w.cell? ⟨L.pb,8,none⟩=some (.slice cp m cc):=by rw [←hcv];exact h.blk.cell' rfl
 have fl:=h.blk.lt
 have t1:decide ((m:Int)*4096<0)=false:=decide_eq_false (by omega)
 have t2:decide ((m:Int)*4096<n)=false:=decide_eq_false (by omega)
 have t4:decide (m*4096<n)=false:=decide_eq_false (by omega)
 clear h hv hsd hd hcf hcv hnn hm;go_enter Tryz.func42,Tryz.ntmps42;go_wp2_with fail;clear f8 fl t1 t2 t4;go_loopg [41] n (fun q x wr=>∃(k:Nat) (L':Pl),x = .int .i64 k∧k≤n∧q=n - k∧Ext L L' w∧SpAt wr L' { s with u:={ s.u with b:=codeF s 0 (d.take k) s.u.b}}∧Chg L.All w wr)
 case atStart=>exact ⟨0,L,rfl,by omega,by omega,Ext.refl _ _,H.out,Chg.refl _ _⟩
 case round=>
  obtain ⟨k,L',rfl,hkn,hq,hE,hS,hC⟩:=hrel
  have HQ:=Lib.hid hq
  have HE:=Lib.hid hE
  have HS:=Lib.hid hS
  have HC:=Lib.hid hC
  by_cases hk:k<n
  ·have t1:decide (k<n)=true:=decide_eq_true hk
   have hkd:k<d.length:=by rw [HN.out];exact hk
   obtain ⟨c,hc⟩:∃c,d[k]? = some c:=⟨d[k],List.getElem?_eq_getElem hkd⟩
   have hc256:=HD.out c (List.mem_of_getElem? hc)
   obtain ⟨-,p',c',he,-,hp'⟩:=HV.out.chg hC fun j hj=>(HSD.out j hj).1
   obtain ⟨g,off,hg,-,hgl,hcell⟩:=hp' (by omega)
   cases he
   subst hg;have v0:wr.cell? ⟨g,off+k,none⟩=some (.int .u8 c):=hcell k _ (by rw [List.getElem?_map,hc];rfl)
   obtain ⟨j,hj⟩:∃j,k / 4096=j:=⟨_,rfl⟩
   obtain ⟨r,hr⟩:∃r,k%4096=r:=⟨_,rfl⟩
   have hjm:j<m:=by omega
   have ck:(k:Int) / 4096=(j:Int):=by omega
   have cm:(k:Int)%4096=(r:Int):=by omega
   obtain ⟨f,hf⟩:∃f,s.code[j]? = some f:=⟨s.code[j]'(by rw [HM.out];exact hjm),List.getElem?_eq_getElem _⟩
   have hff:=HCF.out f (List.mem_of_getElem? hf)
   have hfr:=HFR.out
   have hcode:=hS.code
   obtain ⟨-,p2,c2,he2,hle2,hp2⟩:=hcode
   obtain ⟨g2,off2,hg2,-,hgl2,hcell2⟩:=hp2 (by show 0<s.code.length;rw [HM.out];omega)
   have w0:wr.cell? ⟨g2,off2+j,none⟩=some (.int .i64 f):=hcell2 j _ (by show (ints s.code)[j]? = _;unfold ints;rw [List.getElem?_map,hf];rfl)
   have hb:=hS.blk
   rw [hE.1,he2,hg2] at hb
   have b3:wr.cell? ⟨L.pb,3,none⟩=some (.pointer (some ⟨L'.mb,0,none⟩)):=hb.cell' rfl
   have b8:wr.cell? ⟨L.pb,8,none⟩=some (.slice (some ⟨g2,off2,none⟩) m c2):=by rw [←HM.out];exact hb.cell' rfl
   have bl:=hb.lt
   have hat:codeAt s k=f*4096+r:=by unfold codeAt;rw [hj,hr,List.getD_eq_getElem?_getD,hf];rfl
   have hst:=fun (w':World) (cw:Chg NoB wr w')=>Store_any (hS.chg0 cw).mu.mem (f*4096+r) 1 c (by omega) hS.mu.fr (by omega) (by unfold alignedB;rw [show sizeB ((1:Nat):Int)=true from rfl];exact decide_eq_true (Nat.mod_one _)) (by show (f*4096+r) / 4096<s.u.fr;omega)
   have HAT:Hid (codeF s 0 (d.take (k+1)) s.u.b=putW (codeF s 0 (d.take k) s.u.b) (f*4096+r) 1 c):=Lib.hid (by
    rw [List.take_add_one,hc]
    show codeF s 0 (d.take k ++ [c]) s.u.b=_
    rw [codeF_snoc,Nat.zero_add,List.length_take,Nat.min_eq_left (Nat.le_of_lt hkd),hat])
   simp only [show ((f*4096+r:Nat):Int)=(f:Int)*4096+(r:Int) by omega,Int.natCast_one] at hst
   have HSt:=Lib.hid hst
   have h1:(f:Int)≤1048576:=by omega
   have h2:(r:Int)<4096:=by omega
   have h3:(c:Int)<256:=by omega
   have q1:((f:Int)*4096+(r:Int))%18446744073709551616=(f:Int)*4096+(r:Int):=by omega
   have q2:(c:Int)%18446744073709551616=(c:Int):=by omega
   have jj:(j:Int)≤100:=by omega
   have jw:IntKind.i64.wrap (j:Int)=(j:Int):=IntWalk.i64_in _ (by omega)
   have jm:(j:Int)<(m:Int):=by omega
   have j0:(0:Int)≤(j:Int):=by omega
   have jn:(j:Int).toNat=j:=Int.toNat_natCast j
   clear hq hE hS hC hkd hc hcell hp' hj hr hf hff hcell2 hp2 hle2 he2 hg2 hb hat hst;go_upto_region 9 with fail;have S0:Chg NoB wr wr:=Chg.refl _ _
   have g3:∀w',Chg NoB wr w'→w'.cell? ⟨L.pb,3,none⟩=some (.pointer (some ⟨L'.mb,0,none⟩)):=fun w' c=>c.cell b3 id
   have g8:∀w',Chg NoB wr w'→w'.cell? ⟨L.pb,8,none⟩=some (.slice (some ⟨g2,off2,none⟩) m c2):=fun w' c=>c.cell b8 id
   have gw:∀w',Chg NoB wr w'→w'.cell? ⟨g2,off2+j,none⟩=some (.int .i64 f):=fun w' c=>c.cell w0 id
   refine wp_region_mix 19 [(true,0),(true,1),(true,2),(true,3),(true,4),(true,5),(true,6),(true,7),(true,8),(true,9),(true,10),(true,11),(true,12),(true,13),(true,14),(true,15),(true,16),(true,17),(true,18)] (fun w'=>Chg NoB wr w') (by kernel_rfl) (by kernel_rfl) (fun _ _ _ _ _ h=>h) (S0.drew) ?_
   simp only [pickMix_nil,pickMix_cons,Option.getD_some,List.getElem?_toArray,List.getElem?_cons_zero,List.getElem?_cons_succ,List.cons_append,List.nil_append,List.drop_succ_cons,List.drop_zero]
   iterate 19
    refine wpMix_take rfl ?_;apply Exists.intro;refine ⟨fun wS hS=>?_,?_⟩
    ·try dsimp only at hS
     have cS:=hS
     go_simp;try rfl
    simp only [Act.put,List.setIfInBounds_toArray,List.set_cons_zero,List.set_cons_succ]
   refine wpMix_nil ?_
   go_wp2_with fail;have cS:=S0.drew
   refine (HSt.out _ cS).mono ?_
   rintro e w5 ⟨rfl,hm5,c5⟩;obtain ⟨hS5,hC5⟩:=(HS.out.chg0 cS).remem hm5 c5
   have HX:Hid (∃L2:Pl,Ext L L2 w∧SpAt w5 L2 { s with u:={ s.u with b:=codeF s 0 (d.take (k+1)) s.u.b}}∧Chg L.All w w5):=Lib.hid (by
    rw [HAT.out]
    exact ⟨_,HE.out.trans (Ext.grow L' _ w5) (Nat.le_trans HC.out.size cS.size),hS5,HE.out.chg HC.out ((cS.mono (S':=L'.All) fun _ _ e=>e.elim).step hC5)⟩)
   clear hm5 c5 hS5 hC5 g3 g8 gw S0 cS;go_wp2_with fail;go_roundg (n - (k+1))
   ·obtain ⟨L2,x1,x2,x3⟩:=HX.out
    exact ⟨k+1,L2,by first | rfl | (congr 1),by omega,rfl,x1,x2,x3⟩
   ·have:=HQ.out;omega
  ·have t1:decide (k<n)=false:=decide_eq_false hk
   have HX:Hid (codeF s 0 (d.take k) s.u.b=codeF s 0 d s.u.b):=Lib.hid (by rw [List.take_of_length_le (by rw [HN.out];omega)])
   clear hq hE hS hC;go_wp2_with fail;go_ret;exact ⟨rfl,L',HE.out,by rw [←HX.out];exact HS.out,HC.out⟩
theorem signed_any (o:Int) (w:World):Calls Tryz.prog 265 #[.int .i64 o] w (RetW (.bool (signedI o)) fun w'=>w'=w):=by
 have HS:Hid (signedI o=((decide (19≤o) && decide (o≤22)) || (decide (30≤o) && decide (o≤33)))):=Lib.hid rfl
 generalize h1:decide (19≤o)=b1 at HS
 generalize h2:decide (o≤22)=b2 at HS
 generalize h3:decide (30≤o)=b3 at HS
 generalize h4:decide (o≤33)=b4 at HS
 rw [HS.out]
 cases b1 <;> cases b2 <;> cases b3 <;> cases b4 <;>
 ·go_enter Tryz.func265,Tryz.ntmps265;go_wp2_with fail;go_ret;exact ⟨rfl,rfl⟩
theorem isize_any (o:Int) (w:World):Calls Tryz.prog 225 #[.int .i64 o] w (RetW (.int .i64 (sizeI o)) fun w'=>w'=w):=by
 by_cases h1:o=19∨o=23∨o=26∨o=20∨o=24∨o=27∨o=21∨o=25∨o=28∨o=30∨o=32∨o=22∨o=29∨o=31∨o=33
 ·rcases h1 with rfl | rfl | rfl | rfl | rfl | rfl | rfl | rfl | rfl | rfl | rfl | rfl | rfl | rfl | rfl <;>
  ·go_enter Tryz.func225,Tryz.ntmps225;go_wp2_with fail;go_ret;exact ⟨rfl,rfl⟩
 ·simp only [not_or] at h1
  have HS:Hid (sizeI o=0):=Lib.hid (by unfold sizeI;simp [h1])
  obtain ⟨n1,n2,n3,n4,n5,n6,n7,n8,n9,n10,n11,n12,n13,n14,n15⟩:=h1
  have e1:(o == 19)=false:=beq_eq_false_iff_ne.2 n1
  have e2:(o == 23)=false:=beq_eq_false_iff_ne.2 n2
  have e3:(o == 26)=false:=beq_eq_false_iff_ne.2 n3
  have e4:(o == 20)=false:=beq_eq_false_iff_ne.2 n4
  have e5:(o == 24)=false:=beq_eq_false_iff_ne.2 n5
  have e6:(o == 27)=false:=beq_eq_false_iff_ne.2 n6
  have e7:(o == 21)=false:=beq_eq_false_iff_ne.2 n7
  have e8:(o == 25)=false:=beq_eq_false_iff_ne.2 n8
  have e9:(o == 28)=false:=beq_eq_false_iff_ne.2 n9
  have e10:(o == 30)=false:=beq_eq_false_iff_ne.2 n10
  have e11:(o == 32)=false:=beq_eq_false_iff_ne.2 n11
  have e12:(o == 22)=false:=beq_eq_false_iff_ne.2 n12
  have e13:(o == 29)=false:=beq_eq_false_iff_ne.2 n13
  have e14:(o == 31)=false:=beq_eq_false_iff_ne.2 n14
  have e15:(o == 33)=false:=beq_eq_false_iff_ne.2 n15
  clear n1 n2 n3 n4 n5 n6 n7 n8 n9 n10 n11 n12 n13 n14 n15;rw [HS.out]
  go_enter Tryz.func225,Tryz.ntmps225;go_wp2_with fail;go_ret;exact ⟨rfl,rfl⟩
def In.agg (i:In):Value:=.agg #[.int .i64 i.op,.int .i64 i.rd,.int .i64 i.rs,.int .i64 i.rt,.int .i64 i.im]
theorem and_lo32 (k:Nat) (hk:k≤32) (x:Int) (h0:0≤x) (h1:x<4294967296):bits .and .u32 x (2 ^ k - 1)=x%2 ^ k:=
 bits_mask .u32 32 (by decide) (fun m h0 h1=>by rw [IntKind.wrap_u32];omega) k hk x h0 (by simpa using h1)
theorem sar_top (v:Nat) (hv:v<4294967296):wrap32 (v:Int) / 1048576=(if v / 1048576<2048 then ((v / 1048576:Nat):Int) else ((v / 1048576:Nat):Int) - 4096):=by
 unfold wrap32
 by_cases h:v<2147483648
 ·have e:((v:Int)+2147483648)%4294967296=v+2147483648:=Int.emod_eq_of_lt (by omega) (by omega)
  rw [e,if_pos (by omega),Int.natCast_ediv,show (v:Int)+2147483648 - 2147483648=v by omega]
  rfl
 ·have e:((v:Int)+2147483648)%4294967296=v - 2147483648:=by
   rw [show (v:Int)+2147483648=v - 2147483648+4294967296*1 by omega,Int.add_mul_emod_self_left]
   exact Int.emod_eq_of_lt (by omega) (by omega)
  rw [e,if_neg (by omega),Int.natCast_ediv,show (v:Int) - 2147483648 - 2147483648=v+(-4096)*1048576 by omega,Int.add_mul_ediv_right _ _ (by omega)]
  rfl
theorem get_word (v:Nat) (hv:v<4294967296) (w:World):Calls Tryz.prog 171 #[.int .u32 v] w
  (RetW (.tuple #[match instG v with | some i=>In.agg i | none=>In.agg ⟨0,0,0,0,0⟩,.bool (instG v).isSome]) fun w'=>Chg NoB w w'):=by
 obtain ⟨i,hi⟩:∃i,instOf v=i:=⟨_,rfl⟩
 have HR:=Lib.hid (fun w=>right_any i w)
 obtain ⟨b,hb⟩:∃b,rightB i=b:=⟨_,rfl⟩
 have HI:Hid (instG v=if b=true then some i else none):=Lib.hid (by unfold instG;rw [hi,hb])
 rw [hb] at HR
 rw [HI.out]
 clear hb;obtain ⟨o,rd,rs,rt,im⟩:=i
 have h0:((v%256:Nat):Int)=o:=congrArg In.op hi
 have h1:((v / 256%16:Nat):Int)=rd:=congrArg In.rd hi
 have h2:((v / 4096%16:Nat):Int)=rs:=congrArg In.rs hi
 have h3:((v / 65536%16:Nat):Int)=rt:=congrArg In.rt hi
 have h4:(if v / 1048576<2048 then ((v / 1048576:Nat):Int) else ((v / 1048576:Nat):Int) - 4096)=im:=congrArg In.im hi
 have q0:bits .and .u32 (v:Int) 255=o:=by have:=and_lo32 8 (by omega) (v:Int) (by omega) (by omega);simp at this;rw [this];omega
 have q1:bits .and .u32 ((v:Int) / 256) 15=rd:=by have:=and_lo32 4 (by omega) ((v:Int) / 256) (by omega) (by omega);simp at this;rw [this];omega
 have q2:bits .and .u32 ((v:Int) / 4096) 15=rs:=by have:=and_lo32 4 (by omega) ((v:Int) / 4096) (by omega) (by omega);simp at this;rw [this];omega
 have q3:bits .and .u32 ((v:Int) / 65536) 15=rt:=by have:=and_lo32 4 (by omega) ((v:Int) / 65536) (by omega) (by omega);simp at this;rw [this];omega
 have r0:wrap64 o=o:=IntWalk.wrap64_in _ (by omega)
 have r1:wrap64 rd=rd:=IntWalk.wrap64_in _ (by omega)
 have r2:wrap64 rs=rs:=IntWalk.wrap64_in _ (by omega)
 have r3:wrap64 rt=rt:=IntWalk.wrap64_in _ (by omega)
 have q4:wrap32 (v:Int) / 1048576=im:=(sar_top v hv).trans h4
 have r4:wrap64 im=im:=IntWalk.wrap64_in _ (by
  have:v / 1048576<4096:=by omega
  rw [←h4];split <;> omega)
 clear hi h0 h1 h2 h3 h4;have HRR:=HR
 clear hv;go_enter Tryz.func171,Tryz.ntmps171;go_wp2_with fail;clear q0 q1 q2 q3 q4 r0 r1 r2 r3 r4;refine (HR.out _).mono ?_
 rintro e w1 ⟨rfl,hC⟩;have C1:=Lib.hid ((((Chg.refl NoB w).alloc (.cells #[.int .i64 0,.int .i64 0,.int .i64 0,.int .i64 0,.int .i64 0] 50)).alloc (.cells #[.int .i64 o,.int .i64 rd,.int .i64 rs,.int .i64 rt,.int .i64 im] 50)).step hC)
 have bR:=hC.blk0 ((Blk.new w #[.int .i64 0,.int .i64 0,.int .i64 0,.int .i64 0,.int .i64 0] 50).alloc (.cells #[.int .i64 o,.int .i64 rd,.int .i64 rs,.int .i64 rt,.int .i64 im] 50))
 have bI:=hC.blk0 (Blk.new (w.alloc (.cells #[.int .i64 0,.int .i64 0,.int .i64 0,.int .i64 0,.int .i64 0] 50)) #[.int .i64 o,.int .i64 rd,.int .i64 rs,.int .i64 rt,.int .i64 im] 50)
 obtain ⟨rb,hrb⟩:∃rb,w.heap.size=rb:=⟨_,rfl⟩
 rw [show (w.alloc (.cells #[.int .i64 0,.int .i64 0,.int .i64 0,.int .i64 0,.int .i64 0] 50)).heap.size=rb+1 by rw [←hrb];simp] at bI
 simp only [hrb] at bR ⊢
 have HB:Hid (w.heap.size≤rb):=Lib.hid (by omega)
 clear hC hrb;have r0:=bR.cell
 have rl:=bR.lt
 have rz:=bR.frozen
 have i0:=bI.cell
 have il:=bI.lt
 have HCS:∀(v0 v1 v2 v3 v4:Value),Chg NoB w (((((w1.setCell ⟨rb,0,none⟩ v0).setCell ⟨rb,1,none⟩ v1).setCell ⟨rb,2,none⟩ v2).setCell ⟨rb,3,none⟩ v3).setCell ⟨rb,4,none⟩ v4):=fun v0 v1 v2 v3 v4=>
  ((((C1.out.setCell (a:=⟨rb,0,none⟩) (Or.inr HB.out) v0).setCell (a:=⟨rb,1,none⟩) (Or.inr HB.out) v1).setCell (a:=⟨rb,2,none⟩) (Or.inr HB.out) v2).setCell (a:=⟨rb,3,none⟩) (Or.inr HB.out) v3).setCell (a:=⟨rb,4,none⟩) (Or.inr HB.out) v4
 clear bR bI HR HI;cases b with
 | true=>
  go_wp2_with fail;exact bodyPost_ret (v:=.tuple #[.agg #[.int .i64 o,.int .i64 rd,.int .i64 rs,.int .i64 rt,.int .i64 im],.bool true]) (by simp [results,Tryz.results171,go_sem,r0,rl]) rfl ⟨rfl,HCS _ _ _ _ _⟩
 | false=>
  go_wp2_with fail;exact bodyPost_ret (v:=.tuple #[.agg #[.int .i64 0,.int .i64 0,.int .i64 0,.int .i64 0,.int .i64 0],.bool false]) (by simp [results,Tryz.results171,go_sem,r0,rl]) rfl ⟨rfl,HCS _ _ _ _ _⟩
theorem run_neq_func_nil {P:Program} (w:World) (t:TypeId) (f:Fn) (fst lb:Array Value) (td:TypeDesc) (h:P.underlying t=some td) (hf:(match td with | .func ..=>true | _=>false)=true) :
  (binOp .neq t (.func f fst lb) .nilFunc).run P w = .ok (.bool true) w:=by
 unfold binOp
 simp [Op.equal,Op.maxDepth,run_equalIn_func_nil w 9999 t f fst lb td h hf]
structure Turns (w:World) (S:Nat→Prop) (g:Nat) (lb:Array Value) (turn:Nat→Nat):Prop where
 call:∀w',Chg S w w'→∀x,x<18446744073709551616→Calls Tryz.prog g (#[] ++ #[.int .u64 x] ++ lb) w' (RetW (.int .u64 (turn x)) fun w''=>w''=w')
 lt:∀x,x<18446744073709551616→turn x<18446744073709551616
 enter:∀args w,(callFunc g args).run Tryz.prog w = .ok (.enter g args) w
theorem MemAt.ok {w:World} {S:Nat→Prop} {mb:Nat} {b:By} {fr:Nat} (h:MemAt w S mb b fr):ByOk b:=by
 obtain ⟨mp,m,h1,h2,h3,h4,h5,h6⟩:=h
 exact h6.ok
theorem MuAt.chg {w w':World} {SM SB S:Nat→Prop} {ub mb bb:Nat} {u:Mu} (h:MuAt w SM SB ub mb bb u) (c:Chg S w w') (hu:¬S ub) (hm:∀k,SM k→¬S k) (hb:∀k,SB k→¬S k):MuAt w' SM SB ub mb bb u:=
 ⟨c.blk h.blk hu,h.mem.chg c hm,h.tlb.chg c hb,h.on,h.asid,h.mode,h.root,h.fr,h.n1,h.n2,h.n3,fun k hk=>Nat.lt_of_lt_of_le (h.n4 k hk) c.size⟩
theorem MuAt.chg0 {w w':World} {SM SB:Nat→Prop} {ub mb bb:Nat} {u:Mu} (h:MuAt w SM SB ub mb bb u) (c:Chg NoB w w'):MuAt w' SM SB ub mb bb u:=h.chg c id (fun _ _=>id) fun _ _=>id
theorem sizeB_al {a:Nat} {n:Int} (h:alignedB a n=true):sizeB n=true:=by
 unfold alignedB at h
 exact (Bool.and_eq_true _ _▸h).1
theorem getW_64 {b:By} (hb:ByOk b) {a n:Nat} (h:sizeB (n:Int)=true):getW b a n<18446744073709551616:=by
 have h1:=getW_lt hb n a
 have h2:n=1∨n=2∨n=4∨n=8:=by rcases sizeB_of h with e | e | e | e <;> omega
 rcases h2 with rfl | rfl | rfl | rfl <;> omega
theorem munit_swap {SM SB:Nat→Prop} {w:World} {ub mb bb:Nat} {u:Mu} (h:MuAt w SM SB ub mb bb u) (va size:Nat) (g:Nat) (lb:Array Value) (turn:Nat→Nat) (pick:Int) (ht:Turns w SB g lb turn) (hv:va<18446744073709551616) (p1 : -9223372036854775808≤pick) (p2:pick≤9223372036854775807) :
  Calls Tryz.prog 230 #[.pointer (some ⟨ub,0,none⟩),.int .u64 va,.int .i64 size,.func (.func g) #[] lb,.int .i64 pick] w (RetW (.tuple #[.int .u64 (swapF u va size turn pick).1.1,.int .i64 (swapF u va size turn pick).1.2])
   fun w'=>MuAt w' (Grow SM w) SB ub mb bb (swapF u va size turn pick).2∧Chg (fun k=>SM k∨SB k) w w'):=by
 have HP:=Lib.hid (munit_place h va size 2 pick hv (by unfold Acc;omega) p1 p2)
 have hok:=fun hc=>h.place_ok (size:=size) (a:=2) (pick:=pick) hv (by unfold Acc;omega) hc
 obtain ⟨R,hR⟩:∃R,placeF u va size 2 pick=R:=⟨_,rfl⟩
 rw [hR] at HP hok
 obtain ⟨⟨at',c⟩,t⟩:=R
 have HRd:Hid (swapF u va size turn pick=if c≠-1 then ((0,c),{ u with tlb:=t}) else ((getW u.b at' (size:Int).toNat,-1),{ u with tlb:=t,b:=putW u.b at' (size:Int).toNat (turn (getW u.b at' (size:Int).toNat))})):=Lib.hid (by unfold swapF;rw [hR])
 obtain ⟨O,hO⟩:∃O,swapF u va size turn pick=O:=⟨_,rfl⟩
 rw [hO] at HRd ⊢
 dsimp only at HP hok
 have hfr:=h.fr
 have HH:=Lib.hid h
 have HT:=Lib.hid ht
 have hnf:=fun w'=>run_neq_func_nil (P:=Tryz.prog) w' 407 (.func g) #[] lb _ Tryz.underlying407 rfl
 have hen:=ht.enter
 clear hR hO h hv p1 p2 ht;go_enter Tryz.func230,Tryz.ntmps230;go_wp2_with fail;refine HP.out.mono ?_
 rintro e w1 ⟨rfl,hM,C1⟩;have HM:=Lib.hid hM
 have HC1:=Lib.hid C1
 by_cases hc:c = -1
 ·subst hc;obtain ⟨q1,q2,q3⟩:=hok rfl
  have HL:=Lib.hid (Load_any hM.mem at' size (by omega) hfr)
  rw [check_ok q1 q2,if_pos rfl] at HL
  have hxl:getW u.b at' size<18446744073709551616:=getW_64 hM.mem.ok (sizeB_al q1)
  obtain ⟨x,hx⟩:∃x,getW u.b at' size=x:=⟨_,rfl⟩
  have HO:Hid (O=((x,-1),{ u with tlb:=t,b:=putW u.b at' size (turn x)})):=Lib.hid (by rw [HRd.out,if_neg (by simp)];show ((getW u.b at' size,_),_)=_;rw [hx];simp only [Int.toNat_natCast,hx])
  rw [hx] at HL hxl
  have HSt:=Lib.hid (fun (w':World) (c:Chg NoB w1 w')=>Store_any (hM.chg0 c).mem at' size (turn x) (by omega) hfr (HT.out.lt x hxl) q1 q2)
  have HTc:=Lib.hid (fun (w':World) (c:Chg NoB w1 w')=>HT.out.call w' (C1.then0 c) x hxl)
  have hub:=hM.blk.ever
  have hul:=hM.blk.everL
  have cc:=Chg.refl NoB w1
  clear hok hM C1 q1 q2 q3;go_wp2_with fail;refine HL.out.mono ?_
  rintro e w2 ⟨rfl,hw2⟩;subst hw2;go_upto_region 6 with fail;refine wp_region_mix 9 [(true,0),(true,1),(true,2),(true,3),(true,4),(true,5),(true,6),(true,7),(false,8)] (fun w'=>Chg NoB w2 w') (by kernel_rfl) (by kernel_rfl) (fun _ _ _ _ _ h=>h) (cc.drew) ?_
  simp only [pickMix_nil,pickMix_cons,Option.getD_some,List.getElem?_toArray,List.getElem?_cons_zero,List.getElem?_cons_succ,List.cons_append,List.nil_append,List.drop_succ_cons,List.drop_zero]
  iterate 8
   refine wpMix_take rfl ?_;apply Exists.intro;refine ⟨fun wS hS=>?_,?_⟩
   ·try dsimp only at hS
    have cS:=hS
    go_simp;try rfl
   simp only [Act.put,List.setIfInBounds_toArray,List.set_cons_zero,List.set_cons_succ]
  refine wpMix_force rfl (fun K hK=>?_)
  go_simp;refine (HTc.out _ cc.drew).mono ?_
  rintro e w3 ⟨rfl,hw3⟩;subst hw3;refine hK _ _ cc.drew ?_
  clear hK K;refine wpMix_nil ?_
  go_wp2_with fail;refine (HSt.out _ cc.drew).mono ?_
  rintro e w3 ⟨rfl,hm3,c3⟩;have HX:=Lib.hid (HH.out.step (HM.out.chg0 cc.drew) (HC1.out.then0 cc.drew) hm3 c3)
  clear hm3 c3 hub hul cc;go_wp2_with fail;go_ret2
  exact ⟨by rw [HO.out];first | done | rfl,by rw [HO.out];exact HX.out⟩
 ·have hc1:(c == -1)=false:=by rw [beq_eq_false_iff_ne];exact hc
  have HO:Hid (O=((0,c),{ u with tlb:=t})):=Lib.hid (by rw [HRd.out,if_pos hc])
  have HX:Hid (MuAt w1 (Grow SM w) SB ub mb bb { u with tlb:=t}∧Chg (fun k=>SM k∨SB k) w w1):=Lib.hid (by
   refine ⟨⟨hM.blk,hM.mem.mono fun k _ e=>.inl e,hM.tlb,hM.on,hM.asid,hM.mode,hM.root,hM.fr,fun e=>e.elim hM.n1 fun e=>by have:=HH.out.blk.lt;omega,hM.n2,fun k e hk=>e.elim (fun e=>hM.n3 k e hk) fun e=>by have:=HH.out.n4 k hk;omega,hM.n4⟩,C1.mono fun k _ e=>.inr e⟩)
  clear hok hM C1 hc hnf hen;go_wp2_with fail;go_ret2
  exact ⟨by rw [HO.out];first | done | rfl,by rw [HO.out];exact HX.out⟩
end Go.Proofs.YtjhnnjgnkkjmkaaGreatDoor
