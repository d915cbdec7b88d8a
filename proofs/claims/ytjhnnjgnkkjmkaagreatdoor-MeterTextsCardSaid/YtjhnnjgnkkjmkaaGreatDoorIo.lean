/- Nodes that run: a new one. No condition. Clusters that run: a new cluster grows by a node. No condition. Clusters that run: a new cluster, some nodes with programs. No condition. Clusters that run: a new cluster. No condition. -/
import Derived.Test.YtjhnnjgnkkjmkaaGreatDoorIe
import Derived.Test.YtjhnnjgnkkjmkaaGreatDoorIh
import Derived.Test.YtjhnnjgnkkjmkaaGreatDoorHf
set_option maxHeartbeats 4000000
set_option maxRecDepth 100000
set_option linter.unusedVariables false
set_option linter.unusedSimpArgs false
namespace Go.Proofs.YtjhnnjgnkkjmkaaGreatDoor
open Go.RowKit Go.RR
theorem RNAt.born {w0 w:World} {nb hb mb cb me n p:Nat} {L:Pl} {s:Spc} {c:Cor} (hlo:w0.heap.size≤hb∧w0.heap.size≤mb∧w0.heap.size≤cb∧∀k,L.All k→w0.heap.size≤k) (hno:¬L.All hb∧¬L.All mb∧¬L.All cb∧¬L.All nb)
  (hN:NdAt w (fun k=>w0.heap.size≤k∧¬L.All k∧k≠hb∧k≠mb∧k≠cb) nb L.pb hb cb n me) (hS:SpAt w L s) (hH:HmAt w ⟨hb,mb,L.pb,me,n,1,1,p⟩ []) (hC:CoreAt w cb c) (hs:s.shape.shared=p) :
  ∃F,RNAt w F nb me n (-1) s c []∧∀k,F k→w0.heap.size≤k:=by
 have hN2:=hN.mono (S':=fun k=>(w0.heap.size≤k∧¬L.All k∧k≠hb∧k≠mb∧k≠cb)∧k<w.heap.size) fun k h1 h2=>⟨h2,h1⟩
 obtain ⟨v,cs,e1,e2,e3⟩:=hN2.ex
 have hne:hb≠cb:=fun e=>by have:=hH.blk;rw [show (⟨hb,mb,L.pb,(me:Int),(n:Int),1,1,(p:Int)⟩:Hm).hb=hb from rfl,e] at this;exact absurd (this.inj hC.blk).2 (by decide)
 have hmc:cb≠mb:=mapAt_ne hH.map hC.blk
 have hW:HmW w (fun k=>k=hb∨k=mb) hb L.pb me n s.shape.shared []:=⟨.inl rfl,⟨mb,.inr rfl,by rw [hs];exact hH.blk,hH.map,hH.st⟩,fun p hp=>(by cases hp),List.nodup_nil,fun p hp=>(by cases hp)⟩
 refine ⟨_,RNAt.make hN2.s e1 e2 e3 ⟨hS,hC,hno.2.2.1⟩ hW (fun k hk=>⟨fun e=>e.elim hk.1.2.2.1 hk.1.2.2.2.1,fun e=>e.elim hk.1.2.2.2.2 hk.1.2.1⟩) (fun k hk e=>?_) (fun k hk=>hk.2) (fun k hk=>?_),fun k hk=>?_⟩
 ·rcases hk with rfl | rfl
  ·exact e.elim hne hno.1
  ·exact e.elim (fun e=>hmc e.symm) hno.2.1
 ·rcases hk with rfl | rfl
  ·exact hH.blk.lt
  ·exact hH.map.lt
 ·rcases hk with h | (rfl | rfl) | (rfl | h)
  ·exact h.1.1
  ·exact hlo.1
  ·exact hlo.2.1
  ·exact hlo.2.2.1
  ·exact hlo.2.2.2 k h
theorem rowN_succ (nb:Nat→Nat) (i b:Nat):rowN (updN nb i b) (i+1)=rowN nb i ++ [.pointer (some ⟨b,0,none⟩)]:=by
 unfold rowN
 rw [List.range_succ,List.map_append]
 congr 1
 ·refine List.map_congr_left fun j hj=>?_
  have:j<i:=List.mem_range.1 hj
  show Value.pointer (some ⟨updN nb i b j,0,none⟩)=_
  unfold updN
  rw [if_neg (by omega)]
 ·show [Value.pointer (some ⟨updN nb i b i,0,none⟩)]=_
  unfold updN
  rw [if_pos rfl]
theorem COwn.node {w w5:World} {F0:Nat→Prop} {cb i sh:Nat} {nb:Nat→Nat} {x:Cst} (h:COwn w F0 cb i sh nb x) {v v':Value} {bag b:Nat} (hB:Blk w cb #[v,.int .i64 sh,.pointer (some ⟨bag,0,none⟩),.int .i64 x.tick,.int .i64 x.steps,.int .i64 x.bad,x.fv,x.ov] 78) (hO:Own w F0 79 1 v i (rowN nb i)) (hb:F0 bag) (hBag:Blk w bag #[.slice none 0 0,.int .i64 0] 101)
  (ho:Own w5 (fun k=>v.ownBlock=some k∨k=(w.alloc (.cells #[.pointer (some ⟨b,0,none⟩)] 79)).heap.size) 79 1 v' (i+1) (rowN nb i ++ [.pointer (some ⟨b,0,none⟩)])) (hg:(w.alloc (.cells #[.pointer (some ⟨b,0,none⟩)] 79)).grownBy w5 v.ownBlock) :
  (∃cs:Array Value,Blk w5 cb cs 78∧cs[0]? = some v)∧COwn (w5.setCell ⟨cb,0,none⟩ v') (fun k=>F0 k∨(w.heap.size≤k∧k<w5.heap.size)) cb (i+1) sh (updN nb i b) x∧Chg F0 w (w5.setCell ⟨cb,0,none⟩ v'):=by
 have ca:Chg NoB w (w.alloc (.cells #[.pointer (some ⟨b,0,none⟩)] 79)):=(Chg.refl NoB w).alloc _
 have C5:Chg (fun k=>v.ownBlock=some k) (w.alloc (.cells #[.pointer (some ⟨b,0,none⟩)] 79)) w5:=grown_chg hg fun k hk=>hk
 have hvo:=hO.ownBlock
 have hvb:∀k,v.ownBlock=some k→∃cur,Blk w k cur 79:=fun k hk=>own_blk hO hk
 have hcb:¬v.ownBlock=some cb:=fun e=>by obtain ⟨cur,hc⟩:=hvb cb e;exact absurd (hc.inj hB).2 (by decide)
 have C05:Chg (fun k=>v.ownBlock=some k) w w5:=(ca.mono (S':=fun k=>v.ownBlock=some k) fun _ _ e=>e.elim).trans C5 fun k _ e=>e
 have CN:Chg (fun k=>k=cb) w5 (w5.setCell ⟨cb,0,none⟩ v'):=(Chg.refl (fun k=>k=cb) w5).setCell (a:=⟨cb,0,none⟩) (.inl rfl) _
 have C06:Chg (fun k=>v.ownBlock=some k∨k=cb) w (w5.setCell ⟨cb,0,none⟩ v'):=(C05.mono (S':=fun k=>v.ownBlock=some k∨k=cb) fun _ _ e=>.inl e).trans CN fun k _ e=>.inr e
 have hB5:=C05.blk hB hcb
 have hz:(w5.setCell ⟨cb,0,none⟩ v').heap.size=w5.heap.size:=World.size_setCell ..
 have hz5:=C05.size
 have hT:∀(E:TypeId) (k:Nat) (cur:Array Value),E≠79→E≠78→Blk w k cur E→¬(v.ownBlock=some k∨k=cb):=fun E k cur n1 n2 hk e=>by
  rcases e with e | e
  ·obtain ⟨c2,hc⟩:=hvb k e;exact n1 (hk.inj hc).2
  ·rw [e] at hk;exact n2 (hk.inj hB).2
 refine ⟨⟨_,hB5,rfl⟩,⟨.inl h.f0,fun k hk=>?_,⟨v',bag,hB5.set 0 v',?_,.inl hb,C06.blk hBag fun e=>hT _ bag _ (by decide) (by decide) hBag e⟩,(ownT h.fo C06 fun k cur hk=>hT _ k cur (by decide) (by decide) hk).mono fun k hk=>.inl hk,(ownT h.oo C06 fun k cur hk=>hT _ k cur (by decide) (by decide) hk).mono fun k hk=>.inl hk⟩,C06.mono fun k _ e=>e.elim (fun e=>(hvo k e).1) fun e=>e▸h.f0⟩
 ·rw [hz]
  exact hk.elim (fun h'=>Nat.lt_of_lt_of_le (h.bd k h') hz5) fun h'=>h'.2
 ·rw [rowN_succ]
  exact (ownT ho CN fun k cur hk (e:k=cb)=>by rw [e] at hk;exact absurd (hk.inj hB5).2 (by decide)).monoIn fun k hk hk'=>hk'.elim (fun e=>.inl (hvo k e).1) fun e=>.inr ⟨by rw [World.size_alloc] at e;omega,by rw [hz] at hk;exact hk⟩
structure QP (w:World) (F0:Nat→Prop) (Fn:Nat→Nat→Prop) (cb i n sh:Nat) (nb:Nat→Nat) (x:Cst) (y:Nat→Nst):Prop where
 own:COwn w F0 cb i sh nb x
 nd:∀j,j<i→RNAt w (Fn j) (nb j) j n (y j).page (y j).s (y j).c (y j).ps
 d0:∀j k,j<i→Fn j k→¬F0 k
 dj:∀j l k,j<i→l<i→Fn j k→Fn l k→j=l
theorem QP.chg0 {w w':World} {F0:Nat→Prop} {Fn:Nat→Nat→Prop} {cb i n sh:Nat} {nb:Nat→Nat} {x:Cst} {y:Nat→Nst} (h:QP w F0 Fn cb i n sh nb x y) (c:Chg NoB w w'):QP w' F0 Fn cb i n sh nb x y:=
 ⟨h.own.chg0 c,fun j hj=>(h.nd j hj).chg0 c,h.d0,h.dj⟩
theorem QP.done {w:World} {F0:Nat→Prop} {Fn:Nat→Nat→Prop} {cb n sh:Nat} {nb:Nat→Nat} {x:Cst} {y:Nat→Nst} (h:QP w F0 Fn cb n n sh nb x y):QC w F0 Fn cb n sh nb x y:=⟨h.own,h.nd,h.d0,h.dj⟩
theorem QP.add {w w3 w6:World} {F0 F0' F:Nat→Prop} {Fn:Nat→Nat→Prop} {cb i n sh b:Nat} {nb:Nat→Nat} {x:Cst} {y:Nat→Nst} (h:QP w F0 Fn cb i n sh nb x y) (c3:Chg NoB w w3) (hF:∀k,F k→w.heap.size≤k) (hN:RNAt w3 F b i n (y i).page (y i).s (y i).c (y i).ps) (ho:COwn w6 F0' cb (i+1) sh (updN nb i b) x) (hF0:∀k,F0' k→F0 k∨w3.heap.size≤k) (c6:Chg F0 w3 w6) :
  QP w6 F0' (updN Fn i F) cb (i+1) n sh (updN nb i b) x y:=by
 have hnF:∀k,F k→¬F0 k:=fun k hk e=>by have:=h.own.bd k e;have:=hF k hk;omega
 have hold:∀j k,j<i→Fn j k→k<w.heap.size:=fun j k hj hk=>(h.nd j hj).bd k hk
 have hz:=c3.size
 have hU:∀j k,j<i+1→updN Fn i F j k→(j=i∧F k)∨(j<i∧Fn j k):=fun j k hj hk=>by
  unfold updN at hk
  by_cases e:j=i
  ·rw [if_pos e] at hk;exact .inl ⟨e,hk⟩
  ·rw [if_neg e] at hk;exact .inr ⟨by omega,hk⟩
 refine ⟨ho,fun j hj=>?_,fun j k hj hk e=>?_,fun a l k ha hl h1 h2=>?_⟩
 ·unfold updN
  by_cases e:j=i
  ·rw [if_pos e,if_pos e,e];exact hN.chg c6 fun k hk=>hnF k hk
  ·rw [if_neg e,if_neg e]
   exact ((h.nd j (by omega)).chg0 c3).chg c6 fun k hk=>h.d0 j k (by omega) hk
 ·rcases hU j k hj hk with ⟨-,h1⟩ | ⟨h0,h1⟩
  ·exact (hF0 k e).elim (hnF k h1) fun e=>by have:=hN.bd k h1;omega
  ·exact (hF0 k e).elim (h.d0 j k h0 h1) fun e=>by have:=hold j k h0 h1;omega
 ·rcases hU a k ha h1 with ⟨e1,h1⟩ | ⟨e1,h1⟩ <;> rcases hU l k hl h2 with ⟨e2,h2⟩ | ⟨e2,h2⟩
  ·rw [e1,e2]
  ·have:=hF k h1;have:=hold l k e2 h2;omega
  ·have:=hF k h2;have:=hold a k e1 h1;omega
  ·exact h.dj a l k e1 e2 h1 h2
theorem netNewB (w:World):Calls Tryz.prog 28 #[] w (RetW (.pointer (some ⟨w.heap.size,0,none⟩)) fun w'=>Chg NoB w w'∧Blk w' w.heap.size #[.slice none 0 0,.int .i64 0] 101):=by
 have hB:=Lib.hid (Blk.new w #[.slice none 0 0,.int .i64 0] 101)
 have hC:=Lib.hid ((Chg.refl NoB w).alloc (.cells #[.slice none 0 0,.int .i64 0] 101))
 go_enter Tryz.func28,Tryz.ntmps28;go_wp2_with fail;go_ret;exact ⟨rfl,hC.out,hB.out⟩
theorem NODEPi:(Tryz.prog.info? 79).map (fun i=>(i.zero,i.size,i.bytes))=some (some (.pointer none),1,8):=by kernel_rfl
def yNew (p:Nat) (ds:Nat→List Nat) (i:Nat):Nst:=⟨-1,ndSp p (ds i),Cor.new 65536,[]⟩
theorem ndNewR {w:World} (me n p:Nat) (hp:p=1∨p=2) (hn:2≤n) (hn2:n≤16) (hm:me<n) (v:Value) (d:List Nat) (Sd:Nat→Prop) (hv:Sl w Sd 1 v d.length (d.map fun x:Nat=>.int .u8 x)) (hd:∀x∈d,x<256) (hl:d.length≤4096) (hsd:∀k,Sd k→k<w.heap.size) :
  Calls Tryz.prog 29 #[.int .i64 me,.agg #[.int .i64 n,.int .i64 1,.int .i64 p,.int .i64 2,.int .i64 2,.int .i64 2,.int .i64 2,.int .i64 3,.int .i64 12],v] w (RetV fun v w'=>∃(nb:Nat) (F:Nat→Prop),v = .tuple #[.pointer (some ⟨nb,0,none⟩),.int .i64 0]∧RNAt w' F nb me n (-1) (ndSp p d) (Cor.new 65536) []∧(∀k,F k→w.heap.size≤k)∧Chg NoB w w'):=by
 refine (ndNew_any me n p hp hn hn2 hm v d Sd hv hd hl hsd).mono ?_
 rintro e w' ⟨v,rfl,nb,hb,mb,cb,L,rfl,h1,h2,h3,h4,h5,h6,h7⟩;obtain ⟨F,r1,r2⟩:=RNAt.born h1 h2 h3 h4 h5 h6 rfl
 exact ⟨_,rfl,nb,F,rfl,r1,r2,h7⟩
def x0:Cst:=⟨0,0,0,.slice none 0 0,0,[],.slice none 0 0,0,[]⟩
theorem QP.nil {w:World} {cb bag sh n:Nat} (hB:Blk w cb #[.slice none 0 0,.int .i64 sh,.pointer (some ⟨bag,0,none⟩),.int .i64 0,.int .i64 0,.int .i64 0,.slice none 0 0,.slice none 0 0] 78) (hb:Blk w bag #[.slice none 0 0,.int .i64 0] 101) (y:Nat→Nst):QP w (fun k=>k=cb∨k=bag) (fun _ _=>False) cb 0 n sh (fun _=>0) x0 y:=
 ⟨⟨.inl rfl,fun k hk=>hk.elim (fun e=>e▸hB.lt) fun e=>e▸hb.lt,⟨_,bag,hB,Own.nil _ _ _ _,.inr rfl,hb⟩,Own.nil _ _ _ _,Own.nil _ _ _ _⟩,fun j hj=>absurd hj (by omega),fun j k hj=>absurd hj (by omega),fun j l k hj=>absurd hj (by omega)⟩
theorem cNewR {w:World} (n p:Nat) (hp:p=1∨p=2) (hn:2≤n) (hn2:n≤16) (m:Nat) (hm:m≤n) (cv:Value) (Sc:Nat→Prop) (vs:Nat→Value) (Sd:Nat→Nat→Prop) (ds:Nat→List Nat) (hcv:Sl w Sc 1 cv m ((List.range m).map vs)) (hvs:∀i,i<m→Sl w (Sd i) 1 (vs i) (ds i).length ((ds i).map fun x:Nat=>.int .u8 x)) (hsd:∀i k,i<m→Sd i k→k<w.heap.size) (hd:∀i,∀x∈ds i,x<256) (hl:∀i,(ds i).length≤4096) (hno:∀i,m≤i→ds i = []) :
  Calls Tryz.prog 15 #[.agg (confC n p),cv] w (RetV fun v w'=>∃(cb:Nat) (F0:Nat→Prop) (Fn:Nat→Nat→Prop) (nb:Nat→Nat),v = .tuple #[.pointer (some ⟨cb,0,none⟩),.int .i64 0]∧QC w' F0 Fn cb n p nb x0 (yNew p ds)∧(∀k,InC F0 Fn n k→w.heap.size≤k)∧Chg NoB w w'):=by
 have HR:Hid (∀w',Calls Tryz.prog 27 #[.agg (confC n p)] w' (RetW (.bool true) fun w''=>Chg NoB w' w'')):=Lib.hid fun w'=>nright_any n p hn hn2 (by omega) w'
 have HNA:Hid (∀i,i<m→∀w',Chg NoB w w'→Calls Tryz.prog 29 #[.int .i64 i,.agg #[.int .i64 n,.int .i64 1,.int .i64 p,.int .i64 2,.int .i64 2,.int .i64 2,.int .i64 2,.int .i64 3,.int .i64 12],vs i] w' _):=Lib.hid fun i hi w' c=>ndNewR (w:=w') i n p hp hn hn2 (by omega) (vs i) (ds i) (Sd i) ((hvs i hi).chg c fun _ _=>id) (hd i) (hl i) (fun k hk=>Nat.lt_of_lt_of_le (hsd i k hi hk) c.size)
 have HNB:Hid (∀i,m≤i→i<n→∀w',Calls Tryz.prog 29 #[.int .i64 i,.agg #[.int .i64 n,.int .i64 1,.int .i64 p,.int .i64 2,.int .i64 2,.int .i64 2,.int .i64 2,.int .i64 3,.int .i64 12],.slice none 0 0] w' (RetV fun v w''=>∃(nb:Nat) (F:Nat→Prop),v = .tuple #[.pointer (some ⟨nb,0,none⟩),.int .i64 0]∧RNAt w'' F nb i n (-1) (ndSp p (ds i)) (Cor.new 65536) []∧(∀k,F k→w'.heap.size≤k)∧Chg NoB w' w'')):=Lib.hid fun i hi hin w'=>by
  rw [hno i hi]
  exact ndNewR (w:=w') i n p hp hn hn2 hin (.slice none 0 0) [] (fun _=>False) (Sl.nil _ _ _) (fun x hx=>by cases hx) (by decide) (fun k hk=>hk.elim)
 have hB:=Lib.hid (Blk.new w (confC n p) 44)
 have hC:=Lib.hid ((Chg.refl NoB w).alloc (.cells (confC n p) 44))
 have HN2:=Lib.hid (And.intro hn hn2)
 obtain ⟨cp,cc,hcf⟩:=hcv.form
 subst hcf;have HCV:=Lib.hid hcv
 have t2:decide ((n:Int)<m)=false:=decide_eq_false (by omega)
 have t3:decide (n<m)=false:=decide_eq_false (by omega)
 clear hn hcv hvs hsd hd hl hno;go_enter Tryz.func15,Tryz.ntmps15;go_upto_region 1 with fail;generalize hW0:w.alloc (.cells (confC n p) 44)=w0 at *;clear hW0;unfold confC at hB HR
 obtain ⟨cf,hcf⟩:∃b,w.heap.size=b:=⟨_,rfl⟩
 rw [hcf] at hB
 simp only [hcf]
 have HW:=Lib.hid hcf
 have g:=hB.out.ever
 have gl:=hB.out.everL
 have c0:=Chg.refl NoB w0
 have t1:decide ((n:Int)<0)=false:=decide_eq_false (by omega)
 clear hcf hB;go_wp2_with fail;with_reducible refine (HR.out _).mono ?_
 rintro e w1 ⟨rfl,C1⟩;go_upto_region 3 with fail;go_cut [6] (fun s6 wx=>∃cb bag,s6 = .pointer (some ⟨cb,0,none⟩)∧Blk wx cb #[.slice none 0 0,.int .i64 p,.pointer (some ⟨bag,0,none⟩),.int .i64 0,.int .i64 0,.int .i64 0,.slice none 0 0,.slice none 0 0] 78∧Blk wx bag #[.slice none 0 0,.int .i64 0] 101∧w1.heap.size≤cb∧w1.heap.size≤bag∧Chg NoB w1 wx)
 case first=>
  have c1:=Chg.refl NoB w1
  have g':∀w',Chg NoB w1 w'→∀i,w'.cell? ⟨cf,i,none⟩=_:=fun w' c=>g w' (C1.step c)
  have gl':∀w',Chg NoB w1 w'→cf<w'.heap.size:=fun w' c=>gl w' (C1.step c)
  clear g gl c0;go_region_held3 (fun w'=>Chg NoB w1 w') ((repeat (first | with_reducible assumption | with_reducible apply Chg.drew | with_reducible apply Chg.drewN | with_reducible apply Chg.alloc))) (first | (go_at_call 28;(with_reducible refine (netNewB _).mono ?_);rintro e w9 ⟨rfl,hC',hBg⟩;have c9:=Chg.step (by with_reducible assumption:Chg NoB w1 _) hC';have z9:=Chg.size (by with_reducible assumption:Chg NoB w1 _)))
  all_goals
   have HH:=Lib.hid (And.intro (show Chg NoB w1 w9 by with_reducible assumption) (And.intro (Chg.size (show Chg NoB w1 w9 by with_reducible assumption)) (And.intro hBg z9)))
   go_wp2_with fail;go_meet
   exact ⟨_,_,rfl,Blk.new w9 _ _,HH.out.2.2.1.alloc _,HH.out.2.1,(by first | exact Nat.le_refl _ | exact HH.out.2.2.2),HH.out.1.alloc _⟩
 case rest=>
 obtain ⟨cb,bag,rfl,hCB,hBG,hlo,hlb,C2⟩:=hcut
 rename World=>w2;have HC2:=Lib.hid (C1.step C2)
 have HW2:=Lib.hid (hC.out.step (C1.step C2))
 have hz:=HW2.out.size
 have hz1:=hC.out.size
 have hz2:=C1.size
 have HZ:=Lib.hid (And.intro hz (And.intro hlo (And.intro hlb (And.intro hz1 hz2))))
 have g':∀w',Chg NoB w0 w'→w'.cell? ⟨cf,0,none⟩=some (.int .i64 n):=fun w' c=>g w' c 0
 have HQP:=Lib.hid (QP.nil hCB hBG (n:=n) (yNew p ds))
 have c2:=HC2.out
 clear C1 C2 hz hz1 hz2 hlo hlb hCB hBG c0;go_wp2_with fail;go_loopg [28] n (fun k v wr=>∃(i:Nat) (F0:Nat→Prop) (Fn:Nat→Nat→Prop) (nb:Nat→Nat),v = .int .i64 i∧i≤n∧k=n - i∧QP wr F0 Fn cb i n p nb x0 (yNew p ds)∧(∀k,InC F0 Fn i k→w0.heap.size≤k)∧Chg NoB w0 wr)
 case atStart=>exact ⟨0,_,_,_,rfl,by omega,by omega,HQP.out,fun k hk=>hk.elim (fun e=>e.elim (fun e=>by have:=HZ.out;omega) fun e=>by have:=HZ.out;omega) fun ⟨_,h,_⟩=>absurd h (by omega),HC2.out⟩
 case round=>
  obtain ⟨i,F0,Fn,nb,rfl,hin,hk,hL,hF,cr⟩:=hrel
  rename World=>wr;have HK:=Lib.hid hk
  have HL:=Lib.hid hL
  have HF:=Lib.hid hF
  clear hk hF hL;by_cases hi:i<n
  ·have t4:decide ((i:Int)<n)=true:=decide_eq_true (by omega)
   have t5:decide (i<n)=true:=decide_eq_true hi
   have t6:decide ((i:Int)<0)=false:=decide_eq_false (by omega)
   by_cases him:i<m
   ·have t7:decide ((i:Int)<m)=true:=decide_eq_true (by omega)
    have t8:decide (i<m)=true:=decide_eq_true him
    have t9:decide ((m:Int)≤i)=false:=decide_eq_false (by omega)
    have ta:decide (m≤i)=false:=decide_eq_false (by omega)
    obtain ⟨-,p',c',e',-,hr⟩:=(HCV.out.chg (hC.out.step cr) fun _ _=>id)
    cases e'
    obtain ⟨gg,off,rfl,-,hgl,hcell⟩:=hr (by omega)
    have f1:=hcell i (vs i) (by simp [him])
    clear hr hcell;have HNN1:=Lib.hid (HNA.out i him wr (hC.out.step cr))
    go_wp2_with fail;with_reducible refine HNN1.out.mono ?_
    rintro e w3 ⟨v3,rfl,nb',F,rfl,hR,hF3,C3⟩;have HCR:=Lib.hid cr
    have HZs:=Lib.hid (And.intro cr.size C3.size)
    obtain ⟨v,bag2,hB1,hO1,hb1,hBg1⟩:=HL.out.own.ex
    obtain ⟨xp,xc,hx⟩:=hO1.form
    subst hx;have b0:=(C3.blk0 hB1).cell' (i:=0) (v:=.slice xp i xc) rfl
    have bl:=(C3.blk0 hB1).lt
    have oX:=Lib.hid ((hO1.chg0 C3).chg0 ((Chg.refl NoB w3).alloc (.cells #[.pointer (some ⟨nb',0,none⟩)] 79)))
    have sX:=Lib.hid (Sl.fresh w3 [.pointer (some ⟨nb',0,none⟩)] 79 1 (size:=1) rfl)
    have HAdd:Hid (∀v' w5,Own w5 (fun k=>(Value.slice xp i xc).ownBlock=some k∨k=(w3.alloc (.cells #[.pointer (some ⟨nb',0,none⟩)] 79)).heap.size) 79 1 v' (i+1) (rowN nb i ++ [.pointer (some ⟨nb',0,none⟩)])→(w3.alloc (.cells #[.pointer (some ⟨nb',0,none⟩)] 79)).grownBy w5 (Value.slice xp i xc).ownBlock→
      (∃cs:Array Value,Blk w5 cb cs 78∧cs[0]? = some (.slice xp i xc))∧∃F0' Fn' nb2,QP (w5.setCell ⟨cb,0,none⟩ v') F0' Fn' cb (i+1) n p nb2 x0 (yNew p ds)∧(∀k,InC F0' Fn' (i+1) k→w0.heap.size≤k)∧Chg NoB w0 (w5.setCell ⟨cb,0,none⟩ v')):=Lib.hid fun v' w5 ho hg=>by
     obtain ⟨r1,r2,r3⟩:=COwn.node (HL.out.own.chg0 C3) (C3.blk0 hB1) (hO1.chg0 C3) hb1 (C3.blk0 hBg1) ho hg
     have hzs:=HZs.out
     refine ⟨r1,_,_,_,QP.add HL.out C3 hF3 hR r2 (fun k hk=>hk.imp id fun h=>h.1) r3,?_,?_⟩
     ·rintro k (hk | ⟨j,hj,hk⟩)
      ·exact hk.elim (fun e=>HF.out k (.inl e)) fun e=>by omega
      ·unfold updN at hk
       by_cases e:j=i
       ·rw [if_pos e] at hk
        have:=hF3 k hk
        omega
       ·rw [if_neg e] at hk
        exact HF.out k (.inr ⟨j,by omega,hk⟩)
     ·exact (((HCR.out.step C3).mono (S':=fun k=>w0.heap.size≤k) fun _ _ e=>e.elim).trans (r3.mono (S':=fun k=>w0.heap.size≤k) fun k _ e=>HF.out k (.inl e)) fun _ _ e=>e).mono fun k hk e=>absurd e (Nat.not_le_of_lt hk)
    obtain ⟨i0,hi0,hz0,hz1,hz2⟩:=info_parts NODEPi
    have one:∀u∈[Value.pointer (some ⟨nb',0,none⟩)],u.oneCell'=true:=by simp [Value.oneCell']
    have b1:i+1≤maxLen:=by unfold maxLen;omega
    have b2:(i+1)*8≤140737488355328:=by omega
    have cr3:=cr.step C3
    clear hR hF3 C3 hB1 hO1 hb1 hBg1 cr;go_wp2_with (at_builtin;go_must (refine wpList_app rfl _ _ 76 rfl i0 _ 8 Tryz.underlying76 hi0 hz0 hz1 hz2 rfl rfl oX.out _ 1 _ rfl sX.out one b1 b2 ?_))
    intro v' w5 ho5 hg5 hn5;obtain ⟨yp,yc,hy⟩:=ho5.form
    subst hy;obtain ⟨⟨cs,hcs,hcv⟩,F0',Fn',nb2,r1,r2,r3⟩:=HAdd.out (.slice yp (i+1) yc) w5 (by first | exact ho5 | (rw [World.size_alloc];exact ho5)) hg5
    have k0:=hcs.cell' (i:=0) (v:=.slice xp i xc) hcv
    have kz:=hcs.frozen 0
    have kl:=hcs.lt
    have HPs:=Lib.hid (And.intro r1 (And.intro r2 r3))
    clear hi0 hz0 hz1 hz2 one b1 b2 ho5 hg5 hn5 b0 bl r1 r2 r3 hcs hcv oX sX HAdd;go_wp2_with fail;go_roundg (n - (i+1))
    case rel=>exact ⟨i+1,F0',Fn',nb2,by go_num,by omega,rfl,HPs.out.1,HPs.out.2.1,HPs.out.2.2⟩
    case measure=>rw [HK.out];omega
   ·have t7:decide ((i:Int)<m)=false:=decide_eq_false (by omega)
    have t8:decide (i<m)=false:=decide_eq_false him
    have HNN1:=Lib.hid (HNB.out i (by omega) hi wr)
    go_wp2_with fail;with_reducible refine HNN1.out.mono ?_
    rintro e w3 ⟨v3,rfl,nb',F,rfl,hR,hF3,C3⟩;have HCR:=Lib.hid cr
    have HZs:=Lib.hid (And.intro cr.size C3.size)
    obtain ⟨v,bag2,hB1,hO1,hb1,hBg1⟩:=HL.out.own.ex
    obtain ⟨xp,xc,hx⟩:=hO1.form
    subst hx;have b0:=(C3.blk0 hB1).cell' (i:=0) (v:=.slice xp i xc) rfl
    have bl:=(C3.blk0 hB1).lt
    have oX:=Lib.hid ((hO1.chg0 C3).chg0 ((Chg.refl NoB w3).alloc (.cells #[.pointer (some ⟨nb',0,none⟩)] 79)))
    have sX:=Lib.hid (Sl.fresh w3 [.pointer (some ⟨nb',0,none⟩)] 79 1 (size:=1) rfl)
    have HAdd:Hid (∀v' w5,Own w5 (fun k=>(Value.slice xp i xc).ownBlock=some k∨k=(w3.alloc (.cells #[.pointer (some ⟨nb',0,none⟩)] 79)).heap.size) 79 1 v' (i+1) (rowN nb i ++ [.pointer (some ⟨nb',0,none⟩)])→(w3.alloc (.cells #[.pointer (some ⟨nb',0,none⟩)] 79)).grownBy w5 (Value.slice xp i xc).ownBlock→
      (∃cs:Array Value,Blk w5 cb cs 78∧cs[0]? = some (.slice xp i xc))∧∃F0' Fn' nb2,QP (w5.setCell ⟨cb,0,none⟩ v') F0' Fn' cb (i+1) n p nb2 x0 (yNew p ds)∧(∀k,InC F0' Fn' (i+1) k→w0.heap.size≤k)∧Chg NoB w0 (w5.setCell ⟨cb,0,none⟩ v')):=Lib.hid fun v' w5 ho hg=>by
     obtain ⟨r1,r2,r3⟩:=COwn.node (HL.out.own.chg0 C3) (C3.blk0 hB1) (hO1.chg0 C3) hb1 (C3.blk0 hBg1) ho hg
     have hzs:=HZs.out
     refine ⟨r1,_,_,_,QP.add HL.out C3 hF3 hR r2 (fun k hk=>hk.imp id fun h=>h.1) r3,?_,?_⟩
     ·rintro k (hk | ⟨j,hj,hk⟩)
      ·exact hk.elim (fun e=>HF.out k (.inl e)) fun e=>by omega
      ·unfold updN at hk
       by_cases e:j=i
       ·rw [if_pos e] at hk
        have:=hF3 k hk
        omega
       ·rw [if_neg e] at hk
        exact HF.out k (.inr ⟨j,by omega,hk⟩)
     ·exact (((HCR.out.step C3).mono (S':=fun k=>w0.heap.size≤k) fun _ _ e=>e.elim).trans (r3.mono (S':=fun k=>w0.heap.size≤k) fun k _ e=>HF.out k (.inl e)) fun _ _ e=>e).mono fun k hk e=>absurd e (Nat.not_le_of_lt hk)
    obtain ⟨i0,hi0,hz0,hz1,hz2⟩:=info_parts NODEPi
    have one:∀u∈[Value.pointer (some ⟨nb',0,none⟩)],u.oneCell'=true:=by simp [Value.oneCell']
    have b1:i+1≤maxLen:=by unfold maxLen;omega
    have b2:(i+1)*8≤140737488355328:=by omega
    have cr3:=cr.step C3
    clear hR hF3 C3 hB1 hO1 hb1 hBg1 cr;go_wp2_with (at_builtin;go_must (refine wpList_app rfl _ _ 76 rfl i0 _ 8 Tryz.underlying76 hi0 hz0 hz1 hz2 rfl rfl oX.out _ 1 _ rfl sX.out one b1 b2 ?_))
    intro v' w5 ho5 hg5 hn5;obtain ⟨yp,yc,hy⟩:=ho5.form
    subst hy;obtain ⟨⟨cs,hcs,hcv⟩,F0',Fn',nb2,r1,r2,r3⟩:=HAdd.out (.slice yp (i+1) yc) w5 (by first | exact ho5 | (rw [World.size_alloc];exact ho5)) hg5
    have k0:=hcs.cell' (i:=0) (v:=.slice xp i xc) hcv
    have kz:=hcs.frozen 0
    have kl:=hcs.lt
    have HPs:=Lib.hid (And.intro r1 (And.intro r2 r3))
    clear hi0 hz0 hz1 hz2 one b1 b2 ho5 hg5 hn5 b0 bl r1 r2 r3 hcs hcv oX sX HAdd;go_wp2_with fail;go_roundg (n - (i+1))
    case rel=>exact ⟨i+1,F0',Fn',nb2,by go_num,by omega,rfl,HPs.out.1,HPs.out.2.1,HPs.out.2.2⟩
    case measure=>rw [HK.out];omega
  ·have t4:decide ((i:Int)<n)=false:=decide_eq_false (by omega)
   have t5:decide (i<n)=false:=decide_eq_false hi
   obtain rfl:i=n:=by omega
   go_wp2_with fail;go_ret2
   exact ⟨_,rfl,cb,F0,Fn,nb,rfl,HL.out.done,fun k hk=>by have:=HF.out k hk;have:=HZ.out;omega,hC.out.step cr⟩
end Go.Proofs.YtjhnnjgnkkjmkaaGreatDoor
