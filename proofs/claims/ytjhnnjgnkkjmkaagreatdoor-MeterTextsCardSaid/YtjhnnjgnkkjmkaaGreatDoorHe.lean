/- A page at a node: what it does, and what it says. Plain, no program. No condition. The audit's small functions: sets of nodes, bag, ring, a page at rest, what is between, senders, receivers. No condition. The audit: links at rest (senders, receivers), configs, what is right. No condition. The audit: homes at rest: their pages, their states. No condition. -/
import Derived.Test.YtjhnnjgnkkjmkaaGreatDoorFa
import Derived.Test.YtjhnnjgnkkjmkaaGreatDoorGa
import Derived.Test.YtjhnnjgnkkjmkaaGreatDoorProg
import Derived.Test.YtjhnnjgnkkjmkaaGreatDoorGd
import Derived.MapKept
set_option maxHeartbeats 1000000
set_option maxRecDepth 100000
set_option linter.unusedVariables false
set_option linter.unusedSimpArgs false
namespace Go.Proofs.YtjhnnjgnkkjmkaaGreatDoor
open Go.RowKit Go.RR
structure Lt where
 dst:Int
 kind:Int
 node:Int
 hops:Int
 set:Nat
 pg:Bool
structure PgS where
 right:Int
 owner:Bool
 prob:Int
 set:Nat
 want:Int
 wait:Nat
 held:Bool
 forget:Int
structure Trn where
 s:PgS
 lay:Bool
 l:List Lt
def PgS.busy (s:PgS):Bool:=decide (s.want≠0) || s.held
def pgNewF (me owner:Int):PgS:=⟨0,decide (owner=me),owner,0,0,0,false,-1⟩
def holdF (s:PgS) (r:Int):PgS:={ s with right:=r,want:=0,held:=true}
structure Mg where
 kind:Int
 node:Int
 hops:Int
 set:Nat
theorem between_any (n a b:Int) (w:World):Calls Tryz.prog 38 #[.int .i64 n,.int .i64 a,.int .i64 b] w (RetW (.bool (decide (a≤n) && decide (n≤b))) fun w'=>w'=w):=by
 generalize h1:decide (a≤n)=b1
 generalize h2:decide (n≤b)=b2
 cases b1 <;> cases b2 <;>
 ·go_enter Tryz.func38,Tryz.ntmps38;go_wp2_with fail;go_ret;exact ⟨rfl,rfl⟩
def ringC:Array Value:=#[.slice none 0 0,.int .i64 0,.int .i64 0,.int .i64 16]
theorem ringNew_any (w:World):Calls Tryz.prog 221 #[.int .i64 16] w (RetW (.pointer (some ⟨w.heap.size,0,none⟩)) fun w'=>Blk w' w.heap.size ringC 399∧Chg NoB w w'):=by
 have hB:=Lib.hid (Blk.new w ringC 399)
 have hC:=Lib.hid ((Chg.refl NoB w).alloc (.cells ringC 399))
 go_enter Tryz.func221,Tryz.ntmps221;go_wp2_with fail;go_ret;exact ⟨rfl,hB.out,hC.out⟩
theorem ringLen_any {w:World} {rb:Nat} (h:Blk w rb ringC 399):Calls Tryz.prog 194 #[.pointer (some ⟨rb,0,none⟩)] w (RetW (.int .i64 0) fun w'=>w'=w):=by
 have f:=h.cell' (i:=2) (v:=.int .i64 0) rfl
 have fl:=h.lt
 go_enter Tryz.func194,Tryz.ntmps194;go_wp2_with fail;go_ret;exact ⟨rfl,rfl⟩
def pgC (me owner number:Int) (rb:Nat):Array Value:=#[.int .i64 me,.int .i64 number,.int .i64 0,.bool (owner == me),.int .i64 owner,.int .u16 0,.int .i64 0,.int .u16 0,.bool false,.int .i64 (-1),.int .i64 0,.pointer (some ⟨rb,0,none⟩),.slice none 0 0,.bool false]
structure PgAt (w:World) (pb rb:Nat) (me owner number:Int):Prop where
 blk:Blk w pb (pgC me owner number rb) 368
 ring:Blk w rb ringC 399
theorem PgAt.chg0 {w w':World} {pb rb:Nat} {me owner number:Int} (h:PgAt w pb rb me owner number) (c:Chg NoB w w'):PgAt w' pb rb me owner number:=⟨c.blk0 h.blk,c.blk0 h.ring⟩
theorem pageState_nil (w:World):Calls Tryz.prog 169 #[.pointer none] w (RetW (.agg #[.int .i64 0,.bool false,.int .i64 0,.int .u16 0,.int .i64 0,.int .u16 0,.bool false,.int .i64 (-1),.int .i64 0]) fun w'=>Chg NoB w w'):=by
 have hC:=Lib.hid ((Chg.refl NoB w).alloc (.cells #[.int .i64 0,.bool false,.int .i64 0,.int .u16 0,.int .i64 0,.int .u16 0,.bool false,.int .i64 (-1),.int .i64 0] 291))
 go_enter Tryz.func169,Tryz.ntmps169;go_wp2_with fail;exact bodyPost_ret (v:=.agg #[.int .i64 0,.bool false,.int .i64 0,.int .u16 0,.int .i64 0,.int .u16 0,.bool false,.int .i64 (-1),.int .i64 0]) (by simp [results,Tryz.results169,go_sem]) rfl ⟨rfl,hC.out⟩
theorem pageNew_any (me owner number:Int) (w:World):Calls Tryz.prog 193 #[.int .i64 me,.int .i64 owner,.int .i64 number] w (RetV fun v w'=>∃pb rb,v = .pointer (some ⟨pb,0,none⟩)∧w.heap.size≤pb∧w.heap.size≤rb∧PgAt w' pb rb me owner number∧Chg NoB w w'):=by
 obtain ⟨b,hb⟩:∃b,(owner == me)=b:=⟨_,rfl⟩
 have HBE:=Lib.hid hb
 have hB:=Lib.hid (Blk.new w #[.int .i64 0,.bool b,.int .i64 owner,.int .u16 0,.int .i64 0,.int .u16 0,.bool false,.int .i64 (-1),.int .i64 0] 291)
 have hC:=Lib.hid ((Chg.refl NoB w).alloc (.cells #[.int .i64 0,.bool b,.int .i64 owner,.int .u16 0,.int .i64 0,.int .u16 0,.bool false,.int .i64 (-1),.int .i64 0] 291))
 go_enter Tryz.func193,Tryz.ntmps193;go_upto_region 2 with fail;obtain ⟨bs,hbs⟩:∃b,w.heap.size=b:=⟨_,rfl⟩
 have HW:=Lib.hid hbs
 rw [hbs] at hB
 simp only [hbs]
 generalize w.alloc (.cells #[.int .i64 0,.bool b,.int .i64 owner,.int .u16 0,.int .i64 0,.int .u16 0,.bool false,.int .i64 (-1),.int .i64 0] 291)=w1 at *;clear hbs hb;have g:∀w',Chg NoB w1 w'→∀i,w'.cell? ⟨bs,i,none⟩=(#[.int .i64 0,.bool b,.int .i64 owner,.int .u16 0,.int .i64 0,.int .u16 0,.bool false,.int .i64 (-1),.int .i64 0]:Array Value)[i]?:=fun w' c i=>(c.blk0 hB.out).cell i
 have gl:∀w',Chg NoB w1 w'→bs<w'.heap.size:=fun w' c=>(c.blk0 hB.out).lt
 refine wp_region_mix 4 [(true,0),(true,1),(true,2),(false,3)] (fun w'=>Chg NoB w1 w') (by kernel_rfl) (by kernel_rfl) (fun _ _ _ _ _ h=>h) ((Chg.refl NoB w1).drew) ?_
 simp only [pickMix_nil,pickMix_cons,Option.getD_some,List.getElem?_toArray,List.getElem?_cons_zero,List.getElem?_cons_succ,List.cons_append,List.nil_append,List.drop_succ_cons,List.drop_zero]
 iterate 3
  refine wpMix_take rfl ?_;apply Exists.intro;refine ⟨fun wS hS=>?_,?_⟩
  ·try dsimp only at hS
   have cS:=hS
   go_simp;try rfl
  simp only [Act.put,List.setIfInBounds_toArray,List.set_cons_zero,List.set_cons_succ]
 refine wpMix_force rfl (fun K hK=>?_)
 go_simp;refine (ringNew_any _).mono ?_
 rintro e w2 ⟨rfl,hR,hC2⟩;have C2:Chg NoB w1 w2:=(Chg.refl NoB w1).drew.step hC2
 have HR:=Lib.hid hR
 refine hK _ _ C2 ?_
 clear hK K hR hC2;refine wpMix_nil ?_
 have hP:=Blk.new w2 #[.int .i64 me,.int .i64 number,.int .i64 0,.bool b,.int .i64 owner,.int .u16 0,.int .i64 0,.int .u16 0,.bool false,.int .i64 (-1),.int .i64 0,.pointer (some ⟨w1.heap.size,0,none⟩),.slice none 0 0,.bool false] 368
 have HP:=Lib.hid hP
 clear hP g gl;have HR2:=Lib.hid (HR.out.alloc (.cells #[.int .i64 me,.int .i64 number,.int .i64 0,.bool b,.int .i64 owner,.int .u16 0,.int .i64 0,.int .u16 0,.bool false,.int .i64 (-1),.int .i64 0,.pointer (some ⟨w1.heap.size,0,none⟩),.slice none 0 0,.bool false] 368))
 have HC3:=Lib.hid ((hC.out.step C2).alloc (.cells #[.int .i64 me,.int .i64 number,.int .i64 0,.bool b,.int .i64 owner,.int .u16 0,.int .i64 0,.int .u16 0,.bool false,.int .i64 (-1),.int .i64 0,.pointer (some ⟨w1.heap.size,0,none⟩),.slice none 0 0,.bool false] 368))
 have h1:=Lib.hid (And.intro hC.out.size C2.size)
 clear C2 hC;go_wp2_with fail;go_ret;refine ⟨_,rfl,_,_,rfl,Nat.le_trans h1.out.1 h1.out.2,h1.out.1,⟨?_,HR2.out⟩,HC3.out⟩
 unfold pgC
 rw [HBE.out]
 exact HP.out
def sdC:Array Value:=#[.int .i64 2,.int .i64 3,.int .i64 12,.slice none 0 0,.slice none 0 0,.int .u64 1]
theorem sendNew_any (w:World):Calls Tryz.prog 36 #[.int .i64 2,.int .i64 3,.int .i64 12] w (RetW (.tuple #[.pointer (some ⟨w.heap.size,0,none⟩),.int .i64 0]) fun w'=>Blk w' w.heap.size sdC 144∧Chg NoB w w'):=by
 have hB:=Lib.hid (Blk.new w sdC 144)
 have hC:=Lib.hid ((Chg.refl NoB w).alloc (.cells sdC 144))
 go_enter Tryz.func36,Tryz.ntmps36;go_wp2_with fail;go_ret2
 exact ⟨rfl,hB.out,hC.out⟩
def RvAt (w:World) (S:Nat→Prop) (rb:Nat):Prop:=∃mb,(S rb∧S mb)∧Blk w rb #[.int .i64 2,.int .u64 1,.map (some mb)] 147∧w.heap[mb]? = some (.map #[] 0)
theorem RvAt.chg {w w':World} {S S':Nat→Prop} {rb:Nat} (h:RvAt w S rb) (c:Chg S' w w') (hs:∀k,S k→¬S' k):RvAt w' S rb:=by
 obtain ⟨mb,h0,h1,h2⟩:=h
 have hlt:mb<w.heap.size:=by
  by_cases h:mb<w.heap.size
  ·exact h
  ·rw [Array.getElem?_eq_none (by omega)] at h2;cases h2
 refine ⟨mb,h0,c.blk h1 (hs _ h0.1),?_⟩
 rw [c.block mb hlt (hs _ h0.2)]
 exact h2
theorem RvAt.chg0 {w w':World} {S:Nat→Prop} {rb:Nat} (h:RvAt w S rb) (c:Chg NoB w w'):RvAt w' S rb:=h.chg c fun _ _=>id
theorem RvAt.mono {w:World} {S S':Nat→Prop} {rb:Nat} (h:RvAt w S rb) (hs:∀k,k<w.heap.size→S k→S' k):RvAt w S' rb:=by
 obtain ⟨mb,h0,h1,h2⟩:=h
 exact ⟨mb,⟨hs _ h1.lt h0.1,hs _ (Array.getElem?_eq_some_iff.1 h2).1 h0.2⟩,h1,h2⟩
theorem recvNew_any (w:World):Calls Tryz.prog 37 #[.int .i64 2] w (RetV fun v w'=>∃rb,v = .tuple #[.pointer (some ⟨rb,0,none⟩),.int .i64 0]∧w.heap.size≤rb∧RvAt w' (fun k=>w.heap.size≤k) rb∧Chg NoB w w'):=by
 have hmm:=@run_makeMap Tryz.prog
 go_enter Tryz.func37,Tryz.ntmps37;go_wp2_with fail;go_ret2
 refine ⟨_,rfl,_,rfl,?_,⟨w.heap.size,?_,?_,?_⟩,((Chg.refl _ _).alloc _).alloc _⟩
 ·simp
 ·exact ⟨by simp,Nat.le_refl _⟩
 ·have:=Blk.new (w.alloc (.map #[] 0)) #[.int .i64 2,.int .u64 1,.map (some w.heap.size)] 147
  simpa using this
 ·rw [((Chg.refl NoB (w.alloc (.map #[] 0))).alloc _).block w.heap.size (by rw [World.size_alloc];omega) id]
  show (w.heap.push (.map #[] 0))[w.heap.size]? = _
  exact Array.getElem?_push_size
def confC (n p:Int):Array Value:=#[.int .i64 n,.int .i64 1,.int .i64 p,.int .i64 2,.int .i64 2,.int .i64 2,.int .i64 2,.int .i64 3,.int .i64 12]
theorem usual_any (n p:Int) (w:World):Calls Tryz.prog 16 #[.int .i64 n,.int .i64 p] w (RetW (.agg (confC n p)) fun w'=>Chg NoB w w'):=by
 have hC:=Lib.hid ((Chg.refl NoB w).alloc (.cells (confC n p) 44))
 go_enter Tryz.func16,Tryz.ntmps16;go_wp2_with fail;exact bodyPost_ret (v:=.agg (confC n p)) (by simp [results,Tryz.results16,go_sem,confC]) rfl ⟨rfl,hC.out⟩
theorem nright_any (n p:Nat) (hn:2≤n) (hn2:n≤16) (hp:p≤65536) (w:World):Calls Tryz.prog 27 #[.agg (confC n p)] w (RetW (.bool true) fun w'=>Chg NoB w w'):=by
 have hB:=Lib.hid (Blk.new w (confC n p) 44)
 have hC:=Lib.hid ((Chg.refl NoB w).alloc (.cells (confC n p) 44))
 have HN:=Lib.hid (And.intro hn (And.intro hn2 hp))
 have hbn:∀a b c:Int,a≤b→b≤c→∀w,Calls Tryz.prog 38 #[.int .i64 b,.int .i64 a,.int .i64 c] w (RetW (.bool true) fun w'=>w'=w):=fun a b c h1 h2 w=>by
  have:=between_any b a c w
  rwa [decide_eq_true h1,decide_eq_true h2] at this
 have HB:=Lib.hid hbn
 clear hn hn2 hp hbn;go_enter Tryz.func27,Tryz.ntmps27;unfold confC at hB hC ⊢
 go_upto_region 1 with fail;generalize w.alloc (.cells #[.int .i64 n,.int .i64 1,.int .i64 p,.int .i64 2,.int .i64 2,.int .i64 2,.int .i64 2,.int .i64 3,.int .i64 12] 44)=w1 at *;obtain ⟨cb,hcb⟩:∃b,w.heap.size=b:=⟨_,rfl⟩
 rw [hcb] at hB
 simp only [hcb]
 clear hcb;have f:=hB.out.cell
 have fl:=hB.out.lt
 go_wp2_with fail;refine (sendNew_any _).mono ?_
 rintro e w2 ⟨rfl,-,C2⟩;have HK2:=Lib.hid (C2.blk0 hB.out)
 have HC2:=Lib.hid (hC.out.step C2)
 clear f fl C2;have f:=HK2.out.cell
 have fl:=HK2.out.lt
 go_wp2_with fail;refine (recvNew_any _).mono ?_
 rintro e w3 ⟨v,rfl,rb,rfl,-,-,C3⟩;have HK3:=Lib.hid (C3.blk0 HK2.out)
 have HC3:=Lib.hid (HC2.out.step C3)
 clear f fl C3;have f:=HK3.out.cell
 have fl:=HK3.out.lt
 go_wp2_with fail;refine (HB.out 1 2 64 (by omega) (by omega) _).mono ?_
 rintro e w4 ⟨rfl,h4⟩;subst h4;go_wp2_with fail;refine (HB.out 0 1 16 (by omega) (by omega) _).mono ?_
 rintro e w4 ⟨rfl,h4⟩;subst h4;go_wp2_with fail;refine (HB.out 0 p 65536 (by omega) (by have:=HN.out.2.2;omega) _).mono ?_
 rintro e w4 ⟨rfl,h4⟩;subst h4;go_wp2_with fail;refine (HB.out 2 n 16 (by have:=HN.out.1;omega) (by have:=HN.out.2.1;omega) _).mono ?_
 rintro e w4 ⟨rfl,h4⟩;subst h4;go_wp2_with fail;refine (HB.out 1 2 8 (by omega) (by omega) _).mono ?_
 rintro e w4 ⟨rfl,h4⟩;subst h4;go_wp2_with fail;go_ret;exact ⟨rfl,HC3.out⟩
def Stm (w:World) (b:Nat):Prop:=∃es clock,w.heap[b]? = some (.map es clock)∧MapKept.Stamped es clock
theorem Stm.chg {w w':World} {S:Nat→Prop} {b:Nat} (h:Stm w b) (c:Chg S w w') (hn:¬S b):Stm w' b:=by
 obtain ⟨es,clock,h1,h2⟩:=h
 exact ⟨es,clock,(c.block b (Array.getElem?_eq_some_iff.1 h1).1 hn).trans h1,h2⟩
theorem run_mapput_new {P:Program} {w:World} {b:Nat} {k:IntKind} {m:List (Int×Value)} {t kt e:TypeId} (ht:P.underlying t=some (.map kt e)) (hk:P.underlying kt=some (.int k)) (h:MapAt w b k m) (hs':Stm w b) (a:Int) (hm:mlook m a=none) (v:Value) :
  ∃w',(Instr.mapUpdate t (.map (some b)) (.int k a) v).run P w = .ok () w'∧MapAt w' b k (m ++ [(a,v)])∧Stm w' b∧Chg (· = b) w w':=by
 obtain ⟨es,c,h1,h2⟩:=h
 obtain ⟨es',c',h1',h3⟩:=hs'
 rw [h1] at h1'
 cases h1'
 have hg:(getObj b).run P w = .ok (.map es c) w:=by simp [getObj,Sem.run,h1]
 have hs:∀o,(setObj b o).run P w = .ok () { w with heap:=w.heap.setIfInBounds b o}:=fun o=>by simp [setObj,Sem.run,h1]
 have hf:=run_findKey (P:=P) (w:=w) hk a es.toList h2
 have hc:=run_checkKey (P:=P) (w:=w) hk false a
 have hmi:midx m a=none:=by
  cases e:midx m a with
  | none=>rfl
  | some j=>
   obtain ⟨x,-,hx,-⟩:=midx_some e
   rw [hm] at hx
   cases hx
 rw [hmi] at hf
 simp only [Option.bind_none] at hf
 refine ⟨setMap w b (es.push { key:=.int k a,val:=v,born:=c}) (c+1),by simp [Instr.mapUpdate,run_underlying ht,hg,hc,hf,hs,setMap],⟨_,_,setMap_at h1,by simp [h2]⟩,⟨_,_,setMap_at h1,MapKept.stamped_push h3 fun x hx e=>?_⟩,setMap_chg _ _ _ _⟩
 have hx2:(x.key,x.val)∈es.toList.map (fun e=>(e.key,e.val)):=List.mem_map.2 ⟨x,hx,rfl⟩
 rw [h2,e] at hx2
 obtain ⟨q,hq,hq2⟩:=List.mem_map.1 hx2
 have hq1:q.1=a:=by
  have:=congrArg Prod.fst hq2
  simp only [Value.int.injEq,true_and] at this
  exact this
 unfold mlook at hm
 rw [Option.map_eq_none_iff,List.find?_eq_none] at hm
 exact hm q hq (by simp [hq1])
theorem wpList_mapput_new {P:Program} {w:World} {b:Nat} {k:IntKind} {m:List (Int×Value)} {ops:Array Oper} {rest:List Oper} {o:Oper} {a:Act} {Q:Exit→Act→World→Prop} (hgd:o.guard=none) (s x y:Operand) (t kt e:TypeId)
  (ho:o.op = .mapUpdate t s x y) (ht:P.underlying t=some (.map kt e)) (hk:P.underlying kt=some (.int k)) (hs:a.eval s = .map (some b)) (h:MapAt w b k m) (hst:Stm w b) (key:Int) (hm:mlook m key=none) (hx:a.eval x = .int k key) (v:Value) (hy:a.eval y=v)
  (hc:∀w',MapAt w' b k (m ++ [(key,v)])→Stm w' b→Chg (· = b) w w'→wpList P ops Q rest (a.put o.dst undef) w'):wpList P ops Q (o :: rest) a w:=by
 refine wpList_plain hgd fun K hK=>?_
 obtain ⟨w',hr,h2,h3,h4⟩:=run_mapput_new (P:=P) ht hk h hst key hm v
 have hc2:=hK _ _ (hc w' h2 h3 h4)
 unfold Oper.wp execOp
 simp [ho,hs,hx,hy,hr,Oper.upon]
 exact hc2
structure Hm where
 hb:Nat
 mb:Nat
 sp:Nat
 me:Int
 nodes:Int
 code:Int
 priv:Int
 shared:Int
def Hm.cells (h:Hm):Array Value:=#[.int .i64 h.me,.int .i64 h.nodes,.pointer (some ⟨h.sp,0,none⟩),.int .i64 h.code,.int .i64 h.priv,.int .i64 h.shared,.map (some h.mb)]
structure HmAt (w:World) (h:Hm) (ps:List (Int×Nat×Nat)):Prop where
 blk:Blk w h.hb h.cells 186
 map:MapAt w h.mb .i64 (ps.map fun p=>(p.1,.pointer (some ⟨p.2.1,0,none⟩)))
 page:∀p∈ps,PgAt w p.2.1 p.2.2 h.me (p.1%h.nodes) p.1
 st:Stm w h.mb
 kn:∀p∈ps,0≤p.1∧p.1<h.shared
theorem mapAt_ne {w:World} {b c:Nat} {k:IntKind} {m:List (Int×Value)} {cs:Array Value} {T:TypeId} (h:MapAt w b k m) (hb:Blk w c cs T):c≠b:=by
 rintro rfl;obtain ⟨es,cl,h1,-⟩:=h
 have hb:w.heap[c]? = some (.cells cs T (0,0)):=hb
 rw [h1] at hb
 cases hb
theorem PgAt.chg {w w':World} {S:Nat→Prop} {pb rb:Nat} {me owner number:Int} (h:PgAt w pb rb me owner number) (c:Chg S w w') (h1:¬S pb) (h2:¬S rb):PgAt w' pb rb me owner number:=⟨c.blk h.blk h1,c.blk h.ring h2⟩
theorem HmAt.chg0 {w w':World} {h:Hm} {ps:List (Int×Nat×Nat)} (a:HmAt w h ps) (c:Chg NoB w w'):HmAt w' h ps:=⟨c.blk0 a.blk,a.map.chg c id,fun p hp=>(a.page p hp).chg0 c,a.st.chg c id,a.kn⟩
theorem PPinfo3:(Tryz.prog.info? 332).map (fun i=>(i.zero,i.size,i.bytes))=some (some (.pointer none),1,8):=by kernel_rfl
theorem HmAt.chg {w w':World} {S:Nat→Prop} {h:Hm} {ps:List (Int×Nat×Nat)} (a:HmAt w h ps) (c:Chg S w w') (h1:¬S h.hb) (h2:¬S h.mb) (h3:∀p∈ps,¬S p.2.1∧¬S p.2.2):HmAt w' h ps:=
 ⟨c.blk a.blk h1,a.map.chg c h2,fun p hp=>(a.page p hp).chg c (h3 p hp).1 (h3 p hp).2,a.st.chg c h2,a.kn⟩
end Go.Proofs.YtjhnnjgnkkjmkaaGreatDoor
