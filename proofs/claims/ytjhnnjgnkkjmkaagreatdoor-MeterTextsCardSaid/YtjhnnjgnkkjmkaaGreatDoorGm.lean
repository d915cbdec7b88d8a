/- The buffer of entries: pages' numbers, ways that serve. No condition. Rights: what an access needs, the causes of faults, flags of a text. No condition. The buffer of entries in memory; finding in it. No condition. -/
import Derived.Test.YtjhnnjgnkkjmkaaGreatDoorGh
import Derived.Test.YtjhnnjgnkkjmkaaGreatDoorGe
import Derived.Test.YtjhnnjgnkkjmkaaGreatDoorGa
set_option maxRecDepth 100000
set_option linter.unusedVariables false
set_option linter.unusedSimpArgs false
namespace Go.RR
theorem Blk.ever {w:World} {b:Nat} {cs:Array Value} {T:TypeId} (h:Blk w b cs T):∀w',Chg NoB w w'→∀i,w'.cell? ⟨b,i,none⟩=cs[i]?:=fun w' c i=>(c.blk0 h).cell i
theorem Blk.everF {w:World} {b:Nat} {cs:Array Value} {T:TypeId} (h:Blk w b cs T):∀w',Chg NoB w w'→∀i,w'.frozen? ⟨b,i,none⟩=false:=fun w' c i=>(c.blk0 h).frozen i
theorem Blk.everL {w:World} {b:Nat} {cs:Array Value} {T:TypeId} (h:Blk w b cs T):∀w',Chg NoB w w'→b<w'.heap.size:=fun w' c=>(c.blk0 h).lt
theorem Chg.reads {w w':World} (c:Chg NoB w w'):∀b i,b<w.heap.size→w'.cell? ⟨b,i,none⟩=w.cell? ⟨b,i,none⟩:=fun b i h=>World.cell?_of_block (c.block b h id)
theorem nat_beq (a b:Nat):((a:Int) == (b:Int))=decide (a=b):=by rw [Bool.eq_iff_iff,beq_iff_eq,decide_eq_true_iff];omega
end Go.RR
namespace Go.Proofs.YtjhnnjgnkkjmkaaGreatDoor
open Go.RowKit Go.RR
def Way.cs (w:Way):List Value:=[.bool w.full,.int .i64 w.asid,.int .u64 w.page,.bool w.leaf.p.v,.bool w.leaf.p.r,.bool w.leaf.p.w,.bool w.leaf.p.x,.bool w.leaf.p.u,.bool w.leaf.p.g,.bool w.leaf.p.a,.bool w.leaf.p.d,.int .i64 w.leaf.p.rsw,.int .u64 w.leaf.p.ppn,.int .i64 w.leaf.level,.int .u64 w.leaf.pos]
theorem tlbPage_any (va:Nat) (l:Int) (w:World) (hv:va<18446744073709551616) (hl:levelB l=true):Calls Tryz.prog 306 #[.int .u64 va,.int .i64 l] w (RetW (.int .u64 (pageOf va l)) fun w'=>w'=w):=by
 have HV:=Lib.hid fun w'=>vpn_any va w' hv
 have hp:Hid (∀k:Nat,((vpn va / 2 ^ k:Nat):Int)=(vpn va:Int) / 2 ^ k):=Lib.hid fun k=>by rw [Int.natCast_ediv];simp
 have hu:Hid (pageOf va l=vpn va / 2 ^ (9*l.toNat)):=Lib.hid rfl
 rw [hu.out]
 obtain ⟨v,hvv⟩:∃v,vpn va=v:=⟨_,rfl⟩
 rw [hvv] at HV hp ⊢
 clear hvv hu;rcases level_cases l with rfl | rfl | rfl | h
 ·go_enter Tryz.func306,Tryz.ntmps306;go_wp2_with fail;with_reducible refine (HV.out _).mono ?_
  rintro e w1 ⟨rfl,hw1⟩;subst hw1;go_wp2_with fail;go_ret;exact ⟨by simp,rfl⟩
 ·go_enter Tryz.func306,Tryz.ntmps306;go_wp2_with fail;with_reducible refine (HV.out _).mono ?_
  rintro e w1 ⟨rfl,hw1⟩;subst hw1;go_wp2_with fail;go_ret;exact ⟨congrArg (fun z:Int=>Ending.returned (Value.int .u64 z)) (hp.out 9).symm,rfl⟩
 ·go_enter Tryz.func306,Tryz.ntmps306;go_wp2_with fail;with_reducible refine (HV.out _).mono ?_
  rintro e w1 ⟨rfl,hw1⟩;subst hw1;go_wp2_with fail;go_ret;exact ⟨congrArg (fun z:Int=>Ending.returned (Value.int .u64 z)) (hp.out 18).symm,rfl⟩
 ·rw [hl] at h;cases h
theorem wayHas_any (e:Way) (va:Nat) (w:World) (hv:va<18446744073709551616) (hl:levelB e.leaf.level=true):Calls Tryz.prog 317 #[.agg #[.bool e.full,.int .i64 e.asid,.int .u64 e.page,.bool e.leaf.p.v,.bool e.leaf.p.r,.bool e.leaf.p.w,.bool e.leaf.p.x,.bool e.leaf.p.u,.bool e.leaf.p.g,.bool e.leaf.p.a,.bool e.leaf.p.d,.int .i64 e.leaf.p.rsw,.int .u64 e.leaf.p.ppn,.int .i64 e.leaf.level,.int .u64 e.leaf.pos],.int .u64 va] w (RetW (.bool (e.has va)) fun w'=>Chg NoB w w'):=by
 have HP:=Lib.hid fun w'=>tlbPage_any va e.leaf.level w' hv hl
 obtain ⟨full,asid,pg,⟨v,r,pw,x,u,g,a,d,rsw,ppn⟩,level,pos⟩:=e
 obtain ⟨P,hP⟩:∃P,pageOf va level=P:=⟨_,rfl⟩
 rw [show (Way.mk full asid pg ⟨⟨v,r,pw,x,u,g,a,d,rsw,ppn⟩,level,pos⟩).has va=(full && decide (pg=P)) from by rw [←hP];rfl]
 dsimp only at HP hl
 rw [hP] at HP
 have HC:=Lib.hid (Chg.refl NoB w)
 clear hP hl;cases full
 all_goals
  go_enter Tryz.func317,Tryz.ntmps317;go_upto_region 1 with fail;go_quiet ((go_at_call 306;exact Calls.quiet_of_same (HP.out _)))
  go_wp2_with fail;go_ret;first
   | exact ⟨rfl,(HC.out.alloc _).drewN _⟩
   | exact ⟨ret_bool (by simp [nat_beq]),(HC.out.alloc _).drewN _⟩
def UMode:Mode:=⟨true,false,false⟩
def Acc (a:Int):Prop:=a=0∨a=1∨a=2
theorem allows_any (p:Pte) (a:Int) (ha:Acc a) (w:World):Calls Tryz.prog 290 #[.agg #[.bool p.v,.bool p.r,.bool p.w,.bool p.x,.bool p.u,.bool p.g,.bool p.a,.bool p.d,.int .i64 p.rsw,.int .u64 p.ppn],.int .i64 a,.bool false] w (RetW (.bool (allowsB p a false)) fun w'=>Chg NoB w w'):=by
 obtain ⟨v,r,pw,x,u,g,pa,d,rsw,ppn⟩:=p
 have HC:=Lib.hid (Chg.refl NoB w)
 rcases ha with rfl | rfl | rfl
 ·go_enter Tryz.func290,Tryz.ntmps290;go_wp2_with fail;go_ret;exact ⟨rfl,HC.out.alloc _⟩
 ·cases r
  all_goals
   go_enter Tryz.func290,Tryz.ntmps290;go_wp2_with fail;go_ret;exact ⟨rfl,HC.out.alloc _⟩
 ·cases pw
  all_goals
   go_enter Tryz.func290,Tryz.ntmps290;go_wp2_with fail;go_ret;exact ⟨by first | rfl | simp [allowsB],HC.out.alloc _⟩
theorem check_mode (p:Pte) (a:Int) (ha:Acc a) (w:World):Calls Tryz.prog 260 #[.agg #[.bool p.v,.bool p.r,.bool p.w,.bool p.x,.bool p.u,.bool p.g,.bool p.a,.bool p.d,.int .i64 p.rsw,.int .u64 p.ppn],.int .i64 a,.agg #[.bool true,.bool false,.bool false]] w (RetW (.bool (checkB p a UMode)) fun w'=>Chg NoB w w'):=by
 have H1:=Lib.hid fun w'=>pteRight_any p w'
 have H2:=Lib.hid fun w'=>pteLeaf_any p w'
 have H3:=Lib.hid fun w'=>allows_any p a ha w'
 obtain ⟨R,hR⟩:∃R,rightP8 p=R:=⟨_,rfl⟩
 obtain ⟨L,hL⟩:∃L,leafB p=L:=⟨_,rfl⟩
 obtain ⟨Al,hAl⟩:∃Al,allowsB p a false=Al:=⟨_,rfl⟩
 have HV:Hid (checkB p a UMode=if !R || !L || !p.a then false else if !p.u then false else Al):=Lib.hid (by
  unfold checkB UMode
  rw [hR,hL,hAl]
  simp)
 rw [HV.out]
 rw [hR] at H1
 rw [hL] at H2
 rw [hAl] at H3
 obtain ⟨v,r,pw,x,u,g,pa,d,rsw,ppn⟩:=p
 clear hR hL hAl HV ha;dsimp only at H1 H2 H3 ⊢
 have HB1:=Lib.hid ((Blk.new w #[.bool v,.bool r,.bool pw,.bool x,.bool u,.bool g,.bool pa,.bool d,.int .i64 rsw,.int .u64 ppn] 233).alloc (.cells #[.bool true,.bool false,.bool false] 176))
 have HB2:=Lib.hid (Blk.new (w.alloc (.cells #[.bool v,.bool r,.bool pw,.bool x,.bool u,.bool g,.bool pa,.bool d,.int .i64 rsw,.int .u64 ppn] 233)) #[.bool true,.bool false,.bool false] 176)
 have HC:=Lib.hid (((Chg.refl NoB w).alloc (.cells #[.bool v,.bool r,.bool pw,.bool x,.bool u,.bool g,.bool pa,.bool d,.int .i64 rsw,.int .u64 ppn] 233)).alloc (.cells #[.bool true,.bool false,.bool false] 176))
 go_enter Tryz.func260,Tryz.ntmps260;go_upto_region 1 with fail;rw [World.size_alloc] at HB2
 generalize (w.alloc (.cells #[.bool v,.bool r,.bool pw,.bool x,.bool u,.bool g,.bool pa,.bool d,.int .i64 rsw,.int .u64 ppn] 233)).alloc (.cells #[.bool true,.bool false,.bool false] 176)=w0 at *;have f1:=HB1.out.ever
 have f2:=HB2.out.ever
 have l1:=HB1.out.everL
 have l2:=HB2.out.everL
 have c0:=Chg.refl NoB w0
 clear HB1 HB2;cases R
 ·go_wp2_with fail;with_reducible refine (H1.out _).mono ?_
  rintro e w1 ⟨rfl,C1⟩;go_wp2_with fail;go_ret;exact ⟨rfl,HC.out.step C1⟩
 cases L
 ·go_wp2_with fail;with_reducible refine (H1.out _).mono ?_
  rintro e w1 ⟨rfl,C1⟩;go_wp2_with fail;with_reducible refine (H2.out _).mono ?_
  rintro e w2 ⟨rfl,C2⟩;have C2:=C1.step C2
  go_wp2_with fail;go_ret;exact ⟨rfl,HC.out.step C2⟩
 cases pa
 ·go_wp2_with fail;with_reducible refine (H1.out _).mono ?_
  rintro e w1 ⟨rfl,C1⟩;go_wp2_with fail;with_reducible refine (H2.out _).mono ?_
  rintro e w2 ⟨rfl,C2⟩;have C2:=C1.step C2
  go_wp2_with fail;go_ret;exact ⟨rfl,HC.out.step C2⟩
 cases u
 ·go_wp2_with fail;with_reducible refine (H1.out _).mono ?_
  rintro e w1 ⟨rfl,C1⟩;go_wp2_with fail;with_reducible refine (H2.out _).mono ?_
  rintro e w2 ⟨rfl,C2⟩;have C2:=C1.step C2
  go_wp2_with fail;go_ret;exact ⟨rfl,HC.out.step C2⟩
 ·go_wp2_with fail;with_reducible refine (H1.out _).mono ?_
  rintro e w1 ⟨rfl,C1⟩;go_wp2_with fail;with_reducible refine (H2.out _).mono ?_
  rintro e w2 ⟨rfl,C2⟩;have C2:=C1.step C2
  go_wp2_with fail;with_reducible refine (H3.out _).mono ?_
  rintro e w3 ⟨rfl,C3⟩;have C3:=C2.step C3
  go_wp2_with fail;go_ret;exact ⟨by simp,HC.out.step C3⟩
theorem known_any (a:Int) (ha:Acc a) (w:World):Calls Tryz.prog 304 #[.int .i64 a] w (RetW (.bool true) fun w'=>w'=w):=by
 rcases ha with rfl | rfl | rfl
 all_goals
  go_enter Tryz.func304,Tryz.ntmps304;go_wp2_with fail;go_ret;exact ⟨rfl,rfl⟩
def pick3 (a x y z:Int):Int:=if a=0 then x else if a=1 then y else z
theorem causeOf_any (a x y z:Int) (ha:Acc a) (w:World):Calls Tryz.prog 286 #[.int .i64 a,.agg #[.int .i64 x,.int .i64 y,.int .i64 z]] w (RetW (.int .i64 (pick3 a x y z)) fun w'=>Chg NoB w w'):=by
 have HK:=Lib.hid fun w'=>known_any a ha w'
 have HC:=Lib.hid ((Chg.refl NoB w).alloc (.cells #[.int .i64 x,.int .i64 y,.int .i64 z] 451))
 rcases ha with rfl | rfl | rfl
 all_goals
  go_enter Tryz.func286,Tryz.ntmps286;go_wp2_with fail;with_reducible refine (HK.out _).mono ?_
  rintro e w1 ⟨rfl,hw1⟩;subst hw1;go_wp2_with fail;go_ret;exact ⟨rfl,HC.out⟩
theorem pageC_any (a:Int) (ha:Acc a) (w:World):Calls Tryz.prog 261 #[.int .i64 a] w (RetW (.int .i64 (pageC a)) fun w'=>Chg NoB w w'):=by
 rcases ha with rfl | rfl | rfl
 ·go_enter Tryz.func261,Tryz.ntmps261;go_wp2_with fail;with_reducible refine (causeOf_any 0 12 13 15 (by unfold Acc;omega) _).mono ?_
  rintro e w1 ⟨rfl,C1⟩;go_wp2_with fail;go_ret;exact ⟨rfl,C1⟩
 ·go_enter Tryz.func261,Tryz.ntmps261;go_wp2_with fail;with_reducible refine (causeOf_any 1 12 13 15 (by unfold Acc;omega) _).mono ?_
  rintro e w1 ⟨rfl,C1⟩;go_wp2_with fail;go_ret;exact ⟨rfl,C1⟩
 ·go_enter Tryz.func261,Tryz.ntmps261;go_wp2_with fail;with_reducible refine (causeOf_any 2 12 13 15 (by unfold Acc;omega) _).mono ?_
  rintro e w1 ⟨rfl,C1⟩;go_wp2_with fail;go_ret;exact ⟨rfl,C1⟩
theorem boundC_any (a:Int) (ha:Acc a) (w:World):Calls Tryz.prog 263 #[.int .i64 a] w (RetW (.int .i64 (boundC a)) fun w'=>Chg NoB w w'):=by
 rcases ha with rfl | rfl | rfl
 ·go_enter Tryz.func263,Tryz.ntmps263;go_wp2_with fail;with_reducible refine (causeOf_any 0 1 5 7 (by unfold Acc;omega) _).mono ?_
  rintro e w1 ⟨rfl,C1⟩;go_wp2_with fail;go_ret;exact ⟨rfl,C1⟩
 ·go_enter Tryz.func263,Tryz.ntmps263;go_wp2_with fail;with_reducible refine (causeOf_any 1 1 5 7 (by unfold Acc;omega) _).mono ?_
  rintro e w1 ⟨rfl,C1⟩;go_wp2_with fail;go_ret;exact ⟨rfl,C1⟩
 ·go_enter Tryz.func263,Tryz.ntmps263;go_wp2_with fail;with_reducible refine (causeOf_any 2 1 5 7 (by unfold Acc;omega) _).mono ?_
  rintro e w1 ⟨rfl,C1⟩;go_wp2_with fail;go_ret;exact ⟨rfl,C1⟩
theorem alignC_any (a:Int) (ha:Acc a) (w:World):Calls Tryz.prog 258 #[.int .i64 a] w (RetW (.int .i64 (alignC a)) fun w'=>Chg NoB w w'):=by
 rcases ha with rfl | rfl | rfl
 ·go_enter Tryz.func258,Tryz.ntmps258;go_wp2_with fail;with_reducible refine (causeOf_any 0 0 4 6 (by unfold Acc;omega) _).mono ?_
  rintro e w1 ⟨rfl,C1⟩;go_wp2_with fail;go_ret;exact ⟨rfl,C1⟩
 ·go_enter Tryz.func258,Tryz.ntmps258;go_wp2_with fail;with_reducible refine (causeOf_any 1 0 4 6 (by unfold Acc;omega) _).mono ?_
  rintro e w1 ⟨rfl,C1⟩;go_wp2_with fail;go_ret;exact ⟨rfl,C1⟩
 ·go_enter Tryz.func258,Tryz.ntmps258;go_wp2_with fail;with_reducible refine (causeOf_any 2 0 4 6 (by unfold Acc;omega) _).mono ?_
  rintro e w1 ⟨rfl,C1⟩;go_wp2_with fail;go_ret;exact ⟨rfl,C1⟩
theorem wayMatches_any (e:Way) (va:Nat) (asid:Int) (w:World) (hv:va<18446744073709551616) (hl:levelB e.leaf.level=true):Calls Tryz.prog 307 #[.agg #[.bool e.full,.int .i64 e.asid,.int .u64 e.page,.bool e.leaf.p.v,.bool e.leaf.p.r,.bool e.leaf.p.w,.bool e.leaf.p.x,.bool e.leaf.p.u,.bool e.leaf.p.g,.bool e.leaf.p.a,.bool e.leaf.p.d,.int .i64 e.leaf.p.rsw,.int .u64 e.leaf.p.ppn,.int .i64 e.leaf.level,.int .u64 e.leaf.pos],.int .u64 va,.int .i64 asid] w (RetW (.bool (e.matches va asid)) fun w'=>Chg NoB w w'):=by
 have H1:=Lib.hid fun w'=>wayHas_any e va w' hv hl
 obtain ⟨M,hM⟩:∃M,e.has va=M:=⟨_,rfl⟩
 have HV:Hid (e.matches va asid=(M && (decide (e.asid=asid) || e.leaf.p.g))):=Lib.hid (by unfold Way.matches;rw [hM])
 rw [HV.out]
 rw [hM] at H1
 clear hM HV hl;obtain ⟨full,asd,pg,⟨v,r,pw,x,u,g,a,d,rsw,ppn⟩,level,pos⟩:=e
 dsimp only at H1 ⊢
 have HB:=Lib.hid (Blk.new w #[.bool full,.int .i64 asd,.int .u64 pg,.bool v,.bool r,.bool pw,.bool x,.bool u,.bool g,.bool a,.bool d,.int .i64 rsw,.int .u64 ppn,.int .i64 level,.int .u64 pos] 473)
 have HC:=Lib.hid ((Chg.refl NoB w).alloc (.cells #[.bool full,.int .i64 asd,.int .u64 pg,.bool v,.bool r,.bool pw,.bool x,.bool u,.bool g,.bool a,.bool d,.int .i64 rsw,.int .u64 ppn,.int .i64 level,.int .u64 pos] 473))
 go_enter Tryz.func307,Tryz.ntmps307;go_upto_region 1 with fail;generalize w.alloc (.cells #[.bool full,.int .i64 asd,.int .u64 pg,.bool v,.bool r,.bool pw,.bool x,.bool u,.bool g,.bool a,.bool d,.int .i64 rsw,.int .u64 ppn,.int .i64 level,.int .u64 pos] 473)=w0 at *;have f1:=HB.out.ever
 have l1:=HB.out.everL
 have c0:=Chg.refl NoB w0
 clear HB;cases M
 ·go_wp2_with fail;with_reducible refine (H1.out _).mono ?_
  rintro e w1 ⟨rfl,C1⟩;go_wp2_with fail;go_ret;exact ⟨rfl,HC.out.step C1⟩
 ·obtain ⟨q,hq⟩:∃q,(asd == asid)=q:=⟨_,rfl⟩
  have HQ:Hid (decide (asd=asid)=q):=Lib.hid hq
  cases q
  all_goals
   go_wp2_with fail;with_reducible refine (H1.out _).mono ?_
   rintro e w1 ⟨rfl,C1⟩;go_wp2_with fail;go_ret;exact ⟨by rw [HQ.out];first | rfl | simp,HC.out.step C1⟩
def wcells (l:List Way):List Value:=l.flatMap Way.cs
theorem wcells_len (l:List Way):(wcells l).length=l.length*15:=by
 induction l with
 | nil=>rfl
 | cons x l ih=>show (x.cs ++ wcells l).length=_;rw [List.length_append,ih,List.length_cons];show 15+_=_;omega
theorem wcells_get {l:List Way} {k j:Nat} {e:Way} (h:l[k]? = some e) (hj:j<15):(wcells l)[15*k+j]? = e.cs[j]?:=by
 induction l generalizing k with
 | nil=>simp at h
 | cons x l ih=>
  show (x.cs ++ wcells l)[15*k+j]? = _
  cases k with
  | zero=>
   simp at h
   subst h;rw [List.getElem?_append_left (by show _<15;omega)]
   simp
  | succ k=>
   rw [List.getElem?_append_right (by show 15≤_;omega)]
   rw [show 15*(k+1)+j - x.cs.length=15*k+j by show _ - 15=_;omega]
   exact ih (by simpa using h)
structure Way.Ok (e:Way):Prop where
 lv:levelB e.leaf.level=true
 p:e.leaf.p.Ok
 pos:e.leaf.pos<18446744073709551616
 page:e.page<18446744073709551616
theorem Way.zero_ok:Way.zero.Ok:=⟨rfl,⟨by decide,by decide,by decide⟩,by decide,by decide⟩
structure TlbIn (w:World) (S:Nat→Prop) (bb ob cap W:Nat) (gs:Nat→Nat) (cur:Array Value) (b:Tlb):Prop where
 buf:Blk w bb #[.slice (some ⟨ob,0,none⟩) b.length cap] 220
 out:Blk w ob cur 221
 cp:b.length≤cap
 sl:∀i,i<b.length→cur[i]? = some (.slice (some ⟨gs i,0,none⟩) W W)
 rows:∀i l,b[i]? = some l→Blk w (gs i) (wcells l).toArray 473∧l.length=W∧S (gs i)∧∀e∈l,e.Ok
 inj:∀i j,i<b.length→j<b.length→gs i=gs j→i=j
 n1:∀i,i<b.length→gs i≠bb∧gs i≠ob
 n2:bb≠ob
 s1:S bb
 s2:S ob
 l1:1≤b.length
 l2:b.length≤64
 w1:1≤W
 w2:W≤8
def TlbAt (w:World) (S:Nat→Prop) (bb:Nat) (b:Tlb):Prop:=∃ob cap W gs cur,TlbIn w S bb ob cap W gs cur b
theorem TlbAt.chg {w w':World} {S S':Nat→Prop} {bb:Nat} {b:Tlb} (h:TlbAt w S bb b) (c:Chg S' w w') (hs:∀k,S k→¬S' k):TlbAt w' S bb b:=by
 obtain ⟨ob,cap,W,gs,cur,h⟩:=h
 exact ⟨ob,cap,W,gs,cur,c.blk h.buf (hs _ h.s1),c.blk h.out (hs _ h.s2),h.cp,h.sl,fun i l hi=>by obtain ⟨h1,h2,h3,h4⟩:=h.rows i l hi;exact ⟨c.blk h1 (hs _ h3),h2,h3,h4⟩,h.inj,h.n1,h.n2,h.s1,h.s2,h.l1,h.l2,h.w1,h.w2⟩
theorem TlbIn.chg0 {w w':World} {S:Nat→Prop} {bb ob cap W:Nat} {gs:Nat→Nat} {cur:Array Value} {b:Tlb} (h:TlbIn w S bb ob cap W gs cur b) (c:Chg NoB w w'):TlbIn w' S bb ob cap W gs cur b:=
 ⟨c.blk0 h.buf,c.blk0 h.out,h.cp,h.sl,fun i l hi=>by obtain ⟨h1,h2,h3,h4⟩:=h.rows i l hi;exact ⟨c.blk0 h1,h2,h3,h4⟩,h.inj,h.n1,h.n2,h.s1,h.s2,h.l1,h.l2,h.w1,h.w2⟩
theorem TlbAt.chg0 {w w':World} {S:Nat→Prop} {bb:Nat} {b:Tlb} (h:TlbAt w S bb b) (c:Chg NoB w w'):TlbAt w' S bb b:=h.chg c fun _ _=>id
theorem TlbAt.mono {w:World} {S S':Nat→Prop} {bb:Nat} {b:Tlb} (h:TlbAt w S bb b) (hs:∀k,k<w.heap.size→S k→S' k):TlbAt w S' bb b:=by
 obtain ⟨ob,cap,W,gs,cur,h⟩:=h
 exact ⟨ob,cap,W,gs,cur,h.buf,h.out,h.cp,h.sl,fun i l hi=>by obtain ⟨h1,h2,h3,h4⟩:=h.rows i l hi;exact ⟨h1,h2,hs _ h1.lt h3,h4⟩,h.inj,h.n1,h.n2,hs _ h.buf.lt h.s1,hs _ h.out.lt h.s2,h.l1,h.l2,h.w1,h.w2⟩
theorem tlbSet_any {S:Nat→Prop} {w:World} {bb ob cap W:Nat} {gs:Nat→Nat} {cur:Array Value} {b:Tlb} (h:TlbIn w S bb ob cap W gs cur b) (pg:Nat) (hp:pg<18446744073709551616) :
  Calls Tryz.prog 305 #[.pointer (some ⟨bb,0,none⟩),.int .u64 pg] w (RetW (.slice (some ⟨gs (pg%b.length),0,none⟩) W W) fun w'=>Chg NoB w w'):=by
 have hb1:=h.l1
 have hb2:=h.l2
 have f1:=h.buf.ever
 have l1:=h.buf.everL
 have l2:=h.out.everL
 have hm:pg%b.length<b.length:=Nat.mod_lt _ (by omega)
 have hc0:=h.sl _ hm
 obtain ⟨n,hn⟩:∃n,b.length=n:=⟨_,rfl⟩
 obtain ⟨G,hG⟩:∃G,gs (pg%n)=G:=⟨_,rfl⟩
 rw [hn] at hb1 hb2 f1 hm hc0 ⊢
 rw [hG] at hc0 ⊢
 obtain ⟨k,hk⟩:∃k,pg%n=k:=⟨_,rfl⟩
 rw [hk] at hm hc0
 have ok:∀w',Chg NoB w w'→w'.cell? ⟨ob,k,none⟩=some (.slice (some ⟨G,0,none⟩) W W):=fun w' c=>((c.blk0 h.out).cell k).trans hc0
 have c0:=Chg.refl NoB w
 have ck:(pg:Int)%(n:Int)=(k:Int):=by omega
 have hn0:((n:Int) == 0)=false:=by rw [beq_eq_false_iff_ne];omega
 have HK:=Lib.hid hk
 clear h hn hG hc0 hk;go_enter Tryz.func305,Tryz.ntmps305;go_upto_region 1 with fail;have cd:∀n,Chg NoB w (w.drewN n):=fun n=>c0.drewN n
 go_quiet (fail)
 go_wp2_with fail;go_ret;exact ⟨rfl,cd _⟩
end Go.Proofs.YtjhnnjgnkkjmkaaGreatDoor
