/- More small lemmas on memory: an append that has room, clear, rows of slices. No condition. Maps with integer keys, as lists of pairs: look-up, store, delete, length. No condition. A region that draws its order: bare operations first, then some that write memory in every order that may come up, then the tail. Bytes turned into a text. No condition. -/
import Derived.Test.YtjhnnjgnkkjmkaaGreatDoorFa
import Derived.Lib.SliceRun
import Derived.Maps.OwnOps
import Derived.Laws.IdiomStrings
import Derived.Laws.BytesArg
import Derived.Lib.SlBytesConst
set_option linter.unusedVariables false
set_option linter.unusedSimpArgs false
namespace Go.RR
open Go.RowKit
section
variable {P:Program} {w w':World} {S S':Nat→Prop} {E:TypeId} {size:Nat} {v:Value} {n:Nat} {us:List Value}
theorem Chg.undrew (h:Chg S w.drew w'):Chg S w w':=⟨h.os,h.tape,h.output,h.size,h.block⟩
theorem Own.setCells {g off n' cap:Nat} {us':List Value} (h:Own w S E size (.slice (some ⟨g,off,none⟩) n cap) n us) (o:Nat) (vs:List Value) (ho:off≤o) (hv:o+vs.length≤off+cap*size) (hl:us'.length=n'*size) (hn:n'≤cap)
  (hu:∀j u,us'[j]? = some u→(vs[off+j - o]? = some u∧o≤off+j)∨(us[j]? = some u∧(off+j<o∨o+vs.length≤off+j))) :
  Own (w.setCells g o vs) S E size (.slice (some ⟨g,off,none⟩) n' cap) n' us'∧Chg (· = g) w (w.setCells g o vs)∧(w.setCells g o vs).heap.size=w.heap.size:=by
 obtain ⟨hl0,hv0 | ⟨g',off',cap',cur,e,hg,hb,hn0,hm,hf,hc⟩⟩:=h
 ·cases hv0.1
 ·cases e
  obtain ⟨c',k1,k2,k3,k4,k5,k6,k7,k8,k9⟩:=setCells_blk vs o w cur hb (by omega)
  refine ⟨⟨hl,.inr ⟨g,off,cap,c',rfl,hg,k1,hn,hm,by omega,fun j u hj=>?_⟩⟩,⟨k7,k8,k9,by omega,fun k _ hk=>k5 k hk⟩,k6⟩
  rcases hu j u hj with ⟨h1,h2⟩ | ⟨h1,h2⟩
  ·have:=k3 _ u h1
   rwa [show o+(off+j - o)=off+j by omega] at this
  ·rw [k4 _ h2];exact hc j u h1
theorem Own.set1 {g off cap k:Nat} (h:Own w S E 1 (.slice (some ⟨g,off,none⟩) n cap) n us) (hk:k<n) (v:Value):Own (w.setCell ⟨g,off+k,none⟩ v) S E 1 (.slice (some ⟨g,off,none⟩) n cap) n (us.set k v):=by
 obtain ⟨h1,h2 | ⟨g',off',cap',cur,e,hS,hB,hn,hm,hsz,hc⟩⟩:=h
 ·exact absurd h2.1 (by simp)
 ·cases e
  refine ⟨by simpa using h1,.inr ⟨g,off,cap,_,rfl,hS,hB.set (off+k) v,hn,hm,by simpa using hsz,fun j u hu=>?_⟩⟩
  by_cases hj:k=j
  ·subst hj;rw [List.getElem?_set_self (by omega)] at hu
   cases hu
   rw [Array.getElem?_setIfInBounds_self_of_lt (by omega)]
  ·rw [List.getElem?_set_ne hj] at hu
   rw [Array.getElem?_setIfInBounds_ne (by omega)]
   exact hc j u hu
theorem Own.spot {v:Value} (h:Own w S E size v n us) (h0:0<n):∃g off cap,v = .slice (some ⟨g,off,none⟩) n cap∧S g∧g<w.heap.size∧n≤cap∧(∀j u,us[j]? = some u→w.cell? ⟨g,off+j,none⟩=some u)∧∀j,w.frozen? ⟨g,j,none⟩=false:=by
 obtain ⟨-,⟨-,h1⟩ | ⟨g,off,cap,cur,e,h1,h2,h3,h4,h5,h6⟩⟩:=h
 ·omega
 ·exact ⟨g,off,cap,e,h1,h2.lt,h3,fun j u hu=>h2.cell' (h6 j u hu),fun j=>h2.frozen j⟩
theorem Own.at {g off cap:Nat} (h:Own w S E size (.slice (some ⟨g,off,none⟩) n cap) n us):S g∧g<w.heap.size∧(∀j u,us[j]? = some u→w.cell? ⟨g,off+j,none⟩=some u)∧∀j,w.frozen? ⟨g,j,none⟩=false:=by
 obtain ⟨-,⟨h0,h1⟩ | ⟨g',off',cap',cur,e,h1,h2,h3,h4,h5,h6⟩⟩:=h
 ·cases h0
 ·cases e;exact ⟨h1,h2.lt,fun j u hu=>h2.cell' (h6 j u hu),fun j=>h2.frozen j⟩
theorem Own.form {v:Value} (h:Own w S E size v n us):∃p c,v = .slice p n c:=by obtain ⟨-,p,c,e,-⟩:=h.sl;exact ⟨p,c,e⟩
theorem Sl.form {v:Value} (h:Sl w S size v n us):∃p c,v = .slice p n c:=by obtain ⟨-,p,c,e,-⟩:=h;exact ⟨p,c,e⟩
theorem opwp_app {o:Oper} {a:Act} {K:Act→World→Prop} {Q:Exit→Act→World→Prop} (s x:Operand) (t:TypeId)
  (ho:o.op = .call { callee:=.builtin .append,args:=#[s,x],argTypes:=#[t,t]})
  (i:TypeInfo) (z:Value) (bytes:Nat) (ht:P.underlying t=some (.slice E)) (hi:P.info? E=some i) (hz:i.zero=some z)
  (hsize:i.size=size) (hby:i.bytes=bytes) (hzs:z.cells.size=size) (hs:a.eval s=v) (hown:Own w S E size v n us) (xv:Value) (m:Nat) (news:List Value) (hxv:a.eval x=xv) (hx:Sl w S' size xv m news) (h1:∀u∈news,u.oneCell'=true)
  (h63:n+m≤maxLen) (hbytes:(n+m)*bytes≤140737488355328)
  (h:∀v' w',Own w' (fun k=>v.ownBlock=some k∨k=w.heap.size) E size v' (n+m) (us ++ news)→w.grownBy w' v.ownBlock→(0<m→v'≠.slice none 0 0)→K (a.put o.dst v') w'):o.wp P a w K Q:=by
 obtain ⟨v',w',hr,h2,h3,h4⟩:=run_app (P:=P) t o.type i z bytes ht hi hz hsize hby hzs hown xv m news hx h1 h63 hbytes
 unfold Oper.wp execOp
 simp only [ho,resolve,invoke,builtin,Sem.run_bind,Sem.run_pure,Result.andThen_ok,List.map_toArray,List.map_cons,List.map_nil,hs,hxv,hr]
 exact h v' w' h2 h3 h4
theorem run_equalIn_func_nil (w:World) (d:Nat) (t:TypeId) (f:Fn) (fst lb:Array Value) (td:TypeDesc) (h:P.underlying t=some td) (hf:(match td with | .func ..=>true | _=>false)=true) :
  (Op.equalIn (d+1) t (.func f fst lb) .nilFunc).run P w = .ok false w:=by
 cases td <;> simp at hf <;> simp [Op.equalIn,run_underlying h]
def RowsAt (w:World) (S:Nat→Prop) (vs:List Value) (uss:List (List Value)):Prop:=
 vs.length=uss.length∧∀(i:Nat) (us:List Value),uss[i]? = some us→∃v:Value,vs[i]? = some v∧Sl w S 1 v us.length us
theorem RowsAt.nil (w:World) (S:Nat→Prop):RowsAt w S [] []:=⟨rfl,fun i us h=>by simp at h⟩
theorem RowsAt.chg {vs:List Value} {uss:List (List Value)} (h:RowsAt w S vs uss) (c:Chg S' w w') (hs:∀k,S k→¬S' k):RowsAt w' S vs uss:=
 ⟨h.1,fun i us hi=>by obtain ⟨v,h1,h2⟩:=h.2 i us hi;exact ⟨v,h1,h2.chg c hs⟩⟩
theorem RowsAt.chg0 {vs:List Value} {uss:List (List Value)} (h:RowsAt w S vs uss) (c:Chg NoB w w'):RowsAt w' S vs uss:=h.chg c fun _ _=>id
theorem RowsAt.monoIn {vs:List Value} {uss:List (List Value)} (h:RowsAt w S vs uss) (hs:∀k,k<w.heap.size→S k→S' k):RowsAt w S' vs uss:=
 ⟨h.1,fun i us hi=>by obtain ⟨v,h1,h2⟩:=h.2 i us hi;exact ⟨v,h1,h2.monoIn hs⟩⟩
end
def MapAt (w:World) (b:Nat) (k:IntKind) (m:List (Int×Value)):Prop:=
 ∃es clock,w.heap[b]? = some (.map es clock)∧es.toList.map (fun e=>(e.key,e.val))=m.map fun p=>(Value.int k p.1,p.2)
def mlook (m:List (Int×Value)) (a:Int):Option Value:=(m.find? fun p=>p.1 == a).map (·.2)
def mdrop:List (Int×Value)→Int→List (Int×Value)
 | [],_=>[]
 | p :: m,a=>if p.1=a then m else p :: mdrop m a
def mput:List (Int×Value)→Int→Value→List (Int×Value)
 | [],a,v=>[(a,v)]
 | p :: m,a,v=>if p.1=a then (a,v) :: m else p :: mput m a v
section
variable {w w':World} {b:Nat} {k:IntKind} {m:List (Int×Value)} {P:Program}
theorem MapAt.lt (h:MapAt w b k m):b<w.heap.size:=by obtain ⟨es,c,h,_⟩:=h;exact (Array.getElem?_eq_some_iff.1 h).1
theorem MapAt.chg {S:Nat→Prop} (h:MapAt w b k m) (c:Chg S w w') (hn:¬S b):MapAt w' b k m:=by
 have:=h.lt
 obtain ⟨es,cl,h1,h2⟩:=h
 exact ⟨es,cl,(c.block b this hn).trans h1,h2⟩
theorem MapAt.new (w:World) (k:IntKind):MapAt (w.alloc (.map #[] 0)) w.heap.size k []:=⟨#[],0,heap_alloc_new w _,rfl⟩
def midx:List (Int×Value)→Int→Option Nat
 | [],_=>none
 | p :: m,a=>if p.1=a then some 0 else (midx m a).map (· + 1)
theorem findNow_of (a:Int):∀(es:List MapEntry) (m:List (Int×Value)) (i:Nat),es.map (fun e=>(e.key,e.val))=m.map (fun p=>(Value.int k p.1,p.2))→
  Instr.findNow (.int k) (.int k a) es i=some ((midx m a).bind fun j=>(m[j]?).map fun p=>(i+j,p.2))
 | [],[],i,_=>rfl
 | [],p :: m,i,h=>by simp at h
 | e :: es,[],i,h=>by simp at h
 | e :: es,p :: m,i,h=>by
  simp only [List.map_cons,List.cons.injEq,Prod.mk.injEq] at h
  obtain ⟨⟨h1,h2⟩,h3⟩:=h
  simp only [Instr.findNow,h1,Instr.sameNow,if_true]
  by_cases hp:p.1=a
  ·subst hp;simp [midx,h2]
  ·have:(a == p.1)=false:=by simp;omega
   rw [this]
   simp only
   rw [findNow_of a es m (i+1) h3]
   simp only [midx,if_neg hp]
   cases hm:midx m a with
   | none=>rfl
   | some j=>simp [Nat.add_assoc,Nat.add_comm 1 j]
theorem midx_some {a:Int} : ∀{m:List (Int×Value)} {j:Nat},midx m a=some j→∃v,m[j]? = some (a,v)∧mlook m a=some v∧m.eraseIdx j=mdrop m a∧∀v,m.set j (a,v)=mput m a v
 | [],j,h=>by simp [midx] at h
 | p :: m,j,h=>by
  by_cases hp:p.1=a
  ·simp only [midx,if_pos hp,Option.some.injEq] at h
   subst h;exact ⟨p.2,by simp [←hp],by simp [mlook,hp],by simp [mdrop,hp],fun v=>by simp [mput,hp]⟩
  ·simp only [midx,if_neg hp] at h
   obtain ⟨j',h1,rfl⟩:=Option.map_eq_some_iff.1 h
   obtain ⟨v,k1,k2,k3,k4⟩:=midx_some h1
   have hb:(p.1 == a)=false:=by simpa using hp
   exact ⟨v,by simpa using k1,by simpa [mlook,hb] using k2,by simp [mdrop,hp,k3],fun v=>by simp [mput,hp,k4]⟩
theorem midx_none {a:Int} : ∀{m:List (Int×Value)},midx m a=none→mlook m a=none∧mdrop m a=m∧∀v,mput m a v=m ++ [(a,v)]
 | [],_=>⟨rfl,rfl,fun _=>rfl⟩
 | p :: m,h=>by
  by_cases hp:p.1=a
  ·simp [midx,hp] at h
  ·simp only [midx,if_neg hp,Option.map_eq_none_iff] at h
   obtain ⟨k1,k2,k3⟩:=midx_none h
   have hb:(p.1 == a)=false:=by simpa using hp
   exact ⟨by simpa [mlook,hb] using k1,by simp [mdrop,hp,k2],fun v=>by simp [mput,hp,k3]⟩
theorem run_findKey {kt:TypeId} (ht:P.underlying kt=some (.int k)) (a:Int) (es:List MapEntry) (hm:es.map (fun e=>(e.key,e.val))=m.map (fun p=>(Value.int k p.1,p.2))) :
  (Instr.findKey kt (.int k a) es).run P w = .ok ((midx m a).bind fun j=>(m[j]?).map fun p=>(j,p.2)) w:=by
 simp only [Instr.findKey,Sem.run_bind,run_underlying ht,Result.andThen_ok,findNow_of a es m 0 hm,Sem.run_pure,Nat.zero_add]
theorem run_checkKey {kt:TypeId} (ht:P.underlying kt=some (.int k)) (e:Bool) (a:Int):(Instr.checkKey e 10000 kt (.int k a)).run P w = .ok () w:=by
 unfold Instr.checkKey
 simp [run_underlying ht]
theorem run_look2 {t kt e:TypeId} {i:TypeInfo} {z:Value} (ht:P.underlying t=some (.map kt e)) (hk:P.underlying kt=some (.int k)) (hi:P.info? e=some i) (hz:i.zero=some z) (h:MapAt w b k m) (a:Int) :
  (Instr.lookup t (.map (some b)) (.int k a) true).run P w = .ok (.tuple #[(mlook m a).getD z,.bool (mlook m a).isSome]) w:=by
 obtain ⟨es,c,h1,h2⟩:=h
 have hg:(getObj b).run P w = .ok (.map es c) w:=by simp [getObj,Sem.run,h1]
 have hf:=run_findKey (P:=P) (w:=w) hk a es.toList h2
 have hc:=run_checkKey (P:=P) (w:=w) hk es.isEmpty a
 cases hm:midx m a with
 | none=>
  obtain ⟨k1,-,-⟩:=midx_none hm
  rw [hm] at hf
  simp only [Option.bind_none] at hf
  simp [Instr.lookup,run_underlying ht,hg,hc,hf,zeroValue,typeInfo,hi,hz,k1]
 | some j=>
  obtain ⟨v,k1,k2,-,-⟩:=midx_some hm
  rw [hm] at hf
  simp only [Option.bind_some,k1,Option.map_some] at hf
  simp [Instr.lookup,run_underlying ht,hg,hc,hf,k2]
theorem run_look1 {t kt e:TypeId} {i:TypeInfo} {z:Value} (ht:P.underlying t=some (.map kt e)) (hk:P.underlying kt=some (.int k)) (hi:P.info? e=some i) (hz:i.zero=some z) (h:MapAt w b k m) (a:Int) :
  (Instr.lookup t (.map (some b)) (.int k a) false).run P w = .ok ((mlook m a).getD z) w:=by
 obtain ⟨es,c,h1,h2⟩:=h
 have hg:(getObj b).run P w = .ok (.map es c) w:=by simp [getObj,Sem.run,h1]
 have hf:=run_findKey (P:=P) (w:=w) hk a es.toList h2
 have hc:=run_checkKey (P:=P) (w:=w) hk es.isEmpty a
 cases hm:midx m a with
 | none=>
  obtain ⟨k1,-,-⟩:=midx_none hm
  rw [hm] at hf
  simp only [Option.bind_none] at hf
  simp [Instr.lookup,run_underlying ht,hg,hc,hf,zeroValue,typeInfo,hi,hz,k1]
 | some j=>
  obtain ⟨v,k1,k2,-,-⟩:=midx_some hm
  rw [hm] at hf
  simp only [Option.bind_some,k1,Option.map_some] at hf
  simp [Instr.lookup,run_underlying ht,hg,hc,hf,k2]
def setMap (w:World) (b:Nat) (es:Array MapEntry) (c:Nat):World:={ w with heap:=w.heap.setIfInBounds b (.map es c)}
theorem setMap_at {es:Array MapEntry} {c:Nat} {es':Array MapEntry} {c':Nat} (h:w.heap[b]? = some (.map es c)):(setMap w b es' c').heap[b]? = some (.map es' c'):=by
 have:=(Array.getElem?_eq_some_iff.1 h).1
 simp [setMap,this]
theorem setMap_chg (w:World) (b:Nat) (es:Array MapEntry) (c:Nat):Chg (· = b) w (setMap w b es c):=
 ⟨rfl,rfl,rfl,by simp [setMap],fun k hk hn=>by simp only [setMap];rw [Array.getElem?_setIfInBounds_ne (fun e=>hn e.symm)]⟩
theorem run_mapput {t kt e:TypeId} (ht:P.underlying t=some (.map kt e)) (hk:P.underlying kt=some (.int k)) (h:MapAt w b k m) (a:Int) (v:Value) :
  ∃w',(Instr.mapUpdate t (.map (some b)) (.int k a) v).run P w = .ok () w'∧MapAt w' b k (mput m a v)∧Chg (· = b) w w':=by
 obtain ⟨es,c,h1,h2⟩:=h
 have hg:(getObj b).run P w = .ok (.map es c) w:=by simp [getObj,Sem.run,h1]
 have hs:∀o,(setObj b o).run P w = .ok () { w with heap:=w.heap.setIfInBounds b o}:=fun o=>by simp [setObj,Sem.run,h1]
 have hf:=run_findKey (P:=P) (w:=w) hk a es.toList h2
 have hc:=run_checkKey (P:=P) (w:=w) hk false a
 cases hm:midx m a with
 | none=>
  obtain ⟨-,-,k1⟩:=midx_none hm
  rw [hm] at hf
  simp only [Option.bind_none] at hf
  refine ⟨setMap w b (es.push { key:=.int k a,val:=v,born:=c}) (c+1),by simp [Instr.mapUpdate,run_underlying ht,hg,hc,hf,hs,setMap],⟨_,_,setMap_at h1,?_⟩,setMap_chg _ _ _ _⟩
  rw [k1 v];simp [h2]
 | some j=>
  obtain ⟨u,k1,k2,-,k3⟩:=midx_some hm
  rw [hm] at hf
  simp only [Option.bind_some,k1,Option.map_some] at hf
  have hl:es.size=m.length:=by have:=congrArg List.length h2;simpa using this
  have hj:j<es.size:=by rw [hl];exact (List.getElem?_eq_some_iff.1 k1).1
  have hkey:(es[j]?.map (·.key)).getD (.int k a) = .int k a:=by
   have:(es.toList.map fun e=>(e.key,e.val))[j]? = some (.int k a,u):=by rw [h2,List.getElem?_map,k1];rfl
   rw [List.getElem?_map,Array.getElem?_toList] at this
   cases he:es[j]? with
   | none=>rfl
   | some e=>rw [he] at this;simp at this;simp [this.1]
  have hst:(Instr.keyThatStays (.int k a) (.int k a)).run P w = .ok (.int k a) w:=by simp [Instr.keyThatStays,Instr.sameBits]
  refine ⟨setMap w b (es.modify j fun e=>{ e with key:=.int k a,val:=v}) c,by simp only [Instr.mapUpdate,Sem.run_bind,run_underlying ht,Result.andThen_ok,hg,hc,hf,hkey,hst,hs,setMap],⟨_,c,setMap_at h1,?_⟩,setMap_chg _ _ _ _⟩
  rw [←k3 v]
  apply List.ext_getElem?
  intro i;rw [List.getElem?_map,Array.getElem?_toList,Array.getElem?_modify,List.getElem?_map,List.getElem?_set]
  have hi:(es.toList.map fun e=>(e.key,e.val))[i]? = (m.map fun p=>(Value.int k p.1,p.2))[i]?:=by rw [h2]
  rw [List.getElem?_map,List.getElem?_map,Array.getElem?_toList] at hi
  by_cases hij:j=i
  ·subst hij;have hjm:j<m.length:=by omega
   simp [hj,hjm]
  ·simp only [if_neg hij]
   exact hi
theorem wpList_mapput {ops:Array Oper} {rest:List Oper} {o:Oper} {a:Act} {Q:Exit→Act→World→Prop} (hgd:o.guard=none) (s x y:Operand) (t kt e:TypeId)
  (ho:o.op = .mapUpdate t s x y) (ht:P.underlying t=some (.map kt e)) (hk:P.underlying kt=some (.int k)) (hs:a.eval s = .map (some b)) (h:MapAt w b k m) (key:Int) (hx:a.eval x = .int k key) (v:Value) (hy:a.eval y=v)
  (hc:∀w',MapAt w' b k (mput m key v)→Chg (· = b) w w'→wpList P ops Q rest (a.put o.dst undef) w'):wpList P ops Q (o :: rest) a w:=by
 refine wpList_plain hgd fun K hK=>?_
 obtain ⟨w',hr,h2,h3⟩:=run_mapput (P:=P) ht hk h key v
 have hc2:=hK _ _ (hc w' h2 h3)
 unfold Oper.wp execOp
 simp [ho,hs,hx,hy,hr,Oper.upon]
 exact hc2
end
section
variable {P:Program} {ops:Array Oper} {md:Region.Mode} {S:World→Prop} {Q:Exit→Act→World→Prop}
def wpAll (P:Program) (md:Region.Mode) (ops:Array Oper) (Q:Exit→Act→World→Prop) (S:World→Prop) (R:Act→World→Prop):Nat→Array Bool→Act→World→Prop
 | 0,_,a,w=>R a w
 | f+1,listed,a,w=>∀i∈Region.ready md ops listed,wpOp P ops Q i (fun a' w'=>S w'∧wpAll P md ops Q S R f (listed.setIfInBounds i true) a' w') a w
def allB (md:Region.Mode) (ops:Array Oper) (g n:Nat):Nat→Array Bool→Bool
 | 0,listed=>Region.seqB md ops g n listed
 | f+1,listed=>!(Region.ready md ops listed).isEmpty && (Region.ready md ops listed).all fun i=>decide (i<n) && allB md ops g n f (listed.setIfInBounds i true)
theorem anyK_all {n:Nat} (hn:n<ops.size):∀(f:Nat) (listed:Array Bool) (a:Act) (w:World),allB md ops (ops.size - n) n f listed=true→
  wpAll P md ops Q S (wpList P ops Q (ops.toList.drop n)) f listed a w→anyK P md ops Q S n (f+(ops.size - n)) listed a w
 | 0,listed,a,w,hB,h=>by
  have hl:(ops.toList.drop n).length=ops.size - n:=by simp
  rw [Nat.zero_add,←hl]
  exact anyK_seq _ n listed a w (Nat.le_refl _) (fun j=>by simp) (by rw [hl];exact hB) h
 | f+1,listed,a,w,hB,h=>by
  simp only [allB,Bool.and_eq_true,List.all_eq_true,decide_eq_true_eq] at hB
  obtain ⟨hne,hall⟩:=hB
  rw [show f+1+(ops.size - n)=(f+(ops.size - n))+1 by omega]
  refine ⟨fun h1=>(by rw [h1] at hne;simp at hne),fun i hi=>?_⟩
  exact wpOp_mono (fun a' w' h'=>⟨fun _=>h'.1,anyK_all hn f _ a' w' (hall i hi).2 h'.2⟩) (h i hi)
def takeAllB (md:Region.Mode) (ops:Array Oper) (g n m:Nat):List Nat→Array Bool→Bool
 | [],listed=>allB md ops g n m listed
 | k :: l,listed=>decide (k<n) && (((ops[k]?).bind (·.dst)).isSome) && (Region.ready md ops listed).contains k && Region.free md ops listed k && takeAllB md ops g n m l (listed.setIfInBounds k true)
def takenL:List Nat→Array Bool→Array Bool
 | [],l=>l
 | k :: A,l=>takenL A (l.setIfInBounds k true)
theorem anyK_takeAll {n m:Nat} (hsel:Region.noSelect ops=true) (hs:Region.sinkB md ops n=true) (hc:Region.chainB md ops n=true) (hn:n<ops.size)
  (hQ:∀c a d v w,Q (.panic c) (a.put (some d) v) w→Q (.panic c) a w) :
  ∀(A:List Nat) (listed:Array Bool) (a:Act) (w:World),S w→HeadInv md ops n listed→takeAllB md ops (ops.size - n) n m A listed=true→
  wpTake P ops S (fun a'=>wpAll P md ops Q S (wpList P ops Q (ops.toList.drop n)) m (takenL A listed) a' w) (pickOps ops A) a→anyK P md ops Q S n (A.length+(m+(ops.size - n))) listed a w
 | [],listed,a,w,hS,_,hB,h=>by
  rw [List.length_nil,Nat.zero_add]
  exact anyK_all hn m listed a w hB h
 | k :: A,listed,a,w,hS,inv,hB,h=>by
  simp only [takeAllB,Bool.and_eq_true,decide_eq_true_eq] at hB
  obtain ⟨⟨⟨⟨hkn,hd⟩,hr⟩,hf⟩,hB'⟩:=hB
  have hr':k∈Region.ready md ops listed:=by simpa using hr
  obtain ⟨hkun,o,h0,_⟩:=mem_ready.1 hr'
  rw [pickOps_cons,h0,Option.getD_some] at h
  obtain ⟨v,hy,hK⟩:=h
  rw [h0] at hd
  obtain ⟨d,hd'⟩:=Option.isSome_iff_exists.1 hd
  simp only [Option.bind_some] at hd'
  rw [show (k :: A).length+(m+(ops.size - n))=(A.length+(m+(ops.size - n)))+1 by simp;omega]
  exact anyK_first h0 (Region.noSelect_spec hsel) hs hc hn hkn (fun c a w=>by rw [hd'];exact hQ c a d _ w) _ listed a w inv (Region.free_spec h0 hf) hr' hy hS
   (anyK_takeAll hsel hs hc hn hQ A _ _ w hS (inv.set hr' hkn) hB' hK)
def heldAllB (md:Region.Mode) (ops:Array Oper) (n m:Nat) (A:List Nat):Bool:=
 Region.noSelect ops && decide (n<ops.size) && decide (A.length+m=n) && Region.sinkB md ops n && Region.chainB md ops n && takeAllB md ops (ops.size - n) n m A (Array.replicate ops.size false)
theorem wp_region_all {id:Nat} {a:Act} {w:World} {l:List Oper} (n m:Nat) (A:List Nat) (S:World→Prop) (hm:P.follows .mixedOrders=true) (hB:heldAllB .any l.toArray n m A=true)
  (hQ:∀c a d v w,Q (.panic c) (a.put (some d) v) w→Q (.panic c) a w) (hS:S w.drew)
  (h:wpTake P l.toArray S (fun a'=>wpAll P .any l.toArray Q S (wpList P l.toArray Q (l.drop n)) m (takenL A (Array.replicate l.toArray.size false)) a' w.drew) (pickOps l.toArray A) a):(Code.region id l.toArray true).wp P Q a w:=by
 simp only [heldAllB,Bool.and_eq_true,decide_eq_true_eq] at hB
 obtain ⟨⟨⟨⟨⟨hsel,hn⟩,hAB⟩,hs⟩,hc⟩,ht⟩:=hB
 have inv0:HeadInv .any l.toArray n (Array.replicate l.toArray.size false):=
  ⟨by simp,fun j oj _ hl=>(by rw [getD_replicate_false] at hl;cases hl),fun t _ ht=>getD_in (by simpa using ht) (getD_replicate_false _ _)⟩
 have:=anyK_takeAll (P:=P) (S:=S) (m:=m) hsel hs hc hn hQ A _ a w.drew hS inv0 ht h
 rw [show A.length+(m+(l.toArray.size - n))=l.toArray.size by omega] at this
 exact wp_region_any hm (anyK_any _ _ _ _ this)
theorem wpAll_nil {R:Act→World→Prop} {listed:Array Bool} {a:Act} {w:World} (h:R a w):wpAll P md ops Q S R 0 listed a w:=h
theorem wpAll_cons {R:Act→World→Prop} {f:Nat} {listed:Array Bool} {a:Act} {w:World} (l:List Nat) (hr:Region.ready md ops listed=l)
  (h:∀i∈l,∃o:Oper,ops[i]? = some o∧o.guard=none∧∀K:Act→World→Prop,(∀a' w',S w'→wpAll P md ops Q S R f (listed.setIfInBounds i true) a' w'→K a' w')→o.wp P a w K Q):wpAll P md ops Q S R (f+1) listed a w:=by
 intro i hi;rw [hr] at hi
 obtain ⟨o,h0,hg,hK⟩:=h i hi
 unfold wpOp
 simp only [h0]
 rw [if_pos (by simp [Region.wanted,hg])]
 exact .inl (hK _ fun a' w' h1 h2=>⟨h1,h2⟩)
end
end Go.RR
