/- slices.Clone: what it answers. No condition. A region that draws its order, by a list of steps: an operation that may be taken at any time (its value is known in every world that meets S), or one that is the only ready one. No condition. append on an owned slice that begins at the head of its block. No condition. A region that draws its order, where one operation may be taken at any time and makes memory, and the others are forced or may be taken first. No condition. A region that draws its order, by a list of steps, where operations may be guarded: one that is not wanted yields nothing. No condition. append onto a slice that has no room: a new row, whatever the slice's own block is. No condition. -/
import Derived.Test.YtjhnnjgnkkjmkaaGreatDoorProg
import Derived.Test.YtjhnnjgnkkjmkaaGreatDoorFa
import Derived.Test.YtjhnnjgnkkjmkaaGreatDoorGa
set_option linter.unusedVariables false
namespace Go.Proofs.YtjhnnjgnkkjmkaaGreatDoor
open Go.RowKit Go.RR
theorem b_elem:(Tryz.prog.info? 5).map (fun i=>(i.zero,i.size,i.bytes))=some (some (.int .u8 0),1,1):=by kernel_rfl
end Go.Proofs.YtjhnnjgnkkjmkaaGreatDoor
namespace Go.RR
open Go.RowKit
section
variable {P:Program} {ops:Array Oper} {md:Region.Mode} {S:World→Prop} {Q:Exit→Act→World→Prop}
def mixB (md:Region.Mode) (ops:Array Oper) (g n:Nat):List (Bool×Nat)→Array Bool→Bool
 | [],listed=>Region.seqB md ops g n listed
 |(true,k) :: l,listed=>decide (k<n) && (((ops[k]?).bind (·.dst)).isSome) && (Region.ready md ops listed).contains k && Region.free md ops listed k && mixB md ops g n l (listed.setIfInBounds k true)
 |(false,k) :: l,listed=>decide (k<n) && decide (Region.ready md ops listed = [k]) && mixB md ops g n l (listed.setIfInBounds k true)
def mixAllB (md:Region.Mode) (ops:Array Oper) (n:Nat) (l:List (Bool×Nat)):Bool:=
 Region.noSelect ops && decide (n<ops.size) && decide (l.length=n) && Region.sinkB md ops n && Region.chainB md ops n && mixB md ops (ops.size - n) n l (Array.replicate ops.size false)
def wpMix (P:Program) (ops:Array Oper) (Q:Exit→Act→World→Prop) (S:World→Prop) (R:Act→World→Prop):List (Bool×Oper)→Act→World→Prop
 | [],a,w=>R a w
 |(true,o) :: l,a,w=>∃v,YieldsIf P ops S o v a∧wpMix P ops Q S R l (a.put o.dst v) w
 |(false,o) :: l,a,w=>if Region.wanted o (yielded ops a.tmps) then o.wp P a w (fun a' w'=>S w'∧wpMix P ops Q S R l a' w') Q else S w∧wpMix P ops Q S R l (a.put o.dst undef) w
def pickMix (ops:Array Oper):List (Bool×Nat)→List (Bool×Oper)
 | []=>[]
 |(b,k) :: l=>(b,(ops[k]?).getD default) :: pickMix ops l
theorem pickMix_nil (ops:Array Oper):pickMix ops [] = []:=rfl
theorem pickMix_cons (ops:Array Oper) (b:Bool) (k:Nat) (l:List (Bool×Nat)):pickMix ops ((b,k) :: l)=(b,(ops[k]?).getD default) :: pickMix ops l:=rfl
theorem anyK_mix {n:Nat} (hsel:Region.noSelect ops=true) (hs:Region.sinkB md ops n=true) (hc:Region.chainB md ops n=true) (hn:n<ops.size)
  (hQ:∀c a d v w,Q (.panic c) (a.put (some d) v) w→Q (.panic c) a w) :
  ∀(A:List (Bool×Nat)) (listed:Array Bool) (a:Act) (w:World),S w→HeadInv md ops n listed→mixB md ops (ops.size - n) n A listed=true→
  wpMix P ops Q S (wpList P ops Q (ops.toList.drop n)) (pickMix ops A) a w→anyK P md ops Q S n (A.length+(ops.size - n)) listed a w
 | [],listed,a,w,hS,_,hB,h=>by
  have hl:(ops.toList.drop n).length=ops.size - n:=by simp
  rw [List.length_nil,Nat.zero_add,←hl]
  exact anyK_seq _ n listed a w (Nat.le_refl _) (fun j=>by simp) (by rw [hl];exact hB) h
 |(true,k) :: A,listed,a,w,hS,inv,hB,h=>by
  simp only [mixB,Bool.and_eq_true,decide_eq_true_eq] at hB
  obtain ⟨⟨⟨⟨hkn,hd⟩,hr⟩,hf⟩,hB'⟩:=hB
  have hr':k∈Region.ready md ops listed:=by simpa using hr
  obtain ⟨hkun,o,h0,_⟩:=mem_ready.1 hr'
  rw [pickMix_cons,h0,Option.getD_some] at h
  obtain ⟨v,hy,hK⟩:=h
  rw [h0] at hd
  obtain ⟨d,hd'⟩:=Option.isSome_iff_exists.1 hd
  simp only [Option.bind_some] at hd'
  rw [show ((true,k) :: A).length+(ops.size - n)=(A.length+(ops.size - n))+1 by simp;omega]
  exact anyK_first h0 (Region.noSelect_spec hsel) hs hc hn hkn (fun c a w=>by rw [hd'];exact hQ c a d _ w) _ listed a w inv (Region.free_spec h0 hf) hr' hy hS
   (anyK_mix hsel hs hc hn hQ A _ _ w hS (inv.set hr' hkn) hB' hK)
 |(false,k) :: A,listed,a,w,hS,inv,hB,h=>by
  simp only [mixB,Bool.and_eq_true,decide_eq_true_eq] at hB
  obtain ⟨⟨hkn,hr⟩,hB'⟩:=hB
  rw [show ((false,k) :: A).length+(ops.size - n)=(A.length+(ops.size - n))+1 by simp;omega]
  refine ⟨fun h1=>(by rw [hr] at h1;cases h1),fun i hi=>?_⟩
  have hr':k∈Region.ready md ops listed:=by rw [hr];exact List.mem_singleton.2 rfl
  obtain ⟨_,o,h0,_⟩:=mem_ready.1 hi
  have hik:i=k:=by rw [hr] at hi;simpa using hi
  subst hik;rw [pickMix_cons,h0,Option.getD_some] at h
  unfold wpMix at h
  unfold wpOp
  simp only [h0]
  split
  ·rename_i hw
   rw [if_pos hw] at h
   exact .inl (Oper.wp_mono (fun a' w' h'=>⟨fun _=>h'.1,anyK_mix hsel hs hc hn hQ A _ a' w' h'.1 (inv.set hr' hkn) hB' h'.2⟩) h)
  ·rename_i hw
   rw [if_neg hw] at h
   exact ⟨fun _=>h.1,anyK_mix hsel hs hc hn hQ A _ _ w h.1 (inv.set hr' hkn) hB' h.2⟩
theorem wp_region_mix {id:Nat} {a:Act} {w:World} {l:List Oper} (n:Nat) (A:List (Bool×Nat)) (S:World→Prop) (hm:P.follows .mixedOrders=true) (hB:mixAllB .any l.toArray n A=true)
  (hQ:∀c a d v w,Q (.panic c) (a.put (some d) v) w→Q (.panic c) a w) (hS:S w.drew)
  (h:wpMix P l.toArray Q S (wpList P l.toArray Q (l.drop n)) (pickMix l.toArray A) a w.drew):(Code.region id l.toArray true).wp P Q a w:=by
 simp only [mixAllB,Bool.and_eq_true,decide_eq_true_eq] at hB
 obtain ⟨⟨⟨⟨⟨hsel,hn⟩,hAl⟩,hs⟩,hc⟩,ht⟩:=hB
 have inv0:HeadInv .any l.toArray n (Array.replicate l.toArray.size false):=
  ⟨by simp,fun j oj _ hl=>(by rw [getD_replicate_false] at hl;cases hl),fun t _ ht=>getD_in (by simpa using ht) (getD_replicate_false _ _)⟩
 have:=anyK_mix (P:=P) (S:=S) hsel hs hc hn hQ A _ a w.drew hS inv0 ht h
 rw [show A.length+(l.toArray.size - n)=l.toArray.size by omega] at this
 exact wp_region_any hm (anyK_any _ _ _ _ this)
theorem wpMix_nil {R:Act→World→Prop} {a:Act} {w:World} (h:R a w):wpMix P ops Q S R [] a w:=h
theorem wpMix_take {R:Act→World→Prop} {o:Oper} {l:List (Bool×Oper)} {a:Act} {w:World} (hg:o.guard=none) (h:∃v,(∀w,S w→(execOp a.eval o).run P w = .ok (.value v) w)∧wpMix P ops Q S R l (a.put o.dst v) w):wpMix P ops Q S R ((true,o) :: l) a w:=
 ⟨h.choose,.inl ⟨by simp [Region.wanted,hg],h.choose_spec.1⟩,h.choose_spec.2⟩
theorem wpMix_force {R:Act→World→Prop} {o:Oper} {l:List (Bool×Oper)} {a:Act} {w:World} (hg:o.guard=none)
  (h:∀K:Act→World→Prop,(∀a' w',S w'→wpMix P ops Q S R l a' w'→K a' w')→o.wp P a w K Q):wpMix P ops Q S R ((false,o) :: l) a w:=by
 unfold wpMix
 rw [if_pos (by simp [Region.wanted,hg])]
 exact h _ fun a' w' h1 h2=>⟨h1,h2⟩
end
set_option linter.unusedSimpArgs false
section
variable {P:Program} {w w':World} {S S':Nat→Prop} {E:TypeId} {size:Nat} {v:Value} {n:Nat} {us:List Value}
def Head (v:Value):Prop:=v = .slice none 0 0∨∃g n cap,v = .slice (some ⟨g,0,none⟩) n cap
theorem run_app0 (t ty:TypeId) (i:TypeInfo) (z:Value) (bytes:Nat) (ht:P.underlying t=some (.slice E)) (hi:P.info? E=some i) (hz:i.zero=some z)
  (hsize:i.size=size) (hby:i.bytes=bytes) (hzs:z.cells.size=size) (hown:Own w S E size v n us) (x:Value) (m:Nat) (news:List Value) (hx:Sl w S' size x m news) (h1:∀u∈news,u.oneCell'=true)
  (h63:n+m≤maxLen) (hbytes:(n+m)*bytes≤140737488355328) :
  ∃v' w',(Builtin.append_ #[t,t] ty #[v,x]).run P w = .ok v' w'∧Own w' (fun k=>v.ownBlock=some k∨k=w.heap.size) E size v' (n+m) (us ++ news)∧w.grownBy w' v.ownBlock∧(0<m→v'≠.slice none 0 0)∧(Head v→Head v'):=by
 subst hsize hby;have hlen:(us ++ news).length=(n+m)*i.size:=by rw [List.length_append,hown.1,hx.1,Nat.add_mul]
 have h63':((n+m:Nat):Int)≤9223372036854775807:=by simp only [maxLen] at h63;omega
 have hsrc:Src P i.size t x m news w:=by
  obtain ⟨hx1,p,cap,rfl,_,hx2⟩:=hx
  by_cases hm0:m=0
  ·subst hm0;obtain rfl:news = []:=List.eq_nil_of_length_eq_zero (by simpa using hx1)
   cases p with
   | none=>exact Src.ofNil w ht cap
   | some a=>exact Src.ofSlice w ht a 0 cap [] (by simp) (fun j u hu=>by simp at hu) h1
  ·obtain ⟨g,off,rfl,_,_,hc⟩:=hx2 (by omega)
   exact Src.ofSlice w ht ⟨g,off,none⟩ m cap news hx1 (fun j u hu=>by rw [Addr.add_lit];exact hc j u hu) h1
 have grow:∀(base:Option Addr) (cap:Nat),(Builtin.firstCells i.size n (.slice base n cap)).run P w.drew = .ok us.toArray w.drew→cap<n+m→
   ∃v' w',(Builtin.append_ #[t,t] ty #[.slice base n cap,x]).run P w = .ok v' w'∧Own w' (fun k=>(Value.slice base n cap).ownBlock=some k∨k=w.heap.size) E i.size v' (n+m) (us ++ news)∧w.grownBy w' (Value.slice base n cap).ownBlock∧(0<m→v'≠.slice none 0 0)∧(Head (.slice base n cap)→Head v'):=by
  intro base cap hold hg;have hr:=run_append_grow_src (P:=P) w t t ty E i z ht hi hz base n cap us hold x m news hsrc hg h63' (growslice_fits hg hbytes)
  have hge:=grownCap_ge w (n+m) cap E
  refine ⟨_,_,hr,⟨hlen,.inr ⟨w.heap.size,0,_,_,rfl,.inr rfl,heap_alloc_new w.drew _,hge,grownCap_le_maxLen w (n+m) cap E h63,?_,fun j u hu=>?_⟩⟩,⟨rfl,rfl,rfl,by simp,fun k hk _=>Below.heap_alloc w.drew _ k hk⟩,by simp,fun _=>.inr ⟨_,_,_,rfl⟩⟩
  ·simp only [Array.size_append,List.size_toArray,hlen,size_zeroCells,hzs,←Nat.add_mul,Nat.zero_add]
   exact Nat.le_of_eq (congrArg (· * i.size) (by omega))
  ·rw [Nat.zero_add,Array.getElem?_append_left (by have:=(List.getElem?_eq_some_iff.1 hu).1;simpa using this)]
   simpa using hu
 rcases hown.2 with ⟨rfl,rfl⟩ | ⟨g,off,cap,cur,rfl,hSg,hb,hn,hm,hf,hc⟩
 ·obtain rfl:us = []:=List.eq_nil_of_length_eq_zero (by simpa using hown.1)
  by_cases h0:m=0
  ·subst h0;obtain rfl:news = []:=List.eq_nil_of_length_eq_zero (by simpa using hx.1)
   refine ⟨.slice none 0 0,w,?_,Own.nil _ _ _ _,⟨rfl,rfl,rfl,Nat.le_refl _,fun _ _ _=>rfl⟩,by simp,fun h=>h⟩
   obtain ⟨_,p,cap,rfl,_⟩:=hx
   cases p <;> simp [Builtin.append_,run_underlying ht,sizeOf,typeInfo,hi,Builtin.lenOf,Builtin.firstCells,loadCells,loadCellsFrom]
  ·exact grow none 0 (by simp [Builtin.firstCells]) (by omega)
 ·by_cases hroom:n+m≤cap
  ·have hfit:off+n*i.size+news.length≤cur.size:=by
    have:=Nat.mul_le_mul_right i.size hroom
    rw [Nat.add_mul] at this
    rw [hx.1];omega
   have hr:=run_append_room_src (P:=P) w t t ty E i ht hi g off n cap x m news hsrc hroom
    (fun j hj=>by rw [hb.cell];rw [Array.getElem?_eq_getElem (by omega)];rfl) (fun j hj=>hb.frozen _)
   obtain ⟨c',k1,k2,k3,k4,k5,k6,k7,k8,k9⟩:=setCells_blk news (off+n*i.size) w cur hb hfit
   refine ⟨_,_,hr,⟨hlen,.inr ⟨g,off,cap,c',rfl,.inl rfl,k1,hroom,hm,by omega,fun j u hu=>?_⟩⟩,⟨k7,k8,k9,by omega,fun k _ hk=>k5 k (fun e=>hk (by simp [Value.ownBlock,e]))⟩,by simp,fun h=>by
    rcases h with h | ⟨g',n',c',h⟩
    ·cases h
    ·cases h;exact .inr ⟨_,_,_,rfl⟩⟩
   rw [List.getElem?_append] at hu
   split at hu
   ·rename_i hj
    rw [k4 _ (.inl (by rw [←hown.1];omega))]
    exact hc j u hu
   ·have:=k3 _ u hu
    rwa [show off+n*i.size+(j - us.length)=off+j by rw [←hown.1];omega] at this
  ·refine grow (some ⟨g,off,none⟩) cap (run_firstCells_some w.drew i.size n ⟨g,off,none⟩ n cap us hown.1 (fun j u hu=>?_)) (by omega)
   rw [Addr.add_lit];exact hb.cell' (hc j u hu)
theorem opwp_app0 {o:Oper} {a:Act} {K:Act→World→Prop} {Q:Exit→Act→World→Prop} (s x:Operand) (t:TypeId)
  (ho:o.op = .call { callee:=.builtin .append,args:=#[s,x],argTypes:=#[t,t]})
  (i:TypeInfo) (z:Value) (bytes:Nat) (ht:P.underlying t=some (.slice E)) (hi:P.info? E=some i) (hz:i.zero=some z)
  (hsize:i.size=size) (hby:i.bytes=bytes) (hzs:z.cells.size=size) (hs:a.eval s=v) (hown:Own w S E size v n us) (xv:Value) (m:Nat) (news:List Value) (hxv:a.eval x=xv) (hx:Sl w S' size xv m news) (h1:∀u∈news,u.oneCell'=true)
  (h63:n+m≤maxLen) (hbytes:(n+m)*bytes≤140737488355328)
  (h:∀v' w',Own w' (fun k=>v.ownBlock=some k∨k=w.heap.size) E size v' (n+m) (us ++ news)→w.grownBy w' v.ownBlock→(0<m→v'≠.slice none 0 0)→(Head v→Head v')→K (a.put o.dst v') w'):o.wp P a w K Q:=by
 obtain ⟨v',w',hr,h2,h3,h4,h5⟩:=run_app0 (P:=P) t o.type i z bytes ht hi hz hsize hby hzs hown xv m news hx h1 h63 hbytes
 unfold Oper.wp execOp
 simp only [ho,resolve,invoke,builtin,Sem.run_bind,Sem.run_pure,Result.andThen_ok,List.map_toArray,List.map_cons,List.map_nil,hs,hxv,hr]
 exact h v' w' h2 h3 h4 h5
end
section
variable {P:Program} {ops:Array Oper} {md:Region.Mode} {S:World→Prop} {Q:Exit→Act→World→Prop}
def floatB (md:Region.Mode) (ops:Array Oper) (g n f:Nat) (l2:List (Bool×Nat)):List (Bool×Nat)→Array Bool→Bool
 | [],listed=>decide (Region.ready md ops listed = [f]) && mixB md ops g n l2 (listed.setIfInBounds f true)
 |(true,k) :: l,listed=>decide (k<n) && (((ops[k]?).bind (·.dst)).isSome) && (Region.ready md ops listed).contains k && Region.free md ops listed k && floatB md ops g n f l2 l (listed.setIfInBounds k true)
 |(false,k) :: l,listed=>decide (k<n) && (Region.ready md ops listed).all (fun i=>decide (i=k) || decide (i=f)) && !(Region.ready md ops listed).isEmpty && floatB md ops g n f l2 l (listed.setIfInBounds k true) && mixB md ops g n (((false,k) :: l) ++ l2) (listed.setIfInBounds f true)
def floatAllB (md:Region.Mode) (ops:Array Oper) (n f:Nat) (l l2:List (Bool×Nat)):Bool:=
 Region.noSelect ops && decide (n<ops.size) && decide (f<n) && decide (l.length+1+l2.length=n) && Region.sinkB md ops n && Region.chainB md ops n && ((ops[f]?).getD default).guard.isNone && floatB md ops (ops.size - n) n f l2 l (Array.replicate ops.size false)
def wpFloat (P:Program) (ops:Array Oper) (Q:Exit→Act→World→Prop) (S:World→Prop) (R:Act→World→Prop) (fo:Oper) (l2:List (Bool×Oper)):List (Bool×Oper)→Act→World→Prop
 | [],a,w=>fo.wp P a w (fun a' w'=>S w'∧wpMix P ops Q S R l2 a' w') Q
 |(true,o) :: l,a,w=>∃v,YieldsIf P ops S o v a∧wpFloat P ops Q S R fo l2 l (a.put o.dst v) w
 |(false,o) :: l,a,w=>fo.wp P a w (fun a' w'=>S w'∧wpMix P ops Q S R ((false,o) :: (l ++ l2)) a' w') Q∧
   (if Region.wanted o (yielded ops a.tmps) then o.wp P a w (fun a' w'=>S w'∧wpFloat P ops Q S R fo l2 l a' w') Q else S w∧wpFloat P ops Q S R fo l2 l (a.put o.dst undef) w)
theorem pickMix_app (A B:List (Bool×Nat)):pickMix ops (A ++ B)=pickMix ops A ++ pickMix ops B:=by
 induction A with
 | nil=>rfl
 | cons x A ih=>obtain ⟨b,k⟩:=x;rw [List.cons_append,pickMix_cons,pickMix_cons,ih];rfl
theorem anyK_float {n f:Nat} {fo:Oper} (hf:ops[f]? = some fo) (hfg:fo.guard=none) (hsel:Region.noSelect ops=true) (hs:Region.sinkB md ops n=true) (hc:Region.chainB md ops n=true) (hn:n<ops.size) (hfn:f<n)
  (hQ:∀c a d v w,Q (.panic c) (a.put (some d) v) w→Q (.panic c) a w) (A2:List (Bool×Nat)) :
  ∀(A:List (Bool×Nat)) (listed:Array Bool) (a:Act) (w:World),S w→HeadInv md ops n listed→floatB md ops (ops.size - n) n f A2 A listed=true→
  wpFloat P ops Q S (wpList P ops Q (ops.toList.drop n)) fo (pickMix ops A2) (pickMix ops A) a w→anyK P md ops Q S n (A.length+1+A2.length+(ops.size - n)) listed a w
 | [],listed,a,w,hS,inv,hB,h=>by
  simp only [floatB,Bool.and_eq_true,decide_eq_true_eq] at hB
  obtain ⟨hr,hB'⟩:=hB
  rw [show ([]:List (Bool×Nat)).length+1+A2.length+(ops.size - n)=(A2.length+(ops.size - n))+1 by simp;omega]
  refine ⟨fun h1=>(by rw [hr] at h1;cases h1),fun i hi=>?_⟩
  have hr':f∈Region.ready md ops listed:=by rw [hr];exact List.mem_singleton.2 rfl
  have hik:i=f:=by rw [hr] at hi;simpa using hi
  subst hik;unfold wpFloat at h
  unfold wpOp
  simp only [hf]
  rw [if_pos (by simp [Region.wanted,hfg])]
  exact .inl (Oper.wp_mono (fun a' w' h'=>⟨fun _=>h'.1,anyK_mix hsel hs hc hn hQ A2 _ a' w' h'.1 (inv.set hr' hfn) hB' h'.2⟩) h)
 |(true,k) :: A,listed,a,w,hS,inv,hB,h=>by
  simp only [floatB,Bool.and_eq_true,decide_eq_true_eq] at hB
  obtain ⟨⟨⟨⟨hkn,hd⟩,hr⟩,hf'⟩,hB'⟩:=hB
  have hr':k∈Region.ready md ops listed:=by simpa using hr
  obtain ⟨hkun,o,h0,_⟩:=mem_ready.1 hr'
  rw [pickMix_cons,h0,Option.getD_some] at h
  obtain ⟨v,hy,hK⟩:=h
  rw [h0] at hd
  obtain ⟨d,hd'⟩:=Option.isSome_iff_exists.1 hd
  simp only [Option.bind_some] at hd'
  rw [show ((true,k) :: A).length+1+A2.length+(ops.size - n)=(A.length+1+A2.length+(ops.size - n))+1 by simp;omega]
  exact anyK_first h0 (Region.noSelect_spec hsel) hs hc hn hkn (fun c a w=>by rw [hd'];exact hQ c a d _ w) _ listed a w inv (Region.free_spec h0 hf') hr' hy hS
   (anyK_float hf hfg hsel hs hc hn hfn hQ A2 A _ _ w hS (inv.set hr' hkn) hB' hK)
 |(false,k) :: A,listed,a,w,hS,inv,hB,h=>by
  simp only [floatB,Bool.and_eq_true,decide_eq_true_eq,List.all_eq_true,Bool.or_eq_true,Bool.not_eq_true'] at hB
  obtain ⟨⟨⟨⟨hkn,hr⟩,hne⟩,hB1⟩,hB2⟩:=hB
  rw [show ((false,k) :: A).length+1+A2.length+(ops.size - n)=(A.length+1+A2.length+(ops.size - n))+1 by simp;omega]
  refine ⟨fun h1=>(by rw [h1] at hne;cases hne),fun i hi=>?_⟩
  obtain ⟨_,o,h0,_⟩:=mem_ready.1 hi
  by_cases hif:i=f
  ·subst hif;rw [hf] at h0
   cases h0
   rw [pickMix_cons] at h
   unfold wpFloat at h
   unfold wpOp
   simp only [hf]
   rw [if_pos (by simp [Region.wanted,hfg])]
   rw [show A.length+1+A2.length+(ops.size - n)=((false,k) :: A ++ A2).length+(ops.size - n) by simp;omega]
   exact .inl (Oper.wp_mono (fun a' w' h'=>⟨fun _=>h'.1,anyK_mix hsel hs hc hn hQ ((false,k) :: A ++ A2) _ a' w' h'.1 (inv.set hi hfn) hB2 (by rw [List.cons_append,pickMix_cons,pickMix_app];exact h'.2)⟩) h.1)
  ·have hik:i=k:=(hr i hi).elim id fun e=>(hif e).elim
   subst hik;rw [pickMix_cons,h0,Option.getD_some] at h
   unfold wpFloat at h
   have h:=h.2
   unfold wpOp
   simp only [h0]
   split
   ·rename_i hw
    rw [if_pos hw] at h
    exact .inl (Oper.wp_mono (fun a' w' h'=>⟨fun _=>h'.1,anyK_float hf hfg hsel hs hc hn hfn hQ A2 A _ a' w' h'.1 (inv.set hi hkn) hB1 h'.2⟩) h)
   ·rename_i hw
    rw [if_neg hw] at h
    exact ⟨fun _=>h.1,anyK_float hf hfg hsel hs hc hn hfn hQ A2 A _ _ w h.1 (inv.set hi hkn) hB1 h.2⟩
theorem wp_region_float {id:Nat} {a:Act} {w:World} {l:List Oper} (n f:Nat) (A A2:List (Bool×Nat)) (S:World→Prop) (hm:P.follows .mixedOrders=true) (hB:floatAllB .any l.toArray n f A A2=true)
  (hQ:∀c a d v w,Q (.panic c) (a.put (some d) v) w→Q (.panic c) a w) (hS:S w.drew)
  (h:wpFloat P l.toArray Q S (wpList P l.toArray Q (l.drop n)) ((l.toArray[f]?).getD default) (pickMix l.toArray A2) (pickMix l.toArray A) a w.drew):(Code.region id l.toArray true).wp P Q a w:=by
 simp only [floatAllB,Bool.and_eq_true,decide_eq_true_eq] at hB
 obtain ⟨⟨⟨⟨⟨⟨⟨hsel,hn⟩,hfn⟩,hAl⟩,hs⟩,hc⟩,hg⟩,ht⟩:=hB
 have inv0:HeadInv .any l.toArray n (Array.replicate l.toArray.size false):=
  ⟨by simp,fun j oj _ hl=>(by rw [getD_replicate_false] at hl;cases hl),fun t _ ht=>getD_in (by simpa using ht) (getD_replicate_false _ _)⟩
 have hfs:l.toArray[f]? = some ((l.toArray[f]?).getD default):=by
  rw [Array.getElem?_eq_getElem (by omega:f<l.toArray.size)]
  rfl
 have:=anyK_float (P:=P) (S:=S) hfs (by simpa [Option.isNone_iff_eq_none] using hg) hsel hs hc hn hfn hQ A2 A _ a w.drew hS inv0 ht h
 rw [show A.length+1+A2.length+(l.toArray.size - n)=l.toArray.size by omega] at this
 exact wp_region_any hm (anyK_any _ _ _ _ this)
theorem wpFloat_nil {R:Act→World→Prop} {fo:Oper} {l2:List (Bool×Oper)} {a:Act} {w:World}
  (h:∀K:Act→World→Prop,(∀a' w',S w'→wpMix P ops Q S R l2 a' w'→K a' w')→fo.wp P a w K Q):wpFloat P ops Q S R fo l2 [] a w:=
 h _ fun a' w' h1 h2=>⟨h1,h2⟩
theorem wpFloat_take {R:Act→World→Prop} {fo o:Oper} {l2 l:List (Bool×Oper)} {a:Act} {w:World} (hg:o.guard=none) (h:∃v,(∀w,S w→(execOp a.eval o).run P w = .ok (.value v) w)∧wpFloat P ops Q S R fo l2 l (a.put o.dst v) w):wpFloat P ops Q S R fo l2 ((true,o) :: l) a w:=
 ⟨h.choose,.inl ⟨by simp [Region.wanted,hg],h.choose_spec.1⟩,h.choose_spec.2⟩
theorem wpFloat_fork {R:Act→World→Prop} {fo o:Oper} {l2 l:List (Bool×Oper)} {a:Act} {w:World} (hg:o.guard=none)
  (h1:∀K:Act→World→Prop,(∀a' w',S w'→wpMix P ops Q S R ((false,o) :: (l ++ l2)) a' w'→K a' w')→fo.wp P a w K Q)
  (h2:∀K:Act→World→Prop,(∀a' w',S w'→wpFloat P ops Q S R fo l2 l a' w'→K a' w')→o.wp P a w K Q):wpFloat P ops Q S R fo l2 ((false,o) :: l) a w:=by
 unfold wpFloat
 rw [if_pos (by simp [Region.wanted,hg])]
 exact ⟨h1 _ fun a' w' x y=>⟨x,y⟩,h2 _ fun a' w' x y=>⟨x,y⟩⟩
end
section
variable {P:Program} {ops:Array Oper} {md:Region.Mode} {S:World→Prop} {Q:Exit→Act→World→Prop}
theorem wpMix_on {R:Act→World→Prop} {o:Oper} {l:List (Bool×Oper)} {a:Act} {w:World} (hg:Region.wanted o (yielded ops a.tmps)=true) (h:∃v,(∀w,S w→(execOp a.eval o).run P w = .ok (.value v) w)∧wpMix P ops Q S R l (a.put o.dst v) w):wpMix P ops Q S R ((true,o) :: l) a w:=
 ⟨h.choose,.inl ⟨hg,h.choose_spec.1⟩,h.choose_spec.2⟩
theorem wpMix_off {R:Act→World→Prop} {o:Oper} {l:List (Bool×Oper)} {a:Act} {w:World} (hg:Region.wanted o (yielded ops a.tmps)=false) (h:wpMix P ops Q S R l (a.put o.dst undef) w):wpMix P ops Q S R ((true,o) :: l) a w:=
 ⟨_,.inr ⟨hg,rfl⟩,h⟩
theorem wpMix_onForce {R:Act→World→Prop} {o:Oper} {l:List (Bool×Oper)} {a:Act} {w:World} (hg:Region.wanted o (yielded ops a.tmps)=true)
  (h:∀K:Act→World→Prop,(∀a' w',S w'→wpMix P ops Q S R l a' w'→K a' w')→o.wp P a w K Q):wpMix P ops Q S R ((false,o) :: l) a w:=by
 unfold wpMix
 rw [if_pos hg]
 exact h _ fun a' w' h1 h2=>⟨h1,h2⟩
theorem wpMix_offForce {R:Act→World→Prop} {o:Oper} {l:List (Bool×Oper)} {a:Act} {w:World} (hg:Region.wanted o (yielded ops a.tmps)=false) (hS:S w)
  (h:wpMix P ops Q S R l (a.put o.dst undef) w):wpMix P ops Q S R ((false,o) :: l) a w:=by
 unfold wpMix
 rw [if_neg (by rw [hg];decide)]
 exact ⟨hS,h⟩
end
section
variable {P:Program} {E:TypeId} {size:Nat} {w:World} {S S':Nat→Prop} {v:Value} {n:Nat} {us:List Value}
theorem run_app_full (t ty:TypeId) (i:TypeInfo) (z:Value) (bytes:Nat) (ht:P.underlying t=some (.slice E)) (hi:P.info? E=some i) (hz:i.zero=some z)
  (hsize:i.size=size) (hby:i.bytes=bytes) (hzs:z.cells.size=size) (g off:Nat) (hs:Sl w S size (.slice (some ⟨g,off,none⟩) n n) n us) (hn:0<n) (x:Value) (m:Nat) (news:List Value) (hx:Sl w S' size x m news) (hm:0<m) (h1:∀u∈news,u.oneCell'=true)
  (h63:n+m≤maxLen) (hbytes:(n+m)*bytes≤140737488355328) :
  ∃v' w',(Builtin.append_ #[t,t] ty #[.slice (some ⟨g,off,none⟩) n n,x]).run P w = .ok v' w'∧Own w' (fun k=>k=w.heap.size) E size v' (n+m) (us ++ news)∧Chg NoB w w':=by
 subst hsize hby;have hlen:(us ++ news).length=(n+m)*i.size:=by rw [List.length_append,hs.1,hx.1,Nat.add_mul]
 have h63':((n+m:Nat):Int)≤9223372036854775807:=by simp only [maxLen] at h63;omega
 have hsrc:Src P i.size t x m news w:=by
  obtain ⟨hx1,p,cap,rfl,_,hx2⟩:=hx
  obtain ⟨g,off,rfl,_,_,hc⟩:=hx2 hm
  exact Src.ofSlice w ht ⟨g,off,none⟩ m cap news hx1 (fun j u hu=>by rw [Addr.add_lit];exact hc j u hu) h1
 obtain ⟨hl,p,cap,e,-,hc⟩:=hs
 cases e
 obtain ⟨g',off',e,-,-,hc⟩:=hc hn
 cases e
 have hold:(Builtin.firstCells i.size n (.slice (some ⟨g,off,none⟩) n n)).run P w.drew = .ok us.toArray w.drew:=
  run_firstCells_some w.drew i.size n ⟨g,off,none⟩ n n us hl (fun j u hu=>by rw [Addr.add_lit];exact hc j u hu)
 have hg:n<n+m:=by omega
 have hr:=run_append_grow_src (P:=P) w t t ty E i z ht hi hz (some ⟨g,off,none⟩) n n us hold x m news hsrc hg h63' (growslice_fits hg hbytes)
 have hge:=grownCap_ge w (n+m) n E
 refine ⟨_,_,hr,⟨hlen,.inr ⟨w.heap.size,0,_,_,rfl,rfl,heap_alloc_new w.drew _,hge,grownCap_le_maxLen w (n+m) n E h63,?_,fun j u hu=>?_⟩⟩,(Chg.refl NoB w).drew.alloc _⟩
 ·simp only [Array.size_append,List.size_toArray,hlen,size_zeroCells,hzs,←Nat.add_mul,Nat.zero_add]
  exact Nat.le_of_eq (congrArg (· * i.size) (by omega))
 ·rw [Nat.zero_add,Array.getElem?_append_left (by have:=(List.getElem?_eq_some_iff.1 hu).1;simpa using this)]
  simpa using hu
theorem opwp_full {o:Oper} {a:Act} {K:Act→World→Prop} {Q:Exit→Act→World→Prop} (s x:Operand) (t:TypeId)
  (ho:o.op = .call { callee:=.builtin .append,args:=#[s,x],argTypes:=#[t,t]})
  (i:TypeInfo) (z:Value) (bytes:Nat) (ht:P.underlying t=some (.slice E)) (hi:P.info? E=some i) (hz:i.zero=some z)
  (hsize:i.size=size) (hby:i.bytes=bytes) (hzs:z.cells.size=size) (g off:Nat) (he:a.eval s = .slice (some ⟨g,off,none⟩) n n) (hs:Sl w S size (.slice (some ⟨g,off,none⟩) n n) n us) (hn:0<n) (xv:Value) (m:Nat) (news:List Value) (hxv:a.eval x=xv) (hx:Sl w S' size xv m news) (hm:0<m) (h1:∀u∈news,u.oneCell'=true)
  (h63:n+m≤maxLen) (hbytes:(n+m)*bytes≤140737488355328)
  (h:∀v' w',Own w' (fun k=>k=w.heap.size) E size v' (n+m) (us ++ news)→Chg NoB w w'→K (a.put o.dst v') w'):o.wp P a w K Q:=by
 obtain ⟨v',w',hr,h2,h3⟩:=run_app_full (P:=P) t o.type i z bytes ht hi hz hsize hby hzs g off hs hn xv m news hx hm h1 h63 hbytes
 unfold Oper.wp execOp
 simp only [ho,resolve,invoke,builtin,Sem.run_bind,Sem.run_pure,Result.andThen_ok,List.map_toArray,List.map_cons,List.map_nil,he,hxv,hr]
 exact h v' w' h2 h3
end
end Go.RR
