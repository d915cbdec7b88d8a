/- A node's memory as plain functions: words of bytes, pages, entries of tables. Plain, no program. No condition. Entries of page tables and walks as plain functions. Plain, no program. No condition. The buffer of entries, rights and accesses as plain functions. Plain, no program. No condition. A core as a plain function: instructions by words, registers, jumps, memory. Plain, no program. No condition. Frames, tables and spaces as plain functions. Plain, no program. No condition. What a unit's tables and buffer mean: which page has which entry. Plain, no program. No condition. -/
import Derived.Test.YtjhnnjgnkkjmkaaGreatDoorFa
import Derived.Laws.BitsAllLaws
import Derived.Test.YtjhnnjgnkkjmkaaGreatDoorGb
set_option linter.unusedVariables false
set_option linter.unusedSimpArgs false
namespace Go.Proofs.YtjhnnjgnkkjmkaaGreatDoor
open Go.RowKit Go.RR
abbrev By:=Nat→Nat
def getW (f:By):Nat→Nat→Nat
 | _,0=>0
 | at',n+1=>f at'+256*getW f (at'+1) n
def putW (f:By) (at' n v:Nat):By:=fun a=>if at'≤a∧a<at'+n then v / 256 ^ (a - at')%256 else f a
def ByOk (f:By):Prop:=∀a,f a<256
theorem getW_lt {f:By} (h:ByOk f):∀(n a:Nat),getW f a n<256 ^ n
 | 0,a=>by show 0<1;omega
 | n+1,a=>by
  have h1:=getW_lt h n (a+1)
  have h2:=h a
  show f a+256*getW f (a+1) n<256 ^ (n+1)
  rw [Nat.pow_succ]
  omega
theorem getW_congr {f g:By} : ∀(n a:Nat),(∀i,a≤i→i<a+n→f i=g i)→getW f a n=getW g a n
 | 0,a,_=>rfl
 | n+1,a,h=>by
  show f a+256*getW f (a+1) n=g a+256*getW g (a+1) n
  rw [h a (Nat.le_refl _) (by omega),getW_congr n (a+1) fun i h1 h2=>h i (by omega) (by omega)]
theorem putW_ok {f:By} (h:ByOk f) (a n v:Nat):ByOk (putW f a n v):=fun i=>by
 unfold putW
 split
 ·exact Nat.mod_lt _ (by omega)
 ·exact h i
theorem putW_out {f:By} {a n v i:Nat} (h:i<a∨a+n≤i):putW f a n v i=f i:=by
 unfold putW
 rw [if_neg (by omega)]
theorem putW_in {f:By} {a n v i:Nat} (h1:a≤i) (h2:i<a+n):putW f a n v i=v / 256 ^ (i - a)%256:=by
 unfold putW
 rw [if_pos ⟨h1,h2⟩]
theorem getW_bytes (v:Nat):∀(n a:Nat) (f:By),(∀i,i<n→f (a+i)=v / 256 ^ i%256)→getW f a n=v%256 ^ n
 | 0,a,f,_=>by show 0=v%1;omega
 | n+1,a,f,h=>by
  have h0:=h 0 (by omega)
  have h1:=getW_bytes (v / 256) n (a+1) f fun i hi=>by
   rw [show a+1+i=a+(i+1) by omega,h (i+1) (by omega),Nat.pow_succ,Nat.mul_comm,←Nat.div_div_eq_div_mul]
  show f a+256*getW f (a+1) n=_
  rw [h1,Nat.pow_succ,Nat.mul_comm (256 ^ n),Nat.mod_mul]
  simp at h0
  rw [h0]
theorem getW_put (f:By) (a n v:Nat):getW (putW f a n v) a n=v%256 ^ n:=
 getW_bytes v n a _ fun i hi=>by rw [putW_in (by omega) (by omega),Nat.add_sub_cancel_left]
theorem getW_put_ne (f:By) {a n v b m:Nat} (h:b+m≤a∨a+n≤b):getW (putW f a n v) b m=getW f b m:=
 getW_congr m b fun i h1 h2=>putW_out (by omega)
theorem putW_step (f:By) (a n v:Nat):putW f a (n+1) v=fun i=>if i=a+n then v / 256 ^ n%256 else putW f a n v i:=by
 funext i
 unfold putW
 by_cases h:i=a+n
 ·rw [if_pos h,if_pos (by omega),h,Nat.add_sub_cancel_left]
 ·rw [if_neg h]
  by_cases h2:a≤i∧i<a+n
  ·rw [if_pos h2,if_pos (by omega)]
  ·rw [if_neg h2,if_neg (by omega)]
theorem putW_zero (f:By) (a v:Nat):putW f a 0 v=f:=by
 funext i
 unfold putW
 rw [if_neg (by omega)]
theorem getW_step (f:By) (a n:Nat):getW f a (n+1)=getW f (a+1) n*256+f a:=by
 show f a+256*getW f (a+1) n=_
 omega
def sizeB (n:Int):Bool:=decide (n=1) || (decide (n=2) || (decide (n=4) || decide (n=8)))
theorem sizeB_of {n:Int} (h:sizeB n=true):n=1∨n=2∨n=4∨n=8:=by
 simpa [sizeB] using h
def bcells (g:By) (n:Nat):List Value:=(List.range n).map fun i=>.int .u8 (g i)
theorem bcells_len (g:By) (n:Nat):(bcells g n).length=n:=by unfold bcells;simp
theorem bcells_get {g:By} {n i:Nat} (h:i<n):(bcells g n)[i]? = some (.int .u8 (g i)):=by
 unfold bcells
 simp [h]
theorem bcells_set (g:By) (n i v:Nat):(bcells g n).set i (.int .u8 v)=bcells (fun j=>if j=i then v else g j) n:=by
 apply List.ext_getElem?
 intro j;rw [List.getElem?_set]
 by_cases hj:j<n
 ·rw [bcells_get (g:=fun j=>if j=i then v else g j) hj]
  by_cases h:i=j
  ·subst h;rw [if_pos rfl,if_pos (by rw [bcells_len];exact hj),if_pos rfl]
  ·rw [if_neg h,bcells_get hj,if_neg (fun e=>h e.symm)]
 ·rw [List.getElem?_eq_none (by rw [bcells_len];omega),List.getElem?_eq_none (l:=bcells _ n) (by rw [bcells_len];omega)]
  split
  ·rw [if_neg (by rw [bcells_len];omega)]
  ·rfl
theorem bcells_congr {f g:By} {n:Nat} (h:∀i,i<n→f i=g i):bcells f n=bcells g n:=by
 unfold bcells
 apply List.map_congr_left
 intro i hi;rw [h i (List.mem_range.1 hi)]
def pgF (b:By) (f:Nat):By:=fun i=>b (4096*f+i)
theorem getW_pg (b:By) (f a n:Nat):getW (pgF b f) a n=getW b (4096*f+a) n:=by
 induction n generalizing a with
 | zero=>rfl
 | succ n ih=>
  show b (4096*f+a)+256*getW (pgF b f) (a+1) n=b (4096*f+a)+256*getW b (4096*f+a+1) n
  rw [ih]
  rfl
theorem putW_pg (b:By) (f a n v:Nat):putW (pgF b f) a n v=pgF (putW b (4096*f+a) n v) f:=by
 funext i
 unfold pgF putW
 by_cases h:a≤i∧i<a+n
 ·rw [if_pos h,if_pos (by omega),show 4096*f+i - (4096*f+a)=i - a by omega]
 ·rw [if_neg h,if_neg (by omega)]
theorem putW_pg_ne (b:By) {f a n v g:Nat} (h:g≠f) (ha:a+n≤4096):∀i,i<4096→pgF (putW b (4096*f+a) n v) g i=pgF b g i:=fun i hi=>by
 unfold pgF
 rw [putW_out]
 by_cases h1:g<f
 ·have:4096*g+4096≤4096*f:=by omega
  omega
 ·have:4096*f+4096≤4096*g:=by omega
  omega
structure Pte where
 v:Bool
 r:Bool
 w:Bool
 x:Bool
 u:Bool
 g:Bool
 a:Bool
 d:Bool
 rsw:Int
 ppn:Nat
deriving DecidableEq
def Pte.zero:Pte:=⟨false,false,false,false,false,false,false,false,0,0⟩
def Pte.cs (p:Pte):List Value:=[.bool p.v,.bool p.r,.bool p.w,.bool p.x,.bool p.u,.bool p.g,.bool p.a,.bool p.d,.int .i64 p.rsw,.int .u64 p.ppn]
def Pte.val (p:Pte):Value:=.agg #[.bool p.v,.bool p.r,.bool p.w,.bool p.x,.bool p.u,.bool p.g,.bool p.a,.bool p.d,.int .i64 p.rsw,.int .u64 p.ppn]
def Pte.Ok (p:Pte):Prop:=0≤p.rsw∧p.rsw<4∧p.ppn<2 ^ 44
def flags (p:Pte):Nat:=p.v.toNat+2*p.r.toNat+4*p.w.toNat+8*p.x.toNat+16*p.u.toNat+32*p.g.toNat+64*p.a.toNat+128*p.d.toNat
def pteW (p:Pte):Nat:=(p.ppn%17592186044416)*1024+(p.rsw%4).toNat*256+flags p
def bitB (w i:Nat):Bool:=decide (w / 2 ^ i%2=1)
def pteG (w:Nat):Pte:=⟨bitB w 0,bitB w 1,bitB w 2,bitB w 3,bitB w 4,bitB w 5,bitB w 6,bitB w 7,(w / 256%4:Nat),w%18014398509481984 / 1024⟩
def pteOkW (w:Nat):Bool:=decide (w<18014398509481984)
theorem flags_lt (p:Pte):flags p<256:=by
 unfold flags
 have:=Bool.toNat_lt p.v;have:=Bool.toNat_lt p.r;have:=Bool.toNat_lt p.w;have:=Bool.toNat_lt p.x
 have:=Bool.toNat_lt p.u;have:=Bool.toNat_lt p.g;have:=Bool.toNat_lt p.a;have:=Bool.toNat_lt p.d
 omega
theorem pteW_lt (p:Pte):pteW p<18014398509481984:=by
 unfold pteW
 have:=flags_lt p
 omega
theorem bit_of {b:Bool} {n:Nat} (h:n=b.toNat):decide (n=1)=b:=by subst h;cases b <;> rfl
theorem pteG_W {p:Pte} (h:p.Ok):pteG (pteW p)=p:=by
 obtain ⟨h1,h2,h3⟩:=h
 have hp:p.ppn%17592186044416=p.ppn:=Nat.mod_eq_of_lt h3
 have e0:=Bool.toNat_lt p.v;have e1:=Bool.toNat_lt p.r;have e2:=Bool.toNat_lt p.w;have e3:=Bool.toNat_lt p.x
 have e4:=Bool.toNat_lt p.u;have e5:=Bool.toNat_lt p.g;have e6:=Bool.toNat_lt p.a;have e7:=Bool.toNat_lt p.d
 have hf:=flags_lt p
 unfold pteG bitB pteW
 rw [hp]
 have hr:(p.rsw%4).toNat=p.rsw.toNat:=by rw [Int.emod_eq_of_lt h1 h2]
 rw [hr]
 have hr4:p.rsw.toNat<4:=by omega
 have q:∀i,i<8→(p.ppn*1024+p.rsw.toNat*256+flags p) / 2 ^ i%2=flags p / 2 ^ i%2:=by
  intro i hi;rcases (show i=0∨i=1∨i=2∨i=3∨i=4∨i=5∨i=6∨i=7 by omega) with rfl | rfl | rfl | rfl | rfl | rfl | rfl | rfl <;> simp only [Nat.reducePow] <;> omega
 rw [q 0 (by omega),q 1 (by omega),q 2 (by omega),q 3 (by omega),q 4 (by omega),q 5 (by omega),q 6 (by omega),q 7 (by omega)]
 rw [bit_of (b:=p.v) (by unfold flags;simp only [Nat.reducePow];omega),bit_of (b:=p.r) (by unfold flags;simp only [Nat.reducePow];omega),bit_of (b:=p.w) (by unfold flags;simp only [Nat.reducePow];omega),
  bit_of (b:=p.x) (by unfold flags;simp only [Nat.reducePow];omega),bit_of (b:=p.u) (by unfold flags;simp only [Nat.reducePow];omega),bit_of (b:=p.g) (by unfold flags;simp only [Nat.reducePow];omega),
  bit_of (b:=p.a) (by unfold flags;simp only [Nat.reducePow];omega),bit_of (b:=p.d) (by unfold flags;simp only [Nat.reducePow];omega)]
 have r1:(((p.ppn*1024+p.rsw.toNat*256+flags p) / 256%4:Nat):Int)=p.rsw:=by omega
 have r2:(p.ppn*1024+p.rsw.toNat*256+flags p)%18014398509481984 / 1024=p.ppn:=by omega
 rw [r1,r2]
theorem pteOk_W (p:Pte):pteOkW (pteW p)=true:=decide_eq_true (pteW_lt p)
theorem pteG_ok (w:Nat):(pteG w).Ok:=by
 unfold pteG Pte.Ok
 dsimp only
 omega
def leafB (p:Pte):Bool:=p.r || p.x
def rightP8 (p:Pte):Bool:=p.v && (p.r || !p.w)
def canonB (va:Nat):Bool:=decide (va<274877906944) || decide (18446743798831644672≤va)
def idx (va l:Nat):Nat:=va / 2 ^ (12+9*l)%512
def vpn (va:Nat):Nat:=va / 4096%134217728
def joinF (ppn va l:Nat):Nat:=ppn*4096%18446744073709551616 / 2 ^ (12+9*l)*2 ^ (12+9*l)+va%2 ^ (12+9*l)
def evenB (ppn l:Nat):Bool:=decide (ppn%2 ^ (9*l)=0)
def leadsB (p:Pte) (l:Nat):Bool:=decide (0<l) && (!p.u && (!p.a && !p.d))
structure Leaf where
 p:Pte
 level:Int
 pos:Nat
deriving DecidableEq
def Leaf.zero:Leaf:=⟨Pte.zero,0,0⟩
def Leaf.val (l:Leaf):Value:=.agg #[l.p.val,.int .i64 l.level,.int .u64 l.pos]
def entryF (b:By) (fr a:Nat):Pte×Int:=
 if fr≤a / 4096 then (Pte.zero,61)
 else if pteOkW (getW b a 8) && rightP8 (pteG (getW b a 8)) then (pteG (getW b a 8),0) else (Pte.zero,51)
def walkF (b:By) (fr:Nat) (va:Nat):Nat→Nat→Leaf×Int
 | l,tab=>
  let a:=tab*4096+8*idx va l
  let e:=entryF b fr a
  if e.2≠0 then (Leaf.zero,e.2)
  else if leafB e.1 && evenB e.1.ppn l then (⟨e.1,l,a⟩,0)
  else if leafB e.1 || !leadsB e.1 l then (Leaf.zero,51)
  else match l with
   | 0=>(Leaf.zero,51)
   | l+1=>walkF b fr va l e.1.ppn
def findF (b:By) (fr:Nat) (root:Nat) (va:Nat):Leaf×Int:=if canonB va then walkF b fr va 2 root else (Leaf.zero,51)
structure Way where
 full:Bool
 asid:Int
 page:Nat
 leaf:Leaf
deriving DecidableEq
def Way.zero:Way:=⟨false,0,0,Leaf.zero⟩
def pageOf (va:Nat) (l:Int):Nat:=vpn va / 2 ^ (9*l.toNat)
def Way.has (w:Way) (va:Nat):Bool:=w.full && decide (w.page=pageOf va w.leaf.level)
def Way.matches (w:Way) (va:Nat) (asid:Int):Bool:=w.has va && (decide (w.asid=asid) || w.leaf.p.g)
abbrev Tlb:=List (List Way)
def tlbSet (b:Tlb) (page:Nat):List Way:=b.getD (page%b.length) []
def waysFind (s:List Way) (va:Nat) (asid:Int) (l:Int):Option Leaf:=(s.find? fun w=>decide (w.leaf.level=l) && w.matches va asid).map (·.leaf)
def tlbFind (b:Tlb) (va:Nat) (asid:Int):Option Leaf:=
 match waysFind (tlbSet b (pageOf va 0)) va asid 0 with
 | some l=>some l
 | none=>match waysFind (tlbSet b (pageOf va 1)) va asid 1 with
  | some l=>some l
  | none=>waysFind (tlbSet b (pageOf va 2)) va asid 2
def Way.same (w n:Way):Bool:=w.full && (decide (w.leaf.level=n.leaf.level) && (decide (w.page=n.page) && decide (w.asid=n.asid)))
def pickOf (pick:Int):Nat:=if pick<0 then (-pick - 1).toNat else pick.toNat
def victimF (s:List Way) (n:Way) (pick:Int):Nat:=
 match s.findIdx? (fun w=>w.same n) with
 | some i=>i
 | none=>match s.findIdx? (fun w=>!w.full) with
  | some i=>i
  | none=>pickOf pick%s.length
def newWay (va:Nat) (asid:Int) (l:Leaf):Way:=⟨true,asid,pageOf va l.level,l⟩
def tlbFill (b:Tlb) (va:Nat) (asid:Int) (l:Leaf) (pick:Int):Tlb:=
 List.set b (pageOf va l.level%b.length) ((tlbSet b (pageOf va l.level)).set (victimF (tlbSet b (pageOf va l.level)) (newWay va asid l) pick) (newWay va asid l))
def Way.goes (w:Way) (va:Nat):Bool:=w.has va
def tlbFence (b:Tlb) (va:Nat):Tlb:=b.map fun s=>s.map fun w=>if w.goes va then Way.zero else w
def tlbNew (sets ways:Nat):Tlb:=List.replicate sets (List.replicate ways Way.zero)
structure Mode where
 user:Bool
 sum:Bool
 mxr:Bool
def allowsB (p:Pte) (a:Int) (mxr:Bool):Bool:=if a=0 then p.x else if a=1 then p.r || (mxr && p.x) else if a=2 then p.w && p.d else false
def checkB (p:Pte) (a:Int) (m:Mode):Bool:=
 if !rightP8 p || !leafB p || !p.a then false
 else if m.user && !p.u then false
 else if !m.user && p.u && (decide (a=0) || !m.sum) then false
 else allowsB p a m.mxr
def pageC (a:Int):Int:=if a=0 then 12 else if a=1 then 13 else if a=2 then 15 else -1
def boundC (a:Int):Int:=if a=0 then 1 else if a=1 then 5 else if a=2 then 7 else -1
def alignC (a:Int):Int:=if a=0 then 0 else if a=1 then 4 else if a=2 then 6 else -1
structure Satp where
 on:Bool
 asid:Int
 ppn:Nat
structure Mu where
 b:By
 fr:Nat
 tlb:Tlb
 satp:Satp
 mode:Mode
def findS (u:Mu) (va:Nat):Leaf×Int:=if u.satp.on then findF u.b u.fr u.satp.ppn va else (Leaf.zero,2)
def leafF (u:Mu) (va:Nat) (a pick:Int):(Leaf×Int)×Tlb:=
 match tlbFind u.tlb va u.satp.asid with
 | some l=>((l,-1),u.tlb)
 | none=>
  let r:=findS u va
  if r.2=0 then ((r.1,-1),tlbFill u.tlb va u.satp.asid r.1 pick)
  else if r.2=61 then ((r.1,boundC a),u.tlb)
  else ((r.1,pageC a),u.tlb)
def alignedB (at':Nat) (size:Int):Bool:=sizeB size && decide (at'%size.toNat=0)
def placeF (u:Mu) (va:Nat) (size a pick:Int):(Nat×Int)×Tlb:=
 if !alignedB va size then ((0,alignC a),u.tlb)
 else
  let r:=leafF u va a pick
  if r.1.2≠-1 then ((0,r.1.2),r.2)
  else if !checkB r.1.1.p a u.mode then ((0,pageC a),r.2)
  else
   let at':=joinF r.1.1.p.ppn va r.1.1.level.toNat
   if u.fr≤at' / 4096 then ((0,boundC a),r.2) else ((at',-1),r.2)
def readF (u:Mu) (va:Nat) (size a pick:Int):(Nat×Int)×Mu:=
 let r:=placeF u va size a pick
 if r.1.2≠-1 then ((0,r.1.2),{ u with tlb:=r.2}) else ((getW u.b r.1.1 size.toNat,-1),{ u with tlb:=r.2})
def storeF (u:Mu) (va:Nat) (size:Int) (v:Nat) (pick:Int):Int×Mu:=
 let r:=placeF u va size 2 pick
 if r.1.2≠-1 then (r.1.2,{ u with tlb:=r.2}) else (-1,{ u with tlb:=r.2,b:=putW u.b r.1.1 size.toNat v})
def swapF (u:Mu) (va:Nat) (size:Int) (turn:Nat→Nat) (pick:Int):(Nat×Int)×Mu:=
 let r:=placeF u va size 2 pick
 if r.1.2≠-1 then ((0,r.1.2),{ u with tlb:=r.2}) else ((getW u.b r.1.1 size.toNat,-1),{ u with tlb:=r.2,b:=putW u.b r.1.1 size.toNat (turn (getW u.b r.1.1 size.toNat))})
def uof (n:Int):Nat:=(n%18446744073709551616).toNat
def sof (v:Nat):Int:=if v<9223372036854775808 then v else (v:Int) - 18446744073709551616
def cutF (v:Nat) (size:Int):Nat:=if sizeB size then v%256 ^ size.toNat else v
def signW (v:Nat) (size:Int):Nat:=
 if sizeB size && !decide (size=8) then
  (if v%256 ^ size.toNat<256 ^ size.toNat / 2 then v%256 ^ size.toNat else v%256 ^ size.toNat+(18446744073709551616 - 256 ^ size.toNat))
 else v
def instOf (w:Nat):In:=⟨(w%256:Nat),(w / 256%16:Nat),(w / 4096%16:Nat),(w / 65536%16:Nat),if w / 1048576<2048 then (w / 1048576:Nat) else (w / 1048576:Nat) - 4096⟩
def instG (w:Nat):Option In:=if rightB (instOf w) then some (instOf w) else none
def instW (i:In):Nat:=i.op.toNat+i.rd.toNat*256+i.rs.toNat*4096+i.rt.toNat*65536+(i.im%4096).toNat*1048576
def sizeI (o:Int):Int:=
 if o=19∨o=23∨o=26 then 1
 else if o=20∨o=24∨o=27 then 2
 else if o=21∨o=25∨o=28∨o=30∨o=32 then 4
 else if o=22∨o=29∨o=31∨o=33 then 8
 else 0
def signedI (o:Int):Bool:=(decide (19≤o) && decide (o≤22)) || (decide (30≤o) && decide (o≤33))
structure Cx where
 add:Nat→Nat→Nat
 sub:Nat→Nat→Nat
 mul:Nat→Nat→Nat
 conj:Nat→Nat
 norm:Nat→Nat
def reckonF (X:Cx) (i:In) (a b:Nat):Nat:=
 if i.op=1 then uof i.im
 else if i.op=2 then (a+uof i.im)%18446744073709551616
 else if i.op=3 then a*2 ^ (uof i.im%64)%18446744073709551616
 else if i.op=4 then (a+b)%18446744073709551616
 else if i.op=5 then (a+(18446744073709551616 - b))%18446744073709551616
 else if i.op=6 then a &&& b
 else if i.op=7 then a ||| b
 else if i.op=8 then a ^^^ b
 else if i.op=9 then (if sof a<sof b then 1 else 0)
 else if i.op=10 then X.add a b
 else if i.op=11 then X.sub a b
 else if i.op=12 then X.mul a b
 else if i.op=13 then X.conj a
 else if i.op=14 then X.norm a
 else 0
def takenB (o:Int) (a b:Nat):Bool:=if o=15 then decide (a=b) else if o=16 then decide (a≠b) else if o=17 then decide (sof a<sof b) else decide (o=18)
def toldF (o:Int) (v:Nat):Nat:=if signedI o then signW v (sizeI o) else v
structure Trp where
 cause:Int
 pc:Nat
 addr:Nat
deriving DecidableEq
structure Cor where
 r:Nat→Nat
 pc:Nat
 run:Int
 trap:Trp
structure DidP where
 done:Bool
 inst:In
 pc:Nat
 cause:Int
 access:Int
 addr:Nat
 size:Int
 old:Nat
 new:Nat
deriving DecidableEq
def Cor.set (c:Cor) (n:Int) (v:Nat):Cor:=if 0≤n∧n<16∧n≠0 then { c with r:=fun k=>if (k:Int)=n then v else c.r k} else c
def DidP.no (pc:Nat) (cause:Int):DidP:=⟨false,⟨0,0,0,0,0⟩,pc,cause,0,0,0,0,0⟩
def turnF (o:Int) (b old:Nat):Nat:=if o=32∨o=33 then (old+b)%18446744073709551616 else b
def overF (c:Cor) (u:Mu) (i:In) (pick:Int):DidP×Cor×Mu:=
 let a:=c.r i.rs.toNat
 let b:=c.r i.rt.toNat
 let addr:=(a+uof i.im)%18446744073709551616
 let size:=sizeI i.op
 if kd i.op = .L then
  let r:=readF u addr size 1 pick
  if r.1.2≠-1 then (⟨false,i,c.pc,r.1.2,1,addr,size,0,0⟩,c,r.2)
  else (⟨true,i,c.pc,-1,1,addr,size,r.1.1,0⟩,{ (c.set i.rd (toldF i.op r.1.1)) with pc:=(c.pc+4)%18446744073709551616},r.2)
 else if kd i.op = .S then
  let r:=storeF u addr size b pick
  if r.1≠-1 then (⟨false,i,c.pc,r.1,2,addr,size,0,0⟩,c,r.2)
  else (⟨true,i,c.pc,-1,2,addr,size,0,cutF b size⟩,{ c with pc:=(c.pc+4)%18446744073709551616},r.2)
 else
  let r:=swapF u addr size (turnF i.op b) pick
  if r.1.2≠-1 then (⟨false,i,c.pc,r.1.2,2,addr,size,0,0⟩,c,r.2)
  else (⟨true,i,c.pc,-1,2,addr,size,r.1.1,cutF (turnF i.op b r.1.1) size⟩,{ (c.set i.rd (toldF i.op r.1.1)) with pc:=(c.pc+4)%18446744073709551616},r.2)
def jumpF (c:Cor) (i:In):Cor:=
 let dst:=if takenB i.op (c.r i.rs.toNat) (c.r i.rt.toNat) then (c.pc+uof i.im*4)%18446744073709551616 else (c.pc+4)%18446744073709551616
 let c1:Cor:={ c with pc:=dst}
 if i.op=18 then c1.set i.rd ((c.pc+4)%18446744073709551616) else c1
def doF (X:Cx) (c:Cor) (u:Mu) (i:In) (pick:Int):DidP×Cor×Mu:=
 let d:DidP:=⟨true,i,c.pc,-1,0,0,0,0,0⟩
 if kd i.op = .L∨kd i.op = .S∨kd i.op = .A then overF c u i pick
 else if kd i.op = .B∨kd i.op = .J then (d,jumpF c i,u)
 else if kd i.op = .N∧i.op=0 then (d,{ c with run:=1},u)
 else if kd i.op = .N then (d,{ c with pc:=(c.pc+4)%18446744073709551616},u)
 else (d,{ (c.set i.rd (reckonF X i (c.r i.rs.toNat) (c.r i.rt.toNat))) with pc:=(c.pc+4)%18446744073709551616},u)
def tryF (X:Cx) (c:Cor) (u:Mu) (pick:Int):DidP×Cor×Mu:=
 if c.run≠0 then (DidP.no 0 2,c,u)
 else
  let r:=readF u c.pc 4 0 pick
  if r.1.2≠-1 then ({ DidP.no c.pc r.1.2 with addr:=c.pc},c,r.2)
  else match instG r.1.1 with
   | none=>(DidP.no c.pc 2,c,r.2)
   | some i=>doF X c r.2 i pick
structure Stk where
 first:Nat
 next:Nat
 fin:Nat
 taken:List Nat
def addN:List Nat→Nat→List Nat
 | [],n=>[n]
 | x :: l,n=>if x=n then n :: l else x :: addN l n
def Stk.take (s:Stk):Option (Nat×Stk):=if s.next<s.fin then some (s.next,{ s with next:=s.next+1,taken:=addN s.taken s.next}) else none
structure Stk.Ok (s:Stk) (fr:Nat):Prop where
 next:s.next≤s.fin
 fin:s.fin≤fr
theorem Stk.take_some {s s':Stk} {f:Nat} (ht:s.take=some (f,s')):s.next<s.fin∧f=s.next∧s' = { s with next:=s.next+1,taken:=addN s.taken s.next}:=by
 unfold Stk.take at ht
 split at ht
 ·rename_i hlt
  cases ht
  exact ⟨hlt,rfl,rfl⟩
 ·cases ht
theorem Stk.take_none {s:Stk} (ht:s.take=none):s.fin≤s.next:=by
 unfold Stk.take at ht
 split at ht
 ·cases ht
 ·omega
def zeroPg (b:By) (f:Nat):By:=fun a=>if a / 4096=f then 0 else b a
def layPg (b:By) (f:Nat) (d:Nat→Nat):By:=fun a=>if a / 4096=f then d (a%4096) else b a
structure Tst where
 b:By
 s:Stk
 used:Nat
def tabTake (t:Tst):(Nat×Int)×Tst:=
 match t.s.take with
 | none=>((0,50),t)
 | some (f,s')=>((f,0),⟨zeroPg t.b f,s',t.used+1⟩)
def ptrP (f:Nat):Pte:=⟨true,false,false,false,false,false,false,false,0,f⟩
def leadF (t:Tst) (place:Nat):(Nat×Int)×Tst:=
 if getW t.b place 8≠0 then (if leafB (pteG (getW t.b place 8)) then ((0,130),t) else (((pteG (getW t.b place 8)).ppn,0),t))
 else
  let r:=tabTake t
  if r.1.2≠0 then ((0,r.1.2),r.2) else ((r.1.1,0),{ r.2 with b:=putW r.2.b place 8 (pteW (ptrP r.1.1))})
def mayL (p:Pte) (l:Nat):Bool:=decide (pteG (pteW p)=p) && (rightP8 p && (leafB p && evenB p.ppn l))
def mayB (p:Pte):Bool:=mayL p 0
def mapF (root:Nat) (t:Tst) (va:Nat) (p:Pte):Int×Tst:=
 if !canonB va || !mayB p then (2,t)
 else
  let r:=leadF t (root*4096+8*idx va 2)
  if r.1.2≠0 then (r.1.2,r.2)
  else
   let q:=leadF r.2 (r.1.1*4096+8*idx va 1)
   if q.1.2≠0 then (q.1.2,q.2)
   else if getW q.2.b (q.1.1*4096+8*idx va 0) 8≠0 then (130,q.2)
   else (0,{ q.2 with b:=putW q.2.b (q.1.1*4096+8*idx va 0) 8 (pteW p)})
def changeF (fr root:Nat) (b:By) (va:Nat) (p:Pte):Int×By:=
 let l:=findF b fr root va
 if l.2≠0 then (l.2,b) else if !mayL p l.1.level.toNat then (2,b) else (0,putW b l.1.pos 8 (pteW p))
def unmapF (fr root:Nat) (b:By) (va:Nat):By:=
 let l:=findF b fr root va
 if l.2≠0 then b else putW b l.1.pos 8 0
structure Shp where
 code:Int
 priv:Int
 shared:Int
deriving DecidableEq
def Shp.ok (s:Shp):Bool:=decide (1≤s.code) && (decide (s.code≤16) && (decide (0≤s.priv) && (decide (s.priv≤16) && (decide (0≤s.shared) && decide (s.shared≤65536)))))
def codeP (f:Nat):Pte:=⟨true,true,false,true,true,false,true,false,0,f⟩
def ownP (f:Nat):Pte:=⟨true,true,true,false,true,false,true,true,0,f⟩
def readP (f:Nat):Pte:=⟨true,true,false,false,true,false,true,false,0,f⟩
def layF (root:Nat) (base:Nat) (e:Nat→Pte):Nat→Nat→Tst→List Nat→(List Nat×Int)×Tst
 | 0,_,t,out=>((out,0),t)
 | n+1,i,t,out=>
  match t.s.take with
  | none=>(([],50),t)
  | some (f,s')=>
   let r:=mapF root { t with s:=s'} (base+i*4096) (e f)
   if r.1≠0 then (([],r.1),r.2) else layF root base e n (i+1) r.2 (out ++ [f])
structure Spc where
 shape:Shp
 u:Mu
 stk:Stk
 root:Nat
 used:Nat
 code:List Nat
 own:List Nat
 shared:List (Int×Nat)
 rights:List (Int×Int)
def Spc.tst (s:Spc):Tst:=⟨s.u.b,s.stk,s.used⟩
def Spc.withT (s:Spc) (t:Tst):Spc:={ s with u:={ s.u with b:=t.b},stk:=t.s,used:=t.used}
def rightOf (s:Spc) (p:Int):Int:=((s.rights.find? fun x=>x.1 == p).map (·.2)).getD 0
def frameOf (s:Spc) (p:Int):Option Nat:=(s.shared.find? fun x=>x.1 == p).map (·.2)
def vaOf (p:Int):Nat:=1073741824+p.toNat*4096
def putI {α:Type} : List (Int×α)→Int→α→List (Int×α)
 | [],k,v=>[(k,v)]
 | p :: m,k,v=>if p.1=k then (k,v) :: m else p :: putI m k v
def frameF (s:Spc) (p:Int):(Nat×Int)×Spc:=
 match frameOf s p with
 | some f=>((f,0),s)
 | none=>match s.stk.take with
  | none=>((0,50),s)
  | some (f,s')=>((f,0),{ s with stk:=s',u:={ s.u with b:=zeroPg s.u.b f},shared:=putI s.shared p f})
def remapF (s:Spc) (p:Int) (f:Nat) (r:Int):Int×Spc:=
 if r=0 then (0,{ s with u:={ s.u with b:=unmapF s.u.fr s.root s.u.b (vaOf p)}})
 else if rightOf s p=0 then
  let q:=mapF s.root s.tst (vaOf p) (if r=2 then ownP f else readP f)
  (q.1,s.withT q.2)
 else
  let q:=changeF s.u.fr s.root s.u.b (vaOf p) (if r=2 then ownP f else readP f)
  (q.1,{ s with u:={ s.u with b:=q.2}})
def setF (s:Spc) (p r:Int):Int×Spc:=
 if p<0∨s.shape.shared≤p then (51,s)
 else if r<0∨2<r then (2,s)
 else if r=rightOf s p then (0,s)
 else
  let q:=frameF s p
  if q.1.2≠0 then (q.1.2,q.2)
  else
   let m:=remapF q.2 p q.1.1 r
   if m.1≠0 then (m.1,m.2)
   else (0,{ m.2 with rights:=putI m.2.rights p r,u:={ m.2.u with tlb:=tlbFence m.2.u.tlb (vaOf p)}})
def codeF (s:Spc) (at':Nat):List Nat→By→By
 | [],b=>b
 | c :: r,b=>codeF s (at'+1) r (putW b (s.code.getD (at' / 4096) 0*4096+at'%4096) 1 c)
def wordO:Option Pte→Nat
 | none=>0
 | some p=>pteW p
structure TabOk (b:By) (fr root:Nat) (t1 t0:Nat→Option Nat) (lf:Nat→Option Pte):Prop where
 rt:root<fr
 e1:∀i,i<512→getW b (root*4096+8*i) 8=wordO ((t1 i).map ptrP)
 e0:∀i f,i<512→t1 i=some f→f<fr∧∀j,j<512→getW b (f*4096+8*j) 8=wordO ((t0 (512*i+j)).map ptrP)
 el:∀q f,q<262144→t0 q=some f→f<fr∧(t1 (q / 512)).isSome=true∧∀k,k<512→getW b (f*4096+8*k) 8=wordO (lf (512*q+k))
 lk:∀v p,v<134217728→lf v=some p→(t0 (v / 512)).isSome=true∧p.Ok∧rightP8 p=true∧leafB p=true
theorem idx2 (va:Nat):idx va 2=vpn va / 262144:=by unfold idx vpn;simp only [Nat.reducePow,Nat.reduceMul,Nat.reduceAdd];omega
theorem idx1 (va:Nat):idx va 1=vpn va / 512%512:=by unfold idx vpn;simp only [Nat.reducePow,Nat.reduceMul,Nat.reduceAdd];omega
theorem idx0 (va:Nat):idx va 0=vpn va%512:=by unfold idx vpn;simp only [Nat.reducePow,Nat.reduceMul,Nat.reduceAdd];omega
theorem vpn_lt (va:Nat):vpn va<134217728:=Nat.mod_lt _ (by omega)
theorem ptr_ok {f:Nat} (h:f<2 ^ 44):(ptrP f).Ok:=⟨by show (0:Int)≤0;omega,by show (0:Int)<4;omega,h⟩
theorem entry_at {b:By} {fr a:Nat} {p:Pte} (ha:a / 4096<fr) (hw:getW b a 8=pteW p) (hp:p.Ok) (hr:rightP8 p=true):entryF b fr a=(p,0):=by
 unfold entryF
 rw [if_neg (by omega),hw,pteG_W hp,pteOk_W,hr]
 rfl
theorem entry_no {b:By} {fr a:Nat} (ha:a / 4096<fr) (hw:getW b a 8=0):entryF b fr a=(Pte.zero,51):=by
 unfold entryF
 rw [if_neg (by omega),hw]
 rfl
theorem pos_div {f i:Nat} (h:i<512):(f*4096+8*i) / 4096=f:=by omega
def leafPos (t0:Nat→Option Nat) (v:Nat):Nat:=(t0 (v / 512)).getD 0*4096+8*(v%512)
theorem find_tab {b:By} {fr root:Nat} {t1 t0:Nat→Option Nat} {lf:Nat→Option Pte} (h:TabOk b fr root t1 t0 lf) (hf:fr≤1048576) {va:Nat} (hc:canonB va=true) :
  findF b fr root va=match lf (vpn va) with
   | some p=>(⟨p,0,leafPos t0 (vpn va)⟩,0)
   | none=>(Leaf.zero,51):=by
 have hv:=vpn_lt va
 obtain ⟨v,hvv⟩:∃v,vpn va=v:=⟨_,rfl⟩
 have i2:=idx2 va
 have i1:=idx1 va
 have i0:=idx0 va
 rw [hvv] at hv i2 i1 i0 ⊢
 have nolf:(t0 (v / 512))=none→lf v=none:=fun hn=>by
  cases hl:lf v with
  | none=>rfl
  | some p=>have:=(h.lk v p hv hl).1;rw [hn] at this;cases this
 have q2:v / 262144<512:=by omega
 have q1:v / 512%512<512:=by omega
 have q0:v%512<512:=by omega
 have hr:=h.rt
 unfold findF
 rw [if_pos hc]
 unfold walkF
 simp only [i2]
 have e1:=h.e1 (v / 262144) q2
 cases ht1:t1 (v / 262144) with
 | none=>
  rw [ht1] at e1
  rw [entry_no (by rw [pos_div q2];exact hr) e1]
  have:t0 (v / 512)=none:=by
   cases ht0:t0 (v / 512) with
   | none=>rfl
   | some f=>
    have:=(h.el (v / 512) f (by omega) ht0).2.1
    rw [show v / 512 / 512=v / 262144 by omega,ht1] at this
    cases this
  rw [nolf this]
  rfl
 | some f1=>
  rw [ht1] at e1
  obtain ⟨hf1,e0⟩:=h.e0 _ f1 q2 ht1
  rw [entry_at (p:=ptrP f1) (by rw [pos_div q2];exact hr) e1 (ptr_ok (by omega)) rfl]
  have w1:((ptrP f1).ppn)=f1:=rfl
  simp only [show leafB (ptrP f1)=false from rfl,show leadsB (ptrP f1) 2=true from rfl,w1]
  simp only [ne_eq,not_true_eq_false,if_false,Bool.false_and,Bool.not_true,Bool.or_self,Bool.false_eq_true]
  unfold walkF
  simp only [i1]
  have e0':=e0 (v / 512%512) q1
  rw [show 512*(v / 262144)+v / 512%512=v / 512 by omega] at e0'
  cases ht0:t0 (v / 512) with
  | none=>
   rw [ht0] at e0'
   rw [entry_no (by rw [pos_div q1];exact hf1) e0',nolf ht0]
   rfl
  | some f0=>
   rw [ht0] at e0'
   obtain ⟨hf0,-,el⟩:=h.el _ f0 (by omega) ht0
   rw [entry_at (p:=ptrP f0) (by rw [pos_div q1];exact hf1) e0' (ptr_ok (by omega)) rfl]
   have w0:((ptrP f0).ppn)=f0:=rfl
   simp only [show leafB (ptrP f0)=false from rfl,show leadsB (ptrP f0) 1=true from rfl,w0]
   simp only [ne_eq,not_true_eq_false,if_false,Bool.false_and,Bool.not_true,Bool.or_self,Bool.false_eq_true]
   unfold walkF
   simp only [i0]
   have el':=el (v%512) q0
   rw [show 512*(v / 512)+v%512=v by omega] at el'
   cases hl:lf v with
   | none=>
    rw [hl] at el'
    rw [entry_no (by rw [pos_div q0];exact hf0) el']
    rfl
   | some p=>
    rw [hl] at el'
    obtain ⟨-,hp,hr8,hlf⟩:=h.lk v p hv hl
    rw [entry_at (p:=p) (by rw [pos_div q0];exact hf0) el' hp hr8]
    have hev:evenB p.ppn 0=true:=decide_eq_true (by simp [Nat.mod_one])
    simp only [hlf,hev]
    simp only [leafPos,ht0,Option.getD_some,ne_eq,not_true_eq_false,if_false,Bool.and_self,if_true]
    rfl
def IsTab (root:Nat) (t1 t0:Nat→Option Nat) (f:Nat):Prop:=f=root∨(∃i,i<512∧t1 i=some f)∨∃q,q<262144∧t0 q=some f
theorem TabOk.other {b b':By} {fr root:Nat} {t1 t0:Nat→Option Nat} {lf:Nat→Option Pte} (h:TabOk b fr root t1 t0 lf) (hb:∀a,IsTab root t1 t0 (a / 4096)→b' a=b a):TabOk b' fr root t1 t0 lf:=by
 have key:∀f i,IsTab root t1 t0 f→i<512→getW b' (f*4096+8*i) 8=getW b (f*4096+8*i) 8:=fun f i hf hi=>
  getW_congr 8 _ fun a h1 h2=>hb a (by rw [show a / 4096=f by omega];exact hf)
 refine ⟨h.rt,fun i hi=>?_,fun i f hi hf=>?_,fun q f hq hf=>?_,h.lk⟩
 ·rw [key root i (.inl rfl) hi];exact h.e1 i hi
 ·obtain ⟨h1,h2⟩:=h.e0 i f hi hf
  exact ⟨h1,fun j hj=>by rw [key f j (.inr (.inl ⟨i,hi,hf⟩)) hj];exact h2 j hj⟩
 ·obtain ⟨h1,h2,h3⟩:=h.el q f hq hf
  exact ⟨h1,h2,fun k hk=>by rw [key f k (.inr (.inr ⟨q,hq,hf⟩)) hk];exact h3 k hk⟩
end Go.Proofs.YtjhnnjgnkkjmkaaGreatDoor
