/- Tables with their stock of frames: what mapping a page does to them. Plain, no program. No condition. Pages mapped one behind the other; what a unit answers by its tables. Plain, no program. No condition. Spaces: what holds of every space that was made and whose pages' rights were set. Plain, no program. No condition. Spaces: a page's right is set; what stays. Plain, no program. No condition. -/
import Derived.Test.YtjhnnjgnkkjmkaaGreatDoorGe
import Derived.Test.YtjhnnjgnkkjmkaaGreatDoorGk
import Derived.Test.YtjhnnjgnkkjmkaaGreatDoorGv
import Derived.Test.YtjhnnjgnkkjmkaaGreatDoorGz
set_option linter.unusedVariables false
set_option linter.unusedSimpArgs false
namespace Go.Proofs.YtjhnnjgnkkjmkaaGreatDoor
open Go.RowKit Go.RR
theorem getW_zeros {b:By} {a n:Nat} (h:∀i,i<n→b (a+i)=0):getW b a n=0:=by
 rw [getW_bytes 0 n a b fun i hi=>by rw [h i hi,Nat.zero_div]]
 exact Nat.zero_mod _
theorem pteW_ptr_ne (f:Nat):pteW (ptrP f)≠0:=by
 unfold pteW
 have:flags (ptrP f)=1:=rfl
 omega
def setO {α:Type} (g:Nat→Option α) (k:Nat) (v:α):Nat→Option α:=fun j=>if j=k then some v else g j
theorem setO_same {α:Type} {g:Nat→Option α} {k:Nat} {v:α} (h:g k=some v):setO g k v=g:=by
 funext j
 unfold setO
 split
 ·rename_i e;rw [e,h]
 ·rfl
theorem setO_at {α:Type} (g:Nat→Option α) (k:Nat) (v:α):setO g k v k=some v:=if_pos rfl
theorem setO_ne {α:Type} (g:Nat→Option α) {k j:Nat} (v:α) (h:j≠k):setO g k v j=g j:=if_neg h
structure TInv (fr root:Nat) (t:Tst) (t1 t0:Nat→Option Nat) (lf:Nat→Option Pte):Prop where
 tab:TabOk t.b fr root t1 t0 lf
 nx:t.s.next≤t.s.fin
 fin:t.s.fin≤fr
 lo:∀f,IsTab root t1 t0 f→f<t.s.next
 i1:∀i j f,i<512→j<512→t1 i=some f→t1 j=some f→i=j
 i0:∀i j f,i<262144→j<262144→t0 i=some f→t0 j=some f→i=j
 d:∀i j f,i<512→j<262144→t1 i=some f→t0 j≠some f
 r1:∀i,i<512→t1 i≠some root
 r0:∀i,i<262144→t0 i≠some root
def leadB (b:By) (g i f:Nat):By:=putW (zeroPg b f) (g*4096+8*i) 8 (pteW (ptrP f))
theorem leadB_new (b:By) {g i f:Nat} (hi:i<512) (hg:g≠f) {k:Nat} (hk:k<512):getW (leadB b g i f) (f*4096+8*k) 8=0:=by
 unfold leadB
 rw [getW_put_ne _ (by omega)]
 exact getW_zeros fun j hj=>if_pos (by omega)
theorem leadB_at (b:By) (g i f:Nat):getW (leadB b g i f) (g*4096+8*i) 8=pteW (ptrP f):=by
 unfold leadB
 rw [getW_put]
 exact Nat.mod_eq_of_lt (Nat.lt_trans (pteW_lt _) (by decide))
theorem leadB_old (b:By) {g i f h j:Nat} (hi:i<512) (hj:j<512) (hf:h≠f) (hg:h≠g∨j≠i):getW (leadB b g i f) (h*4096+8*j) 8=getW b (h*4096+8*j) 8:=by
 unfold leadB
 rw [getW_put_ne _ (by omega)]
 exact getW_congr 8 _ fun a h1 h2=>if_neg (by omega)
theorem leadB_off (b:By) {g i f a:Nat} (hi:i<512) (h1:a / 4096≠g) (h2:a / 4096≠f):leadB b g i f a=b a:=by
 unfold leadB
 rw [putW_out (by omega)]
 exact if_neg h2
theorem take_room {s:Stk} (h:s.next<s.fin):s.take=some (s.next,{ s with next:=s.next+1,taken:=addN s.taken s.next}):=if_pos h
theorem lead_some {t:Tst} {place f:Nat} (h:getW t.b place 8=pteW (ptrP f)) (hf:f<2 ^ 44):leadF t place=((f,0),t):=by
 unfold leadF
 rw [if_pos (by rw [h];exact pteW_ptr_ne f),h,pteG_W (ptr_ok hf)]
 rfl
theorem lead_none {t:Tst} {place:Nat} (h:getW t.b place 8=0) (hr:t.s.next<t.s.fin):leadF t place=((t.s.next,0),⟨putW (zeroPg t.b t.s.next) place 8 (pteW (ptrP t.s.next)),{ t.s with next:=t.s.next+1,taken:=addN t.s.taken t.s.next},t.used+1⟩):=by
 unfold leadF
 rw [if_neg (by rw [h];simp)]
 unfold tabTake
 rw [take_room hr]
 rfl
structure Led (t t':Tst) (f:Nat) (isT isT':Nat→Prop):Prop where
 fin:t'.s.fin=t.s.fin
 nx:t.s.next≤t'.s.next
 off:∀a,¬isT (a / 4096)→a / 4096<t.s.next→t'.b a=t.b a
 tab:∀f,isT' f→isT f∨t.s.next≤f
 sub:∀f,isT f→isT' f
theorem lead_one {fr root:Nat} {t:Tst} {t1 t0:Nat→Option Nat} {lf:Nat→Option Pte} (h:TInv fr root t t1 t0 lf) (hf:fr≤1048576) {i:Nat} (hi:i<512) (hr:t1 i=none→t.s.next<t.s.fin) :
  ∃f t',leadF t (root*4096+8*i)=((f,0),t')∧f<fr∧TInv fr root t' (setO t1 i f) t0 lf∧t'.s.next=(t.s.next+if (t1 i).isNone then 1 else 0)∧Led t t' f (IsTab root t1 t0) (IsTab root (setO t1 i f) t0):=by
 have e1:=h.tab.e1 i hi
 cases ht:t1 i with
 | some f=>
  rw [ht] at e1
  have hff:=(h.tab.e0 i f hi ht).1
  refine ⟨f,t,lead_some e1 (by omega),hff,?_,rfl,?_⟩
  ·rw [setO_same ht];exact h
  ·rw [setO_same ht];exact ⟨rfl,Nat.le_refl _,fun _ _ _=>rfl,fun _ e=>.inl e,fun _ e=>e⟩
 | none=>
  rw [ht] at e1
  have hlt:=hr ht
  have hfin:=h.fin
  have hroot:=h.lo root (.inl rfl)
  have hlo:=h.lo
  refine ⟨_,_,lead_none e1 hlt,by omega,?_,rfl,?_⟩
  ·have hT:=h.tab
   have not0:∀j,j<512→t0 (512*i+j)=none:=fun j hj=>by
    cases e:t0 (512*i+j) with
    | none=>rfl
    | some g=>
     have:=(hT.el (512*i+j) g (by omega) e).2.1
     rw [show (512*i+j) / 512=i by omega,ht] at this
     cases this
   have lo1:∀j g,j<512→t1 j=some g→g<t.s.next:=fun j g hj e=>hlo g (.inr (.inl ⟨j,hj,e⟩))
   have lo0:∀j g,j<262144→t0 j=some g→g<t.s.next:=fun j g hj e=>hlo g (.inr (.inr ⟨j,hj,e⟩))
   refine ⟨⟨hT.rt,fun j hj=>?_,fun j g hj e=>?_,fun q g hq e=>?_,hT.lk⟩,?_,?_,?_,?_,h.i0,?_,?_,h.r0⟩
   ·show getW (leadB t.b root i t.s.next) _ 8=_
    by_cases hji:j=i
    ·subst hji;rw [leadB_at,setO_at];rfl
    ·rw [leadB_old t.b hi hj (by omega) (.inr hji),setO_ne _ _ hji]
     exact hT.e1 j hj
   ·by_cases hji:j=i
    ·subst hji;rw [setO_at] at e
     cases e
     refine ⟨by omega,fun k hk=>?_⟩
     show getW (leadB t.b root j t.s.next) _ 8=_
     rw [leadB_new t.b hi (by omega) hk,not0 k hk]
     rfl
    ·rw [setO_ne _ _ hji] at e
     obtain ⟨a1,a2⟩:=hT.e0 j g hj e
     refine ⟨a1,fun k hk=>?_⟩
     show getW (leadB t.b root i t.s.next) _ 8=_
     rw [leadB_old (g:=root) (i:=i) (h:=g) (j:=k) t.b hi hk (by have:=lo1 j g hj e;omega) (.inl fun e'=>h.r1 j hj (e'▸e))]
     exact a2 k hk
   ·obtain ⟨a1,a2,a3⟩:=hT.el q g hq e
    refine ⟨a1,?_,fun k hk=>?_⟩
    ·by_cases hji:q / 512=i
     ·rw [hji,setO_at];rfl
     ·rw [setO_ne _ _ hji];exact a2
    ·show getW (leadB t.b root i t.s.next) _ 8=_
     rw [leadB_old (g:=root) (i:=i) (h:=g) (j:=k) t.b hi hk (by have:=lo0 q g hq e;omega) (.inl fun e'=>h.r0 q hq (e'▸e))]
     exact a3 k hk
   ·show t.s.next+1≤t.s.fin;omega
   ·exact hfin
   ·intro g hg;show g<t.s.next+1
    rcases hg with rfl | ⟨j,hj,e⟩ | ⟨q,hq,e⟩
    ·omega
    ·by_cases hji:j=i
     ·subst hji;rw [setO_at] at e;cases e;omega
     ·rw [setO_ne _ _ hji] at e;have:=lo1 j g hj e;omega
    ·have:=lo0 q g hq e;omega
   ·intro j k g hj hk ej ek;by_cases hji:j=i
    ·by_cases hki:k=i
     ·omega
     ·subst hji;rw [setO_at] at ej;cases ej;rw [setO_ne _ _ hki] at ek
      have:=lo1 k _ hk ek;omega
    ·rw [setO_ne _ _ hji] at ej
     by_cases hki:k=i
     ·subst hki;rw [setO_at] at ek;cases ek;have:=lo1 j _ hj ej;omega
     ·rw [setO_ne _ _ hki] at ek
      exact h.i1 j k g hj hk ej ek
   ·intro j q g hj hq ej eq;have:=lo0 q g hq eq
    by_cases hji:j=i
    ·subst hji;rw [setO_at] at ej;cases ej;omega
    ·rw [setO_ne _ _ hji] at ej;exact h.d j q g hj hq ej eq
   ·intro j hj e;by_cases hji:j=i
    ·subst hji;rw [setO_at] at e;cases e;omega
    ·rw [setO_ne _ _ hji] at e;exact h.r1 j hj e
  ·refine ⟨rfl,Nat.le_succ _,fun a ha hn=>?_,fun g hg=>?_,fun g hg=>?_⟩
   ·exact leadB_off t.b hi (fun e=>ha (.inl e)) (by omega)
   ·rcases hg with rfl | ⟨j,hj,e⟩ | e
    ·exact .inl (.inl rfl)
    ·by_cases hji:j=i
     ·subst hji;rw [setO_at] at e;cases e;exact .inr (Nat.le_refl _)
     ·rw [setO_ne _ _ hji] at e;exact .inl (.inr (.inl ⟨j,hj,e⟩))
    ·exact .inl (.inr (.inr e))
   ·rcases hg with rfl | ⟨j,hj,e⟩ | e
    ·exact .inl rfl
    ·refine .inr (.inl ⟨j,hj,?_⟩)
     by_cases hji:j=i
     ·subst hji;rw [ht] at e;cases e
     ·rw [setO_ne _ _ hji];exact e
    ·exact .inr (.inr e)
theorem lead_two {fr root:Nat} {t:Tst} {t1 t0:Nat→Option Nat} {lf:Nat→Option Pte} (h:TInv fr root t t1 t0 lf) (hf:fr≤1048576) {i j g:Nat} (hi:i<512) (hj:j<512) (hg:t1 i=some g) (hr:t0 (512*i+j)=none→t.s.next<t.s.fin) :
  ∃f t',leadF t (g*4096+8*j)=((f,0),t')∧f<fr∧TInv fr root t' t1 (setO t0 (512*i+j) f) lf∧t'.s.next=(t.s.next+if (t0 (512*i+j)).isNone then 1 else 0)∧Led t t' f (IsTab root t1 t0) (IsTab root t1 (setO t0 (512*i+j) f)):=by
 obtain ⟨hgf,e0⟩:=h.tab.e0 i g hi hg
 have e1:=e0 j hj
 have hq:512*i+j<262144:=by omega
 have hqi:(512*i+j) / 512=i:=by omega
 have hqj:(512*i+j)%512=j:=by omega
 obtain ⟨q,hqq⟩:∃q,512*i+j=q:=⟨_,rfl⟩
 rw [hqq] at e1 hr hq hqi hqj ⊢
 cases ht:t0 q with
 | some f=>
  rw [ht] at e1
  have hff:=(h.tab.el q f hq ht).1
  refine ⟨f,t,lead_some e1 (by omega),hff,?_,rfl,?_⟩
  ·rw [setO_same ht];exact h
  ·rw [setO_same ht];exact ⟨rfl,Nat.le_refl _,fun _ _ _=>rfl,fun _ e=>.inl e,fun _ e=>e⟩
 | none=>
  rw [ht] at e1
  have hlt:=hr ht
  have hfin:=h.fin
  have hroot:=h.lo root (.inl rfl)
  have hlo:=h.lo
  have lo1:∀j g,j<512→t1 j=some g→g<t.s.next:=fun j g hj e=>hlo g (.inr (.inl ⟨j,hj,e⟩))
  have lo0:∀j g,j<262144→t0 j=some g→g<t.s.next:=fun j g hj e=>hlo g (.inr (.inr ⟨j,hj,e⟩))
  have hgn:=lo1 i g hi hg
  have hT:=h.tab
  have nolf:∀k,k<512→lf (512*q+k)=none:=fun k hk=>by
   cases e:lf (512*q+k) with
   | none=>rfl
   | some p=>
    have:=(hT.lk (512*q+k) p (by omega) e).1
    rw [show (512*q+k) / 512=q by omega,ht] at this
    cases this
  refine ⟨_,_,lead_none e1 hlt,by omega,?_,rfl,?_⟩
  ·refine ⟨⟨hT.rt,fun k hk=>?_,fun k f hk e=>?_,fun k f hk e=>?_,fun v p hv e=>?_⟩,?_,?_,?_,h.i1,?_,?_,h.r1,?_⟩
   ·show getW (leadB t.b g j t.s.next) _ 8=_
    rw [leadB_old (g:=g) (i:=j) (h:=root) (j:=k) t.b hj hk (by omega) (.inl fun e'=>h.r1 i hi (e'▸hg))]
    exact hT.e1 k hk
   ·obtain ⟨a1,a2⟩:=hT.e0 k f hk e
    refine ⟨a1,fun m hm=>?_⟩
    have hfn:=lo1 k f hk e
    show getW (leadB t.b g j t.s.next) _ 8=_
    by_cases hfg:f=g
    ·subst hfg;have hki:=h.i1 k i f hk hi e hg
     subst hki;by_cases hmj:m=j
     ·subst hmj;rw [leadB_at,hqq,setO_at];rfl
     ·rw [leadB_old t.b hj hm (by omega) (.inr hmj),setO_ne _ _ (by omega)]
      exact a2 m hm
    ·rw [leadB_old t.b hj hm (by omega) (.inl hfg),setO_ne]
     ·exact a2 m hm
     ·intro e2;have:k=i:=by omega
      subst this;rw [hg] at e
      cases e
      exact hfg rfl
   ·by_cases hkq:k=q
    ·subst hkq;rw [setO_at] at e
     cases e
     refine ⟨by omega,by rw [hqi,hg];rfl,fun m hm=>?_⟩
     show getW (leadB t.b g j t.s.next) _ 8=_
     rw [leadB_new t.b hj (by omega) hm,nolf m hm]
     rfl
    ·rw [setO_ne _ _ hkq] at e
     obtain ⟨a1,a2,a3⟩:=hT.el k f hk e
     refine ⟨a1,a2,fun m hm=>?_⟩
     show getW (leadB t.b g j t.s.next) _ 8=_
     rw [leadB_old (g:=g) (i:=j) (h:=f) (j:=m) t.b hj hm (by have:=lo0 k f hk e;omega) (.inl fun e'=>h.d i k g hi hk hg (e'▸e))]
     exact a3 m hm
   ·obtain ⟨a1,a2⟩:=hT.lk v p hv e
    refine ⟨?_,a2⟩
    by_cases hkq:v / 512=q
    ·rw [hkq,setO_at];rfl
    ·rw [setO_ne _ _ hkq];exact a1
   ·show t.s.next+1≤t.s.fin;omega
   ·exact hfin
   ·intro f hff;show f<t.s.next+1
    rcases hff with rfl | ⟨k,hk,e⟩ | ⟨k,hk,e⟩
    ·omega
    ·have:=lo1 k f hk e;omega
    ·by_cases hkq:k=q
     ·subst hkq;rw [setO_at] at e;cases e;omega
     ·rw [setO_ne _ _ hkq] at e;have:=lo0 k f hk e;omega
   ·intro k m f hk hm ek em;by_cases hkq:k=q
    ·by_cases hmq:m=q
     ·omega
     ·subst hkq;rw [setO_at] at ek;cases ek;rw [setO_ne _ _ hmq] at em
      have:=lo0 m _ hm em;omega
    ·rw [setO_ne _ _ hkq] at ek
     by_cases hmq:m=q
     ·subst hmq;rw [setO_at] at em;cases em;have:=lo0 k _ hk ek;omega
     ·rw [setO_ne _ _ hmq] at em
      exact h.i0 k m f hk hm ek em
   ·intro k m f hk hm ek em;have:=lo1 k f hk ek
    by_cases hmq:m=q
    ·subst hmq;rw [setO_at] at em;cases em;omega
    ·rw [setO_ne _ _ hmq] at em;exact h.d k m f hk hm ek em
   ·intro k hk e;by_cases hkq:k=q
    ·subst hkq;rw [setO_at] at e;cases e;omega
    ·rw [setO_ne _ _ hkq] at e;exact h.r0 k hk e
  ·refine ⟨rfl,Nat.le_succ _,fun a ha hn=>?_,fun f hff=>?_,fun f hff=>?_⟩
   ·exact leadB_off t.b hj (fun e=>ha (.inr (.inl ⟨i,hi,e▸hg⟩))) (by omega)
   ·rcases hff with rfl | e | ⟨k,hk,e⟩
    ·exact .inl (.inl rfl)
    ·exact .inl (.inr (.inl e))
    ·by_cases hkq:k=q
     ·subst hkq;rw [setO_at] at e;cases e;exact .inr (Nat.le_refl _)
     ·rw [setO_ne _ _ hkq] at e;exact .inl (.inr (.inr ⟨k,hk,e⟩))
   ·rcases hff with rfl | e | ⟨k,hk,e⟩
    ·exact .inl rfl
    ·exact .inr (.inl e)
    ·refine .inr (.inr ⟨k,hk,?_⟩)
     by_cases hkq:k=q
     ·subst hkq;rw [ht] at e;cases e
     ·rw [setO_ne _ _ hkq];exact e
theorem TInv.lay {fr root:Nat} {t:Tst} {t1 t0:Nat→Option Nat} {lf:Nat→Option Pte} (h:TInv fr root t t1 t0 lf) {q k f:Nat} (hq:q<262144) (hk:k<512) (hf:t0 q=some f) (w:Nat) (o:Option Pte) (lf':Nat→Option Pte)
  (hw:w=wordO o) (hwl:w<2 ^ 64) (h1:lf' (512*q+k)=o) (h2:∀v,v≠512*q+k→lf' v=lf v) (ho:∀p,o=some p→p.Ok∧rightP8 p=true∧leafB p=true) :
  TInv fr root { t with b:=putW t.b (f*4096+8*k) 8 w} t1 t0 lf':=by
 have hT:=h.tab
 refine ⟨⟨hT.rt,fun j hj=>?_,fun j g hj e=>?_,fun j g hj e=>?_,fun v p hv e=>?_⟩,h.nx,h.fin,h.lo,h.i1,h.i0,h.d,h.r1,h.r0⟩
 ·show getW (putW t.b _ 8 _) _ 8=_
  have:root≠f:=fun e=>h.r0 q hq (e▸hf)
  rw [getW_put_ne _ (by omega)]
  exact hT.e1 j hj
 ·obtain ⟨a1,a2⟩:=hT.e0 j g hj e
  refine ⟨a1,fun m hm=>?_⟩
  show getW (putW t.b _ 8 _) _ 8=_
  have:g≠f:=fun e'=>h.d j q f hj hq (e'▸e) hf
  rw [getW_put_ne _ (by omega)]
  exact a2 m hm
 ·obtain ⟨a1,a2,a3⟩:=hT.el j g hj e
  refine ⟨a1,a2,fun m hm=>?_⟩
  show getW (putW t.b _ 8 _) _ 8=_
  by_cases hgf:g=f
  ·subst hgf;have hjq:=h.i0 j q g hj hq e hf
   subst hjq;by_cases hmk:m=k
   ·subst hmk;rw [getW_put,h1,←hw]
    exact Nat.mod_eq_of_lt hwl
   ·rw [getW_put_ne _ (by omega),h2 _ (by omega)]
    exact a3 m hm
  ·rw [getW_put_ne _ (by omega),h2]
   ·exact a3 m hm
   ·intro e2;have:j=q:=by omega
    subst this;rw [hf] at e
    cases e
    exact hgf rfl
 ·by_cases hvk:v=512*q+k
  ·subst hvk;rw [show (512*q+k) / 512=q by omega,hf]
   exact ⟨rfl,ho p (h1▸e)⟩
  ·rw [h2 v hvk] at e
   exact hT.lk v p hv e
theorem mayB_of {p:Pte} (h:mayB p=true):p.Ok∧rightP8 p=true∧leafB p=true:=by
 unfold mayB mayL at h
 simp only [Bool.and_eq_true,decide_eq_true_eq] at h
 exact ⟨h.1▸pteG_ok _,h.2.1,h.2.2.1⟩
theorem map_tab {fr root:Nat} {t:Tst} {t1 t0:Nat→Option Nat} {lf:Nat→Option Pte} (h:TInv fr root t t1 t0 lf) (hf:fr≤1048576) {va:Nat} {p:Pte} (hc:canonB va=true) (hm:mayB p=true) (hz:lf (vpn va)=none)
  (room:t.s.next+(if (t1 (vpn va / 262144)).isNone then 1 else 0)+(if (t0 (vpn va / 512)).isNone then 1 else 0)≤t.s.fin) :
  ∃f1 f0,(mapF root t va p).1=0∧LedOk fr root t va∧TInv fr root (mapF root t va p).2 (setO t1 (vpn va / 262144) f1) (setO t0 (vpn va / 512) f0) (setO lf (vpn va) p)∧
   (mapF root t va p).2.s.next=t.s.next+(if (t1 (vpn va / 262144)).isNone then 1 else 0)+(if (t0 (vpn va / 512)).isNone then 1 else 0)∧
   Led t (mapF root t va p).2 0 (IsTab root t1 t0) (IsTab root (setO t1 (vpn va / 262144) f1) (setO t0 (vpn va / 512) f0)):=by
 have hv:=vpn_lt va
 have i2:=idx2 va
 have i1:=idx1 va
 have i0:=idx0 va
 obtain ⟨v,hvv⟩:∃v,vpn va=v:=⟨_,rfl⟩
 rw [hvv] at hv i2 i1 i0 hz room ⊢
 have hT:=h.tab
 obtain ⟨f1,ta,L1,k1,I1,n1,S1⟩:=lead_one h hf (i:=v / 262144) (by omega) (fun e=>by rw [e] at room;simp only [Option.isNone_none,if_true] at room;omega)
 have hq:512*(v / 262144)+v / 512%512=v / 512:=by omega
 have hva:v=512*(v / 512)+v%512:=by omega
 obtain ⟨f0,tb,L0,k0,I0,n0,S0⟩:=lead_two I1 hf (i:=v / 262144) (j:=v / 512%512) (g:=f1) (by omega) (by omega) (setO_at _ _ _) (fun e=>by rw [hq] at e;rw [e] at room;simp only [Option.isNone_none,if_true] at room;rw [n1,S1.fin];omega)
 rw [hq] at I0 n0 S0
 have hel:=(I0.tab.el (v / 512) f0 (by omega) (setO_at _ _ _)).2.2 (v%512) (by omega)
 rw [←hva,hz] at hel
 obtain ⟨g1,g2,g3⟩:=mayB_of hm
 have hmap:mapF root t va p=(0,{ tb with b:=putW tb.b (f0*4096+8*(v%512)) 8 (pteW p)}):=by
  unfold mapF
  rw [hc,hm,i2,i1,i0]
  simp only [Bool.not_true,Bool.or_self,Bool.false_eq_true,if_false,L1,L0,ne_eq,not_true_eq_false,hel]
  rw [if_neg (by simp [wordO])]
 rw [hmap]
 refine ⟨f1,f0,rfl,⟨hT.rt,?_,?_⟩,?_,?_,?_⟩
 ·rw [i2,L1];exact fun _=>k1
 ·rw [i2,i1,L1];dsimp only;rw [L0];exact fun _ _=>k0
 ·refine I0.lay (q:=v / 512) (k:=v%512) (by omega) (by omega) (setO_at _ _ _) _ (some p) _ rfl (Nat.lt_trans (pteW_lt p) (by decide)) ?_ (fun u hu=>setO_ne _ _ (by omega)) fun p' e=>by cases e;exact ⟨g1,g2,g3⟩
  rw [←hva]
  exact setO_at _ _ _
 ·show tb.s.next=_
  rw [n0,n1]
 ·refine ⟨S0.fin.trans S1.fin,Nat.le_trans S1.nx S0.nx,fun a ha hn=>?_,fun f hff=>?_,fun f hff=>S0.sub f (S1.sub f hff)⟩
  ·have hb:¬IsTab root (setO t1 (v / 262144) f1) t0 (a / 4096):=fun e=>(S1.tab _ e).elim ha fun e=>by omega
   have hc':¬IsTab root (setO t1 (v / 262144) f1) (setO t0 (v / 512) f0) (a / 4096):=fun e=>(S0.tab _ e).elim hb fun e=>by have:=S1.nx;omega
   show putW tb.b _ 8 _ a=_
   have:a / 4096≠f0:=fun e=>hc' (.inr (.inr ⟨v / 512,by omega,by rw [setO_at,e]⟩))
   rw [putW_out (by omega),S0.off a hb (by have:=S1.nx;omega)]
   exact S1.off a ha hn
  ·exact (S0.tab f hff).elim (S1.tab f) fun e=>.inr (by have:=S1.nx;omega)
theorem TInv.tk {fr root:Nat} {t:Tst} {t1 t0:Nat→Option Nat} {lf:Nat→Option Pte} (h:TInv fr root t t1 t0 lf) (hr:t.s.next<t.s.fin):TInv fr root t.tk t1 t0 lf:=⟨h.tab,hr,h.fin,fun f hf=>Nat.lt_succ_of_lt (h.lo f hf),h.i1,h.i0,h.d,h.r1,h.r0⟩
theorem vpn_page {v:Nat} (h:v<512):vpn (v*4096)=v∧canonB (v*4096)=true:=by
 refine ⟨by unfold vpn;omega,?_⟩
 unfold canonB
 rw [decide_eq_true (by omega)]
 rfl
def noneN {α:Type} (o:Option α):Nat:=if o.isNone then 1 else 0
theorem lay_tab (e:Nat→Pte) (he:∀f,f<1048576→mayB (e f)=true) {fr root:Nat} (hf:fr≤1048576) (v0:Nat):∀(n i:Nat) (t:Tst) (t1 t0:Nat→Option Nat) (lf:Nat→Option Pte) (out:List Nat),TInv fr root t t1 t0 lf→v0+i+n≤512→(∀k,k<n→lf (v0+i+k)=none)→
  t.s.next+n+(if n=0 then 0 else noneN (t1 0)+noneN (t0 0))≤t.s.fin→
  ∃t1' t0' lf' fs t',layF root (v0*4096) e n i t out=((out ++ fs,0),t')∧LayOk fr root (v0*4096) e n i t∧TInv fr root t' t1' t0' lf'∧fs.length=n∧(∀k,k<n→lf' (v0+i+k)=some (e (fs.getD k 0)))∧(∀v,v<v0+i∨v0+i+n≤v→lf' v=lf v)∧
   (∀f∈fs,t.s.next≤f∧f<t'.s.next∧¬IsTab root t1' t0' f)∧fs.Pairwise (· < ·)∧t'.s.next=t.s.next+n+(if n=0 then 0 else noneN (t1 0)+noneN (t0 0))∧t'.s.fin=t.s.fin∧
   (∀j,j≠0→t1' j=t1 j∧t0' j=t0 j)∧(n≠0→(t1' 0).isSome=true∧(t0' 0).isSome=true)∧(n=0→t1' 0=t1 0∧t0' 0=t0 0)∧
   (∀f,IsTab root t1' t0' f→IsTab root t1 t0 f∨t.s.next≤f)∧(∀a,¬IsTab root t1 t0 (a / 4096)→a / 4096<t.s.next→t'.b a=t.b a):=by
 intro n;induction n with
 | zero=>
  intro i t t1 t0 lf out h hv hz room;exact ⟨t1,t0,lf,[],t,by rw [List.append_nil];rfl,trivial,h,rfl,fun k hk=>absurd hk (by omega),fun _ _=>rfl,fun f hf=>absurd hf (List.not_mem_nil),List.Pairwise.nil,by simp,rfl,fun _ _=>⟨rfl,rfl⟩,fun e=>absurd rfl e,fun _=>⟨rfl,rfl⟩,fun _ e=>.inl e,fun _ _ _=>rfl⟩
 | succ n ih=>
  intro i t t1 t0 lf out h hv hz room;rw [if_neg (by omega)] at room
  have hlt:t.s.next<t.s.fin:=by omega
  have ht:=h.tk hlt
  obtain ⟨u1,u2⟩:=vpn_page (v:=v0+i) (by omega)
  have ea:v0*4096+i*4096=(v0+i)*4096:=by omega
  have q1:(v0+i) / 262144=0:=by omega
  have q0:(v0+i) / 512=0:=by omega
  have hfin:=h.fin
  obtain ⟨f1,f0,m0,m1,m2,m3,m4⟩:=map_tab ht hf (va:=(v0+i)*4096) (p:=e t.s.next) u2 (he _ (by omega)) (by rw [u1];exact hz 0 (by omega)) (by
   rw [u1,q1,q0]
   show t.s.next+1+_+_≤t.s.fin
   unfold noneN at room
   omega)
  rw [u1,q1,q0] at m2 m3 m4
  have hnx:(mapF root t.tk ((v0+i)*4096) (e t.s.next)).2.s.next=t.s.next+1+noneN (t1 0)+noneN (t0 0):=m3
  have hfn:(mapF root t.tk ((v0+i)*4096) (e t.s.next)).2.s.fin=t.s.fin:=m4.fin
  obtain ⟨t1',t0',lf',fs,t',r1,r2,r3,r4,r5,r6,r7,r8,r9,r10,r11,r12,r13,r14,r15⟩:=ih (i+1) _ _ _ _ (out ++ [t.s.next]) m2 (by omega) (fun k hk=>by rw [setO_ne _ _ (by omega)];have:=hz (k+1) (by omega);rwa [show v0+(i+1)+k=v0+i+(k+1) by omega]) (by
   rw [hnx,hfn,setO_at,setO_at]
   have:noneN (some f1)=0:=rfl
   have:noneN (some f0)=0:=rfl
   split <;> omega)
  have hL:LayOk fr root (v0*4096) e (n+1) i t:=⟨hlt,by rw [ea];exact m1,by rw [ea];exact m0,by rw [ea];exact r2⟩
  have hcost:(if n=0 then 0 else noneN (setO t1 0 f1 0)+noneN (setO t0 0 f0 0))=0:=by rw [setO_at,setO_at];split <;> rfl
  rw [hcost] at r9
  refine ⟨t1',t0',lf',t.s.next :: fs,t',?_,hL,r3,by rw [List.length_cons,r4],?_,?_,?_,?_,?_,r10.trans hfn,?_,?_,?_,?_,?_⟩
  ·rw [layF_step hL,ea,r1,List.append_assoc];rfl
  ·intro k hk;cases k with
   | zero=>rw [Nat.add_zero,r6 (v0+i) (.inl (by omega)),setO_at];rfl
   | succ k=>have:=r5 k (by omega);rw [show v0+(i+1)+k=v0+i+(k+1) by omega] at this;rw [this];rfl
  ·intro v hv';rw [r6 v (by omega),setO_ne _ _ (by omega)]
  ·intro f hf';rcases List.mem_cons.1 hf' with rfl | hf'
   ·refine ⟨Nat.le_refl _,by rw [r9,hnx];omega,fun hT=>?_⟩
    rcases r14 _ hT with hT | hT
    ·rcases m4.tab _ hT with hT | hT
     ·have:=h.lo _ hT;omega
     ·have:t.tk.s.next=t.s.next+1:=rfl
      omega
    ·omega
   ·obtain ⟨a1,a2,a3⟩:=r7 f hf'
    exact ⟨by omega,a2,a3⟩
  ·exact List.Pairwise.cons (fun f hf'=>by have:=(r7 f hf').1;omega) r8
  ·rw [r9,hnx,if_neg (by omega)];omega
  ·intro j hj;obtain ⟨a1,a2⟩:=r11 j hj
   rw [a1,a2,setO_ne _ _ hj,setO_ne _ _ hj]
   exact ⟨rfl,rfl⟩
  ·intro _;by_cases hn:n=0
   ·obtain ⟨a1,a2⟩:=r13 hn
    rw [a1,a2,setO_at,setO_at]
    exact ⟨rfl,rfl⟩
   ·exact r12 hn
  ·intro hn;omega
  ·intro f hff;rcases r14 f hff with hT | hT
   ·rcases m4.tab _ hT with hT | hT
    ·exact .inl hT
    ·have:t.tk.s.next=t.s.next+1:=rfl
     exact .inr (by omega)
   ·exact .inr (by omega)
  ·intro a ha hn;rw [r15 a (fun hT=>by
    rcases m4.tab _ hT with hT | hT
    ·exact ha hT
    ·have:t.tk.s.next=t.s.next+1:=rfl
     omega) (by omega)]
   exact m4.off a ha (Nat.lt_succ_of_lt hn)
def Coh (b:Tlb) (lf:Nat→Option Pte):Prop:=∀s∈b,∀w∈s,w.full=true→w.leaf.level=0∧w.page<134217728∧lf w.page=some w.leaf.p
theorem coh_new (sets ways:Nat) (lf:Nat→Option Pte):Coh (tlbNew sets ways) lf:=by
 intro s hs w hw hf;have h1:=List.eq_of_mem_replicate hs
 subst h1;have h2:=List.eq_of_mem_replicate hw
 subst h2;cases hf
theorem mem_tlbSet {b:Tlb} {page:Nat} {w:Way} (h:w∈tlbSet b page):∃s∈b,w∈s:=by
 unfold tlbSet at h
 by_cases hb:page%b.length<b.length
 ·rw [List.getD_eq_getElem?_getD,List.getElem?_eq_getElem hb] at h
  exact ⟨_,List.getElem_mem hb,h⟩
 ·rw [List.getD_eq_getElem?_getD,List.getElem?_eq_none (by omega)] at h
  exact absurd h (List.not_mem_nil)
theorem waysFind_coh {b:Tlb} {lf:Nat→Option Pte} (h:Coh b lf) {page va:Nat} {asid l:Int} {x:Leaf} (hx:waysFind (tlbSet b page) va asid l=some x):x.level=0∧lf (vpn va)=some x.p:=by
 unfold waysFind at hx
 rw [Option.map_eq_some_iff] at hx
 obtain ⟨w,hw,rfl⟩:=hx
 have hm:=List.mem_of_find?_eq_some hw
 have hp:=List.find?_some hw
 simp only [Bool.and_eq_true,decide_eq_true_eq] at hp
 obtain ⟨s,hs,hws⟩:=mem_tlbSet hm
 unfold Way.matches Way.has at hp
 simp only [Bool.and_eq_true,decide_eq_true_eq] at hp
 obtain ⟨a1,a2,a3⟩:=h s hs w hws hp.2.1.1
 refine ⟨a1,?_⟩
 have:=hp.2.1.2
 rw [a1] at this
 unfold pageOf at this
 simp only [Int.toNat_zero,Nat.mul_zero,Nat.pow_zero,Nat.div_one] at this
 rw [←this]
 exact a3
theorem tlbFind_coh {b:Tlb} {lf:Nat→Option Pte} (h:Coh b lf) {va:Nat} {asid:Int} {x:Leaf} (hx:tlbFind b va asid=some x):x.level=0∧lf (vpn va)=some x.p:=by
 unfold tlbFind at hx
 split at hx
 ·rename_i e;cases hx;exact waysFind_coh h e
 ·split at hx
  ·rename_i e;cases hx;exact waysFind_coh h e
  ·exact waysFind_coh h hx
theorem tlbFill_coh {b:Tlb} {lf:Nat→Option Pte} (h:Coh b lf) {va:Nat} {asid pick:Int} {l:Leaf} (hl:l.level=0) (hp:lf (vpn va)=some l.p):Coh (tlbFill b va asid l pick) lf:=by
 intro s hs w hw hf;unfold tlbFill at hs
 rcases List.mem_or_eq_of_mem_set hs with hs | rfl
 ·exact h s hs w hw hf
 ·rcases List.mem_or_eq_of_mem_set hw with hw | rfl
  ·obtain ⟨s,hs,hws⟩:=mem_tlbSet hw
   exact h s hs w hws hf
  ·refine ⟨hl,?_,?_⟩
   ·show pageOf va l.level<_
    rw [hl];unfold pageOf
    simp only [Int.toNat_zero,Nat.mul_zero,Nat.pow_zero,Nat.div_one]
    exact vpn_lt va
   ·show lf (pageOf va l.level)=_
    rw [hl];unfold pageOf
    simp only [Int.toNat_zero,Nat.mul_zero,Nat.pow_zero,Nat.div_one]
    exact hp
theorem tlbFence_coh {b:Tlb} {lf lf':Nat→Option Pte} (h:Coh b lf) {va:Nat} (hl:∀v,v≠vpn va→lf' v=lf v):Coh (tlbFence b va) lf':=by
 intro s hs w hw hf;unfold tlbFence at hs
 obtain ⟨s0,hs0,rfl⟩:=List.mem_map.1 hs
 obtain ⟨w0,hw0,rfl⟩:=List.mem_map.1 hw
 by_cases hg:w0.goes va=true
 ·rw [if_pos hg] at hf;cases hf
 ·rw [if_neg hg] at hf ⊢
  obtain ⟨a1,a2,a3⟩:=h s0 hs0 w0 hw0 hf
  refine ⟨a1,a2,?_⟩
  rw [hl]
  ·exact a3
  ·intro e;apply hg
   unfold Way.goes Way.has pageOf
   rw [hf,a1,e]
   simp
structure UnOk (u:Mu) (t1 t0:Nat→Option Nat) (lf:Nat→Option Pte):Prop where
 tab:TabOk u.b u.fr u.satp.ppn t1 t0 lf
 coh:Coh u.tlb lf
 on:u.satp.on=true
 fr:u.fr≤1048576
 pp:∀v p,v<134217728→lf v=some p→p.ppn<u.fr
theorem UnOk.tlb {u:Mu} {t1 t0:Nat→Option Nat} {lf:Nat→Option Pte} (h:UnOk u t1 t0 lf) {b:Tlb} (hb:Coh b lf):UnOk { u with tlb:=b} t1 t0 lf:=⟨h.tab,hb,h.on,h.fr,h.pp⟩
theorem leaf_uo {u:Mu} {t1 t0:Nat→Option Nat} {lf:Nat→Option Pte} (h:UnOk u t1 t0 lf) {va:Nat} (hc:canonB va=true) (a pick:Int) :
  (lf (vpn va)=none→leafF u va a pick=((Leaf.zero,pageC a),u.tlb))∧(∀p,lf (vpn va)=some p→∃l b,leafF u va a pick=((l,-1),b)∧l.p=p∧l.level=0∧Coh b lf):=by
 have hfind:=find_tab h.tab h.fr hc
 constructor
 ·intro hn;rw [hn] at hfind
  have ht:tlbFind u.tlb va u.satp.asid=none:=by
   cases e:tlbFind u.tlb va u.satp.asid with
   | none=>rfl
   | some l=>have:=(tlbFind_coh h.coh e).2;rw [hn] at this;cases this
  unfold leafF findS
  rw [ht,if_pos h.on,hfind]
  rfl
 ·intro p hp;rw [hp] at hfind
  cases e:tlbFind u.tlb va u.satp.asid with
  | some l=>
   obtain ⟨a1,a2⟩:=tlbFind_coh h.coh e
   rw [hp] at a2
   cases a2
   exact ⟨l,u.tlb,by unfold leafF;rw [e],rfl,a1,h.coh⟩
  | none=>
   refine ⟨_,_,by unfold leafF findS;rw [e,if_pos h.on,hfind];rfl,rfl,rfl,?_⟩
   exact tlbFill_coh h.coh rfl hp
theorem join_zero {ppn va:Nat} (h:ppn<1048576):joinF ppn va (0:Int).toNat=ppn*4096+va%4096:=by
 unfold joinF
 show ppn*4096%18446744073709551616 / 2 ^ 12*2 ^ 12+va%2 ^ 12=_
 omega
theorem place_uo {u:Mu} {t1 t0:Nat→Option Nat} {lf:Nat→Option Pte} (h:UnOk u t1 t0 lf) {va:Nat} {size:Int} (hc:canonB va=true) (ha:alignedB va size=true) (a pick:Int) (h3:pageC a≠-1) :
  (lf (vpn va)=none→placeF u va size a pick=((0,pageC a),u.tlb))∧
  (∀p,lf (vpn va)=some p→∃b,Coh b lf∧placeF u va size a pick=(if checkB p a u.mode then (p.ppn*4096+va%4096,-1) else (0,pageC a),b)):=by
 obtain ⟨l1,l2⟩:=leaf_uo h hc a pick
 constructor
 ·intro hn;unfold placeF
  rw [ha,l1 hn]
  simp only [Bool.not_true,Bool.false_eq_true,if_false,ne_eq,h3,not_false_eq_true,if_true]
 ·intro p hp;obtain ⟨l,b,e,rfl,e2,e3⟩:=l2 p hp
  refine ⟨b,e3,?_⟩
  have hpp:=h.pp _ _ (vpn_lt va) hp
  have hfr:=h.fr
  unfold placeF
  rw [ha,e]
  simp only [Bool.not_true,Bool.false_eq_true,if_false,ne_eq,not_true_eq_false,e2]
  rw [join_zero (by omega)]
  cases checkB l.p a u.mode with
  | false=>rfl
  | true=>
   simp only [Bool.not_true,Bool.false_eq_true,if_false,if_true]
   rw [if_neg (by omega)]
theorem read_uo {u:Mu} {t1 t0:Nat→Option Nat} {lf:Nat→Option Pte} (h:UnOk u t1 t0 lf) {va:Nat} {size:Int} (hc:canonB va=true) (ha:alignedB va size=true) (a pick:Int) (h3:pageC a≠-1) :
  (lf (vpn va)=none→readF u va size a pick=((0,pageC a),u))∧
  (∀p,lf (vpn va)=some p→∃b,Coh b lf∧readF u va size a pick=(if checkB p a u.mode then (getW u.b (p.ppn*4096+va%4096) size.toNat,-1) else (0,pageC a),{ u with tlb:=b})):=by
 obtain ⟨l1,l2⟩:=place_uo h hc ha a pick h3
 constructor
 ·intro hn;unfold readF
  rw [l1 hn]
  simp only [ne_eq,h3,not_false_eq_true,if_true]
 ·intro p hp;obtain ⟨b,hb,e⟩:=l2 p hp
  refine ⟨b,hb,?_⟩
  unfold readF
  rw [e]
  cases checkB p a u.mode with
  | false=>simp only [Bool.false_eq_true,if_false,ne_eq,h3,not_false_eq_true,if_true]
  | true=>simp only [if_true,ne_eq,not_true_eq_false,if_false]
theorem store_uo {u:Mu} {t1 t0:Nat→Option Nat} {lf:Nat→Option Pte} (h:UnOk u t1 t0 lf) {va:Nat} {size:Int} (hc:canonB va=true) (ha:alignedB va size=true) (v:Nat) (pick:Int) :
  (lf (vpn va)=none→storeF u va size v pick=(15,u))∧
  (∀p,lf (vpn va)=some p→∃b,Coh b lf∧storeF u va size v pick=(if checkB p 2 u.mode then (-1,{ u with tlb:=b,b:=putW u.b (p.ppn*4096+va%4096) size.toNat v}) else (15,{ u with tlb:=b}))):=by
 obtain ⟨l1,l2⟩:=place_uo h hc ha 2 pick (by decide)
 constructor
 ·intro hn;unfold storeF
  rw [l1 hn]
  rfl
 ·intro p hp;obtain ⟨b,hb,e⟩:=l2 p hp
  refine ⟨b,hb,?_⟩
  unfold storeF
  rw [e]
  cases checkB p 2 u.mode with
  | false=>rfl
  | true=>rfl
theorem putI_find {α:Type} (q k:Int) (v:α):∀l:List (Int×α),((putI l k v).find? fun x=>x.1 == q).map (·.2)=if q=k then some v else (l.find? fun x=>x.1 == q).map (·.2)
 | []=>by
  unfold putI
  by_cases h:q=k
  ·rw [if_pos h,List.find?_cons_of_pos (by simp [h])];rfl
  ·rw [if_neg h,List.find?_cons_of_neg (by simpa using fun e=>h e.symm)]
 | x :: l=>by
  unfold putI
  by_cases hx:x.1=k
  ·rw [if_pos hx]
   by_cases h:q=k
   ·rw [if_pos h,List.find?_cons_of_pos (by simp [h])];rfl
   ·rw [if_neg h,List.find?_cons_of_neg (by simpa using fun e=>h e.symm),List.find?_cons_of_neg (by simpa [hx] using fun e=>h e.symm)]
  ·rw [if_neg hx]
   by_cases hq:x.1=q
   ·rw [List.find?_cons_of_pos (by simp [hq]),List.find?_cons_of_pos (by simp [hq]),if_neg (by omega)]
   ·rw [List.find?_cons_of_neg (by simpa using hq),List.find?_cons_of_neg (by simpa using hq)]
    exact putI_find q k v l
theorem putI_new {α:Type} (k:Int) (v:α):∀l:List (Int×α),(l.find? fun x=>x.1 == k)=none→putI l k v=l ++ [(k,v)]
 | [],_=>rfl
 | x :: l,h=>by
  have hx:x.1≠k:=fun e=>by rw [List.find?_cons_of_pos (by simp [e])] at h;cases h
  rw [List.find?_cons_of_neg (by simpa using hx)] at h
  unfold putI
  rw [if_neg hx,putI_new k v l h]
  rfl
def Spc.lf (s:Spc) (v:Nat):Option Pte:=
 if 16≤v∧v<16+s.code.length then some (codeP (s.code.getD (v - 16) 0))
 else if 32≤v∧v<32+s.own.length then some (ownP (s.own.getD (v - 32) 0))
 else if 262144≤v∧rightOf s ((v - 262144:Nat):Int)≠0 then some ((if rightOf s ((v - 262144:Nat):Int)=2 then ownP else readP) ((frameOf s ((v - 262144:Nat):Int)).getD 0))
 else none
def Spc.frames (s:Spc):List Nat:=s.code ++ s.own ++ s.shared.map (·.2)
structure SpInv (s:Spc) (t1 t0:Nat→Option Nat):Prop where
 inv:TInv s.u.fr s.root s.tst t1 t0 s.lf
 coh:Coh s.u.tlb s.lf
 sat:s.u.satp=⟨true,1,s.root⟩
 mode:s.u.mode=⟨true,false,false⟩
 fr:s.u.fr≤1048576
 nd:s.frames.Nodup
 ft:∀f∈s.frames,f<s.stk.next∧¬IsTab s.root t1 t0 f
 cl:s.code.length≤16
 ol:s.own.length≤16
 sh:s.shape.shared≤65536
 rf:∀p,rightOf s p≠0→(frameOf s p).isSome=true
 rp:∀p,rightOf s p≠0→0≤p∧p<s.shape.shared
theorem frameOf_mem {s:Spc} {p:Int} {f:Nat} (h:frameOf s p=some f):f∈s.frames:=by
 unfold frameOf at h
 rw [Option.map_eq_some_iff] at h
 obtain ⟨x,hx,rfl⟩:=h
 unfold Spc.frames
 exact List.mem_append_right _ (List.mem_map.2 ⟨x,List.mem_of_find?_eq_some hx,rfl⟩)
theorem code_mem {s:Spc} {i:Nat} (h:i<s.code.length):s.code.getD i 0∈s.frames:=by
 rw [List.getD_eq_getElem?_getD,List.getElem?_eq_getElem h]
 exact List.mem_append_left _ (List.mem_append_left _ (List.getElem_mem h))
theorem own_mem {s:Spc} {i:Nat} (h:i<s.own.length):s.own.getD i 0∈s.frames:=by
 rw [List.getD_eq_getElem?_getD,List.getElem?_eq_getElem h]
 exact List.mem_append_left _ (List.mem_append_right _ (List.getElem_mem h))
theorem Spc.lf_frame {s:Spc} {t1 t0:Nat→Option Nat} (h:SpInv s t1 t0) {v:Nat} {p:Pte} (e:s.lf v=some p):p.ppn∈s.frames:=by
 unfold Spc.lf at e
 split at e
 ·cases e;exact code_mem (by omega)
 ·split at e
  ·cases e;exact own_mem (by omega)
  ·split at e
   ·rename_i hr
    cases hf:frameOf s ((v - 262144:Nat):Int) with
    | none=>have:=h.rf _ hr.2;rw [hf] at this;cases this
    | some f=>
     rw [hf] at e
     have:=frameOf_mem hf
     split at e <;> (cases e;exact this)
   ·cases e
theorem SpInv.un {s:Spc} {t1 t0:Nat→Option Nat} (h:SpInv s t1 t0):UnOk s.u t1 t0 s.lf:=by
 have hs:=h.sat
 refine ⟨?_,h.coh,by rw [hs],h.fr,fun v p hv e=>?_⟩
 ·rw [hs];exact h.inv.tab
 ·have:=(h.ft _ (Spc.lf_frame h e)).1
  have:=h.inv.nx
  have:=h.inv.fin
  have e1:s.tst.s.next=s.stk.next:=rfl
  omega
theorem mayB_ent {e:Nat→Pte} {txt:ByteArray} (h:EntOk txt e) {f:Nat} (hf:f<1048576):mayB (e f)=true:=by
 unfold mayB mayL
 rw [pteG_W (h.ok f (by omega)),decide_eq_true rfl,h.right f,h.leaf f,show evenB (e f).ppn 0=true from decide_eq_true (Nat.mod_one _)]
 rfl
theorem isTab_zero {f:Nat} (h:IsTab 0 (fun _=>none) (fun _=>none) f):f=0:=by
 rcases h with h | ⟨_,_,h⟩ | ⟨_,_,h⟩
 ·exact h
 ·cases h
 ·cases h
theorem t0S_inv {n:Nat} (hn:1≤n):TInv n 0 (t0S n) (fun _=>none) (fun _=>none) (fun _=>none):=by
 have hz:∀a k,getW (t0S n).b a k=0:=fun a k=>getW_zeros fun i hi=>by show (if _ then _ else _)=0;split <;> rfl
 refine ⟨⟨hn,fun i hi=>hz _ _,fun i f hi e=>(by cases e),fun q f hq e=>(by cases e),fun v p hv e=>(by cases e)⟩,hn,Nat.le_refl _,fun f hf=>?_,fun i j f hi hj e=>(by cases e),fun i j f hi hj e=>(by cases e),fun i j f hi hj e=>(by cases e),fun i hi e=>(by cases e),fun i hi e=>(by cases e)⟩
 rw [isTab_zero hf]
 exact Nat.zero_lt_one
theorem new_inv (sh:Shp) (n sets ways:Nat) (hok:sh.ok=true) (hn:3+sh.code+sh.priv≤(n:Int)) (hn2:n≤1048576) :
  LayOk n 0 65536 codeP sh.code.toNat 0 (t0S n)∧LayOk n 0 131072 ownP sh.priv.toNat 0 (layF 0 65536 codeP sh.code.toNat 0 (t0S n) []).2∧
  ∃t1 t0,SpInv (newS sh n sets ways) t1 t0∧(newS sh n sets ways).stk.next=3+sh.code.toNat+sh.priv.toNat∧(newS sh n sets ways).stk.fin=n∧(∀j,j≠0→t1 j=none∧t0 j=none)∧
   (newS sh n sets ways).code.length=sh.code.toNat∧(newS sh n sets ways).own.length=sh.priv.toNat:=by
 have hsh:1≤sh.code∧sh.code≤16∧0≤sh.priv∧sh.priv≤16∧0≤sh.shared∧sh.shared≤65536:=by unfold Shp.ok at hok;simp at hok;omega
 obtain ⟨t1,t0,lf,fs,t',r1,r2,r3,r4,r5,r6,r7,r8,r9,r10,r11,r12,r13,r14,r15⟩:=lay_tab codeP (fun f hf=>mayB_ent ent_code hf) hn2 16 sh.code.toNat 0 (t0S n) _ _ _ [] (t0S_inv (n:=n) (by omega)) (by omega) (fun _ _=>rfl) (by
  show 1+sh.code.toNat+_≤n
  have:noneN (none:Option Nat)=1:=rfl
  split <;> omega)
 have hc0:sh.code.toNat≠0:=by omega
 obtain ⟨k1,k0⟩:=r12 hc0
 have hn1:noneN (t1 0)=0:=by unfold noneN;cases e:t1 0 with | none=>rw [e] at k1;cases k1 | some f=>rfl
 have hn0:noneN (t0 0)=0:=by unfold noneN;cases e:t0 0 with | none=>rw [e] at k0;cases k0 | some f=>rfl
 have hnx:t'.s.next=3+sh.code.toNat:=by
  rw [r9,if_neg hc0]
  show 1+sh.code.toNat+(1+1)=_
  omega
 have hfin:t'.s.fin=n:=r10
 have hlf:∀v,lf v=if 16≤v∧v<16+sh.code.toNat then some (codeP (fs.getD (v - 16) 0)) else none:=by
  intro v;by_cases hv:16≤v∧v<16+sh.code.toNat
  ·rw [if_pos hv]
   have:=r5 (v - 16) (by omega)
   rwa [show 16+0+(v - 16)=v by omega] at this
  ·rw [if_neg hv];exact r6 v (by omega)
 obtain ⟨t1',t0',lf',fs',t'',q1,q2,q3,q4,q5,q6,q7,q8,q9,q10,q11,q12,q13,q14,q15⟩:=lay_tab ownP (fun f hf=>mayB_ent ent_own hf) hn2 32 sh.priv.toNat 0 t' _ _ _ [] r3 (by omega) (fun k hk=>by rw [hlf,if_neg (by omega)]) (by
  rw [hnx,hn1,hn0,hfin]
  split <;> omega)
 have hnx2:t''.s.next=3+sh.code.toNat+sh.priv.toNat:=by
  rw [q9,hnx,hn1,hn0]
  split <;> omega
 rw [List.nil_append] at r1 q1
 have eL:layF 0 65536 codeP sh.code.toNat 0 (t0S n) []=((fs,0),t'):=r1
 have eO:layF 0 131072 ownP sh.priv.toNat 0 t' []=((fs',0),t''):=q1
 have eS:newS sh n sets ways=⟨sh,⟨t''.b,n,tlbNew sets ways,⟨true,1,0⟩,⟨true,false,false⟩⟩,t''.s,0,t''.used,fs,fs',[],[]⟩:=by
  show (let t0:Tst:=⟨zeroPg (fun _=>0) 0,⟨0,1,n,[0]⟩,1⟩
   let c:=layF 0 65536 codeP sh.code.toNat 0 t0 []
   let o:=layF 0 131072 ownP sh.priv.toNat 0 c.2 []
   (⟨sh,⟨o.2.b,n,tlbNew sets ways,⟨true,1,0⟩,⟨true,false,false⟩⟩,o.2.s,0,o.2.used,c.1.1,o.1.1,[],[]⟩:Spc))=_
  have eL':layF 0 65536 codeP sh.code.toNat 0 ⟨zeroPg (fun _=>0) 0,⟨0,1,n,[0]⟩,1⟩ []=((fs,0),t'):=eL
  simp only [eL',eO]
 refine ⟨r2,by rw [eL];exact q2,t1',t0',?_,by rw [eS];exact hnx2,by rw [eS];exact q10.trans hfin,?_,by rw [eS];exact r4,by rw [eS];exact q4⟩
 ·rw [eS]
  refine ⟨?_,coh_new _ _ _,rfl,rfl,hn2,?_,?_,by show fs.length≤16;omega,by show fs'.length≤16;omega,hsh.2.2.2.2.2,fun p hp=>absurd rfl hp,fun p hp=>absurd rfl hp⟩
  ·have:Spc.lf ⟨sh,⟨t''.b,n,tlbNew sets ways,⟨true,1,0⟩,⟨true,false,false⟩⟩,t''.s,0,t''.used,fs,fs',[],[]⟩=lf':=by
    funext v
    unfold Spc.lf
    dsimp only
    rw [r4,q4]
    by_cases h1:16≤v∧v<16+sh.code.toNat
    ·rw [if_pos h1,q6 v (.inl (by omega)),hlf,if_pos h1]
    ·rw [if_neg h1]
     by_cases h2:32≤v∧v<32+sh.priv.toNat
     ·rw [if_pos h2]
      have:=q5 (v - 32) (by omega)
      rw [show 32+0+(v - 32)=v by omega] at this
      exact this.symm
     ·rw [if_neg h2,q6 v (by omega),hlf,if_neg h1,if_neg (fun e=>e.2 rfl)]
   rw [this]
   exact q3
  ·show (fs ++ fs' ++ []).Nodup
   rw [List.append_nil,List.nodup_append]
   refine ⟨r8.imp fun h=>Nat.ne_of_lt h,q8.imp fun h=>Nat.ne_of_lt h,fun a ha b hb=>?_⟩
   have:=(r7 a ha).2.1
   have:=(q7 b hb).1
   omega
  ·intro f hf;show f<t''.s.next∧¬IsTab 0 t1' t0' f
   have hf':f∈fs ++ fs' ++ []:=hf
   rw [List.append_nil,List.mem_append] at hf'
   rcases hf' with hf' | hf'
   ·obtain ⟨a1,a2,a3⟩:=r7 f hf'
    refine ⟨by rw [hnx2];omega,fun hT=>?_⟩
    exact (q14 f hT).elim a3 fun e=>by omega
   ·obtain ⟨a1,a2,a3⟩:=q7 f hf'
    exact ⟨a2,a3⟩
 ·intro j hj;obtain ⟨a1,a2⟩:=r11 j hj
  obtain ⟨b1,b2⟩:=q11 j hj
  rw [b1,b2,a1,a2]
  exact ⟨rfl,rfl⟩
theorem va_page (p:Nat) (h:p<65536):vpn (vaOf p)=262144+p∧canonB (vaOf p)=true:=by
 have:vaOf p=1073741824+p*4096:=by unfold vaOf;simp
 rw [this]
 refine ⟨by unfold vpn;omega,?_⟩
 unfold canonB
 rw [decide_eq_true (by omega)]
 rfl
theorem rightOf_put {s s':Spc} {p r:Int} (h:s'.rights=putI s.rights p r) (q:Int):rightOf s' q=if q=p then r else rightOf s q:=by
 unfold rightOf
 rw [h,putI_find]
 split <;> rfl
theorem lf_put {s s':Spc} {p f:Nat} {r:Int} (hc:s'.code=s.code) (ho:s'.own=s.own) (hs:s'.shared=s.shared) (hr:s'.rights=putI s.rights p r) (hcl:s.code.length≤16) (hol:s.own.length≤16) (hf:frameOf s p=some f) (v:Nat) :
  s'.lf v=if v=262144+p then (if r=0 then none else some ((if r=2 then ownP else readP) f)) else s.lf v:=by
 have hfo:∀q,frameOf s' q=frameOf s q:=fun q=>by unfold frameOf;rw [hs]
 unfold Spc.lf
 rw [hc,ho]
 by_cases hv:v=262144+p
 ·subst hv;rw [if_neg (by omega),if_neg (by omega),if_pos rfl,show 262144+p - 262144=p by omega,rightOf_put hr,if_pos rfl,hfo,hf]
  by_cases h0:r=0
  ·rw [if_neg (by omega),if_pos h0]
  ·rw [if_pos ⟨by omega,h0⟩,if_neg h0];rfl
 ·rw [if_neg hv]
  by_cases h1:262144≤v
  ·have hq:rightOf s' ((v - 262144:Nat):Int)=rightOf s ((v - 262144:Nat):Int):=(rightOf_put hr _).trans (if_neg (by omega))
   rw [hq,hfo]
  ·have n1:∀x:Int,¬(262144≤v∧x≠0):=fun _ e=>h1 e.1
   simp only [n1,if_false]
structure Stay (s s':Spc):Prop where
 shape:s'.shape=s.shape
 code:s'.code=s.code
 own:s'.own=s.own
 root:s'.root=s.root
 fr:s'.u.fr=s.u.fr
 fin:s'.stk.fin=s.stk.fin
 nx:s.stk.next≤s'.stk.next
 frm:∀q f,frameOf s q=some f→frameOf s' q=some f
 old:∀a,a / 4096∈s.frames→s'.u.b a=s.u.b a
theorem Stay.refl (s:Spc):Stay s s:=⟨rfl,rfl,rfl,rfl,rfl,rfl,Nat.le_refl _,fun _ _ e=>e,fun _ _=>rfl⟩
theorem fence_goes {s s':Spc} {p:Nat} {tl:Tlb} (hp:p<65536) (h:Coh tl s.lf) (hl:∀v,v≠262144+p→s'.lf v=s.lf v):Coh (tlbFence tl (vaOf p)) s'.lf:=
 tlbFence_coh h fun v hv=>hl v (by rw [(va_page p hp).1] at hv;exact hv)
def ent (r:Int) (f:Nat):Pte:=(if r=2 then ownP else readP) f
theorem ent_eq (r:Int) (f:Nat):(if r=2 then ownP f else readP f)=ent r f:=by unfold ent;split <;> rfl
theorem mayB_e (r:Int) {f:Nat} (hf:f<1048576):mayB (ent r f)=true:=by
 unfold ent
 split
 ·exact mayB_ent ent_own hf
 ·exact mayB_ent ent_read hf
def Spc.wr (s:Spc) (b:By) (p:Nat) (r:Int):Spc:={ s with u:={ s.u with b:=b,tlb:=tlbFence s.u.tlb (vaOf p)},rights:=putI s.rights p r}
theorem SpInv.write {s:Spc} {t1 t0:Nat→Option Nat} (h:SpInv s t1 t0) {p f:Nat} {r:Int} (hp:(p:Int)<s.shape.shared) (h0:0≤r) (h2:r≤2) (hf:frameOf s p=some f) (hT:(t0 ((262144+p) / 512)).isSome=true) :
  SpInv (s.wr (putW s.u.b (leafPos t0 (262144+p)) 8 (if r=0 then 0 else pteW (ent r f))) p r) t1 t0∧
  Stay s (s.wr (putW s.u.b (leafPos t0 (262144+p)) 8 (if r=0 then 0 else pteW (ent r f))) p r):=by
 have hsh:=h.sh
 have hlf:=lf_put (s:=s) (s':=s.wr (putW s.u.b (leafPos t0 (262144+p)) 8 (if r=0 then 0 else pteW (ent r f))) p r) (p:=p) (f:=f) (r:=r) rfl rfl rfl rfl h.cl h.ol hf
 obtain ⟨g,hg⟩:∃g,t0 ((262144+p) / 512)=some g:=Option.isSome_iff_exists.1 hT
 have hpos:leafPos t0 (262144+p)=g*4096+8*((262144+p)%512):=by unfold leafPos;rw [hg];rfl
 have hfl:=h.ft f (frameOf_mem hf)
 have hfr:=h.fr
 have hnx:=h.inv.nx
 have hfin:=h.inv.fin
 have en:s.tst.s.next=s.stk.next:=rfl
 have hf20:f<1048576:=by omega
 have hI:=h.inv.lay (q:=(262144+p) / 512) (k:=(262144+p)%512) (f:=g) (by omega) (by omega) hg (if r=0 then 0 else pteW (ent r f)) (if r=0 then none else some (ent r f)) (s.wr (putW s.u.b (leafPos t0 (262144+p)) 8 (if r=0 then 0 else pteW (ent r f))) p r).lf (by split <;> rfl) (by
  split
  ·decide
  ·exact Nat.lt_trans (pteW_lt _) (by decide)) (by rw [show 512*((262144+p) / 512)+(262144+p)%512=262144+p by omega,hlf,if_pos rfl];rfl) (fun v hv=>by rw [hlf,if_neg (by omega)]) (fun q hq=>by
  split at hq
  ·cases hq
  ·cases hq;exact mayB_of (mayB_e r hf20))
 rw [←hpos] at hI
 refine ⟨⟨hI,fence_goes (by omega) h.coh fun v hv=>by rw [hlf,if_neg hv],h.sat,h.mode,h.fr,h.nd,h.ft,h.cl,h.ol,h.sh,fun q hq=>?_,fun q hq=>?_⟩,⟨rfl,rfl,rfl,rfl,rfl,rfl,Nat.le_refl _,fun _ _ e=>e,fun a ha=>?_⟩⟩
 ·show (frameOf s q).isSome=true
  rw [rightOf_put (s:=s) (p:=p) (r:=r) rfl] at hq
  by_cases hqp:q=p
  ·rw [hqp,hf];rfl
  ·rw [if_neg hqp] at hq;exact h.rf q hq
 ·rw [rightOf_put (s:=s) (p:=p) (r:=r) rfl] at hq
  by_cases hqp:q=p
  ·rw [hqp];exact ⟨by omega,hp⟩
  ·rw [if_neg hqp] at hq;exact h.rp q hq
 ·show putW s.u.b _ 8 _ a=_
  have:a / 4096≠g:=fun e=>(h.ft _ ha).2 (.inr (.inr ⟨(262144+p) / 512,by omega,by rw [hg,e]⟩))
  rw [hpos,putW_out (by omega)]
theorem lf_at {s:Spc} {p f:Nat} (hcl:s.code.length≤16) (hol:s.own.length≤16) (hf:frameOf s p=some f):s.lf (262144+p)=if rightOf s p=0 then none else some (ent (rightOf s p) f):=by
 unfold Spc.lf
 rw [if_neg (by omega),if_neg (by omega),show 262144+p - 262144=p by omega,hf]
 by_cases h:rightOf s p=0
 ·rw [if_neg (fun e=>e.2 h),if_pos h]
 ·rw [if_pos ⟨by omega,h⟩,if_neg h];rfl
theorem remap_inv {s:Spc} {t1 t0:Nat→Option Nat} (h:SpInv s t1 t0) {p f:Nat} {r:Int} (hp:(p:Int)<s.shape.shared) (h0:0≤r) (h2:r≤2) (hf:frameOf s p=some f) (hne:r≠rightOf s p)
  (room:rightOf s p=0→s.stk.next+noneN (t1 1)+noneN (t0 (512+p / 512))≤s.stk.fin) :
  RemOk s p f r∧(remapF s p f r).1=0∧∃s',{ (remapF s p f r).2 with rights:=putI (remapF s p f r).2.rights p r,u:={ (remapF s p f r).2.u with tlb:=tlbFence (remapF s p f r).2.u.tlb (vaOf p)}} = s'∧s'.shared=s.shared∧s'.rights=putI s.rights p r∧Stay s s'∧
   ∃t1' t0',SpInv s' t1' t0'∧s'.stk.next=s.stk.next+(if rightOf s p=0 then noneN (t1 1)+noneN (t0 (512+p / 512)) else 0)∧(∀j,j≠1→t1' j=t1 j)∧(∀j,j≠512+p / 512→t0' j=t0 j)∧(t1' 1).isSome=true∧(t0' (512+p / 512)).isSome=true:=by
 have hsh:=h.sh
 obtain ⟨hvp,hcan⟩:=va_page p (by omega)
 have hla:=lf_at h.cl h.ol hf
 have hfl:=h.ft f (frameOf_mem hf)
 have hfr:=h.fr
 have hnx:=h.inv.nx
 have hfin:=h.inv.fin
 have en:s.tst.s.next=s.stk.next:=rfl
 have ef:s.tst.s.fin=s.stk.fin:=rfl
 have hf20:f<1048576:=by omega
 have hq:(262144+p) / 512=512+p / 512:=by omega
 by_cases hz:rightOf s p=0
 ·rw [if_pos hz] at hla
  rw [if_pos hz]
  have hr0:r≠0:=fun e=>hne (by rw [hz,e])
  have room':=room hz
  obtain ⟨f1,f0,m0,m1,m2,m3,m4⟩:=map_tab h.inv h.fr (va:=vaOf p) (p:=ent r f) hcan (mayB_e r hf20) (by rw [hvp];exact hla) (by
   rw [hvp,show (262144+p) / 262144=1 by omega,hq,en,ef]
   exact room')
  rw [hvp,show (262144+p) / 262144=1 by omega,hq] at m2 m3 m4
  have hR:remapF s p f r=(0,s.withT (mapF s.root s.tst (vaOf p) (ent r f)).2):=by
   unfold remapF
   rw [if_neg hr0,if_pos hz]
   dsimp only
   rw [ent_eq,m0]
  refine ⟨⟨fun e=>absurd e hr0,fun _ _=>⟨m1,by rw [ent_eq];exact m0⟩,fun _ e=>absurd hz e⟩,by rw [hR],_,rfl,by rw [hR];rfl,by rw [hR];rfl,?_,setO t1 1 f1,setO t0 (512+p / 512) f0,?_,?_,fun j hj=>setO_ne _ _ hj,fun j hj=>setO_ne _ _ hj,by rw [setO_at];rfl,by rw [setO_at];rfl⟩
  ·rw [hR]
   refine ⟨rfl,rfl,rfl,rfl,rfl,m4.fin,m4.nx,fun _ _ e=>e,fun a ha=>?_⟩
   obtain ⟨a1,a2⟩:=h.ft _ ha
   exact m4.off a a2 a1
  ·rw [hR]
   have hlf:=lf_put (s:=s) (s':={ (s.withT (mapF s.root s.tst (vaOf p) (ent r f)).2) with rights:=putI (s.withT (mapF s.root s.tst (vaOf p) (ent r f)).2).rights p r,u:={ (s.withT (mapF s.root s.tst (vaOf p) (ent r f)).2).u with tlb:=tlbFence (s.withT (mapF s.root s.tst (vaOf p) (ent r f)).2).u.tlb (vaOf p)}}) (p:=p) (f:=f) (r:=r) rfl rfl rfl rfl h.cl h.ol hf
   have elf:({ (s.withT (mapF s.root s.tst (vaOf p) (ent r f)).2) with rights:=putI (s.withT (mapF s.root s.tst (vaOf p) (ent r f)).2).rights p r,u:={ (s.withT (mapF s.root s.tst (vaOf p) (ent r f)).2).u with tlb:=tlbFence (s.withT (mapF s.root s.tst (vaOf p) (ent r f)).2).u.tlb (vaOf p)}} : Spc).lf=setO s.lf (262144+p) (ent r f):=by
    funext v
    rw [hlf]
    by_cases hv:v=262144+p
    ·rw [if_pos hv,if_neg hr0,hv,setO_at];rfl
    ·rw [if_neg hv,setO_ne _ _ hv]
   refine ⟨?_,fence_goes (by omega) h.coh fun v hv=>by rw [hlf,if_neg hv],h.sat,h.mode,h.fr,h.nd,fun g hg=>?_,h.cl,h.ol,h.sh,fun q hq=>?_,fun q hq=>?_⟩
   ·rw [elf];exact m2
   ·obtain ⟨a1,a2⟩:=h.ft g hg
    refine ⟨Nat.lt_of_lt_of_le a1 m4.nx,fun hT=>?_⟩
    exact (m4.tab g hT).elim a2 fun e=>by omega
   ·show (frameOf s q).isSome=true
    rw [rightOf_put (s:=s) (p:=p) (r:=r) rfl] at hq
    by_cases hqp:q=p
    ·rw [hqp,hf];rfl
    ·rw [if_neg hqp] at hq;exact h.rf q hq
   ·rw [rightOf_put (s:=s) (p:=p) (r:=r) rfl] at hq
    by_cases hqp:q=p
    ·rw [hqp];exact ⟨by omega,hp⟩
    ·rw [if_neg hqp] at hq;exact h.rp q hq
  ·rw [hR]
   show (mapF s.root s.tst (vaOf p) (ent r f)).2.s.next=_
   rw [m3]
   show s.stk.next+noneN _+noneN _=_
   omega
 ·rw [if_neg hz] at hla
  rw [if_neg hz]
  have hfind:=find_tab h.inv.tab h.fr hcan
  rw [hvp,hla] at hfind
  obtain ⟨hT,-,-,-⟩:=h.inv.tab.lk _ _ (by omega) hla
  rw [hq] at hT
  obtain ⟨g,hg⟩:∃g,t0 (512+p / 512)=some g:=Option.isSome_iff_exists.1 hT
  obtain ⟨gf,gi,-⟩:=h.inv.tab.el _ g (by omega) hg
  rw [show (512+p / 512) / 512=1 by omega] at gi
  have hpos:leafPos t0 (262144+p)=g*4096+8*((262144+p)%512):=by unfold leafPos;rw [hq,hg];rfl
  have hpf:leafPos t0 (262144+p) / 4096<s.u.fr:=by rw [hpos];omega
  have hp8:leafPos t0 (262144+p)%8=0:=by rw [hpos];omega
  have hfind':findF s.u.b s.u.fr s.root (vaOf p)=(⟨ent (rightOf s p) f,0,leafPos t0 (262144+p)⟩,0):=hfind
  obtain ⟨I1,I2⟩:=h.write (r:=r) hp h0 h2 hf (by rw [hq];exact hT)
  by_cases hr0:r=0
  ·subst hr0;have hR:remapF s p f 0=(0,{ s with u:={ s.u with b:=putW s.u.b (leafPos t0 (262144+p)) 8 0}}):=by
    unfold remapF unmapF
    rw [if_pos rfl,hfind']
    rfl
   refine ⟨⟨fun _=>⟨_,_,hfind',hpf,hp8⟩,fun e=>absurd rfl e,fun e=>absurd rfl e⟩,by rw [hR],_,rfl,by rw [hR],by rw [hR],by rw [hR];exact I2,t1,t0,by rw [hR];exact I1,by rw [hR];rfl,fun _ _=>rfl,fun _ _=>rfl,gi,hT⟩
  ·rw [if_neg hr0] at I1 I2
   have hR:remapF s p f r=(0,{ s with u:={ s.u with b:=putW s.u.b (leafPos t0 (262144+p)) 8 (pteW (ent r f))}}):=by
    have hm:mayL (ent r f) 0=true:=mayB_e r hf20
    unfold remapF changeF
    rw [if_neg hr0,if_neg hz]
    dsimp only
    rw [ent_eq,hfind']
    simp only [ne_eq,not_true_eq_false,if_false,Int.toNat_zero,hm,Bool.not_true,Bool.false_eq_true]
   refine ⟨⟨fun e=>absurd e hr0,fun _ e=>absurd e hz,fun _ _=>⟨_,_,hfind',hpf,hp8⟩⟩,by rw [hR],_,rfl,by rw [hR],by rw [hR],by rw [hR];exact I2,t1,t0,by rw [hR];exact I1,by rw [hR];rfl,fun _ _=>rfl,fun _ _=>rfl,gi,hT⟩
theorem frame_inv {s:Spc} {t1 t0:Nat→Option Nat} (h:SpInv s t1 t0) {p:Int} (hn:frameOf s p=none) (hr:s.stk.next<s.stk.fin) :
  ∃s',frameF s p=((s.stk.next,0),s')∧SpInv s' t1 t0∧Stay s s'∧s'.stk.next=s.stk.next+1∧frameOf s' p=some s.stk.next∧(∀q,q≠p→frameOf s' q=frameOf s q)∧s'.rights=s.rights∧(∀i,i<4096→s'.u.b (s.stk.next*4096+i)=0):=by
 have hfind:(s.shared.find? fun x=>x.1 == p)=none:=by
  unfold frameOf at hn
  cases e:s.shared.find? fun x=>x.1 == p with
  | none=>rfl
  | some x=>rw [e] at hn;cases hn
 have hF:frameF s p=((s.stk.next,0),{ s with stk:={ s.stk with next:=s.stk.next+1,taken:=addN s.stk.taken s.stk.next},u:={ s.u with b:=zeroPg s.u.b s.stk.next},shared:=putI s.shared p s.stk.next}):=by
  unfold frameF
  rw [hn,take_room hr]
 have hfo:∀q,frameOf { s with stk:={ s.stk with next:=s.stk.next+1,taken:=addN s.stk.taken s.stk.next},u:={ s.u with b:=zeroPg s.u.b s.stk.next},shared:=putI s.shared p s.stk.next} q=if q=p then some s.stk.next else frameOf s q:=fun q=>by
  unfold frameOf
  exact putI_find q p _ _
 have hfr':({ s with stk:={ s.stk with next:=s.stk.next+1,taken:=addN s.stk.taken s.stk.next},u:={ s.u with b:=zeroPg s.u.b s.stk.next},shared:=putI s.shared p s.stk.next} : Spc).frames=s.frames ++ [s.stk.next]:=by
  unfold Spc.frames
  dsimp only
  rw [putI_new p _ _ hfind,List.map_append,←List.append_assoc]
  rfl
 have hlf:({ s with stk:={ s.stk with next:=s.stk.next+1,taken:=addN s.stk.taken s.stk.next},u:={ s.u with b:=zeroPg s.u.b s.stk.next},shared:=putI s.shared p s.stk.next} : Spc).lf=s.lf:=by
  funext v
  unfold Spc.lf
  rw [hfo]
  by_cases hv:262144≤v∧rightOf s ((v - 262144:Nat):Int)≠0
  ·have hvp:((v - 262144:Nat):Int)≠p:=fun e=>by
    have:=h.rf _ hv.2
    rw [e,hn] at this
    cases this
   rw [if_neg hvp]
   rfl
  ·have hv':¬(262144≤v∧rightOf { s with stk:={ s.stk with next:=s.stk.next+1,taken:=addN s.stk.taken s.stk.next},u:={ s.u with b:=zeroPg s.u.b s.stk.next},shared:=putI s.shared p s.stk.next} ((v - 262144:Nat):Int)≠0):=hv
   rw [if_neg hv,if_neg hv']
 have hlo:=h.inv.lo
 have en:s.tst.s.next=s.stk.next:=rfl
 refine ⟨_,hF,⟨?_,?_,h.sat,h.mode,h.fr,?_,?_,h.cl,h.ol,h.sh,fun q hq=>?_,h.rp⟩,⟨rfl,rfl,rfl,rfl,rfl,rfl,Nat.le_succ _,fun q f e=>?_,fun a ha=>?_⟩,rfl,by rw [hfo,if_pos rfl],fun q hq=>by rw [hfo,if_neg hq],rfl,fun i hi=>if_pos (by omega)⟩
 ·rw [hlf]
  have hi:=h.inv
  refine ⟨hi.tab.other fun a ha=>?_,hr,hi.fin,fun f hf=>Nat.lt_succ_of_lt (hi.lo f hf),hi.i1,hi.i0,hi.d,hi.r1,hi.r0⟩
  have:=hlo _ ha
  exact if_neg (by omega)
 ·rw [hlf];exact h.coh
 ·rw [hfr',List.nodup_append]
  refine ⟨h.nd,List.nodup_cons.2 ⟨List.not_mem_nil,List.nodup_nil⟩,fun a ha b hb=>?_⟩
  rw [List.mem_singleton.1 hb]
  have:=(h.ft a ha).1
  omega
 ·intro f hf;rw [hfr',List.mem_append,List.mem_singleton] at hf
  show f<s.stk.next+1∧_
  rcases hf with hf | rfl
  ·obtain ⟨a1,a2⟩:=h.ft f hf
   exact ⟨by omega,a2⟩
  ·exact ⟨by omega,fun hT=>by have:=hlo _ hT;omega⟩
 ·rw [hfo]
  split
  ·rfl
  ·exact h.rf q hq
 ·rw [hfo]
  split
  ·rename_i e';rw [e',hn] at e;cases e
  ·exact e
 ·have:=(h.ft _ ha).1
  exact if_neg (by omega)
theorem set_inv {s:Spc} {t1 t0:Nat→Option Nat} (h:SpInv s t1 t0) {p:Nat} {r:Int} (hp:(p:Int)<s.shape.shared) (h0:0≤r) (h2:r≤2)
  (room:r≠rightOf s p→s.stk.next+noneN (frameOf s p)+(if rightOf s p=0 then noneN (t1 1)+noneN (t0 (512+p / 512)) else 0)≤s.stk.fin) :
  SetOk s p r∧Stay s (setF s p r).2∧(∀q,rightOf (setF s p r).2 q=if q=p then r else rightOf s q)∧(∀q:Int,q≠p→frameOf (setF s p r).2 q=frameOf s q)∧
  (∀f,frameOf s p=none→frameOf (setF s p r).2 p=some f→∀i,i<4096→(setF s p r).2.u.b (f*4096+i)=0)∧
  ∃t1' t0',SpInv (setF s p r).2 t1' t0'∧(setF s p r).2.stk.next=s.stk.next+(if r=rightOf s p then 0 else noneN (frameOf s p)+(if rightOf s p=0 then noneN (t1 1)+noneN (t0 (512+p / 512)) else 0))∧(∀j,j≠1→t1' j=t1 j)∧(∀j,j≠512+p / 512→t0' j=t0 j)∧
   (r≠rightOf s p→(t1' 1).isSome=true∧(t0' (512+p / 512)).isSome=true):=by
 have hsh:=h.sh
 have e1:¬((p:Int)<0∨s.shape.shared≤p):=by omega
 have e2:¬(r<0∨2<r):=by omega
 by_cases hr:r=rightOf s p
 ·have hS:setF s p r=(0,s):=by unfold setF;rw [if_neg e1,if_neg e2,if_pos hr]
  rw [hS]
  refine ⟨⟨hp,hsh,h0,h2,fun e=>absurd hr e⟩,Stay.refl s,fun q=>?_,fun _ _=>rfl,fun f a b=>(by rw [a] at b;cases b),t1,t0,h,by rw [if_pos hr];rfl,fun _ _=>rfl,fun _ _=>rfl,fun e=>absurd hr e⟩
  split
  ·rename_i e;rw [e,hr]
  ·rfl
 ·have room':=room hr
  cases hf:frameOf s p with
  | some f=>
   rw [hf] at room'
   have hn0:noneN (some f)=0:=rfl
   obtain ⟨R,r1,s',es,e3,e4,st,t1',t0',I,e5,e6,e7,e8,e9⟩:=remap_inv h hp h0 h2 hf hr (fun hz=>by rw [if_pos hz] at room';omega)
   have hF:frameF s p=((f,0),s):=by unfold frameF;rw [hf]
   have hS:setF s p r=(0,s'):=by
    unfold setF
    rw [if_neg e1,if_neg e2,if_neg hr,hF]
    dsimp only
    rw [if_neg (by simp),r1,if_neg (by simp),es]
   rw [hS]
   have hf20:f<17592186044416:=by
    have:=(h.ft f (frameOf_mem hf)).1
    have:=h.inv.nx;have:=h.inv.fin;have:=h.fr
    have en:s.tst.s.next=s.stk.next:=rfl
    omega
   refine ⟨⟨hp,hsh,h0,h2,fun _=>.inl ⟨f,hf,hf20,R⟩⟩,st,fun q=>?_,fun q hq=>?_,fun g a=>(by cases a),t1',t0',I,by rw [if_neg hr,hn0,Nat.zero_add];exact e5,e6,e7,fun _=>⟨e8,e9⟩⟩
   ·rw [rightOf_put e4]
   ·show frameOf s' q=_
    unfold frameOf;rw [e3]
  | none=>
   rw [hf] at room'
   have hn1:noneN (none:Option Nat)=1:=rfl
   obtain ⟨sa,hF,Ia,Sa,na,fa,fb,ra,za⟩:=frame_inv h hf (by omega)
   have hra:∀q,rightOf sa q=rightOf s q:=fun q=>by unfold rightOf;rw [ra]
   have ef:=Sa.fin
   obtain ⟨R,r1,s',es,e3,e4,st,t1',t0',I,e5,e6,e7,e8,e9⟩:=remap_inv Ia (p:=p) (r:=r) (by rw [Sa.shape];exact hp) h0 h2 fa (by rw [hra];exact hr) (fun hz=>by rw [hra] at hz;rw [if_pos hz] at room';rw [na,ef];omega)
   have hS:setF s p r=(0,s'):=by
    unfold setF
    rw [if_neg e1,if_neg e2,if_neg hr,hF]
    dsimp only
    rw [if_neg (by simp),r1,if_neg (by simp),es]
   rw [hS]
   refine ⟨⟨hp,hsh,h0,h2,fun _=>.inr ⟨hf,by omega,by rw [hF];exact R⟩⟩,?_,fun q=>?_,fun q hq=>?_,fun g a b i hi=>?_,t1',t0',I,?_,e6,e7,fun _=>⟨e8,e9⟩⟩
   ·refine ⟨st.shape.trans Sa.shape,st.code.trans Sa.code,st.own.trans Sa.own,st.root.trans Sa.root,st.fr.trans Sa.fr,st.fin.trans Sa.fin,Nat.le_trans Sa.nx st.nx,fun q f e=>st.frm q f (Sa.frm q f e),fun a ha=>?_⟩
    rw [st.old a ?_,Sa.old a ha]
    unfold Spc.frames at ha ⊢
    rw [Sa.code,Sa.own]
    rw [List.mem_append] at ha ⊢
    refine ha.imp id fun hm=>?_
    have hfind:(s.shared.find? fun x=>x.1 == (p:Int))=none:=by
     unfold frameOf at hf
     cases e:s.shared.find? fun x=>x.1 == (p:Int) with
     | none=>rfl
     | some x=>rw [e] at hf;cases hf
    have:sa.shared=s.shared ++ [((p:Int),s.stk.next)]:=by
     have:=congrArg (fun x=>x.2.shared) hF
     dsimp only at this
     rw [←this]
     unfold frameF
     rw [hf,take_room (by omega)]
     exact putI_new _ _ _ hfind
    rw [this,List.map_append]
    exact List.mem_append_left _ hm
   ·rw [rightOf_put e4,hra]
   ·have:frameOf s' q=frameOf sa q:=by unfold frameOf;rw [e3]
    rw [this,fb q hq]
   ·have hb:frameOf s' p=some s.stk.next:=st.frm _ _ fa
    have b':frameOf s' p=some g:=b
    rw [hb] at b'
    cases b'
    show s'.u.b _=0
    rw [st.old _ (by rw [show (s.stk.next*4096+i) / 4096=s.stk.next by omega];exact frameOf_mem fa)]
    exact za i hi
   ·rw [if_neg hr,hn1]
    show s'.stk.next=_
    rw [e5,na,hra]
    omega
end Go.Proofs.YtjhnnjgnkkjmkaaGreatDoor
