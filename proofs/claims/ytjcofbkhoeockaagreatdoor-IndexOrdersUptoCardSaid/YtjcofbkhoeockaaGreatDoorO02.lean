/- Texts of this claim, joined: Ab19 Ab20 Ab21 Ab22 Ab23 Ab24 Ab27 Ab28 Oq Dp End Rd Re Ac Wf VaP FqP FbP Shelf ShelfS Sg Sh FoP ShelfR Sr Str Dsc Oz Ab36 Dn Dva Dk FmP FcP -/
import Derived.Test.YtjcofbkhoeockaaGreatDoorO01
import Derived.ProofKit
import Derived.Carry
import Derived.ChangeSame
import Derived.Lib.Bytealg
import Derived.Shelf.SlSortCmp.Whole1
import Derived.Ground.SlsfProg
import Derived.Shelf.Small.Bits
import Derived.Shelf.Small.Strs
import Derived.Shelf.Small.Wraps
import Derived.Shelf.Strconv.Itoa0
import Derived.Shelf.Strconv.Itoa1
import Derived.Shelf.LaysM
import Derived.Shelf.Strconv.Itoa2
import Derived.Shelf.Strconv.AppendUint10
import Derived.Shelf.Strconv.AppendInt10
import Derived.Shelf.Strconv.AppendIntPublic10
import Derived.Shelf.Slices.Turned
import Derived.Ground.Names2Prog
import Derived.Shelf.Slices.SearchI
import Derived.Ground.SlgnProg
import Derived.Shelf.SlicesE.Clone
import Derived.Test.YtjcofbkhoeockaaGreatDoorProg
import Derived.Shelf.Lay
import Derived.Shelf.LaySoft
import Derived.Lib.RowBridge
import Derived.Lib.QuietBelow
import Derived.Sort.AssemblyPlain
import Derived.BigQuiet
import Derived.Lib.SliceRun
import Derived.Lib.AppendZeros
import Derived.Laws.Append
import Derived.Lib.Strings
import Derived.Deep.QuietTactic
set_option linter.unusedVariables false
set_option linter.unusedSimpArgs false
namespace Go.Proofs.YtjcofbkhoeockaaGreatDoor
open _root_.Option renaming some->Aa,none->Af,map_eq_some_iff->Au,some->AV,map_some->Br,getD_some->BK,bind_eq_some_iff->Cd
open _root_.Bool renaming true->Ab,false->Ae,and_eq_true->AD,false_eq_true->AK,not_eq_true'->Bj,or_eq_true->Bl,true_and->BU,false_and->BV
open _root_.List renaming length->Ad,getD->Ag,map->Ah,drop->Am,take->As,replicate->Az,getElem?_eq_getElem->AA,headD->AB,set->AG,getD_eq_getElem?_getD->AI,range->AO,getElem?_eq_some_iff->AT,length_take->AU,eq_nil_of_length_eq_zero->A0,drop_zero->A1,take_of_length_le->A2,getElem?_take->A3,mem_cons->A6,take_succ_eq_append_getElem->A7,length_append->Bb,mem_cons_self->Bh,all_eq_true->Bi,map_cons->Bm,length_nil->Bq,take_append_drop->Bs,mem_cons_of_mem->Bt,map_nil->Bw,length_set->Bx,drop_eq_getElem_cons->By,length_map->Bz,getElem_mem->BC,mem_of_getElem?->BD,ext_getElem?->BE,getElem?_eq_none->BH,take_length->BI,drop_of_length_le->BJ,getElem?_append_left->BM,replicate_succ->BP,mem_append_left->BR,mem_append_right->BS,flatten_cons->BW,cons_append->BX,nil_append->BY,length_drop->BZ,length_cons->B5,drop_length->B_,getElem?_append_right->Cc
open _root_.Go.Proofs.Tryz renaming prog->Ai
open _root_.Inhabited renaming default->Aj
open _root_.Nat renaming le_refl->Ak,zero_le->AP,mul_one->AS,lt_or_ge->AY,strongRecOn->A4,add_zero->A8,zero_add->A9,lt_trichotomy->Ba,le_of_ble_eq_true->BQ,min_eq_left->B6,shiftRight_eq_div_pow->B7,lt_of_lt_of_le->B8
open D renaming val->Al,row->Ao,osl->Ap,agg->AM
open Value renaming int->An,bool->AL,string->A_,okWide->Bv,ownBlock->BB
open Bk renaming mk->Aq
open _root_.Prod renaming mk->Ar
open Lib renaming compareBytes->Aw,run_eql_slice_nil->AR
open _root_.Array renaming getElem?_eq_some_iff->Ax,replicate->A5,toArray_toList->Bo,size_setIfInBounds->BL,getD_eq_getD_getElem?->BN,getElem?_replicate->BO
open _root_.Int renaming toNat->Ay,toNat_natCast->AQ,fdiv->AX
open Kd renaming plain->AC
open BeLe renaming refl->AE
open IntKind renaming u64->AF,i64->AH,u32->AW,bits->BF,signed->BG,wrap->BT
open Kp renaming refl->AJ
open Stp renaming refl->AN
open RelT renaming mono->AZ
open OwnRel renaming mono->Bc,same->Bf
open _root_.BitVec renaming ofInt->Bn
open Ext renaming refl->Bp
open World renaming ownsRow_made->BA,cells?_some->B3
open Digs renaming replicate->B9
open _root_.ByteArray renaming mk->Cb,toList_eq->Ce
section
open Go.RowKit
section
variable {P : Program} {T : Par} {ops : Array Oper} {ord : List Nat} {W : Nat → Nat → Bool} {Lt : Nat → List Nat} {S : Nat → List D} {R : Nat → List Bk} {Q : Exit → Act → World → Prop}
def LateAt(P:Program)(T:Par)(ops:Array Oper)(W:Nat->Nat->Bool)(S:Nat->List D)(R:Nat->List Bk)(s i:Nat):Prop:=∃o n,ops[i]?=Aa o/\isE T o.op=Ae/\zDx o.op=Ae/\o.guard=Af/\(∀d,o.dst=Aa d->d∉o.looksAt ops)/\
 (∀(j:Nat)(oj:Oper)(d:Nat),ops[j]?=Aa oj->i≠j->oj.dst=Aa d->d∈o.looksAt ops->W i j=Ab)/\zFq P T ops o n (S s) (R s)
structure Inv(P:Program)(T:Par)(ops:Array Oper)(ord:List Nat)(W:Nat->Nat->Bool)(S:Nat->List D)(R:Nat->List Bk)(β0:Be)(I0:Im)(w0:World)(df:List Deferred)(s t:Nat)(listed:Array Bool)(a:Act)(w:World):Prop where
 size:listed.size=ops.size
 cl:Closed .any ops listed
 tn:t<=ops.size
 seg:Seg P T ops ord S R s t
 lo:∀p i,p<s->ord[p]?=Aa i->¬Ls listed i->LateAt P T ops W S R s i
 hi:∀p i,t<=p->ord[p]?=Aa i->¬Ls listed i
 atT:t=ops.size\/∃i o,ord[t]?=Aa i/\ops[i]?=Aa o/\isE T o.op=Ab
 df:a.defers=df
 mo:∀p i,p<s->ord[p]?=Aa i->¬Ls listed i->∀q,p<=q->q<s->(R q).length<=(R (q+1)).length
 ex:∃β I SL,RelT I w β SL a.tmps.toList/\SL.length=(S s).length/\
  (∀x,(∀p i o,s<=p->p<t->ord[p]?=Aa i->Ls listed i->ops[i]?=Aa o->o.dst≠Aa x)->(∀p i o,p<s->ord[p]?=Aa i->¬Ls listed i->ops[i]?=Aa o->o.dst≠Aa x)->SL[x]?=(S s)[x]?)/\
  (∀p i o x,s<=p->p<t->ord[p]?=Aa i->Ls listed i->ops[i]?=Aa o->o.dst=Aa x->SL[x]?=(S (p+1))[x]?)/\
  (∀k b c,β k=Aa (b,c)->∃e,(R t)[k]?=Aa e/\OwnRel I w β b c e)/\Inj β/\FZ β I (R t)/\ImB I w/\(Stp β0 I0 w0 β I w/\Kp T β0 β)/\
  (∀k x,β k=Aa x->k<(R s).length\/∃p i,s<=p/\p<t/\ord[p]?=Aa i/\Ls listed i/\(R p).length<=k/\k<(R (p+1)).length)/\
  (∀p i,p<s->ord[p]?=Aa i->¬Ls listed i->∀k,(R p).length<=k->k<(R (p+1)).length->β k=Af)
variable {β0 : Be} {I0 : Im} {w0 : World} {df : List Deferred} {s t : Nat} {listed : Array Bool} {a : Act} {w : World}
theorem op_at(F:RegF T ops ord W Lt){i:Nat}{o:Oper}(ho:ops[i]?=Aa o):ord[pos ord i]?=Aa i/\pos ord i<ops.size:=by
 have hi:i∈ord:=(F.mem i).1 (Ax.1 ho).1
 have:=zP4 hi
 rw[F.len]at this;exact this
theorem Inv.place(F:RegF T ops ord W Lt)(h:Inv P T ops ord W S R β0 I0 w0 df s t listed a w){i:Nat}(hr:i∈Region.ready .any ops listed):∃o,ops[i]?=Aa o/\ord[pos ord i]?=Aa i/\(pos ord i<t\/pos ord i=t):=by
 obtain⟨hn,o,ho,hd⟩:=(zCx h.size).1 hr;obtain⟨hp,hlt⟩:=op_at F ho;refine⟨o,ho,hp,?_⟩
 ·rcases Ba (pos ord i) t with h1|h1|h1
  ·exact .inl h1
  ·exact .inr h1
  exfalso;rcases h.atT with h2|⟨j,oj,j1,j2,j3⟩
  ·omega
  have hpj:pos ord j=t:=zB0 F.nodup j1;have hne:j≠i:=λe=>by rw[e]at hpj;omega
  obtain⟨d,d1,d2⟩:=F.eff2 j i oj o j2 ho hne j3 (by omega);have hod:d<ops.size:=(F.dep i o ho d d1).1;have hpd:=zP4 ((F.mem d).1 hod);exact h.hi _ d (by omega) hpd.1 (hd d d1)
theorem Inv.look(F:RegF T ops ord W Lt)(h:Inv P T ops ord W S R β0 I0 w0 df s t listed a w){i:Nat}{o:Oper}(ho:ops[i]?=Aa o)(hn:¬Ls listed i)(hd:∀d∈deps o,Ls listed d)(h1:s<=pos ord i)(h2:pos ord i<t){SL:List D}
  (k1:SL.length=(S s).length)(k2:∀x,(∀p i o,s<=p->p<t->ord[p]?=Aa i->Ls listed i->ops[i]?=Aa o->o.dst≠Aa x)->(∀p i o,p<s->ord[p]?=Aa i->¬Ls listed i->ops[i]?=Aa o->o.dst≠Aa x)->SL[x]?=(S s)[x]?)
  (k3:∀p i o x,s<=p->p<t->ord[p]?=Aa i->Ls listed i->ops[i]?=Aa o->o.dst=Aa x->SL[x]?=(S (p+1))[x]?):
  ∀x∈o.looksAt ops,SL.getD x .unk=(S (pos ord i)).getD x .unk:=by
 intro x hx;have goal:SL[x]?=(S (pos ord i))[x]?:=by
  by_cases hw:∃p j oj,s<=p/\p<t/\ord[p]?=Aa j/\Ls listed j/\ops[j]?=Aa oj/\oj.dst=Aa x
  ·obtain⟨p,j,oj,a1,a2,a3,a4,a5,a6⟩:=hw;rw[k3 p j oj x a1 a2 a3 a4 a5 a6];have hpj:pos ord j=p:=zB0 F.nodup a3;have hne:i≠j:=λe=>hn (e▸a4);have hlt:p<pos ord i:=by
    rcases F.haz i j o oj x ho a5 hne a6 hx with hz|hz
    ·grind [AY,pos,zM9,Ax]
    exact absurd (zC6 F h.cl j oj i a5 (Ax.1 ho).1 (zMz h.cl a5 a4) hz) hn
   refine((h.seg.slot' (by omega) (show p+1<=pos ord i by omega) (by omega)).2 x λr k ok b1 b2 b3 b4 b5=>?_).symm;have hpk:pos ord k=r:=zB0 F.nodup b3;have hkj:k≠j:=λe=>by rw[e,hpj]at hpk;omega
   exact F.dst k j ok oj x b4 a5 hkj b5 a6
  rw[k2 x (λp j oj a1 a2 a3 a4 a5 a6=>hw ⟨p,j,oj,a1,a2,a3,a4,a5,a6⟩) (λp j oj a1 a2 a3 a4 a5=>by
   have hpj:pos ord j=p:=zB0 F.nodup a2;have hne:i≠j:=λe=>by rw[<-e]at hpj;omega
   rcases F.haz i j o oj x ho a4 hne a5 hx with hz|hz
   ·exact a3 (zC6 F h.cl i o j ho (Ax.1 a4).1 hd hz)
   have:=zM9 F j oj i a4 (Ax.1 ho).1 hz
   omega)]
  refine((h.seg.slot' (Ak _) h1 (by omega)).2 x λr k ok b1 b2 b3 b4 b5=>?_).symm;have hpk:pos ord k=r:=zB0 F.nodup b3;have hne:i≠k:=λe=>by rw[<-e]at hpk;omega
  rcases F.haz i k o ok x ho b4 hne b5 hx with hz|hz
  ·have:Ls listed k:=zC6 F h.cl i o k ho (Ax.1 b4).1 hd hz;grind
  have:=zM9 F k ok i b4 (Ax.1 ho).1 hz
  omega
 grind
theorem Inv.lookL(F:RegF T ops ord W Lt)(h:Inv P T ops ord W S R β0 I0 w0 df s t listed a w){i:Nat}{o:Oper}(ho:ops[i]?=Aa o)(hn:¬Ls listed i)(hd:∀d∈deps o,Ls listed d)(h1:pos ord i<s)(hself:∀d,o.dst=Aa d->d∉o.looksAt ops)
  (hlate:∀(j:Nat)(oj:Oper)(d:Nat),ops[j]?=Aa oj->i≠j->oj.dst=Aa d->d∈o.looksAt ops->W i j=Ab){SL:List D}
  (k2:∀x,(∀p i o,s<=p->p<t->ord[p]?=Aa i->Ls listed i->ops[i]?=Aa o->o.dst≠Aa x)->(∀p i o,p<s->ord[p]?=Aa i->¬Ls listed i->ops[i]?=Aa o->o.dst≠Aa x)->SL[x]?=(S s)[x]?):
  ∀x∈o.looksAt ops,SL.getD x .unk=(S s).getD x .unk:=by
 intro x hx;rw[AI,AI,k2 x (λp j oj a1 a2 a3 a4 a5 a6=>?_) (λp j oj a1 a2 a3 a4 a5=>?_)]
 ·have hpj:pos ord j=p:=zB0 F.nodup a3;have hne:i≠j:=λe=>by rw[<-e]at hpj;omega
  have:=zM9 F i o j ho (Ax.1 a5).1 (hlate j oj x a5 hne a6 hx)
  omega
 by_cases hne:i=j
 ·grind
 exact a3 (zC6 F h.cl i o j ho (Ax.1 a4).1 hd (hlate j oj x a4 hne a5 hx))
theorem Inv.grow(h:Inv P T ops ord W S R β0 I0 w0 df s t listed a w){p i:Nat}(hp:p<s)(hi:ord[p]?=Aa i)(hn:¬Ls listed i):∀m q,p<=q->q+m<=s->(R q).length<=(R (q+m)).length:=by
 intro m;induction m with
 |zero=>intro q _ _;exact Ak _
 |succ m ih=>
  intro q hq hm;have h1:=ih q hq (by omega);have h2:=h.mo p i hp hi hn (q+m) (by omega) (by omega);grind
theorem Inv.grow'(h:Inv P T ops ord W S R β0 I0 w0 df s t listed a w){p i q r:Nat}(hp:p<s)(hi:ord[p]?=Aa i)(hn:¬Ls listed i)(h1:p<=q)(h2:q<=r)(h3:r<=s):(R q).length<=(R r).length:=by
 have:=h.grow hp hi hn (r-q) q h1 (by omega)
 grind
theorem Inv.next(F:RegF T ops ord W Lt)(h:Inv P T ops ord W S R β0 I0 w0 df s t listed a w){i:Nat}{o:Oper}(hr:i∈Region.ready .any ops listed)(ho:ops[i]?=Aa o)(h1:s<=pos ord i)(h2:pos ord i<t){β:Be}{I:Im}{SL:List D}
  (k0:RelT I w β SL a.tmps.toList)(k1:SL.length=(S s).length)(k2:∀x,(∀p i o,s<=p->p<t->ord[p]?=Aa i->Ls listed i->ops[i]?=Aa o->o.dst≠Aa x)->(∀p i o,p<s->ord[p]?=Aa i->¬Ls listed i->ops[i]?=Aa o->o.dst≠Aa x)->SL[x]?=(S s)[x]?)
  (k3:∀p i o x,s<=p->p<t->ord[p]?=Aa i->Ls listed i->ops[i]?=Aa o->o.dst=Aa x->SL[x]?=(S (p+1))[x]?)
  (k4:∀k b c,β k=Aa (b,c)->∃e,(R t)[k]?=Aa e/\OwnRel I w β b c e)(k5:Inj β)(k6:FZ β I (R t))(k7:ImB I w)(k8:Stp β0 I0 w0 β I w/\Kp T β0 β)
  (k9:∀k x,β k=Aa x->k<(R s).length\/∃p i,s<=p/\p<t/\ord[p]?=Aa i/\Ls listed i/\(R p).length<=k/\k<(R (p+1)).length)
  (k10:∀p i,p<s->ord[p]?=Aa i->¬Ls listed i->∀k,(R p).length<=k->k<(R (p+1)).length->β k=Af)
  {d:D}{fz:List Nat}{news:List Bk}{β':Be}{I':Im}{w':World}{v:Value}(e1:S (pos ord i+1)=putD (S (pos ord i)) o.dst d)(e2:R (pos ord i+1)=zAz (R (pos ord i)) fz++news)
  (hout:OutN β I w (R (pos ord i)) news fz β' I' w')(hd:Rel I' w' β' d v):Inv P T ops ord W S R β0 I0 w0 df s t (listed.setIfInBounds i Ab) (a.put o.dst v) w':=by
 have hisz:i<listed.size:=by rw[h.size];exact(Ax.1 ho).1
 have hls:∀j,Ls (listed.setIfInBounds i Ab) j↔j=i\/Ls listed j:=λj=>ls_set hisz;have hpi:ord[pos ord i]?=Aa i:=(op_at F ho).1;have hnl:¬Ls listed i:=((zCx h.size).1 hr).1;have hfr:∀k,(R (pos ord i)).length<=k->k<(R (pos ord i+1)).length->β k=none:=by
  intro k hk1 hk2;cases hb:β k with
  |none=>rfl
  | some x=>
   exfalso;rcases k9 k x hb with h3|⟨p,j,a1,a2,a3,a4,a5,a6⟩
   ·have:=(h.seg.store' (Ak _) h1 (by omega)).1
    omega
   rcases Ba p (pos ord i)with h3|h3|h3
   ·have:=(h.seg.store' (show s<=p+1 by omega) (show p+1<=pos ord i by omega) (by omega)).1
    omega
   ·grind
   have:=(h.seg.store' (show s<=pos ord i+1 by omega) (show pos ord i+1<=p by omega) (by omega)).1
   omega
 have hlen:(R (pos ord i+1)).length=(R (pos ord i)).length+news.length:=by rw[e2,Bb,zS]
 have hle:BeLe β β':=λk x hk=>by
  rw[hout.be k ?_];all_goals grind
 have oldlt:∀k b c,β k=Aa (b,c)->b<w.heap.size:=λk b c hk=>by
  obtain⟨e,_,h2⟩:=k4 k b c hk;exact h2.lt
 have cs:∀k b c,β' k=Aa (b,c)->β k=Aa (b,c)\/((R (pos ord i)).length<=k/\k<(R (pos ord i)).length+news.length):=by
  intro k b c hk;rcases AY k (R (pos ord i)).length with h3|h3
  ·left;rw[<-hout.be k (.inl h3)];exact hk
  rcases AY k ((R (pos ord i)).length+news.length)with h4|h4
  ·exact .inr ⟨h3,h4⟩
  left;rw[<-hout.be k (.inr h4)];exact hk
 have newE:∀k e,(R (pos ord i)).length<=k->news[k-(R (pos ord i)).length]?=Aa e->∃e',(R t)[k]?=Aa e'/\SameB e e':=by
  intro k e hk he;refine(h.seg.store' (show s<=pos ord i+1 by omega) (show pos ord i+1<=t by omega) (Ak _)).2 k e ?_;grind [Cc,zS]
 have hstp:Stp β I w β' I' w':=⟨hout.fix,hout.ext.size,λb hb _=>Below.block hout.ext.1 b hb,Below.os hout.ext.1,Below.tape hout.ext.1,Below.output hout.ext.1,hout.ext.2,λk b c hk=>by
   rcases cs k b c hk with h3|⟨h3,h4⟩
   ·exact .inl ⟨k,c,h3⟩
   ·exact .inr (hout.nb k b c h3 h4 hk).1,λb o' hi=>by
   rcases hout.im b o' hi with(hi|⟨k',_,c',_,m1,_⟩)|hi
   ·exact .inl hi
   ·exact .inr (.inr ⟨k',c',m1⟩)
   exact .inr (.inl hi)⟩
 refine⟨by rw[BL];exact h.size,h.cl.set hr,h.tn,h.seg,λp j hp hj hl=>h.lo p j hp hj (λk=>hl ((hls j).2 (.inr k))),λp j hp hj hl=>?_,h.atT,by rw[zAt];exact h.df,λp j hp hj hl=>h.mo p j hp hj (λk=>hl ((hls j).2 (.inr k))),β',I',putD SL o.dst d,zF1 (AZ hout.fix β β' hle _ _ k0) hd o.dst,by rw[zG6,k1],λx hx hx2=>?_,λp j oj x a1 a2 a3 a4 a5 a6=>?_,λk b c hk=>?_,λk k' b c c' hk hk'=>?_,λk b c j e hk he hj=>?_,hout.imb k7,⟨k8.1.trans hstp,k8.2.trans hle.kp⟩,λk x hk=>?_,λp j hp hj hl k c1 c2=>?_⟩
 ·rcases(hls j).1 hl with rfl|hl
  ·have:=zB0 F.nodup hj
   omega
  exact h.hi p j hp hj hl
 ·grind [pos,zDc,zB0]
 ·rcases(hls j).1 a4 with rfl|a4
  ·rw[ho]at a5;cases a5;have hp:=zB0 F.nodup a3;subst hp;rw[e1,a6];simp only[putD];have hl2:(S (pos ord j)).length=SL.length:=by rw[k1];exact(h.seg.slot' (Ak _) h1 (by omega)).1
   grind
  have hne:o.dst≠Aa x:=λe=>F.dst j i oj o x a5 ho (λe=>hnl (e▸a4)) a6 e;grind [zDc]
 ·rcases cs k b c hk with h3|⟨h3,h4⟩
  ·obtain⟨e,m1,m2⟩:=k4 k b c h3;exact⟨e,m1,Bc m2 (Below.block hout.ext.1 b (oldlt k b c h3)) hout.fix hle⟩
  obtain⟨_,e,m1,m2,_⟩:=hout.nb k b c h3 h4 hk;grind [Bf]
 ·rcases cs k b c hk with h3|⟨h3,h4⟩<;>rcases cs k' b c' hk' with h5|⟨h5,h6⟩
  ·exact k5 k k' b c c' h3 h5
  ·have:=oldlt _ _ _ h3
   have:=(hout.nb k' b c' h5 h6 hk').1
   omega
  ·have:=oldlt _ _ _ h5
   have:=(hout.nb k b c h3 h4 hk).1
   omega
  exact hout.inj k k' b c c' h3 h4 h5 h6 hk hk'
 ·rcases cs k b c hk with h3|⟨h3,h4⟩
  ·have hlt:=oldlt _ _ _ h3;rcases hout.im b j hj with(hi|⟨k',hk',c',e',m1,m2,m3⟩)|hi
   ·exact k6 k b c j e h3 he hi
   ·have:=k5 k' k b c' c m1 h3
    subst this;obtain⟨e1',n1,n2⟩:=(h.seg.store' (show s<=pos ord i+1 by omega) (show pos ord i+1<=t by omega) (Ak _)).2 k' {e' with fz:=Ab} (by
     rw[e2,BM (by rw[zS];exact(AT.1 m2).1),zBw,m2];simp[hk'])
    rw[he]at n1;cases n1;exact⟨n2.2.2.2.2.2 rfl,by rw[n2.1,n2.2.2.2.2.1];exact m3⟩
   omega
  obtain⟨_,e',m1,_,m3⟩:=hout.nb k b c h3 h4 hk;obtain⟨e'',n1,n2⟩:=newE k e' h3 m1;rw[he]at n1;cases n1;exact⟨n2.2.2.2.2.2 (m3 j hj).1,by rw[n2.1,n2.2.2.2.2.1];exact(m3 j hj).2⟩
 ·obtain⟨b,c⟩:=x;rcases cs k b c hk with h3|⟨h3,h4⟩;all_goals grind
 have hl':¬Ls listed j:=λk=>hl ((hls j).2 (.inr k));have g1:=h.grow' hp hj hl' (show p<=p+1 by omega) (show p+1<=s by omega) (Ak _);have g2:=(h.seg.store' (Ak _) h1 (by omega)).1;rw[hout.be k (.inl (by omega))];exact k10 p j hp hj hl' k c1 c2
theorem zXo(F:RegF T ops ord W Lt)(htr:∀(p:Nat) i o,ord[p]?=Aa i->ops[i]?=Aa o->zCe P T ops o (S p) (R p) (Eqs (S (p+1)) (R (p+1))))(hall:∀q,q<ord.length->∃i o,ord[q]?=Aa i/\ops[i]?=Aa o){p i n x:Nat}{o:Oper}{b:Bk}{d:D}{q:Prop}{fz:List Nat}(hp:p<s)(hs:s<=ord.length)(hi:ord[p]?=Aa i)(ho:ops[i]?=Aa o)(hE:isE T o.op=Ae)(hl:zP T o.op=Ae)
  (hd:o.dst=Aa x)(he:aeff P T o.op o.type (evD (S s)) ((R s).take n)= .new q b d fz)(hx:(S s)[x]?=Aa d)(hn:n<(R s).length):(R p).length=n/\(R (p+1)).length=n+1:=by
 obtain⟨k1,k2⟩:=zQc he hl hE;have hlen:((R s).take n).length=n:=by rw[AU];omega
 rw[hlen]at k1;have later:∀m,p+1+m<=s->(S (p+1+m))[x]?=(S (p+1))[x]?\/(S (p+1+m))[x]?=Aa .unk\/∃cs n,(S (p+1+m))[x]?=Aa (.row cs n):=by
  intro m;induction m with
  |zero=>intro _;exact .inl rfl
  | succ m ih=>
   intro hm;obtain⟨j,oj,j1,j2⟩:=hall (p+1+m) (by omega);have hne:oj.dst≠Aa x:=λe=>by
    have e1:=zB0 F.nodup hi;have e2:=zB0 F.nodup j1;exact F.dst i j o oj x ho j2 (λe=>by rw[e]at e1;omega) hd e
   grind [step_slot]
 have hx1:(S (p+1))[x]?=Aa d:=by
  have:=later (s-(p+1)) (by omega)
  grind
 rcases zRh hE (htr p i o hi ho)with⟨_,d',fz',news,n1,n2,n3⟩|⟨_,n2,n3⟩
 ·have hd':d'=d:=by
   rw[n2,hd]at hx1;simp only[putD]at hx1;grind
  cases n1<;>grind [zQc,Bb,zS]
 exfalso;rw[n2,hd]at hx1;simp only[putD]at hx1;grind
theorem call_kind{o:Op}{ty:TypeId}{ρ:Operand->D}{st:List Bk}{f:FuncId}{xs:List D}{ks:List Nat}(h:aeff P T o ty ρ st= .call f xs ks)(hl:zP T o=Ae)(hE:isE T o=Ae):zDx o=true:=by
 cases o<;>simp only[zP,Bool.true_eq_false]at hl<;>simp only[isE,Bool.true_eq_false,reduceCtorEq]at hE<;>simp only[aeff,reduceCtorEq]at h;case alloc=>split at h<;>cases h
 case box=>split at h<;>cases h
 case buildSlice=>rcases zFo h with h|⟨_,_,_,_,h⟩<;>cases h
 case makeSlice=>rcases zFc h with h|⟨_,_,_,_,h⟩<;>cases h
 case makeMap=>split at h<;>cases h
 case lookup=>rcases zF6 h with h|⟨_,_,h⟩<;>cases h
 case convert=>
  split at h
  ·rcases zGp h with h|⟨_,_,h⟩<;>cases h
  simp only[Bool.not_eq_false']at hl;rename_i hne;exact absurd hl hne
 case load=>
  split at h
  ·rcases zEf h with h|⟨_,_,h⟩<;>cases h
  ·split at h
   ·split at h
    ·cases h
    rcases zEf h with h|⟨_,_,h⟩<;>cases h
   cases h
  cases h
 case call c=>
  obtain⟨callee,args,ts⟩:=c;split at h
  ·split at h
   ·split at h
    ·rcases zH4 h with h|⟨_,_,h⟩<;>cases h
    unfold aLen at h;split at h<;>first|cases h|(split at h<;>cases h)
   cases h
  ·split at h<;>cases h
  ·split at h<;>cases h
  ·rename_i hc;subst hc;simp at hE
  ·split at h
   ·rcases zDb h with h|⟨_,_,_,_,h⟩<;>cases h
   cases h
  ·split at h
   ·rcases zCt h with h|⟨_,_,_,_,h⟩<;>cases h
   cases h
  ·cases h
  ·rename_i hc;subst hc;rfl
  rename_i hc;subst hc;rfl
theorem zVb{o:Oper}(hg:o.guard=Af)(sl:List D):gv ops o sl=Aa true:=by simp[gv,hg]
theorem zJw{o:Oper}{n:Nat}{sl:List D}{st:List Bk}(hg:o.guard=Af)(h:zFq P T ops o n sl st):∃d news,NF P T o (evD sl) (st.take n) d [] news/\(∀x,o.dst=Aa x->sl[x]?=Aa d)/\
  (news=[]\/∃b e x q fz,news=[b]/\st[n]?=Aa e/\SameB b e/\zP T o.op=Ae/\o.dst=Aa x/\sl[x]?=Aa d/\aeff P T o.op o.type (evD sl) (st.take n)= .new q b d fz):=by
 unfold zFq at h;rw[zVb hg]at h;simp only at h;split at h
 ·rename_i p d he;exact⟨d,[], .lit he h.1 h.2.1,h.2.2, .inl rfl⟩
 ·rename_i p d he;exact⟨d,[], .get he h.1 h.2.1,h.2.2, .inl rfl⟩
 ·rename_i p b d fz he;obtain⟨h1,h2,rfl,⟨x,hx,hd⟩,e,h3,h4⟩:=h;exact⟨d,[b], .new he h1 h2,λy hy=>by rw[hx]at hy;cases hy;exact hd, .inr ⟨b,e,x,p,[],rfl,h3,h4,h1,hx,hd,he⟩⟩
 exact h.elim
theorem zZc(F:RegF T ops ord W Lt)(htr:∀(p:Nat) i o,ord[p]?=Aa i->ops[i]?=Aa o->zCe P T ops o (S p) (R p) (Eqs (S (p+1)) (R (p+1))))(hall:∀q,q<ord.length->∃i o,ord[q]?=Aa i/\ops[i]?=Aa o){p i n:Nat}{o:Oper}(hp:p<s)(hs:s<=ord.length)(hi:ord[p]?=Aa i)(ho:ops[i]?=Aa o)(hE:isE T o.op=Ae)(hc:zDx o.op=Ae)(hg:o.guard=Af)
  (hl:zFq P T ops o n (S s) (R s)):(R (p+1)).length=(R p).length\/((R p).length=n/\(R (p+1)).length=n+1):=by
 obtain⟨d,news,h1,h2,h3⟩:=zJw hg hl;rcases zRh hE (htr p i o hi ho)with⟨_,d',fz',news',n1,n2,n3⟩|⟨g1,_⟩
 ·cases n1 with
  |lit _ _ _=>left;rw[n3];simp[zS]
  |get _ _ _=>left;rw[n3];simp[zS]
  |call a1 a2 _=>rw[call_kind a1 a2 hE]at hc;cases hc
  | new a1 a2 _=>
   obtain⟨_,k2⟩:=zQc a1 a2 hE;right;rcases h3 with rfl|⟨b,e,x,q,fz,rfl,m1,m2,m3,m4,m5,m6⟩
   ·exfalso;cases h1<;>grind
   exact zXo F htr hall hp hs hi ho hE m3 m4 m6 m5 (AT.1 m1).1
 grind
theorem Inv.nextL(F:RegF T ops ord W Lt)(h:Inv P T ops ord W S R β0 I0 w0 df s t listed a w){i:Nat}{o:Oper}(hr:i∈Region.ready .any ops listed)(ho:ops[i]?=Aa o)(h1:pos ord i<s){β:Be}{I:Im}{SL:List D}
  (k0:RelT I w β SL a.tmps.toList)(k1:SL.length=(S s).length)(k2:∀x,(∀p i o,s<=p->p<t->ord[p]?=Aa i->Ls listed i->ops[i]?=Aa o->o.dst≠Aa x)->(∀p i o,p<s->ord[p]?=Aa i->¬Ls listed i->ops[i]?=Aa o->o.dst≠Aa x)->SL[x]?=(S s)[x]?)
  (k3:∀p i o x,s<=p->p<t->ord[p]?=Aa i->Ls listed i->ops[i]?=Aa o->o.dst=Aa x->SL[x]?=(S (p+1))[x]?)
  (k4:∀k b c,β k=Aa (b,c)->∃e,(R t)[k]?=Aa e/\OwnRel I w β b c e)(k5:Inj β)(k6:FZ β I (R t))(k7:ImB I w)(k8:Stp β0 I0 w0 β I w/\Kp T β0 β)
  (k9:∀k x,β k=Aa x->k<(R s).length\/∃p i,s<=p/\p<t/\ord[p]?=Aa i/\Ls listed i/\(R p).length<=k/\k<(R (p+1)).length)
  (k10:∀p i,p<s->ord[p]?=Aa i->¬Ls listed i->∀k,(R p).length<=k->k<(R (p+1)).length->β k=Af)
  {n:Nat}{d:D}{news:List Bk}{β':Be}{I':Im}{w':World}{v:Value}(e1:∀x,o.dst=Aa x->(S s)[x]?=Aa d)
  (hnews:news=[]\/∃b e,news=[b]/\(R s)[n]?=Aa e/\SameB b e/\(R (pos ord i)).length=n/\(R (pos ord i+1)).length=n+1)
  (hout:OutN β I w ((R s).take n) news [] β' I' w')(hd:Rel I' w' β' d v):Inv P T ops ord W S R β0 I0 w0 df s t (listed.setIfInBounds i Ab) (a.put o.dst v) w':=by
 have hisz:i<listed.size:=by rw[h.size];exact(Ax.1 ho).1
 have hls:∀j,Ls (listed.setIfInBounds i Ab) j↔j=i\/Ls listed j:=λj=>ls_set hisz;have hpi:ord[pos ord i]?=Aa i:=(op_at F ho).1;have hnl:¬Ls listed i:=((zCx h.size).1 hr).1;have cs0:∀k,β' k=β k\/(news≠[]/\k=n/\n<(R s).length):=by
  intro k;rcases hnews with rfl|⟨b,e,rfl,m1,m2,m3,m4⟩
  ·left;refine hout.be k ?_;grind
  have hn:n<(R s).length:=(AT.1 m1).1;have hlen:((R s).take n).length=n:=by rw[AU];omega
  by_cases hk:k=n
  ·grind
  left;refine hout.be k ?_;rw[hlen];simp;omega
 have hfr:news≠[]->β n=none:=λhne=>by
  grind
 have hle:BeLe β β':=λk x hk=>by
  grind
 have oldlt:∀k b c,β k=Aa (b,c)->b<w.heap.size:=λk b c hk=>by
  obtain⟨e,_,h2⟩:=k4 k b c hk;exact h2.lt
 have hnew:∀b c,β' n=Aa (b,c)->news≠[]->w.heap.size<=b/\∃e',(R t)[n]?=Aa e'/\OwnRel I' w' β' b c e'/\∀j,I' b j->e'.fz=Ab/\(e'.kd.isMap=Ab\/j<e'.cells.length):=by
  intro b c hb hne;rcases hnews with rfl|⟨b0,e,rfl,m1,m2,m3,m4⟩
  ·exact absurd rfl hne
  have hn:n<(R s).length:=(AT.1 m1).1;have hlen:((R s).take n).length=n:=by rw[AU];omega
  obtain⟨q1,e2,q2,q3,q4⟩:=hout.nb n b c (by omega) (by rw[hlen];simp) hb;rw[hlen,Nat.sub_self]at q2;simp only[List.getElem?_cons_zero,AV.injEq]at q2;subst q2;obtain⟨e',r1,r2⟩:=(h.seg.store' (Ak _) h.seg.le (Ak _)).2 n e m1;have hs2:=m2.trans r2;refine⟨q1,e',r1,(Bf hs2).1 q3,λj hj=>?_⟩
  have:=q4 j hj
  exact⟨hs2.2.2.2.2.2 this.1,by rw[hs2.1,hs2.2.2.2.2.1];exact this.2⟩
 have cs:∀k b c,β' k=Aa (b,c)->β k=Aa (b,c)\/(news≠[]/\k=n/\n<(R s).length):=λk b c hk=>(cs0 k).imp (λe=>by rw[<-e];exact hk) id;have hI:∀b o',I' b o'->I b o'\/w.heap.size<=b:=λb o' hi=>by
  rcases hout.im b o' hi with(hi|⟨k',hk',_⟩)|hi;all_goals grind
 have hstp:Stp β I w β' I' w':=⟨hout.fix,hout.ext.size,λb hb _=>Below.block hout.ext.1 b hb,Below.os hout.ext.1,Below.tape hout.ext.1,Below.output hout.ext.1,hout.ext.2,λk b c hk=>by
   rcases cs k b c hk with h3|⟨h3,rfl,_⟩
   ·exact .inl ⟨k,c,h3⟩
   exact .inr (hnew b c hk h3).1,λb o' hi=>(hI b o' hi).imp id .inl⟩
 have hlo:∀j,¬Ls (listed.setIfInBounds i Ab) j->¬Ls listed j:=λj hl k=>hl ((hls j).2 (.inr k));refine⟨by rw[BL];exact h.size,h.cl.set hr,h.tn,h.seg,λp j hp hj hl=>h.lo p j hp hj (hlo j hl),λp j hp hj hl=>?_,h.atT,by rw[zAt];exact h.df,λp j hp hj hl=>h.mo p j hp hj (hlo j hl),β',I',putD SL o.dst d,zF1 (AZ hout.fix β β' hle _ _ k0) hd o.dst,by rw[zG6,k1],λx hx hx2=>?_,λp j oj x a1 a2 a3 a4 a5 a6=>?_,λk b c hk=>?_,λk k' b c c' hk hk'=>?_,λk b c j e hk he hj=>?_,hout.imb k7,⟨k8.1.trans hstp,k8.2.trans hle.kp⟩,λk x hk=>?_,λp j hp hj hl k c1 c2=>?_⟩
 ·rcases(hls j).1 hl with rfl|hl
  ·have:=zB0 F.nodup hj
   have:=h.seg.le
   omega
  exact h.hi p j hp hj hl
 ·by_cases hdx:o.dst=Aa x
  ·have h2:=e1 x hdx;rw[h2,hdx];simp only[putD];grind
  grind [zDc]
 ·have hji:j≠i:=λe=>by
   have:=zB0 F.nodup a3
   rw[e]at this;omega
  have a4':Ls listed j:=((hls j).1 a4).resolve_left hji;have hne:o.dst≠Aa x:=λe=>F.dst j i oj o x a5 ho hji a6 e;grind [zDc]
 ·rcases cs k b c hk with h3|⟨h3,rfl,_⟩
  ·obtain⟨e,m1,m2⟩:=k4 k b c h3;exact⟨e,m1,Bc m2 (Below.block hout.ext.1 b (oldlt k b c h3)) hout.fix hle⟩
  grind
 ·rcases cs k b c hk with h3|⟨h3,e3,_⟩<;>rcases cs k' b c' hk' with h5|⟨h5,e5,_⟩
  ·exact k5 k k' b c c' h3 h5
  all_goals grind
 ·rcases cs k b c hk with h3|⟨h3,rfl,_⟩
  ·have hlt:=oldlt _ _ _ h3;rcases hI b j hj with hi|hi
   ·exact k6 k b c j e h3 he hi
   omega
  grind
 ·obtain⟨b,c⟩:=x;rcases cs k b c hk with h3|⟨h3,rfl,h4⟩
  ·rcases k9 k _ h3 with h5|⟨p,j,a1,a2,a3,a4,a5⟩;all_goals grind
  exact .inl h4
 have hl':=hlo j hl;rcases cs0 k with h3|⟨h3,rfl,h4⟩
 ·grind
 exfalso;rcases hnews with rfl|⟨b,e,rfl,m1,m2,m3,m4⟩
 ·exact h3 rfl
 rcases Ba p (pos ord i)with h5|h5|h5
 ·have:=h.grow' hp hj hl' (show p<=p+1 by omega) (show p+1<=pos ord i by omega) (by omega)
  omega
 ·grind
 have:=h.grow' h1 hpi hnl (show pos ord i<=pos ord i+1 by omega) (show pos ord i+1<=p by omega) (by omega)
 omega
def zNg(ops:Array Oper)(ord:List Nat)(listed:Array Bool)(t:Nat):List Nat:=(ord.take t).filterMap λi=>if listed.getD i Ae then Af else(ops[i]?).bind (·.dst)
theorem zEr{x:Nat}:x∈zNg ops ord listed t↔∃p i o,p<t/\ord[p]?=Aa i/\¬Ls listed i/\ops[i]?=Aa o/\o.dst=Aa x:=by
 unfold zNg;rw[List.mem_filterMap];constructor
 ·rintro⟨i,hi,hx⟩;obtain⟨p,hp⟩:=List.mem_iff_getElem?.1 hi;rw[A3]at hp;split at hp
  ·rename_i hlt;split at hx
   ·cases hx
   rename_i hl;obtain⟨o,ho,hd⟩:=Cd.1 hx;exact⟨p,i,o,hlt,hp,hl,ho,hd⟩
  cases hp
 rintro⟨p,i,o,h1,h2,h3,h4,h5⟩;refine⟨i,List.mem_iff_getElem?.2 ⟨p,by rw[A3,if_pos h1];exact h2⟩,?_⟩;grind [Ls]
theorem Inv.full(F:RegF T ops ord W Lt)(hg0:Gl I0 w0)(h:Inv P T ops ord W S R β0 I0 w0 df s t listed a w):∃β I,Sim β I w (unkS (zNg ops ord listed t) (S t)) (R t) a.tmps.toList/\(Stp β0 I0 w0 β I w/\Kp T β0 β)/\
  ∀p i,p<t->ord[p]?=Aa i->¬Ls listed i->∀k,(R p).length<=k->k<(R (p+1)).length->β k=none:=by
 obtain⟨β,I,SL,k0,k1,k2,k3,k4,k5,k6,k7,k8,k9,k10⟩:=h.ex;have hlS:SL.length=(S t).length:=by rw[k1];exact((h.seg.slot' (Ak _) h.seg.le (Ak _)).1).symm
 have hSL:∀x,x∉zNg ops ord listed t->SL[x]?=(S t)[x]?:=by
  intro x hx;by_cases hw:∃p j oj,s<=p/\p<t/\ord[p]?=Aa j/\Ls listed j/\ops[j]?=Aa oj/\oj.dst=Aa x
  ·obtain⟨p,j,oj,a1,a2,a3,a4,a5,a6⟩:=hw;rw[k3 p j oj x a1 a2 a3 a4 a5 a6];have hpj:pos ord j=p:=zB0 F.nodup a3;refine((h.seg.slot' (by omega) (show p+1<=t by omega) (Ak _)).2 x λr k ok b1 b2 b3 b4 b5=>?_).symm;have hpk:pos ord k=r:=zB0 F.nodup b3;have hkj:k≠j:=λe=>by rw[e,hpj]at hpk;omega
   exact F.dst k j ok oj x b4 a5 hkj b5 a6
  rw[k2 x (λp j oj a1 a2 a3 a4 a5 a6=>hw ⟨p,j,oj,a1,a2,a3,a4,a5,a6⟩) (λp j oj a1 a2 a3 a4 a5=>hx (zEr.2 ⟨p,j,oj,by have:=h.seg.le;omega,a2,a3,a4,a5⟩))];refine((h.seg.slot' (Ak _) h.seg.le (Ak _)).2 x λr k ok b1 b2 b3 b4 b5=>?_).symm;grind [Ls,zEr]
 refine⟨β,I,⟨unkS_rel hlS k0 hSL,k4,k5,k6,λk x hk=>?_,k7,hg0.mono k8.1.fix⟩,k8,λp i hp hi hn k c1 c2=>?_⟩
 ·grind
 rcases AY p s with h1|h1
 ·grind
 cases hb:β k with
 |none=>rfl
 | some x=>
  exfalso;rcases k9 k x hb with h3|⟨p',j,a1,a2,a3,a4,a5,a6⟩
  ·have:=(h.seg.store' (Ak _) h1 (by omega)).1
   omega
  rcases Ba p' p with h3|h3|h3
  ·have:=(h.seg.store' (show s<=p'+1 by omega) (show p'+1<=p by omega) (by omega)).1
   omega
  ·grind
  have:=(h.seg.store' (show s<=p+1 by omega) (show p+1<=p' by omega) (by omega)).1
  omega
theorem zW9(htr:∀(p:Nat) i o,ord[p]?=Aa i->ops[i]?=Aa o->zCe P T ops o (S p) (R p) (Eqs (S (p+1)) (R (p+1))))(hop:∀p,p<ops.size->∃i o,ord[p]?=Aa i/\ops[i]?=Aa o):
  ∀n s,s+n=ops.size->∃t,t<=ops.size/\Seg P T ops ord S R s t/\(t=ops.size\/∃i o,ord[t]?=Aa i/\ops[i]?=Aa o/\isE T o.op=Ab):=by
 intro n;induction n with
 |zero=>intro s hs;exact⟨s,by omega,⟨Ak _,λp h1 h2=>by omega⟩, .inl (by omega)⟩
 | succ n ih=>
  intro s hs;obtain⟨i,o,h1,h2⟩:=hop s (by omega);cases hE:isE T o.op with
  |true=>exact⟨s,by omega,⟨Ak _,λp h1 h2=>by omega⟩, .inr ⟨i,o,h1,h2,hE⟩⟩
  |false=>
   obtain⟨t,t1,t2,t3⟩:=ih (s+1) (by omega);refine⟨t,t1,⟨by have:=t2.le;omega,λp p1 p2=>?_⟩,t3⟩;rcases Nat.eq_or_lt_of_le p1 with rfl|p1
   ·grind
   exact t2.step p p1 p2
end
section
variable {P : Program} {T : Par} {ops : Array Oper} {ord : List Nat} {W : Nat → Nat → Bool} {Lt : Nat → List Nat} {S : Nat → List D} {R : Nat → List Bk} {Q : Exit → Act → World → Prop} {K : List D → List Bk → Prop}
variable {β0 : Be} {I0 : Im} {w0 : World} {df : List Deferred}
theorem any_sound(hg0:Gl I0 w0)(hM:zA7 P T)(F:RegF T ops ord W Lt)(hS:ops.size=ord.length)(htr:∀(p:Nat) i o,ord[p]?=Aa i->ops[i]?=Aa o->zCe P T ops o (S p) (R p) (Eqs (S (p+1)) (R (p+1))))(hK:K (S ops.size) (R ops.size))(hL:∀t e,ord[t]?=Aa e->∀i∈Lt e,∃n,zFq P T ops (ops.getD i Aj) n (S (t+1)) (R (t+1))/\(n<(R t).length->zSl (ops.getD e Aj) n (S t))/\(R t).length<=(R (t+1)).length)
  (hP:∀c a w,¬Q (.panic c) a w)(hQ:∀a' w',zZv T K β0 I0 w0 df a' w'->Q .normal a' w'):
  ∀(fuel:Nat)(listed:Array Bool)(a:Act)(w:World)(s t:Nat),Inv P T ops ord W S R β0 I0 w0 df s t listed a w->listed.toList.count Ae<=fuel->wpAny P .any ops Q fuel listed a w:=by
 have hop:∀p,p<ops.size->∃i o,ord[p]?=Aa i/\ops[i]?=Aa o:=λp hp=>by
  have h1:p<ord.length:=by omega
  refine⟨ord[p],ops[ord[p]]'((F.mem _).2 (BC h1)),AA h1,by simp[(F.mem _).2 (BC h1)]⟩
 have finish:∀(listed:Array Bool)(a:Act)(w:World)(s t:Nat),Inv P T ops ord W S R β0 I0 w0 df s t listed a w->Region.ready .any ops listed=[]->Q .normal a w:=by
  intro listed a w s t h hr;have hall:∀i,i<ops.size->Ls listed i:=by
   suffices H:∀n i,pos ord i=n->i<ops.size->Ls listed i from λi=>H _ i rfl
   intro n;induction n using A4 with
   | _ n ih=>
    intro i hn hi;by_cases hl:Ls listed i
    ·exact hl
    exfalso;have:i∈Region.ready .any ops listed:=(zCx h.size).2 ⟨hl,ops[i],by simp[hi],λd hd=>by
     have:=F.dep i ops[i] (by simp[hi]) d hd
     exact ih (pos ord d) (by omega) d rfl this.1⟩
    rw[hr]at this;cases this
  have ht:t=ops.size:=by
   rcases h.atT with h1|⟨i,o,h1,h2,h3⟩
   ·exact h1
   exact absurd (hall i (Ax.1 h2).1) (h.hi t i (Ak _) h1)
  subst ht;obtain⟨β,I,k1,⟨k2,k3⟩,_⟩:=h.full F hg0;have hX:zNg ops ord listed ops.size=[]:=by
   rw[List.eq_nil_iff_forall_not_mem];grind [zEr,Ax]
  rw[hX]at k1;exact hQ a w ⟨_,_,β,I,hK,k1,k2,h.df,k3⟩
 intro fuel;induction fuel with
 | zero=>
  intro listed a w s t h hc;have hr:Region.ready .any ops listed=[]:=by
   cases hx:Region.ready .any ops listed with
   |nil=>rfl
   | cons i l=>
    exfalso;have hi:i∈Region.ready .any ops listed:=by rw[hx];simp
    obtain⟨hn,o,ho,_⟩:=(zCx h.size).1 hi;have hlt:i<listed.size:=by rw[h.size];exact(Ax.1 ho).1
    have:listed.toList[i]?=Aa false:=by
     simp_all [Ls]
    grind
  exact⟨hr,finish listed a w s t h hr⟩
 | succ fuel ih=>
  intro listed a w s t h hc;have hcount:∀i,i∈Region.ready .any ops listed->(listed.setIfInBounds i Ab).toList.count Ae<=fuel:=by
   intro i hi;obtain⟨hn,o,ho,_⟩:=(zCx h.size).1 hi;have hlt:i<listed.size:=by rw[h.size];exact(Ax.1 ho).1
   have h1:listed.toList[i]?=Aa false:=by
    simp_all [Ls]
   grind
  by_cases hlight:∃i o,i∈Region.ready .any ops listed/\ops[i]?=Aa o/\zP T o.op=Ab
  ·obtain⟨i,o,hi,ho,hl⟩:=hlight;obtain⟨o',ho',hpi,hp2⟩:=h.place F hi;rw[ho]at ho';cases ho';obtain⟨hn,o2,ho2,hd⟩:=(zCx h.size).1 hi;rw[ho]at ho2;cases ho2;have hElight:isE T o.op=false:=by
    revert hl;cases o.op<;>simp[zP,isE];grind
   have hlt:pos ord i<t:=by
    rcases hp2 with h1|h1
    ·exact h1
    exfalso;rcases h.atT with h2|⟨j,oj,j1,j2,j3⟩;all_goals grind
   obtain⟨β,I,SL,k0,k1,k2,k3,k4,k5,k6,k7,k8,k9,k10⟩:=h.ex;have first:∀(v:Value),(Region.wanted o (yielded ops a.tmps)=Ab/\(∀W:World,(execOp a.eval o).run P W= .ok (.value v) W))\/(Region.wanted o (yielded ops a.tmps)=Ae/\v=undef)->Inv P T ops ord W S R β0 I0 w0 df s t (listed.setIfInBounds i Ab) (a.put o.dst v) w->wpAny P .any ops Q (fuel+1) listed a w:=by
    intro v hv hinv;refine wpAny_first ho (Region.noSelect_spec F.nosel) (λc a w hx=>absurd hx (hP c _ _)) fuel listed a w (λj oj hj hne hun hno=>?_) hi hv (ih _ _ _ s t hinv (hcount i hi));rcases F.lig i j o oj ho hj (Ne.symm hne) hl with h1|h1|h1
    ·exact h1
    ·grind [zK3]
    exfalso
    have:=zC6 F h.cl i o j ho (Ax.1 hj).1 hd h1
    grind [Ls,Ax]
   rcases AY (pos ord i) s with hls|hp1
   ·obtain⟨o',n,ho',hE',hc',hg',hself,hlate,hok⟩:=h.lo _ i hls hpi hn;rw[ho]at ho';cases ho';have hlook:=h.lookL F ho hn hd hls hself hlate k2;obtain⟨d,news,n1,n2,n3⟩:=zJw hg' hok;obtain⟨_,rfl,v,v1,v2⟩:=(n1.look hlook).light hl k0;exact first v (.inl ⟨zGm (ops:=ops) k0 (zVb hg' SL),v1⟩) (h.nextL (n:=n) F hi ho hls k0 k1 k2 k3 k4 k5 k6 k7 k8 k9 k10 n2 (.inl rfl) (OutN.stay β I w _) v2)
   have hlook:=h.look F ho hn hd hp1 hlt k1 k2 k3;have hst:=zRh hElight (htr (pos ord i) i o hpi ho);rcases hst with⟨g1,d,fz,news,n1,n2,n3⟩|⟨g1,n2,n3⟩
   ·obtain⟨rfl,rfl,v,v1,v2⟩:=(n1.look hlook).light hl k0;have hw:=zGm (ops:=ops) k0 ((zQo hlook).trans g1);exact first v (.inl ⟨hw,v1⟩) (h.next F hi ho hp1 hlt k0 k1 k2 k3 k4 k5 k6 k7 k8 k9 k10 n2 n3 (OutN.stay β I w _) v2)
   have hw:=zGm (ops:=ops) k0 ((zQo hlook).trans g1);exact first undef (.inr ⟨hw,rfl⟩) (h.next (fz:=[]) (news:=[]) F hi ho hp1 hlt k0 k1 k2 k3 k4 k5 k6 k7 k8 k9 k10 n2 (by rw[n3];simp[zAz]) (OutN.stay β I w _) (Rel.valI undef))
  refine⟨finish listed a w s t h,λi hi=>?_⟩;obtain⟨o,ho,hpi,hp2⟩:=h.place F hi;obtain⟨hn,o2,ho2,hd⟩:=(zCx h.size).1 hi;rw[ho]at ho2;cases ho2;have hl:zP T o.op=false:=by
   grind
  have hordl:t<=ord.length:=by rw[<-hS];exact h.tn
  have hop':∀p,p<ord.length->∃i o,ord[p]?=Aa i/\ops[i]?=Aa o:=λp hp=>hop p (by omega);rcases AY (pos ord i) s with hls|hp1
  ·obtain⟨β,I,SL,k0,k1,k2,k3,k4,k5,k6,k7,k8,k9,k10⟩:=h.ex;obtain⟨o',n,ho',hE',hc',hg',hself,hlate,hok⟩:=h.lo _ i hls hpi hn;rw[ho]at ho';cases ho';have hlook:=h.lookL F ho hn hd hls hself hlate k2;obtain⟨d,news,n1,n2,n3⟩:=zJw hg' hok;unfold wpOp;simp only[ho];rw[if_pos (zGm (ops:=ops) k0 (zVb hg' SL))];have hsr:SRw β I w ((R s).take n):=λk b c e hk he=>by
    rw[A3]at he;split at he
    ·obtain⟨e',m1,m2⟩:=k4 k b c hk;obtain⟨e'',n1,n2⟩:=(h.seg.store' (Ak _) h.seg.le (Ak _)).2 k e he;grind [Bf]
    cases he
   have hnum:news=[]\/∃b e,news=[b]/\(R s)[n]?=Aa e/\SameB b e/\(R (pos ord i)).length=n/\(R (pos ord i+1)).length=n+1:=by
    rcases n3 with rfl|⟨b,e,x,q,fz,rfl,m1,m2,m3,m4,m5,m6⟩
    ·exact .inl rfl
    obtain⟨q1,q2⟩:=zXo F htr hop' hls (by have:=h.seg.le;omega) hpi ho hE' m3 m4 m6 m5 (AT.1 m1).1;grind
   have hfr:∀j,j<news.length->β (((R s).take n).length+j)=none:=by
    intro j hj;rcases hnum with rfl|⟨b,e,rfl,m1,m2,q1,q2⟩;all_goals grind
   refine .inl (Oper.wp_mono (λa' w' hx=>?_) ((n1.look hlook).heavy hM hl k0 hsr k7 (hg0.mono k8.1.fix) hfr Q));obtain⟨v,β',I',rfl,o1,o2⟩:=hx;exact ih _ _ _ s t (h.nextL F hi ho hls k0 k1 k2 k3 k4 k5 k6 k7 k8 k9 k10 n2 hnum o1 o2) (hcount i hi)
  rcases hp2 with hlt|hpt
  ·have hE:isE T o.op=false:=by
    obtain⟨j,oj,j1,j2,j3,_⟩:=h.seg.step _ hp1 hlt;grind
   obtain⟨β,I,SL,k0,k1,k2,k3,k4,k5,k6,k7,k8,k9,k10⟩:=h.ex;have hlook:=h.look F ho hn hd hp1 hlt k1 k2 k3;have hst:=zRh hE (htr (pos ord i) i o hpi ho);unfold wpOp;simp only[ho];rcases hst with⟨g1,d,fz,news,n1,n2,n3⟩|⟨g1,n2,n3⟩
   ·rw [if_pos (zGm (ops:=ops) k0 ((zQo hlook).trans g1))];have hsr:SRw β I w (R (pos ord i)):=λk b c e hk he=>by
     obtain⟨e',m1,m2⟩:=k4 k b c hk;obtain⟨e'',n1,n2⟩:=(h.seg.store' hp1 (Nat.le_of_lt hlt) (Ak _)).2 k e he;grind [Bf]
    have hfr:∀j,j<news.length->β ((R (pos ord i)).length+j)=none:=by
     intro j hj;cases hb:β ((R (pos ord i)).length+j)with
     |none=>rfl
     | some x=>
      exfalso;have hlen:(R (pos ord i+1)).length=(R (pos ord i)).length+news.length:=by rw[n3,Bb,zS]
      rcases k9 _ x hb with h3|⟨p,j',a1,a2,a3,a4,a5,a6⟩
      ·have:=(h.seg.store' (Ak _) hp1 (by omega)).1
       omega
      rcases Ba p (pos ord i)with h3|h3|h3
      ·have:=(h.seg.store' (show s<=p+1 by omega) (show p+1<=pos ord i by omega) (by omega)).1
       omega
      ·grind
      have:=(h.seg.store' (show s<=pos ord i+1 by omega) (show pos ord i+1<=p by omega) (by omega)).1
      omega
    refine .inl (Oper.wp_mono (λa' w' hx=>?_) ((n1.look hlook).heavy hM hl k0 hsr k7 (hg0.mono k8.1.fix) hfr Q));obtain⟨v,β',I',rfl,o1,o2⟩:=hx;exact ih _ _ _ s t (h.next F hi ho hp1 hlt k0 k1 k2 k3 k4 k5 k6 k7 k8 k9 k10 n2 n3 o1 o2) (hcount i hi)
   rw[if_neg (by rw[zGm (ops:=ops) k0 ((zQo hlook).trans g1)];simp)];exact ih _ _ _ s t (h.next (fz:=[]) (news:=[]) F hi ho hp1 hlt k0 k1 k2 k3 k4 k5 k6 k7 k8 k9 k10 n2 (by rw[n3];simp[zAz]) (OutN.stay β I w _) (Rel.valI undef)) (hcount i hi)
  have hE:isE T o.op=true:=by
   rcases h.atT with h1|⟨j,oj,j1,j2,j3⟩;all_goals grind
  have hlates:∀x ox,ops[x]?=Aa ox->pos ord x<t->¬Ls listed x->x∈Lt i:=by
   suffices H:∀n x ox,pos ord x=n->ops[x]?=Aa ox->pos ord x<t->¬Ls listed x->x∈Lt i from λx ox=>H _ x ox rfl
   intro n;induction n using A4 with
   | _ n ihx=>
    intro x ox hn hx hp hnx;have hne:i≠x:=λe=>by rw[<-e]at hp;omega
    rcases F.eff1 i x o ox ho hx hne hE (by omega)with h1|h1|⟨h1,h2⟩
    ·exact absurd (zC6 F h.cl i o x ho (Ax.1 hx).1 hd h1) hnx
    ·exact h1
    exfalso;refine hlight ⟨x,ox,(zCx h.size).2 ⟨hnx,ox,hx,λd hd'=>?_⟩,hx,h1⟩;have h3:=F.dep x ox hx d hd';grind
  obtain⟨β,I,sim,⟨stp,kp⟩,hk10⟩:=h.full F hg0;have htlt:t<ops.size:=by rw[<-hpt];exact(op_at F ho).2
  obtain⟨t',t1,t2,t3⟩:=zW9 (P:=P) (T:=T) htr hop (ops.size-(t+1)) (t+1) (by omega);have hls:∀j,Ls (listed.setIfInBounds i Ab) j↔j=i\/Ls listed j:=λj=>ls_set (by rw[h.size];exact(Ax.1 ho).1);have hpi':ord[t]?=Aa i:=hpt▸hpi;have hod:ops.getD i Aj=o:=by simp[ho]
  have hlo:∀j,¬Ls (listed.setIfInBounds i Ab) j->¬Ls listed j/\j≠i:=λj hl=>⟨λk=>hl ((hls j).2 (.inr k)),λk=>hl ((hls j).2 (.inl k))⟩;have hlt':∀p j,p<t+1->ord[p]?=Aa j->¬Ls (listed.setIfInBounds i Ab) j->p<t/\¬Ls listed j/\j∈Lt i:=λp j hp hj hl=>by
   obtain⟨l1,l2⟩:=hlo j hl;have hpt':p<t:=by
    grind
   have hjm:=(F.mem j).2 (BD hj);exact⟨hpt',l1,hlates j ops[j] (by simp[hjm]) (by rw[zB0 F.nodup hj];exact hpt') l1⟩
  have hgrow:∀p j,p<t->ord[p]?=Aa j->¬Ls listed j->∀q,p<=q->q<t->(R q).length<=(R (q+1)).length:=λp j hp hj hl q h1 h2=>by
   rcases AY q s with h3|h3
   ·exact h.mo p j (by omega) hj hl q h1 h3
   exact(h.seg.store' h3 (show q<=q+1 by omega) (by omega)).1
  have hX1:∀x∈o.looksAt ops,x∉zNg ops ord listed t:=λx hx hm=>by
   obtain⟨p,j,oj,m1,m2,m3,m4,m5⟩:=zEr.1 hm;have hpj:pos ord j=p:=zB0 F.nodup m2;have hne:i≠j:=λe=>by rw[<-e]at hpj;omega
   rcases F.haz i j o oj x ho m4 hne m5 hx with hz|hz
   ·exact m3 (zC6 F h.cl i o j ho (Ax.1 m4).1 hd hz)
   have:=zM9 F j oj i m4 (Ax.1 ho).1 hz
   omega
  have hX2:∀x,o.dst=Aa x->x∉zNg ops ord listed t:=λx hx hm=>by
   obtain⟨p,j,oj,m1,m2,m3,m4,m5⟩:=zEr.1 hm;have hpj:pos ord j=p:=zB0 F.nodup m2;exact F.dst i j o oj x ho m4 (λe=>by rw[<-e]at hpj;omega) hx m5
  have cont:∀a' w' β' I',Sim β' I' w' (unkS (zNg ops ord listed t) (S (t+1))) (R (t+1)) a'.tmps.toList->Stp β I w β' I' w'->a'.defers=a.defers->Kp T β β'->(Lt i=[]\/(R t).length<=(R (t+1)).length)->
    (∀p j,p<t->ord[p]?=Aa j->¬Ls listed j->∀k,(R p).length<=k->k<(R (p+1)).length->β' k=Af)->wpAny P .any ops Q fuel (listed.setIfInBounds i Ab) a' w':=by
   intro a' w' β' I' q1 q2 q3 q4 q5 q6;refine ih _ _ _ (t+1) t' ⟨by rw[BL];exact h.size,h.cl.set hi,t1,t2,λp j hp hj hl=>?_,λp j hp hj hl'=>?_,t3,q3.trans h.df,λp j hp hj hl q h1 h2=>?_,β',I',unkS (zNg ops ord listed t) (S (t+1)),q1.rel,zE1 _ _,λx _ hx=>?_,λp j oj x a1 a2 a3 a4 a5 a6=>?_,λk b c hk=>?_,q1.inj,λk b c j e hk he hj=>?_,q1.imb,⟨stp.trans q2,kp.trans q4⟩,λk x hk=> .inl (q1.dom k x hk),λp j hp hj hl k c1 c2=>?_⟩ (hcount i hi)
   ·obtain⟨_,_,l3⟩:=hlt' p j hp hj hl;obtain⟨oj,m1,m2,m3,m4,m5,m6⟩:=F.latE i j l3;obtain⟨n,n1,_⟩:=hL t i hpi' j l3;rw[show ops.getD j Aj=oj by simp[m1]]at n1;exact⟨oj,n,m1,m2,m3,m4,m5,m6,n1⟩
   ·have:=t2.le
    rcases(hls j).1 hl' with rfl|h5
    ·have:=zB0 F.nodup hj;omega
    exact h.hi p j (by omega) hj h5
   ·obtain⟨l1,l2,l3⟩:=hlt' p j hp hj hl;grind
   ·refine zWd λhm=>?_;obtain⟨p,j,oj,m1,m2,m3,m4,m5⟩:=zEr.1 hm;grind
   ·exfalso;rcases(hls j).1 a4 with rfl|h5
    ·have:=zB0 F.nodup a3;omega
    exact h.hi p j (by omega) a3 h5
   ·obtain⟨e,m1,m2⟩:=q1.sr k b c hk;obtain⟨e',n1,n2⟩:=(t2.store' (Ak _) t2.le (Ak _)).2 k e m1;grind [Bf]
   ·obtain⟨e0,m1,m2⟩:=q1.sr k b c hk;obtain⟨e',n1,n2⟩:=(t2.store' (Ak _) t2.le (Ak _)).2 k e0 m1;rw[he]at n1;cases n1
    have:=q1.fz k b c j e0 hk m1 hj
    exact⟨n2.2.2.2.2.2 this.1,by rw[n2.1,n2.2.2.2.2.1];exact this.2⟩
   grind
  have hst0:=htr t i o hpi' ho;have hst:=step_mask hst0 hX1 hX2;unfold wpOp;simp only[ho];rcases zMk (ops:=ops) (N:=Eqs (unkS (zNg ops ord listed t) (S (t+1))) (R (t+1))) sim hst with⟨g1,g2⟩|⟨g1,g2,g3⟩
  ·rw [if_pos g1];cases hcv:zDx o.op with
   | true=>
    have hlen:Lt i=[]\/(R t).length<=(R (t+1)).length:=by
     rcases hx:Lt i with _|⟨j,l⟩
     ·exact .inl rfl
     obtain⟨n,_,_,n3⟩:=hL t i hpi' j (by rw[hx];exact Bh);exact .inr n3
    refine .inl (Oper.wp_mono (λa' w' hx=>?_) (zPa hM o g2 sim Q));obtain⟨sl',st',β',I',⟨rfl,rfl⟩,q2,q3,q4,q5⟩:=hx;refine cont a' w' β' I' q2 q3 q4 q5 hlen λp j hp hj hl k c1 c2=>?_;have hjm:=(F.mem j).2 (BD hj);have hjl:=hlates j ops[j] (by simp[hjm]) (by rw[zB0 F.nodup hj];exact hp) hl;obtain⟨oj,m1,m2,m3,m4,_⟩:=F.latE i j hjl;have hnn:=F.latA i o ho hE j hjl hcv;rw[show ops.getD j Aj=oj by simp[m1]]at hnn;grind [noNew_len]
   | false=>
    refine .inl (Oper.wp_mono (λa' w' hx=>?_) (zZj hM o g2 hE hcv sim Q));obtain⟨β',I',q2,q3,q4,q5,q6⟩:=hx;refine cont a' w' β' I' q2 q3 q4 q5 (.inr (stepE_len hst0 hE hcv)) λp j hp hj hl k c1 c2=>?_;have hjm:=(F.mem j).2 (BD hj);have hjl:=hlates j ops[j] (by simp[hjm]) (by rw[zB0 F.nodup hj];exact hp) hl;obtain⟨oj,m1,m2,m3,m4,_⟩:=F.latE i j hjl;obtain⟨n,n1,n2,_⟩:=hL t i hpi' j hjl;rw[show ops.getD j Aj=oj by simp[m1]]at n1;rw[hod]at n2;have hrg:=zZc (s:=t+1) F htr hop' (by omega) (by omega) hj m1 m2 m3 m4 n1;have hkn:k=n:=by
     omega
    have hkt:k<(R t).length:=by
     have key:∀m,p+1+m<=t->(R (p+1)).length<=(R (p+1+m)).length:=by
      intro m;induction m with
      |zero=>intro _;exact Ak _
      |succ m ihm=>
       intro hm;have h1:=ihm (by omega);have h2:=hgrow p j hp hj hl (p+1+m) (by omega) (by omega);grind
     have:=key (t-(p+1)) (by omega)
     rw[show p+1+(t-(p+1))=t by omega]at this;omega
    refine q6 k hkt (hk10 p j hp hj hl k c1 c2) λy hy=>?_;rw[hkn,zVh (ops:=ops) (o:=o) (sl:=S t) (λx hx=>zLf (hX1 x hx)) y hy];exact n2 (by omega) y hy
  rw[if_neg (by simp[g1])];refine cont _ _ β I ?_ (AN _ _ _) (zAt _ _ _) (AJ _ _) (.inr ?_) hk10
  ·rw[<-g2,<-g3];exact sim.skip o.dst
  grind
theorem zKn(hM:zA7 P T)(hm:P.follows .mixedOrders=Ab){id:Nat}{l0:List Nat}{its:List zKc}{sl:List D}{st:List Bk}{β:Be}{I:Im}{a:Act}{w:World}(hok:zLu T ops l0 its=Ab)(hq:seqF P T ops l0 its sl st K)(h:Sim β I w sl st a.tmps.toList)
  (hP:∀c a w,¬Q (.panic c) a w)(hQ:∀a' w',zZv T K β I w a.defers a' w'->Q .normal a' w'):(Code.region id ops Ab).wp P Q a w:=by
 have F:=RegF.of hok;obtain⟨S,R,s1,s2,s3,s4,s5⟩:=traceF hq;generalize hord:zEm l0 its=ord at F s3 s4;rw[F.len]at s3;have htr:∀(p:Nat) i o,ord[p]?=Aa i->ops[i]?=Aa o->zCe P T ops o (S p) (R p) (Eqs (S (p+1)) (R (p+1))):=λp i o hp ho=>by
  have:=s4 p i hp
  simp_all
 have hL:∀t e,ord[t]?=Aa e->∀i∈zN1 its e,∃n,zFq P T ops (ops.getD i Aj) n (S (t+1)) (R (t+1))/\(n<(R t).length->zSl (ops.getD e Aj) n (S t))/\(R t).length<=(R (t+1)).length:=by
  intro t e ht i hi;unfold zN1 at hi;split at hi
  ·rename_i x hx;obtain⟨y,hy,rfl⟩:=List.mem_map.1 hi;have hxe:x.1=e:=by have:=List.find?_some hx;simpa using this
   obtain⟨pre,post,hpp⟩:=List.append_of_mem (List.mem_of_find?_eq_some hx);obtain⟨k1,k2⟩:=s5 pre x post hpp;have ht2:ord[l0.length+(zBo pre).length]?=Aa e:=by
    rw[<-hord,zEm,Cc (by omega),hpp];simp only[zBo,List.flatMap_append,List.flatMap_cons];grind
   have e1:=zB0 F.nodup ht;have e2:=zB0 F.nodup ht2;have e3:t=l0.length+(zBo pre).length:=by omega
   rw[e3];exact⟨y.2,k2.2 y hy,λhlt=>by rw[<-hxe];exact k1 y hy hlt,k2.1⟩
  cases hi
 have hop:∀p,p<ops.size->∃i o,ord[p]?=Aa i/\ops[i]?=Aa o:=λp hp=>by
  have h1:p<ord.length:=by rw[F.len];exact hp
  refine⟨ord[p],ops[ord[p]]'((F.mem _).2 (BC h1)),AA h1,by simp[(F.mem _).2 (BC h1)]⟩
 obtain⟨t,t1,t2,t3⟩:=zW9 (P:=P) (T:=T) htr hop ops.size 0 (by omega);refine wp_region_any hm ?_;have hfix:Fix I w I {w with drawn:=w.drawn+1}:=λb o hi=>⟨hi,λv hv=>hv,λ_ _ h=>h⟩;refine any_sound (β0:=β) (I0:=I) (w0:=w) (df:=a.defers) h.gl hM F F.len.symm htr s3 hL hP hQ ops.size _ a _ 0 t ⟨by simp,?_,t1,t2,λp i hp=>by omega,λp i _ _ hl=>?_,t3,rfl,λp i hp=>by omega,β,I,S 0,?_,rfl,λx _ _=>rfl,λp i o x _ _ _ hl=>?_,λk b c hk=>?_,h.inj,λk b c j e hk he hj=>?_,h.imb,?_,λk x hk=> .inl (by rw[s2];exact h.dom k x hk),λp i hp=>by omega⟩ ?_
 ·intro k ok _ hl;exfalso;revert hl;simp only[BN,BO];split<;>simp
 ·revert hl;unfold Ls;simp only[BN,BO];split<;>simp
 ·rw[s1];exact AZ hfix _ _ (AE _) _ _ h.rel
 ·exfalso;revert hl;unfold Ls;simp only[BN,BO];split<;>simp
 ·obtain⟨e,m1,m2⟩:=h.sr k b c hk;rw[<-s2]at m1;obtain⟨e',n1,n2⟩:=(t2.store' (Ak _) t2.le (Ak _)).2 k e m1;grind [Bf,Bc,AE]
 ·obtain⟨e0,m1,m2⟩:=h.sr k b c hk;have m1':=m1;rw[<-s2]at m1;obtain⟨e',n1,n2⟩:=(t2.store' (Ak _) t2.le (Ak _)).2 k e0 m1;rw[he]at n1;cases n1
  have:=h.fz k b c j e0 hk m1' hj
  exact⟨n2.2.2.2.2.2 this.1,by rw[n2.1,n2.2.2.2.2.1];exact this.2⟩
 ·exact⟨⟨hfix,Ak _,λ_ _ _=>rfl,rfl,rfl,rfl,Nat.le_succ _,λk b c hk=> .inl ⟨k,c,hk⟩,λ_ _ h=> .inl h⟩,AJ _ _⟩
 simp
theorem zVi(hM:zA7 P T)(hm:P.follows .mixedOrders=Ab){id:Nat}{sl:List D}{st:List Bk}{β:Be}{I:Im}{a:Act}{w:World}(hok:zY3 T ops ord=Ab)(hq:seqW P T ops Ab (ord.map λi=>ops.getD i Aj) sl st K)(h:Sim β I w sl st a.tmps.toList)
  (hP:∀c a w,¬Q (.panic c) a w)(hQ:∀a' w',zZv T K β I w a.defers a' w'->Q .normal a' w'):(Code.region id ops Ab).wp P Q a w:=
 zKn (l0:=ord) (its:=[]) hM hm (regOk3_of hok) hq h hP hQ
end
section
variable {P : Program} {T : Par}
def okE:Exit->Prop
 | .normal| .exit _| .ret=>True
 |_=>False
def Lift(T:Par)(Q:Exit->List D->List Bk->Prop)(β:Be)(I:Im)(w:World)(df:List Deferred):Exit->Act->World->Prop:=λe a' w'=>okE e/\zZv T (Q e) β I w df a' w'
theorem least{p:Nat->Prop}(h:∃n,p n):∃n,p n/\∀m,m<n->¬p m:=by
 obtain⟨n,hn⟩:=h;induction n using A4 with
 |_ n ih=>
  grind
def InLoop(P:Program)(c:Code)(Q:Exit->Act->World->Prop)(a:Act)(w:World):Prop:=∀b k cs,∃e a' w',Q e a' w'/\Arrives P (lone (b.at a (.code c:: .inLoop c::k)) cs w) b k cs e a' w'
theorem InLoop.wp{c:Code}{Q:Exit->Act->World->Prop}{a:Act}{w:World}(h:InLoop P c Q a w):(Code.loop c).wp P Q a w:=by
 intro b k cs;obtain⟨e,a',w',hq,harr⟩:=h b k cs;exact⟨e,a',w',hq, .of_steps (.one step_loop) harr⟩
theorem InLoop.of_round{c:Code}{Q:Exit->Act->World->Prop}{a:Act}{w:World}(h:c.wp P (Exit.then (InLoop P c Q) Q) a w):InLoop P c Q a w:=by
 intro b k cs;obtain⟨e,a₁,w₁,hq,harr⟩:=h b (.inLoop c::k) cs;cases e with
 |normal=>
  obtain⟨e₂,a₂,w₂,hq₂,harr₂⟩:=hq b k cs;exact⟨e₂,a₂,w₂,hq₂, .of_steps (Steps.trans harr (.one step_inLoop)) harr₂⟩
 |exit id=>exact⟨_,a₁,w₁,hq, .pass (x:= .inLoop c) rfl (λ_ _=> .inl (by simp)) harr⟩
 |goto l=>exact⟨_,a₁,w₁,hq, .pass (x:= .inLoop c) rfl (λ_ _=> .inl (by simp)) harr⟩
 |ret=>exact⟨_,a₁,w₁,hq, .pass (x:= .inLoop c) rfl (λ_ _=> .inl (by simp)) harr⟩
 |panic ch=>exact⟨_,a₁,w₁,hq, .pass (x:= .inLoop c) rfl (λ_ _=> .inl (by simp)) harr⟩
 |outgrown=>exact⟨_,a₁,w₁,hq, .pass (x:= .inLoop c) rfl (λ_ _=> .inl (by simp)) harr⟩
theorem zM6(hM:zA7 P T)(hm:P.follows .mixedOrders=Ab):∀(c:Code)(Q:Exit->List D->List Bk->Prop)(sl:List D)(st:List Bk)(β:Be)(I:Im)(a:Act)(w:World),
  awp P T c Q sl st->Sim β I w sl st a.tmps.toList->c.wp P (Lift T Q β I w a.defers) a w:=by
 intro c;induction c with
 |skip=>intro Q sl st β I a w h hs;exact wp_skip ⟨trivial,sl,st,β,I,h,hs,AN _ _ _,rfl,AJ _ _⟩
 | region id ops dr=>
  intro Q sl st β I a w h hs;simp only[awp]at h;cases dr with
  |true=>
   simp only[if_true]at h;rcases h with⟨ord,h1,h2⟩|⟨l0,its,h1,h2⟩
   ·exact zVi hM hm h1 h2 hs (λc a w hx=>hx.1) (λa' w' hx=>⟨trivial,hx⟩)
   exact zKn hM hm h1 h2 hs (λc a w hx=>hx.1) (λa' w' hx=>⟨trivial,hx⟩)
  |false=>
   simp only[AK,if_false]at h;refine wp_region (zLs hM (AO ops.size) ops.toList ?_ sl st β I a w _ h hs (λa' w' hx=>⟨trivial,hx⟩));apply BE;grind
 | seq x y ihx ihy=>
  intro Q sl st β I a w h hs;simp only[awp]at h;refine wp_seq (wp_mono (ihx _ sl st β I a w h hs) λe a' w' hq=>?_);obtain⟨h1,sl',st',β',I',q1,q2,q3,q4,q5⟩:=hq;cases e with
  |normal=>
   obtain⟨sl1,st1,m1,m2⟩:=q1;obtain⟨β1,I1,k1,k2,k3⟩:=m1 β' I' w' _ q2;refine wp_mono (ihy Q sl1 st1 β1 I1 a' w' m2 k1) λe a'' w'' hq=>?_;obtain⟨h1,sl'',st'',β'',I'',r1,r2,r3,r4,r5⟩:=hq;exact⟨h1,sl'',st'',β'',I'',r1,r2,(q3.trans k2).trans r3,r4.trans q4,(q5.trans k3).trans r5⟩
  |exit id=>exact⟨trivial,sl',st',β',I',q1,q2,q3,q4,q5⟩
  |ret=>exact⟨trivial,sl',st',β',I',q1,q2,q3,q4,q5⟩
  |_=>exact h1.elim
 | cond c x y ihx ihy=>
  intro Q sl st β I a w h hs;simp only[awp]at h;have hc:=zAp hs.rel c;split at h
  ·rename_i t ht;rw[ht]at hc;simp only[Rel]at hc;exact wp_cond_split hc (λhx=>ihx Q sl st β I a w (h.1 hx) hs) (λhx=>ihy Q sl st β I a w (h.2 hx) hs)
  exact h.elim
 | block id b ih=>
  intro Q sl st β I a w h hs;simp only[awp]at h;refine wp_block (wp_mono (ih _ sl st β I a w h hs) λe a' w' hq=>?_);obtain⟨h1,sl',st',β',I',q1,q2,q3,q4,q5⟩:=hq;cases e with
  |normal=>exact⟨trivial,sl',st',β',I',q1,q2,q3,q4,q5⟩
  | exit j=>
   simp only[zAd]at q1;simp only[Exit.inBlock];by_cases hj:j=id
   ·rw[if_pos hj]at q1;simp only[hj,if_true];exact⟨trivial,sl',st',β',I',q1,q2,q3,q4,q5⟩
   rw[if_neg hj]at q1;simp only[hj,if_false];exact⟨trivial,sl',st',β',I',q1,q2,q3,q4,q5⟩
  |ret=>exact⟨trivial,sl',st',β',I',q1,q2,q3,q4,q5⟩
  |_=>exact h1.elim
 | loop b ih=>
  intro Q sl st β I a w h hs;simp only[awp]at h;have hX:=h (λsl1 st1=>∀β1 I1 a1 w1,Sim β1 I1 w1 sl1 st1 a1.tmps.toList->Stp β I w β1 I1 w1->a1.defers=a.defers->Kp T β β1->InLoop P b (Lift T Q β I w a.defers) a1 w1) ?_
  ·obtain⟨sl',st',h1,h2⟩:=hX;obtain⟨β',I',k1,k2,k3⟩:=h1 β I w _ hs;exact(h2 β' I' a w k1 k2 rfl k3).wp
  intro Y sl1 st1 hY hb β1 I1 a1 w1 j2 j3 j4 j5;refine InLoop.of_round (wp_mono (ih _ sl1 st1 β1 I1 a1 w1 hb j2) λe a' w' hq=>?_);obtain⟨e1,sl2,st2,β2,I2,q1,q2,q3,q4,q5⟩:=hq;cases e with
  |normal=>
   obtain⟨sl3,st3,m2,m3⟩:=hY sl2 st2 q1;obtain⟨β3,I3,k3,k4,k5⟩:=m2 β2 I2 w' _ q2;exact m3 β3 I3 a' w' k3 ((j3.trans q3).trans k4) (q4.trans j4) ((j5.trans q5).trans k5)
  |exit id=>exact⟨trivial,sl2,st2,β2,I2,q1,q2,j3.trans q3,q4.trans j4,j5.trans q5⟩
  |ret=>exact⟨trivial,sl2,st2,β2,I2,q1,q2,j3.trans q3,q4.trans j4,j5.trans q5⟩
  |_=>exact e1.elim
 |exit id=>intro Q sl st β I a w h hs;exact wp_exit ⟨trivial,sl,st,β,I,h,hs,AN _ _ _,rfl,AJ _ _⟩
 |label l=>intro Q sl st β I a w h hs;exact wp_label ⟨trivial,sl,st,β,I,h,hs,AN _ _ _,rfl,AJ _ _⟩
 |ret=>intro Q sl st β I a w h hs;exact wp_ret ⟨trivial,sl,st,β,I,h,hs,AN _ _ _,rfl,AJ _ _⟩
 |_=>intro Q sl st β I a w h hs;exact h.elim
end
def LeD(d d':D):Prop:=∀I w β v,Rel I w β d v->Rel I w β d' v
mutual
/-- nil as an empty row, throughout -/
def zF3:D->D
 | .val v=>match v with
  | .slice Af 0 0=> .row [] 0
  |v=> .val v
 | .agg cs=> .agg (zG9 cs)
 | .tup cs=> .tup (zG9 cs)
 | .ifc t d=> .ifc t (zF3 d)
 |d=>d
def zG9:List D->List D
 |[]=>[]
 |d::ds=>zF3 d::zG9 ds
end
mutual
theorem zGk{I:Im}{w:World}{β:Be}:∀(d:D)(v:Value),Rel I w β d v->Rel I w β (zF3 d) v
 | .val u,v,h=>by
  simp only[zF3];split
  ·simp only[Rel]at h⊢;exact⟨Af,0,h,Ak _,by decide,λ_=>rfl, .inl trivial⟩
  exact h
 | .agg cs,v,h=>by
  simp only[zF3,Rel]at h⊢;obtain⟨vs,rfl,h⟩:=h;exact⟨vs,rfl,zKj cs vs h⟩
 | .tup cs,v,h=>by
  simp only[zF3,Rel]at h⊢;obtain⟨vs,rfl,h⟩:=h;exact⟨vs,rfl,zKi cs vs h⟩
 | .ifc t d,v,h=>by
  simp only[zF3,Rel]at h⊢;obtain⟨u,rfl,h⟩:=h;exact⟨u,rfl,zGk d u h⟩
 | .unk,v,h=>h
 | .row cs n,v,h=>h
 | .ptr cs,v,h=>h
 | .clo f x y,v,h=>h
 | .own k o,v,h=>h
 | .osl k o n m b,v,h=>h
 | .mref k,v,h=>h
 | .mfz ks cs,v,h=>h
 | .fx d,v,h=>h
 | .osr ..,v,h=>h
theorem zKj{I:Im}{w:World}{β:Be}:∀(ds:List D)(vs:List Value),RelL I w β ds vs->RelL I w β (zG9 ds) vs
 |[],vs,h=>h
 |d::ds,vs,h=>by
  simp only[zG9,RelL]at h⊢;obtain⟨v,us,rfl,h1,h2,h3⟩:=h;exact⟨v,us,rfl,h1,zGk d v h2,zKj ds us h3⟩
theorem zKi{I:Im}{w:World}{β:Be}:∀(ds:List D)(vs:List Value),RelT I w β ds vs->RelT I w β (zG9 ds) vs
 |[],vs,h=>h
 |d::ds,vs,h=>by
  simp only[zG9,RelT]at h⊢;obtain⟨v,us,rfl,h2,h3⟩:=h;exact⟨v,us,rfl,zGk d v h2,zKi ds us h3⟩
end
theorem nilRow_le(d:D):LeD d (zF3 d):=λI w β v h=>zGk d v h
section
variable {P : Program} {T : Par}
def zNs(P:Program)(sl:List D)(st:List Bk):ResultVar->Eff
 | .tmp t=> .get True (sl.getD t .unk)
 | .cell a t=>match sl.getD a .unk with
  | .ptr cs=>ldP P t cs .get
  | .own k off=>match st[k]? with
   |some e=>if e.kd.isMap then .bad else ldP P t (e.cells.drop off) .get
   |none=> .bad
  |_=> .bad
def retL(P:Program)(sl:List D)(st:List Bk):List ResultVar->(List D->Prop)->Prop
 |[],K=>K []
 |r::rs,K=>match zNs P sl st r with
  | .get p d=>p/\retL P sl st rs (λds=>K (d::ds))
  |_=>False
def oneD:List D->D
 |[d]=>d
 |ds=> .tup ds
theorem zRq{sl:List D}{st:List Bk}{β:Be}{I:Im}{w:World}{a:Act}(h:Sim β I w sl st a.tmps.toList)(r:ResultVar){p:Prop}{d:D}(he:zNs P sl st r= .get p d)(hp:p):
  ∃v,(match r with
   | .tmp t=>pure (a.tmps.getD t undef)
   | .cell x t=>do loadVar t (<-asAddr (a.tmps.getD x undef)):Sem Value).run P w= .ok v w/\Rel I w β d v:=by
 cases r with
 |tmp t=>
  simp only[zNs,Eff.get.injEq]at he;obtain⟨rfl,rfl⟩:=he
  have:=zAp h.rel (.tmp t)
  exact⟨_,rfl,this⟩
 | cell x t=>
  have hx:Rel I w β (sl.getD x .unk) (a.tmps.getD x undef):=zAp h.rel (.tmp x);have key:∀(b o:Nat)(v:Value),(Instr.loadAt t (.pointer (Aa ⟨b,o,Af⟩))).run P w= .ok v w->(loadVar t ⟨b,o,Af⟩).run P w= .ok v w:=by
   intro b o v hl;simpa[Instr.loadAt,Instr.sureAddr]using hl
  simp only[zNs]at he;split at he
  ·rename_i cs hc;rw[hc]at hx;simp only[Rel]at hx;obtain⟨b,o,hv,hr⟩:=hx;obtain⟨v,k1,k2⟩:=zH5 (I:=I) (w:=w) (β:=β) (b:=b) (o:=o) (λj x hx=>by
    obtain⟨_,v,k1,k2,k3⟩:=hr.get j x hx;exact⟨v,k1,k2,k3.no⟩) he hp
   exact⟨v,by simp[hv,asAddr,key _ _ _ k1],k2⟩
  ·rename_i k off hc;rw[hc]at hx;simp only[Rel]at hx;obtain⟨b,c,hb,hv⟩:=hx;split at he
   ·rename_i e hk;split at he
    ·cases he
    rename_i hmap;have ho':=(h.sr.weak k b c e hb hk).c (by simpa using hmap);obtain⟨v,k1,k2⟩:=zH5 (I:=I) (w:=w) (β:=β) (b:=b) (o:=off) (λj x hx=>by
     rw[List.getElem?_drop]at hx;obtain⟨v,k1,k2,k3⟩:=ho'.cells_get hx;refine⟨v,k1,k2,?_⟩;cases ha:e.nob<;>simp only[ha,if_true,if_false,AK]at k3
     ·exact k3
     exact k3.no) he hp
    exact⟨v,by simp[hv,asAddr,key _ _ _ k1],k2⟩
   cases he
  cases he
theorem zNr{sl:List D}{st:List Bk}{β:Be}{I:Im}{w:World}{a:Act}(h:Sim β I w sl st a.tmps.toList):∀(rs:List ResultVar)(K:List D->Prop),retL P sl st rs K->∃ds vs,K ds/\RelT I w β ds vs/\vs.length=rs.length/\
  (rs.mapM (m:=Sem) λr=>match r with
   | .tmp t=>pure (a.tmps.getD t undef)
   | .cell x t=>do loadVar t (<-asAddr (a.tmps.getD x undef))).run P w= .ok vs w
 |[],K,hk=>⟨[],[],hk,by simp only[RelT],rfl,by simp⟩
 | r::rs,K,hk=>by
  simp only[retL]at hk;split at hk
  ·rename_i p d hd;obtain⟨v,k1,k2⟩:=zRq (P:=P) h r hd hk.1;obtain⟨ds,vs,m1,m2,m3,m4⟩:=zNr h rs _ hk.2;refine⟨d::ds,v::vs,m1,by simp only[RelT];exact⟨v,vs,rfl,k2,m2⟩,by simp[m3],?_⟩;simp_all
  exact hk.elim
theorem zE7{fn:Func}{sl:List D}{st:List Bk}{β:Be}{I:Im}{w:World}{a:Act}(h:Sim β I w sl st a.tmps.toList){K:List D->Prop}(hk:retL P sl st fn.results.toList K):
  ∃ds v,K ds/\Rel I w β (oneD ds) v/\(results fn a.tmps).run P w= .ok v w:=by
 obtain⟨ds,vs,m1,m2,m3,m4⟩:=zNr (P:=P) h _ K hk;have hl:=m2.length;refine⟨ds,if h:vs.toArray.size=1 then vs.toArray[0]else .tuple vs.toArray,m1,?_,?_⟩
 ·match ds,m2,hl with
  |[],m2,hl=>simp only[RelT]at m2;subst m2;simp[oneD,Rel,RelT]
  |[d],m2,hl=>
   simp only[RelT]at m2;grind [oneD]
  |d::d'::ds,m2,hl=>
   have:¬(vs.toArray.size=1):=by simp[<-hl]
   rw[dif_neg this];simp only[oneD,Rel];exact⟨vs,rfl,m2⟩
 unfold results;have hm:=zCj (P:=P) fn.results _ vs w m4;rw[Sem.run_bind];erw[hm];rfl
theorem zLl{I:Im}{w:World}{β:Be}{args:List D}{vs:List Value}(h:RelT I w β args vs)(n:Nat):RelT I w β (args++Az n .unk) (vs.toArray++A5 n undef).toList:=by
 have hrep:RelT I w β (Az n .unk) (Az n undef):=by
  induction n with
  |zero=>simp only[List.replicate_zero,RelT]
  |succ n ih=>simp only[BP,RelT];exact⟨_,_,rfl,by simp only[Rel],ih⟩
 have:=h.append hrep
 simpa using this
theorem zF(hM:zA7 P T)(hm:P.follows .mixedOrders=Ab){f:FuncId}{fn:Func}{c:Code}(hf:P.funcs[f]?=Aa fn)(hb:fn.body=Aa c){args:List D}{x:D}
  (h:awp P T c (λe sl st=>(e= .normal\/e= .ret)/\retL P sl st fn.results.toList (λds=>∃y ks,frz Ab st zAc (oneD ds)=Aa (y,ks)/\LeD y x)) (args++Az (fn.ntmps-args.length) .unk) []):Pure P f args [] x:=by
 intro I w vs hr hi hg;have hlen:=hr.length;refine calls_of_wp hf hb ?_;have hsim:Sim noB I w (args++Az (fn.ntmps-args.length) .unk) [] (vs.toArray++A5 (fn.ntmps-vs.toArray.size) undef).toList:=by
  refine⟨?_,?_,?_,?_,?_,hi,hg⟩
  ·grind [zLl]
  ·intro k b c h;cases h
  ·intro k k' b c c' h;cases h
  ·intro k b c j e h;cases h
  intro k x h;cases h
 refine wp_mono (zM6 hM hm c _ _ _ noB I {tmps:=vs.toArray++A5 (fn.ntmps-vs.toArray.size) undef,defers:=[]} w h hsim) λe a' w' hq=>?_;obtain⟨e1,sl',st',β',I',⟨q0,q1⟩,q2,q3,q4,q5⟩:=hq;have fin:a'.defers=[]/\∃v,(results fn a'.tmps).run P w'= .ok v w'/\∃v' I' γ,Ending.returned v= .returned v'/\Ext w w'/\ImB I' w'/\Fix I w I' w'/\(∀b o,I' b o->I b o\/w.heap.size<=b)/\
  (∀k b c,γ k=Aa (b,c)->w.heap.size<=b)/\SR γ I' w' []/\Inj γ/\FZ γ I' []/\(∀k y,γ k=Aa y->k<([]:List Bk).length)/\Rel I' w' γ x v'/\(∀e∈([]:List Bk),e.arr=Ab/\e.kd= .plain):=by
  obtain⟨ds,v,⟨y,ks,k1,kle⟩,k2,k3⟩:=zE7 (P:=P) (fn:=fn) q2 q1;have k4:=zCi q2.sr.weak _ _ _ _ _ k1 k2;refine⟨q4,v,k3,v,fixI I' β' st' ks,noB,rfl,⟨⟨q3.os,q3.tape,q3.output,q3.size,λb hb=>q3.out b hb (λk c h=>by cases h)⟩,q3.dr⟩,zFl q2.sr.weak q2.imb ks,q3.fix.trans (zAv ks),λb o hx=>?_,λk b c h=>(by cases h),λk b c h=>(by cases h),λk k' b c c' h=>(by cases h),λk b c j e h=>(by cases h),λk y h=>(by cases h),kle _ _ _ _ k4,by simp⟩;rcases hx with hx|⟨k,_,c,e,hk,_⟩
  ·rcases q3.im b o hx with h1|h1|⟨k,c,h1⟩
   ·exact .inl h1
   ·exact .inr h1
   cases h1
  rcases q3.be k b c hk with⟨k',c',h1⟩|h1
  ·cases h1
  exact .inr h1
 rcases q0 with rfl|rfl
 ·exact fin
 exact fin
theorem zB8(hM:zA7 P T)(hm:P.follows .mixedOrders=Ab){f:FuncId}{fn:Func}{c:Code}(hf:P.funcs[f]?=Aa fn)(hb:fn.body=Aa c){args:List D}{b:Bk}{n m:Nat}(hba:b.arr=Ab)
  (h:awp P T c (λe sl st=>(e= .normal\/e= .ret)/\retL P sl st fn.results.toList (λds=>∃k,oneD ds= .osl k 0 n m Ab/\st[k]?=Aa b)) (args++Az (fn.ntmps-args.length) .unk) [])(hkd:b.kd= .plain:=by rfl):Pure P f args [b] (.osl 0 0 n m Ab):=by
 intro I w vs hr hi hg;have hnb:b.nob=true:=by unfold Bk.nob;rw[hba,hkd];rfl
 have hmap:b.kd.isMap=false:=by rw[hkd];rfl
 have hlen:=hr.length;refine calls_of_wp hf hb ?_;have hsim:Sim noB I w (args++Az (fn.ntmps-args.length) .unk) [] (vs.toArray++A5 (fn.ntmps-vs.toArray.size) undef).toList:=by
  refine⟨?_,?_,?_,?_,?_,hi,hg⟩
  ·grind [zLl]
  ·intro k b c h;cases h
  ·intro k k' b c c' h;cases h
  ·intro k b c j e h;cases h
  intro k x h;cases h
 refine wp_mono (zM6 hM hm c _ _ _ noB I {tmps:=vs.toArray++A5 (fn.ntmps-vs.toArray.size) undef,defers:=[]} w h hsim) λe a' w' hq=>?_;obtain⟨e1,sl',st',β',I',⟨q0,q1⟩,q2,q3,q4,q5⟩:=hq;have fin:a'.defers=[]/\∃v,(results fn a'.tmps).run P w'= .ok v w'/\∃v' I' γ,Ending.returned v= .returned v'/\Ext w w'/\ImB I' w'/\Fix I w I' w'/\(∀b o,I' b o->I b o\/w.heap.size<=b)/\
  (∀k b c,γ k=Aa (b,c)->w.heap.size<=b)/\SR γ I' w' [b]/\Inj γ/\FZ γ I' [b]/\(∀k y,γ k=Aa y->k<[b].length)/\Rel I' w' γ (.osl 0 0 n m Ab) v'/\(∀e∈[b],e.arr=Ab/\e.kd= .plain):=by
  obtain⟨ds,v,⟨k,k1,k1'⟩,k2,k3⟩:=zE7 (P:=P) (fn:=fn) q2 q1;have hg:∀j y,(λj=>if j=0 then β' k else Af:Be) j=Aa y->j=0/\β' k=Aa y:=λj y hj=>by
   grind
  have hown:∀bb c,β' k=Aa (bb,c)->OwnRel I' w' (λj=>if j=0 then β' k else Af) bb c b:=by
   intro bb c hk;obtain⟨cur,c1,c2,c3,c4⟩:=(q2.sr.weak k bb c b hk k1').c hmap;refine OwnC.r ⟨cur,c1,c2,?_,c4⟩ hmap;rw[hnb]at c3⊢;exact c3
  refine⟨q4,v,k3,v,I',λj=>if j=0 then β' k else Af,rfl,⟨⟨q3.os,q3.tape,q3.output,q3.size,λb hb=>q3.out b hb (λk c h=>by cases h)⟩,q3.dr⟩,q2.imb,q3.fix,λb o hx=>?_,λj bb c hj=>?_,λj bb c hj=>?_,λj j' bb c c' hj hj'=>?_,λj bb c i e hj he hi=>?_,λj y hj=>?_,?_,by simpa using⟨hba,hkd⟩⟩
  ·rcases q3.im b o hx with h1|h1|⟨k,c,h1⟩
   ·exact .inl h1
   ·exact .inr h1
   cases h1
  ·rcases q3.be k bb c (hg j _ hj).2 with⟨k',c',h1⟩|h1
   ·cases h1
   exact h1
  ·grind
  ·grind
  ·obtain⟨rfl,h2⟩:=hg j _ hj;simp at he;subst he;exact q2.fz k bb c i b h2 k1' hi
  ·rw[(hg j _ hj).1];simp
  rw[k1]at k2;simp only[Rel]at k2⊢;grind
 rcases q0 with rfl|rfl
 ·exact fin
 exact fin
theorem zAj(hM:zA7 P T)(hm:P.follows .mixedOrders=Ab){f:FuncId}{fn:Func}{c:Code}(hf:P.funcs[f]?=Aa fn)(hb:fn.body=Aa c){args:List D}{st st':List Bk}{x:D}{ch:List Nat}(hkeep:∀k,k<st.length->T.keep k=Ab\/k∈ch)
  (h:awp P T c (λe sl s=>(e= .normal\/e= .ret)/\retL P sl s fn.results.toList (λds=>oneD ds=x/\s=st')) (args++Az (fn.ntmps-args.length) .unk) st):Acts P f args st ch x st':=by
 intro β I w vs hr hsr hinj hfz hdom hi hg;have hlen:=hr.length;refine calls_of_wp hf hb ?_;have hsim:Sim β I w (args++Az (fn.ntmps-args.length) .unk) st (vs.toArray++A5 (fn.ntmps-vs.toArray.size) undef).toList:=by
  refine⟨?_,hsr,hinj,hfz,hdom,hi,hg⟩;grind [zLl]
 refine wp_mono (zM6 hM hm c _ _ _ β I {tmps:=vs.toArray++A5 (fn.ntmps-vs.toArray.size) undef,defers:=[]} w h hsim) λe a' w' hq=>?_;obtain⟨e1,sl',s',β',I',⟨q0,q1⟩,q2,q3,q4,q5⟩:=hq;have fin:a'.defers=[]/\∃v,(results fn a'.tmps).run P w'= .ok v w'/\∃v' β' I',Ending.returned v= .returned v'/\ImB I' w'/\Stp β I w β' I' w'/\
  (∀k y,k∉ch->β k=Aa y->β' k=Aa y)/\SR β' I' w' st'/\Inj β'/\FZ β' I' st'/\(∀k y,β' k=Aa y->k<st'.length)/\Rel I' w' β' x v':=by
  obtain⟨ds,v,⟨k1,rfl⟩,k2,k3⟩:=zE7 (P:=P) (fn:=fn) q2 q1;exact⟨q4,v,k3,v,β',I',rfl,q2.imb,q3,λk y hc hk=>q5 k y ((hkeep k (hdom k y hk)).resolve_right hc) hk,q2.sr,q2.inj,q2.fz,q2.dom,k1▸k2⟩
 rcases q0 with rfl|rfl
 ·exact fin
 exact fin
theorem zN(hM:zA7 P T)(hm:P.follows .mixedOrders=Ab){f:FuncId}{fn:Func}{c:Code}(hf:P.funcs[f]?=Aa fn)(hb:fn.body=Aa c){args:List D}{st st':List Bk}{x:D}(hkeep:∀k,k<st.length->T.keep k=Ab)
  (h:awp P T c (λe sl s=>(e= .normal\/e= .ret)/\retL P sl s fn.results.toList (λds=>oneD ds=x/\s=st')) (args++Az (fn.ntmps-args.length) .unk) st):Acts P f args st [] x st':=by grind [zAj]
end
theorem LeD.refl(d:D):LeD d d:=λ_ _ _ _ h=>h
theorem LeD.unk(d:D):LeD d .unk:=λ_ _ _ _ _=>by simp only[Rel]
theorem LeD.eq{d d':D}(h:d=d'):LeD d d':=h▸LeD.refl d
theorem LeD.nil(k:Nat)(b:Bool):LeD (.val (.slice Af 0 0)) (.osl k 0 0 0 b):=λ_ _ _ v h=>by
 simp only[Rel]at h⊢;exact .inl ⟨trivial,trivial,h⟩
theorem LeD.nil_row:LeD (.val (.slice Af 0 0)) (.row [] 0):=λ_ _ _ v h=>by
 simp only[Rel]at h⊢;exact⟨Af,0,h,Ak _,by decide,λ_=>rfl, .inl trivial⟩
inductive LeL:List D->List D->Prop
 |nil:LeL [] []
 |cons {d d':D} {ds ds':List D}:LeD d d'->LeL ds ds'->LeL (d::ds) (d'::ds')
theorem LeL.rel{I:Im}{w:World}{β:Be}{ds ds':List D}(h:LeL ds ds'):∀{vs:List Value},RelT I w β ds vs->RelT I w β ds' vs:=by
 induction h with
 |nil=>exact λh=>h
 |cons h1 _ ih=>
  intro vs h;simp only[RelT]at h⊢;obtain⟨v,us,e,h2,h3⟩:=h;exact⟨v,us,e,h1 _ _ _ _ h2,ih h3⟩
theorem LeL.refl:∀ds,LeL ds ds
 |[]=> .nil
 |d::ds=> .cons (.refl d) (LeL.refl ds)
theorem LeL.of_eq{ds ds':List D}(h:ds=ds'):LeL ds ds':=h▸LeL.refl ds
section
variable {P : Program} {T : Par}
theorem Weak.refl(sl:List D)(st:List Bk):Weak T sl st sl st:=λβ I w tm h=>⟨β,I,h,AN _ _ _,AJ _ _⟩
theorem Weak.trans{sl sl' sl'':List D}{st st' st'':List Bk}(h:Weak T sl st sl' st')(k:Weak T sl' st' sl'' st''):Weak T sl st sl'' st'':=λβ I w tm hs=>by
 obtain⟨β',I',h1,h2,h3⟩:=h β I w tm hs;obtain⟨β'',I'',k1,k2,k3⟩:=k β' I' w tm h1;exact⟨β'',I'',k1,h2.trans k2,h3.trans k3⟩
theorem Weak.slots{sl sl':List D}{st:List Bk}(h:LeL sl sl'):Weak T sl st sl' st:=λβ I w tm hs=>
 ⟨β,I,⟨h.rel hs.rel,hs.sr,hs.inj,hs.fz,hs.dom,hs.imb,hs.gl⟩,AN _ _ _,AJ _ _⟩
theorem Weak.more{sl:List D}{st:List Bk}(bs:List Bk):Weak T sl st sl (st++bs):=λβ I w tm hs=>by
 refine⟨β,I,⟨hs.rel,λk b c hk=>?_,hs.inj,λk b c j e hk he hi=>?_,λk x hk=>?_,hs.imb,hs.gl⟩,AN _ _ _,AJ _ _⟩
 ·obtain⟨e,h1,h2⟩:=hs.sr k b c hk;exact⟨e,by rw[BM (hs.dom k _ hk)];exact h1,h2⟩
 ·rw[BM (hs.dom k _ hk)]at he;exact hs.fz k b c j e hk he hi
 have:=hs.dom k x hk
 rw[Bb];omega
theorem OwnRel.congr{I:Im}{w:World}{β β':Be}{b c:Nat}{e:Bk}(h:OwnRel I w β b c e)(hb:e.nob=Ae->∀k x,zX k e.cells=Ab->β k=Aa x->β' k=Aa x):OwnRel I w β' b c e:=by
 rcases e.kd.cases with hk|⟨ks,hk⟩
 ·obtain⟨cur,h1,h2,h3,h4⟩:=h.c hk;refine OwnC.r ⟨cur,h1,h2,?_,h4⟩ hk;grind [RelL.congr]
 obtain⟨vs,h1,h2⟩:=h.m hk;refine OwnM.r ⟨vs,h1,?_⟩ hk;grind [RelT.congr]
def zEp(sl:List D)(st:List Bk)(m n:Nat):Bool:=(AO (n-m)).all λi=>!zX (m+i) sl&&(st.take m).all λe=>e.nob||!zX (m+i) e.cells
theorem Weak.cut{sl:List D}{st:List Bk}(m:Nat)(h:zEp sl st m st.length=Ab)(hk:∀k,m<=k->T.keep k=Ae):Weak T sl st sl (st.take m):=λβ I w tm hs=>by
 have hno:∀k,m<=k->k<st.length->zX k sl=Ae/\∀e∈st.take m,e.nob=Ab\/zX k e.cells=false:=by
  intro k h1 h2;simp only[zEp,Bi,List.mem_range,AD,Bj,Bl]at h
  have:=h (k-m) (by omega)
  rw[show m+(k-m)=k by omega]at this;exact this
 have hcut:∀(k:Nat)(x:Nat×Nat),(if k<m then β k else Af)=Aa x->β k=Aa x/\k<m:=by
  intro k x hx;split at hx
  ·exact⟨hx,by assumption⟩
  cases hx
 refine⟨λk=>if k<m then β k else Af,I,⟨?_,λk b c hk=>?_,λk k' b c c' hk hk'=>?_,λk b c j e hk he hi=>?_,λk x hk=>?_,hs.imb,hs.gl⟩,⟨Fix.refl _ _,Ak _,λ_ _ _=>rfl,rfl,rfl,rfl,Ak _,λk b c hk=> .inl ⟨k,c,(hcut k _ hk).1⟩,λ_ _ h=> .inl h⟩,λk x hx hb=>?_⟩
 ·refine RelT.congr sl tm (λk x hr hx=>?_) hs.rel;by_cases hm:k<m
  ·simp only[hm,if_true];exact hx
  have:=(hno k (by omega) (hs.dom k x hx)).1
  rw[this]at hr;cases hr
 ·obtain⟨h1,h2⟩:=hcut k _ hk;obtain⟨e,k1,k2⟩:=hs.sr k b c h1;refine⟨e,by rw[A3,if_pos h2];exact k1,k2.congr λha j x hr hx=>?_⟩;by_cases hm:j<m
  ·simp only[hm,if_true];exact hx
  have hmem:e∈st.take m:=BD (by rw[A3,if_pos h2];exact k1);rcases(hno j (by omega) (hs.dom j x hx)).2 e hmem with h3|h3
  ·rw[ha]at h3;cases h3
  rw[h3]at hr;cases hr
 ·exact hs.inj k k' b c c' (hcut k _ hk).1 (hcut k' _ hk').1
 ·obtain⟨h1,h2⟩:=hcut k _ hk;rw[A3,if_pos h2]at he;exact hs.fz k b c j e h1 he hi
 ·obtain⟨h1,h2⟩:=hcut k _ hk
  have:=hs.dom k x h1
  rw[AU];omega
 simp only;by_cases hm:k<m
 ·simp only[hm,if_true];exact hb
 rw[hk k (by omega)]at hx;cases hx
theorem zS6{b:Code}{Q:Exit->List D->List Bk->Prop}{sl:List D}{st:List Bk}(Inv:Nat->List D->List Bk->Prop)(h0:∃n sl' st',Weak T sl st sl' st'/\Inv n sl' st')
  (h:∀n sl st,Inv n sl st->awp P T b (zAf (λsl' st'=>∃m sl'' st'',m<n/\Weak T sl' st' sl'' st''/\Inv m sl'' st'') Q) sl st):awp P T (.loop b) Q sl st:=by
 intro X hX;have key:∀n sl st,Inv n sl st->X sl st:=by
  intro n;induction n using A4 with
  |_ n ih=>
   grind
 grind
theorem zLb{α:Type}{b:Code}{Q:Exit->List D->List Bk->Prop}{sl:List D}{st:List Bk}(S:α->List D)(B:α->List Bk)(μ:α->Nat)(J:α->Prop)(x₀:α)(h₀:J x₀)(hw:Weak T sl st (S x₀) (B x₀))
  (step:∀x,J x->awp P T b (zAf (λsl' st'=>∃y,J y/\μ y<μ x/\Weak T sl' st' (S y) (B y)) Q) (S x) (B x)):awp P T (.loop b) Q sl st:=by
 refine zS6 (λn sl st=>∃x,J x/\μ x=n/\sl=S x/\st=B x) ⟨μ x₀,_,_,hw,x₀,h₀,rfl,rfl,rfl⟩ ?_;grind
end
section
variable {P : Program} {T : Par} {ops : Array Oper} {dr : Bool} {o : Oper} {r : List Oper} {sl sl' : List D} {st st' : List Bk} {K : List D → List Bk → Prop} {p : Prop} {d : D} {b : Bk} {k : Nat} {fz : List Nat} {f : FuncId} {args : List D}
def goW(P:Program)(T:Par)(ops:Array Oper)(dr:Bool)(o:Oper)(r:List Oper)(sl:List D)(st:List Bk)(K:List D->List Bk->Prop):Prop:=match aeff P T o.op o.type (evD sl) st with
   | .bad=>False
   | .lit p d=>zP T o.op=Ab/\p/\seqW P T ops dr r (putD sl o.dst d) st K
   | .get p d=>zP T o.op=Ae/\p/\seqW P T ops dr r (putD sl o.dst d) st K
   | .new p b d fz=>zP T o.op=Ae/\p/\seqW P T ops dr r (putD sl o.dst d) (zAz st fz++[b]) K
   | .call f args fz=>zP T o.op=Ae/\∃news x,Pure P f args news x/\seqW P T ops dr r (putD sl o.dst (if news.isEmpty then x else zA9 st.length x)) (zAz st fz++news) K
   | .put p k b fz=>isE T o.op=Ab/\p/\seqW P T ops dr r (putD sl o.dst .unk) ((zAz st fz).set k b) K
   | .app p k b d=>isE T o.op=Ab/\(T.keep k=Ae/\p)/\seqW P T ops dr r (putD (sl.map (zAi k)) o.dst d) ((st.map (zAk k)).set k b) K
   | .act f args=>zP T o.op=Ae/\(dr=Ae\/isE T o.op=Ab)/\∃ch x st',(Acts P f args st ch x st'/\∀k∈ch,T.keep k=Ae)/\seqW P T ops dr r (putD (sl.map (zCo ch)) o.dst x) st' K
theorem zDl(hg:o.guard=Af)(h:goW P T ops dr o r sl st K):seqW P T ops dr (o::r) sl st K:=by
 simp only[seqW,hg];exact h
theorem seq_skip{j:Nat}{want:Bool}{x:Array Value}(hg:o.guard=Aa (j,want))(hb:((ops[j]?).bind (·.dst)).map (λt=>sl.getD t .unk)=Aa (.val (.tuple x)))(hs:putD sl o.dst (.val undef)=sl')(h:seqW P T ops dr r sl' st K):seqW P T ops dr (o::r) sl st K:=by
 subst hs;simp only[seqW,hg,hb];exact h
theorem zRl{j:Nat}{want t:Bool}(hg:o.guard=Aa (j,want))(hb:((ops[j]?).bind (·.dst)).map (λt=>sl.getD t .unk)=Aa (.val (.bool t)))(hs:putD sl o.dst (.val undef)=sl')(h:t=want->goW P T ops dr o r sl st K)(h':t=!want->seqW P T ops dr r sl' st K):seqW P T ops dr (o::r) sl st K:=by
 subst hs;simp only[seqW,hg,hb];exact⟨h,h'⟩
theorem go_lit(hE:aeff P T o.op o.type (evD sl) st= .lit p d)(hl:zP T o.op=Ab)(hp:p)(hs:putD sl o.dst d=sl')(h:seqW P T ops dr r sl' st K):goW P T ops dr o r sl st K:=by
 subst hs;simp only[goW,hE];exact⟨hl,hp,h⟩
theorem go_get(hE:aeff P T o.op o.type (evD sl) st= .get p d)(hl:zP T o.op=Ae)(hp:p)(hs:putD sl o.dst d=sl')(h:seqW P T ops dr r sl' st K):goW P T ops dr o r sl st K:=by
 subst hs;simp only[goW,hE];exact⟨hl,hp,h⟩
theorem go_new(hE:aeff P T o.op o.type (evD sl) st= .new p b d fz)(hl:zP T o.op=Ae)(hp:p)(hs:putD sl o.dst d=sl')(ht:zAz st fz++[b]=st')(h:seqW P T ops dr r sl' st' K):goW P T ops dr o r sl st K:=by
 subst hs ht;simp only[goW,hE];exact⟨hl,hp,h⟩
theorem go_put(hE:aeff P T o.op o.type (evD sl) st= .put p k b fz)(hl:isE T o.op=Ab)(hp:p)(hs:putD sl o.dst .unk=sl')(ht:(zAz st fz).set k b=st')(h:seqW P T ops dr r sl' st' K):goW P T ops dr o r sl st K:=by
 subst hs ht;simp only[goW,hE];exact⟨hl,hp,h⟩
theorem go_app(hE:aeff P T o.op o.type (evD sl) st= .app p k b d)(hl:isE T o.op=Ab)(hk:T.keep k=Ae)(hp:p)(hs:putD (sl.map (zAi k)) o.dst d=sl')(ht:(st.map (zAk k)).set k b=st')(h:seqW P T ops dr r sl' st' K):goW P T ops dr o r sl st K:=by
 subst hs ht;simp only[goW,hE];exact⟨hl,⟨hk,hp⟩,h⟩
theorem go_call{x:D}(hE:aeff P T o.op o.type (evD sl) st= .call f args fz)(hl:zP T o.op=Ae)(hc:Pure P f args [] x)(hs:putD sl o.dst x=sl')(ht:zAz st fz=st')(h:seqW P T ops dr r sl' st' K):goW P T ops dr o r sl st K:=by
 subst hs ht;simp only[goW,hE];exact⟨hl,[],x,hc,by simpa using h⟩
theorem go_callN{x:D}{n:Bk}{news:List Bk}(hE:aeff P T o.op o.type (evD sl) st= .call f args fz)(hl:zP T o.op=Ae)(hc:Pure P f args (n::news) x)(hs:putD sl o.dst (zA9 st.length x)=sl')(ht:zAz st fz++n::news=st')(h:seqW P T ops dr r sl' st' K):goW P T ops dr o r sl st K:=by
 subst hs ht;simp only[goW,hE];exact⟨hl,n::news,x,hc,by simpa using h⟩
theorem go_act{x:D}{st'':List Bk}(hE:aeff P T o.op o.type (evD sl) st= .act f args)(hl:zP T o.op=Ae)(hd:dr=Ae\/isE T o.op=Ab)(hc:Acts P f args st [] x st'')(hs:putD sl o.dst x=sl')(h:seqW P T ops dr r sl' st'' K):goW P T ops dr o r sl st K:=by
 subst hs;simp only[goW,hE];refine⟨hl,hd,[],x,st'',⟨hc,by simp⟩,?_⟩;have:sl.map (zCo [])=sl:=by
  conv=>rhs;rw[<-List.map_id sl]
  exact List.map_congr_left λd _=>by simp[zCo]
 rw[this];exact h
end
section
variable {P : Program} {T : Par} {sl : List D} {st : List Bk} {Q : Exit → List D → List Bk → Prop}
theorem zQ(h:Q .normal sl st):awp P T .skip Q sl st:=h
def zAn(P:Program)(T:Par)(b:Code)(Q:Exit->List D->List Bk->Prop)(sl:List D)(st:List Bk):Prop:=∃sl' st',Weak T sl st sl' st'/\awp P T b Q sl' st'
theorem zAw{b:Code}(h:awp P T b Q sl st):zAn P T b Q sl st:=⟨sl,st,Weak.refl _ _,h⟩
theorem zA{a b:Code}(h:awp P T a (zAf (zAn P T b Q) Q) sl st):awp P T (.seq a b) Q sl st:=h
theorem zB{i:Nat}{ops:Array Oper}{l:List Oper}(hl:ops.toList=l)(h:seqW P T ops Ae l sl st (Q .normal)):awp P T (.region i ops Ae) Q sl st:=by subst hl;exact h
theorem awp_drawn{i:Nat}{ops:Array Oper}(ord:List Nat){l:List Oper}(hr:zY3 T ops ord=Ab)(hl:(ord.map λi=>ops.getD i Aj)=l)(h:seqW P T ops Ab l sl st (Q .normal)):awp P T (.region i ops Ab) Q sl st:=by subst hl;exact .inl ⟨ord,hr,h⟩
theorem zA6{i:Nat}{ops:Array Oper}(l0:List Nat)(its:List zKc){l:List Oper}(hl:(l0.map λi=>ops.getD i Aj)=l)(h:seqW P T ops Ab l sl st λsl st=>seqI P T ops its sl st (Q .normal))(hr:zLu T ops l0 its=true:=by kernel_rfl):awp P T (.region i ops Ab) Q sl st:=by subst hl;exact .inr ⟨l0,its,hr,h⟩
theorem zBu{ops:Array Oper}{K:List D->List Bk->Prop}(h:K sl st):seqI P T ops [] sl st K:=h
def freesB(o:Oper)(c:List (Nat×Nat))(sl:List D)(st:List Bk):Bool:=c.all λx=>Nat.ble st.length x.2||o.op.operands.toList.all λy=>!refs x.2 (evD sl y)
theorem zBz{ops:Array Oper}{K:List D->List Bk->Prop}{e:Nat}{c:List (Nat×Nat)}{l:List Nat}{r:List zKc}{o:Oper}{l':List Oper}(ho:ops.getD e Aj=o)(hl:(l.map λi=>ops.getD i Aj)=l')(h:seqW P T ops Ab [o] sl st λsl' st'=>zZd P T ops c st.length sl' st'/\seqW P T ops Ab l' sl' st' λsl st=>seqI P T ops r sl st K)(hf:freesB o c sl st=true:=by kernel_rfl):seqI P T ops ((e,c,l)::r) sl st K:=by
 subst ho hl;refine⟨λx hx hlt y hy=>?_,h⟩;have h1:=Bi.1 hf x hx;rw[Bl]at h1;rcases h1 with h1|h1
 ·have:=BQ h1;omega
 grind
def lateL(P:Program)(T:Par)(ops:Array Oper)(o:Oper)(n:Nat)(sl:List D)(st:List Bk):Option (List Prop):=match gv ops o sl with
 | some Ab=>match aeff P T o.op o.type (evD sl) (st.take n),o.dst with
  | .lit p d,Aa x=>if zP T o.op then Aa [p,sl[x]?=Aa d]else Af
  | .get p d,Aa x=>if zP T o.op then Af else Aa [p,sl[x]?=Aa d]
  | .new p b d fz,Aa x=>match st[n]?,b with
   |some e,⟨cells,ty,sz,arr,Ae,kd⟩=>if zP T o.op||!fz.isEmpty then Af else Aa [p,sl[x]?=Aa d,e.cells=cells,e.ty=ty,e.sz=sz,e.arr=arr,e.kd=kd]
   |_,_=>Af
  |_,_=>Af
 |_=>Af
def zXq(P:Program)(T:Par)(ops:Array Oper)(sl:List D)(st:List Bk):List (Nat×Nat)->Option (List Prop)
 |[]=>Aa []
 |x::r=>match lateL P T ops (ops.getD x.1 Aj) x.2 sl st,zXq P T ops sl st r with
  |some l,Aa m=>Aa (l++m)
  |_,_=>Af
def AllP:List Prop->Prop
 |[]=>True
 |[p]=>p
 |p::q::r=>p/\AllP (q::r)
theorem AllP.mem:∀{l:List Prop},AllP l->∀p∈l,p
 |[],_,p,hp=>by cases hp
 |[q],h,p,hp=>by rw[List.mem_singleton]at hp;rw[hp];exact h
 |q::r::l,h,p,hp=>by
  rcases A6.1 hp with rfl|hp
  ·exact h.1
  exact AllP.mem (l:=r::l) h.2 p hp
theorem lateL_ok{ops:Array Oper}{o:Oper}{n:Nat}{l:List Prop}(h:lateL P T ops o n sl st=Aa l)(hl:∀p∈l,p):zFq P T ops o n sl st:=by
 unfold lateL at h;unfold zFq;split at h
 ·rename_i hg;rw[hg];simp only;split at h
  ·rename_i p d x he hx;rw[he];split at h
   ·rename_i hli;cases h<;>simp_all
   cases h
  ·rename_i p d x he hx;rw[he];split at h
   ·cases h
   rename_i hli;cases h<;>simp_all
  ·rename_i p b d fz x he hx;rw[he];split at h
   ·rename_i e cells ty sz arr kd hst;split at h
    ·cases h
    rename_i hli;have hl1:zP T o.op=false:=by cases hq:zP T o.op<;>simp_all
    have hl2:fz=[]:=by cases fz<;>simp_all
    cases h;exact⟨hl1,hl _ (by simp),hl2,⟨x,hx,hl (sl[x]?=Aa d) (by simp)⟩,e,hst,hl (e.cells=cells) (by simp),hl (e.ty=ty) (by simp),hl (e.sz=sz) (by simp),hl (e.arr=arr) (by simp),hl (e.kd=kd) (by simp),λh=>by cases h⟩
   cases h
  cases h
 cases h
theorem zSe{ops:Array Oper}:∀{c:List (Nat×Nat)}{l:List Prop},zXq P T ops sl st c=Aa l->(∀p∈l,p)->zFg P T ops c sl st
 |[],l,h,hl=>λx hx=>by cases hx
 | y::c,l,h,hl=>by
  unfold zXq at h;split at h
  ·rename_i l1 l2 h1 h2;cases h;intro x hx;rcases A6.1 hx with rfl|hx
   ·exact lateL_ok h1 λp hp=>hl p (BR _ hp)
   exact zSe h2 (λp hp=>hl p (BS _ hp)) x hx
  cases h
theorem zEd{ops:Array Oper}{K:List D->List Bk->Prop}{c:List (Nat×Nat)}{l:List Oper}{C:Prop}{n:Nat}(hc:C)(k:seqW P T ops Ab l sl st K)(h:(zXq P T ops sl st c).map AllP=Aa C:=by kernel_rfl)(hn:Nat.ble n st.length=true:=by kernel_rfl):zZd P T ops c n sl st/\seqW P T ops Ab l sl st K:=by
 obtain⟨l,h1,rfl⟩:=Au.1 h;exact⟨⟨BQ hn,zSe h1 hc.mem⟩,k⟩
theorem zAa{c:Operand}{x y:Code}{t:Bool}(hc:evD sl c= .val (.bool t))(h:t=Ab->awp P T x Q sl st)(h':t=Ae->awp P T y Q sl st):awp P T (.cond c x y) Q sl st:=by
 simp only[awp,hc];exact⟨h,h'⟩
theorem zH{i:Nat}{b:Code}(h:awp P T b (zAd i Q) sl st):awp P T (.block i b) Q sl st:=h
theorem zQy{i:Nat}(h:Q (.exit i) sl st):awp P T (.exit i) Q sl st:=h
theorem zE(h:Q .ret sl st):awp P T .ret Q sl st:=h
variable {K : List D → List Bk → Prop}
theorem zC(h:K sl st):zAf K Q .normal sl st:=h
theorem zFu{i:Nat}(h:Q (.exit i) sl st):zAf K Q (.exit i) sl st:=h
theorem zG(h:Q .ret sl st):zAf K Q .ret sl st:=h
theorem zD{i:Nat}(h:Q .normal sl st):zAd i Q .normal sl st:=h
theorem zL{i:Nat}(h:Q .ret sl st):zAd i Q .ret sl st:=h
theorem zM5{i j:Nat}(e:j=i)(h:Q .normal sl st):zAd i Q (.exit j) sl st:=by simp only[zAd,e,if_true];exact h
end
theorem wrap_i64{x:Int}(h1:-9223372036854775808<=x)(h2:x<=9223372036854775807):AH.wrap x=x:=by
 simp only[BT,BF,BG,BU,BV,AK,if_false,decide_eq_true_eq,ge_iff_le];(try split)<;>omega
theorem zA4{x:Int}(h1:0<=x)(h2:x<=4294967295):AW.wrap x=x:=by
 simp only[BT,BF,BG,BU,BV,AK,if_false,decide_eq_true_eq,ge_iff_le];(try split)<;>omega
abbrev U:D:= .unk
abbrev iD(x:Int):D:= .val (.int .i64 x)
abbrev bD(b:Bool):D:= .val (.bool b)
def updS(sl:List D):List (Nat×D)->List D
 |[]=>sl
 |(i,d)::r=>updS (sl.set i d) r
def zAx(sl:List D):List Nat->List D
 |[]=>sl
 |i::r=>zAx (sl.set i .unk) r
def Alls:List Prop->Prop
 |[]=>True
 |[p]=>p
 |p::q::r=>p/\Alls (q::r)
theorem Alls.cons{p:Prop}{r:List Prop}(h:Alls (p::r)):p/\Alls r:=by
 cases r with
 |nil=>exact⟨h,trivial⟩
 |cons q r=>exact h
theorem Alls.app:∀{l r:List Prop},Alls (l++r)->Alls l/\Alls r
 |[],r,h=>⟨trivial,h⟩
 |[p],r,h=>⟨h.cons.1,h.cons.2⟩
 |p::q::l,r,h=>by
  have h1:=Alls.cons (r:=q::l++r) h;have h2:=Alls.app (l:=q::l) h1.2;exact⟨⟨h1.1,h2.1⟩,h2.2⟩
def inK:IntKind->Int->Prop
 | .i64,x=>-9223372036854775808<=x/\x<=9223372036854775807
 | .u64,x=>0<=x/\x<=18446744073709551615
 | .i32,x=>-2147483648<=x/\x<=2147483647
 | .u32,x=>0<=x/\x<=4294967295
 | .i16,x=>-32768<=x/\x<=32767
 | .u16,x=>0<=x/\x<=65535
 | .i8,x=>-128<=x/\x<=127
 | .u8,x=>0<=x/\x<=255
theorem zFj{k:IntKind}{x:Int}(h:inK k x):k.wrap x=x:=by
 cases k<;>simp only[inK]at h<;>simp only[BT,BF,BG,BU,BV,AK,if_false,decide_eq_true_eq,ge_iff_le]<;>(try split)<;>omega
def exBin:BinOp->Int->Int->Option Int
 | .add,a,b=>Aa (a+b)
 | .sub,a,b=>Aa (a-b)
 | .mul,a,b=>Aa (a*b)
 | .quo,a,b=>Aa (a.tdiv b)
 |_,_,_=>Af
section
variable (P : Program) (T : Par)
def isQuo:BinOp->Bool
 | .quo=>Ab
 |_=>Ae
def zV2(o:Op)(ty:TypeId)(ρ:Operand->D)(st:List Bk):Eff:=match o with
 | .binOp op t x y u=>match ρ x,ρ y with
  | .val (.int k a), .val (.int k' b)=>match exBin op a b with
   |some z=>if k=k' then .lit (if isQuo op then b≠0/\inK k z else inK k z) (.val (.int k z))else .bad
   |none=>aeff P T (.binOp op t x y u) ty ρ st
  |_,_=>aeff P T (.binOp op t x y u) ty ρ st
 | .unOp .neg t x=>match ρ x with
  | .val (.int k a)=> .lit (inK k (0-a)) (.val (.int k (0-a)))
  |_=> .bad
 | .convert s d x=>match P.underlying s,P.underlying d,ρ x with
  |some (.int _),Aa (.int k), .val (.int _ n)=>if T.hv (.convert s d x)then .bad else .lit (inK k n) (.val (.int k n))
  |_,_,_=>aeff P T (.convert s d x) ty ρ st
 |o=>aeff P T o ty ρ st
theorem aeffX_lit{o:Op}{ty:TypeId}{ρ:Operand->D}{st:List Bk}{p:Prop}{d:D}(h:zV2 P T o ty ρ st= .lit p d)(hp:p):∃q,aeff P T o ty ρ st= .lit q d/\q:=by
 unfold zV2 at h;split at h
 ·rename_i op t x y u;split at h
  ·rename_i k a k' b hx hy;split at h
   ·rename_i z hz;split at h
    ·rename_i hk;subst hk;simp only[Eff.lit.injEq]at h;obtain⟨rfl,rfl⟩:=h;cases op<;>simp only[exBin,AV.injEq,reduceCtorEq]at hz;all_goals
      subst hz;simp only[isQuo,if_true,if_false,AK]at hp
     ·exact⟨True,by simp[aeff,aBin,hx,hy,aInt,zFj hp],trivial⟩
     ·exact⟨True,by simp[aeff,aBin,hx,hy,aInt,zFj hp],trivial⟩
     ·exact⟨True,by simp[aeff,aBin,hx,hy,aInt,zFj hp],trivial⟩
     exact⟨b≠0,by simp[aeff,aBin,hx,hy,aInt,zFj hp.2],hp.1⟩
    cases h
   exact⟨p,h,hp⟩
  exact⟨p,h,hp⟩
 ·rename_i t x;split at h
  ·rename_i k a hx;simp only[Eff.lit.injEq]at h;obtain⟨rfl,rfl⟩:=h;exact⟨True,by simp only[aeff,hx,aUn,zFj hp],trivial⟩
  cases h
 ·rename_i s t x;split at h
  ·rename_i k0 k k1 n hs hd hx;split at h
   ·cases h
   rename_i hv;simp only[Eff.lit.injEq]at h;obtain⟨rfl,rfl⟩:=h;exact⟨True,by simp only[aeff,hv,AK,if_false,aConv,hs,hd,hx,zFj hp],trivial⟩
  exact⟨p,h,hp⟩
 exact⟨p,h,hp⟩
theorem aeffX_not{o:Op}{ty:TypeId}{ρ:Operand->D}{st:List Bk}{e:Eff}(h:zV2 P T o ty ρ st=e)(hn:∀p d,e≠ .lit p d)(hb:e≠ .bad):aeff P T o ty ρ st=e:=by
 unfold zV2 at h;grind
def zN2:Op->Bool
 | .move _| .assign _| .pick ..| .alloc _| .box ..| .nilCheck _=>Ab
 | .binOp op ..=>match op with
  | .lss| .leq| .gtr| .geq=>Ab
  |_=>Ae
 | .unOp .not ..=>Ab
 | .makeInterface ..| .makeFunc ..=>Ab
 | .call {callee:= .builtin .len,..}| .call {callee:= .builtin .min,..}| .call {callee:= .builtin .max,..}=>Ab
 |_=>Ae
def effP:Eff->Prop
 | .lit p _| .get p _| .new p _ _ _| .put p _ _ _| .app p _ _ _=>p
 |_=>True
theorem triv_ok{o:Op}{ty:TypeId}{ρ:Operand->D}{st:List Bk}(h:zN2 o=Ab):effP (aeff P T o ty ρ st):=by
 unfold zN2 at h;split at h<;>first|cases h|skip
 all_goals simp only[aeff]
 all_goals first
  |trivial
  |((repeat' split)<;>trivial)
  |skip
 ·rename_i op t x y u;cases op<;>simp only[AK]at h<;>simp only[aBin]<;>(repeat' split)<;>first|trivial|(simp only[aInt];trivial)|(simp only[aStr];trivial)|(simp only[aNil];(repeat' split)<;>trivial)|(simp only[aEqS];(repeat' split)<;>trivial)|(simp only[zKw];(repeat' split)<;>trivial)|skip
 ·unfold aUn;(repeat' split)<;>trivial
 split
 ·split
  ·unfold zZu;(repeat' split)<;>trivial
  unfold aLen;(repeat' split)<;>trivial
 trivial
end
section
variable (P : Program) (T : Par)
inductive Gd where
 |bad
 |skip(cs:List Prop)(gs:List (Nat×Bool))(sl:List D)
 |go(cs:List Prop)(gs:List (Nat×Bool))(sl:List D)
def assocB(gs:List (Nat×Bool))(j:Nat):Option Bool:=match gs with
 |[]=>Af
 |(i,b)::r=>if i==j then Aa b else assocB r j
def gdec(ops:Array Oper)(o:Oper)(gs:List (Nat×Bool))(sl:List D):Gd:=match o.guard with
 |none=> .go [] gs sl
 | some (j,want)=>match(ops[j]?).bind (·.dst)with
  |none=> .bad
  | some t=>match sl.getD t .unk with
   | .val (.bool b)=>match assocB gs j with
    |some g=>if g==want then .go [b=g] (gs.filter λx=>x.1 !=j) (sl.set t (.val (.bool g)))else .skip [b=g] (gs.filter λx=>x.1 !=j) (sl.set t (.val (.bool g)))
    |none=>if b==want then .go [] gs sl else .skip [] gs sl
   | .val (.tuple _)=> .skip [] gs sl
   |_=> .bad
def memN(l:List Nat)(n:Nat):Bool:=match l with
 |[]=>Ae
 |i::r=>if i==n then Ab else memN r n
def rawOf(raws:List Nat)(o:Oper):Bool:=match o.dst with
 |some d=>memN raws d
 |none=>Ae
def zV1(raws:List Nat)(o:Oper)(sl:List D)(st:List Bk):Eff:=if rawOf raws o then aeff P T o.op o.type (evD sl) st else zV2 P T o.op o.type (evD sl) st
def zMv(o:Op)(p:Prop):List Prop:=if zN2 o then[]else[p]
def runL(ops:Array Oper)(raws:List Nat):List Oper->List (Nat×Bool)->List D->List Bk->Option (List Prop×List D×List Bk)
 |[],_,sl,st=>Aa ([],sl,st)
 | o::r,gs,sl,st=>match gdec ops o gs sl with
  | .bad=>Af
  | .skip cs gs sl=>(runL ops raws r gs (putD sl o.dst (.val undef)) st).map λx=>(cs++x.1,x.2)
  | .go cs gs sl=>match zV1 P T raws o sl st with
   | .lit p d=>if zP T o.op then(runL ops raws r gs (putD sl o.dst d) st).map λx=>(cs++zMv o.op p++x.1,x.2)else Af
   | .get p d=>if zP T o.op then Af else(runL ops raws r gs (putD sl o.dst d) st).map λx=>(cs++zMv o.op p++x.1,x.2)
   | .new p b d fz=>if zP T o.op then Af else(runL ops raws r gs (putD sl o.dst d) (zAz st fz++[b])).map λx=>(cs++zMv o.op p++x.1,x.2)
   | .put p k b fz=>if isE T o.op then(runL ops raws r gs (putD sl o.dst .unk) ((zAz st fz).set k b)).map λx=>(cs++zMv o.op p++x.1,x.2)else Af
   | .app p k b d=>if isE T o.op&&!T.keep k then(runL ops raws r gs (putD (sl.map (zAi k)) o.dst d) ((st.map (zAk k)).set k b)).map λx=>(cs++zMv o.op p++x.1,x.2)else Af
   |_=>Af
theorem zGh{sl:List D}{t:Nat}{d:D}(h:sl.getD t .unk=d)(hd:d≠ .unk):sl.set t d=sl:=by
 subst h;apply BE;grind
variable {P T}
theorem zFk{ops:Array Oper}{o:Oper}{gs gs':List (Nat×Bool)}{sl sl':List D}{cs:List Prop}(h:gdec ops o gs sl= .go cs gs' sl')(hc:Alls cs):sl'=sl/\∀{dr:Bool}{r:List Oper}{st:List Bk}{K:List D->List Bk->Prop},goW P T ops dr o r sl st K->seqW P T ops dr (o::r) sl st K:=by
 unfold gdec at h;split at h
 ·rename_i hg;simp only[Gd.go.injEq]at h;grind [zDl]
 rename_i j want hg;split at h
 ·cases h
 rename_i t ht;split at h
 ·rename_i b hb;have key:b=want->∀{dr:Bool}{r:List Oper}{st:List Bk}{K:List D->List Bk->Prop},goW P T ops dr o r sl st K->seqW P T ops dr (o::r) sl st K:=λhbw {dr r st K} hgo=>
   zRl (t:=b) hg (by rw[ht];simp only[Br,hb]) rfl (λ_=>hgo) (λhx=>by subst hbw;cases b<;>cases hx)
  split at h
  ·rename_i g hgs;split at h
   ·rename_i hw;simp only[Gd.go.injEq]at h;obtain⟨rfl,_,rfl⟩:=h;have hbg:b=g:=hc;grind [zGh]
   cases h
  grind
 ·cases h
 cases h
theorem gdec_skip{ops:Array Oper}{o:Oper}{gs gs':List (Nat×Bool)}{sl sl':List D}{cs:List Prop}(h:gdec ops o gs sl= .skip cs gs' sl')(hc:Alls cs):sl'=sl/\∀{dr:Bool}{r:List Oper}{st:List Bk}{K:List D->List Bk->Prop},seqW P T ops dr r (putD sl o.dst (.val undef)) st K->seqW P T ops dr (o::r) sl st K:=by
 unfold gdec at h;split at h
 ·cases h
 rename_i j want hg;split at h
 ·cases h
 rename_i t ht;split at h
 ·rename_i b hb;have key:b=!want->∀{dr:Bool}{r:List Oper}{st:List Bk}{K:List D->List Bk->Prop},seqW P T ops dr r (putD sl o.dst (.val undef)) st K->seqW P T ops dr (o::r) sl st K:=λhbw {dr r st K} hgo=>
   zRl (t:=b) hg (by rw[ht];simp only[Br,hb]) rfl (λhx=>by subst hx;cases b<;>cases hbw) (λ_=>hgo)
  split at h
  ·rename_i g hgs;split at h
   ·cases h
   rename_i hw;simp only[Gd.skip.injEq]at h;obtain⟨rfl,_,rfl⟩:=h;have hbg:b=g:=hc;subst hbg;exact⟨zGh hb (by simp),key (by cases b<;>cases want<;>simp at hw⊢)⟩
  split at h
  ·cases h
  rename_i hw;simp only[Gd.skip.injEq]at h;exact⟨h.2.2.symm,key (by cases b<;>cases want<;>simp at hw⊢)⟩
 ·rename_i x hb;simp only[Gd.skip.injEq]at h;exact⟨h.2.2.symm,λhgo=>seq_skip (x:=x) hg (by rw[ht];simp only[Br,hb]) rfl hgo⟩
 cases h
theorem aeffY_lit{raws:List Nat}{o:Oper}{sl:List D}{st:List Bk}{p:Prop}{d:D}(h:zV1 P T raws o sl st= .lit p d)(hp:p):∃q,aeff P T o.op o.type (evD sl) st= .lit q d/\q:=by
 grind [zV1,aeffX_lit]
theorem zJg{raws:List Nat}{o:Oper}{sl:List D}{st:List Bk}{e:Eff}(h:zV1 P T raws o sl st=e)(hn:∀p d,e≠ .lit p d)(hb:e≠ .bad):aeff P T o.op o.type (evD sl) st=e:=by
 unfold zV1 at h;split at h;all_goals simp_all [aeffX_not]
theorem zZs{o:Op}{ty:TypeId}{ρ:Operand->D}{st:List Bk}(h:zN2 o=Ab):effP (zV2 P T o ty ρ st):=by
 have h0:=triv_ok P T (o:=o) (ty:=ty) (ρ:=ρ) (st:=st) h;unfold zV2;split
 ·rename_i op t x y u;split
  ·split
   ·rename_i z hz;cases op<;>simp only[exBin,reduceCtorEq]at hz<;>simp[zN2]at h
   exact h0
  exact h0
 all_goals grind [zN2]
theorem zMu{raws:List Nat}{o:Oper}{sl:List D}{st:List Bk}{e:Eff}{p:Prop}(h:zV1 P T raws o sl st=e)(he:effP e=p)(hc:Alls (zMv o.op p)):p:=by
 unfold zMv at hc;split at hc
 ·rename_i ht;rw[<-he,<-h];unfold zV1;split;all_goals simp_all [triv_ok,ht,zZs]
 exact hc
theorem zCh{ops:Array Oper}{dr:Bool}{raws:List Nat}{K:List D->List Bk->Prop}:∀(l l':List Oper)(gs:List (Nat×Bool))(sl:List D)(st:List Bk)(cs:List Prop)(sl':List D)(st':List Bk),runL P T ops raws l gs sl st=Aa (cs,sl',st')->Alls cs->seqW P T ops dr l' sl' st' K->seqW P T ops dr (l++l') sl st K
 |[],l',gs,sl,st,cs,sl',st',h,hc,k=>by
  simp only[runL,AV.injEq,Ar.injEq]at h;grind
 | o ::r,l',gs,sl,st,cs,sl',st',h,hc,k=>by
  simp only[runL]at h;split at h
  ·cases h
  ·rename_i c1 gs1 sl1 hg;simp only[Au,Prod.exists,Ar.injEq]at h;obtain⟨c2,sl2,st2,h1,rfl,rfl,rfl⟩:=h;obtain⟨a1,a2⟩:=Alls.app hc;obtain⟨rfl,g2⟩:=gdec_skip (P:=P) (T:=T) hg a1;exact g2 (zCh r l' _ _ _ _ _ _ h1 a2 k)
  rename_i c1 gs1 sl1 hg;split at h
  ·rename_i p d he;split at h
   ·rename_i hl;simp only[Au,Prod.exists,Ar.injEq]at h;obtain⟨c2,sl2,st2,h1,rfl,rfl,rfl⟩:=h;obtain⟨a1,a2⟩:=Alls.app hc;obtain⟨a1,a3⟩:=Alls.app a1;obtain⟨rfl,g2⟩:=zFk (P:=P) (T:=T) hg a1;obtain⟨q,e1,e2⟩:=aeffY_lit he (zMu he rfl a3);exact g2 (go_lit e1 hl e2 rfl (zCh r l' _ _ _ _ _ _ h1 a2 k))
   cases h
  ·rename_i p d he;split at h
   ·cases h
   rename_i hl;simp only[Au,Prod.exists,Ar.injEq]at h;obtain⟨c2,sl2,st2,h1,rfl,rfl,rfl⟩:=h;obtain⟨a1,a2⟩:=Alls.app hc;obtain⟨a1,a3⟩:=Alls.app a1;obtain⟨rfl,g2⟩:=zFk (P:=P) (T:=T) hg a1;exact g2 (go_get (zJg he (by simp) (by simp)) (by simpa using hl) (zMu he rfl a3) rfl (zCh r l' _ _ _ _ _ _ h1 a2 k))
  ·rename_i p b d fz he;split at h
   ·cases h
   rename_i hl;simp only[Au,Prod.exists,Ar.injEq]at h;obtain⟨c2,sl2,st2,h1,rfl,rfl,rfl⟩:=h;obtain⟨a1,a2⟩:=Alls.app hc;obtain⟨a1,a3⟩:=Alls.app a1;obtain⟨rfl,g2⟩:=zFk (P:=P) (T:=T) hg a1;exact g2 (go_new (zJg he (by simp) (by simp)) (by simpa using hl) (zMu he rfl a3) rfl rfl (zCh r l' _ _ _ _ _ _ h1 a2 k))
  ·rename_i p n b fz he;split at h
   ·rename_i hl;simp only[Au,Prod.exists,Ar.injEq]at h;obtain⟨c2,sl2,st2,h1,rfl,rfl,rfl⟩:=h;obtain⟨a1,a2⟩:=Alls.app hc;obtain⟨a1,a3⟩:=Alls.app a1;obtain⟨rfl,g2⟩:=zFk (P:=P) (T:=T) hg a1;exact g2 (go_put (zJg he (by simp) (by simp)) hl (zMu he rfl a3) rfl rfl (zCh r l' _ _ _ _ _ _ h1 a2 k))
   cases h
  ·rename_i p n b d he;split at h
   ·rename_i hl;simp only[AD,Bj]at hl;simp only[Au,Prod.exists,Ar.injEq]at h;obtain⟨c2,sl2,st2,h1,rfl,rfl,rfl⟩:=h;obtain⟨a1,a2⟩:=Alls.app hc;obtain⟨a1,a3⟩:=Alls.app a1;obtain⟨rfl,g2⟩:=zFk (P:=P) (T:=T) hg a1;exact g2 (go_app (zJg he (by simp) (by simp)) hl.1 hl.2 (zMu he rfl a3) rfl rfl (zCh r l' _ _ _ _ _ _ h1 a2 k))
   cases h
  cases h
end
theorem lb{a b:Nat}(h:Nat.ble a b=Ab):a<=b:=BQ h
abbrev nl:D:= .val (.slice Af 0 0)
section
variable {P : Program} {T : Par}
theorem LeD.trans{a b c:D}(h:LeD a b)(k:LeD b c):LeD a c:=λI w β v hv=>k I w β v (h I w β v hv)
theorem LeL.trans{a b c:List D}(h:LeL a b):LeL b c->LeL a c:=by
 induction h generalizing c with
 |nil=>exact λh=>h
 |cons h1 _ ih=>
  intro k;cases k with
  |cons k1 k2=>exact .cons (h1.trans k1) (ih k2)
theorem LeL.set(sl:List D)(i:Nat):LeL sl (sl.set i .unk):=by
 induction sl generalizing i with
 |nil=>exact .nil
 |cons d ds ih=>
  cases i with
  |zero=>exact .cons (.unk _) (.refl _)
  |succ i=>exact .cons (.refl _) (ih i)
theorem LeL.dead(dead:List Nat):∀sl:List D,LeL sl (zAx sl dead):=by
 induction dead with
 |nil=>exact λsl=> .refl sl
 |cons i r ih=>exact λsl=>(LeL.set sl i).trans (ih _)
theorem Pure.frozen{f:FuncId}{args:List D}{b:Bk}{n m:Nat}{wh:Bool}{cs:List D}(h:Pure P f args [b] (.osl 0 0 n m wh))(hb:b.arr=Ab)(hc:b.cells.take m=cs):Pure P f args [] (.row cs n):=by
 intro I w vs hr hi hg;refine(h I w vs hr hi hg).mono ?_;rintro e w' ⟨v,I',γ,he,h1,h2,h3,h4,h5,h6,h7,h8,h9,h10,h11⟩;have hs:Sim γ I' w' [.osl 0 0 n m wh] [b] [v]:=⟨by simp only[RelT];exact⟨v,[],rfl,h10,rfl⟩,h6,h7,h8,h9,h2,hg.mono h3⟩;have hkd:b.kd= .plain:=(h11 b (by simp)).2;have hf:frz Ab [b] zAc (.osl 0 0 n m wh)=Aa (.row cs n,[0]):=by simp[frz,zAc,hb,hc,hkd,Bk.nob,Kd.isMap,Kd.isSh]
 have h12:=zCi hs.sr.weak _ _ _ _ _ hf h10;refine⟨v,fixI I' γ [b] [0],noB,he,h1,zFl hs.sr.weak h2 [0],h3.trans (zAv [0]),λx o hx=>?_,λk b c h=>(by cases h),λk b c h=>(by cases h),λk k' b c c' h=>(by cases h),λk b c j e h=>(by cases h),λk y h=>(by cases h),h12,by simp⟩;rcases hx with hx|⟨k,_,c,e,hk,_⟩;all_goals grind
theorem Pure.le{f:FuncId}{args args':List D}{news:List Bk}{x:D}(h:Pure P f args' news x)(ha:LeL args args'):Pure P f args news x:=λI w vs hr hi=>h I w vs (ha.rel hr) hi
theorem Acts.le{f:FuncId}{args args':List D}{st st':List Bk}{x:D}{ch:List Nat}(h:Acts P f args' st ch x st')(ha:LeL args args'):Acts P f args st ch x st':=λβ I w vs hr=>h β I w vs (ha.rel hr)
section
variable {ops : Array Oper} {dr : Bool} {l : List Oper} {sl : List D} {st : List Bk} {K : List D → List Bk → Prop}
theorem st_run(n:Nat)(raws:List Nat)(gs:List (Nat×Bool))(C:Prop)(ch:List (Nat×D))(st':List Bk)(h:(runL P T ops raws (l.take n) gs sl st).map (λx=>(Alls x.1,x.2.1,x.2.2))=Aa (C,updS sl ch,st'))(hc:C)(k:seqW P T ops dr (l.drop n) (updS sl ch) st' K):seqW P T ops dr l sl st K:=by
 rw[Au]at h;obtain⟨⟨c,s1,s2⟩,h1,h2⟩:=h;simp only[Ar.injEq]at h2;grind [zCh,Bs]
theorem st_end{b:Code}{Q Q':Exit->List D->List Bk->Prop}(raws:List Nat)(gs:List (Nat×Bool))(dead:List Nat)(C:Prop)(ch:List (Nat×D))(st':List Bk)(h:(runL P T ops raws l gs sl st).map (λx=>(Alls x.1,zAx x.2.1 dead,x.2.2))=Aa (C,updS (zAx sl dead) ch,st'))(hc:C)(k:awp P T b Q (updS (zAx sl dead) ch) st'):seqW P T ops dr l sl st (zAf (zAn P T b Q) Q' .normal):=by
 rw[Au]at h;obtain⟨⟨c,s1,s2⟩,h1,h2⟩:=h;simp only[Ar.injEq]at h2;obtain⟨rfl,e,rfl⟩:=h2
 have:=zCh (P:=P) (T:=T) (dr:=dr) (K:=zAf (zAn P T b Q) Q' .normal) l [] gs sl st c s1 s2 h1 hc ?_
 ·grind
 exact⟨_,_,Weak.slots (LeL.dead dead s1),e▸k⟩
theorem zR(n:Nat)(raws:List Nat)(gs:List (Nat×Bool))(C:Prop)(ch:List (Nat×D))(hc:C)(k:seqW P T ops dr (l.drop n) (updS sl ch) st K)(h:(runL P T ops raws (l.take n) gs sl st).map (λx=>(Alls x.1,x.2.1,x.2.2))=Aa (C,updS sl ch,st):=by kernel_rfl):seqW P T ops dr l sl st K:=by grind [st_run]
theorem st_end0{b:Code}{Q Q':Exit->List D->List Bk->Prop}(raws:List Nat)(gs:List (Nat×Bool))(dead:List Nat)(C:Prop)(ch:List (Nat×D))(h:(runL P T ops raws l gs sl st).map (λx=>(Alls x.1,zAx x.2.1 dead,x.2.2))=Aa (C,updS (zAx sl dead) ch,st))(hc:C)(k:awp P T b Q (updS (zAx sl dead) ch) st):seqW P T ops dr l sl st (zAf (zAn P T b Q) Q' .normal):=by grind [st_end]
theorem zAl(i:Nat)(d0 d:D)(hd:d0=d)(k:seqW P T ops dr l (sl.set i d) st K)(h:sl.getD i .unk=d0:=by kernel_rfl)(hu:zGy d||zD3 d||(match d with| .tup _=>Ab|_=>Ae)=true:=by kernel_rfl):seqW P T ops dr l sl st K:=by
 subst hd;rwa[zGh h (by intro e;subst e;simp[zGy,zD3]at hu)]at k
theorem st_blk(i:Nat)(b0 b:Bk)(h:st[i]?=Aa b0)(hd:b0=b)(k:seqW P T ops dr l sl (st.set i b) K):seqW P T ops dr l sl st K:=by
 subst hd;rwa[show st.set i b0=st from by
  apply BE;intro j;rw[List.getElem?_set];split
  ·rename_i e;subst e;rw[h];split
   ·rfl
   rename_i hx;rw[BH (by omega)]at h;cases h
  rfl]at k
def hdst(l:List Oper):Option Nat:=(l.head?).bind (·.dst)
def zKv(P:Program)(T:Par)(ops:Array Oper)(l:List Oper)(gs:List (Nat×Bool))(sl:List D)(st:List Bk):Option (List Prop×FuncId×List D×List Bk):=match l with
 |[]=>Af
 | o::_=>match gdec ops o gs sl with
  | .go cs _ sl=>match aeff P T o.op o.type (evD sl) st with
   | .call f args fz=>if zP T o.op then Af else Aa (cs,f,args,zAz st fz)
   |_=>Af
  |_=>Af
theorem zYf{gs:List (Nat×Bool)}{cs:List Prop}{f:FuncId}{args:List D}{st':List Bk}(h:zKv P T ops l gs sl st=Aa (cs,f,args,st'))(hc:Alls cs):∃o r fz,l=o::r/\zP T o.op=Ae/\aeff P T o.op o.type (evD sl) st= .call f args fz/\st'=zAz st fz/\∀{K:List D->List Bk->Prop},goW P T ops dr o r sl st K->seqW P T ops dr (o::r) sl st K:=by
 unfold zKv at h;split at h
 ·cases h
 rename_i o r;split at h
 ·rename_i c1 g1 s1 hg;split at h
  ·rename_i f1 a1 fz he;split at h
   ·cases h
   rename_i hl;simp only[AV.injEq,Ar.injEq]at h;obtain⟨rfl,rfl,rfl,rfl⟩:=h;obtain⟨rfl,g2⟩:=zFk (P:=P) (T:=T) hg hc;exact⟨o,r,fz,rfl,by simpa using hl,he,rfl,λk=>g2 k⟩
  cases h
 cases h
theorem zTn(gs:List (Nat×Bool))(cs:List Prop){f:FuncId}(args:List D)(st':List Bk){x:D}(args':List D)(h:zKv P T ops l gs sl st=Aa (cs,f,args,st'))(hc:Alls cs)(ha:LeL args args')(hp:Pure P f args' [] x)(k:seqW P T ops dr l.tail (putD sl (hdst l) x) st' K):seqW P T ops dr l sl st K:=by
 obtain⟨o,r,fz,rfl,hl,he,rfl,g⟩:=zYf (dr:=dr) h hc;exact g (go_call he hl (hp.le ha) rfl rfl k)
theorem st_callN(gs:List (Nat×Bool))(cs:List Prop){f:FuncId}(args:List D)(st':List Bk){x:D}{n:Bk}{news:List Bk}(args':List D)(h:zKv P T ops l gs sl st=Aa (cs,f,args,st'))(hc:Alls cs)(ha:LeL args args')(hp:Pure P f args' (n::news) x)(k:seqW P T ops dr l.tail (putD sl (hdst l) (zA9 st.length x)) (st'++n::news) K):seqW P T ops dr l sl st K:=by
 obtain⟨o,r,fz,rfl,hl,he,rfl,g⟩:=zYf (dr:=dr) h hc;exact g (go_callN he hl (hp.le ha) rfl rfl k)
theorem st_callr{f:FuncId}(args:List D){x:D}(h:zKv P T ops l [] sl st=Aa ([],f,args,st))(hp:Pure P f args [] x)(k:seqW P T ops dr l.tail (putD sl (hdst l) x) st K):seqW P T ops dr l sl st K:=zTn [] [] args st args h trivial (LeL.refl _) hp k
theorem zAb{b:Code}{Q Q':Exit->List D->List Bk->Prop}(dead:List Nat)(ch:List (Nat×D))(k:awp P T b Q (updS (zAx sl dead) ch) st)(h:(runL P T ops [] l [] sl st).map (λx=>(Alls x.1,zAx x.2.1 dead,x.2.2))=Aa (True,updS (zAx sl dead) ch,st):=by kernel_rfl):seqW P T ops dr l sl st (zAf (zAn P T b Q) Q' .normal):=st_end [] [] dead True ch st h trivial k
theorem zA3(n:Nat)(ch:List (Nat×D))(k:seqW P T ops dr (l.drop n) (updS sl ch) st K)(h:(runL P T ops [] (l.take n) [] sl st).map (λx=>(Alls x.1,x.2.1,x.2.2))=Aa (True,updS sl ch,st):=by kernel_rfl):seqW P T ops dr l sl st K:=st_run n [] [] True ch st h trivial k
theorem zRj{f:FuncId}(args:List D){x:D}(hp:Pure P f args [] x)(k:seqW P T ops dr l.tail (putD sl (hdst l) x) st K)(h:zKv P T ops l [] sl st=Aa ([],f,args,st):=by kernel_rfl):seqW P T ops dr l sl st K:=zTn [] [] args st args h trivial (LeL.refl _) hp k
def actL(P:Program)(T:Par)(ops:Array Oper)(dr:Bool)(l:List Oper)(gs:List (Nat×Bool))(sl:List D)(st:List Bk):Option (List Prop×FuncId×List D):=match l with
 |[]=>Af
 | o::_=>match gdec ops o gs sl with
  | .go cs _ sl=>match aeff P T o.op o.type (evD sl) st with
   | .act f args=>if !zP T o.op&&(!dr||isE T o.op)then Aa (cs,f,args)else Af
   |_=>Af
  |_=>Af
theorem zY(gs:List (Nat×Bool))(cs:List Prop){f:FuncId}(args:List D){x:D}{st':List Bk}(args':List D)(ha:LeL args args')(hp:Acts P f args' st [] x st')(k:seqW P T ops dr l.tail (putD sl (hdst l) x) st' K)(h:actL P T ops dr l gs sl st=Aa (cs,f,args):=by kernel_rfl)(hc:Alls cs:=by exact trivial):seqW P T ops dr l sl st K:=by
 unfold actL at h;split at h
 ·cases h
 rename_i o r;split at h
 ·rename_i c1 g1 s1 hg;split at h
  ·rename_i f1 a1 he;split at h
   ·rename_i hl;simp only[AV.injEq,Ar.injEq]at h;obtain⟨rfl,rfl,rfl⟩:=h;obtain⟨rfl,g2⟩:=zFk (P:=P) (T:=T) hg hc;simp only[AD,Bj,Bl]at hl;exact g2 (go_act he hl.1 hl.2 (hp.le ha) rfl k)
   cases h
  cases h
 cases h
theorem zAh(k:K sl st)(e:l=[]):seqW P T ops dr l sl st K:=by subst e;exact k
def guardL(ops:Array Oper)(l:List Oper)(sl:List D):Option (Nat×Bool):=match l with
 |[]=>Af
 | o::_=>match o.guard with
  |none=>Af
  | some (j,_)=>match(ops[j]?).bind (·.dst)with
   |none=>Af
   |some t=>match sl.getD t .unk with
    | .val (.bool b)=>Aa (t,b)
    |_=>Af
theorem st_split(t:Nat)(b:Bool)(h:guardL ops l sl=Aa (t,b))(k1:b=Ab->seqW P T ops dr l (sl.set t (.val (.bool Ab))) st K)(k2:b=Ae->seqW P T ops dr l (sl.set t (.val (.bool Ae))) st K):seqW P T ops dr l sl st K:=by
 unfold guardL at h;(repeat' split at h)<;>try cases h
 rename_i hb;cases b<;>grind [zGh]
theorem zEl{K':List D->List Bk->Prop}(hK:∀sl st,K sl st->K' sl st):∀(l:List Oper)(sl:List D)(st:List Bk),seqW P T ops dr l sl st K->seqW P T ops dr l sl st K'
 |[],sl,st,h=>hK _ _ h
 | o::r,sl,st,h=>by
  have ih:=zEl hK r;have go:goW P T ops dr o r sl st K->goW P T ops dr o r sl st K':=by
   unfold goW;grind
  cases hg:o.guard with
  |none=>
   simp only[seqW,hg]at h;exact zDl hg (go h)
  |some jw=>
   obtain⟨j,want⟩:=jw;simp only[seqW,hg]at h⊢;split at h
   ·exact⟨λe=>go (h.1 e),λe=>ih _ _ (h.2 e)⟩
   all_goals grind
end
theorem zRn{ops:Array Oper}{K K':List D->List Bk->Prop}(hK:∀sl st,K sl st->K' sl st):∀(its:List zKc)(sl:List D)(st:List Bk),seqI P T ops its sl st K->seqI P T ops its sl st K'
 |[],sl,st,h=>hK _ _ h
 |(e,c,l)::r,sl,st,h=>⟨h.1,zEl (λsl st h2=>⟨h2.1,zEl (λsl st h3=>zRn hK r sl st h3) _ _ _ h2.2⟩) _ _ _ h.2⟩
theorem zLa:∀(c:Code){Q Q':Exit->List D->List Bk->Prop}(hQ:∀e sl st,Q e sl st->Q' e sl st) (sl:List D) (st:List Bk),awp P T c Q sl st->awp P T c Q' sl st:=by
 intro c;induction c with
 |skip=>intro Q Q' hQ sl st h;exact hQ _ _ _ h
 | region id ops dr=>
  intro Q Q' hQ sl st h;simp only[awp]at h⊢;split
  ·rename_i hd;rw[if_pos hd]at h;rcases h with⟨o,h1,h2⟩|⟨l0,its,h1,h2⟩
   ·grind [zEl]
   exact .inr ⟨l0,its,h1,zEl (λsl st h3=>zRn (hQ .normal) _ _ _ h3) _ _ _ h2⟩
  grind [zEl]
 |seq x y ihx ihy=>
  intro Q Q' hQ sl st h;simp only[awp]at h⊢;refine ihx (λe sl st hk=>?_) sl st h;cases e<;>simp only[zAf]at hk⊢<;>first|exact hQ _ _ _ hk|skip
  grind
 |cond c x y ihx ihy=>
  intro Q Q' hQ sl st h;simp only[awp]at h⊢;grind
 |block id b ih=>
  intro Q Q' hQ sl st h;simp only[awp]at h⊢;refine ih (λe sl st hk=>?_) sl st h;cases e<;>simp only[zAd]at hk⊢<;>first|exact hQ _ _ _ hk|skip
  grind
 |loop b ih=>
  intro Q Q' hQ sl st h;simp only[awp]at h⊢;intro X hX;refine h X λY sl st hY hb=>hX Y sl st hY (ih (λe sl st hk=>?_) sl st hb);cases e<;>simp only[zAf]at hk⊢<;>first|exact hQ _ _ _ hk|exact hk
 |exit id=>intro Q Q' hQ sl st h;exact hQ _ _ _ h
 |label l=>intro Q Q' hQ sl st h;exact hQ _ _ _ h
 |ret=>intro Q Q' hQ sl st h;exact hQ _ _ _ h
 |_=>intro Q Q' hQ sl st h;exact h.elim
variable {Q : Exit → List D → List Bk → Prop} {sl : List D} {st : List Bk}
theorem zGb{c:Operand}{x y:Code}{t:Bool}(hc:evD sl c= .val (.bool t))(ht:t=Ab)(h:awp P T x Q sl st):awp P T (.cond c x y) Q sl st:=by simp_all [zAa,ht]
theorem zFs{c:Operand}{x y:Code}{t:Bool}(hc:evD sl c= .val (.bool t))(ht:t=Ae)(h:awp P T y Q sl st):awp P T (.cond c x y) Q sl st:=by simp_all [zAa,ht]
theorem cond_T{c:Operand}{x y:Code}(h:awp P T x Q sl st)(hc:evD sl c= .val (.bool Ab):=by kernel_rfl):awp P T (.cond c x y) Q sl st:=zGb hc rfl h
theorem cond_F{c:Operand}{x y:Code}(h:awp P T y Q sl st)(hc:evD sl c= .val (.bool Ae):=by kernel_rfl):awp P T (.cond c x y) Q sl st:=zFs hc rfl h
def resL(P:Program)(sl:List D)(st:List Bk):List ResultVar->Option (List Prop×List D)
 |[]=>Aa ([],[])
 | .tmp t::rs=>(resL P sl st rs).map λx=>(x.1,sl.getD t .unk::x.2)
 |r::rs=>match zNs P sl st r with
  | .get p d=>(resL P sl st rs).map λx=>(p::x.1,d::x.2)
  |_=>Af
theorem zTt:∀{rs:List ResultVar}{cs:List Prop}{ds:List D}{K:List D->Prop},resL P sl st rs=Aa (cs,ds)->Alls cs->K ds->retL P sl st rs K
 |[],cs,ds,K,h,hc,k=>by
  simp only[resL,AV.injEq,Ar.injEq]at h;obtain⟨_,rfl⟩:=h;exact k
 | r::rs,cs,ds,K,h,hc,k=>by
  have key:∀p d,zNs P sl st r= .get p d->(∃c1 d1,resL P sl st rs=Aa (c1,d1)/\(p/\Alls c1)/\ds=d::d1)->retL P sl st (r::rs) K:=by
   rintro p d e ⟨c1,d1,h1,⟨h2,h3⟩,rfl⟩;simp only[retL,e];exact⟨h2,zTt h1 h3 k⟩
  cases r with
  |tmp t=>
   simp only[resL,Au,Prod.exists,Ar.injEq]at h;obtain⟨c1,d1,h1,rfl,rfl⟩:=h;exact key True _ rfl ⟨c1,d1,h1,⟨trivial,hc⟩,rfl⟩
  | cell a t=>
   simp only[resL]at h;split at h
   ·rename_i p d he;simp only[Au,Prod.exists,Ar.injEq]at h;obtain⟨c1,d1,h1,rfl,rfl⟩:=h;exact key p d he ⟨c1,d1,h1,hc.cons,rfl⟩
   cases h
def retC(P:Program)(rs:List ResultVar)(sl:List D)(st:List Bk):Option (List Prop×D):=match resL P sl st rs with
 |none=>Af
 |some (cs,ds)=>(frz Ab st zAc (oneD ds)).map λy=>(cs,y.1)
theorem zCf{rs:List ResultVar}{e:Exit}{x:D}(C:Prop)(y y':D)(he:e= .normal\/e= .ret)(hc:C)(hy:y=y')(hx:y'=x)(h:(retC P rs sl st).map (λx=>(Alls x.1,zF3 x.2))=Aa (C,y):=by kernel_rfl):(e= .normal\/e= .ret)/\retL P sl st rs (λds=>∃y ks,frz Ab st zAc (oneD ds)=Aa (y,ks)/\LeD y x):=by
 subst hy;refine⟨he,?_⟩;rw[Au]at h;obtain⟨⟨c,y0⟩,h,h0⟩:=h;simp only[Ar.injEq]at h0;obtain⟨rfl,rfl⟩:=h0;unfold retC at h;split at h
 ·cases h
 rename_i c1 ds h1;rw[Au]at h;obtain⟨⟨y1,ks⟩,h2,h3⟩:=h;simp only[Ar.injEq]at h3;grind [zTt,nilRow_le]
theorem zM{rs:List ResultVar}{e:Exit}{K:List D->Prop}(C:Prop)(ds:List D)(he:e= .normal\/e= .ret)(hk:K ds)(h:(resL P sl st rs).map (λx=>(Alls x.1,x.2))=Aa (C,ds):=by kernel_rfl)(hc:C:=by exact trivial):(e= .normal\/e= .ret)/\retL P sl st rs K:=by
 rw[Au]at h;obtain⟨⟨c,y0⟩,h,h0⟩:=h;simp only[Ar.injEq]at h0;grind [zTt]
theorem zK{α:Type}{b0:Code}(S:α->List D)(B:α->List Bk)(μ:α->Nat)(J:α->Prop)(a₀:α)(h₀:J a₀)(hw:Weak T sl st (S a₀) (B a₀))
  (step:∀a,J a->awp P T b0 (zAf (λsl' st'=>∃a',J a'/\μ a'<μ a/\Weak T sl' st' (S a') (B a')) Q) (S a) (B a)):awp P T (.loop b0) Q sl st:=by
 refine zLb (α:=α) (S) (B) (μ) (J) a₀ h₀ hw ?_;rintro a hj;refine zLa b0 (λe sl st hk=>?_) _ _<|step a hj;grind
theorem zGd{α:Type}{β:Type}{b0:Code}(S:α->β->List D)(B:α->β->List Bk)(μ:α->β->Nat)(J:α->β->Prop)(a₀:α)(b₀:β)(h₀:J a₀ b₀)(hw:Weak T sl st (S a₀ b₀) (B a₀ b₀))
  (step:∀a b,J a b->awp P T b0 (zAf (λsl' st'=>∃a' b',J a' b'/\μ a' b'<μ a b/\Weak T sl' st' (S a' b') (B a' b')) Q) (S a b) (B a b)):awp P T (.loop b0) Q sl st:=by
 refine zLb (α:=α×β) (λx=>S x.1 x.2) (λx=>B x.1 x.2) (λx=>μ x.1 x.2) (λx=>J x.1 x.2) (a₀,b₀) h₀ hw ?_;rintro⟨a,b⟩ hj;refine zLa b0 (λe sl st hk=>?_) _ _<|step a b hj;simp_all
theorem zC0{α:Type}{β:Type}{γ:Type}{b0:Code}(S:α->β->γ->List D)(B:α->β->γ->List Bk)(μ:α->β->γ->Nat)(J:α->β->γ->Prop)(a₀:α)(b₀:β)(c₀:γ)(h₀:J a₀ b₀ c₀)(hw:Weak T sl st (S a₀ b₀ c₀) (B a₀ b₀ c₀))
  (step:∀a b c,J a b c->awp P T b0 (zAf (λsl' st'=>∃a' b' c',J a' b' c'/\μ a' b' c'<μ a b c/\Weak T sl' st' (S a' b' c') (B a' b' c')) Q) (S a b c) (B a b c)):awp P T (.loop b0) Q sl st:=by
 refine zLb (α:=α×β×γ) (λx=>S x.1 x.2.1 x.2.2) (λx=>B x.1 x.2.1 x.2.2) (λx=>μ x.1 x.2.1 x.2.2) (λx=>J x.1 x.2.1 x.2.2) (a₀,b₀,c₀) h₀ hw ?_;rintro⟨a,b,c⟩ hj;refine zLa b0 (λe sl st hk=>?_) _ _<|step a b c hj;simp_all
theorem zS7{α:Type}{β:Type}{γ:Type}{δ:Type}{ε:Type}{b0:Code}(S:α->β->γ->δ->ε->List D)(B:α->β->γ->δ->ε->List Bk)(μ:α->β->γ->δ->ε->Nat)(J:α->β->γ->δ->ε->Prop)(a₀:α)(b₀:β)(c₀:γ)(d₀:δ)(e₀:ε)(h₀:J a₀ b₀ c₀ d₀ e₀)(hw:Weak T sl st (S a₀ b₀ c₀ d₀ e₀) (B a₀ b₀ c₀ d₀ e₀))
  (step:∀a b c d e,J a b c d e->awp P T b0 (zAf (λsl' st'=>∃a' b' c' d' e',J a' b' c' d' e'/\μ a' b' c' d' e'<μ a b c d e/\Weak T sl' st' (S a' b' c' d' e') (B a' b' c' d' e')) Q) (S a b c d e) (B a b c d e)):awp P T (.loop b0) Q sl st:=by
 refine zLb (α:=α×β×γ×δ×ε) (λx=>S x.1 x.2.1 x.2.2.1 x.2.2.2.1 x.2.2.2.2) (λx=>B x.1 x.2.1 x.2.2.1 x.2.2.2.1 x.2.2.2.2) (λx=>μ x.1 x.2.1 x.2.2.1 x.2.2.2.1 x.2.2.2.2) (λx=>J x.1 x.2.1 x.2.2.1 x.2.2.2.1 x.2.2.2.2) (a₀,b₀,c₀,d₀,e₀) h₀ hw ?_;rintro⟨a,b,c,d,e⟩ hj;refine zLa b0 (λe sl st hk=>?_) _ _<|step a b c d e hj;simp_all
theorem Weak.all{sl':List D}{st':List Bk}(m:Nat)(bs:List Bk)(hl:LeL sl sl')(hn:zEp sl' st m st.length=Ab)(hk:∀k,m<=k->T.keep k=Ae)(e:st.take m++bs=st'):Weak T sl st sl' st':=by
 subst e;exact((Weak.slots hl).trans (Weak.cut m hn hk)).trans (Weak.more bs)
def assocN(hs:List (Nat×Nat))(i:Nat):Nat:=match hs with
 |[]=>0
 |(j,h)::r=>if i==j then h else assocN r i
def le1(h:Nat)(d d':D):List Prop:=match h with
 |0=>match d' with
  | .unk=>[]
  |_=>[False]
 |1=>[d=d']
 |2=>match d,d' with
  | .val (.slice Af 0 0), .osl _ 0 0 0 _=>[]
  |_,_=>[False]
 |3=>match d,d' with
  | .val (.slice Af 0 0), .row [] 0=>[]
  |_,_=>[False]
 |4=>match d with
  | .fx e=>[e=d']
  |_=>[False]
 |_=>[False]
def leC:Nat->List D->List D->List (Nat×Nat)->List Prop
 |_,[],[],_=>[]
 |i,d::ds,d'::ds',hs=>le1 (assocN hs i) d d'++leC (i+1) ds ds' hs
 |_,_,_,_=>[False]
theorem LeD.fx(d:D):LeD (.fx d) d:=λI w β v h=>by
 simp only[Rel]at h;exact Rel.no h.2
theorem Pure.res{f:FuncId}{args:List D}{x x':D}(h:Pure P f args [] x)(hx:LeD x x'):Pure P f args [] x':=λI w vs hr hi hg=>(h I w vs hr hi hg).mono λe w' ⟨v,I',γ,h1,h2,h3,h4,h5,h6,h7,h8,h9,h10,h11,h12⟩=>⟨v,I',γ,h1,h2,h3,h4,h5,h6,h7,h8,h9,h10,hx I' w' γ v h11,h12⟩
theorem Pure.fx{f:FuncId}{args:List D}{x:D}(h:Pure P f args [] x)(hx:∀I w v,Rel I w noB x v->v.oneCell'=Ab):Pure P f args [] (.fx x):=λI w vs hr hi hg=>(h I w vs hr hi hg).mono λe w' ⟨v,I',γ,h1,h2,h3,h4,h5,h6,h7,h8,h9,h10,h11,h12⟩=>by
 have hn:γ=noB:=by
  funext k;cases hk:γ k with
  |none=>rfl
  |some y=>have:=h10 k y hk;simp at this
 subst hn;exact⟨v,I',noB,h1,h2,h3,h4,h5,h6,h7,h8,h9,h10,by simp only[Rel];exact⟨hx _ _ _ h11,h11⟩,h12⟩
theorem leC_ok{hs:List (Nat×Nat)}:∀{i:Nat}{sl sl':List D},Alls (leC i sl sl' hs)->LeL sl sl'
 |i,[],[],_=> .nil
 |i,[],_::_,h=>h.elim
 |i,_::_,[],h=>h.elim
 | i,d::ds,d'::ds',h=>by
  simp only[leC]at h;obtain⟨h1,h2⟩:=Alls.app h;refine .cons ?_ (leC_ok h2);unfold le1 at h1;split at h1
  ·split at h1
   ·exact .unk _
   exact h1.elim
  ·exact .eq h1
  ·split at h1
   ·exact .nil _ _
   exact h1.elim
  ·split at h1
   ·exact .nil_row
   exact h1.elim
  ·split at h1
   ·rename_i e;have h3:e=d':=h1;subst h3;exact LeD.fx _
   exact h1.elim
  exact h1.elim
theorem zC8{sl':List D}{st':List Bk}(hs:List (Nat×Nat))(C:Prop)(m:Nat)(bs:List Bk)(hc:C)(hk:∀k,m<=k->T.keep k=Ae)(h:Alls (leC 0 sl sl' hs)=C:=by kernel_rfl)(hn:zEp sl' st m st.length=true:=by kernel_rfl)(e:st.take m++bs=st':=by kernel_rfl):Weak T sl st sl' st':=by
 subst h;exact Weak.all m bs (leC_ok hc) hn hk e
end
abbrev eqDL(a b:List D):Prop:=a=b
section
variable {P : Program} {T : Par} {ops : Array Oper} {dr : Bool} {l : List Oper} {sl : List D} {st : List Bk} {K : List D → List Bk → Prop}
def isGet:Eff->Option (Prop×D)
 | .get p d=>Aa (p,d)
 |_=>Af
def ldL(P:Program)(l:List Oper)(sl:List D)(e:Bk):Option (Nat×Prop×D):=match l with
 |[]=>Af
 | o ::_=>match o.guard with
  |some _=>Af
  | none=>match o.op with
   | .load t a=>match evD sl a with
    | .own k off=>if e.kd.isMap then Af else match isGet (ldP P t (e.cells.drop off) .get)with
     |some (p,d)=>Aa (k,p,d)
     |none=>Af
    |_=>Af
   |_=>Af
theorem zXv{e:Eff}{p:Prop}{d:D}(h:isGet e=Aa (p,d)):e= .get p d:=by
 unfold isGet at h;grind
theorem zAe(e:Bk)(k:Nat)(p:Prop)(d:D)(hk:st[k]?=Aa e)(hp:p)(next:seqW P T ops dr l.tail (putD sl (hdst l) d) st K)(h:ldL P l sl e=Aa (k,p,d):=by kernel_rfl):seqW P T ops dr l sl st K:=by
 unfold ldL at h;split at h
 ·cases h
 rename_i o r;split at h
 ·cases h
 rename_i hg;split at h
 ·rename_i t a ho;split at h
  ·rename_i k1 off ha;split at h
   ·cases h
   rename_i hm;split at h
   ·rename_i p1 d1 hl;cases h;have he:aeff P T o.op o.type (evD sl) st= .get p d:=by
     rw[ho];simp only[aeff,ha,hk,hm];exact zXv hl
    refine zDl hg<|go_get he (by rw[ho];rfl) hp rfl ?_;exact next
   cases h
  cases h
 cases h
def putL(P:Program)(l:List Oper)(sl:List D)(e:Bk):Option (Nat×Prop×Bk):=match l with
 |[]=>Af
 | o::_=>match o.guard with
  |some _=>Af
  | none=>match o.op with
   | .store t a x=>match evD sl a,tySz P t with
    | .own k off,Aa sz=>if e.kd.isMap then Af else if e.nob then Af else Aa (k,(e.fz=Ae/\zD3 (evD sl x)=Ab/\(cellsOf (evD sl x)).length=sz/\off+sz<=e.cells.length),{e with cells:=setAt e.cells off (cellsOf (evD sl x))})
    |_,_=>Af
   |_=>Af
theorem zB3(e:Bk)(k:Nat)(p:Prop)(b:Bk)(hk:st[k]?=Aa e)(hp:p)(next:seqW P T ops dr l.tail (putD sl (hdst l) .unk) (st.set k b) K)(h:putL P l sl e=Aa (k,p,b):=by kernel_rfl):seqW P T ops dr l sl st K:=by
 unfold putL at h;split at h
 ·cases h
 rename_i o r;split at h
 ·cases h
 rename_i hg;split at h
 ·rename_i t a x ho;split at h
  ·rename_i k1 off sz ha hs;split at h
   ·cases h
   rename_i hm;split at h
   ·cases h
   rename_i hn;cases h;have he:aeff P T o.op o.type (evD sl) st= .put (e.fz=Ae/\zD3 (evD sl x)=Ab/\(cellsOf (evD sl x)).length=sz/\off+sz<=e.cells.length) k {e with cells:=setAt e.cells off (cellsOf (evD sl x))} []:=by
    rw[ho];simp only[aeff,ha,hs,hk];rw[if_neg hm,if_neg hn]
   refine zDl hg<|go_put he (by rw[ho];rfl) hp rfl rfl ?_;exact next
  cases h
 cases h
def putA(P:Program)(l:List Oper)(sl:List D)(e:Bk):Option (Nat×Prop×Bk):=match l with
 |[]=>Af
 | o ::_=>match o.guard with
  |some _=>Af
  | none=>match o.op with
   | .store t a x=>match evD sl a,tySz P t with
    | .own k off,Aa sz=>if e.kd.isMap then Af else if e.nob then match frz Ae [] zAc (evD sl x)with
      |some (d,[])=>Aa (k,(e.fz=Ae/\zD3 d=Ab/\(cellsOf d).length=sz/\off+sz<=e.cells.length),{e with cells:=setAt e.cells off (cellsOf d)})
      |_=>Af
     else Af
    |_,_=>Af
   |_=>Af
theorem st_actc(gs:List (Nat×Bool))(cs:List Prop){f:FuncId}(args:List D){x:D}{st':List Bk}{ch:List Nat}(args':List D)(h:actL P T ops dr l gs sl st=Aa (cs,f,args))(hc:Alls cs)(ha:LeL args args')(hp:Acts P f args' st ch x st')(hk:∀k∈ch,T.keep k=Ae)(hs:∀d∈sl,∀k∈ch,refs k d=Ae)(k:seqW P T ops dr l.tail (putD sl (hdst l) x) st' K):seqW P T ops dr l sl st K:=by
 unfold actL at h;split at h
 ·cases h
 rename_i o r;split at h
 ·rename_i c1 g1 s1 hg;split at h
  ·rename_i f1 a1 he;split at h
   ·rename_i hl;simp only[AV.injEq,Ar.injEq]at h;obtain⟨rfl,rfl,rfl⟩:=h;obtain⟨rfl,g2⟩:=zFk (P:=P) (T:=T) hg hc;simp only[AD,Bj,Bl]at hl;refine g2 ?_;simp only[goW,he];refine⟨hl.1,hl.2,ch,x,st',⟨hp.le ha,hk⟩,?_⟩;have:s1.map (zCo ch)=s1:=by
     conv=>rhs;rw[<-List.map_id s1]
     refine List.map_congr_left λd hd=>?_;unfold zCo;grind
    rw[this];exact k
   cases h
  cases h
 cases h
theorem zAs{sl':List D}(hs:List (Nat×Nat))(C:Prop)(hc:C)(h:Alls (leC 0 sl sl' hs)=C:=by kernel_rfl):Weak T sl st sl' st:=by
 grind [Weak.slots,leC_ok]
theorem zG3(gs:List (Nat×Bool))(cs:List Prop){f:FuncId}(args:List D){x:D}{st':List Bk}{ch:List Nat}(args':List D)(ha:LeL args args')(hp:Acts P f args' st ch x st')(k:seqW P T ops dr l.tail (putD (sl.map (zCo ch)) (hdst l) x) st' K)(h:actL P T ops dr l gs sl st=Aa (cs,f,args):=by kernel_rfl)(hc:Alls cs:=by exact trivial)(hk:ch.all (λk=>!T.keep k)=true:=by kernel_rfl):seqW P T ops dr l sl st K:=by
 unfold actL at h;split at h
 ·cases h
 rename_i o r;split at h
 ·rename_i c1 g1 s1 hg;split at h
  ·rename_i f1 a1 he;split at h
   ·rename_i hl;simp only[AV.injEq,Ar.injEq]at h;obtain⟨rfl,rfl,rfl⟩:=h;obtain⟨rfl,g2⟩:=zFk (P:=P) (T:=T) hg hc;simp only[AD,Bj,Bl]at hl;refine g2 ?_;simp only[goW,he];exact⟨hl.1,hl.2,ch,x,st',⟨hp.le ha,λk hk'=>by simpa using Bi.1 hk k hk'⟩,k⟩
   cases h
  cases h
 cases h
def updB(st:List Bk)(ups:List (Nat×Bk))(news:List Bk):List Bk:=ups.foldl (λs p=>s.set p.1 p.2) st++news
theorem Acts.cut{f:FuncId}{args:List D}{s:List Bk}{x:D}{ch:List Nat}(m:Nat)(h:Acts P f args st ch x s)(hm:st.length<=m)(hn:zEp [x] s m s.length=Ab):Acts P f args st ch x (s.take m):=by
 intro β I w vs hr hsr hinj hfz hdom hi hg;refine(h β I w vs hr hsr hinj hfz hdom hi hg).mono ?_;rintro e w' ⟨v,β',I',rfl,p1,p2,p3,p4,p5,p6,p7,p8⟩;have hs:Sim β' I' w' [x] s [v]:=⟨by simp only[RelT];exact⟨v,[],rfl,p8,rfl⟩,p4,p5,p6,p7,p1,hg.mono p2.fix⟩;obtain⟨β2,I2,s2,t2,k2⟩:=Weak.cut (T:=⟨λ_=>Ae,λ_ _=>Af,λk=>decide (k<m),λ_=>Ae,λ_=>Ae⟩) m hn (λk hk=>by simp;omega) β' I' w' _ hs;have hx:=s2.rel;simp only[RelT]at hx;obtain⟨v2,us,hv,hx,_⟩:=hx;simp only[List.cons.injEq]at hv;obtain⟨rfl,_⟩:=hv;refine⟨v,β2,I2,rfl,s2.imb,p2.trans t2,λk y hk hb=>k2 k y (by have:=hdom k y hb;simp;omega) (p3 k y hk hb),s2.sr,s2.inj,s2.fz,s2.dom,hx⟩
end
theorem zAm{α β:Type}{f:α->β}{l:List α}(h:0<l.length):l.map f≠[]:=by grind [List.map_eq_nil_iff]
theorem zBf{α:Type}(f:α->D)(l:List α)(d0:α)(k:Nat)(h:k<l.length):((l.map f).drop k).headD .unk=f (l.getD k d0):=by
 simp_all
theorem zM3(a:Nat):(a:Int)+1=((a+1:Nat):Int):=by simp
theorem zD1(a:Nat)(h:1<=a):(a:Int)-1=((a-1:Nat):Int):=by omega
theorem zJ6(n:Nat):AX (n:Int) (2^32)=((n/4294967296:Nat):Int):=by
 grind
abbrev dig(x:Nat):D:= .val (.int .u32 x)
abbrev digR(l:List Nat):D:= .row (l.map dig) l.length
theorem zB2(l:List Nat)(k:Nat)(h:k<l.length):((l.map dig).drop k).headD .unk=dig (l.getD k 0):=by
 simp_all
theorem zFx(l:List Nat)(k x:Nat):(l.map dig).set k (.val (.int .u32 (x:Int)))=(l.set k x).map dig:=by
 rw[List.map_set]
theorem zPy(n:Nat):repL n [.val (.int .u32 0)]=(Az n 0).map dig:=by
 rw[List.map_replicate];induction n with
 |zero=>rfl
 |succ n ih=>simp only[repL,BP,BW,BX,BY]at ih⊢;rw[ih];rfl
theorem zHs(l:List Nat)(n:Nat):(l.map dig).take n=(l.take n).map dig:=by rw[List.map_take]
def dg(n:Nat):List Nat:=if h:n=0 then[]else n%4294967296::dg (n/4294967296)
 decreasing_by omega
theorem zB9(n:Nat):nval (dg n)=n:=by
 induction n using A4 with
 |_ n ih=>
  grind [dg,nval]
theorem zCb(n:Nat):Digs (dg n):=by
 induction n using A4 with
 | _ n ih=>
  intro i;unfold dg;split
  ·simp
  cases i with
  |zero=>simp;omega
  |succ i=>simp only[List.getD_cons_succ];exact ih _ (by omega) i
theorem zT3{x:Nat}{l:List Nat}(h:Normal (x::l)):Normal l/\(l=[]->x≠0):=by
 rcases h with h|h
 ·cases h
 cases l with
 |nil=>exact⟨.inl rfl,λ_=>by simpa using h⟩
 |cons y l=>exact⟨.inr (by simpa using h),λh=>by cases h⟩
theorem dg_nval:∀(l:List Nat),Normal l->Digs l->dg (nval l)=l
 |[],_,_=>by unfold dg;simp[nval]
 |x::l,hn,hd=>by
  obtain⟨h1,h2⟩:=zT3 hn;have hx:x<4294967296:=by simpa using hd 0
  have ih:=dg_nval l h1 (λi=>by simpa using hd (i+1));grind [nval,Normal.zero,dg]
theorem zPm{l:List Nat}(hl:Digs l):l.take (zCm l l.length)=dg (nval l):=by
 have h1:=zR4 l l.length (Ak _);have h2:=zG8 l l.length (Ak _);rw[BI]at h1;rw[<-h1,dg_nval _ h2 (hl.take _)]
theorem normal_dg(n:Nat):Normal (dg n):=by
 have h:=zG8 (dg n) (dg n).length (Ak _);grind [zPm,zCb,zB9]
theorem zMt{l:List Nat}(hl:Digs l):(dg (nval l)).length<=l.length:=by
 grind [zPm,AU]
def cmpD(a b:Int):Int:=if a<b then-1 else if b<a then 1 else 0
theorem cmpD_eq{a b c d:Nat}(h1:a<b->c<d)(h2:b<a->d<c)(h3:a=b->c=d):cmpD a b=cmpD c d:=by
 grind [cmpD,Ba]
abbrev natD(n:Nat):D:=digR (dg n)
end
section
open Go.ChangeShapes Go.WideShapes Go.ChangeAt Go.RowKit
section
variable {H : Type} {enc : TypeId × Value → H} {P : Program}
theorem zLi(hl:laidOutB P=Ab){W W':World}(hb:Ext W W'):∀{ts:List TypeId}{vs:List Value}{ds:List (DataW H)}{ps:List MemPlace}(sp:Nat->Bool),
  ts.all (λt=>P.readableRec t&&decide (t<P.types.size))=Ab->DataW.TrodAll enc P W 0 (λ_=>Ab) Ab ts vs ds ps->(∀p∈ps,p.block<W.heap.size)->(∀p∈ps,sp p.block=Ab)->DataW.TrodAll enc P W' 0 sp Ab ts vs ds ps
 |[],[],[],ps,sp,_,h,_,_=>h
 |t::ts,v::vs,d::ds,ps,sp,hr,⟨p,q,h1,h2,h3⟩,hlt,hsp=>by
  subst h3;simp only[List.all_cons,AD,decide_eq_true_eq]at hr;refine⟨p,q,WideElems.Trod_stays hl hr.1.1 hr.1.2 h1 (λx hx=>Below.same hb.1 (hlt x (BR _ hx))) (λx hx=>hsp x (BR _ hx)),?_,rfl⟩;exact zLi hl hb sp hr.2 h2 (λx hx=>hlt x (BS _ hx)) (λx hx=>hsp x (BS _ hx))
 |[],_::_,_,_,_,_,h,_,_=>h.elim
 |[],[],_::_,_,_,_,h,_,_=>h.elim
 |_::_,[],_,_,_,_,h,_,_=>h.elim
 |_::_,_::_,[],_,_,_,h,_,_=>h.elim
theorem post_true{f:Func}{s:ChangeSpec}{W W':World}{args:Array Value}{ds:List (DataW H)}{before:List MemPlace}{bt:TypeId}
  (hl:laidOutB P=Ab)(hv:s.vars=[])(hrt:f.resultTypes=#[bt])(hbt:P.underlying bt=Aa .bool)
  (hr:f.params.toList.all (λt=>P.readableRec t&&decide (t<P.types.size))=Ab)
  (hfn:s.fn H ds={results:=[.lit (.bool Ab)],args:=ds})
  (hW:DataW.Whole enc P f.params.toList s.vars Ae W args.toList ds [] before)(hx:Ext W W'):
  s.post enc P f Ae Ab Ae Ae W args (.bool Ab) W':=by
 have hlt:∀p∈before,p.block<W.heap.size:=λp hp=>hW.lt p hp;obtain⟨p,q,hA,hV,hpq,hz,hn⟩:=id hW;rw[hv]at hV;have hq:q=[]:=hV;subst hq;rw[List.append_nil]at hpq;subst hpq;have hfn':s.fn H (ds++[])={results:=[.lit (.bool Ab)],args:=ds}:=by rw[List.append_nil];exact hfn
 have hstay:∀sp:Nat->Bool,(∀x∈before,sp x.block=Ab)->DataW.TrodAll enc P W' 0 sp Ab f.params.toList args.toList ds before:=λsp hsp=>zLi hl hx sp hr hA hlt hsp;have hres:∀(b:Nat)(sp:Nat->Bool)(hd:Bool),DataW.TrodAll enc P W' b sp hd f.resultTypes.toList ((AL Ab).resultList f.resultTypes.size) [.lit (.bool Ab)] []:=by
  intro b sp hd;rw[hrt];exact⟨[],[],shut_bool hbt Ab,rfl,rfl⟩
 have hvars:∀sp:Nat->Bool,DataW.TrodVars enc P W' sp s.vars ([]:List (DataW H)) []:=λsp=>by rw[hv];exact rfl
 refine⟨ds,[],before,[],before,[],hW,by rw[hfn'];exact hres _ _ _,by rw[hfn'];exact hstay _ (λx hx=>by simpa using hlt x hx),by rw[hfn'];exact hvars _,World.keptBut_mono (λx hx=>⟨hx,Or.inr (by simpa using hx)⟩) (Below.frame hx.1 (· ∈before)),λ_=>?_⟩;grind
end
end
section
open Go.ChangeShapes Go.WideShapes Go.ChangeAt Go.RowKit
def allI(w:World):Im:=λb _=>b<w.heap.size
def ShpB(P:Program)(B:Nat):Nat->TypeId->List D->Prop
 |0,_,_=>False
 |n+1,t,ds=>match P.underlying t with
  |some .bool=>∃b,ds=[.val (.bool b)]
  |some (.int k)=>∃z,ds=[.val (.int k z)]/\(Lit.int k z).wf=Ab
  |some .string=>∃s,ds=[.val (.string s)]/\s.size<=maxLen
  |some (.slice e)=>∃ls:List (List D),ds=[.row ls.flatten ls.length]/\(∀x∈ls,ShpB P B n e x/\x.length=P.cellsOf e)/\ls.length<=B
  |some (.struct fs)=>ds.length=P.cellsOf t/\∀f∈fs.toList,ShpB P B n f.type ((ds.drop f.offset).take (P.cellsOf f.type))
  |some (.array m e)=>ds.length=P.cellsOf t/\∀i,i<m->ShpB P B n e ((ds.drop (i*P.cellsOf e)).take (P.cellsOf e))
  |_=>False
section
variable {H : Type} {enc : TypeId × Value → H} {P : Program} {w : World}
theorem zH2{α β:Type}{f:α->Option β}:∀{l:List α}{r:List β},l.mapM f=Aa r->r.length=l.length/\∀(i:Nat) x,l[i]?=Aa x->∃y,f x=Aa y/\y∈r
 |[],r,h=>by simp at h;subst h;exact⟨rfl,by simp⟩
 | a::l,r,h=>by
  rw[List.mapM_cons]at h;cases ha:f a with
  |none=>simp[ha]at h
  | some b=>
   cases hl:l.mapM f with
   |none=>simp[ha,hl]at h
   |some bs=>
    simp[ha,hl]at h;subst h;obtain⟨h1,h2⟩:=zH2 hl;grind
theorem RelC.append{I:Im}{b:Nat}:∀{x y:List D}{o:Nat},RelC I w x b o->RelC I w y b (o+x.length)->RelC I w (x++y) b o
 |[],y,o,h,k=>by simpa using k
 |d::x,y,o,h,k=>by
  simp only[BX,RelC]at h⊢;refine⟨h.1,h.2.append ?_⟩;grind
theorem zKg{I:Im}{b sz:Nat}:∀(ls:List (List D))(o:Nat),(∀j x,ls[j]?=Aa x->RelC I w x b (o+j*sz)/\x.length=sz)->RelC I w ls.flatten b o
 |[],o,h=>by simp only[List.flatten_nil,RelC]
 |x::ls,o,h=>by
  rw[BW];have h0:=h 0 x rfl;refine RelC.append (by simpa using h0.1) (zKg (sz:=sz) ls _ λj y hy=>?_)
  have:=h (j+1) y (by simpa using hy)
  grind
theorem zPz{b o n:Nat}{cs:List Value}{ds:List D}(h:RelL (allI w) w noB ds cs)(hc:∀j v,cs[j]?=Aa v->w.cell? ⟨b,o+j,Af⟩=Aa v):RelC (allI w) w ds b o:=
 RelC.of_get λi d hd=>by
  obtain⟨v,k1,k2,k3⟩:=h.get i d hd;have hv:=hc i v k1;exact⟨World.block_lt_of_cell? w _ hv,v,hv,k2,k3⟩
def zGa(P:Program)(total:Nat):List Field->Nat->Bool
 |[],off=>off==total
 |f::r,off=>f.offset==off&&zGa P total r (off+P.cellsOf f.type)
theorem zSy{total:Nat}:∀{fs:List Field}{off:Nat},zGa P total fs off=Ab->off<=total
 |[],off,h=>by simp[zGa]at h;omega
 |f::r,off,h=>by
  simp only[zGa,AD,beq_iff_eq]at h
  have:=zSy h.2
  omega
theorem zSz{total:Nat}:∀{fs:List Field}{off:Nat},zGa P total fs off=Ab->∀f∈fs,off<=f.offset
 |[],off,h,f,hf=>by cases hf
 |g::r,off,h,f,hf=>by
  simp only[zGa,AD,beq_iff_eq]at h;rcases A6.1 hf with rfl|hf
  ·omega
  have:=zSz h.2 f hf;omega
theorem zN9{total:Nat}{cs:List Value}(hl:cs.length=total){S:TypeId->List D->Prop}:∀(fs:List Field)(off:Nat),zGa P total fs off=Ab->(∀f∈fs,∃ds,RelL (allI w) w noB ds ((cs.drop f.offset).take (P.cellsOf f.type))/\S f.type ds)->
  ∃ds,RelL (allI w) w noB ds (cs.drop off)/\∀f∈fs,S f.type ((ds.drop (f.offset-off)).take (P.cellsOf f.type))
 |[],off,hc,h=>by
  simp only[zGa,beq_iff_eq]at hc;exact⟨[],by rw[BJ (by omega)];simp only[RelL],by simp⟩
 | f::r,off,hc,h=>by
  simp only[zGa,AD,beq_iff_eq]at hc;obtain⟨df,h1,h2⟩:=h f (Bh ..);obtain⟨dr,h3,h4⟩:=zN9 hl r _ hc.2 (λg hg=>h g (Bt _ hg));have hle:=zSy hc.2;have hlen:df.length=P.cellsOf f.type:=by
   rw[h1.length,AU,BZ,hc.1];omega
  refine⟨df++dr,?_,λg hg=>?_⟩
  ·have:=h1.append h3
   grind [List.drop_drop,Bs]
  rcases A6.1 hg with rfl|hg
  ·simp_all
  have hge:=zSz hc.2 g hg;grind [List.drop_append,BJ]
theorem zSh{sz:Nat}{S:List D->Prop}:∀(m:Nat)(cs:List Value),cs.length=m*sz->(∀i,i<m->∃ds,RelL (allI w) w noB ds ((cs.drop (i*sz)).take sz)/\S ds)->
  ∃ds,RelL (allI w) w noB ds cs/\∀i,i<m->S ((ds.drop (i*sz)).take sz)
 |0,cs,hl,h=>by
  obtain rfl:cs=[]:=A0 (by simpa using hl);exact⟨[],by simp only[RelL],by simp⟩
 | m+1,cs,hl,h=>by
  obtain⟨d0,h1,h2⟩:=h 0 (by omega);rw[Nat.zero_mul,A1]at h1;rw[Nat.succ_mul]at hl;have hlen:d0.length=sz:=by rw[h1.length,AU];omega
  obtain⟨dr,h3,h4⟩:=zSh (sz:=sz) (S:=S) m (cs.drop sz) (by rw[BZ];omega) (λi hi=>by
   obtain⟨ds,k1,k2⟩:=h (i+1) (by omega);refine⟨ds,?_,k2⟩;rw[List.drop_drop,show sz+i*sz=(i+1)*sz by rw[Nat.succ_mul];omega];exact k1)
  refine⟨d0++dr,?_,λi hi=>?_⟩
  ·have:=h1.append h3
   simp_all
  cases i with
  |zero=>
   grind
  |succ i=>
   have:=h4 i (by omega)
   rw[Nat.succ_mul,List.drop_append,BJ (l:=d0) (by omega),BY,show i*sz+sz-d0.length=i*sz by omega];exact this
def okT(P:Program):Nat->TypeId->Bool
 |0,_=>Ab
 |n+1,t=>match P.underlying t with
  |some .bool|some (.int _)|some .string=>Ab
  |some (.slice e)=>decide (0<P.cellsOf e)&&okT P n e
  |some (.struct fs)=>zGa P (P.cellsOf t) fs.toList 0&&fs.toList.all (λf=>okT P n f.type)
  |some (.array m e)=>P.cellsOf t==m*P.cellsOf e&&okT P n e
  |_=>Ae
section
variable {B : Nat} {Q : DataW H → Prop} (hQ : ∀ e s, Q (.slice e s) → (e.length ≤ maxLen → e.length ≤ B) ∧ ∀ x ∈ e, Q x) (hA : ∀ p, Q (.agg p) → ∀ x ∈ p, Q x)
include hQ hA
theorem zWg:∀(fuel:Nat)(t:TypeId)(cs:List Value)(d:DataW H)(ps:List MemPlace),DataW.trod enc P w 0 (λ_=>Ab) Ab fuel t cs=Aa (d,ps)->Q d->okT P fuel t=Ab->∃ds,RelL (allI w) w noB ds cs/\ShpB P B fuel t ds
 |0,t,cs,d,ps,h,hq,hk=>by cases h
 | n + 1,t,cs,d,ps,h,hq,hk=>by
  have ih:=zWg n;simp only[DataW.trod]at h;split at h;case h_1=>
   rename_i b hu;exact⟨[.val (.bool b)],by simp only[RelL,Rel];exact⟨_,_,rfl,rfl,rfl,rfl⟩,by simp[ShpB,hu]⟩
  case h_2=>
   rename_i k k' z hu;split at h
   ·rename_i hc;obtain⟨rfl,hw⟩:=hc;exact⟨[.val (.int k' z)],by simp only[RelL,Rel];exact⟨_,_,rfl,rfl,rfl,rfl⟩,by simp[ShpB,hu,hw]⟩
   cases h
  case h_4=>
   rename_i z hu;split at h
   ·rename_i hc;exact⟨[.val (.string z)],by simp only[RelL,Rel];exact⟨_,_,rfl,rfl,rfl,rfl⟩,by simp[ShpB,hu,hc]⟩
   cases h
  case h_7=>
   rename_i e hu;exact⟨[.row [] 0],by simp only[RelL,Rel];exact⟨_,_,rfl,rfl,⟨Af,0,rfl,Ak _,by decide,λ_=>rfl, .inl trivial⟩,rfl⟩,by simp only[ShpB,hu];exact⟨[],rfl,by simp,AP _⟩⟩
  case h_8=>
   rename_i e a len cap hu;simp only[okT,hu,AD,decide_eq_true_eq]at hk;split at h
   ·rename_i hc;cases hm:(AO len).mapM (λi=>(w.cells? 0 (a.add (i*P.cellsOf e)) (P.cellsOf e)).bind (DataW.trod enc P w 0 (λ_=>Ab) Ab n e))with
    |none=>simp[hm]at h
    | some es=>
     obtain⟨h1,h2⟩:=zH2 hm;obtain⟨rest,rfl⟩:∃rest,d= .slice (es.map (·.1)) rest:=by
      simp[hm]at h;grind
     obtain⟨hq1,hq2⟩:=hQ _ _ hq;have hB:len<=B:=by
      grind
     have key:∀i,i<len->∃ds cs,RelL (allI w) w noB ds cs/\ShpB P B n e ds/\w.cells? 0 (a.add (i*P.cellsOf e)) (P.cellsOf e)=Aa cs:=by
      intro i hi;obtain⟨y,hy,hmem⟩:=h2 i i (List.getElem?_range hi);grind [Cd]
     have hsp:0<len->a.spot=none:=by
      intro h0;obtain⟨ds,cs,k1,k2,k3⟩:=key 0 h0;obtain⟨_,hl,hcell⟩:=B3 k3
      have:=hcell 0 (by omega)
      have h5:∃v,w.cell? ((a.add (0*P.cellsOf e)).add 0)=Aa v:=by
       grind
      obtain⟨v,hv⟩:=h5
      have:=World.cell?_spot hv
      simpa[Addr.add]using this
     have hls:∃ls:List (List D),ls.length=len/\∀j x,ls[j]?=Aa x->∃cs,RelL (allI w) w noB x cs/\ShpB P B n e x/\w.cells? 0 (a.add (j*P.cellsOf e)) (P.cellsOf e)=Aa cs:=by
      refine⟨(AO len).map (λi=>if hi:i<len then Classical.choose (key i hi)else[]),by simp,λj x hx=>?_⟩;grind
     obtain⟨ls,hl1,hl2⟩:=hls;have hlen:∀(j:Nat)(x:List D),ls[j]?=Aa x->x.length=P.cellsOf e:=by
      intro j x hx;obtain⟨cs,k1,k2,k3⟩:=hl2 j x hx;rw[k1.length];exact(B3 k3).2.1
     refine⟨[.row ls.flatten ls.length],?_,?_⟩
     ·simp only[RelL,Rel];refine⟨_,_,rfl,rfl,⟨Aa a,cap,by rw[hl1],by omega,hc.2.2,(λh=>by cases h),?_⟩,rfl⟩;rcases Nat.eq_zero_or_pos len with h0|h0
      ·left;obtain rfl:ls=[]:=A0 (by omega);rfl
      right;obtain⟨b,o,sp⟩:=a;obtain rfl:sp=none:=hsp h0;refine⟨b,o,rfl,zKg (sz:=P.cellsOf e) ls o λj x hx=>⟨?_,hlen j x hx⟩⟩;obtain⟨cs,k1,k2,k3⟩:=hl2 j x hx;obtain⟨_,k4,k5⟩:=B3 k3;refine zPz (n:=0) k1 λi v hv=>?_;have hi:i<P.cellsOf e:=by have:=(AT.1 hv).1;omega
      have:=k5 i hi
      rw[hv]at this;rw[add_plain,add_plain]at this;exact this
     simp only[ShpB,hu];refine⟨ls,rfl,λx hx=>?_,by omega⟩;obtain⟨j,hj⟩:=List.getElem?_of_mem hx;obtain⟨cs,k1,k2,k3⟩:=hl2 j x hj;exact⟨k2,hlen j x hj⟩
   cases h
  case h_9=>
   rename_i fs hu;simp only[okT,hu,AD]at hk;split at h
   ·rename_i hl;rw[Au]at h;obtain⟨xs,hm,hd⟩:=h;obtain⟨_,h2⟩:=zH2 hm;obtain⟨rfl,_⟩:=Ar.injEq ..▸hd;have hq2:=hA _ hq;obtain⟨ds,k1,k2⟩:=zN9 (P:=P) (S:=ShpB P B n) hl fs.toList 0 hk.1 (λf hf=>by
     obtain⟨j,hj⟩:=List.getElem?_of_mem hf;obtain⟨y,hy,hmem⟩:=h2 j f hj;exact ih _ _ y.1 y.2 hy (hq2 _ (List.mem_map.2 ⟨y,hmem,rfl⟩)) (Bi.1 hk.2 f hf))
    rw[A1]at k1;exact⟨ds,k1,by simp only[ShpB,hu];exact⟨by rw[k1.length];exact hl,λf hf=>by simpa using k2 f hf⟩⟩
   cases h
  case h_10=>
   rename_i m e hu;simp only[okT,hu,AD,beq_iff_eq]at hk;split at h
   ·rename_i hl;rw[Au]at h;obtain⟨xs,hm,hd⟩:=h;obtain⟨_,h2⟩:=zH2 hm;obtain⟨rfl,_⟩:=Ar.injEq ..▸hd;have hq2:=hA _ hq;obtain⟨ds,k1,k2⟩:=zSh (sz:=P.cellsOf e) (S:=ShpB P B n e) m _ (by rw[hl,hk.1]) (λi hi=>by
     obtain⟨y,hy,hmem⟩:=h2 i i (List.getElem?_range hi);exact ih _ _ y.1 y.2 hy (hq2 _ (List.mem_map.2 ⟨y,hmem,rfl⟩)) hk.2)
    exact⟨ds,k1,by simp only[ShpB,hu];exact⟨by rw[k1.length];exact hl,k2⟩⟩
   cases h
  all_goals grind [okT]
end
end
end
section
open Go.ChangeShapes Go.WideShapes Go.ChangeAt Go.RowKit
def okS(P:Program):Nat->TypeId->Bool
 |0,_=>Ae
 |n+1,t=>match P.underlying t with
  |some .bool|some (.int _)|some .string=>Ab
  |some (.slice e)=>decide (0<P.cellsOf e)&&okS P n e
  |some (.struct fs)=>zGa P (P.cellsOf t) fs.toList 0&&fs.toList.all (λf=>okS P n f.type)
  |some (.array m e)=>P.cellsOf t==m*P.cellsOf e&&okS P n e
  |_=>Ae
theorem zQb{P:Program}:∀{k:Nat}{t:TypeId},okS P k t=Ab->∀n,okT P n t=Ab
 |0,t,h,n=>by cases h
 |k+1,t,h,0=>rfl
 | k+1,t,h,n+1=>by
  simp only[okS]at h;simp only[okT];split at h<;>rename_i hu<;>(try simp only[hu])<;>try trivial
  ·simp only[AD]at h⊢;exact⟨h.1,zQb h.2 n⟩
  ·simp only[AD,Bi]at h⊢;exact⟨h.1,λf hf=>zQb (h.2 f hf) n⟩
  simp only[AD]at h⊢;exact⟨h.1,zQb h.2 n⟩
section
variable {P : Program} {B n : Nat} {t : TypeId} {ds : List D}
theorem shp_bool(hu:P.underlying t=Aa .bool)(h:ShpB P B n t ds):∃b,ds=[.val (.bool b)]:=by
 cases n with
 |zero=>exact h.elim
 |succ n=>simpa only[ShpB,hu]using h
theorem zLo{k:IntKind}(hu:P.underlying t=Aa (.int k))(h:ShpB P B n t ds):∃z,ds=[.val (.int k z)]/\inK k z:=by
 cases n with
 |zero=>exact h.elim
 |succ n=>
  simp only[ShpB,hu]at h;obtain⟨z,h1,h2⟩:=h;refine⟨z,h1,?_⟩;cases k<;>simpa[Lit.wf,IntKind.min,IntKind.max,BG,BF,inK]using h2
theorem zYz(hu:P.underlying t=Aa .string)(h:ShpB P B n t ds):∃s,ds=[.val (.string s)]/\s.size<=maxLen:=by
 cases n with
 |zero=>exact h.elim
 |succ n=>simpa only[ShpB,hu]using h
theorem zEk{e:TypeId}(hu:P.underlying t=Aa (.slice e))(h:ShpB P B n t ds):∃m,∃ls:List (List D),ds=[.row ls.flatten ls.length]/\(∀x∈ls,ShpB P B m e x)/\ls.length<=B:=by
 cases n with
 |zero=>exact h.elim
 |succ n=>
  simp only[ShpB,hu]at h;obtain⟨ls,h1,h2,h3⟩:=h;exact⟨n,ls,h1,λx hx=>(h2 x hx).1,h3⟩
theorem zNo{fs:Array Field}(hu:P.underlying t=Aa (.struct fs))(h:ShpB P B n t ds):ds.length=P.cellsOf t/\∃m,∀f∈fs.toList,ShpB P B m f.type ((ds.drop f.offset).take (P.cellsOf f.type)):=by
 cases n with
 |zero=>exact h.elim
 |succ n=>
  simp only[ShpB,hu]at h;exact⟨h.1,n,h.2⟩
theorem zEs{β:Type}{g:β->D}{Q:β->Prop}:∀{ls:List (List D)},(∀x∈ls,∃b,x=[g b]/\Q b)->∃bs:List β,ls.flatten=bs.map g/\bs.length=ls.length/\∀b∈bs,Q b
 |[],h=>⟨[],rfl,rfl,by simp⟩
 |x::ls,h=>by
  obtain⟨b,rfl,hb⟩:=h x (Bh ..);obtain⟨bs,h1,h2,h3⟩:=zEs λy hy=>h y (Bt _ hy);refine⟨b::bs,by simp[h1],by simp[h2],λc hc=>?_⟩;grind
theorem zSc{β:Type}{g:β->List D}{Q:β->Prop}:∀{ls:List (List D)},(∀x∈ls,∃b,x=g b/\Q b)->∃bs:List β,ls.flatten=(bs.map g).flatten/\bs.length=ls.length/\∀b∈bs,Q b
 |[],h=>⟨[],rfl,rfl,by simp⟩
 |x::ls,h=>by
  obtain⟨b,rfl,hb⟩:=h x (Bh ..);obtain⟨bs,h1,h2,h3⟩:=zSc λy hy=>h y (Bt _ hy);refine⟨b::bs,by simp[h1],by simp[h2],λc hc=>?_⟩;grind
end
theorem zR3{P:Program}{w:World}{r:Reach}{base:Nat}{t:TypeId}{v:Value}{k:Nat}{e:TypeId}(ht:P.underlying t=Aa (.array k e))(h:Bv P w r base t v):∃cs,v= .agg cs/\cs.size=P.cellsOf t:=by
 simp only[Bv,ht]at h;grind
def ArgB(P:Program)(B:Nat)(t:TypeId)(d:D):Prop:=∃n,if zEh P t then∃ds,d= .agg ds/\ShpB P B n t ds else ShpB P B n t [d]
section
variable {H : Type} {enc : TypeId × Value → H} {P : Program} {W : World} {B : Nat} {Q : DataW H → Prop} (hQ : ∀ e s, Q (.slice e s) → (e.length ≤ maxLen → e.length ≤ B) ∧ ∀ x ∈ e, Q x) (hA : ∀ p, Q (.agg p) → ∀ x ∈ p, Q x)
section
include hQ hA
theorem arg_rel{r:Reach}{b:Nat}{t:TypeId}{v:Value}{d:DataW H}{ps:List MemPlace}(hval:Bv P W r b t v)(h:DataW.Trod enc P W 0 (λ_=>Ab) Ab t v d ps)(hq:Q d){k:Nat}(hk:okS P k t=Ab):
  ∃x,Rel (allI W) W noB x v/\ArgB P B t x:=by
 obtain⟨fuel,hf⟩:=h;obtain⟨ds,k1,k2⟩:=zWg hQ hA fuel t _ _ _ hf hq (zQb hk fuel);have one:v.cells=#[v]->zEh P t=Ae->∃x,Rel (allI W) W noB x v/\ArgB P B t x:=by
  intro hc ha;rw[hc]at k1;have hl:=k1.length;match ds,hl with
  |[x],_=>
   simp only[RelL]at k1;obtain⟨u,us,e,_,k3,k4⟩:=k1;simp only[List.cons.injEq]at e;obtain⟨rfl,rfl⟩:=e;exact⟨x,k3,fuel,by rw[if_neg (by simp[ha])];exact k2⟩
 have many:(∃cs,v= .agg cs)->zEh P t=Ab->∃x,Rel (allI W) W noB x v/\ArgB P B t x:=by
  rintro⟨cs,rfl⟩ ha;refine⟨.agg ds,?_,fuel,by rw[if_pos ha];exact⟨ds,rfl,k2⟩⟩;simp only[Rel];exact⟨cs.toList,by simp,by simpa[Value.cells]using k1⟩
 cases k with
 |zero=>cases hk
 | succ k=>
  simp only[okS]at hk;split at hk<;>rename_i hu
  ·obtain⟨b,rfl⟩:=okWide_bool hu hval;exact one rfl (by simp[zEh,hu])
  ·obtain⟨b,rfl⟩:=okWide_int hu hval;exact one rfl (by simp[zEh,hu])
  ·obtain⟨b,rfl⟩:=okWide_string hu hval;exact one rfl (by simp[zEh,hu])
  ·obtain⟨a,l,c,rfl⟩:=okWide_slice hu hval;exact one rfl (by simp[zEh,hu])
  ·obtain⟨cs,rfl,_⟩:=okWide_struct hu hval;simp_all [zEh]
  ·obtain⟨cs,rfl,_⟩:=zR3 hu hval;simp_all [zEh]
  cases hk
end
inductive ArgsB(P:Program)(B:Nat):List TypeId->List D->Prop
 |nil:ArgsB P B [] []
 |cons {t:TypeId} {ts:List TypeId} {d:D} {ds:List D}:ArgB P B t d->ArgsB P B ts ds->ArgsB P B (t::ts) (d::ds)
section
include hQ hA
theorem zYj{r:Reach}{b k:Nat}:∀{ts:List TypeId}{vs:List Value}{ds:List (DataW H)}{ps:List MemPlace},(∀(j:Nat) t v,ts[j]?=Aa t->vs[j]?=Aa v->Bv P W r b t v)->DataW.TrodAll enc P W 0 (λ_=>Ab) Ab ts vs ds ps->(∀d∈ds,Q d)->ts.all (okS P k)=Ab->
  ∃xs,RelT (allI W) W noB xs vs/\ArgsB P B ts xs
 |[],vs,ds,ps,hv,h,hq,hk=>by
  obtain⟨rfl,_,_⟩:=trodAll_nil h;exact⟨[],by simp only[RelT], .nil⟩
 |t::ts,vs,ds,ps,hv,h,hq,hk=>by
  obtain⟨v,vs,d,ds,p,q,rfl,rfl,rfl,h1,h2⟩:=trodAll_cons h;simp only[List.all_cons,AD]at hk;obtain⟨x,k1,k2⟩:=arg_rel hQ hA (hv 0 t v rfl rfl) h1 (hq _ (Bh ..)) hk.1;obtain⟨xs,k3,k4⟩:=zYj (λj t v h1 h2=>hv (j+1) t v (by simpa using h1) (by simpa using h2)) h2 (λd hd=>hq d (Bt _ hd)) hk.2;exact⟨x::xs,by simp only[RelT];exact⟨v,vs,rfl,k1,k3⟩, .cons k2 k4⟩
end
theorem ArgsB.one{t:TypeId}{xs:List D}(h:ArgsB P B [t] xs):∃d,xs=[d]/\ArgB P B t d:=by
 cases h with|cons h1 h2=>cases h2;exact⟨_,rfl,h1⟩
theorem ArgsB.more{t:TypeId}{ts:List TypeId}{xs:List D}(h:ArgsB P B (t::ts) xs):∃d ds,xs=d::ds/\ArgB P B t d/\ArgsB P B ts ds:=by
 cases h<;>grind
theorem ArgB.agg{t:TypeId}{d:D}(h:ArgB P B t d)(ha:zEh P t=Ab):∃n ds,d= .agg ds/\ShpB P B n t ds:=by
 obtain⟨n,h⟩:=h;grind
theorem ArgB.cell{t:TypeId}{d:D}(h:ArgB P B t d)(ha:zEh P t=Ae):∃n,ShpB P B n t [d]:=by
 obtain⟨n,h⟩:=h;grind
theorem zLh:∀{ts:List TypeId}{vs:List Value}{ds:List (DataW H)}{ps:List MemPlace},DataW.TrodAll enc P W 0 (λ_=>Ab) Ab ts vs ds ps->ds.length=ts.length
 |[],vs,ds,ps,h=>by
  obtain⟨_,rfl,_⟩:=trodAll_nil h;rfl
 |t::ts,vs,ds,ps,h=>by
  obtain⟨v,vs,d,ds,p,q,rfl,rfl,rfl,h1,h2⟩:=trodAll_cons h;rw[B5,B5,zLh h2]
section
include hQ hA
theorem law_callB{fn:Func}{s:ChangeSpec}{f:FuncId}{bt:TypeId}{args:Array Value}{ds gs:List (DataW H)}{before:List MemPlace}{base:Nat}(k:Nat)
  (hl:laidOutB P=Ab)(hv:s.vars=[])(hrt:fn.resultTypes=#[bt])(hbt:P.underlying bt=Aa .bool)
  (hr:fn.params.toList.all (λt=>P.readableRec t&&decide (t<P.types.size))=Ab)(hfn:∀ds,ds.length=fn.params.toList.length->s.fn H ds={results:=[.lit (.bool Ab)],args:=ds})
  (hk:fn.params.toList.all (okS P k)=Ab)
  (hval:∀(j:Nat) t v,fn.params[j]?=Aa t->args[j]?=Aa v->Bv P W .any base t v)
  (hW:DataW.Whole enc P fn.params.toList s.vars Ae W args.toList ds gs before)
  (hg:Gl (allI W) W)(hq:∀d∈ds,Q d)(main:∀xs,ArgsB P B fn.params.toList xs->Pure P f xs [] (.val (.bool Ab))):
  Calls P f args W λe W'=>∃v,e= .returned v/\s.post enc P fn Ae Ab Ae Ae W args v W':=by
 have hW':=hW;obtain⟨p,q,hA0,hV,rfl,hfz,hnd⟩:=hW;rw[hv]at hV;obtain⟨rfl,rfl⟩:=trodVars_none hV;obtain⟨xs,h1,h2⟩:=zYj hQ hA (k:=k) (r:= .any) (b:=base) (λj t v k1 k2=>hval j t v (by simpa using k1) (by simpa using k2)) hA0 hq hk;refine(main xs h2 (allI W) W args.toList h1 (λb o h=>h) hg).mono ?_;rintro e W' ⟨v,I',γ,rfl,hx,_,_,_,_,_,_,_,_,hr',_⟩;simp only[Rel]at hr';subst hr';exact⟨_,rfl,post_true (bt:=bt) hl hv hrt hbt hr (hfn ds (zLh hA0)) hW' hx⟩
end
end
end
section
open Go.RowKit
section
variable {P : Program} {I : Im} {w : World} {β : Be} {sl : List D} {st : List Bk} {tm : List Value}
theorem Fix.drew(I:Im)(w:World)(q:Nat):Fix I w I (w.drewN q):=λb o h=>⟨h,λv hv=>hv,λ_ _ h=>h⟩
theorem Sim.drew(h:Sim β I w sl st tm)(q:Nat):Sim β I (w.drewN q) sl st tm:=by
 refine⟨AZ (Fix.drew I w q) β β (AE _) _ _ h.rel,λk b c hk=>?_,h.inj,h.fz,h.dom,h.imb,h.gl.mono (Fix.drew I w q)⟩;obtain⟨e,h1,h2⟩:=h.sr k b c hk;exact⟨e,h1,Bc h2 rfl (Fix.drew I w q) (AE _)⟩
theorem Stp.drew(β:Be)(I:Im)(w:World)(q:Nat):Stp β I w β I (w.drewN q):=⟨Fix.drew _ _ _,Ak _,λ_ _ _=>rfl,rfl,rfl,rfl,Nat.le_add_right _ _,λk b c h=> .inl ⟨k,c,h⟩,λ_ _ h=> .inl h⟩
theorem zRt{β:Be}:∀{us vs:List Value},RelL I w β (us.map .val) vs->vs=us
 |[],vs,h=>by simpa only[Bw,RelL]using h
 |u::us,vs,h=>by
  simp only[Bm,RelL,Rel]at h;obtain⟨v,vs',rfl,_,rfl,h⟩:=h;rw[zRt h]
theorem zKf{β:Be}:∀{us:List Value},(∀v∈us,v.oneCell'=Ab)->RelL I w β (us.map .val) us
 |[],h=>by simp only[Bw,RelL]
 |u::us,h=>by
  simp only[Bm,RelL,Rel];exact⟨u,us,rfl,h u (Bh ..),rfl,zKf λv hv=>h v (Bt _ hv)⟩
end
theorem RelL.putAt{I:Im}{w:World}{β:Be}:∀{ds:List D}{vs:List Value}{i:Nat}{x:D},RelL I w β ds vs->(∀d v,ds[i]?=Aa d->vs[i]?=Aa v->Rel I w β d v->Rel I w β x v)->RelL I w β (ds.set i x) vs
 |[],vs,i,x,h,hx=>by simpa using h
 | d::ds,vs,i,x,h,hx=>by
  simp only[RelL]at h;obtain⟨v,us,rfl,h1,h2,h3⟩:=h;cases i with
  |zero=>simp only[List.set_cons_zero,RelL];exact⟨v,us,rfl,h1,hx d v rfl rfl h2,h3⟩
  |succ i=>
   simp only[List.set_cons_succ,RelL];exact⟨v,us,rfl,h1,h2,h3.putAt λd v hd hv=>hx d v (by simpa using hd) (by simpa using hv)⟩
section
variable {T : Par} {sl : List D} {st : List Bk}
theorem Weak.fzCell{j i:Nat}{ej:Bk}{d x:D}{ks:List Nat}(hj:st[j]?=Aa ej)(hm:ej.kd.isMap=Ae)(hf:ej.nob=Ae)(hi:ej.cells[i]?=Aa d)(hx:frz Ab st zAc d=Aa (x,ks))(hjk:j∉ks):Weak T sl st sl ((zAz st ks).set j {ej with cells:=ej.cells.set i x}):=by
 intro β I w tm h;have hjl:j<st.length:=(AT.1 hj).1;have hfr:=λv hv=>zCi h.sr.weak _ _ _ _ v hx hv;have hget:∀k,((zAz st ks).set j {ej with cells:=ej.cells.set i x})[k]?=if k=j then Aa {ej with cells:=ej.cells.set i x}else(st[k]?).map λe=>if k∈ks then{e with fz:=Ab}else e:=λk=>by
  grind [zBw,zS]
 refine⟨β,fixI I β st ks,⟨AZ (zAv ks) β β (AE _) _ _ h.rel,λk b c hk=>?_,h.inj,λk b c o e hk he hi'=>?_,λk y hk=>?_,zFl h.sr.weak h.imb ks,h.gl.mono (zAv ks)⟩,⟨zAv ks,Ak _,λ_ _ _=>rfl,rfl,rfl,rfl,Ak _,λk b c hk=> .inl ⟨k,c,hk⟩,λb o hb=>?_⟩,AJ _ _⟩
 ·obtain⟨e,k1,k2⟩:=h.sr k b c hk;by_cases hkj:k=j
  ·subst hkj;rw[hj]at k1;cases k1;refine⟨_,(hget k).trans (if_pos rfl),?_⟩;obtain⟨cur,c1,c2,c3,c4⟩:=k2.c hm;refine OwnC.r ⟨cur,c1,by simpa using c2,?_,c4⟩ hm;have hn2:({ej with cells:=ej.cells.set i x}:Bk).nob=false:=hf;rw[hn2];rw[hf]at c3;simp only[Bx,AK,if_false]at c3⊢;refine(RelL.mono (zAv ks) β β (AE _) _ _ c3).putAt λd' v hd hv hr=>?_;rw[hi]at hd;cases hd;obtain⟨v',g1,g2,g3⟩:=c3.get i d hi;grind [Rel.no]
  refine⟨if k∈ks then{e with fz:=Ab}else e,by rw[hget,if_neg hkj,k1];rfl,?_⟩;have k3:=Bc (β':=β) k2 rfl (zAv (β:=β) (st:=st) ks) (AE _);split
  ·exact k3.like rfl rfl rfl rfl rfl
  exact k3
 ·rw[hget]at he;by_cases hkj:k=j
  ·subst hkj;rw[if_pos rfl]at he;cases he;rcases hi' with hi'|⟨k',hk',c',e',m1,m2,m3⟩
   ·have:=h.fz k b c o ej hk hj hi'
    grind
   have:=h.inj k' k b c' c m1 hk
   subst this;exact absurd hk' hjk
  rw[if_neg hkj]at he;obtain⟨e0,he0,rfl⟩:=Au.1 he;rcases hi' with hi'|⟨k',hk',c',e',m1,m2,m3⟩
  ·have:=h.fz k b c o e0 hk he0 hi'
   grind
  have:=h.inj k' k b c' c m1 hk
  grind
 ·rw[Bx,zS];exact h.dom k y hk
 rcases hb with hb|⟨k',_,c',_,m1,_⟩;all_goals grind
theorem Weak.unsh{k:Nat}{e:Bk}(hk:st[k]?=Aa e)(hs:e.kd= .sh)(ha:e.arr=Ab)(hn:∀j,zX j e.cells=Ae):Weak T sl st sl (st.set k {e with kd:= .plain}):=by
 intro β I w tm h;have hkl:k<st.length:=(AT.1 hk).1;have hm:e.kd.isMap=false:=by rw[hs];rfl
 have hget:∀j,(st.set k {e with kd:= .plain})[j]?=if j=k then Aa {e with kd:= .plain}else st[j]?:=λj=>by
  grind
 refine⟨β,I,⟨h.rel,λj b c hj=>?_,h.inj,λj b c o e' hj he hi=>?_,λj y hj=>?_,h.imb,h.gl⟩,AN _ _ _,AJ _ _⟩
 ·obtain⟨e',k1,k2⟩:=h.sr j b c hj;by_cases hjk:j=k
  ·subst hjk;rw[hk]at k1;cases k1;refine⟨_,(hget j).trans (if_pos rfl),?_⟩;obtain⟨cur,c1,c2,c3,c4⟩:=k2.c hm;refine OwnC.r ⟨cur,c1,c2,?_,c4⟩ rfl;have e1:e.nob=false:=by unfold Bk.nob;rw[hs,ha];rfl
   have e2:({e with kd:= .plain}:Bk).nob=true:=by unfold Bk.nob;rw[ha];rfl
   rw[e1]at c3;rw[e2];simp only[if_true,AK,if_false]at c3⊢;grind [RelL.congr]
  grind
 ·rw[hget]at he;by_cases hjk:j=k
  ·subst hjk;rw[if_pos rfl]at he;cases he
   have:=h.fz j b c o e hj hk hi
   grind
  rw[if_neg hjk]at he;exact h.fz j b c o e' hj he hi
 rw[Bx];exact h.dom j y hj
theorem Weak.nilC{j i:Nat}{ej:Bk}(b:Bk)(hj:st[j]?=Aa ej)(hm:ej.kd.isMap=Ae)(hf:ej.nob=Ae)(hi:ej.cells[i]?=Aa (.val (.slice Af 0 0))):Weak T sl st sl (st.set j {ej with cells:=ej.cells.set i (.osl st.length 0 0 0 Ab)}++[b]):=by
 intro β I w tm h;have hjl:j<st.length:=(AT.1 hj).1;have hget:∀k,k<st.length->(st.set j {ej with cells:=ej.cells.set i (.osl st.length 0 0 0 Ab)}++[b])[k]?=if k=j then Aa {ej with cells:=ej.cells.set i (.osl st.length 0 0 0 Ab)}else st[k]?:=λk hk=>by
  grind
 refine⟨β,I,⟨h.rel,λk b' c hk=>?_,h.inj,λk b' c o e hk he hi'=>?_,λk y hk=>?_,h.imb,h.gl⟩,AN _ _ _,AJ _ _⟩
 ·obtain⟨e,k1,k2⟩:=h.sr k b' c hk;rw[hget k (h.dom k _ hk)];by_cases hkj:k=j
  ·subst hkj;rw[hj]at k1;cases k1;refine⟨_,if_pos rfl,?_⟩;obtain⟨cur,c1,c2,c3,c4⟩:=k2.c hm;refine OwnC.r ⟨cur,c1,by simpa using c2,?_,c4⟩ hm;have hn2:({ej with cells:=ej.cells.set i (.osl st.length 0 0 0 Ab)}:Bk).nob=false:=hf;rw[hn2];rw[hf]at c3;simp only[Bx,AK,if_false]at c3⊢;refine c3.putAt λd v hd hv hr=>?_;rw[hi]at hd;cases hd;simp only[Rel]at hr⊢;grind
  grind
 ·have hlt:=h.dom k _ hk;rw[hget k hlt]at he;by_cases hkj:k=j
  ·subst hkj;rw[if_pos rfl]at he;cases he
   have:=h.fz k b' c o ej hk hj hi'
   grind
  rw[if_neg hkj]at he;exact h.fz k b' c o e hk he hi'
 rw[Bb,Bx]
 have:=h.dom k y hk
 omega
theorem zBx{P:Program}{b:Code}{Q:Exit->List D->List Bk->Prop}{sl':List D}{st':List Bk}(h:Weak T sl st sl' st')(k:awp P T b Q sl' st'):zAn P T b Q sl st:=⟨_,_,h,k⟩
end
def bs(l:List UInt8):ByteArray:=⟨l.toArray⟩
theorem bs_toList(l:List UInt8):(bs l).toList=l:=by rw[Ce];rfl
structure Va where
 kind:Int
 int:Int
 str:List UInt8
 deriving DecidableEq, Inhabited
abbrev strD(l:List UInt8):D:= .val (.string (bs l))
abbrev vaC(v:Va):List D:=[.val (.int .i64 v.kind), .val (.int .i64 v.int),strD v.str]
abbrev vaD(v:Va):D:= .agg (vaC v)
def zJ(r:List Va):List D:=r.flatMap vaC
abbrev rowV(r:List Va):D:= .row (zJ r) r.length
theorem zA0(r:List Va):(zJ r).length=r.length*3:=by
 induction r with
 |nil=>rfl
 |cons v r ih=>simp only[zJ,List.flatMap_cons,Bb]at ih⊢;rw[ih];simp;omega
theorem zJ8(r s:List Va):zJ (r++s)=zJ r++zJ s:=by simp[zJ]
theorem zVu(r:List Va)(i:Nat):(zJ r).drop (i*3)=zJ (r.drop i):=by
 induction r generalizing i with
 |nil=>simp[zJ]
 | cons v r ih=>
  cases i with
  |zero=>simp
  |succ i=>
   have:zJ (v::r)=vaC v++zJ r:=rfl;grind
theorem cellsV_at(r:List Va)(i:Nat)(h:i<r.length):(zJ r).drop (i*3)=vaC (r.getD i Aj)++zJ (r.drop (i+1)):=by
 rw[zVu,By h,AI,AA h];rfl
theorem zDs(r:List Va)(i:Nat)(h:i<r.length):((zJ r).drop (i*3)).take 3=vaC (r.getD i Aj):=by rw[cellsV_at r i h];rfl
theorem zHp(r:List Va)(h:0<r.length):zJ r≠[]:=by grind [zA0]
theorem zPd(r:List Va)(i:Nat)(v:Va)(h:i<r.length):setAt (zJ r) (i*3) (vaC v)=zJ (r.set i v):=by
 induction r generalizing i with
 |nil=>simp at h
 | cons u r ih=>
  cases i with
  |zero=>rfl
  | succ i=>
   have h1:zJ (u::r)=vaC u++zJ r:=rfl;have h2:zJ ((u::r).set (i+1) v)=vaC u++zJ (r.set i v):=rfl;have key:∀(us:List D)(pre cs:List D)(k:Nat),setAt (pre++cs) (pre.length+k) us=pre++setAt cs k us:=by
    intro us;induction us<;>grind [setAt,Nat.add_assoc]
   grind
def vcmp(a b:Va):Int:=if a.kind≠b.kind then cmpD a.kind b.kind else if a.int≠b.int then cmpD a.int b.int else Aw a.str b.str
def rcmp:List Va->List Va->Int
 |[],[]=>0
 |[],_::_=>-1
 |_::_,[]=>1
 |a::r,b::s=>if vcmp a b=0 then rcmp r s else vcmp a b
theorem zMy(a b:Int):(cmpD a b=-1/\a<b)\/(cmpD a b=0/\a=b)\/(cmpD a b=1/\b<a):=by
 grind [cmpD]
theorem zM2:∀(a b:List UInt8),(Aw a b=-1\/Aw a b=0\/Aw a b=1)/\(Aw a b=0↔a=b)/\Aw b a=-Aw a b
 |[],[]=>by simp[Aw]
 |[],_::_=>by simp[Aw]
 |_::_,[]=>by simp[Aw]
 |a::ar0,b::bs=>by
  obtain⟨h1,h2,h3⟩:=zM2 ar0 bs;simp only[Aw];grind
theorem zA8(a b:Va):(vcmp a b=-1\/vcmp a b=0\/vcmp a b=1)/\(vcmp a b=0↔a=b)/\vcmp b a=-vcmp a b:=by
 obtain⟨ak,ai,ar0⟩:=a;obtain⟨bk,bi,bs⟩:=b;obtain⟨c1,c2,c3⟩:=zM2 ar0 bs;simp only[vcmp];by_cases h1:ak=bk
 ·subst h1;by_cases h2:ai=bi
  ·grind
  grind [zMy,cmpD]
 grind [zMy,cmpD]
theorem zBk:∀(a b:List Va),(rcmp a b=-1\/rcmp a b=0\/rcmp a b=1)/\(rcmp a b=0↔a=b)/\rcmp b a=-rcmp a b
 |[],[]=>by simp[rcmp]
 |[],_::_=>by simp[rcmp]
 |_::_,[]=>by simp[rcmp]
 |a::r,b::s=>by
  obtain⟨h1,h2,h3⟩:=zBk r s;obtain⟨k1,k2,k3⟩:=zA8 a b;simp only[rcmp,k3];grind
theorem zRw:∀(i:Nat)(a b:List Va),i<=a.length->i<=b.length->a.take i=b.take i->rcmp a b=rcmp (a.drop i) (b.drop i)
 |0,_,_,_,_,_=>rfl
 |i+1,[],b,h,_,_=>by simp at h
 |i+1,_::_,[],_,h,_=>by simp at h
 |i+1,x::a,y::b,h1,h2,h3=>by
  simp only[List.take_succ_cons,List.cons.injEq]at h3;obtain⟨rfl,h3⟩:=h3;rw[rcmp,if_pos ((zA8 x x).2.1.2 rfl),zRw i a b (by simpa using h1) (by simpa using h2) h3];rfl
theorem rcmp_at(i:Nat)(a b:List Va)(ha:i<a.length)(hb:i<b.length)(h:a.take i=b.take i)(hv:vcmp (a.getD i Aj) (b.getD i Aj)≠0):rcmp a b=vcmp (a.getD i Aj) (b.getD i Aj):=by
 rw[zRw i a b (by omega) (by omega) h,By ha,By hb];simp only[AI,AA ha,AA hb,BK]at hv⊢;rw[rcmp,if_neg hv]
theorem zRc(i:Nat)(a b:List Va)(ha:i<a.length)(hb:i<b.length)(h:a.take i=b.take i)(hv:vcmp (a.getD i Aj) (b.getD i Aj)=0):a.take (i+1)=b.take (i+1):=by
 have:=(zA8 _ _).2.1.1 hv
 rw[A7 ha,A7 hb,h];grind
def vok(v:Va):Bool:=if v.kind=1 then v.str.isEmpty else if v.kind=2 then v.int=0&&v.str.length<=24 else Ae
end
abbrev Rw:=List Va
structure Cw(c:Rw->Rw->Int):Prop where
 eq:∀a b,c a b=0↔a=b
 neg:∀a b,c b a=-c a b
 tr:∀a b d,c a b<0->c b d<0->c a d<0
structure Sr(α:Type) where
 add:α->α->α
 mul:α->α->α
 one:α
 om:∀a,mul one a=a
 ac:∀a b,add a b=add b a
 aa:∀a b c,add (add a b) c=add a (add b c)
 mc:∀a b,mul a b=mul b a
 ma:∀a b c,mul (mul a b) c=mul a (mul b c)
 dl:∀a b c,mul a (add b c)=add (mul a b) (mul a c)
section
variable {α : Type} (c : Rw → Rw → Int)
def Srt(l:List (Rw×α)):Prop:=l.Pairwise λp q=>c p.1 q.1<0
def oadd(f:α->α->α):Option α->Option α->Option α
 |none,y=>y
 |some x,Af=>Aa x
 |some x,Aa y=>Aa (f x y)
def putP(f:α->α->α)(r:Rw)(v:α):List (Rw×α)->List (Rw×α)
 |[]=>[(r,v)]
 |(s,u)::l=>if c s r<0 then(s,u)::putP f r v l else if s=r then(s,f u v)::l else(r,v)::(s,u)::l
def acc(f:α->α->α)(l L:List (Rw×α)):List (Rw×α):=L.foldl (λl p=>putP c f p.1 p.2 l) l
def ev(f:α->α->α)(o:Option α)(L:List (Rw×α))(r:Rw):Option α:=L.foldl (λo p=>if p.1=r then oadd f o (Aa p.2)else o) o
variable {c}
end
section
variable {α : Type} (S : Sr α)
def osum(l:List (Option α)):Option α:=l.foldr (oadd S.add) Af
end
section
variable {α : Type}
def asg(A:List Nat)(x:Rw)(v:Nat):Va:=x.getD (A.idxOf v) Aj
def un(A B:List Nat):List Nat:=(AO 32).filter λv=>decide (v∈A\/v∈B)
def mt(A:List Nat)(x:Rw)(B:List Nat)(y:Rw):Bool:=A.all λv=>decide (v∈B->asg A x v=asg B y v)
def sg(A:List Nat)(x:Rw)(B:List Nat)(y:Rw)(v:Nat):Va:=if v∈A then asg A x v else asg B y v
def mg(A:List Nat)(x:Rw)(B:List Nat)(y:Rw):Rw:=(un A B).map (sg A x B y)
def prods(f:α->α->α)(A:List Nat)(la:List (Rw×α))(B:List Nat)(lb:List (Rw×α)):List (Rw×α):=
 la.flatMap λp=>(lb.filter λq=>mt A p.1 B q.1).map λq=>(mg A p.1 B q.1,f p.2 q.2)
def Asc(A:List Nat):Prop:=A.Pairwise (· <·)/\∀v∈A,v<32
def Lens(n:Nat)(l:List (Rw×α)):Prop:=∀p∈l,p.1.length=n
def upd(σ:Nat->Va)(v:Nat)(x:Va)(w:Nat):Va:=if w=v then x else σ w
def dropC(A:List Nat)(v:Nat)(l:List (Rw×α)):List (Rw×α):=l.map λp=>(p.1.eraseIdx (A.idxOf v),p.2)
def less(A:List Nat)(v:Nat):List Nat:=A.filter λu=>decide (u≠v)
structure Fa(α:Type) where
 A:List Nat
 l:List (Rw×α)
structure FOk(c:Rw->Rw->Int)(Dm:List Va)(f:Fa α):Prop where
 asc:Asc f.A
 len:Lens f.A.length f.l
 srt:Srt c f.l
 dom:∀p∈f.l,∀a∈p.1,a∈Dm
def okO(U:List Nat)(s:Rw)(o:Fa α):Bool:=o.l.any λq=>o.A.all λv=>decide (v∈U->asg o.A q.1 v=asg U s v)
def fmul(c:Rw->Rw->Int)(S:Sr α)(f g:Fa α)(os:List (Fa α)):Fa α:=
 ⟨un f.A g.A,acc c S.add [] ((prods S.mul f.A f.l g.A g.l).filter λp=>os.all λo=>okO (un f.A g.A) p.1 o)⟩
def fsum(c:Rw->Rw->Int)(S:Sr α)(v:Nat)(f:Fa α):Fa α:=⟨less f.A v,acc c S.add [] (dropC f.A v f.l)⟩
def elimP(c:Rw->Rw->Int)(S:Sr α):Fa α->List (Fa α)->List (Fa α)->Fa α
 |p,[],os=>p
 |p,f::fs,os=>elimP c S (fmul c S p f (fs++os)) fs os
def withV(v:Nat)(fs:List (Fa α)):List (Fa α):=fs.filter λf=>decide (v∈f.A)
def restV(v:Nat)(fs:List (Fa α)):List (Fa α):=fs.filter λf=>decide (v∉f.A)
def elim(c:Rw->Rw->Int)(S:Sr α)(v:Nat)(fs:List (Fa α)):List (Fa α):=match withV v fs with
 |[]=>fs
 |p::ws=>restV v fs++[fsum c S v (elimP c S p ws (restV v fs))]
def margs(S:Sr α)(Dm:List Va):List Nat->((Nat->Va)->Option α)->(Nat->Va)->Option α
 |[],F=>F
 |v::vs,F=>margs S Dm vs λσ=>osum S (Dm.map λx=>F (upd σ v x))
variable {c : Rw → Rw → Int} {S : Sr α} {Dm : List Va}
end
section
open Go.RowKit
abbrev u32D(n:Nat):D:= .val (.int .u32 (n:Nat))
abbrev nsD(l:List Nat):List D:=l.map λc=>iD (c:Nat)
def msk(A:List Nat):Nat:=A.foldl (λm v=>m|||2^v) 0
theorem mskF_bit(A:List Nat):∀(m v:Nat),(A.foldl (λm v=>m|||2^v) m).testBit v=(m.testBit v||decide (v∈A)):=by
 induction A<;>grind
theorem zHa(A:List Nat)(v:Nat):(msk A).testBit v=decide (v∈A):=by rw[msk,mskF_bit];simp
theorem zVw{m n:Nat}(h:∀v,n<=v->m.testBit v=Ae):m<2^n:=Nat.lt_pow_two_of_testBit m h
theorem msk_lt{A:List Nat}(h:∀v∈A,v<32):msk A<4294967296:=zVw (n:=32) λv hv=>by
 rw[zHa];simp;intro hm;have:=h v hm;omega
theorem zXf(A:List Nat)(i:Nat)(h:i<A.length):msk (A.take (i+1))=msk (A.take i)|||2^A.getD i 0:=by
 grind [A7,msk,AA]
theorem wrap_nat{n:Nat}(h:n<4294967296):AW.wrap (n:Int)=(n:Int):=zFj (k:= .u32) (by simp only[inK];omega)
theorem bv_nat{n:Nat}(h:n<4294967296):(Bn 32 (n:Int)).toNat=n:=by
 grind
theorem zR2{a b:Nat}(ha:a<4294967296)(hb:b<4294967296):a|||b<4294967296:=Nat.or_lt_two_pow (n:=32) ha hb
theorem u32_shl{v:Nat}(h:v<32):AW.wrap (1*2^(min (v:Int).toNat 32))=((2^v:Nat):Int):=by
 have h2:2^v<4294967296:=Nat.pow_lt_pow_right (n:=32) (by omega) h;rw[AQ,B6 (by omega),Int.one_mul,show((2:Int)^v)=((2^v:Nat):Int) by simp,wrap_nat h2]
theorem u32_shr(m:Nat){v:Nat}(h:v<32):AX (m:Int) (2^(min (v:Int).toNat 32))=((m>>>v:Nat):Int):=by
 grind [AQ,B6,B7,Int.ofNat_fdiv]
theorem zNi{a b:Nat}(ha:a<4294967296)(hb:b<4294967296):(Bn 32 (a:Int)|||Bn 32 (b:Int)).toNat=a|||b:=by
 grind
theorem zEe{v:Nat}(h:v<32):AW.wrap (1*2^(min v 32))=((2^v:Nat):Int):=u32_shl h
theorem zE4(m:Nat){v:Nat}(h:v<32):AX (m:Int) (2^(min v 32))=((m>>>v:Nat):Int):=u32_shr m h
theorem zEa{v:Nat}(h:v<32):2^v<4294967296:=Nat.pow_lt_pow_right (n:=32) (by omega) h
theorem bit_eq{m:Nat}(hm:m<4294967296)(v:Nat):((Bn 32 ((m>>>v:Nat):Int)&&&1#32).toNat:Int)=if m.testBit v then 1 else 0:=by
 have h1:m>>>v<4294967296:=Nat.lt_of_le_of_lt (by rw[B7];exact Nat.div_le_self _ _) hm;rw[BitVec.toNat_and,bv_nat h1,Nat.testBit_eq_decide_div_mod_eq,show(1#32).toNat=1 from rfl,Nat.and_one_is_mod,B7];grind
theorem bit_b{m:Nat}(hm:m<4294967296)(v:Nat):((((Bn 32 ((m>>>v:Nat):Int)&&&Bn 32 1).toNat:Nat):Int)==1)=m.testBit v:=by
 grind [bit_eq]
end
section
open Go.Shelf
def Tryz.lays125_ren:Go.Shelf.Ren:=⟨λ|125=>139|128=>56|129=>156|n=>n,λ|46=>37|3=>3|51=>36|53=>39|4=>4|5=>5|9=>9|n=>n,λ|n=>n⟩
theorem Tryz.lays125:Go.Proofs.Lays.n125 Ai Tryz.lays125_ren:={
 mixed:=by kernel_rfl
 f125:=Tryz.func139.trans (congrArg Aa (by kernel_rfl))
 f128:=Tryz.func56.trans (congrArg Aa (by kernel_rfl))
 f129:=Tryz.func156.trans (congrArg Aa (by kernel_rfl))
 t3:=Tryz.underlying3
 a3:=Tryz.isAgg3
 z3:=Tryz.sizeOf3
 v3:=Tryz.zeroValue3
 t4:=Tryz.underlying4
 a4:=Tryz.isAgg4
 z4:=Tryz.sizeOf4
 v4:=Tryz.zeroValue4
 t5:=Tryz.underlying5
 a5:=Tryz.isAgg5
 z5:=Tryz.sizeOf5
 v5:=Tryz.zeroValue5
 t9:=Tryz.underlying9
 a9:=Tryz.isAgg9
 z9:=Tryz.sizeOf9
 v9:=Tryz.zeroValue9
 t46:=Tryz.underlying37
 a46:=Tryz.isAgg37
 z46:=Tryz.sizeOf37
 v46:=Tryz.zeroValue37
 t51:=Tryz.underlying36
 a51:=Tryz.isAgg36
 z51:=Tryz.sizeOf36
 v51:=Tryz.zeroValue36
 t53:=Tryz.underlying39
 a53:=Tryz.isAgg39
 z53:=Tryz.sizeOf39
 v53:=Tryz.zeroValue39}
theorem Tryz.bits_Len(x:Int)(w:World)(h0:0<=x)(h1:x<=18446744073709551615):
  Calls Ai 139 #[.int .u64 x] w λe w'=>e= .returned (.int .i64 (Lib.bitLen x.toNat))/\w'=w:=Any.bits_Len Tryz.lays125 x w h0 h1
open Go.RowKit in
def Tryz.lays106_ren:Go.Shelf.Ren:=⟨λ|106=>128|213=>142|265=>161|n=>n,λ|9=>9|3=>3|n=>n,λ|n=>n⟩
theorem Tryz.lays106:Go.Proofs.Lays.n106 Ai Tryz.lays106_ren:={
 mixed:=by kernel_rfl
 f106:=Tryz.func128.trans (congrArg Aa (by kernel_rfl))
 f213:=Tryz.func142.trans (congrArg Aa (by kernel_rfl))
 f265:=Tryz.func161.trans (congrArg Aa (by kernel_rfl))
 t3:=Tryz.underlying3
 a3:=Tryz.isAgg3
 z3:=Tryz.sizeOf3
 v3:=Tryz.zeroValue3
 t9:=Tryz.underlying9
 a9:=Tryz.isAgg9
 z9:=Tryz.sizeOf9
 v9:=Tryz.zeroValue9}
open Go.RowKit in
theorem Tryz.strings_Compare(a b:ByteArray)(w:World):
  Calls Ai 128 #[.string a, .string b] w λe w'=>e= .returned (.int .i64 (Aw a.data.toList b.data.toList))/\w'=w:=Any.strings_Compare Tryz.lays106 a b w
open Go.RowKit in
open Go.RowKit in
def Tryz.lays129_ren:Go.Shelf.Ren:=⟨λ|129=>156|n=>n,λ|53=>39|3=>3|4=>4|46=>37|5=>5|9=>9|n=>n,λ|n=>n⟩
theorem Tryz.lays129:Go.Proofs.Lays.n129 Ai Tryz.lays129_ren:={
 mixed:=by kernel_rfl
 f129:=Tryz.func156.trans (congrArg Aa (by kernel_rfl))
 t3:=Tryz.underlying3
 a3:=Tryz.isAgg3
 z3:=Tryz.sizeOf3
 v3:=Tryz.zeroValue3
 t4:=Tryz.underlying4
 a4:=Tryz.isAgg4
 z4:=Tryz.sizeOf4
 v4:=Tryz.zeroValue4
 t5:=Tryz.underlying5
 a5:=Tryz.isAgg5
 z5:=Tryz.sizeOf5
 v5:=Tryz.zeroValue5
 t9:=Tryz.underlying9
 a9:=Tryz.isAgg9
 z9:=Tryz.sizeOf9
 v9:=Tryz.zeroValue9
 t46:=Tryz.underlying37
 a46:=Tryz.isAgg37
 z46:=Tryz.sizeOf37
 v46:=Tryz.zeroValue37
 t53:=Tryz.underlying39
 a53:=Tryz.isAgg39
 z53:=Tryz.sizeOf39
 v53:=Tryz.zeroValue39}
theorem Tryz.bits_Len64(x:Int)(w:World)(h0:0<=x)(h1:x<=18446744073709551615):
  Calls Ai 156 #[.int .u64 x] w λe w'=>e= .returned (.int .i64 (Lib.bitLen x.toNat))/\w'=w:=Any.bits_Len64 Tryz.lays129 x w h0 h1
def Tryz.lays317_ren:Go.Shelf.Ren:=⟨λ|317=>176|n=>n,λ|3=>3|46=>37|n=>n,λ|n=>n⟩
theorem Tryz.lays317:Go.Proofs.Lays.n317 Ai Tryz.lays317_ren:={
 mixed:=by kernel_rfl
 f317:=Tryz.func176.trans (congrArg Aa (by kernel_rfl))
 t3:=Tryz.underlying3
 a3:=Tryz.isAgg3
 z3:=Tryz.sizeOf3
 v3:=Tryz.zeroValue3
 t46:=Tryz.underlying37
 a46:=Tryz.isAgg37
 z46:=Tryz.sizeOf37
 v46:=Tryz.zeroValue37}
open Go.Lib in
theorem Tryz.internal_strconv_log10Pow2(x:Nat)(h:x<=64)(w:World):
  Calls Ai 176 #[.int .i64 x] w λe w'=>e= .returned (.int .i64 (Lib.l10 x))/\w'=w:=Any.internal_strconv_log10Pow2 Tryz.lays317 x h w
def Tryz.lays318_ren:Go.Shelf.Ren:=⟨λ|318=>177|n=>n,λ|3=>3|4=>4|n=>n,λ|n=>n⟩
theorem Tryz.lays318:Go.Proofs.Lays.n318 Ai Tryz.lays318_ren:={
 mixed:=by kernel_rfl
 f318:=Tryz.func177.trans (congrArg Aa (by kernel_rfl))
 t3:=Tryz.underlying3
 a3:=Tryz.isAgg3
 z3:=Tryz.sizeOf3
 v3:=Tryz.zeroValue3
 t4:=Tryz.underlying4
 a4:=Tryz.isAgg4
 z4:=Tryz.sizeOf4
 v4:=Tryz.zeroValue4}
open Go.Lib in
theorem Tryz.internal_strconv_bool2_int(b:Bool)(w:World):
  Calls Ai 177 #[.bool b] w λe w'=>e= .returned (.int .i64 (if b then 1 else 0))/\w'=w:=Any.internal_strconv_bool2_int Tryz.lays318 b w
def Tryz.lays283_ren:Go.Shelf.Ren:=⟨λ|283=>157|n=>n,λ|3=>3|9=>9|4=>4|n=>n,λ|n=>n⟩
theorem Tryz.lays283:Go.Proofs.Lays.n283 Ai Tryz.lays283_ren:={
 mixed:=by kernel_rfl
 f283:=Tryz.func157.trans (congrArg Aa (by kernel_rfl))
 t3:=Tryz.underlying3
 a3:=Tryz.isAgg3
 z3:=Tryz.sizeOf3
 v3:=Tryz.zeroValue3
 t4:=Tryz.underlying4
 a4:=Tryz.isAgg4
 z4:=Tryz.sizeOf4
 v4:=Tryz.zeroValue4
 t9:=Tryz.underlying9
 a9:=Tryz.isAgg9
 z9:=Tryz.sizeOf9
 v9:=Tryz.zeroValue9}
open Go.Lib in
theorem Tryz.internal_strconv_small(i:Nat)(h:i<100)(w:World):
  Calls Ai 157 #[.int .i64 i] w λe w'=>e= .returned (.string ⟨(Lib.decDigits i).toArray⟩)/\w'=w:=Any.internal_strconv_small Tryz.lays283 i h w
open Go.Lib in
def Tryz.lays285_ren:Go.Shelf.Ren:=⟨λ|285=>159|n=>n,λ|37=>180|53=>39|3=>3|4=>4|51=>36|9=>9|5=>5|0=>0|n=>n,λ|n=>n⟩
theorem Tryz.lays285:Go.Proofs.Lays.n285 Ai Tryz.lays285_ren:={
 mixed:=by kernel_rfl
 f285:=Tryz.func159.trans (congrArg Aa (by kernel_rfl))
 t0:=Tryz.underlying0
 a0:=Tryz.isAgg0
 z0:=Tryz.sizeOf0
 v0:=Tryz.zeroValue0
 t3:=Tryz.underlying3
 a3:=Tryz.isAgg3
 z3:=Tryz.sizeOf3
 v3:=Tryz.zeroValue3
 t4:=Tryz.underlying4
 a4:=Tryz.isAgg4
 z4:=Tryz.sizeOf4
 v4:=Tryz.zeroValue4
 t5:=Tryz.underlying5
 a5:=Tryz.isAgg5
 z5:=Tryz.sizeOf5
 v5:=Tryz.zeroValue5
 t9:=Tryz.underlying9
 a9:=Tryz.isAgg9
 z9:=Tryz.sizeOf9
 v9:=Tryz.zeroValue9
 t37:=Tryz.underlying180
 a37:=Tryz.isAgg180
 z37:=Tryz.sizeOf180
 v37:=Tryz.zeroValue180
 t51:=Tryz.underlying36
 a51:=Tryz.isAgg36
 z51:=Tryz.sizeOf36
 v51:=Tryz.zeroValue36
 t53:=Tryz.underlying39
 a53:=Tryz.isAgg39
 z53:=Tryz.sizeOf39
 v53:=Tryz.zeroValue39}
open Go.RowKit Go.Sort Go.Lib in
theorem Tryz.internal_strconv_formatBase10(blk off cap:Nat)(u:Nat)(d:Array UInt8)(w:World)(hH:Holds (λ(b:UInt8)=>An .u8 (b.toNat:Int)) w blk off d)(hu:u<10^d.size)(hu64:u<18446744073709551616)(hsz:d.size<4611686018427387904):
  Calls Ai 159 #[.slice (Aa ⟨blk,off,Af⟩) d.size cap, .int .u64 u] w λe w'=>
   e= .returned (.tuple #[])/\∃(n v':Nat)(dk:Array UInt8),w'=(putRow (λ(b:UInt8)=>An .u8 (b.toNat:Int)) w blk off dk).drewN n/\FmtInv d.size u 0 v' dk:=Any.internal_strconv_formatBase10 Tryz.lays285 blk off cap u d w hH hu hu64 hsz
open Go.RowKit Go.Sort Go.Lib in
open Go.RowKit Go.Sort Go.Lib in
open Go.RowKit Go.Sort Go.Lib in
open Go.RowKit Go.Sort Go.Lib in
open Go.RowKit Go.Sort Go.Lib in
open Go.Lib in
open Go.Lib in
open Go.Lib in
open Go.Lib in
open Go.RowKit Go.Lib in
open Go.RowKit Go.Lib in
open Go.RowKit Go.Lib in
end
section
open Go.Shelf
end
section
open Go.RowKit Go.Sort Go.Lib Go.Shelf
section
variable {P : Program} {I : Im} {w : World} {β : Be} {sl : List D} {st : List Bk} {tm : List Value}
theorem zEu(w:World)(os:Array Obj){b:Nat}(h:b<w.heap.size):(grow w os).heap[b]?=w.heap[b]?:=by
 simp[grow,Array.getElem?_append_left h]
theorem Fix.grow(hi:ImB I w)(os:Array Obj):Fix I w I (grow w os):=λb o h=>⟨h,λv hv=>by
 simp only[World.cell?]at hv⊢;rw[zEu w os (hi b o h)];exact hv,λks vs hm=>hm.of_heap (zEu w os hm.lt)⟩
theorem Sim.grow(h:Sim β I w sl st tm)(os:Array Obj):Sim β I (grow w os) sl st tm:=by
 have hf:=Fix.grow h.imb os;refine⟨AZ hf β β (AE _) _ _ h.rel,λk b c hk=>?_,h.inj,h.fz,h.dom,λb o hb=>?_,h.gl.mono hf⟩
 ·obtain⟨e,h1,h2⟩:=h.sr k b c hk;exact⟨e,h1,h2.mono (zEu w os h2.lt) hf (AE _)⟩
 have:=h.imb b o hb
 simp[Go.Sort.grow];omega
theorem Stp.grow(hi:ImB I w)(β:Be)(os:Array Obj):Stp β I w β I (grow w os):=⟨Fix.grow hi os,by simp[Go.Sort.grow],λb hb _=>zEu w os hb,rfl,rfl,rfl,Ak _,λk b c h=> .inl ⟨k,c,h⟩,λ_ _ h=> .inl h⟩
theorem zLq:∀(xs ys pre:List D),xs.length=ys.length->setAt (pre++xs) pre.length ys=pre++ys
 |xs,[],pre,hl=>by
  obtain rfl:xs=[]:=A0 (by simpa using hl);rfl
 |[],y::ys,pre,hl=>by simp at hl
 |x::xs,y::ys,pre,hl=>by
  simp only[setAt];have e1:(pre++x::xs).set pre.length y=(pre++[y])++xs:=by simp
  rw[e1]
  have:=zLq xs ys (pre++[y]) (by simpa using hl)
  grind
theorem Sim.fzAll(h:Sim β I w sl st tm)(ks:List Nat):Sim β (fixI I β st ks) w sl (zAz st ks) tm:=by
 refine⟨AZ (zAv ks) β β (AE _) _ _ h.rel,λj b c hj=>?_,h.inj,λj b c o e hj he hi'=>?_,λj y hj=>?_,zFl h.sr.weak h.imb ks,h.gl.mono (zAv ks)⟩
 ·obtain⟨e,k1,k2⟩:=h.sr j b c hj;refine⟨if j∈ks then{e with fz:=Ab}else e,by rw[zBw,k1];rfl,?_⟩;have k3:=Bc (β':=β) k2 rfl (zAv (β:=β) (st:=st) ks) (AE _);split
  ·exact k3.like rfl rfl rfl rfl rfl
  exact k3
 ·rw[zBw]at he;obtain⟨e0,he0,rfl⟩:=Au.1 he;rcases hi' with hi'|⟨k',hk',c',e',m1,m2,m3⟩
  ·have:=h.fz j b c o e0 hj he0 hi'
   grind
  have:=h.inj k' j b c' c m1 hj
  grind
 rw[zS];exact h.dom j y hj
theorem Stp.fzAll(hi:Sim β I w sl st tm)(ks:List Nat):Stp β I w β (fixI I β st ks) w:=⟨zAv ks,Ak _,λ_ _ _=>rfl,rfl,rfl,rfl,Ak _,λk b c h=> .inl ⟨k,c,h⟩,λb o hb=>by
 rcases hb with hb|⟨k',_,c',_,m1,_⟩
 ·exact .inl hb
 exact .inr (.inr ⟨k',c',m1⟩)⟩
theorem zZt{f:FuncId}{k n:Nat}{e:Bk}{wh:Bool}{ds':List D}{us3:List Value}{g:FuncId}{caps caps':List D}{ks:List Nat}(he:st[k]?=Aa e)(ha:e.arr=Ab)(hkd:e.kd= .plain)(hf:e.fz=Ae)(hlen:e.cells.length=n)(hl':ds'.length=n)(hpos:0<n)
  (hfr:frz Ab st zAc (.clo (.func g) [] caps)=Aa (.clo (.func g) [] caps',ks))(hnk:k∉ks)
  (h:∀(I:Im) b c w us cb,ImB I w->Gl I w->(∀j,¬I b j)->RelT I w noB caps' cb->RelL I w noB e.cells us->(∃cur t,w.heap[b]?=Aa (.cells cur t (0,0)))->(∀j,j<n->w.cell? ⟨b,0+j,Af⟩=Aa (us.getD j undef))->(∀j,j<n->w.frozen? ⟨b,0+j,Af⟩=Ae)->n<=c->Calls P f (#[.slice (Aa ⟨b,0,Af⟩) n c]++us3.toArray++#[.func (.func g) #[] cb.toArray]) w λx w'=>x= .returned (.tuple #[])/\∃vs q os,w'=grow ((w.drewN q).setCells b 0 vs) os/\RelL I w noB ds' vs):
  Acts P f (.osl k 0 n n wh::(us3.map .val++[.clo (.func g) [] caps])) st [] (.val (.tuple #[])) ((zAz st ks).set k {e with cells:=ds'}):=by
 intro β I w xs hr hsr hinj hfz hdom hi hg;simp only[RelT]at hr;obtain⟨v,ys,rfl,hr,hys⟩:=hr;have hsp:∀(us3:List Value)(ys:List Value),RelT I w β (us3.map .val++[.clo (.func g) [] caps]) ys->∃v3,ys=us3++[v3]/\Rel I w β (.clo (.func g) [] caps) v3:=by
  intro us3;induction us3 with
  |nil=>
   intro ys h;simp only[Bw,BY,RelT]at h;grind
  |cons u us3 ih=>
   intro ys h;simp only[Bm,BX,RelT]at h;obtain⟨v,us,rfl,h1,h2⟩:=h;simp only[Rel]at h1;grind
 obtain⟨v3,rfl,hv3⟩:=hsp us3 ys hys;simp only[Rel]at hr;rcases hr with⟨e0,_,rfl⟩|⟨e0,_,_,a,c,rfl,_⟩|⟨b,c,cap,hb,rfl,k1,k2,k3⟩
 ·omega
 ·omega
 have hs00:Sim β I w ([]:List D) st ({tmps:=#[],defers:=[]}:Act).tmps.toList:=⟨by simp only[RelT],hsr,hinj,hfz,hdom,hi,hg⟩;have hs0:=hs00.fzAll ks;have hstp0:=Stp.fzAll hs00 ks;have hv3':=zCi hs00.sr.weak _ _ _ _ v3 hfr hv3;simp only[Rel]at hv3';obtain⟨vs0,cb,rfl,hn0,hcb⟩:=hv3';simp only[RelT]at hn0;subst hn0;have he2:(zAz st ks)[k]?=Aa e:=by rw[zBw,he];simp[hnk]
 have hni:e.kd.isMap=false:=by rw[hkd];rfl
 have hnob:e.nob=true:=by unfold Bk.nob;rw[hkd,ha];rfl
 obtain⟨e',he',ho⟩:=hs0.sr k b c hb;rw[he2]at he';cases he';obtain⟨cur,c1,c2,c3,c4⟩:=ho.c hni;rw[hnob]at c3;simp only[if_true]at c3;have hno:∀j,¬fixI I β st ks b j:=λj hij=>by
  have:=(hs0.fz k b c j e hb he2 hij).1
  rw[hf]at this;cases this
 have hlc:(cur.take e.cells.length).length=n:=by rw[<-c3.length];exact hlen
 have hcell:∀j,j<n->w.cell? ⟨b,0+j,Af⟩=Aa ((cur.take e.cells.length).getD j undef)/\w.frozen? ⟨b,0+j,Af⟩=false:=λj hj=>by
  have hlt:j<cur.length:=by rw[AU]at hlc;omega
  refine⟨?_,frozen_of_row w b (0+j) cur.toArray e.ty c1⟩;rw[AI,A3,if_pos (by omega),AA hlt];simp[World.cell?,c1,hlt]
 have e1:(#[Value.slice (Aa ⟨b,0,Af⟩) n cap]++us3.toArray++#[Value.func (.func g) #[] cb.toArray])=(Value.slice (Aa ⟨b,0,Af⟩) n cap::(us3++[Value.func (.func g) #[] cb.toArray])).toArray:=by apply Array.ext';simp
 rw[show(List.toArray ([]:List Value))=#[]from rfl,<-e1];refine(h (fixI I β st ks) b cap w (cur.take e.cells.length) cb hs0.imb hs0.gl hno hcb c3 ⟨_,_,c1⟩ (λj hj=>(hcell j hj).1) (λj hj=>(hcell j hj).2) k1).mono ?_;rintro x w' ⟨rfl,vs,q,os,rfl,hvs⟩;have hvs':RelL (fixI (fixI I β st ks) β (zAz st ks) []) (w.drewN q) (if e.nob then noB else β) ds' vs:=by
  rw[hnob];simp only[if_true];exact RelL.mono ((Fix.drew (fixI I β st ks) w q).trans (zAv [])) _ _ (AE _) _ _ hvs
 obtain⟨s1,s2,s3⟩:=(hs0.drew q).put (off:=0) (cs:=ds') (vs:=vs) (ks:=[]) hb he2 hf hni (by simp) hvs' (by omega) Af undef;have hset2:setAt e.cells 0 ds'=ds':=zLq e.cells ds' [] (by omega);rw[hset2]at s1;have s4:=s1.grow os;exact⟨_,β,_,rfl,s4.imb,hstp0.trans ((Stp.drew β _ w q).trans (s2.trans (Stp.grow s1.imb β os))),λ_ _ _ h=>h,s4.sr,s4.inj,s4.fz,s4.dom,by simp only[Rel]⟩
end
end
section
open Go.RowKit Go.Sort Go.Lib Go.Shelf
theorem ext_grow{w w':World}(h:Ext w w'):∃q os,w'=grow (w.drewN q) os:=by
 obtain⟨p,hp⟩:=regrown_of_below h.1;have hd:=h.2;refine⟨p.d-w.drawn,p.os,?_⟩;rw[hp]at hd⊢;have:w.drawn<=p.d:=hd;congr 1;unfold redrawn World.drewN;congr 1;omega
structure On(zs:List Nat)(cf:Nat->Nat->Int):Prop where
 eq:∀x∈zs,∀y∈zs,(cf x y=0↔x=y)
 neg:∀x∈zs,∀y∈zs,cf y x=-cf x y
 tr:∀x∈zs,∀y∈zs,∀z∈zs,cf x y<0->cf y z<0->cf x z<0
section
variable {zs : List Nat} {cf : Nat → Nat → Int}
end
end
theorem cb_tr:∀(a b d:List UInt8),Aw a b=-1->Aw b d=-1->Aw a d=-1
 |[],[],_,h,_=>by simp[Aw]at h
 |[],_::_,[],_,k=>by simp[Aw]at k
 |[],_::_,_::_,_,_=>rfl
 |_::_,[],_,h,_=>by simp[Aw]at h
 |_::_,_::_,[],_,k=>by simp[Aw]at k
 |x::a,y::b,z::d,h,k=>by
  have ih:=cb_tr a b d;simp only[Aw]at h k⊢;grind
theorem zYb{a b:Int}:cmpD a b<0↔a<b:=by grind [zMy]
theorem zLe(a b d:Va)(h:vcmp a b<0)(k:vcmp b d<0):vcmp a d<0:=by
 obtain⟨ak,ai,as'⟩:=a;obtain⟨bk,bi,bs'⟩:=b;obtain⟨dk,di,ds⟩:=d;have t:=cb_tr as' bs' ds;have v1:=(zM2 as' bs').1;have v2:=(zM2 bs' ds).1;have v3:=(zM2 as' ds).1;simp only[vcmp]at h k⊢;split at h<;>split at k<;>split<;>try simp only[zYb]at*
 all_goals (try split at h)<;>(try split at k)<;>(try split)<;>(try simp only[zYb]at*)<;>first|omega|(have:=t (by omega) (by omega);omega)|skip
theorem zP0:∀(a b d:List Va),rcmp a b<0->rcmp b d<0->rcmp a d<0
 |[],[],_,h,_=>by simp[rcmp]at h
 |[],_::_,[],_,k=>by simp[rcmp]at k
 |[],_::_,_::_,_,_=>by simp[rcmp]
 |_::_,[],_,h,_=>by simp[rcmp]at h
 |_::_,_::_,[],_,k=>by simp[rcmp]at k
 |x::a,y::b,z::d,h,k=>by
  have ih:=zP0 a b d;simp only[rcmp]at h k⊢;grind [vcmp,zA8,zLe]
theorem rcw:Cw rcmp:=⟨λa b=>(zBk a b).2.1,λa b=>(zBk a b).2.2,zP0⟩
section
open Go.Shelf
def Tryz.laysRow138_ren:Go.Shelf.Ren:=⟨λ|14=>138|20=>148|21=>149|22=>150|23=>151|24=>152|25=>153|26=>154|27=>155|46=>171|47=>172|48=>173|49=>174|50=>175|15=>139|57=>185|28=>56|29=>156|n=>n,λ|24=>54|22=>65|3=>3|25=>195|4=>4|0=>0|46=>230|45=>229|50=>127|66=>254|39=>37|55=>39|70=>258|76=>265|77=>266|53=>36|5=>5|9=>9|n=>n,λ|n=>n⟩
theorem Tryz.laysRow138:Go.Proofs.SlLaysF.n14 Ai Tryz.laysRow138_ren:={
 mixed:=by kernel_rfl
 f14:=⟨Tryz.f138.name,by decide,Tryz.func138.trans (congrArg Aa (by kernel_rfl))⟩
 f15:=Tryz.func139.trans (congrArg Aa (by kernel_rfl))
 f20:=⟨Tryz.f148.name,by decide,Tryz.func148.trans (congrArg Aa (by kernel_rfl))⟩
 f21:=⟨Tryz.f149.name,by decide,Tryz.func149.trans (congrArg Aa (by kernel_rfl))⟩
 f22:=⟨Tryz.f150.name,by decide,Tryz.func150.trans (congrArg Aa (by kernel_rfl))⟩
 f23:=⟨Tryz.f151.name,by decide,Tryz.func151.trans (congrArg Aa (by kernel_rfl))⟩
 f24:=⟨Tryz.f152.name,by decide,Tryz.func152.trans (congrArg Aa (by kernel_rfl))⟩
 f25:=⟨Tryz.f153.name,by decide,Tryz.func153.trans (congrArg Aa (by kernel_rfl))⟩
 f26:=⟨Tryz.f154.name,by decide,Tryz.func154.trans (congrArg Aa (by kernel_rfl))⟩
 f27:=⟨Tryz.f155.name,by decide,Tryz.func155.trans (congrArg Aa (by kernel_rfl))⟩
 f28:=Tryz.func56.trans (congrArg Aa (by kernel_rfl))
 f29:=Tryz.func156.trans (congrArg Aa (by kernel_rfl))
 f46:=⟨Tryz.f171.name,by decide,Tryz.func171.trans (congrArg Aa (by kernel_rfl))⟩
 f47:=Tryz.func172.trans (congrArg Aa (by kernel_rfl))
 f48:=Tryz.func173.trans (congrArg Aa (by kernel_rfl))
 f49:=⟨Tryz.f174.name,by decide,Tryz.func174.trans (congrArg Aa (by kernel_rfl))⟩
 f50:=⟨Tryz.f175.name,by decide,Tryz.func175.trans (congrArg Aa (by kernel_rfl))⟩
 f57:=⟨Tryz.f185.name,by decide,Tryz.func185.trans (congrArg Aa (by kernel_rfl))⟩
 t0:=Tryz.underlying0
 a0:=Tryz.isAgg0
 z0:=Tryz.sizeOf0
 v0:=Tryz.zeroValue0
 t3:=Tryz.underlying3
 a3:=Tryz.isAgg3
 z3:=Tryz.sizeOf3
 v3:=Tryz.zeroValue3
 t4:=Tryz.underlying4
 a4:=Tryz.isAgg4
 z4:=Tryz.sizeOf4
 v4:=Tryz.zeroValue4
 t5:=Tryz.underlying5
 a5:=Tryz.isAgg5
 z5:=Tryz.sizeOf5
 v5:=Tryz.zeroValue5
 t9:=Tryz.underlying9
 a9:=Tryz.isAgg9
 z9:=Tryz.sizeOf9
 v9:=Tryz.zeroValue9
 t22:=Tryz.underlying65
 a22:=Tryz.isAgg65
 z22:=Tryz.sizeOf65
 v22:=Tryz.zeroValue65
 a24:=Tryz.isAgg54
 z24:=Tryz.sizeOf54
 t25:=Tryz.underlying195
 a25:=Tryz.isAgg195
 z25:=Tryz.sizeOf195
 v25:=Tryz.zeroValue195
 t39:=Tryz.underlying37
 a39:=Tryz.isAgg37
 z39:=Tryz.sizeOf37
 v39:=Tryz.zeroValue37
 t45:=Tryz.underlying229
 a45:=Tryz.isAgg229
 z45:=Tryz.sizeOf229
 v45:=Tryz.zeroValue229
 t46:=Tryz.underlying230
 a46:=Tryz.isAgg230
 z46:=Tryz.sizeOf230
 v46:=Tryz.zeroValue230
 t50:=Tryz.underlying127
 a50:=Tryz.isAgg127
 z50:=Tryz.sizeOf127
 v50:=Tryz.zeroValue127
 t53:=Tryz.underlying36
 a53:=Tryz.isAgg36
 z53:=Tryz.sizeOf36
 v53:=Tryz.zeroValue36
 t55:=Tryz.underlying39
 a55:=Tryz.isAgg39
 z55:=Tryz.sizeOf39
 v55:=Tryz.zeroValue39
 t66:=Tryz.underlying254
 a66:=Tryz.isAgg254
 z66:=Tryz.sizeOf254
 v66:=Tryz.zeroValue254
 t70:=Tryz.underlying258
 a70:=Tryz.isAgg258
 z70:=Tryz.sizeOf258
 v70:=Tryz.zeroValue258
 t76:=Tryz.underlying265
 a76:=Tryz.isAgg265
 z76:=Tryz.sizeOf265
 v76:=Tryz.zeroValue265
 t77:=Tryz.underlying266
 a77:=Tryz.isAgg266
 z77:=Tryz.sizeOf266
 v77:=Tryz.zeroValue266}
end
section
open Go.RowKit Go.Sort Go.Lib Go.Shelf
def zNc(rows:List Rw):List Rw:=rows.mergeSort λa b=>decide (rcmp a b<=0)
theorem zCq(rows:List Rw):(zNc rows).Perm rows:=List.mergeSort_perm _ _
theorem zRv{a b d:Rw}(h1:rcmp a b<=0)(h2:rcmp b d<=0):rcmp a d<=0:=by
 by_cases e1:rcmp a b=0
 ·rw[(rcw.eq a b).1 e1];exact h2
 by_cases e2:rcmp b d=0
 ·rw[<-(rcw.eq b d).1 e2];exact h1
 have:=rcw.tr a b d (by omega) (by omega);omega
theorem zKd(rows:List Rw):(zNc rows).Pairwise λa b=>rcmp a b<=0:=by
 have:=List.pairwise_mergeSort (le:=λa b:Rw=>decide (rcmp a b<=0)) (λa b d h1 h2=>by
   simp only[decide_eq_true_eq]at*;exact zRv h1 h2) (λa b=>by
   have:=rcw.neg a b
   simp only[Bl,decide_eq_true_eq];omega) rows
 exact this.imp λh=>by simpa using h
theorem zYy{rows m:List Rw}(hp:m.Perm rows)(hs:m.Pairwise λa b=>¬rcmp b a<0):m=zNc rows:=by
 refine List.Perm.eq_of_pairwise (le:=λa b=>rcmp a b<=0) (λa b ha hb h1 h2=>?_) (hs.imp λ{a b} h=>?_) (zKd rows) (hp.trans (zCq rows).symm)
 ·have:=rcw.neg a b
  exact(rcw.eq a b).1 (by omega)
 have:=rcw.neg a b
 omega
theorem zWx{I:Im}{w:World}:∀{ds:List D}{us:List Value},RelL I w noB ds us->us.length=ds.length
 |[],us,h=>by simp only[RelL]at h;rw[h];rfl
 |d::ds,us,h=>by
  simp only[RelL]at h;obtain⟨v,us',rfl,_,_,h4⟩:=h;simp[zWx h4]
theorem zWy{I:Im}{w:World}:∀{ds:List D}{us:List Value}{i:Nat}{d:D},RelL I w noB ds us->ds[i]?=Aa d->∃v,us[i]?=Aa v/\v.oneCell'=Ab/\Rel I w noB d v
 |d0::ds,us,0,d,h,e=>by
  simp only[RelL]at h;grind
 |d0::ds,us,i+1,d,h,e=>by
  simp only[RelL]at h;obtain⟨v,us',rfl,h2,h3,h4⟩:=h;exact zWy (ds:=ds) (us:=us') (i:=i) h4 (by simpa using e)
theorem ltR_swo(rows:List Rw):SWO (ltOf λx y:{z//z<rows.length}=>rcmp (rows.getD x.1 []) (rows.getD y.1 [])):=by
 refine⟨λx=>?_,λx y z h1 h2=>?_,λx y z h1 h2=>?_⟩
 ·have:=(rcw.eq (rows.getD x.1 []) (rows.getD x.1 [])).2 rfl
  simp only[ltOf,this];decide
 ·simp only[ltOf,decide_eq_true_eq]at*;exact rcw.tr _ _ _ h1 h2
 simp only[ltOf,decide_eq_false_iff_not]at*;have g1:=rcw.neg (rows.getD x.1 []) (rows.getD y.1 []);have g2:=rcw.neg (rows.getD y.1 []) (rows.getD z.1 []);have g3:=rcw.neg (rows.getD x.1 []) (rows.getD z.1 [])
 have:=zRv (a:=rows.getD z.1 []) (b:=rows.getD y.1 []) (d:=rows.getD x.1 []) (by omega) (by omega)
 omega
theorem pdq_rows{st:List Bk}{k n lim:Nat}{e:Bk}{wh:Bool}{rows:List Rw}{g:FuncId}{caps caps':List D}{ks:List Nat}(he:st[k]?=Aa e)(ha:e.arr=Ab)(hkd:e.kd= .plain)(hf:e.fz=Ae)(hc:e.cells=rows.map rowV)(hn:rows.length=n)(hb:n<=2000000)(hpos:0<n)(hlim:lim<4611686018427387904)
  (hfr:frz Ab st zAc (.clo (.func g) [] caps)=Aa (.clo (.func g) [] caps',ks))(hnk:k∉ks)(eg:∀args w,(callFunc g args).run Ai w= .ok (.enter g args) w)
  (hcmp:∀x∈rows,∀y∈rows,Pure Ai g (rowV x::rowV y::caps') [] (iD (rcmp x y))):
  Acts Ai 138 [.osl k 0 n n wh, .val (.int .i64 (0:Nat)), .val (.int .i64 n), .val (.int .i64 lim), .clo (.func g) [] caps] st [] (.val (.tuple #[])) ((zAz st ks).set k {e with cells:=(zNc rows).map rowV}):=by
 have hsl:(zNc rows).length=n:=by rw[(zCq rows).length_eq,hn]
 refine zZt (us3:=[.int .i64 0, .int .i64 n, .int .i64 lim]) he ha hkd hf (by rw[hc,Bz,hn]) (by rw[Bz,hsl]) hpos hfr hnk ?_;intro I b c w us cb hi hgl hno hcb hr hcur hcell hfz hcap;rw[hc]at hr;have hul:us.length=n:=by rw[zWx hr,Bz,hn]
 let α:={z//z<rows.length};let xs:List α:=(AO rows.length).attach.map λz=>⟨z.1,List.mem_range.1 z.2⟩;let enc:α->Value:=λx=>us.getD x.1 undef;have hat:xs.map (·.1)=AO rows.length:=by
  show((AO rows.length).attach.map _).map _=_;simp_all
 have hxl:xs.length=n:=by
  grind
 have hxat:∀j (hj:j<xs.length),(xs[j]'hj).1=j:=λj hj=>by
  grind
 have hus:us=xs.map enc:=by
  grind [List.ext_getElem,Bz,AA]
 have hrel:∀x:α,Rel I w noB (rowV (rows.getD x.1 [])) (enc x)/\(enc x).oneCell'=true:=λx=>by
  have h1:(rows.map rowV)[x.1]?=Aa (rowV (rows.getD x.1 [])):=by
   grind
  obtain⟨v,h2,h3,h4⟩:=zWy hr h1;grind
 obtain⟨x0,hx0⟩:∃x0,xs[0]?=Aa x0:=⟨xs[0]'(by omega),AA (by omega)⟩
 haveI:Inhabited α:=⟨x0⟩;have hH:Holds enc w b 0 xs.toArray:=λj hj=>by
  grind
 obtain⟨cur,t,hcur⟩:=hcur;have hblk:b<w.heap.size:=by
  grind
 have hone:OneCell enc:=λx=>by
  grind
 have hworld:∀(m:Nat)(os:Array Obj)(ys:List α),ys.length=n->sortWorld enc w b 0 m ys.toArray os=grow ((w.drewN m).setCells b 0 (ys.map enc)) os:=λm os ys hy=>by
  unfold sortWorld;rw[putRow_eq_setCells enc w b 0 xs.toArray ys m hH (by simp[hy,hxl])]
 have hfix:∀(m:Nat)(os:Array Obj)(dk:Array α),dk.size=n->Fix I w I (sortWorld enc w b 0 m dk os)/\w.heap.size<=(sortWorld enc w b 0 m dk os).heap.size:=λm os dk hd=>by
  have e1:=hworld m os dk.toList (by simpa using hd);simp only[Bo]at e1;rw[e1];obtain⟨s1,s2,s3,s4,s5,s6⟩:=zE5 b t (dk.toList.map enc) 0 (w.drewN m) cur.toList (by simpa using hcur);refine⟨λb' o' hb'=>?_,?_⟩
  ·have hne:b'≠b:=λe=>hno o' (e▸hb');have hlt:=hi b' o' hb';refine⟨hb',λv hv=>?_,λks vs hm=>?_⟩
   ·simp only[World.cell?]at hv⊢;rw[zEu _ os (by rw[s3];exact hlt),s2 b' hne];exact hv
   refine hm.of_heap ?_;rw[zEu _ os (by rw[s3];exact hlt),s2 b' hne];rfl
  simp_all
 have hmr:∀x:α,rows.getD x.1 []∈rows:=λx=>by
  grind
 have hcmp:CmpLays1 Ai g cb.toArray enc (λx y:α=>rcmp (rows.getD x.1 []) (rows.getD y.1 [])) b 0 xs.toArray.size w:=by
  intro m os dk hd x y;have hd':dk.size=n:=by simpa[hxl]using hd
  obtain⟨hfx,hsz⟩:=hfix m os dk hd';have hr2:RelT I (sortWorld enc w b 0 m dk os) noB (rowV (rows.getD x.1 [])::rowV (rows.getD y.1 [])::caps') (enc x::enc y::cb):=by
   simp only[RelT];exact⟨_,_,rfl,Rel.mono hfx noB noB (AE _) _ _ (hrel x).1,_,_,rfl,Rel.mono hfx noB noB (AE _) _ _ (hrel y).1,AZ hfx noB noB (AE _) _ _ hcb⟩
  have e1:(#[enc x,enc y]++cb.toArray)=(enc x::enc y::cb).toArray:=by apply Array.ext';simp
  rw[e1];refine(hcmp _ (hmr x) _ (hmr y) I _ _ hr2 (λb o h=>B8 (hi b o h) hsz) (hgl.mono hfx)).mono ?_;rintro e' w' ⟨v,I',γ,rfl,hx,_,_,_,_,_,_,_,_,hv,_⟩;simp only[Rel]at hv;simp_all [ext_grow]
 have hsz:xs.toArray.size=n:=by simp[hxl]
 have main:=Any.pdqsortCmpFunc_all Tryz.laysRow138 enc (λx y:α=>rcmp (rows.getD x.1 []) (rows.getD y.1 [])) g cb.toArray (ltR_swo rows) b 0 c xs.toArray w eg hcmp ⟨hone,hH,hblk⟩ (n+1) 0 n lim xs.toArray w (by omega) rfl (SW.start hH) (AP _) (by omega) (by omega) hlim (.inl rfl);rw[hsz]at main;refine main.mono ?_;rintro x w' ⟨rfl,q,os,rfl⟩;obtain⟨hp,hso⟩:=pdq_sorts (ltOf λx y:α=>rcmp (rows.getD x.1 []) (rows.getD y.1 [])) (ltR_swo rows) xs.toArray 0 n lim Ab Ab (AP _) (by omega) (.inl rfl);generalize pdq (ltOf λx y:α=>rcmp (rows.getD x.1 []) (rows.getD y.1 [])) xs.toArray 0 n lim Ab Ab=d' at*;have hd':d'.size=n:=by rw[hp.1,hsz]
 have hperm:d'.toList.Perm xs:=by
  have:=hp.2.2
  grind [Array.extract_size]
 have hrows:xs.map (λx=>rows.getD x.1 [])=rows:=by
  apply List.ext_getElem (by rw[Bz,hxl,hn]);grind
 have hl2:d'.toList.map (λx=>rows.getD x.1 [])=zNc rows:=by
  refine zYy ?_ ?_
  ·grind
  rw[List.pairwise_map,List.pairwise_iff_getElem];intro i j hi' hj' hij;have hi2:i<d'.size:=by simpa using hi'
  have hj2:j<d'.size:=by simpa using hj'
  have:=hso i j (AP _) hij (by omega)
  rw[getElem!_pos d' j hj2,getElem!_pos d' i hi2]at this;simpa[ltOf]using this
 refine⟨rfl,d'.toList.map enc,q,os,?_,?_⟩
 ·simp_all
 rw[<-hl2];have:∀(l:List α),RelL I w noB ((l.map λx=>rows.getD x.1 []).map rowV) (l.map enc):=by
  intro l;induction l with
  |nil=>simp only[Bw,RelL]
  |cons x l ih=>
   simp only[Bm,RelL];grind
 exact this _
end
section
open Go.RowKit
def Tz:Par:=⟨λ_=>Ae,λ_ _=>Af,λ_=>Ae,λ_=>Ae,λ_=>Ae⟩
theorem zBm:zA7 Ai Tz:=by intro t n f h;cases h
theorem mixed:Ai.follows .mixedOrders=true:=by kernel_rfl
theorem zKz{I:Im}{w:World}{β:Be}:∀(us vs:List Value),RelT I w β (us.map .val) vs->vs=us
 |[],vs,h=>by simpa only[Bw,RelT]using h
 |u::us,vs,h=>by
  simp only[Bm,RelT,Rel]at h;obtain⟨v,vs',rfl,rfl,h⟩:=h;rw[zKz us vs' h]
theorem zG7{P:Program}{f:FuncId}{us:List Value}{v:Value}(h:∀w,Calls P f us.toArray w λe w'=>e= .returned v/\w=w'):Pure P f (us.map .val) [] (.val v):=by
 intro I w vs hr hi hg;rw[zKz us vs hr];refine(h w).mono ?_;rintro e w' ⟨rfl,rfl⟩;exact⟨v,I,noB,rfl,Bp _,hi,Fix.refl _ _,λ_ _ h=> .inl h,λ_ _ _ h=>(by cases h),λ_ _ _ h=>(by cases h),λ_ _ _ _ _ h=>(by cases h),λ_ _ _ _ _ h=>(by cases h),λ_ _ h=>(by cases h),by simp only[Rel],by simp⟩
theorem zF2{P:Program}{f:FuncId}{args:List D}{e:TypeId}{sz:Nat}(h:∀I w vs,RelT I w noB args vs->Calls P f vs.toArray w λx w'=>(x= .returned (.slice Af 0 0)/\Ext w w')\/∃(g:Nat)(cur:List Value)(cap:Nat),x= .returned (.slice (Aa ⟨g,0,Af⟩) 0 cap)/\w.heap.size<=g/\Ext w w'/\w'.heap[g]?=Aa (.cells cur.toArray e (0,0))/\cur.length=cap*sz/\cap<=maxLen):
  Pure P f args [⟨[],e,sz,Ab,Ae, .plain⟩] (.osl 0 0 0 0 Ab):=by
 intro I w vs hr hi hg;refine(h I w vs hr).mono ?_;rintro x w' (⟨rfl,he⟩|⟨g,cur,cap,rfl,hgs,he,h1,h2,h3⟩)
 ·exact⟨_,I,noB,rfl,he,λb o hb=>B8 (hi b o hb) he.size,Fix.ext he λ_ _ h=>h,λ_ _ h=> .inl h,λ_ _ _ h=>(by cases h),λ_ _ _ h=>(by cases h),λ_ _ _ _ _ h=>(by cases h),λ_ _ _ _ _ h=>(by cases h),λ_ _ h=>(by cases h),by rw[Rel];exact .inl ⟨rfl,rfl,rfl⟩,by simp⟩
 have hg:∀k y,(if k=0 then Aa (g,cap)else Af:Option (Nat×Nat))=Aa y->k=0/\y=(g,cap):=by
  grind
 refine⟨_,I,λk=>if k=0 then Aa (g,cap)else Af,rfl,he,λb o hb=>B8 (hi b o hb) he.size,Fix.ext he λ_ _ h=>h,λ_ _ h=> .inl h,?_,?_,?_,?_,?_,?_,by simp⟩
 ·grind
 ·intro k b c hk;obtain⟨rfl,e⟩:=hg k _ hk;cases e;exact⟨_,rfl,OwnC.r ⟨cur,h1,AP _,by simp only[Bq,List.take_zero,RelL],λ_=>h2,h3⟩ rfl⟩
 ·intro k k' b c c' hk hk';grind
 ·intro k b c j e hk hE hI;obtain⟨rfl,e'⟩:=hg k _ hk;cases e';exact absurd (hi _ _ hI) (by omega)
 ·grind
 rw[Rel];grind
theorem zBq{P:Program}{w:World}{ops:Array Oper}{rest:List Oper}{o:Oper}{a:Act}{Q:Exit->Act->World->Prop}(hgd:o.guard=Af)(s x:Operand)(t:TypeId)
  (ho:o.op= .call {callee:= .builtin .append,args:=#[s,x],argTypes:=#[t,t]})
  (base:Nat)(e:TypeId)(i:TypeInfo)(z:Value)(size bytes:Nat)(ht:P.underlying t=Aa (.slice e))(hi:P.info? e=Aa i)(hz:i.zero=Aa z)
  (hsize:i.size=size)(hby:i.bytes=bytes)(hzs:z.cells.size=size)(hsz:0<size)
  (v:Value)(n:Nat)(xs:List Value)(hs:a.eval s=v)(hown:w.ownsRow base e size v n xs)
  (ad:Addr)(m c:Nat)(news:List Value)(hx:a.eval x= .slice (Aa ad) m c)(hl:news.length=m*size)(hnews:∀j u,news[j]?=Aa u->w.cell? (ad.add j)=Aa u)(h1:∀u∈news,u.oneCell'=Ab)
  (h63:n+m<=maxLen)(hbytes:(n+m)*bytes<=140737488355328)(hbase:base<=w.heap.size)
  (h:∀v' w',w'.ownsRow base e size v' (n+m) (xs++news)->w.grownBy w' v.ownBlock->w.drawn<=w'.drawn->wpList P ops Q rest (a.put o.dst v') w'):wpList P ops Q (o::rest) a w:=by
 obtain⟨v',w',r1,r2,r3,_⟩:=run_append_own w base t o.type e i z size bytes ht hi hz hsize hby hzs hsz v n xs hown ad m c news hl hnews h1 h63 hbytes hbase;exact Lib.wpList_append_run w hgd s x t t ho _ _ hs hx v' w' r1 (h v' w' r2 r3 (zCw _ _ r1))
theorem info_nat:(Ai.info? 36).map (λi=>(i.zero,i.size,i.bytes))=Aa (Aa (.int .u32 0),1,4):=by kernel_rfl
set_option maxHeartbeats 400000 in
theorem zZq:Pure Ai 101 [.row [] 0] [⟨[],36,1,Ab,Ae, .plain⟩] (.osl 0 0 0 0 Ab):=by
 refine zF2 λI w vs hr=>?_;simp only[RelT,Rel]at hr;obtain⟨v,ys,rfl,⟨a,c,rfl,_,_,hc,_⟩,rfl⟩:=hr;cases a with
 |none=>
  obtain rfl:=hc rfl;have he:=λ(w:World)=>AR (P:=Ai) w 44 36 Af 0 0 0 0 Tryz.underlying44;go_enter Tryz.func101,Tryz.ntmps101;go_wp2;go_ret;exact .inl ⟨rfl,Bp _⟩
 |some x=>
  obtain⟨i0,hi,hz0,hz1,hz2⟩:=info_parts info_nat;have he:=λ(w:World)=>AR (P:=Ai) w 44 36 (Aa x) 0 c 0 0 Tryz.underlying44;have hS:RowAt (λ_=>True) w (Aa x) []:= .inl rfl;go_enter Tryz.func101,Tryz.ntmps101;go_wp2_with (at_builtin;refine zBq rfl _ _ 44 rfl w.heap.size 36 i0 (.int .u32 0) 1 4 Tryz.underlying44 hi hz0 hz1 hz2 rfl (by decide) (.slice (Aa ⟨w.heap.size,0,Af⟩) 0 0) 0 [] rfl (BA _ #[] 0 (Ak _) (AP _) rfl) x 0 c [] rfl (by simp) (by simp) (by simp) (by simp[maxLen]) (by decide) (by simp) ?_;intro v' w' hown hgrow hdr);go_ret;have hext:Ext w w':=⟨((Below.refl _ _).alloc (Ak _) _).grown hgrow (by simp) (by simp[BB]),hdr⟩;obtain⟨_,⟨rfl,_⟩|⟨g,cap,cur,rfl,hb,hg,_,hc1,hs,_⟩⟩:=hown
  ·simp_all
  exact .inr ⟨g,cur.toList,cap,rfl,hb,hext,by rw[Bo];exact hg,by simpa using hs,hc1⟩
theorem zZf:(Ai.info? 4).map (λi=>(i.zero,i.size,i.bytes))=Aa (Aa (.bool Ae),1,1):=by kernel_rfl
set_option maxHeartbeats 400000 in
theorem zS3:Pure Ai 75 [.row [] 0] [⟨[],4,1,Ab,Ae, .plain⟩] (.osl 0 0 0 0 Ab):=by
 refine zF2 λI w vs hr=>?_;simp only[RelT,Rel]at hr;obtain⟨v,ys,rfl,⟨a,c,rfl,_,_,hc,_⟩,rfl⟩:=hr;cases a with
 |none=>
  obtain rfl:=hc rfl;have he:=λ(w:World)=>AR (P:=Ai) w 22 4 Af 0 0 0 0 Tryz.underlying22;go_enter Tryz.func75,Tryz.ntmps75;go_wp2;go_ret;exact .inl ⟨rfl,Bp _⟩
 |some x=>
  obtain⟨i0,hi,hz0,hz1,hz2⟩:=info_parts zZf;have he:=λ(w:World)=>AR (P:=Ai) w 22 4 (Aa x) 0 c 0 0 Tryz.underlying22;have hS:RowAt (λ_=>True) w (Aa x) []:= .inl rfl;go_enter Tryz.func75,Tryz.ntmps75;go_wp2_with (at_builtin;refine zBq rfl _ _ 22 rfl w.heap.size 4 i0 (.bool Ae) 1 1 Tryz.underlying22 hi hz0 hz1 hz2 rfl (by decide) (.slice (Aa ⟨w.heap.size,0,Af⟩) 0 0) 0 [] rfl (BA _ #[] 0 (Ak _) (AP _) rfl) x 0 c [] rfl (by simp) (by simp) (by simp) (by simp[maxLen]) (by decide) (by simp) ?_;intro v' w' hown hgrow hdr);go_ret;have hext:Ext w w':=⟨((Below.refl _ _).alloc (Ak _) _).grown hgrow (by simp) (by simp[BB]),hdr⟩;obtain⟨_,⟨rfl,_⟩|⟨g,cap,cur,rfl,hb,hg,_,hc1,hs,_⟩⟩:=hown
  ·simp_all
  exact .inr ⟨g,cur.toList,cap,rfl,hb,hext,by rw[Bo];exact hg,by simpa using hs,hc1⟩
theorem info_rows:(Ai.info? 54).map (λi=>(i.zero,i.size,i.bytes))=Aa (Aa (.slice Af 0 0),1,24):=by kernel_rfl
set_option maxHeartbeats 400000 in
theorem zVq:Pure Ai 92 [.row [] 0] [⟨[],54,1,Ab,Ae, .plain⟩] (.osl 0 0 0 0 Ab):=by
 refine zF2 λI w vs hr=>?_;simp only[RelT,Rel]at hr;obtain⟨v,ys,rfl,⟨a,c,rfl,_,_,hc,_⟩,rfl⟩:=hr;cases a with
 |none=>
  obtain rfl:=hc rfl;have he:=λ(w:World)=>AR (P:=Ai) w 65 54 Af 0 0 0 0 Tryz.underlying65;go_enter Tryz.func92,Tryz.ntmps92;go_wp2;go_ret;exact .inl ⟨rfl,Bp _⟩
 |some x=>
  obtain⟨i0,hi,hz0,hz1,hz2⟩:=info_parts info_rows;have he:=λ(w:World)=>AR (P:=Ai) w 65 54 (Aa x) 0 c 0 0 Tryz.underlying65;have hS:RowAt (λ_=>True) w (Aa x) []:= .inl rfl;go_enter Tryz.func92,Tryz.ntmps92;go_wp2_with (at_builtin;refine zBq rfl _ _ 65 rfl w.heap.size 54 i0 (.slice Af 0 0) 1 24 Tryz.underlying65 hi hz0 hz1 hz2 rfl (by decide) (.slice (Aa ⟨w.heap.size,0,Af⟩) 0 0) 0 [] rfl (BA _ #[] 0 (Ak _) (AP _) rfl) x 0 c [] rfl (by simp) (by simp) (by simp) (by simp[maxLen]) (by decide) (by simp) ?_;intro v' w' hown hgrow hdr);go_ret;have hext:Ext w w':=⟨((Below.refl _ _).alloc (Ak _) _).grown hgrow (by simp) (by simp[BB]),hdr⟩;obtain⟨_,⟨rfl,_⟩|⟨g,cap,cur,rfl,hb,hg,_,hc1,hs,_⟩⟩:=hown
  ·simp_all
  exact .inr ⟨g,cur.toList,cap,rfl,hb,hext,by rw[Bo];exact hg,by simpa using hs,hc1⟩
theorem info_row:(Ai.info? 64).map (λi=>(i.zero,i.size,i.bytes))=Aa (Aa (.agg #[.int .i64 0, .int .i64 0, .string ByteArray.empty]),3,32):=by kernel_rfl
set_option maxHeartbeats 400000 in
theorem zZp:Pure Ai 100 [.row [] 0] [⟨[],64,3,Ab,Ae, .plain⟩] (.osl 0 0 0 0 Ab):=by
 refine zF2 λI w vs hr=>?_;simp only[RelT,Rel]at hr;obtain⟨v,ys,rfl,⟨a,c,rfl,_,_,hc,_⟩,rfl⟩:=hr;cases a with
 |none=>
  obtain rfl:=hc rfl;have he:=λ(w:World)=>AR (P:=Ai) w 54 64 Af 0 0 0 0 Tryz.underlying54;go_enter Tryz.func100,Tryz.ntmps100;go_wp2;go_ret;exact .inl ⟨rfl,Bp _⟩
 |some x=>
  obtain⟨i0,hi,hz0,hz1,hz2⟩:=info_parts info_row;have he:=λ(w:World)=>AR (P:=Ai) w 54 64 (Aa x) 0 c 0 0 Tryz.underlying54;have hS:RowAt (λ_=>True) w (Aa x) []:= .inl rfl;go_enter Tryz.func100,Tryz.ntmps100;go_wp2_with (at_builtin;refine zBq rfl _ _ 54 rfl w.heap.size 64 i0 (.agg #[.int .i64 0, .int .i64 0, .string ByteArray.empty]) 3 32 Tryz.underlying54 hi hz0 hz1 hz2 rfl (by decide) (.slice (Aa ⟨w.heap.size,0,Af⟩) 0 0) 0 [] rfl (BA _ #[] 0 (Ak _) (AP _) rfl) x 0 c [] rfl (by simp) (by simp) (by simp) (by simp[maxLen]) (by decide) (by simp) ?_;intro v' w' hown hgrow hdr);go_ret;have hext:Ext w w':=⟨((Below.refl _ _).alloc (Ak _) _).grown hgrow (by simp) (by simp[BB]),hdr⟩;obtain⟨_,⟨rfl,_⟩|⟨g,cap,cur,rfl,hb,hg,_,hc1,hs,_⟩⟩:=hown
  ·simp_all
  exact .inr ⟨g,cur.toList,cap,rfl,hb,hext,by rw[Bo];exact hg,by simpa using hs,hc1⟩
theorem info_bags:(Ai.info? 99).map (λi=>(i.zero,i.size,i.bytes))=Aa (Aa (.agg #[.int .i64 0, .int .u32 0, .int .i64 0]),3,24):=by kernel_rfl
set_option maxHeartbeats 400000 in
theorem zVr:Pure Ai 78 [.row [] 0] [⟨[],99,3,Ab,Ae, .plain⟩] (.osl 0 0 0 0 Ab):=by
 refine zF2 λI w vs hr=>?_;simp only[RelT,Rel]at hr;obtain⟨v,ys,rfl,⟨a,c,rfl,_,_,hc,_⟩,rfl⟩:=hr;cases a with
 |none=>
  obtain rfl:=hc rfl;have he:=λ(w:World)=>AR (P:=Ai) w 40 99 Af 0 0 0 0 Tryz.underlying40;go_enter Tryz.func78,Tryz.ntmps78;go_wp2;go_ret;exact .inl ⟨rfl,Bp _⟩
 |some x=>
  obtain⟨i0,hi,hz0,hz1,hz2⟩:=info_parts info_bags;have he:=λ(w:World)=>AR (P:=Ai) w 40 99 (Aa x) 0 c 0 0 Tryz.underlying40;have hS:RowAt (λ_=>True) w (Aa x) []:= .inl rfl;go_enter Tryz.func78,Tryz.ntmps78;go_wp2_with (at_builtin;refine zBq rfl _ _ 40 rfl w.heap.size 99 i0 (.agg #[.int .i64 0, .int .u32 0, .int .i64 0]) 3 24 Tryz.underlying40 hi hz0 hz1 hz2 rfl (by decide) (.slice (Aa ⟨w.heap.size,0,Af⟩) 0 0) 0 [] rfl (BA _ #[] 0 (Ak _) (AP _) rfl) x 0 c [] rfl (by simp) (by simp) (by simp) (by simp[maxLen]) (by decide) (by simp) ?_;intro v' w' hown hgrow hdr);go_ret;have hext:Ext w w':=⟨((Below.refl _ _).alloc (Ak _) _).grown hgrow (by simp) (by simp[BB]),hdr⟩;obtain⟨_,⟨rfl,_⟩|⟨g,cap,cur,rfl,hb,hg,_,hc1,hs,_⟩⟩:=hown
  ·simp_all
  exact .inr ⟨g,cur.toList,cap,rfl,hb,hext,by rw[Bo];exact hg,by simpa using hs,hc1⟩
theorem scmp_c(a b:List UInt8):Pure Ai 128 [strD a,strD b] [] (iD (Aw a b)):=
 zG7 (us:=[.string (bs a), .string (bs b)]) λw=>(Tryz.strings_Compare (bs a) (bs b) w).mono λe w' h=>⟨h.1,h.2.symm⟩
theorem zF5{f g:D->Option (D×List Nat)}:∀{l:List D}{y:List D×List Nat},(∀d x,f d=Aa x->g d=Aa x)->mapF f l=Aa y->mapF g l=Aa y
 |[],y,h,hy=>by simpa[mapF]using hy
 | d::l,y,h,hy=>by
  unfold mapF at hy⊢;split at hy
  ·cases hy
  rename_i a ks e;rw[h d _ e];simp only at hy⊢;split at hy
  ·cases hy
  rename_i al ls e2;rw[zF5 h e2];exact hy
theorem zVc{kn:Bool}{st:List Bk}:∀(n:Nat)(d:D)(x:D×List Nat),frz kn [] n d=Aa x->frz kn st n d=Aa x
 |0,d,x,h=>h
 | n+1,d,x,h=>by
  have ih:=zVc (kn:=kn) (st:=st) n;cases d with
  |unk=>exact h
  |val v=>exact h
  |row cs m=>exact h
  |ptr cs=>exact h
  |mfz ks cs=>exact h
  |fx d=>exact h
  |osr k off l m wh cs=>exact h
  |own k off=>simp[frz]at h
  |osl k off l m wh=>simp[frz]at h
  |mref k=>simp[frz]at h
  |agg cs=>
   simp only[frz]at h⊢;cases e:mapF (frz kn [] n) cs with
   |none=>rw[e]at h;cases h
   |some y=>rw[zF5 ih e];rw[e]at h;exact h
  |tup cs=>
   simp only[frz]at h⊢;cases e:mapF (frz kn [] n) cs with
   |none=>rw[e]at h;cases h
   |some y=>rw[zF5 ih e];rw[e]at h;exact h
  |ifc t d=>
   simp only[frz]at h⊢;cases e:frz kn [] n d with
   |none=>rw[e]at h;cases h
   |some y=>rw[ih d _ e];rw[e]at h;exact h
  | clo f a b=>
   simp only[frz]at h⊢;cases e:mapF (frz kn [] n) a with
   |none=>rw[e]at h;cases h
   |some y=>
    rw[zF5 ih e];rw[e]at h;simp only at h⊢;cases e2:mapF (frz kn [] n) b with
    |none=>rw[e2]at h;cases h
    |some z=>rw[zF5 ih e2];rw[e2]at h;exact h
theorem zKm{st:List Bk}:∀(l:List (Nat×D))(x:List (Nat×D)×List Nat),zEc [] l=Aa x->zEc st l=Aa x
 |[],x,h=>h
 | (i,d)::r,x,h=>by
  unfold zEc at h⊢;split at h
  ·cases h
  rename_i a ks e;rw[zVc _ _ _ e];simp only at h⊢;split at h
  ·cases h
  rename_i al ls e2;rw[zKm r _ e2];exact h
section
variable {P : Program} {T : Par} {ops : Array Oper} {dr : Bool} {l : List Oper} {sl : List D} {st : List Bk} {K : List D → List Bk → Prop}
def zXu(o:Op):Bool:=match o with
 | .alloc _| .box ..| .buildSlice ..| .makeSlice ..=>Ab
 |_=>Ae
def zXa:Eff->Option (Prop×Bk×D)
 | .new p b (.own 0 0) []=>Aa (p,b, .own 0 0)
 | .new p b (.osl 0 o n m w) []=>Aa (p,b, .osl 0 o n m w)
 |_=>Af
theorem aeff_new{o:Op}{t:TypeId}{ρ:Operand->D}{p:Prop}{b:Bk}{d:D}(ho:zXu o=Ab)(h:zXa (aeff P T o t ρ [])=Aa (p,b,d)):aeff P T o t ρ st= .new p b (zA9 st.length d) []:=by
 have key:∀{E:Eff},zXa E=Aa (p,b,d)->E= .new p b d []:=λ{E} h=>by
  unfold zXa at h;split at h<;>cases h<;>rfl
 have h1:=key h;cases o with
 |alloc e=>
  simp only[aeff]at h1⊢;split at h1
  ·cases h1;simp only[zA9,Bq,A8]
  cases h1
 | box e x=>
  simp only[aeff]at h1⊢;split at h1
  ·rename_i hv;cases h1;rw[if_pos hv];simp only[zA9,Bq,A8]
  cases h1
 | makeSlice t l c=>
  simp only[aeff,zDr]at h1⊢;split at h1
  ·split at h1
   ·cases h1;simp only[zA9,Bq,A8]
   cases h1
  cases h1
 | buildSlice t len parts=>
  simp only[aeff]at h1⊢;split at h1
  ·rename_i hv;rw[if_pos hv];simp only[zCu]at h1⊢;split at h1
   ·split at h1
    ·split at h1
     ·cases h1;simp only[zA9,Bq,A8]
     cases h1
    cases h1
   cases h1
  rename_i hv;rw[if_neg hv];simp only[zC7]at h1⊢;split at h1
  ·split at h1
   ·rename_i hfp;rw[zKm _ _ hfp];split at h1
    ·cases h1;simp only[zA9,Bq,A8, *]
    cases h1
   cases h1
  cases h1
 |_=>simp[zXu]at ho
def newL(P:Program)(T:Par)(l:List Oper)(sl:List D):Option (Prop×Bk×D):=match l with
 |[]=>Af
 |o::_=>match o.guard with
  |some _=>Af
  |none=>if zXu o.op then zXa (aeff P T o.op o.type (evD sl) [])else Af
theorem zBc(N:Nat)(p:Prop)(b:Bk)(d:D)(hN:st.length=N)(next:seqW P T ops dr l.tail (putD sl (hdst l) (zA9 N d)) (st++[b]) K)(h:newL P T l sl=Aa (p,b,d):=by kernel_rfl)(hp:p:=by exact trivial):seqW P T ops dr l sl st K:=by
 unfold newL at h;split at h
 ·cases h
 rename_i o r;split at h
 ·cases h
 rename_i hg;split at h
 ·rename_i ho;have he:=aeff_new (st:=st) ho h;subst hN;refine zDl hg<|go_new he ?_ hp rfl rfl next;cases hoo:o.op<;>rw[hoo]at ho<;>simp[zXu]at ho<;>rfl
 cases h
theorem st_puta(e:Bk)(k:Nat)(p:Prop)(b:Bk)(h:putA P l sl e=Aa (k,p,b))(hk:st[k]?=Aa e)(hp:p)(next:seqW P T ops dr l.tail (putD sl (hdst l) .unk) (st.set k b) K):seqW P T ops dr l sl st K:=by
 unfold putA at h;split at h
 ·cases h
 rename_i o r;split at h
 ·cases h
 rename_i hg;split at h
 ·rename_i t a x ho;split at h
  ·rename_i k1 off sz ha hs;split at h
   ·cases h
   rename_i hm;split at h
   ·rename_i hn;split at h
    ·rename_i d hf;cases h;have he:aeff P T o.op o.type (evD sl) st= .put (e.fz=Ae/\zD3 d=Ab/\(cellsOf d).length=sz/\off+sz<=e.cells.length/\k∉([]:List Nat)) k {e with cells:=setAt e.cells off (cellsOf d)} []:=by
      rw[ho];simp only[aeff,ha,hs,hk];grind [zVc]
     refine zDl hg<|go_put he (by rw[ho];rfl) ⟨hp.1,hp.2.1,hp.2.2.1,hp.2.2.2,by simp⟩ rfl rfl ?_;exact next
    cases h
   cases h
  cases h
 cases h
theorem zDk{ops:Array Oper}{c:List (Nat×Nat)}{l:List Oper}{n:Nat}(hn:n<=st.length)(h:zFg P T ops c sl st)(k:seqW P T ops Ab l sl st K):zZd P T ops c n sl st/\seqW P T ops Ab l sl st K:=⟨⟨hn,h⟩,k⟩
theorem zDd{ops:Array Oper}(q n:Nat)(e:Bk)(k:Nat)(p:Prop)(d:D)(h:ldL P [ops.getD q Aj] sl e=Aa (k,p,d))(hk:(st.take n)[k]?=Aa e)(hp:p)(hd:((ops.getD q Aj).dst).map (λx=>sl[x]?)=Aa (Aa d)):zFg P T ops [(q,n)] sl st:=λx hx=>by
 rw[List.mem_singleton.1 hx];simp only;generalize ops.getD q Aj=o at*;unfold ldL at h;simp only at h;split at h
 ·cases h
 rename_i hg;split at h
 ·rename_i t a ho;split at h
  ·rename_i k1 off ha;split at h
   ·cases h
   rename_i hm;split at h
   ·rename_i p1 d1 hl;cases h;have he:aeff P T o.op o.type (evD sl) (st.take n)= .get p d:=by
     rw[ho];simp only[aeff,ha,hk,hm];exact zXv hl
    unfold zFq gv;simp only[hg,he];refine⟨by rw[ho];rfl,hp,λx hx=>?_⟩;rw[hx]at hd;simpa using hd
   cases h
  cases h
 cases h
mutual
/-- the own blocks that data names -/
def ownN:D->List Nat
 | .own j _=>[j]
 | .osl j _ _ _ _=>[j]
 | .osr j _ _ _ _ _=>[j]
 | .mref j=>[j]
 | .agg cs=>ownL cs
 | .tup cs=>ownL cs
 | .clo _ x y=>ownL x++ownL y
 | .ifc _ d=>ownN d
 |_=>[]
def ownL:List D->List Nat
 |[]=>[]
 |d::ds=>ownN d++ownL ds
end
mutual
theorem zHx{k:Nat}:∀d:D,(∀j∈ownN d,j≠k)->refs k d=Ae
 | .own j o,h=>by simp only[refs,beq_eq_false_iff_ne];exact h j (by simp[ownN])
 | .osl j _ _ _ _,h=>by simp only[refs,beq_eq_false_iff_ne];exact h j (by simp[ownN])
 | .osr j _ _ _ _ _,h=>by simp only[refs,beq_eq_false_iff_ne];exact h j (by simp[ownN])
 | .mref j,h=>by simp only[refs,beq_eq_false_iff_ne];exact h j (by simp[ownN])
 | .agg cs,h=>by simp only[refs];exact zCy cs λj hj=>h j (by simpa[ownN]using hj)
 | .tup cs,h=>by simp only[refs];exact zCy cs λj hj=>h j (by simpa[ownN]using hj)
 | .clo _ x y,h=>by
  simp only[refs,zCy x λj hj=>h j (by simp[ownN,hj]),zCy y λj hj=>h j (by simp[ownN,hj]),Bool.or_false]
 | .ifc _ d,h=>by simp only[refs];exact zHx d λj hj=>h j (by simpa[ownN]using hj)
 | .unk,_| .val _,_| .row _ _,_| .ptr _,_| .mfz _ _,_| .fx _,_=>by simp only[refs]
theorem zCy{k:Nat}:∀ds:List D,(∀j∈ownL ds,j≠k)->zX k ds=Ae
 |[],_=>by simp only[zX]
 |d::ds,h=>by
  simp only[zX,zHx d λj hj=>h j (by simp[ownL,hj]),zCy ds λj hj=>h j (by simp[ownL,hj]),Bool.or_false]
end
def nes(k:Nat):List Nat->Prop
 |[]=>True
 |j::l=>j≠k/\nes k l
theorem nes_mem{k:Nat}:∀{l:List Nat},nes k l->∀j∈l,j≠k
 |[],_,j,hj=>by simp at hj
 |i::l,h,j,hj=>by
  rcases A6.1 hj with rfl|hj
  ·exact h.1
  exact nes_mem h.2 j hj
theorem zQk{k:Nat}:∀{sl:List D},nes k (ownL sl)->sl.map (zAi k)=sl
 |[],_=>rfl
 | d::sl,h=>by
  have hm:=nes_mem h;have h1:refs k d=false:=zHx d λj hj=>hm j (by simp[ownL,hj]);have h2:nes k (ownL sl):=by
   have key:∀(a b:List Nat),nes k (a++b)->nes k b:=by
    intro a;induction a with
    |nil=>exact λb h=>h
    |cons x a ih=>exact λb h=>ih b h.2
   exact key _ _ h
  rw[Bm,zQk h2];unfold zAi;rw[h1];rfl
theorem zRk{α:Type}{l:List α}{i:Nat}{a:α}(h:l[i]?=Aa a):l.set i a=l:=by
 apply BE;grind
def outs(ch:List Nat):List Nat->Prop
 |[]=>True
 |j::l=>j∉ch/\outs ch l
theorem zW4{ch:List Nat}:∀{l:List Nat},outs ch l->∀j∈l,j∉ch
 |[],_,j,hj=>by simp at hj
 |i::l,h,j,hj=>by
  rcases A6.1 hj with rfl|hj
  ·exact h.1
  exact zW4 h.2 j hj
theorem zW3{d:D}:∀{sl:List D},d∈sl->∀j∈ownN d,j∈ownL sl
 |[],h,j,hj=>by simp at h
 |e::sl,h,j,hj=>by
  rcases A6.1 h with rfl|h
  ·simp[ownL,hj]
  simp[ownL,zW3 h j hj]
theorem zJn(gs:List (Nat×Bool))(cs:List Prop){f:FuncId}(args:List D){x:D}{st':List Bk}{ch:List Nat}(args':List D)(C:Prop)(h:actL P T ops dr l gs sl st=Aa (cs,f,args))(hc:Alls cs)(ha:LeL args args')(hp:Acts P f args' st ch x st')(hC:outs ch (ownL sl)=C)(hk:∀k∈ch,T.keep k=Ae)(hc2:C)(k:seqW P T ops dr l.tail (putD sl (hdst l) x) st' K):seqW P T ops dr l sl st K:=by
 subst hC;exact st_actc gs cs args args' h hc ha hp hk (λd hd k hk=>zHx d λj hj e=>zW4 hc2 j (zW3 hd j hj) (e▸hk)) k
def appL (P:Program)(T:Par)(l:List Oper)(sl:List D)(b e:Bk):Option (Nat×Nat×Nat×Prop×Bk×D):=match l with
 |[]=>Af
 | o :: _ =>match o.guard with
  |some _=>Af
  | none =>match o.op with
   | .call c=>match c.callee with
    | .builtin .append=>match c.argTypes.toList,c.args.toList with
     | [t,u],[.tmp s1,x]=>match P.underlying t,P.underlying u with
      | some (.slice et),Aa (.slice et')=>match P.info? et,zJk P et,evD sl (.tmp s1),evD sl x with
       | some i,Aa z, .osl k 0 n mm Ab, .osl j off m1 m2 _=>if e.kd.isMap then Af else if e.nob||zCs P T t then
         Aa (s1,k,j,(b.arr=Ab/\b.cells.length=n*i.size/\mm=n*i.size/\b.ty=et/\b.sz=i.size/\((e.cells.drop off).take m2).length=m1*i.size/\0<i.size/\0<i.bytes/\et=et'/\(n+m1)*i.bytes<=140737488355328/\z.length=i.size/\b.kd.isMap=Ae/\(zCs P T t=Ae\/b.kd.isSh=Ab)),
          {b with cells:=if b.nob then b.cells++(e.cells.drop off).take m2 else(b.cells++(e.cells.drop off).take m2).map (zAi k)}, .osl k 0 (n+m1) ((n+m1)*i.size) Ab)
        else Af
       |_,_,_,_=>Af
      |_,_=>Af
     |_,_=>Af
    |_=>Af
   |_=>Af
theorem zLm (b e:Bk)(s1 k j:Nat)(p C:Prop)(b':Bk)(d':D)(h:appL P T l sl b e=Aa (s1,k,j,p,b',d'))(hk:st[k]?=Aa b)(hj:st[j]?=Aa e)(hp:p)(hC:nes k (ownL (sl.set s1 .unk))=C)(hc:C)(hkp:T.keep k=Ae)
  (next:seqW P T ops dr l.tail (putD (sl.set s1 .unk) (hdst l) d') ((st.map (zAk k)).set k b') K):seqW P T ops dr l sl st K:=by
 unfold appL at h;split at h
 ·cases h
 rename_i o r;split at h
 ·cases h
 rename_i hg;split at h
 ·rename_i c ho;split at h
  ·rename_i hcl;split at h
   ·rename_i t u s1' x hat har;split at h
    ·rename_i et et' ht hu;split at h
     ·rename_i i z k1 n mm j1 off m1 m2 wh hi hz hs hx;split at h
      ·cases h
      rename_i hm;split at h
      ·rename_i hn;simp only[AV.injEq,Ar.injEq]at h;obtain⟨rfl,rfl,rfl,rfl,rfl,rfl⟩:=h;have hmf:(!e.kd.isMap)=true:=by simpa using hm
       have he:aeff P T o.op o.type (evD sl) st= .app (b.arr=Ab/\b.cells.length=n*i.size/\mm=n*i.size/\b.ty=et/\b.sz=i.size/\((e.cells.drop off).take m2).length=m1*i.size/\0<i.size/\0<i.bytes/\et=et'/\(n+m1)*i.bytes<=140737488355328/\z.length=i.size/\b.kd.isMap=Ae/\(zCs P T t=Ae\/b.kd.isSh=Ab))
         k1 {b with cells:=if b.nob then b.cells++(e.cells.drop off).take m2 else(b.cells++(e.cells.drop off).take m2).map (zAi k1)} (.osl k1 0 (n+m1) ((n+m1)*i.size) Ab):=by
        rw[ho];simp only[aeff,hcl,hat,har,zGe,ht,hu,hi,hz,hs,hx,unB,zE3,hj,hmf,if_true,hn,aApp,hk]
       refine zDl hg<|go_app he ?_ hkp hp rfl rfl ?_
       ·rw[ho];obtain⟨cc,ca,ct⟩:=c;simp only at hcl;subst hcl;rfl
       have hkl:sl.map (zAi k1)=sl.set s1' .unk:=by
        have h2:=zQk (by rw[hC];exact hc:nes k1 (ownL (sl.set s1' .unk)));rw[List.map_set]at h2;rw[show zAi k1 .unk= .unk from rfl]at h2;rw[<-h2];symm;refine zRk ?_;have hl:s1'<sl.length:=by
         rcases AY s1' sl.length with hl|hl
         ·exact hl
         simp only[evD,AI,BH hl]at hs;cases hs
        simp only[evD,AI,AA hl,BK]at hs;rw[List.getElem?_map,AA hl,Br,hs];unfold zAi;simp only[refs,beq_self_eq_true,if_true]
       rw[hkl];exact next
      cases h
     cases h
    cases h
   cases h
  cases h
 cases h
end
section
variable {P : Program} {T : Par}
abbrev Uk:D:= .unk
abbrev i6(z:Int):Prop:=-9223372036854775808<=z/\z<=9223372036854775807
abbrev u6(z:Int):Prop:=0<=z/\z<=18446744073709551615
abbrev u3(z:Int):Prop:=0<=z/\z<=4294967295
abbrev ix(i n:Int)(R:Prop):Prop:=0<=i/\i<n/\R
abbrev Fs:=List D×List Bk
def rP(P:Program)(T:Par)(ops:Array Oper)(raws:List Nat)(l:List Oper)(gs:List (Nat×Bool))(p:Fs):Fs:=match runL P T ops raws l gs p.1 p.2 with
 |some x=>x.2
 |none=>p
def setP(p:Fs)(i:Nat)(d:D):Fs:=(p.1.set i d,p.2)
def setQ(p:Fs)(i:Nat)(b:Bk):Fs:=(p.1,p.2.set i b)
section
variable {ops : Array Oper} {dr : Bool} {l : List Oper} {p : Fs} {K : List D → List Bk → Prop}
theorem v0s{sl:List D}{st:List Bk}(k:seqW P T ops dr l (sl,st).1 (sl,st).2 K):seqW P T ops dr l sl st K:=k
theorem vw(n:Nat)(raws:List Nat)(gs:List (Nat×Bool))(C:Prop)(k:seqW P T ops dr (l.drop n) (rP P T ops raws (l.take n) gs p).1 (rP P T ops raws (l.take n) gs p).2 K)
  (hc:C:=by first|exact True.intro|omega|(repeat' first|exact True.intro|omega|apply And.intro|assumption|decide|(simp;done)|(simp;omega)|kernel_rfl))
  (h:(runL P T ops raws (l.take n) gs p.1 p.2).map (λx=>Alls x.1)=Aa C:=by kernel_rfl):seqW P T ops dr l p.1 p.2 K:=by
 rw[Au]at h;obtain⟨⟨c,s1,s2⟩,h1,rfl⟩:=h;simp only[rP,h1]at k;grind [zCh,Bs]
theorem vr(n:Nat)(C:Prop)(k:seqW P T ops dr (l.drop n) (rP P T ops [] (l.take n) [] p).1 (rP P T ops [] (l.take n) [] p).2 K)
  (hc:C:=by first|exact True.intro|omega|(repeat' first|exact True.intro|omega|apply And.intro|assumption|decide|(simp;done)|(simp;omega)|kernel_rfl))
  (h:(runL P T ops [] (l.take n) [] p.1 p.2).map (λx=>Alls x.1)=Aa C:=by kernel_rfl):seqW P T ops dr l p.1 p.2 K:=vw n [] [] C k hc h
theorem vrT(n:Nat)(k:seqW P T ops dr (l.drop n) (rP P T ops [] (l.take n) [] p).1 (rP P T ops [] (l.take n) [] p).2 K)
  (h:(runL P T ops [] (l.take n) [] p.1 p.2).map (λx=>Alls x.1)=Aa True:=by kernel_rfl):seqW P T ops dr l p.1 p.2 K:=vw n [] [] True k trivial h
theorem vwh(n:Nat)(raws:List Nat)(gs:List (Nat×Bool))(C:Prop)(hc:C)(k:seqW P T ops dr (l.drop n) (rP P T ops raws (l.take n) gs p).1 (rP P T ops raws (l.take n) gs p).2 K)(h:(runL P T ops raws (l.take n) gs p.1 p.2).map (λx=>Alls x.1)=Aa C:=by kernel_rfl):seqW P T ops dr l p.1 p.2 K:=vw n raws gs C k hc h
theorem vew{b:Code}{Q Q':Exit->List D->List Bk->Prop}(raws:List Nat)(gs:List (Nat×Bool))(C:Prop)(k:awp P T b Q (rP P T ops raws l gs p).1 (rP P T ops raws l gs p).2)
  (hc:C:=by first|exact True.intro|omega|(repeat' first|exact True.intro|omega|apply And.intro|assumption|decide|(simp;done)|(simp;omega)|kernel_rfl))
  (h:(runL P T ops raws l gs p.1 p.2).map (λx=>Alls x.1)=Aa C:=by kernel_rfl):seqW P T ops dr l p.1 p.2 (zAf (zAn P T b Q) Q' .normal):=by
 rw[Au]at h;obtain⟨⟨c,s1,s2⟩,h1,rfl⟩:=h;simp only[rP,h1]at k
 have:=zCh (P:=P) (T:=T) (dr:=dr) (K:=zAf (zAn P T b Q) Q' .normal) l [] gs p.1 p.2 c s1 s2 h1 hc ?_
 ·grind
 exact⟨_,_,Weak.refl _ _,k⟩
theorem ve{b:Code}{Q Q':Exit->List D->List Bk->Prop}(C:Prop)(k:awp P T b Q (rP P T ops [] l [] p).1 (rP P T ops [] l [] p).2)
  (hc:C:=by first|exact True.intro|omega|(repeat' first|exact True.intro|omega|apply And.intro|assumption|decide|(simp;done)|(simp;omega)|kernel_rfl))
  (h:(runL P T ops [] l [] p.1 p.2).map (λx=>Alls x.1)=Aa C:=by kernel_rfl):seqW P T ops dr l p.1 p.2 (zAf (zAn P T b Q) Q' .normal):=vew [] [] C k hc h
theorem veT{b:Code}{Q Q':Exit->List D->List Bk->Prop}(k:awp P T b Q (rP P T ops [] l [] p).1 (rP P T ops [] l [] p).2)
  (h:(runL P T ops [] l [] p.1 p.2).map (λx=>Alls x.1)=Aa True:=by kernel_rfl):seqW P T ops dr l p.1 p.2 (zAf (zAn P T b Q) Q' .normal):=vew [] [] True k trivial h
def isC3(d:D):Bool:=zGy d||zD3 d||(match d with
 | .tup _=>Ab
 |_=>Ae)
theorem vsh(i:Nat){d0 d:D}(hd:d0=d)(k:seqW P T ops dr l (setP p i d).1 (setP p i d).2 K)(h:p.1.getD i .unk=d0:=by kernel_rfl)(hu:isC3 d=true:=by kernel_rfl):seqW P T ops dr l p.1 p.2 K:=by
 subst hd;simp only[setP]at k;rwa[zGh h (by intro e;subst e;simp[isC3,zGy,zD3]at hu)]at k
theorem vs(i:Nat)(d0 d:D)(hd:d0=d)(k:seqW P T ops dr l (setP p i d).1 (setP p i d).2 K)(h:p.1.getD i .unk=d0:=by kernel_rfl)(hu:isC3 d=true:=by kernel_rfl):seqW P T ops dr l p.1 p.2 K:=vsh i hd k h hu
theorem vp(i n:Nat)(X:List D)(k:seqW P T ops dr l (setP p i (.ptr (X.drop n))).1 (setP p i (.ptr (X.drop n))).2 K)(h:p.1.getD i .unk= .ptr (X.drop (n*1)):=by kernel_rfl):seqW P T ops dr l p.1 p.2 K:=vsh i (by rw[AS]) k h (by rfl)
theorem vo(i b n:Nat)(k:seqW P T ops dr l (setP p i (.own b n)).1 (setP p i (.own b n)).2 K)(h:p.1.getD i .unk= .own b (0+n*1):=by kernel_rfl):seqW P T ops dr l p.1 p.2 K:=vsh i (by rw[AS,A9]) k h (by rfl)
theorem vo0(i b n:Nat)(k:seqW P T ops dr l (setP p i (.own b n)).1 (setP p i (.own b n)).2 K)(h:p.1.getD i .unk= .own b (0+n):=by kernel_rfl):seqW P T ops dr l p.1 p.2 K:=vsh i (by rw[A9]) k h (by rfl)
theorem vb(i:Nat)(b0 b:Bk)(hd:b0=b)(k:seqW P T ops dr l (setQ p i b).1 (setQ p i b).2 K)(h:p.2[i]?=Aa b0:=by kernel_rfl):seqW P T ops dr l p.1 p.2 K:=st_blk i b0 b h hd k
def cSt(P:Program)(T:Par)(ops:Array Oper)(l:List Oper)(p:Fs):List Bk:=match zKv P T ops l [] p.1 p.2 with
 |some x=>x.2.2.2
 |none=>p.2
def cP(P:Program)(T:Par)(ops:Array Oper)(l:List Oper)(x:D)(p:Fs):Fs:=(putD p.1 (hdst l) x,cSt P T ops l p)
def nP(P:Program)(T:Par)(ops:Array Oper)(l:List Oper)(x:D)(bs:List Bk)(p:Fs):Fs:=(putD p.1 (hdst l) (zA9 p.2.length x),cSt P T ops l p++bs)
theorem vc{f:FuncId}{args:List D}{x:D}(hp:Pure P f args [] x)(k:seqW P T ops dr l.tail (cP P T ops l x p).1 (cP P T ops l x p).2 K)(h:(zKv P T ops l [] p.1 p.2).map (λx=>(x.1,x.2.1,x.2.2.1))=Aa ([],f,args):=by kernel_rfl):seqW P T ops dr l p.1 p.2 K:=by
 rw[Au]at h;obtain⟨⟨c,g,a,s⟩,h1,h2⟩:=h;simp only[Ar.injEq]at h2;obtain⟨rfl,rfl,rfl⟩:=h2;simp only[cP,cSt,h1]at k;exact zTn [] [] a s a h1 trivial (LeL.refl _) hp k
theorem vca{f:FuncId}(args:List D){x:D}(hp:Pure P f args [] x)(k:seqW P T ops dr l.tail (cP P T ops l x p).1 (cP P T ops l x p).2 K)(h:(zKv P T ops l [] p.1 p.2).map (λx=>(x.1,x.2.1,x.2.2.1))=Aa ([],f,args):=by kernel_rfl):seqW P T ops dr l p.1 p.2 K:=vc hp k h
theorem vcl{f:FuncId}(args:List D){x:D}(args':List D)(ha:LeL args args')(hp:Pure P f args' [] x)(k:seqW P T ops dr l.tail (cP P T ops l x p).1 (cP P T ops l x p).2 K)(h:(zKv P T ops l [] p.1 p.2).map (λx=>(x.1,x.2.1,x.2.2.1))=Aa ([],f,args):=by kernel_rfl):seqW P T ops dr l p.1 p.2 K:=vc (hp.le ha) k h
theorem vnl{f:FuncId}(args:List D){x:D}{n:Bk}{news:List Bk}(args':List D)(ha:LeL args args')(hp:Pure P f args' (n::news) x)(k:seqW P T ops dr l.tail (nP P T ops l x (n::news) p).1 (nP P T ops l x (n::news) p).2 K)(h:(zKv P T ops l [] p.1 p.2).map (λx=>(x.1,x.2.1,x.2.2.1))=Aa ([],f,args):=by kernel_rfl):seqW P T ops dr l p.1 p.2 K:=by
 rw[Au]at h;obtain⟨⟨c,g,a,s⟩,h1,h2⟩:=h;simp only[Ar.injEq]at h2;obtain⟨rfl,rfl,rfl⟩:=h2;simp only[nP,cSt,h1]at k;exact st_callN [] [] a s args' h1 trivial ha hp k
theorem vn{f:FuncId}{args:List D}{x:D}{n:Bk}{news:List Bk}(hp:Pure P f args (n::news) x)(k:seqW P T ops dr l.tail (nP P T ops l x (n::news) p).1 (nP P T ops l x (n::news) p).2 K)(h:(zKv P T ops l [] p.1 p.2).map (λx=>(x.1,x.2.1,x.2.2.1))=Aa ([],f,args):=by kernel_rfl):seqW P T ops dr l p.1 p.2 K:=vnl args args (LeL.refl _) hp k h
theorem vnil{sl:List D}{st:List Bk}(k:K sl st)(e:l=[]:=by kernel_rfl):seqW P T ops dr l sl st K:=zAh k e
theorem vsp(t:Nat)(b:Bool)(k1:b=Ab->seqW P T ops dr l (setP p t (.val (.bool Ab))).1 (setP p t (.val (.bool Ab))).2 K)(k2:b=Ae->seqW P T ops dr l (setP p t (.val (.bool Ae))).1 (setP p t (.val (.bool Ae))).2 K)(h:guardL ops l p.1=Aa (t,b):=by kernel_rfl):seqW P T ops dr l p.1 p.2 K:=st_split t b h k1 k2
end
section
variable {Q : Exit → List D → List Bk → Prop} {sl : List D} {st : List Bk}
theorem v0{c:Code}(k:awp P T c Q (sl,st).1 (sl,st).2):awp P T c Q sl st:=k
theorem vA{i:Nat}{ops:Array Oper}{b:Code}(k:seqW P T ops Ae ops.toList sl st (zAf (zAn P T b Q) Q .normal)):awp P T (.seq (.region i ops Ae) b) Q sl st:=zA (zB rfl k)
theorem vAs{i:Nat}{ops:Array Oper}{b:Code}(k:seqW P T ops Ae ops.toList (sl,st).1 (sl,st).2 (zAf (zAn P T b Q) Q .normal)):awp P T (.seq (.region i ops Ae) b) Q sl st:=zA (zB rfl k)
theorem vAu{i:Nat}{ops:Array Oper}{b:Code}(k:awp P T b Q (rP P T ops [] ops.toList [] (sl,st)).1 (rP P T ops [] ops.toList [] (sl,st)).2)(h:(runL P T ops [] ops.toList [] (sl,st).1 (sl,st).2).map (λx=>Alls x.1)=Aa True:=by kernel_rfl):awp P T (.seq (.region i ops Ae) b) Q sl st:=zA (zB rfl (v0s (veT k h)))
theorem vAe{i:Nat}{ops:Array Oper}{b:Code}{p:Fs}(k:awp P T b Q (rP P T ops [] ops.toList [] p).1 (rP P T ops [] ops.toList [] p).2)(h:(runL P T ops [] ops.toList [] p.1 p.2).map (λx=>Alls x.1)=Aa True:=by kernel_rfl):awp P T (.seq (.region i ops Ae) b) Q p.1 p.2:=zA (zB rfl (veT k h))
theorem vN{Q':Exit->List D->List Bk->Prop}{b:Code}(h:awp P T b Q sl st):zAf (zAn P T b Q) Q' .normal sl st:=zC (zAw h)
theorem vK{Q':Exit->List D->List Bk->Prop}{b:Code}(h:awp P T b Q sl st):awp P T .skip (zAf (zAn P T b Q) Q') sl st:=zQ (zC (zAw h))
theorem vB{i:Nat}{a b:Code}(h:awp P T a (zAd i (zAf (zAn P T b Q) Q)) sl st):awp P T (.seq (.block i a) b) Q sl st:=zA (zH h)
theorem vX2{K K':List D->List Bk->Prop}{i:Nat}(h:Q (.exit i) sl st):awp P T (.exit i) (zAf K' (zAf K Q)) sl st:=zQy (zFu (zFu h))
theorem vY{K:List D->List Bk->Prop}{i:Nat}(h:Q .normal sl st):awp P T (.exit i) (zAf K (zAd i Q)) sl st:=zQy (zFu (zM5 rfl h))
theorem vY2{K K':List D->List Bk->Prop}{i:Nat}(h:Q .normal sl st):awp P T (.exit i) (zAf K' (zAf K (zAd i Q))) sl st:=zQy (zFu (zFu (zM5 rfl h)))
theorem vZ{Q':Exit->List D->List Bk->Prop}{K:List D->List Bk->Prop}{i:Nat}{b:Code}(h:awp P T b Q sl st):awp P T (.exit i) (zAf K (zAd i (zAf (zAn P T b Q) Q'))) sl st:=vY (vN h)
theorem vZ2{Q':Exit->List D->List Bk->Prop}{K K':List D->List Bk->Prop}{i:Nat}{b:Code}(h:awp P T b Q sl st):awp P T (.exit i) (zAf K' (zAf K (zAd i (zAf (zAn P T b Q) Q')))) sl st:=vY2 (vN h)
theorem vKB{Q':Exit->List D->List Bk->Prop}{i:Nat}{a b:Code}(h:awp P T a (zAd i (zAf (zAn P T b Q) Q)) sl st):awp P T .skip (zAf (zAn P T (.seq (.block i a) b) Q) Q') sl st:=vK (vB h)
theorem vd{i:Nat}{ops:Array Oper}(ord:List Nat){l:List Oper}(h:seqW P T ops Ab l sl st (Q .normal))(hr:zY3 T ops ord=true:=by kernel_rfl)(hl:(ord.map λi=>ops.getD i Aj)=l:=by rfl):awp P T (.region i ops Ab) Q sl st:=awp_drawn ord hr hl h
theorem vT{c:Operand}{x y:Code}(p:Prop)[Decidable p](h:awp P T x Q sl st)(ht:p:=by first|omega|assumption)(hc:evD sl c= .val (.bool (decide p)):=by kernel_rfl):awp P T (.cond c x y) Q sl st:=by simp_all [zGb,ht]
theorem vF{c:Operand}{x y:Code}(p:Prop)[Decidable p](h:awp P T y Q sl st)(ht:¬p:=by first|omega|assumption)(hc:evD sl c= .val (.bool (decide p)):=by kernel_rfl):awp P T (.cond c x y) Q sl st:=by simp_all [zFs,ht]
theorem vt{c:Operand}{x y:Code}(h:awp P T x Q sl st)(hc:evD sl c= .val (.bool Ab):=by kernel_rfl):awp P T (.cond c x y) Q sl st:=zGb hc rfl h
theorem vf{c:Operand}{x y:Code}(h:awp P T y Q sl st)(hc:evD sl c= .val (.bool Ae):=by kernel_rfl):awp P T (.cond c x y) Q sl st:=zFs hc rfl h
theorem vEt{c:Operand}{x y:Code}(a b:Int)(h:awp P T x Q sl st)(ht:a=b:=by first|omega|assumption)(hc:evD sl c= .val (.bool (a==b)):=by kernel_rfl):awp P T (.cond c x y) Q sl st:=by simp_all [zGb,ht]
theorem vEf{c:Operand}{x y:Code}(a b:Int)(h:awp P T y Q sl st)(ht:¬a=b:=by first|omega|assumption)(hc:evD sl c= .val (.bool (a==b)):=by kernel_rfl):awp P T (.cond c x y) Q sl st:=by simp_all [zFs,ht]
theorem vret{rs:List ResultVar}{e:Exit}{x:D}(C:Prop)(he:e= .normal\/e= .ret)(hc:C:=by first|exact True.intro|omega|(repeat' first|exact True.intro|omega|apply And.intro|assumption|decide|(simp;done)|(simp;omega)|kernel_rfl))
  (h:(retC P rs sl st).map (λx=>(Alls x.1,zF3 x.2))=Aa (C,x):=by kernel_rfl):(e= .normal\/e= .ret)/\retL P sl st rs (λds=>∃y ks,frz Ab st zAc (oneD ds)=Aa (y,ks)/\LeD y x):=zCf C x x he hc rfl rfl (h:=h)
theorem vre{rs:List ResultVar}{e:Exit}{x:D}(C:Prop)(y:D)(he:e= .normal\/e= .ret)(hx:y=x)(hc:C:=by first|exact True.intro|omega|(repeat' first|exact True.intro|omega|apply And.intro|assumption|decide|(simp;done)|(simp;omega)|kernel_rfl))
  (h:(retC P rs sl st).map (λx=>(Alls x.1,zF3 x.2))=Aa (C,y):=by kernel_rfl):(e= .normal\/e= .ret)/\retL P sl st rs (λds=>∃y ks,frz Ab st zAc (oneD ds)=Aa (y,ks)/\LeD y x):=zCf C y y he hc rfl hx (h:=h)
def tgt1(d d':D):D:=match d' with
 | .unk=> .unk
 | _=>match d with
  | .val (.slice Af 0 0)=>(match d' with
   | .osl k 0 0 0 b=> .osl k 0 0 0 b
   | .row [] 0=> .row [] 0
   |_=>d)
  |_=>d
theorem tgt1_le(d d':D):LeD d (tgt1 d d'):=by
 unfold tgt1;split
 ·exact .unk _
 split
 ·split
  ·exact .nil _ _
  ·exact .nil_row
  exact .refl _
 exact .refl _
def tgtL:List D->List D->List D
 |[],_=>[]
 |d::ds,[]=>d::ds
 |d::ds,d'::ds'=>tgt1 d d'::tgtL ds ds'
theorem zPo:∀ds ds':List D,LeL ds (tgtL ds ds')
 |[],_=> .nil
 |d::ds,[]=> .refl _
 |d::ds,d'::ds'=> .cons (tgt1_le d d') (zPo ds ds')
theorem wk(i:Nat)(d0 d:D)(hd:d0=d){sl':List D}{st':List Bk}(k:Weak T (sl.set i d) st sl' st')(h:sl.getD i .unk=d0:=by kernel_rfl)(hu:isC3 d=true:=by kernel_rfl):Weak T sl st sl' st':=by
 subst hd;rwa[zGh h (by intro e;subst e;simp[isC3,zGy,zD3]at hu)]at k
theorem vk{sl':List D}{st':List Bk}(m:Nat)(hk:∀k,m<=k->T.keep k=false:=by exact λ_ _=>rfl)(h:tgtL sl sl'=sl':=by kernel_rfl)(hn:zEp sl' st m st.length=true:=by kernel_rfl)(e:st.take m=st'.take m:=by kernel_rfl):Weak T sl st sl' st':=by grind [Weak.all,zPo,Bs]
def fr(n:Nat)(ch:List (Nat×D)):List D:=updS (Az n .unk) ch
theorem vnt{ops:Array Oper}{dr:Bool}{l:List Oper}{K:List D->List Bk->Prop}(st':List Bk)(k:seqW P T ops dr l sl st' K)(h2:st=st':=by kernel_rfl):seqW P T ops dr l sl st K:=by subst h2;exact k
theorem wkn(sl0:List D)(st0:List Bk){sl':List D}{st':List Bk}(k:Weak T sl0 st0 sl' st')(h:tgtL sl sl0=sl0:=by kernel_rfl)(h2:st=st0:=by kernel_rfl):Weak T sl st sl' st':=by
 subst h2;exact(Weak.slots (h▸zPo sl sl0)).trans k
theorem vnn{b:Code}(sl':List D)(st':List Bk)(k:zAn P T b Q sl' st')(h:tgtL sl sl'=sl':=by kernel_rfl)(h2:st=st':=by kernel_rfl):zAn P T b Q sl st:=by
 subst h2;obtain⟨a,c,h3,h4⟩:=k;exact⟨a,c,(Weak.slots (h▸zPo sl sl')).trans h3,h4⟩
end
end
end
section
open Go.RowKit
attribute [local irreducible] seqW awp zAf zAn zAd Weak updS zAx retL Pure Acts rP setP setQ cP nP fr
set_option maxRecDepth 4096
set_option maxHeartbeats 1000000 in
theorem zFt(l:List Nat)(n:Nat)(hn:l.length=n)(hl:n<=1000000000)(hd:Digs l):Pure Ai 55 [.row (l.map dig) n] [] (natD (nval l)):=by
 subst hn;refine zF zBm mixed Tryz.func55 rfl ?_;focus
  refine vAu<|vAe<|vB ?_;rotate_left
 refine zK (λ(n:Nat)=>fr 22 [(0,digR l),(2,nl),(3,iD n)]) (λ_=>[]) (λn=>n) (λn=>n<=l.length/\zCm l n=zCm l l.length) l.length ?_ ?_ ?_
 ·grind
 ·refine vk 0
 rintro n ⟨h1,h2⟩;focus
  refine zA<|vAs<|vrT 3 ?_;refine vsp 8 (decide ((n:Int)>(0:Int))) (λhc=>?_)<|λhc=>?_;simp only[decide_eq_true_eq]at hc;refine vr 3 (i6 (↑n-1))<|vs 11 (iD (↑n-1)) (iD ↑(n-1)) (by simp(disch:=omega) only[zD1])<|vr 1 (ix ↑(n-1) ↑(Ad l) (Ah dig l≠[])) (vp 12 (n-1) (Ah dig l)<|vr 1 (0<Ad (Am (n-1)<|Ah dig l))<|vs 13 (AB (Am (n-1)<|Ah dig l) Uk) (dig<|Ag l (n-1) 0) (by simp(disch:=omega) only[zB2])<|veT ?_) ⟨(by omega),⟨(by omega),(by exact zAm (by omega))⟩⟩;refine zAa (t:=(↑(Ag l (n-1) 0):Int)==(0:Int)) (by kernel_rfl) (λhc=>?_)<|λhc=>?_;simp only[beq_iff_eq]at hc;refine vK<|zH<|zB rfl<|vr 2 (i6 (↑n-1))<|vs 17 (iD (↑n-1)) (iD ↑(n-1)) (by simp(disch:=omega) only[zD1])<|vrT 1<|vnil<|zD<|zC ?_;rotate_left;simp only[beq_eq_false_iff_ne]at hc;refine vZ2<|vA<|vr 4 (True/\(0:Int)<=(n:Int)/\(0:Int)<=(n:Int)/\0<1/\0<=Ay (n:Int)/\Ay (n:Int)<=Ad l/\Ay (n:Int)=Ay (n:Int))<|vs 21 (Ao (As ((Ay (n:Int)-0)*1)<|Am 0<|Ah dig l) (Ay (n:Int)-0)) (Ao (Ah dig<|As n l) n) (by simp(disch:=omega) only[AQ,Nat.sub_zero,AS,A1,zHs])<|veT<|zE ?_;refine vre (True) (Ao (Ah dig<|As n l) n) (.inr rfl) ?_;rotate_left;simp only[decide_eq_false_iff_not]at hc;refine veT<|vf<|vZ2<|vA<|vr 4 (True/\(0:Int)<=(n:Int)/\(0:Int)<=(n:Int)/\0<1/\0<=Ay (n:Int)/\Ay (n:Int)<=Ad l/\Ay (n:Int)=Ay (n:Int))<|vs 21 (Ao (As ((Ay (n:Int)-0)*1)<|Am 0<|Ah dig l) (Ay (n:Int)-0)) (Ao (Ah dig<|As n l) n) (by simp(disch:=omega) only[AQ,Nat.sub_zero,AS,A1,zHs])<|veT<|zE ?_;refine vre (True) (Ao (Ah dig<|As n l) n) (.inr rfl) ?_;rotate_left
 ·refine⟨n-1,⟨by omega,?_⟩,by omega,?_⟩
  ·rw[<-h2];obtain⟨m,rfl⟩:∃m,n=m+1:=⟨n-1,by omega⟩;simp only[zCm];grind
  refine vk 0
 all_goals
  have e:n=zCm l l.length:=by
   rw[<-h2];cases n with
   |zero=>rfl
   |succ m=>
    simp only[zCm];grind
  have e2:(dg (nval l)).length=n:=by rw[<-zPm hd,AU,B6 (zNl _ _),e]
  rw[natD,digR,e2,e,zPm hd]
theorem of_c(n:Nat)(hn:n<18446744073709551616):Pure Ai 36 [.val (.int .u64 n)] [] (natD n):=by
 refine zF zBm mixed Tryz.func36 rfl ?_;focus
  refine vAu<|vA<|vw 4 [4] [] (True/\(0:Int)<=(32:Int))<|vs 6 (Al<|An AF<|AX (n:Int) ((2:Int)^32)) (Al<|An AF (↑(n/4294967296):Int)) (by simp(disch:=omega) only[zJ6])<|vr 2 (u3 (↑(n/4294967296):Int)/\(1=1/\1<=2/\1=1/\2<=2/\True)/\0<1/\1=1/\2<=16777216/\2<=9223372036854775807)<|vc (zFt [n%4294967296,n/4294967296] 2 rfl (by omega)<|Digs.mk (by omega)<|Digs.mk (by omega) Digs.nil)<|veT<|zE ?_;refine vre (True) (natD<|nval [n%4294967296,n/4294967296]) (.inr rfl) ?_;rotate_left
 grind [nval]
set_option maxHeartbeats 2000000 in
theorem add_c(a b:List Nat)(n m:Nat)(hn:a.length=n)(hm:b.length=m)(hl:n<=1000000)(hl':m<=1000000)(ha:Digs a)(hb:Digs b):Pure Ai 46 [.row (a.map dig) n, .row (b.map dig) m] [] (natD (nval a+nval b)):=by
 subst hn hm;have la:=zMt ha;have lb:=zMt hb;refine zF zBm mixed Tryz.func46 rfl ?_;focus
  refine vAu<|vA<|vrT 1<|vc (zFt a _ rfl (by omega) ha)<|vrT 1<|vc (zFt b _ rfl (by omega) hb)<|veT<|zA<|vA ?_;refine veT ?_;refine zAa (t:=decide ((Ad (dg (nval a)):Int)<(Ad (dg (nval b)):Int))) (by kernel_rfl) (λhc=>?_)<|λhc=>?_;simp only[decide_eq_true_eq]at hc;refine zB rfl<|veT<|vA<|vr 4 (i6 ((Ad (dg<|nval b):Int)+(1:Int))/\(0:Int)<=(↑(Ad (dg<|nval b)+1):Int)/\(↑(Ad (dg<|nval b)+1):Int)<=(↑(Ad (dg<|nval b)+1):Int)/\(↑(4:Nat):Int)*(↑(Ad (dg<|nval b)+1):Int)<=(281474976710656:Int)/\(↑(Ad (dg<|nval b)+1):Int)<=(281474976710656:Int)/\0<1/\1=1)<|vb 0 (Aq (repL (Ay (↑(Ad (dg<|nval b)+1):Int)) [Al<|An AW 0]) 36 1 Ab Ae<|kdOf Ae) (Aq (Ah dig<|Az (Ad (dg<|nval b)+1) 0) 36 1 Ab Ae<|kdOf Ae) (by simp(disch:=omega) only[AQ,zPy])<|vrT 1<|vs 5 (Ap 0 0 (Ay (↑(Ad (dg<|nval b)+1):Int)) (Ay (↑(Ad (dg<|nval b)+1):Int)*1) Ab) (Ap 0 0 (Ad (dg<|nval b)+1) (Ad (dg<|nval b)+1) Ab) (by simp(disch:=omega) only[AQ,AS])<|veT<|vAe<|zA<|zA ?_;refine zB rfl<|veT<|zH ?_;rotate_left;simp only[decide_eq_false_iff_not]at hc;refine vK<|vA<|vr 4 (i6 ((Ad (dg<|nval a):Int)+(1:Int))/\(0:Int)<=(↑(Ad (dg<|nval a)+1):Int)/\(↑(Ad (dg<|nval a)+1):Int)<=(↑(Ad (dg<|nval a)+1):Int)/\(↑(4:Nat):Int)*(↑(Ad (dg<|nval a)+1):Int)<=(281474976710656:Int)/\(↑(Ad (dg<|nval a)+1):Int)<=(281474976710656:Int)/\0<1/\1=1)<|vb 0 (Aq (repL (Ay (↑(Ad (dg<|nval a)+1):Int)) [Al<|An AW 0]) 36 1 Ab Ae<|kdOf Ae) (Aq (Ah dig<|Az (Ad (dg<|nval a)+1) 0) 36 1 Ab Ae<|kdOf Ae) (by simp(disch:=omega) only[AQ,zPy])<|vrT 1<|vs 5 (Ap 0 0 (Ay (↑(Ad (dg<|nval a)+1):Int)) (Ay (↑(Ad (dg<|nval a)+1):Int)*1) Ab) (Ap 0 0 (Ad (dg<|nval a)+1) (Ad (dg<|nval a)+1) Ab) (by simp(disch:=omega) only[AQ,AS])<|veT<|vAe<|zA ?_;refine vAe<|zH ?_;rotate_left
 ·have hS1:=la;have hL1:=lb;have dL:Digs (dg (nval b)):=zCb _;have dS:Digs (dg (nval a)):=zCb _;have ev:nval (dg (nval b))+nval (dg (nval a))=nval a+nval b:=by have:=zB9 (nval a);have:=zB9 (nval b);omega
  generalize (dg (nval b))=L at*;generalize (dg (nval a))=M at*;refine zC0 (λ(k:Nat)(c:Nat)(cur:List Nat)=>fr 62 [(0,digR L),(1,digR M),(4,nl),(5,Ap 0 0 (Ad L+1) (Ad L+1) Ab),(6,Al<|An AF (c:Int)),(24,iD<|Ad L),(25,iD k)]) (λk c cur=>[⟨cur.map dig,36,1,Ab,Ae,.plain⟩]) (λk c cur=>L.length-k) (λk c cur=>k<=L.length/\c<=1/\cur.length=L.length+1/\Digs cur/\nval (cur.take k)+4294967296^k*c=nval (L.take k)+nval (M.take k)) 0 0 (Az (L.length+1) 0) ?_ ?_ ?_
  ·grind [B9,nval]
  ·refine vk 1
  rintro k c cur ⟨h1,h2,h3,h4,h5⟩;have hx:=dL k;have hy:=dS k;focus
   refine vAu<|zA ?_;refine zAa (t:=decide ((k:Int)<↑(Ad L))) (by kernel_rfl) (λhc=>?_)<|λhc=>?_;simp only[decide_eq_true_eq]at hc;refine vKB<|vAe<|vA<|vr 4 (ix ↑k ↑(Ad L) (Ah dig L≠[])) (vp 31 k (Ah dig L)<|vr 1 (0<Ad (Am k<|Ah dig L))<|vs 32 (AB (Am k<|Ah dig L) Uk) (dig<|Ag L k 0) (by simp(disch:=omega) only[zB2]) ?_) ⟨(by omega),⟨(by omega),(by exact zAm (by omega))⟩⟩;refine ve (u6 (↑(Ag L k 0):Int)/\u6 ((c:Int)+(↑(Ag L k 0):Int)))<|zA<|vAe ?_;refine zAa (t:=decide ((k:Int)<↑(Ad M))) (by kernel_rfl) (λhc=>?_)<|λhc=>?_;simp only[decide_eq_true_eq]at hc;refine zB rfl<|vr 4 (ix ↑k ↑(Ad M) (Ah dig M≠[])) (vp 42 k (Ah dig M)<|vr 1 (0<Ad (Am k<|Ah dig M))<|vs 43 (AB (Am k<|Ah dig M) Uk) (dig<|Ag M k 0) (by simp(disch:=omega) only[zB2])<|ve (u6 (↑(Ag M k 0):Int)/\u6 ((↑(c+Ag L k 0):Int)+(↑(Ag M k 0):Int)))<|vA<|vw 5 [49] [] (True/\(0:Int)<=(k:Int)/\(k:Int)<↑(Ad L+1))<|vo 50 0 k<|vr 1 (Ae=Ae/\Ab=Ab/\1=1/\k+1<=Ad (Ah dig cur)/\¬0∈[])<|vb 0 (Aq (setAt (Ah dig cur) k<|cellsOf<|dig ((c+Ag L k 0+Ag M k 0)%4294967296)) 36 1 Ab Ae AC) (Aq (Ah dig<|AG cur k ((c+Ag L k 0+Ag M k 0)%4294967296)) 36 1 Ab Ae AC) (by simp(disch:=omega) only[cellsOf,setAt,zFx])<|veT<|zB rfl ?_) ⟨(by omega),⟨(by omega),(by exact zAm (by omega))⟩⟩;refine vr 2 ((0:Int)<=(32:Int))<|vs 52 (Al<|An AF<|AX (↑(c+Ag L k 0+Ag M k 0):Int) ((2:Int)^32)) (Al<|An AF (↑((c+Ag L k 0+Ag M k 0)/4294967296):Int)) (by simp(disch:=omega) only[zJ6])<|vrT 1<|vnil<|zD<|vN<|zB rfl<|vr 2 (i6 (↑k+1))<|vnil<|zC ?_;rotate_left;simp only[decide_eq_false_iff_not]at hc;refine vK<|vA<|vw 5 [49] [] (True/\(0:Int)<=(k:Int)/\(k:Int)<↑(Ad L+1))<|vo 50 0 k<|vr 1 (Ae=Ae/\Ab=Ab/\1=1/\k+1<=Ad (Ah dig cur)/\¬0∈[])<|vb 0 (Aq (setAt (Ah dig cur) k<|cellsOf<|dig ((c+Ag L k 0)%4294967296)) 36 1 Ab Ae AC) (Aq (Ah dig<|AG cur k ((c+Ag L k 0)%4294967296)) 36 1 Ab Ae AC) (by simp(disch:=omega) only[cellsOf,setAt,zFx])<|veT<|zB rfl<|vr 2 ((0:Int)<=(32:Int))<|vs 52 (Al<|An AF<|AX (↑(c+Ag L k 0):Int) ((2:Int)^32)) (Al<|An AF (↑((c+Ag L k 0)/4294967296):Int)) (by simp(disch:=omega) only[zJ6])<|vrT 1 ?_;refine vnil<|zD<|vN<|zB rfl<|vr 2 (i6 (↑k+1))<|vnil<|zC ?_;rotate_left;simp only[decide_eq_false_iff_not]at hc;refine vZ2<|vA<|vr 6 (u3 (c:Int)/\(0:Int)<=(Ad L:Int)/\(Ad L:Int)<(↑(Ad L+1):Int))<|vo 59 0 (Ad L)<|vr 1 (Ae=Ae/\Ab=Ab/\1=1/\Ad L+1<=Ad (Ah dig cur)/\¬0∈[])<|vb 0 (Aq (setAt (Ah dig cur) (Ad L)<|cellsOf<|dig c) 36 1 Ab Ae AC) (Aq (Ah dig<|AG cur (Ad L) c) 36 1 Ab Ae AC) (by simp(disch:=omega) only[cellsOf,setAt,zFx])<|veT<|zA ?_;refine zB rfl<|vrT 1<|vcl [Ao (As (Ad L+1)<|Am 0<|Ah dig<|AG cur (Ad L) c) (Ad L+1)] [Ao (Ah dig<|As (Ad L+1)<|AG cur (Ad L) c) (Ad L+1)] (LeL.of_eq (by simp(disch:=omega) only[A1,zHs])) (by exact zFt _ _ (by simp;omega) (by omega) ((h4.set _ _ (by omega) (by omega)).take _))<|veT<|zE ?_;refine vre (True) (natD<|nval<|As (Ad L+1)<|AG cur (Ad L) c) (.inr rfl) ?_;rotate_left
  ·obtain⟨s1,s2⟩:=zLd (by omega) h2 dL dS h5;refine⟨k+1,(c+L.getD k 0+M.getD k 0)/4294967296,cur.set k ((c+L.getD k 0+M.getD k 0)%4294967296),⟨by omega,s1,by simpa using h3,h4.set _ _ (by omega) (by omega),s2⟩,by omega,?_⟩;refine vk 1
  ·obtain⟨s1,s2⟩:=zLd (by omega) h2 dL dS h5;have e0:M.getD k 0=0:=by rw[AI,BH (by omega)];rfl
   rw[e0,A8]at s1 s2;refine⟨k+1,(c+L.getD k 0)/4294967296,cur.set k ((c+L.getD k 0)%4294967296),⟨by omega,s1,by simpa using h3,h4.set _ _ (by omega) (by omega),s2⟩,by omega,?_⟩;refine vk 1
  have ek:k=L.length:=by omega
  subst ek;have e1:nval ((cur.set L.length c).take (L.length+1))=nval a+nval b:=by
   rw[zBt,take_set,zJb _ _ _ _ (by omega),if_pos rfl,h5,BI,A2 (by omega),ev]
  rw[e1]
 ·have hS1:=lb;have hL1:=la;have dL:Digs (dg (nval a)):=zCb _;have dS:Digs (dg (nval b)):=zCb _;have ev:nval (dg (nval a))+nval (dg (nval b))=nval a+nval b:=by have:=zB9 (nval a);have:=zB9 (nval b);omega
  generalize (dg (nval a))=L at*;generalize (dg (nval b))=M at*;refine zC0 (λ(k:Nat)(c:Nat)(cur:List Nat)=>fr 62 [(0,digR L),(1,digR M),(4,nl),(5,Ap 0 0 (Ad L+1) (Ad L+1) Ab),(6,Al<|An AF (c:Int)),(24,iD<|Ad L),(25,iD k)]) (λk c cur=>[⟨cur.map dig,36,1,Ab,Ae,.plain⟩]) (λk c cur=>L.length-k) (λk c cur=>k<=L.length/\c<=1/\cur.length=L.length+1/\Digs cur/\nval (cur.take k)+4294967296^k*c=nval (L.take k)+nval (M.take k)) 0 0 (Az (L.length+1) 0) ?_ ?_ ?_
  ·grind [B9,nval]
  ·refine vk 1
  rintro k c cur ⟨h1,h2,h3,h4,h5⟩;have hx:=dL k;have hy:=dS k;focus
   refine vAu<|zA ?_;refine zAa (t:=decide ((k:Int)<↑(Ad L))) (by kernel_rfl) (λhc=>?_)<|λhc=>?_;simp only[decide_eq_true_eq]at hc;refine vKB<|vAe<|vA<|vr 4 (ix ↑k ↑(Ad L) (Ah dig L≠[])) (vp 31 k (Ah dig L)<|vr 1 (0<Ad (Am k<|Ah dig L))<|vs 32 (AB (Am k<|Ah dig L) Uk) (dig<|Ag L k 0) (by simp(disch:=omega) only[zB2]) ?_) ⟨(by omega),⟨(by omega),(by exact zAm (by omega))⟩⟩;refine ve (u6 (↑(Ag L k 0):Int)/\u6 ((c:Int)+(↑(Ag L k 0):Int)))<|zA<|vAe ?_;refine zAa (t:=decide ((k:Int)<↑(Ad M))) (by kernel_rfl) (λhc=>?_)<|λhc=>?_;simp only[decide_eq_true_eq]at hc;refine zB rfl<|vr 4 (ix ↑k ↑(Ad M) (Ah dig M≠[])) (vp 42 k (Ah dig M)<|vr 1 (0<Ad (Am k<|Ah dig M))<|vs 43 (AB (Am k<|Ah dig M) Uk) (dig<|Ag M k 0) (by simp(disch:=omega) only[zB2])<|ve (u6 (↑(Ag M k 0):Int)/\u6 ((↑(c+Ag L k 0):Int)+(↑(Ag M k 0):Int)))<|vA<|vw 5 [49] [] (True/\(0:Int)<=(k:Int)/\(k:Int)<↑(Ad L+1))<|vo 50 0 k<|vr 1 (Ae=Ae/\Ab=Ab/\1=1/\k+1<=Ad (Ah dig cur)/\¬0∈[])<|vb 0 (Aq (setAt (Ah dig cur) k<|cellsOf<|dig ((c+Ag L k 0+Ag M k 0)%4294967296)) 36 1 Ab Ae AC) (Aq (Ah dig<|AG cur k ((c+Ag L k 0+Ag M k 0)%4294967296)) 36 1 Ab Ae AC) (by simp(disch:=omega) only[cellsOf,setAt,zFx])<|veT<|zB rfl ?_) ⟨(by omega),⟨(by omega),(by exact zAm (by omega))⟩⟩;refine vr 2 ((0:Int)<=(32:Int))<|vs 52 (Al<|An AF<|AX (↑(c+Ag L k 0+Ag M k 0):Int) ((2:Int)^32)) (Al<|An AF (↑((c+Ag L k 0+Ag M k 0)/4294967296):Int)) (by simp(disch:=omega) only[zJ6])<|vrT 1<|vnil<|zD<|vN<|zB rfl<|vr 2 (i6 (↑k+1))<|vnil<|zC ?_;rotate_left;simp only[decide_eq_false_iff_not]at hc;refine vK<|vA<|vw 5 [49] [] (True/\(0:Int)<=(k:Int)/\(k:Int)<↑(Ad L+1))<|vo 50 0 k<|vr 1 (Ae=Ae/\Ab=Ab/\1=1/\k+1<=Ad (Ah dig cur)/\¬0∈[])<|vb 0 (Aq (setAt (Ah dig cur) k<|cellsOf<|dig ((c+Ag L k 0)%4294967296)) 36 1 Ab Ae AC) (Aq (Ah dig<|AG cur k ((c+Ag L k 0)%4294967296)) 36 1 Ab Ae AC) (by simp(disch:=omega) only[cellsOf,setAt,zFx])<|veT<|zB rfl<|vr 2 ((0:Int)<=(32:Int))<|vs 52 (Al<|An AF<|AX (↑(c+Ag L k 0):Int) ((2:Int)^32)) (Al<|An AF (↑((c+Ag L k 0)/4294967296):Int)) (by simp(disch:=omega) only[zJ6])<|vrT 1 ?_;refine vnil<|zD<|vN<|zB rfl<|vr 2 (i6 (↑k+1))<|vnil<|zC ?_;rotate_left;simp only[decide_eq_false_iff_not]at hc;refine vZ2<|vA<|vr 6 (u3 (c:Int)/\(0:Int)<=(Ad L:Int)/\(Ad L:Int)<(↑(Ad L+1):Int))<|vo 59 0 (Ad L)<|vr 1 (Ae=Ae/\Ab=Ab/\1=1/\Ad L+1<=Ad (Ah dig cur)/\¬0∈[])<|vb 0 (Aq (setAt (Ah dig cur) (Ad L)<|cellsOf<|dig c) 36 1 Ab Ae AC) (Aq (Ah dig<|AG cur (Ad L) c) 36 1 Ab Ae AC) (by simp(disch:=omega) only[cellsOf,setAt,zFx])<|veT<|zA ?_;refine zB rfl<|vrT 1<|vcl [Ao (As (Ad L+1)<|Am 0<|Ah dig<|AG cur (Ad L) c) (Ad L+1)] [Ao (Ah dig<|As (Ad L+1)<|AG cur (Ad L) c) (Ad L+1)] (LeL.of_eq (by simp(disch:=omega) only[A1,zHs])) (by exact zFt _ _ (by simp;omega) (by omega) ((h4.set _ _ (by omega) (by omega)).take _))<|veT<|zE ?_;refine vre (True) (natD<|nval<|As (Ad L+1)<|AG cur (Ad L) c) (.inr rfl) ?_;rotate_left
  ·obtain⟨s1,s2⟩:=zLd (by omega) h2 dL dS h5;refine⟨k+1,(c+L.getD k 0+M.getD k 0)/4294967296,cur.set k ((c+L.getD k 0+M.getD k 0)%4294967296),⟨by omega,s1,by simpa using h3,h4.set _ _ (by omega) (by omega),s2⟩,by omega,?_⟩;refine vk 1
  ·obtain⟨s1,s2⟩:=zLd (by omega) h2 dL dS h5;have e0:M.getD k 0=0:=by rw[AI,BH (by omega)];rfl
   rw[e0,A8]at s1 s2;refine⟨k+1,(c+L.getD k 0)/4294967296,cur.set k ((c+L.getD k 0)%4294967296),⟨by omega,s1,by simpa using h3,h4.set _ _ (by omega) (by omega),s2⟩,by omega,?_⟩;refine vk 1
  have ek:k=L.length:=by omega
  subst ek;have e1:nval ((cur.set L.length c).take (L.length+1))=nval a+nval b:=by
   rw[zBt,take_set,zJb _ _ _ _ (by omega),if_pos rfl,h5,BI,A2 (by omega),ev]
  rw[e1]
 all_goals omega
theorem nan_int(a:Int):Pure Ai 106 [.val (.int .i64 a)] [] (.val (.bool Ae)):=by
 refine zF zBm mixed Tryz.func106 rfl ?_;focus
  refine vAu<|vAe<|zE ?_;refine vre (True) (Al<|AL (a !=a)) (.inr rfl) (by simp)
abbrev q0_:=Al (An AH (-1))
abbrev q1_:=Al (An AH 1)
abbrev q2_:=Al (An AH 0)
theorem zYa(a b:Int):Pure Ai 66 [.val (.int .i64 a), .val (.int .i64 b)] [] (.val (.int .i64 (cmpD a b))):=by
 refine zF zBm mixed Tryz.func66 rfl ?_;focus
  refine vAu<|vA<|vrT 1<|vca [iD a] (by exact nan_int _)<|veT<|vA<|vrT 1<|vca [iD b] (by exact nan_int _)<|veT ?_;refine zA<|vAe<|vf<|vK<|zA<|vAe<|vf<|zQ ?_;refine vN<|zA<|vAe ?_;refine zAa (t:=decide (a<b)) (by kernel_rfl) (λhc=>?_)<|λhc=>?_;simp only[decide_eq_true_eq]at hc;refine vAe<|zE<|zG ?_;refine vre (True) (q0_) (.inr rfl) ?_;rotate_left;simp only[decide_eq_false_iff_not]at hc;refine vK<|zA<|vAe ?_;refine zAa (t:=decide (a>b)) (by kernel_rfl) (λhc=>?_)<|λhc=>?_;simp only[decide_eq_true_eq]at hc;refine vAe<|zE<|zG ?_;refine vre (True) (q1_) (.inr rfl) ?_;rotate_left;simp only[decide_eq_false_iff_not]at hc;refine vK<|vAe<|zE ?_;refine vre (True) (q2_) (.inr rfl) ?_;rotate_left
 all_goals grind [cmpD]
theorem zNx(a:Int):Pure Ai 107 [.val (.int .u32 a)] [] (.val (.bool Ae)):=by
 refine zF zBm mixed Tryz.func107 rfl ?_;focus
  refine vAu<|vAe<|zE ?_;refine vre (True) (Al<|AL (a !=a)) (.inr rfl) (by simp)
theorem zVm(a b:Int):Pure Ai 67 [.val (.int .u32 a), .val (.int .u32 b)] [] (.val (.int .i64 (cmpD a b))):=by
 refine zF zBm mixed Tryz.func67 rfl ?_;focus
  refine vAu<|vA<|vrT 1<|vca [Al<|An AW a] (by exact zNx _)<|veT<|vA<|vrT 1<|vca [Al<|An AW b] (by exact zNx _)<|veT ?_;refine zA<|vAe<|vf<|vK<|zA<|vAe<|vf<|zQ ?_;refine vN<|zA<|vAe ?_;refine zAa (t:=decide (a<b)) (by kernel_rfl) (λhc=>?_)<|λhc=>?_;simp only[decide_eq_true_eq]at hc;refine vAe<|zE<|zG ?_;refine vre (True) (q0_) (.inr rfl) ?_;rotate_left;simp only[decide_eq_false_iff_not]at hc;refine vK<|zA<|vAe ?_;refine zAa (t:=decide (a>b)) (by kernel_rfl) (λhc=>?_)<|λhc=>?_;simp only[decide_eq_true_eq]at hc;refine vAe<|zE<|zG ?_;refine vre (True) (q1_) (.inr rfl) ?_;rotate_left;simp only[decide_eq_false_iff_not]at hc;refine vK<|vAe<|zE ?_;refine vre (True) (q2_) (.inr rfl) ?_;rotate_left
 all_goals grind [cmpD]
theorem zR7(a:Int):Pure Ai 141 [.val (.int .i64 a)] [] (.val (.bool Ae)):=by
 refine zF zBm mixed Tryz.func141 rfl ?_;focus
  refine vAu<|vAe<|zE ?_;refine vre (True) (Al<|AL (a !=a)) (.inr rfl) (by simp)
theorem zZl(a b:Int):Pure Ai 127 [.val (.int .i64 a), .val (.int .i64 b)] [] (.val (.int .i64 (cmpD a b))):=by
 refine zF zBm mixed Tryz.func127 rfl ?_;focus
  refine vAu<|vA<|vrT 1<|vca [iD a] (by exact zR7 _)<|veT<|vA<|vrT 1<|vca [iD b] (by exact zR7 _)<|veT ?_;refine zA<|vAe<|vf<|vK<|zA<|vAe<|vf<|zQ ?_;refine vN<|zA<|vAe ?_;refine zAa (t:=decide (a<b)) (by kernel_rfl) (λhc=>?_)<|λhc=>?_;simp only[decide_eq_true_eq]at hc;refine vAe<|zE<|zG ?_;refine vre (True) (q0_) (.inr rfl) ?_;rotate_left;simp only[decide_eq_false_iff_not]at hc;refine vK<|zA<|vAe ?_;refine zAa (t:=decide (a>b)) (by kernel_rfl) (λhc=>?_)<|λhc=>?_;simp only[decide_eq_true_eq]at hc;refine vAe<|zE<|zG ?_;refine vre (True) (q1_) (.inr rfl) ?_;rotate_left;simp only[decide_eq_false_iff_not]at hc;refine vK<|vAe<|zE ?_;refine vre (True) (q2_) (.inr rfl) ?_;rotate_left
 all_goals grind [cmpD]
set_option maxHeartbeats 2000000 in
theorem mul_c(a b:List Nat)(n m:Nat)(hn:a.length=n)(hm:b.length=m)(hl:n<=1000000)(hl':m<=1000000)(ha:Digs a)(hb:Digs b):Pure Ai 86 [.row (a.map dig) n, .row (b.map dig) m] [] (natD (nval a*nval b)):=by
 subst hn hm;have la:=zMt ha;have lb:=zMt hb;refine zF zBm mixed Tryz.func86 rfl ?_;focus
  refine vAu<|vA<|vrT 1<|vc (zFt a _ rfl (by omega) ha)<|vrT 1<|vc (zFt b _ rfl (by omega) hb)<|veT<|vA<|vr 6 (i6 ((Ad (dg<|nval a):Int)+(Ad (dg<|nval b):Int))/\(0:Int)<=(↑(Ad (dg<|nval a)+Ad (dg<|nval b)):Int)/\(↑(Ad (dg<|nval a)+Ad (dg<|nval b)):Int)<=(↑(Ad (dg<|nval a)+Ad (dg<|nval b)):Int)/\(↑(4:Nat):Int)*(↑(Ad (dg<|nval a)+Ad (dg<|nval b)):Int)<=(281474976710656:Int)/\(↑(Ad (dg<|nval a)+Ad (dg<|nval b)):Int)<=(281474976710656:Int)/\0<1/\1=1) ?_;refine vb 0 (Aq (repL (Ay (↑(Ad (dg<|nval a)+Ad (dg<|nval b)):Int)) [Al<|An AW 0]) 36 1 Ab Ae<|kdOf Ae) (Aq (Ah dig<|Az (Ad (dg<|nval a)+Ad (dg<|nval b)) 0) 36 1 Ab Ae<|kdOf Ae) (by simp(disch:=omega) only[AQ,zPy])<|vrT 1<|vs 5 (Ap 0 0 (Ay (↑(Ad (dg<|nval a)+Ad (dg<|nval b)):Int)) (Ay (↑(Ad (dg<|nval a)+Ad (dg<|nval b)):Int)*1) Ab) (Ap 0 0 (Ad (dg<|nval a)+Ad (dg<|nval b)) (Ad (dg<|nval a)+Ad (dg<|nval b)) Ab) (by simp(disch:=omega) only[AQ,AS])<|veT<|zA<|vAe<|zH ?_;rotate_left
 have ev:nval a*nval b=nval (dg (nval a))*nval (dg (nval b)):=by rw[zB9,zB9]
 rw[ev];have dA:Digs (dg (nval a)):=zCb _;have dB:Digs (dg (nval b)):=zCb _;generalize dg (nval a)=A at*;generalize dg (nval b)=B at*;refine zGd (λ(i:Nat)(cur:List Nat)=>fr 71 [(0,digR A),(1,digR B),(4,nl),(5,Ap 0 0 (Ad A+Ad B) (Ad A+Ad B) Ab),(20,iD<|Ad A),(21,iD i)]) (λi cur=>[⟨cur.map dig,36,1,Ab,Ae,.plain⟩]) (λi cur=>A.length-i) (λi cur=>i<=A.length/\cur.length=A.length+B.length/\Digs cur/\(∀t,i+B.length<=t->cur.getD t 0=0)/\nval cur=nval (A.take i)*nval B) 0 (Az (A.length+B.length) 0) ?_ ?_ ?_
 ·refine⟨by simp,by simp,B9 _,λt _=>?_,?_⟩
  ·grind
  grind [zNe,nval]
 ·refine vk 1
 rintro i cur ⟨h1,h2,h3,h4,h5⟩;focus
  refine vAu<|zA ?_;refine zAa (t:=decide ((i:Int)<↑(Ad A))) (by kernel_rfl) (λhc=>?_)<|λhc=>?_;simp only[decide_eq_true_eq]at hc;refine vKB<|vAe<|vAe<|zA<|vA ?_;refine veT<|zH ?_;rotate_left;simp only[decide_eq_false_iff_not]at hc;refine vZ2<|vA<|vrT 1<|vcl [Ao (As (Ad A+Ad B)<|Am 0<|Ah dig cur) (Ad A+Ad B)] [Ao (Ah dig<|As (Ad A+Ad B) cur) (Ad A+Ad B)] (LeL.of_eq (by simp(disch:=omega) only[A1,zHs])) (by exact zFt _ _ (by simp;omega) (by omega) (h3.take _))<|veT<|zE ?_;refine vre (True) (natD<|nval<|As (Ad A+Ad B) cur) (.inr rfl) ?_;rotate_left
 ·refine zC0 (λ(j:Nat)(c:Nat)(cur':List Nat)=>fr 71 [(0,digR A),(1,digR B),(4,nl),(5,Ap 0 0 (Ad A+Ad B) (Ad A+Ad B) Ab),(6,iD (i:Int)),(7,Al<|An AF (c:Int)),(20,iD (Ad A:Int)),(21,iD (i:Int)),(25,iD (Ad B:Int)),(26,iD (j:Int))]) (λj c cur'=>[⟨cur'.map dig,36,1,Ab,Ae,.plain⟩]) (λj c cur'=>B.length-j) (λj c cur'=>j<=B.length/\c<4294967296/\zTe A B i j c cur') 0 0 cur ?_ ?_ ?_
  ·grind [mul_start]
  ·refine vk 1
  rintro j c cur' ⟨k1,k2,k3⟩;have hx:=dA i;have hy:=dB j;have hz:=k3.2.1 (i+j);have hw:=k3.1;obtain⟨b1,b2,b3⟩:=mul_bound hx hy k2 hz;focus
   refine vAu<|zA ?_;refine zAa (t:=decide ((j:Int)<↑(Ad B))) (by kernel_rfl) (λhc=>?_)<|λhc=>?_;simp only[decide_eq_true_eq]at hc;refine vKB<|vAe<|zA<|vd [0,1,2,3,6,7,8,12,13,14,15,16,4,5,9,10,11,17,18,19,20,21]<|vr 4 (ix ↑i ↑(Ad A) (Ah dig A≠[])) (vp 32 i (Ah dig A)<|vr 3 (ix ↑j ↑(Ad B) (Ah dig B≠[])) (vp 37 j (Ah dig B) ?_) ⟨(by omega),⟨(by omega),(by exact zAm (by omega))⟩⟩) ⟨(by omega),⟨(by omega),(by exact zAm (by omega))⟩⟩;refine vr 5 (i6 ((i:Int)+(j:Int))/\(0:Int)<=(↑(i+j):Int)/\(↑(i+j):Int)<(↑(Ad A+Ad B):Int))<|vo 45 0 (i+j)<|vr 1 (0<Ad (Am i<|Ah dig A))<|vs 33 (AB (Am i<|Ah dig A) Uk) (dig<|Ag A i 0) (by simp(disch:=omega) only[zB2])<|vr 2 (u6 (↑(Ag A i 0):Int)/\0<Ad (Am j<|Ah dig B))<|vs 38 (AB (Am j<|Ah dig B) Uk) (dig<|Ag B j 0) (by simp(disch:=omega) only[zB2])<|vr 3 (u6 (↑(Ag B j 0):Int)/\u6 ((↑(Ag A i 0):Int)*(↑(Ag B j 0):Int))/\0<Ad (Am (i+j)<|Ah dig cur'))<|vs 46 (AB (Am (i+j)<|Ah dig cur') Uk) (dig<|Ag cur' (i+j) 0) (by simp(disch:=omega) only[zB2])<|ve (u6 (↑(Ag cur' (i+j) 0):Int)/\u6 ((↑(Ag A i 0*Ag B j 0):Int)+(↑(Ag cur' (i+j) 0):Int))/\u6 ((c:Int)+(↑(Ag A i 0*Ag B j 0+Ag cur' (i+j) 0):Int)))<|vA<|vw 7 [55] [] (i6 ((i:Int)+(j:Int))/\True/\(0:Int)<=(↑(i+j):Int)/\(↑(i+j):Int)<(↑(Ad A+Ad B):Int))<|vo 56 0 (i+j)<|vr 1 (Ae=Ae/\Ab=Ab/\1=1/\i+j+1<=Ad (Ah dig cur')/\¬0∈[]) ?_;refine vb 0 (Aq (setAt (Ah dig cur') (i+j)<|cellsOf<|dig ((c+(Ag A i 0*Ag B j 0+Ag cur' (i+j) 0))%4294967296)) 36 1 Ab Ae AC) (Aq (Ah dig<|AG cur' (i+j) ((c+(Ag A i 0*Ag B j 0+Ag cur' (i+j) 0))%4294967296)) 36 1 Ab Ae AC) (by simp(disch:=omega) only[cellsOf,setAt,zFx])<|veT<|zB rfl<|vr 2 ((0:Int)<=(32:Int))<|vs 58 (Al<|An AF<|AX (↑(c+(Ag A i 0*Ag B j 0+Ag cur' (i+j) 0)):Int) ((2:Int)^32)) (Al<|An AF (↑((c+(Ag A i 0*Ag B j 0+Ag cur' (i+j) 0))/4294967296):Int)) (by simp(disch:=omega) only[zJ6])<|vrT 1<|vnil<|zD<|vN<|zB rfl<|vr 2 (i6 (↑j+1))<|vnil<|zC ?_;rotate_left;simp only[decide_eq_false_iff_not]at hc;refine vZ2<|zB rfl<|vr 8 (i6 ((i:Int)+(Ad B:Int))/\u3 (c:Int)/\(0:Int)<=(↑(i+Ad B):Int)/\(↑(i+Ad B):Int)<(↑(Ad A+Ad B):Int))<|vo 67 0 (i+Ad B)<|vr 1 (Ae=Ae/\Ab=Ab/\1=1/\i+Ad B+1<=Ad (Ah dig cur')/\¬0∈[])<|vb 0 (Aq (setAt (Ah dig cur') (i+Ad B)<|cellsOf<|dig c) 36 1 Ab Ae AC) (Aq (Ah dig<|AG cur' (i+Ad B) c) 36 1 Ab Ae AC) (by simp(disch:=omega) only[cellsOf,setAt,zFx])<|vnil<|zD<|zC ?_;refine zAw<|zB rfl<|vr 2 (i6 (↑i+1))<|vnil<|zC ?_;rotate_left
  ·refine⟨j+1,(c+(A.getD i 0*B.getD j 0+cur'.getD (i+j) 0))/4294967296,cur'.set (i+j) ((c+(A.getD i 0*B.getD j 0+cur'.getD (i+j) 0))%4294967296),⟨by omega,b3,mul_step (by omega) (by omega) k3⟩,by omega,?_⟩;refine vk 1
  have ej:j=B.length:=by omega
  subst ej;obtain⟨m1,m2,m3,m4⟩:=mul_end (by omega) k2 k3;refine⟨i+1,cur'.set (i+B.length) c,⟨by omega,m1,m2,m3,m4⟩,by omega,?_⟩;refine vk 1
 grind
theorem cmp_c(a b:List Nat)(n m:Nat)(hn:a.length=n)(hm:b.length=m)(hl:n<=1000000)(hl':m<=1000000)(ha:Digs a)(hb:Digs b):Pure Ai 27 [.row (a.map dig) n, .row (b.map dig) m] [] (.val (.int .i64 (cmpD (nval a) (nval b)))):=by
 subst hn hm;have la:=zMt ha;have lb:=zMt hb;refine zF zBm mixed Tryz.func27 rfl ?_;focus
  refine vAu<|vA<|vrT 1<|vc (zFt a _ rfl (by omega) ha)<|vrT 1<|vc (zFt b _ rfl (by omega) hb)<|veT<|zA<|vA ?_;refine veT ?_;refine zAa (t:=(Ad (dg (nval a)):Int)!=(Ad (dg (nval b)):Int)) (by kernel_rfl) (λhc=>?_)<|λhc=>?_;simp only[bne_iff_ne]at hc;refine vA<|vrT 4<|vca [iD (Ad (dg<|nval a):Int),iD (Ad (dg<|nval b):Int)] (by exact zYa _ _)<|veT<|zE<|zG ?_;refine vre (True) (Al<|An AH<|cmpD (Ad (dg<|nval a):Int) (Ad (dg<|nval b):Int)) (.inr rfl) ?_;rotate_left;simp only[bne_eq_false_iff_eq]at hc;refine vK<|zA<|vA<|ve (i6 ((Ad (dg<|nval a):Int)-(1:Int)))<|zH ?_;rotate_left
 ·congr 2;grind [normal_dg,nval,zB9,cmpD_eq,Normal.lt_of_length,zCb]
 have ev:cmpD (nval a) (nval b)=cmpD (nval (dg (nval a))) (nval (dg (nval b))):=by rw[zB9,zB9]
 rw[ev];have dA:Digs (dg (nval a)):=zCb _;have dB:Digs (dg (nval b)):=zCb _;generalize dg (nval a)=A at*;generalize dg (nval b)=B at*;refine zK (λ(n:Nat)=>fr 45 [(0,digR A),(1,digR B),(5,iD (↑n-1))]) (λ_=>[]) (λn=>n) (λn=>n<=A.length/\A.drop n=B.drop n) A.length ?_ ?_ ?_
 ·exact⟨Ak _,by rw[B_,BJ (by omega)]⟩
 ·refine vk 0
 rintro n ⟨h1,h2⟩;focus
  refine zA<|vAu ?_;refine zAa (t:=decide ((n:Int)-(1:Int)>=(0:Int))) (by kernel_rfl) (λhc=>?_)<|λhc=>?_;simp only[decide_eq_true_eq]at hc;refine vKB<|zA<|vd [0,1,2,4,5,6,3,7,8]<|vrT 2<|vs 28 (iD (↑n-1)) (iD ↑(n-1)) (by simp(disch:=omega) only[zD1])<|vr 1 (ix ↑(n-1) ↑(Ad A) (Ah dig A≠[])) (vp 29 (n-1) (Ah dig A)<|vrT 2<|vs 32 (iD (↑n-1)) (iD ↑(n-1)) (by simp(disch:=omega) only[zD1])<|vr 1 (ix ↑(n-1) ↑(Ad B) (Ah dig B≠[])) ?_ ⟨(by omega),⟨(by omega),(by exact zAm (by omega))⟩⟩) ⟨(by omega),⟨(by omega),(by exact zAm (by omega))⟩⟩;refine vp 33 (n-1) (Ah dig B)<|vr 1 (0<Ad (Am (n-1)<|Ah dig A))<|vs 30 (AB (Am (n-1)<|Ah dig A) Uk) (dig<|Ag A (n-1) 0) (by simp(disch:=omega) only[zB2])<|vr 1 (0<Ad (Am (n-1)<|Ah dig B))<|vs 34 (AB (Am (n-1)<|Ah dig B) Uk) (dig<|Ag B (n-1) 0) (by simp(disch:=omega) only[zB2])<|veT ?_;refine zAa (t:=(↑(Ag A (n-1) 0):Int)!=(↑(Ag B (n-1) 0):Int)) (by kernel_rfl) (λhc=>?_)<|λhc=>?_;simp only[bne_iff_ne]at hc;refine zA<|vd [0,1,2,4,5,6,3,7,8,9]<|vrT 2<|vs 37 (iD (↑n-1)) (iD ↑(n-1)) (by simp(disch:=omega) only[zD1])<|vr 1 (ix ↑(n-1) ↑(Ad A) (Ah dig A≠[])) (vp 38 (n-1) (Ah dig A)<|vrT 2<|vs 41 (iD (↑n-1)) (iD ↑(n-1)) (by simp(disch:=omega) only[zD1])<|vr 1 (ix ↑(n-1) ↑(Ad B) (Ah dig B≠[])) (vp 42 (n-1) (Ah dig B)<|vr 1 (0<Ad (Am (n-1)<|Ah dig A))<|vs 39 (AB (Am (n-1)<|Ah dig A) Uk) (dig<|Ag A (n-1) 0) (by simp(disch:=omega) only[zB2])<|vr 1 (0<Ad (Am (n-1)<|Ah dig B))<|vs 43 (AB (Am (n-1)<|Ah dig B) Uk) (dig<|Ag B (n-1) 0) (by simp(disch:=omega) only[zB2]) ?_) ⟨(by omega),⟨(by omega),(by exact zAm (by omega))⟩⟩) ⟨(by omega),⟨(by omega),(by exact zAm (by omega))⟩⟩;refine vca [dig<|Ag A (n-1) 0,dig<|Ag B (n-1) 0] (by exact zVm _ _)<|veT<|zE<|zL<|zG<|zG<|zL<|zG ?_;refine vre (True) (Al<|An AH<|cmpD (↑(Ag A (n-1) 0):Int) (↑(Ag B (n-1) 0):Int)) (.inr rfl) ?_;rotate_left;simp only[bne_eq_false_iff_eq]at hc;refine zQ<|zD<|vN<|zB rfl<|vrT 1<|vs 25 (iD (↑n-1)) (iD ↑(n-1)) (by simp(disch:=omega) only[zD1])<|vr 2 (i6 (↑(n-1)-1))<|vnil<|zC ?_;rotate_left;simp only[decide_eq_false_iff_not]at hc;refine vZ2<|vAe<|zE ?_;refine vre (True) (q2_) (.inr rfl) ?_;rotate_left
 ·have h3:A.drop (n-1+1)=B.drop (n-1+1):=by rw[show n-1+1=n by omega];exact h2
  congr 2;grind [cmpD_eq,zKu]
 ·refine⟨n-1,⟨by omega,?_⟩,by omega,?_⟩
  ·grind [zSw]
  refine vk 0
 have e0:n=0:=by omega
 grind [cmpD]
theorem zYw:(Cb #[]).toList=[]:=by rw[Ce]
theorem str_empty(l:List UInt8):(l==[])=l.isEmpty:=by cases l<;>rfl
theorem zV8(v:Va):Pure Ai 83 [vaD v] [] (bD (vok v)):=by
 refine zF zBm mixed Tryz.func83 rfl ?_;focus
  refine vAu<|zA<|vA<|ve (True/\0<3)<|zH<|vAe ?_;refine zAa (t:=Va.kind v==(1:Int)) (by kernel_rfl) (λhc=>?_)<|λhc=>?_;simp only[beq_iff_eq]at hc;refine vA<|vr 3 (True/\0<1/\True)<|vs 9 (bD (ByteArray.toList (bs<|Va.str v)==ByteArray.toList (Cb #[]))) (bD (Va.str v==[])) (by simp(disch:=omega) only[bs_toList,zYw])<|veT<|zE<|zL<|zG ?_;refine vre (True) (Al<|AL (Va.str v==[])) (.inr rfl) ?_;rotate_left;simp only[beq_eq_false_iff_ne]at hc;refine vAe ?_;refine zAa (t:=Va.kind v==(2:Int)) (by kernel_rfl) (λhc=>?_)<|λhc=>?_;simp only[beq_iff_eq]at hc;refine vA<|vr 4 (True/\0<2/\True) ?_;refine vsp 15 (Va.int v==(0:Int)) (λhc=>?_)<|λhc=>?_;simp only[beq_iff_eq]at hc;refine ve (True/\0<1)<|zE<|zL<|zG ?_;refine vre (True) (Al<|AL<|decide ((Ad (Va.str v):Int)<=(24:Int))) (.inr rfl) ?_;rotate_left;simp only[beq_eq_false_iff_ne]at hc;refine veT<|zE<|zL<|zG ?_;refine vre (True) (Al<|AL Ae) (.inr rfl) ?_;rotate_left;simp only[beq_eq_false_iff_ne]at hc;refine zQ<|zD<|vN<|vAe<|zE ?_;refine vre (True) (Al<|AL Ae) (.inr rfl) ?_;rotate_left
 ·grind [str_empty,vok]
 ·congr 2;grind [vok]
 all_goals grind [vok]
theorem zDp(a b:Va):Pure Ai 103 [vaD a,vaD b] [] (iD (vcmp a b)):=by
 refine zF zBm mixed Tryz.func103 rfl ?_;focus
  refine vAu<|zA<|vA<|ve (True/\0<3/\True/\0<3/\True) ?_;refine zAa (t:=Va.kind a !=Va.kind b) (by kernel_rfl) (λhc=>?_)<|λhc=>?_;simp only[bne_iff_ne]at hc;refine vA<|vr 4 (True/\0<3/\True/\0<3)<|vca [iD<|Va.kind a,iD<|Va.kind b] (by exact zYa _ _)<|veT<|zE<|zG ?_;refine vre (True) (Al<|An AH<|cmpD (Va.kind a)<|Va.kind b) (.inr rfl) ?_;rotate_left;simp only[bne_eq_false_iff_eq]at hc;refine vK<|zA<|vA<|ve (True/\0<2/\True/\0<2/\True) ?_;refine zAa (t:=Va.int a !=Va.int b) (by kernel_rfl) (λhc=>?_)<|λhc=>?_;simp only[bne_iff_ne]at hc;refine vA<|vr 4 (True/\0<2/\True/\0<2)<|vca [iD<|Va.int a,iD<|Va.int b] (by exact zZl _ _)<|veT<|zE<|zG ?_;refine vre (True) (Al<|An AH<|cmpD (Va.int a)<|Va.int b) (.inr rfl) ?_;rotate_left;simp only[bne_eq_false_iff_eq]at hc;refine vK<|vA<|vr 4 (True/\0<1/\True/\0<1)<|vca [Al<|A_<|bs<|Va.str a,Al<|A_<|bs<|Va.str b] (by exact scmp_c _ _)<|veT<|zE ?_;refine vre (True) (Al<|An AH<|Aw (Va.str a)<|Va.str b) (.inr rfl) ?_;rotate_left
 all_goals simp [vcmp, *]
theorem zGw(r:List Va)(i:Nat)(h:i<r.length):3<=(Am (i*3) (zJ r)).length:=by
 grind [BZ,zA0]
theorem all_step{α:Type}(p:α->Bool)(d:α)(l:List α)(i:Nat)(h:i<l.length):(l.take (i+1)).all p=((l.take i).all p&&p (l.getD i d)):=by
 grind [A7,AA]
abbrev q3_(x0:List Va):=Ao (zJ x0) (Ad x0)
set_option maxHeartbeats 1000000 in
theorem rvalid_c(r:List Va)(n:Nat)(hn:r.length=n)(hl:n<=1000000000):Pure Ai 122 [.row (zJ r) n] [] (bD (r.all vok)):=by
 subst hn;refine zF zBm mixed Tryz.func122 rfl ?_;focus
  refine vAu<|zA<|vAe<|zH ?_;rotate_left
 refine zK (λ(i:Nat)=>fr 16 [(0,(q3_ r)),(5,iD<|Ad r),(6,iD i)]) (λ_=>[]) (λi=>r.length-i) (λi=>i<=r.length/\(r.take i).all vok=Ab) 0 ?_ ?_ ?_
 ·grind
 ·refine vk 0
 rintro i ⟨h1,h2⟩;focus
  refine vAu<|zA ?_;refine zAa (t:=decide ((i:Int)<↑(Ad r))) (by kernel_rfl) (λhc=>?_)<|λhc=>?_;simp only[decide_eq_true_eq]at hc;refine vKB<|vAe<|vA<|vr 4 (ix ↑i ↑(Ad r) (zJ r≠[])/\3<=Ad (Am (i*3)<|zJ r)) (vs 12 (AM<|As 3<|Am (i*3)<|zJ r) (AM<|vaC<|Ag r i Aj) (by simp(disch:=omega) only[zDs])<|vca [AM [iD<|Va.kind<|Ag r i Aj,iD<|Va.int<|Ag r i Aj,Al<|A_<|bs<|Va.str<|Ag r i Aj]] (by exact zV8 _)<|veT ?_) ⟨⟨(by omega),⟨(by omega),(by exact zHp _ (by omega))⟩⟩,(by exact zGw _ _ (by omega))⟩;refine zAa (t:=!vok (Ag r i Aj)) (by kernel_rfl) (λhc=>?_)<|λhc=>?_;simp only[Bj]at hc;refine vAe<|zE<|zL<|zG<|zG<|zL<|zG ?_;refine vre (True) (Al<|AL Ae) (.inr rfl) ?_;rotate_left;simp only[Bool.not_eq_false']at hc;refine zQ<|zD<|vN<|zB rfl<|vr 2 (i6 (↑i+1))<|vnil<|zC ?_;rotate_left;simp only[decide_eq_false_iff_not]at hc;refine vZ2<|vAe<|zE ?_;refine vre (True) (Al<|AL Ab) (.inr rfl) ?_;rotate_left
 ·grind
 ·refine⟨i+1,⟨by omega,?_⟩,by omega,?_⟩
  ·grind [all_step,vok]
  refine vk 0
 grind
def zLx:List Va->List Va->List Bool->Int
 |[],[],_=>0
 |[],_::_,_=>-1
 |_::_,[],_=>1
 |a::r,b::s,ds=>if vcmp a b=0 then zLx r s ds.tail else if ds.headD Ae then-vcmp a b else vcmp a b
theorem zRx:∀(a b:List Va),zLx a b []=rcmp a b
 |[],[]=>rfl
 |[],_::_=>rfl
 |_::_,[]=>rfl
 |a::r,b::s=>by simp only[zLx,rcmp,List.tail_nil,List.headD_nil,AK,if_false];rw[zRx r s]
theorem zJp:∀(i:Nat)(a b:List Va)(ds:List Bool),i<=a.length->i<=b.length->a.take i=b.take i->zLx a b ds=zLx (a.drop i) (b.drop i) (ds.drop i)
 |0,_,_,_,_,_,_=>rfl
 |i+1,[],b,_,h,_,_=>by simp at h
 |i+1,_::_,[],_,_,h,_=>by simp at h
 |i+1,x::a,y::b,ds,h1,h2,h3=>by
  simp only[List.take_succ_cons,List.cons.injEq]at h3;obtain⟨rfl,h3⟩:=h3;rw[zLx,if_pos ((zA8 x x).2.1.2 rfl),zJp i a b ds.tail (by simpa using h1) (by simpa using h2) h3];cases ds<;>simp
theorem zP1(i:Nat)(a b:List Va)(ds:List Bool)(ha:i<a.length)(hb:i<b.length)(h:a.take i=b.take i)(hv:vcmp (a.getD i Aj) (b.getD i Aj)≠0):zLx a b ds=if ds.getD i Ae then-vcmp (a.getD i Aj) (b.getD i Aj)else vcmp (a.getD i Aj) (b.getD i Aj):=by
 rw[zJp i a b ds (by omega) (by omega) h,By ha,By hb];simp only[AI,AA ha,AA hb,BK]at hv⊢;grind [zLx,List.head?_drop]
theorem headD_bl(l:List Bool)(k:Nat)(h:k<l.length):((l.map bD).drop k).headD .unk=bD (l.getD k Ae):=zBf bD l Ae k h
theorem rcmp_end(a b:List Va)(i:Nat)(ds:List Bool)(ha:i<=a.length)(hb:i<=b.length)(h:a.take i=b.take i)(he:i=a.length\/i=b.length):zLx a b ds=if a.length<b.length then-1 else if a.length>b.length then 1 else 0:=by
 rw[zJp i a b ds ha hb h];rcases he with rfl|rfl
 ·rw[B_];cases hc:b.drop a.length with
  |nil=>
   have:=congrArg Ad hc
   simp at this;rw[if_neg (by omega),if_neg (by omega)];rfl
  |cons x r=>
   have:=congrArg Ad hc
   simp at this;rw[if_pos (by omega)];rfl
 rw[B_];cases hc:a.drop b.length with
 |nil=>
  have:=congrArg Ad hc
  simp at this;rw[if_neg (by omega),if_neg (by omega)];rfl
 |cons x r=>
  have:=congrArg Ad hc
  simp at this;rw[if_neg (by omega),if_pos (by omega)];rfl
set_option maxHeartbeats 2000000 in
theorem zRu(a b:List Va)(ds:List Bool)(n m k:Nat)(hn:a.length=n)(hm:b.length=m)(hk:ds.length=k)(ln:n<=1000000000)(lm:m<=1000000000)(lk:k<=1000000000):Pure Ai 137 [.row (zJ a) n, .row (zJ b) m, .row (ds.map bD) k] [] (iD (zLx a b ds)):=by
 subst hn hm hk;refine zF zBm mixed Tryz.func137 rfl ?_;focus
  refine vAu<|zA<|vAe<|zH ?_;rotate_left
 refine zK (λ(i:Nat)=>fr 54 [(0,(q3_ a)),(1,(q3_ b)),(2,Ao (Ah bD ds)<|Ad ds),(13,iD (if(Ad b:Int)<(Ad a:Int)then(Ad b:Int)else(Ad a:Int))),(14,iD i)]) (λ_=>[]) (λi=>a.length-i) (λi=>i<=a.length/\i<=b.length/\a.take i=b.take i) 0 ?_ ?_ ?_
 ·grind
 ·refine vk 0
 rintro i ⟨h1,h2,h3⟩;have hv:=(zA8 (a.getD i Aj) (b.getD i Aj)).1;focus
  refine vAu<|zA ?_;refine zAa (t:=decide ((i:Int)<if(Ad b:Int)<(Ad a:Int)then(Ad b:Int)else(Ad a:Int))) (by kernel_rfl) (λhc=>?_)<|λhc=>?_;simp only[decide_eq_true_eq]at hc;refine vKB<|vAe<|zA<|vd [0,1,2,4,5,6,3,7,8,9]<|vr 7 (ix ↑i ↑(Ad a) (zJ a≠[])/\ix ↑i ↑(Ad b) (zJ b≠[])/\3<=Ad (Am (i*3)<|zJ a)) (vs 20 (AM<|As 3<|Am (i*3)<|zJ a) (AM<|vaC<|Ag a i Aj) (by simp(disch:=omega) only[zDs])<|vr 1 (3<=Ad (Am (i*3)<|zJ b)) (vs 24 (AM<|As 3<|Am (i*3)<|zJ b) (AM<|vaC<|Ag b i Aj) (by simp(disch:=omega) only[zDs]) ?_) (by exact zGw _ _ (by omega))) ⟨⟨(by omega),⟨(by omega),(by exact zHp _ (by omega))⟩⟩,⟨(by omega),⟨(by omega),(by exact zHp _ (by omega))⟩⟩,(by exact zGw _ _ (by omega))⟩;refine vca [AM [iD<|Va.kind<|Ag a i Aj,iD<|Va.int<|Ag a i Aj,Al<|A_<|bs<|Va.str<|Ag a i Aj],AM [iD<|Va.kind<|Ag b i Aj,iD<|Va.int<|Ag b i Aj,Al<|A_<|bs<|Va.str<|Ag b i Aj]] (by exact zDp _ _)<|veT<|zA<|vAe ?_;refine zAa (t:=vcmp (Ag a i Aj) (Ag b i Aj)==(0:Int)) (by kernel_rfl) (λhc=>?_)<|λhc=>?_;simp only[beq_iff_eq]at hc;refine vZ<|zB rfl<|vr 2 (i6 (↑i+1))<|vnil<|zC ?_;rotate_left;simp only[beq_eq_false_iff_ne]at hc;refine vK<|zA<|vA<|vrT 5 ?_;refine vsp 32 (decide ((i:Int)<↑(Ad ds))) (λhc=>?_)<|λhc=>?_;simp only[decide_eq_true_eq]at hc;refine vr 3 (ix ↑i ↑(Ad ds) (Ah bD ds≠[])) (vp 35 i (Ah bD ds)<|vr 1 (0<Ad (Am i<|Ah bD ds))<|vs 36 (AB (Am i<|Ah bD ds) Uk) (bD<|Ag ds i Ae) (by simp(disch:=omega) only[headD_bl])<|veT ?_) ⟨(by omega),⟨(by omega),(by exact zAm (by omega))⟩⟩;refine zAa (t:=Ag ds i Ae) (by kernel_rfl) (λhc=>?_)<|λhc=>?_;refine vA<|ve (i6 ((0:Int)-vcmp (Ag a i Aj) (Ag b i Aj)))<|zE<|zG<|zL<|zG<|zG<|zL<|zG ?_;refine vre (True) (Al<|An AH ((0:Int)-vcmp (Ag a i Aj) (Ag b i Aj))) (.inr rfl) ?_;rotate_left;refine vK<|vAe<|zE<|zL<|zG<|zG<|zL<|zG ?_;refine vre (True) (Al<|An AH<|vcmp (Ag a i Aj)<|Ag b i Aj) (.inr rfl) ?_;rotate_left;simp only[decide_eq_false_iff_not]at hc;refine veT<|vf<|vK<|vAe<|zE<|zL<|zG<|zG<|zL<|zG ?_;refine vre (True) (Al<|An AH<|vcmp (Ag a i Aj)<|Ag b i Aj) (.inr rfl) ?_;rotate_left;simp only[decide_eq_false_iff_not]at hc;refine vZ2<|vB<|vAe ?_;refine zAa (t:=decide ((Ad a:Int)<(Ad b:Int))) (by kernel_rfl) (λhc=>?_)<|λhc=>?_;simp only[decide_eq_true_eq]at hc;refine vAe<|zE<|zL<|zG ?_;refine vre (True) (q0_) (.inr rfl) ?_;rotate_left;simp only[decide_eq_false_iff_not]at hc;refine vAe ?_;refine zAa (t:=decide ((Ad a:Int)>(Ad b:Int))) (by kernel_rfl) (λhc=>?_)<|λhc=>?_;simp only[decide_eq_true_eq]at hc;refine vAe<|zE<|zL<|zG ?_;refine vre (True) (q1_) (.inr rfl) ?_;rotate_left;simp only[decide_eq_false_iff_not]at hc;refine zQ<|zD<|vN<|vAe<|zE ?_;refine vre (True) (q2_) (.inr rfl) ?_;rotate_left
 ·refine⟨i+1,⟨by omega,by omega,?_⟩,by omega,?_⟩
  ·grind [zRc]
  refine vk 0
 ·grind [zP1,Int.zero_sub]
 ·grind [zP1]
 ·rw[zP1 i a b ds (by omega) (by omega) h3 (by assumption),if_neg];grind
 all_goals grind [rcmp_end]
theorem zJo(a b:List Va)(n m:Nat)(hn:a.length=n)(hm:b.length=m)(ln:n<=1000000000)(lm:m<=1000000000):Pure Ai 120 [.row (zJ a) n, .row (zJ b) m] [] (iD (rcmp a b)):=by
 refine zF zBm mixed Tryz.func120 rfl ?_;focus
  refine vAu<|vA<|vrT 2<|vcl [Ao (zJ a) n,Ao (zJ b) m,nl] [Ao (zJ a) n,Ao (zJ b) m,Ao [] 0] (LeL.trans (LeL.refl _)<|LeL.cons (LeD.refl _)<|LeL.cons (LeD.refl _)<|LeL.cons LeD.nil_row LeL.nil) (by exact zRu a b [] _ _ 0 hn hm rfl ln lm (by omega))<|veT<|zE ?_;refine vre (True) (Al<|An AH<|zLx a b []) (.inr rfl) ?_;rotate_left
 rw[zRx]
theorem zE8(a b:List Va)(n m:Nat)(hn:a.length=n)(hm:b.length=m)(ln:n<=1000000000)(lm:m<=1000000000):Pure Ai 99 [.row (zJ a) n, .row (zJ b) m] [] (bD (decide (a=b))):=by
 refine zF zBm mixed Tryz.func99 rfl ?_;focus
  refine vAu<|vA<|vrT 2<|vc (zJo a b _ _ hn hm ln lm)<|veT<|zE ?_;refine vre (True) (Al<|AL (rcmp a b==(0:Int))) (.inr rfl) ?_;rotate_left
 congr 2;rw[Bool.eq_iff_iff];simp[(zBk a b).2.1]
abbrev vaB(l:List Va):Bk:=⟨zJ l,64,3,Ab,Ae, .plain⟩
theorem repL_va(n:Nat):repL n [.val (.int .i64 0), .val (.int .i64 0), .val (.string ⟨#[]⟩)]=zJ (Az n ⟨0,0,[]⟩):=by
 induction n with
 |zero=>rfl
 |succ n ih=>simp only[repL,BP,BW]at ih⊢;rw[ih];rfl
def zT(r:List Va)(cols:List Nat):List Va:=cols.map λc=>r.getD c Aj
theorem set3_va(r:List Va)(i:Nat)(v:Va)(h:i<r.length):(((zJ r).set (i*3) (iD v.kind)).set (i*3+1) (iD v.int)).set (i*3+1+1) (strD v.str)=zJ (r.set i v):=zPd r i v h
theorem zRd(r:List Va)(n:Nat)(h:r.length=n):(zJ r).take (n*3)=zJ r:=by grind [A2,zA0]
theorem zGl:kdOf Ae= .plain:=rfl
theorem set_step{α:Type}{a b:List α}{i:Nat}(d:α)(ha:i<a.length)(hb:i<b.length)(h:a.take i=b.take i):(a.set i (b.getD i d)).take (i+1)=b.take (i+1):=by
 rw[A7 (by simpa using ha),A7 hb,List.take_set_of_le (Ak _),h,List.getElem_set_self,AI,AA hb];rfl
theorem zY5(r:List Va)(cols:List Nat)(i:Nat)(h:i<cols.length):(zT r cols).getD i Aj=r.getD (cols.getD i 0) default:=by
 simp only[zT,AI,List.getElem?_map,AA h,Br,BK]
set_option maxHeartbeats 2000000 in
theorem zY1(r:List Va)(cols:List Nat)(n m:Nat)(hn:r.length=n)(hm:cols.length=m)(ln:n<=1000000000)(lm:m<=100000)(hc:∀c∈cols,c<r.length):Pure Ai 143 [.row (zJ r) n, .row (cols.map λc=>iD (c:Nat)) m] [] (.tup [.row (zJ (zT r cols)) m,iD 0]):=by
 subst hn hm;have hci:∀i,i<cols.length->cols.getD i 0<r.length:=λi h=>by
  simp_all
 have hd:∀i,i<cols.length->((cols.map λc=>iD ((c:Nat):Int)).drop i).headD .unk=iD (cols.getD i 0:Nat):=λi h=>zBf (λc:Nat=>iD (c:Int)) cols 0 i h;refine zF zBm mixed Tryz.func143 rfl ?_;focus
  refine vAu<|zA<|vAe<|zH ?_;rotate_left
 refine zK (λ(i:Nat)=>fr 49 [(0,(q3_ r)),(1,Ao (Ah (λ(c:Nat)=>iD c) cols)<|Ad cols),(10,iD<|Ad cols),(11,iD i)]) (λ_=>[]) (λi=>cols.length-i) (λi=>i<=cols.length) 0 ?_ ?_ ?_
 ·omega
 ·refine vk 0
 rintro i h1;have hi:=hci i;focus
  refine vAu<|zA ?_;refine zAa (t:=decide ((i:Int)<↑(Ad cols))) (by kernel_rfl) (λhc=>?_)<|λhc=>?_;simp only[decide_eq_true_eq]at hc;refine vKB<|vAe<|vA<|vr 3 (ix ↑i ↑(Ad cols) (Ah (λ(c:Nat)=>iD c) cols≠[])) (vp 16 i (Ah (λ(c:Nat)=>iD c) cols)<|vr 1 (0<Ad (Am i<|Ah (λ(c:Nat)=>iD c) cols))<|vs 17 (AB (Am i<|Ah (λ(c:Nat)=>iD c) cols) Uk) (iD ↑(Ag cols i 0)) (by simp(disch:=omega) only[hd]) ?_) ⟨(by omega),⟨(by omega),(by exact zAm (by omega))⟩⟩;refine vw 5 [] [(5,Ae)] (decide ((↑(Ag cols i 0):Int)<0)=Ae/\ix ↑i ↑(Ad cols) (Ah (λ(c:Nat)=>iD c) cols≠[])) (vp 22 i (Ah (λ(c:Nat)=>iD c) cols)<|vr 1 (0<Ad (Am i<|Ah (λ(c:Nat)=>iD c) cols))<|vs 23 (AB (Am i<|Ah (λ(c:Nat)=>iD c) cols) Uk) (iD ↑(Ag cols i 0)) (by simp(disch:=omega) only[hd])<|veT<|vF ((↑(Ag cols i 0):Int)>=(Ad r:Int))<|zQ<|zD<|vN<|zB rfl<|vr 2 (i6 (↑i+1))<|vnil<|zC ?_) ⟨(by kernel_rfl),⟨(by omega),⟨(by omega),(by exact zAm (by omega))⟩⟩⟩;rotate_left;simp only[decide_eq_false_iff_not]at hc;refine vZ2<|vA<|ve ((0:Int)<=(Ad cols:Int)/\(Ad cols:Int)<=(Ad cols:Int)/\(↑(32:Nat):Int)*(Ad cols:Int)<=(281474976710656:Int)/\(Ad cols:Int)<=(281474976710656:Int)/\0<3/\3=3)<|zA<|vAe<|zH ?_;rotate_left
 ·refine⟨i+1,by omega,by omega,?_⟩;refine vk 0
 refine zGd (λ(i:Nat)(cur:List Va)=>fr 49 [(0,(q3_ r)),(1,Ao (Ah (λ(c:Nat)=>iD c) cols)<|Ad cols),(7,Ap 0 0 (Ad cols) (Ad cols*3) Ab),(33,iD<|Ad cols),(34,iD i)]) (λi cur=>[vaB cur]) (λi cur=>cols.length-i) (λi cur=>i<=cols.length/\cur.length=cols.length/\cur.take i=(zT r cols).take i) 0 (Az cols.length<|Va.mk 0 0 []) ?_ ?_ ?_
 ·grind
 ·refine wkn (fr 49 [(0,Ao (zJ r) (Ad r)),(1,Ao (Ah (λ(c:Nat)=>iD (↑c:Int)) cols) (Ad cols)),(7,Ap 0 0 (Ad cols) (Ad cols*3) Ab),(33,iD (↑(Ad cols):Int)),(34,iD 0)]) [Aq (repL (Ad cols) [iD 0,iD 0,Al (A_ (Cb #[]))]) 64 3 Ab Ae (kdOf Ae)] (zC8 [(0,1),(1,1),(7,1),(33,1),(34,1)] (Ao (zJ r) (Ad r)=Ao (zJ r) (Ad r)/\Ao (Ah (λ(c:Nat)=>iD (↑c:Int)) cols) (Ad cols)=Ao (Ah (λ(c:Nat)=>iD (↑c:Int)) cols) (Ad cols)/\Ap 0 0 (Ad cols) (Ad cols*3) Ab=Ap 0 0 (Ad cols) (Ad cols*3) Ab/\iD (↑(Ad cols):Int)=iD (↑(Ad cols):Int)/\iD 0=iD (↑(0:Nat):Int)) 1 [] ⟨rfl,rfl,rfl,rfl,(by kernel_rfl)⟩ (λ_ _=>rfl) (e:=by simp[updB,repL_va,zGl]))
 rintro j cur ⟨k1,k2,k3⟩;have hj:=hci j;focus
  refine vAu<|zA ?_;refine zAa (t:=decide ((j:Int)<↑(Ad cols))) (by kernel_rfl) (λhc=>?_)<|λhc=>?_;simp only[decide_eq_true_eq]at hc;refine vKB<|vAe<|zB rfl<|vr 6 (ix ↑j ↑(Ad cols) (Ah (λ(c:Nat)=>iD c) cols≠[])) (vp 42 j (Ah (λ(c:Nat)=>iD c) cols)<|vr 1 (0<Ad (Am j<|Ah (λ(c:Nat)=>iD c) cols))<|vs 43 (AB (Am j<|Ah (λ(c:Nat)=>iD c) cols) Uk) (iD ↑(Ag cols j 0)) (by simp(disch:=omega) only[hd])<|vr 2 (ix ↑(Ag cols j 0) ↑(Ad r) (zJ r≠[])/\3<=Ad (Am (Ag cols j 0*3)<|zJ r)) ?_ ⟨⟨(by omega),⟨(by omega),(by exact zHp _ (by omega))⟩⟩,(by exact zGw _ _ (by omega))⟩) ⟨(by omega),⟨(by omega),(by exact zAm (by omega))⟩⟩;refine vs 45 (AM<|As 3<|Am (Ag cols j 0*3)<|zJ r) (AM<|vaC<|Ag r (Ag cols j 0) Aj) (by simp(disch:=omega) only[zDs])<|vr 1 ((0:Int)<=(j:Int)/\(j:Int)<↑(Ad cols))<|vo0 46 0 (j*3)<|vr 1 (Bk.fz (vaB cur)=Ae/\Ab=Ab/\3=3/\j*3+3<=Ad (Bk.cells<|vaB cur)/\¬0∈[]) (vb 0 (Aq (setAt (Bk.cells<|vaB cur) (j*3) [iD<|Va.kind<|Ag r (Ag cols j 0) Aj,iD<|Va.int<|Ag r (Ag cols j 0) Aj,Al<|A_<|bs<|Va.str<|Ag r (Ag cols j 0) Aj]) (Bk.ty<|vaB cur) (Bk.sz<|vaB cur) Ab Ae<|Bk.kd<|vaB cur) (Aq (zJ<|AG cur j<|Ag r (Ag cols j 0) Aj) (64:TypeId) 3 Ab Ae AC) (by simp(disch:=omega) only[setAt,set3_va])<|vnil<|zD<|vN<|zB rfl<|vr 2 (i6 (↑j+1))<|vnil<|zC ?_) ⟨(by kernel_rfl),⟨(by kernel_rfl),⟨(by kernel_rfl),⟨(by(simp[zA0];omega)),(by decide)⟩⟩⟩⟩;rotate_left;simp only[decide_eq_false_iff_not]at hc;refine vZ2<|vAe<|zE ?_;refine zCf (True) (D.tup [Ao (As (Ad cols*3)<|Am 0<|Bk.cells<|vaB cur)<|Ad cols,iD 0]) (D.tup [Ao (As (Ad cols*3)<|zJ cur)<|Ad cols,Al<|An AH 0]) (.inr rfl) trivial (by simp(disch:=omega) only[A1]) ?_;rotate_left
 ·refine⟨j+1,cur.set j (r.getD (cols.getD j 0) Aj),⟨by omega,by simpa using k2,?_⟩,by omega,?_⟩
  ·rw[<-zY5 r cols j (by omega)];grind [set_step,zT]
  refine vk 1
 grind [zRd,BI,A2,zT]
theorem zZo(cs:List D)(n:Nat)(hl:cs.length=n*1)(hn:n<=1000000000):Pure Ai 101 [.row cs n] [⟨cs,36,1,Ab,Ae, .plain⟩] (.osl 0 0 n (n*1) Ab):=by
 by_cases h0:n=0
 ·grind [A0,zZq]
 have h1:0<n:=by omega
 refine zB8 zBm mixed Tryz.func101 rfl rfl ?_;focus
  refine vAu<|zA<|vA<|ve (0<n)<|vf<|vK<|vA ?_;refine vr 4 ((True/\0<1/\1=1/\0<=16777216/\0<=9223372036854775807)/\Ab=Ab/\0=0/\0=0/\36=36/\1=1/\Ad cs=n*1/\0<1/\0<4/\36=36/\(0+n)*4<=140737488355328/\1=1/\Ae=Ae/\(Ae=Ae\/Ae=Ab))<|vs 2 (Ap 0 0 (0+n) ((0+n)*1) Ab) (Ap 0 0 n n Ab) (by simp(disch:=omega) only[A9,AS])<|veT<|zE ?_;refine zM (True) [Ap 0 0 n n Ab] (.inr rfl) ?_;rotate_left
 exact⟨0,by simp[oneD],by kernel_rfl⟩
theorem clone_nat(cs:List D)(n:Nat)(hl:cs.length=n*1)(hn:n<=1000000000):Pure Ai 101 [.row cs n] [] (.row cs n):=(zZo cs n hl hn).frozen rfl (A2 (by show cs.length<=_;omega))
theorem zS2(cs:List D)(n:Nat)(hl:cs.length=n*1)(hn:n<=1000000000):Pure Ai 75 [.row cs n] [⟨cs,4,1,Ab,Ae, .plain⟩] (.osl 0 0 n (n*1) Ab):=by
 by_cases h0:n=0
 ·grind [A0,zS3]
 have h1:0<n:=by omega
 refine zB8 zBm mixed Tryz.func75 rfl rfl ?_;focus
  refine vAu<|zA<|vA<|ve (0<n)<|vf<|vK<|vA ?_;refine vr 4 ((True/\0<1/\1=1/\0<=16777216/\0<=9223372036854775807)/\Ab=Ab/\0=0/\0=0/\4=4/\1=1/\Ad cs=n*1/\0<1/\0<1/\4=4/\(0+n)*1<=140737488355328/\1=1/\Ae=Ae/\(Ae=Ae\/Ae=Ab))<|vs 2 (Ap 0 0 (0+n) ((0+n)*1) Ab) (Ap 0 0 n n Ab) (by simp(disch:=omega) only[A9,AS])<|veT<|zE ?_;refine zM (True) [Ap 0 0 n n Ab] (.inr rfl) ?_;rotate_left
 exact⟨0,by simp[oneD],by kernel_rfl⟩
theorem zVn(cs:List D)(n:Nat)(hl:cs.length=n*1)(hn:n<=1000000000):Pure Ai 75 [.row cs n] [] (.row cs n):=(zS2 cs n hl hn).frozen rfl (A2 (by show cs.length<=_;omega))
theorem zVo(cs:List D)(n:Nat)(hl:cs.length=n*1)(hn:n<=100000000):Pure Ai 92 [.row cs n] [⟨cs,54,1,Ab,Ae, .plain⟩] (.osl 0 0 n (n*1) Ab):=by
 by_cases h0:n=0
 ·grind [A0,zVq]
 have h1:0<n:=by omega
 refine zB8 zBm mixed Tryz.func92 rfl rfl ?_;focus
  refine vAu<|zA<|vA<|ve (0<n)<|vf<|vK<|vA ?_;refine vr 4 ((True/\0<1/\1=1/\0<=16777216/\0<=9223372036854775807)/\Ab=Ab/\0=0/\0=0/\54=54/\1=1/\Ad cs=n*1/\0<1/\0<24/\54=54/\(0+n)*24<=140737488355328/\1=1/\Ae=Ae/\(Ae=Ae\/Ae=Ab))<|vs 2 (Ap 0 0 (0+n) ((0+n)*1) Ab) (Ap 0 0 n n Ab) (by simp(disch:=omega) only[A9,AS])<|veT<|zE ?_;refine zM (True) [Ap 0 0 n n Ab] (.inr rfl) ?_;rotate_left
 exact⟨0,by simp[oneD],by kernel_rfl⟩
theorem zZn(cs:List D)(n:Nat)(hl:cs.length=n*3)(hn:n<=100000000):Pure Ai 100 [.row cs n] [⟨cs,64,3,Ab,Ae, .plain⟩] (.osl 0 0 n (n*3) Ab):=by
 by_cases h0:n=0
 ·grind [A0,zZp]
 have h1:0<n:=by omega
 refine zB8 zBm mixed Tryz.func100 rfl rfl ?_;focus
  refine vAu<|zA<|vA<|ve (0<n)<|vf<|vK<|vA ?_;refine vr 4 ((True/\0<3/\3=3/\0<=16777216/\0<=9223372036854775807)/\Ab=Ab/\0=0/\0=0/\64=64/\3=3/\Ad cs=n*3/\0<3/\0<32/\64=64/\(0+n)*32<=140737488355328/\3=3/\Ae=Ae/\(Ae=Ae\/Ae=Ab))<|vs 2 (Ap 0 0 (0+n) ((0+n)*3) Ab) (Ap 0 0 n (n*3) Ab) (by simp(disch:=omega) only[A9])<|veT<|zE ?_;refine zM (True) [Ap 0 0 n (n*3) Ab] (.inr rfl) ?_;rotate_left
 exact⟨0,by simp[oneD],by kernel_rfl⟩
theorem zGc(cs:List D)(n:Nat)(hl:cs.length=n*3)(hn:n<=100000000):Pure Ai 100 [.row cs n] [] (.row cs n):=(zZn cs n hl hn).frozen rfl (A2 (by show cs.length<=_;omega))
theorem zVp(cs:List D)(n:Nat)(hl:cs.length=n*3)(hn:n<=100000000):Pure Ai 78 [.row cs n] [⟨cs,99,3,Ab,Ae, .plain⟩] (.osl 0 0 n (n*3) Ab):=by
 by_cases h0:n=0
 ·grind [A0,zVr]
 have h1:0<n:=by omega
 refine zB8 zBm mixed Tryz.func78 rfl rfl ?_;focus
  refine vAu<|zA<|vA<|ve (0<n)<|vf<|vK<|vA ?_;refine vr 4 ((True/\0<3/\3=3/\0<=16777216/\0<=9223372036854775807)/\Ab=Ab/\0=0/\0=0/\99=99/\3=3/\Ad cs=n*3/\0<3/\0<24/\99=99/\(0+n)*24<=140737488355328/\3=3/\Ae=Ae/\(Ae=Ae\/Ae=Ab))<|vs 2 (Ap 0 0 (0+n) ((0+n)*3) Ab) (Ap 0 0 n (n*3) Ab) (by simp(disch:=omega) only[A9])<|veT<|zE ?_;refine zM (True) [Ap 0 0 n (n*3) Ab] (.inr rfl) ?_;rotate_left
 exact⟨0,by simp[oneD],by kernel_rfl⟩
theorem zZm(cs:List D)(n:Nat)(hl:cs.length=n*3)(hn:n<=100000000):Pure Ai 78 [.row cs n] [] (.row cs n):=(zVp cs n hl hn).frozen rfl (A2 (by show cs.length<=_;omega))
theorem norm_c(l:List Nat)(n:Nat)(hn:l.length=n)(hl:n<=1000000)(hd:Digs l):Pure Ai 57 [.row (l.map dig) n] [] (natD (nval l)):=by
 subst hn;have h1:=zMt hd;refine zF zBm mixed Tryz.func57 rfl ?_;refine vAu<|vA<|vrT 1<|vc (zFt l _ rfl (by omega) hd)<|vca [natD<|nval l] (by exact clone_nat ((dg (nval l)).map dig) _ (by simp) (by omega))<|veT<|zE<|vret (True)<|.inr rfl
def Sm(n:Nat):Prop:=(dg n).length<=1000
theorem zVj{n:Nat}:∀{m:Nat},m<=n->(dg m).length<=(dg n).length:=by
 induction n using A4 with
 | _ n ih=>
  intro m h;by_cases hm:m=0
  ·grind [dg]
  have e1:dg m=m%4294967296::dg (m/4294967296):=by rw[dg,dif_neg hm]
  have e2:dg n=n%4294967296::dg (n/4294967296):=by rw[dg,dif_neg (by omega)]
  have h2:(dg (m/4294967296)).length<=(dg (n/4294967296)).length:=ih _ (by omega) (Nat.div_le_div_right h);grind
theorem Sm.le{n m:Nat}(h:Sm n)(k:m<=n):Sm m:=Nat.le_trans (zVj k) h
theorem Sm.of{n:Nat}(h:n<340282366920938463463374607431768211456):Sm n:=by
 grind [dg,B5,Sm]
theorem Sm.len{n:Nat}(h:Sm n):(dg n).length<=1000:=h
theorem nadd_c(a b:Nat)(ha:Sm a)(hb:Sm b):Pure Ai 46 [natD a,natD b] [] (natD (a+b)):=by
 have h:=add_c (dg a) (dg b) _ _ rfl rfl (by have:=ha.len;omega) (by have:=hb.len;omega) (zCb _) (zCb _);rwa[zB9,zB9]at h
theorem zW7(a b:Nat)(ha:Sm a)(hb:Sm b):Pure Ai 86 [natD a,natD b] [] (natD (a*b)):=by
 have h:=mul_c (dg a) (dg b) _ _ rfl rfl (by have:=ha.len;omega) (by have:=hb.len;omega) (zCb _) (zCb _);rwa[zB9,zB9]at h
theorem ncmp_c(a b:Nat)(ha:Sm a)(hb:Sm b):Pure Ai 27 [natD a,natD b] [] (iD (cmpD a b)):=by
 have h:=cmp_c (dg a) (dg b) _ _ rfl rfl (by have:=ha.len;omega) (by have:=hb.len;omega) (zCb _) (zCb _);rwa[zB9,zB9]at h
theorem zL7(a:Nat)(ha:Sm a):Pure Ai 57 [natD a] [] (natD a):=by
 have h:=norm_c (dg a) _ rfl (by have:=ha.len;omega) (zCb _);rwa[zB9]at h
theorem Sm.zero:Sm 0:=Sm.of (by omega)
theorem natD_zero:natD 0= .row [] 0:=by simp[natD,digR,dg]
theorem zZg(l:List Nat)(k:Nat)(h:k<l.length):((l.map natD).drop k).headD .unk=natD (l.getD k 0):=zBf natD l 0 k h
theorem zWj(l:List Nat)(k:Nat)(h:k<l.length):(l.take (k+1)).sum=(l.take k).sum+l.getD k 0:=by
 rw[A7 h,List.sum_append];grind
theorem sum_le(l:List Nat)(k:Nat):(l.take k).sum<=l.sum:=by
 grind [Bs]
set_option maxHeartbeats 1000000 in
theorem nsum_c(l:List Nat)(n:Nat)(hn:l.length=n)(hb:n<=1000000)(hs:Sm l.sum):Pure Ai 136 [.row (l.map natD) n] [] (natD l.sum):=by
 subst hn;refine zF zBm mixed Tryz.func136 rfl ?_;focus
  refine vAu<|vAe<|zA<|vAe<|zH ?_;rotate_left
 refine zK (λ(k:Nat)=>fr 18 [(0,Ao (Ah natD l)<|Ad l),(2,nl),(3,natD<|List.sum<|As k l),(6,iD<|Ad l),(7,iD k)]) (λk=>[]) (λk=>l.length-k) (λk=>k<=l.length) 0 ?_ ?_ ?_
 ·omega
 ·rw[List.take_zero,List.sum_nil,natD_zero];refine vk 0
 rintro k h1;have s1:=hs.le (sum_le l k);have s2:=hs.le (sum_le l (k+1));focus
  refine vAu<|zA ?_;refine zAa (t:=decide ((k:Int)<↑(Ad l))) (by kernel_rfl) (λhc=>?_)<|λhc=>?_;simp only[decide_eq_true_eq]at hc;refine vKB<|vAe<|zB rfl<|vr 4 (ix ↑k ↑(Ad l) (Ah natD l≠[])) (vp 13 k (Ah natD l)<|vr 1 (0<Ad (Am k<|Ah natD l))<|vs 14 (AB (Am k<|Ah natD l) Uk) (natD<|Ag l k 0) (by simp(disch:=omega) only[zZg])<|vca [natD<|List.sum<|As k l,natD<|Ag l k 0] (by exact nadd_c _ _ s1 (s2.le (by rw[zWj l k (by omega)];omega))) ?_) ⟨(by omega),⟨(by omega),(by exact zAm (by omega))⟩⟩;refine vrT 1<|vnil<|zD<|vN<|zB rfl<|vr 2 (i6 (↑k+1))<|vnil<|zC ?_;rotate_left;simp only[decide_eq_false_iff_not]at hc;refine vZ2<|vAe<|zE ?_;refine vre (True) (natD<|List.sum<|As k l) (.inr rfl) ?_;rotate_left
 ·refine⟨k+1,by omega,by omega,?_⟩;rw[zWj l k (by omega)];refine vk 0
 grind
end
section
open Go.RowKit
theorem zMj(V:List Int)(i:Nat)(h:i<V.length):((V.map λz=>iD z).drop i).headD .unk=iD (V.getD i 0):=by simp_all
theorem zCp{α:Type}(l:List α)(d:α)(k:Nat)(h:k<l.length):l.getD k d∈l:=by grind
theorem rng_no{p:Nat->Bool}{n i:Nat}(h:i<n)(hp:p i=Ae):(AO n).all p=false:=by
 grind
theorem rng_yes{p:Nat->Bool}{n:Nat}(h:∀j,j<n->p j=Ab):(AO n).all p=true:=by
 grind
theorem all_upto{α:Type}{p:α->Bool}{l:List α}{d:α}{i:Nat}(h:l.length<=i)(hh:∀j,j<i->j<l.length->p (l.getD j d)=Ab):l.all p=true:=by
 grind [Bi,List.mem_iff_getElem,AA]
structure Fit(n:Int)(A:List Nat)(R:List Rw)(m:Nat):Prop where
 asc:A.Pairwise (· <·)
 lt:∀v∈A,(v:Int)<n
 m:R.length=m
 len:∀r∈R,r.length=A.length
 vok:∀r∈R,r.all vok=Ab
 srt:R.Pairwise λp q=>rcmp p q<0
end
end Go.Proofs.YtjcofbkhoeockaaGreatDoor
