/- Texts of this claim, joined. -/
import Derived.Test.YtjcofbkhoeockaaGreatDoorR01
import Derived.ProofKit
import Derived.Carry
import Derived.ChangeSame
import Derived.Lib.Bytealg
import Derived.Shelf.Small.Bits
import Derived.Shelf.Small.Strs
import Derived.Shelf.Small.Wraps
import Derived.Shelf.Strconv.Itoa0
import Derived.Shelf.Strconv.Itoa1
import Derived.Shelf.LaysM
import Derived.Shelf.Strconv.Itoa2
import Derived.Shelf.Strconv.AppendUint10
import Derived.Ground.Names2Prog
import Derived.Shelf.Slices.SearchI
import Derived.Test.YtjcofbkhoeockaaGreatDoorProg
import Derived.Shelf.Lay
import Derived.Shelf.SlSortCmp.Whole1
import Derived.Ground.SlsfProg
import Derived.Shelf.LaySoft
import Derived.Shelf.Strconv.AppendInt10
import Derived.Shelf.Strconv.AppendIntPublic10
import Derived.Shelf.Slices.Turned
import Derived.Lib.RowBridge
import Derived.Lib.QuietBelow
import Derived.Sort.AssemblyPlain
import Derived.BigQuiet
import Derived.Lib.SliceRun
import Derived.Lib.AppendZeros
import Derived.Laws.Append
import Derived.Lib.Strings
import Derived.Deep.QuietTactic
set_option linter.unusedVariables false
set_option linter.unusedSimpArgs false
namespace Go.Proofs.YtjcofbkhoeockaaGreatDoor
open _root_.List renaming length->Aa,map->Ae,getD->Af,drop->Aj,take->As,replicate->Az,getElem?_eq_getElem->AE,headD->AG,set->AJ,range->AK,take_of_length_le->AM,drop_zero->AS,length_map->AW,getD_eq_getElem?_getD->AX,take_succ_eq_append_getElem->AY,getElem?_eq_some_iff->A2,length_take->A3,mem_cons->A4,eq_nil_of_length_eq_zero->A5,map_cons->A6,length_nil->A8,length_cons->Ba,map_nil->Bb,length_append->Bi,mem_cons_self->Bj,all_eq_true->Bm,take_append_drop->Bp,take_length->Bq,length_set->Br,drop_eq_getElem_cons->Bs,getElem?_take->Bx,replicate_succ->By,cons_append->BA,mem_cons_of_mem->BB,getElem_mem->BI,mem_of_getElem?->BK,mem_map->BL,ext_getElem?->BN,getElem?_eq_none->BQ,flatten_cons->BR,nil_append->BS,drop_of_length_le->BT,getElem?_cons_zero->BV,getElem?_set_self->BW,getElem?_set_ne->BX,mem_append_left->B6,mem_append_right->B7,append_nil->Ca,length_drop->Cb,drop_drop->Cc,getElem?_range->Cd,getElem?_map->Cf,drop_length->Ck,getElem?_append_left->Cm
open _root_.Bool renaming true->Ab,false->Ad,and_eq_true->AI,false_eq_true->AR,not_eq_true'->Bn,or_eq_true->Bo,true_and->B9,false_and->B_
open _root_.Option renaming some->Ac,none->Ag,map_eq_some_iff->AB,some->AO,map_some->Bz,getD_some->BU
open _root_.Go.Proofs.Tryz renaming prog->Ah,func91->BY
open D renaming osl->Ai,val->Al,row->Am,own->Ax,clo->AD,agg->AF
open _root_.Inhabited renaming default->Ak
open Bk renaming mk->Ao,cells->Aw
open Value renaming int->Ap,bool->AP,string->Bh,okWide->BD,ownBlock->BG
open _root_.Int renaming toNat->Aq,fdiv->A1,toNat_natCast->Bc
open _root_.Nat renaming le_refl->Ar,lt_or_ge->AN,zero_le->AV,strongRecOn->A9,add_zero->Bf,succ_mul->BC,min_eq_left->BE,mul_one->BH,le_of_ble_eq_true->B5,eq_zero_or_pos->Cg,shiftRight_eq_div_pow->Ch,lt_of_lt_of_le->Ci
open Kd renaming plain->Au
open _root_.Prod renaming mk->Ay
open IntKind renaming i64->AA,u64->AL,u32->A0,bits->BO,signed->BP,wrap->B8
open Lib renaming compareBytes->AC,run_eql_slice_nil->AZ,bitLen->A7
open BeLe renaming refl->AH
open Kp renaming refl->AQ
open _root_.Array renaming getElem?_eq_some_iff->AT,replicate->A_,toArray_toList->Bv,getD_eq_getD_getElem?->BZ,getElem?_replicate->B3
open Stp renaming refl->AU
open RelT renaming mono->Bl
open _root_.BitVec renaming ofInt->Bt
open Ext renaming refl->Bw
open World renaming ownsRow_made->BF,cells?_some->Ce
open OwnRel renaming same->BJ,mono->BM
open Digs renaming replicate->Cj
open _root_.ByteArray renaming mk->Cl,toList_eq->Co
abbrev aa_:Prop:=(True/\Ab=Ab)/\Ad=Ad/\Ab=Ab/\2=2/\2<=2
abbrev ab_:Prop:=True/\0<1/\1=1/\0<=16777216/\0<=9223372036854775807
abbrev ac_(p:Prop):Prop:=Ad=Ad/\Ab=Ab/\1=1/\p
abbrev ad_:Prop:=0<2/\1<2/\Ad=Ad/\Ab=Ab/\2=2/\2<=2
abbrev ae_:Prop:=((1=1/\1<=2/\1=1/\2<=2/\True)/\Ab=Ab)/\Ad=Ad/\Ab=Ab/\2=2/\2<=2
abbrev af_:Prop:=True/\0<3/\3=3/\0<=16777216/\0<=9223372036854775807
abbrev ag_:Prop:=True/\0<2/\True
variable{a:Act}{ops:Array Oper}{β:Be}{want t wh:Bool}{b y b0:Code}{d x:D}{e:Eff}{Q Q':Exit->List D->List Bk->Prop}{fn:Func}{f:FuncId}{I:Im}{gs:List (Nat×Bool)}{st st' news:List Bk}{sl args ds ds' sl' args':List D}{K:List D->List Bk->Prop}{ch raws:List Nat}{l:List Oper}{cs:List Prop}{rs:List ResultVar}{id n m j i:Nat}{o:Oper}{c:Operand}{ρ:Operand->D}{p:Prop}{α γ:Type}{ty:TypeId}{w:World}
section
open Go.RowKit
section
variable{P:Program}{T:Par}{ops:Array Oper}{ord:List Nat}{W:Nat->Nat->Bool}{Lt:Nat->List Nat}{S:Nat->List D}{R:Nat->List Bk}{Q:Exit->Act->World->Prop}{K:List D->List Bk->Prop}
variable{β0:Be}{I0:Im}{w0:World}{df:List Deferred}
theorem any_sound(hg0:Gl I0 w0)(hM:zA9 P T)(F:RegF T ops ord W Lt)(hS:ops.size=ord.length)(htr:∀(p:Nat) i o,ord[p]?=Ac i->ops[i]?=Ac o->zCf P T ops o (S p) (R p) (Eqs (S (p+1)) (R (p+1))))(hK:K (S ops.size) (R ops.size))(hL:∀t e,ord[t]?=Ac e->∀i∈Lt e,∃n,zFt P T ops (ops.getD i Ak) n (S (t+1)) (R (t+1))/\(n<(R t).length->zSt (ops.getD e Ak) n (S t))/\(R t).length<=(R (t+1)).length)
  (hP:∀c a w,¬Q (.panic c) a w)(hQ:∀a' w',After T K β0 I0 w0 df a' w'->Q .normal a' w'):
  ∀(fuel:Nat)(listed:Array Bool)(a:Act)(w:World)(s t:Nat),Inv P T ops ord W S R β0 I0 w0 df s t listed a w->listed.toList.count Ad<=fuel->wpAny P .any ops Q fuel listed a w:=by
 have hop:∀p,p<ops.size->∃i o,ord[p]?=Ac i/\ops[i]?=Ac o:=λp hp=>by
  have h1:p<ord.length:=by omega
  refine⟨ord[p],ops[ord[p]]'((F.mem _).2 (BI h1)),AE h1,by simp[(F.mem _).2 (BI h1)]⟩
 have finish:∀(listed:Array Bool)(a:Act)(w:World)(s t:Nat),Inv P T ops ord W S R β0 I0 w0 df s t listed a w->Region.ready .any ops listed=[]->Q .normal a w:=by
  intro listed a w s t h hr;have hall:∀i,i<ops.size->Ls listed i:=by
   suffices H:∀n i,pos ord i=n->i<ops.size->Ls listed i from λi=>H _ i rfl
   intro n;induction n using A9 with
   | _ n ih=>
    intro i hn hi;by_cases hl:Ls listed i
    ·exact hl
    exfalso;have:i∈Region.ready .any ops listed:=(zCy h.size).2 ⟨hl,ops[i],by simp[hi],λd hd=>by
     have:=F.dep i ops[i] (by simp[hi]) d hd
     exact ih (pos ord d) (by omega) d rfl this.1⟩
    rw[hr]at this;cases this
  have ht:t=ops.size:=by
   rcases h.atT with h1|⟨i,o,h1,h2,h3⟩
   ·exact h1
   exact absurd (hall i (AT.1 h2).1) (h.hi t i (Ar _) h1)
  subst ht;obtain⟨β,I,k1,⟨k2,k3⟩,_⟩:=h.full F hg0;have hX:zNo ops ord listed ops.size=[]:=by
   rw[List.eq_nil_iff_forall_not_mem];grind [zEt,AT]
  rw[hX]at k1;exact hQ a w ⟨_,_,β,I,hK,k1,k2,h.df,k3⟩
 intro fuel;induction fuel with
 | zero=>
  intro listed a w s t h hc;have hr:Region.ready .any ops listed=[]:=by
   cases hx:Region.ready .any ops listed with
   |nil=>rfl
   | cons i l=>
    exfalso;have hi:i∈Region.ready .any ops listed:=by rw[hx];simp
    obtain⟨hn,o,ho,_⟩:=(zCy h.size).1 hi;have hlt:i<listed.size:=by rw[h.size];exact(AT.1 ho).1
    have:listed.toList[i]?=Ac false:=by
     simp_all [Ls]
    grind
  exact⟨hr,finish listed a w s t h hr⟩
 | succ fuel ih=>
  intro listed a w s t h hc;have hcount:∀i,i∈Region.ready .any ops listed->(listed.setIfInBounds i Ab).toList.count Ad<=fuel:=by
   intro i hi;obtain⟨hn,o,ho,_⟩:=(zCy h.size).1 hi;have hlt:i<listed.size:=by rw[h.size];exact(AT.1 ho).1
   have h1:listed.toList[i]?=Ac false:=by
    simp_all [Ls]
   grind
  by_cases hlight:∃i o,i∈Region.ready .any ops listed/\ops[i]?=Ac o/\zP T o.op=Ab
  ·obtain⟨i,o,hi,ho,hl⟩:=hlight;obtain⟨o',ho',hpi,hp2⟩:=h.place F hi;rw[ho]at ho';cases ho';obtain⟨hn,o2,ho2,hd⟩:=(zCy h.size).1 hi;rw[ho]at ho2;cases ho2;have hElight:isE T o.op=false:=by
    revert hl;cases o.op<;>simp[zP,isE];grind
   have hlt:pos ord i<t:=by
    rcases hp2 with h1|h1
    ·exact h1
    exfalso;rcases h.atT with h2|⟨j,oj,j1,j2,j3⟩;all_goals grind
   obtain⟨β,I,SL,k0,k1,k2,k3,k4,k5,k6,k7,k8,k9,k10⟩:=h.ex;have first:∀(v:Value),(Region.wanted o (yielded ops a.tmps)=Ab/\(∀W:World,(execOp a.eval o).run P W= .ok (.value v) W))\/(Region.wanted o (yielded ops a.tmps)=Ad/\v=undef)->Inv P T ops ord W S R β0 I0 w0 df s t (listed.setIfInBounds i Ab) (a.put o.dst v) w->wpAny P .any ops Q (fuel+1) listed a w:=by
    intro v hv hinv;refine wpAny_first ho (Region.noSelect_spec F.nosel) (λc a w hx=>absurd hx (hP c _ _)) fuel listed a w (λj oj hj hne hun hno=>?_) hi hv (ih _ _ _ s t hinv (hcount i hi));rcases F.lig i j o oj ho hj (Ne.symm hne) hl with h1|h1|h1
    ·exact h1
    ·grind [zK9]
    exfalso
    have:=zDa F h.cl i o j ho (AT.1 hj).1 hd h1
    grind [Ls,AT]
   rcases AN (pos ord i) s with hls|hp1
   ·obtain⟨o',n,ho',hE',hc',hg',hself,hlate,hok⟩:=h.lo _ i hls hpi hn;rw[ho]at ho';cases ho';have hlook:=h.lookL F ho hn hd hls hself hlate k2;obtain⟨d,news,n1,n2,n3⟩:=zJ0 hg' hok;obtain⟨_,rfl,v,v1,v2⟩:=(n1.look hlook).light hl k0;exact first v (.inl ⟨zGo (ops:=ops) k0 (zVq hg' SL),v1⟩) (h.nextL (n:=n) F hi ho hls k0 k1 k2 k3 k4 k5 k6 k7 k8 k9 k10 n2 (.inl rfl) (OutN.stay β I w _) v2)
   have hlook:=h.look F ho hn hd hp1 hlt k1 k2 k3;have hst:=zRq hElight (htr (pos ord i) i o hpi ho);rcases hst with⟨g1,d,fz,news,n1,n2,n3⟩|⟨g1,n2,n3⟩
   ·obtain⟨rfl,rfl,v,v1,v2⟩:=(n1.look hlook).light hl k0;have hw:=zGo (ops:=ops) k0 ((zQ1 hlook).trans g1);exact first v (.inl ⟨hw,v1⟩) (h.next F hi ho hp1 hlt k0 k1 k2 k3 k4 k5 k6 k7 k8 k9 k10 n2 n3 (OutN.stay β I w _) v2)
   have hw:=zGo (ops:=ops) k0 ((zQ1 hlook).trans g1);exact first undef (.inr ⟨hw,rfl⟩) (h.next (fz:=[]) (news:=[]) F hi ho hp1 hlt k0 k1 k2 k3 k4 k5 k6 k7 k8 k9 k10 n2 (by rw[n3];simp[zA0]) (OutN.stay β I w _) (Rel.valI undef))
  refine⟨finish listed a w s t h,λi hi=>?_⟩;obtain⟨o,ho,hpi,hp2⟩:=h.place F hi;obtain⟨hn,o2,ho2,hd⟩:=(zCy h.size).1 hi;rw[ho]at ho2;cases ho2;have hl:zP T o.op=false:=by
   grind
  have hordl:t<=ord.length:=by rw[<-hS];exact h.tn
  have hop':∀p,p<ord.length->∃i o,ord[p]?=Ac i/\ops[i]?=Ac o:=λp hp=>hop p (by omega);rcases AN (pos ord i) s with hls|hp1
  ·obtain⟨β,I,SL,k0,k1,k2,k3,k4,k5,k6,k7,k8,k9,k10⟩:=h.ex;obtain⟨o',n,ho',hE',hc',hg',hself,hlate,hok⟩:=h.lo _ i hls hpi hn;rw[ho]at ho';cases ho';have hlook:=h.lookL F ho hn hd hls hself hlate k2;obtain⟨d,news,n1,n2,n3⟩:=zJ0 hg' hok;unfold wpOp;simp only[ho];rw[if_pos (zGo (ops:=ops) k0 (zVq hg' SL))];have hsr:SRw β I w ((R s).take n):=λk b c e hk he=>by
    rw[Bx]at he;split at he
    ·obtain⟨e',m1,m2⟩:=k4 k b c hk;obtain⟨e'',n1,n2⟩:=(h.seg.store' (Ar _) h.seg.le (Ar _)).2 k e he;grind [BJ]
    cases he
   have hnum:news=[]\/∃b e,news=[b]/\(R s)[n]?=Ac e/\SameB b e/\(R (pos ord i)).length=n/\(R (pos ord i+1)).length=n+1:=by
    rcases n3 with rfl|⟨b,e,x,q,fz,rfl,m1,m2,m3,m4,m5,m6⟩
    ·exact .inl rfl
    obtain⟨q1,q2⟩:=zYc F htr hop' hls (by have:=h.seg.le;omega) hpi ho hE' m3 m4 m6 m5 (A2.1 m1).1;grind
   have hfr:∀j,j<news.length->β (((R s).take n).length+j)=none:=by
    intro j hj;rcases hnum with rfl|⟨b,e,rfl,m1,m2,q1,q2⟩;all_goals grind
   refine .inl (Oper.wp_mono (λa' w' hx=>?_) ((n1.look hlook).heavy hM hl k0 hsr k7 (hg0.mono k8.1.fix) hfr Q));obtain⟨v,β',I',rfl,o1,o2⟩:=hx;exact ih _ _ _ s t (h.nextL F hi ho hls k0 k1 k2 k3 k4 k5 k6 k7 k8 k9 k10 n2 hnum o1 o2) (hcount i hi)
  rcases hp2 with hlt|hpt
  ·have hE:isE T o.op=false:=by
    obtain⟨j,oj,j1,j2,j3,_⟩:=h.seg.step _ hp1 hlt;grind
   obtain⟨β,I,SL,k0,k1,k2,k3,k4,k5,k6,k7,k8,k9,k10⟩:=h.ex;have hlook:=h.look F ho hn hd hp1 hlt k1 k2 k3;have hst:=zRq hE (htr (pos ord i) i o hpi ho);unfold wpOp;simp only[ho];rcases hst with⟨g1,d,fz,news,n1,n2,n3⟩|⟨g1,n2,n3⟩
   ·rw [if_pos (zGo (ops:=ops) k0 ((zQ1 hlook).trans g1))];have hsr:SRw β I w (R (pos ord i)):=λk b c e hk he=>by
     obtain⟨e',m1,m2⟩:=k4 k b c hk;obtain⟨e'',n1,n2⟩:=(h.seg.store' hp1 (Nat.le_of_lt hlt) (Ar _)).2 k e he;grind [BJ]
    have hfr:∀j,j<news.length->β ((R (pos ord i)).length+j)=none:=by
     intro j hj;cases hb:β ((R (pos ord i)).length+j)with
     |none=>rfl
     | some x=>
      exfalso;have hlen:(R (pos ord i+1)).length=(R (pos ord i)).length+news.length:=by rw[n3,Bi,zS]
      rcases k9 _ x hb with h3|⟨p,j',a1,a2,a3,a4,a5,a6⟩
      ·have:=(h.seg.store' (Ar _) hp1 (by omega)).1
       omega
      rcases Nat.lt_trichotomy p (pos ord i)with h3|h3|h3
      ·have:=(h.seg.store' (show s<=p+1 by omega) (show p+1<=pos ord i by omega) (by omega)).1
       omega
      ·grind
      have:=(h.seg.store' (show s<=pos ord i+1 by omega) (show pos ord i+1<=p by omega) (by omega)).1
      omega
    refine .inl (Oper.wp_mono (λa' w' hx=>?_) ((n1.look hlook).heavy hM hl k0 hsr k7 (hg0.mono k8.1.fix) hfr Q));obtain⟨v,β',I',rfl,o1,o2⟩:=hx;exact ih _ _ _ s t (h.next F hi ho hp1 hlt k0 k1 k2 k3 k4 k5 k6 k7 k8 k9 k10 n2 n3 o1 o2) (hcount i hi)
   rw[if_neg (by rw[zGo (ops:=ops) k0 ((zQ1 hlook).trans g1)];simp)];exact ih _ _ _ s t (h.next (fz:=[]) (news:=[]) F hi ho hp1 hlt k0 k1 k2 k3 k4 k5 k6 k7 k8 k9 k10 n2 (by rw[n3];simp[zA0]) (OutN.stay β I w _) (Rel.valI undef)) (hcount i hi)
  have hE:isE T o.op=true:=by
   rcases h.atT with h1|⟨j,oj,j1,j2,j3⟩;all_goals grind
  have hlates:∀x ox,ops[x]?=Ac ox->pos ord x<t->¬Ls listed x->x∈Lt i:=by
   suffices H:∀n x ox,pos ord x=n->ops[x]?=Ac ox->pos ord x<t->¬Ls listed x->x∈Lt i from λx ox=>H _ x ox rfl
   intro n;induction n using A9 with
   | _ n ihx=>
    intro x ox hn hx hp hnx;have hne:i≠x:=λe=>by rw[<-e]at hp;omega
    rcases F.eff1 i x o ox ho hx hne hE (by omega)with h1|h1|⟨h1,h2⟩
    ·exact absurd (zDa F h.cl i o x ho (AT.1 hx).1 hd h1) hnx
    ·exact h1
    exfalso;refine hlight ⟨x,ox,(zCy h.size).2 ⟨hnx,ox,hx,λd hd'=>?_⟩,hx,h1⟩;have h3:=F.dep x ox hx d hd';grind
  obtain⟨β,I,sim,⟨stp,kp⟩,hk10⟩:=h.full F hg0;have htlt:t<ops.size:=by rw[<-hpt];exact(op_at F ho).2
  obtain⟨t',t1,t2,t3⟩:=zXx (P:=P) (T:=T) htr hop (ops.size-(t+1)) (t+1) (by omega);have hls:∀j,Ls (listed.setIfInBounds i Ab) j↔j=i\/Ls listed j:=λj=>ls_set (by rw[h.size];exact(AT.1 ho).1);have hpi':ord[t]?=Ac i:=hpt▸hpi;have hod:ops.getD i Ak=o:=by simp[ho]
  have hlo:∀j,¬Ls (listed.setIfInBounds i Ab) j->¬Ls listed j/\j≠i:=λj hl=>⟨λk=>hl ((hls j).2 (.inr k)),λk=>hl ((hls j).2 (.inl k))⟩;have hlt':∀p j,p<t+1->ord[p]?=Ac j->¬Ls (listed.setIfInBounds i Ab) j->p<t/\¬Ls listed j/\j∈Lt i:=λp j hp hj hl=>by
   obtain⟨l1,l2⟩:=hlo j hl;have hpt':p<t:=by
    grind
   have hjm:=(F.mem j).2 (BK hj);exact⟨hpt',l1,hlates j ops[j] (by simp[hjm]) (by rw[zB1 F.nodup hj];exact hpt') l1⟩
  have hgrow:∀p j,p<t->ord[p]?=Ac j->¬Ls listed j->∀q,p<=q->q<t->(R q).length<=(R (q+1)).length:=λp j hp hj hl q h1 h2=>by
   rcases AN q s with h3|h3
   ·exact h.mo p j (by omega) hj hl q h1 h3
   exact(h.seg.store' h3 (show q<=q+1 by omega) (by omega)).1
  have hX1:∀x∈o.looksAt ops,x∉zNo ops ord listed t:=λx hx hm=>by
   obtain⟨p,j,oj,m1,m2,m3,m4,m5⟩:=zEt.1 hm;have hpj:pos ord j=p:=zB1 F.nodup m2;have hne:i≠j:=λe=>by rw[<-e]at hpj;omega
   rcases F.haz i j o oj x ho m4 hne m5 hx with hz|hz
   ·exact m3 (zDa F h.cl i o j ho (AT.1 m4).1 hd hz)
   have:=zNg F j oj i m4 (AT.1 ho).1 hz
   omega
  have hX2:∀x,o.dst=Ac x->x∉zNo ops ord listed t:=λx hx hm=>by
   obtain⟨p,j,oj,m1,m2,m3,m4,m5⟩:=zEt.1 hm;have hpj:pos ord j=p:=zB1 F.nodup m2;exact F.dst i j o oj x ho m4 (λe=>by rw[<-e]at hpj;omega) hx m5
  have cont:∀a' w' β' I',Sim β' I' w' (unkS (zNo ops ord listed t) (S (t+1))) (R (t+1)) a'.tmps.toList->Stp β I w β' I' w'->a'.defers=a.defers->Kp T β β'->(Lt i=[]\/(R t).length<=(R (t+1)).length)->
    (∀p j,p<t->ord[p]?=Ac j->¬Ls listed j->∀k,(R p).length<=k->k<(R (p+1)).length->β' k=Ag)->wpAny P .any ops Q fuel (listed.setIfInBounds i Ab) a' w':=by
   intro a' w' β' I' q1 q2 q3 q4 q5 q6;refine ih _ _ _ (t+1) t' ⟨by rw[Array.size_setIfInBounds];exact h.size,h.cl.set hi,t1,t2,λp j hp hj hl=>?_,λp j hp hj hl'=>?_,t3,q3.trans h.df,λp j hp hj hl q h1 h2=>?_,β',I',unkS (zNo ops ord listed t) (S (t+1)),q1.rel,zE5 _ _,λx _ hx=>?_,λp j oj x a1 a2 a3 a4 a5 a6=>?_,λk b c hk=>?_,q1.inj,λk b c j e hk he hj=>?_,q1.imb,⟨stp.trans q2,kp.trans q4⟩,λk x hk=> .inl (q1.dom k x hk),λp j hp hj hl k c1 c2=>?_⟩ (hcount i hi)
   ·obtain⟨_,_,l3⟩:=hlt' p j hp hj hl;obtain⟨oj,m1,m2,m3,m4,m5,m6⟩:=F.latE i j l3;obtain⟨n,n1,_⟩:=hL t i hpi' j l3;rw[show ops.getD j Ak=oj by simp[m1]]at n1;exact⟨oj,n,m1,m2,m3,m4,m5,m6,n1⟩
   ·have:=t2.le
    rcases(hls j).1 hl' with rfl|h5
    ·have:=zB1 F.nodup hj;omega
    exact h.hi p j (by omega) hj h5
   ·obtain⟨l1,l2,l3⟩:=hlt' p j hp hj hl;grind
   ·refine zW0 λhm=>?_;obtain⟨p,j,oj,m1,m2,m3,m4,m5⟩:=zEt.1 hm;grind
   ·exfalso;rcases(hls j).1 a4 with rfl|h5
    ·have:=zB1 F.nodup a3;omega
    exact h.hi p j (by omega) a3 h5
   ·obtain⟨e,m1,m2⟩:=q1.sr k b c hk;obtain⟨e',n1,n2⟩:=(t2.store' (Ar _) t2.le (Ar _)).2 k e m1;grind [BJ]
   ·obtain⟨e0,m1,m2⟩:=q1.sr k b c hk;obtain⟨e',n1,n2⟩:=(t2.store' (Ar _) t2.le (Ar _)).2 k e0 m1;rw[he]at n1;cases n1
    have:=q1.fz k b c j e0 hk m1 hj
    exact⟨n2.2.2.2.2.2 this.1,by rw[n2.1,n2.2.2.2.2.1];exact this.2⟩
   grind
  have hst0:=htr t i o hpi' ho;have hst:=step_mask hst0 hX1 hX2;unfold wpOp;simp only[ho];rcases zMr (ops:=ops) (N:=Eqs (unkS (zNo ops ord listed t) (S (t+1))) (R (t+1))) sim hst with⟨g1,g2⟩|⟨g1,g2,g3⟩
  ·rw [if_pos g1];cases hcv:zD3 o.op with
   | true=>
    have hlen:Lt i=[]\/(R t).length<=(R (t+1)).length:=by
     rcases hx:Lt i with _|⟨j,l⟩
     ·exact .inl rfl
     obtain⟨n,_,_,n3⟩:=hL t i hpi' j (by rw[hx];exact Bj);exact .inr n3
    refine .inl (Oper.wp_mono (λa' w' hx=>?_) (zPg hM o g2 sim Q));obtain⟨sl',st',β',I',⟨rfl,rfl⟩,q2,q3,q4,q5⟩:=hx;refine cont a' w' β' I' q2 q3 q4 q5 hlen λp j hp hj hl k c1 c2=>?_;have hjm:=(F.mem j).2 (BK hj);have hjl:=hlates j ops[j] (by simp[hjm]) (by rw[zB1 F.nodup hj];exact hp) hl;obtain⟨oj,m1,m2,m3,m4,_⟩:=F.latE i j hjl;have hnn:=F.latA i o ho hE j hjl hcv;rw[show ops.getD j Ak=oj by simp[m1]]at hnn;grind [noNew_len]
   | false=>
    refine .inl (Oper.wp_mono (λa' w' hx=>?_) (effE_sound hM o g2 hE hcv sim Q));obtain⟨β',I',q2,q3,q4,q5,q6⟩:=hx;refine cont a' w' β' I' q2 q3 q4 q5 (.inr (stepE_len hst0 hE hcv)) λp j hp hj hl k c1 c2=>?_;have hjm:=(F.mem j).2 (BK hj);have hjl:=hlates j ops[j] (by simp[hjm]) (by rw[zB1 F.nodup hj];exact hp) hl;obtain⟨oj,m1,m2,m3,m4,_⟩:=F.latE i j hjl;obtain⟨n,n1,n2,_⟩:=hL t i hpi' j hjl;rw[show ops.getD j Ak=oj by simp[m1]]at n1;rw[hod]at n2;have hrg:=zZ4 (s:=t+1) F htr hop' (by omega) (by omega) hj m1 m2 m3 m4 n1;have hkn:k=n:=by
     omega
    have hkt:k<(R t).length:=by
     have key:∀m,p+1+m<=t->(R (p+1)).length<=(R (p+1+m)).length:=by
      intro m;induction m with
      |zero=>intro _;exact Ar _
      |succ m ihm=>
       intro hm;have h2:=hgrow p j hp hj hl (p+1+m) (by omega) (by omega);grind
     have:=key (t-(p+1)) (by omega)
     rw[show p+1+(t-(p+1))=t by omega]at this;omega
    refine q6 k hkt (hk10 p j hp hj hl k c1 c2) λy hy=>?_;rw[hkn,zVy (ops:=ops) (o:=o) (sl:=S t) (λx hx=>zLk (hX1 x hx)) y hy];exact n2 (by omega) y hy
  rw[if_neg (by simp[g1])];refine cont _ _ β I ?_ (AU _ _ _) (zAv _ _ _) (AQ _ _) (.inr ?_) hk10
  ·rw[<-g2,<-g3];exact sim.skip o.dst
  grind
theorem zKs(hM:zA9 P T)(hm:P.follows .mixedOrders=Ab){l0:List Nat}{its:List zKf}(hok:zL0 T ops l0 its=Ab)(hq:seqF P T ops l0 its sl st K)(h:Sim β I w sl st a.tmps.toList)
  (hP:∀c a w,¬Q (.panic c) a w)(hQ:∀a' w',After T K β I w a.defers a' w'->Q .normal a' w'):(Code.region id ops Ab).wp P Q a w:=by
 have F:=RegF.of hok;obtain⟨S,R,s1,s2,s3,s4,s5⟩:=traceF hq;generalize hord:zEo l0 its=ord at F s3 s4;rw[F.len]at s3;have htr:∀(p:Nat) i o,ord[p]?=Ac i->ops[i]?=Ac o->zCf P T ops o (S p) (R p) (Eqs (S (p+1)) (R (p+1))):=λp i o hp ho=>by
  have:=s4 p i hp
  simp_all
 have hL:∀t e,ord[t]?=Ac e->∀i∈zN8 its e,∃n,zFt P T ops (ops.getD i Ak) n (S (t+1)) (R (t+1))/\(n<(R t).length->zSt (ops.getD e Ak) n (S t))/\(R t).length<=(R (t+1)).length:=by
  intro t e ht i hi;unfold zN8 at hi;split at hi
  ·rename_i x hx;obtain⟨y,hy,rfl⟩:=BL.1 hi;have hxe:x.1=e:=by have:=List.find?_some hx;simpa using this
   obtain⟨pre,post,hpp⟩:=List.append_of_mem (List.mem_of_find?_eq_some hx);obtain⟨k1,k2⟩:=s5 pre x post hpp;have ht2:ord[l0.length+(zBl pre).length]?=Ac e:=by
    rw[<-hord,zEo,List.getElem?_append_right (by omega),hpp];simp only[zBl,List.flatMap_append,List.flatMap_cons];grind
   have e1:=zB1 F.nodup ht;have e2:=zB1 F.nodup ht2;have e3:t=l0.length+(zBl pre).length:=by omega
   rw[e3];exact⟨y.2,k2.2 y hy,λhlt=>by rw[<-hxe];exact k1 y hy hlt,k2.1⟩
  cases hi
 have hop:∀p,p<ops.size->∃i o,ord[p]?=Ac i/\ops[i]?=Ac o:=λp hp=>by
  have h1:p<ord.length:=by rw[F.len];exact hp
  refine⟨ord[p],ops[ord[p]]'((F.mem _).2 (BI h1)),AE h1,by simp[(F.mem _).2 (BI h1)]⟩
 obtain⟨t,t1,t2,t3⟩:=zXx (P:=P) (T:=T) htr hop ops.size 0 (by omega);refine wp_region_any hm ?_;have hfix:Fix I w I {w with drawn:=w.drawn+1}:=λb o hi=>⟨hi,λv hv=>hv,λ_ _ h=>h⟩;refine any_sound (β0:=β) (I0:=I) (w0:=w) (df:=a.defers) h.gl hM F F.len.symm htr s3 hL hP hQ ops.size _ a _ 0 t ⟨by simp,?_,t1,t2,λp i hp=>by omega,λp i _ _ hl=>?_,t3,rfl,λp i hp=>by omega,β,I,S 0,?_,rfl,λx _ _=>rfl,λp i o x _ _ _ hl=>?_,λk b c hk=>?_,h.inj,λk b c j e hk he hj=>?_,h.imb,?_,λk x hk=> .inl (by rw[s2];exact h.dom k x hk),λp i hp=>by omega⟩ ?_
 ·intro k ok _ hl;exfalso;revert hl;simp only[BZ,B3];split<;>simp
 ·revert hl;unfold Ls;simp only[BZ,B3];split<;>simp
 ·rw[s1];exact Bl hfix _ _ (AH _) _ _ h.rel
 ·exfalso;revert hl;unfold Ls;simp only[BZ,B3];split<;>simp
 ·obtain⟨e,m1,m2⟩:=h.sr k b c hk;rw[<-s2]at m1;obtain⟨e',n1,n2⟩:=(t2.store' (Ar _) t2.le (Ar _)).2 k e m1;grind [BJ,BM,AH]
 ·obtain⟨e0,m1,m2⟩:=h.sr k b c hk;have m1':=m1;rw[<-s2]at m1;obtain⟨e',n1,n2⟩:=(t2.store' (Ar _) t2.le (Ar _)).2 k e0 m1;rw[he]at n1;cases n1
  have:=h.fz k b c j e0 hk m1' hj
  exact⟨n2.2.2.2.2.2 this.1,by rw[n2.1,n2.2.2.2.2.1];exact this.2⟩
 ·exact⟨⟨hfix,Ar _,λ_ _ _=>rfl,rfl,rfl,rfl,Nat.le_succ _,λk b c hk=> .inl ⟨k,c,hk⟩,λ_ _ h=> .inl h⟩,AQ _ _⟩
 simp
theorem zVz(hM:zA9 P T)(hm:P.follows .mixedOrders=Ab)(hok:zZx T ops ord=Ab)(hq:seqW P T ops Ab (ord.map λi=>ops.getD i Ak) sl st K)(h:Sim β I w sl st a.tmps.toList)
  (hP:∀c a w,¬Q (.panic c) a w)(hQ:∀a' w',After T K β I w a.defers a' w'->Q .normal a' w'):(Code.region id ops Ab).wp P Q a w:=
 zKs (l0:=ord) (its:=[]) hM hm (regOk3_of hok) hq h hP hQ
end
section
variable{P:Program}{T:Par}
def okE:Exit->Prop
 | .normal| .exit _| .ret=>True
 |_=>False
def Lift(T:Par)(Q:Exit->List D->List Bk->Prop)(β:Be)(I:Im)(w:World)(df:List Deferred):Exit->Act->World->Prop:=λe a' w'=>okE e/\After T (Q e) β I w df a' w'
theorem least{p:Nat->Prop}(h:∃n,p n):∃n,p n/\∀m,m<n->¬p m:=by
 obtain⟨n,hn⟩:=h;induction n using A9 with
 |_ n ih=>
  grind
def InLoop(P:Program)(c:Code)(Q:Exit->Act->World->Prop)(a:Act)(w:World):Prop:=∀b k cs,∃e a' w',Q e a' w'/\Arrives P (lone (b.at a (.code c:: .inLoop c::k)) cs w) b k cs e a' w'
theorem InLoop.wp{c:Code}{Q:Exit->Act->World->Prop}{a:Act}{w:World}(h:InLoop P c Q a w):(Code.loop c).wp P Q a w:=by
 intro b k cs;obtain⟨e,a',w',hq,harr⟩:=h b k cs;exact⟨e,a',w',hq, .of_steps (.one step_loop) harr⟩
theorem InLoop.of_round{c:Code}{Q:Exit->Act->World->Prop}(h:c.wp P (Exit.then (InLoop P c Q) Q) a w):InLoop P c Q a w:=by
 intro b k cs;obtain⟨e,a₁,w₁,hq,harr⟩:=h b (.inLoop c::k) cs;cases e with
 |normal=>
  obtain⟨e₂,a₂,w₂,hq₂,harr₂⟩:=hq b k cs;exact⟨e₂,a₂,w₂,hq₂, .of_steps (Steps.trans harr (.one step_inLoop)) harr₂⟩
 |exit id=>exact⟨_,a₁,w₁,hq, .pass (x:= .inLoop c) rfl (λ_ _=> .inl (by simp)) harr⟩
 |goto l=>exact⟨_,a₁,w₁,hq, .pass (x:= .inLoop c) rfl (λ_ _=> .inl (by simp)) harr⟩
 |ret=>exact⟨_,a₁,w₁,hq, .pass (x:= .inLoop c) rfl (λ_ _=> .inl (by simp)) harr⟩
 |panic ch=>exact⟨_,a₁,w₁,hq, .pass (x:= .inLoop c) rfl (λ_ _=> .inl (by simp)) harr⟩
 |outgrown=>exact⟨_,a₁,w₁,hq, .pass (x:= .inLoop c) rfl (λ_ _=> .inl (by simp)) harr⟩
theorem zNd(hM:zA9 P T)(hm:P.follows .mixedOrders=Ab):∀(c:Code)(Q:Exit->List D->List Bk->Prop)(sl:List D)(st:List Bk)(β:Be)(I:Im)(a:Act)(w:World),
  awp P T c Q sl st->Sim β I w sl st a.tmps.toList->c.wp P (Lift T Q β I w a.defers) a w:=by
 intro c;induction c with
 |skip=>intro Q sl st β I a w h hs;exact wp_skip ⟨trivial,sl,st,β,I,h,hs,AU _ _ _,rfl,AQ _ _⟩
 | region id ops dr=>
  intro Q sl st β I a w h hs;simp only[awp]at h;cases dr with
  |true=>
   simp only[if_true]at h;rcases h with⟨ord,h1,h2⟩|⟨l0,its,h1,h2⟩
   ·exact zVz hM hm h1 h2 hs (λc a w hx=>hx.1) (λa' w' hx=>⟨trivial,hx⟩)
   exact zKs hM hm h1 h2 hs (λc a w hx=>hx.1) (λa' w' hx=>⟨trivial,hx⟩)
  |false=>
   simp only[AR,if_false]at h;refine wp_region (zLy hM (AK ops.size) ops.toList ?_ sl st β I a w _ h hs (λa' w' hx=>⟨trivial,hx⟩));apply BN;grind
 | seq x y ihx ihy=>
  intro Q sl st β I a w h hs;simp only[awp]at h;refine wp_seq (wp_mono (ihx _ sl st β I a w h hs) λe a' w' hq=>?_);obtain⟨h1,sl',st',β',I',q1,q2,q3,q4,q5⟩:=hq;cases e with
  |normal=>
   obtain⟨sl1,st1,m1,m2⟩:=q1;obtain⟨β1,I1,k1,k2,k3⟩:=m1 β' I' w' _ q2;refine wp_mono (ihy Q sl1 st1 β1 I1 a' w' m2 k1) λe a'' w'' hq=>?_;obtain⟨h1,sl'',st'',β'',I'',r1,r2,r3,r4,r5⟩:=hq;exact⟨h1,sl'',st'',β'',I'',r1,r2,(q3.trans k2).trans r3,r4.trans q4,(q5.trans k3).trans r5⟩
  |exit id=>exact⟨trivial,sl',st',β',I',q1,q2,q3,q4,q5⟩
  |ret=>exact⟨trivial,sl',st',β',I',q1,q2,q3,q4,q5⟩
  |_=>exact h1.elim
 | cond c x y ihx ihy=>
  intro Q sl st β I a w h hs;simp only[awp]at h;have hc:=zAp hs.rel c;split at h
  ·rename_i t ht;rw[ht]at hc;simp only[Rel]at hc;exact wp_cond_split hc (λhx=>ihx Q sl st β I a w (h.1 hx) hs) (λhx=>ihy Q sl st β I a w (h.2 hx) hs)
  exact h.elim
 | block id b ih=>
  intro Q sl st β I a w h hs;simp only[awp]at h;refine wp_block (wp_mono (ih _ sl st β I a w h hs) λe a' w' hq=>?_);obtain⟨h1,sl',st',β',I',q1,q2,q3,q4,q5⟩:=hq;cases e with
  |normal=>exact⟨trivial,sl',st',β',I',q1,q2,q3,q4,q5⟩
  | exit j=>
   simp only[zY]at q1;simp only[Exit.inBlock];by_cases hj:j=id
   ·rw[if_pos hj]at q1;simp only[hj,if_true];exact⟨trivial,sl',st',β',I',q1,q2,q3,q4,q5⟩
   rw[if_neg hj]at q1;simp only[hj,if_false];exact⟨trivial,sl',st',β',I',q1,q2,q3,q4,q5⟩
  |ret=>exact⟨trivial,sl',st',β',I',q1,q2,q3,q4,q5⟩
  |_=>exact h1.elim
 | loop b ih=>
  intro Q sl st β I a w h hs;simp only[awp]at h;have hX:=h (λsl1 st1=>∀β1 I1 a1 w1,Sim β1 I1 w1 sl1 st1 a1.tmps.toList->Stp β I w β1 I1 w1->a1.defers=a.defers->Kp T β β1->InLoop P b (Lift T Q β I w a.defers) a1 w1) ?_
  ·obtain⟨sl',st',h1,h2⟩:=hX;obtain⟨β',I',k1,k2,k3⟩:=h1 β I w _ hs;exact(h2 β' I' a w k1 k2 rfl k3).wp
  intro Y sl1 st1 hY hb β1 I1 a1 w1 j2 j3 j4 j5;refine InLoop.of_round (wp_mono (ih _ sl1 st1 β1 I1 a1 w1 hb j2) λe a' w' hq=>?_);obtain⟨e1,sl2,st2,β2,I2,q1,q2,q3,q4,q5⟩:=hq;cases e with
  |normal=>
   obtain⟨sl3,st3,m2,m3⟩:=hY sl2 st2 q1;obtain⟨β3,I3,k3,k4,k5⟩:=m2 β2 I2 w' _ q2;exact m3 β3 I3 a' w' k3 ((j3.trans q3).trans k4) (q4.trans j4) ((j5.trans q5).trans k5)
  |exit id=>exact⟨trivial,sl2,st2,β2,I2,q1,q2,j3.trans q3,q4.trans j4,j5.trans q5⟩
  |ret=>exact⟨trivial,sl2,st2,β2,I2,q1,q2,j3.trans q3,q4.trans j4,j5.trans q5⟩
  |_=>exact e1.elim
 |exit id=>intro Q sl st β I a w h hs;exact wp_exit ⟨trivial,sl,st,β,I,h,hs,AU _ _ _,rfl,AQ _ _⟩
 |label l=>intro Q sl st β I a w h hs;exact wp_label ⟨trivial,sl,st,β,I,h,hs,AU _ _ _,rfl,AQ _ _⟩
 |ret=>intro Q sl st β I a w h hs;exact wp_ret ⟨trivial,sl,st,β,I,h,hs,AU _ _ _,rfl,AQ _ _⟩
 |_=>intro Q sl st β I a w h hs;exact h.elim
end
def LeD(d d':D):Prop:=∀I w β v,Rel I w β d v->Rel I w β d' v
mutual
/-- nil as an empty row, throughout -/
def zF6:D->D
 | .val v=>match v with
  | .slice Ag 0 0=> .row [] 0
  |v=> .val v
 | .agg cs=> .agg (zG6 cs)
 | .tup cs=> .tup (zG6 cs)
 | .ifc t d=> .ifc t (zF6 d)
 |d=>d
def zG6:List D->List D
 |[]=>[]
 |d::ds=>zF6 d::zG6 ds
end
mutual
theorem zGm{I:Im}{w:World}{β:Be}:∀(d:D)(v:Value),Rel I w β d v->Rel I w β (zF6 d) v
 | .val u,v,h=>by
  simp only[zF6];split
  ·simp only[Rel]at h⊢;exact⟨Ag,0,h,Ar _,by decide,λ_=>rfl, .inl trivial⟩
  exact h
 | .agg cs,v,h=>by
  simp only[zF6,Rel]at h⊢;obtain⟨vs,rfl,h⟩:=h;exact⟨vs,rfl,zKo cs vs h⟩
 | .tup cs,v,h=>by
  simp only[zF6,Rel]at h⊢;obtain⟨vs,rfl,h⟩:=h;exact⟨vs,rfl,zKn cs vs h⟩
 | .ifc t d,v,h=>by
  simp only[zF6,Rel]at h⊢;obtain⟨u,rfl,h⟩:=h;exact⟨u,rfl,zGm d u h⟩
 | .unk,v,h=>h
 | .row cs n,v,h=>h
 | .ptr cs,v,h=>h
 | .clo f x y,v,h=>h
 | .own k o,v,h=>h
 | .osl k o n m b,v,h=>h
 | .mref k,v,h=>h
 | .mfz ks cs,v,h=>h
 | .fx d,v,h=>h
 | .osr ..,v,h=>h
theorem zKo{I:Im}{w:World}{β:Be}:∀(ds:List D)(vs:List Value),RelL I w β ds vs->RelL I w β (zG6 ds) vs
 |[],vs,h=>h
 |d::ds,vs,h=>by
  simp only[zG6,RelL]at h⊢;obtain⟨v,us,rfl,h1,h2,h3⟩:=h;exact⟨v,us,rfl,h1,zGm d v h2,zKo ds us h3⟩
theorem zKn{I:Im}{w:World}{β:Be}:∀(ds:List D)(vs:List Value),RelT I w β ds vs->RelT I w β (zG6 ds) vs
 |[],vs,h=>h
 |d::ds,vs,h=>by
  simp only[zG6,RelT]at h⊢;obtain⟨v,us,rfl,h2,h3⟩:=h;exact⟨v,us,rfl,zGm d v h2,zKn ds us h3⟩
end
theorem nilRow_le(d:D):LeD d (zF6 d):=λI w β v h=>zGm d v h
section
variable{P:Program}{T:Par}
def zNz(P:Program)(sl:List D)(st:List Bk):ResultVar->Eff
 | .tmp t=> .get True (sl.getD t .unk)
 | .cell a t=>match sl.getD a .unk with
  | .ptr cs=>ldP P t cs .get
  | .own k off=>match st[k]? with
   |some e=>if e.kd.isMap then .bad else ldP P t (e.cells.drop off) .get
   |none=> .bad
  |_=> .bad
def retL(P:Program)(sl:List D)(st:List Bk):List ResultVar->(List D->Prop)->Prop
 |[],K=>K []
 |r::rs,K=>match zNz P sl st r with
  | .get p d=>p/\retL P sl st rs (λds=>K (d::ds))
  |_=>False
def oneD:List D->D
 |[d]=>d
 |ds=> .tup ds
theorem zRy(h:Sim β I w sl st a.tmps.toList)(r:ResultVar)(he:zNz P sl st r= .get p d)(hp:p):
  ∃v,(match r with
   | .tmp t=>pure (a.tmps.getD t undef)
   | .cell x t=>do loadVar t (<-asAddr (a.tmps.getD x undef)):Sem Value).run P w= .ok v w/\Rel I w β d v:=by
 cases r with
 |tmp t=>
  simp only[zNz,Eff.get.injEq]at he;obtain⟨rfl,rfl⟩:=he
  have:=zAp h.rel (.tmp t)
  exact⟨_,rfl,this⟩
 | cell x t=>
  have hx:Rel I w β (sl.getD x .unk) (a.tmps.getD x undef):=zAp h.rel (.tmp x);have key:∀(b o:Nat)(v:Value),(Instr.loadAt t (.pointer (Ac ⟨b,o,Ag⟩))).run P w= .ok v w->(loadVar t ⟨b,o,Ag⟩).run P w= .ok v w:=by
   intro b o v hl;simpa[Instr.loadAt,Instr.sureAddr]using hl
  simp only[zNz]at he;split at he
  ·rename_i cs hc;rw[hc]at hx;simp only[Rel]at hx;obtain⟨b,o,hv,hr⟩:=hx;obtain⟨v,k1,k2⟩:=zH5 (I:=I) (w:=w) (β:=β) (b:=b) (o:=o) (λj x hx=>by
    obtain⟨_,v,k1,k2,k3⟩:=hr.get j x hx;exact⟨v,k1,k2,k3.no⟩) he hp
   exact⟨v,by simp[hv,asAddr,key _ _ _ k1],k2⟩
  ·rename_i k off hc;rw[hc]at hx;simp only[Rel]at hx;obtain⟨b,c,hb,hv⟩:=hx;split at he
   ·rename_i e hk;split at he
    ·cases he
    rename_i hmap;have ho':=(h.sr.weak k b c e hb hk).c (by simpa using hmap);obtain⟨v,k1,k2⟩:=zH5 (I:=I) (w:=w) (β:=β) (b:=b) (o:=off) (λj x hx=>by
     rw[List.getElem?_drop]at hx;obtain⟨v,k1,k2,k3⟩:=ho'.cells_get hx;refine⟨v,k1,k2,?_⟩;cases ha:e.nob<;>simp only[ha,if_true,if_false,AR]at k3
     ·exact k3
     exact k3.no) he hp
    exact⟨v,by simp[hv,asAddr,key _ _ _ k1],k2⟩
   cases he
  cases he
theorem zNy{sl:List D}{st:List Bk}{β:Be}{I:Im}{w:World}{a:Act}(h:Sim β I w sl st a.tmps.toList):∀(rs:List ResultVar)(K:List D->Prop),retL P sl st rs K->∃ds vs,K ds/\RelT I w β ds vs/\vs.length=rs.length/\
  (rs.mapM (m:=Sem) λr=>match r with
   | .tmp t=>pure (a.tmps.getD t undef)
   | .cell x t=>do loadVar t (<-asAddr (a.tmps.getD x undef))).run P w= .ok vs w
 |[],K,hk=>⟨[],[],hk,by simp only[RelT],rfl,by simp⟩
 | r::rs,K,hk=>by
  simp only[retL]at hk;split at hk
  ·rename_i p d hd;obtain⟨v,k1,k2⟩:=zRy (P:=P) h r hd hk.1;obtain⟨ds,vs,m1,m2,m3,m4⟩:=zNy h rs _ hk.2;refine⟨d::ds,v::vs,m1,by simp only[RelT];exact⟨v,vs,rfl,k2,m2⟩,by simp[m3],?_⟩;simp_all
  exact hk.elim
theorem zFa(h:Sim β I w sl st a.tmps.toList){K:List D->Prop}(hk:retL P sl st fn.results.toList K):
  ∃ds v,K ds/\Rel I w β (oneD ds) v/\(results fn a.tmps).run P w= .ok v w:=by
 obtain⟨ds,vs,m1,m2,m3,m4⟩:=zNy (P:=P) h _ K hk;have hl:=m2.length;refine⟨ds,if h:vs.toArray.size=1 then vs.toArray[0]else .tuple vs.toArray,m1,?_,?_⟩
 ·match ds,m2,hl with
  |[],m2,hl=>simp only[RelT]at m2;subst m2;simp[oneD,Rel,RelT]
  |[d],m2,hl=>
   simp only[RelT]at m2;grind [oneD]
  |d::d'::ds,m2,hl=>
   have:¬(vs.toArray.size=1):=by simp[<-hl]
   rw[dif_neg this];simp only[oneD,Rel];exact⟨vs,rfl,m2⟩
 unfold results;have hm:=zCk (P:=P) fn.results _ vs w m4;rw[Sem.run_bind];erw[hm];rfl
theorem zLr{vs:List Value}(h:RelT I w β args vs)(n:Nat):RelT I w β (args++Az n .unk) (vs.toArray++A_ n undef).toList:=by
 have hrep:RelT I w β (Az n .unk) (Az n undef):=by
  induction n with
  |zero=>simp only[List.replicate_zero,RelT]
  |succ n ih=>simp only[By,RelT];exact⟨_,_,rfl,by simp only[Rel],ih⟩
 have:=h.append hrep
 simpa using this
variable{c:Code}
theorem zF(hM:zA9 P T)(hm:P.follows .mixedOrders=Ab)(hf:P.funcs[f]?=Ac fn)(hb:fn.body=Ac c)
  (h:awp P T c (λe sl st=>(e= .normal\/e= .ret)/\retL P sl st fn.results.toList (λds=>∃y ks,frz Ab st zAe (oneD ds)=Ac (y,ks)/\LeD y x)) (args++Az (fn.ntmps-args.length) .unk) []):Pure P f args [] x:=by
 intro I w vs hr hi hg;have hlen:=hr.length;refine calls_of_wp hf hb ?_;have hsim:Sim noB I w (args++Az (fn.ntmps-args.length) .unk) [] (vs.toArray++A_ (fn.ntmps-vs.toArray.size) undef).toList:=by
  refine⟨?_,?_,?_,?_,?_,hi,hg⟩
  ·grind [zLr]
  ·intro k b c h;cases h
  ·intro k k' b c c' h;cases h
  ·intro k b c j e h;cases h
  intro k x h;cases h
 refine wp_mono (zNd hM hm c _ _ _ noB I {tmps:=vs.toArray++A_ (fn.ntmps-vs.toArray.size) undef,defers:=[]} w h hsim) λe a' w' hq=>?_;obtain⟨e1,sl',st',β',I',⟨q0,q1⟩,q2,q3,q4,q5⟩:=hq;have fin:a'.defers=[]/\∃v,(results fn a'.tmps).run P w'= .ok v w'/\∃v' I' γ,Ending.returned v= .returned v'/\Ext w w'/\ImB I' w'/\Fix I w I' w'/\(∀b o,I' b o->I b o\/w.heap.size<=b)/\
  (∀k b c,γ k=Ac (b,c)->w.heap.size<=b)/\SR γ I' w' []/\Inj γ/\FZ γ I' []/\(∀k y,γ k=Ac y->k<([]:List Bk).length)/\Rel I' w' γ x v'/\(∀e∈([]:List Bk),e.arr=Ab/\e.kd= .plain):=by
  obtain⟨ds,v,⟨y,ks,k1,kle⟩,k2,k3⟩:=zFa (P:=P) (fn:=fn) q2 q1;have k4:=zCj q2.sr.weak _ _ _ _ _ k1 k2;refine⟨q4,v,k3,v,fixI I' β' st' ks,noB,rfl,⟨⟨q3.os,q3.tape,q3.output,q3.size,λb hb=>q3.out b hb (λk c h=>by cases h)⟩,q3.dr⟩,zFn q2.sr.weak q2.imb ks,q3.fix.trans (zAw ks),λb o hx=>?_,λk b c h=>(by cases h),λk b c h=>(by cases h),λk k' b c c' h=>(by cases h),λk b c j e h=>(by cases h),λk y h=>(by cases h),kle _ _ _ _ k4,by simp⟩;rcases hx with hx|⟨k,_,c,e,hk,_⟩
  ·rcases q3.im b o hx with h1|h1|⟨k,c,h1⟩
   ·exact .inl h1
   ·exact .inr h1
   cases h1
  rcases q3.be k b c hk with⟨k',c',h1⟩|h1
  ·cases h1
  exact .inr h1
 rcases q0 with rfl|rfl
 ·exact fin
 exact fin
theorem zCc(hM:zA9 P T)(hm:P.follows .mixedOrders=Ab)(hf:P.funcs[f]?=Ac fn)(hb:fn.body=Ac c){b:Bk}(hba:b.arr=Ab)
  (h:awp P T c (λe sl st=>(e= .normal\/e= .ret)/\retL P sl st fn.results.toList (λds=>∃k,oneD ds= .osl k 0 n m Ab/\st[k]?=Ac b)) (args++Az (fn.ntmps-args.length) .unk) [])(hkd:b.kd= .plain:=by rfl):Pure P f args [b] (.osl 0 0 n m Ab):=by
 intro I w vs hr hi hg;have hnb:b.nob=true:=by unfold Bk.nob;rw[hba,hkd];rfl
 have hmap:b.kd.isMap=false:=by rw[hkd];rfl
 have hlen:=hr.length;refine calls_of_wp hf hb ?_;have hsim:Sim noB I w (args++Az (fn.ntmps-args.length) .unk) [] (vs.toArray++A_ (fn.ntmps-vs.toArray.size) undef).toList:=by
  refine⟨?_,?_,?_,?_,?_,hi,hg⟩
  ·grind [zLr]
  ·intro k b c h;cases h
  ·intro k k' b c c' h;cases h
  ·intro k b c j e h;cases h
  intro k x h;cases h
 refine wp_mono (zNd hM hm c _ _ _ noB I {tmps:=vs.toArray++A_ (fn.ntmps-vs.toArray.size) undef,defers:=[]} w h hsim) λe a' w' hq=>?_;obtain⟨e1,sl',st',β',I',⟨q0,q1⟩,q2,q3,q4,q5⟩:=hq;have fin:a'.defers=[]/\∃v,(results fn a'.tmps).run P w'= .ok v w'/\∃v' I' γ,Ending.returned v= .returned v'/\Ext w w'/\ImB I' w'/\Fix I w I' w'/\(∀b o,I' b o->I b o\/w.heap.size<=b)/\
  (∀k b c,γ k=Ac (b,c)->w.heap.size<=b)/\SR γ I' w' [b]/\Inj γ/\FZ γ I' [b]/\(∀k y,γ k=Ac y->k<[b].length)/\Rel I' w' γ (.osl 0 0 n m Ab) v'/\(∀e∈[b],e.arr=Ab/\e.kd= .plain):=by
  obtain⟨ds,v,⟨k,k1,k1'⟩,k2,k3⟩:=zFa (P:=P) (fn:=fn) q2 q1;have hg:∀j y,(λj=>if j=0 then β' k else Ag:Be) j=Ac y->j=0/\β' k=Ac y:=λj y hj=>by
   grind
  have hown:∀bb c,β' k=Ac (bb,c)->OwnRel I' w' (λj=>if j=0 then β' k else Ag) bb c b:=by
   intro bb c hk;obtain⟨cur,c1,c2,c3,c4⟩:=(q2.sr.weak k bb c b hk k1').c hmap;refine OwnC.r ⟨cur,c1,c2,?_,c4⟩ hmap;rw[hnb]at c3⊢;exact c3
  refine⟨q4,v,k3,v,I',λj=>if j=0 then β' k else Ag,rfl,⟨⟨q3.os,q3.tape,q3.output,q3.size,λb hb=>q3.out b hb (λk c h=>by cases h)⟩,q3.dr⟩,q2.imb,q3.fix,λb o hx=>?_,λj bb c hj=>?_,λj bb c hj=>?_,λj j' bb c c' hj hj'=>?_,λj bb c i e hj he hi=>?_,λj y hj=>?_,?_,by simpa using⟨hba,hkd⟩⟩
  ·rcases q3.im b o hx with h1|h1|⟨k,c,h1⟩
   ·exact .inl h1
   ·exact .inr h1
   cases h1
  ·rcases q3.be k bb c (hg j _ hj).2 with⟨k',c',h1⟩|h1
   ·cases h1
   exact h1
  ·grind
  ·grind
  ·obtain⟨rfl,h2⟩:=hg j _ hj;simp at he;subst he;exact q2.fz k bb c i b h2 k1' hi
  ·rw[(hg j _ hj).1];simp
  rw[k1]at k2;simp only[Rel]at k2⊢;grind
 rcases q0 with rfl|rfl
 ·exact fin
 exact fin
theorem zAm(hM:zA9 P T)(hm:P.follows .mixedOrders=Ab)(hf:P.funcs[f]?=Ac fn)(hb:fn.body=Ac c)(hkeep:∀k,k<st.length->T.keep k=Ab\/k∈ch)
  (h:awp P T c (λe sl s=>(e= .normal\/e= .ret)/\retL P sl s fn.results.toList (λds=>oneD ds=x/\s=st')) (args++Az (fn.ntmps-args.length) .unk) st):Acts P f args st ch x st':=by
 intro β I w vs hr hsr hinj hfz hdom hi hg;have hlen:=hr.length;refine calls_of_wp hf hb ?_;have hsim:Sim β I w (args++Az (fn.ntmps-args.length) .unk) st (vs.toArray++A_ (fn.ntmps-vs.toArray.size) undef).toList:=by
  refine⟨?_,hsr,hinj,hfz,hdom,hi,hg⟩;grind [zLr]
 refine wp_mono (zNd hM hm c _ _ _ β I {tmps:=vs.toArray++A_ (fn.ntmps-vs.toArray.size) undef,defers:=[]} w h hsim) λe a' w' hq=>?_;obtain⟨e1,sl',s',β',I',⟨q0,q1⟩,q2,q3,q4,q5⟩:=hq;have fin:a'.defers=[]/\∃v,(results fn a'.tmps).run P w'= .ok v w'/\∃v' β' I',Ending.returned v= .returned v'/\ImB I' w'/\Stp β I w β' I' w'/\
  (∀k y,k∉ch->β k=Ac y->β' k=Ac y)/\SR β' I' w' st'/\Inj β'/\FZ β' I' st'/\(∀k y,β' k=Ac y->k<st'.length)/\Rel I' w' β' x v':=by
  obtain⟨ds,v,⟨k1,rfl⟩,k2,k3⟩:=zFa (P:=P) (fn:=fn) q2 q1;exact⟨q4,v,k3,v,β',I',rfl,q2.imb,q3,λk y hc hk=>q5 k y ((hkeep k (hdom k y hk)).resolve_right hc) hk,q2.sr,q2.inj,q2.fz,q2.dom,k1▸k2⟩
 rcases q0 with rfl|rfl
 ·exact fin
 exact fin
theorem zQ(hM:zA9 P T)(hm:P.follows .mixedOrders=Ab)(hf:P.funcs[f]?=Ac fn)(hb:fn.body=Ac c)(hkeep:∀k,k<st.length->T.keep k=Ab)
  (h:awp P T c (λe sl s=>(e= .normal\/e= .ret)/\retL P sl s fn.results.toList (λds=>oneD ds=x/\s=st')) (args++Az (fn.ntmps-args.length) .unk) st):Acts P f args st [] x st':=by grind [zAm]
end
theorem LeD.refl(d:D):LeD d d:=λ_ _ _ _ h=>h
theorem LeD.unk(d:D):LeD d .unk:=λ_ _ _ _ _=>by simp only[Rel]
theorem LeD.eq{d':D}(h:d=d'):LeD d d':=h▸LeD.refl d
theorem LeD.nil(k:Nat)(b:Bool):LeD (.val (.slice Ag 0 0)) (.osl k 0 0 0 b):=λ_ _ _ v h=>by
 simp only[Rel]at h⊢;exact .inl ⟨trivial,trivial,h⟩
theorem LeD.nil_row:LeD (.val (.slice Ag 0 0)) (.row [] 0):=λ_ _ _ v h=>by
 simp only[Rel]at h⊢;exact⟨Ag,0,h,Ar _,by decide,λ_=>rfl, .inl trivial⟩
inductive LeL:List D->List D->Prop
 |nil:LeL [] []
 |cons {d d':D} {ds ds':List D}:LeD d d'->LeL ds ds'->LeL (d::ds) (d'::ds')
theorem LeL.rel(h:LeL ds ds'):∀{vs:List Value},RelT I w β ds vs->RelT I w β ds' vs:=by
 induction h with
 |nil=>exact λh=>h
 |cons h1 _ ih=>
  intro vs h;simp only[RelT]at h⊢;obtain⟨v,us,e,h2,h3⟩:=h;exact⟨v,us,e,h1 _ _ _ _ h2,ih h3⟩
theorem LeL.refl:∀ds,LeL ds ds
 |[]=> .nil
 |d::ds=> .cons (.refl d) (LeL.refl ds)
theorem LeL.of_eq(h:ds=ds'):LeL ds ds':=h▸LeL.refl ds
section
variable{P:Program}{T:Par}
theorem Weak.refl(sl:List D)(st:List Bk):Weak T sl st sl st:=λβ I w tm h=>⟨β,I,h,AU _ _ _,AQ _ _⟩
theorem Weak.trans{sl sl' sl'':List D}{st st' st'':List Bk}(h:Weak T sl st sl' st')(k:Weak T sl' st' sl'' st''):Weak T sl st sl'' st'':=λβ I w tm hs=>by
 obtain⟨β',I',h1,h2,h3⟩:=h β I w tm hs;obtain⟨β'',I'',k1,k2,k3⟩:=k β' I' w tm h1;exact⟨β'',I'',k1,h2.trans k2,h3.trans k3⟩
theorem Weak.slots(h:LeL sl sl'):Weak T sl st sl' st:=λβ I w tm hs=>
 ⟨β,I,⟨h.rel hs.rel,hs.sr,hs.inj,hs.fz,hs.dom,hs.imb,hs.gl⟩,AU _ _ _,AQ _ _⟩
theorem Weak.more(bs:List Bk):Weak T sl st sl (st++bs):=λβ I w tm hs=>by
 refine⟨β,I,⟨hs.rel,λk b c hk=>?_,hs.inj,λk b c j e hk he hi=>?_,λk x hk=>?_,hs.imb,hs.gl⟩,AU _ _ _,AQ _ _⟩
 ·obtain⟨e,h1,h2⟩:=hs.sr k b c hk;exact⟨e,by rw[Cm (hs.dom k _ hk)];exact h1,h2⟩
 ·rw[Cm (hs.dom k _ hk)]at he;exact hs.fz k b c j e hk he hi
 have:=hs.dom k x hk
 rw[Bi];omega
theorem OwnRel.congr{I:Im}{w:World}{β β':Be}{b c:Nat}{e:Bk}(h:OwnRel I w β b c e)(hb:e.nob=Ad->∀k x,zX k e.cells=Ab->β k=Ac x->β' k=Ac x):OwnRel I w β' b c e:=by
 rcases e.kd.cases with hk|⟨ks,hk⟩
 ·obtain⟨cur,h1,h2,h3,h4⟩:=h.c hk;refine OwnC.r ⟨cur,h1,h2,?_,h4⟩ hk;grind [RelL.congr]
 obtain⟨vs,h1,h2⟩:=h.m hk;refine OwnM.r ⟨vs,h1,?_⟩ hk;grind [RelT.congr]
def zEr(sl:List D)(st:List Bk)(m n:Nat):Bool:=(AK (n-m)).all λi=>!zX (m+i) sl&&(st.take m).all λe=>e.nob||!zX (m+i) e.cells
theorem Weak.cut(m:Nat)(h:zEr sl st m st.length=Ab)(hk:∀k,m<=k->T.keep k=Ad):Weak T sl st sl (st.take m):=λβ I w tm hs=>by
 have hno:∀k,m<=k->k<st.length->zX k sl=Ad/\∀e∈st.take m,e.nob=Ab\/zX k e.cells=false:=by
  intro k h1 h2;simp only[zEr,Bm,List.mem_range,AI,Bn,Bo]at h
  have:=h (k-m) (by omega)
  rw[show m+(k-m)=k by omega]at this;exact this
 have hcut:∀(k:Nat)(x:Nat×Nat),(if k<m then β k else Ag)=Ac x->β k=Ac x/\k<m:=by
  intro k x hx;split at hx
  ·exact⟨hx,by assumption⟩
  cases hx
 refine⟨λk=>if k<m then β k else Ag,I,⟨?_,λk b c hk=>?_,λk k' b c c' hk hk'=>?_,λk b c j e hk he hi=>?_,λk x hk=>?_,hs.imb,hs.gl⟩,⟨Fix.refl _ _,Ar _,λ_ _ _=>rfl,rfl,rfl,rfl,Ar _,λk b c hk=> .inl ⟨k,c,(hcut k _ hk).1⟩,λ_ _ h=> .inl h⟩,λk x hx hb=>?_⟩
 ·refine RelT.congr sl tm (λk x hr hx=>?_) hs.rel;by_cases hm:k<m
  ·simp only[hm,if_true];exact hx
  have:=(hno k (by omega) (hs.dom k x hx)).1
  rw[this]at hr;cases hr
 ·obtain⟨h1,h2⟩:=hcut k _ hk;obtain⟨e,k1,k2⟩:=hs.sr k b c h1;refine⟨e,by rw[Bx,if_pos h2];exact k1,k2.congr λha j x hr hx=>?_⟩;by_cases hm:j<m
  ·simp only[hm,if_true];exact hx
  have hmem:e∈st.take m:=BK (by rw[Bx,if_pos h2];exact k1);rcases(hno j (by omega) (hs.dom j x hx)).2 e hmem with h3|h3
  ·rw[ha]at h3;cases h3
  rw[h3]at hr;cases hr
 ·exact hs.inj k k' b c c' (hcut k _ hk).1 (hcut k' _ hk').1
 ·obtain⟨h1,h2⟩:=hcut k _ hk;rw[Bx,if_pos h2]at he;exact hs.fz k b c j e h1 he hi
 ·obtain⟨h1,h2⟩:=hcut k _ hk
  have:=hs.dom k x h1
  rw[A3];omega
 simp only;by_cases hm:k<m
 ·simp only[hm,if_true];exact hb
 rw[hk k (by omega)]at hx;cases hx
theorem zTh(Inv:Nat->List D->List Bk->Prop)(h0:∃n sl' st',Weak T sl st sl' st'/\Inv n sl' st')
  (h:∀n sl st,Inv n sl st->awp P T b (zAd (λsl' st'=>∃m sl'' st'',m<n/\Weak T sl' st' sl'' st''/\Inv m sl'' st'') Q) sl st):awp P T (.loop b) Q sl st:=by
 intro X hX;have key:∀n sl st,Inv n sl st->X sl st:=by
  intro n;induction n using A9 with
  |_ n ih=>
   grind
 grind
theorem zPm(h:awp P T b (zAd (λsl' st'=>awp P T (.loop b) Q sl' st') Q) sl st):awp P T (.loop b) Q sl st:=by
 intro X hX;exact⟨sl,st,Weak.refl _ _,hX _ sl st (λsl' st' hY=>hY X hX) h⟩
theorem zLg(S:α->List D)(B:α->List Bk)(μ:α->Nat)(J:α->Prop)(x₀:α)(h₀:J x₀)(hw:Weak T sl st (S x₀) (B x₀))
  (step:∀x,J x->awp P T b (zAd (λsl' st'=>∃y,J y/\μ y<μ x/\Weak T sl' st' (S y) (B y)) Q) (S x) (B x)):awp P T (.loop b) Q sl st:=by
 refine zTh (λn sl st=>∃x,J x/\μ x=n/\sl=S x/\st=B x) ⟨μ x₀,_,_,hw,x₀,h₀,rfl,rfl,rfl⟩ ?_;grind
end
section
variable{P:Program}{T:Par}{ops:Array Oper}{dr:Bool}{o:Oper}{r:List Oper}{sl sl':List D}{st st':List Bk}{K:List D->List Bk->Prop}{p:Prop}{d:D}{b:Bk}{k:Nat}{fz:List Nat}{f:FuncId}{args:List D}
def goW(P:Program)(T:Par)(ops:Array Oper)(dr:Bool)(o:Oper)(r:List Oper)(sl:List D)(st:List Bk)(K:List D->List Bk->Prop):Prop:=match aeff P T o.op o.type (evD sl) st with
   | .bad=>False
   | .lit p d=>zP T o.op=Ab/\p/\seqW P T ops dr r (putD sl o.dst d) st K
   | .get p d=>zP T o.op=Ad/\p/\seqW P T ops dr r (putD sl o.dst d) st K
   | .new p b d fz=>zP T o.op=Ad/\p/\seqW P T ops dr r (putD sl o.dst d) (zA0 st fz++[b]) K
   | .call f args fz=>zP T o.op=Ad/\∃news x,Pure P f args news x/\seqW P T ops dr r (putD sl o.dst (if news.isEmpty then x else zA7 st.length x)) (zA0 st fz++news) K
   | .put p k b fz=>isE T o.op=Ab/\p/\seqW P T ops dr r (putD sl o.dst .unk) ((zA0 st fz).set k b) K
   | .app p k b d=>isE T o.op=Ab/\(T.keep k=Ad/\p)/\seqW P T ops dr r (putD (sl.map (zAl k)) o.dst d) ((st.map (zAn k)).set k b) K
   | .act f args=>zP T o.op=Ad/\(dr=Ad\/isE T o.op=Ab)/\∃ch x st',(Acts P f args st ch x st'/\∀k∈ch,T.keep k=Ad)/\seqW P T ops dr r (putD (sl.map (zCp ch)) o.dst x) st' K
theorem zDp(hg:o.guard=Ag)(h:goW P T ops dr o r sl st K):seqW P T ops dr (o::r) sl st K:=by
 simp only[seqW,hg];exact h
theorem seq_skip{x:Array Value}(hg:o.guard=Ac (j,want))(hb:((ops[j]?).bind (·.dst)).map (λt=>sl.getD t .unk)=Ac (.val (.tuple x)))(hs:putD sl o.dst (.val undef)=sl')(h:seqW P T ops dr r sl' st K):seqW P T ops dr (o::r) sl st K:=by
 subst hs;simp only[seqW,hg,hb];exact h
theorem zRt(hg:o.guard=Ac (j,want))(hb:((ops[j]?).bind (·.dst)).map (λt=>sl.getD t .unk)=Ac (.val (.bool t)))(hs:putD sl o.dst (.val undef)=sl')(h:t=want->goW P T ops dr o r sl st K)(h':t=!want->seqW P T ops dr r sl' st K):seqW P T ops dr (o::r) sl st K:=by
 subst hs;simp only[seqW,hg,hb];exact⟨h,h'⟩
theorem go_lit(hE:aeff P T o.op o.type (evD sl) st= .lit p d)(hl:zP T o.op=Ab)(hp:p)(hs:putD sl o.dst d=sl')(h:seqW P T ops dr r sl' st K):goW P T ops dr o r sl st K:=by
 subst hs;simp only[goW,hE];exact⟨hl,hp,h⟩
theorem go_get(hE:aeff P T o.op o.type (evD sl) st= .get p d)(hl:zP T o.op=Ad)(hp:p)(hs:putD sl o.dst d=sl')(h:seqW P T ops dr r sl' st K):goW P T ops dr o r sl st K:=by
 subst hs;simp only[goW,hE];exact⟨hl,hp,h⟩
theorem go_new(hE:aeff P T o.op o.type (evD sl) st= .new p b d fz)(hl:zP T o.op=Ad)(hp:p)(hs:putD sl o.dst d=sl')(ht:zA0 st fz++[b]=st')(h:seqW P T ops dr r sl' st' K):goW P T ops dr o r sl st K:=by
 subst hs ht;simp only[goW,hE];exact⟨hl,hp,h⟩
theorem go_put(hE:aeff P T o.op o.type (evD sl) st= .put p k b fz)(hl:isE T o.op=Ab)(hp:p)(hs:putD sl o.dst .unk=sl')(ht:(zA0 st fz).set k b=st')(h:seqW P T ops dr r sl' st' K):goW P T ops dr o r sl st K:=by
 subst hs ht;simp only[goW,hE];exact⟨hl,hp,h⟩
theorem go_app(hE:aeff P T o.op o.type (evD sl) st= .app p k b d)(hl:isE T o.op=Ab)(hk:T.keep k=Ad)(hp:p)(hs:putD (sl.map (zAl k)) o.dst d=sl')(ht:(st.map (zAn k)).set k b=st')(h:seqW P T ops dr r sl' st' K):goW P T ops dr o r sl st K:=by
 subst hs ht;simp only[goW,hE];exact⟨hl,⟨hk,hp⟩,h⟩
theorem go_call(hE:aeff P T o.op o.type (evD sl) st= .call f args fz)(hl:zP T o.op=Ad)(hc:Pure P f args [] x)(hs:putD sl o.dst x=sl')(ht:zA0 st fz=st')(h:seqW P T ops dr r sl' st' K):goW P T ops dr o r sl st K:=by
 subst hs ht;simp only[goW,hE];exact⟨hl,[],x,hc,by simpa using h⟩
theorem go_callN{n:Bk}(hE:aeff P T o.op o.type (evD sl) st= .call f args fz)(hl:zP T o.op=Ad)(hc:Pure P f args (n::news) x)(hs:putD sl o.dst (zA7 st.length x)=sl')(ht:zA0 st fz++n::news=st')(h:seqW P T ops dr r sl' st' K):goW P T ops dr o r sl st K:=by
 subst hs ht;simp only[goW,hE];exact⟨hl,n::news,x,hc,by simpa using h⟩
theorem go_act{st'':List Bk}(hE:aeff P T o.op o.type (evD sl) st= .act f args)(hl:zP T o.op=Ad)(hd:dr=Ad\/isE T o.op=Ab)(hc:Acts P f args st [] x st'')(hs:putD sl o.dst x=sl')(h:seqW P T ops dr r sl' st'' K):goW P T ops dr o r sl st K:=by
 subst hs;simp only[goW,hE];refine⟨hl,hd,[],x,st'',⟨hc,by simp⟩,?_⟩;have:sl.map (zCp [])=sl:=by
  conv=>rhs;rw[<-List.map_id sl]
  exact List.map_congr_left λd _=>by simp[zCp]
 rw[this];exact h
end
section
variable{P:Program}{T:Par}{sl:List D}{st:List Bk}{Q:Exit->List D->List Bk->Prop}
theorem zT(h:Q .normal sl st):awp P T .skip Q sl st:=h
def zAi(P:Program)(T:Par)(b:Code)(Q:Exit->List D->List Bk->Prop)(sl:List D)(st:List Bk):Prop:=∃sl' st',Weak T sl st sl' st'/\awp P T b Q sl' st'
theorem zCi(h:awp P T b Q sl st):zAi P T b Q sl st:=⟨sl,st,Weak.refl _ _,h⟩
theorem zA{a:Code}(h:awp P T a (zAd (zAi P T b Q) Q) sl st):awp P T (.seq a b) Q sl st:=h
theorem zB(hl:ops.toList=l)(h:seqW P T ops Ad l sl st (Q .normal)):awp P T (.region i ops Ad) Q sl st:=by subst hl;exact h
theorem awp_drawn(ord:List Nat)(hr:zZx T ops ord=Ab)(hl:(ord.map λi=>ops.getD i Ak)=l)(h:seqW P T ops Ab l sl st (Q .normal)):awp P T (.region i ops Ab) Q sl st:=by subst hl;exact .inl ⟨ord,hr,h⟩
theorem zA6(l0:List Nat)(its:List zKf)(hl:(l0.map λi=>ops.getD i Ak)=l)(h:seqW P T ops Ab l sl st λsl st=>seqI P T ops its sl st (Q .normal))(hr:zL0 T ops l0 its=true:=by kernel_rfl):awp P T (.region i ops Ab) Q sl st:=by subst hl;exact .inr ⟨l0,its,hr,h⟩
theorem zBv(h:K sl st):seqI P T ops [] sl st K:=h
def freesB(o:Oper)(c:List (Nat×Nat))(sl:List D)(st:List Bk):Bool:=c.all λx=>Nat.ble st.length x.2||o.op.operands.toList.all λy=>!refs x.2 (evD sl y)
theorem zBy{e:Nat}{c:List (Nat×Nat)}{l:List Nat}{r:List zKf}{l':List Oper}(ho:ops.getD e Ak=o)(hl:(l.map λi=>ops.getD i Ak)=l')(h:seqW P T ops Ab [o] sl st λsl' st'=>zZ5 P T ops c st.length sl' st'/\seqW P T ops Ab l' sl' st' λsl st=>seqI P T ops r sl st K)(hf:freesB o c sl st=true:=by kernel_rfl):seqI P T ops ((e,c,l)::r) sl st K:=by
 subst ho hl;refine⟨λx hx hlt y hy=>?_,h⟩;have h1:=Bm.1 hf x hx;rw[Bo]at h1;rcases h1 with h1|h1
 ·have:=B5 h1;omega
 grind
def lateL(P:Program)(T:Par)(ops:Array Oper)(o:Oper)(n:Nat)(sl:List D)(st:List Bk):Option (List Prop):=match gv ops o sl with
 | some Ab=>match aeff P T o.op o.type (evD sl) (st.take n),o.dst with
  | .lit p d,Ac x=>if zP T o.op then Ac [p,sl[x]?=Ac d]else Ag
  | .get p d,Ac x=>if zP T o.op then Ag else Ac [p,sl[x]?=Ac d]
  | .new p b d fz,Ac x=>match st[n]?,b with
   |some e,⟨cells,ty,sz,arr,Ad,kd⟩=>if zP T o.op||!fz.isEmpty then Ag else Ac [p,sl[x]?=Ac d,e.cells=cells,e.ty=ty,e.sz=sz,e.arr=arr,e.kd=kd]
   |_,_=>Ag
  |_,_=>Ag
 |_=>Ag
def zYe(P:Program)(T:Par)(ops:Array Oper)(sl:List D)(st:List Bk):List (Nat×Nat)->Option (List Prop)
 |[]=>Ac []
 |x::r=>match lateL P T ops (ops.getD x.1 Ak) x.2 sl st,zYe P T ops sl st r with
  |some l,Ac m=>Ac (l++m)
  |_,_=>Ag
def AllP:List Prop->Prop
 |[]=>True
 |[p]=>p
 |p::q::r=>p/\AllP (q::r)
theorem AllP.mem:∀{l:List Prop},AllP l->∀p∈l,p
 |[],_,p,hp=>by cases hp
 |[q],h,p,hp=>by rw[List.mem_singleton]at hp;rw[hp];exact h
 |q::r::l,h,p,hp=>by
  rcases A4.1 hp with rfl|hp
  ·exact h.1
  exact AllP.mem (l:=r::l) h.2 p hp
theorem lateL_ok{l:List Prop}(h:lateL P T ops o n sl st=Ac l)(hl:∀p∈l,p):zFt P T ops o n sl st:=by
 unfold lateL at h;unfold zFt;split at h
 ·rename_i hg;rw[hg];simp only;split at h
  ·rename_i p d x he hx;rw[he];split at h
   ·rename_i hli;cases h<;>simp_all
   cases h
  ·rename_i p d x he hx;rw[he];split at h
   ·cases h
   rename_i hli;cases h<;>simp_all
  ·rename_i p b d fz x he hx;rw[he];split at h
   ·rename_i e cells ty sz arr kd hst;split at h
    ·cases h
    rename_i hli;have hl1:zP T o.op=false:=by cases hq:zP T o.op<;>simp_all
    have hl2:fz=[]:=by cases fz<;>simp_all
    cases h;exact⟨hl1,hl _ (by simp),hl2,⟨x,hx,hl (sl[x]?=Ac d) (by simp)⟩,e,hst,hl (e.cells=cells) (by simp),hl (e.ty=ty) (by simp),hl (e.sz=sz) (by simp),hl (e.arr=arr) (by simp),hl (e.kd=kd) (by simp),λh=>by cases h⟩
   cases h
  cases h
 cases h
theorem zSn{ops:Array Oper}:∀{c:List (Nat×Nat)}{l:List Prop},zYe P T ops sl st c=Ac l->(∀p∈l,p)->zFj P T ops c sl st
 |[],l,h,hl=>λx hx=>by cases hx
 | y::c,l,h,hl=>by
  unfold zYe at h;split at h
  ·rename_i l1 l2 h1 h2;cases h;intro x hx;rcases A4.1 hx with rfl|hx
   ·exact lateL_ok h1 λp hp=>hl p (B6 _ hp)
   exact zSn h2 (λp hp=>hl p (B7 _ hp)) x hx
  cases h
theorem zEg{c:List (Nat×Nat)}{C:Prop}(hc:C)(k:seqW P T ops Ab l sl st K)(h:(zYe P T ops sl st c).map AllP=Ac C:=by kernel_rfl)(hn:Nat.ble n st.length=true:=by kernel_rfl):zZ5 P T ops c n sl st/\seqW P T ops Ab l sl st K:=by
 obtain⟨l,h1,rfl⟩:=AB.1 h;exact⟨⟨B5 hn,zSn h1 hc.mem⟩,k⟩
theorem zA5{x:Code}(hc:evD sl c= .val (.bool t))(h:t=Ab->awp P T x Q sl st)(h':t=Ad->awp P T y Q sl st):awp P T (.cond c x y) Q sl st:=by
 simp only[awp,hc];exact⟨h,h'⟩
theorem zJ(h:awp P T b (zY i Q) sl st):awp P T (.block i b) Q sl st:=h
theorem zZa(h:Q (.exit i) sl st):awp P T (.exit i) Q sl st:=h
theorem zE(h:Q .ret sl st):awp P T .ret Q sl st:=h
variable{K:List D->List Bk->Prop}
theorem zC(h:K sl st):zAd K Q .normal sl st:=h
theorem zLp(h:Q (.exit i) sl st):zAd K Q (.exit i) sl st:=h
theorem zH(h:Q .ret sl st):zAd K Q .ret sl st:=h
theorem zD(h:Q .normal sl st):zY i Q .normal sl st:=h
theorem zL(h:Q .ret sl st):zY i Q .ret sl st:=h
theorem zTe(e:j=i)(h:Q .normal sl st):zY i Q (.exit j) sl st:=by simp only[zY,e,if_true];exact h
end
theorem wrap_i64{x:Int}(h1:-9223372036854775808<=x)(h2:x<=9223372036854775807):AA.wrap x=x:=by
 simp only[B8,BO,BP,B9,B_,AR,if_false,decide_eq_true_eq,ge_iff_le];(try split)<;>omega
theorem zAu{x:Int}(h1:0<=x)(h2:x<=4294967295):A0.wrap x=x:=by
 simp only[B8,BO,BP,B9,B_,AR,if_false,decide_eq_true_eq,ge_iff_le];(try split)<;>omega
abbrev U:D:= .unk
abbrev iD(x:Int):D:= .val (.int .i64 x)
abbrev bD(b:Bool):D:= .val (.bool b)
def updS(sl:List D):List (Nat×D)->List D
 |[]=>sl
 |(i,d)::r=>updS (sl.set i d) r
def zAr(sl:List D):List Nat->List D
 |[]=>sl
 |i::r=>zAr (sl.set i .unk) r
def Alls:List Prop->Prop
 |[]=>True
 |[p]=>p
 |p::q::r=>p/\Alls (q::r)
theorem Alls.cons{p:Prop}{r:List Prop}(h:Alls (p::r)):p/\Alls r:=by
 cases r with
 |nil=>exact⟨h,trivial⟩
 |cons q r=>exact h
theorem Alls.app:∀{l r:List Prop},Alls (l++r)->Alls l/\Alls r
 |[],r,h=>⟨trivial,h⟩
 |[p],r,h=>⟨h.cons.1,h.cons.2⟩
 |p::q::l,r,h=>by
  have h1:=Alls.cons (r:=q::l++r) h;have h2:=Alls.app (l:=q::l) h1.2;exact⟨⟨h1.1,h2.1⟩,h2.2⟩
def inK:IntKind->Int->Prop
 | .i64,x=>-9223372036854775808<=x/\x<=9223372036854775807
 | .u64,x=>0<=x/\x<=18446744073709551615
 | .i32,x=>-2147483648<=x/\x<=2147483647
 | .u32,x=>0<=x/\x<=4294967295
 | .i16,x=>-32768<=x/\x<=32767
 | .u16,x=>0<=x/\x<=65535
 | .i8,x=>-128<=x/\x<=127
 | .u8,x=>0<=x/\x<=255
theorem zFl{k:IntKind}{x:Int}(h:inK k x):k.wrap x=x:=by
 cases k<;>simp only[inK]at h<;>simp only[B8,BO,BP,B9,B_,AR,if_false,decide_eq_true_eq,ge_iff_le]<;>(try split)<;>omega
def exBin:BinOp->Int->Int->Option Int
 | .add,a,b=>Ac (a+b)
 | .sub,a,b=>Ac (a-b)
 | .mul,a,b=>Ac (a*b)
 | .quo,a,b=>Ac (a.tdiv b)
 |_,_,_=>Ag
section
variable(P:Program)(T:Par)
def isQuo:BinOp->Bool
 | .quo=>Ab
 |_=>Ad
def zWp(o:Op)(ty:TypeId)(ρ:Operand->D)(st:List Bk):Eff:=match o with
 | .binOp op t x y u=>match ρ x,ρ y with
  | .val (.int k a), .val (.int k' b)=>match exBin op a b with
   |some z=>if k=k' then .lit (if isQuo op then b≠0/\inK k z else inK k z) (.val (.int k z))else .bad
   |none=>aeff P T (.binOp op t x y u) ty ρ st
  |_,_=>aeff P T (.binOp op t x y u) ty ρ st
 | .unOp .neg t x=>match ρ x with
  | .val (.int k a)=> .lit (inK k (0-a)) (.val (.int k (0-a)))
  |_=> .bad
 | .convert s d x=>match P.underlying s,P.underlying d,ρ x with
  |some (.int _),Ac (.int k), .val (.int _ n)=>if T.hv (.convert s d x)then .bad else .lit (inK k n) (.val (.int k n))
  |_,_,_=>aeff P T (.convert s d x) ty ρ st
 |o=>aeff P T o ty ρ st
variable{o:Op}
theorem aeffX_lit(h:zWp P T o ty ρ st= .lit p d)(hp:p):∃q,aeff P T o ty ρ st= .lit q d/\q:=by
 unfold zWp at h;split at h
 ·rename_i op t x y u;split at h
  ·rename_i k a k' b hx hy;split at h
   ·rename_i z hz;split at h
    ·rename_i hk;subst hk;simp only[Eff.lit.injEq]at h;obtain⟨rfl,rfl⟩:=h;cases op<;>simp only[exBin,AO.injEq,reduceCtorEq]at hz;all_goals
      subst hz;simp only[isQuo,if_true,if_false,AR]at hp
     ·exact⟨True,by simp[aeff,aBin,hx,hy,aInt,zFl hp],trivial⟩
     ·exact⟨True,by simp[aeff,aBin,hx,hy,aInt,zFl hp],trivial⟩
     ·exact⟨True,by simp[aeff,aBin,hx,hy,aInt,zFl hp],trivial⟩
     exact⟨b≠0,by simp[aeff,aBin,hx,hy,aInt,zFl hp.2],hp.1⟩
    cases h
   exact⟨p,h,hp⟩
  exact⟨p,h,hp⟩
 ·rename_i t x;split at h
  ·rename_i k a hx;simp only[Eff.lit.injEq]at h;obtain⟨rfl,rfl⟩:=h;exact⟨True,by simp only[aeff,hx,aUn,zFl hp],trivial⟩
  cases h
 ·rename_i s t x;split at h
  ·rename_i k0 k k1 n hs hd hx;split at h
   ·cases h
   rename_i hv;simp only[Eff.lit.injEq]at h;obtain⟨rfl,rfl⟩:=h;exact⟨True,by simp only[aeff,hv,AR,if_false,aConv,hs,hd,hx,zFl hp],trivial⟩
  exact⟨p,h,hp⟩
 exact⟨p,h,hp⟩
theorem aeffX_not(h:zWp P T o ty ρ st=e)(hn:∀p d,e≠ .lit p d)(hb:e≠ .bad):aeff P T o ty ρ st=e:=by
 unfold zWp at h;grind
def zN9:Op->Bool
 | .move _| .assign _| .pick ..| .alloc _| .box ..| .nilCheck _=>Ab
 | .binOp op ..=>match op with
  | .lss| .leq| .gtr| .geq=>Ab
  |_=>Ad
 | .unOp .not ..=>Ab
 | .makeInterface ..| .makeFunc ..=>Ab
 | .call {callee:= .builtin .len,..}| .call {callee:= .builtin .min,..}| .call {callee:= .builtin .max,..}=>Ab
 |_=>Ad
def effP:Eff->Prop
 | .lit p _| .get p _| .new p _ _ _| .put p _ _ _| .app p _ _ _=>p
 |_=>True
theorem triv_ok(h:zN9 o=Ab):effP (aeff P T o ty ρ st):=by
 unfold zN9 at h;split at h<;>first|cases h|skip
 all_goals simp only[aeff]
 all_goals first
  |trivial
  |((repeat' split)<;>trivial)
  |skip
 ·rename_i op t x y u;cases op<;>simp only[AR]at h<;>simp only[aBin]<;>(repeat' split)<;>first|trivial|(simp only[aInt];trivial)|(simp only[aStr];trivial)|(simp only[aNil];(repeat' split)<;>trivial)|(simp only[aEqS];(repeat' split)<;>trivial)|(simp only[zK1];(repeat' split)<;>trivial)|skip
 ·unfold aUn;(repeat' split)<;>trivial
 split
 ·split
  ·unfold aLenM;(repeat' split)<;>trivial
  unfold aLen;(repeat' split)<;>trivial
 trivial
end
section
variable(P:Program)(T:Par)
inductive Gd where
 |bad
 |skip(cs:List Prop)(gs:List (Nat×Bool))(sl:List D)
 |go(cs:List Prop)(gs:List (Nat×Bool))(sl:List D)
def assocB(gs:List (Nat×Bool))(j:Nat):Option Bool:=match gs with
 |[]=>Ag
 |(i,b)::r=>if i==j then Ac b else assocB r j
def gdec(ops:Array Oper)(o:Oper)(gs:List (Nat×Bool))(sl:List D):Gd:=match o.guard with
 |none=> .go [] gs sl
 | some (j,want)=>match(ops[j]?).bind (·.dst)with
  |none=> .bad
  | some t=>match sl.getD t .unk with
   | .val (.bool b)=>match assocB gs j with
    |some g=>if g==want then .go [b=g] (gs.filter λx=>x.1 !=j) (sl.set t (.val (.bool g)))else .skip [b=g] (gs.filter λx=>x.1 !=j) (sl.set t (.val (.bool g)))
    |none=>if b==want then .go [] gs sl else .skip [] gs sl
   | .val (.tuple _)=> .skip [] gs sl
   |_=> .bad
def memN(l:List Nat)(n:Nat):Bool:=match l with
 |[]=>Ad
 |i::r=>if i==n then Ab else memN r n
def rawOf(raws:List Nat)(o:Oper):Bool:=match o.dst with
 |some d=>memN raws d
 |none=>Ad
def zWo(raws:List Nat)(o:Oper)(sl:List D)(st:List Bk):Eff:=if rawOf raws o then aeff P T o.op o.type (evD sl) st else zWp P T o.op o.type (evD sl) st
def zM4(o:Op)(p:Prop):List Prop:=if zN9 o then[]else[p]
def runL(ops:Array Oper)(raws:List Nat):List Oper->List (Nat×Bool)->List D->List Bk->Option (List Prop×List D×List Bk)
 |[],_,sl,st=>Ac ([],sl,st)
 | o::r,gs,sl,st=>match gdec ops o gs sl with
  | .bad=>Ag
  | .skip cs gs sl=>(runL ops raws r gs (putD sl o.dst (.val undef)) st).map λx=>(cs++x.1,x.2)
  | .go cs gs sl=>match zWo P T raws o sl st with
   | .lit p d=>if zP T o.op then(runL ops raws r gs (putD sl o.dst d) st).map λx=>(cs++zM4 o.op p++x.1,x.2)else Ag
   | .get p d=>if zP T o.op then Ag else(runL ops raws r gs (putD sl o.dst d) st).map λx=>(cs++zM4 o.op p++x.1,x.2)
   | .new p b d fz=>if zP T o.op then Ag else(runL ops raws r gs (putD sl o.dst d) (zA0 st fz++[b])).map λx=>(cs++zM4 o.op p++x.1,x.2)
   | .put p k b fz=>if isE T o.op then(runL ops raws r gs (putD sl o.dst .unk) ((zA0 st fz).set k b)).map λx=>(cs++zM4 o.op p++x.1,x.2)else Ag
   | .app p k b d=>if isE T o.op&&!T.keep k then(runL ops raws r gs (putD (sl.map (zAl k)) o.dst d) ((st.map (zAn k)).set k b)).map λx=>(cs++zM4 o.op p++x.1,x.2)else Ag
   |_=>Ag
theorem zGj{t:Nat}(h:sl.getD t .unk=d)(hd:d≠ .unk):sl.set t d=sl:=by
 subst h;apply BN;grind
variable{P T}
theorem zFm{gs':List (Nat×Bool)}(h:gdec ops o gs sl= .go cs gs' sl')(hc:Alls cs):sl'=sl/\∀{dr:Bool}{r:List Oper}{st:List Bk}{K:List D->List Bk->Prop},goW P T ops dr o r sl st K->seqW P T ops dr (o::r) sl st K:=by
 unfold gdec at h;split at h
 ·rename_i hg;simp only[Gd.go.injEq]at h;grind [zDp]
 rename_i j want hg;split at h
 ·cases h
 rename_i t ht;split at h
 ·rename_i b hb;have key:b=want->∀{dr:Bool}{r:List Oper}{st:List Bk}{K:List D->List Bk->Prop},goW P T ops dr o r sl st K->seqW P T ops dr (o::r) sl st K:=λhbw {dr r st K} hgo=>
   zRt (t:=b) hg (by rw[ht];simp only[Bz,hb]) rfl (λ_=>hgo) (λhx=>by subst hbw;cases b<;>cases hx)
  split at h
  ·rename_i g hgs;split at h
   ·rename_i hw;simp only[Gd.go.injEq]at h;obtain⟨rfl,_,rfl⟩:=h;have hbg:b=g:=hc;grind [zGj]
   cases h
  grind
 ·cases h
 cases h
theorem gdec_skip{gs':List (Nat×Bool)}(h:gdec ops o gs sl= .skip cs gs' sl')(hc:Alls cs):sl'=sl/\∀{dr:Bool}{r:List Oper}{st:List Bk}{K:List D->List Bk->Prop},seqW P T ops dr r (putD sl o.dst (.val undef)) st K->seqW P T ops dr (o::r) sl st K:=by
 unfold gdec at h;split at h
 ·cases h
 rename_i j want hg;split at h
 ·cases h
 rename_i t ht;split at h
 ·rename_i b hb;have key:b=!want->∀{dr:Bool}{r:List Oper}{st:List Bk}{K:List D->List Bk->Prop},seqW P T ops dr r (putD sl o.dst (.val undef)) st K->seqW P T ops dr (o::r) sl st K:=λhbw {dr r st K} hgo=>
   zRt (t:=b) hg (by rw[ht];simp only[Bz,hb]) rfl (λhx=>by subst hx;cases b<;>cases hbw) (λ_=>hgo)
  split at h
  ·rename_i g hgs;split at h
   ·cases h
   rename_i hw;simp only[Gd.skip.injEq]at h;obtain⟨rfl,_,rfl⟩:=h;have hbg:b=g:=hc;subst hbg;exact⟨zGj hb (by simp),key (by cases b<;>cases want<;>simp at hw⊢)⟩
  split at h
  ·cases h
  rename_i hw;simp only[Gd.skip.injEq]at h;exact⟨h.2.2.symm,key (by cases b<;>cases want<;>simp at hw⊢)⟩
 ·rename_i x hb;simp only[Gd.skip.injEq]at h;exact⟨h.2.2.symm,λhgo=>seq_skip (x:=x) hg (by rw[ht];simp only[Bz,hb]) rfl hgo⟩
 cases h
theorem aeffY_lit(h:zWo P T raws o sl st= .lit p d)(hp:p):∃q,aeff P T o.op o.type (evD sl) st= .lit q d/\q:=by
 grind [zWo,aeffX_lit]
theorem zJj(h:zWo P T raws o sl st=e)(hn:∀p d,e≠ .lit p d)(hb:e≠ .bad):aeff P T o.op o.type (evD sl) st=e:=by
 unfold zWo at h;split at h;all_goals simp_all [aeffX_not]
theorem aeffX_triv{o:Op}(h:zN9 o=Ab):effP (zWp P T o ty ρ st):=by
 have h0:=triv_ok P T (o:=o) (ty:=ty) (ρ:=ρ) (st:=st) h;unfold zWp;split
 ·rename_i op t x y u;split
  ·split
   ·rename_i z hz;cases op<;>simp only[exBin,reduceCtorEq]at hz<;>simp[zN9]at h
   exact h0
  exact h0
 all_goals grind [zN9]
theorem zM3(h:zWo P T raws o sl st=e)(he:effP e=p)(hc:Alls (zM4 o.op p)):p:=by
 unfold zM4 at hc;split at hc
 ·rename_i ht;rw[<-he,<-h];unfold zWo;split;all_goals simp_all [triv_ok,ht,aeffX_triv]
 exact hc
theorem zCh{ops:Array Oper}{dr:Bool}{raws:List Nat}{K:List D->List Bk->Prop}:∀(l l':List Oper)(gs:List (Nat×Bool))(sl:List D)(st:List Bk)(cs:List Prop)(sl':List D)(st':List Bk),runL P T ops raws l gs sl st=Ac (cs,sl',st')->Alls cs->seqW P T ops dr l' sl' st' K->seqW P T ops dr (l++l') sl st K
 |[],l',gs,sl,st,cs,sl',st',h,hc,k=>by
  simp only[runL,AO.injEq,Ay.injEq]at h;grind
 | o ::r,l',gs,sl,st,cs,sl',st',h,hc,k=>by
  simp only[runL]at h;split at h
  ·cases h
  ·rename_i c1 gs1 sl1 hg;simp only[AB,Prod.exists,Ay.injEq]at h;obtain⟨c2,sl2,st2,h1,rfl,rfl,rfl⟩:=h;obtain⟨a1,a2⟩:=Alls.app hc;obtain⟨rfl,g2⟩:=gdec_skip (P:=P) (T:=T) hg a1;exact g2 (zCh r l' _ _ _ _ _ _ h1 a2 k)
  rename_i c1 gs1 sl1 hg;split at h
  ·rename_i p d he;split at h
   ·rename_i hl;simp only[AB,Prod.exists,Ay.injEq]at h;obtain⟨c2,sl2,st2,h1,rfl,rfl,rfl⟩:=h;obtain⟨a1,a2⟩:=Alls.app hc;obtain⟨a1,a3⟩:=Alls.app a1;obtain⟨rfl,g2⟩:=zFm (P:=P) (T:=T) hg a1;obtain⟨q,e1,e2⟩:=aeffY_lit he (zM3 he rfl a3);exact g2 (go_lit e1 hl e2 rfl (zCh r l' _ _ _ _ _ _ h1 a2 k))
   cases h
  ·rename_i p d he;split at h
   ·cases h
   rename_i hl;simp only[AB,Prod.exists,Ay.injEq]at h;obtain⟨c2,sl2,st2,h1,rfl,rfl,rfl⟩:=h;obtain⟨a1,a2⟩:=Alls.app hc;obtain⟨a1,a3⟩:=Alls.app a1;obtain⟨rfl,g2⟩:=zFm (P:=P) (T:=T) hg a1;exact g2 (go_get (zJj he (by simp) (by simp)) (by simpa using hl) (zM3 he rfl a3) rfl (zCh r l' _ _ _ _ _ _ h1 a2 k))
  ·rename_i p b d fz he;split at h
   ·cases h
   rename_i hl;simp only[AB,Prod.exists,Ay.injEq]at h;obtain⟨c2,sl2,st2,h1,rfl,rfl,rfl⟩:=h;obtain⟨a1,a2⟩:=Alls.app hc;obtain⟨a1,a3⟩:=Alls.app a1;obtain⟨rfl,g2⟩:=zFm (P:=P) (T:=T) hg a1;exact g2 (go_new (zJj he (by simp) (by simp)) (by simpa using hl) (zM3 he rfl a3) rfl rfl (zCh r l' _ _ _ _ _ _ h1 a2 k))
  ·rename_i p n b fz he;split at h
   ·rename_i hl;simp only[AB,Prod.exists,Ay.injEq]at h;obtain⟨c2,sl2,st2,h1,rfl,rfl,rfl⟩:=h;obtain⟨a1,a2⟩:=Alls.app hc;obtain⟨a1,a3⟩:=Alls.app a1;obtain⟨rfl,g2⟩:=zFm (P:=P) (T:=T) hg a1;exact g2 (go_put (zJj he (by simp) (by simp)) hl (zM3 he rfl a3) rfl rfl (zCh r l' _ _ _ _ _ _ h1 a2 k))
   cases h
  ·rename_i p n b d he;split at h
   ·rename_i hl;simp only[AI,Bn]at hl;simp only[AB,Prod.exists,Ay.injEq]at h;obtain⟨c2,sl2,st2,h1,rfl,rfl,rfl⟩:=h;obtain⟨a1,a2⟩:=Alls.app hc;obtain⟨a1,a3⟩:=Alls.app a1;obtain⟨rfl,g2⟩:=zFm (P:=P) (T:=T) hg a1;exact g2 (go_app (zJj he (by simp) (by simp)) hl.1 hl.2 (zM3 he rfl a3) rfl rfl (zCh r l' _ _ _ _ _ _ h1 a2 k))
   cases h
  cases h
end
theorem lb{a b:Nat}(h:Nat.ble a b=Ab):a<=b:=B5 h
abbrev nl:D:= .val (.slice Ag 0 0)
section
variable{P:Program}{T:Par}
theorem LeD.trans{a b c:D}(h:LeD a b)(k:LeD b c):LeD a c:=λI w β v hv=>k I w β v (h I w β v hv)
theorem LeL.trans{a b c:List D}(h:LeL a b):LeL b c->LeL a c:=by
 induction h generalizing c with
 |nil=>exact λh=>h
 |cons h1 _ ih=>
  intro k;cases k with
  |cons k1 k2=>exact .cons (h1.trans k1) (ih k2)
theorem LeL.set(sl:List D)(i:Nat):LeL sl (sl.set i .unk):=by
 induction sl generalizing i with
 |nil=>exact .nil
 |cons d ds ih=>
  cases i with
  |zero=>exact .cons (.unk _) (.refl _)
  |succ i=>exact .cons (.refl _) (ih i)
theorem LeL.dead(dead:List Nat):∀sl:List D,LeL sl (zAr sl dead):=by
 induction dead with
 |nil=>exact λsl=> .refl sl
 |cons i r ih=>exact λsl=>(LeL.set sl i).trans (ih _)
theorem Pure.frozen{b:Bk}{cs:List D}(h:Pure P f args [b] (.osl 0 0 n m wh))(hb:b.arr=Ab)(hc:b.cells.take m=cs):Pure P f args [] (.row cs n):=by
 intro I w vs hr hi hg;refine(h I w vs hr hi hg).mono ?_;rintro e w' ⟨v,I',γ,he,h1,h2,h3,h4,h5,h6,h7,h8,h9,h10,h11⟩;have hs:Sim γ I' w' [.osl 0 0 n m wh] [b] [v]:=⟨by simp only[RelT];exact⟨v,[],rfl,h10,rfl⟩,h6,h7,h8,h9,h2,hg.mono h3⟩;have hkd:b.kd= .plain:=(h11 b (by simp)).2;have hf:frz Ab [b] zAe (.osl 0 0 n m wh)=Ac (.row cs n,[0]):=by simp[frz,zAe,hb,hc,hkd,Bk.nob,Kd.isMap,Kd.isSh]
 have h12:=zCj hs.sr.weak _ _ _ _ _ hf h10;refine⟨v,fixI I' γ [b] [0],noB,he,h1,zFn hs.sr.weak h2 [0],h3.trans (zAw [0]),λx o hx=>?_,λk b c h=>(by cases h),λk b c h=>(by cases h),λk k' b c c' h=>(by cases h),λk b c j e h=>(by cases h),λk y h=>(by cases h),h12,by simp⟩;rcases hx with hx|⟨k,_,c,e,hk,_⟩;all_goals grind
theorem Pure.le(h:Pure P f args' news x)(ha:LeL args args'):Pure P f args news x:=λI w vs hr hi=>h I w vs (ha.rel hr) hi
theorem Acts.le(h:Acts P f args' st ch x st')(ha:LeL args args'):Acts P f args st ch x st':=λβ I w vs hr=>h β I w vs (ha.rel hr)
section
variable{ops:Array Oper}{dr:Bool}{l:List Oper}{sl:List D}{st:List Bk}{K:List D->List Bk->Prop}
theorem st_run(n:Nat)(raws:List Nat)(gs:List (Nat×Bool))(C:Prop)(ch:List (Nat×D))(st':List Bk)(h:(runL P T ops raws (l.take n) gs sl st).map (λx=>(Alls x.1,x.2.1,x.2.2))=Ac (C,updS sl ch,st'))(hc:C)(k:seqW P T ops dr (l.drop n) (updS sl ch) st' K):seqW P T ops dr l sl st K:=by
 rw[AB]at h;obtain⟨⟨c,s1,s2⟩,h1,h2⟩:=h;simp only[Ay.injEq]at h2;grind [zCh,Bp]
theorem st_end(raws:List Nat)(gs:List (Nat×Bool))(dead:List Nat)(C:Prop)(ch:List (Nat×D))(st':List Bk)(h:(runL P T ops raws l gs sl st).map (λx=>(Alls x.1,zAr x.2.1 dead,x.2.2))=Ac (C,updS (zAr sl dead) ch,st'))(hc:C)(k:awp P T b Q (updS (zAr sl dead) ch) st'):seqW P T ops dr l sl st (zAd (zAi P T b Q) Q' .normal):=by
 rw[AB]at h;obtain⟨⟨c,s1,s2⟩,h1,h2⟩:=h;simp only[Ay.injEq]at h2;obtain⟨rfl,e,rfl⟩:=h2
 have:=zCh (P:=P) (T:=T) (dr:=dr) (K:=zAd (zAi P T b Q) Q' .normal) l [] gs sl st c s1 s2 h1 hc ?_
 ·grind
 exact⟨_,_,Weak.slots (LeL.dead dead s1),e▸k⟩
theorem zR(n:Nat)(raws:List Nat)(gs:List (Nat×Bool))(C:Prop)(ch:List (Nat×D))(k:seqW P T ops dr (l.drop n) (updS sl ch) st K)(h:(runL P T ops raws (l.take n) gs sl st).map (λx=>(Alls x.1,x.2.1,x.2.2))=Ac (C,updS sl ch,st):=by kernel_rfl)(hc:C:=by omega):seqW P T ops dr l sl st K:=by grind [st_run]
theorem st_end0(raws:List Nat)(gs:List (Nat×Bool))(dead:List Nat)(C:Prop)(ch:List (Nat×D))(h:(runL P T ops raws l gs sl st).map (λx=>(Alls x.1,zAr x.2.1 dead,x.2.2))=Ac (C,updS (zAr sl dead) ch,st))(hc:C)(k:awp P T b Q (updS (zAr sl dead) ch) st):seqW P T ops dr l sl st (zAd (zAi P T b Q) Q' .normal):=by grind [st_end]
theorem zAo(i:Nat)(d0 d:D)(hd:d0=d)(k:seqW P T ops dr l (sl.set i d) st K)(h:sl.getD i .unk=d0:=by kernel_rfl)(hu:zGx d||zD6 d||(match d with| .tup _=>Ab|_=>Ad)=true:=by kernel_rfl):seqW P T ops dr l sl st K:=by
 subst hd;rwa[zGj h (by intro e;subst e;simp[zGx,zD6]at hu)]at k
theorem st_blk(i:Nat)(b0 b:Bk)(h:st[i]?=Ac b0)(hd:b0=b)(k:seqW P T ops dr l sl (st.set i b) K):seqW P T ops dr l sl st K:=by
 subst hd;rwa[show st.set i b0=st from by
  apply BN;intro j;rw[List.getElem?_set];split
  ·rename_i e;subst e;rw[h];split
   ·rfl
   rename_i hx;rw[BQ (by omega)]at h;cases h
  rfl]at k
def hdst(l:List Oper):Option Nat:=(l.head?).bind (·.dst)
def zKb(P:Program)(T:Par)(ops:Array Oper)(l:List Oper)(gs:List (Nat×Bool))(sl:List D)(st:List Bk):Option (List Prop×FuncId×List D×List Bk):=match l with
 |[]=>Ag
 | o::_=>match gdec ops o gs sl with
  | .go cs _ sl=>match aeff P T o.op o.type (evD sl) st with
   | .call f args fz=>if zP T o.op then Ag else Ac (cs,f,args,zA0 st fz)
   |_=>Ag
  |_=>Ag
theorem zY5(h:zKb P T ops l gs sl st=Ac (cs,f,args,st'))(hc:Alls cs):∃o r fz,l=o::r/\zP T o.op=Ad/\aeff P T o.op o.type (evD sl) st= .call f args fz/\st'=zA0 st fz/\∀{K:List D->List Bk->Prop},goW P T ops dr o r sl st K->seqW P T ops dr (o::r) sl st K:=by
 unfold zKb at h;split at h
 ·cases h
 rename_i o r;split at h
 ·rename_i c1 g1 s1 hg;split at h
  ·rename_i f1 a1 fz he;split at h
   ·cases h
   rename_i hl;simp only[AO.injEq,Ay.injEq]at h;obtain⟨rfl,rfl,rfl,rfl⟩:=h;obtain⟨rfl,g2⟩:=zFm (P:=P) (T:=T) hg hc;exact⟨o,r,fz,rfl,by simpa using hl,he,rfl,λk=>g2 k⟩
  cases h
 cases h
theorem zP0(gs:List (Nat×Bool))(cs:List Prop)(args:List D)(st':List Bk)(args':List D)(h:zKb P T ops l gs sl st=Ac (cs,f,args,st'))(hc:Alls cs)(ha:LeL args args')(hp:Pure P f args' [] x)(k:seqW P T ops dr l.tail (putD sl (hdst l) x) st' K):seqW P T ops dr l sl st K:=by
 obtain⟨o,r,fz,rfl,hl,he,rfl,g⟩:=zY5 (dr:=dr) h hc;exact g (go_call he hl (hp.le ha) rfl rfl k)
theorem st_callN(gs:List (Nat×Bool))(cs:List Prop)(args:List D)(st':List Bk){n:Bk}(args':List D)(h:zKb P T ops l gs sl st=Ac (cs,f,args,st'))(hc:Alls cs)(ha:LeL args args')(hp:Pure P f args' (n::news) x)(k:seqW P T ops dr l.tail (putD sl (hdst l) (zA7 st.length x)) (st'++n::news) K):seqW P T ops dr l sl st K:=by
 obtain⟨o,r,fz,rfl,hl,he,rfl,g⟩:=zY5 (dr:=dr) h hc;exact g (go_callN he hl (hp.le ha) rfl rfl k)
theorem st_callr(args:List D)(h:zKb P T ops l [] sl st=Ac ([],f,args,st))(hp:Pure P f args [] x)(k:seqW P T ops dr l.tail (putD sl (hdst l) x) st K):seqW P T ops dr l sl st K:=zP0 [] [] args st args h trivial (LeL.refl _) hp k
theorem zAb(dead:List Nat)(ch:List (Nat×D))(k:awp P T b Q (updS (zAr sl dead) ch) st)(h:(runL P T ops [] l [] sl st).map (λx=>(Alls x.1,zAr x.2.1 dead,x.2.2))=Ac (True,updS (zAr sl dead) ch,st):=by kernel_rfl):seqW P T ops dr l sl st (zAd (zAi P T b Q) Q' .normal):=st_end [] [] dead True ch st h trivial k
theorem zA3(n:Nat)(ch:List (Nat×D))(k:seqW P T ops dr (l.drop n) (updS sl ch) st K)(h:(runL P T ops [] (l.take n) [] sl st).map (λx=>(Alls x.1,x.2.1,x.2.2))=Ac (True,updS sl ch,st):=by kernel_rfl):seqW P T ops dr l sl st K:=st_run n [] [] True ch st h trivial k
theorem zTz(args:List D)(hp:Pure P f args [] x)(k:seqW P T ops dr l.tail (putD sl (hdst l) x) st K)(h:zKb P T ops l [] sl st=Ac ([],f,args,st):=by kernel_rfl):seqW P T ops dr l sl st K:=zP0 [] [] args st args h trivial (LeL.refl _) hp k
theorem st_call0(args:List D)(args':List D)(h:zKb P T ops l [] sl st=Ac ([],f,args,st))(ha:LeL args args')(hp:Pure P f args' [] x)(k:seqW P T ops dr l.tail (putD sl (hdst l) x) st K):seqW P T ops dr l sl st K:=zP0 [] [] args st args' h trivial ha hp k
def actL(P:Program)(T:Par)(ops:Array Oper)(dr:Bool)(l:List Oper)(gs:List (Nat×Bool))(sl:List D)(st:List Bk):Option (List Prop×FuncId×List D):=match l with
 |[]=>Ag
 | o::_=>match gdec ops o gs sl with
  | .go cs _ sl=>match aeff P T o.op o.type (evD sl) st with
   | .act f args=>if !zP T o.op&&(!dr||isE T o.op)then Ac (cs,f,args)else Ag
   |_=>Ag
  |_=>Ag
theorem zZ(gs:List (Nat×Bool))(cs:List Prop)(args:List D)(args':List D)(ha:LeL args args')(hp:Acts P f args' st [] x st')(k:seqW P T ops dr l.tail (putD sl (hdst l) x) st' K)(h:actL P T ops dr l gs sl st=Ac (cs,f,args):=by kernel_rfl)(hc:Alls cs:=by exact trivial):seqW P T ops dr l sl st K:=by
 unfold actL at h;split at h
 ·cases h
 rename_i o r;split at h
 ·rename_i c1 g1 s1 hg;split at h
  ·rename_i f1 a1 he;split at h
   ·rename_i hl;simp only[AO.injEq,Ay.injEq]at h;obtain⟨rfl,rfl,rfl⟩:=h;obtain⟨rfl,g2⟩:=zFm (P:=P) (T:=T) hg hc;simp only[AI,Bn,Bo]at hl;exact g2 (go_act he hl.1 hl.2 (hp.le ha) rfl k)
   cases h
  cases h
 cases h
theorem zAk(k:K sl st)(e:l=[]):seqW P T ops dr l sl st K:=by subst e;exact k
def zYp(ops:Array Oper)(l:List Oper)(sl:List D):Option (Nat×Bool):=match l with
 |[]=>Ag
 | o::_=>match o.guard with
  |none=>Ag
  | some (j,_)=>match(ops[j]?).bind (·.dst)with
   |none=>Ag
   |some t=>match sl.getD t .unk with
    | .val (.bool b)=>Ac (t,b)
    |_=>Ag
theorem st_split(t:Nat)(b:Bool)(h:zYp ops l sl=Ac (t,b))(k1:b=Ab->seqW P T ops dr l (sl.set t (.val (.bool Ab))) st K)(k2:b=Ad->seqW P T ops dr l (sl.set t (.val (.bool Ad))) st K):seqW P T ops dr l sl st K:=by
 unfold zYp at h;(repeat' split at h)<;>try cases h
 rename_i hb;cases b<;>grind [zGj]
theorem zEn{K':List D->List Bk->Prop}(hK:∀sl st,K sl st->K' sl st):∀(l:List Oper)(sl:List D)(st:List Bk),seqW P T ops dr l sl st K->seqW P T ops dr l sl st K'
 |[],sl,st,h=>hK _ _ h
 | o::r,sl,st,h=>by
  have ih:=zEn hK r;have go:goW P T ops dr o r sl st K->goW P T ops dr o r sl st K':=by
   unfold goW;grind
  cases hg:o.guard with
  |none=>
   simp only[seqW,hg]at h;exact zDp hg (go h)
  |some jw=>
   obtain⟨j,want⟩:=jw;simp only[seqW,hg]at h⊢;split at h
   ·exact⟨λe=>go (h.1 e),λe=>ih _ _ (h.2 e)⟩
   all_goals grind
end
theorem zRv{ops:Array Oper}{K K':List D->List Bk->Prop}(hK:∀sl st,K sl st->K' sl st):∀(its:List zKf)(sl:List D)(st:List Bk),seqI P T ops its sl st K->seqI P T ops its sl st K'
 |[],sl,st,h=>hK _ _ h
 |(e,c,l)::r,sl,st,h=>⟨h.1,zEn (λsl st h2=>⟨h2.1,zEn (λsl st h3=>zRv hK r sl st h3) _ _ _ h2.2⟩) _ _ _ h.2⟩
theorem zLf:∀(c:Code){Q Q':Exit->List D->List Bk->Prop}(hQ:∀e sl st,Q e sl st->Q' e sl st) (sl:List D) (st:List Bk),awp P T c Q sl st->awp P T c Q' sl st:=by
 intro c;induction c with
 |skip=>intro Q Q' hQ sl st h;exact hQ _ _ _ h
 | region id ops dr=>
  intro Q Q' hQ sl st h;simp only[awp]at h⊢;split
  ·rename_i hd;rw[if_pos hd]at h;rcases h with⟨o,h1,h2⟩|⟨l0,its,h1,h2⟩
   ·grind [zEn]
   exact .inr ⟨l0,its,h1,zEn (λsl st h3=>zRv (hQ .normal) _ _ _ h3) _ _ _ h2⟩
  grind [zEn]
 |seq x y ihx ihy=>
  intro Q Q' hQ sl st h;simp only[awp]at h⊢;refine ihx (λe sl st hk=>?_) sl st h;cases e<;>simp only[zAd]at hk⊢<;>first|exact hQ _ _ _ hk|skip
  grind
 |cond c x y ihx ihy=>
  intro Q Q' hQ sl st h;simp only[awp]at h⊢;grind
 |block id b ih=>
  intro Q Q' hQ sl st h;simp only[awp]at h⊢;refine ih (λe sl st hk=>?_) sl st h;cases e<;>simp only[zY]at hk⊢<;>first|exact hQ _ _ _ hk|skip
  grind
 |loop b ih=>
  intro Q Q' hQ sl st h;simp only[awp]at h⊢;intro X hX;refine h X λY sl st hY hb=>hX Y sl st hY (ih (λe sl st hk=>?_) sl st hb);cases e<;>simp only[zAd]at hk⊢<;>first|exact hQ _ _ _ hk|exact hk
 |exit id=>intro Q Q' hQ sl st h;exact hQ _ _ _ h
 |label l=>intro Q Q' hQ sl st h;exact hQ _ _ _ h
 |ret=>intro Q Q' hQ sl st h;exact hQ _ _ _ h
 |_=>intro Q Q' hQ sl st h;exact h.elim
variable{Q:Exit->List D->List Bk->Prop}{sl:List D}{st:List Bk}
theorem zFv{x:Code}(hc:evD sl c= .val (.bool t))(ht:t=Ab)(h:awp P T x Q sl st):awp P T (.cond c x y) Q sl st:=by simp_all [zA5,ht]
theorem zEz{x:Code}(hc:evD sl c= .val (.bool t))(ht:t=Ad)(h:awp P T y Q sl st):awp P T (.cond c x y) Q sl st:=by simp_all [zA5,ht]
theorem cond_T{x:Code}(h:awp P T x Q sl st)(hc:evD sl c= .val (.bool Ab):=by kernel_rfl):awp P T (.cond c x y) Q sl st:=zFv hc rfl h
theorem cond_F{x:Code}(h:awp P T y Q sl st)(hc:evD sl c= .val (.bool Ad):=by kernel_rfl):awp P T (.cond c x y) Q sl st:=zEz hc rfl h
def resL(P:Program)(sl:List D)(st:List Bk):List ResultVar->Option (List Prop×List D)
 |[]=>Ac ([],[])
 | .tmp t::rs=>(resL P sl st rs).map λx=>(x.1,sl.getD t .unk::x.2)
 |r::rs=>match zNz P sl st r with
  | .get p d=>(resL P sl st rs).map λx=>(p::x.1,d::x.2)
  |_=>Ag
theorem zT5:∀{rs:List ResultVar}{cs:List Prop}{ds:List D}{K:List D->Prop},resL P sl st rs=Ac (cs,ds)->Alls cs->K ds->retL P sl st rs K
 |[],cs,ds,K,h,hc,k=>by
  simp only[resL,AO.injEq,Ay.injEq]at h;obtain⟨_,rfl⟩:=h;exact k
 | r::rs,cs,ds,K,h,hc,k=>by
  have key:∀p d,zNz P sl st r= .get p d->(∃c1 d1,resL P sl st rs=Ac (c1,d1)/\(p/\Alls c1)/\ds=d::d1)->retL P sl st (r::rs) K:=by
   rintro p d e ⟨c1,d1,h1,⟨h2,h3⟩,rfl⟩;simp only[retL,e];exact⟨h2,zT5 h1 h3 k⟩
  cases r with
  |tmp t=>
   simp only[resL,AB,Prod.exists,Ay.injEq]at h;obtain⟨c1,d1,h1,rfl,rfl⟩:=h;exact key True _ rfl ⟨c1,d1,h1,⟨trivial,hc⟩,rfl⟩
  | cell a t=>
   simp only[resL]at h;split at h
   ·rename_i p d he;simp only[AB,Prod.exists,Ay.injEq]at h;obtain⟨c1,d1,h1,rfl,rfl⟩:=h;exact key p d he ⟨c1,d1,h1,hc.cons,rfl⟩
   cases h
def retC(P:Program)(rs:List ResultVar)(sl:List D)(st:List Bk):Option (List Prop×D):=match resL P sl st rs with
 |none=>Ag
 |some (cs,ds)=>(frz Ab st zAe (oneD ds)).map λy=>(cs,y.1)
variable{e:Exit}
theorem zBm(C:Prop)(y y':D)(he:e= .normal\/e= .ret)(hy:y=y')(hx:y'=x)(h:(retC P rs sl st).map (λx=>(Alls x.1,zF6 x.2))=Ac (C,y):=by kernel_rfl)(hc:C:=by exact trivial):(e= .normal\/e= .ret)/\retL P sl st rs (λds=>∃y ks,frz Ab st zAe (oneD ds)=Ac (y,ks)/\LeD y x):=by
 subst hy;refine⟨he,?_⟩;rw[AB]at h;obtain⟨⟨c,y0⟩,h,h0⟩:=h;simp only[Ay.injEq]at h0;obtain⟨rfl,rfl⟩:=h0;unfold retC at h;split at h
 ·cases h
 rename_i c1 ds h1;rw[AB]at h;obtain⟨⟨y1,ks⟩,h2,h3⟩:=h;simp only[Ay.injEq]at h3;grind [zT5,nilRow_le]
theorem zN{K:List D->Prop}(C:Prop)(ds:List D)(he:e= .normal\/e= .ret)(hk:K ds)(h:(resL P sl st rs).map (λx=>(Alls x.1,x.2))=Ac (C,ds):=by kernel_rfl)(hc:C:=by exact trivial):(e= .normal\/e= .ret)/\retL P sl st rs K:=by
 rw[AB]at h;obtain⟨⟨c,y0⟩,h,h0⟩:=h;simp only[Ay.injEq]at h0;grind [zT5]
theorem zK(S:α->List D)(B:α->List Bk)(μ:α->Nat)(J:α->Prop)(a₀:α)(h₀:J a₀)(hw:Weak T sl st (S a₀) (B a₀))
  (step:∀a,J a->awp P T b0 (zAd (λsl' st'=>∃a',J a'/\μ a'<μ a/\Weak T sl' st' (S a') (B a')) Q) (S a) (B a)):awp P T (.loop b0) Q sl st:=by
 refine zLg (α:=α) (S) (B) (μ) (J) a₀ h₀ hw ?_;rintro a hj;refine zLf b0 (λe sl st hk=>?_) _ _<|step a hj;grind
variable{β:Type}
theorem zB4(S:α->β->List D)(B:α->β->List Bk)(μ:α->β->Nat)(J:α->β->Prop)(a₀:α)(b₀:β)(h₀:J a₀ b₀)(hw:Weak T sl st (S a₀ b₀) (B a₀ b₀))
  (step:∀a b,J a b->awp P T b0 (zAd (λsl' st'=>∃a' b',J a' b'/\μ a' b'<μ a b/\Weak T sl' st' (S a' b') (B a' b')) Q) (S a b) (B a b)):awp P T (.loop b0) Q sl st:=by
 refine zLg (α:=α×β) (λx=>S x.1 x.2) (λx=>B x.1 x.2) (λx=>μ x.1 x.2) (λx=>J x.1 x.2) (a₀,b₀) h₀ hw ?_;rintro⟨a,b⟩ hj;refine zLf b0 (λe sl st hk=>?_) _ _<|step a b hj;simp_all
theorem zC2(S:α->β->γ->List D)(B:α->β->γ->List Bk)(μ:α->β->γ->Nat)(J:α->β->γ->Prop)(a₀:α)(b₀:β)(c₀:γ)(h₀:J a₀ b₀ c₀)(hw:Weak T sl st (S a₀ b₀ c₀) (B a₀ b₀ c₀))
  (step:∀a b c,J a b c->awp P T b0 (zAd (λsl' st'=>∃a' b' c',J a' b' c'/\μ a' b' c'<μ a b c/\Weak T sl' st' (S a' b' c') (B a' b' c')) Q) (S a b c) (B a b c)):awp P T (.loop b0) Q sl st:=by
 refine zLg (α:=α×β×γ) (λx=>S x.1 x.2.1 x.2.2) (λx=>B x.1 x.2.1 x.2.2) (λx=>μ x.1 x.2.1 x.2.2) (λx=>J x.1 x.2.1 x.2.2) (a₀,b₀,c₀) h₀ hw ?_;rintro⟨a,b,c⟩ hj;refine zLf b0 (λe sl st hk=>?_) _ _<|step a b c hj;simp_all
theorem awp_loop5{δ:Type}{ε:Type}(S:α->β->γ->δ->ε->List D)(B:α->β->γ->δ->ε->List Bk)(μ:α->β->γ->δ->ε->Nat)(J:α->β->γ->δ->ε->Prop)(a₀:α)(b₀:β)(c₀:γ)(d₀:δ)(e₀:ε)(h₀:J a₀ b₀ c₀ d₀ e₀)(hw:Weak T sl st (S a₀ b₀ c₀ d₀ e₀) (B a₀ b₀ c₀ d₀ e₀))
  (step:∀a b c d e,J a b c d e->awp P T b0 (zAd (λsl' st'=>∃a' b' c' d' e',J a' b' c' d' e'/\μ a' b' c' d' e'<μ a b c d e/\Weak T sl' st' (S a' b' c' d' e') (B a' b' c' d' e')) Q) (S a b c d e) (B a b c d e)):awp P T (.loop b0) Q sl st:=by
 refine zLg (α:=α×β×γ×δ×ε) (λx=>S x.1 x.2.1 x.2.2.1 x.2.2.2.1 x.2.2.2.2) (λx=>B x.1 x.2.1 x.2.2.1 x.2.2.2.1 x.2.2.2.2) (λx=>μ x.1 x.2.1 x.2.2.1 x.2.2.2.1 x.2.2.2.2) (λx=>J x.1 x.2.1 x.2.2.1 x.2.2.2.1 x.2.2.2.2) (a₀,b₀,c₀,d₀,e₀) h₀ hw ?_;rintro⟨a,b,c,d,e⟩ hj;refine zLf b0 (λe sl st hk=>?_) _ _<|step a b c d e hj;simp_all
theorem Weak.all(m:Nat)(bs:List Bk)(hl:LeL sl sl')(hn:zEr sl' st m st.length=Ab)(hk:∀k,m<=k->T.keep k=Ad)(e:st.take m++bs=st'):Weak T sl st sl' st':=by
 subst e;exact((Weak.slots hl).trans (Weak.cut m hn hk)).trans (Weak.more bs)
def assocN(hs:List (Nat×Nat))(i:Nat):Nat:=match hs with
 |[]=>0
 |(j,h)::r=>if i==j then h else assocN r i
def le1(h:Nat)(d d':D):List Prop:=match h with
 |0=>match d' with
  | .unk=>[]
  |_=>[False]
 |1=>[d=d']
 |2=>match d,d' with
  | .val (.slice Ag 0 0), .osl _ 0 0 0 _=>[]
  |_,_=>[False]
 |3=>match d,d' with
  | .val (.slice Ag 0 0), .row [] 0=>[]
  |_,_=>[False]
 |4=>match d with
  | .fx e=>[e=d']
  |_=>[False]
 |_=>[False]
def leC:Nat->List D->List D->List (Nat×Nat)->List Prop
 |_,[],[],_=>[]
 |i,d::ds,d'::ds',hs=>le1 (assocN hs i) d d'++leC (i+1) ds ds' hs
 |_,_,_,_=>[False]
theorem LeD.fx(d:D):LeD (.fx d) d:=λI w β v h=>by
 simp only[Rel]at h;exact Rel.no h.2
theorem Pure.res{x':D}(h:Pure P f args [] x)(hx:LeD x x'):Pure P f args [] x':=λI w vs hr hi hg=>(h I w vs hr hi hg).mono λe w' ⟨v,I',γ,h1,h2,h3,h4,h5,h6,h7,h8,h9,h10,h11,h12⟩=>⟨v,I',γ,h1,h2,h3,h4,h5,h6,h7,h8,h9,h10,hx I' w' γ v h11,h12⟩
theorem Pure.fx{f:FuncId}{args:List D}{x:D}(h:Pure P f args [] x)(hx:∀I w v,Rel I w noB x v->v.oneCell'=Ab):Pure P f args [] (.fx x):=λI w vs hr hi hg=>(h I w vs hr hi hg).mono λe w' ⟨v,I',γ,h1,h2,h3,h4,h5,h6,h7,h8,h9,h10,h11,h12⟩=>by
 have hn:γ=noB:=by
  funext k;cases hk:γ k with
  |none=>rfl
  |some y=>have:=h10 k y hk;simp at this
 subst hn;exact⟨v,I',noB,h1,h2,h3,h4,h5,h6,h7,h8,h9,h10,by simp only[Rel];exact⟨hx _ _ _ h11,h11⟩,h12⟩
theorem leC_ok{hs:List (Nat×Nat)}:∀{i:Nat}{sl sl':List D},Alls (leC i sl sl' hs)->LeL sl sl'
 |i,[],[],_=> .nil
 |i,[],_::_,h=>h.elim
 |i,_::_,[],h=>h.elim
 | i,d::ds,d'::ds',h=>by
  simp only[leC]at h;obtain⟨h1,h2⟩:=Alls.app h;refine .cons ?_ (leC_ok h2);unfold le1 at h1;split at h1
  ·split at h1
   ·exact .unk _
   exact h1.elim
  ·exact .eq h1
  ·split at h1
   ·exact .nil _ _
   exact h1.elim
  ·split at h1
   ·exact .nil_row
   exact h1.elim
  ·split at h1
   ·rename_i e;have h3:e=d':=h1;subst h3;exact LeD.fx _
   exact h1.elim
  exact h1.elim
theorem zE3(hs:List (Nat×Nat))(C:Prop)(m:Nat)(bs:List Bk)(h:Alls (leC 0 sl sl' hs)=C)(hc:C)(hn:zEr sl' st m st.length=Ab)(hk:∀k,m<=k->T.keep k=Ad)(e:st.take m++bs=st'):Weak T sl st sl' st':=by
 subst h;exact Weak.all m bs (leC_ok hc) hn hk e
end
abbrev eqDL(a b:List D):Prop:=a=b
section
variable{P:Program}{T:Par}{ops:Array Oper}{dr:Bool}{l:List Oper}{sl:List D}{st:List Bk}{K:List D->List Bk->Prop}
def isGet:Eff->Option (Prop×D)
 | .get p d=>Ac (p,d)
 |_=>Ag
def ldL(P:Program)(l:List Oper)(sl:List D)(e:Bk):Option (Nat×Prop×D):=match l with
 |[]=>Ag
 | o ::_=>match o.guard with
  |some _=>Ag
  | none=>match o.op with
   | .load t a=>match evD sl a with
    | .own k off=>if e.kd.isMap then Ag else match isGet (ldP P t (e.cells.drop off) .get)with
     |some (p,d)=>Ac (k,p,d)
     |none=>Ag
    |_=>Ag
   |_=>Ag
theorem zYj(h:isGet e=Ac (p,d)):e= .get p d:=by
 unfold isGet at h;grind
theorem zAh(e:Bk)(k:Nat)(p:Prop)(d:D)(hk:st[k]?=Ac e)(hp:p)(next:seqW P T ops dr l.tail (putD sl (hdst l) d) st K)(h:ldL P l sl e=Ac (k,p,d):=by kernel_rfl):seqW P T ops dr l sl st K:=by
 unfold ldL at h;split at h
 ·cases h
 rename_i o r;split at h
 ·cases h
 rename_i hg;split at h
 ·rename_i t a ho;split at h
  ·rename_i k1 off ha;split at h
   ·cases h
   rename_i hm;split at h
   ·rename_i p1 d1 hl;cases h;have he:aeff P T o.op o.type (evD sl) st= .get p d:=by
     rw[ho];simp only[aeff,ha,hk,hm];exact zYj hl
    refine zDp hg<|go_get he (by rw[ho];rfl) hp rfl ?_;exact next
   cases h
  cases h
 cases h
def putL(P:Program)(l:List Oper)(sl:List D)(e:Bk):Option (Nat×Prop×Bk):=match l with
 |[]=>Ag
 | o::_=>match o.guard with
  |some _=>Ag
  | none=>match o.op with
   | .store t a x=>match evD sl a,tySz P t with
    | .own k off,Ac sz=>if e.kd.isMap then Ag else if e.nob then Ag else Ac (k,(e.fz=Ad/\zD6 (evD sl x)=Ab/\(cellsOf (evD sl x)).length=sz/\off+sz<=e.cells.length),{e with cells:=setAt e.cells off (cellsOf (evD sl x))})
    |_,_=>Ag
   |_=>Ag
theorem zB6(e:Bk)(k:Nat)(p:Prop)(b:Bk)(hk:st[k]?=Ac e)(hp:p)(next:seqW P T ops dr l.tail (putD sl (hdst l) .unk) (st.set k b) K)(h:putL P l sl e=Ac (k,p,b):=by kernel_rfl):seqW P T ops dr l sl st K:=by
 unfold putL at h;split at h
 ·cases h
 rename_i o r;split at h
 ·cases h
 rename_i hg;split at h
 ·rename_i t a x ho;split at h
  ·rename_i k1 off sz ha hs;split at h
   ·cases h
   rename_i hm;split at h
   ·cases h
   rename_i hn;cases h;have he:aeff P T o.op o.type (evD sl) st= .put (e.fz=Ad/\zD6 (evD sl x)=Ab/\(cellsOf (evD sl x)).length=sz/\off+sz<=e.cells.length) k {e with cells:=setAt e.cells off (cellsOf (evD sl x))} []:=by
    rw[ho];simp only[aeff,ha,hs,hk];rw[if_neg hm,if_neg hn]
   refine zDp hg<|go_put he (by rw[ho];rfl) hp rfl rfl ?_;exact next
  cases h
 cases h
def putA(P:Program)(l:List Oper)(sl:List D)(e:Bk):Option (Nat×Prop×Bk):=match l with
 |[]=>Ag
 | o ::_=>match o.guard with
  |some _=>Ag
  | none=>match o.op with
   | .store t a x=>match evD sl a,tySz P t with
    | .own k off,Ac sz=>if e.kd.isMap then Ag else if e.nob then match frz Ad [] zAe (evD sl x)with
      |some (d,[])=>Ac (k,(e.fz=Ad/\zD6 d=Ab/\(cellsOf d).length=sz/\off+sz<=e.cells.length),{e with cells:=setAt e.cells off (cellsOf d)})
      |_=>Ag
     else Ag
    |_,_=>Ag
   |_=>Ag
theorem st_actc(gs:List (Nat×Bool))(cs:List Prop)(args:List D)(args':List D)(h:actL P T ops dr l gs sl st=Ac (cs,f,args))(hc:Alls cs)(ha:LeL args args')(hp:Acts P f args' st ch x st')(hk:∀k∈ch,T.keep k=Ad)(hs:∀d∈sl,∀k∈ch,refs k d=Ad)(k:seqW P T ops dr l.tail (putD sl (hdst l) x) st' K):seqW P T ops dr l sl st K:=by
 unfold actL at h;split at h
 ·cases h
 rename_i o r;split at h
 ·rename_i c1 g1 s1 hg;split at h
  ·rename_i f1 a1 he;split at h
   ·rename_i hl;simp only[AO.injEq,Ay.injEq]at h;obtain⟨rfl,rfl,rfl⟩:=h;obtain⟨rfl,g2⟩:=zFm (P:=P) (T:=T) hg hc;simp only[AI,Bn,Bo]at hl;refine g2 ?_;simp only[goW,he];refine⟨hl.1,hl.2,ch,x,st',⟨hp.le ha,hk⟩,?_⟩;have:s1.map (zCp ch)=s1:=by
     conv=>rhs;rw[<-List.map_id s1]
     refine List.map_congr_left λd hd=>?_;unfold zCp;grind
    rw[this];exact k
   cases h
  cases h
 cases h
theorem weak_opq(hs:List (Nat×Nat))(C:Prop)(h:Alls (leC 0 sl sl' hs)=C)(hc:C):Weak T sl st sl' st:=by
 grind [Weak.slots,leC_ok]
theorem zG1(gs:List (Nat×Bool))(cs:List Prop)(args:List D)(args':List D)(ha:LeL args args')(hp:Acts P f args' st ch x st')(k:seqW P T ops dr l.tail (putD (sl.map (zCp ch)) (hdst l) x) st' K)(h:actL P T ops dr l gs sl st=Ac (cs,f,args):=by kernel_rfl)(hc:Alls cs:=by exact trivial)(hk:ch.all (λk=>!T.keep k)=true:=by kernel_rfl):seqW P T ops dr l sl st K:=by
 unfold actL at h;split at h
 ·cases h
 rename_i o r;split at h
 ·rename_i c1 g1 s1 hg;split at h
  ·rename_i f1 a1 he;split at h
   ·rename_i hl;simp only[AO.injEq,Ay.injEq]at h;obtain⟨rfl,rfl,rfl⟩:=h;obtain⟨rfl,g2⟩:=zFm (P:=P) (T:=T) hg hc;simp only[AI,Bn,Bo]at hl;refine g2 ?_;simp only[goW,he];exact⟨hl.1,hl.2,ch,x,st',⟨hp.le ha,λk hk'=>by simpa using Bm.1 hk k hk'⟩,k⟩
   cases h
  cases h
 cases h
def updB(st:List Bk)(ups:List (Nat×Bk))(news:List Bk):List Bk:=ups.foldl (λs p=>s.set p.1 p.2) st++news
theorem Acts.cut{f:FuncId}{args:List D}{s:List Bk}{x:D}{ch:List Nat}(m:Nat)(h:Acts P f args st ch x s)(hm:st.length<=m)(hn:zEr [x] s m s.length=Ab):Acts P f args st ch x (s.take m):=by
 intro β I w vs hr hsr hinj hfz hdom hi hg;refine(h β I w vs hr hsr hinj hfz hdom hi hg).mono ?_;rintro e w' ⟨v,β',I',rfl,p1,p2,p3,p4,p5,p6,p7,p8⟩;have hs:Sim β' I' w' [x] s [v]:=⟨by simp only[RelT];exact⟨v,[],rfl,p8,rfl⟩,p4,p5,p6,p7,p1,hg.mono p2.fix⟩;obtain⟨β2,I2,s2,t2,k2⟩:=Weak.cut (T:=⟨λ_=>Ad,λ_ _=>Ag,λk=>decide (k<m),λ_=>Ad,λ_=>Ad⟩) m hn (λk hk=>by simp;omega) β' I' w' _ hs;have hx:=s2.rel;simp only[RelT]at hx;obtain⟨v2,us,hv,hx,_⟩:=hx;simp only[List.cons.injEq]at hv;obtain⟨rfl,_⟩:=hv;refine⟨v,β2,I2,rfl,s2.imb,p2.trans t2,λk y hk hb=>k2 k y (by have:=hdom k y hb;simp;omega) (p3 k y hk hb),s2.sr,s2.inj,s2.fz,s2.dom,hx⟩
end
theorem zAc{β:Type}{f:α->β}{l:List α}(h:0<l.length:=by omega):l.map f≠[]:=by grind [List.map_eq_nil_iff]
theorem zAq(f:α->D)(l:List α)(d0:α)(k:Nat)(h:k<l.length):((l.map f).drop k).headD .unk=f (l.getD k d0):=by
 simp_all
theorem zM9(a:Nat):(a:Int)+1=((a+1:Nat):Int):=by simp
theorem zC1(a:Nat)(h:1<=a):(a:Int)-1=((a-1:Nat):Int):=by omega
theorem zJ9(n:Nat):A1 (n:Int) (2^32)=((n/4294967296:Nat):Int):=by
 grind
abbrev dig(x:Nat):D:= .val (.int .u32 x)
abbrev digR(l:List Nat):D:= .row (l.map dig) l.length
theorem zBx(l:List Nat)(k:Nat)(h:k<l.length):((l.map dig).drop k).headD .unk=dig (l.getD k 0):=by
 simp_all
theorem zF0(l:List Nat)(k x:Nat):(l.map dig).set k (.val (.int .u32 (x:Int)))=(l.set k x).map dig:=by
 rw[List.map_set]
theorem zP5(n:Nat):repL n [.val (.int .u32 0)]=(Az n 0).map dig:=by
 rw[List.map_replicate];induction n with
 |zero=>rfl
 |succ n ih=>simp only[repL,By,BR,BA,BS]at ih⊢;rw[ih];rfl
theorem zHt(l:List Nat)(n:Nat):(l.map dig).take n=(l.take n).map dig:=by rw[List.map_take]
def dg(n:Nat):List Nat:=if h:n=0 then[]else n%4294967296::dg (n/4294967296)
 decreasing_by omega
theorem zBz(n:Nat):nval (dg n)=n:=by
 induction n using A9 with
 |_ n ih=>
  grind [dg,nval]
theorem zB0(n:Nat):Digs (dg n):=by
 induction n using A9 with
 | _ n ih=>
  intro i;unfold dg;split
  ·simp
  cases i with
  |zero=>simp;omega
  |succ i=>simp only[List.getD_cons_succ];exact ih _ (by omega) i
theorem zVf{x:Nat}{l:List Nat}(h:Normal (x::l)):Normal l/\(l=[]->x≠0):=by
 rcases h with h|h
 ·cases h
 cases l with
 |nil=>exact⟨.inl rfl,λ_=>by simpa using h⟩
 |cons y l=>exact⟨.inr (by simpa using h),λh=>by cases h⟩
theorem dg_nval:∀(l:List Nat),Normal l->Digs l->dg (nval l)=l
 |[],_,_=>by unfold dg;simp[nval]
 |x::l,hn,hd=>by
  obtain⟨h1,h2⟩:=zVf hn;have hx:x<4294967296:=by simpa using hd 0
  have ih:=dg_nval l h1 (λi=>by simpa using hd (i+1));grind [nval,Normal.zero,dg]
theorem zPs{l:List Nat}(hl:Digs l):l.take (zCm l l.length)=dg (nval l):=by
 have h1:=zSb l l.length (Ar _);have h2:=zG5 l l.length (Ar _);rw[Bq]at h1;rw[<-h1,dg_nval _ h2 (hl.take _)]
theorem zSc(n:Nat):Normal (dg n):=by
 have h:=zG5 (dg n) (dg n).length (Ar _);grind [zPs,zB0,zBz]
theorem zM2{l:List Nat}(hl:Digs l):(dg (nval l)).length<=l.length:=by
 grind [zPs,A3]
def cmpD(a b:Int):Int:=if a<b then-1 else if b<a then 1 else 0
theorem cmpD_eq{a b c d:Nat}(h1:a<b->c<d)(h2:b<a->d<c)(h3:a=b->c=d):cmpD a b=cmpD c d:=by
 grind [cmpD,Nat.lt_trichotomy]
abbrev natD(n:Nat):D:=digR (dg n)
end
variable{s:ChangeSpec}{before:List MemPlace}{bt:TypeId}
section
open Go.ChangeShapes Go.WideShapes Go.ChangeAt Go.RowKit
section
variable{H:Type}{enc:TypeId×Value->H}{P:Program}
theorem zLn(hl:laidOutB P=Ab){W W':World}(hb:Ext W W'):∀{ts:List TypeId}{vs:List Value}{ds:List (DataW H)}{ps:List MemPlace}(sp:Nat->Bool),
  ts.all (λt=>P.readableRec t&&decide (t<P.types.size))=Ab->DataW.TrodAll enc P W 0 (λ_=>Ab) Ab ts vs ds ps->(∀p∈ps,p.block<W.heap.size)->(∀p∈ps,sp p.block=Ab)->DataW.TrodAll enc P W' 0 sp Ab ts vs ds ps
 |[],[],[],ps,sp,_,h,_,_=>h
 |t::ts,v::vs,d::ds,ps,sp,hr,⟨p,q,h1,h2,h3⟩,hlt,hsp=>by
  subst h3;simp only[List.all_cons,AI,decide_eq_true_eq]at hr;refine⟨p,q,WideElems.Trod_stays hl hr.1.1 hr.1.2 h1 (λx hx=>Below.same hb.1 (hlt x (B6 _ hx))) (λx hx=>hsp x (B6 _ hx)),?_,rfl⟩;exact zLn hl hb sp hr.2 h2 (λx hx=>hlt x (B7 _ hx)) (λx hx=>hsp x (B7 _ hx))
 |[],_::_,_,_,_,_,h,_,_=>h.elim
 |[],[],_::_,_,_,_,h,_,_=>h.elim
 |_::_,[],_,_,_,_,h,_,_=>h.elim
 |_::_,_::_,[],_,_,_,h,_,_=>h.elim
theorem post_true{f:Func}{W W':World}{args:Array Value}{ds:List (DataW H)}
  (hl:laidOutB P=Ab)(hv:s.vars=[])(hrt:f.resultTypes=#[bt])(hbt:P.underlying bt=Ac .bool)
  (hr:f.params.toList.all (λt=>P.readableRec t&&decide (t<P.types.size))=Ab)
  (hfn:s.fn H ds={results:=[.lit (.bool Ab)],args:=ds})
  (hW:DataW.Whole enc P f.params.toList s.vars Ad W args.toList ds [] before)(hx:Ext W W'):
  s.post enc P f Ad Ab Ad Ad W args (.bool Ab) W':=by
 have hlt:∀p∈before,p.block<W.heap.size:=λp hp=>hW.lt p hp;obtain⟨p,q,hA,hV,hpq,hz,hn⟩:=id hW;rw[hv]at hV;have hq:q=[]:=hV;subst hq;rw[Ca]at hpq;subst hpq;have hfn':s.fn H (ds++[])={results:=[.lit (.bool Ab)],args:=ds}:=by rw[Ca];exact hfn
 have hstay:∀sp:Nat->Bool,(∀x∈before,sp x.block=Ab)->DataW.TrodAll enc P W' 0 sp Ab f.params.toList args.toList ds before:=λsp hsp=>zLn hl hx sp hr hA hlt hsp;have hres:∀(b:Nat)(sp:Nat->Bool)(hd:Bool),DataW.TrodAll enc P W' b sp hd f.resultTypes.toList ((AP Ab).resultList f.resultTypes.size) [.lit (.bool Ab)] []:=by
  intro b sp hd;rw[hrt];exact⟨[],[],shut_bool hbt Ab,rfl,rfl⟩
 have hvars:∀sp:Nat->Bool,DataW.TrodVars enc P W' sp s.vars ([]:List (DataW H)) []:=λsp=>by rw[hv];exact rfl
 refine⟨ds,[],before,[],before,[],hW,by rw[hfn'];exact hres _ _ _,by rw[hfn'];exact hstay _ (λx hx=>by simpa using hlt x hx),by rw[hfn'];exact hvars _,World.keptBut_mono (λx hx=>⟨hx,Or.inr (by simpa using hx)⟩) (Below.frame hx.1 (· ∈before)),λ_=>?_⟩;grind
end
end
section
open Go.ChangeShapes Go.WideShapes Go.ChangeAt Go.RowKit
def allI(w:World):Im:=λb _=>b<w.heap.size
def ShpB(P:Program)(B:Nat):Nat->TypeId->List D->Prop
 |0,_,_=>False
 |n+1,t,ds=>match P.underlying t with
  |some .bool=>∃b,ds=[.val (.bool b)]
  |some (.int k)=>∃z,ds=[.val (.int k z)]/\(Lit.int k z).wf=Ab
  |some .string=>∃s,ds=[.val (.string s)]/\s.size<=B
  |some (.slice e)=>∃ls:List (List D),ds=[.row ls.flatten ls.length]/\(∀x∈ls,ShpB P B n e x/\x.length=P.cellsOf e)/\ls.length<=B
  |some (.struct fs)=>ds.length=P.cellsOf t/\∀f∈fs.toList,ShpB P B n f.type ((ds.drop f.offset).take (P.cellsOf f.type))
  |some (.array m e)=>ds.length=P.cellsOf t/\∀i,i<m->ShpB P B n e ((ds.drop (i*P.cellsOf e)).take (P.cellsOf e))
  |_=>False
section
variable{H:Type}{enc:TypeId×Value->H}{P:Program}{w:World}
theorem zH2{α β:Type}{f:α->Option β}:∀{l:List α}{r:List β},l.mapM f=Ac r->r.length=l.length/\∀(i:Nat) x,l[i]?=Ac x->∃y,f x=Ac y/\y∈r
 |[],r,h=>by simp at h;subst h;exact⟨rfl,by simp⟩
 | a::l,r,h=>by
  rw[List.mapM_cons]at h;cases ha:f a with
  |none=>simp[ha]at h
  | some b=>
   cases hl:l.mapM f with
   |none=>simp[ha,hl]at h
   |some bs=>
    simp[ha,hl]at h;subst h;obtain⟨h1,h2⟩:=zH2 hl;grind
theorem RelC.append{I:Im}{b:Nat}:∀{x y:List D}{o:Nat},RelC I w x b o->RelC I w y b (o+x.length)->RelC I w (x++y) b o
 |[],y,o,h,k=>by simpa using k
 |d::x,y,o,h,k=>by
  simp only[BA,RelC]at h⊢;refine⟨h.1,h.2.append ?_⟩;grind
theorem zKl{I:Im}{b sz:Nat}:∀(ls:List (List D))(o:Nat),(∀j x,ls[j]?=Ac x->RelC I w x b (o+j*sz)/\x.length=sz)->RelC I w ls.flatten b o
 |[],o,h=>by simp only[List.flatten_nil,RelC]
 |x::ls,o,h=>by
  rw[BR];have h0:=h 0 x rfl;refine RelC.append (by simpa using h0.1) (zKl (sz:=sz) ls _ λj y hy=>?_)
  have:=h (j+1) y (by simpa using hy)
  grind
theorem zP6{b o n:Nat}{cs:List Value}(h:RelL (allI w) w noB ds cs)(hc:∀j v,cs[j]?=Ac v->w.cell? ⟨b,o+j,Ag⟩=Ac v):RelC (allI w) w ds b o:=
 RelC.of_get λi d hd=>by
  obtain⟨v,k1,k2,k3⟩:=h.get i d hd;have hv:=hc i v k1;exact⟨World.block_lt_of_cell? w _ hv,v,hv,k2,k3⟩
def zGd(P:Program)(total:Nat):List Field->Nat->Bool
 |[],off=>off==total
 |f::r,off=>f.offset==off&&zGd P total r (off+P.cellsOf f.type)
theorem zS7{total:Nat}:∀{fs:List Field}{off:Nat},zGd P total fs off=Ab->off<=total
 |[],off,h=>by simp[zGd]at h;omega
 |f::r,off,h=>by
  simp only[zGd,AI,beq_iff_eq]at h
  have:=zS7 h.2
  omega
theorem zS8{total:Nat}:∀{fs:List Field}{off:Nat},zGd P total fs off=Ab->∀f∈fs,off<=f.offset
 |[],off,h,f,hf=>by cases hf
 |g::r,off,h,f,hf=>by
  simp only[zGd,AI,beq_iff_eq]at h;rcases A4.1 hf with rfl|hf
  ·omega
  have:=zS8 h.2 f hf;omega
theorem zPf{total:Nat}{cs:List Value}(hl:cs.length=total){S:TypeId->List D->Prop}:∀(fs:List Field)(off:Nat),zGd P total fs off=Ab->(∀f∈fs,∃ds,RelL (allI w) w noB ds ((cs.drop f.offset).take (P.cellsOf f.type))/\S f.type ds)->
  ∃ds,RelL (allI w) w noB ds (cs.drop off)/\∀f∈fs,S f.type ((ds.drop (f.offset-off)).take (P.cellsOf f.type))
 |[],off,hc,h=>by
  simp only[zGd,beq_iff_eq]at hc;exact⟨[],by rw[BT (by omega)];simp only[RelL],by simp⟩
 | f::r,off,hc,h=>by
  simp only[zGd,AI,beq_iff_eq]at hc;obtain⟨df,h1,h2⟩:=h f (Bj ..);obtain⟨dr,h3,h4⟩:=zPf hl r _ hc.2 (λg hg=>h g (BB _ hg));have hle:=zS7 hc.2;have hlen:df.length=P.cellsOf f.type:=by
   rw[h1.length,A3,Cb,hc.1];omega
  refine⟨df++dr,?_,λg hg=>?_⟩
  ·have:=h1.append h3
   grind [Cc,Bp]
  rcases A4.1 hg with rfl|hg
  ·simp_all
  have hge:=zS8 hc.2 g hg;grind [List.drop_append,BT]
theorem zSp{sz:Nat}{S:List D->Prop}:∀(m:Nat)(cs:List Value),cs.length=m*sz->(∀i,i<m->∃ds,RelL (allI w) w noB ds ((cs.drop (i*sz)).take sz)/\S ds)->
  ∃ds,RelL (allI w) w noB ds cs/\∀i,i<m->S ((ds.drop (i*sz)).take sz)
 |0,cs,hl,h=>by
  obtain rfl:cs=[]:=A5 (by simpa using hl);exact⟨[],by simp only[RelL],by simp⟩
 | m+1,cs,hl,h=>by
  obtain⟨d0,h1,h2⟩:=h 0 (by omega);rw[Nat.zero_mul,AS]at h1;rw[BC]at hl;have hlen:d0.length=sz:=by rw[h1.length,A3];omega
  obtain⟨dr,h3,h4⟩:=zSp (sz:=sz) (S:=S) m (cs.drop sz) (by rw[Cb];omega) (λi hi=>by
   obtain⟨ds,k1,k2⟩:=h (i+1) (by omega);refine⟨ds,?_,k2⟩;rw[Cc,show sz+i*sz=(i+1)*sz by rw[BC];omega];exact k1)
  refine⟨d0++dr,?_,λi hi=>?_⟩
  ·have:=h1.append h3
   simp_all
  cases i with
  |zero=>
   grind
  |succ i=>
   have:=h4 i (by omega)
   rw[BC,List.drop_append,BT (l:=d0) (by omega),BS,show i*sz+sz-d0.length=i*sz by omega];exact this
def okT(P:Program):Nat->TypeId->Bool
 |0,_=>Ab
 |n+1,t=>match P.underlying t with
  |some .bool|some (.int _)|some .string=>Ab
  |some (.slice e)=>decide (0<P.cellsOf e)&&okT P n e
  |some (.struct fs)=>zGd P (P.cellsOf t) fs.toList 0&&fs.toList.all (λf=>okT P n f.type)
  |some (.array m e)=>P.cellsOf t==m*P.cellsOf e&&okT P n e
  |_=>Ad
section
variable{B:Nat}{Q:DataW H->Prop}(hQ:∀ e s, Q (.slice e s)->(e.length ≤ maxLen->e.length ≤ B) ∧ ∀ x ∈ e, Q x)(hA:∀ p, Q (.agg p)->∀ x ∈ p, Q x)(hS:∀ l, Q (.lit (.string l))->l.length ≤ maxLen->l.length ≤ B)
include hQ hA hS
theorem zW3:∀(fuel:Nat)(t:TypeId)(cs:List Value)(d:DataW H)(ps:List MemPlace),DataW.trod enc P w 0 (λ_=>Ab) Ab fuel t cs=Ac (d,ps)->Q d->okT P fuel t=Ab->∃ds,RelL (allI w) w noB ds cs/\ShpB P B fuel t ds
 |0,t,cs,d,ps,h,hq,hk=>by cases h
 | n + 1,t,cs,d,ps,h,hq,hk=>by
  have ih:=zW3 n;simp only[DataW.trod]at h;split at h;case h_1=>
   rename_i b hu;exact⟨[.val (.bool b)],by simp only[RelL,Rel];exact⟨_,_,rfl,rfl,rfl,rfl⟩,by simp[ShpB,hu]⟩
  case h_2=>
   rename_i k k' z hu;split at h
   ·rename_i hc;obtain⟨rfl,hw⟩:=hc;exact⟨[.val (.int k' z)],by simp only[RelL,Rel];exact⟨_,_,rfl,rfl,rfl,rfl⟩,by simp[ShpB,hu,hw]⟩
   cases h
  case h_4=>
   rename_i z hu;split at h
   ·rename_i hc;have hz:z.size<=B:=hS _ ((Ay.inj (AO.inj h)).1▸hq) hc;exact⟨[.val (.string z)],by simp only[RelL,Rel];exact⟨_,_,rfl,rfl,rfl,rfl⟩,by simp[ShpB,hu,hz]⟩
   cases h
  case h_7=>
   rename_i e hu;exact⟨[.row [] 0],by simp only[RelL,Rel];exact⟨_,_,rfl,rfl,⟨Ag,0,rfl,Ar _,by decide,λ_=>rfl, .inl trivial⟩,rfl⟩,by simp only[ShpB,hu];exact⟨[],rfl,by simp,AV _⟩⟩
  case h_8=>
   rename_i e a len cap hu;simp only[okT,hu,AI,decide_eq_true_eq]at hk;split at h
   ·rename_i hc;cases hm:(AK len).mapM (λi=>(w.cells? 0 (a.add (i*P.cellsOf e)) (P.cellsOf e)).bind (DataW.trod enc P w 0 (λ_=>Ab) Ab n e))with
    |none=>simp[hm]at h
    | some es=>
     obtain⟨h1,h2⟩:=zH2 hm;obtain⟨rest,rfl⟩:∃rest,d= .slice (es.map (·.1)) rest:=by
      simp[hm]at h;obtain⟨rest,_,h3,_⟩:=h;exact⟨_,h3.symm⟩
     obtain⟨hq1,hq2⟩:=hQ _ _ hq;have hB:len<=B:=by
      rw[AW,h1,List.length_range]at hq1;exact hq1 (by omega)
     have key:∀i,i<len->∃ds cs,RelL (allI w) w noB ds cs/\ShpB P B n e ds/\w.cells? 0 (a.add (i*P.cellsOf e)) (P.cellsOf e)=Ac cs:=by
      intro i hi;obtain⟨y,hy,hmem⟩:=h2 i i (Cd hi);rw[Option.bind_eq_some_iff]at hy;obtain⟨cs,k1,k2⟩:=hy;obtain⟨ds,k3,k4⟩:=ih e cs y.1 y.2 k2 (hq2 _ (BL.2 ⟨y,hmem,rfl⟩)) hk.2;exact⟨ds,cs,k3,k4,k1⟩
     have hsp:0<len->a.spot=none:=by
      intro h0;obtain⟨ds,cs,k1,k2,k3⟩:=key 0 h0;obtain⟨_,hl,hcell⟩:=Ce k3
      have:=hcell 0 (by omega)
      have h5:∃v,w.cell? ((a.add (0*P.cellsOf e)).add 0)=Ac v:=by
       rw[this];exact⟨cs[0]'(by omega),by simp⟩
      obtain⟨v,hv⟩:=h5
      have:=World.cell?_spot hv
      simpa[Addr.add]using this
     have hls:∃ls:List (List D),ls.length=len/\∀j x,ls[j]?=Ac x->∃cs,RelL (allI w) w noB x cs/\ShpB P B n e x/\w.cells? 0 (a.add (j*P.cellsOf e)) (P.cellsOf e)=Ac cs:=by
      refine⟨(AK len).map (λi=>if hi:i<len then Classical.choose (key i hi)else[]),by simp,λj x hx=>?_⟩;rw[Cf,AB]at hx;obtain⟨j',hj,rfl⟩:=hx;have hjl:j<len:=by have:=(A2.1 hj).1;simpa using this
      rw[Cd hjl]at hj;cases hj;rw[dif_pos hjl];exact Classical.choose_spec (key j hjl)
     obtain⟨ls,hl1,hl2⟩:=hls;have hlen:∀(j:Nat)(x:List D),ls[j]?=Ac x->x.length=P.cellsOf e:=by
      intro j x hx;obtain⟨cs,k1,k2,k3⟩:=hl2 j x hx;rw[k1.length];exact(Ce k3).2.1
     refine⟨[.row ls.flatten ls.length],?_,?_⟩
     ·simp only[RelL,Rel];refine⟨_,_,rfl,rfl,⟨Ac a,cap,by rw[hl1],by omega,hc.2.2,(λh=>by cases h),?_⟩,rfl⟩;rcases Cg len with h0|h0
      ·left;obtain rfl:ls=[]:=A5 (by omega);rfl
      right;obtain⟨b,o,sp⟩:=a;obtain rfl:sp=none:=hsp h0;refine⟨b,o,rfl,zKl (sz:=P.cellsOf e) ls o λj x hx=>⟨?_,hlen j x hx⟩⟩;obtain⟨cs,k1,k2,k3⟩:=hl2 j x hx;obtain⟨_,k4,k5⟩:=Ce k3;refine zP6 (n:=0) k1 λi v hv=>?_;have hi:i<P.cellsOf e:=by have:=(A2.1 hv).1;omega
      have:=k5 i hi
      rw[hv]at this;rw[add_plain,add_plain]at this;exact this
     simp only[ShpB,hu];refine⟨ls,rfl,λx hx=>?_,by omega⟩;obtain⟨j,hj⟩:=List.getElem?_of_mem hx;obtain⟨cs,k1,k2,k3⟩:=hl2 j x hj;exact⟨k2,hlen j x hj⟩
   cases h
  case h_9=>
   rename_i fs hu;simp only[okT,hu,AI]at hk;split at h
   ·rename_i hl;rw[AB]at h;obtain⟨xs,hm,hd⟩:=h;obtain⟨_,h2⟩:=zH2 hm;obtain⟨rfl,_⟩:=Ay.injEq ..▸hd;have hq2:=hA _ hq;obtain⟨ds,k1,k2⟩:=zPf (P:=P) (S:=ShpB P B n) hl fs.toList 0 hk.1 (λf hf=>by
     obtain⟨j,hj⟩:=List.getElem?_of_mem hf;obtain⟨y,hy,hmem⟩:=h2 j f hj;exact ih _ _ y.1 y.2 hy (hq2 _ (BL.2 ⟨y,hmem,rfl⟩)) (Bm.1 hk.2 f hf))
    rw[AS]at k1;exact⟨ds,k1,by simp only[ShpB,hu];exact⟨by rw[k1.length];exact hl,λf hf=>by simpa using k2 f hf⟩⟩
   cases h
  case h_10=>
   rename_i m e hu;simp only[okT,hu,AI,beq_iff_eq]at hk;split at h
   ·rename_i hl;rw[AB]at h;obtain⟨xs,hm,hd⟩:=h;obtain⟨_,h2⟩:=zH2 hm;obtain⟨rfl,_⟩:=Ay.injEq ..▸hd;have hq2:=hA _ hq;obtain⟨ds,k1,k2⟩:=zSp (sz:=P.cellsOf e) (S:=ShpB P B n e) m _ (by rw[hl,hk.1]) (λi hi=>by
     obtain⟨y,hy,hmem⟩:=h2 i i (Cd hi);exact ih _ _ y.1 y.2 hy (hq2 _ (BL.2 ⟨y,hmem,rfl⟩)) hk.2)
    exact⟨ds,k1,by simp only[ShpB,hu];exact⟨by rw[k1.length];exact hl,k2⟩⟩
   cases h
  all_goals (exfalso;simp_all [okT])
end
end
end
variable{xs:List D}{k base:Nat}{P:Program}{r:Reach}{t e:TypeId}{v:Value}
section
open Go.ChangeShapes Go.WideShapes Go.ChangeAt Go.RowKit
def okS(P:Program):Nat->TypeId->Bool
 |0,_=>Ad
 |n+1,t=>match P.underlying t with
  |some .bool|some (.int _)|some .string=>Ab
  |some (.slice e)=>decide (0<P.cellsOf e)&&okS P n e
  |some (.struct fs)=>zGd P (P.cellsOf t) fs.toList 0&&fs.toList.all (λf=>okS P n f.type)
  |some (.array m e)=>P.cellsOf t==m*P.cellsOf e&&okS P n e
  |_=>Ad
theorem zQm{P:Program}:∀{k:Nat}{t:TypeId},okS P k t=Ab->∀n,okT P n t=Ab
 |0,t,h,n=>by cases h
 |k+1,t,h,0=>rfl
 | k+1,t,h,n+1=>by
  simp only[okS]at h;simp only[okT];split at h<;>rename_i hu<;>(try simp only[hu])<;>try trivial
  ·simp only[AI]at h⊢;exact⟨h.1,zQm h.2 n⟩
  ·simp only[AI,Bm]at h⊢;exact⟨h.1,λf hf=>zQm (h.2 f hf) n⟩
  simp only[AI]at h⊢;exact⟨h.1,zQm h.2 n⟩
section
variable{P:Program}{B n:Nat}{t:TypeId}{ds:List D}
theorem shp_bool(hu:P.underlying t=Ac .bool)(h:ShpB P B n t ds):∃b,ds=[.val (.bool b)]:=by
 cases n with
 |zero=>exact h.elim
 |succ n=>simpa only[ShpB,hu]using h
theorem zLu{k:IntKind}(hu:P.underlying t=Ac (.int k))(h:ShpB P B n t ds):∃z,ds=[.val (.int k z)]/\inK k z:=by
 cases n with
 |zero=>exact h.elim
 |succ n=>
  simp only[ShpB,hu]at h;obtain⟨z,h1,h2⟩:=h;refine⟨z,h1,?_⟩;cases k<;>simpa[Lit.wf,IntKind.min,IntKind.max,BP,BO,inK]using h2
theorem zZt(hu:P.underlying t=Ac .string)(h:ShpB P B n t ds):∃s,ds=[.val (.string s)]/\s.size<=B:=by
 cases n with
 |zero=>exact h.elim
 |succ n=>simpa only[ShpB,hu]using h
theorem zEm(hu:P.underlying t=Ac (.slice e))(h:ShpB P B n t ds):∃m,∃ls:List (List D),ds=[.row ls.flatten ls.length]/\(∀x∈ls,ShpB P B m e x)/\ls.length<=B:=by
 cases n with
 |zero=>exact h.elim
 |succ n=>
  simp only[ShpB,hu]at h;obtain⟨ls,h1,h2,h3⟩:=h;exact⟨n,ls,h1,λx hx=>(h2 x hx).1,h3⟩
theorem zNv{fs:Array Field}(hu:P.underlying t=Ac (.struct fs))(h:ShpB P B n t ds):ds.length=P.cellsOf t/\∃m,∀f∈fs.toList,ShpB P B m f.type ((ds.drop f.offset).take (P.cellsOf f.type)):=by
 cases n with
 |zero=>exact h.elim
 |succ n=>
  simp only[ShpB,hu]at h;exact⟨h.1,n,h.2⟩
theorem zEu{β:Type}{g:β->D}{Q:β->Prop}:∀{ls:List (List D)},(∀x∈ls,∃b,x=[g b]/\Q b)->∃bs:List β,ls.flatten=bs.map g/\bs.length=ls.length/\∀b∈bs,Q b
 |[],h=>⟨[],rfl,rfl,by simp⟩
 |x::ls,h=>by
  obtain⟨b,rfl,hb⟩:=h x (Bj ..);obtain⟨bs,h1,h2,h3⟩:=zEu λy hy=>h y (BB _ hy);refine⟨b::bs,by simp[h1],by simp[h2],λc hc=>?_⟩;grind
theorem zSl{β:Type}{g:β->List D}{Q:β->Prop}:∀{ls:List (List D)},(∀x∈ls,∃b,x=g b/\Q b)->∃bs:List β,ls.flatten=(bs.map g).flatten/\bs.length=ls.length/\∀b∈bs,Q b
 |[],h=>⟨[],rfl,rfl,by simp⟩
 |x::ls,h=>by
  obtain⟨b,rfl,hb⟩:=h x (Bj ..);obtain⟨bs,h1,h2,h3⟩:=zSl λy hy=>h y (BB _ hy);refine⟨b::bs,by simp[h1],by simp[h2],λc hc=>?_⟩;grind
end
theorem zSa(ht:P.underlying t=Ac (.array k e))(h:BD P w r base t v):∃cs,v= .agg cs/\cs.size=P.cellsOf t:=by
 simp only[BD,ht]at h;grind
def ArgB(P:Program)(B:Nat)(t:TypeId)(d:D):Prop:=∃n,if zEj P t then∃ds,d= .agg ds/\ShpB P B n t ds else ShpB P B n t [d]
section
variable{H:Type}{enc:TypeId×Value->H}{P:Program}{W:World}{B:Nat}{Q:DataW H->Prop}(hQ:∀ e s, Q (.slice e s)->(e.length ≤ maxLen->e.length ≤ B) ∧ ∀ x ∈ e, Q x)(hA:∀ p, Q (.agg p)->∀ x ∈ p, Q x)(hS:∀ l, Q (.lit (.string l))->l.length ≤ maxLen->l.length ≤ B)
section
include hQ hA hS
theorem arg_rel{b:Nat}{d:DataW H}{ps:List MemPlace}(hval:BD P W r b t v)(h:DataW.Trod enc P W 0 (λ_=>Ab) Ab t v d ps)(hq:Q d)(hk:okS P k t=Ab):
  ∃x,Rel (allI W) W noB x v/\ArgB P B t x:=by
 obtain⟨fuel,hf⟩:=h;obtain⟨ds,k1,k2⟩:=zW3 hQ hA hS fuel t _ _ _ hf hq (zQm hk fuel);have one:v.cells=#[v]->zEj P t=Ad->∃x,Rel (allI W) W noB x v/\ArgB P B t x:=by
  intro hc ha;rw[hc]at k1;have hl:=k1.length;match ds,hl with
  |[x],_=>
   simp only[RelL]at k1;obtain⟨u,us,e,_,k3,k4⟩:=k1;simp only[List.cons.injEq]at e;obtain⟨rfl,rfl⟩:=e;exact⟨x,k3,fuel,by rw[if_neg (by simp[ha])];exact k2⟩
 have many:(∃cs,v= .agg cs)->zEj P t=Ab->∃x,Rel (allI W) W noB x v/\ArgB P B t x:=by
  rintro⟨cs,rfl⟩ ha;refine⟨.agg ds,?_,fuel,by rw[if_pos ha];exact⟨ds,rfl,k2⟩⟩;simp only[Rel];exact⟨cs.toList,by simp,by simpa[Value.cells]using k1⟩
 cases k with
 |zero=>cases hk
 | succ k=>
  simp only[okS]at hk;split at hk<;>rename_i hu
  ·obtain⟨b,rfl⟩:=okWide_bool hu hval;exact one rfl (by simp[zEj,hu])
  ·obtain⟨b,rfl⟩:=okWide_int hu hval;exact one rfl (by simp[zEj,hu])
  ·obtain⟨b,rfl⟩:=okWide_string hu hval;exact one rfl (by simp[zEj,hu])
  ·obtain⟨a,l,c,rfl⟩:=okWide_slice hu hval;exact one rfl (by simp[zEj,hu])
  ·obtain⟨cs,rfl,_⟩:=okWide_struct hu hval;simp_all [zEj]
  ·obtain⟨cs,rfl,_⟩:=zSa hu hval;simp_all [zEj]
  cases hk
end
inductive ArgsB(P:Program)(B:Nat):List TypeId->List D->Prop
 |nil:ArgsB P B [] []
 |cons {t:TypeId} {ts:List TypeId} {d:D} {ds:List D}:ArgB P B t d->ArgsB P B ts ds->ArgsB P B (t::ts) (d::ds)
section
include hQ hA hS
theorem zZd{r:Reach}{b k:Nat}:∀{ts:List TypeId}{vs:List Value}{ds:List (DataW H)}{ps:List MemPlace},(∀(j:Nat) t v,ts[j]?=Ac t->vs[j]?=Ac v->BD P W r b t v)->DataW.TrodAll enc P W 0 (λ_=>Ab) Ab ts vs ds ps->(∀d∈ds,Q d)->ts.all (okS P k)=Ab->
  ∃xs,RelT (allI W) W noB xs vs/\ArgsB P B ts xs
 |[],vs,ds,ps,hv,h,hq,hk=>by
  obtain⟨rfl,_,_⟩:=trodAll_nil h;exact⟨[],by simp only[RelT], .nil⟩
 |t::ts,vs,ds,ps,hv,h,hq,hk=>by
  obtain⟨v,vs,d,ds,p,q,rfl,rfl,rfl,h1,h2⟩:=trodAll_cons h;simp only[List.all_cons,AI]at hk;obtain⟨x,k1,k2⟩:=arg_rel hQ hA hS (hv 0 t v rfl rfl) h1 (hq _ (Bj ..)) hk.1;obtain⟨xs,k3,k4⟩:=zZd (λj t v h1 h2=>hv (j+1) t v (by simpa using h1) (by simpa using h2)) h2 (λd hd=>hq d (BB _ hd)) hk.2;exact⟨x::xs,by simp only[RelT];exact⟨v,vs,rfl,k1,k3⟩, .cons k2 k4⟩
end
theorem ArgsB.one(h:ArgsB P B [t] xs):∃d,xs=[d]/\ArgB P B t d:=by
 cases h with|cons h1 h2=>cases h2;exact⟨_,rfl,h1⟩
theorem ArgsB.more{ts:List TypeId}(h:ArgsB P B (t::ts) xs):∃d ds,xs=d::ds/\ArgB P B t d/\ArgsB P B ts ds:=by
 cases h<;>grind
theorem ArgB.agg{t:TypeId}{d:D}(h:ArgB P B t d)(ha:zEj P t=Ab):∃n ds,d= .agg ds/\ShpB P B n t ds:=by
 obtain⟨n,h⟩:=h;grind
theorem ArgB.cell(h:ArgB P B t d)(ha:zEj P t=Ad):∃n,ShpB P B n t [d]:=by
 obtain⟨n,h⟩:=h;grind
theorem zLm:∀{ts:List TypeId}{vs:List Value}{ds:List (DataW H)}{ps:List MemPlace},DataW.TrodAll enc P W 0 (λ_=>Ab) Ab ts vs ds ps->ds.length=ts.length
 |[],vs,ds,ps,h=>by
  obtain⟨_,rfl,_⟩:=trodAll_nil h;rfl
 |t::ts,vs,ds,ps,h=>by
  obtain⟨v,vs,d,ds,p,q,rfl,rfl,rfl,h1,h2⟩:=trodAll_cons h;rw[Ba,Ba,zLm h2]
section
include hQ hA hS
theorem law_callB{args:Array Value}{ds gs:List (DataW H)}(k:Nat)
  (hl:laidOutB P=Ab)(hv:s.vars=[])(hrt:fn.resultTypes=#[bt])(hbt:P.underlying bt=Ac .bool)
  (hr:fn.params.toList.all (λt=>P.readableRec t&&decide (t<P.types.size))=Ab)(hfn:∀ds,ds.length=fn.params.toList.length->s.fn H ds={results:=[.lit (.bool Ab)],args:=ds})
  (hk:fn.params.toList.all (okS P k)=Ab)
  (hval:∀(j:Nat) t v,fn.params[j]?=Ac t->args[j]?=Ac v->BD P W .any base t v)
  (hW:DataW.Whole enc P fn.params.toList s.vars Ad W args.toList ds gs before)
  (hg:Gl (allI W) W)(hq:∀d∈ds,Q d)(main:∀xs,ArgsB P B fn.params.toList xs->Pure P f xs [] (.val (.bool Ab))):
  Calls P f args W λe W'=>∃v,e= .returned v/\s.post enc P fn Ad Ab Ad Ad W args v W':=by
 have hW':=hW;obtain⟨p,q,hA0,hV,rfl,hfz,hnd⟩:=hW;rw[hv]at hV;obtain⟨rfl,rfl⟩:=trodVars_none hV;obtain⟨xs,h1,h2⟩:=zZd hQ hA hS (k:=k) (r:= .any) (b:=base) (λj t v k1 k2=>hval j t v (by simpa using k1) (by simpa using k2)) hA0 hq hk;refine(main xs h2 (allI W) W args.toList h1 (λb o h=>h) hg).mono ?_;rintro e W' ⟨v,I',γ,rfl,hx,_,_,_,_,_,_,_,_,hr',_⟩;simp only[Rel]at hr';subst hr';exact⟨_,rfl,post_true (bt:=bt) hl hv hrt hbt hr (hfn ds (zLm hA0)) hW' hx⟩
end
end
end
variable{e ej:Bk}{ks:List Nat}
section
open Go.RowKit
section
variable{P:Program}{I:Im}{w:World}{β:Be}{sl:List D}{st:List Bk}{tm:List Value}
theorem Fix.drew(I:Im)(w:World)(q:Nat):Fix I w I (w.drewN q):=λb o h=>⟨h,λv hv=>hv,λ_ _ h=>h⟩
theorem Sim.drew(h:Sim β I w sl st tm)(q:Nat):Sim β I (w.drewN q) sl st tm:=by
 refine⟨Bl (Fix.drew I w q) β β (AH _) _ _ h.rel,λk b c hk=>?_,h.inj,h.fz,h.dom,h.imb,h.gl.mono (Fix.drew I w q)⟩;obtain⟨e,h1,h2⟩:=h.sr k b c hk;exact⟨e,h1,BM h2 rfl (Fix.drew I w q) (AH _)⟩
theorem Stp.drew(β:Be)(I:Im)(w:World)(q:Nat):Stp β I w β I (w.drewN q):=⟨Fix.drew _ _ _,Ar _,λ_ _ _=>rfl,rfl,rfl,rfl,Nat.le_add_right _ _,λk b c h=> .inl ⟨k,c,h⟩,λ_ _ h=> .inl h⟩
theorem zR1{β:Be}:∀{us vs:List Value},RelL I w β (us.map .val) vs->vs=us
 |[],vs,h=>by simpa only[Bb,RelL]using h
 |u::us,vs,h=>by
  simp only[A6,RelL,Rel]at h;obtain⟨v,vs',rfl,_,rfl,h⟩:=h;rw[zR1 h]
theorem zKk{β:Be}:∀{us:List Value},(∀v∈us,v.oneCell'=Ab)->RelL I w β (us.map .val) us
 |[],h=>by simp only[Bb,RelL]
 |u::us,h=>by
  simp only[A6,RelL,Rel];exact⟨u,us,rfl,h u (Bj ..),rfl,zKk λv hv=>h v (BB _ hv)⟩
end
theorem RelL.putAt{I:Im}{w:World}{β:Be}:∀{ds:List D}{vs:List Value}{i:Nat}{x:D},RelL I w β ds vs->(∀d v,ds[i]?=Ac d->vs[i]?=Ac v->Rel I w β d v->Rel I w β x v)->RelL I w β (ds.set i x) vs
 |[],vs,i,x,h,hx=>by simpa using h
 | d::ds,vs,i,x,h,hx=>by
  simp only[RelL]at h;obtain⟨v,us,rfl,h1,h2,h3⟩:=h;cases i with
  |zero=>simp only[List.set_cons_zero,RelL];exact⟨v,us,rfl,h1,hx d v rfl rfl h2,h3⟩
  |succ i=>
   simp only[List.set_cons_succ,RelL];exact⟨v,us,rfl,h1,h2,h3.putAt λd v hd hv=>hx d v (by simpa using hd) (by simpa using hv)⟩
section
variable{T:Par}{sl:List D}{st:List Bk}
theorem Weak.fzCell(hj:st[j]?=Ac ej)(hm:ej.kd.isMap=Ad)(hf:ej.nob=Ad)(hi:ej.cells[i]?=Ac d)(hx:frz Ab st zAe d=Ac (x,ks))(hjk:j∉ks):Weak T sl st sl ((zA0 st ks).set j {ej with cells:=ej.cells.set i x}):=by
 intro β I w tm h;have hjl:j<st.length:=(A2.1 hj).1;have hfr:=λv hv=>zCj h.sr.weak _ _ _ _ v hx hv;have hget:∀k,((zA0 st ks).set j {ej with cells:=ej.cells.set i x})[k]?=if k=j then Ac {ej with cells:=ej.cells.set i x}else(st[k]?).map λe=>if k∈ks then{e with fz:=Ab}else e:=λk=>by
  grind [zBw,zS]
 refine⟨β,fixI I β st ks,⟨Bl (zAw ks) β β (AH _) _ _ h.rel,λk b c hk=>?_,h.inj,λk b c o e hk he hi'=>?_,λk y hk=>?_,zFn h.sr.weak h.imb ks,h.gl.mono (zAw ks)⟩,⟨zAw ks,Ar _,λ_ _ _=>rfl,rfl,rfl,rfl,Ar _,λk b c hk=> .inl ⟨k,c,hk⟩,λb o hb=>?_⟩,AQ _ _⟩
 ·obtain⟨e,k1,k2⟩:=h.sr k b c hk;by_cases hkj:k=j
  ·subst hkj;rw[hj]at k1;cases k1;refine⟨_,(hget k).trans (if_pos rfl),?_⟩;obtain⟨cur,c1,c2,c3,c4⟩:=k2.c hm;refine OwnC.r ⟨cur,c1,by simpa using c2,?_,c4⟩ hm;have hn2:({ej with cells:=ej.cells.set i x}:Bk).nob=false:=hf;rw[hn2];rw[hf]at c3;simp only[Br,AR,if_false]at c3⊢;refine(RelL.mono (zAw ks) β β (AH _) _ _ c3).putAt λd' v hd hv hr=>?_;rw[hi]at hd;cases hd;obtain⟨v',g1,g2,g3⟩:=c3.get i d hi;grind [Rel.no]
  refine⟨if k∈ks then{e with fz:=Ab}else e,by rw[hget,if_neg hkj,k1];rfl,?_⟩;have k3:=BM (β':=β) k2 rfl (zAw (β:=β) (st:=st) ks) (AH _);split
  ·exact k3.like rfl rfl rfl rfl rfl
  exact k3
 ·rw[hget]at he;by_cases hkj:k=j
  ·subst hkj;rw[if_pos rfl]at he;cases he;rcases hi' with hi'|⟨k',hk',c',e',m1,m2,m3⟩
   ·have:=h.fz k b c o ej hk hj hi'
    grind
   have:=h.inj k' k b c' c m1 hk
   subst this;exact absurd hk' hjk
  rw[if_neg hkj]at he;obtain⟨e0,he0,rfl⟩:=AB.1 he;rcases hi' with hi'|⟨k',hk',c',e',m1,m2,m3⟩
  ·have:=h.fz k b c o e0 hk he0 hi'
   grind
  have:=h.inj k' k b c' c m1 hk
  grind
 ·rw[Br,zS];exact h.dom k y hk
 rcases hb with hb|⟨k',_,c',_,m1,_⟩;all_goals grind
theorem Weak.unsh(hk:st[k]?=Ac e)(hs:e.kd= .sh)(ha:e.arr=Ab)(hn:∀j,zX j e.cells=Ad):Weak T sl st sl (st.set k {e with kd:= .plain}):=by
 intro β I w tm h;have hkl:k<st.length:=(A2.1 hk).1;have hm:e.kd.isMap=false:=by rw[hs];rfl
 have hget:∀j,(st.set k {e with kd:= .plain})[j]?=if j=k then Ac {e with kd:= .plain}else st[j]?:=λj=>by
  grind
 refine⟨β,I,⟨h.rel,λj b c hj=>?_,h.inj,λj b c o e' hj he hi=>?_,λj y hj=>?_,h.imb,h.gl⟩,AU _ _ _,AQ _ _⟩
 ·obtain⟨e',k1,k2⟩:=h.sr j b c hj;by_cases hjk:j=k
  ·subst hjk;rw[hk]at k1;cases k1;refine⟨_,(hget j).trans (if_pos rfl),?_⟩;obtain⟨cur,c1,c2,c3,c4⟩:=k2.c hm;refine OwnC.r ⟨cur,c1,c2,?_,c4⟩ rfl;have e1:e.nob=false:=by unfold Bk.nob;rw[hs,ha];rfl
   have e2:({e with kd:= .plain}:Bk).nob=true:=by unfold Bk.nob;rw[ha];rfl
   rw[e1]at c3;rw[e2];simp only[if_true,AR,if_false]at c3⊢;grind [RelL.congr]
  grind
 ·rw[hget]at he;by_cases hjk:j=k
  ·subst hjk;rw[if_pos rfl]at he;cases he
   have:=h.fz j b c o e hj hk hi
   grind
  rw[if_neg hjk]at he;exact h.fz j b c o e' hj he hi
 rw[Br];exact h.dom j y hj
theorem Weak.nilC(b:Bk)(hj:st[j]?=Ac ej)(hm:ej.kd.isMap=Ad)(hf:ej.nob=Ad)(hi:ej.cells[i]?=Ac (.val (.slice Ag 0 0))):Weak T sl st sl (st.set j {ej with cells:=ej.cells.set i (.osl st.length 0 0 0 Ab)}++[b]):=by
 intro β I w tm h;have hjl:j<st.length:=(A2.1 hj).1;have hget:∀k,k<st.length->(st.set j {ej with cells:=ej.cells.set i (.osl st.length 0 0 0 Ab)}++[b])[k]?=if k=j then Ac {ej with cells:=ej.cells.set i (.osl st.length 0 0 0 Ab)}else st[k]?:=λk hk=>by
  grind
 refine⟨β,I,⟨h.rel,λk b' c hk=>?_,h.inj,λk b' c o e hk he hi'=>?_,λk y hk=>?_,h.imb,h.gl⟩,AU _ _ _,AQ _ _⟩
 ·obtain⟨e,k1,k2⟩:=h.sr k b' c hk;rw[hget k (h.dom k _ hk)];by_cases hkj:k=j
  ·subst hkj;rw[hj]at k1;cases k1;refine⟨_,if_pos rfl,?_⟩;obtain⟨cur,c1,c2,c3,c4⟩:=k2.c hm;refine OwnC.r ⟨cur,c1,by simpa using c2,?_,c4⟩ hm;have hn2:({ej with cells:=ej.cells.set i (.osl st.length 0 0 0 Ab)}:Bk).nob=false:=hf;rw[hn2];rw[hf]at c3;simp only[Br,AR,if_false]at c3⊢;refine c3.putAt λd v hd hv hr=>?_;rw[hi]at hd;cases hd;simp only[Rel]at hr⊢;grind
  grind
 ·have hlt:=h.dom k _ hk;rw[hget k hlt]at he;by_cases hkj:k=j
  ·subst hkj;rw[if_pos rfl]at he;cases he
   have:=h.fz k b' c o ej hk hj hi'
   grind
  rw[if_neg hkj]at he;exact h.fz k b' c o e hk he hi'
 rw[Bi,Br]
 have:=h.dom k y hk
 omega
theorem zB2(h:Weak T sl st sl' st')(k:awp P T b Q sl' st'):zAi P T b Q sl st:=⟨_,_,h,k⟩
end
def bs(l:List UInt8):ByteArray:=⟨l.toArray⟩
theorem zNc(l:List UInt8):(bs l).toList=l:=by rw[Co];rfl
structure Va where
 kind:Int
 int:Int
 str:List UInt8
 deriving DecidableEq, Inhabited
abbrev strD(l:List UInt8):D:= .val (.string (bs l))
abbrev vaC(v:Va):List D:=[.val (.int .i64 v.kind), .val (.int .i64 v.int),strD v.str]
abbrev vaD(v:Va):D:= .agg (vaC v)
def zG(r:List Va):List D:=r.flatMap vaC
abbrev rowV(r:List Va):D:= .row (zG r) r.length
theorem zAg(r:List Va):(zG r).length=r.length*3:=by
 induction r with
 |nil=>rfl
 |cons v r ih=>simp only[zG,List.flatMap_cons,Bi]at ih⊢;rw[ih];simp;omega
theorem zC8(r s:List Va):zG (r++s)=zG r++zG s:=by simp[zG]
theorem zWc(r:List Va)(i:Nat):(zG r).drop (i*3)=zG (r.drop i):=by
 induction r generalizing i with
 |nil=>simp[zG]
 | cons v r ih=>
  cases i with
  |zero=>simp
  |succ i=>
   have:zG (v::r)=vaC v++zG r:=rfl;grind
theorem zWb(r:List Va)(i:Nat):(zG r).take (i*3)=zG (r.take i):=by
 induction r generalizing i with
 |nil=>simp[zG]
 | cons v r ih=>
  cases i with
  |zero=>simp[zG]
  |succ i=>
   have h1:zG (v::r)=vaC v++zG r:=rfl;have h2:zG ((v::r).take (i+1))=vaC v++zG (r.take i):=rfl;grind
theorem cellsV_at(r:List Va)(i:Nat)(h:i<r.length):(zG r).drop (i*3)=vaC (r.getD i Ak)++zG (r.drop (i+1)):=by
 rw[zWc,Bs h,AX,AE h];rfl
theorem zB5(r:List Va)(i:Nat)(h:i<r.length):((zG r).drop (i*3)).take 3=vaC (r.getD i Ak):=by rw[cellsV_at r i h];rfl
theorem zE4(r:List Va)(h:0<r.length:=by omega):zG r≠[]:=by grind [zAg]
theorem zPj(r:List Va)(i:Nat)(v:Va)(h:i<r.length):setAt (zG r) (i*3) (vaC v)=zG (r.set i v):=by
 induction r generalizing i with
 |nil=>simp at h
 | cons u r ih=>
  cases i with
  |zero=>rfl
  | succ i=>
   have h1:zG (u::r)=vaC u++zG r:=rfl;have h2:zG ((u::r).set (i+1) v)=vaC u++zG (r.set i v):=rfl;have key:∀(us:List D)(pre cs:List D)(k:Nat),setAt (pre++cs) (pre.length+k) us=pre++setAt cs k us:=by
    intro us;induction us<;>grind [setAt,Nat.add_assoc]
   grind
def vcmp(a b:Va):Int:=if a.kind≠b.kind then cmpD a.kind b.kind else if a.int≠b.int then cmpD a.int b.int else AC a.str b.str
def rcmp:List Va->List Va->Int
 |[],[]=>0
 |[],_::_=>-1
 |_::_,[]=>1
 |a::r,b::s=>if vcmp a b=0 then rcmp r s else vcmp a b
theorem zGe(a b:Int):(cmpD a b=-1/\a<b)\/(cmpD a b=0/\a=b)\/(cmpD a b=1/\b<a):=by
 grind [cmpD]
theorem zHd:∀(a b:List UInt8),(AC a b=-1\/AC a b=0\/AC a b=1)/\(AC a b=0↔a=b)/\AC b a=-AC a b
 |[],[]=>by simp[AC]
 |[],_::_=>by simp[AC]
 |_::_,[]=>by simp[AC]
 |a::ar0,b::bs=>by
  obtain⟨h1,h2,h3⟩:=zHd ar0 bs;simp only[AC];grind
theorem zAy(a b:Va):(vcmp a b=-1\/vcmp a b=0\/vcmp a b=1)/\(vcmp a b=0↔a=b)/\vcmp b a=-vcmp a b:=by
 obtain⟨ak,ai,ar0⟩:=a;obtain⟨bk,bi,bs⟩:=b;obtain⟨c1,c2,c3⟩:=zHd ar0 bs;simp only[vcmp];by_cases h1:ak=bk
 ·subst h1;by_cases h2:ai=bi
  ·grind
  grind [zGe,cmpD]
 grind [zGe,cmpD]
theorem zBq:∀(a b:List Va),(rcmp a b=-1\/rcmp a b=0\/rcmp a b=1)/\(rcmp a b=0↔a=b)/\rcmp b a=-rcmp a b
 |[],[]=>by simp[rcmp]
 |[],_::_=>by simp[rcmp]
 |_::_,[]=>by simp[rcmp]
 |a::r,b::s=>by
  obtain⟨h1,h2,h3⟩:=zBq r s;obtain⟨k1,k2,k3⟩:=zAy a b;simp only[rcmp,k3];grind
theorem zR4:∀(i:Nat)(a b:List Va),i<=a.length->i<=b.length->a.take i=b.take i->rcmp a b=rcmp (a.drop i) (b.drop i)
 |0,_,_,_,_,_=>rfl
 |i+1,[],b,h,_,_=>by simp at h
 |i+1,_::_,[],_,h,_=>by simp at h
 |i+1,x::a,y::b,h1,h2,h3=>by
  simp only[List.take_succ_cons,List.cons.injEq]at h3;obtain⟨rfl,h3⟩:=h3;rw[rcmp,if_pos ((zAy x x).2.1.2 rfl),zR4 i a b (by simpa using h1) (by simpa using h2) h3];rfl
theorem rcmp_at(i:Nat)(a b:List Va)(ha:i<a.length)(hb:i<b.length)(h:a.take i=b.take i)(hv:vcmp (a.getD i Ak) (b.getD i Ak)≠0):rcmp a b=vcmp (a.getD i Ak) (b.getD i Ak):=by
 rw[zR4 i a b (by omega) (by omega) h,Bs ha,Bs hb];simp only[AX,AE ha,AE hb,BU]at hv⊢;rw[rcmp,if_neg hv]
theorem zKh(i:Nat)(a b:List Va)(ha:i<a.length)(hb:i<b.length)(h:a.take i=b.take i)(hv:vcmp (a.getD i Ak) (b.getD i Ak)=0):a.take (i+1)=b.take (i+1):=by
 have:=(zAy _ _).2.1.1 hv
 rw[AY ha,AY hb,h];grind
def vok(v:Va):Bool:=if v.kind=1 then v.str.isEmpty else if v.kind=2 then v.int=0&&v.str.length<=24 else Ad
end
abbrev Rw:=List Va
structure Cw(c:Rw->Rw->Int):Prop where
 eq:∀a b,c a b=0↔a=b
 neg:∀a b,c b a=-c a b
 tr:∀a b d,c a b<0->c b d<0->c a d<0
structure Sr(α:Type) where
 add:α->α->α
 mul:α->α->α
 one:α
 om:∀a,mul one a=a
 ac:∀a b,add a b=add b a
 aa:∀a b c,add (add a b) c=add a (add b c)
 mc:∀a b,mul a b=mul b a
 ma:∀a b c,mul (mul a b) c=mul a (mul b c)
 dl:∀a b c,mul a (add b c)=add (mul a b) (mul a c)
section
variable{α:Type}(c:Rw->Rw->Int)
def Srt(l:List (Rw×α)):Prop:=l.Pairwise λp q=>c p.1 q.1<0
def oadd(f:α->α->α):Option α->Option α->Option α
 |none,y=>y
 |some x,Ag=>Ac x
 |some x,Ac y=>Ac (f x y)
def putP(f:α->α->α)(r:Rw)(v:α):List (Rw×α)->List (Rw×α)
 |[]=>[(r,v)]
 |(s,u)::l=>if c s r<0 then(s,u)::putP f r v l else if s=r then(s,f u v)::l else(r,v)::(s,u)::l
def acc(f:α->α->α)(l L:List (Rw×α)):List (Rw×α):=L.foldl (λl p=>putP c f p.1 p.2 l) l
def ev(f:α->α->α)(o:Option α)(L:List (Rw×α))(r:Rw):Option α:=L.foldl (λo p=>if p.1=r then oadd f o (Ac p.2)else o) o
variable{c}
end
section
variable{α:Type}(S:Sr α)
def osum(l:List (Option α)):Option α:=l.foldr (oadd S.add) Ag
end
section
variable{α:Type}
def asg(A:List Nat)(x:Rw)(v:Nat):Va:=x.getD (A.idxOf v) Ak
def un(A B:List Nat):List Nat:=(AK 32).filter λv=>decide (v∈A\/v∈B)
def mt(A:List Nat)(x:Rw)(B:List Nat)(y:Rw):Bool:=A.all λv=>decide (v∈B->asg A x v=asg B y v)
def sg(A:List Nat)(x:Rw)(B:List Nat)(y:Rw)(v:Nat):Va:=if v∈A then asg A x v else asg B y v
def mg(A:List Nat)(x:Rw)(B:List Nat)(y:Rw):Rw:=(un A B).map (sg A x B y)
def prods(f:α->α->α)(A:List Nat)(la:List (Rw×α))(B:List Nat)(lb:List (Rw×α)):List (Rw×α):=
 la.flatMap λp=>(lb.filter λq=>mt A p.1 B q.1).map λq=>(mg A p.1 B q.1,f p.2 q.2)
def Asc(A:List Nat):Prop:=A.Pairwise (· <·)/\∀v∈A,v<32
def Lens(n:Nat)(l:List (Rw×α)):Prop:=∀p∈l,p.1.length=n
def upd(σ:Nat->Va)(v:Nat)(x:Va)(w:Nat):Va:=if w=v then x else σ w
def dropC(A:List Nat)(v:Nat)(l:List (Rw×α)):List (Rw×α):=l.map λp=>(p.1.eraseIdx (A.idxOf v),p.2)
def less(A:List Nat)(v:Nat):List Nat:=A.filter λu=>decide (u≠v)
structure Fa(α:Type) where
 A:List Nat
 l:List (Rw×α)
structure FOk(c:Rw->Rw->Int)(Dm:List Va)(f:Fa α):Prop where
 asc:Asc f.A
 len:Lens f.A.length f.l
 srt:Srt c f.l
 dom:∀p∈f.l,∀a∈p.1,a∈Dm
def okO(U:List Nat)(s:Rw)(o:Fa α):Bool:=o.l.any λq=>o.A.all λv=>decide (v∈U->asg o.A q.1 v=asg U s v)
def fmul(c:Rw->Rw->Int)(S:Sr α)(f g:Fa α)(os:List (Fa α)):Fa α:=
 ⟨un f.A g.A,acc c S.add [] ((prods S.mul f.A f.l g.A g.l).filter λp=>os.all λo=>okO (un f.A g.A) p.1 o)⟩
def fsum(c:Rw->Rw->Int)(S:Sr α)(v:Nat)(f:Fa α):Fa α:=⟨less f.A v,acc c S.add [] (dropC f.A v f.l)⟩
def elimP(c:Rw->Rw->Int)(S:Sr α):Fa α->List (Fa α)->List (Fa α)->Fa α
 |p,[],os=>p
 |p,f::fs,os=>elimP c S (fmul c S p f (fs++os)) fs os
def withV(v:Nat)(fs:List (Fa α)):List (Fa α):=fs.filter λf=>decide (v∈f.A)
def restV(v:Nat)(fs:List (Fa α)):List (Fa α):=fs.filter λf=>decide (v∉f.A)
def elim(c:Rw->Rw->Int)(S:Sr α)(v:Nat)(fs:List (Fa α)):List (Fa α):=match withV v fs with
 |[]=>fs
 |p::ws=>restV v fs++[fsum c S v (elimP c S p ws (restV v fs))]
def margs(S:Sr α)(Dm:List Va):List Nat->((Nat->Va)->Option α)->(Nat->Va)->Option α
 |[],F=>F
 |v::vs,F=>margs S Dm vs λσ=>osum S (Dm.map λx=>F (upd σ v x))
variable{c:Rw->Rw->Int}{S:Sr α}{Dm:List Va}
end
variable{v:Nat}
section
open Go.RowKit
abbrev u32D(n:Nat):D:= .val (.int .u32 (n:Nat))
abbrev nsD(l:List Nat):List D:=l.map λc=>iD (c:Nat)
def msk(A:List Nat):Nat:=A.foldl (λm v=>m|||2^v) 0
theorem mskF_bit(A:List Nat):∀(m v:Nat),(A.foldl (λm v=>m|||2^v) m).testBit v=(m.testBit v||decide (v∈A)):=by
 induction A<;>grind
theorem zD0(A:List Nat)(v:Nat):(msk A).testBit v=decide (v∈A):=by rw[msk,mskF_bit];simp
theorem zQ8(h:∀v,n<=v->m.testBit v=Ad):m<2^n:=Nat.lt_pow_two_of_testBit m h
theorem zSi{A:List Nat}(h:∀v∈A,v<32):msk A<4294967296:=zQ8 (n:=32) λv hv=>by
 rw[zD0];simp;intro hm;have:=h v hm;omega
theorem zQp(A:List Nat)(i:Nat)(h:i<A.length):msk (A.take (i+1))=msk (A.take i)|||2^A.getD i 0:=by
 grind [AY,msk,AE]
theorem wrap_nat(h:n<4294967296):A0.wrap (n:Int)=(n:Int):=zFl (k:= .u32) (by simp only[inK];omega)
theorem bv_nat(h:n<4294967296):(Bt 32 (n:Int)).toNat=n:=by
 grind
theorem zQj{a b:Nat}(ha:a<4294967296)(hb:b<4294967296):a|||b<4294967296:=Nat.or_lt_two_pow (n:=32) ha hb
theorem u32_shl(h:v<32):A0.wrap (1*2^(min (v:Int).toNat 32))=((2^v:Nat):Int):=by
 have h2:2^v<4294967296:=Nat.pow_lt_pow_right (n:=32) (by omega) h;rw[Bc,BE (by omega),Int.one_mul,show((2:Int)^v)=((2^v:Nat):Int) by simp,wrap_nat h2]
theorem u32_shr(m:Nat)(h:v<32):A1 (m:Int) (2^(min (v:Int).toNat 32))=((m>>>v:Nat):Int):=by
 grind [Bc,BE,Ch,Int.ofNat_fdiv]
theorem zNb{a b:Nat}(ha:a<4294967296)(hb:b<4294967296):(Bt 32 (a:Int)|||Bt 32 (b:Int)).toNat=a|||b:=by
 grind
theorem zDx(h:v<32):A0.wrap (1*2^(min v 32))=((2^v:Nat):Int):=u32_shl h
theorem zDw(m:Nat)(h:v<32):A1 (m:Int) (2^(min v 32))=((m>>>v:Nat):Int):=u32_shr m h
theorem zEd(h:v<32):2^v<4294967296:=Nat.pow_lt_pow_right (n:=32) (by omega) h
theorem bit_eq(hm:m<4294967296)(v:Nat):((Bt 32 ((m>>>v:Nat):Int)&&&1#32).toNat:Int)=if m.testBit v then 1 else 0:=by
 have h1:m>>>v<4294967296:=Nat.lt_of_le_of_lt (by rw[Ch];exact Nat.div_le_self _ _) hm;rw[BitVec.toNat_and,bv_nat h1,Nat.testBit_eq_decide_div_mod_eq,show(1#32).toNat=1 from rfl,Nat.and_one_is_mod,Ch];grind
theorem zWe(hm:m<4294967296)(v:Nat):((((Bt 32 ((m>>>v:Nat):Int)&&&Bt 32 1).toNat:Nat):Int)==1)=m.testBit v:=by
 grind [bit_eq]
end
section
open Go.Shelf
def Tryz.lays128_ren:Go.Shelf.Ren:=⟨λ|128=>56|n=>n,λ|51=>36|3=>3|4=>4|46=>37|5=>5|9=>9|n=>n,λ|n=>n⟩
theorem Tryz.lays128:Go.Proofs.Lays.n128 Ah Tryz.lays128_ren:={
 mixed:=by kernel_rfl
 f128:=Tryz.func56.trans (congrArg Ac (by kernel_rfl))
 t3:=Tryz.underlying3
 a3:=Tryz.isAgg3
 z3:=Tryz.sizeOf3
 v3:=Tryz.zeroValue3
 t4:=Tryz.underlying4
 a4:=Tryz.isAgg4
 z4:=Tryz.sizeOf4
 v4:=Tryz.zeroValue4
 t5:=Tryz.underlying5
 a5:=Tryz.isAgg5
 z5:=Tryz.sizeOf5
 v5:=Tryz.zeroValue5
 t9:=Tryz.underlying9
 a9:=Tryz.isAgg9
 z9:=Tryz.sizeOf9
 v9:=Tryz.zeroValue9
 t46:=Tryz.underlying37
 a46:=Tryz.isAgg37
 z46:=Tryz.sizeOf37
 v46:=Tryz.zeroValue37
 t51:=Tryz.underlying36
 a51:=Tryz.isAgg36
 z51:=Tryz.sizeOf36
 v51:=Tryz.zeroValue36}
theorem Tryz.bits_Len32(x:Int)(w:World)(h0:0<=x)(h1:x<=4294967295):
  Calls Ah 56 #[.int .u32 x] w λe w'=>e= .returned (.int .i64 (A7 x.toNat))/\w'=w:=Any.bits_Len32 Tryz.lays128 x w h0 h1
def Tryz.lays125_ren:Go.Shelf.Ren:=⟨λ|125=>139|128=>56|129=>156|n=>n,λ|46=>37|3=>3|51=>36|53=>39|4=>4|5=>5|9=>9|n=>n,λ|n=>n⟩
theorem Tryz.lays125:Go.Proofs.Lays.n125 Ah Tryz.lays125_ren:={
 mixed:=by kernel_rfl
 f125:=Tryz.func139.trans (congrArg Ac (by kernel_rfl))
 f128:=Tryz.func56.trans (congrArg Ac (by kernel_rfl))
 f129:=Tryz.func156.trans (congrArg Ac (by kernel_rfl))
 t3:=Tryz.underlying3
 a3:=Tryz.isAgg3
 z3:=Tryz.sizeOf3
 v3:=Tryz.zeroValue3
 t4:=Tryz.underlying4
 a4:=Tryz.isAgg4
 z4:=Tryz.sizeOf4
 v4:=Tryz.zeroValue4
 t5:=Tryz.underlying5
 a5:=Tryz.isAgg5
 z5:=Tryz.sizeOf5
 v5:=Tryz.zeroValue5
 t9:=Tryz.underlying9
 a9:=Tryz.isAgg9
 z9:=Tryz.sizeOf9
 v9:=Tryz.zeroValue9
 t46:=Tryz.underlying37
 a46:=Tryz.isAgg37
 z46:=Tryz.sizeOf37
 v46:=Tryz.zeroValue37
 t51:=Tryz.underlying36
 a51:=Tryz.isAgg36
 z51:=Tryz.sizeOf36
 v51:=Tryz.zeroValue36
 t53:=Tryz.underlying39
 a53:=Tryz.isAgg39
 z53:=Tryz.sizeOf39
 v53:=Tryz.zeroValue39}
theorem Tryz.bits_Len(x:Int)(w:World)(h0:0<=x)(h1:x<=18446744073709551615):
  Calls Ah 139 #[.int .u64 x] w λe w'=>e= .returned (.int .i64 (A7 x.toNat))/\w'=w:=Any.bits_Len Tryz.lays125 x w h0 h1
open Go.RowKit in
def Tryz.lays106_ren:Go.Shelf.Ren:=⟨λ|106=>128|213=>142|265=>161|n=>n,λ|9=>9|3=>3|n=>n,λ|n=>n⟩
theorem Tryz.lays106:Go.Proofs.Lays.n106 Ah Tryz.lays106_ren:={
 mixed:=by kernel_rfl
 f106:=Tryz.func128.trans (congrArg Ac (by kernel_rfl))
 f213:=Tryz.func142.trans (congrArg Ac (by kernel_rfl))
 f265:=Tryz.func161.trans (congrArg Ac (by kernel_rfl))
 t3:=Tryz.underlying3
 a3:=Tryz.isAgg3
 z3:=Tryz.sizeOf3
 v3:=Tryz.zeroValue3
 t9:=Tryz.underlying9
 a9:=Tryz.isAgg9
 z9:=Tryz.sizeOf9
 v9:=Tryz.zeroValue9}
open Go.RowKit in
theorem Tryz.strings_Compare(a b:ByteArray)(w:World):
  Calls Ah 128 #[.string a, .string b] w λe w'=>e= .returned (.int .i64 (AC a.data.toList b.data.toList))/\w'=w:=Any.strings_Compare Tryz.lays106 a b w
open Go.RowKit in
open Go.RowKit in
def Tryz.lays129_ren:Go.Shelf.Ren:=⟨λ|129=>156|n=>n,λ|53=>39|3=>3|4=>4|46=>37|5=>5|9=>9|n=>n,λ|n=>n⟩
theorem Tryz.lays129:Go.Proofs.Lays.n129 Ah Tryz.lays129_ren:={
 mixed:=by kernel_rfl
 f129:=Tryz.func156.trans (congrArg Ac (by kernel_rfl))
 t3:=Tryz.underlying3
 a3:=Tryz.isAgg3
 z3:=Tryz.sizeOf3
 v3:=Tryz.zeroValue3
 t4:=Tryz.underlying4
 a4:=Tryz.isAgg4
 z4:=Tryz.sizeOf4
 v4:=Tryz.zeroValue4
 t5:=Tryz.underlying5
 a5:=Tryz.isAgg5
 z5:=Tryz.sizeOf5
 v5:=Tryz.zeroValue5
 t9:=Tryz.underlying9
 a9:=Tryz.isAgg9
 z9:=Tryz.sizeOf9
 v9:=Tryz.zeroValue9
 t46:=Tryz.underlying37
 a46:=Tryz.isAgg37
 z46:=Tryz.sizeOf37
 v46:=Tryz.zeroValue37
 t53:=Tryz.underlying39
 a53:=Tryz.isAgg39
 z53:=Tryz.sizeOf39
 v53:=Tryz.zeroValue39}
theorem Tryz.bits_Len64(x:Int)(w:World)(h0:0<=x)(h1:x<=18446744073709551615):
  Calls Ah 156 #[.int .u64 x] w λe w'=>e= .returned (.int .i64 (A7 x.toNat))/\w'=w:=Any.bits_Len64 Tryz.lays129 x w h0 h1
def Tryz.lays317_ren:Go.Shelf.Ren:=⟨λ|317=>176|n=>n,λ|3=>3|46=>37|n=>n,λ|n=>n⟩
theorem Tryz.lays317:Go.Proofs.Lays.n317 Ah Tryz.lays317_ren:={
 mixed:=by kernel_rfl
 f317:=Tryz.func176.trans (congrArg Ac (by kernel_rfl))
 t3:=Tryz.underlying3
 a3:=Tryz.isAgg3
 z3:=Tryz.sizeOf3
 v3:=Tryz.zeroValue3
 t46:=Tryz.underlying37
 a46:=Tryz.isAgg37
 z46:=Tryz.sizeOf37
 v46:=Tryz.zeroValue37}
open Go.Lib in
theorem Tryz.internal_strconv_log10Pow2(x:Nat)(h:x<=64)(w:World):
  Calls Ah 176 #[.int .i64 x] w λe w'=>e= .returned (.int .i64 (Lib.l10 x))/\w'=w:=Any.internal_strconv_log10Pow2 Tryz.lays317 x h w
def Tryz.lays318_ren:Go.Shelf.Ren:=⟨λ|318=>177|n=>n,λ|3=>3|4=>4|n=>n,λ|n=>n⟩
theorem Tryz.lays318:Go.Proofs.Lays.n318 Ah Tryz.lays318_ren:={
 mixed:=by kernel_rfl
 f318:=Tryz.func177.trans (congrArg Ac (by kernel_rfl))
 t3:=Tryz.underlying3
 a3:=Tryz.isAgg3
 z3:=Tryz.sizeOf3
 v3:=Tryz.zeroValue3
 t4:=Tryz.underlying4
 a4:=Tryz.isAgg4
 z4:=Tryz.sizeOf4
 v4:=Tryz.zeroValue4}
open Go.Lib in
theorem Tryz.internal_strconv_bool2_int(b:Bool)(w:World):
  Calls Ah 177 #[.bool b] w λe w'=>e= .returned (.int .i64 (if b then 1 else 0))/\w'=w:=Any.internal_strconv_bool2_int Tryz.lays318 b w
def Tryz.lays283_ren:Go.Shelf.Ren:=⟨λ|283=>157|n=>n,λ|3=>3|9=>9|4=>4|n=>n,λ|n=>n⟩
theorem Tryz.lays283:Go.Proofs.Lays.n283 Ah Tryz.lays283_ren:={
 mixed:=by kernel_rfl
 f283:=Tryz.func157.trans (congrArg Ac (by kernel_rfl))
 t3:=Tryz.underlying3
 a3:=Tryz.isAgg3
 z3:=Tryz.sizeOf3
 v3:=Tryz.zeroValue3
 t4:=Tryz.underlying4
 a4:=Tryz.isAgg4
 z4:=Tryz.sizeOf4
 v4:=Tryz.zeroValue4
 t9:=Tryz.underlying9
 a9:=Tryz.isAgg9
 z9:=Tryz.sizeOf9
 v9:=Tryz.zeroValue9}
open Go.Lib in
theorem Tryz.internal_strconv_small(i:Nat)(h:i<100)(w:World):
  Calls Ah 157 #[.int .i64 i] w λe w'=>e= .returned (.string ⟨(Lib.decDigits i).toArray⟩)/\w'=w:=Any.internal_strconv_small Tryz.lays283 i h w
open Go.Lib in
def Tryz.lays285_ren:Go.Shelf.Ren:=⟨λ|285=>159|n=>n,λ|37=>180|53=>39|3=>3|4=>4|51=>36|9=>9|5=>5|0=>0|n=>n,λ|n=>n⟩
theorem Tryz.lays285:Go.Proofs.Lays.n285 Ah Tryz.lays285_ren:={
 mixed:=by kernel_rfl
 f285:=Tryz.func159.trans (congrArg Ac (by kernel_rfl))
 t0:=Tryz.underlying0
 a0:=Tryz.isAgg0
 z0:=Tryz.sizeOf0
 v0:=Tryz.zeroValue0
 t3:=Tryz.underlying3
 a3:=Tryz.isAgg3
 z3:=Tryz.sizeOf3
 v3:=Tryz.zeroValue3
 t4:=Tryz.underlying4
 a4:=Tryz.isAgg4
 z4:=Tryz.sizeOf4
 v4:=Tryz.zeroValue4
 t5:=Tryz.underlying5
 a5:=Tryz.isAgg5
 z5:=Tryz.sizeOf5
 v5:=Tryz.zeroValue5
 t9:=Tryz.underlying9
 a9:=Tryz.isAgg9
 z9:=Tryz.sizeOf9
 v9:=Tryz.zeroValue9
 t37:=Tryz.underlying180
 a37:=Tryz.isAgg180
 z37:=Tryz.sizeOf180
 v37:=Tryz.zeroValue180
 t51:=Tryz.underlying36
 a51:=Tryz.isAgg36
 z51:=Tryz.sizeOf36
 v51:=Tryz.zeroValue36
 t53:=Tryz.underlying39
 a53:=Tryz.isAgg39
 z53:=Tryz.sizeOf39
 v53:=Tryz.zeroValue39}
open Go.RowKit Go.Sort Go.Lib in
theorem Tryz.internal_strconv_formatBase10(blk off cap:Nat)(u:Nat)(d:Array UInt8)(w:World)(hH:Holds (λ(b:UInt8)=>Ap .u8 (b.toNat:Int)) w blk off d)(hu:u<10^d.size)(hu64:u<18446744073709551616)(hsz:d.size<4611686018427387904):
  Calls Ah 159 #[.slice (Ac ⟨blk,off,Ag⟩) d.size cap, .int .u64 u] w λe w'=>
   e= .returned (.tuple #[])/\∃(n v':Nat)(dk:Array UInt8),w'=(putRow (λ(b:UInt8)=>Ap .u8 (b.toNat:Int)) w blk off dk).drewN n/\FmtInv d.size u 0 v' dk:=Any.internal_strconv_formatBase10 Tryz.lays285 blk off cap u d w hH hu hu64 hsz
open Go.RowKit Go.Sort Go.Lib in
open Go.RowKit Go.Sort Go.Lib in
open Go.RowKit Go.Lib in
end
section
open Go.Shelf
end
variable{g:FuncId}{caps':List D}
section
open Go.RowKit Go.Sort Go.Lib Go.Shelf
section
variable{P:Program}{I:Im}{w:World}{β:Be}{sl:List D}{st:List Bk}{tm:List Value}
theorem zEw(w:World)(os:Array Obj){b:Nat}(h:b<w.heap.size):(grow w os).heap[b]?=w.heap[b]?:=by
 simp[grow,Array.getElem?_append_left h]
theorem Fix.grow(hi:ImB I w)(os:Array Obj):Fix I w I (grow w os):=λb o h=>⟨h,λv hv=>by
 simp only[World.cell?]at hv⊢;rw[zEw w os (hi b o h)];exact hv,λks vs hm=>hm.of_heap (zEw w os hm.lt)⟩
theorem Sim.grow(h:Sim β I w sl st tm)(os:Array Obj):Sim β I (grow w os) sl st tm:=by
 have hf:=Fix.grow h.imb os;refine⟨Bl hf β β (AH _) _ _ h.rel,λk b c hk=>?_,h.inj,h.fz,h.dom,λb o hb=>?_,h.gl.mono hf⟩
 ·obtain⟨e,h1,h2⟩:=h.sr k b c hk;exact⟨e,h1,h2.mono (zEw w os h2.lt) hf (AH _)⟩
 have:=h.imb b o hb
 simp[Go.Sort.grow];omega
theorem Stp.grow(hi:ImB I w)(β:Be)(os:Array Obj):Stp β I w β I (grow w os):=⟨Fix.grow hi os,by simp[Go.Sort.grow],λb hb _=>zEw w os hb,rfl,rfl,rfl,Ar _,λk b c h=> .inl ⟨k,c,h⟩,λ_ _ h=> .inl h⟩
theorem zLw:∀(xs ys pre:List D),xs.length=ys.length->setAt (pre++xs) pre.length ys=pre++ys
 |xs,[],pre,hl=>by
  obtain rfl:xs=[]:=A5 (by simpa using hl);rfl
 |[],y::ys,pre,hl=>by simp at hl
 |x::xs,y::ys,pre,hl=>by
  simp only[setAt];have e1:(pre++x::xs).set pre.length y=(pre++[y])++xs:=by simp
  rw[e1]
  have:=zLw xs ys (pre++[y]) (by simpa using hl)
  grind
theorem Sim.fzAll(h:Sim β I w sl st tm)(ks:List Nat):Sim β (fixI I β st ks) w sl (zA0 st ks) tm:=by
 refine⟨Bl (zAw ks) β β (AH _) _ _ h.rel,λj b c hj=>?_,h.inj,λj b c o e hj he hi'=>?_,λj y hj=>?_,zFn h.sr.weak h.imb ks,h.gl.mono (zAw ks)⟩
 ·obtain⟨e,k1,k2⟩:=h.sr j b c hj;refine⟨if j∈ks then{e with fz:=Ab}else e,by rw[zBw,k1];rfl,?_⟩;have k3:=BM (β':=β) k2 rfl (zAw (β:=β) (st:=st) ks) (AH _);split
  ·exact k3.like rfl rfl rfl rfl rfl
  exact k3
 ·rw[zBw]at he;obtain⟨e0,he0,rfl⟩:=AB.1 he;rcases hi' with hi'|⟨k',hk',c',e',m1,m2,m3⟩
  ·have:=h.fz j b c o e0 hj he0 hi'
   grind
  have:=h.inj k' j b c' c m1 hj
  grind
 rw[zS];exact h.dom j y hj
theorem Stp.fzAll(hi:Sim β I w sl st tm)(ks:List Nat):Stp β I w β (fixI I β st ks) w:=⟨zAw ks,Ar _,λ_ _ _=>rfl,rfl,rfl,rfl,Ar _,λk b c h=> .inl ⟨k,c,h⟩,λb o hb=>by
 rcases hb with hb|⟨k',_,c',_,m1,_⟩
 ·exact .inl hb
 exact .inr (.inr ⟨k',c',m1⟩)⟩
theorem acts_sortG{us3:List Value}{caps:List D}(he:st[k]?=Ac e)(ha:e.arr=Ab)(hkd:e.kd= .plain)(hf:e.fz=Ad)(hlen:e.cells.length=n)(hl':ds'.length=n)(hpos:0<n)
  (hfr:frz Ab st zAe (.clo (.func g) [] caps)=Ac (.clo (.func g) [] caps',ks))(hnk:k∉ks)
  (h:∀(I:Im) b c w us cb,ImB I w->Gl I w->(∀j,¬I b j)->RelT I w noB caps' cb->RelL I w noB e.cells us->(∃cur t,w.heap[b]?=Ac (.cells cur t (0,0)))->(∀j,j<n->w.cell? ⟨b,0+j,Ag⟩=Ac (us.getD j undef))->(∀j,j<n->w.frozen? ⟨b,0+j,Ag⟩=Ad)->n<=c->Calls P f (#[.slice (Ac ⟨b,0,Ag⟩) n c]++us3.toArray++#[.func (.func g) #[] cb.toArray]) w λx w'=>x= .returned (.tuple #[])/\∃vs q os,w'=grow ((w.drewN q).setCells b 0 vs) os/\RelL I w noB ds' vs):
  Acts P f (.osl k 0 n n wh::(us3.map .val++[.clo (.func g) [] caps])) st [] (.val (.tuple #[])) ((zA0 st ks).set k {e with cells:=ds'}):=by
 intro β I w xs hr hsr hinj hfz hdom hi hg;simp only[RelT]at hr;obtain⟨v,ys,rfl,hr,hys⟩:=hr;have hsp:∀(us3:List Value)(ys:List Value),RelT I w β (us3.map .val++[.clo (.func g) [] caps]) ys->∃v3,ys=us3++[v3]/\Rel I w β (.clo (.func g) [] caps) v3:=by
  intro us3;induction us3 with
  |nil=>
   intro ys h;simp only[Bb,BS,RelT]at h;grind
  |cons u us3 ih=>
   intro ys h;simp only[A6,BA,RelT]at h;obtain⟨v,us,rfl,h1,h2⟩:=h;simp only[Rel]at h1;grind
 obtain⟨v3,rfl,hv3⟩:=hsp us3 ys hys;simp only[Rel]at hr;rcases hr with⟨e0,_,rfl⟩|⟨e0,_,_,a,c,rfl,_⟩|⟨b,c,cap,hb,rfl,k1,k2,k3⟩
 ·omega
 ·omega
 have hs00:Sim β I w ([]:List D) st ({tmps:=#[],defers:=[]}:Act).tmps.toList:=⟨by simp only[RelT],hsr,hinj,hfz,hdom,hi,hg⟩;have hs0:=hs00.fzAll ks;have hstp0:=Stp.fzAll hs00 ks;have hv3':=zCj hs00.sr.weak _ _ _ _ v3 hfr hv3;simp only[Rel]at hv3';obtain⟨vs0,cb,rfl,hn0,hcb⟩:=hv3';simp only[RelT]at hn0;subst hn0;have he2:(zA0 st ks)[k]?=Ac e:=by rw[zBw,he];simp[hnk]
 have hni:e.kd.isMap=false:=by rw[hkd];rfl
 have hnob:e.nob=true:=by unfold Bk.nob;rw[hkd,ha];rfl
 obtain⟨e',he',ho⟩:=hs0.sr k b c hb;rw[he2]at he';cases he';obtain⟨cur,c1,c2,c3,c4⟩:=ho.c hni;rw[hnob]at c3;simp only[if_true]at c3;have hno:∀j,¬fixI I β st ks b j:=λj hij=>by
  have:=(hs0.fz k b c j e hb he2 hij).1
  rw[hf]at this;cases this
 have hlc:(cur.take e.cells.length).length=n:=by rw[<-c3.length];exact hlen
 have hcell:∀j,j<n->w.cell? ⟨b,0+j,Ag⟩=Ac ((cur.take e.cells.length).getD j undef)/\w.frozen? ⟨b,0+j,Ag⟩=false:=λj hj=>by
  have hlt:j<cur.length:=by rw[A3]at hlc;omega
  refine⟨?_,frozen_of_row w b (0+j) cur.toArray e.ty c1⟩;rw[AX,Bx,if_pos (by omega),AE hlt];simp[World.cell?,c1,hlt]
 have e1:(#[Value.slice (Ac ⟨b,0,Ag⟩) n cap]++us3.toArray++#[Value.func (.func g) #[] cb.toArray])=(Value.slice (Ac ⟨b,0,Ag⟩) n cap::(us3++[Value.func (.func g) #[] cb.toArray])).toArray:=by apply Array.ext';simp
 rw[show(List.toArray ([]:List Value))=#[]from rfl,<-e1];refine(h (fixI I β st ks) b cap w (cur.take e.cells.length) cb hs0.imb hs0.gl hno hcb c3 ⟨_,_,c1⟩ (λj hj=>(hcell j hj).1) (λj hj=>(hcell j hj).2) k1).mono ?_;rintro x w' ⟨rfl,vs,q,os,rfl,hvs⟩;have hvs':RelL (fixI (fixI I β st ks) β (zA0 st ks) []) (w.drewN q) (if e.nob then noB else β) ds' vs:=by
  rw[hnob];simp only[if_true];exact RelL.mono ((Fix.drew (fixI I β st ks) w q).trans (zAw [])) _ _ (AH _) _ _ hvs
 obtain⟨s1,s2,s3⟩:=(hs0.drew q).put (off:=0) (cs:=ds') (vs:=vs) (ks:=[]) hb he2 hf hni (by simp) hvs' (by omega) Ag undef;have hset2:setAt e.cells 0 ds'=ds':=zLw e.cells ds' [] (by omega);rw[hset2]at s1;have s4:=s1.grow os;exact⟨_,β,_,rfl,s4.imb,hstp0.trans ((Stp.drew β _ w q).trans (s2.trans (Stp.grow s1.imb β os))),λ_ _ _ h=>h,s4.sr,s4.inj,s4.fz,s4.dom,by simp only[Rel]⟩
end
end
section
open Go.RowKit Go.Sort Go.Lib Go.Shelf
theorem ext_grow{w':World}(h:Ext w w'):∃q os,w'=grow (w.drewN q) os:=by
 obtain⟨p,hp⟩:=regrown_of_below h.1;have hd:=h.2;refine⟨p.d-w.drawn,p.os,?_⟩;rw[hp]at hd⊢;have:w.drawn<=p.d:=hd;congr 1;unfold redrawn World.drewN;congr 1;omega
structure On(zs:List Nat)(cf:Nat->Nat->Int):Prop where
 eq:∀x∈zs,∀y∈zs,(cf x y=0↔x=y)
 neg:∀x∈zs,∀y∈zs,cf y x=-cf x y
 tr:∀x∈zs,∀y∈zs,∀z∈zs,cf x y<0->cf y z<0->cf x z<0
section
variable{zs:List Nat}{cf:Nat->Nat->Int}
end
end
theorem cb_tr:∀(a b d:List UInt8),AC a b=-1->AC b d=-1->AC a d=-1
 |[],[],_,h,_=>by simp[AC]at h
 |[],_::_,[],_,k=>by simp[AC]at k
 |[],_::_,_::_,_,_=>rfl
 |_::_,[],_,h,_=>by simp[AC]at h
 |_::_,_::_,[],_,k=>by simp[AC]at k
 |x::a,y::b,z::d,h,k=>by
  have ih:=cb_tr a b d;simp only[AC]at h k⊢;grind
theorem zY1{a b:Int}:cmpD a b<0↔a<b:=by grind [zGe]
theorem zLj(a b d:Va)(h:vcmp a b<0)(k:vcmp b d<0):vcmp a d<0:=by
 obtain⟨ak,ai,as'⟩:=a;obtain⟨bk,bi,bs'⟩:=b;obtain⟨dk,di,ds⟩:=d;have t:=cb_tr as' bs' ds;have v1:=(zHd as' bs').1;have v2:=(zHd bs' ds).1;have v3:=(zHd as' ds).1;simp only[vcmp]at h k⊢;split at h<;>split at k<;>split<;>try simp only[zY1]at*
 all_goals (try split at h)<;>(try split at k)<;>(try split)<;>(try simp only[zY1]at*)<;>first|omega|(have:=t (by omega) (by omega);omega)|skip
theorem zL3:∀(a b d:List Va),rcmp a b<0->rcmp b d<0->rcmp a d<0
 |[],[],_,h,_=>by simp[rcmp]at h
 |[],_::_,[],_,k=>by simp[rcmp]at k
 |[],_::_,_::_,_,_=>by simp[rcmp]
 |_::_,[],_,h,_=>by simp[rcmp]at h
 |_::_,_::_,[],_,k=>by simp[rcmp]at k
 |x::a,y::b,z::d,h,k=>by
  have ih:=zL3 a b d;simp only[rcmp]at h k⊢;grind [vcmp,zAy,zLj]
theorem rcw:Cw rcmp:=⟨λa b=>(zBq a b).2.1,λa b=>(zBq a b).2.2,zL3⟩
section
open Go.Shelf
def Tryz.laysRow138_ren:Go.Shelf.Ren:=⟨λ|14=>138|20=>148|21=>149|22=>150|23=>151|24=>152|25=>153|26=>154|27=>155|46=>171|47=>172|48=>173|49=>174|50=>175|15=>139|57=>185|28=>56|29=>156|n=>n,λ|24=>54|22=>65|3=>3|25=>195|4=>4|0=>0|46=>230|45=>229|50=>127|66=>254|39=>37|55=>39|70=>258|76=>265|77=>266|53=>36|5=>5|9=>9|n=>n,λ|n=>n⟩
theorem Tryz.laysRow138:Go.Proofs.SlLaysF.n14 Ah Tryz.laysRow138_ren:={
 mixed:=by kernel_rfl
 f14:=⟨Tryz.f138.name,by decide,Tryz.func138.trans (congrArg Ac (by kernel_rfl))⟩
 f15:=Tryz.func139.trans (congrArg Ac (by kernel_rfl))
 f20:=⟨Tryz.f148.name,by decide,Tryz.func148.trans (congrArg Ac (by kernel_rfl))⟩
 f21:=⟨Tryz.f149.name,by decide,Tryz.func149.trans (congrArg Ac (by kernel_rfl))⟩
 f22:=⟨Tryz.f150.name,by decide,Tryz.func150.trans (congrArg Ac (by kernel_rfl))⟩
 f23:=⟨Tryz.f151.name,by decide,Tryz.func151.trans (congrArg Ac (by kernel_rfl))⟩
 f24:=⟨Tryz.f152.name,by decide,Tryz.func152.trans (congrArg Ac (by kernel_rfl))⟩
 f25:=⟨Tryz.f153.name,by decide,Tryz.func153.trans (congrArg Ac (by kernel_rfl))⟩
 f26:=⟨Tryz.f154.name,by decide,Tryz.func154.trans (congrArg Ac (by kernel_rfl))⟩
 f27:=⟨Tryz.f155.name,by decide,Tryz.func155.trans (congrArg Ac (by kernel_rfl))⟩
 f28:=Tryz.func56.trans (congrArg Ac (by kernel_rfl))
 f29:=Tryz.func156.trans (congrArg Ac (by kernel_rfl))
 f46:=⟨Tryz.f171.name,by decide,Tryz.func171.trans (congrArg Ac (by kernel_rfl))⟩
 f47:=Tryz.func172.trans (congrArg Ac (by kernel_rfl))
 f48:=Tryz.func173.trans (congrArg Ac (by kernel_rfl))
 f49:=⟨Tryz.f174.name,by decide,Tryz.func174.trans (congrArg Ac (by kernel_rfl))⟩
 f50:=⟨Tryz.f175.name,by decide,Tryz.func175.trans (congrArg Ac (by kernel_rfl))⟩
 f57:=⟨Tryz.f185.name,by decide,Tryz.func185.trans (congrArg Ac (by kernel_rfl))⟩
 t0:=Tryz.underlying0
 a0:=Tryz.isAgg0
 z0:=Tryz.sizeOf0
 v0:=Tryz.zeroValue0
 t3:=Tryz.underlying3
 a3:=Tryz.isAgg3
 z3:=Tryz.sizeOf3
 v3:=Tryz.zeroValue3
 t4:=Tryz.underlying4
 a4:=Tryz.isAgg4
 z4:=Tryz.sizeOf4
 v4:=Tryz.zeroValue4
 t5:=Tryz.underlying5
 a5:=Tryz.isAgg5
 z5:=Tryz.sizeOf5
 v5:=Tryz.zeroValue5
 t9:=Tryz.underlying9
 a9:=Tryz.isAgg9
 z9:=Tryz.sizeOf9
 v9:=Tryz.zeroValue9
 t22:=Tryz.underlying65
 a22:=Tryz.isAgg65
 z22:=Tryz.sizeOf65
 v22:=Tryz.zeroValue65
 a24:=Tryz.isAgg54
 z24:=Tryz.sizeOf54
 t25:=Tryz.underlying195
 a25:=Tryz.isAgg195
 z25:=Tryz.sizeOf195
 v25:=Tryz.zeroValue195
 t39:=Tryz.underlying37
 a39:=Tryz.isAgg37
 z39:=Tryz.sizeOf37
 v39:=Tryz.zeroValue37
 t45:=Tryz.underlying229
 a45:=Tryz.isAgg229
 z45:=Tryz.sizeOf229
 v45:=Tryz.zeroValue229
 t46:=Tryz.underlying230
 a46:=Tryz.isAgg230
 z46:=Tryz.sizeOf230
 v46:=Tryz.zeroValue230
 t50:=Tryz.underlying127
 a50:=Tryz.isAgg127
 z50:=Tryz.sizeOf127
 v50:=Tryz.zeroValue127
 t53:=Tryz.underlying36
 a53:=Tryz.isAgg36
 z53:=Tryz.sizeOf36
 v53:=Tryz.zeroValue36
 t55:=Tryz.underlying39
 a55:=Tryz.isAgg39
 z55:=Tryz.sizeOf39
 v55:=Tryz.zeroValue39
 t66:=Tryz.underlying254
 a66:=Tryz.isAgg254
 z66:=Tryz.sizeOf254
 v66:=Tryz.zeroValue254
 t70:=Tryz.underlying258
 a70:=Tryz.isAgg258
 z70:=Tryz.sizeOf258
 v70:=Tryz.zeroValue258
 t76:=Tryz.underlying265
 a76:=Tryz.isAgg265
 z76:=Tryz.sizeOf265
 v76:=Tryz.zeroValue265
 t77:=Tryz.underlying266
 a77:=Tryz.isAgg266
 z77:=Tryz.sizeOf266
 v77:=Tryz.zeroValue266}
end
variable{rows:List Rw}
section
open Go.RowKit Go.Sort Go.Lib Go.Shelf
def zNj(rows:List Rw):List Rw:=rows.mergeSort λa b=>decide (rcmp a b<=0)
theorem zCr(rows:List Rw):(zNj rows).Perm rows:=List.mergeSort_perm _ _
theorem zR3{a b d:Rw}(h1:rcmp a b<=0)(h2:rcmp b d<=0):rcmp a d<=0:=by
 by_cases e1:rcmp a b=0
 ·rw[(rcw.eq a b).1 e1];exact h2
 by_cases e2:rcmp b d=0
 ·rw[<-(rcw.eq b d).1 e2];exact h1
 have:=rcw.tr a b d (by omega) (by omega);omega
theorem zKi(rows:List Rw):(zNj rows).Pairwise λa b=>rcmp a b<=0:=by
 have:=List.pairwise_mergeSort (le:=λa b:Rw=>decide (rcmp a b<=0)) (λa b d h1 h2=>by
   simp only[decide_eq_true_eq]at*;exact zR3 h1 h2) (λa b=>by
   have:=rcw.neg a b
   simp only[Bo,decide_eq_true_eq];omega) rows
 exact this.imp λh=>by simpa using h
theorem zZs{m:List Rw}(hp:m.Perm rows)(hs:m.Pairwise λa b=>¬rcmp b a<0):m=zNj rows:=by
 refine List.Perm.eq_of_pairwise (le:=λa b=>rcmp a b<=0) (λa b ha hb h1 h2=>?_) (hs.imp λ{a b} h=>?_) (zKi rows) (hp.trans (zCr rows).symm)
 ·have:=rcw.neg a b
  exact(rcw.eq a b).1 (by omega)
 have:=rcw.neg a b
 omega
theorem zXj{I:Im}{w:World}:∀{ds:List D}{us:List Value},RelL I w noB ds us->us.length=ds.length
 |[],us,h=>by simp only[RelL]at h;rw[h];rfl
 |d::ds,us,h=>by
  simp only[RelL]at h;obtain⟨v,us',rfl,_,_,h4⟩:=h;simp[zXj h4]
theorem zXk{I:Im}{w:World}:∀{ds:List D}{us:List Value}{i:Nat}{d:D},RelL I w noB ds us->ds[i]?=Ac d->∃v,us[i]?=Ac v/\v.oneCell'=Ab/\Rel I w noB d v
 |d0::ds,us,0,d,h,e=>by
  simp only[RelL]at h;grind
 |d0::ds,us,i+1,d,h,e=>by
  simp only[RelL]at h;obtain⟨v,us',rfl,h2,h3,h4⟩:=h;exact zXk (ds:=ds) (us:=us') (i:=i) h4 (by simpa using e)
theorem ltR_swo(rows:List Rw):SWO (ltOf λx y:{z//z<rows.length}=>rcmp (rows.getD x.1 []) (rows.getD y.1 [])):=by
 refine⟨λx=>?_,λx y z h1 h2=>?_,λx y z h1 h2=>?_⟩
 ·have:=(rcw.eq (rows.getD x.1 []) (rows.getD x.1 [])).2 rfl
  simp only[ltOf,this];decide
 ·simp only[ltOf,decide_eq_true_eq]at*;exact rcw.tr _ _ _ h1 h2
 simp only[ltOf,decide_eq_false_iff_not]at*;have g1:=rcw.neg (rows.getD x.1 []) (rows.getD y.1 []);have g2:=rcw.neg (rows.getD y.1 []) (rows.getD z.1 []);have g3:=rcw.neg (rows.getD x.1 []) (rows.getD z.1 [])
 have:=zR3 (a:=rows.getD z.1 []) (b:=rows.getD y.1 []) (d:=rows.getD x.1 []) (by omega) (by omega)
 omega
theorem pdq_rows{lim:Nat}{caps:List D}(he:st[k]?=Ac e)(ha:e.arr=Ab)(hkd:e.kd= .plain)(hf:e.fz=Ad)(hc:e.cells=rows.map rowV)(hn:rows.length=n)(hb:n<=2000000)(hpos:0<n)(hlim:lim<4611686018427387904)
  (hfr:frz Ab st zAe (.clo (.func g) [] caps)=Ac (.clo (.func g) [] caps',ks))(hnk:k∉ks)(eg:∀args w,(callFunc g args).run Ah w= .ok (.enter g args) w)
  (hcmp:∀x∈rows,∀y∈rows,Pure Ah g (rowV x::rowV y::caps') [] (iD (rcmp x y))):
  Acts Ah 138 [.osl k 0 n n wh, .val (.int .i64 (0:Nat)), .val (.int .i64 n), .val (.int .i64 lim), .clo (.func g) [] caps] st [] (.val (.tuple #[])) ((zA0 st ks).set k {e with cells:=(zNj rows).map rowV}):=by
 have hsl:(zNj rows).length=n:=by rw[(zCr rows).length_eq,hn]
 refine acts_sortG (us3:=[.int .i64 0, .int .i64 n, .int .i64 lim]) he ha hkd hf (by rw[hc,AW,hn]) (by rw[AW,hsl]) hpos hfr hnk ?_;intro I b c w us cb hi hgl hno hcb hr hcur hcell hfz hcap;rw[hc]at hr;have hul:us.length=n:=by rw[zXj hr,AW,hn]
 let α:={z//z<rows.length};let xs:List α:=(AK rows.length).attach.map λz=>⟨z.1,List.mem_range.1 z.2⟩;let enc:α->Value:=λx=>us.getD x.1 undef;have hxl:xs.length=n:=by
  grind
 have hxat:∀j (hj:j<xs.length),(xs[j]'hj).1=j:=λj hj=>by
  grind
 have hus:us=xs.map enc:=by
  grind [List.ext_getElem,AW,AE]
 have hrel:∀x:α,Rel I w noB (rowV (rows.getD x.1 [])) (enc x)/\(enc x).oneCell'=true:=λx=>by
  have h1:(rows.map rowV)[x.1]?=Ac (rowV (rows.getD x.1 [])):=by
   grind
  obtain⟨v,h2,h3,h4⟩:=zXk hr h1;grind
 obtain⟨x0,hx0⟩:∃x0,xs[0]?=Ac x0:=⟨xs[0]'(by omega),AE (by omega)⟩
 haveI:Inhabited α:=⟨x0⟩;have hH:Holds enc w b 0 xs.toArray:=λj hj=>by
  grind
 obtain⟨cur,t,hcur⟩:=hcur;have hblk:b<w.heap.size:=by
  grind
 have hone:OneCell enc:=λx=>by
  grind
 have hworld:∀(m:Nat)(os:Array Obj)(ys:List α),ys.length=n->sortWorld enc w b 0 m ys.toArray os=grow ((w.drewN m).setCells b 0 (ys.map enc)) os:=λm os ys hy=>by
  unfold sortWorld;rw[putRow_eq_setCells enc w b 0 xs.toArray ys m hH (by simp[hy,hxl])]
 have hfix:∀(m:Nat)(os:Array Obj)(dk:Array α),dk.size=n->Fix I w I (sortWorld enc w b 0 m dk os)/\w.heap.size<=(sortWorld enc w b 0 m dk os).heap.size:=λm os dk hd=>by
  have e1:=hworld m os dk.toList (by simpa using hd);simp only[Bv]at e1;rw[e1];obtain⟨s1,s2,s3,s4,s5,s6⟩:=zE8 b t (dk.toList.map enc) 0 (w.drewN m) cur.toList (by simpa using hcur);refine⟨λb' o' hb'=>?_,?_⟩
  ·have hne:b'≠b:=λe=>hno o' (e▸hb');have hlt:=hi b' o' hb';refine⟨hb',λv hv=>?_,λks vs hm=>?_⟩
   ·simp only[World.cell?]at hv⊢;rw[zEw _ os (by rw[s3];exact hlt),s2 b' hne];exact hv
   refine hm.of_heap ?_;rw[zEw _ os (by rw[s3];exact hlt),s2 b' hne];rfl
  simp_all
 have hmr:∀x:α,rows.getD x.1 []∈rows:=λx=>by
  grind
 have hcmp:CmpLays1 Ah g cb.toArray enc (λx y:α=>rcmp (rows.getD x.1 []) (rows.getD y.1 [])) b 0 xs.toArray.size w:=by
  intro m os dk hd x y;have hd':dk.size=n:=by simpa[hxl]using hd
  obtain⟨hfx,hsz⟩:=hfix m os dk hd';have hr2:RelT I (sortWorld enc w b 0 m dk os) noB (rowV (rows.getD x.1 [])::rowV (rows.getD y.1 [])::caps') (enc x::enc y::cb):=by
   simp only[RelT];exact⟨_,_,rfl,Rel.mono hfx noB noB (AH _) _ _ (hrel x).1,_,_,rfl,Rel.mono hfx noB noB (AH _) _ _ (hrel y).1,Bl hfx noB noB (AH _) _ _ hcb⟩
  have e1:(#[enc x,enc y]++cb.toArray)=(enc x::enc y::cb).toArray:=by apply Array.ext';simp
  rw[e1];refine(hcmp _ (hmr x) _ (hmr y) I _ _ hr2 (λb o h=>Ci (hi b o h) hsz) (hgl.mono hfx)).mono ?_;rintro e' w' ⟨v,I',γ,rfl,hx,_,_,_,_,_,_,_,_,hv,_⟩;simp only[Rel]at hv;simp_all [ext_grow]
 have hsz:xs.toArray.size=n:=by simp[hxl]
 have main:=Any.pdqsortCmpFunc_all Tryz.laysRow138 enc (λx y:α=>rcmp (rows.getD x.1 []) (rows.getD y.1 [])) g cb.toArray (ltR_swo rows) b 0 c xs.toArray w eg hcmp ⟨hone,hH,hblk⟩ (n+1) 0 n lim xs.toArray w (by omega) rfl (SW.start hH) (AV _) (by omega) (by omega) hlim (.inl rfl);rw[hsz]at main;refine main.mono ?_;rintro x w' ⟨rfl,q,os,rfl⟩;obtain⟨hp,hso⟩:=pdq_sorts (ltOf λx y:α=>rcmp (rows.getD x.1 []) (rows.getD y.1 [])) (ltR_swo rows) xs.toArray 0 n lim Ab Ab (AV _) (by omega) (.inl rfl);generalize pdq (ltOf λx y:α=>rcmp (rows.getD x.1 []) (rows.getD y.1 [])) xs.toArray 0 n lim Ab Ab=d' at*;have hd':d'.size=n:=by rw[hp.1,hsz]
 have hperm:d'.toList.Perm xs:=by
  have:=hp.2.2
  grind [Array.extract_size]
 have hrows:xs.map (λx=>rows.getD x.1 [])=rows:=by
  apply List.ext_getElem (by rw[AW,hxl,hn]);grind
 have hl2:d'.toList.map (λx=>rows.getD x.1 [])=zNj rows:=by
  refine zZs ?_ ?_
  ·grind
  rw[List.pairwise_map,List.pairwise_iff_getElem];intro i j hi' hj' hij;have hi2:i<d'.size:=by simpa using hi'
  have hj2:j<d'.size:=by simpa using hj'
  have:=hso i j (AV _) hij (by omega)
  rw[getElem!_pos d' j hj2,getElem!_pos d' i hi2]at this;simpa[ltOf]using this
 refine⟨rfl,d'.toList.map enc,q,os,?_,?_⟩
 ·simp_all
 rw[<-hl2];have:∀(l:List α),RelL I w noB ((l.map λx=>rows.getD x.1 []).map rowV) (l.map enc):=by
  intro l;induction l with
  |nil=>simp only[Bb,RelL]
  |cons x l ih=>
   simp only[A6,RelL];grind
 exact this _
end
section
open Go.RowKit
def Tz:Par:=⟨λ_=>Ad,λ_ _=>Ag,λ_=>Ad,λ_=>Ad,λ_=>Ad⟩
theorem zBe:zA9 Ah Tz:=by intro t n f h;cases h
theorem mixed:Ah.follows .mixedOrders=true:=by kernel_rfl
theorem zK4{I:Im}{w:World}{β:Be}:∀(us vs:List Value),RelT I w β (us.map .val) vs->vs=us
 |[],vs,h=>by simpa only[Bb,RelT]using h
 |u::us,vs,h=>by
  simp only[A6,RelT,Rel]at h;obtain⟨v,vs',rfl,rfl,h⟩:=h;rw[zK4 us vs' h]
theorem zFd{us:List Value}{v:Value}(h:∀w,Calls P f us.toArray w λe w'=>e= .returned v/\w=w'):Pure P f (us.map .val) [] (.val v):=by
 intro I w vs hr hi hg;rw[zK4 us vs hr];refine(h w).mono ?_;rintro e w' ⟨rfl,rfl⟩;exact⟨v,I,noB,rfl,Bw _,hi,Fix.refl _ _,λ_ _ h=> .inl h,λ_ _ _ h=>(by cases h),λ_ _ _ h=>(by cases h),λ_ _ _ _ _ h=>(by cases h),λ_ _ _ _ _ h=>(by cases h),λ_ _ h=>(by cases h),by simp only[Rel],by simp⟩
theorem zF5{e:TypeId}{sz:Nat}(h:∀I w vs,RelT I w noB args vs->Calls P f vs.toArray w λx w'=>(x= .returned (.slice Ag 0 0)/\Ext w w')\/∃(g:Nat)(cur:List Value)(cap:Nat),x= .returned (.slice (Ac ⟨g,0,Ag⟩) 0 cap)/\w.heap.size<=g/\Ext w w'/\w'.heap[g]?=Ac (.cells cur.toArray e (0,0))/\cur.length=cap*sz/\cap<=maxLen):
  Pure P f args [⟨[],e,sz,Ab,Ad, .plain⟩] (.osl 0 0 0 0 Ab):=by
 intro I w vs hr hi hg;refine(h I w vs hr).mono ?_;rintro x w' (⟨rfl,he⟩|⟨g,cur,cap,rfl,hgs,he,h1,h2,h3⟩)
 ·exact⟨_,I,noB,rfl,he,λb o hb=>Ci (hi b o hb) he.size,Fix.ext he λ_ _ h=>h,λ_ _ h=> .inl h,λ_ _ _ h=>(by cases h),λ_ _ _ h=>(by cases h),λ_ _ _ _ _ h=>(by cases h),λ_ _ _ _ _ h=>(by cases h),λ_ _ h=>(by cases h),by rw[Rel];exact .inl ⟨rfl,rfl,rfl⟩,by simp⟩
 have hg:∀k y,(if k=0 then Ac (g,cap)else Ag:Option (Nat×Nat))=Ac y->k=0/\y=(g,cap):=by
  grind
 refine⟨_,I,λk=>if k=0 then Ac (g,cap)else Ag,rfl,he,λb o hb=>Ci (hi b o hb) he.size,Fix.ext he λ_ _ h=>h,λ_ _ h=> .inl h,?_,?_,?_,?_,?_,?_,by simp⟩
 ·grind
 ·intro k b c hk;obtain⟨rfl,e⟩:=hg k _ hk;cases e;exact⟨_,rfl,OwnC.r ⟨cur,h1,AV _,by simp only[A8,List.take_zero,RelL],λ_=>h2,h3⟩ rfl⟩
 ·intro k k' b c c' hk hk';grind
 ·intro k b c j e hk hE hI;obtain⟨rfl,e'⟩:=hg k _ hk;cases e';exact absurd (hi _ _ hI) (by omega)
 ·grind
 rw[Rel];grind
theorem zBp{rest:List Oper}{Q:Exit->Act->World->Prop}(hgd:o.guard=Ag)(s x:Operand)(t:TypeId)
  (ho:o.op= .call {callee:= .builtin .append,args:=#[s,x],argTypes:=#[t,t]})
  (base:Nat)(e:TypeId)(i:TypeInfo)(z:Value)(size bytes:Nat)(ht:P.underlying t=Ac (.slice e))(hi:P.info? e=Ac i)(hz:i.zero=Ac z)
  (hsize:i.size=size)(hby:i.bytes=bytes)(hzs:z.cells.size=size)(hsz:0<size)
  (v:Value)(n:Nat)(xs:List Value)(hs:a.eval s=v)(hown:w.ownsRow base e size v n xs)
  (ad:Addr)(m c:Nat)(news:List Value)(hx:a.eval x= .slice (Ac ad) m c)(hl:news.length=m*size)(hnews:∀j u,news[j]?=Ac u->w.cell? (ad.add j)=Ac u)(h1:∀u∈news,u.oneCell'=Ab)
  (h63:n+m<=maxLen)(hbytes:(n+m)*bytes<=140737488355328)(hbase:base<=w.heap.size)
  (h:∀v' w',w'.ownsRow base e size v' (n+m) (xs++news)->w.grownBy w' v.ownBlock->w.drawn<=w'.drawn->wpList P ops Q rest (a.put o.dst v') w'):wpList P ops Q (o::rest) a w:=by
 obtain⟨v',w',r1,r2,r3,_⟩:=run_append_own w base t o.type e i z size bytes ht hi hz hsize hby hzs hsz v n xs hown ad m c news hl hnews h1 h63 hbytes hbase;exact Lib.wpList_append_run w hgd s x t t ho _ _ hs hx v' w' r1 (h v' w' r2 r3 (zCx _ _ r1))
theorem info_nat:(Ah.info? 36).map (λi=>(i.zero,i.size,i.bytes))=Ac (Ac (.int .u32 0),1,4):=by kernel_rfl
set_option maxHeartbeats 400000 in
theorem clone0_nat:Pure Ah 101 [.row [] 0] [⟨[],36,1,Ab,Ad, .plain⟩] (.osl 0 0 0 0 Ab):=by
 refine zF5 λI w vs hr=>?_;simp only[RelT,Rel]at hr;obtain⟨v,ys,rfl,⟨a,c,rfl,_,_,hc,_⟩,rfl⟩:=hr;cases a with
 |none=>
  obtain rfl:=hc rfl;have he:=λ(w:World)=>AZ (P:=Ah) w 44 36 Ag 0 0 0 0 Tryz.underlying44;go_enter Tryz.func101,Tryz.ntmps101;go_wp2;go_ret;exact .inl ⟨rfl,Bw _⟩
 |some x=>
  obtain⟨i0,hi,hz0,hz1,hz2⟩:=info_parts info_nat;have he:=λ(w:World)=>AZ (P:=Ah) w 44 36 (Ac x) 0 c 0 0 Tryz.underlying44;go_enter Tryz.func101,Tryz.ntmps101;go_wp2_with (at_builtin;refine zBp rfl _ _ 44 rfl w.heap.size 36 i0 (.int .u32 0) 1 4 Tryz.underlying44 hi hz0 hz1 hz2 rfl (by decide) (.slice (Ac ⟨w.heap.size,0,Ag⟩) 0 0) 0 [] rfl (BF _ #[] 0 (Ar _) (AV _) rfl) x 0 c [] rfl (by simp) (by simp) (by simp) (by simp[maxLen]) (by decide) (by simp) ?_;intro v' w' hown hgrow hdr);go_ret;have hext:Ext w w':=⟨((Below.refl _ _).alloc (Ar _) _).grown hgrow (by simp) (by simp[BG]),hdr⟩;obtain⟨_,⟨rfl,_⟩|⟨g,cap,cur,rfl,hb,hg,_,hc1,hs,_⟩⟩:=hown
  ·simp_all
  exact .inr ⟨g,cur.toList,cap,rfl,hb,hext,by rw[Bv];exact hg,by simpa using hs,hc1⟩
theorem zZ7:(Ah.info? 4).map (λi=>(i.zero,i.size,i.bytes))=Ac (Ac (.bool Ad),1,1):=by kernel_rfl
set_option maxHeartbeats 400000 in
theorem zTc:Pure Ah 75 [.row [] 0] [⟨[],4,1,Ab,Ad, .plain⟩] (.osl 0 0 0 0 Ab):=by
 refine zF5 λI w vs hr=>?_;simp only[RelT,Rel]at hr;obtain⟨v,ys,rfl,⟨a,c,rfl,_,_,hc,_⟩,rfl⟩:=hr;cases a with
 |none=>
  obtain rfl:=hc rfl;have he:=λ(w:World)=>AZ (P:=Ah) w 22 4 Ag 0 0 0 0 Tryz.underlying22;go_enter Tryz.func75,Tryz.ntmps75;go_wp2;go_ret;exact .inl ⟨rfl,Bw _⟩
 |some x=>
  obtain⟨i0,hi,hz0,hz1,hz2⟩:=info_parts zZ7;have he:=λ(w:World)=>AZ (P:=Ah) w 22 4 (Ac x) 0 c 0 0 Tryz.underlying22;go_enter Tryz.func75,Tryz.ntmps75;go_wp2_with (at_builtin;refine zBp rfl _ _ 22 rfl w.heap.size 4 i0 (.bool Ad) 1 1 Tryz.underlying22 hi hz0 hz1 hz2 rfl (by decide) (.slice (Ac ⟨w.heap.size,0,Ag⟩) 0 0) 0 [] rfl (BF _ #[] 0 (Ar _) (AV _) rfl) x 0 c [] rfl (by simp) (by simp) (by simp) (by simp[maxLen]) (by decide) (by simp) ?_;intro v' w' hown hgrow hdr);go_ret;have hext:Ext w w':=⟨((Below.refl _ _).alloc (Ar _) _).grown hgrow (by simp) (by simp[BG]),hdr⟩;obtain⟨_,⟨rfl,_⟩|⟨g,cap,cur,rfl,hb,hg,_,hc1,hs,_⟩⟩:=hown
  ·simp_all
  exact .inr ⟨g,cur.toList,cap,rfl,hb,hext,by rw[Bv];exact hg,by simpa using hs,hc1⟩
theorem info_rows:(Ah.info? 54).map (λi=>(i.zero,i.size,i.bytes))=Ac (Ac (.slice Ag 0 0),1,24):=by kernel_rfl
set_option maxHeartbeats 400000 in
theorem zV7:Pure Ah 92 [.row [] 0] [⟨[],54,1,Ab,Ad, .plain⟩] (.osl 0 0 0 0 Ab):=by
 refine zF5 λI w vs hr=>?_;simp only[RelT,Rel]at hr;obtain⟨v,ys,rfl,⟨a,c,rfl,_,_,hc,_⟩,rfl⟩:=hr;cases a with
 |none=>
  obtain rfl:=hc rfl;have he:=λ(w:World)=>AZ (P:=Ah) w 65 54 Ag 0 0 0 0 Tryz.underlying65;go_enter Tryz.func92,Tryz.ntmps92;go_wp2;go_ret;exact .inl ⟨rfl,Bw _⟩
 |some x=>
  obtain⟨i0,hi,hz0,hz1,hz2⟩:=info_parts info_rows;have he:=λ(w:World)=>AZ (P:=Ah) w 65 54 (Ac x) 0 c 0 0 Tryz.underlying65;go_enter Tryz.func92,Tryz.ntmps92;go_wp2_with (at_builtin;refine zBp rfl _ _ 65 rfl w.heap.size 54 i0 (.slice Ag 0 0) 1 24 Tryz.underlying65 hi hz0 hz1 hz2 rfl (by decide) (.slice (Ac ⟨w.heap.size,0,Ag⟩) 0 0) 0 [] rfl (BF _ #[] 0 (Ar _) (AV _) rfl) x 0 c [] rfl (by simp) (by simp) (by simp) (by simp[maxLen]) (by decide) (by simp) ?_;intro v' w' hown hgrow hdr);go_ret;have hext:Ext w w':=⟨((Below.refl _ _).alloc (Ar _) _).grown hgrow (by simp) (by simp[BG]),hdr⟩;obtain⟨_,⟨rfl,_⟩|⟨g,cap,cur,rfl,hb,hg,_,hc1,hs,_⟩⟩:=hown
  ·simp_all
  exact .inr ⟨g,cur.toList,cap,rfl,hb,hext,by rw[Bv];exact hg,by simpa using hs,hc1⟩
theorem info_row:(Ah.info? 64).map (λi=>(i.zero,i.size,i.bytes))=Ac (Ac (.agg #[.int .i64 0, .int .i64 0, .string ByteArray.empty]),3,32):=by kernel_rfl
set_option maxHeartbeats 400000 in
theorem clone0_row:Pure Ah 100 [.row [] 0] [⟨[],64,3,Ab,Ad, .plain⟩] (.osl 0 0 0 0 Ab):=by
 refine zF5 λI w vs hr=>?_;simp only[RelT,Rel]at hr;obtain⟨v,ys,rfl,⟨a,c,rfl,_,_,hc,_⟩,rfl⟩:=hr;cases a with
 |none=>
  obtain rfl:=hc rfl;have he:=λ(w:World)=>AZ (P:=Ah) w 54 64 Ag 0 0 0 0 Tryz.underlying54;go_enter Tryz.func100,Tryz.ntmps100;go_wp2;go_ret;exact .inl ⟨rfl,Bw _⟩
 |some x=>
  obtain⟨i0,hi,hz0,hz1,hz2⟩:=info_parts info_row;have he:=λ(w:World)=>AZ (P:=Ah) w 54 64 (Ac x) 0 c 0 0 Tryz.underlying54;go_enter Tryz.func100,Tryz.ntmps100;go_wp2_with (at_builtin;refine zBp rfl _ _ 54 rfl w.heap.size 64 i0 (.agg #[.int .i64 0, .int .i64 0, .string ByteArray.empty]) 3 32 Tryz.underlying54 hi hz0 hz1 hz2 rfl (by decide) (.slice (Ac ⟨w.heap.size,0,Ag⟩) 0 0) 0 [] rfl (BF _ #[] 0 (Ar _) (AV _) rfl) x 0 c [] rfl (by simp) (by simp) (by simp) (by simp[maxLen]) (by decide) (by simp) ?_;intro v' w' hown hgrow hdr);go_ret;have hext:Ext w w':=⟨((Below.refl _ _).alloc (Ar _) _).grown hgrow (by simp) (by simp[BG]),hdr⟩;obtain⟨_,⟨rfl,_⟩|⟨g,cap,cur,rfl,hb,hg,_,hc1,hs,_⟩⟩:=hown
  ·simp_all
  exact .inr ⟨g,cur.toList,cap,rfl,hb,hext,by rw[Bv];exact hg,by simpa using hs,hc1⟩
theorem info_bags:(Ah.info? 99).map (λi=>(i.zero,i.size,i.bytes))=Ac (Ac (.agg #[.int .i64 0, .int .u32 0, .int .i64 0]),3,24):=by kernel_rfl
set_option maxHeartbeats 400000 in
theorem zV8:Pure Ah 78 [.row [] 0] [⟨[],99,3,Ab,Ad, .plain⟩] (.osl 0 0 0 0 Ab):=by
 refine zF5 λI w vs hr=>?_;simp only[RelT,Rel]at hr;obtain⟨v,ys,rfl,⟨a,c,rfl,_,_,hc,_⟩,rfl⟩:=hr;cases a with
 |none=>
  obtain rfl:=hc rfl;have he:=λ(w:World)=>AZ (P:=Ah) w 40 99 Ag 0 0 0 0 Tryz.underlying40;go_enter Tryz.func78,Tryz.ntmps78;go_wp2;go_ret;exact .inl ⟨rfl,Bw _⟩
 |some x=>
  obtain⟨i0,hi,hz0,hz1,hz2⟩:=info_parts info_bags;have he:=λ(w:World)=>AZ (P:=Ah) w 40 99 (Ac x) 0 c 0 0 Tryz.underlying40;go_enter Tryz.func78,Tryz.ntmps78;go_wp2_with (at_builtin;refine zBp rfl _ _ 40 rfl w.heap.size 99 i0 (.agg #[.int .i64 0, .int .u32 0, .int .i64 0]) 3 24 Tryz.underlying40 hi hz0 hz1 hz2 rfl (by decide) (.slice (Ac ⟨w.heap.size,0,Ag⟩) 0 0) 0 [] rfl (BF _ #[] 0 (Ar _) (AV _) rfl) x 0 c [] rfl (by simp) (by simp) (by simp) (by simp[maxLen]) (by decide) (by simp) ?_;intro v' w' hown hgrow hdr);go_ret;have hext:Ext w w':=⟨((Below.refl _ _).alloc (Ar _) _).grown hgrow (by simp) (by simp[BG]),hdr⟩;obtain⟨_,⟨rfl,_⟩|⟨g,cap,cur,rfl,hb,hg,_,hc1,hs,_⟩⟩:=hown
  ·simp_all
  exact .inr ⟨g,cur.toList,cap,rfl,hb,hext,by rw[Bv];exact hg,by simpa using hs,hc1⟩
theorem scmp_c(a b:List UInt8):Pure Ah 128 [strD a,strD b] [] (iD (AC a b)):=
 zFd (us:=[.string (bs a), .string (bs b)]) λw=>(Tryz.strings_Compare (bs a) (bs b) w).mono λe w' h=>⟨h.1,h.2.symm⟩
theorem zF9{f g:D->Option (D×List Nat)}:∀{l:List D}{y:List D×List Nat},(∀d x,f d=Ac x->g d=Ac x)->mapF f l=Ac y->mapF g l=Ac y
 |[],y,h,hy=>by simpa[mapF]using hy
 | d::l,y,h,hy=>by
  unfold mapF at hy⊢;split at hy
  ·cases hy
  rename_i a ks e;rw[h d _ e];simp only at hy⊢;split at hy
  ·cases hy
  rename_i al ls e2;rw[zF9 h e2];exact hy
theorem zVt{kn:Bool}{st:List Bk}:∀(n:Nat)(d:D)(x:D×List Nat),frz kn [] n d=Ac x->frz kn st n d=Ac x
 |0,d,x,h=>h
 | n+1,d,x,h=>by
  have ih:=zVt (kn:=kn) (st:=st) n;cases d with
  |unk=>exact h
  |val v=>exact h
  |row cs m=>exact h
  |ptr cs=>exact h
  |mfz ks cs=>exact h
  |fx d=>exact h
  |osr k off l m wh cs=>exact h
  |own k off=>simp[frz]at h
  |osl k off l m wh=>simp[frz]at h
  |mref k=>simp[frz]at h
  |agg cs=>
   simp only[frz]at h⊢;cases e:mapF (frz kn [] n) cs with
   |none=>rw[e]at h;cases h
   |some y=>rw[zF9 ih e];rw[e]at h;exact h
  |tup cs=>
   simp only[frz]at h⊢;cases e:mapF (frz kn [] n) cs with
   |none=>rw[e]at h;cases h
   |some y=>rw[zF9 ih e];rw[e]at h;exact h
  |ifc t d=>
   simp only[frz]at h⊢;cases e:frz kn [] n d with
   |none=>rw[e]at h;cases h
   |some y=>rw[ih d _ e];rw[e]at h;exact h
  | clo f a b=>
   simp only[frz]at h⊢;cases e:mapF (frz kn [] n) a with
   |none=>rw[e]at h;cases h
   |some y=>
    rw[zF9 ih e];rw[e]at h;simp only at h⊢;cases e2:mapF (frz kn [] n) b with
    |none=>rw[e2]at h;cases h
    |some z=>rw[zF9 ih e2];rw[e2]at h;exact h
theorem zKr{st:List Bk}:∀(l:List (Nat×D))(x:List (Nat×D)×List Nat),zEf [] l=Ac x->zEf st l=Ac x
 |[],x,h=>h
 | (i,d)::r,x,h=>by
  unfold zEf at h⊢;split at h
  ·cases h
  rename_i a ks e;rw[zVt _ _ _ e];simp only at h⊢;split at h
  ·cases h
  rename_i al ls e2;rw[zKr r _ e2];exact h
section
variable{P:Program}{T:Par}{ops:Array Oper}{dr:Bool}{l:List Oper}{sl:List D}{st:List Bk}{K:List D->List Bk->Prop}
def zYi(o:Op):Bool:=match o with
 | .alloc _| .box ..| .buildSlice ..| .makeSlice ..=>Ab
 |_=>Ad
def zXy:Eff->Option (Prop×Bk×D)
 | .new p b (.own 0 0) []=>Ac (p,b, .own 0 0)
 | .new p b (.osl 0 o n m w) []=>Ac (p,b, .osl 0 o n m w)
 |_=>Ag
theorem aeff_new{o:Op}{b:Bk}(ho:zYi o=Ab)(h:zXy (aeff P T o t ρ [])=Ac (p,b,d)):aeff P T o t ρ st= .new p b (zA7 st.length d) []:=by
 have key:∀{E:Eff},zXy E=Ac (p,b,d)->E= .new p b d []:=λ{E} h=>by
  unfold zXy at h;split at h<;>cases h<;>rfl
 have h1:=key h;cases o with
 |alloc e=>
  simp only[aeff]at h1⊢;split at h1
  ·cases h1;simp only[zA7,A8,Bf]
  cases h1
 | box e x=>
  simp only[aeff]at h1⊢;split at h1
  ·rename_i hv;cases h1;rw[if_pos hv];simp only[zA7,A8,Bf]
  cases h1
 | makeSlice t l c=>
  simp only[aeff,zDv]at h1⊢;split at h1
  ·split at h1
   ·cases h1;simp only[zA7,A8,Bf]
   cases h1
  cases h1
 | buildSlice t len parts=>
  simp only[aeff]at h1⊢;split at h1
  ·rename_i hv;rw[if_pos hv];simp only[zCv]at h1⊢;split at h1
   ·split at h1
    ·split at h1
     ·cases h1;simp only[zA7,A8,Bf]
     cases h1
    cases h1
   cases h1
  rename_i hv;rw[if_neg hv];simp only[zDb]at h1⊢;split at h1
  ·split at h1
   ·rename_i hfp;rw[zKr _ _ hfp];split at h1
    ·cases h1;simp only[zA7,A8,Bf, *]
    cases h1
   cases h1
  cases h1
 |_=>simp[zYi]at ho
def newL(P:Program)(T:Par)(l:List Oper)(sl:List D):Option (Prop×Bk×D):=match l with
 |[]=>Ag
 |o::_=>match o.guard with
  |some _=>Ag
  |none=>if zYi o.op then zXy (aeff P T o.op o.type (evD sl) [])else Ag
theorem zBa(N:Nat)(p:Prop)(b:Bk)(d:D)(hN:st.length=N)(next:seqW P T ops dr l.tail (putD sl (hdst l) (zA7 N d)) (st++[b]) K)(h:newL P T l sl=Ac (p,b,d):=by kernel_rfl)(hp:p:=by exact trivial):seqW P T ops dr l sl st K:=by
 unfold newL at h;split at h
 ·cases h
 rename_i o r;split at h
 ·cases h
 rename_i hg;split at h
 ·rename_i ho;have he:=aeff_new (st:=st) ho h;subst hN;refine zDp hg<|go_new he ?_ hp rfl rfl next;cases hoo:o.op<;>rw[hoo]at ho<;>simp[zYi]at ho<;>rfl
 cases h
theorem st_puta(e:Bk)(k:Nat)(p:Prop)(b:Bk)(h:putA P l sl e=Ac (k,p,b))(hk:st[k]?=Ac e)(hp:p)(next:seqW P T ops dr l.tail (putD sl (hdst l) .unk) (st.set k b) K):seqW P T ops dr l sl st K:=by
 unfold putA at h;split at h
 ·cases h
 rename_i o r;split at h
 ·cases h
 rename_i hg;split at h
 ·rename_i t a x ho;split at h
  ·rename_i k1 off sz ha hs;split at h
   ·cases h
   rename_i hm;split at h
   ·rename_i hn;split at h
    ·rename_i d hf;cases h;have he:aeff P T o.op o.type (evD sl) st= .put (e.fz=Ad/\zD6 d=Ab/\(cellsOf d).length=sz/\off+sz<=e.cells.length/\k∉([]:List Nat)) k {e with cells:=setAt e.cells off (cellsOf d)} []:=by
      rw[ho];simp only[aeff,ha,hs,hk];grind [zVt]
     refine zDp hg<|go_put he (by rw[ho];rfl) ⟨hp.1,hp.2.1,hp.2.2.1,hp.2.2.2,by simp⟩ rfl rfl ?_;exact next
    cases h
   cases h
  cases h
 cases h
theorem zDo{ops:Array Oper}{c:List (Nat×Nat)}{l:List Oper}(hn:n<=st.length)(h:zFj P T ops c sl st)(k:seqW P T ops Ab l sl st K):zZ5 P T ops c n sl st/\seqW P T ops Ab l sl st K:=⟨⟨hn,h⟩,k⟩
theorem zDi{ops:Array Oper}(q n:Nat)(e:Bk)(k:Nat)(p:Prop)(d:D)(h:ldL P [ops.getD q Ak] sl e=Ac (k,p,d))(hk:(st.take n)[k]?=Ac e)(hp:p)(hd:((ops.getD q Ak).dst).map (λx=>sl[x]?)=Ac (Ac d)):zFj P T ops [(q,n)] sl st:=λx hx=>by
 rw[List.mem_singleton.1 hx];simp only;generalize ops.getD q Ak=o at*;unfold ldL at h;simp only at h;split at h
 ·cases h
 rename_i hg;split at h
 ·rename_i t a ho;split at h
  ·rename_i k1 off ha;split at h
   ·cases h
   rename_i hm;split at h
   ·rename_i p1 d1 hl;cases h;have he:aeff P T o.op o.type (evD sl) (st.take n)= .get p d:=by
     rw[ho];simp only[aeff,ha,hk,hm];exact zYj hl
    unfold zFt gv;simp only[hg,he];refine⟨by rw[ho];rfl,hp,λx hx=>?_⟩;rw[hx]at hd;simpa using hd
   cases h
  cases h
 cases h
mutual
/-- the own blocks that data names -/
def ownN:D->List Nat
 | .own j _=>[j]
 | .osl j _ _ _ _=>[j]
 | .osr j _ _ _ _ _=>[j]
 | .mref j=>[j]
 | .agg cs=>ownL cs
 | .tup cs=>ownL cs
 | .clo _ x y=>ownL x++ownL y
 | .ifc _ d=>ownN d
 |_=>[]
def ownL:List D->List Nat
 |[]=>[]
 |d::ds=>ownN d++ownL ds
end
mutual
theorem zHz{k:Nat}:∀d:D,(∀j∈ownN d,j≠k)->refs k d=Ad
 | .own j o,h=>by simp only[refs,beq_eq_false_iff_ne];exact h j (by simp[ownN])
 | .osl j _ _ _ _,h=>by simp only[refs,beq_eq_false_iff_ne];exact h j (by simp[ownN])
 | .osr j _ _ _ _ _,h=>by simp only[refs,beq_eq_false_iff_ne];exact h j (by simp[ownN])
 | .mref j,h=>by simp only[refs,beq_eq_false_iff_ne];exact h j (by simp[ownN])
 | .agg cs,h=>by simp only[refs];exact zCz cs λj hj=>h j (by simpa[ownN]using hj)
 | .tup cs,h=>by simp only[refs];exact zCz cs λj hj=>h j (by simpa[ownN]using hj)
 | .clo _ x y,h=>by
  simp only[refs,zCz x λj hj=>h j (by simp[ownN,hj]),zCz y λj hj=>h j (by simp[ownN,hj]),Bool.or_false]
 | .ifc _ d,h=>by simp only[refs];exact zHz d λj hj=>h j (by simpa[ownN]using hj)
 | .unk,_| .val _,_| .row _ _,_| .ptr _,_| .mfz _ _,_| .fx _,_=>by simp only[refs]
theorem zCz{k:Nat}:∀ds:List D,(∀j∈ownL ds,j≠k)->zX k ds=Ad
 |[],_=>by simp only[zX]
 |d::ds,h=>by
  simp only[zX,zHz d λj hj=>h j (by simp[ownL,hj]),zCz ds λj hj=>h j (by simp[ownL,hj]),Bool.or_false]
end
def nes(k:Nat):List Nat->Prop
 |[]=>True
 |j::l=>j≠k/\nes k l
theorem nes_mem{k:Nat}:∀{l:List Nat},nes k l->∀j∈l,j≠k
 |[],_,j,hj=>by simp at hj
 |i::l,h,j,hj=>by
  rcases A4.1 hj with rfl|hj
  ·exact h.1
  exact nes_mem h.2 j hj
theorem zQx{k:Nat}:∀{sl:List D},nes k (ownL sl)->sl.map (zAl k)=sl
 |[],_=>rfl
 | d::sl,h=>by
  have hm:=nes_mem h;have h1:refs k d=false:=zHz d λj hj=>hm j (by simp[ownL,hj]);have h2:nes k (ownL sl):=by
   have key:∀(a b:List Nat),nes k (a++b)->nes k b:=by
    intro a;induction a with
    |nil=>exact λb h=>h
    |cons x a ih=>exact λb h=>ih b h.2
   exact key _ _ h
  rw[A6,zQx h2];unfold zAl;rw[h1];rfl
theorem zRs{l:List α}{a:α}(h:l[i]?=Ac a):l.set i a=l:=by
 apply BN;grind
def outs(ch:List Nat):List Nat->Prop
 |[]=>True
 |j::l=>j∉ch/\outs ch l
theorem zXs{ch:List Nat}:∀{l:List Nat},outs ch l->∀j∈l,j∉ch
 |[],_,j,hj=>by simp at hj
 |i::l,h,j,hj=>by
  rcases A4.1 hj with rfl|hj
  ·exact h.1
  exact zXs h.2 j hj
theorem zXr{d:D}:∀{sl:List D},d∈sl->∀j∈ownN d,j∈ownL sl
 |[],h,j,hj=>by simp at h
 |e::sl,h,j,hj=>by
  rcases A4.1 h with rfl|h
  ·simp[ownL,hj]
  simp[ownL,zXr h j hj]
theorem zJp(gs:List (Nat×Bool))(cs:List Prop)(args:List D)(args':List D)(C:Prop)(h:actL P T ops dr l gs sl st=Ac (cs,f,args))(hc:Alls cs)(ha:LeL args args')(hp:Acts P f args' st ch x st')(hC:outs ch (ownL sl)=C)(hk:∀k∈ch,T.keep k=Ad)(hc2:C)(k:seqW P T ops dr l.tail (putD sl (hdst l) x) st' K):seqW P T ops dr l sl st K:=by
 subst hC;exact st_actc gs cs args args' h hc ha hp hk (λd hd k hk=>zHz d λj hj e=>zXs hc2 j (zXr hd j hj) (e▸hk)) k
def appL (P:Program)(T:Par)(l:List Oper)(sl:List D)(b e:Bk):Option (Nat×Nat×Nat×Prop×Bk×D):=match l with
 |[]=>Ag
 | o :: _ =>match o.guard with
  |some _=>Ag
  | none =>match o.op with
   | .call c=>match c.callee with
    | .builtin .append=>match c.argTypes.toList,c.args.toList with
     | [t,u],[.tmp s1,x]=>match P.underlying t,P.underlying u with
      | some (.slice et),Ac (.slice et')=>match P.info? et,zJm P et,evD sl (.tmp s1),evD sl x with
       | some i,Ac z, .osl k 0 n mm Ab, .osl j off m1 m2 _=>if e.kd.isMap then Ag else if e.nob||zCt P T t then
         Ac (s1,k,j,(b.arr=Ab/\b.cells.length=n*i.size/\mm=n*i.size/\b.ty=et/\b.sz=i.size/\((e.cells.drop off).take m2).length=m1*i.size/\0<i.size/\0<i.bytes/\et=et'/\(n+m1)*i.bytes<=140737488355328/\z.length=i.size/\b.kd.isMap=Ad/\(zCt P T t=Ad\/b.kd.isSh=Ab)),
          {b with cells:=if b.nob then b.cells++(e.cells.drop off).take m2 else(b.cells++(e.cells.drop off).take m2).map (zAl k)}, .osl k 0 (n+m1) ((n+m1)*i.size) Ab)
        else Ag
       |_,_,_,_=>Ag
      |_,_=>Ag
     |_,_=>Ag
    |_=>Ag
   |_=>Ag
theorem zLs (b e:Bk)(s1 k j:Nat)(p C:Prop)(b':Bk)(d':D)(h:appL P T l sl b e=Ac (s1,k,j,p,b',d'))(hk:st[k]?=Ac b)(hj:st[j]?=Ac e)(hp:p)(hC:nes k (ownL (sl.set s1 .unk))=C)(hc:C)(hkp:T.keep k=Ad)
  (next:seqW P T ops dr l.tail (putD (sl.set s1 .unk) (hdst l) d') ((st.map (zAn k)).set k b') K):seqW P T ops dr l sl st K:=by
 unfold appL at h;split at h
 ·cases h
 rename_i o r;split at h
 ·cases h
 rename_i hg;split at h
 ·rename_i c ho;split at h
  ·rename_i hcl;split at h
   ·rename_i t u s1' x hat har;split at h
    ·rename_i et et' ht hu;split at h
     ·rename_i i z k1 n mm j1 off m1 m2 wh hi hz hs hx;split at h
      ·cases h
      rename_i hm;split at h
      ·rename_i hn;simp only[AO.injEq,Ay.injEq]at h;obtain⟨rfl,rfl,rfl,rfl,rfl,rfl⟩:=h;have hmf:(!e.kd.isMap)=true:=by simpa using hm
       have he:aeff P T o.op o.type (evD sl) st= .app (b.arr=Ab/\b.cells.length=n*i.size/\mm=n*i.size/\b.ty=et/\b.sz=i.size/\((e.cells.drop off).take m2).length=m1*i.size/\0<i.size/\0<i.bytes/\et=et'/\(n+m1)*i.bytes<=140737488355328/\z.length=i.size/\b.kd.isMap=Ad/\(zCt P T t=Ad\/b.kd.isSh=Ab))
         k1 {b with cells:=if b.nob then b.cells++(e.cells.drop off).take m2 else(b.cells++(e.cells.drop off).take m2).map (zAl k1)} (.osl k1 0 (n+m1) ((n+m1)*i.size) Ab):=by
        rw[ho];simp only[aeff,hcl,hat,har,zGg,ht,hu,hi,hz,hs,hx,unB,zE7,hj,hmf,if_true,hn,aApp,hk]
       refine zDp hg<|go_app he ?_ hkp hp rfl rfl ?_
       ·rw[ho];obtain⟨cc,ca,ct⟩:=c;simp only at hcl;subst hcl;rfl
       have hkl:sl.map (zAl k1)=sl.set s1' .unk:=by
        have h2:=zQx (by rw[hC];exact hc:nes k1 (ownL (sl.set s1' .unk)));rw[List.map_set]at h2;rw[show zAl k1 .unk= .unk from rfl]at h2;rw[<-h2];symm;refine zRs ?_;have hl:s1'<sl.length:=by
         rcases AN s1' sl.length with hl|hl
         ·exact hl
         simp only[evD,AX,BQ hl]at hs;cases hs
        simp only[evD,AX,AE hl,BU]at hs;rw[Cf,AE hl,Bz,hs];unfold zAl;simp only[refs,beq_self_eq_true,if_true]
       rw[hkl];exact next
      cases h
     cases h
    cases h
   cases h
  cases h
 cases h
end
variable{e:Exit}
section
variable{P:Program}{T:Par}
abbrev Uk:D:= .unk
abbrev i6(z:Int):Prop:=-9223372036854775808<=z/\z<=9223372036854775807
abbrev u6(z:Int):Prop:=0<=z/\z<=18446744073709551615
abbrev u3(z:Int):Prop:=0<=z/\z<=4294967295
abbrev ix(i n:Int)(R:Prop):Prop:=0<=i/\i<n/\R
abbrev Fs:=List D×List Bk
def rP(P:Program)(T:Par)(ops:Array Oper)(raws:List Nat)(l:List Oper)(gs:List (Nat×Bool))(p:Fs):Fs:=match runL P T ops raws l gs p.1 p.2 with
 |some x=>x.2
 |none=>p
def setP(p:Fs)(i:Nat)(d:D):Fs:=(p.1.set i d,p.2)
def setQ(p:Fs)(i:Nat)(b:Bk):Fs:=(p.1,p.2.set i b)
variable{n:Bk}
section
variable{ops:Array Oper}{dr:Bool}{l:List Oper}{p:Fs}{K:List D->List Bk->Prop}
theorem v0s(k:seqW P T ops dr l (sl,st).1 (sl,st).2 K):seqW P T ops dr l sl st K:=k
theorem vw(n:Nat)(raws:List Nat)(gs:List (Nat×Bool))(C:Prop)(k:seqW P T ops dr (l.drop n) (rP P T ops raws (l.take n) gs p).1 (rP P T ops raws (l.take n) gs p).2 K)
  (hc:C:=by first|exact True.intro|omega|(repeat' first|exact True.intro|omega|apply And.intro|assumption|decide|(simp;done)|(simp;omega)|kernel_rfl))
  (h:(runL P T ops raws (l.take n) gs p.1 p.2).map (λx=>Alls x.1)=Ac C:=by kernel_rfl):seqW P T ops dr l p.1 p.2 K:=by
 rw[AB]at h;obtain⟨⟨c,s1,s2⟩,h1,rfl⟩:=h;simp only[rP,h1]at k;grind [zCh,Bp]
theorem vr(n:Nat)(C:Prop)(k:seqW P T ops dr (l.drop n) (rP P T ops [] (l.take n) [] p).1 (rP P T ops [] (l.take n) [] p).2 K)
  (hc:C:=by first|exact True.intro|omega|(repeat' first|exact True.intro|omega|apply And.intro|assumption|decide|(simp;done)|(simp;omega)|kernel_rfl))
  (h:(runL P T ops [] (l.take n) [] p.1 p.2).map (λx=>Alls x.1)=Ac C:=by kernel_rfl):seqW P T ops dr l p.1 p.2 K:=vw n [] [] C k hc h
theorem vrT(n:Nat)(k:seqW P T ops dr (l.drop n) (rP P T ops [] (l.take n) [] p).1 (rP P T ops [] (l.take n) [] p).2 K)
  (h:(runL P T ops [] (l.take n) [] p.1 p.2).map (λx=>Alls x.1)=Ac True:=by kernel_rfl):seqW P T ops dr l p.1 p.2 K:=vw n [] [] True k trivial h
theorem vwh(n:Nat)(raws:List Nat)(gs:List (Nat×Bool))(C:Prop)(hc:C)(k:seqW P T ops dr (l.drop n) (rP P T ops raws (l.take n) gs p).1 (rP P T ops raws (l.take n) gs p).2 K)(h:(runL P T ops raws (l.take n) gs p.1 p.2).map (λx=>Alls x.1)=Ac C:=by kernel_rfl):seqW P T ops dr l p.1 p.2 K:=vw n raws gs C k hc h
theorem vew(raws:List Nat)(gs:List (Nat×Bool))(C:Prop)(k:awp P T b Q (rP P T ops raws l gs p).1 (rP P T ops raws l gs p).2)
  (hc:C:=by first|exact True.intro|omega|(repeat' first|exact True.intro|omega|apply And.intro|assumption|decide|(simp;done)|(simp;omega)|kernel_rfl))
  (h:(runL P T ops raws l gs p.1 p.2).map (λx=>Alls x.1)=Ac C:=by kernel_rfl):seqW P T ops dr l p.1 p.2 (zAd (zAi P T b Q) Q' .normal):=by
 rw[AB]at h;obtain⟨⟨c,s1,s2⟩,h1,rfl⟩:=h;simp only[rP,h1]at k
 have:=zCh (P:=P) (T:=T) (dr:=dr) (K:=zAd (zAi P T b Q) Q' .normal) l [] gs p.1 p.2 c s1 s2 h1 hc ?_
 ·grind
 exact⟨_,_,Weak.refl _ _,k⟩
theorem ve(C:Prop)(k:awp P T b Q (rP P T ops [] l [] p).1 (rP P T ops [] l [] p).2)
  (hc:C:=by first|exact True.intro|omega|(repeat' first|exact True.intro|omega|apply And.intro|assumption|decide|(simp;done)|(simp;omega)|kernel_rfl))
  (h:(runL P T ops [] l [] p.1 p.2).map (λx=>Alls x.1)=Ac C:=by kernel_rfl):seqW P T ops dr l p.1 p.2 (zAd (zAi P T b Q) Q' .normal):=vew [] [] C k hc h
theorem veT(k:awp P T b Q (rP P T ops [] l [] p).1 (rP P T ops [] l [] p).2)
  (h:(runL P T ops [] l [] p.1 p.2).map (λx=>Alls x.1)=Ac True:=by kernel_rfl):seqW P T ops dr l p.1 p.2 (zAd (zAi P T b Q) Q' .normal):=vew [] [] True k trivial h
def isC3(d:D):Bool:=zGx d||zD6 d||(match d with
 | .tup _=>Ab
 |_=>Ad)
theorem vsh(i:Nat){d0:D}(hd:d0=d)(k:seqW P T ops dr l (setP p i d).1 (setP p i d).2 K)(h:p.1.getD i .unk=d0:=by kernel_rfl)(hu:isC3 d=true:=by kernel_rfl):seqW P T ops dr l p.1 p.2 K:=by
 subst hd;simp only[setP]at k;rwa[zGj h (by intro e;subst e;simp[isC3,zGx,zD6]at hu)]at k
theorem vs(i:Nat)(d0 d:D)(k:seqW P T ops dr l (setP p i d).1 (setP p i d).2 K)(hd:d0=d:=by simp(disch:=omega) only[*,_root_.Int.toNat_natCast,_root_.Nat.mul_one,_root_.Nat.zero_add,_root_.List.drop_zero,_root_.Nat.sub_zero,_root_.List.cons_append,_root_.List.nil_append,cellsOf,setAt,_root_.List.headD_cons,_root_.Bool.not_true,_root_.List.length_map])(h:p.1.getD i .unk=d0:=by kernel_rfl)(hu:isC3 d=true:=by kernel_rfl):seqW P T ops dr l p.1 p.2 K:=vsh i hd k h hu
theorem vp(i n:Nat)(X:List D)(k:seqW P T ops dr l (setP p i (.ptr (X.drop n))).1 (setP p i (.ptr (X.drop n))).2 K)(h:p.1.getD i .unk= .ptr (X.drop (n*1)):=by kernel_rfl):seqW P T ops dr l p.1 p.2 K:=vsh i (by rw[BH]) k h (by rfl)
theorem vo(i b n:Nat)(k:seqW P T ops dr l (setP p i (.own b n)).1 (setP p i (.own b n)).2 K)(h:p.1.getD i .unk= .own b (0+n*1):=by kernel_rfl):seqW P T ops dr l p.1 p.2 K:=vsh i (by rw[BH,Nat.zero_add]) k h (by rfl)
theorem vo0(i b n:Nat)(k:seqW P T ops dr l (setP p i (.own b n)).1 (setP p i (.own b n)).2 K)(h:p.1.getD i .unk= .own b (0+n):=by kernel_rfl):seqW P T ops dr l p.1 p.2 K:=vsh i (by rw[Nat.zero_add]) k h (by rfl)
theorem vb(i:Nat)(b0 b:Bk)(k:seqW P T ops dr l (setQ p i b).1 (setQ p i b).2 K)(hd:b0=b:=by simp(disch:=omega) only[*,_root_.Int.toNat_natCast,_root_.Nat.mul_one,_root_.Nat.zero_add,_root_.List.drop_zero,_root_.Nat.sub_zero,_root_.List.cons_append,_root_.List.nil_append,cellsOf,setAt,_root_.List.headD_cons,_root_.Bool.not_true,_root_.List.length_map])(h:p.2[i]?=Ac b0:=by kernel_rfl):seqW P T ops dr l p.1 p.2 K:=st_blk i b0 b h hd k
def cSt(P:Program)(T:Par)(ops:Array Oper)(l:List Oper)(p:Fs):List Bk:=match zKb P T ops l [] p.1 p.2 with
 |some x=>x.2.2.2
 |none=>p.2
def cP(P:Program)(T:Par)(ops:Array Oper)(l:List Oper)(x:D)(p:Fs):Fs:=(putD p.1 (hdst l) x,cSt P T ops l p)
def nP(P:Program)(T:Par)(ops:Array Oper)(l:List Oper)(x:D)(bs:List Bk)(p:Fs):Fs:=(putD p.1 (hdst l) (zA7 p.2.length x),cSt P T ops l p++bs)
theorem vc(hp:Pure P f args [] x)(k:seqW P T ops dr l.tail (cP P T ops l x p).1 (cP P T ops l x p).2 K)(h:(zKb P T ops l [] p.1 p.2).map (λx=>(x.1,x.2.1,x.2.2.1))=Ac ([],f,args):=by kernel_rfl):seqW P T ops dr l p.1 p.2 K:=by
 rw[AB]at h;obtain⟨⟨c,g,a,s⟩,h1,h2⟩:=h;simp only[Ay.injEq]at h2;obtain⟨rfl,rfl,rfl⟩:=h2;simp only[cP,cSt,h1]at k;exact zP0 [] [] a s a h1 trivial (LeL.refl _) hp k
theorem vca(args:List D)(hp:Pure P f args [] x)(k:seqW P T ops dr l.tail (cP P T ops l x p).1 (cP P T ops l x p).2 K)(h:(zKb P T ops l [] p.1 p.2).map (λx=>(x.1,x.2.1,x.2.2.1))=Ac ([],f,args):=by kernel_rfl):seqW P T ops dr l p.1 p.2 K:=vc hp k h
theorem vcl(args:List D)(args':List D)(ha:LeL args args')(hp:Pure P f args' [] x)(k:seqW P T ops dr l.tail (cP P T ops l x p).1 (cP P T ops l x p).2 K)(h:(zKb P T ops l [] p.1 p.2).map (λx=>(x.1,x.2.1,x.2.2.1))=Ac ([],f,args):=by kernel_rfl):seqW P T ops dr l p.1 p.2 K:=vc (hp.le ha) k h
theorem vnl(args:List D)(args':List D)(ha:LeL args args')(hp:Pure P f args' (n::news) x)(k:seqW P T ops dr l.tail (nP P T ops l x (n::news) p).1 (nP P T ops l x (n::news) p).2 K)(h:(zKb P T ops l [] p.1 p.2).map (λx=>(x.1,x.2.1,x.2.2.1))=Ac ([],f,args):=by kernel_rfl):seqW P T ops dr l p.1 p.2 K:=by
 rw[AB]at h;obtain⟨⟨c,g,a,s⟩,h1,h2⟩:=h;simp only[Ay.injEq]at h2;obtain⟨rfl,rfl,rfl⟩:=h2;simp only[nP,cSt,h1]at k;exact st_callN [] [] a s args' h1 trivial ha hp k
theorem vn(hp:Pure P f args (n::news) x)(k:seqW P T ops dr l.tail (nP P T ops l x (n::news) p).1 (nP P T ops l x (n::news) p).2 K)(h:(zKb P T ops l [] p.1 p.2).map (λx=>(x.1,x.2.1,x.2.2.1))=Ac ([],f,args):=by kernel_rfl):seqW P T ops dr l p.1 p.2 K:=vnl args args (LeL.refl _) hp k h
theorem vnil(k:K sl st)(e:l=[]:=by kernel_rfl):seqW P T ops dr l sl st K:=zAk k e
theorem vsp(t:Nat)(b:Bool)(k1:b=Ab->seqW P T ops dr l (setP p t (.val (.bool Ab))).1 (setP p t (.val (.bool Ab))).2 K)(k2:b=Ad->seqW P T ops dr l (setP p t (.val (.bool Ad))).1 (setP p t (.val (.bool Ad))).2 K)(h:zYp ops l p.1=Ac (t,b):=by kernel_rfl):seqW P T ops dr l p.1 p.2 K:=st_split t b h k1 k2
theorem vspD(t:Nat)(q:Prop)[Decidable q](k1:q->seqW P T ops dr l (setP p t (.val (.bool Ab))).1 (setP p t (.val (.bool Ab))).2 K)(k2:¬q->seqW P T ops dr l (setP p t (.val (.bool Ad))).1 (setP p t (.val (.bool Ad))).2 K)(h:zYp ops l p.1=Ac (t,decide q):=by kernel_rfl):seqW P T ops dr l p.1 p.2 K:=vsp t (decide q) (λe=>k1 (of_decide_eq_true e)) (λe=>k2 (of_decide_eq_false e)) h
end
section
variable{Q:Exit->List D->List Bk->Prop}{sl:List D}{st:List Bk}
theorem v0{c:Code}(k:awp P T c Q (sl,st).1 (sl,st).2):awp P T c Q sl st:=k
theorem vA(k:seqW P T ops Ad ops.toList sl st (zAd (zAi P T b Q) Q .normal)):awp P T (.seq (.region i ops Ad) b) Q sl st:=zA (zB rfl k)
theorem vAs(k:seqW P T ops Ad ops.toList (sl,st).1 (sl,st).2 (zAd (zAi P T b Q) Q .normal)):awp P T (.seq (.region i ops Ad) b) Q sl st:=zA (zB rfl k)
theorem vAu(k:awp P T b Q (rP P T ops [] ops.toList [] (sl,st)).1 (rP P T ops [] ops.toList [] (sl,st)).2)(h:(runL P T ops [] ops.toList [] (sl,st).1 (sl,st).2).map (λx=>Alls x.1)=Ac True:=by kernel_rfl):awp P T (.seq (.region i ops Ad) b) Q sl st:=zA (zB rfl (v0s (veT k h)))
theorem vAe{p:Fs}(k:awp P T b Q (rP P T ops [] ops.toList [] p).1 (rP P T ops [] ops.toList [] p).2)(h:(runL P T ops [] ops.toList [] p.1 p.2).map (λx=>Alls x.1)=Ac True:=by kernel_rfl):awp P T (.seq (.region i ops Ad) b) Q p.1 p.2:=zA (zB rfl (veT k h))
theorem vN(h:awp P T b Q sl st):zAd (zAi P T b Q) Q' .normal sl st:=zC (zCi h)
theorem vK(h:awp P T b Q sl st):awp P T .skip (zAd (zAi P T b Q) Q') sl st:=zT (zC (zCi h))
theorem vB{a:Code}(h:awp P T a (zY i (zAd (zAi P T b Q) Q)) sl st):awp P T (.seq (.block i a) b) Q sl st:=zA (zJ h)
theorem vY(h:Q .normal sl st):awp P T (.exit i) (zAd K (zY i Q)) sl st:=zZa (zLp (zTe rfl h))
theorem vY2{K':List D->List Bk->Prop}(h:Q .normal sl st):awp P T (.exit i) (zAd K' (zAd K (zY i Q))) sl st:=zZa (zLp (zLp (zTe rfl h)))
theorem vZ(h:awp P T b Q sl st):awp P T (.exit i) (zAd K (zY i (zAd (zAi P T b Q) Q'))) sl st:=vY (vN h)
theorem vZ2{K':List D->List Bk->Prop}(h:awp P T b Q sl st):awp P T (.exit i) (zAd K' (zAd K (zY i (zAd (zAi P T b Q) Q')))) sl st:=vY2 (vN h)
theorem vKB{a:Code}(h:awp P T a (zY i (zAd (zAi P T b Q) Q)) sl st):awp P T .skip (zAd (zAi P T (.seq (.block i a) b) Q) Q') sl st:=vK (vB h)
theorem vd(ord:List Nat)(h:seqW P T ops Ab l sl st (Q .normal))(hr:zZx T ops ord=true:=by kernel_rfl)(hl:(ord.map λi=>ops.getD i Ak)=l:=by rfl):awp P T (.region i ops Ab) Q sl st:=awp_drawn ord hr hl h
theorem vcD{x:Code}(q:Prop)[Decidable q](h:q->awp P T x Q sl st)(h':¬q->awp P T y Q sl st)(hc:evD sl c= .val (.bool (decide q)):=by kernel_rfl):awp P T (.cond c x y) Q sl st:=zA5 hc (λe=>h (of_decide_eq_true e)) (λe=>h' (of_decide_eq_false e))
def keepL:Nat->List D->List Nat->List D
 |_,[],_=>[]
 |i,d::ds,ks=>(if ks.contains i then d else .unk)::keepL (i+1) ds ks
theorem keep_le:∀(i:Nat)(ds:List D)(ks:List Nat),LeL ds (keepL i ds ks)
 |_,[],_=> .nil
 |i,d::ds,ks=> .cons (by split;exact .refl _;exact .unk _) (keep_le (i+1) ds ks)
theorem vkp(ks:List Nat)(h:keepL 0 sl ks=sl':=by kernel_rfl):Weak T sl st sl' st:=by
 subst h;exact Weak.slots (keep_le 0 _ ks)
theorem vT{x:Code}(p:Prop)[Decidable p](h:awp P T x Q sl st)(ht:p:=by first|omega|assumption)(hc:evD sl c= .val (.bool (decide p)):=by kernel_rfl):awp P T (.cond c x y) Q sl st:=by simp_all [zFv,ht]
theorem vF{x:Code}(p:Prop)[Decidable p](h:awp P T y Q sl st)(ht:¬p:=by first|omega|assumption)(hc:evD sl c= .val (.bool (decide p)):=by kernel_rfl):awp P T (.cond c x y) Q sl st:=by simp_all [zEz,ht]
theorem vt{x:Code}(h:awp P T x Q sl st)(hc:evD sl c= .val (.bool Ab):=by kernel_rfl):awp P T (.cond c x y) Q sl st:=zFv hc rfl h
theorem vf{x:Code}(h:awp P T y Q sl st)(hc:evD sl c= .val (.bool Ad):=by kernel_rfl):awp P T (.cond c x y) Q sl st:=zEz hc rfl h
theorem vEt{x:Code}(a b:Int)(h:awp P T x Q sl st)(ht:a=b:=by first|omega|assumption)(hc:evD sl c= .val (.bool (a==b)):=by kernel_rfl):awp P T (.cond c x y) Q sl st:=by simp_all [zFv,ht]
theorem vEf{x:Code}(a b:Int)(h:awp P T y Q sl st)(ht:¬a=b:=by first|omega|assumption)(hc:evD sl c= .val (.bool (a==b)):=by kernel_rfl):awp P T (.cond c x y) Q sl st:=by simp_all [zEz,ht]
theorem vret(C:Prop)(he:e= .normal\/e= .ret)(hc:C:=by first|exact True.intro|omega|(repeat' first|exact True.intro|omega|apply And.intro|assumption|decide|(simp;done)|(simp;omega)|kernel_rfl))
  (h:(retC P rs sl st).map (λx=>(Alls x.1,zF6 x.2))=Ac (C,x):=by kernel_rfl):(e= .normal\/e= .ret)/\retL P sl st rs (λds=>∃y ks,frz Ab st zAe (oneD ds)=Ac (y,ks)/\LeD y x):=zBm C x x he rfl rfl (h:=h) (hc:=hc)
theorem vre(C:Prop)(y:D)(he:e= .normal\/e= .ret)(hx:y=x)(hc:C:=by first|exact True.intro|omega|(repeat' first|exact True.intro|omega|apply And.intro|assumption|decide|(simp;done)|(simp;omega)|kernel_rfl))
  (h:(retC P rs sl st).map (λx=>(Alls x.1,zF6 x.2))=Ac (C,y):=by kernel_rfl):(e= .normal\/e= .ret)/\retL P sl st rs (λds=>∃y ks,frz Ab st zAe (oneD ds)=Ac (y,ks)/\LeD y x):=zBm C y y he rfl hx (h:=h) (hc:=hc)
def tgt1(d d':D):D:=match d' with
 | .unk=> .unk
 | _=>match d with
  | .val (.slice Ag 0 0)=>(match d' with
   | .osl k 0 0 0 b=> .osl k 0 0 0 b
   | .row [] 0=> .row [] 0
   |_=>d)
  |_=>d
theorem tgt1_le(d d':D):LeD d (tgt1 d d'):=by
 unfold tgt1;split
 ·exact .unk _
 split
 ·split
  ·exact .nil _ _
  ·exact .nil_row
  exact .refl _
 exact .refl _
def tgtL:List D->List D->List D
 |[],_=>[]
 |d::ds,[]=>d::ds
 |d::ds,d'::ds'=>tgt1 d d'::tgtL ds ds'
theorem zPu:∀ds ds':List D,LeL ds (tgtL ds ds')
 |[],_=> .nil
 |d::ds,[]=> .refl _
 |d::ds,d'::ds'=> .cons (tgt1_le d d') (zPu ds ds')
theorem wk(i:Nat)(d0 d:D)(hd:d0=d)(k:Weak T (sl.set i d) st sl' st')(h:sl.getD i .unk=d0:=by kernel_rfl)(hu:isC3 d=true:=by kernel_rfl):Weak T sl st sl' st':=by
 subst hd;rwa[zGj h (by intro e;subst e;simp[isC3,zGx,zD6]at hu)]at k
theorem vk(m:Nat)(hk:∀k,m<=k->T.keep k=false:=by exact λ_ _=>rfl)(h:tgtL sl sl'=sl':=by kernel_rfl)(hn:zEr sl' st m st.length=true:=by kernel_rfl)(e:st.take m=st'.take m:=by kernel_rfl):Weak T sl st sl' st':=by grind [Weak.all,zPu,Bp]
def fr(n:Nat)(ch:List (Nat×D)):List D:=updS (Az n .unk) ch
theorem vnt{dr:Bool}(st':List Bk)(k:seqW P T ops dr l sl st' K)(h2:st=st':=by kernel_rfl):seqW P T ops dr l sl st K:=by subst h2;exact k
theorem wkn(sl0:List D)(st0:List Bk)(k:Weak T sl0 st0 sl' st')(h:tgtL sl sl0=sl0:=by kernel_rfl)(h2:st=st0:=by kernel_rfl):Weak T sl st sl' st':=by
 subst h2;exact(Weak.slots (h▸zPu sl sl0)).trans k
theorem vnn(sl':List D)(st':List Bk)(k:zAi P T b Q sl' st')(h:tgtL sl sl'=sl':=by kernel_rfl)(h2:st=st':=by kernel_rfl):zAi P T b Q sl st:=by
 subst h2;obtain⟨a,c,h3,h4⟩:=k;exact⟨a,c,(Weak.slots (h▸zPu sl sl')).trans h3,h4⟩
end
end
end
section
open Go.RowKit
attribute [local irreducible] seqW awp zAd zAi zY Weak updS zAr retL Pure Acts rP setP setQ cP nP fr
set_option maxRecDepth 4096
set_option maxHeartbeats 1000000 in
theorem zFs(l:List Nat)(n:Nat)(hn:l.length=n)(hd:Digs l)(hl:n<=1000000000:=by omega):Pure Ah 55 [.row (l.map dig) n] [] (natD (nval l)):=by
 subst hn;refine zF zBe mixed Tryz.func55 rfl<|vAu<|vAe<|vB<|zK (λ(n:Nat)=>fr 22 [(0,digR l),(2,nl),(3,iD (n:Int))]) (λ_=>[]) (λn=>n) (λn=>n<=l.length/\zCm l n=zCm l l.length) l.length ?_ ?_ ?_
 ·grind
 ·refine vk 0
 rintro n ⟨h1,h2⟩;focus
  refine zA<|vAs<|vrT 3<|vspD 8 ((n:Int)>(0:Int)) (λhc=>?_)<|λhc=>?_;refine vr 3 (i6 (↑n-1))<|vs 11 (iD (↑n-1)) (iD ↑(n-1)) (hd:=by simp(disch:=omega) only[zC1])<|vr 1 (ix ↑(n-1) ↑(Aa l) (Ae dig l≠[])) (vp 12 (n-1) (Ae dig l)<|vr 1 (0<Aa (Aj (n-1)<|Ae dig l))<|vs 13 (AG (Aj (n-1)<|Ae dig l) Uk) (dig<|Af l (n-1) 0) (hd:=by simp(disch:=omega) only[zBx])<|veT ?_) ⟨(by omega),⟨(by omega),(by exact zAc)⟩⟩;refine zA5 (t:=(↑(Af l (n-1) 0):Int)==(0:Int)) (by kernel_rfl) (λhc=>?_)<|λhc=>?_;simp only[beq_iff_eq]at hc;refine vK<|zJ<|zB rfl<|vr 2 (i6 (↑n-1))<|vs 17 (iD (↑n-1)) (iD ↑(n-1)) (hd:=by simp(disch:=omega) only[zC1])<|vrT 1<|vnil<|zD<|zC ?_;rotate_left;simp only[beq_eq_false_iff_ne]at hc;refine vZ2<|vA<|vr 4 (True/\(0:Int)<=(n:Int)/\(0:Int)<=(n:Int)/\0<1/\0<=Aq (n:Int)/\Aq (n:Int)<=Aa l/\Aq (n:Int)=Aq (n:Int))<|vs 21 (Am (As ((Aq (n:Int)-0)*1)<|Aj 0<|Ae dig l) (Aq (n:Int)-0)) (Am (Ae dig<|As n l) n) (hd:=by simp(disch:=omega) only[Bc,Nat.sub_zero,BH,AS,zHt])<|veT<|zE<|vre (True) (Am (Ae dig<|As n l) n) (.inr rfl) ?_;rotate_left;refine veT<|vf<|vZ2<|vA<|vr 4 (True/\(0:Int)<=(n:Int)/\(0:Int)<=(n:Int)/\0<1/\0<=Aq (n:Int)/\Aq (n:Int)<=Aa l/\Aq (n:Int)=Aq (n:Int))<|vs 21 (Am (As ((Aq (n:Int)-0)*1)<|Aj 0<|Ae dig l) (Aq (n:Int)-0)) (Am (Ae dig<|As n l) n) (hd:=by simp(disch:=omega) only[Bc,Nat.sub_zero,BH,AS,zHt])<|veT<|zE<|vre (True) (Am (Ae dig<|As n l) n) (.inr rfl) ?_;rotate_left
 ·refine⟨n-1,⟨by omega,?_⟩,by omega,?_⟩
  ·rw[<-h2];obtain⟨m,rfl⟩:∃m,n=m+1:=⟨n-1,by omega⟩;simp only[zCm];grind
  refine vk 0
 all_goals
  have e:n=zCm l l.length:=by
   rw[<-h2];cases n with
   |zero=>rfl
   |succ m=>
    simp only[zCm];grind
  have e2:(dg (nval l)).length=n:=by rw[<-zPs hd,A3,BE (zNs _ _),e]
  rw[natD,digR,e2,e,zPs hd]
theorem of_c(n:Nat)(hn:n<18446744073709551616):Pure Ah 36 [.val (.int .u64 n)] [] (natD n):=by
 refine zF zBe mixed Tryz.func36 rfl<|vAu<|vA<|vw 4 [4] [] (True/\(0:Int)<=(32:Int))<|vs 6 (Al<|Ap AL<|A1 (n:Int) ((2:Int)^32)) (Al<|Ap AL (↑(n/4294967296):Int)) (hd:=by simp(disch:=omega) only[zJ9])<|vr 2 (u3 (↑(n/4294967296):Int)/\(1=1/\1<=2/\1=1/\2<=2/\True)/\0<1/\1=1/\2<=16777216/\2<=9223372036854775807)<|vc (zFs [n%4294967296,n/4294967296] 2 rfl<|Digs.mk (by omega)<|Digs.mk (by omega) Digs.nil)<|veT<|zE<|vre (True) (natD<|nval [n%4294967296,n/4294967296]) (.inr rfl) ?_;grind [nval]
set_option maxHeartbeats 2000000 in
theorem add_c(a b:List Nat)(n m:Nat)(hn:a.length=n)(hm:b.length=m)(hl:n<=1000000)(hl':m<=1000000)(ha:Digs a)(hb:Digs b):Pure Ah 46 [.row (a.map dig) n, .row (b.map dig) m] [] (natD (nval a+nval b)):=by
 subst hn hm;have la:=zM2 ha;have lb:=zM2 hb;refine zF zBe mixed Tryz.func46 rfl ?_;focus
  refine vAu<|vA<|vrT 1<|vc (zFs a _ rfl ha)<|vrT 1<|vc (zFs b _ rfl hb)<|veT<|zA<|vAe<|vcD ((Aa (dg<|nval a):Int)<(Aa (dg<|nval b):Int)) (λhc=>?_)<|λhc=>?_;refine zB rfl<|veT<|vA<|vr 4 (i6 ((Aa (dg<|nval b):Int)+(1:Int))/\(0:Int)<=(↑(Aa (dg<|nval b)+1):Int)/\(↑(Aa (dg<|nval b)+1):Int)<=(↑(Aa (dg<|nval b)+1):Int)/\(↑(4:Nat):Int)*(↑(Aa (dg<|nval b)+1):Int)<=(281474976710656:Int)/\(↑(Aa (dg<|nval b)+1):Int)<=(281474976710656:Int)/\0<1/\1=1)<|vb 0 (Ao (repL (Aq (↑(Aa (dg<|nval b)+1):Int)) [Al<|Ap A0 0]) 36 1 Ab Ad<|kdOf Ad) (Ao (Ae dig<|Az (Aa (dg<|nval b)+1) 0) 36 1 Ab Ad<|kdOf Ad) (hd:=by simp(disch:=omega) only[Bc,zP5])<|vrT 1<|vs 5 (Ai 0 0 (Aq (↑(Aa (dg<|nval b)+1):Int)) (Aq (↑(Aa (dg<|nval b)+1):Int)*1) Ab) (Ai 0 0 (Aa (dg<|nval b)+1) (Aa (dg<|nval b)+1) Ab)<|veT<|vAe<|zA<|vAe<|zJ ?_;rotate_left;refine vK<|vA<|vr 4 (i6 ((Aa (dg<|nval a):Int)+(1:Int))/\(0:Int)<=(↑(Aa (dg<|nval a)+1):Int)/\(↑(Aa (dg<|nval a)+1):Int)<=(↑(Aa (dg<|nval a)+1):Int)/\(↑(4:Nat):Int)*(↑(Aa (dg<|nval a)+1):Int)<=(281474976710656:Int)/\(↑(Aa (dg<|nval a)+1):Int)<=(281474976710656:Int)/\0<1/\1=1)<|vb 0 (Ao (repL (Aq (↑(Aa (dg<|nval a)+1):Int)) [Al<|Ap A0 0]) 36 1 Ab Ad<|kdOf Ad) (Ao (Ae dig<|Az (Aa (dg<|nval a)+1) 0) 36 1 Ab Ad<|kdOf Ad) (hd:=by simp(disch:=omega) only[Bc,zP5])<|vrT 1<|vs 5 (Ai 0 0 (Aq (↑(Aa (dg<|nval a)+1):Int)) (Aq (↑(Aa (dg<|nval a)+1):Int)*1) Ab) (Ai 0 0 (Aa (dg<|nval a)+1) (Aa (dg<|nval a)+1) Ab)<|veT<|vAe<|zA<|vAe<|zJ ?_;rotate_left
 ·have hS1:=la;have hL1:=lb;have dL:Digs (dg (nval b)):=zB0 _;have dS:Digs (dg (nval a)):=zB0 _;have ev:nval (dg (nval b))+nval (dg (nval a))=nval a+nval b:=by have:=zBz (nval a);have:=zBz (nval b);omega
  generalize (dg (nval b))=L at*;generalize (dg (nval a))=M at*;refine zC2 (λ(k:Nat)(c:Nat)(cur:List Nat)=>fr 62 [(0,digR L),(1,digR M),(4,nl),(5,Ai 0 0 (Aa L+1) (Aa L+1) Ab),(6,Al<|Ap AL (c:Int)),(24,iD<|Aa L),(25,iD k)]) (λk c cur=>[⟨cur.map dig,36,1,Ab,Ad,.plain⟩]) (λk c cur=>L.length-k) (λk c cur=>k<=L.length/\c<=1/\cur.length=L.length+1/\Digs cur/\nval (cur.take k)+4294967296^k*c=nval (L.take k)+nval (M.take k)) 0 0 (Az (L.length+1) 0) ?_ ?_ ?_
  ·grind [Cj,nval]
  ·refine vk 1
  rintro k c cur ⟨h1,h2,h3,h4,h5⟩;have hx:=dL k;have hy:=dS k;focus
   refine vAu<|zA<|vcD ((k:Int)<↑(Aa L)) (λhc=>?_)<|λhc=>?_;refine vKB<|vAe<|vA<|vr 4 (ix ↑k ↑(Aa L) (Ae dig L≠[])) (vp 31 k (Ae dig L)<|vr 1 (0<Aa (Aj k<|Ae dig L))<|vs 32 (AG (Aj k<|Ae dig L) Uk) (dig<|Af L k 0) (hd:=by simp(disch:=omega) only[zBx]) ?_) ⟨(by omega),⟨(by omega),(by exact zAc)⟩⟩;refine ve (u6 (↑(Af L k 0):Int)/\u6 ((c:Int)+(↑(Af L k 0):Int)))<|zA<|vAe<|vcD ((k:Int)<↑(Aa M)) (λhc=>?_)<|λhc=>?_;refine zB rfl<|vr 4 (ix ↑k ↑(Aa M) (Ae dig M≠[])) (vp 42 k (Ae dig M)<|vr 1 (0<Aa (Aj k<|Ae dig M))<|vs 43 (AG (Aj k<|Ae dig M) Uk) (dig<|Af M k 0) (hd:=by simp(disch:=omega) only[zBx])<|ve (u6 (↑(Af M k 0):Int)/\u6 ((↑(c+Af L k 0):Int)+(↑(Af M k 0):Int)))<|vA<|vw 5 [49] [] (True/\(0:Int)<=(k:Int)/\(k:Int)<↑(Aa L+1))<|vo 50 0 k<|vr 1 (ac_ (k+1<=Aa (Ae dig cur)/\¬0∈[]))<|vb 0 (Ao (setAt (Ae dig cur) k<|cellsOf<|dig ((c+Af L k 0+Af M k 0)%4294967296)) 36 1 Ab Ad Au) (Ao (Ae dig<|AJ cur k ((c+Af L k 0+Af M k 0)%4294967296)) 36 1 Ab Ad Au) (hd:=by simp(disch:=omega) only[cellsOf,setAt,zF0])<|veT<|zB rfl ?_) ⟨(by omega),⟨(by omega),(by exact zAc)⟩⟩;refine vr 2 ((0:Int)<=(32:Int))<|vs 52 (Al<|Ap AL<|A1 (↑(c+Af L k 0+Af M k 0):Int) ((2:Int)^32)) (Al<|Ap AL (↑((c+Af L k 0+Af M k 0)/4294967296):Int)) (hd:=by simp(disch:=omega) only[zJ9])<|vrT 1<|vnil<|zD<|vN<|zB rfl<|vr 2 (i6 (↑k+1))<|vnil<|zC ?_;rotate_left;refine vK<|vA<|vw 5 [49] [] (True/\(0:Int)<=(k:Int)/\(k:Int)<↑(Aa L+1))<|vo 50 0 k<|vr 1 (ac_ (k+1<=Aa (Ae dig cur)/\¬0∈[]))<|vb 0 (Ao (setAt (Ae dig cur) k<|cellsOf<|dig ((c+Af L k 0)%4294967296)) 36 1 Ab Ad Au) (Ao (Ae dig<|AJ cur k ((c+Af L k 0)%4294967296)) 36 1 Ab Ad Au) (hd:=by simp(disch:=omega) only[cellsOf,setAt,zF0])<|veT<|zB rfl<|vr 2 ((0:Int)<=(32:Int))<|vs 52 (Al<|Ap AL<|A1 (↑(c+Af L k 0):Int) ((2:Int)^32)) (Al<|Ap AL (↑((c+Af L k 0)/4294967296):Int)) (hd:=by simp(disch:=omega) only[zJ9])<|vrT 1<|vnil<|zD<|vN<|zB rfl<|vr 2 (i6 (↑k+1))<|vnil<|zC ?_;rotate_left;refine vZ2<|vA<|vr 6 (u3 (c:Int)/\(0:Int)<=(Aa L:Int)/\(Aa L:Int)<(↑(Aa L+1):Int))<|vo 59 0 (Aa L)<|vr 1 (ac_ (Aa L+1<=Aa (Ae dig cur)/\¬0∈[]))<|vb 0 (Ao (setAt (Ae dig cur) (Aa L)<|cellsOf<|dig c) 36 1 Ab Ad Au) (Ao (Ae dig<|AJ cur (Aa L) c) 36 1 Ab Ad Au) (hd:=by simp(disch:=omega) only[cellsOf,setAt,zF0])<|veT<|vA<|vrT 1<|vcl [Am (As (Aa L+1)<|Aj 0<|Ae dig<|AJ cur (Aa L) c) (Aa L+1)] [Am (Ae dig<|As (Aa L+1)<|AJ cur (Aa L) c) (Aa L+1)] (LeL.of_eq (by simp(disch:=omega) only[AS,zHt])) (by exact zFs _ _ (by simp;omega) ((h4.set _ _ (by omega) (by omega)).take _))<|veT<|zE<|vre (True) (natD<|nval<|As (Aa L+1)<|AJ cur (Aa L) c) (.inr rfl) ?_;rotate_left
  ·obtain⟨s1,s2⟩:=zLi (by omega) h2 dL dS h5;refine⟨k+1,(c+L.getD k 0+M.getD k 0)/4294967296,cur.set k ((c+L.getD k 0+M.getD k 0)%4294967296),⟨by omega,s1,by simpa using h3,h4.set _ _ (by omega) (by omega),s2⟩,by omega,?_⟩;refine vk 1
  ·obtain⟨s1,s2⟩:=zLi (by omega) h2 dL dS h5;have e0:M.getD k 0=0:=by rw[AX,BQ (by omega)];rfl
   rw[e0,Bf]at s1 s2;refine⟨k+1,(c+L.getD k 0)/4294967296,cur.set k ((c+L.getD k 0)%4294967296),⟨by omega,s1,by simpa using h3,h4.set _ _ (by omega) (by omega),s2⟩,by omega,?_⟩;refine vk 1
  have ek:k=L.length:=by omega
  subst ek;have e1:nval ((cur.set L.length c).take (L.length+1))=nval a+nval b:=by
   rw[zBu,take_set,zJd _ _ _ _ (by omega),if_pos rfl,h5,Bq,AM (by omega),ev]
  rw[e1]
 ·have hS1:=lb;have hL1:=la;have dL:Digs (dg (nval a)):=zB0 _;have dS:Digs (dg (nval b)):=zB0 _;have ev:nval (dg (nval a))+nval (dg (nval b))=nval a+nval b:=by have:=zBz (nval a);have:=zBz (nval b);omega
  generalize (dg (nval a))=L at*;generalize (dg (nval b))=M at*;refine zC2 (λ(k:Nat)(c:Nat)(cur:List Nat)=>fr 62 [(0,digR L),(1,digR M),(4,nl),(5,Ai 0 0 (Aa L+1) (Aa L+1) Ab),(6,Al<|Ap AL (c:Int)),(24,iD<|Aa L),(25,iD k)]) (λk c cur=>[⟨cur.map dig,36,1,Ab,Ad,.plain⟩]) (λk c cur=>L.length-k) (λk c cur=>k<=L.length/\c<=1/\cur.length=L.length+1/\Digs cur/\nval (cur.take k)+4294967296^k*c=nval (L.take k)+nval (M.take k)) 0 0 (Az (L.length+1) 0) ?_ ?_ ?_
  ·grind [Cj,nval]
  ·refine vk 1
  rintro k c cur ⟨h1,h2,h3,h4,h5⟩;have hx:=dL k;have hy:=dS k;focus
   refine vAu<|zA<|vcD ((k:Int)<↑(Aa L)) (λhc=>?_)<|λhc=>?_;refine vKB<|vAe<|vA<|vr 4 (ix ↑k ↑(Aa L) (Ae dig L≠[])) (vp 31 k (Ae dig L)<|vr 1 (0<Aa (Aj k<|Ae dig L))<|vs 32 (AG (Aj k<|Ae dig L) Uk) (dig<|Af L k 0) (hd:=by simp(disch:=omega) only[zBx]) ?_) ⟨(by omega),⟨(by omega),(by exact zAc)⟩⟩;refine ve (u6 (↑(Af L k 0):Int)/\u6 ((c:Int)+(↑(Af L k 0):Int)))<|zA<|vAe<|vcD ((k:Int)<↑(Aa M)) (λhc=>?_)<|λhc=>?_;refine zB rfl<|vr 4 (ix ↑k ↑(Aa M) (Ae dig M≠[])) (vp 42 k (Ae dig M)<|vr 1 (0<Aa (Aj k<|Ae dig M))<|vs 43 (AG (Aj k<|Ae dig M) Uk) (dig<|Af M k 0) (hd:=by simp(disch:=omega) only[zBx])<|ve (u6 (↑(Af M k 0):Int)/\u6 ((↑(c+Af L k 0):Int)+(↑(Af M k 0):Int)))<|vA<|vw 5 [49] [] (True/\(0:Int)<=(k:Int)/\(k:Int)<↑(Aa L+1))<|vo 50 0 k<|vr 1 (ac_ (k+1<=Aa (Ae dig cur)/\¬0∈[]))<|vb 0 (Ao (setAt (Ae dig cur) k<|cellsOf<|dig ((c+Af L k 0+Af M k 0)%4294967296)) 36 1 Ab Ad Au) (Ao (Ae dig<|AJ cur k ((c+Af L k 0+Af M k 0)%4294967296)) 36 1 Ab Ad Au) (hd:=by simp(disch:=omega) only[cellsOf,setAt,zF0])<|veT<|zB rfl ?_) ⟨(by omega),⟨(by omega),(by exact zAc)⟩⟩;refine vr 2 ((0:Int)<=(32:Int))<|vs 52 (Al<|Ap AL<|A1 (↑(c+Af L k 0+Af M k 0):Int) ((2:Int)^32)) (Al<|Ap AL (↑((c+Af L k 0+Af M k 0)/4294967296):Int)) (hd:=by simp(disch:=omega) only[zJ9])<|vrT 1<|vnil<|zD<|vN<|zB rfl<|vr 2 (i6 (↑k+1))<|vnil<|zC ?_;rotate_left;refine vK<|vA<|vw 5 [49] [] (True/\(0:Int)<=(k:Int)/\(k:Int)<↑(Aa L+1))<|vo 50 0 k<|vr 1 (ac_ (k+1<=Aa (Ae dig cur)/\¬0∈[]))<|vb 0 (Ao (setAt (Ae dig cur) k<|cellsOf<|dig ((c+Af L k 0)%4294967296)) 36 1 Ab Ad Au) (Ao (Ae dig<|AJ cur k ((c+Af L k 0)%4294967296)) 36 1 Ab Ad Au) (hd:=by simp(disch:=omega) only[cellsOf,setAt,zF0])<|veT<|zB rfl<|vr 2 ((0:Int)<=(32:Int))<|vs 52 (Al<|Ap AL<|A1 (↑(c+Af L k 0):Int) ((2:Int)^32)) (Al<|Ap AL (↑((c+Af L k 0)/4294967296):Int)) (hd:=by simp(disch:=omega) only[zJ9])<|vrT 1<|vnil<|zD<|vN<|zB rfl<|vr 2 (i6 (↑k+1))<|vnil<|zC ?_;rotate_left;refine vZ2<|vA<|vr 6 (u3 (c:Int)/\(0:Int)<=(Aa L:Int)/\(Aa L:Int)<(↑(Aa L+1):Int))<|vo 59 0 (Aa L)<|vr 1 (ac_ (Aa L+1<=Aa (Ae dig cur)/\¬0∈[]))<|vb 0 (Ao (setAt (Ae dig cur) (Aa L)<|cellsOf<|dig c) 36 1 Ab Ad Au) (Ao (Ae dig<|AJ cur (Aa L) c) 36 1 Ab Ad Au) (hd:=by simp(disch:=omega) only[cellsOf,setAt,zF0])<|veT<|vA<|vrT 1<|vcl [Am (As (Aa L+1)<|Aj 0<|Ae dig<|AJ cur (Aa L) c) (Aa L+1)] [Am (Ae dig<|As (Aa L+1)<|AJ cur (Aa L) c) (Aa L+1)] (LeL.of_eq (by simp(disch:=omega) only[AS,zHt])) (by exact zFs _ _ (by simp;omega) ((h4.set _ _ (by omega) (by omega)).take _))<|veT<|zE<|vre (True) (natD<|nval<|As (Aa L+1)<|AJ cur (Aa L) c) (.inr rfl) ?_;rotate_left
  ·obtain⟨s1,s2⟩:=zLi (by omega) h2 dL dS h5;refine⟨k+1,(c+L.getD k 0+M.getD k 0)/4294967296,cur.set k ((c+L.getD k 0+M.getD k 0)%4294967296),⟨by omega,s1,by simpa using h3,h4.set _ _ (by omega) (by omega),s2⟩,by omega,?_⟩;refine vk 1
  ·obtain⟨s1,s2⟩:=zLi (by omega) h2 dL dS h5;have e0:M.getD k 0=0:=by rw[AX,BQ (by omega)];rfl
   rw[e0,Bf]at s1 s2;refine⟨k+1,(c+L.getD k 0)/4294967296,cur.set k ((c+L.getD k 0)%4294967296),⟨by omega,s1,by simpa using h3,h4.set _ _ (by omega) (by omega),s2⟩,by omega,?_⟩;refine vk 1
  have ek:k=L.length:=by omega
  subst ek;have e1:nval ((cur.set L.length c).take (L.length+1))=nval a+nval b:=by
   rw[zBu,take_set,zJd _ _ _ _ (by omega),if_pos rfl,h5,Bq,AM (by omega),ev]
  rw[e1]
 all_goals omega
theorem nan_int(a:Int):Pure Ah 106 [.val (.int .i64 a)] [] (.val (.bool Ad)):=by
 refine zF zBe mixed Tryz.func106 rfl<|vAu<|vAe<|zE<|vre (True) (Al<|AP (a !=a)) (.inr rfl) (by simp)
abbrev q0_:=Al (Ap AA (-1))
abbrev q1_:=Al (Ap AA 1)
abbrev q2_:=Al (Ap AA 0)
theorem zY0(a b:Int):Pure Ah 66 [.val (.int .i64 a), .val (.int .i64 b)] [] (.val (.int .i64 (cmpD a b))):=by
 refine zF zBe mixed Tryz.func66 rfl ?_;focus
  refine vAu<|vA<|vrT 1<|vca [iD a] (by exact nan_int _)<|veT<|vA<|vrT 1<|vca [iD b] (by exact nan_int _)<|veT<|zA<|vAe<|vf<|vK<|zA<|vAe<|vf<|vK<|zA<|vAe<|vcD (a<b) (λhc=>?_)<|λhc=>?_;refine vAe<|zE<|zH<|vre (True) (q0_) (.inr rfl) ?_;rotate_left;refine vK<|zA<|vAe<|vcD (a>b) (λhc=>?_)<|λhc=>?_;refine vAe<|zE<|zH<|vre (True) (q1_) (.inr rfl) ?_;rotate_left;refine vK<|vAe<|zE<|vre (True) (q2_) (.inr rfl) ?_;rotate_left
 all_goals grind [cmpD]
theorem zN3(a:Int):Pure Ah 107 [.val (.int .u32 a)] [] (.val (.bool Ad)):=by
 refine zF zBe mixed Tryz.func107 rfl<|vAu<|vAe<|zE<|vre (True) (Al<|AP (a !=a)) (.inr rfl) (by simp)
theorem zV3(a b:Int):Pure Ah 67 [.val (.int .u32 a), .val (.int .u32 b)] [] (.val (.int .i64 (cmpD a b))):=by
 refine zF zBe mixed Tryz.func67 rfl ?_;focus
  refine vAu<|vA<|vrT 1<|vca [Al<|Ap A0 a] (by exact zN3 _)<|veT<|vA<|vrT 1<|vca [Al<|Ap A0 b] (by exact zN3 _)<|veT<|zA<|vAe<|vf<|vK<|zA<|vAe<|vf<|vK<|zA<|vAe<|vcD (a<b) (λhc=>?_)<|λhc=>?_;refine vAe<|zE<|zH<|vre (True) (q0_) (.inr rfl) ?_;rotate_left;refine vK<|zA<|vAe<|vcD (a>b) (λhc=>?_)<|λhc=>?_;refine vAe<|zE<|zH<|vre (True) (q1_) (.inr rfl) ?_;rotate_left;refine vK<|vAe<|zE<|vre (True) (q2_) (.inr rfl) ?_;rotate_left
 all_goals grind [cmpD]
theorem zSf(a:Int):Pure Ah 141 [.val (.int .i64 a)] [] (.val (.bool Ad)):=by
 refine zF zBe mixed Tryz.func141 rfl<|vAu<|vAe<|zE<|vre (True) (Al<|AP (a !=a)) (.inr rfl) (by simp)
theorem cmpo_int64(a b:Int):Pure Ah 127 [.val (.int .i64 a), .val (.int .i64 b)] [] (.val (.int .i64 (cmpD a b))):=by
 refine zF zBe mixed Tryz.func127 rfl ?_;focus
  refine vAu<|vA<|vrT 1<|vca [iD a] (by exact zSf _)<|veT<|vA<|vrT 1<|vca [iD b] (by exact zSf _)<|veT<|zA<|vAe<|vf<|vK<|zA<|vAe<|vf<|vK<|zA<|vAe<|vcD (a<b) (λhc=>?_)<|λhc=>?_;refine vAe<|zE<|zH<|vre (True) (q0_) (.inr rfl) ?_;rotate_left;refine vK<|zA<|vAe<|vcD (a>b) (λhc=>?_)<|λhc=>?_;refine vAe<|zE<|zH<|vre (True) (q1_) (.inr rfl) ?_;rotate_left;refine vK<|vAe<|zE<|vre (True) (q2_) (.inr rfl) ?_;rotate_left
 all_goals grind [cmpD]
set_option maxHeartbeats 2000000 in
theorem mul_c(a b:List Nat)(n m:Nat)(hn:a.length=n)(hm:b.length=m)(hl:n<=1000000)(hl':m<=1000000)(ha:Digs a)(hb:Digs b):Pure Ah 86 [.row (a.map dig) n, .row (b.map dig) m] [] (natD (nval a*nval b)):=by
 subst hn hm;have la:=zM2 ha;have lb:=zM2 hb;refine zF zBe mixed Tryz.func86 rfl<|vAu<|vA<|vrT 1<|vc (zFs a _ rfl ha)<|vrT 1<|vc (zFs b _ rfl hb)<|veT<|vA<|vr 6 (i6 ((Aa (dg<|nval a):Int)+(Aa (dg<|nval b):Int))/\(0:Int)<=(↑(Aa (dg<|nval a)+Aa (dg<|nval b)):Int)/\(↑(Aa (dg<|nval a)+Aa (dg<|nval b)):Int)<=(↑(Aa (dg<|nval a)+Aa (dg<|nval b)):Int)/\(↑(4:Nat):Int)*(↑(Aa (dg<|nval a)+Aa (dg<|nval b)):Int)<=(281474976710656:Int)/\(↑(Aa (dg<|nval a)+Aa (dg<|nval b)):Int)<=(281474976710656:Int)/\0<1/\1=1)<|vb 0 (Ao (repL (Aq (↑(Aa (dg<|nval a)+Aa (dg<|nval b)):Int)) [Al<|Ap A0 (0:Int)]) 36 1 Ab Ad<|kdOf Ad) (Ao (Ae dig<|Az (Aa (dg<|nval a)+Aa (dg<|nval b)) 0) 36 1 Ab Ad<|kdOf Ad) (hd:=by simp(disch:=omega) only[Bc,zP5])<|vrT 1<|vs 5 (Ai 0 0 (Aq (↑(Aa (dg<|nval a)+Aa (dg<|nval b)):Int)) (Aq (↑(Aa (dg<|nval a)+Aa (dg<|nval b)):Int)*1) Ab) (Ai 0 0 (Aa (dg<|nval a)+Aa (dg<|nval b)) (Aa (dg<|nval a)+Aa (dg<|nval b)) Ab)<|veT<|zA<|vAe<|zJ ?_;have ev:nval a*nval b=nval (dg (nval a))*nval (dg (nval b)):=by rw[zBz,zBz]
 rw[ev];have dA:Digs (dg (nval a)):=zB0 _;have dB:Digs (dg (nval b)):=zB0 _;generalize dg (nval a)=A at*;generalize dg (nval b)=B at*;refine zB4 (λ(i:Nat)(cur:List Nat)=>fr 71 [(0,digR A),(1,digR B),(4,nl),(5,Ai 0 0 (Aa A+Aa B) (Aa A+Aa B) Ab),(20,iD<|Aa A),(21,iD i)]) (λi cur=>[⟨cur.map dig,36,1,Ab,Ad,.plain⟩]) (λi cur=>A.length-i) (λi cur=>i<=A.length/\cur.length=A.length+B.length/\Digs cur/\(∀t,i+B.length<=t->cur.getD t 0=0)/\nval cur=nval (A.take i)*nval B) 0 (Az (A.length+B.length) 0) ?_ ?_ ?_
 ·refine⟨by simp,by simp,Cj _,λt _=>?_,?_⟩
  ·grind
  grind [zNl,nval]
 ·refine vk 1
 rintro i cur ⟨h1,h2,h3,h4,h5⟩;focus
  refine vAu<|zA<|vcD ((i:Int)<↑(Aa A)) (λhc=>?_)<|λhc=>?_;refine vKB<|vAe<|vAe<|zA<|vAe<|zJ ?_;rotate_left;refine vZ2<|vA<|vrT 1<|vcl [Am (As (Aa A+Aa B)<|Aj 0<|Ae dig cur) (Aa A+Aa B)] [Am (Ae dig<|As (Aa A+Aa B) cur) (Aa A+Aa B)] (LeL.of_eq (by simp(disch:=omega) only[AS,zHt])) (by exact zFs _ _ (by simp;omega) (h3.take _))<|veT<|zE<|vre (True) (natD<|nval<|As (Aa A+Aa B) cur) (.inr rfl) ?_;rotate_left
 ·refine zC2 (λ(j:Nat)(c:Nat)(cur':List Nat)=>fr 71 [(0,digR A),(1,digR B),(4,nl),(5,Ai 0 0 (Aa A+Aa B) (Aa A+Aa B) Ab),(6,iD (i:Int)),(7,Al<|Ap AL (c:Int)),(20,iD (Aa A:Int)),(21,iD (i:Int)),(25,iD (Aa B:Int)),(26,iD (j:Int))]) (λj c cur'=>[⟨cur'.map dig,36,1,Ab,Ad,.plain⟩]) (λj c cur'=>B.length-j) (λj c cur'=>j<=B.length/\c<4294967296/\zTp A B i j c cur') 0 0 cur ?_ ?_ ?_
  ·grind [mul_start]
  ·refine vk 1
  rintro j c cur' ⟨k1,k2,k3⟩;have hx:=dA i;have hy:=dB j;have hz:=k3.2.1 (i+j);have hw:=k3.1;obtain⟨b1,b2,b3⟩:=mul_bound hx hy k2 hz;focus
   refine vAu<|zA<|vcD ((j:Int)<↑(Aa B)) (λhc=>?_)<|λhc=>?_;refine vKB<|vAe<|zA<|vd [0,1,2,3,6,7,8,12,13,14,15,16,4,5,9,10,11,17,18,19,20,21]<|vr 4 (ix ↑i ↑(Aa A) (Ae dig A≠[])) (vp 32 i (Ae dig A)<|vr 3 (ix ↑j ↑(Aa B) (Ae dig B≠[])) (vp 37 j (Ae dig B) ?_) ⟨(by omega),⟨(by omega),(by exact zAc)⟩⟩) ⟨(by omega),⟨(by omega),(by exact zAc)⟩⟩;refine vr 5 (i6 ((i:Int)+(j:Int))/\(0:Int)<=(↑(i+j):Int)/\(↑(i+j):Int)<(↑(Aa A+Aa B):Int))<|vo 45 0 (i+j)<|vr 1 (0<Aa (Aj i<|Ae dig A))<|vs 33 (AG (Aj i<|Ae dig A) Uk) (dig<|Af A i 0) (hd:=by simp(disch:=omega) only[zBx])<|vr 2 (u6 (↑(Af A i 0):Int)/\0<Aa (Aj j<|Ae dig B))<|vs 38 (AG (Aj j<|Ae dig B) Uk) (dig<|Af B j 0) (hd:=by simp(disch:=omega) only[zBx])<|vr 3 (u6 (↑(Af B j 0):Int)/\u6 ((↑(Af A i 0):Int)*(↑(Af B j 0):Int))/\0<Aa (Aj (i+j)<|Ae dig cur'))<|vs 46 (AG (Aj (i+j)<|Ae dig cur') Uk) (dig<|Af cur' (i+j) 0) (hd:=by simp(disch:=omega) only[zBx])<|ve (u6 (↑(Af cur' (i+j) 0):Int)/\u6 ((↑(Af A i 0*Af B j 0):Int)+(↑(Af cur' (i+j) 0):Int))/\u6 ((c:Int)+(↑(Af A i 0*Af B j 0+Af cur' (i+j) 0):Int)))<|vA<|vw 7 [55] [] (i6 ((i:Int)+(j:Int))/\True/\(0:Int)<=(↑(i+j):Int)/\(↑(i+j):Int)<(↑(Aa A+Aa B):Int))<|vo 56 0 (i+j)<|vr 1 (ac_ (i+j+1<=Aa (Ae dig cur')/\¬0∈[]))<|vb 0 (Ao (setAt (Ae dig cur') (i+j)<|cellsOf<|dig ((c+(Af A i 0*Af B j 0+Af cur' (i+j) 0))%4294967296)) 36 1 Ab Ad Au) (Ao (Ae dig<|AJ cur' (i+j) ((c+(Af A i 0*Af B j 0+Af cur' (i+j) 0))%4294967296)) 36 1 Ab Ad Au) (hd:=by simp(disch:=omega) only[cellsOf,setAt,zF0])<|veT<|zB rfl<|vr 2 ((0:Int)<=(32:Int))<|vs 58 (Al<|Ap AL<|A1 (↑(c+(Af A i 0*Af B j 0+Af cur' (i+j) 0)):Int) ((2:Int)^32)) (Al<|Ap AL (↑((c+(Af A i 0*Af B j 0+Af cur' (i+j) 0))/4294967296):Int)) (hd:=by simp(disch:=omega) only[zJ9])<|vrT 1<|vnil<|zD<|vN<|zB rfl<|vr 2 (i6 (↑j+1))<|vnil<|zC ?_;rotate_left;refine vZ2<|zB rfl<|vr 8 (i6 ((i:Int)+(Aa B:Int))/\u3 (c:Int)/\(0:Int)<=(↑(i+Aa B):Int)/\(↑(i+Aa B):Int)<(↑(Aa A+Aa B):Int))<|vo 67 0 (i+Aa B)<|vr 1 (ac_ (i+Aa B+1<=Aa (Ae dig cur')/\¬0∈[]))<|vb 0 (Ao (setAt (Ae dig cur') (i+Aa B)<|cellsOf<|dig c) 36 1 Ab Ad Au) (Ao (Ae dig<|AJ cur' (i+Aa B) c) 36 1 Ab Ad Au) (hd:=by simp(disch:=omega) only[cellsOf,setAt,zF0])<|vnil<|zD<|vN<|zB rfl<|vr 2 (i6 (↑i+1))<|vnil<|zC ?_;rotate_left
  ·refine⟨j+1,(c+(A.getD i 0*B.getD j 0+cur'.getD (i+j) 0))/4294967296,cur'.set (i+j) ((c+(A.getD i 0*B.getD j 0+cur'.getD (i+j) 0))%4294967296),⟨by omega,b3,mul_step (by omega) (by omega) k3⟩,by omega,?_⟩;refine vk 1
  have ej:j=B.length:=by omega
  subst ej;obtain⟨m1,m2,m3,m4⟩:=mul_end (by omega) k2 k3;refine⟨i+1,cur'.set (i+B.length) c,⟨by omega,m1,m2,m3,m4⟩,by omega,?_⟩;refine vk 1
 grind
theorem cmp_c(a b:List Nat)(n m:Nat)(hn:a.length=n)(hm:b.length=m)(hl:n<=1000000)(hl':m<=1000000)(ha:Digs a)(hb:Digs b):Pure Ah 27 [.row (a.map dig) n, .row (b.map dig) m] [] (.val (.int .i64 (cmpD (nval a) (nval b)))):=by
 subst hn hm;have la:=zM2 ha;have lb:=zM2 hb;refine zF zBe mixed Tryz.func27 rfl ?_;focus
  refine vAu<|vA<|vrT 1<|vc (zFs a _ rfl ha)<|vrT 1<|vc (zFs b _ rfl hb)<|veT<|zA<|vAe<|zA5 (t:=(Aa (dg (nval a)):Int)!=(Aa (dg (nval b)):Int)) (by kernel_rfl) (λhc=>?_)<|λhc=>?_;simp only[bne_iff_ne]at hc;refine vA<|vrT 4<|vca [iD (Aa (dg<|nval a):Int),iD (Aa (dg<|nval b):Int)] (by exact zY0 _ _)<|veT<|zE<|zH<|vre (True) (Al<|Ap AA<|cmpD (Aa (dg<|nval a):Int) (Aa (dg<|nval b):Int)) (.inr rfl) ?_;rotate_left;simp only[bne_eq_false_iff_eq]at hc;refine vK<|zA<|vA<|ve (i6 ((Aa (dg<|nval a):Int)-(1:Int)))<|zJ ?_;rotate_left
 ·congr 2;grind [zSc,nval,zBz,cmpD_eq,Normal.lt_of_length,zB0]
 have ev:cmpD (nval a) (nval b)=cmpD (nval (dg (nval a))) (nval (dg (nval b))):=by rw[zBz,zBz]
 rw[ev];have dA:Digs (dg (nval a)):=zB0 _;have dB:Digs (dg (nval b)):=zB0 _;generalize dg (nval a)=A at*;generalize dg (nval b)=B at*;refine zK (λ(n:Nat)=>fr 45 [(0,digR A),(1,digR B),(5,iD (↑n-1))]) (λ_=>[]) (λn=>n) (λn=>n<=A.length/\A.drop n=B.drop n) A.length ?_ ?_ ?_
 ·exact⟨Ar _,by rw[Ck,BT (by omega)]⟩
 ·refine vk 0
 rintro n ⟨h1,h2⟩;focus
  refine zA<|vAu<|vcD ((n:Int)-(1:Int)>=(0:Int)) (λhc=>?_)<|λhc=>?_;refine vKB<|zA<|vd [0,1,2,4,5,6,3,7,8]<|vrT 2<|vs 28 (iD (↑n-1)) (iD ↑(n-1)) (hd:=by simp(disch:=omega) only[zC1])<|vr 1 (ix ↑(n-1) ↑(Aa A) (Ae dig A≠[])) (vp 29 (n-1) (Ae dig A)<|vrT 2<|vs 32 (iD (↑n-1)) (iD ↑(n-1)) (hd:=by simp(disch:=omega) only[zC1])<|vr 1 (ix ↑(n-1) ↑(Aa B) (Ae dig B≠[])) ?_ ⟨(by omega),⟨(by omega),(by exact zAc)⟩⟩) ⟨(by omega),⟨(by omega),(by exact zAc)⟩⟩;refine vp 33 (n-1) (Ae dig B)<|vr 1 (0<Aa (Aj (n-1)<|Ae dig A))<|vs 30 (AG (Aj (n-1)<|Ae dig A) Uk) (dig<|Af A (n-1) 0) (hd:=by simp(disch:=omega) only[zBx])<|vr 1 (0<Aa (Aj (n-1)<|Ae dig B))<|vs 34 (AG (Aj (n-1)<|Ae dig B) Uk) (dig<|Af B (n-1) 0) (hd:=by simp(disch:=omega) only[zBx])<|veT<|zA5 (t:=(↑(Af A (n-1) 0):Int)!=(↑(Af B (n-1) 0):Int)) (by kernel_rfl) (λhc=>?_)<|λhc=>?_;simp only[bne_iff_ne]at hc;refine zA<|vd [0,1,2,4,5,6,3,7,8,9]<|vrT 2<|vs 37 (iD (↑n-1)) (iD ↑(n-1)) (hd:=by simp(disch:=omega) only[zC1])<|vr 1 (ix ↑(n-1) ↑(Aa A) (Ae dig A≠[])) (vp 38 (n-1) (Ae dig A)<|vrT 2<|vs 41 (iD (↑n-1)) (iD ↑(n-1)) (hd:=by simp(disch:=omega) only[zC1])<|vr 1 (ix ↑(n-1) ↑(Aa B) (Ae dig B≠[])) (vp 42 (n-1) (Ae dig B)<|vr 1 (0<Aa (Aj (n-1)<|Ae dig A))<|vs 39 (AG (Aj (n-1)<|Ae dig A) Uk) (dig<|Af A (n-1) 0) (hd:=by simp(disch:=omega) only[zBx])<|vr 1 (0<Aa (Aj (n-1)<|Ae dig B))<|vs 43 (AG (Aj (n-1)<|Ae dig B) Uk) (dig<|Af B (n-1) 0) (hd:=by simp(disch:=omega) only[zBx]) ?_) ⟨(by omega),⟨(by omega),(by exact zAc)⟩⟩) ⟨(by omega),⟨(by omega),(by exact zAc)⟩⟩;refine vca [dig<|Af A (n-1) 0,dig<|Af B (n-1) 0] (by exact zV3 _ _)<|veT<|zE<|zL<|zH<|zH<|zL<|zH<|vre (True) (Al<|Ap AA<|cmpD (↑(Af A (n-1) 0):Int) (↑(Af B (n-1) 0):Int)) (.inr rfl) ?_;rotate_left;simp only[bne_eq_false_iff_eq]at hc;refine zT<|zD<|vN<|zB rfl<|vrT 1<|vs 25 (iD (↑n-1)) (iD ↑(n-1)) (hd:=by simp(disch:=omega) only[zC1])<|vr 2 (i6 (↑(n-1)-1))<|vnil<|zC ?_;rotate_left;refine vZ2<|vAe<|zE<|vre (True) (q2_) (.inr rfl) ?_;rotate_left
 ·have h3:A.drop (n-1+1)=B.drop (n-1+1):=by rw[show n-1+1=n by omega];exact h2
  congr 2;grind [cmpD_eq,zKy]
 ·refine⟨n-1,⟨by omega,?_⟩,by omega,?_⟩
  ·grind [zS5]
  refine vk 0
 have e0:n=0:=by omega
 grind [cmpD]
theorem zZq:(Cl #[]).toList=[]:=by rw[Co]
theorem str_empty(l:List UInt8):(l==[])=l.isEmpty:=by cases l<;>rfl
theorem zWv(v:Va):Pure Ah 83 [vaD v] [] (bD (vok v)):=by
 refine zF zBe mixed Tryz.func83 rfl ?_;focus
  refine vAu<|zA<|vA<|ve (True/\0<3)<|zJ<|vAe<|zA5 (t:=Va.kind v==(1:Int)) (by kernel_rfl) (λhc=>?_)<|λhc=>?_;simp only[beq_iff_eq]at hc;refine vA<|vr 3 (True/\0<1/\True)<|vs 9 (bD (ByteArray.toList (bs<|Va.str v)==ByteArray.toList (Cl #[]))) (bD (Va.str v==[])) (hd:=by simp(disch:=omega) only[zNc,zZq])<|veT<|zE<|zL<|zH<|vre (True) (Al<|AP (Va.str v==[])) (.inr rfl) ?_;rotate_left;simp only[beq_eq_false_iff_ne]at hc;refine vAe<|zA5 (t:=Va.kind v==(2:Int)) (by kernel_rfl) (λhc=>?_)<|λhc=>?_;simp only[beq_iff_eq]at hc;refine vA<|vr 4 (ag_)<|vsp 15 (Va.int v==(0:Int)) (λhc=>?_)<|λhc=>?_;simp only[beq_iff_eq]at hc;refine ve (True/\0<1)<|zE<|zL<|zH<|vre (True) (Al<|AP<|decide ((Aa (Va.str v):Int)<=(24:Int))) (.inr rfl) ?_;rotate_left;simp only[beq_eq_false_iff_ne]at hc;refine veT<|zE<|zL<|zH<|vre (True) (Al<|AP Ad) (.inr rfl) ?_;rotate_left;simp only[beq_eq_false_iff_ne]at hc;refine zT<|zD<|vN<|vAe<|zE<|vre (True) (Al<|AP Ad) (.inr rfl) ?_;rotate_left
 ·grind [str_empty,vok]
 ·congr 2;grind [vok]
 all_goals grind [vok]
theorem zDt(a b:Va):Pure Ah 103 [vaD a,vaD b] [] (iD (vcmp a b)):=by
 refine zF zBe mixed Tryz.func103 rfl ?_;focus
  refine vAu<|zA<|vA<|ve (True/\0<3/\True/\0<3/\True)<|zA5 (t:=Va.kind a !=Va.kind b) (by kernel_rfl) (λhc=>?_)<|λhc=>?_;simp only[bne_iff_ne]at hc;refine vA<|vr 4 (True/\0<3/\True/\0<3)<|vca [iD<|Va.kind a,iD<|Va.kind b] (by exact zY0 _ _)<|veT<|zE<|zH<|vre (True) (Al<|Ap AA<|cmpD (Va.kind a)<|Va.kind b) (.inr rfl) ?_;rotate_left;simp only[bne_eq_false_iff_eq]at hc;refine vK<|zA<|vA<|ve (True/\0<2/\True/\0<2/\True)<|zA5 (t:=Va.int a !=Va.int b) (by kernel_rfl) (λhc=>?_)<|λhc=>?_;simp only[bne_iff_ne]at hc;refine vA<|vr 4 (True/\0<2/\True/\0<2)<|vca [iD<|Va.int a,iD<|Va.int b] (by exact cmpo_int64 _ _)<|veT<|zE<|zH<|vre (True) (Al<|Ap AA<|cmpD (Va.int a)<|Va.int b) (.inr rfl) ?_;rotate_left;simp only[bne_eq_false_iff_eq]at hc;refine vK<|vA<|vr 4 (True/\0<1/\True/\0<1)<|vca [Al<|Bh<|bs<|Va.str a,Al<|Bh<|bs<|Va.str b] (by exact scmp_c _ _)<|veT<|zE<|vre (True) (Al<|Ap AA<|AC (Va.str a)<|Va.str b) (.inr rfl) ?_;rotate_left
 all_goals simp [vcmp, *]
theorem zC3(r:List Va)(i:Nat)(h:i<r.length:=by omega):3<=(Aj (i*3) (zG r)).length:=by
 grind [Cb,zAg]
theorem all_step(p:α->Bool)(d:α)(l:List α)(i:Nat)(h:i<l.length):(l.take (i+1)).all p=((l.take i).all p&&p (l.getD i d)):=by
 grind [AY,AE]
set_option maxHeartbeats 1000000 in
theorem rvalid_c(r:List Va)(n:Nat)(hn:r.length=n)(hl:n<=1000000000):Pure Ah 122 [.row (zG r) n] [] (bD (r.all vok)):=by
 subst hn;refine zF zBe mixed Tryz.func122 rfl<|vAu<|zA<|vAe<|zJ<|zK (λ(i:Nat)=>fr 16 [(0,Am (zG r)<|Aa r),(5,iD (Aa r:Int)),(6,iD (i:Int))]) (λ_=>[]) (λi=>r.length-i) (λi=>i<=r.length/\(r.take i).all vok=Ab) 0 ?_ ?_ ?_
 ·grind
 ·refine vk 0
 rintro i ⟨h1,h2⟩;focus
  refine vAu<|zA<|vcD ((i:Int)<↑(Aa r)) (λhc=>?_)<|λhc=>?_;refine vKB<|vAe<|vA<|vr 4 (ix ↑i ↑(Aa r) (zG r≠[])/\3<=Aa (Aj (i*3)<|zG r)) (vs 12 (AF<|As 3<|Aj (i*3)<|zG r) (AF<|vaC<|Af r i Ak) (hd:=by simp(disch:=omega) only[zB5])<|vca [AF [iD<|Va.kind<|Af r i Ak,iD<|Va.int<|Af r i Ak,Al<|Bh<|bs<|Va.str<|Af r i Ak]] (by exact zWv _)<|veT ?_) ⟨⟨(by omega),⟨(by omega),(by exact zE4 _)⟩⟩,(by exact zC3 _ _)⟩;refine zA5 (t:=!vok (Af r i Ak)) (by kernel_rfl) (λhc=>?_)<|λhc=>?_;simp only[Bn]at hc;refine vAe<|zE<|zL<|zH<|zH<|zL<|zH<|vre (True) (Al<|AP Ad) (.inr rfl) ?_;rotate_left;simp only[Bool.not_eq_false']at hc;refine zT<|zD<|vN<|zB rfl<|vr 2 (i6 (↑i+1))<|vnil<|zC ?_;rotate_left;refine vZ2<|vAe<|zE<|vre (True) (Al<|AP Ab) (.inr rfl) ?_;rotate_left
 ·grind
 ·refine⟨i+1,⟨by omega,?_⟩,by omega,?_⟩
  ·grind [all_step,vok]
  refine vk 0
 grind
def zL4:List Va->List Va->List Bool->Int
 |[],[],_=>0
 |[],_::_,_=>-1
 |_::_,[],_=>1
 |a::r,b::s,ds=>if vcmp a b=0 then zL4 r s ds.tail else if ds.headD Ad then-vcmp a b else vcmp a b
theorem zR5:∀(a b:List Va),zL4 a b []=rcmp a b
 |[],[]=>rfl
 |[],_::_=>rfl
 |_::_,[]=>rfl
 |a::r,b::s=>by simp only[zL4,rcmp,List.tail_nil,List.headD_nil,AR,if_false];rw[zR5 r s]
theorem zJr:∀(i:Nat)(a b:List Va)(ds:List Bool),i<=a.length->i<=b.length->a.take i=b.take i->zL4 a b ds=zL4 (a.drop i) (b.drop i) (ds.drop i)
 |0,_,_,_,_,_,_=>rfl
 |i+1,[],b,_,h,_,_=>by simp at h
 |i+1,_::_,[],_,_,h,_=>by simp at h
 |i+1,x::a,y::b,ds,h1,h2,h3=>by
  simp only[List.take_succ_cons,List.cons.injEq]at h3;obtain⟨rfl,h3⟩:=h3;rw[zL4,if_pos ((zAy x x).2.1.2 rfl),zJr i a b ds.tail (by simpa using h1) (by simpa using h2) h3];cases ds<;>simp
theorem zP8(i:Nat)(a b:List Va)(ds:List Bool)(ha:i<a.length)(hb:i<b.length)(h:a.take i=b.take i)(hv:vcmp (a.getD i Ak) (b.getD i Ak)≠0):zL4 a b ds=if ds.getD i Ad then-vcmp (a.getD i Ak) (b.getD i Ak)else vcmp (a.getD i Ak) (b.getD i Ak):=by
 rw[zJr i a b ds (by omega) (by omega) h,Bs ha,Bs hb];simp only[AX,AE ha,AE hb,BU]at hv⊢;grind [zL4,List.head?_drop]
theorem headD_bl(l:List Bool)(k:Nat)(h:k<l.length):((l.map bD).drop k).headD .unk=bD (l.getD k Ad):=zAq bD l Ad k h
theorem rcmp_end(a b:List Va)(i:Nat)(ds:List Bool)(ha:i<=a.length)(hb:i<=b.length)(h:a.take i=b.take i)(he:i=a.length\/i=b.length):zL4 a b ds=if a.length<b.length then-1 else if a.length>b.length then 1 else 0:=by
 rw[zJr i a b ds ha hb h];rcases he with rfl|rfl
 ·rw[Ck];cases hc:b.drop a.length with
  |nil=>
   have:=congrArg Aa hc
   simp at this;rw[if_neg (by omega),if_neg (by omega)];rfl
  |cons x r=>
   have:=congrArg Aa hc
   simp at this;rw[if_pos (by omega)];rfl
 rw[Ck];cases hc:a.drop b.length with
 |nil=>
  have:=congrArg Aa hc
  simp at this;rw[if_neg (by omega),if_neg (by omega)];rfl
 |cons x r=>
  have:=congrArg Aa hc
  simp at this;rw[if_neg (by omega),if_pos (by omega)];rfl
set_option maxHeartbeats 2000000 in
theorem zR2(a b:List Va)(ds:List Bool)(n m k:Nat)(hn:a.length=n)(hm:b.length=m)(hk:ds.length=k)(ln:n<=1000000000)(lm:m<=1000000000)(lk:k<=1000000000):Pure Ah 137 [.row (zG a) n, .row (zG b) m, .row (ds.map bD) k] [] (iD (zL4 a b ds)):=by
 subst hn hm hk;refine zF zBe mixed Tryz.func137 rfl<|vAu<|zA<|vAe<|zJ<|zK (λ(i:Nat)=>fr 54 [(0,Am (zG a)<|Aa a),(1,Am (zG b)<|Aa b),(2,Am (Ae bD ds)<|Aa ds),(13,iD (if(Aa b:Int)<(Aa a:Int)then(Aa b:Int)else(Aa a:Int))),(14,iD (i:Int))]) (λ_=>[]) (λi=>a.length-i) (λi=>i<=a.length/\i<=b.length/\a.take i=b.take i) 0 ?_ ?_ ?_
 ·grind
 ·refine vk 0
 rintro i ⟨h1,h2,h3⟩;have hv:=(zAy (a.getD i Ak) (b.getD i Ak)).1;focus
  refine vAu<|zA<|vcD ((i:Int)<if(Aa b:Int)<(Aa a:Int)then(Aa b:Int)else(Aa a:Int)) (λhc=>?_)<|λhc=>?_;refine vKB<|vAe<|zA<|vd [0,1,2,4,5,6,3,7,8,9]<|vr 7 (ix ↑i ↑(Aa a) (zG a≠[])/\ix ↑i ↑(Aa b) (zG b≠[])/\3<=Aa (Aj (i*3)<|zG a)) (vs 20 (AF<|As 3<|Aj (i*3)<|zG a) (AF<|vaC<|Af a i Ak) (hd:=by simp(disch:=omega) only[zB5])<|vr 1 (3<=Aa (Aj (i*3)<|zG b)) (vs 24 (AF<|As 3<|Aj (i*3)<|zG b) (AF<|vaC<|Af b i Ak) (hd:=by simp(disch:=omega) only[zB5]) ?_) (by exact zC3 _ _)) ⟨⟨(by omega),⟨(by omega),(by exact zE4 _)⟩⟩,⟨(by omega),⟨(by omega),(by exact zE4 _)⟩⟩,(by exact zC3 _ _)⟩;refine vca [AF [iD<|Va.kind<|Af a i Ak,iD<|Va.int<|Af a i Ak,Al<|Bh<|bs<|Va.str<|Af a i Ak],AF [iD<|Va.kind<|Af b i Ak,iD<|Va.int<|Af b i Ak,Al<|Bh<|bs<|Va.str<|Af b i Ak]] (by exact zDt _ _)<|veT<|zA<|vAe<|zA5 (t:=vcmp (Af a i Ak) (Af b i Ak)==(0:Int)) (by kernel_rfl) (λhc=>?_)<|λhc=>?_;simp only[beq_iff_eq]at hc;refine vZ<|zB rfl<|vr 2 (i6 (↑i+1))<|vnil<|zC ?_;rotate_left;simp only[beq_eq_false_iff_ne]at hc;refine vK<|zA<|vA<|vrT 5<|vspD 32 ((i:Int)<↑(Aa ds)) (λhc=>?_)<|λhc=>?_;refine vr 3 (ix ↑i ↑(Aa ds) (Ae bD ds≠[])) (vp 35 i (Ae bD ds)<|vr 1 (0<Aa (Aj i<|Ae bD ds))<|vs 36 (AG (Aj i<|Ae bD ds) Uk) (bD<|Af ds i Ad) (hd:=by simp(disch:=omega) only[headD_bl])<|veT ?_) ⟨(by omega),⟨(by omega),(by exact zAc)⟩⟩;refine zA5 (t:=Af ds i Ad) (by kernel_rfl) (λhc=>?_)<|λhc=>?_;refine vA<|ve (i6 ((0:Int)-vcmp (Af a i Ak) (Af b i Ak)))<|zE<|zH<|zL<|zH<|zH<|zL<|zH<|vre (True) (Al<|Ap AA ((0:Int)-vcmp (Af a i Ak) (Af b i Ak))) (.inr rfl) ?_;rotate_left;refine vK<|vAe<|zE<|zL<|zH<|zH<|zL<|zH<|vre (True) (Al<|Ap AA<|vcmp (Af a i Ak)<|Af b i Ak) (.inr rfl) ?_;rotate_left;refine veT<|vf<|vK<|vAe<|zE<|zL<|zH<|zH<|zL<|zH<|vre (True) (Al<|Ap AA<|vcmp (Af a i Ak)<|Af b i Ak) (.inr rfl) ?_;rotate_left;refine vZ2<|vB<|vAe<|vcD ((Aa a:Int)<(Aa b:Int)) (λhc=>?_)<|λhc=>?_;refine vAe<|zE<|zL<|zH<|vre (True) (q0_) (.inr rfl) ?_;rotate_left;refine vAe<|vcD ((Aa a:Int)>(Aa b:Int)) (λhc=>?_)<|λhc=>?_;refine vAe<|zE<|zL<|zH<|vre (True) (q1_) (.inr rfl) ?_;rotate_left;refine zT<|zD<|vN<|vAe<|zE<|vre (True) (q2_) (.inr rfl) ?_;rotate_left
 ·refine⟨i+1,⟨by omega,by omega,?_⟩,by omega,?_⟩
  ·grind [zKh]
  refine vk 0
 ·grind [zP8,Int.zero_sub]
 ·grind [zP8]
 ·rw[zP8 i a b ds (by omega) (by omega) h3 (by assumption),if_neg];grind
 all_goals grind [rcmp_end]
theorem zJq(a b:List Va)(n m:Nat)(hn:a.length=n)(hm:b.length=m)(ln:n<=1000000000)(lm:m<=1000000000):Pure Ah 120 [.row (zG a) n, .row (zG b) m] [] (iD (rcmp a b)):=by
 refine zF zBe mixed Tryz.func120 rfl<|vAu<|vA<|vrT 2<|vcl [Am (zG a) n,Am (zG b) m,nl] [Am (zG a) n,Am (zG b) m,Am [] 0] (LeL.trans (LeL.refl _)<|LeL.cons (LeD.refl _)<|LeL.cons (LeD.refl _)<|LeL.cons LeD.nil_row LeL.nil) (by exact zR2 a b [] _ _ 0 hn hm rfl ln lm (by omega))<|veT<|zE<|vre (True) (Al<|Ap AA<|zL4 a b []) (.inr rfl) ?_;rw[zR5]
theorem zFb(a b:List Va)(n m:Nat)(hn:a.length=n)(hm:b.length=m)(ln:n<=1000000000:=by omega)(lm:m<=1000000000:=by omega):Pure Ah 99 [.row (zG a) n, .row (zG b) m] [] (bD (decide (a=b))):=by
 refine zF zBe mixed Tryz.func99 rfl<|vAu<|vA<|vrT 2<|vc (zJq a b _ _ hn hm ln lm)<|veT<|zE<|vre (True) (Al<|AP (rcmp a b==(0:Int))) (.inr rfl) ?_;congr 2;rw[Bool.eq_iff_iff];simp[(zBq a b).2.1]
abbrev vaB(l:List Va):Bk:=⟨zG l,64,3,Ab,Ad, .plain⟩
theorem repL_va(n:Nat):repL n [.val (.int .i64 0), .val (.int .i64 0), .val (.string ⟨#[]⟩)]=zG (Az n ⟨0,0,[]⟩):=by
 induction n with
 |zero=>rfl
 |succ n ih=>simp only[repL,By,BR]at ih⊢;rw[ih];rfl
def zM(r:List Va)(cols:List Nat):List Va:=cols.map λc=>r.getD c Ak
theorem set3_va(r:List Va)(i:Nat)(v:Va)(h:i<r.length):(((zG r).set (i*3) (iD v.kind)).set (i*3+1) (iD v.int)).set (i*3+1+1) (strD v.str)=zG (r.set i v):=zPj r i v h
theorem zFy(r:List Va)(n:Nat)(h:r.length=n):(zG r).take (n*3)=zG r:=by grind [AM,zAg]
theorem zGn:kdOf Ad= .plain:=rfl
theorem set_step{a b:List α}(d:α)(ha:i<a.length)(hb:i<b.length)(h:a.take i=b.take i):(a.set i (b.getD i d)).take (i+1)=b.take (i+1):=by
 rw[AY (by simpa using ha),AY hb,List.take_set_of_le (Ar _),h,List.getElem_set_self,AX,AE hb];rfl
theorem zZz(r:List Va)(cols:List Nat)(i:Nat)(h:i<cols.length):(zM r cols).getD i Ak=r.getD (cols.getD i 0) default:=by
 simp only[zM,AX,Cf,AE h,Bz,BU]
abbrev q3_(x0:List Va):=Am (zG x0) (Aa x0)
set_option maxHeartbeats 2000000 in
theorem zZv(r:List Va)(cols:List Nat)(n m:Nat)(hn:r.length=n)(hm:cols.length=m)(ln:n<=1000000000)(lm:m<=100000)(hc:∀c∈cols,c<r.length):Pure Ah 143 [.row (zG r) n, .row (cols.map λc=>iD (c:Nat)) m] [] (.tup [.row (zG (zM r cols)) m,iD 0]):=by
 subst hn hm;have hci:∀i,i<cols.length->cols.getD i 0<r.length:=λi h=>by
  simp_all
 have hd:∀i,i<cols.length->((cols.map λc=>iD ((c:Nat):Int)).drop i).headD .unk=iD (cols.getD i 0:Nat):=λi h=>zAq (λc:Nat=>iD (c:Int)) cols 0 i h;refine zF zBe mixed Tryz.func143 rfl<|vAu<|zA<|vAe<|zJ<|zK (λ(i:Nat)=>fr 49 [(0,Am (zG r)<|Aa r),(1,Am (Ae (λ(c:Nat)=>iD (c:Int)) cols)<|Aa cols),(10,iD (Aa cols:Int)),(11,iD (i:Int))]) (λ_=>[]) (λi=>cols.length-i) (λi=>i<=cols.length) 0 ?_ ?_ ?_
 ·omega
 ·refine vk 0
 rintro i h1;have hi:=hci i;focus
  refine vAu<|zA<|vcD ((i:Int)<↑(Aa cols)) (λhc=>?_)<|λhc=>?_;refine vKB<|vAe<|vA<|vr 3 (ix ↑i ↑(Aa cols) (Ae (λ(c:Nat)=>iD c) cols≠[])) (vp 16 i (Ae (λ(c:Nat)=>iD c) cols)<|vr 1 (0<Aa (Aj i<|Ae (λ(c:Nat)=>iD c) cols))<|vs 17 (AG (Aj i<|Ae (λ(c:Nat)=>iD c) cols) Uk) (iD ↑(Af cols i 0)) ?_) ⟨(by omega),⟨(by omega),(by exact zAc)⟩⟩;refine vw 5 [] [(5,Ad)] (decide ((↑(Af cols i 0):Int)<0)=Ad/\ix ↑i ↑(Aa cols) (Ae (λ(c:Nat)=>iD c) cols≠[])) (vp 22 i (Ae (λ(c:Nat)=>iD c) cols)<|vr 1 (0<Aa (Aj i<|Ae (λ(c:Nat)=>iD c) cols))<|vs 23 (AG (Aj i<|Ae (λ(c:Nat)=>iD c) cols) Uk) (iD ↑(Af cols i 0))<|veT<|vF ((↑(Af cols i 0):Int)>=(Aa r:Int))<|zT<|zD<|vN<|zB rfl<|vr 2 (i6 (↑i+1))<|vnil<|zC ?_) ⟨(by kernel_rfl),⟨(by omega),⟨(by omega),(by exact zAc)⟩⟩⟩;rotate_left;refine vZ2<|vA<|ve ((0:Int)<=(Aa cols:Int)/\(Aa cols:Int)<=(Aa cols:Int)/\(↑(32:Nat):Int)*(Aa cols:Int)<=(281474976710656:Int)/\(Aa cols:Int)<=(281474976710656:Int)/\0<3/\3=3)<|zA<|vAe<|zJ ?_;rotate_left
 ·refine⟨i+1,by omega,by omega,?_⟩;refine vk 0
 refine zB4 (λ(i:Nat)(cur:List Va)=>fr 49 [(0,(q3_ r)),(1,Am (Ae (λ(c:Nat)=>iD c) cols)<|Aa cols),(7,Ai 0 0 (Aa cols) (Aa cols*3) Ab),(33,iD<|Aa cols),(34,iD i)]) (λi cur=>[vaB cur]) (λi cur=>cols.length-i) (λi cur=>i<=cols.length/\cur.length=cols.length/\cur.take i=(zM r cols).take i) 0 (Az cols.length<|Va.mk 0 0 []) ?_ ?_ ?_
 ·grind
 ·refine wkn (fr 49 [(0,Am (zG r) (Aa r)),(1,Am (Ae (λ(c:Nat)=>iD (↑c:Int)) cols) (Aa cols)),(7,Ai 0 0 (Aa cols) (Aa cols*3) Ab),(33,iD (↑(Aa cols):Int)),(34,iD 0)]) [Ao (repL (Aa cols) [iD 0,iD 0,Al (Bh (Cl #[]))]) 64 3 Ab Ad (kdOf Ad)] (zE3 [(0,1),(1,1),(7,1),(33,1),(34,1)] (Am (zG r) (Aa r)=Am (zG r) (Aa r)/\Am (Ae (λ(c:Nat)=>iD (↑c:Int)) cols) (Aa cols)=Am (Ae (λ(c:Nat)=>iD (↑c:Int)) cols) (Aa cols)/\Ai 0 0 (Aa cols) (Aa cols*3) Ab=Ai 0 0 (Aa cols) (Aa cols*3) Ab/\iD (↑(Aa cols):Int)=iD (↑(Aa cols):Int)/\iD 0=iD (↑(0:Nat):Int)) 1 [] (by kernel_rfl) ⟨rfl,rfl,rfl,rfl,(by kernel_rfl)⟩ (by kernel_rfl) (λ_ _=>rfl) (by simp[updB,repL_va,zGn]))
 rintro j cur ⟨k1,k2,k3⟩;have hj:=hci j;focus
  refine vAu<|zA<|vcD ((j:Int)<↑(Aa cols)) (λhc=>?_)<|λhc=>?_;refine vKB<|vAe<|zB rfl<|vr 6 (ix ↑j ↑(Aa cols) (Ae (λ(c:Nat)=>iD c) cols≠[])) (vp 42 j (Ae (λ(c:Nat)=>iD c) cols)<|vr 1 (0<Aa (Aj j<|Ae (λ(c:Nat)=>iD c) cols))<|vs 43 (AG (Aj j<|Ae (λ(c:Nat)=>iD c) cols) Uk) (iD ↑(Af cols j 0))<|vr 2 (ix ↑(Af cols j 0) ↑(Aa r) (zG r≠[])/\3<=Aa (Aj (Af cols j 0*3)<|zG r)) ?_ ⟨⟨(by omega),⟨(by omega),(by exact zE4 _)⟩⟩,(by exact zC3 _ _)⟩) ⟨(by omega),⟨(by omega),(by exact zAc)⟩⟩;refine vs 45 (AF<|As 3<|Aj (Af cols j 0*3)<|zG r) (AF<|vaC<|Af r (Af cols j 0) Ak) (hd:=by simp(disch:=omega) only[zB5])<|vr 1 ((0:Int)<=(j:Int)/\(j:Int)<↑(Aa cols))<|vo0 46 0 (j*3)<|vr 1 (Bk.fz (vaB cur)=Ad/\Ab=Ab/\3=3/\j*3+3<=Aa (Aw<|vaB cur)/\¬0∈[]) (vb 0 (Ao (setAt (Aw<|vaB cur) (j*3) [iD<|Va.kind<|Af r (Af cols j 0) Ak,iD<|Va.int<|Af r (Af cols j 0) Ak,Al<|Bh<|bs<|Va.str<|Af r (Af cols j 0) Ak]) (Bk.ty<|vaB cur) (Bk.sz<|vaB cur) Ab Ad<|Bk.kd<|vaB cur) (Ao (zG<|AJ cur j<|Af r (Af cols j 0) Ak) (64:TypeId) 3 Ab Ad Au) (hd:=by simp(disch:=omega) only[setAt,set3_va])<|vnil<|zD<|vN<|zB rfl<|vr 2 (i6 (↑j+1))<|vnil<|zC ?_) ⟨(by kernel_rfl),⟨(by kernel_rfl),⟨(by kernel_rfl),⟨(by(simp[zAg];omega)),(by decide)⟩⟩⟩⟩;rotate_left;refine vZ2<|vAe<|zE<|zBm (True) (D.tup [Am (As (Aa cols*3)<|Aj 0<|Aw<|vaB cur)<|Aa cols,iD 0]) (D.tup [Am (As (Aa cols*3)<|zG cur)<|Aa cols,Al<|Ap AA 0]) (.inr rfl) (by simp(disch:=omega) only[AS]) ?_;rotate_left
 ·refine⟨j+1,cur.set j (r.getD (cols.getD j 0) Ak),⟨by omega,by simpa using k2,?_⟩,by omega,?_⟩
  ·rw[<-zZz r cols j (by omega)];grind [set_step,zM]
  refine vk 1
 grind [zFy,Bq,AM,zM]
theorem cloneO_nat(cs:List D)(n:Nat)(hl:cs.length=n*1)(hn:n<=1000000000):Pure Ah 101 [.row cs n] [⟨cs,36,1,Ab,Ad, .plain⟩] (.osl 0 0 n (n*1) Ab):=by
 by_cases h0:n=0
 ·grind [A5,clone0_nat]
 have h1:0<n:=by omega
 refine zCc zBe mixed Tryz.func101 rfl rfl<|vAu<|zA<|vA<|ve (0<n)<|vf<|vK<|vA<|vr 4 ((True/\0<1/\1=1/\0<=16777216/\0<=9223372036854775807)/\Ab=Ab/\0=0/\0=0/\36=36/\1=1/\Aa cs=n*1/\0<1/\0<4/\36=36/\(0+n)*4<=140737488355328/\1=1/\Ad=Ad/\(Ad=Ad\/Ad=Ab))<|vs 2 (Ai 0 0 (0+n) ((0+n)*1) Ab) (Ai 0 0 n n Ab)<|veT<|zE<|zN (True) [Ai 0 0 n n Ab] (.inr rfl) ?_;exact⟨0,by simp[oneD],by kernel_rfl⟩
theorem clone_nat(cs:List D)(n:Nat)(hl:cs.length=n*1)(hn:n<=1000000000):Pure Ah 101 [.row cs n] [] (.row cs n):=(cloneO_nat cs n hl hn).frozen rfl (AM (by show cs.length<=_;omega))
theorem zTb(cs:List D)(n:Nat)(hl:cs.length=n*1)(hn:n<=1000000000):Pure Ah 75 [.row cs n] [⟨cs,4,1,Ab,Ad, .plain⟩] (.osl 0 0 n (n*1) Ab):=by
 by_cases h0:n=0
 ·grind [A5,zTc]
 have h1:0<n:=by omega
 refine zCc zBe mixed Tryz.func75 rfl rfl<|vAu<|zA<|vA<|ve (0<n)<|vf<|vK<|vA<|vr 4 ((True/\0<1/\1=1/\0<=16777216/\0<=9223372036854775807)/\Ab=Ab/\0=0/\0=0/\4=4/\1=1/\Aa cs=n*1/\0<1/\0<1/\4=4/\(0+n)*1<=140737488355328/\1=1/\Ad=Ad/\(Ad=Ad\/Ad=Ab))<|vs 2 (Ai 0 0 (0+n) ((0+n)*1) Ab) (Ai 0 0 n n Ab)<|veT<|zE<|zN (True) [Ai 0 0 n n Ab] (.inr rfl) ?_;exact⟨0,by simp[oneD],by kernel_rfl⟩
theorem zV4(cs:List D)(n:Nat)(hl:cs.length=n*1)(hn:n<=1000000000):Pure Ah 75 [.row cs n] [] (.row cs n):=(zTb cs n hl hn).frozen rfl (AM (by show cs.length<=_;omega))
theorem zV5(cs:List D)(n:Nat)(hl:cs.length=n*1)(hn:n<=100000000):Pure Ah 92 [.row cs n] [⟨cs,54,1,Ab,Ad, .plain⟩] (.osl 0 0 n (n*1) Ab):=by
 by_cases h0:n=0
 ·grind [A5,zV7]
 have h1:0<n:=by omega
 refine zCc zBe mixed Tryz.func92 rfl rfl<|vAu<|zA<|vA<|ve (0<n)<|vf<|vK<|vA<|vr 4 ((True/\0<1/\1=1/\0<=16777216/\0<=9223372036854775807)/\Ab=Ab/\0=0/\0=0/\54=54/\1=1/\Aa cs=n*1/\0<1/\0<24/\54=54/\(0+n)*24<=140737488355328/\1=1/\Ad=Ad/\(Ad=Ad\/Ad=Ab))<|vs 2 (Ai 0 0 (0+n) ((0+n)*1) Ab) (Ai 0 0 n n Ab)<|veT<|zE<|zN (True) [Ai 0 0 n n Ab] (.inr rfl) ?_;exact⟨0,by simp[oneD],by kernel_rfl⟩
theorem cloneO_row(cs:List D)(n:Nat)(hl:cs.length=n*3)(hn:n<=100000000):Pure Ah 100 [.row cs n] [⟨cs,64,3,Ab,Ad, .plain⟩] (.osl 0 0 n (n*3) Ab):=by
 by_cases h0:n=0
 ·grind [A5,clone0_row]
 have h1:0<n:=by omega
 refine zCc zBe mixed Tryz.func100 rfl rfl<|vAu<|zA<|vA<|ve (0<n)<|vf<|vK<|vA<|vr 4 ((True/\0<3/\3=3/\0<=16777216/\0<=9223372036854775807)/\Ab=Ab/\0=0/\0=0/\64=64/\3=3/\Aa cs=n*3/\0<3/\0<32/\64=64/\(0+n)*32<=140737488355328/\3=3/\Ad=Ad/\(Ad=Ad\/Ad=Ab))<|vs 2 (Ai 0 0 (0+n) ((0+n)*3) Ab) (Ai 0 0 n (n*3) Ab)<|veT<|zE<|zN (True) [Ai 0 0 n (n*3) Ab] (.inr rfl) ?_;exact⟨0,by simp[oneD],by kernel_rfl⟩
theorem zGf(cs:List D)(n:Nat)(hl:cs.length=n*3)(hn:n<=100000000):Pure Ah 100 [.row cs n] [] (.row cs n):=(cloneO_row cs n hl hn).frozen rfl (AM (by show cs.length<=_;omega))
theorem zV6(cs:List D)(n:Nat)(hl:cs.length=n*3)(hn:n<=100000000):Pure Ah 78 [.row cs n] [⟨cs,99,3,Ab,Ad, .plain⟩] (.osl 0 0 n (n*3) Ab):=by
 by_cases h0:n=0
 ·grind [A5,zV8]
 have h1:0<n:=by omega
 refine zCc zBe mixed Tryz.func78 rfl rfl<|vAu<|zA<|vA<|ve (0<n)<|vf<|vK<|vA<|vr 4 ((True/\0<3/\3=3/\0<=16777216/\0<=9223372036854775807)/\Ab=Ab/\0=0/\0=0/\99=99/\3=3/\Aa cs=n*3/\0<3/\0<24/\99=99/\(0+n)*24<=140737488355328/\3=3/\Ad=Ad/\(Ad=Ad\/Ad=Ab))<|vs 2 (Ai 0 0 (0+n) ((0+n)*3) Ab) (Ai 0 0 n (n*3) Ab)<|veT<|zE<|zN (True) [Ai 0 0 n (n*3) Ab] (.inr rfl) ?_;exact⟨0,by simp[oneD],by kernel_rfl⟩
theorem clone_bags(cs:List D)(n:Nat)(hl:cs.length=n*3)(hn:n<=100000000):Pure Ah 78 [.row cs n] [] (.row cs n):=(zV6 cs n hl hn).frozen rfl (AM (by show cs.length<=_;omega))
theorem norm_c(l:List Nat)(n:Nat)(hn:l.length=n)(hl:n<=1000000)(hd:Digs l):Pure Ah 57 [.row (l.map dig) n] [] (natD (nval l)):=by
 subst hn;have h1:=zM2 hd;refine zF zBe mixed Tryz.func57 rfl<|vAu<|vA<|vrT 1<|vc (zFs l _ rfl hd)<|vca [natD<|nval l] (by exact clone_nat ((dg (nval l)).map dig) _ (by simp) (by omega))<|veT<|zE<|vret (True)<|.inr rfl
def Sm(n:Nat):Prop:=(dg n).length<=1000
theorem zV0:∀{m:Nat},m<=n->(dg m).length<=(dg n).length:=by
 induction n using A9 with
 | _ n ih=>
  intro m h;by_cases hm:m=0
  ·grind [dg]
  have e1:dg m=m%4294967296::dg (m/4294967296):=by rw[dg,dif_neg hm]
  have e2:dg n=n%4294967296::dg (n/4294967296):=by rw[dg,dif_neg (by omega)]
  have h2:(dg (m/4294967296)).length<=(dg (n/4294967296)).length:=ih _ (by omega) (Nat.div_le_div_right h);grind
theorem Sm.le(h:Sm n)(k:m<=n):Sm m:=Nat.le_trans (zV0 k) h
theorem Sm.of(h:n<340282366920938463463374607431768211456):Sm n:=by
 grind [dg,Ba,Sm]
theorem Sm.len(h:Sm n):(dg n).length<=1000:=h
theorem nadd_c(a b:Nat)(ha:Sm a)(hb:Sm b):Pure Ah 46 [natD a,natD b] [] (natD (a+b)):=by
 have h:=add_c (dg a) (dg b) _ _ rfl rfl (by have:=ha.len;omega) (by have:=hb.len;omega) (zB0 _) (zB0 _);rwa[zBz,zBz]at h
theorem zXv(a b:Nat)(ha:Sm a)(hb:Sm b):Pure Ah 86 [natD a,natD b] [] (natD (a*b)):=by
 have h:=mul_c (dg a) (dg b) _ _ rfl rfl (by have:=ha.len;omega) (by have:=hb.len;omega) (zB0 _) (zB0 _);rwa[zBz,zBz]at h
theorem ncmp_c(a b:Nat)(ha:Sm a)(hb:Sm b):Pure Ah 27 [natD a,natD b] [] (iD (cmpD a b)):=by
 have h:=cmp_c (dg a) (dg b) _ _ rfl rfl (by have:=ha.len;omega) (by have:=hb.len;omega) (zB0 _) (zB0 _);rwa[zBz,zBz]at h
theorem zQn(a:Nat)(ha:Sm a):Pure Ah 57 [natD a] [] (natD a):=by
 have h:=norm_c (dg a) _ rfl (by have:=ha.len;omega) (zB0 _);rwa[zBz]at h
theorem Sm.zero:Sm 0:=Sm.of (by omega)
theorem natD_zero:natD 0= .row [] 0:=by simp[natD,digR,dg]
theorem zZ8(l:List Nat)(k:Nat)(h:k<l.length):((l.map natD).drop k).headD .unk=natD (l.getD k 0):=zAq natD l 0 k h
theorem zW6(l:List Nat)(k:Nat)(h:k<l.length):(l.take (k+1)).sum=(l.take k).sum+l.getD k 0:=by
 rw[AY h,List.sum_append];grind
theorem sum_le(l:List Nat)(k:Nat):(l.take k).sum<=l.sum:=by
 grind [Bp]
set_option maxHeartbeats 1000000 in
theorem nsum_c(l:List Nat)(n:Nat)(hn:l.length=n)(hb:n<=1000000)(hs:Sm l.sum):Pure Ah 136 [.row (l.map natD) n] [] (natD l.sum):=by
 subst hn;refine zF zBe mixed Tryz.func136 rfl<|vAu<|vAe<|zA<|vAe<|zJ<|zK (λ(k:Nat)=>fr 18 [(0,Am (Ae natD l)<|Aa l),(2,nl),(3,natD<|List.sum<|As k l),(6,iD (Aa l:Int)),(7,iD (k:Int))]) (λk=>[]) (λk=>l.length-k) (λk=>k<=l.length) 0 ?_ ?_ ?_
 ·omega
 ·rw[List.take_zero,List.sum_nil,natD_zero];refine vk 0
 rintro k h1;have s1:=hs.le (sum_le l k);have s2:=hs.le (sum_le l (k+1));focus
  refine vAu<|zA<|vcD ((k:Int)<↑(Aa l)) (λhc=>?_)<|λhc=>?_;refine vKB<|vAe<|zB rfl<|vr 4 (ix ↑k ↑(Aa l) (Ae natD l≠[])) (vp 13 k (Ae natD l)<|vr 1 (0<Aa (Aj k<|Ae natD l))<|vs 14 (AG (Aj k<|Ae natD l) Uk) (natD<|Af l k 0) (hd:=by simp(disch:=omega) only[zZ8])<|vca [natD<|List.sum<|As k l,natD<|Af l k 0] (by exact nadd_c _ _ s1 (s2.le (by rw[zW6 l k (by omega)];omega))) ?_) ⟨(by omega),⟨(by omega),(by exact zAc)⟩⟩;refine vrT 1<|vnil<|zD<|vN<|zB rfl<|vr 2 (i6 (↑k+1))<|vnil<|zC ?_;rotate_left;refine vZ2<|vAe<|zE<|vre (True) (natD<|List.sum<|As k l) (.inr rfl) ?_;rotate_left
 ·refine⟨k+1,by omega,by omega,?_⟩;rw[zW6 l k (by omega)];refine vk 0
 grind
end
variable{p:Nat->Bool}
section
open Go.RowKit
theorem zMq(V:List Int)(i:Nat)(h:i<V.length):((V.map λz=>iD z).drop i).headD .unk=iD (V.getD i 0):=by simp_all
theorem zCq(l:List α)(d:α)(k:Nat)(h:k<l.length:=by omega):l.getD k d∈l:=by grind
theorem rng_no(h:i<n)(hp:p i=Ad):(AK n).all p=false:=by
 grind
theorem rng_yes(h:∀j,j<n->p j=Ab):(AK n).all p=true:=by
 grind
theorem all_upto{p:α->Bool}{l:List α}{d:α}(h:l.length<=i)(hh:∀j,j<i->j<l.length->p (l.getD j d)=Ab):l.all p=true:=by
 grind [Bm,List.mem_iff_getElem,AE]
structure Fit(n:Int)(A:List Nat)(R:List Rw)(m:Nat):Prop where
 asc:A.Pairwise (· <·)
 lt:∀v∈A,(v:Int)<n
 m:R.length=m
 len:∀r∈R,r.length=A.length
 vok:∀r∈R,r.all vok=Ab
 srt:R.Pairwise λp q=>rcmp p q<0
end
section
open Go.RowKit
attribute [local irreducible] seqW awp zAd zAi zY Weak updS zAr retL Pure Acts rP setP setQ cP nP fr
set_option maxRecDepth 4096
abbrev rwB(l:List D):Bk:=⟨l,54,1,Ab,Ad, .plain⟩
def Tr:Par:=⟨λf=>f==124||f==138||f==123||f==125,λ_ _=>Ag,λk=>decide (k<1),λ_=>Ad,λ_=>Ad⟩
theorem Tr_ok:zA9 Ah Tr:=by intro t n f h;cases h
theorem keepR(h:st.length=1):∀k,k<st.length->Tr.keep k=true:=λk hk=>by
 show decide (k<1)=Ab;rw[decide_eq_true_eq];omega
theorem zH9:∀k,1<=k->Tr.keep k=false:=λk hk=>by
 show decide (k<1)=Ad;rw[decide_eq_false_iff_not];omega
theorem blenR_c(n:Nat)(hn:n<18446744073709551616):Pure Ah 139 [.val (.int .u64 n)] [] (.val (.int .i64 (A7 n))):=
 zFd (us:=[.int .u64 n]) (λw=>(Tryz.bits_Len n w (by omega) (by omega)).mono λe w' h=>⟨by rw[h.1];simp,h.2.symm⟩)
theorem zB3(l:List (List Va))(k:Nat)(h:k<l.length:=by omega):((l.map rowV).drop k).headD .unk=rowV (l.getD k []):=zAq rowV l [] k h
def zTs(R:List Rw)(j:Nat):Bool:=decide (j=0)||!decide (rcmp (R.getD j []) (R.getD (j-1) [])<0)
def srtB(R:List Rw):Bool:=(AK R.length).all (zTs R)
abbrev cmpF:D:= .clo (.func 120) [] []
set_option maxHeartbeats 1000000 in
theorem zPa(rows:List Rw)(n:Nat)(hn:rows.length=n)(hb:n<=2000000)(hl:∀r∈rows,r.length<=2000000):Acts Ah 123 [.osl 0 0 n n Ab,cmpF] [rwB (rows.map rowV)] [] (bD (srtB rows)) [rwB (rows.map rowV)]:=by
 subst hn;refine zQ Tr_ok mixed Tryz.func123 rfl (keepR rfl)<|vAu<|zA<|vA<|ve (i6 ((Aa rows:Int)-(1:Int)))<|zJ<|zK (λ(k:Nat)=>fr 25 [(0,Ai 0 0 (Aa rows) (Aa rows) Ab),(1,cmpF),(5,iD ((k:Int)-(1:Int)))]) (λ(k:Nat)=>[rwB<|rows.map rowV]) (λ(k:Nat)=>k) (λ(k:Nat)=>k<=rows.length/\∀j,k<=j->j<rows.length->zTs rows j=Ab) rows.length ?_ ?_ ?_
 ·grind
 ·refine vk 1 ?_;exact zH9
 rintro k ⟨h1,h2⟩;rcases AN 1 k with h3|h3
 ·obtain⟨m,rfl⟩:∃m,k=m+2:=⟨k-2,by omega⟩;have hx:=zB3 rows (m+1);have hy:=zB3 rows m;have e1:((m+2:Nat):Int)-1=((m+1:Nat):Int):=by omega
  have e2:((m+1:Nat):Int)-1=(m:Int):=by omega
  have l1:=hl _ (zCq rows [] (m+1));have l2:=hl _ (zCq rows [] m);have hw:zTs rows (m+1)=!decide (rcmp (rows.getD (m+1) []) (rows.getD m [])<0):=by simp[zTs]
  have hno:zTs rows (m+1)=Ad->srtB rows=false:=λh=>rng_no (by omega) h;generalize rows.getD (m+1) []=r at*;generalize rows.getD m []=s at*;have hcm:=zJq r s _ _ rfl rfl (by omega) (by omega);focus
   refine zA<|vAs<|vrT 1<|vs 9 (iD (↑(m+2)-1)) (iD ↑(m+1))<|veT<|vT ((↑(m+1):Int)>(0:Int))<|vKB<|zA<|vd [0,1,2,3,5,6,7,8,4,9,10,11]<|vrT 3<|vs 15 (iD (↑(m+2)-1)) (iD ↑(m+1))<|vr 1 ((0:Int)<=(↑(m+1):Int)/\(↑(m+1):Int)<(Aa rows:Int))<|vo 16 0 (m+1)<|vrT 2<|vs 19 (iD (↑(m+2)-1)) (iD ↑(m+1))<|vr 1 (i6 (↑(m+1)-1))<|vs 20 (iD (↑(m+1)-1)) (iD m)<|vr 1 ((0:Int)<=(m:Int)/\(m:Int)<↑(Aa rows))<|vo 21 0 m<|vr 1 (0<Aa (Aj (m+1)<|Aw<|rwB<|Ae rowV rows))<|vsh 17 hx<|vr 1 (0<Aa (Aj m<|Aw<|rwB<|Ae rowV rows))<|vsh 22 hy<|vc hcm<|veT<|vcD (rcmp r s<0) (λhc=>?_)<|λhc=>?_;refine vAe<|zE<|zL<|zH<|zH<|zL<|zH<|zN (True) [Al<|AP Ad] (.inr rfl) ?_;rotate_left;refine zT<|zD<|vN<|zB rfl<|vrT 1<|vs 11 (iD (↑(m+2)-1)) (iD ↑(m+1))<|vr 1 (i6 (↑(m+1)-1))<|vs 12 (iD (↑(m+1)-1)) (iD m)<|vrT 1<|vnil<|zC ?_;rotate_left
  ·rw[hno (by rw[hw];simpa using hc)];exact⟨by kernel_rfl,by kernel_rfl⟩
  refine⟨m+1,⟨by omega,λj j1 j2=>?_⟩,by omega,?_⟩
  ·grind
  refine wk 5 (iD (↑m:Int)) (iD ((↑(m+1):Int)-(1:Int))) (by simp) (vk 1 ?_);exact zH9
 have hy:srtB rows=true:=rng_yes λj hj=>by
  rcases Cg j with h|h
  ·subst h;rfl
  exact h2 j (by omega) hj
 rw[hy];refine zA<|vAu<|vF ((k:Int)-(1:Int)>(0:Int))<|vZ2<|vAe<|zE<|zN (True) [Al<|AP Ab] (.inr rfl) ?_;exact⟨by kernel_rfl,by kernel_rfl⟩
set_option maxHeartbeats 1000000 in
theorem sortR_a(rows:List Rw)(n:Nat)(hn:rows.length=n)(hb:n<=2000000)(hpos:0<n)(hl:∀r∈rows,r.length<=2000000):Acts Ah 124 [.osl 0 0 n n Ab,cmpF] [rwB (rows.map rowV)] [] (.tup []) [rwB ((zNj rows).map rowV)]:=by
 have hlim:A7 n<4611686018427387904:=Nat.lt_of_le_of_lt (Lib.bitLen_le n 62 (by omega) (by omega)) (by omega);have hp:=pdq_rows (st:=[rwB (rows.map rowV)]) (k:=0) (lim:=A7 n) (wh:=Ab) (g:=120) (caps:=[]) (caps':=[]) (ks:=[]) rfl rfl rfl rfl rfl hn hb hpos hlim rfl (by simp) (enters_of Tryz.func120 (by kernel_rfl) rfl)
  (λx hx y hy=>zJq x y _ _ rfl rfl (by have:=hl x hx;omega) (by have:=hl y hy;omega))
 refine zQ Tr_ok mixed Tryz.func124 rfl (keepR rfl)<|vAu<|zB rfl<|vr 4 (u6 (n:Int))<|vc (blenR_c n (by omega))<|vrT 1<|vnt [rwB<|Ae rowV rows]<|zZ [] [] [Ai 0 0 n n Ab,iD 0,iD (n:Int),iD (↑(A7 n):Int),AD (Fn.func 120) [] []] [Ai 0 0 n n Ab,iD 0,iD (n:Int),iD (↑(A7 n):Int),AD (Fn.func 120) [] []] (LeL.refl _) (by exact hp) ?_;refine vnil<|zN (True) [] (.inl rfl) ?_;exact⟨by kernel_rfl,by kernel_rfl⟩
end
variable{l:List Rw}{p:Nat}
section
open Go.RowKit
def uqA(p:Rw):List Rw->List Rw
 |[]=>[]
 |b::l=>if b=p then uqA b l else b::uqA b l
def uq:List Rw->List Rw
 |[]=>[]
 |a::l=>a::uqA a l
theorem zWz(b:Rw):∀(l:List Rw)(p:Rw),uqA p (l++[b])=if b=l.getLastD p then uqA p l else uqA p l++[b]
 |[],p=>by
  grind [uqA]
 |c::l,p=>by
  have ih:=zWz b l c;rw[BA,List.getLastD_cons];simp only[uqA,ih];split<;>split<;>simp
theorem uq_snoc(a b:Rw)(l:List Rw):uq (a::l++[b])=if b=l.getLastD a then uq (a::l)else uq (a::l)++[b]:=by
 show a::uqA a (l++[b])=_;rw[zWz];split<;>rfl
theorem uq_take(rows:List Rw)(h0:0<p)(h:p<rows.length):uq (rows.take (p+1))=if rows.getD p []=rows.getD (p-1) []then uq (rows.take p)else uq (rows.take p)++[rows.getD p []]:=by
 obtain⟨q,rfl⟩:∃q,p=q+1:=⟨p-1,by omega⟩;match rows,h with
 | a::l,h=>
  simp only[Ba]at h;have e1:(a::l).take (q+1+1)=a::l.take q++[(a::l).getD (q+1) []]:=by
   simp_all
  have e2:(l.take q).getLastD a=(a::l).getD (q+1-1) []:=by
   grind
  grind [uq_snoc]
theorem uq_mem{x:Rw}(h:x∈uq l):x∈l:=by
 have key:∀(l:List Rw)(p:Rw),x∈uqA p l->x∈l:=by
  intro l;induction l with
  |nil=>intro p h;simp[uqA]at h
  |cons b l ih=>
   intro p h;simp only[uqA]at h;grind
 match l,h with
 |a::l,h=>
  rcases A4.1 h with rfl|h;all_goals grind
theorem zWy(l:List Rw):(uq l).length<=l.length:=by
 have key:∀(l:List Rw)(p:Rw),(uqA p l).length<=l.length:=by
  intro l;induction l with
  |nil=>intro p;simp[uqA]
  |cons b l ih=>
   intro p
   have:=ih b
   simp only[uqA];grind
 cases l with
 |nil=>simp[uq]
 |cons a l=>
  have:=key l a
  simp only[uq,Ba];omega
theorem uq_one(h:l.length<2):uq l=l:=by
 match l,h with
 |[],_=>rfl
 |[a],_=>rfl
theorem uq_adj(h:uq rows=rows)(h0:0<p)(hp:p<rows.length):¬rows.getD p []=rows.getD (p-1) []:=by
 have key:∀(l:List Rw)(a:Rw),uqA a l=l->(a::l).Pairwise (λ_ _=>True)->∀q,q<l.length->l.getD q []≠(a::l).getD q []:=by
  intro l;induction l with
  |nil=>intro a _ _ q hq;simp at hq
  | cons b l ih=>
   intro a h _ q hq;simp only[uqA]at h;have hba:b≠a:=λe=>by
    rw[if_pos e]at h;have:(uqA b l).length<=l.length:=by
     have:=zWy (b::l)
     simp only[uq,Ba]at this;omega
    grind
   grind
 match rows,h,hp with
 |a::l,h,hp=>
  grind [uq,List.pairwise_iff_forall_sublist]
end
section
open Go.RowKit
attribute [local irreducible] seqW awp zAd zAi zY Weak updS zAr retL Pure Acts rP setP setQ cP nP fr
set_option maxRecDepth 4096
abbrev eqlF:D:= .clo (.func 99) [] []
theorem set_rwV(l:List Rw)(i:Nat)(r:Rw):(l.map rowV).set i (rowV r)=(l.set i r).map rowV:=by simp
theorem zFc(n:Nat)(d:D):repL n [d]=Az n d:=by
 induction n with
 |zero=>rfl
 |succ n ih=>simp only[repL,By,BR]at ih⊢;rw[ih];rfl
theorem getD_setR(l:List Rw)(i j:Nat)(r:Rw)(h:i<j):(l.set i r).getD j []=l.getD j []:=by
 grind
theorem take_setR(l:List Rw)(i:Nat)(r:Rw)(h:i<l.length):(l.set i r).take (i+1)=l.take i++[r]:=by
 rw[List.take_set,AY h,List.set_append];simp[BE (Nat.le_of_lt h)]
set_option maxHeartbeats 4000000 in
theorem zTa(rows:List Rw)(n:Nat)(hn:rows.length=n)(hb:n<=2000000)(hl:∀r∈rows,r.length<=2000000):∃t:List D,Acts Ah 125 [.osl 0 0 n n Ab,eqlF] [rwB (rows.map rowV)] [] (.osl 0 0 (uq rows).length (uq rows).length Ab) [rwB ((uq rows).map rowV++t)]:=by
 subst hn;by_cases hu:uq rows=rows
 ·refine⟨[],?_⟩;rw[hu,Ca];refine zQ Tr_ok mixed Tryz.func125 rfl (keepR rfl) ?_;by_cases h2:rows.length<2
  ·refine vAu<|zA<|vAe<|vT ((Aa rows:Int)<(2:Int))<|vAe<|zE<|zH<|zN (True) [Ai 0 0 (Aa rows) (Aa rows) Ab] (.inr rfl) ?_;exact⟨by kernel_rfl,by kernel_rfl⟩
  refine vAu<|zA<|vAe<|vF ((Aa rows:Int)<(2:Int))<|vK<|zA<|vAe<|zJ<|zK (λ(k:Nat)=>fr 66 [(0,Ai 0 0 (Aa rows) (Aa rows) Ab),(1,eqlF),(5,iD k)]) (λ(k:Nat)=>[rwB<|rows.map rowV]) (λ(k:Nat)=>rows.length-k) (λ(k:Nat)=>0<k/\k<=rows.length) 1 ?_ ?_ ?_
  ·omega
  ·refine vk 1 ?_;exact zH9
  rintro k ⟨k0,k1⟩;rcases AN k rows.length with k3|k3
  ·obtain⟨m,rfl⟩:∃m,k=m+1:=⟨k-1,by omega⟩;have hx:=zB3 rows (m+1);have hy:=zB3 rows m;have e2:((m+1:Nat):Int)-1=(m:Int):=by omega
   have l1:=hl _ (zCq rows [] (m+1));have l2:=hl _ (zCq rows [] m);have hne:=uq_adj hu (by omega) k3;rw[Nat.add_sub_cancel]at hne;generalize rows.getD (m+1) []=r at*;generalize rows.getD m []=s at*;have hcm:=zFb r s _ _ rfl rfl;rw[decide_eq_false hne]at hcm;refine zA<|vAu<|vT ((↑(m+1):Int)<↑(Aa rows))<|vKB<|zA<|vd [0,1,2,3,5,6,7,8,4,9,10]<|vr 4 ((0:Int)<=(↑(m+1):Int)/\(↑(m+1):Int)<(Aa rows:Int))<|vo 21 0 (m+1)<|vr 3 (i6 (↑(m+1)-1))<|vs 25 (iD (↑(m+1)-1)) (iD m)<|vr 1 ((0:Int)<=(m:Int)/\(m:Int)<↑(Aa rows))<|vo 26 0 m<|vr 1 (0<Aa (Aj (m+1)<|Aw<|rwB<|Ae rowV rows))<|vsh 22 hx<|vr 1 (0<Aa (Aj m<|Aw<|rwB<|Ae rowV rows))<|vsh 27 hy<|vc hcm<|veT<|vf<|zT<|zD<|vN<|zB rfl<|vr 3 (i6 (↑(m+1)+1))<|vnil<|zC<|⟨m+1+1,⟨by omega,by omega⟩,by omega,?_⟩;refine vk 1 ?_;exact zH9
  refine zA<|vAu<|vF ((k:Int)<(Aa rows:Int))<|vZ2<|vAe<|zE<|zN (True) [Ai 0 0 (Aa rows) (Aa rows) Ab] (.inr rfl) ?_;exact⟨by kernel_rfl,by kernel_rfl⟩
 have h2:¬rows.length<2:=λh=>hu (uq_one h);refine⟨Az (rows.length-(uq rows).length) (.val (.slice Ag 0 0)),?_⟩;refine zQ Tr_ok mixed Tryz.func125 rfl (keepR rfl)<|vAu<|zA<|vAe<|vF ((Aa rows:Int)<(2:Int))<|vK<|zA<|vAe<|zJ<|zK (λ(k:Nat)=>fr 66 [(0,Ai 0 0 (Aa rows) (Aa rows) Ab),(1,eqlF),(5,iD (k:Int))]) (λ(k:Nat)=>[rwB<|rows.map rowV]) (λ(k:Nat)=>rows.length-k) (λ(k:Nat)=>0<k/\k<=rows.length/\uq (rows.take k)=rows.take k) 1 ?_ ?_ ?_
 ·grind [uq_one]
 ·refine vk 1 ?_;exact zH9
 rintro k ⟨k0,k1,k2⟩;rcases AN k rows.length with k3|k3;case inr=>exact absurd (by rw[AM k3]at k2;exact k2) hu
 obtain⟨m,rfl⟩:∃m,k=m+1:=⟨k-1,by omega⟩;have hx:=zB3 rows (m+1);have hy:=zB3 rows m;have e2:((m+1:Nat):Int)-1=(m:Int):=by omega
 have l1:=hl _ (zCq rows [] (m+1));have l2:=hl _ (zCq rows [] m);have ht:=uq_take rows (p:=m+1) (by omega) k3;rw[Nat.add_sub_cancel]at ht;by_cases he:rows.getD (m+1) []=rows.getD m [];case neg=>
  rw[if_neg he,k2]at ht;have ht2:uq (rows.take (m+1+1))=rows.take (m+1+1):=by
   simp_all
  generalize rows.getD (m+1) []=r at*;generalize rows.getD m []=s at*;have hcm:=zFb r s _ _ rfl rfl;rw[decide_eq_false he]at hcm;refine zA<|vAu<|vT ((↑(m+1):Int)<↑(Aa rows))<|vKB<|zA<|vd [0,1,2,3,5,6,7,8,4,9,10]<|vr 4 ((0:Int)<=(↑(m+1):Int)/\(↑(m+1):Int)<(Aa rows:Int))<|vo 21 0 (m+1)<|vr 3 (i6 (↑(m+1)-1))<|vs 25 (iD (↑(m+1)-1)) (iD m)<|vr 1 ((0:Int)<=(m:Int)/\(m:Int)<↑(Aa rows))<|vo 26 0 m<|vr 1 (0<Aa (Aj (m+1)<|Aw<|rwB<|Ae rowV rows))<|vsh 22 hx<|vr 1 (0<Aa (Aj m<|Aw<|rwB<|Ae rowV rows))<|vsh 27 hy<|vc hcm<|veT<|vf<|zT<|zD<|vN<|zB rfl<|vr 3 (i6 (↑(m+1)+1))<|vnil<|zC<|⟨m+1+1,⟨by omega,by omega,ht2⟩,by omega,?_⟩;refine vk 1 ?_;exact zH9
 rw[if_pos he,k2]at ht;have hcm:=zFb (rows.getD (m+1) []) (rows.getD m []) _ _ rfl rfl;rw[decide_eq_true he]at hcm;refine zA<|vAu<|vT ((↑(m+1):Int)<↑(Aa rows))<|vKB<|zA<|vd [0,1,2,3,5,6,7,8,4,9,10]<|vr 4 ((0:Int)<=(↑(m+1):Int)/\(↑(m+1):Int)<(Aa rows:Int))<|vo 21 0 (m+1)<|vr 3 (i6 (↑(m+1)-1))<|vs 25 (iD (↑(m+1)-1)) (iD m)<|vr 1 ((0:Int)<=(m:Int)/\(m:Int)<↑(Aa rows))<|vo 26 0 m<|vr 1 (0<Aa (Aj (m+1)<|Aw<|rwB<|Ae rowV rows))<|vsh 22 hx<|vr 1 (0<Aa (Aj m<|Aw<|rwB<|Ae rowV rows))<|vsh 27 hy<|vc hcm<|veT<|vt<|vA<|vr 3 ((0:Int)<=(↑(m+1):Int)/\True/\True/\0<1/\Aq (↑(m+1):Int)<=Aa rows/\Aa rows<=Aa rows/\Aa rows=Aa rows)<|vs 31 (Ai 0 (0+Aq (↑(m+1):Int)*1) (Aa rows-Aq (↑(m+1):Int)) ((Aa rows-Aq (↑(m+1):Int))*1) Ad) (Ai 0 (m+1) (Aa rows-(m+1)) (Aa rows-(m+1)) Ad)<|veT<|zA<|vAe<|zJ<|zC2 (λ(q:Nat)(k:Nat)(R:List Rw)=>fr 66 [(0,Ai 0 0 (Aa rows) (Aa rows) Ab),(1,eqlF),(5,iD k),(6,Ai 0 (m+1) (Aa rows-(m+1)) (Aa rows-(m+1)) Ad),(7,iD q)]) (λ(q k:Nat)(R:List Rw)=>[rwB<|R.map rowV]) (λ(q k:Nat)(R:List Rw)=>rows.length-(m+1)-q) (λ(q k:Nat)(R:List Rw)=>0<q/\m+1+q<=rows.length/\k<=m+q/\0<k/\R.length=rows.length/\R.take k=uq (rows.take (m+1+q))/\(∀r∈R,r.length<=2000000)/\∀j,m+q<=j->R.getD j []=rows.getD j []) 1 (m+1) rows ?_ ?_ ?_
 ·grind
 ·refine vk 1 ?_;exact zH9
 clear hx hy e2 l1 l2 ht he hcm;rintro q k R ⟨q0,q1,q2,q3,q4,q5,q6,q7⟩;rcases AN q (rows.length-(m+1))with q8|q8
 ·obtain⟨p,rfl⟩:∃p,q=p+1:=⟨q-1,by omega⟩;have hx:=zB3 R (m+1+(p+1));have hy:=zB3 R (m+1+p);have e2:((p+1:Nat):Int)-1=(p:Int):=by omega
  have l1:=q6 _ (zCq R [] (m+1+(p+1)));have l2:=q6 _ (zCq R [] (m+1+p));have ht:=uq_take rows (p:=m+1+(p+1)) (by omega) (by omega);rw[show m+1+(p+1)-1=m+1+p by omega,<-q7 (m+1+(p+1)) (by omega),<-q7 (m+1+p) (by omega),<-q5]at ht;have ht2:=take_setR R k (R.getD (m+1+(p+1)) []) (by omega);have hst:=set_rwV R k (R.getD (m+1+(p+1)) []);have hgs:=λj (h:k<j)=>getD_setR R k j (R.getD (m+1+(p+1)) []) h;have hms:∀r∈R.set k (R.getD (m+1+(p+1)) []),r.length<=2000000:=λr hr=>by
   grind
  by_cases he:R.getD (m+1+(p+1)) []=R.getD (m+1+p) []
  ·rw[if_pos he]at ht;have hcm:=zFb (R.getD (m+1+(p+1)) []) (R.getD (m+1+p) []) _ _ rfl rfl;rw[decide_eq_true he]at hcm;refine zA<|vAu<|vT ((↑(p+1):Int)<(↑(Aa rows-(m+1)):Int))<|vKB<|zA<|vd [0,1,2,3,5,6,7,8,4,9,10,11]<|vr 4 ((0:Int)<=(↑(p+1):Int)/\(↑(p+1):Int)<(↑(Aa rows-(m+1)):Int))<|vs 41 (Ax 0 (m+1+Aq (↑(p+1):Int)*1)) (Ax 0 (m+1+(p+1)))<|vr 3 (i6 (↑(p+1)-1))<|vs 45 (iD (↑(p+1)-1)) (iD p)<|vr 1 ((0:Int)<=(p:Int)/\(p:Int)<(↑(Aa rows-(m+1)):Int))<|vs 46 (Ax 0 (m+1+Aq (p:Int)*1)) (Ax 0 (m+1+p))<|vr 1 (0<Aa (Aj (m+1+(p+1))<|Aw<|rwB<|Ae rowV R))<|vsh 42 hx<|vr 1 (0<Aa (Aj (m+1+p)<|Aw<|rwB<|Ae rowV R))<|vsh 47 hy<|vc hcm<|veT<|vf<|zT<|zD<|vN<|zB rfl<|vr 3 (i6 (↑(p+1)+1))<|vnil<|zC<|⟨p+1+1,k,R,⟨by omega,by omega,by omega,by omega,q4,ht.symm,q6,λj hj=>q7 j (by omega)⟩,by omega,?_⟩;refine vk 1 ?_;exact zH9
  rw[if_neg he]at ht;have hcm:=zFb (R.getD (m+1+(p+1)) []) (R.getD (m+1+p) []) _ _ rfl rfl;rw[decide_eq_false he]at hcm;refine zA<|vAu<|vT ((↑(p+1):Int)<(↑(Aa rows-(m+1)):Int))<|vKB<|zA<|vd [0,1,2,3,5,6,7,8,4,9,10,11]<|vr 4 ((0:Int)<=(↑(p+1):Int)/\(↑(p+1):Int)<(↑(Aa rows-(m+1)):Int))<|vs 41 (Ax 0 (m+1+Aq (↑(p+1):Int)*1)) (Ax 0 (m+1+(p+1)))<|vr 3 (i6 (↑(p+1)-1))<|vs 45 (iD (↑(p+1)-1)) (iD p)<|vr 1 ((0:Int)<=(p:Int)/\(p:Int)<(↑(Aa rows-(m+1)):Int))<|vs 46 (Ax 0 (m+1+Aq (p:Int)*1)) (Ax 0 (m+1+p))<|vr 1 (0<Aa (Aj (m+1+(p+1))<|Aw<|rwB<|Ae rowV R))<|vsh 42 hx<|vr 1 (0<Aa (Aj (m+1+p)<|Aw<|rwB<|Ae rowV R))<|vsh 47 hy<|vc hcm<|veT<|vt<|vA<|vr 5 ((0:Int)<=(↑(p+1):Int)/\(↑(p+1):Int)<(↑(Aa rows-(m+1)):Int))<|vs 54 (Ax 0 (m+1+Aq (↑(p+1):Int)*1)) (Ax 0 (m+1+(p+1)))<|vr 1 (0<Aa (Aj (m+1+(p+1))<|Aw<|rwB<|Ae rowV R))<|vsh 55 hx<|vr 1 ((0:Int)<=(k:Int)/\(k:Int)<↑(Aa rows))<|vo 56 0 k<|vr 1 (Bk.fz (rwB<|Ae rowV R)=Ad/\Ab=Ab/\1=1/\k+1<=Aa (Aw<|rwB<|Ae rowV R)/\¬0∈[])<|vb 0 (Ao (setAt (Aw<|rwB<|Ae rowV R) k<|cellsOf<|Am (zG<|Af R (m+1+(p+1)) [])<|Aa<|Af R (m+1+(p+1)) []) (Bk.ty<|rwB<|Ae rowV R) (Bk.sz<|rwB<|Ae rowV R) Ab Ad<|Bk.kd<|rwB<|Ae rowV R) (Ao (Ae rowV<|AJ R k<|Af R (m+1+(p+1)) []) (54:TypeId) 1 Ab Ad Au) (hd:=by simp(disch:=omega) only[cellsOf,setAt,hst])<|veT<|zB rfl<|vr 3 (i6 (↑k+1))<|vnil<|zD<|vN<|zB rfl<|vr 3 (i6 (↑(p+1)+1))<|vnil<|zC<|⟨p+1+1,k+1,R.set k<|R.getD (m+1+(p+1)) [],⟨by omega,by omega,by omega,by omega,by rw[Br];exact q4,by rw[ht2];exact ht.symm,hms,λj hj=>by rw[hgs j (by omega)];exact q7 j (by omega)⟩,by omega,?_⟩;refine vk 1 ?_;exact zH9
 obtain rfl:q=rows.length-(m+1):=by omega
 rw[show m+1+(rows.length-(m+1))=rows.length by omega,Bq]at q5;have hkl:(uq rows).length=k:=by rw[<-q5,A3];omega
 rw[hkl,<-q5];have hcl:setAt (R.map rowV) k (repL (rows.length-k) [.val (.slice Ag 0 0)])=(R.take k).map rowV++Az (rows.length-k) (.val (.slice Ag 0 0)):=by
  have h1:=zLw ((R.drop k).map rowV) (repL (rows.length-k) [.val (.slice Ag 0 0)]) ((R.take k).map rowV) (by rw[zFc];simp[q4]);grind [Bp,AW,A3,BE,zFc]
 refine zA<|vAu<|vF ((↑(Aa rows-(m+1)):Int)<(↑(Aa rows-(m+1)):Int))<|vZ2<|vA<|vr 3 ((0:Int)<=(k:Int)/\True/\True/\0<1/\Aq (k:Int)<=Aa rows/\Aa rows<=Aa rows/\Aa rows=Aa rows)<|vs 61 (Ai 0 (0+Aq (k:Int)*1) (Aa rows-Aq (k:Int)) ((Aa rows-Aq (k:Int))*1) Ad) (Ai 0 k (Aa rows-k) (Aa rows-k) Ad)<|ve (Bk.fz (rwB<|Ae rowV R)=Ad/\Kd.isMap (Bk.kd<|rwB<|Ae rowV R)=Ad/\0<1/\k+(Aa rows-k)*1<=Aa (Aw<|rwB<|Ae rowV R))<|vA<|vr 3 (True/\(0:Int)<=(k:Int)/\True/\0<1/\0<=Aq (k:Int)/\Aq (k:Int)<=Aa rows/\Aq (k:Int)=Aq (k:Int))<|vs 64 (Ai 0 0 (Aq (k:Int)-0) ((Aq (k:Int)-0)*1) Ab) (Ai 0 0 k k Ab)<|veT<|zE<|zL<|zH<|zH<|zL<|zH<|zN (True) [Ai 0 0 k k Ab] (.inr rfl) ?_;rw[<-hcl];exact⟨by kernel_rfl,by kernel_rfl⟩
end
variable{args1:List D}
section
open Go.RowKit
def only(β:Be)(k:Nat):Be:=λj=>if j=0 then β k else Ag
def Bk.free(e:Bk):Prop:=e.nob=Ab\/∀j,zX j e.cells=Ad
theorem Bk.free.own(h:e.free){β':Be}{b c:Nat}(ho:OwnRel I w β b c e):OwnRel I w β' b c e:=
 ho.congr λhn k x hr _=>by
  rcases h with h|h
  ·rw[h]at hn;cases hn
  rw[h k]at hr;cases hr
theorem Acts.atG{e':Bk}(k:Nat)(h:Acts P f args1 [e] [] x [e'])(he:st[k]?=Ac e)(ha:e.free)(ha':e'.free)
  (hargs:∀I w β vs,RelT I w β args vs->RelT I w (only β k) args1 vs):Acts P f args st [] (zA7 k x) (st.set k e'):=by
 intro β I w vs hr hsr hinj hfz hdom hi hg;have o0:∀{j:Nat}{y:Nat×Nat},only β k j=Ac y->j=0/\β k=Ac y:=λ{j y} hj=>by
  grind [only]
 have hk:k<st.length:=(A2.1 he).1;have hsr1:SR (only β k) I w [e]:=λj b c hj=>by
  obtain⟨rfl,hb⟩:=o0 hj;obtain⟨e0,h1,h2⟩:=hsr k b c hb;rw[he]at h1;cases h1;exact⟨e,rfl,ha.own h2⟩
 have hinj1:Inj (only β k):=λj j' b c c' h1 h2=>by rw[(o0 h1).1,(o0 h2).1]
 have hfz1:FZ (only β k) I [e]:=λj b c i e0 h1 h2 h3=>by
  obtain⟨rfl,hb⟩:=o0 h1;simp only[BV,AO.injEq]at h2;subst h2;exact hfz k b c i e hb he h3
 refine(h (only β k) I w vs (hargs I w β vs hr) hsr1 hinj1 hfz1 (λj y hj=>by rw[(o0 hj).1];simp) hi hg).mono ?_;rintro en w' ⟨v,β1,I',rfl,p1,p2,p3,p4,p5,p6,p7,p8⟩;have d0:∀{j:Nat}{y:Nat×Nat},β1 j=Ac y->j=0:=λ{j y} hj=>by have:=p7 j y hj;simpa using this
 have old:∀{b c:Nat},β1 0=Ac (b,c)->(∃c',β k=Ac (b,c'))\/w.heap.size<=b:=λ{b c} hb=>by
  rcases p2.be 0 b c hb with⟨k',c',hk'⟩|hh;all_goals grind
 have hlt:∀{j b c:Nat},β j=Ac (b,c)->b<w.heap.size:=λ{j b c} hj=>by
  obtain⟨e0,_,h1⟩:=hsr j b c hj;exact h1.lt
 have keepk:∀y,β k=Ac y->β1 0=Ac y:=λy hy=>p3 0 y (by simp) (by simp only[only,if_true];exact hy);have hle:BeLe β (λj=>if j=k then β1 0 else β j):=λj y hj=>by
  grind
 have heap:∀{j b c:Nat},j≠k->β j=Ac (b,c)->w'.heap[b]?=w.heap[b]?:=λ{j b c} hne hj=>p2.out b (hlt hj) λj' c' hj'=>by
  have:=(o0 hj').2
  exact hne (hinj j k b c c' hj this)
 refine⟨v,λj=>if j=k then β1 0 else β j,I',rfl,p1,⟨p2.fix,p2.size,λb hb hn=>p2.out b hb λj c hj=>hn k c (o0 hj).2,p2.os,p2.tape,p2.output,p2.dr,λj b c hj=>?_,λb o hb=>?_⟩,λj y _ hj=>hle j y hj,λj b c hj=>?_,λj j' b c c' hj hj'=>?_,λj b c i e0 hj h2 h3=>?_,λj y hj=>?_,?_⟩
 ·grind
 ·rcases p2.im b o hb with h1|h1|⟨j,c,h1⟩;all_goals grind
 ·try simp only at hj
  split at hj
  ·rename_i ej;subst ej;obtain⟨e0,h1,h2⟩:=p4 0 b c hj;simp only[BV,AO.injEq]at h1;subst h1;exact⟨e',BW hk,ha'.own h2⟩
  rename_i ej;obtain⟨e0,h1,h2⟩:=hsr j b c hj;exact⟨e0,by rw[BX (λh=>ej h.symm)];exact h1,h2.mono (heap ej hj) p2.fix hle⟩
 ·try simp only at hj hj'
  split at hj<;>split at hj'
  ·rename_i a b;rw[a,b]
  ·rename_i a a';exfalso;rcases old hj with⟨c2,h1⟩|h1
   ·exact a' (hinj j' k b c' c2 hj' h1)
   have:=hlt hj';omega
  ·rename_i a a';exfalso;rcases old hj' with⟨c2,h1⟩|h1
   ·exact a (hinj j k b c c2 hj h1)
   have:=hlt hj;omega
  exact hinj j j' b c c' hj hj'
 ·try simp only at hj
  split at hj
  ·rename_i ej;subst ej;rw[BW hk]at h2;cases h2;exact p6 0 b c i e' hj rfl h3
  rename_i ej;rw[BX (λh=>ej h.symm)]at h2;rcases p2.im b i h3 with h4|h4|⟨j',c',h4⟩
  ·exact hfz j b c i e0 hj h2 h4
  ·have:=hlt hj;omega
  exact absurd (hinj j k b c c' hj (o0 h4).2) ej
 ·grind
 refine zDy (λj y hj=>?_) x v p8;grind
theorem Acts.atC{e':Bk}(k:Nat)(h:Acts P f args1 [e] [0] x [e'])(he:st[k]?=Ac e)(ha:e.free)(ha':e'.free)
  (hargs:∀I w β vs,RelT I w β args vs->RelT I w (only β k) args1 vs)(hno:∀j e0,j≠k->st[j]?=Ac e0->e0.nob=Ab\/zX k e0.cells=Ad):Acts P f args st [k] (zA7 k x) (st.set k e'):=by
 intro β I w vs hr hsr hinj hfz hdom hi hg;have o0:∀{j:Nat}{y:Nat×Nat},only β k j=Ac y->j=0/\β k=Ac y:=λ{j y} hj=>by
  grind [only]
 have hk:k<st.length:=(A2.1 he).1;have hsr1:SR (only β k) I w [e]:=λj b c hj=>by
  obtain⟨rfl,hb⟩:=o0 hj;obtain⟨e0,h1,h2⟩:=hsr k b c hb;rw[he]at h1;cases h1;exact⟨e,rfl,ha.own h2⟩
 have hinj1:Inj (only β k):=λj j' b c c' h1 h2=>by rw[(o0 h1).1,(o0 h2).1]
 have hfz1:FZ (only β k) I [e]:=λj b c i e0 h1 h2 h3=>by
  obtain⟨rfl,hb⟩:=o0 h1;simp only[BV,AO.injEq]at h2;subst h2;exact hfz k b c i e hb he h3
 refine(h (only β k) I w vs (hargs I w β vs hr) hsr1 hinj1 hfz1 (λj y hj=>by rw[(o0 hj).1];simp) hi hg).mono ?_;rintro en w' ⟨v,β1,I',rfl,p1,p2,p3,p4,p5,p6,p7,p8⟩;have d0:∀{j:Nat}{y:Nat×Nat},β1 j=Ac y->j=0:=λ{j y} hj=>by have:=p7 j y hj;simpa using this
 have old:∀{b c:Nat},β1 0=Ac (b,c)->(∃c',β k=Ac (b,c'))\/w.heap.size<=b:=λ{b c} hb=>by
  rcases p2.be 0 b c hb with⟨k',c',hk'⟩|hh;all_goals grind
 have hlt:∀{j b c:Nat},β j=Ac (b,c)->b<w.heap.size:=λ{j b c} hj=>by
  obtain⟨e0,_,h1⟩:=hsr j b c hj;exact h1.lt
 have hne:∀j y,j≠k->β j=Ac y->(λj=>if j=k then β1 0 else β j) j=Ac y:=λj y h0 hj=>by
  grind
 have heap:∀{j b c:Nat},j≠k->β j=Ac (b,c)->w'.heap[b]?=w.heap[b]?:=λ{j b c} hne hj=>p2.out b (hlt hj) λj' c' hj'=>by
  have:=(o0 hj').2
  exact hne (hinj j k b c c' hj this)
 refine⟨v,λj=>if j=k then β1 0 else β j,I',rfl,p1,⟨p2.fix,p2.size,λb hb hn=>p2.out b hb λj c hj=>hn k c (o0 hj).2,p2.os,p2.tape,p2.output,p2.dr,λj b c hj=>?_,λb o hb=>?_⟩,λj y h0 hj=>hne j y (by simpa using h0) hj,λj b c hj=>?_,λj j' b c c' hj hj'=>?_,λj b c i e0 hj h2 h3=>?_,λj y hj=>?_,?_⟩
 ·grind
 ·rcases p2.im b o hb with h1|h1|⟨j,c,h1⟩;all_goals grind
 ·try simp only at hj
  split at hj
  ·rename_i ej;subst ej;obtain⟨e0,h1,h2⟩:=p4 0 b c hj;simp only[BV,AO.injEq]at h1;subst h1;exact⟨e',BW hk,ha'.own h2⟩
  rename_i ej;obtain⟨e0,h1,h2⟩:=hsr j b c hj;exact⟨e0,by rw[BX (λh=>ej h.symm)];exact h1,(h2.congr (β':=λj=>if j=k then β1 0 else β j) λhn i y hr hi=>by
   refine hne i y (λe1=>?_) hi;subst e1;rcases hno j e0 ej h1 with h3|h3
   ·rw[h3]at hn;cases hn
   rw[h3]at hr;cases hr).mono (heap ej hj) p2.fix (AH _)⟩
 ·try simp only at hj hj'
  split at hj<;>split at hj'
  ·rename_i a b;rw[a,b]
  ·rename_i a a';exfalso;rcases old hj with⟨c2,h1⟩|h1
   ·exact a' (hinj j' k b c' c2 hj' h1)
   have:=hlt hj';omega
  ·rename_i a a';exfalso;rcases old hj' with⟨c2,h1⟩|h1
   ·exact a (hinj j k b c c2 hj h1)
   have:=hlt hj;omega
  exact hinj j j' b c c' hj hj'
 ·try simp only at hj
  split at hj
  ·rename_i ej;subst ej;rw[BW hk]at h2;cases h2;exact p6 0 b c i e' hj rfl h3
  rename_i ej;rw[BX (λh=>ej h.symm)]at h2;rcases p2.im b i h3 with h4|h4|⟨j',c',h4⟩
  ·exact hfz j b c i e0 hj h2 h4
  ·have:=hlt hj;omega
  exact absurd (hinj j k b c c' hj (o0 h4).2) ej
 ·grind
 refine zDy (λj y hj=>?_) x v p8;grind
theorem zMb{I:Im}{w:World}{β β':Be}:∀{us vs:List Value},RelT I w β (us.map .val) vs->RelT I w β' (us.map .val) vs
 |[],vs,h=>by simpa only[Bb,RelT]using h
 |u::us,vs,h=>by
  simp only[A6,RelT,Rel]at h⊢;obtain⟨v,vs',h1,h2,h3⟩:=h;exact⟨v,vs',h1,h2,zMb h3⟩
theorem zQk{off:Nat}(us:List Value)(I:Im)(w:World)(β:Be)(vs:List Value)(h:RelT I w β (.osl k off n m wh::us.map .val) vs):RelT I w (only β k) (.osl 0 off n m wh::us.map .val) vs:=by
 grind [only,RelT,zMb,Rel]
theorem zCl{off:Nat}(us:List Value)(I:Im)(w:World)(β:Be)(vs:List Value)(h:RelT I w β (.own k off::us.map .val) vs):RelT I w (only β k) (.own 0 off::us.map .val) vs:=by
 grind [only,RelT,zMb,Rel]
theorem Bk.free_arr(ha:e.arr=Ab)(hk:e.kd= .plain):e.free:= .inl (by unfold Bk.nob;rw[ha,hk];rfl)
end
section
open Go.RowKit
attribute [local irreducible] seqW awp zAd zAi zY Weak updS zAr retL Pure Acts rP setP setQ cP nP fr
set_option maxRecDepth 4096
def relR(rows:List Rw):List Rw:=uq (if srtB rows then rows else zNj rows)
theorem zHv(rows:List Rw):(relR rows).length<=rows.length:=by
 unfold relR;refine Nat.le_trans (zWy _) ?_;split
 ·exact Ar _
 rw[(zCr rows).length_eq];exact Ar _
abbrev relB(a b:D):Bk:=⟨[a,b],85,0,Ad,Ad, .plain⟩
def Tb:Par:=⟨λf=>f==124||f==123||f==125||f==91,λ_ _=>Ag,λk=>decide (k<1),λ_=>Ad,λ_=>Ad⟩
theorem Tb_ok:zA9 Ah Tb:=by intro t n f h;cases h
theorem keepB(h:st.length=1):∀k,k<st.length->Tb.keep k=true:=λk hk=>by
 show decide (k<1)=Ab;rw[decide_eq_true_eq];omega
theorem zYg:∀k,1<=k->Tb.keep k=false:=λk hk=>by
 show decide (k<1)=Ad;rw[decide_eq_false_iff_not];omega
theorem zJt(I:Im)(w:World)(β:Be)(vs:List Value)(h:RelT I w β [.osl k 0 n m wh, .clo (.func g) [] []] vs):RelT I w (only β k) [.osl 0 0 n m wh, .clo (.func g) [] []] vs:=by
 grind [only,RelT,Rel]
theorem zQl{z:Int}(I:Im)(w:World)(β:Be)(vs:List Value)(h:RelT I w β [iD z, .osl k 0 n m wh] vs):RelT I w (only β k) [iD z, .osl 0 0 n m wh] vs:=by
 grind [only,RelT,Rel]
theorem zW9(L:List Rw)(t:List D)(i:Nat)(h:i<L.length):(L.map rowV++t).set i (rowV (L.getD i []))=L.map rowV++t:=by
 grind [List.map_set,AE,List.set_getElem_self]
theorem zPb(L:List Rw)(t:List D)(i:Nat)(h:i<L.length):((L.map rowV++t).drop i).headD .unk=rowV (L.getD i []):=by
 rw[List.drop_append_of_le_length (by simp;omega)];simp_all
abbrev q4_:=Ao [iD 0,nl] 85 0 Ad Ad Au
set_option maxHeartbeats 2000000 in
theorem build_a(ar:Int)(rows:List Rw)(n:Nat)(hn:rows.length=n)(hb:n<=2000000)(hU65:(relR rows).length<=65536)(hl:∀r∈rows,r.length<=2000000):∃t:List D,Acts Ah 91 [iD ar, .osl 0 0 n n Ab] [rwB (rows.map rowV)] [] (.tup [.agg [iD ar, .osl 0 0 (relR rows).length (relR rows).length Ab],iD 0]) [rwB ((relR rows).map rowV++t)]:=by
 obtain⟨S,hS⟩:∃S,S=if srtB rows then rows else zNj rows:=⟨_,rfl⟩
 have hSl:S.length=n:=by
  rw[hS];split
  ·exact hn
  rw[(zCr rows).length_eq,hn]
 have hSm:∀r∈S,r.length<=2000000:=λr hr=>by
  grind [zCr]
 obtain⟨t,hc⟩:=zTa S n hSl (by omega) hSm;refine⟨t,?_⟩;have hu:=zWy S;have hum:∀r∈uq S,r.length<=2000000:=λr hr=>hSm r (uq_mem hr);have hrel:relR rows=uq S:=by rw[hS];rfl
 rw[hrel]at hU65⊢;have hs:=zPa rows n hn (by omega) hl;have a1:=hs.atG (st:=[rwB (rows.map rowV),relB (iD 0) nl]) 0 rfl (Bk.free_arr rfl rfl) (Bk.free_arr rfl rfl) zJt;have a3:=hc.atG (st:=[rwB (S.map rowV),relB (iD 0) nl]) 0 rfl (Bk.free_arr rfl rfl) (Bk.free_arr rfl rfl) zJt;generalize hU:uq S=U at*;have key:Acts Ah 91 [iD ar, .osl 0 0 n n Ab] [rwB (rows.map rowV)] [] (.tup [.agg [iD ar, .osl 0 0 U.length U.length Ab],iD 0]) [rwB (U.map rowV++t),relB (iD ar) (.osl 0 0 U.length U.length Ab)]:=by
  cases hsb:srtB rows with
  | true=>
   rw[hsb]at hS a1;rw[if_pos rfl]at hS;subst hS;refine zQ Tb_ok mixed BY rfl (keepB rfl)<|vAu<|zA<|vA<|vrT 1<|vnt [rwB<|Ae rowV S,Ao [iD 0,nl] 85 0 Ad Ad Au]<|zZ [] [] [Ai 0 0 n n Ab,AD (Fn.func 120) [] []] [Ai 0 0 n n Ab,AD (Fn.func 120) [] []] (LeL.refl _) (by exact a1) ?_;refine v0s<|veT<|vf<|vK<|vA<|vrT 1<|vnt [Ao (Ae rowV S) 54 1 Ab Ad Au,q4_]<|zZ [] [] [Ai 0 0 n n Ab,AD (Fn.func 99) [] []] [Ai 0 0 n n Ab,AD (Fn.func 99) [] []] (LeL.refl _) (by exact a3) ?_;refine v0s<|veT<|zA<|vAe<|vF ((Aa U:Int)>(65536:Int))<|vK<|zA<|vAe<|zJ<|zK (λ(i:Nat)=>fr 35 [(0,iD ar),(1,Ai 0 0 (Aa U) (Aa U) Ab),(4,Ax 1 0),(5,iD 0),(19,iD<|Aa U),(20,iD i)]) (λ(i:Nat)=>[rwB (U.map rowV++t),relB (iD 0) nl]) (λ(i:Nat)=>U.length-i) (λ(i:Nat)=>i<=U.length) 0 ?_ ?_ ?_
   ·omega
   ·refine vk 2 ?_;grind [zYg]
   rintro i h1;rcases AN i U.length with h2|h2
   ·have hx:=zPb U t i h2;have hst:=zW9 U t i h2;have hlr:=hum _ (zCq U [] i (h:=h2));have hlc:i<(U.map rowV++t).length:=by simp;omega
    have hcl:=zGf (zG (U.getD i [])) (U.getD i []).length (zAg _) (by omega);refine vAu<|zA<|vT ((i:Int)<↑(Aa U))<|vKB<|vAe<|zB rfl<|vr 5 ((0:Int)<=(i:Int)/\(i:Int)<↑(Aa U))<|vo 27 0 i<|vr 1 (0<Aa (Aj i<|Aw<|rwB (Ae rowV U++t)))<|vsh 28 hx<|vc hcl<|vr 1 ((0:Int)<=(i:Int)/\(i:Int)<↑(Aa U))<|vo 30 0 i<|vr 1 (Bk.fz (rwB (Ae rowV U++t))=Ad/\Ab=Ab/\1=1/\i+1<=Aa (Aw<|rwB (Ae rowV U++t))/\¬0∈[])<|vb 0 (Ao (setAt (Aw<|rwB (Ae rowV U++t)) i<|cellsOf<|Am (zG<|Af U i [])<|Aa<|Af U i []) (Bk.ty<|rwB (Ae rowV U++t)) (Bk.sz<|rwB (Ae rowV U++t)) Ab Ad<|Bk.kd<|rwB (Ae rowV U++t)) (Ao (Ae rowV U++t) (54:TypeId) 1 Ab Ad Au)<|vnil<|zD<|vN<|zB rfl<|vr 2 (i6 (↑i+1))<|vnil<|zC<|⟨i+1,by omega,by omega,?_⟩;refine vk 2 ?_;grind [zYg]
   refine vAu<|zA<|vF ((i:Int)<(Aa U:Int))<|vZ2<|vA<|ve (ae_)<|zE<|zN (2<=2) [AF [Al<|Ap AA ar,Ai 0 0 (Aa U) (Aa U) Ab],Al<|Ap AA (0:Int)] (.inr rfl) ?_ (hc:=by omega);exact⟨by kernel_rfl,by kernel_rfl⟩
  | false=>
   rw[hsb]at hS a1;rw[if_neg (by decide)]at hS;have hpos:0<n:=by
    rcases Cg n with h|h
    ·subst hn;rw[List.length_eq_zero_iff.1 h]at hsb;cases hsb
    exact h
   have a2:=(sortR_a rows n hn (by omega) hpos hl).atG (st:=[rwB (rows.map rowV),relB (iD 0) nl]) 0 rfl (Bk.free_arr rfl rfl) (Bk.free_arr rfl rfl) zJt;rw[<-hS]at a2;refine zQ Tb_ok mixed BY rfl (keepB rfl)<|vAu<|zA<|vA<|vrT 1<|vnt [rwB<|Ae rowV rows,Ao [iD 0,nl] 85 0 Ad Ad Au]<|zZ [] [] [Ai 0 0 n n Ab,AD (Fn.func 120) [] []] [Ai 0 0 n n Ab,AD (Fn.func 120) [] []] (LeL.refl _) (by exact a1) ?_;refine v0s<|veT<|vt<|zB rfl<|vrT 1<|vnt [Ao (Ae rowV rows) 54 1 Ab Ad Au,q4_]<|zZ [] [] [Ai 0 0 n n Ab,AD (Fn.func 120) [] []] [Ai 0 0 n n Ab,AD (Fn.func 120) [] []] (LeL.refl _) (by exact a2) ?_;refine v0s<|veT<|vA<|vrT 1<|vnt [Ao (Ae rowV S) 54 1 Ab Ad Au,q4_]<|zZ [] [] [Ai 0 0 n n Ab,AD (Fn.func 99) [] []] [Ai 0 0 n n Ab,AD (Fn.func 99) [] []] (LeL.refl _) (by exact a3) ?_;refine v0s<|veT<|zA<|vAe<|vF ((Aa U:Int)>(65536:Int))<|vK<|zA<|vAe<|zJ<|zK (λ(i:Nat)=>fr 35 [(0,iD ar),(1,Ai 0 0 (Aa U) (Aa U) Ab),(4,Ax 1 0),(5,iD 0),(19,iD<|Aa U),(20,iD i)]) (λ(i:Nat)=>[rwB (U.map rowV++t),relB (iD 0) nl]) (λ(i:Nat)=>U.length-i) (λ(i:Nat)=>i<=U.length) 0 ?_ ?_ ?_
   ·omega
   ·refine vk 2 ?_;grind [zYg]
   rintro i h1;rcases AN i U.length with h2|h2
   ·have hx:=zPb U t i h2;have hst:=zW9 U t i h2;have hlr:=hum _ (zCq U [] i (h:=h2));have hlc:i<(U.map rowV++t).length:=by simp;omega
    have hcl:=zGf (zG (U.getD i [])) (U.getD i []).length (zAg _) (by omega);refine vAu<|zA<|vT ((i:Int)<↑(Aa U))<|vKB<|vAe<|zB rfl<|vr 5 ((0:Int)<=(i:Int)/\(i:Int)<↑(Aa U))<|vo 27 0 i<|vr 1 (0<Aa (Aj i<|Aw<|rwB (Ae rowV U++t)))<|vsh 28 hx<|vc hcl<|vr 1 ((0:Int)<=(i:Int)/\(i:Int)<↑(Aa U))<|vo 30 0 i<|vr 1 (Bk.fz (rwB (Ae rowV U++t))=Ad/\Ab=Ab/\1=1/\i+1<=Aa (Aw<|rwB (Ae rowV U++t))/\¬0∈[])<|vb 0 (Ao (setAt (Aw<|rwB (Ae rowV U++t)) i<|cellsOf<|Am (zG<|Af U i [])<|Aa<|Af U i []) (Bk.ty<|rwB (Ae rowV U++t)) (Bk.sz<|rwB (Ae rowV U++t)) Ab Ad<|Bk.kd<|rwB (Ae rowV U++t)) (Ao (Ae rowV U++t) (54:TypeId) 1 Ab Ad Au)<|vnil<|zD<|vN<|zB rfl<|vr 2 (i6 (↑i+1))<|vnil<|zC<|⟨i+1,by omega,by omega,?_⟩;refine vk 2 ?_;grind [zYg]
   refine vAu<|zA<|vF ((i:Int)<(Aa U:Int))<|vZ2<|vA<|ve (ae_)<|zE<|zN (2<=2) [AF [Al<|Ap AA ar,Ai 0 0 (Aa U) (Aa U) Ab],Al<|Ap AA (0:Int)] (.inr rfl) ?_ (hc:=by omega);exact⟨by kernel_rfl,by kernel_rfl⟩
 exact key.cut 1 (by simp) rfl
set_option maxHeartbeats 2000000 in
theorem buildF_a(ar:Int)(rows:List Rw)(n:Nat)(hn:rows.length=n)(hb:n<=2000000)(hU65:65536<(relR rows).length)(hl:∀r∈rows,r.length<=2000000):∃t:List D,Acts Ah 91 [iD ar, .osl 0 0 n n Ab] [rwB (rows.map rowV)] [] (.tup [.agg [iD 0,nl],iD 11]) [rwB ((relR rows).map rowV++t)]:=by
 obtain⟨S,hS⟩:∃S,S=if srtB rows then rows else zNj rows:=⟨_,rfl⟩
 have hSl:S.length=n:=by
  rw[hS];split
  ·exact hn
  rw[(zCr rows).length_eq,hn]
 have hSm:∀r∈S,r.length<=2000000:=λr hr=>by
  grind [zCr]
 obtain⟨t,hc⟩:=zTa S n hSl (by omega) hSm;refine⟨t,?_⟩;have hu:=zWy S;have hum:∀r∈uq S,r.length<=2000000:=λr hr=>hSm r (uq_mem hr);have hrel:relR rows=uq S:=by rw[hS];rfl
 rw[hrel]at hU65⊢;have hs:=zPa rows n hn (by omega) hl;have a1:=hs.atG (st:=[rwB (rows.map rowV),relB (iD 0) nl]) 0 rfl (Bk.free_arr rfl rfl) (Bk.free_arr rfl rfl) zJt;have a3:=hc.atG (st:=[rwB (S.map rowV),relB (iD 0) nl]) 0 rfl (Bk.free_arr rfl rfl) (Bk.free_arr rfl rfl) zJt;generalize hU:uq S=U at*;have key:Acts Ah 91 [iD ar, .osl 0 0 n n Ab] [rwB (rows.map rowV)] [] (.tup [.agg [iD 0,nl],iD 11]) [rwB (U.map rowV++t),relB (iD 0) nl]:=by
  cases hsb:srtB rows with
  |true=>
   rw[hsb]at hS a1;rw[if_pos rfl]at hS;subst hS;refine zQ Tb_ok mixed BY rfl (keepB rfl)<|vAu<|zA<|vA<|vrT 1<|vnt [rwB<|Ae rowV S,Ao [iD 0,nl] 85 0 Ad Ad Au]<|zZ [] [] [Ai 0 0 n n Ab,AD (Fn.func 120) [] []] [Ai 0 0 n n Ab,AD (Fn.func 120) [] []] (LeL.refl _) (by exact a1) ?_;refine v0s<|veT<|vf<|vK<|vA<|vrT 1<|vnt [Ao (Ae rowV S) 54 1 Ab Ad Au,q4_]<|zZ [] [] [Ai 0 0 n n Ab,AD (Fn.func 99) [] []] [Ai 0 0 n n Ab,AD (Fn.func 99) [] []] (LeL.refl _) (by exact a3) ?_;refine v0s<|veT<|zA<|vAe<|vT ((Aa U:Int)>(65536:Int))<|vA<|ve (aa_)<|zE<|zH<|zN (2<=2) [AF [q2_,nl],Al<|Ap AA 11] (.inr rfl) ?_ (hc:=by omega);exact⟨by kernel_rfl,by kernel_rfl⟩
  | false=>
   rw[hsb]at hS a1;rw[if_neg (by decide)]at hS;have hpos:0<n:=by
    grind
   have a2:=(sortR_a rows n hn (by omega) hpos hl).atG (st:=[rwB (rows.map rowV),relB (iD 0) nl]) 0 rfl (Bk.free_arr rfl rfl) (Bk.free_arr rfl rfl) zJt;rw[<-hS]at a2;refine zQ Tb_ok mixed BY rfl (keepB rfl)<|vAu<|zA<|vA<|vrT 1<|vnt [rwB<|Ae rowV rows,Ao [iD 0,nl] 85 0 Ad Ad Au]<|zZ [] [] [Ai 0 0 n n Ab,AD (Fn.func 120) [] []] [Ai 0 0 n n Ab,AD (Fn.func 120) [] []] (LeL.refl _) (by exact a1) ?_;refine v0s<|veT<|vt<|zB rfl<|vrT 1<|vnt [Ao (Ae rowV rows) 54 1 Ab Ad Au,q4_]<|zZ [] [] [Ai 0 0 n n Ab,AD (Fn.func 120) [] []] [Ai 0 0 n n Ab,AD (Fn.func 120) [] []] (LeL.refl _) (by exact a2) ?_;refine v0s<|veT<|vA<|vrT 1<|vnt [Ao (Ae rowV S) 54 1 Ab Ad Au,q4_]<|zZ [] [] [Ai 0 0 n n Ab,AD (Fn.func 99) [] []] [Ai 0 0 n n Ab,AD (Fn.func 99) [] []] (LeL.refl _) (by exact a3) ?_;refine v0s<|veT<|zA<|vAe<|vT ((Aa U:Int)>(65536:Int))<|vA<|ve (aa_)<|zE<|zH<|zN (2<=2) [AF [q2_,nl],Al<|Ap AA 11] (.inr rfl) ?_ (hc:=by omega);exact⟨by kernel_rfl,by kernel_rfl⟩
 exact key.cut 1 (by simp) rfl
end
section
open Go.RowKit
section
variable{α:Type}{g:α->List D}{c:Nat}
theorem zDn(hg:∀a,(g a).length=c)(l:List α):(l.flatMap g).length=l.length*c:=by
 induction l<;>grind
theorem fl_drop(hg:∀a,(g a).length=c)(l:List α)(i:Nat):(l.flatMap g).drop (i*c)=(l.drop i).flatMap g:=by
 induction l generalizing i with
 |nil=>simp
 |cons a l ih=>
  cases i<;>grind [BC,Nat.add_comm,Cc,List.drop_left]
theorem fl_take(hg:∀a,(g a).length=c)(l:List α)(i:Nat):(l.flatMap g).take (i*c)=(l.take i).flatMap g:=by
 induction l generalizing i with
 |nil=>simp
 |cons a l ih=>
  cases i<;>grind [BC,Nat.add_comm,List.take_append,AM]
theorem zK0[Inhabited α](hg:∀a,(g a).length=c)(l:List α)(i:Nat)(h:i<l.length):(l.flatMap g).drop (i*c)=g (l.getD i Ak)++(l.drop (i+1)).flatMap g:=by
 grind [fl_drop,Bs,AE]
theorem zC0[Inhabited α](hg:∀a,(g a).length=c)(l:List α)(i:Nat)(h:i<l.length):((l.flatMap g).drop (i*c)).take c=g (l.getD i Ak):=by
 grind [zK0,AM]
theorem zDe(hg:∀a,(g a).length=c)(hc:0<c)(l:List α)(h:0<l.length:=by omega):l.flatMap g≠[]:=λe=>by
 have:=zDn hg l
 rw[e]at this;have h2:0<l.length*c:=Nat.mul_pos h hc;simp only[A8]at this;omega
theorem zFw[Inhabited α](hg:∀a,(g a).length=c)(l:List α)(i:Nat)(h:i<l.length):c<=((l.flatMap g).drop (i*c)).length:=by
 grind [zK0,Bi]
theorem fl_app(l:List α)(a:α):l.flatMap g++g a=(l++[a]).flatMap g:=by simp
theorem zPd(hg:∀a,(g a).length=c)(l:List α)(n:Nat)(h:l.length=n):(l.flatMap g).take (n*c)=l.flatMap g:=by grind [AM,zDn]
theorem zEl[Inhabited α](l:List α)(i:Nat)(h:i<l.length):l.take (i+1)=l.take i++[l.getD i Ak]:=by
 simp_all
end
def To:Par:=⟨λf=>f==91,λ_ _=>Ag,λ_=>Ad,λ_=>Ad,λ_=>Ad⟩
theorem zAx:zA9 Ah To:=by intro t n f h;cases h
theorem zJ4(cols:List Nat)(i:Nat)(h:i<cols.length):((cols.map λc=>iD (c:Nat)).drop i).headD .unk=iD (cols.getD i 0:Nat):=by simp_all
end
section
open Go.RowKit
attribute [local irreducible] seqW awp zAd zAi zY Weak updS zAr retL Pure Acts rP setP setQ cP nP fr
set_option maxRecDepth 4096
abbrev relD(ar:Int)(L:List Rw):D:= .agg [iD ar, .row (L.map rowV) L.length]
abbrev relZ:D:= .agg [iD 0, .row [] 0]
theorem zP9(ar:Int)(L:List D)(n:Nat):Pure Ah 49 [.agg [iD ar, .row L n]] [] (iD ar):=by
 refine zF zAx mixed Tryz.func49 rfl<|vAu<|vA<|ve (True/\0<2)<|zE<|vret (True)<|.inr rfl
theorem zKj(ar:Int)(L:List D)(n:Nat):Pure Ah 33 [.agg [iD ar, .row L n]] [] (iD (n:Nat)):=by
 refine zF zAx mixed Tryz.func33 rfl<|vAu<|vA<|ve (True/\0<1)<|zE<|vret (True)<|.inr rfl
theorem new_c(ar:Int)(h0:0<=ar)(h1:ar<=32):Pure Ah 89 [iD ar] [] (.tup [.agg [iD ar, .row [] 0],iD 0]):=by
 refine zF zAx mixed Tryz.func89 rfl<|vAu<|zA<|vA<|vew [] [(2,Ad)] (decide (ar<0)=Ad)<|vF (ar>(32:Int))<|vK<|vA<|ve (((1=1/\1<=2/\True)/\Ab=Ab)/\Ad=Ad/\Ab=Ab/\2=2/\2<=2)<|zE<|vret (2<=2)<|.inr rfl
theorem newBad_c(ar:Int)(h:ar<0\/32<ar):Pure Ah 89 [iD ar] [] (.tup [relZ,iD 3]):=by
 by_cases h0:ar<0
 ·refine zF zAx mixed Tryz.func89 rfl<|vAu<|zA<|vA<|vew [] [(2,Ab)] (decide (ar<0)=Ab)<|vt<|vA<|ve (aa_)<|zE<|zH<|vret (2<=2)<|.inr rfl
 have h1:32<ar:=by omega
 refine zF zAx mixed Tryz.func89 rfl<|vAu<|zA<|vA<|vew [] [(2,Ad)] (decide (ar<0)=Ad)<|vT (ar>(32:Int))<|vA<|ve (aa_)<|zE<|zH<|vret (2<=2)<|.inr rfl
def accE(ar:Int)(x:Rw):Int:=if(x.length:Int)≠ar then 6 else if x.all vok then 0 else 4
theorem accepts_c(ar:Int)(x:Rw)(hx:x.length<=2000000):Pure Ah 90 [.agg [iD ar, .row [] 0],rowV x] [] (iD (accE ar x)):=by
 have hv:=rvalid_c x _ rfl (by omega);unfold accE;by_cases h:(x.length:Int)=ar
 ·subst h;rw[if_neg (λk=>k rfl)];cases hb:x.all vok
  ·rw[hb]at hv;refine zF zAx mixed Tryz.func90 rfl<|vAu<|zA<|vA<|ve (ag_)<|zEz (t:=(Aa x:Int)!=(Aa x:Int)) (by kernel_rfl) (by simp)<|vK<|zA<|vA<|vrT 1<|vc (hv)<|veT<|vt<|vAe<|zE<|zH<|vret (True)<|.inr rfl
  rw[hb]at hv;refine zF zAx mixed Tryz.func90 rfl<|vAu<|zA<|vA<|ve (ag_)<|zEz (t:=(Aa x:Int)!=(Aa x:Int)) (by kernel_rfl) (by simp)<|vK<|zA<|vA<|vrT 1<|vc (hv)<|veT<|vf<|vK<|vAe<|zE<|vret (True)<|.inr rfl
 rw[if_pos h];refine zF zAx mixed Tryz.func90 rfl<|vAu<|zA<|vA<|ve (ag_)<|zFv (t:=(Aa x:Int)!=ar) (by kernel_rfl) (by simpa using by omega)<|vAe<|zE<|zH<|vret (True)<|.inr rfl
def accL(ar:Int):List Rw->Int
 |[]=>0
 |x::l=>if accE ar x≠0 then accE ar x else accL ar l
theorem accL_at{ar:Int}:∀{L:List Rw}{i:Nat},(∀j,j<i->accE ar (L.getD j [])=0)->i<L.length->accE ar (L.getD i [])≠0->accL ar L=accE ar (L.getD i [])
 |x::l,0,_,_,h=>by
  grind [accE,only,accL]
 |x::l,i+1,h,hi,he=>by
  have h0:accE ar x=0:=h 0 (by omega);simp only[accL];rw[if_neg (by rw[h0];exact λk=>k rfl)]
  have:=accL_at (ar:=ar) (L:=l) (i:=i) (λj hj=>by have:=h (j+1) (by omega);simpa using this) (by simpa using hi) (by simpa using he)
  rw[this];simp
theorem accL_0{ar:Int}:∀{L:List Rw},(∀j,j<L.length->accE ar (L.getD j [])=0)->accL ar L=0
 |[],_=>rfl
 |x::l,h=>by
  have h0:accE ar x=0:=h 0 (by simp);simp only[accL];rw[if_neg (by rw[h0];exact λk=>k rfl)];exact accL_0 λj hj=>by have:=h (j+1) (by simpa using hj);simpa using this
def rofE(ar:Int)(rows:List Rw):Int:=if accL ar rows≠0 then accL ar rows else if 65536<(relR rows).length then 11 else 0
set_option maxHeartbeats 2000000 in
theorem zXi(ar:Int)(rows:List Rw)(n:Nat)(h0:0<=ar)(h32:ar<=32)(hn:rows.length=n)(hb:n<=2000000)(hl:∀r∈rows,r.length<=2000000):Pure Ah 48 [iD ar, .row (rows.map rowV) n] [] (if rofE ar rows=0 then .tup [relD ar (relR rows),iD 0]else .tup [relZ,iD (rofE ar rows)]):=by
 subst hn;have hnew:=new_c ar h0 h32;have hcl:=zV5 (rows.map rowV) rows.length (by simp) (by omega);rw[BH]at hcl;refine zF zAx mixed Tryz.func48 rfl<|vAu<|vA<|vrT 1<|vc (hnew)<|ve (ad_)<|zA<|vAe<|vf<|vK<|zA<|vAe<|zJ<|zK (λ(i:Nat)=>fr 41 [(0,iD ar),(1,Am (Ae rowV rows)<|Aa rows),(4,Ax 0 0),(6,Ax 1 0),(20,iD (Aa rows:Int)),(21,iD (i:Int))]) (λ(i:Nat)=>[relB (iD 0) nl,relB (iD ar)<|.row [] 0]) (λ(i:Nat)=>rows.length-i) (λ(i:Nat)=>i<=rows.length/\∀j,j<i->accE ar (rows.getD j [])=0) 0 ?_ ?_ ?_
 ·grind
 ·refine vk 2
 rintro i ⟨h1,h2⟩;rcases AN i rows.length with h3|h3
 ·have hx:=zB3 rows i (h:=h3);have hne:rows.map rowV≠[]:=zAc;have hlr:=hl _ (zCq rows [] i (h:=h3));have hac:=accepts_c ar (rows.getD i []) hlr;have hat:=accL_at h2 h3;by_cases he:accE ar (rows.getD i [])=0
  ·rw[he]at hac;refine vAu<|zA<|vT ((i:Int)<↑(Aa rows))<|vKB<|vAe<|zA<|vd [1,2,3,0,4,5,6]<|vr 3 (ix ↑i ↑(Aa rows) (Ae rowV rows≠[]))<|vp 27 i (Ae rowV rows)<|vr 2 (2<=2/\0<Aa (Aj i<|Ae rowV rows))<|vsh 28 hx<|vc hac<|veT<|vAe<|vf<|zT<|zD<|vN<|zB rfl<|vr 2 (i6 (↑i+1))<|vnil<|zC<|⟨i+1,⟨by omega,λj hj=>?_⟩,by omega,?_⟩
   ·grind
   refine vk 2
  have hat:=hat he;have hro:rofE ar rows=accE ar (rows.getD i []):=by unfold rofE;rw[if_pos (by rw[hat];exact he),hat]
  rw[hro,if_neg he];generalize accE ar (rows.getD i [])=e at*;refine vAu<|zA<|vT ((i:Int)<↑(Aa rows))<|vKB<|vAe<|zA<|vd [1,2,3,0,4,5,6]<|vr 3 (ix ↑i ↑(Aa rows) (Ae rowV rows≠[]))<|vp 27 i (Ae rowV rows)<|vr 2 (2<=2/\0<Aa (Aj i<|Ae rowV rows))<|vsh 28 hx<|vc hac<|veT<|vAe<|zFv (t:=e !=(0:Int)) (by kernel_rfl) (by simpa using by omega)<|vA<|ve (aa_)<|zE<|zL<|zH<|zH<|zL<|zH<|vret (2<=2)<|.inr rfl
 have ha0:accL ar rows=0:=accL_0 λj hj=>h2 j (by omega);by_cases hU:(relR rows).length<=65536
 ·have hro:rofE ar rows=0:=by unfold rofE;rw[if_neg (by rw[ha0];exact λk=>k rfl),if_neg (by omega)]
  obtain⟨t,hbu⟩:=build_a ar rows _ rfl hb hU hl;have hbk:∀(b0 b1:Bk),Acts Ah 91 [iD ar, .osl 2 0 rows.length rows.length Ab] [b0,b1,rwB (rows.map rowV)] [] (.tup [.agg [iD ar, .osl 2 0 (relR rows).length (relR rows).length Ab],iD 0]) [b0,b1,rwB ((relR rows).map rowV++t)]:=λb0 b1=>
   hbu.atG (st:=[b0,b1,rwB (rows.map rowV)]) 2 rfl (Bk.free_arr rfl rfl) (Bk.free_arr rfl rfl) zQl
  have htk:((relR rows).map rowV++t).take (relR rows).length=(relR rows).map rowV:=List.take_left' (by simp);rw[hro,if_pos rfl];refine vAu<|zA<|vF ((i:Int)<↑(Aa rows))<|vZ2<|vA<|vrT 2<|vn hcl<|vnt [relB (iD 0) nl,relB (iD ar)<|Am [] 0,Ao (Ae rowV rows) (54:TypeId) 1 Ab Ad Au]<|zZ [] [] [iD ar,Ai 2 0 (Aa rows) (Aa rows) Ab] [iD ar,Ai 2 0 (Aa rows) (Aa rows) Ab] (LeL.refl _) (by exact hbk _ _) ?_;refine v0s<|ve (ad_)<|zE<|zBm (2<=2) (D.tup [AF [iD ar,Am (As (Aa<|relR rows)<|Aj 0 (Ae rowV (relR rows)++t))<|Aa<|relR rows],iD 0]) (D.tup [AF [Al<|Ap AA ar,Am (Ae rowV<|relR rows)<|Aa<|relR rows],Al<|Ap AA 0]) (.inr rfl) (by simp(disch:=omega) only[AS,htk]) rfl (hc:=by omega)
 have hro:rofE ar rows=11:=by unfold rofE;rw[if_neg (by rw[ha0];exact λk=>k rfl),if_pos (by omega)]
 obtain⟨t,hbu⟩:=buildF_a ar rows _ rfl hb (by omega) hl;have hbk:∀(b0 b1:Bk),Acts Ah 91 [iD ar, .osl 2 0 rows.length rows.length Ab] [b0,b1,rwB (rows.map rowV)] [] (.tup [.agg [iD 0,nl],iD 11]) [b0,b1,rwB ((relR rows).map rowV++t)]:=λb0 b1=>
  hbu.atG (st:=[b0,b1,rwB (rows.map rowV)]) 2 rfl (Bk.free_arr rfl rfl) (Bk.free_arr rfl rfl) zQl
 rw[hro,if_neg (by decide)];refine vAu<|zA<|vF ((i:Int)<↑(Aa rows))<|vZ2<|vA<|vrT 2<|vn hcl<|vnt [relB (iD 0) nl,relB (iD ar)<|Am [] 0,Ao (Ae rowV rows) (54:TypeId) 1 Ab Ad Au]<|zZ [] [] [iD ar,Ai 2 0 (Aa rows) (Aa rows) Ab] [iD ar,Ai 2 0 (Aa rows) (Aa rows) Ab] (LeL.refl _) (by exact hbk _ _) ?_;refine v0s<|ve (ad_)<|zE<|vret (2<=2)<|.inr rfl;trace_state
theorem relOf_c(ar:Int)(rows:List Rw)(n:Nat)(h0:0<=ar)(h32:ar<=32)(hn:rows.length=n)(hb:n<=65536)(hl:∀r∈rows,r.length<=2000000):Pure Ah 48 [iD ar, .row (rows.map rowV) n] [] (if accL ar rows=0 then .tup [relD ar (relR rows),iD 0]else .tup [relZ,iD (accL ar rows)]):=by
 grind [zXi,zHv,rofE,accL]
def zC7(L:List Rw)(n:Nat):List D:=L.map rowV++Az (n-L.length) (.val (.slice Ag 0 0))
theorem fillR_0(n:Nat):repL n [.val (.slice Ag 0 0)]=zC7 [] n:=by grind [zFc,zC7]
theorem zS0{L:List Rw}(h:L.length<=n):(zC7 L n).length=n:=by simp[zC7];omega
theorem zSz(L:List Rw)(n:Nat)(r:Rw)(h:L.length<n):(zC7 L n).set L.length (rowV r)=zC7 (L++[r]) n:=by
 unfold zC7;rw[List.set_append,if_neg (by simp)];simp only[AW,Nat.sub_self,List.map_append,A6,Bb,Bi,Ba,A8,List.append_assoc,BA,BS];congr 1;rw[show n-L.length=(n-(L.length+1))+1 by omega,By,List.set_cons_zero]
theorem zS1(L:List Rw):zC7 L L.length=L.map rowV:=by simp[zC7]
theorem fillR_take(L:List Rw):(zC7 L L.length).take L.length=L.map rowV:=by grind [zS1,AM]
theorem zEk(L:List Rw)(i:Nat)(h:i<=L.length):(L.take i).length=i:=by grind
set_option maxHeartbeats 2000000 in
theorem zT7(ar:Int)(L:List Rw)(hb:L.length<=65536)(hl:∀r∈L,r.length<=2000000):Pure Ah 96 [relD ar L] [] (.row (L.map rowV) L.length):=by
 refine zF zAx mixed Tryz.func96 rfl<|vAu<|vA<|vr 5 (True/\0<1/\(0:Int)<=(Aa L:Int)/\(Aa L:Int)<=(Aa L:Int)/\(↑(24:Nat):Int)*(Aa L:Int)<=(281474976710656:Int)/\(Aa L:Int)<=(281474976710656:Int)/\0<1/\1=1)<|vs 3 (Ai 1 0 (Aq (Aa L:Int)) (Aq (Aa L:Int)*1) Ab) (Ai 1 0 (Aa L) (Aa L) Ab)<|veT<|zA<|vAe<|zJ<|zK (λ(i:Nat)=>fr 25 [(1,Ax 0 0),(2,nl),(3,Ai 1 0 (Aa L) (Aa L) Ab),(10,iD (Aa L:Int)),(11,iD (i:Int))]) (λ(i:Nat)=>[relB (iD ar)<|.row (L.map rowV) L.length,rwB<|zC7 (L.take i) L.length]) (λ(i:Nat)=>L.length-i) (λ(i:Nat)=>i<=L.length) 0 ?_ ?_ ?_
 ·omega
 ·refine wkn (fr 25 [(1,Ax 0 0),(2,nl),(3,Ai 1 0 (Aa L) (Aa L) Ab),(10,iD (↑(Aa L):Int)),(11,iD 0)]) [Ao [iD ar,Am (Ae rowV L) (Aa L)] 85 0 Ad Ad Au,Ao (repL (Aa L) [nl]) 54 1 Ab Ad (kdOf Ad)] (zE3 [(1,1),(2,1),(3,1),(10,1),(11,1)] (Ax 0 0=Ax 0 0/\nl=nl/\Ai 1 0 (Aa L) (Aa L) Ab=Ai 1 0 (Aa L) (Aa L) Ab/\iD (↑(Aa L):Int)=iD (↑(Aa L):Int)/\iD 0=iD (↑(0:Nat):Int)) 2 [] (by kernel_rfl) ⟨rfl,rfl,rfl,rfl,(by kernel_rfl)⟩ (by kernel_rfl) (λ_ _=>rfl) (by simp[updB,fillR_0,zGn]))
 rintro i h1;rcases AN i L.length with h2|h2
 ·have hx:=zB3 L i (h:=h2);have hne:L.map rowV≠[]:=zAc;have hlr:=hl _ (zCq L [] i (h:=h2));have hcl:=zGf (zG (L.getD i [])) (L.getD i []).length (zAg _) (by omega);have hst:=zSz (L.take i) L.length (L.getD i []) (by rw[zEk L i h1];omega);have e1:L.take (i+1)=L.take i++[L.getD i []]:=zEl L i h2;rw[zEk L i h1,<-e1]at hst;have hln:=zS0 (L:=L.take i) (n:=L.length) (by rw[zEk L i h1];omega);refine vAu<|zA<|vT ((i:Int)<↑(Aa L))<|vKB<|vAe<|zB rfl<|vr 6 (True/\0<1/\ix ↑i ↑(Aa L) (Ae rowV L≠[]))<|vp 19 i (Ae rowV L)<|vr 1 (0<Aa (Aj i<|Ae rowV L))<|vsh 20 hx<|vc hcl<|vr 1 ((0:Int)<=(i:Int)/\(i:Int)<↑(Aa L))<|vo 22 1 i<|vr 1 (Bk.fz (rwB<|zC7 (As i L)<|Aa L)=Ad/\Ab=Ab/\1=1/\i+1<=Aa (Aw<|rwB<|zC7 (As i L)<|Aa L)/\¬1∈[])<|vb 1 (Ao (setAt (Aw<|rwB<|zC7 (As i L)<|Aa L) i<|cellsOf<|Am (zG<|Af L i [])<|Aa<|Af L i []) (Bk.ty<|rwB<|zC7 (As i L)<|Aa L) (Bk.sz<|rwB<|zC7 (As i L)<|Aa L) Ab Ad<|Bk.kd<|rwB<|zC7 (As i L)<|Aa L) (Ao (zC7 (As (i+1) L)<|Aa L) (54:TypeId) 1 Ab Ad Au)<|vnil<|zD<|vN<|zB rfl<|vr 2 (i6 (↑i+1))<|vnil<|zC<|⟨i+1,by omega,by omega,?_⟩;refine vk 2
 obtain rfl:i=L.length:=by omega
 rw[Bq];have ht:=fillR_take L;refine vAu<|zA<|vF ((Aa L:Int)<↑(Aa L))<|vZ2<|vAe<|zE<|zBm (True) (Am (As (Aa L)<|Aj 0<|Aw<|rwB<|zC7 L<|Aa L)<|Aa L) (Am (Ae rowV L)<|Aa L) (.inr rfl) (by simp(disch:=omega) only[AS,ht]) rfl
set_option maxHeartbeats 4000000 in
theorem zR0(ar:Nat)(L:List Rw)(cols:List Nat)(hb:L.length<=65536)(hc32:cols.length<=32)(hl:∀r∈L,r.length=ar)(har:ar<=1000000)(hc:∀c∈cols,c<ar):Pure Ah 133 [relD (ar:Nat) L, .row (cols.map λc=>iD (c:Nat)) cols.length] [] (.tup [relD (cols.length:Nat) (relR (L.map λr=>zM r cols)),iD 0]):=by
 have hbl:∀r∈L.map λr=>zM r cols,r.length<=2000000:=λr hr=>by
  grind [only,zM,AW]
 obtain⟨t,hbu⟩:=build_a (cols.length:Nat) (L.map λr=>zM r cols) L.length (by simp) (by omega) (Nat.le_trans (zHv _) (by rw[AW];exact hb)) hbl;have hbk:∀(b0 b1:Bk),Acts Ah 91 [iD (cols.length:Nat), .osl 2 0 L.length L.length Ab] [b0,b1,rwB ((L.map λr=>zM r cols).map rowV)] [] (.tup [.agg [iD (cols.length:Nat), .osl 2 0 (relR (L.map λr=>zM r cols)).length (relR (L.map λr=>zM r cols)).length Ab],iD 0]) [b0,b1,rwB ((relR (L.map λr=>zM r cols)).map rowV++t)]:=λb0 b1=>
  hbu.atG (st:=[b0,b1,rwB ((L.map λr=>zM r cols).map rowV)]) 2 rfl (Bk.free_arr rfl rfl) (Bk.free_arr rfl rfl) zQl
 have htk:((relR (L.map λr=>zM r cols)).map rowV++t).take (relR (L.map λr=>zM r cols)).length=(relR (L.map λr=>zM r cols)).map rowV:=List.take_left' (by simp);refine zF zAx mixed Tryz.func133 rfl<|vAu<|zA<|vAe<|vF ((Aa cols:Int)>(32:Int))<|vK<|zA<|vAe<|zJ<|zK (λ(i:Nat)=>fr 63 [(1,Am (Ae (λ(c:Nat)=>iD (c:Int)) cols)<|Aa cols),(2,Ax 0 0),(4,Ax 1 0),(14,iD (Aa cols:Int)),(15,iD (i:Int))]) (λ(i:Nat)=>[relB (iD (ar:Nat))<|.row (L.map rowV) L.length,relB (iD 0) nl]) (λ(i:Nat)=>cols.length-i) (λ(i:Nat)=>i<=cols.length) 0 ?_ ?_ ?_
 ·omega
 ·refine vk 2
 rintro i h1;rcases AN i cols.length with h2|h2
 ·have hx:=zJ4 cols i h2;have hne:(cols.map λc:Nat=>iD (c:Nat))≠[]:=zAc;have hca:=hc _ (zCq cols 0 i (h:=h2));generalize cols.getD i 0=c at*;refine vAu<|zA<|vT ((i:Int)<↑(Aa cols))<|vKB<|vAe<|zA<|vd [0,1,2,3,4,5,6,7,8,10,9,11,12,13]<|vr 3 (ix ↑i ↑(Aa cols) (Ae (λ(c:Nat)=>iD c) cols≠[]))<|vp 20 i (Ae (λ(c:Nat)=>iD c) cols)<|vr 1 (0<Aa (Aj i<|Ae (λ(c:Nat)=>iD c) cols))<|vsh 21 hx<|vw 5 [] [(5,Ad)] (decide ((c:Int)<0)=Ad/\ix ↑i ↑(Aa cols) (Ae (λ(c:Nat)=>iD c) cols≠[]))<|vp 26 i (Ae (λ(c:Nat)=>iD c) cols)<|vr 2 (True/\0<Aa (Aj i<|Ae (λ(c:Nat)=>iD c) cols))<|vsh 27 hx<|ve (0<2)<|vF ((c:Int)>=(ar:Int))<|zT<|zD<|vN<|zB rfl<|vr 2 (i6 (↑i+1))<|vnil<|zC<|⟨i+1,by omega,by omega,?_⟩;refine vk 2
 refine vAu<|zA<|vF ((i:Int)<↑(Aa cols))<|vZ2<|vA<|vr 5 (True/\0<1/\(0:Int)<=(Aa L:Int)/\(Aa L:Int)<=(Aa L:Int)/\(↑(24:Nat):Int)*(Aa L:Int)<=(281474976710656:Int)/\(Aa L:Int)<=(281474976710656:Int)/\0<1/\1=1)<|vs 7 (Ai 2 0 (Aq (Aa L:Int)) (Aq (Aa L:Int)*1) Ab) (Ai 2 0 (Aa L) (Aa L) Ab)<|veT<|zA<|vAe<|zJ<|zK (λ(i:Nat)=>fr 63 [(1,Am (Ae (λ(c:Nat)=>iD c) cols)<|Aa cols),(2,Ax 0 0),(4,Ax 1 0),(7,Ai 2 0 (Aa L) (Aa L) Ab),(39,iD<|Aa L),(40,iD i)]) (λ(i:Nat)=>[relB (iD (ar:Nat))<|.row (L.map rowV) L.length,relB (iD 0) nl,rwB<|zC7 ((L.map λr=>zM r cols).take i) L.length]) (λ(i:Nat)=>L.length-i) (λ(i:Nat)=>i<=L.length) 0 ?_ ?_ ?_
 ·omega
 ·refine wkn (fr 63 [(1,Am (Ae (λ(c:Nat)=>iD (↑c:Int)) cols) (Aa cols)),(2,Ax 0 0),(4,Ax 1 0),(7,Ai 2 0 (Aa L) (Aa L) Ab),(39,iD (↑(Aa L):Int)),(40,iD 0)]) [relB (iD (↑ar:Int)) (Am (Ae rowV L) (Aa L)),relB (iD 0) nl,Ao (repL (Aa L) [nl]) 54 1 Ab Ad (kdOf Ad)] (zE3 [(1,1),(2,1),(4,1),(7,1),(39,1),(40,1)] (Am (Ae (λ(c:Nat)=>iD (↑c:Int)) cols) (Aa cols)=Am (Ae (λ(c:Nat)=>iD (↑c:Int)) cols) (Aa cols)/\Ax 0 0=Ax 0 0/\Ax 1 0=Ax 1 0/\Ai 2 0 (Aa L) (Aa L) Ab=Ai 2 0 (Aa L) (Aa L) Ab/\iD (↑(Aa L):Int)=iD (↑(Aa L):Int)/\iD 0=iD (↑(0:Nat):Int)) 3 [] (by kernel_rfl) ⟨rfl,rfl,rfl,rfl,rfl,(by kernel_rfl)⟩ (by kernel_rfl) (λ_ _=>rfl) (by simp[updB,fillR_0,zGn]))
 clear h1 h2 i;rintro i h1;have hpl:(L.map λr=>zM r cols).length=L.length:=by simp
 rcases AN i L.length with h2|h2
 ·have hx:=zB3 L i (h:=h2);have hne:L.map rowV≠[]:=zAc;have hlr:=hl _ (zCq L [] i (h:=h2));have hpj:=zZv (L.getD i []) cols _ _ rfl rfl (by omega) (by omega) (λc h=>by rw[hlr];exact hc c h);have hst:=zSz ((L.map λr=>zM r cols).take i) L.length (zM (L.getD i []) cols) (by rw[zEk _ i (by omega)];omega);have e1:(L.map λr=>zM r cols).take (i+1)=(L.map λr=>zM r cols).take i++[zM (L.getD i []) cols]:=by
   grind [zEl,zM]
  have hpc:rowV (zM (L.getD i []) cols)= .row (zG (zM (L.getD i []) cols)) cols.length:=by simp[zM]
  rw[zEk _ i (by omega),<-e1,hpc]at hst;have hln:=zS0 (L:=(L.map λr=>zM r cols).take i) (n:=L.length) (by rw[zEk _ i (by omega)];omega);refine vAu<|zA<|vT ((i:Int)<↑(Aa L))<|vKB<|vAe<|zB rfl<|vr 6 (True/\0<1/\ix ↑i ↑(Aa L) (Ae rowV L≠[]))<|vp 49 i (Ae rowV L)<|vr 1 (0<Aa (Aj i<|Ae rowV L))<|vsh 50 hx<|vrT 1<|vc hpj<|vr 4 (0<2/\1<2/\(0:Int)<=(i:Int)/\(i:Int)<↑(Aa L))<|vo 55 2 i<|vr 1 (Bk.fz (rwB<|zC7 (As i<|Ae (λ(r:List Va)=>zM r cols) L)<|Aa L)=Ad/\Ab=Ab/\1=1/\i+1<=Aa (Aw<|rwB<|zC7 (As i<|Ae (λ(r:List Va)=>zM r cols) L)<|Aa L)/\¬2∈[])<|vb 2 (Ao (setAt (Aw<|rwB<|zC7 (As i<|Ae (λ(r:List Va)=>zM r cols) L)<|Aa L) i<|cellsOf<|Am (zG<|zM (Af L i []) cols)<|Aa cols) (Bk.ty<|rwB<|zC7 (As i<|Ae (λ(r:List Va)=>zM r cols) L)<|Aa L) (Bk.sz<|rwB<|zC7 (As i<|Ae (λ(r:List Va)=>zM r cols) L)<|Aa L) Ab Ad<|Bk.kd<|rwB<|zC7 (As i<|Ae (λ(r:List Va)=>zM r cols) L)<|Aa L) (Ao (zC7 (As (i+1)<|Ae (λ(r:List Va)=>zM r cols) L)<|Aa L) (54:TypeId) 1 Ab Ad Au)<|vnil<|zD<|vN<|zB rfl<|vr 2 (i6 (↑i+1))<|vnil<|zC<|⟨i+1,by omega,by omega,?_⟩;refine vk 3
 obtain rfl:i=L.length:=by omega
 have hfa:=zS1 (L.map λr=>zM r cols);rw[hpl]at hfa;rw[AM (by omega),hfa];refine vAu<|zA<|vF ((Aa L:Int)<↑(Aa L))<|vZ2<|vA<|vrT 3<|vnt [relB (iD ar)<|Am (Ae rowV L)<|Aa L,relB (iD 0) nl,rwB<|Ae rowV<|Ae (λ(r:List Va)=>zM r cols) L]<|zZ [] [] [iD<|Aa cols,Ai 2 0 (Aa L) (Aa L) Ab] [iD<|Aa cols,Ai 2 0 (Aa L) (Aa L) Ab] (LeL.refl _) (by exact hbk _ _) ?_;refine v0s<|ve (ad_)<|zE<|zBm (2<=2) (D.tup [AF [iD<|Aa cols,Am (As (Aa<|relR<|Ae (λ(r:List Va)=>zM r cols) L)<|Aj 0 (Ae rowV (relR<|Ae (λ(r:List Va)=>zM r cols) L)++t))<|Aa<|relR<|Ae (λ(r:List Va)=>zM r cols) L],iD 0]) (D.tup [AF [Al<|Ap AA (Aa cols:Int),Am (Ae rowV<|relR<|Ae (λ(r:List Va)=>zM r cols) L)<|Aa<|relR<|Ae (λ(r:List Va)=>zM r cols) L],Al<|Ap AA 0]) (.inr rfl) (by simp(disch:=omega) only[AS,htk]) rfl (hc:=by omega)
end
section
open Go.RowKit
theorem zBr(l:List Nat)(k:Nat)(h:k<l.length):((nsD l).drop k).headD .unk=iD (l.getD k 0:Nat):=by simp_all
theorem zBj(l:List Nat)(k:Nat)(h:k<l.length):l.getD k 0∈l:=by
 grind
def zAf(m:Nat):List Nat:=(AK 32).filter λv=>m.testBit v
theorem zN5(m i:Nat)(h:i<32):((AK 32).take (i+1)).filter (λv=>m.testBit v)=((AK 32).take i).filter (λv=>m.testBit v)++if m.testBit i then[i]else[]:=by
 rw[AY (by simpa using h),List.filter_append];grind
theorem zJu(l:List Nat)(i:Nat):nsD (l++[i])=nsD l++[iD i]:=by simp
theorem zMd(l:List Nat)(n:Nat)(h:l.length=n):(nsD l).take n=nsD l:=by grind [AM]
def zBc(p:Nat->Bool)(A:List Nat):List Nat:=(AK A.length).filter λj=>p (A.getD j 0)
theorem zJg(p:Nat->Bool)(A:List Nat)(i:Nat)(h:i<A.length):((AK A.length).take (i+1)).filter (λj=>p (A.getD j 0))=((AK A.length).take i).filter (λj=>p (A.getD j 0))++if p (A.getD i 0)then[i]else[]:=by
 rw[AY (by simpa using h),List.filter_append];grind
abbrev intB(l:List D):Bk:=⟨l,3,1,Ab,Ad, .plain⟩
end
end Go.Proofs.YtjcofbkhoeockaaGreatDoor
