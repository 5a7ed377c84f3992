/- Texts of this claim, joined. -/
import Derived.Test.YtmfamhoopjeaiaaGreatDoorP01
import Derived.ProofKit
import Derived.Carry
import Derived.ChangeSame
import Derived.Lib.Bytealg
import Derived.Test.YtmfamhoopjeaiaaGreatDoorProg
import Derived.Shelf.Small.Bits
import Derived.Shelf.Small.Strs
import Derived.Shelf.Small.Wraps
import Derived.Shelf.Strconv.Itoa0
import Derived.Shelf.Strconv.Itoa1
import Derived.Shelf.LaysM
import Derived.Shelf.Strconv.Itoa2
import Derived.Shelf.Sort.Plain
import Derived.Shelf.Strconv.AppendUint10
import Derived.Shelf.Strconv.AppendInt10
import Derived.Shelf.Strconv.AppendIntPublic10
import Derived.Shelf.Slices.Turned
import Derived.Shelf.Slices.Equal
import Derived.Ground.Names2Prog
import Derived.Shelf.Slices.Clone
import Derived.Shelf.Slices.CompactI
import Derived.Shelf.Slices.SearchI
import Derived.Shelf.Slices.Cells
import Derived.Shelf.Slices.In.SortNone
import Derived.Shelf.Slices.Empties2
import Derived.BigQuiet
import Derived.Lib.SliceRun
import Derived.Lib.AppendZeros
import Derived.Laws.Append
import Derived.Lib.Strings
import Derived.Deep.QuietTactic
set_option linter.unusedVariables false
set_option linter.unusedSimpArgs false
namespace Go.Proofs.YtmfamhoopjeaiaaGreatDoor
open _root_.List renaming length->Aa,getD->Af,map->Ag,drop->Ah,set->Aq,replicate->As,take->Aw,headD->AB,getElem?_eq_getElem->AF,mem_cons->AG,mem_cons_of_mem->AJ,mem_cons_self->AM,map_cons->AO,mem_map->AQ,flatMap->AR,getD_eq_getElem?_getD->AT,all_eq_true->AX,Pairwise->AY,length_nil->AZ,map_congr_left->A0,drop_zero->A1,mem_filter->A2,getElem?_eq_some_iff->A4,length_append->A5,length_cons->A_,flatMap_cons->Bc,drop_eq_getElem_cons->Bh,pairwise_cons->Bi,foldr_cons->Bj,take_of_length_le->Bl,getElem_mem->Bp,range->Br,ext_getElem?->Bs,length_take->Bt,getElem?_eq_none->Bx,take_succ_eq_append_getElem->By,map_nil->BA,length_set->BD,getElem?_take->BG,mem_of_getElem?->BI,take_append_drop->BM,cons_append->BN,nil_append->BO,take_length->BP,drop_of_length_le->BQ,length_drop->BR,eq_nil_of_length_eq_zero->BS,getElem?_map->BU,getElem?_cons_zero->BW,getElem?_set_self->BX,getElem?_set_ne->BY,replicate_succ->B7,mem_singleton->B9,mem_append_left->B_,mem_append_right->Ca,flatten_cons->Cc,append_nil->Cd,drop_drop->Ce,length_map->Cf,getElem?_range->Cg,pairwise_map->Ci,foldl_cons->Cj,mem_append->Ck,drop_length->Cq,append_assoc->Cr,length_replicate->Cs,getElem?_append_left->Ct,idxOf_lt_length_iff->Cv
open _root_.Option renaming some->Ab,none->Ae,map_eq_some_iff->Ax,some->AN,map_some->Bw,getD_some->BV
open _root_.Bool renaming true->Ac,false->Ad,and_eq_true->AC,false_eq_true->AS,or_false->A3,not_eq_true'->A7,or_eq_true->Bd,true_and->Bu,false_and->Bv
open _root_.Inhabited renaming default->Ai
open _root_.Go.Proofs.Tryz renaming prog->Aj
open D renaming val->Ak,row->Am,agg->Az,own->AE,osl->AL
open _root_.Nat renaming le_refl->Al,zero_le->A9,add_zero->Ba,strongRecOn->Bb,lt_or_ge->Bq,succ_mul->BT,lt_of_lt_of_le->BZ,mul_one->B3,le_of_ble_eq_true->B8
open Value renaming int->An,bool->Ay,string->AD,cells->AH,okWide->Bg,ownBlock->Co
open Bk renaming mk->Ao,cells->Ar
open Kd renaming plain->Ap
open _root_.Prod renaming mk->Au,fst->BE,snd->BF
open _root_.Int renaming toNat->Av,fdiv->A8,toNat_natCast->BC
open IntKind renaming i64->AA,u64->AI,u32->Bf,bits->BK,signed->BL,wrap->Cb
open Lib renaming compareBytes->AK,run_eql_slice_nil->Bn,wpList_append_run->Cl
open Kp renaming refl->AP
open _root_.Array renaming getElem?_eq_some_iff->AU,replicate->A6,toArray_toList->BB,getD_eq_getD_getElem?->B5,getElem?_replicate->B6,getElem?_push_size->Cx
open Stp renaming refl->AV
open BeLe renaming refl->AW
open Ext renaming refl->Bm
open _root_.ByteArray renaming mk->Bo,toList_eq->Cu
open OwnRel renaming same->BH,mono->BJ
open World renaming cells?_some->Ch,ownsRow_made->Cn
open Digs renaming replicate->Cp
abbrev aa_:Prop:=((1=1/\1<=2/\1=1/\2<=2/\True)/\Ac=Ac)/\Ad=Ad/\Ac=Ac/\2=2/\2<=2
abbrev ab_(p:Prop):Prop:=Ad=Ad/\Ac=Ac/\1=1/\p
abbrev ac_(p:Prop):Prop:=True/\True/\p
abbrev ad_(p:Prop):Prop:=True/\True/\True/\p
abbrev ae_:Prop:=True/\0<2/\True/\0<1/\True
variable{a:Act}{ops:Array Oper}{want t wh:Bool}{b y b0:Code}{d x:D}{e:Eff}{Q Q':Exit->List D->List Bk->Prop}{fn:Func}{f:FuncId}{I:Im}{gs:List (Nat×Bool)}{st st' news:List Bk}{sl args ds sl' args':List D}{K:List D->List Bk->Prop}{ch raws:List Nat}{l:List Oper}{cs:List Prop}{rs:List ResultVar}{id n j i:Nat}{o:Oper}{c:Operand}{ρ:Operand->D}{p:Prop}{β α γ:Type}{ty:TypeId}{w:World}
section
open Go.RowKit
section
variable{P:Program}{T:Par}{ops:Array Oper}{ord:List Nat}{W:Nat->Nat->Bool}{Lt:Nat->List Nat}{S:Nat->List D}{R:Nat->List Bk}{Q:Exit->Act->World->Prop}{K:List D->List Bk->Prop}
variable{β0:Be}{I0:Im}{w0:World}{df:List Deferred}
theorem any_sound(hg0:Gl I0 w0)(hM:zBg P T)(F:RegF T ops ord W Lt)(hS:ops.size=ord.length)(htr:∀(p:Nat) i o,ord[p]?=Ab i->ops[i]?=Ab o->zCt P T ops o (S p) (R p) (Eqs (S (p+1)) (R (p+1))))(hK:K (S ops.size) (R ops.size))(hL:∀t e,ord[t]?=Ab e->∀i∈Lt e,∃n,zHa P T ops (ops.getD i Ai) n (S (t+1)) (R (t+1))/\(n<(R t).length->zXb (ops.getD e Ai) n (S t))/\(R t).length<=(R (t+1)).length)
  (hP:∀c a w,¬Q (.panic c) a w)(hQ:∀a' w',After T K β0 I0 w0 df a' w'->Q .normal a' w'):
  ∀(fuel:Nat)(listed:Array Bool)(a:Act)(w:World)(s t:Nat),Inv P T ops ord W S R β0 I0 w0 df s t listed a w->listed.toList.count Ad<=fuel->wpAny P .any ops Q fuel listed a w:=by
 have hop:∀p,p<ops.size->∃i o,ord[p]?=Ab i/\ops[i]?=Ab o:=λp hp=>by
  have h1:p<ord.length:=by omega
  refine⟨ord[p],ops[ord[p]]'((F.mem _).2 (Bp h1)),AF h1,by simp[(F.mem _).2 (Bp h1)]⟩
 have finish:∀(listed:Array Bool)(a:Act)(w:World)(s t:Nat),Inv P T ops ord W S R β0 I0 w0 df s t listed a w->Region.ready .any ops listed=[]->Q .normal a w:=by
  intro listed a w s t h hr;have hall:∀i,i<ops.size->Ls listed i:=by
   suffices H:∀n i,pos ord i=n->i<ops.size->Ls listed i from λi=>H _ i rfl
   intro n;induction n using Bb with
   | _ n ih=>
    intro i hn hi;by_cases hl:Ls listed i
    ·exact hl
    exfalso;have:i∈Region.ready .any ops listed:=(zDi h.size).2 ⟨hl,ops[i],by simp[hi],λd hd=>by
     have:=F.dep i ops[i] (by simp[hi]) d hd
     exact ih (pos ord d) (by omega) d rfl this.1⟩
    rw[hr]at this;cases this
  have ht:t=ops.size:=by
   rcases h.atT with h1|⟨i,o,h1,h2,h3⟩
   ·exact h1
   exact absurd (hall i (AU.1 h2).1) (h.hi t i (Al _) h1)
  subst ht;obtain⟨β,I,k1,⟨k2,k3⟩,_⟩:=h.full F hg0;have hX:zQz ops ord listed ops.size=[]:=by
   rw[List.eq_nil_iff_forall_not_mem];grind [zGa,AU]
  rw[hX]at k1;exact hQ a w ⟨_,_,β,I,hK,k1,k2,h.df,k3⟩
 intro fuel;induction fuel with
 | zero=>
  intro listed a w s t h hc;have hr:Region.ready .any ops listed=[]:=by
   cases hx:Region.ready .any ops listed with
   |nil=>rfl
   | cons i l=>
    exfalso;have hi:i∈Region.ready .any ops listed:=by rw[hx];simp
    obtain⟨hn,o,ho,_⟩:=(zDi h.size).1 hi;have hlt:i<listed.size:=by rw[h.size];exact(AU.1 ho).1
    have:listed.toList[i]?=Ab false:=by
     simp_all [Ls]
    grind
  exact⟨hr,finish listed a w s t h hr⟩
 | succ fuel ih=>
  intro listed a w s t h hc;have hcount:∀i,i∈Region.ready .any ops listed->(listed.setIfInBounds i Ac).toList.count Ad<=fuel:=by
   intro i hi;obtain⟨hn,o,ho,_⟩:=(zDi h.size).1 hi;have hlt:i<listed.size:=by rw[h.size];exact(AU.1 ho).1
   have h1:listed.toList[i]?=Ab false:=by
    simp_all [Ls]
   grind
  by_cases hlight:∃i o,i∈Region.ready .any ops listed/\ops[i]?=Ab o/\zW T o.op=Ac
  ·obtain⟨i,o,hi,ho,hl⟩:=hlight;obtain⟨o',ho',hpi,hp2⟩:=h.place F hi;rw[ho]at ho';cases ho';obtain⟨hn,o2,ho2,hd⟩:=(zDi h.size).1 hi;rw[ho]at ho2;cases ho2;have hElight:isE T o.op=false:=by
    revert hl;cases o.op<;>simp[zW,isE];grind
   have hlt:pos ord i<t:=by
    rcases hp2 with h1|h1
    ·exact h1
    exfalso;rcases h.atT with h2|⟨j,oj,j1,j2,j3⟩;all_goals grind
   obtain⟨β,I,SL,k0,k1,k2,k3,k4,k5,k6,k7,k8,k9,k10⟩:=h.ex;have first:∀(v:Value),(Region.wanted o (yielded ops a.tmps)=Ac/\(∀W:World,(execOp a.eval o).run P W= .ok (.value v) W))\/(Region.wanted o (yielded ops a.tmps)=Ad/\v=undef)->Inv P T ops ord W S R β0 I0 w0 df s t (listed.setIfInBounds i Ac) (a.put o.dst v) w->wpAny P .any ops Q (fuel+1) listed a w:=by
    intro v hv hinv;refine wpAny_first ho (Region.noSelect_spec F.nosel) (λc a w hx=>absurd hx (hP c _ _)) fuel listed a w (λj oj hj hne hun hno=>?_) hi hv (ih _ _ _ s t hinv (hcount i hi));rcases F.lig i j o oj ho hj (Ne.symm hne) hl with h1|h1|h1
    ·exact h1
    ·grind [zNb]
    exfalso
    have:=zDu F h.cl i o j ho (AU.1 hj).1 hd h1
    grind [Ls,AU]
   rcases Bq (pos ord i) s with hls|hp1
   ·obtain⟨o',n,ho',hE',hc',hg',hself,hlate,hok⟩:=h.lo _ i hls hpi hn;rw[ho]at ho';cases ho';have hlook:=h.lookL F ho hn hd hls hself hlate k2;obtain⟨d,news,n1,n2,n3⟩:=zLz hg' hok;obtain⟨_,rfl,v,v1,v2⟩:=(n1.look hlook).light hl k0;exact first v (.inl ⟨zJd (ops:=ops) k0 (zZf hg' SL),v1⟩) (h.nextL (n:=n) F hi ho hls k0 k1 k2 k3 k4 k5 k6 k7 k8 k9 k10 n2 (.inl rfl) (OutN.stay β I w _) v2)
   have hlook:=h.look F ho hn hd hp1 hlt k1 k2 k3;have hst:=zVv hElight (htr (pos ord i) i o hpi ho);rcases hst with⟨g1,d,fz,news,n1,n2,n3⟩|⟨g1,n2,n3⟩
   ·obtain⟨rfl,rfl,v,v1,v2⟩:=(n1.look hlook).light hl k0;have hw:=zJd (ops:=ops) k0 ((zTs hlook).trans g1);exact first v (.inl ⟨hw,v1⟩) (h.next F hi ho hp1 hlt k0 k1 k2 k3 k4 k5 k6 k7 k8 k9 k10 n2 n3 (OutN.stay β I w _) v2)
   have hw:=zJd (ops:=ops) k0 ((zTs hlook).trans g1);exact first undef (.inr ⟨hw,rfl⟩) (h.next (fz:=[]) (news:=[]) F hi ho hp1 hlt k0 k1 k2 k3 k4 k5 k6 k7 k8 k9 k10 n2 (by rw[n3];simp[zA3]) (OutN.stay β I w _) (Rel.valI undef))
  refine⟨finish listed a w s t h,λi hi=>?_⟩;obtain⟨o,ho,hpi,hp2⟩:=h.place F hi;obtain⟨hn,o2,ho2,hd⟩:=(zDi h.size).1 hi;rw[ho]at ho2;cases ho2;have hl:zW T o.op=false:=by
   grind
  have hordl:t<=ord.length:=by rw[<-hS];exact h.tn
  have hop':∀p,p<ord.length->∃i o,ord[p]?=Ab i/\ops[i]?=Ab o:=λp hp=>hop p (by omega);rcases Bq (pos ord i) s with hls|hp1
  ·obtain⟨β,I,SL,k0,k1,k2,k3,k4,k5,k6,k7,k8,k9,k10⟩:=h.ex;obtain⟨o',n,ho',hE',hc',hg',hself,hlate,hok⟩:=h.lo _ i hls hpi hn;rw[ho]at ho';cases ho';have hlook:=h.lookL F ho hn hd hls hself hlate k2;obtain⟨d,news,n1,n2,n3⟩:=zLz hg' hok;unfold wpOp;simp only[ho];rw[if_pos (zJd (ops:=ops) k0 (zZf hg' SL))];have hsr:SRw β I w ((R s).take n):=λk b c e hk he=>by
    rw[BG]at he;split at he
    ·obtain⟨e',m1,m2⟩:=k4 k b c hk;obtain⟨e'',n1,n2⟩:=(h.seg.store' (Al _) h.seg.le (Al _)).2 k e he;grind [BH]
    cases he
   have hnum:news=[]\/∃b e,news=[b]/\(R s)[n]?=Ab e/\SameB b e/\(R (pos ord i)).length=n/\(R (pos ord i+1)).length=n+1:=by
    rcases n3 with rfl|⟨b,e,x,q,fz,rfl,m1,m2,m3,m4,m5,m6⟩
    ·exact .inl rfl
    obtain⟨q1,q2⟩:=late_num F htr hop' hls (by have:=h.seg.le;omega) hpi ho hE' m3 m4 m6 m5 (A4.1 m1).1;grind
   have hfr:∀j,j<news.length->β (((R s).take n).length+j)=none:=by
    intro j hj;rcases hnum with rfl|⟨b,e,rfl,m1,m2,q1,q2⟩;all_goals grind
   refine .inl (Oper.wp_mono (λa' w' hx=>?_) ((n1.look hlook).heavy hM hl k0 hsr k7 (hg0.mono k8.1.fix) hfr Q));obtain⟨v,β',I',rfl,o1,o2⟩:=hx;exact ih _ _ _ s t (h.nextL F hi ho hls k0 k1 k2 k3 k4 k5 k6 k7 k8 k9 k10 n2 hnum o1 o2) (hcount i hi)
  rcases hp2 with hlt|hpt
  ·have hE:isE T o.op=false:=by
    obtain⟨j,oj,j1,j2,j3,_⟩:=h.seg.step _ hp1 hlt;grind
   obtain⟨β,I,SL,k0,k1,k2,k3,k4,k5,k6,k7,k8,k9,k10⟩:=h.ex;have hlook:=h.look F ho hn hd hp1 hlt k1 k2 k3;have hst:=zVv hE (htr (pos ord i) i o hpi ho);unfold wpOp;simp only[ho];rcases hst with⟨g1,d,fz,news,n1,n2,n3⟩|⟨g1,n2,n3⟩
   ·rw [if_pos (zJd (ops:=ops) k0 ((zTs hlook).trans g1))];have hsr:SRw β I w (R (pos ord i)):=λk b c e hk he=>by
     obtain⟨e',m1,m2⟩:=k4 k b c hk;obtain⟨e'',n1,n2⟩:=(h.seg.store' hp1 (Nat.le_of_lt hlt) (Al _)).2 k e he;grind [BH]
    have hfr:∀j,j<news.length->β ((R (pos ord i)).length+j)=none:=by
     intro j hj;cases hb:β ((R (pos ord i)).length+j)with
     |none=>rfl
     | some x=>
      exfalso;have hlen:(R (pos ord i+1)).length=(R (pos ord i)).length+news.length:=by rw[n3,A5,zAc]
      rcases k9 _ x hb with h3|⟨p,j',a1,a2,a3,a4,a5,a6⟩
      ·have:=(h.seg.store' (Al _) hp1 (by omega)).1
       omega
      rcases Nat.lt_trichotomy p (pos ord i)with h3|h3|h3
      ·have:=(h.seg.store' (show s<=p+1 by omega) (show p+1<=pos ord i by omega) (by omega)).1
       omega
      ·grind
      have:=(h.seg.store' (show s<=pos ord i+1 by omega) (show pos ord i+1<=p by omega) (by omega)).1
      omega
    refine .inl (Oper.wp_mono (λa' w' hx=>?_) ((n1.look hlook).heavy hM hl k0 hsr k7 (hg0.mono k8.1.fix) hfr Q));obtain⟨v,β',I',rfl,o1,o2⟩:=hx;exact ih _ _ _ s t (h.next F hi ho hp1 hlt k0 k1 k2 k3 k4 k5 k6 k7 k8 k9 k10 n2 n3 o1 o2) (hcount i hi)
   rw[if_neg (by rw[zJd (ops:=ops) k0 ((zTs hlook).trans g1)];simp)];exact ih _ _ _ s t (h.next (fz:=[]) (news:=[]) F hi ho hp1 hlt k0 k1 k2 k3 k4 k5 k6 k7 k8 k9 k10 n2 (by rw[n3];simp[zA3]) (OutN.stay β I w _) (Rel.valI undef)) (hcount i hi)
  have hE:isE T o.op=true:=by
   rcases h.atT with h1|⟨j,oj,j1,j2,j3⟩;all_goals grind
  have hlates:∀x ox,ops[x]?=Ab ox->pos ord x<t->¬Ls listed x->x∈Lt i:=by
   suffices H:∀n x ox,pos ord x=n->ops[x]?=Ab ox->pos ord x<t->¬Ls listed x->x∈Lt i from λx ox=>H _ x ox rfl
   intro n;induction n using Bb with
   | _ n ihx=>
    intro x ox hn hx hp hnx;have hne:i≠x:=λe=>by rw[<-e]at hp;omega
    rcases F.eff1 i x o ox ho hx hne hE (by omega)with h1|h1|⟨h1,h2⟩
    ·exact absurd (zDu F h.cl i o x ho (AU.1 hx).1 hd h1) hnx
    ·exact h1
    exfalso;refine hlight ⟨x,ox,(zDi h.size).2 ⟨hnx,ox,hx,λd hd'=>?_⟩,hx,h1⟩;have h3:=F.dep x ox hx d hd';grind
  obtain⟨β,I,sim,⟨stp,kp⟩,hk10⟩:=h.full F hg0;have htlt:t<ops.size:=by rw[<-hpt];exact(op_at F ho).2
  obtain⟨t',t1,t2,t3⟩:=next_seg (P:=P) (T:=T) htr hop (ops.size-(t+1)) (t+1) (by omega);have hls:∀j,Ls (listed.setIfInBounds i Ac) j↔j=i\/Ls listed j:=λj=>ls_set (by rw[h.size];exact(AU.1 ho).1);have hpi':ord[t]?=Ab i:=hpt▸hpi;have hod:ops.getD i Ai=o:=by simp[ho]
  have hlo:∀j,¬Ls (listed.setIfInBounds i Ac) j->¬Ls listed j/\j≠i:=λj hl=>⟨λk=>hl ((hls j).2 (.inr k)),λk=>hl ((hls j).2 (.inl k))⟩;have hlt':∀p j,p<t+1->ord[p]?=Ab j->¬Ls (listed.setIfInBounds i Ac) j->p<t/\¬Ls listed j/\j∈Lt i:=λp j hp hj hl=>by
   obtain⟨l1,l2⟩:=hlo j hl;have hpt':p<t:=by
    grind
   have hjm:=(F.mem j).2 (BI hj);exact⟨hpt',l1,hlates j ops[j] (by simp[hjm]) (by rw[zCb F.nodup hj];exact hpt') l1⟩
  have hgrow:∀p j,p<t->ord[p]?=Ab j->¬Ls listed j->∀q,p<=q->q<t->(R q).length<=(R (q+1)).length:=λp j hp hj hl q h1 h2=>by
   rcases Bq q s with h3|h3
   ·exact h.mo p j (by omega) hj hl q h1 h3
   exact(h.seg.store' h3 (show q<=q+1 by omega) (by omega)).1
  have hX1:∀x∈o.looksAt ops,x∉zQz ops ord listed t:=λx hx hm=>by
   obtain⟨p,j,oj,m1,m2,m3,m4,m5⟩:=zGa.1 hm;have hpj:pos ord j=p:=zCb F.nodup m2;have hne:i≠j:=λe=>by rw[<-e]at hpj;omega
   rcases F.haz i j o oj x ho m4 hne m5 hx with hz|hz
   ·exact m3 (zDu F h.cl i o j ho (AU.1 m4).1 hd hz)
   have:=zQr F j oj i m4 (AU.1 ho).1 hz
   omega
  have hX2:∀x,o.dst=Ab x->x∉zQz ops ord listed t:=λx hx hm=>by
   obtain⟨p,j,oj,m1,m2,m3,m4,m5⟩:=zGa.1 hm;have hpj:pos ord j=p:=zCb F.nodup m2;exact F.dst i j o oj x ho m4 (λe=>by rw[<-e]at hpj;omega) hx m5
  have cont:∀a' w' β' I',Sim β' I' w' (unkS (zQz ops ord listed t) (S (t+1))) (R (t+1)) a'.tmps.toList->Stp β I w β' I' w'->a'.defers=a.defers->Kp T β β'->(Lt i=[]\/(R t).length<=(R (t+1)).length)->
    (∀p j,p<t->ord[p]?=Ab j->¬Ls listed j->∀k,(R p).length<=k->k<(R (p+1)).length->β' k=Ae)->wpAny P .any ops Q fuel (listed.setIfInBounds i Ac) a' w':=by
   intro a' w' β' I' q1 q2 q3 q4 q5 q6;refine ih _ _ _ (t+1) t' ⟨by rw[Array.size_setIfInBounds];exact h.size,h.cl.set hi,t1,t2,λp j hp hj hl=>?_,λp j hp hj hl'=>?_,t3,q3.trans h.df,λp j hp hj hl q h1 h2=>?_,β',I',unkS (zQz ops ord listed t) (S (t+1)),q1.rel,zGk _ _,λx _ hx=>?_,λp j oj x a1 a2 a3 a4 a5 a6=>?_,λk b c hk=>?_,q1.inj,λk b c j e hk he hj=>?_,q1.imb,⟨stp.trans q2,kp.trans q4⟩,λk x hk=> .inl (q1.dom k x hk),λp j hp hj hl k c1 c2=>?_⟩ (hcount i hi)
   ·obtain⟨_,_,l3⟩:=hlt' p j hp hj hl;obtain⟨oj,m1,m2,m3,m4,m5,m6⟩:=F.latE i j l3;obtain⟨n,n1,_⟩:=hL t i hpi' j l3;rw[show ops.getD j Ai=oj by simp[m1]]at n1;exact⟨oj,n,m1,m2,m3,m4,m5,m6,n1⟩
   ·have:=t2.le
    rcases(hls j).1 hl' with rfl|h5
    ·have:=zCb F.nodup hj;omega
    exact h.hi p j (by omega) hj h5
   ·obtain⟨l1,l2,l3⟩:=hlt' p j hp hj hl;grind
   ·refine unkS_out λhm=>?_;obtain⟨p,j,oj,m1,m2,m3,m4,m5⟩:=zGa.1 hm;grind
   ·exfalso;rcases(hls j).1 a4 with rfl|h5
    ·have:=zCb F.nodup a3;omega
    exact h.hi p j (by omega) a3 h5
   ·obtain⟨e,m1,m2⟩:=q1.sr k b c hk;obtain⟨e',n1,n2⟩:=(t2.store' (Al _) t2.le (Al _)).2 k e m1;grind [BH]
   ·obtain⟨e0,m1,m2⟩:=q1.sr k b c hk;obtain⟨e',n1,n2⟩:=(t2.store' (Al _) t2.le (Al _)).2 k e0 m1;rw[he]at n1;cases n1
    have:=q1.fz k b c j e0 hk m1 hj
    exact⟨n2.2.2.2.2.2 this.1,by rw[n2.1,n2.2.2.2.2.1];exact this.2⟩
   grind
  have hst0:=htr t i o hpi' ho;have hst:=step_mask hst0 hX1 hX2;unfold wpOp;simp only[ho];rcases zP1 (ops:=ops) (N:=Eqs (unkS (zQz ops ord listed t) (S (t+1))) (R (t+1))) sim hst with⟨g1,g2⟩|⟨g1,g2,g3⟩
  ·rw [if_pos g1];cases hcv:zE7 o.op with
   | true=>
    have hlen:Lt i=[]\/(R t).length<=(R (t+1)).length:=by
     rcases hx:Lt i with _|⟨j,l⟩
     ·exact .inl rfl
     obtain⟨n,_,_,n3⟩:=hL t i hpi' j (by rw[hx];exact AM);exact .inr n3
    refine .inl (Oper.wp_mono (λa' w' hx=>?_) (zR0 hM o g2 sim Q));obtain⟨sl',st',β',I',⟨rfl,rfl⟩,q2,q3,q4,q5⟩:=hx;refine cont a' w' β' I' q2 q3 q4 q5 hlen λp j hp hj hl k c1 c2=>?_;have hjm:=(F.mem j).2 (BI hj);have hjl:=hlates j ops[j] (by simp[hjm]) (by rw[zCb F.nodup hj];exact hp) hl;obtain⟨oj,m1,m2,m3,m4,_⟩:=F.latE i j hjl;have hnn:=F.latA i o ho hE j hjl hcv;rw[show ops.getD j Ai=oj by simp[m1]]at hnn;grind [noNew_len]
   | false=>
    refine .inl (Oper.wp_mono (λa' w' hx=>?_) (effE_sound hM o g2 hE hcv sim Q));obtain⟨β',I',q2,q3,q4,q5,q6⟩:=hx;refine cont a' w' β' I' q2 q3 q4 q5 (.inr (stepE_len hst0 hE hcv)) λp j hp hj hl k c1 c2=>?_;have hjm:=(F.mem j).2 (BI hj);have hjl:=hlates j ops[j] (by simp[hjm]) (by rw[zCb F.nodup hj];exact hp) hl;obtain⟨oj,m1,m2,m3,m4,_⟩:=F.latE i j hjl;obtain⟨n,n1,n2,_⟩:=hL t i hpi' j hjl;rw[show ops.getD j Ai=oj by simp[m1]]at n1;rw[hod]at n2;have hrg:=late_range (s:=t+1) F htr hop' (by omega) (by omega) hj m1 m2 m3 m4 n1;have hkn:k=n:=by
     omega
    have hkt:k<(R t).length:=by
     have key:∀m,p+1+m<=t->(R (p+1)).length<=(R (p+1+m)).length:=by
      intro m;induction m with
      |zero=>intro _;exact Al _
      |succ m ihm=>
       intro hm;have h2:=hgrow p j hp hj hl (p+1+m) (by omega) (by omega);grind
     have:=key (t-(p+1)) (by omega)
     rw[show p+1+(t-(p+1))=t by omega]at this;omega
    refine q6 k hkt (hk10 p j hp hj hl k c1 c2) λy hy=>?_;rw[hkn,zZr (ops:=ops) (o:=o) (sl:=S t) (λx hx=>zNs (hX1 x hx)) y hy];exact n2 (by omega) y hy
  rw[if_neg (by simp[g1])];refine cont _ _ β I ?_ (AV _ _ _) (zA2 _ _ _) (AP _ _) (.inr ?_) hk10
  ·rw[<-g2,<-g3];exact sim.skip o.dst
  grind
variable{β:Be}
theorem zMs(hM:zBg P T)(hm:P.follows .mixedOrders=Ac){l0:List Nat}{its:List zMf}(hok:zN6 T ops l0 its=Ac)(hq:seqF P T ops l0 its sl st K)(h:Sim β I w sl st a.tmps.toList)
  (hP:∀c a w,¬Q (.panic c) a w)(hQ:∀a' w',After T K β I w a.defers a' w'->Q .normal a' w'):(Code.region id ops Ac).wp P Q a w:=by
 have F:=RegF.of hok;obtain⟨S,R,s1,s2,s3,s4,s5⟩:=traceF hq;generalize hord:zF4 l0 its=ord at F s3 s4;rw[F.len]at s3;have htr:∀(p:Nat) i o,ord[p]?=Ab i->ops[i]?=Ab o->zCt P T ops o (S p) (R p) (Eqs (S (p+1)) (R (p+1))):=λp i o hp ho=>by
  have:=s4 p i hp
  simp_all
 have hL:∀t e,ord[t]?=Ab e->∀i∈zRo its e,∃n,zHa P T ops (ops.getD i Ai) n (S (t+1)) (R (t+1))/\(n<(R t).length->zXb (ops.getD e Ai) n (S t))/\(R t).length<=(R (t+1)).length:=by
  intro t e ht i hi;unfold zRo at hi;split at hi
  ·rename_i x hx;obtain⟨y,hy,rfl⟩:=AQ.1 hi;have hxe:x.1=e:=by have:=List.find?_some hx;simpa using this
   obtain⟨pre,post,hpp⟩:=List.append_of_mem (List.mem_of_find?_eq_some hx);obtain⟨k1,k2⟩:=s5 pre x post hpp;have ht2:ord[l0.length+(zBs pre).length]?=Ab e:=by
    rw[<-hord,zF4,List.getElem?_append_right (by omega),hpp];simp only[zBs,List.flatMap_append,Bc];grind
   have e1:=zCb F.nodup ht;have e2:=zCb F.nodup ht2;have e3:t=l0.length+(zBs pre).length:=by omega
   rw[e3];exact⟨y.2,k2.2 y hy,λhlt=>by rw[<-hxe];exact k1 y hy hlt,k2.1⟩
  cases hi
 have hop:∀p,p<ops.size->∃i o,ord[p]?=Ab i/\ops[i]?=Ab o:=λp hp=>by
  have h1:p<ord.length:=by rw[F.len];exact hp
  refine⟨ord[p],ops[ord[p]]'((F.mem _).2 (Bp h1)),AF h1,by simp[(F.mem _).2 (Bp h1)]⟩
 obtain⟨t,t1,t2,t3⟩:=next_seg (P:=P) (T:=T) htr hop ops.size 0 (by omega);refine wp_region_any hm ?_;have hfix:Fix I w I {w with drawn:=w.drawn+1}:=λb o hi=>⟨hi,λv hv=>hv,λ_ _ h=>h⟩;refine any_sound (β0:=β) (I0:=I) (w0:=w) (df:=a.defers) h.gl hM F F.len.symm htr s3 hL hP hQ ops.size _ a _ 0 t ⟨by simp,?_,t1,t2,λp i hp=>by omega,λp i _ _ hl=>?_,t3,rfl,λp i hp=>by omega,β,I,S 0,?_,rfl,λx _ _=>rfl,λp i o x _ _ _ hl=>?_,λk b c hk=>?_,h.inj,λk b c j e hk he hj=>?_,h.imb,?_,λk x hk=> .inl (by rw[s2];exact h.dom k x hk),λp i hp=>by omega⟩ ?_
 ·intro k ok _ hl;exfalso;revert hl;simp only[B5,B6];split<;>simp
 ·revert hl;unfold Ls;simp only[B5,B6];split<;>simp
 ·rw[s1];exact RelT.mono hfix _ _ (AW _) _ _ h.rel
 ·exfalso;revert hl;unfold Ls;simp only[B5,B6];split<;>simp
 ·obtain⟨e,m1,m2⟩:=h.sr k b c hk;rw[<-s2]at m1;obtain⟨e',n1,n2⟩:=(t2.store' (Al _) t2.le (Al _)).2 k e m1;grind [BH,BJ,AW]
 ·obtain⟨e0,m1,m2⟩:=h.sr k b c hk;have m1':=m1;rw[<-s2]at m1;obtain⟨e',n1,n2⟩:=(t2.store' (Al _) t2.le (Al _)).2 k e0 m1;rw[he]at n1;cases n1
  have:=h.fz k b c j e0 hk m1' hj
  exact⟨n2.2.2.2.2.2 this.1,by rw[n2.1,n2.2.2.2.2.1];exact this.2⟩
 ·exact⟨⟨hfix,Al _,λ_ _ _=>rfl,rfl,rfl,rfl,Nat.le_succ _,λk b c hk=> .inl ⟨k,c,hk⟩,λ_ _ h=> .inl h⟩,AP _ _⟩
 simp
theorem zZu(hM:zBg P T)(hm:P.follows .mixedOrders=Ac)(hok:regOk T ops ord=Ac)(hq:seqW P T ops Ac (ord.map λi=>ops.getD i Ai) sl st K)(h:Sim β I w sl st a.tmps.toList)
  (hP:∀c a w,¬Q (.panic c) a w)(hQ:∀a' w',After T K β I w a.defers a' w'->Q .normal a' w'):(Code.region id ops Ac).wp P Q a w:=
 zMs (l0:=ord) (its:=[]) hM hm (regOk3_of hok) hq h hP hQ
end
section
variable{P:Program}{T:Par}
def okE:Exit->Prop
 | .normal| .exit _| .ret=>True
 |_=>False
def Lift(T:Par)(Q:Exit->List D->List Bk->Prop)(β:Be)(I:Im)(w:World)(df:List Deferred):Exit->Act->World->Prop:=λe a' w'=>okE e/\After T (Q e) β I w df a' w'
theorem least{p:Nat->Prop}(h:∃n,p n):∃n,p n/\∀m,m<n->¬p m:=by
 obtain⟨n,hn⟩:=h;induction n using Bb with
 |_ n ih=>
  grind
def InLoop(P:Program)(c:Code)(Q:Exit->Act->World->Prop)(a:Act)(w:World):Prop:=∀b k cs,∃e a' w',Q e a' w'/\Arrives P (lone (b.at a (.code c:: .inLoop c::k)) cs w) b k cs e a' w'
theorem InLoop.wp{c:Code}{Q:Exit->Act->World->Prop}{a:Act}{w:World}(h:InLoop P c Q a w):(Code.loop c).wp P Q a w:=by
 intro b k cs;obtain⟨e,a',w',hq,harr⟩:=h b k cs;exact⟨e,a',w',hq, .of_steps (.one step_loop) harr⟩
theorem InLoop.of_round{c:Code}{Q:Exit->Act->World->Prop}(h:c.wp P (Exit.then (InLoop P c Q) Q) a w):InLoop P c Q a w:=by
 intro b k cs;obtain⟨e,a₁,w₁,hq,harr⟩:=h b (.inLoop c::k) cs;cases e with
 |normal=>
  obtain⟨e₂,a₂,w₂,hq₂,harr₂⟩:=hq b k cs;exact⟨e₂,a₂,w₂,hq₂, .of_steps (Steps.trans harr (.one step_inLoop)) harr₂⟩
 |exit id=>exact⟨_,a₁,w₁,hq, .pass (x:= .inLoop c) rfl (λ_ _=> .inl (by simp)) harr⟩
 |goto l=>exact⟨_,a₁,w₁,hq, .pass (x:= .inLoop c) rfl (λ_ _=> .inl (by simp)) harr⟩
 |ret=>exact⟨_,a₁,w₁,hq, .pass (x:= .inLoop c) rfl (λ_ _=> .inl (by simp)) harr⟩
 |panic ch=>exact⟨_,a₁,w₁,hq, .pass (x:= .inLoop c) rfl (λ_ _=> .inl (by simp)) harr⟩
 |outgrown=>exact⟨_,a₁,w₁,hq, .pass (x:= .inLoop c) rfl (λ_ _=> .inl (by simp)) harr⟩
theorem zQn(hM:zBg P T)(hm:P.follows .mixedOrders=Ac):∀(c:Code)(Q:Exit->List D->List Bk->Prop)(sl:List D)(st:List Bk)(β:Be)(I:Im)(a:Act)(w:World),
  awp P T c Q sl st->Sim β I w sl st a.tmps.toList->c.wp P (Lift T Q β I w a.defers) a w:=by
 intro c;induction c with
 |skip=>intro Q sl st β I a w h hs;exact wp_skip ⟨trivial,sl,st,β,I,h,hs,AV _ _ _,rfl,AP _ _⟩
 | region id ops dr=>
  intro Q sl st β I a w h hs;simp only[awp]at h;cases dr with
  |true=>
   simp only[if_true]at h;rcases h with⟨ord,h1,h2⟩|⟨l0,its,h1,h2⟩
   ·exact zZu hM hm h1 h2 hs (λc a w hx=>hx.1) (λa' w' hx=>⟨trivial,hx⟩)
   exact zMs hM hm h1 h2 hs (λc a w hx=>hx.1) (λa' w' hx=>⟨trivial,hx⟩)
  |false=>
   simp only[AS,if_false]at h;refine wp_region (zN2 hM (Br ops.size) ops.toList ?_ sl st β I a w _ h hs (λa' w' hx=>⟨trivial,hx⟩));apply Bs;grind
 | seq x y ihx ihy=>
  intro Q sl st β I a w h hs;simp only[awp]at h;refine wp_seq (wp_mono (ihx _ sl st β I a w h hs) λe a' w' hq=>?_);obtain⟨h1,sl',st',β',I',q1,q2,q3,q4,q5⟩:=hq;cases e with
  |normal=>
   obtain⟨sl1,st1,m1,m2⟩:=q1;obtain⟨β1,I1,k1,k2,k3⟩:=m1 β' I' w' _ q2;refine wp_mono (ihy Q sl1 st1 β1 I1 a' w' m2 k1) λe a'' w'' hq=>?_;obtain⟨h1,sl'',st'',β'',I'',r1,r2,r3,r4,r5⟩:=hq;exact⟨h1,sl'',st'',β'',I'',r1,r2,(q3.trans k2).trans r3,r4.trans q4,(q5.trans k3).trans r5⟩
  |exit id=>exact⟨trivial,sl',st',β',I',q1,q2,q3,q4,q5⟩
  |ret=>exact⟨trivial,sl',st',β',I',q1,q2,q3,q4,q5⟩
  |_=>exact h1.elim
 | cond c x y ihx ihy=>
  intro Q sl st β I a w h hs;simp only[awp]at h;have hc:=zAw hs.rel c;split at h
  ·rename_i t ht;rw[ht]at hc;simp only[Rel]at hc;exact wp_cond_split hc (λhx=>ihx Q sl st β I a w (h.1 hx) hs) (λhx=>ihy Q sl st β I a w (h.2 hx) hs)
  exact h.elim
 | block id b ih=>
  intro Q sl st β I a w h hs;simp only[awp]at h;refine wp_block (wp_mono (ih _ sl st β I a w h hs) λe a' w' hq=>?_);obtain⟨h1,sl',st',β',I',q1,q2,q3,q4,q5⟩:=hq;cases e with
  |normal=>exact⟨trivial,sl',st',β',I',q1,q2,q3,q4,q5⟩
  | exit j=>
   simp only[zR]at q1;simp only[Exit.inBlock];by_cases hj:j=id
   ·rw[if_pos hj]at q1;simp only[hj,if_true];exact⟨trivial,sl',st',β',I',q1,q2,q3,q4,q5⟩
   rw[if_neg hj]at q1;simp only[hj,if_false];exact⟨trivial,sl',st',β',I',q1,q2,q3,q4,q5⟩
  |ret=>exact⟨trivial,sl',st',β',I',q1,q2,q3,q4,q5⟩
  |_=>exact h1.elim
 | loop b ih=>
  intro Q sl st β I a w h hs;simp only[awp]at h;have hX:=h (λsl1 st1=>∀β1 I1 a1 w1,Sim β1 I1 w1 sl1 st1 a1.tmps.toList->Stp β I w β1 I1 w1->a1.defers=a.defers->Kp T β β1->InLoop P b (Lift T Q β I w a.defers) a1 w1) ?_
  ·obtain⟨sl',st',h1,h2⟩:=hX;obtain⟨β',I',k1,k2,k3⟩:=h1 β I w _ hs;exact(h2 β' I' a w k1 k2 rfl k3).wp
  intro Y sl1 st1 hY hb β1 I1 a1 w1 j2 j3 j4 j5;refine InLoop.of_round (wp_mono (ih _ sl1 st1 β1 I1 a1 w1 hb j2) λe a' w' hq=>?_);obtain⟨e1,sl2,st2,β2,I2,q1,q2,q3,q4,q5⟩:=hq;cases e with
  |normal=>
   obtain⟨sl3,st3,m2,m3⟩:=hY sl2 st2 q1;obtain⟨β3,I3,k3,k4,k5⟩:=m2 β2 I2 w' _ q2;exact m3 β3 I3 a' w' k3 ((j3.trans q3).trans k4) (q4.trans j4) ((j5.trans q5).trans k5)
  |exit id=>exact⟨trivial,sl2,st2,β2,I2,q1,q2,j3.trans q3,q4.trans j4,j5.trans q5⟩
  |ret=>exact⟨trivial,sl2,st2,β2,I2,q1,q2,j3.trans q3,q4.trans j4,j5.trans q5⟩
  |_=>exact e1.elim
 |exit id=>intro Q sl st β I a w h hs;exact wp_exit ⟨trivial,sl,st,β,I,h,hs,AV _ _ _,rfl,AP _ _⟩
 |label l=>intro Q sl st β I a w h hs;exact wp_label ⟨trivial,sl,st,β,I,h,hs,AV _ _ _,rfl,AP _ _⟩
 |ret=>intro Q sl st β I a w h hs;exact wp_ret ⟨trivial,sl,st,β,I,h,hs,AV _ _ _,rfl,AP _ _⟩
 |_=>intro Q sl st β I a w h hs;exact h.elim
end
def LeD(d d':D):Prop:=∀I w β v,Rel I w β d v->Rel I w β d' v
mutual
/-- nil as an empty row, throughout -/
def zHn:D->D
 | .val v=>match v with
  | .slice Ae 0 0=> .row [] 0
  |v=> .val v
 | .agg cs=> .agg (zJz cs)
 | .tup cs=> .tup (zJz cs)
 | .ifc t d=> .ifc t (zHn d)
 |d=>d
def zJz:List D->List D
 |[]=>[]
 |d::ds=>zHn d::zJz ds
end
mutual
theorem zJb{I:Im}{w:World}{β:Be}:∀(d:D)(v:Value),Rel I w β d v->Rel I w β (zHn d) v
 | .val u,v,h=>by
  simp only[zHn];split
  ·simp only[Rel]at h⊢;exact⟨Ae,0,h,Al _,by decide,λ_=>rfl, .inl trivial⟩
  exact h
 | .agg cs,v,h=>by
  simp only[zHn,Rel]at h⊢;obtain⟨vs,rfl,h⟩:=h;exact⟨vs,rfl,zMn cs vs h⟩
 | .tup cs,v,h=>by
  simp only[zHn,Rel]at h⊢;obtain⟨vs,rfl,h⟩:=h;exact⟨vs,rfl,zMm cs vs h⟩
 | .ifc t d,v,h=>by
  simp only[zHn,Rel]at h⊢;obtain⟨u,rfl,h⟩:=h;exact⟨u,rfl,zJb d u h⟩
 | .unk,v,h=>h
 | .row cs n,v,h=>h
 | .ptr cs,v,h=>h
 | .clo f x y,v,h=>h
 | .own k o,v,h=>h
 | .osl k o n m b,v,h=>h
 | .mref k,v,h=>h
 | .mfz ks cs,v,h=>h
 | .fx d,v,h=>h
 | .osr ..,v,h=>h
theorem zMn{I:Im}{w:World}{β:Be}:∀(ds:List D)(vs:List Value),RelL I w β ds vs->RelL I w β (zJz ds) vs
 |[],vs,h=>h
 |d::ds,vs,h=>by
  simp only[zJz,RelL]at h⊢;obtain⟨v,us,rfl,h1,h2,h3⟩:=h;exact⟨v,us,rfl,h1,zJb d v h2,zMn ds us h3⟩
theorem zMm{I:Im}{w:World}{β:Be}:∀(ds:List D)(vs:List Value),RelT I w β ds vs->RelT I w β (zJz ds) vs
 |[],vs,h=>h
 |d::ds,vs,h=>by
  simp only[zJz,RelT]at h⊢;obtain⟨v,us,rfl,h2,h3⟩:=h;exact⟨v,us,rfl,zJb d v h2,zMm ds us h3⟩
end
theorem nilRow_le(d:D):LeD d (zHn d):=λI w β v h=>zJb d v h
section
variable{P:Program}{T:Par}
def zRd(P:Program)(sl:List D)(st:List Bk):ResultVar->Eff
 | .tmp t=> .get True (sl.getD t .unk)
 | .cell a t=>match sl.getD a .unk with
  | .ptr cs=>ldP P t cs .get
  | .own k off=>match st[k]? with
   |some e=>if e.kd.isMap then .bad else ldP P t (e.cells.drop off) .get
   |none=> .bad
  |_=> .bad
def retL(P:Program)(sl:List D)(st:List Bk):List ResultVar->(List D->Prop)->Prop
 |[],K=>K []
 |r::rs,K=>match zRd P sl st r with
  | .get p d=>p/\retL P sl st rs (λds=>K (d::ds))
  |_=>False
def oneD:List D->D
 |[d]=>d
 |ds=> .tup ds
variable{β:Be}
theorem zV9(h:Sim β I w sl st a.tmps.toList)(r:ResultVar)(he:zRd P sl st r= .get p d)(hp:p):
  ∃v,(match r with
   | .tmp t=>pure (a.tmps.getD t undef)
   | .cell x t=>do loadVar t (<-asAddr (a.tmps.getD x undef)):Sem Value).run P w= .ok v w/\Rel I w β d v:=by
 cases r with
 |tmp t=>
  simp only[zRd,Eff.get.injEq]at he;obtain⟨rfl,rfl⟩:=he
  have:=zAw h.rel (.tmp t)
  exact⟨_,rfl,this⟩
 | cell x t=>
  have hx:Rel I w β (sl.getD x .unk) (a.tmps.getD x undef):=zAw h.rel (.tmp x);have key:∀(b o:Nat)(v:Value),(Instr.loadAt t (.pointer (Ab ⟨b,o,Ae⟩))).run P w= .ok v w->(loadVar t ⟨b,o,Ae⟩).run P w= .ok v w:=by
   intro b o v hl;simpa[Instr.loadAt,Instr.sureAddr]using hl
  simp only[zRd]at he;split at he
  ·rename_i cs hc;rw[hc]at hx;simp only[Rel]at hx;obtain⟨b,o,hv,hr⟩:=hx;obtain⟨v,k1,k2⟩:=zKy (I:=I) (w:=w) (β:=β) (b:=b) (o:=o) (λj x hx=>by
    obtain⟨_,v,k1,k2,k3⟩:=hr.get j x hx;exact⟨v,k1,k2,k3.no⟩) he hp
   exact⟨v,by simp[hv,asAddr,key _ _ _ k1],k2⟩
  ·rename_i k off hc;rw[hc]at hx;simp only[Rel]at hx;obtain⟨b,c,hb,hv⟩:=hx;split at he
   ·rename_i e hk;split at he
    ·cases he
    rename_i hmap;have ho':=(h.sr.weak k b c e hb hk).c (by simpa using hmap);obtain⟨v,k1,k2⟩:=zKy (I:=I) (w:=w) (β:=β) (b:=b) (o:=off) (λj x hx=>by
     rw[List.getElem?_drop]at hx;obtain⟨v,k1,k2,k3⟩:=ho'.cells_get hx;refine⟨v,k1,k2,?_⟩;cases ha:e.nob<;>simp only[ha,if_true,if_false,AS]at k3
     ·exact k3
     exact k3.no) he hp
    exact⟨v,by simp[hv,asAddr,key _ _ _ k1],k2⟩
   cases he
  cases he
theorem zRc{sl:List D}{st:List Bk}{β:Be}{I:Im}{w:World}{a:Act}(h:Sim β I w sl st a.tmps.toList):∀(rs:List ResultVar)(K:List D->Prop),retL P sl st rs K->∃ds vs,K ds/\RelT I w β ds vs/\vs.length=rs.length/\
  (rs.mapM (m:=Sem) λr=>match r with
   | .tmp t=>pure (a.tmps.getD t undef)
   | .cell x t=>do loadVar t (<-asAddr (a.tmps.getD x undef))).run P w= .ok vs w
 |[],K,hk=>⟨[],[],hk,by simp only[RelT],rfl,by simp⟩
 | r::rs,K,hk=>by
  simp only[retL]at hk;split at hk
  ·rename_i p d hd;obtain⟨v,k1,k2⟩:=zV9 (P:=P) h r hd hk.1;obtain⟨ds,vs,m1,m2,m3,m4⟩:=zRc h rs _ hk.2;refine⟨d::ds,v::vs,m1,by simp only[RelT];exact⟨v,vs,rfl,k2,m2⟩,by simp[m3],?_⟩;simp_all
  exact hk.elim
theorem zGq(h:Sim β I w sl st a.tmps.toList){K:List D->Prop}(hk:retL P sl st fn.results.toList K):
  ∃ds v,K ds/\Rel I w β (oneD ds) v/\(results fn a.tmps).run P w= .ok v w:=by
 obtain⟨ds,vs,m1,m2,m3,m4⟩:=zRc (P:=P) h _ K hk;have hl:=m2.length;refine⟨ds,if h:vs.toArray.size=1 then vs.toArray[0]else .tuple vs.toArray,m1,?_,?_⟩
 ·match ds,m2,hl with
  |[],m2,hl=>simp only[RelT]at m2;subst m2;simp[oneD,Rel,RelT]
  |[d],m2,hl=>
   simp only[RelT]at m2;grind [oneD]
  |d::d'::ds,m2,hl=>
   have:¬(vs.toArray.size=1):=by simp[<-hl]
   rw[dif_neg this];simp only[oneD,Rel];exact⟨vs,rfl,m2⟩
 unfold results;have hm:=zC1 (P:=P) fn.results _ vs w m4;rw[Sem.run_bind];erw[hm];rfl
theorem zNy{vs:List Value}(h:RelT I w β args vs)(n:Nat):RelT I w β (args++As n .unk) (vs.toArray++A6 n undef).toList:=by
 have hrep:RelT I w β (As n .unk) (As n undef):=by
  induction n with
  |zero=>simp only[List.replicate_zero,RelT]
  |succ n ih=>simp only[B7,RelT];exact⟨_,_,rfl,by simp only[Rel],ih⟩
 have:=h.append hrep
 simpa using this
variable{c:Code}
theorem zJ(hM:zBg P T)(hm:P.follows .mixedOrders=Ac)(hf:P.funcs[f]?=Ab fn)(hb:fn.body=Ab c)
  (h:awp P T c (λe sl st=>(e= .normal\/e= .ret)/\retL P sl st fn.results.toList (λds=>∃y ks,frz Ac st zAz (oneD ds)=Ab (y,ks)/\LeD y x)) (args++As (fn.ntmps-args.length) .unk) []):Pure P f args [] x:=by
 intro I w vs hr hi hg;have hlen:=hr.length;refine calls_of_wp hf hb ?_;have hsim:Sim noB I w (args++As (fn.ntmps-args.length) .unk) [] (vs.toArray++A6 (fn.ntmps-vs.toArray.size) undef).toList:=by
  refine⟨?_,?_,?_,?_,?_,hi,hg⟩
  ·grind [zNy]
  ·intro k b c h;cases h
  ·intro k k' b c c' h;cases h
  ·intro k b c j e h;cases h
  intro k x h;cases h
 refine wp_mono (zQn hM hm c _ _ _ noB I {tmps:=vs.toArray++A6 (fn.ntmps-vs.toArray.size) undef,defers:=[]} w h hsim) λe a' w' hq=>?_;obtain⟨e1,sl',st',β',I',⟨q0,q1⟩,q2,q3,q4,q5⟩:=hq;have fin:a'.defers=[]/\∃v,(results fn a'.tmps).run P w'= .ok v w'/\∃v' I' γ,Ending.returned v= .returned v'/\Ext w w'/\ImB I' w'/\Fix I w I' w'/\(∀b o,I' b o->I b o\/w.heap.size<=b)/\
  (∀k b c,γ k=Ab (b,c)->w.heap.size<=b)/\SR γ I' w' []/\Inj γ/\FZ γ I' []/\(∀k y,γ k=Ab y->k<([]:List Bk).length)/\Rel I' w' γ x v'/\(∀e∈([]:List Bk),e.arr=Ac/\e.kd= .plain):=by
  obtain⟨ds,v,⟨y,ks,k1,kle⟩,k2,k3⟩:=zGq (P:=P) (fn:=fn) q2 q1;have k4:=zCp q2.sr.weak _ _ _ _ _ k1 k2;refine⟨q4,v,k3,v,fixI I' β' st' ks,noB,rfl,⟨⟨q3.os,q3.tape,q3.output,q3.size,λb hb=>q3.out b hb (λk c h=>by cases h)⟩,q3.dr⟩,zFw q2.sr.weak q2.imb ks,q3.fix.trans (zAv ks),λb o hx=>?_,λk b c h=>(by cases h),λk b c h=>(by cases h),λk k' b c c' h=>(by cases h),λk b c j e h=>(by cases h),λk y h=>(by cases h),kle _ _ _ _ k4,by simp⟩;rcases hx with hx|⟨k,_,c,e,hk,_⟩
  ·rcases q3.im b o hx with h1|h1|⟨k,c,h1⟩
   ·exact .inl h1
   ·exact .inr h1
   cases h1
  rcases q3.be k b c hk with⟨k',c',h1⟩|h1
  ·cases h1
  exact .inr h1
 rcases q0 with rfl|rfl
 ·exact fin
 exact fin
theorem zE0(hM:zBg P T)(hm:P.follows .mixedOrders=Ac)(hf:P.funcs[f]?=Ab fn)(hb:fn.body=Ab c){b:Bk}{m:Nat}(hba:b.arr=Ac)
  (h:awp P T c (λe sl st=>(e= .normal\/e= .ret)/\retL P sl st fn.results.toList (λds=>∃k,oneD ds= .osl k 0 n m Ac/\st[k]?=Ab b)) (args++As (fn.ntmps-args.length) .unk) [])(hkd:b.kd= .plain:=by rfl):Pure P f args [b] (.osl 0 0 n m Ac):=by
 intro I w vs hr hi hg;have hnb:b.nob=true:=by unfold Bk.nob;rw[hba,hkd];rfl
 have hmap:b.kd.isMap=false:=by rw[hkd];rfl
 have hlen:=hr.length;refine calls_of_wp hf hb ?_;have hsim:Sim noB I w (args++As (fn.ntmps-args.length) .unk) [] (vs.toArray++A6 (fn.ntmps-vs.toArray.size) undef).toList:=by
  refine⟨?_,?_,?_,?_,?_,hi,hg⟩
  ·grind [zNy]
  ·intro k b c h;cases h
  ·intro k k' b c c' h;cases h
  ·intro k b c j e h;cases h
  intro k x h;cases h
 refine wp_mono (zQn hM hm c _ _ _ noB I {tmps:=vs.toArray++A6 (fn.ntmps-vs.toArray.size) undef,defers:=[]} w h hsim) λe a' w' hq=>?_;obtain⟨e1,sl',st',β',I',⟨q0,q1⟩,q2,q3,q4,q5⟩:=hq;have fin:a'.defers=[]/\∃v,(results fn a'.tmps).run P w'= .ok v w'/\∃v' I' γ,Ending.returned v= .returned v'/\Ext w w'/\ImB I' w'/\Fix I w I' w'/\(∀b o,I' b o->I b o\/w.heap.size<=b)/\
  (∀k b c,γ k=Ab (b,c)->w.heap.size<=b)/\SR γ I' w' [b]/\Inj γ/\FZ γ I' [b]/\(∀k y,γ k=Ab y->k<[b].length)/\Rel I' w' γ (.osl 0 0 n m Ac) v'/\(∀e∈[b],e.arr=Ac/\e.kd= .plain):=by
  obtain⟨ds,v,⟨k,k1,k1'⟩,k2,k3⟩:=zGq (P:=P) (fn:=fn) q2 q1;have hg:∀j y,(λj=>if j=0 then β' k else Ae:Be) j=Ab y->j=0/\β' k=Ab y:=λj y hj=>by
   grind
  have hown:∀bb c,β' k=Ab (bb,c)->OwnRel I' w' (λj=>if j=0 then β' k else Ae) bb c b:=by
   intro bb c hk;obtain⟨cur,c1,c2,c3,c4⟩:=(q2.sr.weak k bb c b hk k1').c hmap;refine OwnC.r ⟨cur,c1,c2,?_,c4⟩ hmap;rw[hnb]at c3⊢;exact c3
  refine⟨q4,v,k3,v,I',λj=>if j=0 then β' k else Ae,rfl,⟨⟨q3.os,q3.tape,q3.output,q3.size,λb hb=>q3.out b hb (λk c h=>by cases h)⟩,q3.dr⟩,q2.imb,q3.fix,λb o hx=>?_,λj bb c hj=>?_,λj bb c hj=>?_,λj j' bb c c' hj hj'=>?_,λj bb c i e hj he hi=>?_,λj y hj=>?_,?_,by simpa using⟨hba,hkd⟩⟩
  ·rcases q3.im b o hx with h1|h1|⟨k,c,h1⟩
   ·exact .inl h1
   ·exact .inr h1
   cases h1
  ·rcases q3.be k bb c (hg j _ hj).2 with⟨k',c',h1⟩|h1
   ·cases h1
   exact h1
  ·grind
  ·grind
  ·obtain⟨rfl,h2⟩:=hg j _ hj;simp at he;subst he;exact q2.fz k bb c i b h2 k1' hi
  ·rw[(hg j _ hj).1];simp
  rw[k1]at k2;simp only[Rel]at k2⊢;grind
 rcases q0 with rfl|rfl
 ·exact fin
 exact fin
theorem zA1(hM:zBg P T)(hm:P.follows .mixedOrders=Ac)(hf:P.funcs[f]?=Ab fn)(hb:fn.body=Ab c)(hkeep:∀k,k<st.length->T.keep k=Ac\/k∈ch)
  (h:awp P T c (λe sl s=>(e= .normal\/e= .ret)/\retL P sl s fn.results.toList (λds=>oneD ds=x/\s=st')) (args++As (fn.ntmps-args.length) .unk) st):Acts P f args st ch x st':=by
 intro β I w vs hr hsr hinj hfz hdom hi hg;have hlen:=hr.length;refine calls_of_wp hf hb ?_;have hsim:Sim β I w (args++As (fn.ntmps-args.length) .unk) st (vs.toArray++A6 (fn.ntmps-vs.toArray.size) undef).toList:=by
  refine⟨?_,hsr,hinj,hfz,hdom,hi,hg⟩;grind [zNy]
 refine wp_mono (zQn hM hm c _ _ _ β I {tmps:=vs.toArray++A6 (fn.ntmps-vs.toArray.size) undef,defers:=[]} w h hsim) λe a' w' hq=>?_;obtain⟨e1,sl',s',β',I',⟨q0,q1⟩,q2,q3,q4,q5⟩:=hq;have fin:a'.defers=[]/\∃v,(results fn a'.tmps).run P w'= .ok v w'/\∃v' β' I',Ending.returned v= .returned v'/\ImB I' w'/\Stp β I w β' I' w'/\
  (∀k y,k∉ch->β k=Ab y->β' k=Ab y)/\SR β' I' w' st'/\Inj β'/\FZ β' I' st'/\(∀k y,β' k=Ab y->k<st'.length)/\Rel I' w' β' x v':=by
  obtain⟨ds,v,⟨k1,rfl⟩,k2,k3⟩:=zGq (P:=P) (fn:=fn) q2 q1;exact⟨q4,v,k3,v,β',I',rfl,q2.imb,q3,λk y hc hk=>q5 k y ((hkeep k (hdom k y hk)).resolve_right hc) hk,q2.sr,q2.inj,q2.fz,q2.dom,k1▸k2⟩
 rcases q0 with rfl|rfl
 ·exact fin
 exact fin
theorem zS(hM:zBg P T)(hm:P.follows .mixedOrders=Ac)(hf:P.funcs[f]?=Ab fn)(hb:fn.body=Ab c)(hkeep:∀k,k<st.length->T.keep k=Ac)
  (h:awp P T c (λe sl s=>(e= .normal\/e= .ret)/\retL P sl s fn.results.toList (λds=>oneD ds=x/\s=st')) (args++As (fn.ntmps-args.length) .unk) st):Acts P f args st [] x st':=by grind [zA1]
end
theorem LeD.refl(d:D):LeD d d:=λ_ _ _ _ h=>h
theorem LeD.unk(d:D):LeD d .unk:=λ_ _ _ _ _=>by simp only[Rel]
theorem LeD.eq{d':D}(h:d=d'):LeD d d':=h▸LeD.refl d
theorem LeD.nil(k:Nat)(b:Bool):LeD (.val (.slice Ae 0 0)) (.osl k 0 0 0 b):=λ_ _ _ v h=>by
 simp only[Rel]at h⊢;exact .inl ⟨trivial,trivial,h⟩
theorem LeD.nil_row:LeD (.val (.slice Ae 0 0)) (.row [] 0):=λ_ _ _ v h=>by
 simp only[Rel]at h⊢;exact⟨Ae,0,h,Al _,by decide,λ_=>rfl, .inl trivial⟩
inductive LeL:List D->List D->Prop
 |nil:LeL [] []
 |cons {d d':D} {ds ds':List D}:LeD d d'->LeL ds ds'->LeL (d::ds) (d'::ds')
theorem LeL.rel{β:Be}{ds':List D}(h:LeL ds ds'):∀{vs:List Value},RelT I w β ds vs->RelT I w β ds' vs:=by
 induction h with
 |nil=>exact λh=>h
 |cons h1 _ ih=>
  intro vs h;simp only[RelT]at h⊢;obtain⟨v,us,e,h2,h3⟩:=h;exact⟨v,us,e,h1 _ _ _ _ h2,ih h3⟩
theorem LeL.refl:∀ds,LeL ds ds
 |[]=> .nil
 |d::ds=> .cons (.refl d) (LeL.refl ds)
theorem LeL.of_eq{ds':List D}(h:ds=ds'):LeL ds ds':=h▸LeL.refl ds
section
variable{P:Program}{T:Par}
theorem Weak.refl(sl:List D)(st:List Bk):Weak T sl st sl st:=λβ I w tm h=>⟨β,I,h,AV _ _ _,AP _ _⟩
theorem Weak.trans{sl sl' sl'':List D}{st st' st'':List Bk}(h:Weak T sl st sl' st')(k:Weak T sl' st' sl'' st''):Weak T sl st sl'' st'':=λβ I w tm hs=>by
 obtain⟨β',I',h1,h2,h3⟩:=h β I w tm hs;obtain⟨β'',I'',k1,k2,k3⟩:=k β' I' w tm h1;exact⟨β'',I'',k1,h2.trans k2,h3.trans k3⟩
theorem Weak.slots(h:LeL sl sl'):Weak T sl st sl' st:=λβ I w tm hs=>
 ⟨β,I,⟨h.rel hs.rel,hs.sr,hs.inj,hs.fz,hs.dom,hs.imb,hs.gl⟩,AV _ _ _,AP _ _⟩
theorem Weak.more(bs:List Bk):Weak T sl st sl (st++bs):=λβ I w tm hs=>by
 refine⟨β,I,⟨hs.rel,λk b c hk=>?_,hs.inj,λk b c j e hk he hi=>?_,λk x hk=>?_,hs.imb,hs.gl⟩,AV _ _ _,AP _ _⟩
 ·obtain⟨e,h1,h2⟩:=hs.sr k b c hk;exact⟨e,by rw[Ct (hs.dom k _ hk)];exact h1,h2⟩
 ·rw[Ct (hs.dom k _ hk)]at he;exact hs.fz k b c j e hk he hi
 have:=hs.dom k x hk
 rw[A5];omega
theorem OwnRel.congr{I:Im}{w:World}{β β':Be}{b c:Nat}{e:Bk}(h:OwnRel I w β b c e)(hb:e.nob=Ad->∀k x,zAt k e.cells=Ac->β k=Ab x->β' k=Ab x):OwnRel I w β' b c e:=by
 rcases e.kd.cases with hk|⟨ks,hk⟩
 ·obtain⟨cur,h1,h2,h3,h4⟩:=h.c hk;refine OwnC.r ⟨cur,h1,h2,?_,h4⟩ hk;grind [RelL.congr]
 obtain⟨vs,h1,h2⟩:=h.m hk;refine OwnM.r ⟨vs,h1,?_⟩ hk;grind [RelT.congr]
def zF8(sl:List D)(st:List Bk)(m n:Nat):Bool:=(Br (n-m)).all λi=>!zAt (m+i) sl&&(st.take m).all λe=>e.nob||!zAt (m+i) e.cells
theorem Weak.cut(m:Nat)(h:zF8 sl st m st.length=Ac)(hk:∀k,m<=k->T.keep k=Ad):Weak T sl st sl (st.take m):=λβ I w tm hs=>by
 have hno:∀k,m<=k->k<st.length->zAt k sl=Ad/\∀e∈st.take m,e.nob=Ac\/zAt k e.cells=false:=by
  intro k h1 h2;simp only[zF8,AX,List.mem_range,AC,A7,Bd]at h
  have:=h (k-m) (by omega)
  rw[show m+(k-m)=k by omega]at this;exact this
 have hcut:∀(k:Nat)(x:Nat×Nat),(if k<m then β k else Ae)=Ab x->β k=Ab x/\k<m:=by
  intro k x hx;split at hx
  ·exact⟨hx,by assumption⟩
  cases hx
 refine⟨λk=>if k<m then β k else Ae,I,⟨?_,λk b c hk=>?_,λk k' b c c' hk hk'=>?_,λk b c j e hk he hi=>?_,λk x hk=>?_,hs.imb,hs.gl⟩,⟨Fix.refl _ _,Al _,λ_ _ _=>rfl,rfl,rfl,rfl,Al _,λk b c hk=> .inl ⟨k,c,(hcut k _ hk).1⟩,λ_ _ h=> .inl h⟩,λk x hx hb=>?_⟩
 ·refine RelT.congr sl tm (λk x hr hx=>?_) hs.rel;by_cases hm:k<m
  ·simp only[hm,if_true];exact hx
  have:=(hno k (by omega) (hs.dom k x hx)).1
  rw[this]at hr;cases hr
 ·obtain⟨h1,h2⟩:=hcut k _ hk;obtain⟨e,k1,k2⟩:=hs.sr k b c h1;refine⟨e,by rw[BG,if_pos h2];exact k1,k2.congr λha j x hr hx=>?_⟩;by_cases hm:j<m
  ·simp only[hm,if_true];exact hx
  have hmem:e∈st.take m:=BI (by rw[BG,if_pos h2];exact k1);rcases(hno j (by omega) (hs.dom j x hx)).2 e hmem with h3|h3
  ·rw[ha]at h3;cases h3
  rw[h3]at hr;cases hr
 ·exact hs.inj k k' b c c' (hcut k _ hk).1 (hcut k' _ hk').1
 ·obtain⟨h1,h2⟩:=hcut k _ hk;rw[BG,if_pos h2]at he;exact hs.fz k b c j e h1 he hi
 ·obtain⟨h1,h2⟩:=hcut k _ hk
  have:=hs.dom k x h1
  rw[Bt];omega
 simp only;by_cases hm:k<m
 ·simp only[hm,if_true];exact hb
 rw[hk k (by omega)]at hx;cases hx
theorem zX3(Inv:Nat->List D->List Bk->Prop)(h0:∃n sl' st',Weak T sl st sl' st'/\Inv n sl' st')
  (h:∀n sl st,Inv n sl st->awp P T b (zY (λsl' st'=>∃m sl'' st'',m<n/\Weak T sl' st' sl'' st''/\Inv m sl'' st'') Q) sl st):awp P T (.loop b) Q sl st:=by
 intro X hX;have key:∀n sl st,Inv n sl st->X sl st:=by
  intro n;induction n using Bb with
  |_ n ih=>
   grind
 grind
theorem zAa(h:awp P T b (zY (λsl' st'=>awp P T (.loop b) Q sl' st') Q) sl st):awp P T (.loop b) Q sl st:=by
 intro X hX;exact⟨sl,st,Weak.refl _ _,hX _ sl st (λsl' st' hY=>hY X hX) h⟩
theorem zNk(S:α->List D)(B:α->List Bk)(μ:α->Nat)(J:α->Prop)(x₀:α)(h₀:J x₀)(hw:Weak T sl st (S x₀) (B x₀))
  (step:∀x,J x->awp P T b (zY (λsl' st'=>∃y,J y/\μ y<μ x/\Weak T sl' st' (S y) (B y)) Q) (S x) (B x)):awp P T (.loop b) Q sl st:=by
 refine zX3 (λn sl st=>∃x,J x/\μ x=n/\sl=S x/\st=B x) ⟨μ x₀,_,_,hw,x₀,h₀,rfl,rfl,rfl⟩ ?_;grind
end
section
variable{P:Program}{T:Par}{ops:Array Oper}{dr:Bool}{o:Oper}{r:List Oper}{sl sl':List D}{st st':List Bk}{K:List D->List Bk->Prop}{p:Prop}{d:D}{b:Bk}{k:Nat}{fz:List Nat}{f:FuncId}{args:List D}
def goW(P:Program)(T:Par)(ops:Array Oper)(dr:Bool)(o:Oper)(r:List Oper)(sl:List D)(st:List Bk)(K:List D->List Bk->Prop):Prop:=match aeff P T o.op o.type (evD sl) st with
   | .bad=>False
   | .lit p d=>zW T o.op=Ac/\p/\seqW P T ops dr r (putD sl o.dst d) st K
   | .get p d=>zW T o.op=Ad/\p/\seqW P T ops dr r (putD sl o.dst d) st K
   | .new p b d fz=>zW T o.op=Ad/\p/\seqW P T ops dr r (putD sl o.dst d) (zA3 st fz++[b]) K
   | .call f args fz=>zW T o.op=Ad/\∃news x,Pure P f args news x/\seqW P T ops dr r (putD sl o.dst (if news.isEmpty then x else zBc st.length x)) (zA3 st fz++news) K
   | .put p k b fz=>isE T o.op=Ac/\p/\seqW P T ops dr r (putD sl o.dst .unk) ((zA3 st fz).set k b) K
   | .app p k b d=>isE T o.op=Ac/\(T.keep k=Ad/\p)/\seqW P T ops dr r (putD (sl.map (zAq k)) o.dst d) ((st.map (zAu k)).set k b) K
   | .act f args=>zW T o.op=Ad/\(dr=Ad\/isE T o.op=Ac)/\∃ch x st',(Acts P f args st ch x st'/\∀k∈ch,T.keep k=Ad)/\seqW P T ops dr r (putD (sl.map (zC8 ch)) o.dst x) st' K
theorem zBz(hg:o.guard=Ae)(h:goW P T ops dr o r sl st K):seqW P T ops dr (o::r) sl st K:=by
 simp only[seqW,hg];exact h
theorem seq_skip{x:Array Value}(hg:o.guard=Ab (j,want))(hb:((ops[j]?).bind (·.dst)).map (λt=>sl.getD t .unk)=Ab (.val (.tuple x)))(hs:putD sl o.dst (.val undef)=sl')(h:seqW P T ops dr r sl' st K):seqW P T ops dr (o::r) sl st K:=by
 subst hs;simp only[seqW,hg,hb];exact h
theorem zV4(hg:o.guard=Ab (j,want))(hb:((ops[j]?).bind (·.dst)).map (λt=>sl.getD t .unk)=Ab (.val (.bool t)))(hs:putD sl o.dst (.val undef)=sl')(h:t=want->goW P T ops dr o r sl st K)(h':t=!want->seqW P T ops dr r sl' st K):seqW P T ops dr (o::r) sl st K:=by
 subst hs;simp only[seqW,hg,hb];exact⟨h,h'⟩
theorem go_lit(hE:aeff P T o.op o.type (evD sl) st= .lit p d)(hl:zW T o.op=Ac)(hp:p)(hs:putD sl o.dst d=sl')(h:seqW P T ops dr r sl' st K):goW P T ops dr o r sl st K:=by
 subst hs;simp only[goW,hE];exact⟨hl,hp,h⟩
theorem go_get(hE:aeff P T o.op o.type (evD sl) st= .get p d)(hl:zW T o.op=Ad)(hp:p)(hs:putD sl o.dst d=sl')(h:seqW P T ops dr r sl' st K):goW P T ops dr o r sl st K:=by
 subst hs;simp only[goW,hE];exact⟨hl,hp,h⟩
theorem go_new(hE:aeff P T o.op o.type (evD sl) st= .new p b d fz)(hl:zW T o.op=Ad)(hp:p)(hs:putD sl o.dst d=sl')(ht:zA3 st fz++[b]=st')(h:seqW P T ops dr r sl' st' K):goW P T ops dr o r sl st K:=by
 subst hs ht;simp only[goW,hE];exact⟨hl,hp,h⟩
theorem zW8(hE:aeff P T o.op o.type (evD sl) st= .put p k b fz)(hl:isE T o.op=Ac)(hp:p)(hs:putD sl o.dst .unk=sl')(ht:(zA3 st fz).set k b=st')(h:seqW P T ops dr r sl' st' K):goW P T ops dr o r sl st K:=by
 subst hs ht;simp only[goW,hE];exact⟨hl,hp,h⟩
theorem go_app(hE:aeff P T o.op o.type (evD sl) st= .app p k b d)(hl:isE T o.op=Ac)(hk:T.keep k=Ad)(hp:p)(hs:putD (sl.map (zAq k)) o.dst d=sl')(ht:(st.map (zAu k)).set k b=st')(h:seqW P T ops dr r sl' st' K):goW P T ops dr o r sl st K:=by
 subst hs ht;simp only[goW,hE];exact⟨hl,⟨hk,hp⟩,h⟩
theorem go_call(hE:aeff P T o.op o.type (evD sl) st= .call f args fz)(hl:zW T o.op=Ad)(hc:Pure P f args [] x)(hs:putD sl o.dst x=sl')(ht:zA3 st fz=st')(h:seqW P T ops dr r sl' st' K):goW P T ops dr o r sl st K:=by
 subst hs ht;simp only[goW,hE];exact⟨hl,[],x,hc,by simpa using h⟩
theorem go_callN{n:Bk}(hE:aeff P T o.op o.type (evD sl) st= .call f args fz)(hl:zW T o.op=Ad)(hc:Pure P f args (n::news) x)(hs:putD sl o.dst (zBc st.length x)=sl')(ht:zA3 st fz++n::news=st')(h:seqW P T ops dr r sl' st' K):goW P T ops dr o r sl st K:=by
 subst hs ht;simp only[goW,hE];exact⟨hl,n::news,x,hc,by simpa using h⟩
theorem go_act{st'':List Bk}(hE:aeff P T o.op o.type (evD sl) st= .act f args)(hl:zW T o.op=Ad)(hd:dr=Ad\/isE T o.op=Ac)(hc:Acts P f args st [] x st'')(hs:putD sl o.dst x=sl')(h:seqW P T ops dr r sl' st'' K):goW P T ops dr o r sl st K:=by
 subst hs;simp only[goW,hE];refine⟨hl,hd,[],x,st'',⟨hc,by simp⟩,?_⟩;have:sl.map (zC8 [])=sl:=by
  conv=>rhs;rw[<-List.map_id sl]
  exact A0 λd _=>by simp[zC8]
 rw[this];exact h
end
section
variable{P:Program}{T:Par}{sl:List D}{st:List Bk}{Q:Exit->List D->List Bk->Prop}
theorem zL(h:Q .normal sl st):awp P T .skip Q sl st:=h
def zZ(P:Program)(T:Par)(b:Code)(Q:Exit->List D->List Bk->Prop)(sl:List D)(st:List Bk):Prop:=∃sl' st',Weak T sl st sl' st'/\awp P T b Q sl' st'
theorem zK(h:awp P T b Q sl st):zZ P T b Q sl st:=⟨sl,st,Weak.refl _ _,h⟩
theorem zA{a:Code}(h:awp P T a (zY (zZ P T b Q) Q) sl st):awp P T (.seq a b) Q sl st:=h
theorem zB(hl:ops.toList=l)(h:seqW P T ops Ad l sl st (Q .normal)):awp P T (.region i ops Ad) Q sl st:=by subst hl;exact h
theorem awp_drawn(ord:List Nat)(hr:regOk T ops ord=Ac)(hl:(ord.map λi=>ops.getD i Ai)=l)(h:seqW P T ops Ac l sl st (Q .normal)):awp P T (.region i ops Ac) Q sl st:=by subst hl;exact .inl ⟨ord,hr,h⟩
theorem zDc(l0:List Nat)(its:List zMf)(hl:(l0.map λi=>ops.getD i Ai)=l)(h:seqW P T ops Ac l sl st λsl st=>seqI P T ops its sl st (Q .normal))(hr:zN6 T ops l0 its=true:=by kernel_rfl):awp P T (.region i ops Ac) Q sl st:=by subst hl;exact .inr ⟨l0,its,hr,h⟩
theorem zFh(h:K sl st):seqI P T ops [] sl st K:=h
def freesB(o:Oper)(c:List (Nat×Nat))(sl:List D)(st:List Bk):Bool:=c.all λx=>Nat.ble st.length x.2||o.op.operands.toList.all λy=>!refs x.2 (evD sl y)
theorem zFt{e:Nat}{c:List (Nat×Nat)}{l:List Nat}{r:List zMf}{l':List Oper}(ho:ops.getD e Ai=o)(hl:(l.map λi=>ops.getD i Ai)=l')(hf:freesB o c sl st=Ac)
  (h:seqW P T ops Ac [o] sl st λsl' st'=>lateN P T ops c st.length sl' st'/\seqW P T ops Ac l' sl' st' λsl st=>seqI P T ops r sl st K):seqI P T ops ((e,c,l)::r) sl st K:=by
 subst ho hl;refine⟨λx hx hlt y hy=>?_,h⟩;have h1:=AX.1 hf x hx;rw[Bd]at h1;rcases h1 with h1|h1
 ·have:=B8 h1;omega
 grind
def lateL(P:Program)(T:Par)(ops:Array Oper)(o:Oper)(n:Nat)(sl:List D)(st:List Bk):Option (List Prop):=match gv ops o sl with
 | some Ac=>match aeff P T o.op o.type (evD sl) (st.take n),o.dst with
  | .lit p d,Ab x=>if zW T o.op then Ab [p,sl[x]?=Ab d]else Ae
  | .get p d,Ab x=>if zW T o.op then Ae else Ab [p,sl[x]?=Ab d]
  | .new p b d fz,Ab x=>match st[n]?,b with
   |some e,⟨cells,ty,sz,arr,Ad,kd⟩=>if zW T o.op||!fz.isEmpty then Ae else Ab [p,sl[x]?=Ab d,e.cells=cells,e.ty=ty,e.sz=sz,e.arr=arr,e.kd=kd]
   |_,_=>Ae
  |_,_=>Ae
 |_=>Ae
def lateLs(P:Program)(T:Par)(ops:Array Oper)(sl:List D)(st:List Bk):List (Nat×Nat)->Option (List Prop)
 |[]=>Ab []
 |x::r=>match lateL P T ops (ops.getD x.1 Ai) x.2 sl st,lateLs P T ops sl st r with
  |some l,Ab m=>Ab (l++m)
  |_,_=>Ae
def AllP:List Prop->Prop
 |[]=>True
 |[p]=>p
 |p::q::r=>p/\AllP (q::r)
theorem AllP.mem:∀{l:List Prop},AllP l->∀p∈l,p
 |[],_,p,hp=>by cases hp
 |[q],h,p,hp=>by rw[B9]at hp;rw[hp];exact h
 |q::r::l,h,p,hp=>by
  rcases AG.1 hp with rfl|hp
  ·exact h.1
  exact AllP.mem (l:=r::l) h.2 p hp
theorem lateL_ok{l:List Prop}(h:lateL P T ops o n sl st=Ab l)(hl:∀p∈l,p):zHa P T ops o n sl st:=by
 unfold lateL at h;unfold zHa;split at h
 ·rename_i hg;rw[hg];simp only;split at h
  ·rename_i p d x he hx;rw[he];split at h
   ·rename_i hli;cases h<;>simp_all
   cases h
  ·rename_i p d x he hx;rw[he];split at h
   ·cases h
   rename_i hli;cases h<;>simp_all
  ·rename_i p b d fz x he hx;rw[he];split at h
   ·rename_i e cells ty sz arr kd hst;split at h
    ·cases h
    rename_i hli;have hl1:zW T o.op=false:=by cases hq:zW T o.op<;>simp_all
    have hl2:fz=[]:=by cases fz<;>simp_all
    cases h;exact⟨hl1,hl _ (by simp),hl2,⟨x,hx,hl (sl[x]?=Ab d) (by simp)⟩,e,hst,hl (e.cells=cells) (by simp),hl (e.ty=ty) (by simp),hl (e.sz=sz) (by simp),hl (e.arr=arr) (by simp),hl (e.kd=kd) (by simp),λh=>by cases h⟩
   cases h
  cases h
 cases h
theorem zW1{ops:Array Oper}:∀{c:List (Nat×Nat)}{l:List Prop},lateLs P T ops sl st c=Ab l->(∀p∈l,p)->zGz P T ops c sl st
 |[],l,h,hl=>λx hx=>by cases hx
 | y::c,l,h,hl=>by
  unfold lateLs at h;split at h
  ·rename_i l1 l2 h1 h2;cases h;intro x hx;rcases AG.1 hx with rfl|hx
   ·exact lateL_ok h1 λp hp=>hl p (B_ _ hp)
   exact zW1 h2 (λp hp=>hl p (Ca _ hp)) x hx
  cases h
theorem st_late{c:List (Nat×Nat)}{C:Prop}(h:(lateLs P T ops sl st c).map AllP=Ab C)(hc:C)(hn:Nat.ble n st.length=Ac)(k:seqW P T ops Ac l sl st K):lateN P T ops c n sl st/\seqW P T ops Ac l sl st K:=by
 obtain⟨l,h1,rfl⟩:=Ax.1 h;exact⟨⟨B8 hn,zW1 h1 hc.mem⟩,k⟩
theorem zAk{x:Code}(hc:evD sl c= .val (.bool t))(h:t=Ac->awp P T x Q sl st)(h':t=Ad->awp P T y Q sl st):awp P T (.cond c x y) Q sl st:=by
 simp only[awp,hc];exact⟨h,h'⟩
theorem zF(h:awp P T b (zR i Q) sl st):awp P T (.block i b) Q sl st:=h
theorem zAx(h:Q (.exit i) sl st):awp P T (.exit i) Q sl st:=h
theorem zG(h:Q .ret sl st):awp P T .ret Q sl st:=h
variable{K:List D->List Bk->Prop}
theorem zC(h:K sl st):zY K Q .normal sl st:=h
theorem zP(h:Q (.exit i) sl st):zY K Q (.exit i) sl st:=h
theorem zE(h:Q .ret sl st):zY K Q .ret sl st:=h
theorem zD(h:Q .normal sl st):zR i Q .normal sl st:=h
theorem zH(h:Q .ret sl st):zR i Q .ret sl st:=h
theorem zAm(e:j=i)(h:Q .normal sl st):zR i Q (.exit j) sl st:=by simp only[zR,e,if_true];exact h
end
theorem wrap_i64{x:Int}(h1:-9223372036854775808<=x)(h2:x<=9223372036854775807):AA.wrap x=x:=by
 simp only[Cb,BK,BL,Bu,Bv,AS,if_false,decide_eq_true_eq,ge_iff_le];(try split)<;>omega
theorem zBw{x:Int}(h1:0<=x)(h2:x<=4294967295):Bf.wrap x=x:=by
 simp only[Cb,BK,BL,Bu,Bv,AS,if_false,decide_eq_true_eq,ge_iff_le];(try split)<;>omega
def hvOf(P:Program):Op->Bool
 | .convert s d _=>match P.underlying s,P.underlying d with
  |some (.slice _),Ab .string=>Ac
  |_,_=>Ad
 | .call {callee:= .builtin .len,argTypes:=t,..}=>match(t.toList.head?).bind P.underlying with
  |some (.map _ _)=>Ac
  |_=>Ad
 |_=>Ad
def shOf(P:Program)(t:TypeId):Bool:=match P.underlying t with
 |some (.map _ _)|some (.pointer _)=>Ac
 |some (.slice e)=>match P.underlying e with
  |some (.pointer _)=>Ac
  |_=>Ad
 |_=>Ad
def TM(P:Program)(imp:FuncId->Bool)(keep:Nat->Bool):Par:=⟨imp,zPp P,keep,hvOf P,shOf P⟩
theorem zVd(P:Program)(imp:FuncId->Bool)(keep:Nat->Bool):zBg P (TM P imp keep):=λt name f h v W=>by
 obtain⟨n,hn⟩:∃n,P.types.size+Made.depth=n+1:=⟨P.types.size+Made.depth-1,by have:Made.depth=100:=rfl;omega⟩;rw[hn];exact methOf_run h n v W
abbrev U:D:= .unk
abbrev iD(x:Int):D:= .val (.int .i64 x)
abbrev bD(b:Bool):D:= .val (.bool b)
def updS(sl:List D):List (Nat×D)->List D
 |[]=>sl
 |(i,d)::r=>updS (sl.set i d) r
def zAe(sl:List D):List Nat->List D
 |[]=>sl
 |i::r=>zAe (sl.set i .unk) r
def Alls:List Prop->Prop
 |[]=>True
 |[p]=>p
 |p::q::r=>p/\Alls (q::r)
theorem Alls.cons{p:Prop}{r:List Prop}(h:Alls (p::r)):p/\Alls r:=by
 cases r with
 |nil=>exact⟨h,trivial⟩
 |cons q r=>exact h
theorem Alls.app:∀{l r:List Prop},Alls (l++r)->Alls l/\Alls r
 |[],r,h=>⟨trivial,h⟩
 |[p],r,h=>⟨h.cons.1,h.cons.2⟩
 |p::q::l,r,h=>by
  have h1:=Alls.cons (r:=q::l++r) h;have h2:=Alls.app (l:=q::l) h1.2;exact⟨⟨h1.1,h2.1⟩,h2.2⟩
def inK:IntKind->Int->Prop
 | .i64,x=>-9223372036854775808<=x/\x<=9223372036854775807
 | .u64,x=>0<=x/\x<=18446744073709551615
 | .i32,x=>-2147483648<=x/\x<=2147483647
 | .u32,x=>0<=x/\x<=4294967295
 | .i16,x=>-32768<=x/\x<=32767
 | .u16,x=>0<=x/\x<=65535
 | .i8,x=>-128<=x/\x<=127
 | .u8,x=>0<=x/\x<=255
theorem zDx{k:IntKind}{x:Int}(h:inK k x):k.wrap x=x:=by
 cases k<;>simp only[inK]at h<;>simp only[Cb,BK,BL,Bu,Bv,AS,if_false,decide_eq_true_eq,ge_iff_le]<;>(try split)<;>omega
def exBin:BinOp->Int->Int->Option Int
 | .add,a,b=>Ab (a+b)
 | .sub,a,b=>Ab (a-b)
 | .mul,a,b=>Ab (a*b)
 | .quo,a,b=>Ab (a.tdiv b)
 |_,_,_=>Ae
section
variable(P:Program)(T:Par)
def isQuo:BinOp->Bool
 | .quo=>Ac
 |_=>Ad
def aeffX(o:Op)(ty:TypeId)(ρ:Operand->D)(st:List Bk):Eff:=match o with
 | .binOp op t x y u=>match ρ x,ρ y with
  | .val (.int k a), .val (.int k' b)=>match exBin op a b with
   |some z=>if k=k' then .lit (if isQuo op then b≠0/\inK k z else inK k z) (.val (.int k z))else .bad
   |none=>aeff P T (.binOp op t x y u) ty ρ st
  |_,_=>aeff P T (.binOp op t x y u) ty ρ st
 | .unOp .neg t x=>match ρ x with
  | .val (.int k a)=> .lit (inK k (0-a)) (.val (.int k (0-a)))
  |_=> .bad
 | .convert s d x=>match P.underlying s,P.underlying d,ρ x with
  |some (.int _),Ab (.int k), .val (.int _ n)=>if T.hv (.convert s d x)then .bad else .lit (inK k n) (.val (.int k n))
  |_,_,_=>aeff P T (.convert s d x) ty ρ st
 |o=>aeff P T o ty ρ st
variable{o:Op}
theorem aeffX_lit(h:aeffX P T o ty ρ st= .lit p d)(hp:p):∃q,aeff P T o ty ρ st= .lit q d/\q:=by
 unfold aeffX at h;split at h
 ·rename_i op t x y u;split at h
  ·rename_i k a k' b hx hy;split at h
   ·rename_i z hz;split at h
    ·rename_i hk;subst hk;simp only[Eff.lit.injEq]at h;obtain⟨rfl,rfl⟩:=h;cases op<;>simp only[exBin,AN.injEq,reduceCtorEq]at hz;all_goals
      subst hz;simp only[isQuo,if_true,if_false,AS]at hp
     ·exact⟨True,by simp[aeff,aBin,hx,hy,aInt,zDx hp],trivial⟩
     ·exact⟨True,by simp[aeff,aBin,hx,hy,aInt,zDx hp],trivial⟩
     ·exact⟨True,by simp[aeff,aBin,hx,hy,aInt,zDx hp],trivial⟩
     exact⟨b≠0,by simp[aeff,aBin,hx,hy,aInt,zDx hp.2],hp.1⟩
    cases h
   exact⟨p,h,hp⟩
  exact⟨p,h,hp⟩
 ·rename_i t x;split at h
  ·rename_i k a hx;simp only[Eff.lit.injEq]at h;obtain⟨rfl,rfl⟩:=h;exact⟨True,by simp only[aeff,hx,aUn,zDx hp],trivial⟩
  cases h
 ·rename_i s t x;split at h
  ·rename_i k0 k k1 n hs hd hx;split at h
   ·cases h
   rename_i hv;simp only[Eff.lit.injEq]at h;obtain⟨rfl,rfl⟩:=h;exact⟨True,by simp only[aeff,hv,AS,if_false,aConv,hs,hd,hx,zDx hp],trivial⟩
  exact⟨p,h,hp⟩
 exact⟨p,h,hp⟩
theorem aeffX_not(h:aeffX P T o ty ρ st=e)(hn:∀p d,e≠ .lit p d)(hb:e≠ .bad):aeff P T o ty ρ st=e:=by
 unfold aeffX at h;grind
def zRq:Op->Bool
 | .move _| .assign _| .pick ..| .alloc _| .box ..| .nilCheck _=>Ac
 | .binOp op ..=>match op with
  | .lss| .leq| .gtr| .geq=>Ac
  |_=>Ad
 | .unOp .not ..=>Ac
 | .makeInterface ..| .makeFunc ..=>Ac
 | .call {callee:= .builtin .len,..}| .call {callee:= .builtin .min,..}| .call {callee:= .builtin .max,..}=>Ac
 |_=>Ad
def effP:Eff->Prop
 | .lit p _| .get p _| .new p _ _ _| .put p _ _ _| .app p _ _ _=>p
 |_=>True
theorem triv_ok(h:zRq o=Ac):effP (aeff P T o ty ρ st):=by
 unfold zRq at h;split at h<;>first|cases h|skip
 all_goals simp only[aeff]
 all_goals first
  |trivial
  |((repeat' split)<;>trivial)
  |skip
 ·rename_i op t x y u;cases op<;>simp only[AS]at h<;>simp only[aBin]<;>(repeat' split)<;>first|trivial|(simp only[aInt];trivial)|(simp only[aStr];trivial)|(simp only[aNil];(repeat' split)<;>trivial)|(simp only[aEqS];(repeat' split)<;>trivial)|(simp only[zM3];(repeat' split)<;>trivial)|skip
 ·unfold aUn;(repeat' split)<;>trivial
 split
 ·split
  ·unfold aLenM;(repeat' split)<;>trivial
  unfold aLen;(repeat' split)<;>trivial
 trivial
end
section
variable(P:Program)(T:Par)
inductive Gd where
 |bad
 |skip(cs:List Prop)(gs:List (Nat×Bool))(sl:List D)
 |go(cs:List Prop)(gs:List (Nat×Bool))(sl:List D)
def assocB(gs:List (Nat×Bool))(j:Nat):Option Bool:=match gs with
 |[]=>Ae
 |(i,b)::r=>if i==j then Ab b else assocB r j
def gdec(ops:Array Oper)(o:Oper)(gs:List (Nat×Bool))(sl:List D):Gd:=match o.guard with
 |none=> .go [] gs sl
 | some (j,want)=>match(ops[j]?).bind (·.dst)with
  |none=> .bad
  | some t=>match sl.getD t .unk with
   | .val (.bool b)=>match assocB gs j with
    |some g=>if g==want then .go [b=g] (gs.filter λx=>x.1 !=j) (sl.set t (.val (.bool g)))else .skip [b=g] (gs.filter λx=>x.1 !=j) (sl.set t (.val (.bool g)))
    |none=>if b==want then .go [] gs sl else .skip [] gs sl
   | .val (.tuple _)=> .skip [] gs sl
   |_=> .bad
def memN(l:List Nat)(n:Nat):Bool:=match l with
 |[]=>Ad
 |i::r=>if i==n then Ac else memN r n
def rawOf(raws:List Nat)(o:Oper):Bool:=match o.dst with
 |some d=>memN raws d
 |none=>Ad
def aeffY(raws:List Nat)(o:Oper)(sl:List D)(st:List Bk):Eff:=if rawOf raws o then aeff P T o.op o.type (evD sl) st else aeffX P T o.op o.type (evD sl) st
def zQf(o:Op)(p:Prop):List Prop:=if zRq o then[]else[p]
def runL(ops:Array Oper)(raws:List Nat):List Oper->List (Nat×Bool)->List D->List Bk->Option (List Prop×List D×List Bk)
 |[],_,sl,st=>Ab ([],sl,st)
 | o::r,gs,sl,st=>match gdec ops o gs sl with
  | .bad=>Ae
  | .skip cs gs sl=>(runL ops raws r gs (putD sl o.dst (.val undef)) st).map λx=>(cs++x.1,x.2)
  | .go cs gs sl=>match aeffY P T raws o sl st with
   | .lit p d=>if zW T o.op then(runL ops raws r gs (putD sl o.dst d) st).map λx=>(cs++zQf o.op p++x.1,x.2)else Ae
   | .get p d=>if zW T o.op then Ae else(runL ops raws r gs (putD sl o.dst d) st).map λx=>(cs++zQf o.op p++x.1,x.2)
   | .new p b d fz=>if zW T o.op then Ae else(runL ops raws r gs (putD sl o.dst d) (zA3 st fz++[b])).map λx=>(cs++zQf o.op p++x.1,x.2)
   | .put p k b fz=>if isE T o.op then(runL ops raws r gs (putD sl o.dst .unk) ((zA3 st fz).set k b)).map λx=>(cs++zQf o.op p++x.1,x.2)else Ae
   | .app p k b d=>if isE T o.op&&!T.keep k then(runL ops raws r gs (putD (sl.map (zAq k)) o.dst d) ((st.map (zAu k)).set k b)).map λx=>(cs++zQf o.op p++x.1,x.2)else Ae
   |_=>Ae
theorem zH5{t:Nat}(h:sl.getD t .unk=d)(hd:d≠ .unk):sl.set t d=sl:=by
 subst h;apply Bs;grind
variable{P T}
theorem zG3{gs':List (Nat×Bool)}(h:gdec ops o gs sl= .go cs gs' sl')(hc:Alls cs):sl'=sl/\∀{dr:Bool}{r:List Oper}{st:List Bk}{K:List D->List Bk->Prop},goW P T ops dr o r sl st K->seqW P T ops dr (o::r) sl st K:=by
 unfold gdec at h;split at h
 ·rename_i hg;simp only[Gd.go.injEq]at h;grind [zBz]
 rename_i j want hg;split at h
 ·cases h
 rename_i t ht;split at h
 ·rename_i b hb;have key:b=want->∀{dr:Bool}{r:List Oper}{st:List Bk}{K:List D->List Bk->Prop},goW P T ops dr o r sl st K->seqW P T ops dr (o::r) sl st K:=λhbw {dr r st K} hgo=>
   zV4 (t:=b) hg (by rw[ht];simp only[Bw,hb]) rfl (λ_=>hgo) (λhx=>by subst hbw;cases b<;>cases hx)
  split at h
  ·rename_i g hgs;split at h
   ·rename_i hw;simp only[Gd.go.injEq]at h;obtain⟨rfl,_,rfl⟩:=h;have hbg:b=g:=hc;grind [zH5]
   cases h
  grind
 ·cases h
 cases h
theorem gdec_skip{gs':List (Nat×Bool)}(h:gdec ops o gs sl= .skip cs gs' sl')(hc:Alls cs):sl'=sl/\∀{dr:Bool}{r:List Oper}{st:List Bk}{K:List D->List Bk->Prop},seqW P T ops dr r (putD sl o.dst (.val undef)) st K->seqW P T ops dr (o::r) sl st K:=by
 unfold gdec at h;split at h
 ·cases h
 rename_i j want hg;split at h
 ·cases h
 rename_i t ht;split at h
 ·rename_i b hb;have key:b=!want->∀{dr:Bool}{r:List Oper}{st:List Bk}{K:List D->List Bk->Prop},seqW P T ops dr r (putD sl o.dst (.val undef)) st K->seqW P T ops dr (o::r) sl st K:=λhbw {dr r st K} hgo=>
   zV4 (t:=b) hg (by rw[ht];simp only[Bw,hb]) rfl (λhx=>by subst hx;cases b<;>cases hbw) (λ_=>hgo)
  split at h
  ·rename_i g hgs;split at h
   ·cases h
   rename_i hw;simp only[Gd.skip.injEq]at h;obtain⟨rfl,_,rfl⟩:=h;have hbg:b=g:=hc;subst hbg;exact⟨zH5 hb (by simp),key (by cases b<;>cases want<;>simp at hw⊢)⟩
  split at h
  ·cases h
  rename_i hw;simp only[Gd.skip.injEq]at h;exact⟨h.2.2.symm,key (by cases b<;>cases want<;>simp at hw⊢)⟩
 ·rename_i x hb;simp only[Gd.skip.injEq]at h;exact⟨h.2.2.symm,λhgo=>seq_skip (x:=x) hg (by rw[ht];simp only[Bw,hb]) rfl hgo⟩
 cases h
theorem aeffY_lit(h:aeffY P T raws o sl st= .lit p d)(hp:p):∃q,aeff P T o.op o.type (evD sl) st= .lit q d/\q:=by
 grind [aeffY,aeffX_lit]
theorem zLf(h:aeffY P T raws o sl st=e)(hn:∀p d,e≠ .lit p d)(hb:e≠ .bad):aeff P T o.op o.type (evD sl) st=e:=by
 unfold aeffY at h;split at h;all_goals simp_all [aeffX_not]
theorem aeffX_triv{o:Op}(h:zRq o=Ac):effP (aeffX P T o ty ρ st):=by
 have h0:=triv_ok P T (o:=o) (ty:=ty) (ρ:=ρ) (st:=st) h;unfold aeffX;split
 ·rename_i op t x y u;split
  ·split
   ·rename_i z hz;cases op<;>simp only[exBin,reduceCtorEq]at hz<;>simp[zRq]at h
   exact h0
  exact h0
 all_goals grind [zRq]
theorem zQe(h:aeffY P T raws o sl st=e)(he:effP e=p)(hc:Alls (zQf o.op p)):p:=by
 unfold zQf at hc;split at hc
 ·rename_i ht;rw[<-he,<-h];unfold aeffY;split;all_goals simp_all [triv_ok,ht,aeffX_triv]
 exact hc
theorem zCz{ops:Array Oper}{dr:Bool}{raws:List Nat}{K:List D->List Bk->Prop}:∀(l l':List Oper)(gs:List (Nat×Bool))(sl:List D)(st:List Bk)(cs:List Prop)(sl':List D)(st':List Bk),runL P T ops raws l gs sl st=Ab (cs,sl',st')->Alls cs->seqW P T ops dr l' sl' st' K->seqW P T ops dr (l++l') sl st K
 |[],l',gs,sl,st,cs,sl',st',h,hc,k=>by
  simp only[runL,AN.injEq,Au.injEq]at h;grind
 | o ::r,l',gs,sl,st,cs,sl',st',h,hc,k=>by
  simp only[runL]at h;split at h
  ·cases h
  ·rename_i c1 gs1 sl1 hg;simp only[Ax,Prod.exists,Au.injEq]at h;obtain⟨c2,sl2,st2,h1,rfl,rfl,rfl⟩:=h;obtain⟨a1,a2⟩:=Alls.app hc;obtain⟨rfl,g2⟩:=gdec_skip (P:=P) (T:=T) hg a1;exact g2 (zCz r l' _ _ _ _ _ _ h1 a2 k)
  rename_i c1 gs1 sl1 hg;split at h
  ·rename_i p d he;split at h
   ·rename_i hl;simp only[Ax,Prod.exists,Au.injEq]at h;obtain⟨c2,sl2,st2,h1,rfl,rfl,rfl⟩:=h;obtain⟨a1,a2⟩:=Alls.app hc;obtain⟨a1,a3⟩:=Alls.app a1;obtain⟨rfl,g2⟩:=zG3 (P:=P) (T:=T) hg a1;obtain⟨q,e1,e2⟩:=aeffY_lit he (zQe he rfl a3);exact g2 (go_lit e1 hl e2 rfl (zCz r l' _ _ _ _ _ _ h1 a2 k))
   cases h
  ·rename_i p d he;split at h
   ·cases h
   rename_i hl;simp only[Ax,Prod.exists,Au.injEq]at h;obtain⟨c2,sl2,st2,h1,rfl,rfl,rfl⟩:=h;obtain⟨a1,a2⟩:=Alls.app hc;obtain⟨a1,a3⟩:=Alls.app a1;obtain⟨rfl,g2⟩:=zG3 (P:=P) (T:=T) hg a1;exact g2 (go_get (zLf he (by simp) (by simp)) (by simpa using hl) (zQe he rfl a3) rfl (zCz r l' _ _ _ _ _ _ h1 a2 k))
  ·rename_i p b d fz he;split at h
   ·cases h
   rename_i hl;simp only[Ax,Prod.exists,Au.injEq]at h;obtain⟨c2,sl2,st2,h1,rfl,rfl,rfl⟩:=h;obtain⟨a1,a2⟩:=Alls.app hc;obtain⟨a1,a3⟩:=Alls.app a1;obtain⟨rfl,g2⟩:=zG3 (P:=P) (T:=T) hg a1;exact g2 (go_new (zLf he (by simp) (by simp)) (by simpa using hl) (zQe he rfl a3) rfl rfl (zCz r l' _ _ _ _ _ _ h1 a2 k))
  ·rename_i p n b fz he;split at h
   ·rename_i hl;simp only[Ax,Prod.exists,Au.injEq]at h;obtain⟨c2,sl2,st2,h1,rfl,rfl,rfl⟩:=h;obtain⟨a1,a2⟩:=Alls.app hc;obtain⟨a1,a3⟩:=Alls.app a1;obtain⟨rfl,g2⟩:=zG3 (P:=P) (T:=T) hg a1;exact g2 (zW8 (zLf he (by simp) (by simp)) hl (zQe he rfl a3) rfl rfl (zCz r l' _ _ _ _ _ _ h1 a2 k))
   cases h
  ·rename_i p n b d he;split at h
   ·rename_i hl;simp only[AC,A7]at hl;simp only[Ax,Prod.exists,Au.injEq]at h;obtain⟨c2,sl2,st2,h1,rfl,rfl,rfl⟩:=h;obtain⟨a1,a2⟩:=Alls.app hc;obtain⟨a1,a3⟩:=Alls.app a1;obtain⟨rfl,g2⟩:=zG3 (P:=P) (T:=T) hg a1;exact g2 (go_app (zLf he (by simp) (by simp)) hl.1 hl.2 (zQe he rfl a3) rfl rfl (zCz r l' _ _ _ _ _ _ h1 a2 k))
   cases h
  cases h
end
theorem lb{a b:Nat}(h:Nat.ble a b=Ac):a<=b:=B8 h
abbrev nl:D:= .val (.slice Ae 0 0)
section
variable{P:Program}{T:Par}
theorem LeD.trans{a b c:D}(h:LeD a b)(k:LeD b c):LeD a c:=λI w β v hv=>k I w β v (h I w β v hv)
theorem LeL.trans{a b c:List D}(h:LeL a b):LeL b c->LeL a c:=by
 induction h generalizing c with
 |nil=>exact λh=>h
 |cons h1 _ ih=>
  intro k;cases k with
  |cons k1 k2=>exact .cons (h1.trans k1) (ih k2)
theorem LeL.set(sl:List D)(i:Nat):LeL sl (sl.set i .unk):=by
 induction sl generalizing i with
 |nil=>exact .nil
 |cons d ds ih=>
  cases i with
  |zero=>exact .cons (.unk _) (.refl _)
  |succ i=>exact .cons (.refl _) (ih i)
theorem LeL.dead(dead:List Nat):∀sl:List D,LeL sl (zAe sl dead):=by
 induction dead with
 |nil=>exact λsl=> .refl sl
 |cons i r ih=>exact λsl=>(LeL.set sl i).trans (ih _)
theorem Pure.frozen{b:Bk}{m:Nat}{cs:List D}(h:Pure P f args [b] (.osl 0 0 n m wh))(hb:b.arr=Ac)(hc:b.cells.take m=cs):Pure P f args [] (.row cs n):=by
 intro I w vs hr hi hg;refine(h I w vs hr hi hg).mono ?_;rintro e w' ⟨v,I',γ,he,h1,h2,h3,h4,h5,h6,h7,h8,h9,h10,h11⟩;have hs:Sim γ I' w' [.osl 0 0 n m wh] [b] [v]:=⟨by simp only[RelT];exact⟨v,[],rfl,h10,rfl⟩,h6,h7,h8,h9,h2,hg.mono h3⟩;have hkd:b.kd= .plain:=(h11 b (by simp)).2;have hf:frz Ac [b] zAz (.osl 0 0 n m wh)=Ab (.row cs n,[0]):=by simp[frz,zAz,hb,hc,hkd,Bk.nob,Kd.isMap,Kd.isSh]
 have h12:=zCp hs.sr.weak _ _ _ _ _ hf h10;refine⟨v,fixI I' γ [b] [0],noB,he,h1,zFw hs.sr.weak h2 [0],h3.trans (zAv [0]),λx o hx=>?_,λk b c h=>(by cases h),λk b c h=>(by cases h),λk k' b c c' h=>(by cases h),λk b c j e h=>(by cases h),λk y h=>(by cases h),h12,by simp⟩;rcases hx with hx|⟨k,_,c,e,hk,_⟩;all_goals grind
theorem Pure.le(h:Pure P f args' news x)(ha:LeL args args'):Pure P f args news x:=λI w vs hr hi=>h I w vs (ha.rel hr) hi
theorem Acts.le(h:Acts P f args' st ch x st')(ha:LeL args args'):Acts P f args st ch x st':=λβ I w vs hr=>h β I w vs (ha.rel hr)
section
variable{ops:Array Oper}{dr:Bool}{l:List Oper}{sl:List D}{st:List Bk}{K:List D->List Bk->Prop}
theorem st_run(n:Nat)(raws:List Nat)(gs:List (Nat×Bool))(C:Prop)(ch:List (Nat×D))(st':List Bk)(h:(runL P T ops raws (l.take n) gs sl st).map (λx=>(Alls x.1,x.2.1,x.2.2))=Ab (C,updS sl ch,st'))(hc:C)(k:seqW P T ops dr (l.drop n) (updS sl ch) st' K):seqW P T ops dr l sl st K:=by
 rw[Ax]at h;obtain⟨⟨c,s1,s2⟩,h1,h2⟩:=h;simp only[Au.injEq]at h2;grind [zCz,BM]
theorem st_end(raws:List Nat)(gs:List (Nat×Bool))(dead:List Nat)(C:Prop)(ch:List (Nat×D))(st':List Bk)(h:(runL P T ops raws l gs sl st).map (λx=>(Alls x.1,zAe x.2.1 dead,x.2.2))=Ab (C,updS (zAe sl dead) ch,st'))(hc:C)(k:awp P T b Q (updS (zAe sl dead) ch) st'):seqW P T ops dr l sl st (zY (zZ P T b Q) Q' .normal):=by
 rw[Ax]at h;obtain⟨⟨c,s1,s2⟩,h1,h2⟩:=h;simp only[Au.injEq]at h2;obtain⟨rfl,e,rfl⟩:=h2
 have:=zCz (P:=P) (T:=T) (dr:=dr) (K:=zY (zZ P T b Q) Q' .normal) l [] gs sl st c s1 s2 h1 hc ?_
 ·grind
 exact⟨_,_,Weak.slots (LeL.dead dead s1),e▸k⟩
theorem zX(n:Nat)(raws:List Nat)(gs:List (Nat×Bool))(C:Prop)(ch:List (Nat×D))(k:seqW P T ops dr (l.drop n) (updS sl ch) st K)(h:(runL P T ops raws (l.take n) gs sl st).map (λx=>(Alls x.1,x.2.1,x.2.2))=Ab (C,updS sl ch,st):=by kernel_rfl)(hc:C:=by omega):seqW P T ops dr l sl st K:=by grind [st_run]
theorem zYm(raws:List Nat)(gs:List (Nat×Bool))(dead:List Nat)(C:Prop)(ch:List (Nat×D))(h:(runL P T ops raws l gs sl st).map (λx=>(Alls x.1,zAe x.2.1 dead,x.2.2))=Ab (C,updS (zAe sl dead) ch,st))(hc:C)(k:awp P T b Q (updS (zAe sl dead) ch) st):seqW P T ops dr l sl st (zY (zZ P T b Q) Q' .normal):=by grind [st_end]
theorem zAp(i:Nat)(d0 d:D)(hd:d0=d)(k:seqW P T ops dr l (sl.set i d) st K)(h:sl.getD i .unk=d0:=by kernel_rfl)(hu:zHt d||zGd d||(match d with| .tup _=>Ac|_=>Ad)=true:=by kernel_rfl):seqW P T ops dr l sl st K:=by
 subst hd;rwa[zH5 h (by intro e;subst e;simp[zHt,zGd]at hu)]at k
theorem st_blk(i:Nat)(b0 b:Bk)(h:st[i]?=Ab b0)(hd:b0=b)(k:seqW P T ops dr l sl (st.set i b) K):seqW P T ops dr l sl st K:=by
 subst hd;rwa[show st.set i b0=st from by
  apply Bs;intro j;rw[List.getElem?_set];split
  ·rename_i e;subst e;rw[h];split
   ·rfl
   rename_i hx;rw[Bx (by omega)]at h;cases h
  rfl]at k
def hdst(l:List Oper):Option Nat:=(l.head?).bind (·.dst)
def zMa(P:Program)(T:Par)(ops:Array Oper)(l:List Oper)(gs:List (Nat×Bool))(sl:List D)(st:List Bk):Option (List Prop×FuncId×List D×List Bk):=match l with
 |[]=>Ae
 | o::_=>match gdec ops o gs sl with
  | .go cs _ sl=>match aeff P T o.op o.type (evD sl) st with
   | .call f args fz=>if zW T o.op then Ae else Ab (cs,f,args,zA3 st fz)
   |_=>Ae
  |_=>Ae
theorem callL_ok(h:zMa P T ops l gs sl st=Ab (cs,f,args,st'))(hc:Alls cs):∃o r fz,l=o::r/\zW T o.op=Ad/\aeff P T o.op o.type (evD sl) st= .call f args fz/\st'=zA3 st fz/\∀{K:List D->List Bk->Prop},goW P T ops dr o r sl st K->seqW P T ops dr (o::r) sl st K:=by
 unfold zMa at h;split at h
 ·cases h
 rename_i o r;split at h
 ·rename_i c1 g1 s1 hg;split at h
  ·rename_i f1 a1 fz he;split at h
   ·cases h
   rename_i hl;simp only[AN.injEq,Au.injEq]at h;obtain⟨rfl,rfl,rfl,rfl⟩:=h;obtain⟨rfl,g2⟩:=zG3 (P:=P) (T:=T) hg hc;exact⟨o,r,fz,rfl,by simpa using hl,he,rfl,λk=>g2 k⟩
  cases h
 cases h
theorem zSm(gs:List (Nat×Bool))(cs:List Prop)(args:List D)(st':List Bk)(args':List D)(h:zMa P T ops l gs sl st=Ab (cs,f,args,st'))(hc:Alls cs)(ha:LeL args args')(hp:Pure P f args' [] x)(k:seqW P T ops dr l.tail (putD sl (hdst l) x) st' K):seqW P T ops dr l sl st K:=by
 obtain⟨o,r,fz,rfl,hl,he,rfl,g⟩:=callL_ok (dr:=dr) h hc;exact g (go_call he hl (hp.le ha) rfl rfl k)
theorem st_callN(gs:List (Nat×Bool))(cs:List Prop)(args:List D)(st':List Bk){n:Bk}(args':List D)(h:zMa P T ops l gs sl st=Ab (cs,f,args,st'))(hc:Alls cs)(ha:LeL args args')(hp:Pure P f args' (n::news) x)(k:seqW P T ops dr l.tail (putD sl (hdst l) (zBc st.length x)) (st'++n::news) K):seqW P T ops dr l sl st K:=by
 obtain⟨o,r,fz,rfl,hl,he,rfl,g⟩:=callL_ok (dr:=dr) h hc;exact g (go_callN he hl (hp.le ha) rfl rfl k)
theorem st_callr(args:List D)(h:zMa P T ops l [] sl st=Ab ([],f,args,st))(hp:Pure P f args [] x)(k:seqW P T ops dr l.tail (putD sl (hdst l) x) st K):seqW P T ops dr l sl st K:=zSm [] [] args st args h trivial (LeL.refl _) hp k
theorem zAh(dead:List Nat)(ch:List (Nat×D))(k:awp P T b Q (updS (zAe sl dead) ch) st)(h:(runL P T ops [] l [] sl st).map (λx=>(Alls x.1,zAe x.2.1 dead,x.2.2))=Ab (True,updS (zAe sl dead) ch,st):=by kernel_rfl):seqW P T ops dr l sl st (zY (zZ P T b Q) Q' .normal):=st_end [] [] dead True ch st h trivial k
theorem zBa(n:Nat)(ch:List (Nat×D))(k:seqW P T ops dr (l.drop n) (updS sl ch) st K)(h:(runL P T ops [] (l.take n) [] sl st).map (λx=>(Alls x.1,x.2.1,x.2.2))=Ab (True,updS sl ch,st):=by kernel_rfl):seqW P T ops dr l sl st K:=st_run n [] [] True ch st h trivial k
theorem zYn(args:List D)(hp:Pure P f args [] x)(k:seqW P T ops dr l.tail (putD sl (hdst l) x) st K)(h:zMa P T ops l [] sl st=Ab ([],f,args,st):=by kernel_rfl):seqW P T ops dr l sl st K:=zSm [] [] args st args h trivial (LeL.refl _) hp k
theorem st_call0(args:List D)(args':List D)(h:zMa P T ops l [] sl st=Ab ([],f,args,st))(ha:LeL args args')(hp:Pure P f args' [] x)(k:seqW P T ops dr l.tail (putD sl (hdst l) x) st K):seqW P T ops dr l sl st K:=zSm [] [] args st args' h trivial ha hp k
def actL(P:Program)(T:Par)(ops:Array Oper)(dr:Bool)(l:List Oper)(gs:List (Nat×Bool))(sl:List D)(st:List Bk):Option (List Prop×FuncId×List D):=match l with
 |[]=>Ae
 | o::_=>match gdec ops o gs sl with
  | .go cs _ sl=>match aeff P T o.op o.type (evD sl) st with
   | .act f args=>if !zW T o.op&&(!dr||isE T o.op)then Ab (cs,f,args)else Ae
   |_=>Ae
  |_=>Ae
theorem zAi(gs:List (Nat×Bool))(cs:List Prop)(args:List D)(args':List D)(ha:LeL args args')(hp:Acts P f args' st [] x st')(k:seqW P T ops dr l.tail (putD sl (hdst l) x) st' K)(h:actL P T ops dr l gs sl st=Ab (cs,f,args):=by kernel_rfl)(hc:Alls cs:=by exact trivial):seqW P T ops dr l sl st K:=by
 unfold actL at h;split at h
 ·cases h
 rename_i o r;split at h
 ·rename_i c1 g1 s1 hg;split at h
  ·rename_i f1 a1 he;split at h
   ·rename_i hl;simp only[AN.injEq,Au.injEq]at h;obtain⟨rfl,rfl,rfl⟩:=h;obtain⟨rfl,g2⟩:=zG3 (P:=P) (T:=T) hg hc;simp only[AC,A7,Bd]at hl;exact g2 (go_act he hl.1 hl.2 (hp.le ha) rfl k)
   cases h
  cases h
 cases h
theorem zAn(k:K sl st)(e:l=[]):seqW P T ops dr l sl st K:=by subst e;exact k
def guardL(ops:Array Oper)(l:List Oper)(sl:List D):Option (Nat×Bool):=match l with
 |[]=>Ae
 | o::_=>match o.guard with
  |none=>Ae
  | some (j,_)=>match(ops[j]?).bind (·.dst)with
   |none=>Ae
   |some t=>match sl.getD t .unk with
    | .val (.bool b)=>Ab (t,b)
    |_=>Ae
theorem st_split(t:Nat)(b:Bool)(h:guardL ops l sl=Ab (t,b))(k1:b=Ac->seqW P T ops dr l (sl.set t (.val (.bool Ac))) st K)(k2:b=Ad->seqW P T ops dr l (sl.set t (.val (.bool Ad))) st K):seqW P T ops dr l sl st K:=by
 unfold guardL at h;(repeat' split at h)<;>try cases h
 rename_i hb;cases b<;>grind [zH5]
theorem zF3{K':List D->List Bk->Prop}(hK:∀sl st,K sl st->K' sl st):∀(l:List Oper)(sl:List D)(st:List Bk),seqW P T ops dr l sl st K->seqW P T ops dr l sl st K'
 |[],sl,st,h=>hK _ _ h
 | o::r,sl,st,h=>by
  have ih:=zF3 hK r;have go:goW P T ops dr o r sl st K->goW P T ops dr o r sl st K':=by
   unfold goW;grind
  cases hg:o.guard with
  |none=>
   simp only[seqW,hg]at h;exact zBz hg (go h)
  |some jw=>
   obtain⟨j,want⟩:=jw;simp only[seqW,hg]at h⊢;split at h
   ·exact⟨λe=>go (h.1 e),λe=>ih _ _ (h.2 e)⟩
   all_goals grind
end
theorem zV6{ops:Array Oper}{K K':List D->List Bk->Prop}(hK:∀sl st,K sl st->K' sl st):∀(its:List zMf)(sl:List D)(st:List Bk),seqI P T ops its sl st K->seqI P T ops its sl st K'
 |[],sl,st,h=>hK _ _ h
 |(e,c,l)::r,sl,st,h=>⟨h.1,zF3 (λsl st h2=>⟨h2.1,zF3 (λsl st h3=>zV6 hK r sl st h3) _ _ _ h2.2⟩) _ _ _ h.2⟩
theorem zNj:∀(c:Code){Q Q':Exit->List D->List Bk->Prop}(hQ:∀e sl st,Q e sl st->Q' e sl st) (sl:List D) (st:List Bk),awp P T c Q sl st->awp P T c Q' sl st:=by
 intro c;induction c with
 |skip=>intro Q Q' hQ sl st h;exact hQ _ _ _ h
 | region id ops dr=>
  intro Q Q' hQ sl st h;simp only[awp]at h⊢;split
  ·rename_i hd;rw[if_pos hd]at h;rcases h with⟨o,h1,h2⟩|⟨l0,its,h1,h2⟩
   ·grind [zF3]
   exact .inr ⟨l0,its,h1,zF3 (λsl st h3=>zV6 (hQ .normal) _ _ _ h3) _ _ _ h2⟩
  grind [zF3]
 |seq x y ihx ihy=>
  intro Q Q' hQ sl st h;simp only[awp]at h⊢;refine ihx (λe sl st hk=>?_) sl st h;cases e<;>simp only[zY]at hk⊢<;>first|exact hQ _ _ _ hk|skip
  grind
 |cond c x y ihx ihy=>
  intro Q Q' hQ sl st h;simp only[awp]at h⊢;grind
 |block id b ih=>
  intro Q Q' hQ sl st h;simp only[awp]at h⊢;refine ih (λe sl st hk=>?_) sl st h;cases e<;>simp only[zR]at hk⊢<;>first|exact hQ _ _ _ hk|skip
  grind
 |loop b ih=>
  intro Q Q' hQ sl st h;simp only[awp]at h⊢;intro X hX;refine h X λY sl st hY hb=>hX Y sl st hY (ih (λe sl st hk=>?_) sl st hb);cases e<;>simp only[zY]at hk⊢<;>first|exact hQ _ _ _ hk|exact hk
 |exit id=>intro Q Q' hQ sl st h;exact hQ _ _ _ h
 |label l=>intro Q Q' hQ sl st h;exact hQ _ _ _ h
 |ret=>intro Q Q' hQ sl st h;exact hQ _ _ _ h
 |_=>intro Q Q' hQ sl st h;exact h.elim
variable{Q:Exit->List D->List Bk->Prop}{sl:List D}{st:List Bk}
theorem zFr{x:Code}(hc:evD sl c= .val (.bool t))(ht:t=Ac)(h:awp P T x Q sl st):awp P T (.cond c x y) Q sl st:=by simp_all [zAk,ht]
theorem zGf{x:Code}(hc:evD sl c= .val (.bool t))(ht:t=Ad)(h:awp P T y Q sl st):awp P T (.cond c x y) Q sl st:=by simp_all [zAk,ht]
theorem cond_T{x:Code}(h:awp P T x Q sl st)(hc:evD sl c= .val (.bool Ac):=by kernel_rfl):awp P T (.cond c x y) Q sl st:=zFr hc rfl h
theorem cond_F{x:Code}(h:awp P T y Q sl st)(hc:evD sl c= .val (.bool Ad):=by kernel_rfl):awp P T (.cond c x y) Q sl st:=zGf hc rfl h
def resL(P:Program)(sl:List D)(st:List Bk):List ResultVar->Option (List Prop×List D)
 |[]=>Ab ([],[])
 | .tmp t::rs=>(resL P sl st rs).map λx=>(x.1,sl.getD t .unk::x.2)
 |r::rs=>match zRd P sl st r with
  | .get p d=>(resL P sl st rs).map λx=>(p::x.1,d::x.2)
  |_=>Ae
theorem zYx:∀{rs:List ResultVar}{cs:List Prop}{ds:List D}{K:List D->Prop},resL P sl st rs=Ab (cs,ds)->Alls cs->K ds->retL P sl st rs K
 |[],cs,ds,K,h,hc,k=>by
  simp only[resL,AN.injEq,Au.injEq]at h;obtain⟨_,rfl⟩:=h;exact k
 | r::rs,cs,ds,K,h,hc,k=>by
  have key:∀p d,zRd P sl st r= .get p d->(∃c1 d1,resL P sl st rs=Ab (c1,d1)/\(p/\Alls c1)/\ds=d::d1)->retL P sl st (r::rs) K:=by
   rintro p d e ⟨c1,d1,h1,⟨h2,h3⟩,rfl⟩;simp only[retL,e];exact⟨h2,zYx h1 h3 k⟩
  cases r with
  |tmp t=>
   simp only[resL,Ax,Prod.exists,Au.injEq]at h;obtain⟨c1,d1,h1,rfl,rfl⟩:=h;exact key True _ rfl ⟨c1,d1,h1,⟨trivial,hc⟩,rfl⟩
  | cell a t=>
   simp only[resL]at h;split at h
   ·rename_i p d he;simp only[Ax,Prod.exists,Au.injEq]at h;obtain⟨c1,d1,h1,rfl,rfl⟩:=h;exact key p d he ⟨c1,d1,h1,hc.cons,rfl⟩
   cases h
def retC(P:Program)(rs:List ResultVar)(sl:List D)(st:List Bk):Option (List Prop×D):=match resL P sl st rs with
 |none=>Ae
 |some (cs,ds)=>(frz Ac st zAz (oneD ds)).map λy=>(cs,y.1)
variable{e:Exit}
theorem zBt(C:Prop)(y y':D)(he:e= .normal\/e= .ret)(hy:y=y')(hx:y'=x)(h:(retC P rs sl st).map (λx=>(Alls x.1,zHn x.2))=Ab (C,y):=by kernel_rfl)(hc:C:=by exact trivial):(e= .normal\/e= .ret)/\retL P sl st rs (λds=>∃y ks,frz Ac st zAz (oneD ds)=Ab (y,ks)/\LeD y x):=by
 subst hy;refine⟨he,?_⟩;rw[Ax]at h;obtain⟨⟨c,y0⟩,h,h0⟩:=h;simp only[Au.injEq]at h0;obtain⟨rfl,rfl⟩:=h0;unfold retC at h;split at h
 ·cases h
 rename_i c1 ds h1;rw[Ax]at h;obtain⟨⟨y1,ks⟩,h2,h3⟩:=h;simp only[Au.injEq]at h3;grind [zYx,nilRow_le]
theorem zT{K:List D->Prop}(C:Prop)(ds:List D)(he:e= .normal\/e= .ret)(hk:K ds)(h:(resL P sl st rs).map (λx=>(Alls x.1,x.2))=Ab (C,ds):=by kernel_rfl)(hc:C:=by exact trivial):(e= .normal\/e= .ret)/\retL P sl st rs K:=by
 rw[Ax]at h;obtain⟨⟨c,y0⟩,h,h0⟩:=h;simp only[Au.injEq]at h0;grind [zYx]
theorem zN(S:α->List D)(B:α->List Bk)(μ:α->Nat)(J:α->Prop)(a₀:α)(h₀:J a₀)(hw:Weak T sl st (S a₀) (B a₀))
  (step:∀a,J a->awp P T b0 (zY (λsl' st'=>∃a',J a'/\μ a'<μ a/\Weak T sl' st' (S a') (B a')) Q) (S a) (B a)):awp P T (.loop b0) Q sl st:=by
 refine zNk (α:=α) (S) (B) (μ) (J) a₀ h₀ hw ?_;rintro a hj;refine zNj b0 (λe sl st hk=>?_) _ _<|step a hj;grind
theorem zBp(S:α->β->List D)(B:α->β->List Bk)(μ:α->β->Nat)(J:α->β->Prop)(a₀:α)(b₀:β)(h₀:J a₀ b₀)(hw:Weak T sl st (S a₀ b₀) (B a₀ b₀))
  (step:∀a b,J a b->awp P T b0 (zY (λsl' st'=>∃a' b',J a' b'/\μ a' b'<μ a b/\Weak T sl' st' (S a' b') (B a' b')) Q) (S a b) (B a b)):awp P T (.loop b0) Q sl st:=by
 refine zNk (α:=α×β) (λx=>S x.1 x.2) (λx=>B x.1 x.2) (λx=>μ x.1 x.2) (λx=>J x.1 x.2) (a₀,b₀) h₀ hw ?_;rintro⟨a,b⟩ hj;refine zNj b0 (λe sl st hk=>?_) _ _<|step a b hj;simp_all
theorem zA0(S:α->β->γ->List D)(B:α->β->γ->List Bk)(μ:α->β->γ->Nat)(J:α->β->γ->Prop)(a₀:α)(b₀:β)(c₀:γ)(h₀:J a₀ b₀ c₀)(hw:Weak T sl st (S a₀ b₀ c₀) (B a₀ b₀ c₀))
  (step:∀a b c,J a b c->awp P T b0 (zY (λsl' st'=>∃a' b' c',J a' b' c'/\μ a' b' c'<μ a b c/\Weak T sl' st' (S a' b' c') (B a' b' c')) Q) (S a b c) (B a b c)):awp P T (.loop b0) Q sl st:=by
 refine zNk (α:=α×β×γ) (λx=>S x.1 x.2.1 x.2.2) (λx=>B x.1 x.2.1 x.2.2) (λx=>μ x.1 x.2.1 x.2.2) (λx=>J x.1 x.2.1 x.2.2) (a₀,b₀,c₀) h₀ hw ?_;rintro⟨a,b,c⟩ hj;refine zNj b0 (λe sl st hk=>?_) _ _<|step a b c hj;simp_all
theorem awp_loop5{δ:Type}{ε:Type}(S:α->β->γ->δ->ε->List D)(B:α->β->γ->δ->ε->List Bk)(μ:α->β->γ->δ->ε->Nat)(J:α->β->γ->δ->ε->Prop)(a₀:α)(b₀:β)(c₀:γ)(d₀:δ)(e₀:ε)(h₀:J a₀ b₀ c₀ d₀ e₀)(hw:Weak T sl st (S a₀ b₀ c₀ d₀ e₀) (B a₀ b₀ c₀ d₀ e₀))
  (step:∀a b c d e,J a b c d e->awp P T b0 (zY (λsl' st'=>∃a' b' c' d' e',J a' b' c' d' e'/\μ a' b' c' d' e'<μ a b c d e/\Weak T sl' st' (S a' b' c' d' e') (B a' b' c' d' e')) Q) (S a b c d e) (B a b c d e)):awp P T (.loop b0) Q sl st:=by
 refine zNk (α:=α×β×γ×δ×ε) (λx=>S x.1 x.2.1 x.2.2.1 x.2.2.2.1 x.2.2.2.2) (λx=>B x.1 x.2.1 x.2.2.1 x.2.2.2.1 x.2.2.2.2) (λx=>μ x.1 x.2.1 x.2.2.1 x.2.2.2.1 x.2.2.2.2) (λx=>J x.1 x.2.1 x.2.2.1 x.2.2.2.1 x.2.2.2.2) (a₀,b₀,c₀,d₀,e₀) h₀ hw ?_;rintro⟨a,b,c,d,e⟩ hj;refine zNj b0 (λe sl st hk=>?_) _ _<|step a b c d e hj;simp_all
theorem Weak.all(m:Nat)(bs:List Bk)(hl:LeL sl sl')(hn:zF8 sl' st m st.length=Ac)(hk:∀k,m<=k->T.keep k=Ad)(e:st.take m++bs=st'):Weak T sl st sl' st':=by
 subst e;exact((Weak.slots hl).trans (Weak.cut m hn hk)).trans (Weak.more bs)
def assocN(hs:List (Nat×Nat))(i:Nat):Nat:=match hs with
 |[]=>0
 |(j,h)::r=>if i==j then h else assocN r i
def le1(h:Nat)(d d':D):List Prop:=match h with
 |0=>match d' with
  | .unk=>[]
  |_=>[False]
 |1=>[d=d']
 |2=>match d,d' with
  | .val (.slice Ae 0 0), .osl _ 0 0 0 _=>[]
  |_,_=>[False]
 |3=>match d,d' with
  | .val (.slice Ae 0 0), .row [] 0=>[]
  |_,_=>[False]
 |4=>match d with
  | .fx e=>[e=d']
  |_=>[False]
 |_=>[False]
def leC:Nat->List D->List D->List (Nat×Nat)->List Prop
 |_,[],[],_=>[]
 |i,d::ds,d'::ds',hs=>le1 (assocN hs i) d d'++leC (i+1) ds ds' hs
 |_,_,_,_=>[False]
theorem LeD.fx(d:D):LeD (.fx d) d:=λI w β v h=>by
 simp only[Rel]at h;exact Rel.no h.2
theorem leC_ok{hs:List (Nat×Nat)}:∀{i:Nat}{sl sl':List D},Alls (leC i sl sl' hs)->LeL sl sl'
 |i,[],[],_=> .nil
 |i,[],_::_,h=>h.elim
 |i,_::_,[],h=>h.elim
 | i,d::ds,d'::ds',h=>by
  simp only[leC]at h;obtain⟨h1,h2⟩:=Alls.app h;refine .cons ?_ (leC_ok h2);unfold le1 at h1;split at h1
  ·split at h1
   ·exact .unk _
   exact h1.elim
  ·exact .eq h1
  ·split at h1
   ·exact .nil _ _
   exact h1.elim
  ·split at h1
   ·exact .nil_row
   exact h1.elim
  ·split at h1
   ·rename_i e;have h3:e=d':=h1;subst h3;exact LeD.fx _
   exact h1.elim
  exact h1.elim
theorem zH1(hs:List (Nat×Nat))(C:Prop)(m:Nat)(bs:List Bk)(h:Alls (leC 0 sl sl' hs)=C)(hc:C)(hn:zF8 sl' st m st.length=Ac)(hk:∀k,m<=k->T.keep k=Ad)(e:st.take m++bs=st'):Weak T sl st sl' st':=by
 subst h;exact Weak.all m bs (leC_ok hc) hn hk e
end
abbrev eqDL(a b:List D):Prop:=a=b
section
variable{P:Program}{T:Par}{ops:Array Oper}{dr:Bool}{l:List Oper}{sl:List D}{st:List Bk}{K:List D->List Bk->Prop}
def isGet:Eff->Option (Prop×D)
 | .get p d=>Ab (p,d)
 |_=>Ae
def ldL(P:Program)(l:List Oper)(sl:List D)(e:Bk):Option (Nat×Prop×D):=match l with
 |[]=>Ae
 | o ::_=>match o.guard with
  |some _=>Ae
  | none=>match o.op with
   | .load t a=>match evD sl a with
    | .own k off=>if e.kd.isMap then Ae else match isGet (ldP P t (e.cells.drop off) .get)with
     |some (p,d)=>Ab (k,p,d)
     |none=>Ae
    |_=>Ae
   |_=>Ae
theorem isGet_ok(h:isGet e=Ab (p,d)):e= .get p d:=by
 unfold isGet at h;grind
theorem zAs(e:Bk)(k:Nat)(p:Prop)(d:D)(hk:st[k]?=Ab e)(hp:p)(next:seqW P T ops dr l.tail (putD sl (hdst l) d) st K)(h:ldL P l sl e=Ab (k,p,d):=by kernel_rfl):seqW P T ops dr l sl st K:=by
 unfold ldL at h;split at h
 ·cases h
 rename_i o r;split at h
 ·cases h
 rename_i hg;split at h
 ·rename_i t a ho;split at h
  ·rename_i k1 off ha;split at h
   ·cases h
   rename_i hm;split at h
   ·rename_i p1 d1 hl;cases h;have he:aeff P T o.op o.type (evD sl) st= .get p d:=by
     rw[ho];simp only[aeff,ha,hk,hm];exact isGet_ok hl
    refine zBz hg<|go_get he (by rw[ho];rfl) hp rfl ?_;exact next
   cases h
  cases h
 cases h
def putL(P:Program)(l:List Oper)(sl:List D)(e:Bk):Option (Nat×Prop×Bk):=match l with
 |[]=>Ae
 | o::_=>match o.guard with
  |some _=>Ae
  | none=>match o.op with
   | .store t a x=>match evD sl a,tySz P t with
    | .own k off,Ab sz=>if e.kd.isMap then Ae else if e.nob then Ae else Ab (k,(e.fz=Ad/\zGd (evD sl x)=Ac/\(cellsOf (evD sl x)).length=sz/\off+sz<=e.cells.length),{e with cells:=setAt e.cells off (cellsOf (evD sl x))})
    |_,_=>Ae
   |_=>Ae
theorem zCh(e:Bk)(k:Nat)(p:Prop)(b:Bk)(hk:st[k]?=Ab e)(hp:p)(next:seqW P T ops dr l.tail (putD sl (hdst l) .unk) (st.set k b) K)(h:putL P l sl e=Ab (k,p,b):=by kernel_rfl):seqW P T ops dr l sl st K:=by
 unfold putL at h;split at h
 ·cases h
 rename_i o r;split at h
 ·cases h
 rename_i hg;split at h
 ·rename_i t a x ho;split at h
  ·rename_i k1 off sz ha hs;split at h
   ·cases h
   rename_i hm;split at h
   ·cases h
   rename_i hn;cases h;have he:aeff P T o.op o.type (evD sl) st= .put (e.fz=Ad/\zGd (evD sl x)=Ac/\(cellsOf (evD sl x)).length=sz/\off+sz<=e.cells.length) k {e with cells:=setAt e.cells off (cellsOf (evD sl x))} []:=by
    rw[ho];simp only[aeff,ha,hs,hk];rw[if_neg hm,if_neg hn]
   refine zBz hg<|zW8 he (by rw[ho];rfl) hp rfl rfl ?_;exact next
  cases h
 cases h
def putA(P:Program)(l:List Oper)(sl:List D)(e:Bk):Option (Nat×Prop×Bk):=match l with
 |[]=>Ae
 | o ::_=>match o.guard with
  |some _=>Ae
  | none=>match o.op with
   | .store t a x=>match evD sl a,tySz P t with
    | .own k off,Ab sz=>if e.kd.isMap then Ae else if e.nob then match frz Ad [] zAz (evD sl x)with
      |some (d,[])=>Ab (k,(e.fz=Ad/\zGd d=Ac/\(cellsOf d).length=sz/\off+sz<=e.cells.length),{e with cells:=setAt e.cells off (cellsOf d)})
      |_=>Ae
     else Ae
    |_,_=>Ae
   |_=>Ae
theorem st_actc(gs:List (Nat×Bool))(cs:List Prop)(args:List D)(args':List D)(h:actL P T ops dr l gs sl st=Ab (cs,f,args))(hc:Alls cs)(ha:LeL args args')(hp:Acts P f args' st ch x st')(hk:∀k∈ch,T.keep k=Ad)(hs:∀d∈sl,∀k∈ch,refs k d=Ad)(k:seqW P T ops dr l.tail (putD sl (hdst l) x) st' K):seqW P T ops dr l sl st K:=by
 unfold actL at h;split at h
 ·cases h
 rename_i o r;split at h
 ·rename_i c1 g1 s1 hg;split at h
  ·rename_i f1 a1 he;split at h
   ·rename_i hl;simp only[AN.injEq,Au.injEq]at h;obtain⟨rfl,rfl,rfl⟩:=h;obtain⟨rfl,g2⟩:=zG3 (P:=P) (T:=T) hg hc;simp only[AC,A7,Bd]at hl;refine g2 ?_;simp only[goW,he];refine⟨hl.1,hl.2,ch,x,st',⟨hp.le ha,hk⟩,?_⟩;have:s1.map (zC8 ch)=s1:=by
     conv=>rhs;rw[<-List.map_id s1]
     refine A0 λd hd=>?_;unfold zC8;grind
    rw[this];exact k
   cases h
  cases h
 cases h
theorem weak_opq(hs:List (Nat×Nat))(C:Prop)(h:Alls (leC 0 sl sl' hs)=C)(hc:C):Weak T sl st sl' st:=by
 grind [Weak.slots,leC_ok]
theorem zLn(gs:List (Nat×Bool))(cs:List Prop)(args:List D)(args':List D)(h:actL P T ops dr l gs sl st=Ab (cs,f,args))(hc:Alls cs)(ha:LeL args args')(hp:Acts P f args' st ch x st')(hk:ch.all (λk=>!T.keep k)=Ac)(k:seqW P T ops dr l.tail (putD (sl.map (zC8 ch)) (hdst l) x) st' K):seqW P T ops dr l sl st K:=by
 unfold actL at h;split at h
 ·cases h
 rename_i o r;split at h
 ·rename_i c1 g1 s1 hg;split at h
  ·rename_i f1 a1 he;split at h
   ·rename_i hl;simp only[AN.injEq,Au.injEq]at h;obtain⟨rfl,rfl,rfl⟩:=h;obtain⟨rfl,g2⟩:=zG3 (P:=P) (T:=T) hg hc;simp only[AC,A7,Bd]at hl;refine g2 ?_;simp only[goW,he];exact⟨hl.1,hl.2,ch,x,st',⟨hp.le ha,λk hk'=>by simpa using AX.1 hk k hk'⟩,k⟩
   cases h
  cases h
 cases h
def updB(st:List Bk)(ups:List (Nat×Bk))(news:List Bk):List Bk:=ups.foldl (λs p=>s.set p.1 p.2) st++news
theorem Acts.cut{f:FuncId}{args:List D}{s:List Bk}{x:D}{ch:List Nat}(m:Nat)(h:Acts P f args st ch x s)(hm:st.length<=m)(hn:zF8 [x] s m s.length=Ac):Acts P f args st ch x (s.take m):=by
 intro β I w vs hr hsr hinj hfz hdom hi hg;refine(h β I w vs hr hsr hinj hfz hdom hi hg).mono ?_;rintro e w' ⟨v,β',I',rfl,p1,p2,p3,p4,p5,p6,p7,p8⟩;have hs:Sim β' I' w' [x] s [v]:=⟨by simp only[RelT];exact⟨v,[],rfl,p8,rfl⟩,p4,p5,p6,p7,p1,hg.mono p2.fix⟩;obtain⟨β2,I2,s2,t2,k2⟩:=Weak.cut (T:=⟨λ_=>Ad,λ_ _=>Ae,λk=>decide (k<m),λ_=>Ad,λ_=>Ad⟩) m hn (λk hk=>by simp;omega) β' I' w' _ hs;have hx:=s2.rel;simp only[RelT]at hx;obtain⟨v2,us,hv,hx,_⟩:=hx;simp only[List.cons.injEq]at hv;obtain⟨rfl,_⟩:=hv;refine⟨v,β2,I2,rfl,s2.imb,p2.trans t2,λk y hk hb=>k2 k y (by have:=hdom k y hb;simp;omega) (p3 k y hk hb),s2.sr,s2.inj,s2.fz,s2.dom,hx⟩
end
theorem zV{f:α->β}{l:List α}(h:0<l.length:=by omega):l.map f≠[]:=by grind [List.map_eq_nil_iff]
theorem zCe(f:α->D)(l:List α)(d0:α)(k:Nat)(h:k<l.length):((l.map f).drop k).headD .unk=f (l.getD k d0):=by
 simp_all
theorem zQl(a:Nat):(a:Int)+1=((a+1:Nat):Int):=by simp
theorem zE9(a:Nat)(h:1<=a):(a:Int)-1=((a-1:Nat):Int):=by omega
theorem zL8(n:Nat):A8 (n:Int) (2^32)=((n/4294967296:Nat):Int):=by
 grind
abbrev dig(x:Nat):D:= .val (.int .u32 x)
abbrev digR(l:List Nat):D:= .row (l.map dig) l.length
theorem zCf(l:List Nat)(k:Nat)(h:k<l.length):((l.map dig).drop k).headD .unk=dig (l.getD k 0):=by
 simp_all
theorem zHh(l:List Nat)(k x:Nat):(l.map dig).set k (.val (.int .u32 (x:Int)))=(l.set k x).map dig:=by
 rw[List.map_set]
theorem zSy(n:Nat):repL n [.val (.int .u32 0)]=(As n 0).map dig:=by
 rw[List.map_replicate];induction n with
 |zero=>rfl
 |succ n ih=>simp only[repL,B7,Cc,BN,BO]at ih⊢;rw[ih];rfl
theorem zKg(l:List Nat)(n:Nat):(l.map dig).take n=(l.take n).map dig:=by rw[List.map_take]
def dg(n:Nat):List Nat:=if h:n=0 then[]else n%4294967296::dg (n/4294967296)
 decreasing_by omega
theorem zCv(n:Nat):nval (dg n)=n:=by
 induction n using Bb with
 |_ n ih=>
  grind [dg,nval]
theorem zCw(n:Nat):Digs (dg n):=by
 induction n using Bb with
 | _ n ih=>
  intro i;unfold dg;split
  ·simp
  cases i with
  |zero=>simp;omega
  |succ i=>simp only[List.getD_cons_succ];exact ih _ (by omega) i
theorem zY4{x:Nat}{l:List Nat}(h:Normal (x::l)):Normal l/\(l=[]->x≠0):=by
 rcases h with h|h
 ·cases h
 cases l with
 |nil=>exact⟨.inl rfl,λ_=>by simpa using h⟩
 |cons y l=>exact⟨.inr (by simpa using h),λh=>by cases h⟩
theorem dg_nval:∀(l:List Nat),Normal l->Digs l->dg (nval l)=l
 |[],_,_=>by unfold dg;simp[nval]
 |x::l,hn,hd=>by
  obtain⟨h1,h2⟩:=zY4 hn;have hx:x<4294967296:=by simpa using hd 0
  have ih:=dg_nval l h1 (λi=>by simpa using hd (i+1));grind [nval,Normal.zero,dg]
theorem zSd{l:List Nat}(hl:Digs l):l.take (zC4 l l.length)=dg (nval l):=by
 have h1:=zWs l l.length (Al _);have h2:=zJy l l.length (Al _);rw[BP]at h1;rw[<-h1,dg_nval _ h2 (hl.take _)]
theorem normal_dg(n:Nat):Normal (dg n):=by
 have h:=zJy (dg n) (dg n).length (Al _);grind [zSd,zCw,zCv]
theorem zR1{l:List Nat}(hl:Digs l):(dg (nval l)).length<=l.length:=by
 grind [zSd,Bt]
def cmpD(a b:Int):Int:=if a<b then-1 else if b<a then 1 else 0
theorem cmpD_eq{a b c d:Nat}(h1:a<b->c<d)(h2:b<a->d<c)(h3:a=b->c=d):cmpD a b=cmpD c d:=by
 grind [cmpD,Nat.lt_trichotomy]
abbrev natD(n:Nat):D:=digR (dg n)
end
variable{args:Array Value}{s:ChangeSpec}{before:List MemPlace}{bt:TypeId}
section
open Go.ChangeShapes Go.WideShapes Go.ChangeAt Go.RowKit
section
variable{H:Type}{enc:TypeId×Value->H}{P:Program}
theorem zNw(hl:laidOutB P=Ac){W W':World}(hb:Ext W W'):∀{ts:List TypeId}{vs:List Value}{ds:List (DataW H)}{ps:List MemPlace}(sp:Nat->Bool),
  ts.all (λt=>P.readableRec t&&decide (t<P.types.size))=Ac->DataW.TrodAll enc P W 0 (λ_=>Ac) Ac ts vs ds ps->(∀p∈ps,p.block<W.heap.size)->(∀p∈ps,sp p.block=Ac)->DataW.TrodAll enc P W' 0 sp Ac ts vs ds ps
 |[],[],[],ps,sp,_,h,_,_=>h
 |t::ts,v::vs,d::ds,ps,sp,hr,⟨p,q,h1,h2,h3⟩,hlt,hsp=>by
  subst h3;simp only[List.all_cons,AC,decide_eq_true_eq]at hr;refine⟨p,q,WideElems.Trod_stays hl hr.1.1 hr.1.2 h1 (λx hx=>Below.same hb.1 (hlt x (B_ _ hx))) (λx hx=>hsp x (B_ _ hx)),?_,rfl⟩;exact zNw hl hb sp hr.2 h2 (λx hx=>hlt x (Ca _ hx)) (λx hx=>hsp x (Ca _ hx))
 |[],_::_,_,_,_,_,h,_,_=>h.elim
 |[],[],_::_,_,_,_,h,_,_=>h.elim
 |_::_,[],_,_,_,_,h,_,_=>h.elim
 |_::_,_::_,[],_,_,_,h,_,_=>h.elim
theorem post_true{f:Func}{W W':World}{ds:List (DataW H)}
  (hl:laidOutB P=Ac)(hv:s.vars=[])(hrt:f.resultTypes=#[bt])(hbt:P.underlying bt=Ab .bool)
  (hr:f.params.toList.all (λt=>P.readableRec t&&decide (t<P.types.size))=Ac)
  (hfn:s.fn H ds={results:=[.lit (.bool Ac)],args:=ds})
  (hW:DataW.Whole enc P f.params.toList s.vars Ad W args.toList ds [] before)(hx:Ext W W'):
  s.post enc P f Ad Ac Ad Ad W args (.bool Ac) W':=by
 have hlt:∀p∈before,p.block<W.heap.size:=λp hp=>hW.lt p hp;obtain⟨p,q,hA,hV,hpq,hz,hn⟩:=id hW;rw[hv]at hV;have hq:q=[]:=hV;subst hq;rw[Cd]at hpq;subst hpq;have hfn':s.fn H (ds++[])={results:=[.lit (.bool Ac)],args:=ds}:=by rw[Cd];exact hfn
 have hstay:∀sp:Nat->Bool,(∀x∈before,sp x.block=Ac)->DataW.TrodAll enc P W' 0 sp Ac f.params.toList args.toList ds before:=λsp hsp=>zNw hl hx sp hr hA hlt hsp;have hres:∀(b:Nat)(sp:Nat->Bool)(hd:Bool),DataW.TrodAll enc P W' b sp hd f.resultTypes.toList ((Ay Ac).resultList f.resultTypes.size) [.lit (.bool Ac)] []:=by
  intro b sp hd;rw[hrt];exact⟨[],[],shut_bool hbt Ac,rfl,rfl⟩
 have hvars:∀sp:Nat->Bool,DataW.TrodVars enc P W' sp s.vars ([]:List (DataW H)) []:=λsp=>by rw[hv];exact rfl
 refine⟨ds,[],before,[],before,[],hW,by rw[hfn'];exact hres _ _ _,by rw[hfn'];exact hstay _ (λx hx=>by simpa using hlt x hx),by rw[hfn'];exact hvars _,World.keptBut_mono (λx hx=>⟨hx,Or.inr (by simpa using hx)⟩) (Below.frame hx.1 (· ∈before)),λ_=>?_⟩;grind
end
end
section
open Go.ChangeShapes Go.WideShapes Go.ChangeAt Go.RowKit
def allI(w:World):Im:=λb _=>b<w.heap.size
def ShpB(P:Program)(B:Nat):Nat->TypeId->List D->Prop
 |0,_,_=>False
 |n+1,t,ds=>match P.underlying t with
  |some .bool=>∃b,ds=[.val (.bool b)]
  |some (.int k)=>∃z,ds=[.val (.int k z)]/\(Lit.int k z).wf=Ac
  |some .string=>∃s,ds=[.val (.string s)]/\s.size<=B
  |some (.slice e)=>∃ls:List (List D),ds=[.row ls.flatten ls.length]/\(∀x∈ls,ShpB P B n e x/\x.length=P.cellsOf e)/\ls.length<=B
  |some (.struct fs)=>ds.length=P.cellsOf t/\∀f∈fs.toList,ShpB P B n f.type ((ds.drop f.offset).take (P.cellsOf f.type))
  |some (.array m e)=>ds.length=P.cellsOf t/\∀i,i<m->ShpB P B n e ((ds.drop (i*P.cellsOf e)).take (P.cellsOf e))
  |_=>False
abbrev Shp(P:Program):Nat->TypeId->List D->Prop:=ShpB P maxLen
section
variable{H:Type}{enc:TypeId×Value->H}{P:Program}{w:World}
theorem zKu{α β:Type}{f:α->Option β}:∀{l:List α}{r:List β},l.mapM f=Ab r->r.length=l.length/\∀(i:Nat) x,l[i]?=Ab x->∃y,f x=Ab y/\y∈r
 |[],r,h=>by simp at h;subst h;exact⟨rfl,by simp⟩
 | a::l,r,h=>by
  rw[List.mapM_cons]at h;cases ha:f a with
  |none=>simp[ha]at h
  | some b=>
   cases hl:l.mapM f with
   |none=>simp[ha,hl]at h
   |some bs=>
    simp[ha,hl]at h;subst h;obtain⟨h1,h2⟩:=zKu hl;grind
theorem RelC.append{I:Im}{b:Nat}:∀{x y:List D}{o:Nat},RelC I w x b o->RelC I w y b (o+x.length)->RelC I w (x++y) b o
 |[],y,o,h,k=>by simpa using k
 |d::x,y,o,h,k=>by
  simp only[BN,RelC]at h⊢;refine⟨h.1,h.2.append ?_⟩;grind
theorem zMj{I:Im}{b sz:Nat}:∀(ls:List (List D))(o:Nat),(∀j x,ls[j]?=Ab x->RelC I w x b (o+j*sz)/\x.length=sz)->RelC I w ls.flatten b o
 |[],o,h=>by simp only[List.flatten_nil,RelC]
 |x::ls,o,h=>by
  rw[Cc];have h0:=h 0 x rfl;refine RelC.append (by simpa using h0.1) (zMj (sz:=sz) ls _ λj y hy=>?_)
  have:=h (j+1) y (by simpa using hy)
  grind
theorem zS1{b o n:Nat}{cs:List Value}(h:RelL (allI w) w noB ds cs)(hc:∀j v,cs[j]?=Ab v->w.cell? ⟨b,o+j,Ae⟩=Ab v):RelC (allI w) w ds b o:=
 RelC.of_get λi d hd=>by
  obtain⟨v,k1,k2,k3⟩:=h.get i d hd;have hv:=hc i v k1;exact⟨World.block_lt_of_cell? w _ hv,v,hv,k2,k3⟩
def zHy(P:Program)(total:Nat):List Field->Nat->Bool
 |[],off=>off==total
 |f::r,off=>f.offset==off&&zHy P total r (off+P.cellsOf f.type)
theorem zXp{total:Nat}:∀{fs:List Field}{off:Nat},zHy P total fs off=Ac->off<=total
 |[],off,h=>by simp[zHy]at h;omega
 |f::r,off,h=>by
  simp only[zHy,AC,beq_iff_eq]at h
  have:=zXp h.2
  omega
theorem zXq{total:Nat}:∀{fs:List Field}{off:Nat},zHy P total fs off=Ac->∀f∈fs,off<=f.offset
 |[],off,h,f,hf=>by cases hf
 |g::r,off,h,f,hf=>by
  simp only[zHy,AC,beq_iff_eq]at h;rcases AG.1 hf with rfl|hf
  ·omega
  have:=zXq h.2 f hf;omega
theorem zRy{total:Nat}{cs:List Value}(hl:cs.length=total){S:TypeId->List D->Prop}:∀(fs:List Field)(off:Nat),zHy P total fs off=Ac->(∀f∈fs,∃ds,RelL (allI w) w noB ds ((cs.drop f.offset).take (P.cellsOf f.type))/\S f.type ds)->
  ∃ds,RelL (allI w) w noB ds (cs.drop off)/\∀f∈fs,S f.type ((ds.drop (f.offset-off)).take (P.cellsOf f.type))
 |[],off,hc,h=>by
  simp only[zHy,beq_iff_eq]at hc;exact⟨[],by rw[BQ (by omega)];simp only[RelL],by simp⟩
 | f::r,off,hc,h=>by
  simp only[zHy,AC,beq_iff_eq]at hc;obtain⟨df,h1,h2⟩:=h f (AM ..);obtain⟨dr,h3,h4⟩:=zRy hl r _ hc.2 (λg hg=>h g (AJ _ hg));have hle:=zXp hc.2;have hlen:df.length=P.cellsOf f.type:=by
   rw[h1.length,Bt,BR,hc.1];omega
  refine⟨df++dr,?_,λg hg=>?_⟩
  ·have:=h1.append h3
   grind [Ce,BM]
  rcases AG.1 hg with rfl|hg
  ·simp_all
  have hge:=zXq hc.2 g hg;grind [List.drop_append,BQ]
theorem zW4{sz:Nat}{S:List D->Prop}:∀(m:Nat)(cs:List Value),cs.length=m*sz->(∀i,i<m->∃ds,RelL (allI w) w noB ds ((cs.drop (i*sz)).take sz)/\S ds)->
  ∃ds,RelL (allI w) w noB ds cs/\∀i,i<m->S ((ds.drop (i*sz)).take sz)
 |0,cs,hl,h=>by
  obtain rfl:cs=[]:=BS (by simpa using hl);exact⟨[],by simp only[RelL],by simp⟩
 | m+1,cs,hl,h=>by
  obtain⟨d0,h1,h2⟩:=h 0 (by omega);rw[Nat.zero_mul,A1]at h1;rw[BT]at hl;have hlen:d0.length=sz:=by rw[h1.length,Bt];omega
  obtain⟨dr,h3,h4⟩:=zW4 (sz:=sz) (S:=S) m (cs.drop sz) (by rw[BR];omega) (λi hi=>by
   obtain⟨ds,k1,k2⟩:=h (i+1) (by omega);refine⟨ds,?_,k2⟩;rw[Ce,show sz+i*sz=(i+1)*sz by rw[BT];omega];exact k1)
  refine⟨d0++dr,?_,λi hi=>?_⟩
  ·have:=h1.append h3
   simp_all
  cases i with
  |zero=>
   grind
  |succ i=>
   have:=h4 i (by omega)
   rw[BT,List.drop_append,BQ (l:=d0) (by omega),BO,show i*sz+sz-d0.length=i*sz by omega];exact this
def okT(P:Program):Nat->TypeId->Bool
 |0,_=>Ac
 |n+1,t=>match P.underlying t with
  |some .bool|some (.int _)|some .string=>Ac
  |some (.slice e)=>decide (0<P.cellsOf e)&&okT P n e
  |some (.struct fs)=>zHy P (P.cellsOf t) fs.toList 0&&fs.toList.all (λf=>okT P n f.type)
  |some (.array m e)=>P.cellsOf t==m*P.cellsOf e&&okT P n e
  |_=>Ad
section
variable{B:Nat}{Q:DataW H->Prop}(hQ:∀ e s, Q (.slice e s)->(e.length ≤ maxLen->e.length ≤ B) ∧ ∀ x ∈ e, Q x)(hA:∀ p, Q (.agg p)->∀ x ∈ p, Q x)(hS:∀ l, Q (.lit (.string l))->l.length ≤ maxLen->l.length ≤ B)
include hQ hA hS
theorem trod_shp:∀(fuel:Nat)(t:TypeId)(cs:List Value)(d:DataW H)(ps:List MemPlace),DataW.trod enc P w 0 (λ_=>Ac) Ac fuel t cs=Ab (d,ps)->Q d->okT P fuel t=Ac->∃ds,RelL (allI w) w noB ds cs/\ShpB P B fuel t ds
 |0,t,cs,d,ps,h,hq,hk=>by cases h
 | n + 1,t,cs,d,ps,h,hq,hk=>by
  have ih:=trod_shp n;simp only[DataW.trod]at h;split at h;case h_1=>
   rename_i b hu;exact⟨[.val (.bool b)],by simp only[RelL,Rel];exact⟨_,_,rfl,rfl,rfl,rfl⟩,by simp[ShpB,hu]⟩
  case h_2=>
   rename_i k k' z hu;split at h
   ·rename_i hc;obtain⟨rfl,hw⟩:=hc;exact⟨[.val (.int k' z)],by simp only[RelL,Rel];exact⟨_,_,rfl,rfl,rfl,rfl⟩,by simp[ShpB,hu,hw]⟩
   cases h
  case h_4=>
   rename_i z hu;split at h
   ·rename_i hc;have hz:z.size<=B:=hS _ ((Au.inj (AN.inj h)).1▸hq) hc;exact⟨[.val (.string z)],by simp only[RelL,Rel];exact⟨_,_,rfl,rfl,rfl,rfl⟩,by simp[ShpB,hu,hz]⟩
   cases h
  case h_7=>
   rename_i e hu;exact⟨[.row [] 0],by simp only[RelL,Rel];exact⟨_,_,rfl,rfl,⟨Ae,0,rfl,Al _,by decide,λ_=>rfl, .inl trivial⟩,rfl⟩,by simp only[ShpB,hu];exact⟨[],rfl,by simp,A9 _⟩⟩
  case h_8=>
   rename_i e a len cap hu;simp only[okT,hu,AC,decide_eq_true_eq]at hk;split at h
   ·rename_i hc;cases hm:(Br len).mapM (λi=>(w.cells? 0 (a.add (i*P.cellsOf e)) (P.cellsOf e)).bind (DataW.trod enc P w 0 (λ_=>Ac) Ac n e))with
    |none=>simp[hm]at h
    | some es=>
     obtain⟨h1,h2⟩:=zKu hm;obtain⟨rest,rfl⟩:∃rest,d= .slice (es.map (·.1)) rest:=by
      simp[hm]at h;obtain⟨rest,_,h3,_⟩:=h;exact⟨_,h3.symm⟩
     obtain⟨hq1,hq2⟩:=hQ _ _ hq;have hB:len<=B:=by
      rw[Cf,h1,List.length_range]at hq1;exact hq1 (by omega)
     have key:∀i,i<len->∃ds cs,RelL (allI w) w noB ds cs/\ShpB P B n e ds/\w.cells? 0 (a.add (i*P.cellsOf e)) (P.cellsOf e)=Ab cs:=by
      intro i hi;obtain⟨y,hy,hmem⟩:=h2 i i (Cg hi);rw[Option.bind_eq_some_iff]at hy;obtain⟨cs,k1,k2⟩:=hy;obtain⟨ds,k3,k4⟩:=ih e cs y.1 y.2 k2 (hq2 _ (AQ.2 ⟨y,hmem,rfl⟩)) hk.2;exact⟨ds,cs,k3,k4,k1⟩
     have hsp:0<len->a.spot=none:=by
      intro h0;obtain⟨ds,cs,k1,k2,k3⟩:=key 0 h0;obtain⟨_,hl,hcell⟩:=Ch k3
      have:=hcell 0 (by omega)
      have h5:∃v,w.cell? ((a.add (0*P.cellsOf e)).add 0)=Ab v:=by
       rw[this];exact⟨cs[0]'(by omega),by simp⟩
      obtain⟨v,hv⟩:=h5
      have:=World.cell?_spot hv
      simpa[Addr.add]using this
     have hls:∃ls:List (List D),ls.length=len/\∀j x,ls[j]?=Ab x->∃cs,RelL (allI w) w noB x cs/\ShpB P B n e x/\w.cells? 0 (a.add (j*P.cellsOf e)) (P.cellsOf e)=Ab cs:=by
      refine⟨(Br len).map (λi=>if hi:i<len then Classical.choose (key i hi)else[]),by simp,λj x hx=>?_⟩;rw[BU,Ax]at hx;obtain⟨j',hj,rfl⟩:=hx;have hjl:j<len:=by have:=(A4.1 hj).1;simpa using this
      rw[Cg hjl]at hj;cases hj;rw[dif_pos hjl];exact Classical.choose_spec (key j hjl)
     obtain⟨ls,hl1,hl2⟩:=hls;have hlen:∀(j:Nat)(x:List D),ls[j]?=Ab x->x.length=P.cellsOf e:=by
      intro j x hx;obtain⟨cs,k1,k2,k3⟩:=hl2 j x hx;rw[k1.length];exact(Ch k3).2.1
     refine⟨[.row ls.flatten ls.length],?_,?_⟩
     ·simp only[RelL,Rel];refine⟨_,_,rfl,rfl,⟨Ab a,cap,by rw[hl1],by omega,hc.2.2,(λh=>by cases h),?_⟩,rfl⟩;rcases Nat.eq_zero_or_pos len with h0|h0
      ·left;obtain rfl:ls=[]:=BS (by omega);rfl
      right;obtain⟨b,o,sp⟩:=a;obtain rfl:sp=none:=hsp h0;refine⟨b,o,rfl,zMj (sz:=P.cellsOf e) ls o λj x hx=>⟨?_,hlen j x hx⟩⟩;obtain⟨cs,k1,k2,k3⟩:=hl2 j x hx;obtain⟨_,k4,k5⟩:=Ch k3;refine zS1 (n:=0) k1 λi v hv=>?_;have hi:i<P.cellsOf e:=by have:=(A4.1 hv).1;omega
      have:=k5 i hi
      rw[hv]at this;rw[add_plain,add_plain]at this;exact this
     simp only[ShpB,hu];refine⟨ls,rfl,λx hx=>?_,by omega⟩;obtain⟨j,hj⟩:=List.getElem?_of_mem hx;obtain⟨cs,k1,k2,k3⟩:=hl2 j x hj;exact⟨k2,hlen j x hj⟩
   cases h
  case h_9=>
   rename_i fs hu;simp only[okT,hu,AC]at hk;split at h
   ·rename_i hl;rw[Ax]at h;obtain⟨xs,hm,hd⟩:=h;obtain⟨_,h2⟩:=zKu hm;obtain⟨rfl,_⟩:=Au.injEq ..▸hd;have hq2:=hA _ hq;obtain⟨ds,k1,k2⟩:=zRy (P:=P) (S:=ShpB P B n) hl fs.toList 0 hk.1 (λf hf=>by
     obtain⟨j,hj⟩:=List.getElem?_of_mem hf;obtain⟨y,hy,hmem⟩:=h2 j f hj;exact ih _ _ y.1 y.2 hy (hq2 _ (AQ.2 ⟨y,hmem,rfl⟩)) (AX.1 hk.2 f hf))
    rw[A1]at k1;exact⟨ds,k1,by simp only[ShpB,hu];exact⟨by rw[k1.length];exact hl,λf hf=>by simpa using k2 f hf⟩⟩
   cases h
  case h_10=>
   rename_i m e hu;simp only[okT,hu,AC,beq_iff_eq]at hk;split at h
   ·rename_i hl;rw[Ax]at h;obtain⟨xs,hm,hd⟩:=h;obtain⟨_,h2⟩:=zKu hm;obtain⟨rfl,_⟩:=Au.injEq ..▸hd;have hq2:=hA _ hq;obtain⟨ds,k1,k2⟩:=zW4 (sz:=P.cellsOf e) (S:=ShpB P B n e) m _ (by rw[hl,hk.1]) (λi hi=>by
     obtain⟨y,hy,hmem⟩:=h2 i i (Cg hi);exact ih _ _ y.1 y.2 hy (hq2 _ (AQ.2 ⟨y,hmem,rfl⟩)) hk.2)
    exact⟨ds,k1,by simp only[ShpB,hu];exact⟨by rw[k1.length];exact hl,k2⟩⟩
   cases h
  all_goals (exfalso;simp_all [okT])
end
end
end
variable{xs:List D}{k base:Nat}{P:Program}{r:Reach}{t e:TypeId}{v:Value}
section
open Go.ChangeShapes Go.WideShapes Go.ChangeAt Go.RowKit
def okS(P:Program):Nat->TypeId->Bool
 |0,_=>Ad
 |n+1,t=>match P.underlying t with
  |some .bool|some (.int _)|some .string=>Ac
  |some (.slice e)=>decide (0<P.cellsOf e)&&okS P n e
  |some (.struct fs)=>zHy P (P.cellsOf t) fs.toList 0&&fs.toList.all (λf=>okS P n f.type)
  |some (.array m e)=>P.cellsOf t==m*P.cellsOf e&&okS P n e
  |_=>Ad
theorem zTc{P:Program}:∀{k:Nat}{t:TypeId},okS P k t=Ac->∀n,okT P n t=Ac
 |0,t,h,n=>by cases h
 |k+1,t,h,0=>rfl
 | k+1,t,h,n+1=>by
  simp only[okS]at h;simp only[okT];split at h<;>rename_i hu<;>(try simp only[hu])<;>try trivial
  ·simp only[AC]at h⊢;exact⟨h.1,zTc h.2 n⟩
  ·simp only[AC,AX]at h⊢;exact⟨h.1,λf hf=>zTc (h.2 f hf) n⟩
  simp only[AC]at h⊢;exact⟨h.1,zTc h.2 n⟩
section
variable{P:Program}{B n:Nat}{t:TypeId}{ds:List D}
theorem zSq{k:IntKind}(hu:P.underlying t=Ab (.int k))(h:ShpB P B n t ds):∃z,ds=[.val (.int k z)]/\inK k z:=by
 cases n with
 |zero=>exact h.elim
 |succ n=>
  simp only[ShpB,hu]at h;obtain⟨z,h1,h2⟩:=h;refine⟨z,h1,?_⟩;cases k<;>simpa[Lit.wf,IntKind.min,IntKind.max,BL,BK,inK]using h2
theorem shp_string(hu:P.underlying t=Ab .string)(h:ShpB P B n t ds):∃s,ds=[.val (.string s)]/\s.size<=B:=by
 cases n with
 |zero=>exact h.elim
 |succ n=>simpa only[ShpB,hu]using h
theorem zKi(hu:P.underlying t=Ab (.slice e))(h:ShpB P B n t ds):∃m,∃ls:List (List D),ds=[.row ls.flatten ls.length]/\(∀x∈ls,ShpB P B m e x)/\ls.length<=B:=by
 cases n with
 |zero=>exact h.elim
 |succ n=>
  simp only[ShpB,hu]at h;obtain⟨ls,h1,h2,h3⟩:=h;exact⟨n,ls,h1,λx hx=>(h2 x hx).1,h3⟩
theorem zQ8{fs:Array Field}(hu:P.underlying t=Ab (.struct fs))(h:ShpB P B n t ds):ds.length=P.cellsOf t/\∃m,∀f∈fs.toList,ShpB P B m f.type ((ds.drop f.offset).take (P.cellsOf f.type)):=by
 cases n with
 |zero=>exact h.elim
 |succ n=>
  simp only[ShpB,hu]at h;exact⟨h.1,n,h.2⟩
theorem zPt{β:Type}{g:β->D}{Q:β->Prop}:∀{ls:List (List D)},(∀x∈ls,∃b,x=[g b]/\Q b)->∃bs:List β,ls.flatten=bs.map g/\bs.length=ls.length/\∀b∈bs,Q b
 |[],h=>⟨[],rfl,rfl,by simp⟩
 |x::ls,h=>by
  obtain⟨b,rfl,hb⟩:=h x (AM ..);obtain⟨bs,h1,h2,h3⟩:=zPt λy hy=>h y (AJ _ hy);refine⟨b::bs,by simp[h1],by simp[h2],λc hc=>?_⟩;grind
theorem zPu{β:Type}{g:β->List D}{Q:β->Prop}:∀{ls:List (List D)},(∀x∈ls,∃b,x=g b/\Q b)->∃bs:List β,ls.flatten=(bs.map g).flatten/\bs.length=ls.length/\∀b∈bs,Q b
 |[],h=>⟨[],rfl,rfl,by simp⟩
 |x::ls,h=>by
  obtain⟨b,rfl,hb⟩:=h x (AM ..);obtain⟨bs,h1,h2,h3⟩:=zPu λy hy=>h y (AJ _ hy);refine⟨b::bs,by simp[h1],by simp[h2],λc hc=>?_⟩;grind
end
theorem zWq(ht:P.underlying t=Ab (.array k e))(h:Bg P w r base t v):∃cs,v= .agg cs/\cs.size=P.cellsOf t:=by
 simp only[Bg,ht]at h;grind
def ArgB(P:Program)(B:Nat)(t:TypeId)(d:D):Prop:=∃n,if zGm P t then∃ds,d= .agg ds/\ShpB P B n t ds else ShpB P B n t [d]
abbrev ArgD(P:Program)(t:TypeId)(d:D):Prop:=ArgB P maxLen t d
section
variable{H:Type}{enc:TypeId×Value->H}{P:Program}{W:World}{B:Nat}{Q:DataW H->Prop}(hQ:∀ e s, Q (.slice e s)->(e.length ≤ maxLen->e.length ≤ B) ∧ ∀ x ∈ e, Q x)(hA:∀ p, Q (.agg p)->∀ x ∈ p, Q x)(hS:∀ l, Q (.lit (.string l))->l.length ≤ maxLen->l.length ≤ B)
section
include hQ hA hS
theorem arg_rel{b:Nat}{d:DataW H}{ps:List MemPlace}(hval:Bg P W r b t v)(h:DataW.Trod enc P W 0 (λ_=>Ac) Ac t v d ps)(hq:Q d)(hk:okS P k t=Ac):
  ∃x,Rel (allI W) W noB x v/\ArgB P B t x:=by
 obtain⟨fuel,hf⟩:=h;obtain⟨ds,k1,k2⟩:=trod_shp hQ hA hS fuel t _ _ _ hf hq (zTc hk fuel);have one:v.cells=#[v]->zGm P t=Ad->∃x,Rel (allI W) W noB x v/\ArgB P B t x:=by
  intro hc ha;rw[hc]at k1;have hl:=k1.length;match ds,hl with
  |[x],_=>
   simp only[RelL]at k1;obtain⟨u,us,e,_,k3,k4⟩:=k1;simp only[List.cons.injEq]at e;obtain⟨rfl,rfl⟩:=e;exact⟨x,k3,fuel,by rw[if_neg (by simp[ha])];exact k2⟩
 have many:(∃cs,v= .agg cs)->zGm P t=Ac->∃x,Rel (allI W) W noB x v/\ArgB P B t x:=by
  rintro⟨cs,rfl⟩ ha;refine⟨.agg ds,?_,fuel,by rw[if_pos ha];exact⟨ds,rfl,k2⟩⟩;simp only[Rel];exact⟨cs.toList,by simp,by simpa[AH]using k1⟩
 cases k with
 |zero=>cases hk
 | succ k=>
  simp only[okS]at hk;split at hk<;>rename_i hu
  ·obtain⟨b,rfl⟩:=okWide_bool hu hval;exact one rfl (by simp[zGm,hu])
  ·obtain⟨b,rfl⟩:=okWide_int hu hval;exact one rfl (by simp[zGm,hu])
  ·obtain⟨b,rfl⟩:=okWide_string hu hval;exact one rfl (by simp[zGm,hu])
  ·obtain⟨a,l,c,rfl⟩:=okWide_slice hu hval;exact one rfl (by simp[zGm,hu])
  ·obtain⟨cs,rfl,_⟩:=okWide_struct hu hval;simp_all [zGm]
  ·obtain⟨cs,rfl,_⟩:=zWq hu hval;simp_all [zGm]
  cases hk
end
inductive ArgsB(P:Program)(B:Nat):List TypeId->List D->Prop
 |nil:ArgsB P B [] []
 |cons {t:TypeId} {ts:List TypeId} {d:D} {ds:List D}:ArgB P B t d->ArgsB P B ts ds->ArgsB P B (t::ts) (d::ds)
abbrev ArgsD(P:Program):List TypeId->List D->Prop:=ArgsB P maxLen
section
include hQ hA hS
theorem args_rel{r:Reach}{b k:Nat}:∀{ts:List TypeId}{vs:List Value}{ds:List (DataW H)}{ps:List MemPlace},(∀(j:Nat) t v,ts[j]?=Ab t->vs[j]?=Ab v->Bg P W r b t v)->DataW.TrodAll enc P W 0 (λ_=>Ac) Ac ts vs ds ps->(∀d∈ds,Q d)->ts.all (okS P k)=Ac->
  ∃xs,RelT (allI W) W noB xs vs/\ArgsB P B ts xs
 |[],vs,ds,ps,hv,h,hq,hk=>by
  obtain⟨rfl,_,_⟩:=trodAll_nil h;exact⟨[],by simp only[RelT], .nil⟩
 |t::ts,vs,ds,ps,hv,h,hq,hk=>by
  obtain⟨v,vs,d,ds,p,q,rfl,rfl,rfl,h1,h2⟩:=trodAll_cons h;simp only[List.all_cons,AC]at hk;obtain⟨x,k1,k2⟩:=arg_rel hQ hA hS (hv 0 t v rfl rfl) h1 (hq _ (AM ..)) hk.1;obtain⟨xs,k3,k4⟩:=args_rel (λj t v h1 h2=>hv (j+1) t v (by simpa using h1) (by simpa using h2)) h2 (λd hd=>hq d (AJ _ hd)) hk.2;exact⟨x::xs,by simp only[RelT];exact⟨v,vs,rfl,k1,k3⟩, .cons k2 k4⟩
end
theorem ArgsB.one(h:ArgsB P B [t] xs):∃d,xs=[d]/\ArgB P B t d:=by
 cases h with|cons h1 h2=>cases h2;exact⟨_,rfl,h1⟩
theorem ArgsB.more{ts:List TypeId}(h:ArgsB P B (t::ts) xs):∃d ds,xs=d::ds/\ArgB P B t d/\ArgsB P B ts ds:=by
 cases h<;>grind
theorem ArgB.cell(h:ArgB P B t d)(ha:zGm P t=Ad):∃n,ShpB P B n t [d]:=by
 obtain⟨n,h⟩:=h;grind
theorem zNv:∀{ts:List TypeId}{vs:List Value}{ds:List (DataW H)}{ps:List MemPlace},DataW.TrodAll enc P W 0 (λ_=>Ac) Ac ts vs ds ps->ds.length=ts.length
 |[],vs,ds,ps,h=>by
  obtain⟨_,rfl,_⟩:=trodAll_nil h;rfl
 |t::ts,vs,ds,ps,h=>by
  obtain⟨v,vs,d,ds,p,q,rfl,rfl,rfl,h1,h2⟩:=trodAll_cons h;rw[A_,A_,zNv h2]
section
include hQ hA hS
theorem law_callB{ds gs:List (DataW H)}(k:Nat)
  (hl:laidOutB P=Ac)(hv:s.vars=[])(hrt:fn.resultTypes=#[bt])(hbt:P.underlying bt=Ab .bool)
  (hr:fn.params.toList.all (λt=>P.readableRec t&&decide (t<P.types.size))=Ac)(hfn:∀ds,ds.length=fn.params.toList.length->s.fn H ds={results:=[.lit (.bool Ac)],args:=ds})
  (hk:fn.params.toList.all (okS P k)=Ac)
  (hval:∀(j:Nat) t v,fn.params[j]?=Ab t->args[j]?=Ab v->Bg P W .any base t v)
  (hW:DataW.Whole enc P fn.params.toList s.vars Ad W args.toList ds gs before)
  (hg:Gl (allI W) W)(hq:∀d∈ds,Q d)(main:∀xs,ArgsB P B fn.params.toList xs->Pure P f xs [] (.val (.bool Ac))):
  Calls P f args W λe W'=>∃v,e= .returned v/\s.post enc P fn Ad Ac Ad Ad W args v W':=by
 have hW':=hW;obtain⟨p,q,hA0,hV,rfl,hfz,hnd⟩:=hW;rw[hv]at hV;obtain⟨rfl,rfl⟩:=trodVars_none hV;obtain⟨xs,h1,h2⟩:=args_rel hQ hA hS (k:=k) (r:= .any) (b:=base) (λj t v k1 k2=>hval j t v (by simpa using k1) (by simpa using k2)) hA0 hq hk;refine(main xs h2 (allI W) W args.toList h1 (λb o h=>h) hg).mono ?_;rintro e W' ⟨v,I',γ,rfl,hx,_,_,_,_,_,_,_,_,hr',_⟩;simp only[Rel]at hr';subst hr';exact⟨_,rfl,post_true (bt:=bt) hl hv hrt hbt hr (hfn ds (zNv hA0)) hW' hx⟩
end
theorem law_call{ds gs:List (DataW H)}(k:Nat)
  (hl:laidOutB P=Ac)(hv:s.vars=[])(hrt:fn.resultTypes=#[bt])(hbt:P.underlying bt=Ab .bool)
  (hr:fn.params.toList.all (λt=>P.readableRec t&&decide (t<P.types.size))=Ac)(hfn:∀ds,ds.length=fn.params.toList.length->s.fn H ds={results:=[.lit (.bool Ac)],args:=ds})
  (hk:fn.params.toList.all (okS P k)=Ac)
  (hval:∀(j:Nat) t v,fn.params[j]?=Ab t->args[j]?=Ab v->Bg P W .any base t v)
  (hW:DataW.Whole enc P fn.params.toList s.vars Ad W args.toList ds gs before)
  (hg:Gl (allI W) W)(main:∀xs,ArgsD P fn.params.toList xs->Pure P f xs [] (.val (.bool Ac))):
  Calls P f args W λe W'=>∃v,e= .returned v/\s.post enc P fn Ad Ac Ad Ad W args v W':=
 law_callB (B:=maxLen) (Q:=λ_=>True) (λe s _=>⟨id,λ_ _=>trivial⟩) (λ_ _ _ _=>trivial) (λ_ _ h=>h) k hl hv hrt hbt hr hfn hk hval hW hg (λ_ _=>trivial) main
end
end
section
open Go.RowKit
def bs(l:List UInt8):ByteArray:=⟨l.toArray⟩
theorem zLb(l:List UInt8):(bs l).toList=l:=by rw[Cu];rfl
structure Va where
 kind:Int
 int:Int
 str:List UInt8
 deriving DecidableEq, Inhabited
abbrev strD(l:List UInt8):D:= .val (.string (bs l))
abbrev vaC(v:Va):List D:=[.val (.int .i64 v.kind), .val (.int .i64 v.int),strD v.str]
abbrev vaD(v:Va):D:= .agg (vaC v)
def zM(r:List Va):List D:=r.flatMap vaC
abbrev rowV(r:List Va):D:= .row (zM r) r.length
theorem zB6(r:List Va):(zM r).length=r.length*3:=by
 induction r with
 |nil=>rfl
 |cons v r ih=>simp only[zM,Bc,A5]at ih⊢;rw[ih];simp;omega
theorem zR5(r s:List Va):zM (r++s)=zM r++zM s:=by simp[zM]
theorem zZ9(r:List Va)(i:Nat):(zM r).drop (i*3)=zM (r.drop i):=by
 induction r generalizing i with
 |nil=>simp[zM]
 | cons v r ih=>
  cases i with
  |zero=>simp
  |succ i=>
   have:zM (v::r)=vaC v++zM r:=rfl;grind
theorem zXy(r:List Va)(i:Nat)(h:i<r.length):(zM r).drop (i*3)=vaC (r.getD i Ai)++zM (r.drop (i+1)):=by
 rw[zZ9,Bh h,AT,AF h];rfl
theorem zCu(r:List Va)(i:Nat)(h:i<r.length):((zM r).drop (i*3)).take 3=vaC (r.getD i Ai):=by rw[zXy r i h];rfl
theorem zF1(r:List Va)(h:0<r.length:=by omega):zM r≠[]:=by grind [zB6]
theorem zR4(r:List Va)(i:Nat)(v:Va)(h:i<r.length):setAt (zM r) (i*3) (vaC v)=zM (r.set i v):=by
 induction r generalizing i with
 |nil=>simp at h
 | cons u r ih=>
  cases i with
  |zero=>rfl
  | succ i=>
   have h1:zM (u::r)=vaC u++zM r:=rfl;have h2:zM ((u::r).set (i+1) v)=vaC u++zM (r.set i v):=rfl;have key:∀(us:List D)(pre cs:List D)(k:Nat),setAt (pre++cs) (pre.length+k) us=pre++setAt cs k us:=by
    intro us;induction us<;>grind [setAt,Nat.add_assoc]
   grind
def vcmp(a b:Va):Int:=if a.kind≠b.kind then cmpD a.kind b.kind else if a.int≠b.int then cmpD a.int b.int else AK a.str b.str
def rcmp:List Va->List Va->Int
 |[],[]=>0
 |[],_::_=>-1
 |_::_,[]=>1
 |a::r,b::s=>if vcmp a b=0 then rcmp r s else vcmp a b
theorem zD8(a b:Int):(cmpD a b=-1/\a<b)\/(cmpD a b=0/\a=b)\/(cmpD a b=1/\b<a):=by
 grind [cmpD]
theorem zJ3:∀(a b:List UInt8),(AK a b=-1\/AK a b=0\/AK a b=1)/\(AK a b=0↔a=b)/\AK b a=-AK a b
 |[],[]=>by simp[AK]
 |[],_::_=>by simp[AK]
 |_::_,[]=>by simp[AK]
 |a::ar0,b::bs=>by
  obtain⟨h1,h2,h3⟩:=zJ3 ar0 bs;simp only[AK];grind
theorem zBy(a b:Va):(vcmp a b=-1\/vcmp a b=0\/vcmp a b=1)/\(vcmp a b=0↔a=b)/\vcmp b a=-vcmp a b:=by
 obtain⟨ak,ai,ar0⟩:=a;obtain⟨bk,bi,bs⟩:=b;obtain⟨c1,c2,c3⟩:=zJ3 ar0 bs;simp only[vcmp];by_cases h1:ak=bk
 ·subst h1;by_cases h2:ai=bi
  ·grind
  grind [zD8,cmpD]
 grind [zD8,cmpD]
theorem zD1:∀(a b:List Va),(rcmp a b=-1\/rcmp a b=0\/rcmp a b=1)/\(rcmp a b=0↔a=b)/\rcmp b a=-rcmp a b
 |[],[]=>by simp[rcmp]
 |[],_::_=>by simp[rcmp]
 |_::_,[]=>by simp[rcmp]
 |a::r,b::s=>by
  obtain⟨h1,h2,h3⟩:=zD1 r s;obtain⟨k1,k2,k3⟩:=zBy a b;simp only[rcmp,k3];grind
theorem zWd:∀(i:Nat)(a b:List Va),i<=a.length->i<=b.length->a.take i=b.take i->rcmp a b=rcmp (a.drop i) (b.drop i)
 |0,_,_,_,_,_=>rfl
 |i+1,[],b,h,_,_=>by simp at h
 |i+1,_::_,[],_,h,_=>by simp at h
 |i+1,x::a,y::b,h1,h2,h3=>by
  simp only[List.take_succ_cons,List.cons.injEq]at h3;obtain⟨rfl,h3⟩:=h3;rw[rcmp,if_pos ((zBy x x).2.1.2 rfl),zWd i a b (by simpa using h1) (by simpa using h2) h3];rfl
theorem rcmp_at(i:Nat)(a b:List Va)(ha:i<a.length)(hb:i<b.length)(h:a.take i=b.take i)(hv:vcmp (a.getD i Ai) (b.getD i Ai)≠0):rcmp a b=vcmp (a.getD i Ai) (b.getD i Ai):=by
 rw[zWd i a b (by omega) (by omega) h,Bh ha,Bh hb];simp only[AT,AF ha,AF hb,BV]at hv⊢;rw[rcmp,if_neg hv]
theorem zMh(i:Nat)(a b:List Va)(ha:i<a.length)(hb:i<b.length)(h:a.take i=b.take i)(hv:vcmp (a.getD i Ai) (b.getD i Ai)=0):a.take (i+1)=b.take (i+1):=by
 have:=(zBy _ _).2.1.1 hv
 rw[By ha,By hb,h];grind
def vok(v:Va):Bool:=if v.kind=1 then v.str.isEmpty else if v.kind=2 then v.int=0&&v.str.length<=24 else Ad
end
abbrev Rw:=List Va
structure Cw(c:Rw->Rw->Int):Prop where
 eq:∀a b,c a b=0↔a=b
 neg:∀a b,c b a=-c a b
 tr:∀a b d,c a b<0->c b d<0->c a d<0
structure Sr(α:Type) where
 add:α->α->α
 mul:α->α->α
 one:α
 om:∀a,mul one a=a
 ac:∀a b,add a b=add b a
 aa:∀a b c,add (add a b) c=add a (add b c)
 mc:∀a b,mul a b=mul b a
 ma:∀a b c,mul (mul a b) c=mul a (mul b c)
 dl:∀a b c,mul a (add b c)=add (mul a b) (mul a c)
variable{r:Rw}
section
variable{α:Type}(c:Rw->Rw->Int)
def Srt(l:List (Rw×α)):Prop:=l.Pairwise λp q=>c p.1 q.1<0
def Ndk(l:List (Rw×α)):Prop:=(l.map (·.1)).Nodup
def kv:List (Rw×α)->Rw->Option α
 |[],_=>Ae
 |(s,u)::l,r=>if s=r then Ab u else kv l r
def oadd(f:α->α->α):Option α->Option α->Option α
 |none,y=>y
 |some x,Ae=>Ab x
 |some x,Ab y=>Ab (f x y)
def omul(f:α->α->α):Option α->Option α->Option α
 |some x,Ab y=>Ab (f x y)
 |_,_=>Ae
def putP(f:α->α->α)(r:Rw)(v:α):List (Rw×α)->List (Rw×α)
 |[]=>[(r,v)]
 |(s,u)::l=>if c s r<0 then(s,u)::putP f r v l else if s=r then(s,f u v)::l else(r,v)::(s,u)::l
def acc(f:α->α->α)(l L:List (Rw×α)):List (Rw×α):=L.foldl (λl p=>putP c f p.1 p.2 l) l
def addT(f:α->α->α)(r:Rw)(v:α):List (Rw×α)->List (Rw×α)
 |[]=>[(r,v)]
 |(s,u)::l=>if s=r then(s,f u v)::l else(s,u)::addT f r v l
def ev(f:α->α->α)(o:Option α)(L:List (Rw×α))(r:Rw):Option α:=L.foldl (λo p=>if p.1=r then oadd f o (Ab p.2)else o) o
variable{c}
theorem zPx{l:List (Rw×α)}:kv l r=Ae↔r∉l.map (·.1):=by
 induction l with
 |nil=>simp[kv]
 |cons p l ih=>
  obtain⟨s,u⟩:=p;simp only[kv];grind
theorem zE6{l:List (Rw×α)}(h:Ndk l){u:α}:kv l r=Ab u↔(r,u)∈l:=by
 induction l with
 |nil=>simp[kv]
 |cons p l ih=>
  obtain⟨s,v⟩:=p;have h':s∉l.map (·.1)/\Ndk l:=by simpa[Ndk]using h
  simp only[kv];grind
theorem kv_perm{l m:List (Rw×α)}(h:Ndk l)(hp:m.Perm l)(r:Rw):kv m r=kv l r:=by
 have hm:Ndk m:=(hp.map _).nodup_iff.2 h;cases e:kv l r with
 |none=>rw[zPx]at e⊢;exact λk=>e ((hp.map _).mem_iff.1 k)
 |some u=>rw[zE6 h]at e;rw[zE6 hm];exact hp.mem_iff.2 e
theorem Cw.irr(hc:Cw c)(a:Rw):¬c a a<0:=by have:=(hc.eq a a).2 rfl;omega
theorem Cw.tri(hc:Cw c)(a b:Rw):c a b<0\/a=b\/c b a<0:=by
 have h1:=hc.eq a b;have h2:=hc.neg a b;grind
theorem Srt.ndk(hc:Cw c){l:List (Rw×α)}(h:Srt c l):Ndk l:=by
 unfold Ndk List.Nodup;rw[Ci];refine h.imp λ{a b} h e=>?_;rw[e]at h;exact hc.irr _ h
theorem Srt.uniq(hc:Cw c):∀{l m:List (Rw×α)},Srt c l->Srt c m->(∀r,kv l r=kv m r)->l=m
 |[],[],_,_,_=>rfl
 |[],(s,u)::m,_,_,h=>by have:=h s;simp[kv]at this
 |(s,u)::l,[],_,_,h=>by have:=h s;simp[kv]at this
 | (a,u)::l,(b,v)::m,hl,hm,h=>by
  have nl:=Srt.ndk hc hl;have nm:=Srt.ndk hc hm;simp only[Srt,Bi]at hl hm;have e:a=b:=by
   rcases hc.tri a b with k|k|k
   ·have:=h a
    simp only[kv,if_true]at this;have hm':=(zE6 nm).1 this.symm;rcases AG.1 hm' with e|e
    ·cases e;rfl
    have:=hm.1 _ e
    exact absurd (hc.tr _ _ _ k this) (hc.irr a)
   ·exact k
   have:=h b
   simp only[kv,if_true]at this;have hl':=(zE6 nl).1 this;rcases AG.1 hl' with e|e
   ·cases e;rfl
   have:=hl.1 _ e
   exact absurd (hc.tr _ _ _ k this) (hc.irr b)
  subst e;have e2:u=v:=by have:=h a;simpa[kv]using this
  subst e2;have nl':a∉l.map (·.1):=by
   simp_all [Ndk,nl]
  have nm':a∉m.map (·.1):=by
   simp_all [Ndk,nm]
  rw[Srt.uniq hc hl.2 hm.2 λr=>?_];by_cases hr:a=r
  ·grind [zPx]
  have:=h r
  simpa[kv,hr]using this
theorem putP_mem{f:α->α->α}{r:Rw}{v:α}:∀{l:List (Rw×α)}{p:Rw×α},p∈putP c f r v l->p.1=r\/p∈l
 |[],p,h=>by simp[putP]at h;subst h;exact .inl rfl
 | (s,u)::l,p,h=>by
  simp only[putP]at h;split at h
  ·rcases AG.1 h with h|h
   ·grind
   exact(putP_mem h).imp id λh=>AJ _ h
  grind
theorem zS6(hc:Cw c){f:α->α->α}{r:Rw}{v:α}:∀{l:List (Rw×α)},Srt c l->Srt c (putP c f r v l)
 |[],_=>by simp[putP,Srt]
 | (s,u)::l,h=>by
  simp only[Srt,Bi]at h;simp only[putP];split
  ·rename_i k;simp only[Srt,Bi];refine⟨λp hp=>?_,zS6 hc h.2⟩;grind [putP_mem]
  split
  ·simp only[Srt,Bi];exact h
  rename_i k1 k2;have k3:c r s<0:=by
   rcases hc.tri s r with k|k|k;all_goals grind
  simp only[Srt,Bi,AG];refine⟨λp hp=>?_,h⟩;rcases hp with rfl|hp
  ·exact k3
  exact hc.tr _ _ _ k3 (h.1 p hp)
theorem putP_kv(hc:Cw c){f:α->α->α}{r:Rw}{v:α}:∀{l:List (Rw×α)},Srt c l->∀s,kv (putP c f r v l) s=if r=s then oadd f (kv l s) (Ab v)else kv l s
 |[],_,s=>by simp[putP,kv,oadd]
 | (t,u)::l,h,s=>by
  have nl:=Srt.ndk hc h;simp only[Srt,Bi]at h;simp only[putP];split
  ·rename_i k;have hne:t≠r:=λe=>hc.irr r (by rw[e]at k;exact k);simp only[kv,putP_kv hc h.2 s];grind
  grind [kv,oadd,zPx]
theorem zG9(hc:Cw c)(f:α->α->α):∀(L l:List (Rw×α)),Srt c l->Srt c (acc c f l L)
 |[],l,h=>h
 |p::L,l,h=>zG9 hc f L _ (zS6 hc h)
theorem zMx(hc:Cw c)(f:α->α->α):∀(L l:List (Rw×α))(s:Rw),Srt c l->kv (acc c f l L) s=ev f (kv l s) L s
 |[],l,s,h=>rfl
 |p::L,l,s,h=>by
  have:=zMx hc f L _ s (zS6 (f:=f) (r:=p.1) (v:=p.2) hc h)
  grind [putP_kv,acc,ev]
theorem zZq(f:α->α->α):∀(L:List (Rw×α))(o:Option α)(s:Rw),s∉L.map (·.1)->ev f o L s=o
 |[],o,s,h=>rfl
 |p::L,o,s,h=>by
  simp only[AO,AG,not_or]at h;simp only[ev,Cj,if_neg (Ne.symm h.1)];exact zZq f L o s h.2
theorem zXi(f:α->α->α):∀(L:List (Rw×α))(s:Rw),Ndk L->ev f Ae L s=kv L s
 |[],s,h=>rfl
 |(r,u)::L,s,h=>by
  have h':r∉L.map (·.1)/\Ndk L:=by simpa[Ndk]using h
  simp only[ev,Cj,kv];split
  ·rename_i e;subst e;exact zZq f L _ r h'.1
  exact zXi f L s h'.2
theorem perm_acc(hc:Cw c)(f:α->α->α){l L:List (Rw×α)}(hp:l.Perm L)(hs:Srt c l)(hn:Ndk L):l=acc c f [] L:=
 Srt.uniq hc hs (zG9 hc f L [] AY.nil) λr=>by
  rw[zMx hc f L [] r AY.nil,kv_perm hn hp,<-zXi f L r hn];rfl
theorem zGi{f:α->α->α}{r:Rw}{v:α}:∀{l:List (Rw×α)},(addT f r v l).map (·.1)=if r∈l.map (·.1)then l.map (·.1)else l.map (·.1)++[r]
 |[]=>rfl
 | (s,u)::l=>by
  simp only[addT];split
  ·grind
  rename_i e;simp only[AO,zGi (l:=l),AG,Ne.symm e,false_or];split<;>simp
theorem addT_ndk{f:α->α->α}{v:α}{l:List (Rw×α)}(h:Ndk l):Ndk (addT f r v l):=by
 grind [Ndk,zGi,List.nodup_append]
theorem addT_kv{f:α->α->α}{r:Rw}{v:α}:∀{l:List (Rw×α)}(s:Rw),kv (addT f r v l) s=if r=s then oadd f (kv l s) (Ab v)else kv l s
 |[],s=>by simp[addT,kv,oadd]
 | (t,u)::l,s=>by
  simp only[addT];split
  ·grind [kv,oadd]
  rename_i e;simp only[kv,addT_kv (l:=l) s];grind
def sumT(f:α->α->α)(l L:List (Rw×α)):List (Rw×α):=L.foldl (λl p=>addT f p.1 p.2 l) l
theorem zKh(f:α->α->α):∀(L l:List (Rw×α)),Ndk l->Ndk (sumT f l L)
 |[],l,h=>h
 |p::L,l,h=>zKh f L _ (addT_ndk h)
theorem sumT_kv(f:α->α->α):∀(L l:List (Rw×α))(s:Rw),kv (sumT f l L) s=ev f (kv l s) L s
 |[],l,s=>rfl
 |p::L,l,s=>by
  have:=sumT_kv f L (addT f p.1 p.2 l) s
  grind [addT_kv,sumT,ev]
theorem perm_sumT(hc:Cw c)(f:α->α->α){l L:List (Rw×α)}(hp:l.Perm (sumT f [] L))(hs:Srt c l):l=acc c f [] L:=
 Srt.uniq hc hs (zG9 hc f L [] AY.nil) λr=>by
  rw[zMx hc f L [] r AY.nil,kv_perm (zKh f L [] (by simp[Ndk])) hp,sumT_kv]
theorem zPj(f:α->α->α)(x:Option α):oadd f x Ae=x:=by cases x<;>rfl
theorem zWt(f:α->α->α)(x:Option α):oadd f Ae x=x:=rfl
end
section
variable{α:Type}(S:Sr α)
theorem oadd_c(x y:Option α):oadd S.add x y=oadd S.add y x:=by cases x<;>cases y<;>simp[oadd,S.ac]
theorem zWr(x y z:Option α):oadd S.add (oadd S.add x y) z=oadd S.add x (oadd S.add y z):=by cases x<;>cases y<;>cases z<;>simp[oadd,S.aa]
theorem omul_c(x y:Option α):omul S.mul x y=omul S.mul y x:=by cases x<;>cases y<;>simp[omul,S.mc]
theorem zWp(x y z:Option α):omul S.mul (omul S.mul x y) z=omul S.mul x (omul S.mul y z):=by cases x<;>cases y<;>cases z<;>simp[omul,S.ma]
theorem omul_d(x y z:Option α):omul S.mul x (oadd S.add y z)=oadd S.add (omul S.mul x y) (omul S.mul x z):=by cases x<;>cases y<;>cases z<;>simp[omul,oadd,S.dl]
theorem omul_n(x:Option α):omul S.mul x Ae=none:=by cases x<;>rfl
def osum(l:List (Option α)):Option α:=l.foldr (oadd S.add) Ae
theorem zF6(x:Option α)(l:List (Option α)):osum S (x::l)=oadd S.add x (osum S l):=rfl
theorem zWo(l:List β):osum S (l.map λ_=>Ae)=none:=by
 induction l with
 |nil=>rfl
 |cons x l ih=>rw[AO,zF6,ih];rfl
theorem osum_add(l:List β)(f g:β->Option α):osum S (l.map λx=>oadd S.add (f x) (g x))=oadd S.add (osum S (l.map f)) (osum S (l.map g)):=by
 induction l with
 |nil=>rfl
 |cons x l ih=>simp only[AO,zF6,ih];rw[zWr,zWr,<-zWr S (g x),oadd_c S (g x),zWr]
theorem osum_mul(l:List β)(y:Option α)(f:β->Option α):osum S (l.map λx=>omul S.mul y (f x))=omul S.mul y (osum S (l.map f)):=by
 induction l with
 |nil=>simp[osum,omul_n]
 |cons x l ih=>simp only[AO,zF6,ih,omul_d]
theorem zWn(l:List β)(m:List γ)(f:β->γ->Option α):osum S (l.map λx=>osum S (m.map λy=>f x y))=osum S (m.map λy=>osum S (l.map λx=>f x y)):=by
 induction l with
 |nil=>simp only[BA];exact(zWo S m).symm
 |cons x l ih=>simp only[AO,zF6,ih,osum_add]
theorem osum_one{β:Type}[DecidableEq β]:∀(l:List β)(x:β)(v:Option α),l.Nodup->x∈l->osum S (l.map λy=>if y=x then v else Ae)=v
 |[],x,v,_,h=>by simp at h
 | y::l,x,v,hn,h=>by
  rw[List.nodup_cons]at hn;simp only[AO,zF6];by_cases e:y=x
  ·grind [A0,zWo,zPj]
  rw[if_neg e,zWt];exact osum_one l x v hn.2 ((AG.1 h).resolve_left (Ne.symm e))
end
variable{A B:List Nat}{v:Nat}{σ:Nat->Va}
section
variable{α:Type}
def asg(A:List Nat)(x:Rw)(v:Nat):Va:=x.getD (A.idxOf v) Ai
def un(A B:List Nat):List Nat:=(Br 32).filter λv=>decide (v∈A\/v∈B)
def mt(A:List Nat)(x:Rw)(B:List Nat)(y:Rw):Bool:=A.all λv=>decide (v∈B->asg A x v=asg B y v)
def sg(A:List Nat)(x:Rw)(B:List Nat)(y:Rw)(v:Nat):Va:=if v∈A then asg A x v else asg B y v
def mg(A:List Nat)(x:Rw)(B:List Nat)(y:Rw):Rw:=(un A B).map (sg A x B y)
def zB9(f:α->α->α)(A:List Nat)(la:List (Rw×α))(B:List Nat)(lb:List (Rw×α)):List (Rw×α):=
 la.flatMap λp=>(lb.filter λq=>mt A p.1 B q.1).map λq=>(mg A p.1 B q.1,f p.2 q.2)
def Asc(A:List Nat):Prop:=A.Pairwise (· <·)/\∀v∈A,v<32
def Lens(n:Nat)(l:List (Rw×α)):Prop:=∀p∈l,p.1.length=n
theorem Asc.nd(h:Asc A):A.Nodup:=h.1.imp λh=>Nat.ne_of_lt h
theorem asg_map(σ:Nat->Va)(h:v∈A):asg A (A.map σ) v=σ v:=by
 simp_all [Cv,asg,AT,BU,AF]
variable{x:Rw}
theorem zLv(hn:A.Nodup)(hl:x.length=A.length):A.map (asg A x)=x:=by
 apply List.ext_getElem (by simp[hl]);intro i h1 h2;simp only[List.getElem_map,asg];grind
theorem zEv:v∈un A B↔v<32/\(v∈A\/v∈B):=by simp[un]
theorem un_asc(A B:List Nat):Asc (un A B):=⟨(List.pairwise_lt_range (n:=32)).filter _,λv h=>(zEv.1 h).1⟩
theorem zE4{τ:Nat->Va}:A.map σ=A.map τ↔∀v∈A,σ v=τ v:=List.map_inj_left
theorem mt_iff(hA:Asc A)(hB:Asc B){y:Rw}(hx:x.length=A.length)(hy:y.length=B.length):
  (mt A x B y=Ac/\mg A x B y=(un A B).map σ)↔x=A.map σ/\y=B.map σ:=by
 constructor
 ·rintro⟨h1,h2⟩;simp only[mt,AX,decide_eq_true_eq]at h1;rw[mg,zE4]at h2;refine⟨?_,?_⟩
  ·rw[<-zLv hA.nd hx,zE4];intro v hv
   have:=h2 v (zEv.2 ⟨hA.2 v hv, .inl hv⟩)
   grind [sg]
  rw[<-zLv hB.nd hy,zE4];intro v hv
  have:=h2 v (zEv.2 ⟨hB.2 v hv, .inr hv⟩)
  grind [sg]
 rintro⟨rfl,rfl⟩;refine⟨?_,?_⟩
 ·simp only[mt,AX,decide_eq_true_eq];grind [asg_map]
 grind [mg,zE4,sg,asg_map,zEv]
theorem zKn{f:α->α->α}{la lb:List (Rw×α)}{s:Rw}{u:α}:(s,u)∈zB9 f A la B lb↔∃p∈la,∃q∈lb,mt A p.1 B q.1=Ac/\mg A p.1 B q.1=s/\f p.2 q.2=u:=by
 simp only[zB9,List.mem_flatMap,AQ,A2,Au.injEq];grind
theorem mg_inj(hA:Asc A)(hB:Asc B){y x' y':Rw}(hx:x.length=A.length)(hy:y.length=B.length)(hx':x'.length=A.length)(hy':y'.length=B.length)(h:mt A x B y=Ac)(h':mt A x' B y'=Ac)(he:mg A x B y=mg A x' B y'):x=x'/\y=y':=by
 have h1:=(mt_iff hA hB hx hy (σ:=sg A x B y)).1 ⟨h,rfl⟩;have h2:=(mt_iff hA hB hx' hy' (σ:=sg A x B y)).1 ⟨h',he.symm⟩;grind
theorem zF5{f:α->α->α}(hA:Asc A)(hB:Asc B){la lb:List (Rw×α)}(na:Ndk la)(nb:Ndk lb)(ha:Lens A.length la)(hb:Lens B.length lb):Ndk (zB9 f A la B lb):=by
 unfold Ndk List.Nodup at*;rw[Ci]at*;unfold zB9;rw[List.pairwise_flatMap];refine⟨λp hp=>?_,?_⟩
 ·rw[Ci];refine(nb.filter _).imp_of_mem λ{q r} hq hr hne e=>?_;rw[A2]at hq hr;exact hne (mg_inj hA hB (ha p hp) (hb q hq.1) (ha p hp) (hb r hr.1) hq.2 hr.2 e).2
 refine na.imp_of_mem λ{p r} hp hr hne=>?_;intro s hs t ht e;simp only[AQ,A2]at hs ht;obtain⟨q,⟨hq,h1⟩,rfl⟩:=hs;obtain⟨q',⟨hq',h2⟩,rfl⟩:=ht;exact hne (mg_inj hA hB (ha p hp) (hb q hq) (ha r hr) (hb q' hq') h1 h2 e).1
theorem prods_kv{f:α->α->α}(hA:Asc A)(hB:Asc B){la lb:List (Rw×α)}(na:Ndk la)(nb:Ndk lb)(ha:Lens A.length la)(hb:Lens B.length lb)(σ:Nat->Va):
  kv (zB9 f A la B lb) ((un A B).map σ)=omul f (kv la (A.map σ)) (kv lb (B.map σ)):=by
 have hn:=zF5 (f:=f) hA hB na nb ha hb;have key:∀u,((un A B).map σ,u)∈zB9 f A la B lb↔∃p q,(A.map σ,p)∈la/\(B.map σ,q)∈lb/\f p q=u:=by
  intro u;rw[zKn];constructor
  ·rintro⟨p,hp,q,hq,h1,h2,h3⟩;obtain⟨e1,e2⟩:=(mt_iff hA hB (ha p hp) (hb q hq)).1 ⟨h1,h2⟩;grind
  grind [mt_iff]
 cases e1:kv la (A.map σ)with
 | none=>
  simp only[omul];cases e:kv (zB9 f A la B lb) ((un A B).map σ)with
  |none=>rfl
  |some u=>
   obtain⟨p,q,hp,hq,_⟩:=(key u).1 ((zE6 hn).1 e);rw[(zE6 na).2 hp]at e1;cases e1
 | some p=>
  cases e2:kv lb (B.map σ)with
  | none=>
   simp only[omul];cases e:kv (zB9 f A la B lb) ((un A B).map σ)with
   |none=>rfl
   |some u=>
    obtain⟨p,q,hp,hq,_⟩:=(key u).1 ((zE6 hn).1 e);rw[(zE6 nb).2 hq]at e2;cases e2
  |some q=>exact(zE6 hn).2 ((key _).2 ⟨p,q,(zE6 na).1 e1,(zE6 nb).1 e2,rfl⟩)
def upd(σ:Nat->Va)(v:Nat)(x:Va)(w:Nat):Va:=if w=v then x else σ w
def zJn(A:List Nat)(v:Nat)(l:List (Rw×α)):List (Rw×α):=l.map λp=>(p.1.eraseIdx (A.idxOf v),p.2)
def less(A:List Nat)(v:Nat):List Nat:=A.filter λu=>decide (u≠v)
theorem zPr(f:β->γ)(l:List β)(i:Nat):(l.map f).eraseIdx i=(l.eraseIdx i).map f:=by
 grind [List.eraseIdx_eq_take_drop_succ,List.map_take,List.map_drop]
theorem zEq(h:A.Nodup)(v:Nat):A.eraseIdx (A.idxOf v)=less A v:=by
 rw[<-List.erase_eq_eraseIdx_of_idxOf rfl,h.erase_eq_filter];grind [less,List.filter_congr]
theorem ev_osum(S:Sr α):∀(L:List (Rw×α))(o:Option α)(r:Rw),ev S.add o L r=oadd S.add o (osum S (L.map λp=>if p.1=r then Ab p.2 else Ae))
 |[],o,r=>(zPj _ o).symm
 |p::L,o,r=>by
  simp only[ev,Cj,AO,zF6];have ih:=ev_osum S L;simp only[ev]at ih;rw[ih,<-zWr];grind [zPj]
theorem sum_ev(S:Sr α)(hA:A.Nodup)(hv:v∈A)(Dm:List Va)(hD:Dm.Nodup){l:List (Rw×α)}(hl:Lens A.length l)(hi:∀p∈l,∀a∈p.1,a∈Dm)(σ:Nat->Va):
  ev S.add Ae (zJn A v l) ((less A v).map σ)=osum S (Dm.map λx=>ev S.add Ae l (A.map (upd σ v x))):=by
 simp only[ev_osum,zWt,zJn,List.map_map];rw[zWn];congr 1;refine A0 λp hp=>?_;have hlen:=hl p hp;have hx:A.map (asg A p.1)=p.1:=zLv hA hlen;have hin:asg A p.1 v∈Dm:=by
  grind
 have he:p.1.eraseIdx (A.idxOf v)=(less A v).map (asg A p.1):=by
  grind [zPr,zEq]
 have key:∀x,p.1=A.map (upd σ v x)↔x=asg A p.1 v/\p.1.eraseIdx (A.idxOf v)=(less A v).map σ:=by
  intro x;rw[he,zE4];constructor
  ·intro h;rw[<-hx,zE4]at h;refine⟨?_,λw hw=>?_⟩
   ·grind [upd]
   simp only[less,A2,decide_eq_true_eq]at hw;grind [upd]
  grind [zE4,upd,less]
 have:(Dm.map λx=>if p.1=A.map (upd σ v x)then Ab p.2 else Ae)=Dm.map λx=>if x=asg A p.1 v then(if p.1.eraseIdx (A.idxOf v)=(less A v).map σ then Ab p.2 else Ae)else none:=by
  grind
 rw[this,osum_one S Dm _ _ hD hin];rfl
structure Fa(α:Type) where
 A:List Nat
 l:List (Rw×α)
structure FOk(c:Rw->Rw->Int)(Dm:List Va)(f:Fa α):Prop where
 asc:Asc f.A
 len:Lens f.A.length f.l
 srt:Srt c f.l
 dom:∀p∈f.l,∀a∈p.1,a∈Dm
def den(f:Fa α)(σ:Nat->Va):Option α:=kv f.l (f.A.map σ)
def okO(U:List Nat)(s:Rw)(o:Fa α):Bool:=o.l.any λq=>o.A.all λv=>decide (v∈U->asg o.A q.1 v=asg U s v)
def fmul(c:Rw->Rw->Int)(S:Sr α)(f g:Fa α)(os:List (Fa α)):Fa α:=
 ⟨un f.A g.A,acc c S.add [] ((zB9 S.mul f.A f.l g.A g.l).filter λp=>os.all λo=>okO (un f.A g.A) p.1 o)⟩
def fsum(c:Rw->Rw->Int)(S:Sr α)(v:Nat)(f:Fa α):Fa α:=⟨less f.A v,acc c S.add [] (zJn f.A v f.l)⟩
def zB8(S:Sr α):Fa α:=⟨[],[([],S.one)]⟩
def proF(S:Sr α)(fs:List (Fa α))(σ:Nat->Va):Option α:=fs.foldr (λf o=>omul S.mul (den f σ) o) (Ab S.one)
def zCm(c:Rw->Rw->Int)(S:Sr α):Fa α->List (Fa α)->List (Fa α)->Fa α
 |p,[],os=>p
 |p,f::fs,os=>zCm c S (fmul c S p f (fs++os)) fs os
def zFs(v:Nat)(fs:List (Fa α)):List (Fa α):=fs.filter λf=>decide (v∈f.A)
def zEy(v:Nat)(fs:List (Fa α)):List (Fa α):=fs.filter λf=>decide (v∉f.A)
def elim(c:Rw->Rw->Int)(S:Sr α)(v:Nat)(fs:List (Fa α)):List (Fa α):=match zFs v fs with
 |[]=>fs
 |p::ws=>zEy v fs++[fsum c S v (zCm c S p ws (zEy v fs))]
def zM1(S:Sr α)(Dm:List Va):List Nat->((Nat->Va)->Option α)->(Nat->Va)->Option α
 |[],F=>F
 |v::vs,F=>zM1 S Dm vs λσ=>osum S (Dm.map λx=>F (upd σ v x))
variable{c:Rw->Rw->Int}{S:Sr α}{Dm:List Va}
theorem zK1(q:Rw->Bool):∀(l:List (Rw×α))(r:Rw),kv (l.filter λp=>q p.1) r=if q r then kv l r else Ae
 |[],r=>by simp[kv]
 | (s,u)::l,r=>by
  rw[List.filter_cons];by_cases e:s=r
  ·subst e;cases h:q s
   ·have:=zK1 q l s
    rw[h]at this;simpa[kv]using this
   simp[kv]
  cases h:q s
  ·simp[kv,e,zK1 q l r]
  simp[kv,e,zK1 q l r]
theorem zF9(q:Rw->Bool){l:List (Rw×α)}(h:Ndk l):Ndk (l.filter λp=>q p.1):=by
 grind [Ndk,List.Nodup]
theorem acc_mem{c:Rw->Rw->Int}(hc:Cw c){f:α->α->α}{L:List (Rw×α)}{p:Rw×α}(h:p∈acc c f [] L):p.1∈L.map (·.1):=by
 have hs:=zG9 hc f L [] AY.nil;have h1:kv (acc c f [] L) p.1=Ab p.2:=(zE6 (hs.ndk hc)).2 h;rw[zMx hc f L [] p.1 AY.nil]at h1;refine Classical.byContradiction λhn=>?_;rw[zZq f L _ _ hn]at h1;cases h1
theorem mg_dom{y:Rw}(hx:x.length=A.length)(hy:y.length=B.length)(h1:∀a∈x,a∈Dm)(h2:∀a∈y,a∈Dm):∀a∈mg A x B y,a∈Dm:=by
 have get:∀{A:List Nat}{x:Rw}{v:Nat},x.length=A.length->(∀a∈x,a∈Dm)->v∈A->asg A x v∈Dm:=λ{A x v} hx h hv=>by
  grind [Cv,asg,AF,Bp]
 intro a ha;obtain⟨v,hv,rfl⟩:=AQ.1 ha;grind [sg,zEv]
theorem FOk.ndk(hc:Cw c){f:Fa α}(h:FOk c Dm f):Ndk f.l:=h.srt.ndk hc
theorem zHw(hc:Cw c){f g:Fa α}(hf:FOk c Dm f)(hg:FOk c Dm g)(os:List (Fa α)):FOk c Dm (fmul c S f g os):=by
 have key:∀p∈(fmul c S f g os).l,p.1.length=(un f.A g.A).length/\∀a∈p.1,a∈Dm:=by
  intro p hp;obtain⟨q,hq,e⟩:=AQ.1 (acc_mem hc hp);rw[A2]at hq;obtain⟨x,hx,y,hy,_,h2,_⟩:=(zKn (s:=q.1) (u:=q.2)).1 hq.1;rw[<-e,<-h2];exact⟨by simp[mg],mg_dom (hf.len x hx) (hg.len y hy) (hf.dom x hx) (hg.dom y hy)⟩
 exact⟨un_asc _ _,λp hp=>(key p hp).1,zG9 hc _ _ _ AY.nil,λp hp=>(key p hp).2⟩
theorem fmul_den(hc:Cw c){f g:Fa α}(hf:FOk c Dm f)(hg:FOk c Dm g)(os:List (Fa α))(σ:Nat->Va):
  den (fmul c S f g os) σ=if(os.all λo=>okO (un f.A g.A) ((un f.A g.A).map σ) o)=Ac then omul S.mul (den f σ) (den g σ)else none:=by
 have hn:=zF5 (f:=S.mul) hf.asc hg.asc (hf.ndk hc) (hg.ndk hc) hf.len hg.len;show kv (acc c S.add [] _) _=_;rw[zMx hc _ _ _ _ AY.nil,show kv ([]:List (Rw×α)) ((fmul c S f g os).A.map σ)=Ae from rfl,zXi _ _ _ (zF9 (λs=>os.all λo=>okO (un f.A g.A) s o) hn),zK1 (λs=>os.all λo=>okO (un f.A g.A) s o)];show(if _ then kv _ ((un f.A g.A).map σ)else Ae)=_;rw[prods_kv hf.asc hg.asc (hf.ndk hc) (hg.ndk hc) hf.len hg.len];rfl
theorem okO_den(hc:Cw c){o:Fa α}(ho:FOk c Dm o){U:List Nat}{u:α}(h:den o σ=Ab u):okO U (U.map σ) o=true:=by
 have hm:=(zE6 (ho.ndk hc)).1 h;rw[okO,List.any_eq_true];refine⟨_,hm,?_⟩;simp only[AX,decide_eq_true_eq];grind [asg_map]
theorem proF_app(fs gs:List (Fa α))(σ:Nat->Va):proF S (fs++gs) σ=omul S.mul (proF S fs σ) (proF S gs σ):=by
 induction fs with
 |nil=>simp only[BO,proF,List.foldr_nil];cases gs.foldr (λf o=>omul S.mul (den f σ) o) (Ab S.one)<;>simp[omul,S.om]
 |cons f fs ih=>simp only[proF,BN,Bj]at ih⊢;rw[ih,zWp]
theorem proF_none{fs:List (Fa α)}{f:Fa α}(hf:f∈fs)(h:den f σ=Ae):proF S fs σ=none:=by
 induction fs with
 |nil=>simp at hf
 |cons g fs ih=>
  simp only[proF,Bj]at ih⊢;rcases AG.1 hf with e|e
  ·subst e;rw[h];rfl
  rw[ih e,omul_n]
theorem proF_perm{fs gs:List (Fa α)}(h:fs.Perm gs)(σ:Nat->Va):proF S fs σ=proF S gs σ:=by
 induction h with
 |nil=>rfl
 |cons x _ ih=>simp only[proF,Bj]at ih⊢;rw[ih]
 |swap x y l=>simp only[proF,Bj];rw[<-zWp,<-zWp,omul_c S (den y σ)]
 |trans _ _ h1 h2=>exact h1.trans h2
theorem fmul_pro(hc:Cw c){f g:Fa α}(hf:FOk c Dm f)(hg:FOk c Dm g){os:List (Fa α)}(ho:∀o∈os,FOk c Dm o)(σ:Nat->Va):
  omul S.mul (den (fmul c S f g os) σ) (proF S os σ)=omul S.mul (omul S.mul (den f σ) (den g σ)) (proF S os σ):=by
 rw[fmul_den hc hf hg];split
 ·rfl
 rename_i h;simp only[AX,Classical.not_forall]at h;obtain⟨o,hm,h⟩:=h;have:den o σ=none:=by
  cases e:den o σ with
  |none=>rfl
  |some u=>exact absurd (okO_den hc (ho o hm) e) h
 grind [proF_none,omul_n]
theorem zNg(hc:Cw c):∀(fs:List (Fa α))(p:Fa α)(os:List (Fa α)),FOk c Dm p->(∀f∈fs,FOk c Dm f)->FOk c Dm (zCm c S p fs os)
 |[],p,os,hp,_=>hp
 |f::fs,p,os,hp,hf=>zNg hc fs _ os (zHw hc hp (hf f (AM ..)) _) λg hg=>hf g (AJ _ hg)
theorem zQc(hc:Cw c)(σ:Nat->Va):∀(fs:List (Fa α))(p:Fa α)(os:List (Fa α)),FOk c Dm p->(∀f∈fs,FOk c Dm f)->(∀f∈os,FOk c Dm f)->
  omul S.mul (den (zCm c S p fs os) σ) (proF S os σ)=omul S.mul (den p σ) (proF S (fs++os) σ)
 |[],p,os,hp,_,_=>rfl
 |f::fs,p,os,hp,hf,ho=>by
  have h1:=hf f (AM ..);have h2:∀g∈fs,FOk c Dm g:=λg hg=>hf g (AJ _ hg);rw[zCm,zQc hc σ fs _ os (zHw hc hp h1 _) h2 ho,fmul_pro hc hp h1 λo hm=>(Ck.1 hm).elim (h2 o) (ho o),zWp];rfl
theorem zT2:∀(fs:List (Fa α))(p:Fa α)(os:List (Fa α)),(∀v∈p.A,v<32)->(∀f∈fs,∀v∈f.A,v<32)->∀v,v∈(zCm c S p fs os).A↔v∈p.A\/∃f∈fs,v∈f.A
 |[],p,os,_,_,v=>by simp[zCm]
 |f::fs,p,os,hp,hf,v=>by
  rw[zCm,zT2 fs _ os (λw hw=>(zEv.1 hw).1) (λg hg=>hf g (AJ _ hg))];grind [fmul,zEv,AM,AJ]
theorem zC3{w:Nat}:w∈less A v↔w∈A/\w≠v:=by simp[less]
theorem zKw(h:Asc A)(v:Nat):Asc (less A v):=⟨h.1.filter _,λw hw=>h.2 w (zC3.1 hw).1⟩
theorem zZh(hc:Cw c){f:Fa α}(hf:FOk c Dm f)(v:Nat):FOk c Dm (fsum c S v f):=by
 have key:∀p∈(fsum c S v f).l,p.1.length=(less f.A v).length/\∀a∈p.1,a∈Dm:=by
  intro p hp;obtain⟨q,hq,e⟩:=AQ.1 (acc_mem hc hp);obtain⟨r,hr,rfl⟩:=AQ.1 hq;have hl:=hf.len r hr;rw[<-e,<-zEq hf.asc.nd];exact⟨by rw[List.length_eraseIdx,List.length_eraseIdx,hl],λa ha=>hf.dom r hr a (List.mem_of_mem_eraseIdx ha)⟩
 exact⟨zKw hf.asc v,λp hp=>(key p hp).1,zG9 hc _ _ _ AY.nil,λp hp=>(key p hp).2⟩
theorem fsum_den(hc:Cw c)(hD:Dm.Nodup){f:Fa α}(hf:FOk c Dm f)(hv:v∈f.A)(σ:Nat->Va):den (fsum c S v f) σ=osum S (Dm.map λx=>den f (upd σ v x)):=by
 show kv (acc c S.add [] _) ((less f.A v).map σ)=_;rw[zMx hc _ _ _ _ AY.nil];refine(sum_ev S hf.asc.nd hv Dm hD hf.len hf.dom σ).trans ?_;congr 1;refine A0 λx _=>?_;exact zXi _ _ _ (hf.ndk hc)
theorem den_upd{f:Fa α}(hv:v∉f.A)(σ:Nat->Va)(x:Va):den f (upd σ v x)=den f σ:=by
 grind [den,zE4,upd]
theorem proF_upd{fs:List (Fa α)}(hv:∀f∈fs,v∉f.A)(σ:Nat->Va)(x:Va):proF S fs (upd σ v x)=proF S fs σ:=by
 induction fs with
 |nil=>rfl
 |cons f fs ih=>
  simp only[proF,Bj]at ih⊢;grind [den_upd,AM,AJ]
theorem zEo(v:Nat)(fs:List (Fa α)):(zFs v fs++zEy v fs).Perm fs:=by
 grind [List.filter_append_perm,Fa,zFs,zEy]
theorem zZt(hc:Cw c){fs:List (Fa α)}(hf:∀f∈fs,FOk c Dm f)(v:Nat):∀f∈elim c S v fs,FOk c Dm f:=by
 unfold elim;split
 ·exact hf
 rename_i p ws e;have hw:∀f∈zFs v fs,FOk c Dm f:=λf h=>hf f (A2.1 h).1;rw[e]at hw;intro f h;rcases Ck.1 h with h|h
 ·exact hf f (A2.1 h).1
 simp only[B9]at h;grind [zZh,zNg,AM,AJ]
theorem elim_pro(hc:Cw c)(hD:Dm.Nodup){fs:List (Fa α)}(hf:∀f∈fs,FOk c Dm f)(hv:∃f∈fs,v∈f.A)(σ:Nat->Va):proF S (elim c S v fs) σ=osum S (Dm.map λx=>proF S fs (upd σ v x)):=by
 have hw:∀f∈zFs v fs,FOk c Dm f/\v∈f.A:=λf h=>by
  grind [zFs]
 have ho:∀f∈zEy v fs,FOk c Dm f:=λf h=>hf f (A2.1 h).1;have ho2:∀f∈zEy v fs,v∉f.A:=λf h=>by
  grind [zEy]
 have hp:=zEo v fs;unfold elim;split
 ·grind
 rename_i p ws e;rw[e]at hw hp;have h1:=hw p (AM ..);have h2:∀g∈ws,FOk c Dm g:=λg hg=>(hw g (AJ _ hg)).1;have hk:=zNg (S:=S) hc ws p (zEy v fs) h1.1 h2;have hvA:v∈(zCm c S p ws (zEy v fs)).A:=(zT2 ws p _ h1.1.asc.2 (λg hg=>(h2 g hg).asc.2) v).2 (.inl h1.2);have e1:∀(g:Fa α),proF S [g] σ=den g σ:=λg=>by
  simp only[proF,Bj,List.foldr_nil];rw[omul_c];cases den g σ<;>simp[omul,S.om]
 rw[proF_app,e1,fsum_den hc hD hk hvA,<-osum_mul];congr 1;refine A0 λx _=>?_;rw[<-proF_upd ho2 σ x,omul_c,zQc hc _ ws p _ h1.1 h2 ho,<-proF_perm hp];rfl
theorem elim_A{fs:List (Fa α)}(hf:∀f∈fs,∀v∈f.A,v<32)(v w:Nat):(∃f∈elim c S v fs,w∈f.A)↔(∃f∈fs,w∈f.A)/\w≠v:=by
 have hw:∀f∈zFs v fs,f∈fs/\v∈f.A:=λf h=>by
  grind [zFs]
 have hp:=zEo v fs;unfold elim;split
 ·rename_i e;refine⟨λh=>⟨h,λk=>?_⟩,λh=>h.1⟩;subst k;obtain⟨f,h1,h2⟩:=h;grind [zFs]
 rename_i p ws e;rw[e]at hw hp;have h1:=hw p (AM ..);have hA:=zT2 (c:=c) (S:=S) ws p (zEy v fs) (hf p h1.1) (λg hg=>hf g (hw g (AJ _ hg)).1) w;have hm:w∈(fsum c S v (zCm c S p ws (zEy v fs))).A↔w∈(zCm c S p ws (zEy v fs)).A/\w≠v:=zC3;constructor
 ·rintro⟨f,h2,h3⟩;rcases Ck.1 h2 with h2|h2
  ·grind [zEy]
  grind
 grind
theorem zE3:∀(vs:List Nat){F G:(Nat->Va)->Option α},(∀σ,F σ=G σ)->∀σ,zM1 S Dm vs F σ=zM1 S Dm vs G σ
 |[],_,_,h,σ=>h σ
 |v::vs,F,G,h,σ=>zE3 vs (λσ=>by simp only[h]) σ
theorem zRm{vs ws:List Nat}(h:vs.Perm ws):∀(F:(Nat->Va)->Option α)(σ:Nat->Va),zM1 S Dm vs F σ=zM1 S Dm ws F σ:=by
 induction h with
 |nil=>exact λF σ=>rfl
 |cons x _ ih=>exact λF σ=>ih _ σ
 | swap x y l=>
  intro F σ;simp only[zM1];refine zE3 l (λσ=>?_) σ;by_cases e:x=y
  ·subst e;rfl
  rw[zWn];congr 1;refine A0 λa _=>?_;congr 1;refine A0 λb _=>?_;congr 1;grind [upd]
 |trans _ _ h1 h2=>exact λF σ=>(h1 F σ).trans (h2 F σ)
theorem Asc.ext(hA:Asc A)(hB:Asc B)(h:∀v,v∈A↔v∈B):A=B:=by
 have hp:A.Perm B:=(List.perm_ext_iff_of_nodup (Asc.nd hA) (Asc.nd hB)).2 h;exact List.Perm.eq_of_pairwise (le:=(· <·)) (λa b _ _ h k=>by omega) hA.1 hB.1 hp
theorem FOk.ext(hc:Cw c){Dm':List Va}{f g:Fa α}(hf:FOk c Dm f)(hg:FOk c Dm' g)(hA:f.A=g.A)(h:∀σ,den f σ=den g σ):f=g:=by
 obtain⟨A,l⟩:=f;obtain⟨B,m⟩:=g;simp only at hA;subst hA;congr 1;refine Srt.uniq hc hf.srt hg.srt λr=>?_;by_cases e:r.length=A.length
 ·have:=h (asg A r)
  unfold den at this;simp only[zLv hf.asc.nd e]at this;exact this
 rw[zPx.2 λhm=>?_,zPx.2 λhm=>?_]
 ·obtain⟨p,hp,rfl⟩:=AQ.1 hm;exact e (hg.len p hp)
 obtain⟨p,hp,rfl⟩:=AQ.1 hm;exact e (hf.len p hp)
end
variable{e:Bk}{args args1:List D}{us:List Value}
section
open Go.RowKit
section
variable{α:Type}{g:α->List D}{c:Nat}
theorem zHx(hg:∀a,(g a).length=c)(l:List α):(l.flatMap g).length=l.length*c:=by
 induction l<;>grind
theorem zP5(hg:∀a,(g a).length=c)(l:List α)(i:Nat):(l.flatMap g).drop (i*c)=(l.drop i).flatMap g:=by
 induction l generalizing i with
 |nil=>simp
 |cons a l ih=>
  cases i<;>grind [BT,Nat.add_comm,Ce,List.drop_left]
theorem zQ0[Inhabited α](hg:∀a,(g a).length=c)(l:List α)(i:Nat)(h:i<l.length):(l.flatMap g).drop (i*c)=g (l.getD i Ai)++(l.drop (i+1)).flatMap g:=by
 grind [zP5,Bh,AF]
theorem zDo[Inhabited α](hg:∀a,(g a).length=c)(l:List α)(i:Nat)(h:i<l.length):((l.flatMap g).drop (i*c)).take c=g (l.getD i Ai):=by
 grind [zQ0,Bl]
theorem zEk(hg:∀a,(g a).length=c)(hc:0<c)(l:List α)(h:0<l.length:=by omega):l.flatMap g≠[]:=λe=>by
 have:=zHx hg l
 rw[e]at this;have h2:0<l.length*c:=Nat.mul_pos h hc;simp only[AZ]at this;omega
theorem zHc[Inhabited α](hg:∀a,(g a).length=c)(l:List α)(i:Nat)(h:i<l.length):c<=((l.flatMap g).drop (i*c)).length:=by
 grind [zQ0,A5]
theorem zFq(hg:∀a,(g a).length=c)(l:List α)(n:Nat)(h:l.length=n):(l.flatMap g).take (n*c)=l.flatMap g:=by grind [Bl,zHx]
theorem zBl[Inhabited α](l:List α)(i:Nat)(h:i<l.length):l.take (i+1)=l.take i++[l.getD i Ai]:=by
 simp_all
end
section
variable{P:Program}{I:Im}{w:World}{β:Be}{sl:List D}{st:List Bk}{tm:List Value}
theorem Fix.drew(I:Im)(w:World)(q:Nat):Fix I w I (w.drewN q):=λb o h=>⟨h,λv hv=>hv,λ_ _ h=>h⟩
theorem Sim.drew(h:Sim β I w sl st tm)(q:Nat):Sim β I (w.drewN q) sl st tm:=by
 refine⟨RelT.mono (Fix.drew I w q) β β (AW _) _ _ h.rel,λk b c hk=>?_,h.inj,h.fz,h.dom,h.imb,h.gl.mono (Fix.drew I w q)⟩;obtain⟨e,h1,h2⟩:=h.sr k b c hk;exact⟨e,h1,BJ h2 rfl (Fix.drew I w q) (AW _)⟩
theorem Stp.drew(β:Be)(I:Im)(w:World)(q:Nat):Stp β I w β I (w.drewN q):=⟨Fix.drew _ _ _,Al _,λ_ _ _=>rfl,rfl,rfl,rfl,Nat.le_add_right _ _,λk b c h=> .inl ⟨k,c,h⟩,λ_ _ h=> .inl h⟩
theorem zKl{β:Be}:∀{us vs:List Value},RelL I w β (us.map .val) vs->vs=us
 |[],vs,h=>by simpa only[BA,RelL]using h
 |u::us,vs,h=>by
  simp only[AO,RelL,Rel]at h;obtain⟨v,vs',rfl,_,rfl,h⟩:=h;rw[zKl h]
theorem zD0{β:Be}:∀{us:List Value},(∀v∈us,v.oneCell'=Ac)->RelL I w β (us.map .val) us
 |[],h=>by simp only[BA,RelL]
 |u::us,h=>by
  simp only[AO,RelL,Rel];exact⟨u,us,rfl,h u (AM ..),rfl,zD0 λv hv=>h v (AJ _ hv)⟩
theorem acts_row{n':Nat}{vs:List Value}(he:st[k]?=Ab e)(ha:e.arr=Ac)(hkd:e.kd= .plain)(hf:e.fz=Ad)(hc:e.cells=us.map .val)(hu:us.length=n)(hv:vs.length=n)(hn:n'<=n)(h1:∀v∈vs,v.oneCell'=Ac)
  (h0:n=0->∀a c w,Calls P f #[.slice a 0 c] w λx w'=>x= .returned (.slice a 0 c)/\w'=w)
  (h:0<n->∀b c w,(∀j,j<n->w.cell? ⟨b,0+j,Ae⟩=Ab (us.getD j undef))->(∀j,j<n->w.frozen? ⟨b,0+j,Ae⟩=Ad)->n<=c->Calls P f #[.slice (Ab ⟨b,0,Ae⟩) n c] w λx w'=>x= .returned (.slice (Ab ⟨b,0,Ae⟩) n' c)/\∃q,w'=(w.drewN q).setCells b 0 vs):
  Acts P f [.osl k 0 n n wh] st [] (.osl k 0 n' n' wh) (st.set k {e with cells:=vs.map .val}):=by
 intro β I w xs hr hsr hinj hfz hdom hi hg;have hnb:e.nob=true:=by unfold Bk.nob;rw[ha,hkd];rfl
 have hmap:e.kd.isMap=false:=by rw[hkd];rfl
 simp only[RelT]at hr;obtain⟨v,ys,rfl,hr,rfl⟩:=hr;have hset:n=0->st.set k {e with cells:=vs.map .val}=st:=by
  intro e0;have e1:us=[]:=BS (by omega);have e2:vs=[]:=BS (by omega);have:({e with cells:=vs.map .val}:Bk)=e:=by rw[e2,<-e1,<-hc]
  rw[this];apply Bs;grind
 have zero:∀a c,n=0->v= .slice a 0 c->Calls P f #[v] w λx w'=>∃v β' I',x= .returned v/\ImB I' w'/\Stp β I w β' I' w'/\(∀k y,k∉([]:List Nat)->β k=Ab y->β' k=Ab y)/\SR β' I' w' (st.set k {e with cells:=vs.map .val})/\Inj β'/\FZ β' I' (st.set k {e with cells:=vs.map .val})/\(∀j y,β' j=Ab y->j<(st.set k {e with cells:=vs.map .val}).length)/\Rel I' w' β' (.osl k 0 n' n' wh) v:=by
  intro a c e0 ev;subst ev;refine(h0 e0 a c w).mono ?_;rintro x w' ⟨rfl,rfl⟩;obtain rfl:n'=0:=by omega
  rw[hset e0];subst e0;exact⟨_,β,I,rfl,hi,AV _ _ _,λ_ _ _ h=>h,hsr,hinj,hfz,hdom,hr⟩
 have hr':=hr;simp only[Rel]at hr;rcases hr with⟨e0,_,rfl⟩|⟨e0,_,_,a,c,rfl,_⟩|⟨b,c,cap,hb,rfl,k1,k2,k3⟩
 ·exact zero Ae 0 e0 rfl
 ·exact zero a c e0 rfl
 rcases Nat.eq_zero_or_pos n with e0|hpos
 ·grind
 have hs0:Sim β I w ([]:List D) st ({tmps:=#[],defers:=[]}:Act).tmps.toList:=⟨by simp only[RelT],hsr,hinj,hfz,hdom,hi,hg⟩;obtain⟨e',he',hown⟩:=hsr k b c hb;rw[he]at he';cases he';obtain⟨cur,c1,c2,c3,c4⟩:=hown.c hmap;rw[hnb,hc]at c3;simp only[if_true]at c3;have ecur:=zKl c3;rw[Cf]at ecur;have hpre:=(hs0.put (off:=0) (cs:=us.map .val) (vs:=us) (ks:=[]) hb he hf hmap (by simp) (by
   rw[hnb];simp only[if_true];have:∀v∈us,v.oneCell'=true:=by
    have:=c3.ones
    rw[Cf,ecur]at this;exact this
   exact zD0 this) (by simp[hc]) Ae undef).2.2
 refine(h hpos b cap w (λj hj=>?_) (λj hj=>(hpre j (by omega)).2) k1).mono ?_
 ·have hlt:j<cur.length:=by
   grind
  have e1:us.getD j undef=cur[j]:=by
   grind
  rw[e1];simp[World.cell?,c1,hlt]
 rintro x w' ⟨rfl,q,rfl⟩;obtain⟨s1,s2,s3⟩:=(hs0.drew q).put (off:=0) (cs:=vs.map .val) (vs:=vs) (ks:=[]) hb he hf hmap (by simp) (by
  rw[hnb];simp only[if_true];exact zD0 h1) (by simp[hc];omega) Ae undef
 have hset2:setAt e.cells 0 (vs.map .val)=vs.map .val:=by
  have key:∀(xs ys:List D)(pre:List D),xs.length=ys.length->setAt (pre++xs) pre.length ys=pre++ys:=by
   intro xs ys;induction ys generalizing xs with
   |nil=>intro pre hl;cases xs with
    |nil=>rfl
    |cons x xs=>simp at hl
   | cons y ys ih=>intro pre hl;cases xs with
    |nil=>simp at hl
    |cons x xs=>
     simp only[setAt];have e1:(pre++x::xs).set pre.length y=(pre++[y])++xs:=by simp
     grind
  exact key e.cells (vs.map .val) [] (by simp[hc];omega)
 rw[hset2]at s1;refine⟨_,β,_,rfl,s1.imb,(Stp.drew β I w q).trans s2,λ_ _ _ h=>h,s1.sr,s1.inj,s1.fz,s1.dom,?_⟩;simp only[Rel];grind
end
def only(β:Be)(k:Nat):Be:=λj=>if j=0 then β k else Ae
def Bk.free(e:Bk):Prop:=e.nob=Ac\/∀j,zAt j e.cells=Ad
theorem Bk.free.own(h:e.free){β β':Be}{b c:Nat}(ho:OwnRel I w β b c e):OwnRel I w β' b c e:=
 ho.congr λhn k x hr _=>by
  rcases h with h|h
  ·rw[h]at hn;cases hn
  rw[h k]at hr;cases hr
theorem Acts.atG{e':Bk}(k:Nat)(h:Acts P f args1 [e] [] x [e'])(he:st[k]?=Ab e)(ha:e.free)(ha':e'.free)
  (hargs:∀I w β vs,RelT I w β args vs->RelT I w (only β k) args1 vs):Acts P f args st [] (zBc k x) (st.set k e'):=by
 intro β I w vs hr hsr hinj hfz hdom hi hg;have o0:∀{j:Nat}{y:Nat×Nat},only β k j=Ab y->j=0/\β k=Ab y:=λ{j y} hj=>by
  grind [only]
 have hk:k<st.length:=(A4.1 he).1;have hsr1:SR (only β k) I w [e]:=λj b c hj=>by
  obtain⟨rfl,hb⟩:=o0 hj;obtain⟨e0,h1,h2⟩:=hsr k b c hb;rw[he]at h1;cases h1;exact⟨e,rfl,ha.own h2⟩
 have hinj1:Inj (only β k):=λj j' b c c' h1 h2=>by rw[(o0 h1).1,(o0 h2).1]
 have hfz1:FZ (only β k) I [e]:=λj b c i e0 h1 h2 h3=>by
  obtain⟨rfl,hb⟩:=o0 h1;simp only[BW,AN.injEq]at h2;subst h2;exact hfz k b c i e hb he h3
 refine(h (only β k) I w vs (hargs I w β vs hr) hsr1 hinj1 hfz1 (λj y hj=>by rw[(o0 hj).1];simp) hi hg).mono ?_;rintro en w' ⟨v,β1,I',rfl,p1,p2,p3,p4,p5,p6,p7,p8⟩;have d0:∀{j:Nat}{y:Nat×Nat},β1 j=Ab y->j=0:=λ{j y} hj=>by have:=p7 j y hj;simpa using this
 have old:∀{b c:Nat},β1 0=Ab (b,c)->(∃c',β k=Ab (b,c'))\/w.heap.size<=b:=λ{b c} hb=>by
  rcases p2.be 0 b c hb with⟨k',c',hk'⟩|hh;all_goals grind
 have hlt:∀{j b c:Nat},β j=Ab (b,c)->b<w.heap.size:=λ{j b c} hj=>by
  obtain⟨e0,_,h1⟩:=hsr j b c hj;exact h1.lt
 have keepk:∀y,β k=Ab y->β1 0=Ab y:=λy hy=>p3 0 y (by simp) (by simp only[only,if_true];exact hy);have hle:BeLe β (λj=>if j=k then β1 0 else β j):=λj y hj=>by
  grind
 have heap:∀{j b c:Nat},j≠k->β j=Ab (b,c)->w'.heap[b]?=w.heap[b]?:=λ{j b c} hne hj=>p2.out b (hlt hj) λj' c' hj'=>by
  have:=(o0 hj').2
  exact hne (hinj j k b c c' hj this)
 refine⟨v,λj=>if j=k then β1 0 else β j,I',rfl,p1,⟨p2.fix,p2.size,λb hb hn=>p2.out b hb λj c hj=>hn k c (o0 hj).2,p2.os,p2.tape,p2.output,p2.dr,λj b c hj=>?_,λb o hb=>?_⟩,λj y _ hj=>hle j y hj,λj b c hj=>?_,λj j' b c c' hj hj'=>?_,λj b c i e0 hj h2 h3=>?_,λj y hj=>?_,?_⟩
 ·grind
 ·rcases p2.im b o hb with h1|h1|⟨j,c,h1⟩;all_goals grind
 ·try simp only at hj
  split at hj
  ·rename_i ej;subst ej;obtain⟨e0,h1,h2⟩:=p4 0 b c hj;simp only[BW,AN.injEq]at h1;subst h1;exact⟨e',BX hk,ha'.own h2⟩
  rename_i ej;obtain⟨e0,h1,h2⟩:=hsr j b c hj;exact⟨e0,by rw[BY (λh=>ej h.symm)];exact h1,h2.mono (heap ej hj) p2.fix hle⟩
 ·try simp only at hj hj'
  split at hj<;>split at hj'
  ·rename_i a b;rw[a,b]
  ·rename_i a a';exfalso;rcases old hj with⟨c2,h1⟩|h1
   ·exact a' (hinj j' k b c' c2 hj' h1)
   have:=hlt hj';omega
  ·rename_i a a';exfalso;rcases old hj' with⟨c2,h1⟩|h1
   ·exact a (hinj j k b c c2 hj h1)
   have:=hlt hj;omega
  exact hinj j j' b c c' hj hj'
 ·try simp only at hj
  split at hj
  ·rename_i ej;subst ej;rw[BX hk]at h2;cases h2;exact p6 0 b c i e' hj rfl h3
  rename_i ej;rw[BY (λh=>ej h.symm)]at h2;rcases p2.im b i h3 with h4|h4|⟨j',c',h4⟩
  ·exact hfz j b c i e0 hj h2 h4
  ·have:=hlt hj;omega
  exact absurd (hinj j k b c c' hj (o0 h4).2) ej
 ·grind
 refine zEw (λj y hj=>?_) x v p8;grind
theorem Acts.atC{e':Bk}(k:Nat)(h:Acts P f args1 [e] [0] x [e'])(he:st[k]?=Ab e)(ha:e.free)(ha':e'.free)
  (hargs:∀I w β vs,RelT I w β args vs->RelT I w (only β k) args1 vs)(hno:∀j e0,j≠k->st[j]?=Ab e0->e0.nob=Ac\/zAt k e0.cells=Ad):Acts P f args st [k] (zBc k x) (st.set k e'):=by
 intro β I w vs hr hsr hinj hfz hdom hi hg;have o0:∀{j:Nat}{y:Nat×Nat},only β k j=Ab y->j=0/\β k=Ab y:=λ{j y} hj=>by
  grind [only]
 have hk:k<st.length:=(A4.1 he).1;have hsr1:SR (only β k) I w [e]:=λj b c hj=>by
  obtain⟨rfl,hb⟩:=o0 hj;obtain⟨e0,h1,h2⟩:=hsr k b c hb;rw[he]at h1;cases h1;exact⟨e,rfl,ha.own h2⟩
 have hinj1:Inj (only β k):=λj j' b c c' h1 h2=>by rw[(o0 h1).1,(o0 h2).1]
 have hfz1:FZ (only β k) I [e]:=λj b c i e0 h1 h2 h3=>by
  obtain⟨rfl,hb⟩:=o0 h1;simp only[BW,AN.injEq]at h2;subst h2;exact hfz k b c i e hb he h3
 refine(h (only β k) I w vs (hargs I w β vs hr) hsr1 hinj1 hfz1 (λj y hj=>by rw[(o0 hj).1];simp) hi hg).mono ?_;rintro en w' ⟨v,β1,I',rfl,p1,p2,p3,p4,p5,p6,p7,p8⟩;have d0:∀{j:Nat}{y:Nat×Nat},β1 j=Ab y->j=0:=λ{j y} hj=>by have:=p7 j y hj;simpa using this
 have old:∀{b c:Nat},β1 0=Ab (b,c)->(∃c',β k=Ab (b,c'))\/w.heap.size<=b:=λ{b c} hb=>by
  rcases p2.be 0 b c hb with⟨k',c',hk'⟩|hh;all_goals grind
 have hlt:∀{j b c:Nat},β j=Ab (b,c)->b<w.heap.size:=λ{j b c} hj=>by
  obtain⟨e0,_,h1⟩:=hsr j b c hj;exact h1.lt
 have hne:∀j y,j≠k->β j=Ab y->(λj=>if j=k then β1 0 else β j) j=Ab y:=λj y h0 hj=>by
  grind
 have heap:∀{j b c:Nat},j≠k->β j=Ab (b,c)->w'.heap[b]?=w.heap[b]?:=λ{j b c} hne hj=>p2.out b (hlt hj) λj' c' hj'=>by
  have:=(o0 hj').2
  exact hne (hinj j k b c c' hj this)
 refine⟨v,λj=>if j=k then β1 0 else β j,I',rfl,p1,⟨p2.fix,p2.size,λb hb hn=>p2.out b hb λj c hj=>hn k c (o0 hj).2,p2.os,p2.tape,p2.output,p2.dr,λj b c hj=>?_,λb o hb=>?_⟩,λj y h0 hj=>hne j y (by simpa using h0) hj,λj b c hj=>?_,λj j' b c c' hj hj'=>?_,λj b c i e0 hj h2 h3=>?_,λj y hj=>?_,?_⟩
 ·grind
 ·rcases p2.im b o hb with h1|h1|⟨j,c,h1⟩;all_goals grind
 ·try simp only at hj
  split at hj
  ·rename_i ej;subst ej;obtain⟨e0,h1,h2⟩:=p4 0 b c hj;simp only[BW,AN.injEq]at h1;subst h1;exact⟨e',BX hk,ha'.own h2⟩
  rename_i ej;obtain⟨e0,h1,h2⟩:=hsr j b c hj;exact⟨e0,by rw[BY (λh=>ej h.symm)];exact h1,(h2.congr (β':=λj=>if j=k then β1 0 else β j) λhn i y hr hi=>by
   refine hne i y (λe1=>?_) hi;subst e1;rcases hno j e0 ej h1 with h3|h3
   ·rw[h3]at hn;cases hn
   rw[h3]at hr;cases hr).mono (heap ej hj) p2.fix (AW _)⟩
 ·try simp only at hj hj'
  split at hj<;>split at hj'
  ·rename_i a b;rw[a,b]
  ·rename_i a a';exfalso;rcases old hj with⟨c2,h1⟩|h1
   ·exact a' (hinj j' k b c' c2 hj' h1)
   have:=hlt hj';omega
  ·rename_i a a';exfalso;rcases old hj' with⟨c2,h1⟩|h1
   ·exact a (hinj j k b c c2 hj h1)
   have:=hlt hj;omega
  exact hinj j j' b c c' hj hj'
 ·try simp only at hj
  split at hj
  ·rename_i ej;subst ej;rw[BX hk]at h2;cases h2;exact p6 0 b c i e' hj rfl h3
  rename_i ej;rw[BY (λh=>ej h.symm)]at h2;rcases p2.im b i h3 with h4|h4|⟨j',c',h4⟩
  ·exact hfz j b c i e0 hj h2 h4
  ·have:=hlt hj;omega
  exact absurd (hinj j k b c c' hj (o0 h4).2) ej
 ·grind
 refine zEw (λj y hj=>?_) x v p8;grind
theorem zPi{I:Im}{w:World}{β β':Be}:∀{us vs:List Value},RelT I w β (us.map .val) vs->RelT I w β' (us.map .val) vs
 |[],vs,h=>by simpa only[BA,RelT]using h
 |u::us,vs,h=>by
  simp only[AO,RelT,Rel]at h⊢;obtain⟨v,vs',h1,h2,h3⟩:=h;exact⟨v,vs',h1,h2,zPi h3⟩
theorem only_osl{off m:Nat}(us:List Value)(I:Im)(w:World)(β:Be)(vs:List Value)(h:RelT I w β (.osl k off n m wh::us.map .val) vs):RelT I w (only β k) (.osl 0 off n m wh::us.map .val) vs:=by
 grind [only,RelT,zPi,Rel]
theorem zC2{off:Nat}(us:List Value)(I:Im)(w:World)(β:Be)(vs:List Value)(h:RelT I w β (.own k off::us.map .val) vs):RelT I w (only β k) (.own 0 off::us.map .val) vs:=by
 grind [only,RelT,zPi,Rel]
theorem Bk.free_arr(ha:e.arr=Ac)(hk:e.kd= .plain):e.free:= .inl (by unfold Bk.nob;rw[ha,hk];rfl)
def To:Par:=⟨λf=>f==67,λ_ _=>Ae,λ_=>Ad,λ_=>Ad,λ_=>Ad⟩
theorem zFz:zBg Aj To:=by intro t n f h;cases h
theorem zL3(cols:List Nat)(i:Nat)(h:i<cols.length):((cols.map λc=>iD (c:Nat)).drop i).headD .unk=iD (cols.getD i 0:Nat):=by simp_all
end
section
open Go.Shelf
def Tryz.lays125_ren:Go.Shelf.Ren:=⟨λ|125=>152|128=>44|129=>173|n=>n,λ|46=>111|3=>3|51=>27|53=>52|4=>4|5=>5|9=>9|n=>n,λ|n=>n⟩
theorem Tryz.lays125:Go.Proofs.Lays.n125 Aj Tryz.lays125_ren:={
 mixed:=by kernel_rfl
 f125:=Tryz.func152.trans (congrArg Ab (by kernel_rfl))
 f128:=Tryz.func44.trans (congrArg Ab (by kernel_rfl))
 f129:=Tryz.func173.trans (congrArg Ab (by kernel_rfl))
 t3:=Tryz.underlying3
 a3:=Tryz.isAgg3
 z3:=Tryz.sizeOf3
 v3:=Tryz.zeroValue3
 t4:=Tryz.underlying4
 a4:=Tryz.isAgg4
 z4:=Tryz.sizeOf4
 v4:=Tryz.zeroValue4
 t5:=Tryz.underlying5
 a5:=Tryz.isAgg5
 z5:=Tryz.sizeOf5
 v5:=Tryz.zeroValue5
 t9:=Tryz.underlying9
 a9:=Tryz.isAgg9
 z9:=Tryz.sizeOf9
 v9:=Tryz.zeroValue9
 t46:=Tryz.underlying111
 a46:=Tryz.isAgg111
 z46:=Tryz.sizeOf111
 v46:=Tryz.zeroValue111
 t51:=Tryz.underlying27
 a51:=Tryz.isAgg27
 z51:=Tryz.sizeOf27
 v51:=Tryz.zeroValue27
 t53:=Tryz.underlying52
 a53:=Tryz.isAgg52
 z53:=Tryz.sizeOf52
 v53:=Tryz.zeroValue52}
theorem Tryz.bits_Len(x:Int)(w:World)(h0:0<=x)(h1:x<=18446744073709551615):
  Calls Aj 152 #[.int .u64 x] w λe w'=>e= .returned (.int .i64 (Lib.bitLen x.toNat))/\w'=w:=Any.bits_Len Tryz.lays125 x w h0 h1
open Go.RowKit in
def Tryz.lays106_ren:Go.Shelf.Ren:=⟨λ|106=>175|213=>192|265=>198|n=>n,λ|9=>9|3=>3|n=>n,λ|n=>n⟩
theorem Tryz.lays106:Go.Proofs.Lays.n106 Aj Tryz.lays106_ren:={
 mixed:=by kernel_rfl
 f106:=Tryz.func175.trans (congrArg Ab (by kernel_rfl))
 f213:=Tryz.func192.trans (congrArg Ab (by kernel_rfl))
 f265:=Tryz.func198.trans (congrArg Ab (by kernel_rfl))
 t3:=Tryz.underlying3
 a3:=Tryz.isAgg3
 z3:=Tryz.sizeOf3
 v3:=Tryz.zeroValue3
 t9:=Tryz.underlying9
 a9:=Tryz.isAgg9
 z9:=Tryz.sizeOf9
 v9:=Tryz.zeroValue9}
open Go.RowKit in
theorem Tryz.strings_Compare(a b:ByteArray)(w:World):
  Calls Aj 175 #[.string a, .string b] w λe w'=>e= .returned (.int .i64 (AK a.data.toList b.data.toList))/\w'=w:=Any.strings_Compare Tryz.lays106 a b w
open Go.RowKit in
def Tryz.lays122_ren:Go.Shelf.Ren:=⟨λ|122=>34|215=>63|n=>n,λ|3=>3|4=>4|n=>n,λ|n=>n⟩
theorem Tryz.lays122:Go.Proofs.Lays.n122 Aj Tryz.lays122_ren:={
 mixed:=by kernel_rfl
 f122:=Tryz.func34.trans (congrArg Ab (by kernel_rfl))
 f215:=Tryz.func63.trans (congrArg Ab (by kernel_rfl))
 t3:=Tryz.underlying3
 a3:=Tryz.isAgg3
 z3:=Tryz.sizeOf3
 v3:=Tryz.zeroValue3
 t4:=Tryz.underlying4
 a4:=Tryz.isAgg4
 z4:=Tryz.sizeOf4
 v4:=Tryz.zeroValue4}
open Go.RowKit in
theorem Tryz.cmp_Compare_int(x y:Int)(w:World):
  Calls Aj 34 #[.int .i64 x, .int .i64 y] w λe w'=>e= .returned (.int .i64 (Lib.compareInt x y))/\w'=w:=Any.cmp_Compare_int Tryz.lays122 x y w
def Tryz.lays129_ren:Go.Shelf.Ren:=⟨λ|129=>173|n=>n,λ|53=>52|3=>3|4=>4|46=>111|5=>5|9=>9|n=>n,λ|n=>n⟩
theorem Tryz.lays129:Go.Proofs.Lays.n129 Aj Tryz.lays129_ren:={
 mixed:=by kernel_rfl
 f129:=Tryz.func173.trans (congrArg Ab (by kernel_rfl))
 t3:=Tryz.underlying3
 a3:=Tryz.isAgg3
 z3:=Tryz.sizeOf3
 v3:=Tryz.zeroValue3
 t4:=Tryz.underlying4
 a4:=Tryz.isAgg4
 z4:=Tryz.sizeOf4
 v4:=Tryz.zeroValue4
 t5:=Tryz.underlying5
 a5:=Tryz.isAgg5
 z5:=Tryz.sizeOf5
 v5:=Tryz.zeroValue5
 t9:=Tryz.underlying9
 a9:=Tryz.isAgg9
 z9:=Tryz.sizeOf9
 v9:=Tryz.zeroValue9
 t46:=Tryz.underlying111
 a46:=Tryz.isAgg111
 z46:=Tryz.sizeOf111
 v46:=Tryz.zeroValue111
 t53:=Tryz.underlying52
 a53:=Tryz.isAgg52
 z53:=Tryz.sizeOf52
 v53:=Tryz.zeroValue52}
theorem Tryz.bits_Len64(x:Int)(w:World)(h0:0<=x)(h1:x<=18446744073709551615):
  Calls Aj 173 #[.int .u64 x] w λe w'=>e= .returned (.int .i64 (Lib.bitLen x.toNat))/\w'=w:=Any.bits_Len64 Tryz.lays129 x w h0 h1
def Tryz.lays317_ren:Go.Shelf.Ren:=⟨λ|317=>204|n=>n,λ|3=>3|46=>111|n=>n,λ|n=>n⟩
theorem Tryz.lays317:Go.Proofs.Lays.n317 Aj Tryz.lays317_ren:={
 mixed:=by kernel_rfl
 f317:=Tryz.func204.trans (congrArg Ab (by kernel_rfl))
 t3:=Tryz.underlying3
 a3:=Tryz.isAgg3
 z3:=Tryz.sizeOf3
 v3:=Tryz.zeroValue3
 t46:=Tryz.underlying111
 a46:=Tryz.isAgg111
 z46:=Tryz.sizeOf111
 v46:=Tryz.zeroValue111}
open Go.Lib in
theorem Tryz.internal_strconv_log10Pow2(x:Nat)(h:x<=64)(w:World):
  Calls Aj 204 #[.int .i64 x] w λe w'=>e= .returned (.int .i64 (Lib.l10 x))/\w'=w:=Any.internal_strconv_log10Pow2 Tryz.lays317 x h w
def Tryz.lays318_ren:Go.Shelf.Ren:=⟨λ|318=>205|n=>n,λ|3=>3|4=>4|n=>n,λ|n=>n⟩
theorem Tryz.lays318:Go.Proofs.Lays.n318 Aj Tryz.lays318_ren:={
 mixed:=by kernel_rfl
 f318:=Tryz.func205.trans (congrArg Ab (by kernel_rfl))
 t3:=Tryz.underlying3
 a3:=Tryz.isAgg3
 z3:=Tryz.sizeOf3
 v3:=Tryz.zeroValue3
 t4:=Tryz.underlying4
 a4:=Tryz.isAgg4
 z4:=Tryz.sizeOf4
 v4:=Tryz.zeroValue4}
open Go.Lib in
theorem Tryz.internal_strconv_bool2_int(b:Bool)(w:World):
  Calls Aj 205 #[.bool b] w λe w'=>e= .returned (.int .i64 (if b then 1 else 0))/\w'=w:=Any.internal_strconv_bool2_int Tryz.lays318 b w
def Tryz.lays283_ren:Go.Shelf.Ren:=⟨λ|283=>199|n=>n,λ|3=>3|9=>9|4=>4|n=>n,λ|n=>n⟩
theorem Tryz.lays283:Go.Proofs.Lays.n283 Aj Tryz.lays283_ren:={
 mixed:=by kernel_rfl
 f283:=Tryz.func199.trans (congrArg Ab (by kernel_rfl))
 t3:=Tryz.underlying3
 a3:=Tryz.isAgg3
 z3:=Tryz.sizeOf3
 v3:=Tryz.zeroValue3
 t4:=Tryz.underlying4
 a4:=Tryz.isAgg4
 z4:=Tryz.sizeOf4
 v4:=Tryz.zeroValue4
 t9:=Tryz.underlying9
 a9:=Tryz.isAgg9
 z9:=Tryz.sizeOf9
 v9:=Tryz.zeroValue9}
open Go.Lib in
theorem Tryz.internal_strconv_small(i:Nat)(h:i<100)(w:World):
  Calls Aj 199 #[.int .i64 i] w λe w'=>e= .returned (.string ⟨(Lib.decDigits i).toArray⟩)/\w'=w:=Any.internal_strconv_small Tryz.lays283 i h w
open Go.Lib in
def Tryz.lays285_ren:Go.Shelf.Ren:=⟨λ|285=>201|n=>n,λ|37=>281|53=>52|3=>3|4=>4|51=>27|9=>9|5=>5|0=>0|n=>n,λ|n=>n⟩
theorem Tryz.lays285:Go.Proofs.Lays.n285 Aj Tryz.lays285_ren:={
 mixed:=by kernel_rfl
 f285:=Tryz.func201.trans (congrArg Ab (by kernel_rfl))
 t0:=Tryz.underlying0
 a0:=Tryz.isAgg0
 z0:=Tryz.sizeOf0
 v0:=Tryz.zeroValue0
 t3:=Tryz.underlying3
 a3:=Tryz.isAgg3
 z3:=Tryz.sizeOf3
 v3:=Tryz.zeroValue3
 t4:=Tryz.underlying4
 a4:=Tryz.isAgg4
 z4:=Tryz.sizeOf4
 v4:=Tryz.zeroValue4
 t5:=Tryz.underlying5
 a5:=Tryz.isAgg5
 z5:=Tryz.sizeOf5
 v5:=Tryz.zeroValue5
 t9:=Tryz.underlying9
 a9:=Tryz.isAgg9
 z9:=Tryz.sizeOf9
 v9:=Tryz.zeroValue9
 t37:=Tryz.underlying281
 a37:=Tryz.isAgg281
 z37:=Tryz.sizeOf281
 v37:=Tryz.zeroValue281
 t51:=Tryz.underlying27
 a51:=Tryz.isAgg27
 z51:=Tryz.sizeOf27
 v51:=Tryz.zeroValue27
 t53:=Tryz.underlying52
 a53:=Tryz.isAgg52
 z53:=Tryz.sizeOf52
 v53:=Tryz.zeroValue52}
open Go.RowKit Go.Sort Go.Lib in
theorem Tryz.internal_strconv_formatBase10(blk off cap:Nat)(u:Nat)(d:Array UInt8)(w:World)(hH:Holds (λ(b:UInt8)=>An .u8 (b.toNat:Int)) w blk off d)(hu:u<10^d.size)(hu64:u<18446744073709551616)(hsz:d.size<4611686018427387904):
  Calls Aj 201 #[.slice (Ab ⟨blk,off,Ae⟩) d.size cap, .int .u64 u] w λe w'=>
   e= .returned (.tuple #[])/\∃(n v':Nat)(dk:Array UInt8),w'=(putRow (λ(b:UInt8)=>An .u8 (b.toNat:Int)) w blk off dk).drewN n/\FmtInv d.size u 0 v' dk:=Any.internal_strconv_formatBase10 Tryz.lays285 blk off cap u d w hH hu hu64 hsz
def Tryz.lays189_ren:Go.Shelf.Ren:=⟨λ|189=>249|125=>152|257=>257|128=>44|129=>173|294=>259|295=>260|296=>261|297=>262|298=>263|299=>264|216=>265|300=>266|301=>267|328=>276|329=>187|330=>188|331=>277|332=>278|215=>63|343=>282|n=>n,λ|28=>39|3=>3|46=>111|0=>0|51=>27|53=>52|4=>4|183=>286|182=>285|131=>263|5=>5|9=>9|218=>300|222=>304|228=>310|229=>311|n=>n,λ|n=>n⟩
theorem Tryz.lays189:Go.Proofs.Lays.n189 Aj Tryz.lays189_ren:={
 mixed:=by kernel_rfl
 f125:=Tryz.func152.trans (congrArg Ab (by kernel_rfl))
 f128:=Tryz.func44.trans (congrArg Ab (by kernel_rfl))
 f129:=Tryz.func173.trans (congrArg Ab (by kernel_rfl))
 f189:=Tryz.func249.trans (congrArg Ab (by kernel_rfl))
 f215:=Tryz.func63.trans (congrArg Ab (by kernel_rfl))
 f216:=Tryz.func265.trans (congrArg Ab (by kernel_rfl))
 f257:=Tryz.func257.trans (congrArg Ab (by kernel_rfl))
 f294:=Tryz.func259.trans (congrArg Ab (by kernel_rfl))
 f295:=Tryz.func260.trans (congrArg Ab (by kernel_rfl))
 f296:=Tryz.func261.trans (congrArg Ab (by kernel_rfl))
 f297:=Tryz.func262.trans (congrArg Ab (by kernel_rfl))
 f298:=Tryz.func263.trans (congrArg Ab (by kernel_rfl))
 f299:=Tryz.func264.trans (congrArg Ab (by kernel_rfl))
 f300:=Tryz.func266.trans (congrArg Ab (by kernel_rfl))
 f301:=Tryz.func267.trans (congrArg Ab (by kernel_rfl))
 f328:=Tryz.func276.trans (congrArg Ab (by kernel_rfl))
 f329:=Tryz.func187.trans (congrArg Ab (by kernel_rfl))
 f330:=Tryz.func188.trans (congrArg Ab (by kernel_rfl))
 f331:=Tryz.func277.trans (congrArg Ab (by kernel_rfl))
 f332:=Tryz.func278.trans (congrArg Ab (by kernel_rfl))
 f343:=Tryz.func282.trans (congrArg Ab (by kernel_rfl))
 t0:=Tryz.underlying0
 a0:=Tryz.isAgg0
 z0:=Tryz.sizeOf0
 v0:=Tryz.zeroValue0
 t3:=Tryz.underlying3
 a3:=Tryz.isAgg3
 z3:=Tryz.sizeOf3
 v3:=Tryz.zeroValue3
 t4:=Tryz.underlying4
 a4:=Tryz.isAgg4
 z4:=Tryz.sizeOf4
 v4:=Tryz.zeroValue4
 t5:=Tryz.underlying5
 a5:=Tryz.isAgg5
 z5:=Tryz.sizeOf5
 v5:=Tryz.zeroValue5
 t9:=Tryz.underlying9
 a9:=Tryz.isAgg9
 z9:=Tryz.sizeOf9
 v9:=Tryz.zeroValue9
 t28:=Tryz.underlying39
 a28:=Tryz.isAgg39
 z28:=Tryz.sizeOf39
 v28:=Tryz.zeroValue39
 t46:=Tryz.underlying111
 a46:=Tryz.isAgg111
 z46:=Tryz.sizeOf111
 v46:=Tryz.zeroValue111
 t51:=Tryz.underlying27
 a51:=Tryz.isAgg27
 z51:=Tryz.sizeOf27
 v51:=Tryz.zeroValue27
 t53:=Tryz.underlying52
 a53:=Tryz.isAgg52
 z53:=Tryz.sizeOf52
 v53:=Tryz.zeroValue52
 t131:=Tryz.underlying263
 a131:=Tryz.isAgg263
 z131:=Tryz.sizeOf263
 v131:=Tryz.zeroValue263
 t182:=Tryz.underlying285
 a182:=Tryz.isAgg285
 z182:=Tryz.sizeOf285
 v182:=Tryz.zeroValue285
 t183:=Tryz.underlying286
 a183:=Tryz.isAgg286
 z183:=Tryz.sizeOf286
 v183:=Tryz.zeroValue286
 t218:=Tryz.underlying300
 a218:=Tryz.isAgg300
 z218:=Tryz.sizeOf300
 v218:=Tryz.zeroValue300
 t222:=Tryz.underlying304
 a222:=Tryz.isAgg304
 z222:=Tryz.sizeOf304
 v222:=Tryz.zeroValue304
 t228:=Tryz.underlying310
 a228:=Tryz.isAgg310
 z228:=Tryz.sizeOf310
 v228:=Tryz.zeroValue310
 t229:=Tryz.underlying311
 a229:=Tryz.isAgg311
 z229:=Tryz.sizeOf311
 v229:=Tryz.zeroValue311}
open Go.RowKit Go.Sort Go.Lib in
open Go.RowKit Go.Sort Go.Lib in
open Go.RowKit Go.Sort Go.Lib in
open Go.RowKit Go.Sort Go.Lib in
open Go.RowKit Go.Sort Go.Lib in
open Go.Lib in
open Go.Lib in
open Go.Lib in
open Go.Lib in
open Go.RowKit Go.Lib in
open Go.RowKit Go.Lib in
open Go.RowKit Go.Lib in
open Go.RowKit Go.Lib in
open Go.RowKit Go.Lib in
def Tryz.laysNm220_ren:Go.Shelf.Ren:=⟨λ|20=>250|n=>n,λ|22=>39|3=>3|4=>4|0=>0|n=>n,λ|n=>n⟩
theorem Tryz.laysNm220:Go.Proofs.Lays2.n20 Aj Tryz.laysNm220_ren:={
 mixed:=by kernel_rfl
 f20:=Tryz.func250.trans (congrArg Ab (by kernel_rfl))
 t0:=Tryz.underlying0
 a0:=Tryz.isAgg0
 z0:=Tryz.sizeOf0
 v0:=Tryz.zeroValue0
 t3:=Tryz.underlying3
 a3:=Tryz.isAgg3
 z3:=Tryz.sizeOf3
 v3:=Tryz.zeroValue3
 t4:=Tryz.underlying4
 a4:=Tryz.isAgg4
 z4:=Tryz.sizeOf4
 v4:=Tryz.zeroValue4
 t22:=Tryz.underlying39
 a22:=Tryz.isAgg39
 z22:=Tryz.sizeOf39
 v22:=Tryz.zeroValue39
 i3:=by kernel_rfl}
open Go.RowKit Go.Lib Go.Sort in
open Go.RowKit Go.Lib Go.Sort in
open Go.RowKit Go.Lib Go.Sort in
theorem Tryz.slices_Compact_int_empty(a:Option Addr)(cap:Nat)(w:World):
  Calls Aj 250 #[.slice a 0 cap] w λe w'=>e= .returned (.slice a 0 cap)/\w'=w:=Any.slices_Compact_int_empty Tryz.laysNm220 a cap w
open Go.RowKit Go.Lib in
open Go.RowKit Go.Lib in
open Go.RowKit Go.Lib Go.Sort in
theorem Tryz.slices_Compact_int_cells(b off n c:Nat)(zs:List Int)(w:World)(hz:n<=zs.length)(hbig:n<=9223372036854775807)(hcap:n<=c)(hc:∀j,j<zs.length->w.cell? ⟨b,off+j,Ae⟩=Ab (.int .i64 (zs.getD j 0)))(hf:∀j,j<n->w.frozen? ⟨b,off+j,Ae⟩=Ad):
  Calls Aj 250 #[.slice (Ab ⟨b,off,Ae⟩) n c] w λe w'=>e= .returned (.slice (Ab ⟨b,off,Ae⟩) (Lib.compact (zs.take n)).length c)/\∃q,w'=(w.drewN q).setCells b off ((Lib.compact (zs.take n)++As (n-(Lib.compact (zs.take n)).length) 0).map (An .i64)):=Any.slices_Compact_int_cells Tryz.laysNm220 b off n c zs w hz hbig hcap hc hf
open Go.RowKit Go.Lib in
end
variable{e:Exit}
section
open Go.RowKit
def Tz:Par:=⟨λ_=>Ad,λ_ _=>Ae,λ_=>Ad,λ_=>Ad,λ_=>Ad⟩
theorem zCg:zBg Aj Tz:=by intro t n f h;cases h
theorem mixed:Aj.follows .mixedOrders=true:=by kernel_rfl
theorem zFl{I:Im}{w:World}{β:Be}:∀(us vs:List Value),RelT I w β (us.map .val) vs->vs=us
 |[],vs,h=>by simpa only[BA,RelT]using h
 |u::us,vs,h=>by
  simp only[AO,RelT,Rel]at h;obtain⟨v,vs',rfl,rfl,h⟩:=h;rw[zFl us vs' h]
theorem zC6{v:Value}(h:∀w,Calls P f us.toArray w λe w'=>e= .returned v/\w=w'):Pure P f (us.map .val) [] (.val v):=by
 intro I w vs hr hi hg;rw[zFl us vs hr];refine(h w).mono ?_;rintro e w' ⟨rfl,rfl⟩;exact⟨v,I,noB,rfl,Bm _,hi,Fix.refl _ _,λ_ _ h=> .inl h,λ_ _ _ h=>(by cases h),λ_ _ _ h=>(by cases h),λ_ _ _ _ _ h=>(by cases h),λ_ _ _ _ _ h=>(by cases h),λ_ _ h=>(by cases h),by simp only[Rel],by simp⟩
theorem zEz{e:TypeId}{sz:Nat}(h:∀I w vs,RelT I w noB args vs->Calls P f vs.toArray w λx w'=>(x= .returned (.slice Ae 0 0)/\Ext w w')\/∃(g:Nat)(cur:List Value)(cap:Nat),x= .returned (.slice (Ab ⟨g,0,Ae⟩) 0 cap)/\w.heap.size<=g/\Ext w w'/\w'.heap[g]?=Ab (.cells cur.toArray e (0,0))/\cur.length=cap*sz/\cap<=maxLen):
  Pure P f args [⟨[],e,sz,Ac,Ad, .plain⟩] (.osl 0 0 0 0 Ac):=by
 intro I w vs hr hi hg;refine(h I w vs hr).mono ?_;rintro x w' (⟨rfl,he⟩|⟨g,cur,cap,rfl,hgs,he,h1,h2,h3⟩)
 ·exact⟨_,I,noB,rfl,he,λb o hb=>BZ (hi b o hb) he.size,Fix.ext he λ_ _ h=>h,λ_ _ h=> .inl h,λ_ _ _ h=>(by cases h),λ_ _ _ h=>(by cases h),λ_ _ _ _ _ h=>(by cases h),λ_ _ _ _ _ h=>(by cases h),λ_ _ h=>(by cases h),by rw[Rel];exact .inl ⟨rfl,rfl,rfl⟩,by simp⟩
 have hg:∀k y,(if k=0 then Ab (g,cap)else Ae:Option (Nat×Nat))=Ab y->k=0/\y=(g,cap):=by
  grind
 refine⟨_,I,λk=>if k=0 then Ab (g,cap)else Ae,rfl,he,λb o hb=>BZ (hi b o hb) he.size,Fix.ext he λ_ _ h=>h,λ_ _ h=> .inl h,?_,?_,?_,?_,?_,?_,by simp⟩
 ·grind
 ·intro k b c hk;obtain⟨rfl,e⟩:=hg k _ hk;cases e;exact⟨_,rfl,OwnC.r ⟨cur,h1,A9 _,by simp only[AZ,List.take_zero,RelL],λ_=>h2,h3⟩ rfl⟩
 ·intro k k' b c c' hk hk';grind
 ·intro k b c j e hk hE hI;obtain⟨rfl,e'⟩:=hg k _ hk;cases e';exact absurd (hi _ _ hI) (by omega)
 ·grind
 rw[Rel];grind
theorem zBx{rest:List Oper}{Q:Exit->Act->World->Prop}(hgd:o.guard=Ae)(s x:Operand)(t:TypeId)
  (ho:o.op= .call {callee:= .builtin .append,args:=#[s,x],argTypes:=#[t,t]})
  (base:Nat)(e:TypeId)(i:TypeInfo)(z:Value)(size bytes:Nat)(ht:P.underlying t=Ab (.slice e))(hi:P.info? e=Ab i)(hz:i.zero=Ab z)
  (hsize:i.size=size)(hby:i.bytes=bytes)(hzs:z.cells.size=size)(hsz:0<size)
  (v:Value)(n:Nat)(xs:List Value)(hs:a.eval s=v)(hown:w.ownsRow base e size v n xs)
  (ad:Addr)(m c:Nat)(news:List Value)(hx:a.eval x= .slice (Ab ad) m c)(hl:news.length=m*size)(hnews:∀j u,news[j]?=Ab u->w.cell? (ad.add j)=Ab u)(h1:∀u∈news,u.oneCell'=Ac)
  (h63:n+m<=maxLen)(hbytes:(n+m)*bytes<=140737488355328)(hbase:base<=w.heap.size)
  (h:∀v' w',w'.ownsRow base e size v' (n+m) (xs++news)->w.grownBy w' v.ownBlock->w.drawn<=w'.drawn->wpList P ops Q rest (a.put o.dst v') w'):wpList P ops Q (o::rest) a w:=by
 obtain⟨v',w',r1,r2,r3,_⟩:=run_append_own w base t o.type e i z size bytes ht hi hz hsize hby hzs hsz v n xs hown ad m c news hl hnews h1 h63 hbytes hbase;exact Cl w hgd s x t t ho _ _ hs hx v' w' r1 (h v' w' r2 r3 (zDh _ _ r1))
theorem info_ints:(Aj.info? 3).map (λi=>(i.zero,i.size,i.bytes))=Ab (Ab (.int .i64 0),1,8):=by kernel_rfl
set_option maxHeartbeats 400000 in
theorem zZ5:Pure Aj 42 [.row [] 0] [⟨[],3,1,Ac,Ad, .plain⟩] (.osl 0 0 0 0 Ac):=by
 refine zEz λI w vs hr=>?_;simp only[RelT,Rel]at hr;obtain⟨v,ys,rfl,⟨a,c,rfl,_,_,hc,_⟩,rfl⟩:=hr;cases a with
 |none=>
  obtain rfl:=hc rfl;have he:=λ(w:World)=>Bn (P:=Aj) w 39 3 Ae 0 0 0 0 Tryz.underlying39;go_enter Tryz.func42,Tryz.ntmps42;go_wp2;go_ret;exact .inl ⟨rfl,Bm _⟩
 |some x=>
  obtain⟨i0,hi,hz0,hz1,hz2⟩:=info_parts info_ints;have he:=λ(w:World)=>Bn (P:=Aj) w 39 3 (Ab x) 0 c 0 0 Tryz.underlying39;go_enter Tryz.func42,Tryz.ntmps42;go_wp2_with (at_builtin;refine zBx rfl _ _ 39 rfl w.heap.size 3 i0 (.int .i64 0) 1 8 Tryz.underlying39 hi hz0 hz1 hz2 rfl (by decide) (.slice (Ab ⟨w.heap.size,0,Ae⟩) 0 0) 0 [] rfl (Cn _ #[] 0 (Al _) (A9 _) rfl) x 0 c [] rfl (by simp) (by simp) (by simp) (by simp[maxLen]) (by decide) (by simp) ?_;intro v' w' hown hgrow hdr);go_ret;have hext:Ext w w':=⟨((Below.refl _ _).alloc (Al _) _).grown hgrow (by simp) (by simp[Co]),hdr⟩;obtain⟨_,⟨rfl,_⟩|⟨g,cap,cur,rfl,hb,hg,_,hc1,hs,_⟩⟩:=hown
  ·simp_all
  exact .inr ⟨g,cur.toList,cap,rfl,hb,hext,by rw[BB];exact hg,by simpa using hs,hc1⟩
theorem info_rows:(Aj.info? 110).map (λi=>(i.zero,i.size,i.bytes))=Ab (Ab (.slice Ae 0 0),1,24):=by kernel_rfl
set_option maxHeartbeats 400000 in
theorem zZ4:Pure Aj 68 [.row [] 0] [⟨[],110,1,Ac,Ad, .plain⟩] (.osl 0 0 0 0 Ac):=by
 refine zEz λI w vs hr=>?_;simp only[RelT,Rel]at hr;obtain⟨v,ys,rfl,⟨a,c,rfl,_,_,hc,_⟩,rfl⟩:=hr;cases a with
 |none=>
  obtain rfl:=hc rfl;have he:=λ(w:World)=>Bn (P:=Aj) w 40 110 Ae 0 0 0 0 Tryz.underlying40;go_enter Tryz.func68,Tryz.ntmps68;go_wp2;go_ret;exact .inl ⟨rfl,Bm _⟩
 |some x=>
  obtain⟨i0,hi,hz0,hz1,hz2⟩:=info_parts info_rows;have he:=λ(w:World)=>Bn (P:=Aj) w 40 110 (Ab x) 0 c 0 0 Tryz.underlying40;go_enter Tryz.func68,Tryz.ntmps68;go_wp2_with (at_builtin;refine zBx rfl _ _ 40 rfl w.heap.size 110 i0 (.slice Ae 0 0) 1 24 Tryz.underlying40 hi hz0 hz1 hz2 rfl (by decide) (.slice (Ab ⟨w.heap.size,0,Ae⟩) 0 0) 0 [] rfl (Cn _ #[] 0 (Al _) (A9 _) rfl) x 0 c [] rfl (by simp) (by simp) (by simp) (by simp[maxLen]) (by decide) (by simp) ?_;intro v' w' hown hgrow hdr);go_ret;have hext:Ext w w':=⟨((Below.refl _ _).alloc (Al _) _).grown hgrow (by simp) (by simp[Co]),hdr⟩;obtain⟨_,⟨rfl,_⟩|⟨g,cap,cur,rfl,hb,hg,_,hc1,hs,_⟩⟩:=hown
  ·simp_all
  exact .inr ⟨g,cur.toList,cap,rfl,hb,hext,by rw[BB];exact hg,by simpa using hs,hc1⟩
theorem info_row:(Aj.info? 107).map (λi=>(i.zero,i.size,i.bytes))=Ab (Ab (.agg #[.int .i64 0, .int .i64 0, .string ByteArray.empty]),3,32):=by kernel_rfl
set_option maxHeartbeats 400000 in
theorem clone0_row:Pure Aj 37 [.row [] 0] [⟨[],107,3,Ac,Ad, .plain⟩] (.osl 0 0 0 0 Ac):=by
 refine zEz λI w vs hr=>?_;simp only[RelT,Rel]at hr;obtain⟨v,ys,rfl,⟨a,c,rfl,_,_,hc,_⟩,rfl⟩:=hr;cases a with
 |none=>
  obtain rfl:=hc rfl;have he:=λ(w:World)=>Bn (P:=Aj) w 110 107 Ae 0 0 0 0 Tryz.underlying110;go_enter Tryz.func37,Tryz.ntmps37;go_wp2;go_ret;exact .inl ⟨rfl,Bm _⟩
 |some x=>
  obtain⟨i0,hi,hz0,hz1,hz2⟩:=info_parts info_row;have he:=λ(w:World)=>Bn (P:=Aj) w 110 107 (Ab x) 0 c 0 0 Tryz.underlying110;go_enter Tryz.func37,Tryz.ntmps37;go_wp2_with (at_builtin;refine zBx rfl _ _ 110 rfl w.heap.size 107 i0 (.agg #[.int .i64 0, .int .i64 0, .string ByteArray.empty]) 3 32 Tryz.underlying110 hi hz0 hz1 hz2 rfl (by decide) (.slice (Ab ⟨w.heap.size,0,Ae⟩) 0 0) 0 [] rfl (Cn _ #[] 0 (Al _) (A9 _) rfl) x 0 c [] rfl (by simp) (by simp) (by simp) (by simp[maxLen]) (by decide) (by simp) ?_;intro v' w' hown hgrow hdr);go_ret;have hext:Ext w w':=⟨((Below.refl _ _).alloc (Al _) _).grown hgrow (by simp) (by simp[Co]),hdr⟩;obtain⟨_,⟨rfl,_⟩|⟨g,cap,cur,rfl,hb,hg,_,hc1,hs,_⟩⟩:=hown
  ·simp_all
  exact .inr ⟨g,cur.toList,cap,rfl,hb,hext,by rw[BB];exact hg,by simpa using hs,hc1⟩
theorem infog_ints:(Aj.info? 3).map (λi=>(i.zero,i.size,i.bytes))=Ab (Ab (.int .i64 0),1,8):=by kernel_rfl
set_option maxHeartbeats 1000000 in
set_option maxRecDepth 100000 in
theorem grow_ints(n:Nat)(hn:n<=1000000):Pure Aj 256 [.val (.slice Ae 0 0), .val (.int .i64 n)] [⟨[],3,1,Ac,Ad, .plain⟩] (.osl 0 0 0 0 Ac):=by
 refine zEz λI w vs hr=>?_;rw[zFl [.slice Ae 0 0, .int .i64 n] vs hr];obtain⟨i0,hi,hz0,hz1,hz2⟩:=info_parts infog_ints;by_cases h0:n=0
 ·subst h0;go_enter Tryz.func256,Tryz.ntmps256;go_wp2;go_ret;exact .inl ⟨rfl,Bm _⟩
 have hrz:∀ty,(Builtin.append_ #[39,3] ty #[.slice Ae 0 0, .int .i64 (n:Int)]).run Aj w= .ok (.slice (Ab ⟨w.heap.size,0,Ae⟩) n (grownCap w n 0 3)) (w.drew.alloc (.cells (Builtin.zeroCells (AH (.int .i64 0)) n++Builtin.zeroCells (AH (.int .i64 0)) (grownCap w n 0 3-n)) 3)):=λty=>
  Lib.run_append_nil_zeros w 39 3 ty 3 i0 (.int .i64 0) .i64 .i64 Tryz.underlying39 Tryz.underlying3 hi hz0 n (by omega) (by rw[hz1];decide) (by omega) (by rw[hz2];omega)
 have hGn:n<=grownCap w n 0 3:=grownCap_ge w _ _ _;obtain⟨G,hG⟩:∃G,G=grownCap w n 0 3:=⟨_,rfl⟩;rw[<-hG]at hrz hGn;have hG63:G<=maxLen:=by
  have:=grownCap_le_maxLen w n 0 3 (by unfold maxLen;omega)
  rw[<-hG]at this;exact this
 have h1:¬((n:Int)<0):=by omega
 have h4:(n:Int)>0:=by omega
 have hG':G<=9223372036854775807:=by unfold maxLen at hG63;omega
 clear hG;go_enter Tryz.func256,Tryz.ntmps256;go_wp2_with (at_builtin;refine Cl _ rfl _ _ _ _ rfl _ _ rfl rfl _ _ (hrz _) ?_);all_goals
  go_ret;refine .inr ⟨w.heap.size,(Builtin.zeroCells (AH (.int .i64 0)) n++Builtin.zeroCells (AH (.int .i64 0)) (G-n)).toList,G,rfl,Al _,(Ext.alloc _ _).trans (Ext.drew _),?_,?_,hG63⟩
  ·show(w.heap.push (Obj.cells (Builtin.zeroCells (AH (.int .i64 0)) n++Builtin.zeroCells (AH (.int .i64 0)) (G-n)) 3 (0,0)))[w.heap.size]?=_;rw[Cx,BB]
  simp only[Array.length_toList,Array.size_append,size_zeroCells];rw[show(AH (.int .i64 0)).size=1 from rfl];omega
theorem infog_why:(Aj.info? 39).map (λi=>(i.zero,i.size,i.bytes))=Ab (Ab (.slice Ae 0 0),1,24):=by kernel_rfl
set_option maxHeartbeats 1000000 in
set_option maxRecDepth 100000 in
theorem grow_why(n:Nat)(hn:n<=1000000):Pure Aj 255 [.val (.slice Ae 0 0), .val (.int .i64 n)] [⟨[],39,1,Ac,Ad, .plain⟩] (.osl 0 0 0 0 Ac):=by
 refine zEz λI w vs hr=>?_;rw[zFl [.slice Ae 0 0, .int .i64 n] vs hr];obtain⟨i0,hi,hz0,hz1,hz2⟩:=info_parts infog_why;by_cases h0:n=0
 ·subst h0;go_enter Tryz.func255,Tryz.ntmps255;go_wp2;go_ret;exact .inl ⟨rfl,Bm _⟩
 have hrz:∀ty,(Builtin.append_ #[81,3] ty #[.slice Ae 0 0, .int .i64 (n:Int)]).run Aj w= .ok (.slice (Ab ⟨w.heap.size,0,Ae⟩) n (grownCap w n 0 39)) (w.drew.alloc (.cells (Builtin.zeroCells (AH (.slice Ae 0 0)) n++Builtin.zeroCells (AH (.slice Ae 0 0)) (grownCap w n 0 39-n)) 39)):=λty=>
  Lib.run_append_nil_zeros w 81 3 ty 39 i0 (.slice Ae 0 0) .i64 .i64 Tryz.underlying81 Tryz.underlying3 hi hz0 n (by omega) (by rw[hz1];decide) (by omega) (by rw[hz2];omega)
 have hGn:n<=grownCap w n 0 39:=grownCap_ge w _ _ _;obtain⟨G,hG⟩:∃G,G=grownCap w n 0 39:=⟨_,rfl⟩;rw[<-hG]at hrz hGn;have hG63:G<=maxLen:=by
  have:=grownCap_le_maxLen w n 0 39 (by unfold maxLen;omega)
  rw[<-hG]at this;exact this
 have h1:¬((n:Int)<0):=by omega
 have h4:(n:Int)>0:=by omega
 have hG':G<=9223372036854775807:=by unfold maxLen at hG63;omega
 clear hG;go_enter Tryz.func255,Tryz.ntmps255;go_wp2_with (at_builtin;refine Cl _ rfl _ _ _ _ rfl _ _ rfl rfl _ _ (hrz _) ?_);all_goals
  go_ret;refine .inr ⟨w.heap.size,(Builtin.zeroCells (AH (.slice Ae 0 0)) n++Builtin.zeroCells (AH (.slice Ae 0 0)) (G-n)).toList,G,rfl,Al _,(Ext.alloc _ _).trans (Ext.drew _),?_,?_,hG63⟩
  ·show(w.heap.push (Obj.cells (Builtin.zeroCells (AH (.slice Ae 0 0)) n++Builtin.zeroCells (AH (.slice Ae 0 0)) (G-n)) 39 (0,0)))[w.heap.size]?=_;rw[Cx,BB]
  simp only[Array.length_toList,Array.size_append,size_zeroCells];rw[show(AH (.slice Ae 0 0)).size=1 from rfl];omega
theorem scmp_c(a b:List UInt8):Pure Aj 175 [strD a,strD b] [] (iD (AK a b)):=
 zC6 (us:=[.string (bs a), .string (bs b)]) λw=>(Tryz.strings_Compare (bs a) (bs b) w).mono λe w' h=>⟨h.1,h.2.symm⟩
theorem zHq{f g:D->Option (D×List Nat)}:∀{l:List D}{y:List D×List Nat},(∀d x,f d=Ab x->g d=Ab x)->mapF f l=Ab y->mapF g l=Ab y
 |[],y,h,hy=>by simpa[mapF]using hy
 | d::l,y,h,hy=>by
  unfold mapF at hy⊢;split at hy
  ·cases hy
  rename_i a ks e;rw[h d _ e];simp only at hy⊢;split at hy
  ·cases hy
  rename_i al ls e2;rw[zHq h e2];exact hy
theorem zZi{kn:Bool}{st:List Bk}:∀(n:Nat)(d:D)(x:D×List Nat),frz kn [] n d=Ab x->frz kn st n d=Ab x
 |0,d,x,h=>h
 | n+1,d,x,h=>by
  have ih:=zZi (kn:=kn) (st:=st) n;cases d with
  |unk=>exact h
  |val v=>exact h
  |row cs m=>exact h
  |ptr cs=>exact h
  |mfz ks cs=>exact h
  |fx d=>exact h
  |osr k off l m wh cs=>exact h
  |own k off=>simp[frz]at h
  |osl k off l m wh=>simp[frz]at h
  |mref k=>simp[frz]at h
  |agg cs=>
   simp only[frz]at h⊢;cases e:mapF (frz kn [] n) cs with
   |none=>rw[e]at h;cases h
   |some y=>rw[zHq ih e];rw[e]at h;exact h
  |tup cs=>
   simp only[frz]at h⊢;cases e:mapF (frz kn [] n) cs with
   |none=>rw[e]at h;cases h
   |some y=>rw[zHq ih e];rw[e]at h;exact h
  |ifc t d=>
   simp only[frz]at h⊢;cases e:frz kn [] n d with
   |none=>rw[e]at h;cases h
   |some y=>rw[ih d _ e];rw[e]at h;exact h
  | clo f a b=>
   simp only[frz]at h⊢;cases e:mapF (frz kn [] n) a with
   |none=>rw[e]at h;cases h
   |some y=>
    rw[zHq ih e];rw[e]at h;simp only at h⊢;cases e2:mapF (frz kn [] n) b with
    |none=>rw[e2]at h;cases h
    |some z=>rw[zHq ih e2];rw[e2]at h;exact h
theorem zMr{st:List Bk}:∀(l:List (Nat×D))(x:List (Nat×D)×List Nat),zEj [] l=Ab x->zEj st l=Ab x
 |[],x,h=>h
 | (i,d)::r,x,h=>by
  unfold zEj at h⊢;split at h
  ·cases h
  rename_i a ks e;rw[zZi _ _ _ e];simp only at h⊢;split at h
  ·cases h
  rename_i al ls e2;rw[zMr r _ e2];exact h
section
variable{P:Program}{T:Par}{ops:Array Oper}{dr:Bool}{l:List Oper}{sl:List D}{st:List Bk}{K:List D->List Bk->Prop}
def isNewO(o:Op):Bool:=match o with
 | .alloc _| .box ..| .buildSlice ..| .makeSlice ..=>Ac
 |_=>Ad
def newEff:Eff->Option (Prop×Bk×D)
 | .new p b (.own 0 0) []=>Ab (p,b, .own 0 0)
 | .new p b (.osl 0 o n m w) []=>Ab (p,b, .osl 0 o n m w)
 |_=>Ae
theorem aeff_new{o:Op}{b:Bk}(ho:isNewO o=Ac)(h:newEff (aeff P T o t ρ [])=Ab (p,b,d)):aeff P T o t ρ st= .new p b (zBc st.length d) []:=by
 have key:∀{E:Eff},newEff E=Ab (p,b,d)->E= .new p b d []:=λ{E} h=>by
  unfold newEff at h;split at h<;>cases h<;>rfl
 have h1:=key h;cases o with
 |alloc e=>
  simp only[aeff]at h1⊢;split at h1
  ·cases h1;simp only[zBc,AZ,Ba]
  cases h1
 | box e x=>
  simp only[aeff]at h1⊢;split at h1
  ·rename_i hv;cases h1;rw[if_pos hv];simp only[zBc,AZ,Ba]
  cases h1
 | makeSlice t l c=>
  simp only[aeff,zEu]at h1⊢;split at h1
  ·split at h1
   ·cases h1;simp only[zBc,AZ,Ba]
   cases h1
  cases h1
 | buildSlice t len parts=>
  simp only[aeff]at h1⊢;split at h1
  ·rename_i hv;rw[if_pos hv];simp only[zDd]at h1⊢;split at h1
   ·split at h1
    ·split at h1
     ·cases h1;simp only[zBc,AZ,Ba]
     cases h1
    cases h1
   cases h1
  rename_i hv;rw[if_neg hv];simp only[zC9]at h1⊢;split at h1
  ·split at h1
   ·rename_i hfp;rw[zMr _ _ hfp];split at h1
    ·cases h1;simp only[zBc,AZ,Ba, *]
    cases h1
   cases h1
  cases h1
 |_=>simp[isNewO]at ho
def newL(P:Program)(T:Par)(l:List Oper)(sl:List D):Option (Prop×Bk×D):=match l with
 |[]=>Ae
 |o::_=>match o.guard with
  |some _=>Ae
  |none=>if isNewO o.op then newEff (aeff P T o.op o.type (evD sl) [])else Ae
theorem zBm(N:Nat)(p:Prop)(b:Bk)(d:D)(hN:st.length=N)(next:seqW P T ops dr l.tail (putD sl (hdst l) (zBc N d)) (st++[b]) K)(h:newL P T l sl=Ab (p,b,d):=by kernel_rfl)(hp:p:=by exact trivial):seqW P T ops dr l sl st K:=by
 unfold newL at h;split at h
 ·cases h
 rename_i o r;split at h
 ·cases h
 rename_i hg;split at h
 ·rename_i ho;have he:=aeff_new (st:=st) ho h;subst hN;refine zBz hg<|go_new he ?_ hp rfl rfl next;cases hoo:o.op<;>rw[hoo]at ho<;>simp[isNewO]at ho<;>rfl
 cases h
theorem st_puta(e:Bk)(k:Nat)(p:Prop)(b:Bk)(h:putA P l sl e=Ab (k,p,b))(hk:st[k]?=Ab e)(hp:p)(next:seqW P T ops dr l.tail (putD sl (hdst l) .unk) (st.set k b) K):seqW P T ops dr l sl st K:=by
 unfold putA at h;split at h
 ·cases h
 rename_i o r;split at h
 ·cases h
 rename_i hg;split at h
 ·rename_i t a x ho;split at h
  ·rename_i k1 off sz ha hs;split at h
   ·cases h
   rename_i hm;split at h
   ·rename_i hn;split at h
    ·rename_i d hf;cases h;have he:aeff P T o.op o.type (evD sl) st= .put (e.fz=Ad/\zGd d=Ac/\(cellsOf d).length=sz/\off+sz<=e.cells.length/\k∉([]:List Nat)) k {e with cells:=setAt e.cells off (cellsOf d)} []:=by
      rw[ho];simp only[aeff,ha,hs,hk];grind [zZi]
     refine zBz hg<|zW8 he (by rw[ho];rfl) ⟨hp.1,hp.2.1,hp.2.2.1,hp.2.2.2,by simp⟩ rfl rfl ?_;exact next
    cases h
   cases h
  cases h
 cases h
theorem zFg{ops:Array Oper}{c:List (Nat×Nat)}{l:List Oper}(hn:n<=st.length)(h:zGz P T ops c sl st)(k:seqW P T ops Ac l sl st K):lateN P T ops c n sl st/\seqW P T ops Ac l sl st K:=⟨⟨hn,h⟩,k⟩
theorem zE5{ops:Array Oper}(q n:Nat)(e:Bk)(k:Nat)(p:Prop)(d:D)(h:ldL P [ops.getD q Ai] sl e=Ab (k,p,d))(hk:(st.take n)[k]?=Ab e)(hp:p)(hd:((ops.getD q Ai).dst).map (λx=>sl[x]?)=Ab (Ab d)):zGz P T ops [(q,n)] sl st:=λx hx=>by
 rw[B9.1 hx];simp only;generalize ops.getD q Ai=o at*;unfold ldL at h;simp only at h;split at h
 ·cases h
 rename_i hg;split at h
 ·rename_i t a ho;split at h
  ·rename_i k1 off ha;split at h
   ·cases h
   rename_i hm;split at h
   ·rename_i p1 d1 hl;cases h;have he:aeff P T o.op o.type (evD sl) (st.take n)= .get p d:=by
     rw[ho];simp only[aeff,ha,hk,hm];exact isGet_ok hl
    unfold zHa gv;simp only[hg,he];refine⟨by rw[ho];rfl,hp,λx hx=>?_⟩;rw[hx]at hd;simpa using hd
   cases h
  cases h
 cases h
mutual
/-- the own blocks that data names -/
def ownN:D->List Nat
 | .own j _=>[j]
 | .osl j _ _ _ _=>[j]
 | .osr j _ _ _ _ _=>[j]
 | .mref j=>[j]
 | .agg cs=>ownL cs
 | .tup cs=>ownL cs
 | .clo _ x y=>ownL x++ownL y
 | .ifc _ d=>ownN d
 |_=>[]
def ownL:List D->List Nat
 |[]=>[]
 |d::ds=>ownN d++ownL ds
end
mutual
theorem zKp{k:Nat}:∀d:D,(∀j∈ownN d,j≠k)->refs k d=Ad
 | .own j o,h=>by simp only[refs,beq_eq_false_iff_ne];exact h j (by simp[ownN])
 | .osl j _ _ _ _,h=>by simp only[refs,beq_eq_false_iff_ne];exact h j (by simp[ownN])
 | .osr j _ _ _ _ _,h=>by simp only[refs,beq_eq_false_iff_ne];exact h j (by simp[ownN])
 | .mref j,h=>by simp only[refs,beq_eq_false_iff_ne];exact h j (by simp[ownN])
 | .agg cs,h=>by simp only[refs];exact zDj cs λj hj=>h j (by simpa[ownN]using hj)
 | .tup cs,h=>by simp only[refs];exact zDj cs λj hj=>h j (by simpa[ownN]using hj)
 | .clo _ x y,h=>by
  simp only[refs,zDj x λj hj=>h j (by simp[ownN,hj]),zDj y λj hj=>h j (by simp[ownN,hj]),A3]
 | .ifc _ d,h=>by simp only[refs];exact zKp d λj hj=>h j (by simpa[ownN]using hj)
 | .unk,_| .val _,_| .row _ _,_| .ptr _,_| .mfz _ _,_| .fx _,_=>by simp only[refs]
theorem zDj{k:Nat}:∀ds:List D,(∀j∈ownL ds,j≠k)->zAt k ds=Ad
 |[],_=>by simp only[zAt]
 |d::ds,h=>by
  simp only[zAt,zKp d λj hj=>h j (by simp[ownL,hj]),zDj ds λj hj=>h j (by simp[ownL,hj]),A3]
end
def nes(k:Nat):List Nat->Prop
 |[]=>True
 |j::l=>j≠k/\nes k l
theorem nes_mem{k:Nat}:∀{l:List Nat},nes k l->∀j∈l,j≠k
 |[],_,j,hj=>by simp at hj
 |i::l,h,j,hj=>by
  rcases AG.1 hj with rfl|hj
  ·exact h.1
  exact nes_mem h.2 j hj
theorem zTn{k:Nat}:∀{sl:List D},nes k (ownL sl)->sl.map (zAq k)=sl
 |[],_=>rfl
 | d::sl,h=>by
  have hm:=nes_mem h;have h1:refs k d=false:=zKp d λj hj=>hm j (by simp[ownL,hj]);have h2:nes k (ownL sl):=by
   have key:∀(a b:List Nat),nes k (a++b)->nes k b:=by
    intro a;induction a with
    |nil=>exact λb h=>h
    |cons x a ih=>exact λb h=>ih b h.2
   exact key _ _ h
  rw[AO,zTn h2];unfold zAq;rw[h1];rfl
theorem zV3{l:List α}{a:α}(h:l[i]?=Ab a):l.set i a=l:=by
 apply Bs;grind
def outs(ch:List Nat):List Nat->Prop
 |[]=>True
 |j::l=>j∉ch/\outs ch l
theorem outs_mem{ch:List Nat}:∀{l:List Nat},outs ch l->∀j∈l,j∉ch
 |[],_,j,hj=>by simp at hj
 |i::l,h,j,hj=>by
  rcases AG.1 hj with rfl|hj
  ·exact h.1
  exact outs_mem h.2 j hj
theorem ownL_mem{d:D}:∀{sl:List D},d∈sl->∀j∈ownN d,j∈ownL sl
 |[],h,j,hj=>by simp at h
 |e::sl,h,j,hj=>by
  rcases AG.1 h with rfl|h
  ·simp[ownL,hj]
  simp[ownL,ownL_mem h j hj]
theorem zSo(gs:List (Nat×Bool))(cs:List Prop)(args:List D)(args':List D)(C:Prop)(h:actL P T ops dr l gs sl st=Ab (cs,f,args))(hc:Alls cs)(ha:LeL args args')(hp:Acts P f args' st ch x st')(hC:outs ch (ownL sl)=C)(hk:∀k∈ch,T.keep k=Ad)(hc2:C)(k:seqW P T ops dr l.tail (putD sl (hdst l) x) st' K):seqW P T ops dr l sl st K:=by
 subst hC;exact st_actc gs cs args args' h hc ha hp hk (λd hd k hk=>zKp d λj hj e=>outs_mem hc2 j (ownL_mem hd j hj) (e▸hk)) k
def appL (P:Program)(T:Par)(l:List Oper)(sl:List D)(b e:Bk):Option (Nat×Nat×Nat×Prop×Bk×D):=match l with
 |[]=>Ae
 | o :: _ =>match o.guard with
  |some _=>Ae
  | none =>match o.op with
   | .call c=>match c.callee with
    | .builtin .append=>match c.argTypes.toList,c.args.toList with
     | [t,u],[.tmp s1,x]=>match P.underlying t,P.underlying u with
      | some (.slice et),Ab (.slice et')=>match P.info? et,zJ9 P et,evD sl (.tmp s1),evD sl x with
       | some i,Ab z, .osl k 0 n mm Ac, .osl j off m1 m2 _=>if e.kd.isMap then Ae else if e.nob||zCq P T t then
         Ab (s1,k,j,(b.arr=Ac/\b.cells.length=n*i.size/\mm=n*i.size/\b.ty=et/\b.sz=i.size/\((e.cells.drop off).take m2).length=m1*i.size/\0<i.size/\0<i.bytes/\et=et'/\(n+m1)*i.bytes<=140737488355328/\z.length=i.size/\b.kd.isMap=Ad/\(zCq P T t=Ad\/b.kd.isSh=Ac)),
          {b with cells:=if b.nob then b.cells++(e.cells.drop off).take m2 else(b.cells++(e.cells.drop off).take m2).map (zAq k)}, .osl k 0 (n+m1) ((n+m1)*i.size) Ac)
        else Ae
       |_,_,_,_=>Ae
      |_,_=>Ae
     |_,_=>Ae
    |_=>Ae
   |_=>Ae
theorem zSn (b e:Bk)(s1 k j:Nat)(p C:Prop)(b':Bk)(d':D)(h:appL P T l sl b e=Ab (s1,k,j,p,b',d'))(hk:st[k]?=Ab b)(hj:st[j]?=Ab e)(hp:p)(hC:nes k (ownL (sl.set s1 .unk))=C)(hc:C)(hkp:T.keep k=Ad)
  (next:seqW P T ops dr l.tail (putD (sl.set s1 .unk) (hdst l) d') ((st.map (zAu k)).set k b') K):seqW P T ops dr l sl st K:=by
 unfold appL at h;split at h
 ·cases h
 rename_i o r;split at h
 ·cases h
 rename_i hg;split at h
 ·rename_i c ho;split at h
  ·rename_i hcl;split at h
   ·rename_i t u s1' x hat har;split at h
    ·rename_i et et' ht hu;split at h
     ·rename_i i z k1 n mm j1 off m1 m2 wh hi hz hs hx;split at h
      ·cases h
      rename_i hm;split at h
      ·rename_i hn;simp only[AN.injEq,Au.injEq]at h;obtain⟨rfl,rfl,rfl,rfl,rfl,rfl⟩:=h;have hmf:(!e.kd.isMap)=true:=by simpa using hm
       have he:aeff P T o.op o.type (evD sl) st= .app (b.arr=Ac/\b.cells.length=n*i.size/\mm=n*i.size/\b.ty=et/\b.sz=i.size/\((e.cells.drop off).take m2).length=m1*i.size/\0<i.size/\0<i.bytes/\et=et'/\(n+m1)*i.bytes<=140737488355328/\z.length=i.size/\b.kd.isMap=Ad/\(zCq P T t=Ad\/b.kd.isSh=Ac))
         k1 {b with cells:=if b.nob then b.cells++(e.cells.drop off).take m2 else(b.cells++(e.cells.drop off).take m2).map (zAq k1)} (.osl k1 0 (n+m1) ((n+m1)*i.size) Ac):=by
        rw[ho];simp only[aeff,hcl,hat,har,zFy,ht,hu,hi,hz,hs,hx,unB,zEg,hj,hmf,if_true,hn,aApp,hk]
       refine zBz hg<|go_app he ?_ hkp hp rfl rfl ?_
       ·rw[ho];obtain⟨cc,ca,ct⟩:=c;simp only at hcl;subst hcl;rfl
       have hkl:sl.map (zAq k1)=sl.set s1' .unk:=by
        have h2:=zTn (by rw[hC];exact hc:nes k1 (ownL (sl.set s1' .unk)));rw[List.map_set]at h2;rw[show zAq k1 .unk= .unk from rfl]at h2;rw[<-h2];symm;refine zV3 ?_;have hl:s1'<sl.length:=by
         rcases Bq s1' sl.length with hl|hl
         ·exact hl
         simp only[evD,AT,Bx hl]at hs;cases hs
        simp only[evD,AT,AF hl,BV]at hs;rw[BU,AF hl,Bw,hs];unfold zAq;simp only[refs,beq_self_eq_true,if_true]
       rw[hkl];exact next
      cases h
     cases h
    cases h
   cases h
  cases h
 cases h
end
section
variable{P:Program}{T:Par}
abbrev Uk:D:= .unk
abbrev i6(z:Int):Prop:=-9223372036854775808<=z/\z<=9223372036854775807
abbrev u6(z:Int):Prop:=0<=z/\z<=18446744073709551615
abbrev u3(z:Int):Prop:=0<=z/\z<=4294967295
abbrev ix(i n:Int)(R:Prop):Prop:=0<=i/\i<n/\R
abbrev Fs:=List D×List Bk
def rP(P:Program)(T:Par)(ops:Array Oper)(raws:List Nat)(l:List Oper)(gs:List (Nat×Bool))(p:Fs):Fs:=match runL P T ops raws l gs p.1 p.2 with
 |some x=>x.2
 |none=>p
def setP(p:Fs)(i:Nat)(d:D):Fs:=(p.1.set i d,p.2)
def setQ(p:Fs)(i:Nat)(b:Bk):Fs:=(p.1,p.2.set i b)
variable{n:Bk}
section
variable{ops:Array Oper}{dr:Bool}{l:List Oper}{p:Fs}{K:List D->List Bk->Prop}
theorem v0s(k:seqW P T ops dr l (sl,st).1 (sl,st).2 K):seqW P T ops dr l sl st K:=k
theorem vw(n:Nat)(raws:List Nat)(gs:List (Nat×Bool))(C:Prop)(k:seqW P T ops dr (l.drop n) (rP P T ops raws (l.take n) gs p).1 (rP P T ops raws (l.take n) gs p).2 K)
  (hc:C:=by first|exact True.intro|omega|(repeat' first|exact True.intro|omega|apply And.intro|assumption|decide|(simp;done)|(simp;omega)|kernel_rfl))
  (h:(runL P T ops raws (l.take n) gs p.1 p.2).map (λx=>Alls x.1)=Ab C:=by kernel_rfl):seqW P T ops dr l p.1 p.2 K:=by
 rw[Ax]at h;obtain⟨⟨c,s1,s2⟩,h1,rfl⟩:=h;simp only[rP,h1]at k;grind [zCz,BM]
theorem vr(n:Nat)(C:Prop)(k:seqW P T ops dr (l.drop n) (rP P T ops [] (l.take n) [] p).1 (rP P T ops [] (l.take n) [] p).2 K)
  (hc:C:=by first|exact True.intro|omega|(repeat' first|exact True.intro|omega|apply And.intro|assumption|decide|(simp;done)|(simp;omega)|kernel_rfl))
  (h:(runL P T ops [] (l.take n) [] p.1 p.2).map (λx=>Alls x.1)=Ab C:=by kernel_rfl):seqW P T ops dr l p.1 p.2 K:=vw n [] [] C k hc h
theorem vrT(n:Nat)(k:seqW P T ops dr (l.drop n) (rP P T ops [] (l.take n) [] p).1 (rP P T ops [] (l.take n) [] p).2 K)
  (h:(runL P T ops [] (l.take n) [] p.1 p.2).map (λx=>Alls x.1)=Ab True:=by kernel_rfl):seqW P T ops dr l p.1 p.2 K:=vw n [] [] True k trivial h
theorem vwh(n:Nat)(raws:List Nat)(gs:List (Nat×Bool))(C:Prop)(hc:C)(k:seqW P T ops dr (l.drop n) (rP P T ops raws (l.take n) gs p).1 (rP P T ops raws (l.take n) gs p).2 K)(h:(runL P T ops raws (l.take n) gs p.1 p.2).map (λx=>Alls x.1)=Ab C:=by kernel_rfl):seqW P T ops dr l p.1 p.2 K:=vw n raws gs C k hc h
theorem vew(raws:List Nat)(gs:List (Nat×Bool))(C:Prop)(k:awp P T b Q (rP P T ops raws l gs p).1 (rP P T ops raws l gs p).2)
  (hc:C:=by first|exact True.intro|omega|(repeat' first|exact True.intro|omega|apply And.intro|assumption|decide|(simp;done)|(simp;omega)|kernel_rfl))
  (h:(runL P T ops raws l gs p.1 p.2).map (λx=>Alls x.1)=Ab C:=by kernel_rfl):seqW P T ops dr l p.1 p.2 (zY (zZ P T b Q) Q' .normal):=by
 rw[Ax]at h;obtain⟨⟨c,s1,s2⟩,h1,rfl⟩:=h;simp only[rP,h1]at k
 have:=zCz (P:=P) (T:=T) (dr:=dr) (K:=zY (zZ P T b Q) Q' .normal) l [] gs p.1 p.2 c s1 s2 h1 hc ?_
 ·grind
 exact⟨_,_,Weak.refl _ _,k⟩
theorem vewh(raws:List Nat)(gs:List (Nat×Bool))(C:Prop)(hc:C)(k:awp P T b Q (rP P T ops raws l gs p).1 (rP P T ops raws l gs p).2)(h:(runL P T ops raws l gs p.1 p.2).map (λx=>Alls x.1)=Ab C:=by kernel_rfl):seqW P T ops dr l p.1 p.2 (zY (zZ P T b Q) Q' .normal):=vew raws gs C k hc h
theorem ve(C:Prop)(k:awp P T b Q (rP P T ops [] l [] p).1 (rP P T ops [] l [] p).2)
  (hc:C:=by first|exact True.intro|omega|(repeat' first|exact True.intro|omega|apply And.intro|assumption|decide|(simp;done)|(simp;omega)|kernel_rfl))
  (h:(runL P T ops [] l [] p.1 p.2).map (λx=>Alls x.1)=Ab C:=by kernel_rfl):seqW P T ops dr l p.1 p.2 (zY (zZ P T b Q) Q' .normal):=vew [] [] C k hc h
theorem veT(k:awp P T b Q (rP P T ops [] l [] p).1 (rP P T ops [] l [] p).2)
  (h:(runL P T ops [] l [] p.1 p.2).map (λx=>Alls x.1)=Ab True:=by kernel_rfl):seqW P T ops dr l p.1 p.2 (zY (zZ P T b Q) Q' .normal):=vew [] [] True k trivial h
def isC3(d:D):Bool:=zHt d||zGd d||(match d with
 | .tup _=>Ac
 |_=>Ad)
theorem vsh(i:Nat){d0:D}(hd:d0=d)(k:seqW P T ops dr l (setP p i d).1 (setP p i d).2 K)(h:p.1.getD i .unk=d0:=by kernel_rfl)(hu:isC3 d=true:=by kernel_rfl):seqW P T ops dr l p.1 p.2 K:=by
 subst hd;simp only[setP]at k;rwa[zH5 h (by intro e;subst e;simp[isC3,zHt,zGd]at hu)]at k
theorem vs(i:Nat)(d0 d:D)(k:seqW P T ops dr l (setP p i d).1 (setP p i d).2 K)(hd:d0=d:=by simp(disch:=omega) only[*,_root_.Int.toNat_natCast,_root_.Nat.mul_one,_root_.Nat.zero_add,_root_.List.drop_zero,_root_.Nat.sub_zero,_root_.List.cons_append,_root_.List.nil_append,cellsOf,setAt,_root_.List.headD_cons,_root_.Bool.not_true,_root_.List.length_map])(h:p.1.getD i .unk=d0:=by kernel_rfl)(hu:isC3 d=true:=by kernel_rfl):seqW P T ops dr l p.1 p.2 K:=vsh i hd k h hu
theorem vp(i n:Nat)(X:List D)(k:seqW P T ops dr l (setP p i (.ptr (X.drop n))).1 (setP p i (.ptr (X.drop n))).2 K)(h:p.1.getD i .unk= .ptr (X.drop (n*1)):=by kernel_rfl):seqW P T ops dr l p.1 p.2 K:=vsh i (by rw[B3]) k h (by rfl)
theorem vo(i b n:Nat)(k:seqW P T ops dr l (setP p i (.own b n)).1 (setP p i (.own b n)).2 K)(h:p.1.getD i .unk= .own b (0+n*1):=by kernel_rfl):seqW P T ops dr l p.1 p.2 K:=vsh i (by rw[B3,Nat.zero_add]) k h (by rfl)
theorem vo0(i b n:Nat)(k:seqW P T ops dr l (setP p i (.own b n)).1 (setP p i (.own b n)).2 K)(h:p.1.getD i .unk= .own b (0+n):=by kernel_rfl):seqW P T ops dr l p.1 p.2 K:=vsh i (by rw[Nat.zero_add]) k h (by rfl)
theorem vb(i:Nat)(b0 b:Bk)(k:seqW P T ops dr l (setQ p i b).1 (setQ p i b).2 K)(hd:b0=b:=by simp(disch:=omega) only[*,_root_.Int.toNat_natCast,_root_.Nat.mul_one,_root_.Nat.zero_add,_root_.List.drop_zero,_root_.Nat.sub_zero,_root_.List.cons_append,_root_.List.nil_append,cellsOf,setAt,_root_.List.headD_cons,_root_.Bool.not_true,_root_.List.length_map])(h:p.2[i]?=Ab b0:=by kernel_rfl):seqW P T ops dr l p.1 p.2 K:=st_blk i b0 b h hd k
def cSt(P:Program)(T:Par)(ops:Array Oper)(l:List Oper)(p:Fs):List Bk:=match zMa P T ops l [] p.1 p.2 with
 |some x=>x.2.2.2
 |none=>p.2
def cP(P:Program)(T:Par)(ops:Array Oper)(l:List Oper)(x:D)(p:Fs):Fs:=(putD p.1 (hdst l) x,cSt P T ops l p)
def nP(P:Program)(T:Par)(ops:Array Oper)(l:List Oper)(x:D)(bs:List Bk)(p:Fs):Fs:=(putD p.1 (hdst l) (zBc p.2.length x),cSt P T ops l p++bs)
theorem vc(hp:Pure P f args [] x)(k:seqW P T ops dr l.tail (cP P T ops l x p).1 (cP P T ops l x p).2 K)(h:(zMa P T ops l [] p.1 p.2).map (λx=>(x.1,x.2.1,x.2.2.1))=Ab ([],f,args):=by kernel_rfl):seqW P T ops dr l p.1 p.2 K:=by
 rw[Ax]at h;obtain⟨⟨c,g,a,s⟩,h1,h2⟩:=h;simp only[Au.injEq]at h2;obtain⟨rfl,rfl,rfl⟩:=h2;simp only[cP,cSt,h1]at k;exact zSm [] [] a s a h1 trivial (LeL.refl _) hp k
theorem vca(args:List D)(hp:Pure P f args [] x)(k:seqW P T ops dr l.tail (cP P T ops l x p).1 (cP P T ops l x p).2 K)(h:(zMa P T ops l [] p.1 p.2).map (λx=>(x.1,x.2.1,x.2.2.1))=Ab ([],f,args):=by kernel_rfl):seqW P T ops dr l p.1 p.2 K:=vc hp k h
theorem vcl(args:List D)(args':List D)(ha:LeL args args')(hp:Pure P f args' [] x)(k:seqW P T ops dr l.tail (cP P T ops l x p).1 (cP P T ops l x p).2 K)(h:(zMa P T ops l [] p.1 p.2).map (λx=>(x.1,x.2.1,x.2.2.1))=Ab ([],f,args):=by kernel_rfl):seqW P T ops dr l p.1 p.2 K:=vc (hp.le ha) k h
theorem vnl(args:List D)(args':List D)(ha:LeL args args')(hp:Pure P f args' (n::news) x)(k:seqW P T ops dr l.tail (nP P T ops l x (n::news) p).1 (nP P T ops l x (n::news) p).2 K)(h:(zMa P T ops l [] p.1 p.2).map (λx=>(x.1,x.2.1,x.2.2.1))=Ab ([],f,args):=by kernel_rfl):seqW P T ops dr l p.1 p.2 K:=by
 rw[Ax]at h;obtain⟨⟨c,g,a,s⟩,h1,h2⟩:=h;simp only[Au.injEq]at h2;obtain⟨rfl,rfl,rfl⟩:=h2;simp only[nP,cSt,h1]at k;exact st_callN [] [] a s args' h1 trivial ha hp k
theorem vn(hp:Pure P f args (n::news) x)(k:seqW P T ops dr l.tail (nP P T ops l x (n::news) p).1 (nP P T ops l x (n::news) p).2 K)(h:(zMa P T ops l [] p.1 p.2).map (λx=>(x.1,x.2.1,x.2.2.1))=Ab ([],f,args):=by kernel_rfl):seqW P T ops dr l p.1 p.2 K:=vnl args args (LeL.refl _) hp k h
theorem vnil(k:K sl st)(e:l=[]:=by kernel_rfl):seqW P T ops dr l sl st K:=zAn k e
theorem vsp(t:Nat)(b:Bool)(k1:b=Ac->seqW P T ops dr l (setP p t (.val (.bool Ac))).1 (setP p t (.val (.bool Ac))).2 K)(k2:b=Ad->seqW P T ops dr l (setP p t (.val (.bool Ad))).1 (setP p t (.val (.bool Ad))).2 K)(h:guardL ops l p.1=Ab (t,b):=by kernel_rfl):seqW P T ops dr l p.1 p.2 K:=st_split t b h k1 k2
theorem vspD(t:Nat)(q:Prop)[Decidable q](k1:q->seqW P T ops dr l (setP p t (.val (.bool Ac))).1 (setP p t (.val (.bool Ac))).2 K)(k2:¬q->seqW P T ops dr l (setP p t (.val (.bool Ad))).1 (setP p t (.val (.bool Ad))).2 K)(h:guardL ops l p.1=Ab (t,decide q):=by kernel_rfl):seqW P T ops dr l p.1 p.2 K:=vsp t (decide q) (λe=>k1 (of_decide_eq_true e)) (λe=>k2 (of_decide_eq_false e)) h
end
section
variable{Q:Exit->List D->List Bk->Prop}{sl:List D}{st:List Bk}
theorem v0{c:Code}(k:awp P T c Q (sl,st).1 (sl,st).2):awp P T c Q sl st:=k
theorem vA(k:seqW P T ops Ad ops.toList sl st (zY (zZ P T b Q) Q .normal)):awp P T (.seq (.region i ops Ad) b) Q sl st:=zA (zB rfl k)
theorem vAs(k:seqW P T ops Ad ops.toList (sl,st).1 (sl,st).2 (zY (zZ P T b Q) Q .normal)):awp P T (.seq (.region i ops Ad) b) Q sl st:=zA (zB rfl k)
theorem vAu(k:awp P T b Q (rP P T ops [] ops.toList [] (sl,st)).1 (rP P T ops [] ops.toList [] (sl,st)).2)(h:(runL P T ops [] ops.toList [] (sl,st).1 (sl,st).2).map (λx=>Alls x.1)=Ab True:=by kernel_rfl):awp P T (.seq (.region i ops Ad) b) Q sl st:=zA (zB rfl (v0s (veT k h)))
theorem vAe{p:Fs}(k:awp P T b Q (rP P T ops [] ops.toList [] p).1 (rP P T ops [] ops.toList [] p).2)(h:(runL P T ops [] ops.toList [] p.1 p.2).map (λx=>Alls x.1)=Ab True:=by kernel_rfl):awp P T (.seq (.region i ops Ad) b) Q p.1 p.2:=zA (zB rfl (veT k h))
theorem vN(h:awp P T b Q sl st):zY (zZ P T b Q) Q' .normal sl st:=zC (zK h)
theorem vK(h:awp P T b Q sl st):awp P T .skip (zY (zZ P T b Q) Q') sl st:=zL (zC (zK h))
theorem vB{a:Code}(h:awp P T a (zR i (zY (zZ P T b Q) Q)) sl st):awp P T (.seq (.block i a) b) Q sl st:=zA (zF h)
theorem vY(h:Q .normal sl st):awp P T (.exit i) (zY K (zR i Q)) sl st:=zAx (zP (zAm rfl h))
theorem vY2{K':List D->List Bk->Prop}(h:Q .normal sl st):awp P T (.exit i) (zY K' (zY K (zR i Q))) sl st:=zAx (zP (zP (zAm rfl h)))
theorem vZ(h:awp P T b Q sl st):awp P T (.exit i) (zY K (zR i (zY (zZ P T b Q) Q'))) sl st:=vY (vN h)
theorem vZ2{K':List D->List Bk->Prop}(h:awp P T b Q sl st):awp P T (.exit i) (zY K' (zY K (zR i (zY (zZ P T b Q) Q')))) sl st:=vY2 (vN h)
theorem vKB{a:Code}(h:awp P T a (zR i (zY (zZ P T b Q) Q)) sl st):awp P T .skip (zY (zZ P T (.seq (.block i a) b) Q) Q') sl st:=vK (vB h)
theorem vd(ord:List Nat)(h:seqW P T ops Ac l sl st (Q .normal))(hr:regOk T ops ord=true:=by kernel_rfl)(hl:(ord.map λi=>ops.getD i Ai)=l:=by rfl):awp P T (.region i ops Ac) Q sl st:=awp_drawn ord hr hl h
theorem vcD{x:Code}(q:Prop)[Decidable q](h:q->awp P T x Q sl st)(h':¬q->awp P T y Q sl st)(hc:evD sl c= .val (.bool (decide q)):=by kernel_rfl):awp P T (.cond c x y) Q sl st:=zAk hc (λe=>h (of_decide_eq_true e)) (λe=>h' (of_decide_eq_false e))
def keepL:Nat->List D->List Nat->List D
 |_,[],_=>[]
 |i,d::ds,ks=>(if ks.contains i then d else .unk)::keepL (i+1) ds ks
theorem keep_le:∀(i:Nat)(ds:List D)(ks:List Nat),LeL ds (keepL i ds ks)
 |_,[],_=> .nil
 |i,d::ds,ks=> .cons (by split;exact .refl _;exact .unk _) (keep_le (i+1) ds ks)
theorem vkp(ks:List Nat)(h:keepL 0 sl ks=sl':=by kernel_rfl):Weak T sl st sl' st:=by
 subst h;exact Weak.slots (keep_le 0 _ ks)
theorem vT{x:Code}(p:Prop)[Decidable p](h:awp P T x Q sl st)(ht:p:=by first|omega|assumption)(hc:evD sl c= .val (.bool (decide p)):=by kernel_rfl):awp P T (.cond c x y) Q sl st:=by simp_all [zFr,ht]
theorem vF{x:Code}(p:Prop)[Decidable p](h:awp P T y Q sl st)(ht:¬p:=by first|omega|assumption)(hc:evD sl c= .val (.bool (decide p)):=by kernel_rfl):awp P T (.cond c x y) Q sl st:=by simp_all [zGf,ht]
theorem vt{x:Code}(h:awp P T x Q sl st)(hc:evD sl c= .val (.bool Ac):=by kernel_rfl):awp P T (.cond c x y) Q sl st:=zFr hc rfl h
theorem vf{x:Code}(h:awp P T y Q sl st)(hc:evD sl c= .val (.bool Ad):=by kernel_rfl):awp P T (.cond c x y) Q sl st:=zGf hc rfl h
theorem vEt{x:Code}(a b:Int)(h:awp P T x Q sl st)(ht:a=b:=by first|omega|assumption)(hc:evD sl c= .val (.bool (a==b)):=by kernel_rfl):awp P T (.cond c x y) Q sl st:=by simp_all [zFr,ht]
theorem vEf{x:Code}(a b:Int)(h:awp P T y Q sl st)(ht:¬a=b:=by first|omega|assumption)(hc:evD sl c= .val (.bool (a==b)):=by kernel_rfl):awp P T (.cond c x y) Q sl st:=by simp_all [zGf,ht]
theorem vret(C:Prop)(he:e= .normal\/e= .ret)(hc:C:=by first|exact True.intro|omega|(repeat' first|exact True.intro|omega|apply And.intro|assumption|decide|(simp;done)|(simp;omega)|kernel_rfl))
  (h:(retC P rs sl st).map (λx=>(Alls x.1,zHn x.2))=Ab (C,x):=by kernel_rfl):(e= .normal\/e= .ret)/\retL P sl st rs (λds=>∃y ks,frz Ac st zAz (oneD ds)=Ab (y,ks)/\LeD y x):=zBt C x x he rfl rfl (h:=h) (hc:=hc)
theorem vre(C:Prop)(y:D)(he:e= .normal\/e= .ret)(hx:y=x)(hc:C:=by first|exact True.intro|omega|(repeat' first|exact True.intro|omega|apply And.intro|assumption|decide|(simp;done)|(simp;omega)|kernel_rfl))
  (h:(retC P rs sl st).map (λx=>(Alls x.1,zHn x.2))=Ab (C,y):=by kernel_rfl):(e= .normal\/e= .ret)/\retL P sl st rs (λds=>∃y ks,frz Ac st zAz (oneD ds)=Ab (y,ks)/\LeD y x):=zBt C y y he rfl hx (h:=h) (hc:=hc)
def tgt1(d d':D):D:=match d' with
 | .unk=> .unk
 | _=>match d with
  | .val (.slice Ae 0 0)=>(match d' with
   | .osl k 0 0 0 b=> .osl k 0 0 0 b
   | .row [] 0=> .row [] 0
   |_=>d)
  |_=>d
theorem tgt1_le(d d':D):LeD d (tgt1 d d'):=by
 unfold tgt1;split
 ·exact .unk _
 split
 ·split
  ·exact .nil _ _
  ·exact .nil_row
  exact .refl _
 exact .refl _
def tgtL:List D->List D->List D
 |[],_=>[]
 |d::ds,[]=>d::ds
 |d::ds,d'::ds'=>tgt1 d d'::tgtL ds ds'
theorem zSe:∀ds ds':List D,LeL ds (tgtL ds ds')
 |[],_=> .nil
 |d::ds,[]=> .refl _
 |d::ds,d'::ds'=> .cons (tgt1_le d d') (zSe ds ds')
theorem wk(i:Nat)(d0 d:D)(hd:d0=d)(k:Weak T (sl.set i d) st sl' st')(h:sl.getD i .unk=d0:=by kernel_rfl)(hu:isC3 d=true:=by kernel_rfl):Weak T sl st sl' st':=by
 subst hd;rwa[zH5 h (by intro e;subst e;simp[isC3,zHt,zGd]at hu)]at k
theorem vk(m:Nat)(hk:∀k,m<=k->T.keep k=false:=by exact λ_ _=>rfl)(h:tgtL sl sl'=sl':=by kernel_rfl)(hn:zF8 sl' st m st.length=true:=by kernel_rfl)(e:st.take m=st'.take m:=by kernel_rfl):Weak T sl st sl' st':=by grind [Weak.all,zSe,BM]
def fr(n:Nat)(ch:List (Nat×D)):List D:=updS (As n .unk) ch
theorem vnt{dr:Bool}(st':List Bk)(k:seqW P T ops dr l sl st' K)(h2:st=st':=by kernel_rfl):seqW P T ops dr l sl st K:=by subst h2;exact k
theorem wkn(sl0:List D)(st0:List Bk)(k:Weak T sl0 st0 sl' st')(h:tgtL sl sl0=sl0:=by kernel_rfl)(h2:st=st0:=by kernel_rfl):Weak T sl st sl' st':=by
 subst h2;exact(Weak.slots (h▸zSe sl sl0)).trans k
theorem vnn(sl':List D)(st':List Bk)(k:zZ P T b Q sl' st')(h:tgtL sl sl'=sl':=by kernel_rfl)(h2:st=st':=by kernel_rfl):zZ P T b Q sl st:=by
 subst h2;obtain⟨a,c,h3,h4⟩:=k;exact⟨a,c,(Weak.slots (h▸zSe sl sl')).trans h3,h4⟩
end
end
end
section
open Go.RowKit
attribute [local irreducible] seqW awp zY zZ zR Weak updS zAe retL Pure Acts rP setP setQ cP nP fr
set_option maxRecDepth 4096
set_option maxHeartbeats 1000000 in
theorem zJp(l:List Nat)(n:Nat)(hn:l.length=n)(hd:Digs l)(hl:n<=1000000000:=by omega):Pure Aj 31 [.row (l.map dig) n] [] (natD (nval l)):=by
 subst hn;refine zJ zCg mixed Tryz.func31 rfl<|vAu<|vAe<|vB<|zN (λ(n:Nat)=>fr 22 [(0,digR l),(2,nl),(3,iD (n:Int))]) (λ_=>[]) (λn=>n) (λn=>n<=l.length/\zC4 l n=zC4 l l.length) l.length ?_ ?_ ?_
 ·grind
 ·refine vk 0
 rintro n ⟨h1,h2⟩;focus
  refine zA<|vAs<|vrT 3<|vspD 8 ((n:Int)>(0:Int)) (λhc=>?_)<|λhc=>?_;refine vr 3 (i6 (↑n-1))<|vs 11 (iD (↑n-1)) (iD ↑(n-1)) (hd:=by simp(disch:=omega) only[zE9])<|vr 1 (ix ↑(n-1) ↑(Aa l) (Ag dig l≠[])) (vp 12 (n-1) (Ag dig l)<|vr 1 (0<Aa (Ah (n-1)<|Ag dig l))<|vs 13 (AB (Ah (n-1)<|Ag dig l) Uk) (dig<|Af l (n-1) 0) (hd:=by simp(disch:=omega) only[zCf])<|veT ?_) ⟨(by omega),⟨(by omega),(by exact zV)⟩⟩;refine zAk (t:=(↑(Af l (n-1) 0):Int)==(0:Int)) (by kernel_rfl) (λhc=>?_)<|λhc=>?_;simp only[beq_iff_eq]at hc;refine vK<|zF<|zB rfl<|vr 2 (i6 (↑n-1))<|vs 17 (iD (↑n-1)) (iD ↑(n-1)) (hd:=by simp(disch:=omega) only[zE9])<|vrT 1<|vnil<|zD<|zC ?_;rotate_left;simp only[beq_eq_false_iff_ne]at hc;refine vZ2<|vA<|vr 4 (True/\(0:Int)<=(n:Int)/\(0:Int)<=(n:Int)/\0<1/\0<=Av (n:Int)/\Av (n:Int)<=Aa l/\Av (n:Int)=Av (n:Int))<|vs 21 (Am (Aw ((Av (n:Int)-0)*1)<|Ah 0<|Ag dig l) (Av (n:Int)-0)) (Am (Ag dig<|Aw n l) n) (hd:=by simp(disch:=omega) only[BC,Nat.sub_zero,B3,A1,zKg])<|veT<|zG<|vre (True) (Am (Ag dig<|Aw n l) n) (.inr rfl) ?_;rotate_left;refine veT<|vf<|vZ2<|vA<|vr 4 (True/\(0:Int)<=(n:Int)/\(0:Int)<=(n:Int)/\0<1/\0<=Av (n:Int)/\Av (n:Int)<=Aa l/\Av (n:Int)=Av (n:Int))<|vs 21 (Am (Aw ((Av (n:Int)-0)*1)<|Ah 0<|Ag dig l) (Av (n:Int)-0)) (Am (Ag dig<|Aw n l) n) (hd:=by simp(disch:=omega) only[BC,Nat.sub_zero,B3,A1,zKg])<|veT<|zG<|vre (True) (Am (Ag dig<|Aw n l) n) (.inr rfl) ?_;rotate_left
 ·refine⟨n-1,⟨by omega,?_⟩,by omega,?_⟩
  ·rw[<-h2];obtain⟨m,rfl⟩:∃m,n=m+1:=⟨n-1,by omega⟩;simp only[zC4];grind
  refine vk 0
 all_goals
  have e:n=zC4 l l.length:=by
   rw[<-h2];cases n with
   |zero=>rfl
   |succ m=>
    simp only[zC4];grind
  have e2:(dg (nval l)).length=n:=by rw[<-zSd hd,Bt,Nat.min_eq_left (zQ4 _ _),e]
  rw[natD,digR,e2,e,zSd hd]
theorem of_c(n:Nat)(hn:n<18446744073709551616):Pure Aj 9 [.val (.int .u64 n)] [] (natD n):=by
 refine zJ zCg mixed Tryz.func9 rfl<|vAu<|vA<|vw 4 [4] [] (True/\(0:Int)<=(32:Int))<|vs 6 (Ak<|An AI<|A8 (n:Int) ((2:Int)^32)) (Ak<|An AI (↑(n/4294967296):Int)) (hd:=by simp(disch:=omega) only[zL8])<|vr 2 (u3 (↑(n/4294967296):Int)/\(1=1/\1<=2/\1=1/\2<=2/\True)/\0<1/\1=1/\2<=16777216/\2<=9223372036854775807)<|vc (zJp [n%4294967296,n/4294967296] 2 rfl<|Digs.mk (by omega)<|Digs.mk (by omega) Digs.nil)<|veT<|zG<|vre (True) (natD<|nval [n%4294967296,n/4294967296]) (.inr rfl) ?_;grind [nval]
set_option maxHeartbeats 2000000 in
theorem add_c(a b:List Nat)(n m:Nat)(hn:a.length=n)(hm:b.length=m)(hl:n<=1000000)(hl':m<=1000000)(ha:Digs a)(hb:Digs b):Pure Aj 229 [.row (a.map dig) n, .row (b.map dig) m] [] (natD (nval a+nval b)):=by
 subst hn hm;have la:=zR1 ha;have lb:=zR1 hb;refine zJ zCg mixed Tryz.func229 rfl ?_;focus
  refine vAu<|vA<|vrT 1<|vc (zJp a _ rfl ha)<|vrT 1<|vc (zJp b _ rfl hb)<|veT<|zA<|vAe<|vcD ((Aa (dg<|nval a):Int)<(Aa (dg<|nval b):Int)) (λhc=>?_)<|λhc=>?_;refine zB rfl<|veT<|vA<|vr 4 (i6 ((Aa (dg<|nval b):Int)+(1:Int))/\(0:Int)<=(↑(Aa (dg<|nval b)+1):Int)/\(↑(Aa (dg<|nval b)+1):Int)<=(↑(Aa (dg<|nval b)+1):Int)/\(↑(4:Nat):Int)*(↑(Aa (dg<|nval b)+1):Int)<=(281474976710656:Int)/\(↑(Aa (dg<|nval b)+1):Int)<=(281474976710656:Int)/\0<1/\1=1)<|vb 0 (Ao (repL (Av (↑(Aa (dg<|nval b)+1):Int)) [Ak<|An Bf 0]) 27 1 Ac Ad<|kdOf Ad) (Ao (Ag dig<|As (Aa (dg<|nval b)+1) 0) 27 1 Ac Ad<|kdOf Ad) (hd:=by simp(disch:=omega) only[BC,zSy])<|vrT 1<|vs 5 (AL 0 0 (Av (↑(Aa (dg<|nval b)+1):Int)) (Av (↑(Aa (dg<|nval b)+1):Int)*1) Ac) (AL 0 0 (Aa (dg<|nval b)+1) (Aa (dg<|nval b)+1) Ac)<|veT<|vAe<|zA<|vAe<|zF ?_;rotate_left;refine vK<|vA<|vr 4 (i6 ((Aa (dg<|nval a):Int)+(1:Int))/\(0:Int)<=(↑(Aa (dg<|nval a)+1):Int)/\(↑(Aa (dg<|nval a)+1):Int)<=(↑(Aa (dg<|nval a)+1):Int)/\(↑(4:Nat):Int)*(↑(Aa (dg<|nval a)+1):Int)<=(281474976710656:Int)/\(↑(Aa (dg<|nval a)+1):Int)<=(281474976710656:Int)/\0<1/\1=1)<|vb 0 (Ao (repL (Av (↑(Aa (dg<|nval a)+1):Int)) [Ak<|An Bf 0]) 27 1 Ac Ad<|kdOf Ad) (Ao (Ag dig<|As (Aa (dg<|nval a)+1) 0) 27 1 Ac Ad<|kdOf Ad) (hd:=by simp(disch:=omega) only[BC,zSy])<|vrT 1<|vs 5 (AL 0 0 (Av (↑(Aa (dg<|nval a)+1):Int)) (Av (↑(Aa (dg<|nval a)+1):Int)*1) Ac) (AL 0 0 (Aa (dg<|nval a)+1) (Aa (dg<|nval a)+1) Ac)<|veT<|vAe<|zA<|vAe<|zF ?_;rotate_left
 ·have hS1:=la;have hL1:=lb;have dL:Digs (dg (nval b)):=zCw _;have dS:Digs (dg (nval a)):=zCw _;have ev:nval (dg (nval b))+nval (dg (nval a))=nval a+nval b:=by have:=zCv (nval a);have:=zCv (nval b);omega
  generalize (dg (nval b))=L at*;generalize (dg (nval a))=M at*;refine zA0 (λ(k:Nat)(c:Nat)(cur:List Nat)=>fr 62 [(0,digR L),(1,digR M),(4,nl),(5,AL 0 0 (Aa L+1) (Aa L+1) Ac),(6,Ak<|An AI (c:Int)),(24,iD<|Aa L),(25,iD k)]) (λk c cur=>[⟨cur.map dig,27,1,Ac,Ad,.plain⟩]) (λk c cur=>L.length-k) (λk c cur=>k<=L.length/\c<=1/\cur.length=L.length+1/\Digs cur/\nval (cur.take k)+4294967296^k*c=nval (L.take k)+nval (M.take k)) 0 0 (As (L.length+1) 0) ?_ ?_ ?_
  ·grind [Cp,nval]
  ·refine vk 1
  rintro k c cur ⟨h1,h2,h3,h4,h5⟩;have hx:=dL k;have hy:=dS k;focus
   refine vAu<|zA<|vcD ((k:Int)<↑(Aa L)) (λhc=>?_)<|λhc=>?_;refine vKB<|vAe<|vA<|vr 4 (ix ↑k ↑(Aa L) (Ag dig L≠[])) (vp 31 k (Ag dig L)<|vr 1 (0<Aa (Ah k<|Ag dig L))<|vs 32 (AB (Ah k<|Ag dig L) Uk) (dig<|Af L k 0) (hd:=by simp(disch:=omega) only[zCf]) ?_) ⟨(by omega),⟨(by omega),(by exact zV)⟩⟩;refine ve (u6 (↑(Af L k 0):Int)/\u6 ((c:Int)+(↑(Af L k 0):Int)))<|zA<|vAe<|vcD ((k:Int)<↑(Aa M)) (λhc=>?_)<|λhc=>?_;refine zB rfl<|vr 4 (ix ↑k ↑(Aa M) (Ag dig M≠[])) (vp 42 k (Ag dig M)<|vr 1 (0<Aa (Ah k<|Ag dig M))<|vs 43 (AB (Ah k<|Ag dig M) Uk) (dig<|Af M k 0) (hd:=by simp(disch:=omega) only[zCf])<|ve (u6 (↑(Af M k 0):Int)/\u6 ((↑(c+Af L k 0):Int)+(↑(Af M k 0):Int)))<|vA<|vw 5 [49] [] (True/\(0:Int)<=(k:Int)/\(k:Int)<↑(Aa L+1))<|vo 50 0 k<|vr 1 (ab_ (k+1<=Aa (Ag dig cur)/\¬0∈[]))<|vb 0 (Ao (setAt (Ag dig cur) k<|cellsOf<|dig ((c+Af L k 0+Af M k 0)%4294967296)) 27 1 Ac Ad Ap) (Ao (Ag dig<|Aq cur k ((c+Af L k 0+Af M k 0)%4294967296)) 27 1 Ac Ad Ap) (hd:=by simp(disch:=omega) only[cellsOf,setAt,zHh])<|veT<|zB rfl ?_) ⟨(by omega),⟨(by omega),(by exact zV)⟩⟩;refine vr 2 ((0:Int)<=(32:Int))<|vs 52 (Ak<|An AI<|A8 (↑(c+Af L k 0+Af M k 0):Int) ((2:Int)^32)) (Ak<|An AI (↑((c+Af L k 0+Af M k 0)/4294967296):Int)) (hd:=by simp(disch:=omega) only[zL8])<|vrT 1<|vnil<|zD<|vN<|zB rfl<|vr 2 (i6 (↑k+1))<|vnil<|zC ?_;rotate_left;refine vK<|vA<|vw 5 [49] [] (True/\(0:Int)<=(k:Int)/\(k:Int)<↑(Aa L+1))<|vo 50 0 k<|vr 1 (ab_ (k+1<=Aa (Ag dig cur)/\¬0∈[]))<|vb 0 (Ao (setAt (Ag dig cur) k<|cellsOf<|dig ((c+Af L k 0)%4294967296)) 27 1 Ac Ad Ap) (Ao (Ag dig<|Aq cur k ((c+Af L k 0)%4294967296)) 27 1 Ac Ad Ap) (hd:=by simp(disch:=omega) only[cellsOf,setAt,zHh])<|veT<|zB rfl<|vr 2 ((0:Int)<=(32:Int))<|vs 52 (Ak<|An AI<|A8 (↑(c+Af L k 0):Int) ((2:Int)^32)) (Ak<|An AI (↑((c+Af L k 0)/4294967296):Int)) (hd:=by simp(disch:=omega) only[zL8])<|vrT 1<|vnil<|zD<|vN<|zB rfl<|vr 2 (i6 (↑k+1))<|vnil<|zC ?_;rotate_left;refine vZ2<|vA<|vr 6 (u3 (c:Int)/\(0:Int)<=(Aa L:Int)/\(Aa L:Int)<(↑(Aa L+1):Int))<|vo 59 0 (Aa L)<|vr 1 (ab_ (Aa L+1<=Aa (Ag dig cur)/\¬0∈[]))<|vb 0 (Ao (setAt (Ag dig cur) (Aa L)<|cellsOf<|dig c) 27 1 Ac Ad Ap) (Ao (Ag dig<|Aq cur (Aa L) c) 27 1 Ac Ad Ap) (hd:=by simp(disch:=omega) only[cellsOf,setAt,zHh])<|veT<|vA<|vrT 1<|vcl [Am (Aw (Aa L+1)<|Ah 0<|Ag dig<|Aq cur (Aa L) c) (Aa L+1)] [Am (Ag dig<|Aw (Aa L+1)<|Aq cur (Aa L) c) (Aa L+1)] (LeL.of_eq (by simp(disch:=omega) only[A1,zKg])) (by exact zJp _ _ (by simp;omega) ((h4.set _ _ (by omega) (by omega)).take _))<|veT<|zG<|vre (True) (natD<|nval<|Aw (Aa L+1)<|Aq cur (Aa L) c) (.inr rfl) ?_;rotate_left
  ·obtain⟨s1,s2⟩:=zNn (by omega) h2 dL dS h5;refine⟨k+1,(c+L.getD k 0+M.getD k 0)/4294967296,cur.set k ((c+L.getD k 0+M.getD k 0)%4294967296),⟨by omega,s1,by simpa using h3,h4.set _ _ (by omega) (by omega),s2⟩,by omega,?_⟩;refine vk 1
  ·obtain⟨s1,s2⟩:=zNn (by omega) h2 dL dS h5;have e0:M.getD k 0=0:=by rw[AT,Bx (by omega)];rfl
   rw[e0,Ba]at s1 s2;refine⟨k+1,(c+L.getD k 0)/4294967296,cur.set k ((c+L.getD k 0)%4294967296),⟨by omega,s1,by simpa using h3,h4.set _ _ (by omega) (by omega),s2⟩,by omega,?_⟩;refine vk 1
  have ek:k=L.length:=by omega
  subst ek;have e1:nval ((cur.set L.length c).take (L.length+1))=nval a+nval b:=by
   rw[zB3,take_set,zK9 _ _ _ _ (by omega),if_pos rfl,h5,BP,Bl (by omega),ev]
  rw[e1]
 ·have hS1:=lb;have hL1:=la;have dL:Digs (dg (nval a)):=zCw _;have dS:Digs (dg (nval b)):=zCw _;have ev:nval (dg (nval a))+nval (dg (nval b))=nval a+nval b:=by have:=zCv (nval a);have:=zCv (nval b);omega
  generalize (dg (nval a))=L at*;generalize (dg (nval b))=M at*;refine zA0 (λ(k:Nat)(c:Nat)(cur:List Nat)=>fr 62 [(0,digR L),(1,digR M),(4,nl),(5,AL 0 0 (Aa L+1) (Aa L+1) Ac),(6,Ak<|An AI (c:Int)),(24,iD<|Aa L),(25,iD k)]) (λk c cur=>[⟨cur.map dig,27,1,Ac,Ad,.plain⟩]) (λk c cur=>L.length-k) (λk c cur=>k<=L.length/\c<=1/\cur.length=L.length+1/\Digs cur/\nval (cur.take k)+4294967296^k*c=nval (L.take k)+nval (M.take k)) 0 0 (As (L.length+1) 0) ?_ ?_ ?_
  ·grind [Cp,nval]
  ·refine vk 1
  rintro k c cur ⟨h1,h2,h3,h4,h5⟩;have hx:=dL k;have hy:=dS k;focus
   refine vAu<|zA<|vcD ((k:Int)<↑(Aa L)) (λhc=>?_)<|λhc=>?_;refine vKB<|vAe<|vA<|vr 4 (ix ↑k ↑(Aa L) (Ag dig L≠[])) (vp 31 k (Ag dig L)<|vr 1 (0<Aa (Ah k<|Ag dig L))<|vs 32 (AB (Ah k<|Ag dig L) Uk) (dig<|Af L k 0) (hd:=by simp(disch:=omega) only[zCf]) ?_) ⟨(by omega),⟨(by omega),(by exact zV)⟩⟩;refine ve (u6 (↑(Af L k 0):Int)/\u6 ((c:Int)+(↑(Af L k 0):Int)))<|zA<|vAe<|vcD ((k:Int)<↑(Aa M)) (λhc=>?_)<|λhc=>?_;refine zB rfl<|vr 4 (ix ↑k ↑(Aa M) (Ag dig M≠[])) (vp 42 k (Ag dig M)<|vr 1 (0<Aa (Ah k<|Ag dig M))<|vs 43 (AB (Ah k<|Ag dig M) Uk) (dig<|Af M k 0) (hd:=by simp(disch:=omega) only[zCf])<|ve (u6 (↑(Af M k 0):Int)/\u6 ((↑(c+Af L k 0):Int)+(↑(Af M k 0):Int)))<|vA<|vw 5 [49] [] (True/\(0:Int)<=(k:Int)/\(k:Int)<↑(Aa L+1))<|vo 50 0 k<|vr 1 (ab_ (k+1<=Aa (Ag dig cur)/\¬0∈[]))<|vb 0 (Ao (setAt (Ag dig cur) k<|cellsOf<|dig ((c+Af L k 0+Af M k 0)%4294967296)) 27 1 Ac Ad Ap) (Ao (Ag dig<|Aq cur k ((c+Af L k 0+Af M k 0)%4294967296)) 27 1 Ac Ad Ap) (hd:=by simp(disch:=omega) only[cellsOf,setAt,zHh])<|veT<|zB rfl ?_) ⟨(by omega),⟨(by omega),(by exact zV)⟩⟩;refine vr 2 ((0:Int)<=(32:Int))<|vs 52 (Ak<|An AI<|A8 (↑(c+Af L k 0+Af M k 0):Int) ((2:Int)^32)) (Ak<|An AI (↑((c+Af L k 0+Af M k 0)/4294967296):Int)) (hd:=by simp(disch:=omega) only[zL8])<|vrT 1<|vnil<|zD<|vN<|zB rfl<|vr 2 (i6 (↑k+1))<|vnil<|zC ?_;rotate_left;refine vK<|vA<|vw 5 [49] [] (True/\(0:Int)<=(k:Int)/\(k:Int)<↑(Aa L+1))<|vo 50 0 k<|vr 1 (ab_ (k+1<=Aa (Ag dig cur)/\¬0∈[]))<|vb 0 (Ao (setAt (Ag dig cur) k<|cellsOf<|dig ((c+Af L k 0)%4294967296)) 27 1 Ac Ad Ap) (Ao (Ag dig<|Aq cur k ((c+Af L k 0)%4294967296)) 27 1 Ac Ad Ap) (hd:=by simp(disch:=omega) only[cellsOf,setAt,zHh])<|veT<|zB rfl<|vr 2 ((0:Int)<=(32:Int))<|vs 52 (Ak<|An AI<|A8 (↑(c+Af L k 0):Int) ((2:Int)^32)) (Ak<|An AI (↑((c+Af L k 0)/4294967296):Int)) (hd:=by simp(disch:=omega) only[zL8])<|vrT 1<|vnil<|zD<|vN<|zB rfl<|vr 2 (i6 (↑k+1))<|vnil<|zC ?_;rotate_left;refine vZ2<|vA<|vr 6 (u3 (c:Int)/\(0:Int)<=(Aa L:Int)/\(Aa L:Int)<(↑(Aa L+1):Int))<|vo 59 0 (Aa L)<|vr 1 (ab_ (Aa L+1<=Aa (Ag dig cur)/\¬0∈[]))<|vb 0 (Ao (setAt (Ag dig cur) (Aa L)<|cellsOf<|dig c) 27 1 Ac Ad Ap) (Ao (Ag dig<|Aq cur (Aa L) c) 27 1 Ac Ad Ap) (hd:=by simp(disch:=omega) only[cellsOf,setAt,zHh])<|veT<|vA<|vrT 1<|vcl [Am (Aw (Aa L+1)<|Ah 0<|Ag dig<|Aq cur (Aa L) c) (Aa L+1)] [Am (Ag dig<|Aw (Aa L+1)<|Aq cur (Aa L) c) (Aa L+1)] (LeL.of_eq (by simp(disch:=omega) only[A1,zKg])) (by exact zJp _ _ (by simp;omega) ((h4.set _ _ (by omega) (by omega)).take _))<|veT<|zG<|vre (True) (natD<|nval<|Aw (Aa L+1)<|Aq cur (Aa L) c) (.inr rfl) ?_;rotate_left
  ·obtain⟨s1,s2⟩:=zNn (by omega) h2 dL dS h5;refine⟨k+1,(c+L.getD k 0+M.getD k 0)/4294967296,cur.set k ((c+L.getD k 0+M.getD k 0)%4294967296),⟨by omega,s1,by simpa using h3,h4.set _ _ (by omega) (by omega),s2⟩,by omega,?_⟩;refine vk 1
  ·obtain⟨s1,s2⟩:=zNn (by omega) h2 dL dS h5;have e0:M.getD k 0=0:=by rw[AT,Bx (by omega)];rfl
   rw[e0,Ba]at s1 s2;refine⟨k+1,(c+L.getD k 0)/4294967296,cur.set k ((c+L.getD k 0)%4294967296),⟨by omega,s1,by simpa using h3,h4.set _ _ (by omega) (by omega),s2⟩,by omega,?_⟩;refine vk 1
  have ek:k=L.length:=by omega
  subst ek;have e1:nval ((cur.set L.length c).take (L.length+1))=nval a+nval b:=by
   rw[zB3,take_set,zK9 _ _ _ _ (by omega),if_pos rfl,h5,BP,Bl (by omega),ev]
  rw[e1]
 all_goals omega
theorem nan_int(a:Int):Pure Aj 63 [.val (.int .i64 a)] [] (.val (.bool Ad)):=by
 refine zJ zCg mixed Tryz.func63 rfl<|vAu<|vAe<|zG<|vre (True) (Ak<|Ay (a !=a)) (.inr rfl) (by simp)
abbrev q0_:=Ak (An AA (-1))
abbrev q1_:=Ak (An AA 1)
abbrev q2_:=Ak (An AA 0)
theorem cmpo_int(a b:Int):Pure Aj 34 [.val (.int .i64 a), .val (.int .i64 b)] [] (.val (.int .i64 (cmpD a b))):=by
 refine zJ zCg mixed Tryz.func34 rfl ?_;focus
  refine vAu<|vA<|vrT 1<|vca [iD a] (by exact nan_int _)<|veT<|vA<|vrT 1<|vca [iD b] (by exact nan_int _)<|veT<|zA<|vAe<|vf<|vK<|zA<|vAe<|vf<|vK<|zA<|vAe<|vcD (a<b) (λhc=>?_)<|λhc=>?_;refine vAe<|zG<|zE<|vre (True) (q0_) (.inr rfl) ?_;rotate_left;refine vK<|zA<|vAe<|vcD (a>b) (λhc=>?_)<|λhc=>?_;refine vAe<|zG<|zE<|vre (True) (q1_) (.inr rfl) ?_;rotate_left;refine vK<|vAe<|zG<|vre (True) (q2_) (.inr rfl) ?_;rotate_left
 all_goals grind [cmpD]
theorem zRj(a:Int):Pure Aj 64 [.val (.int .u32 a)] [] (.val (.bool Ad)):=by
 refine zJ zCg mixed Tryz.func64 rfl<|vAu<|vAe<|zG<|vre (True) (Ak<|Ay (a !=a)) (.inr rfl) (by simp)
theorem zZ1(a b:Int):Pure Aj 35 [.val (.int .u32 a), .val (.int .u32 b)] [] (.val (.int .i64 (cmpD a b))):=by
 refine zJ zCg mixed Tryz.func35 rfl ?_;focus
  refine vAu<|vA<|vrT 1<|vca [Ak<|An Bf a] (by exact zRj _)<|veT<|vA<|vrT 1<|vca [Ak<|An Bf b] (by exact zRj _)<|veT<|zA<|vAe<|vf<|vK<|zA<|vAe<|vf<|vK<|zA<|vAe<|vcD (a<b) (λhc=>?_)<|λhc=>?_;refine vAe<|zG<|zE<|vre (True) (q0_) (.inr rfl) ?_;rotate_left;refine vK<|zA<|vAe<|vcD (a>b) (λhc=>?_)<|λhc=>?_;refine vAe<|zG<|zE<|vre (True) (q1_) (.inr rfl) ?_;rotate_left;refine vK<|vAe<|zG<|vre (True) (q2_) (.inr rfl) ?_;rotate_left
 all_goals grind [cmpD]
theorem zWy(a:Int):Pure Aj 191 [.val (.int .i64 a)] [] (.val (.bool Ad)):=by
 refine zJ zCg mixed Tryz.func191 rfl<|vAu<|vAe<|zG<|vre (True) (Ak<|Ay (a !=a)) (.inr rfl) (by simp)
theorem cmpo_int64(a b:Int):Pure Aj 174 [.val (.int .i64 a), .val (.int .i64 b)] [] (.val (.int .i64 (cmpD a b))):=by
 refine zJ zCg mixed Tryz.func174 rfl ?_;focus
  refine vAu<|vA<|vrT 1<|vca [iD a] (by exact zWy _)<|veT<|vA<|vrT 1<|vca [iD b] (by exact zWy _)<|veT<|zA<|vAe<|vf<|vK<|zA<|vAe<|vf<|vK<|zA<|vAe<|vcD (a<b) (λhc=>?_)<|λhc=>?_;refine vAe<|zG<|zE<|vre (True) (q0_) (.inr rfl) ?_;rotate_left;refine vK<|zA<|vAe<|vcD (a>b) (λhc=>?_)<|λhc=>?_;refine vAe<|zG<|zE<|vre (True) (q1_) (.inr rfl) ?_;rotate_left;refine vK<|vAe<|zG<|vre (True) (q2_) (.inr rfl) ?_;rotate_left
 all_goals grind [cmpD]
set_option maxHeartbeats 2000000 in
theorem mul_c(a b:List Nat)(n m:Nat)(hn:a.length=n)(hm:b.length=m)(hl:n<=1000000)(hl':m<=1000000)(ha:Digs a)(hb:Digs b):Pure Aj 230 [.row (a.map dig) n, .row (b.map dig) m] [] (natD (nval a*nval b)):=by
 subst hn hm;have la:=zR1 ha;have lb:=zR1 hb;refine zJ zCg mixed Tryz.func230 rfl<|vAu<|vA<|vrT 1<|vc (zJp a _ rfl ha)<|vrT 1<|vc (zJp b _ rfl hb)<|veT<|vA<|vr 6 (i6 ((Aa (dg<|nval a):Int)+(Aa (dg<|nval b):Int))/\(0:Int)<=(↑(Aa (dg<|nval a)+Aa (dg<|nval b)):Int)/\(↑(Aa (dg<|nval a)+Aa (dg<|nval b)):Int)<=(↑(Aa (dg<|nval a)+Aa (dg<|nval b)):Int)/\(↑(4:Nat):Int)*(↑(Aa (dg<|nval a)+Aa (dg<|nval b)):Int)<=(281474976710656:Int)/\(↑(Aa (dg<|nval a)+Aa (dg<|nval b)):Int)<=(281474976710656:Int)/\0<1/\1=1)<|vb 0 (Ao (repL (Av (↑(Aa (dg<|nval a)+Aa (dg<|nval b)):Int)) [Ak<|An Bf (0:Int)]) 27 1 Ac Ad<|kdOf Ad) (Ao (Ag dig<|As (Aa (dg<|nval a)+Aa (dg<|nval b)) 0) 27 1 Ac Ad<|kdOf Ad) (hd:=by simp(disch:=omega) only[BC,zSy])<|vrT 1<|vs 5 (AL 0 0 (Av (↑(Aa (dg<|nval a)+Aa (dg<|nval b)):Int)) (Av (↑(Aa (dg<|nval a)+Aa (dg<|nval b)):Int)*1) Ac) (AL 0 0 (Aa (dg<|nval a)+Aa (dg<|nval b)) (Aa (dg<|nval a)+Aa (dg<|nval b)) Ac)<|veT<|zA<|vAe<|zF ?_;have ev:nval a*nval b=nval (dg (nval a))*nval (dg (nval b)):=by rw[zCv,zCv]
 rw[ev];have dA:Digs (dg (nval a)):=zCw _;have dB:Digs (dg (nval b)):=zCw _;generalize dg (nval a)=A at*;generalize dg (nval b)=B at*;refine zBp (λ(i:Nat)(cur:List Nat)=>fr 71 [(0,digR A),(1,digR B),(4,nl),(5,AL 0 0 (Aa A+Aa B) (Aa A+Aa B) Ac),(20,iD<|Aa A),(21,iD i)]) (λi cur=>[⟨cur.map dig,27,1,Ac,Ad,.plain⟩]) (λi cur=>A.length-i) (λi cur=>i<=A.length/\cur.length=A.length+B.length/\Digs cur/\(∀t,i+B.length<=t->cur.getD t 0=0)/\nval cur=nval (A.take i)*nval B) 0 (As (A.length+B.length) 0) ?_ ?_ ?_
 ·refine⟨by simp,by simp,Cp _,λt _=>?_,?_⟩
  ·grind
  grind [zQx,nval]
 ·refine vk 1
 rintro i cur ⟨h1,h2,h3,h4,h5⟩;focus
  refine vAu<|zA<|vcD ((i:Int)<↑(Aa A)) (λhc=>?_)<|λhc=>?_;refine vKB<|vAe<|vAe<|zA<|vAe<|zF ?_;rotate_left;refine vZ2<|vA<|vrT 1<|vcl [Am (Aw (Aa A+Aa B)<|Ah 0<|Ag dig cur) (Aa A+Aa B)] [Am (Ag dig<|Aw (Aa A+Aa B) cur) (Aa A+Aa B)] (LeL.of_eq (by simp(disch:=omega) only[A1,zKg])) (by exact zJp _ _ (by simp;omega) (h3.take _))<|veT<|zG<|vre (True) (natD<|nval<|Aw (Aa A+Aa B) cur) (.inr rfl) ?_;rotate_left
 ·refine zA0 (λ(j:Nat)(c:Nat)(cur':List Nat)=>fr 71 [(0,digR A),(1,digR B),(4,nl),(5,AL 0 0 (Aa A+Aa B) (Aa A+Aa B) Ac),(6,iD (i:Int)),(7,Ak<|An AI (c:Int)),(20,iD (Aa A:Int)),(21,iD (i:Int)),(25,iD (Aa B:Int)),(26,iD (j:Int))]) (λj c cur'=>[⟨cur'.map dig,27,1,Ac,Ad,.plain⟩]) (λj c cur'=>B.length-j) (λj c cur'=>j<=B.length/\c<4294967296/\zYe A B i j c cur') 0 0 cur ?_ ?_ ?_
  ·grind [mul_start]
  ·refine vk 1
  rintro j c cur' ⟨k1,k2,k3⟩;have hx:=dA i;have hy:=dB j;have hz:=k3.2.1 (i+j);have hw:=k3.1;obtain⟨b1,b2,b3⟩:=mul_bound hx hy k2 hz;focus
   refine vAu<|zA<|vcD ((j:Int)<↑(Aa B)) (λhc=>?_)<|λhc=>?_;refine vKB<|vAe<|zA<|vd [0,1,2,3,6,7,8,12,13,14,15,16,4,5,9,10,11,17,18,19,20,21]<|vr 4 (ix ↑i ↑(Aa A) (Ag dig A≠[])) (vp 32 i (Ag dig A)<|vr 3 (ix ↑j ↑(Aa B) (Ag dig B≠[])) (vp 37 j (Ag dig B) ?_) ⟨(by omega),⟨(by omega),(by exact zV)⟩⟩) ⟨(by omega),⟨(by omega),(by exact zV)⟩⟩;refine vr 5 (i6 ((i:Int)+(j:Int))/\(0:Int)<=(↑(i+j):Int)/\(↑(i+j):Int)<(↑(Aa A+Aa B):Int))<|vo 45 0 (i+j)<|vr 1 (0<Aa (Ah i<|Ag dig A))<|vs 33 (AB (Ah i<|Ag dig A) Uk) (dig<|Af A i 0) (hd:=by simp(disch:=omega) only[zCf])<|vr 2 (u6 (↑(Af A i 0):Int)/\0<Aa (Ah j<|Ag dig B))<|vs 38 (AB (Ah j<|Ag dig B) Uk) (dig<|Af B j 0) (hd:=by simp(disch:=omega) only[zCf])<|vr 3 (u6 (↑(Af B j 0):Int)/\u6 ((↑(Af A i 0):Int)*(↑(Af B j 0):Int))/\0<Aa (Ah (i+j)<|Ag dig cur'))<|vs 46 (AB (Ah (i+j)<|Ag dig cur') Uk) (dig<|Af cur' (i+j) 0) (hd:=by simp(disch:=omega) only[zCf])<|ve (u6 (↑(Af cur' (i+j) 0):Int)/\u6 ((↑(Af A i 0*Af B j 0):Int)+(↑(Af cur' (i+j) 0):Int))/\u6 ((c:Int)+(↑(Af A i 0*Af B j 0+Af cur' (i+j) 0):Int)))<|vA<|vw 7 [55] [] (i6 ((i:Int)+(j:Int))/\True/\(0:Int)<=(↑(i+j):Int)/\(↑(i+j):Int)<(↑(Aa A+Aa B):Int))<|vo 56 0 (i+j)<|vr 1 (ab_ (i+j+1<=Aa (Ag dig cur')/\¬0∈[]))<|vb 0 (Ao (setAt (Ag dig cur') (i+j)<|cellsOf<|dig ((c+(Af A i 0*Af B j 0+Af cur' (i+j) 0))%4294967296)) 27 1 Ac Ad Ap) (Ao (Ag dig<|Aq cur' (i+j) ((c+(Af A i 0*Af B j 0+Af cur' (i+j) 0))%4294967296)) 27 1 Ac Ad Ap) (hd:=by simp(disch:=omega) only[cellsOf,setAt,zHh])<|veT<|zB rfl<|vr 2 ((0:Int)<=(32:Int))<|vs 58 (Ak<|An AI<|A8 (↑(c+(Af A i 0*Af B j 0+Af cur' (i+j) 0)):Int) ((2:Int)^32)) (Ak<|An AI (↑((c+(Af A i 0*Af B j 0+Af cur' (i+j) 0))/4294967296):Int)) (hd:=by simp(disch:=omega) only[zL8])<|vrT 1<|vnil<|zD<|vN<|zB rfl<|vr 2 (i6 (↑j+1))<|vnil<|zC ?_;rotate_left;refine vZ2<|zB rfl<|vr 8 (i6 ((i:Int)+(Aa B:Int))/\u3 (c:Int)/\(0:Int)<=(↑(i+Aa B):Int)/\(↑(i+Aa B):Int)<(↑(Aa A+Aa B):Int))<|vo 67 0 (i+Aa B)<|vr 1 (ab_ (i+Aa B+1<=Aa (Ag dig cur')/\¬0∈[]))<|vb 0 (Ao (setAt (Ag dig cur') (i+Aa B)<|cellsOf<|dig c) 27 1 Ac Ad Ap) (Ao (Ag dig<|Aq cur' (i+Aa B) c) 27 1 Ac Ad Ap) (hd:=by simp(disch:=omega) only[cellsOf,setAt,zHh])<|vnil<|zD<|vN<|zB rfl<|vr 2 (i6 (↑i+1))<|vnil<|zC ?_;rotate_left
  ·refine⟨j+1,(c+(A.getD i 0*B.getD j 0+cur'.getD (i+j) 0))/4294967296,cur'.set (i+j) ((c+(A.getD i 0*B.getD j 0+cur'.getD (i+j) 0))%4294967296),⟨by omega,b3,mul_step (by omega) (by omega) k3⟩,by omega,?_⟩;refine vk 1
  have ej:j=B.length:=by omega
  subst ej;obtain⟨m1,m2,m3,m4⟩:=mul_end (by omega) k2 k3;refine⟨i+1,cur'.set (i+B.length) c,⟨by omega,m1,m2,m3,m4⟩,by omega,?_⟩;refine vk 1
 grind
theorem cmp_c(a b:List Nat)(n m:Nat)(hn:a.length=n)(hm:b.length=m)(hl:n<=1000000)(hl':m<=1000000)(ha:Digs a)(hb:Digs b):Pure Aj 14 [.row (a.map dig) n, .row (b.map dig) m] [] (.val (.int .i64 (cmpD (nval a) (nval b)))):=by
 subst hn hm;have la:=zR1 ha;have lb:=zR1 hb;refine zJ zCg mixed Tryz.func14 rfl ?_;focus
  refine vAu<|vA<|vrT 1<|vc (zJp a _ rfl ha)<|vrT 1<|vc (zJp b _ rfl hb)<|veT<|zA<|vAe<|zAk (t:=(Aa (dg (nval a)):Int)!=(Aa (dg (nval b)):Int)) (by kernel_rfl) (λhc=>?_)<|λhc=>?_;simp only[bne_iff_ne]at hc;refine vA<|vrT 4<|vca [iD (Aa (dg<|nval a):Int),iD (Aa (dg<|nval b):Int)] (by exact cmpo_int _ _)<|veT<|zG<|zE<|vre (True) (Ak<|An AA<|cmpD (Aa (dg<|nval a):Int) (Aa (dg<|nval b):Int)) (.inr rfl) ?_;rotate_left;simp only[bne_eq_false_iff_eq]at hc;refine vK<|zA<|vA<|ve (i6 ((Aa (dg<|nval a):Int)-(1:Int)))<|zF ?_;rotate_left
 ·congr 2;grind [normal_dg,nval,zCv,cmpD_eq,Normal.lt_of_length,zCw]
 have ev:cmpD (nval a) (nval b)=cmpD (nval (dg (nval a))) (nval (dg (nval b))):=by rw[zCv,zCv]
 rw[ev];have dA:Digs (dg (nval a)):=zCw _;have dB:Digs (dg (nval b)):=zCw _;generalize dg (nval a)=A at*;generalize dg (nval b)=B at*;refine zN (λ(n:Nat)=>fr 45 [(0,digR A),(1,digR B),(5,iD (↑n-1))]) (λ_=>[]) (λn=>n) (λn=>n<=A.length/\A.drop n=B.drop n) A.length ?_ ?_ ?_
 ·exact⟨Al _,by rw[Cq,BQ (by omega)]⟩
 ·refine vk 0
 rintro n ⟨h1,h2⟩;focus
  refine zA<|vAu<|vcD ((n:Int)-(1:Int)>=(0:Int)) (λhc=>?_)<|λhc=>?_;refine vKB<|zA<|vd [0,1,2,4,5,6,3,7,8]<|vrT 2<|vs 28 (iD (↑n-1)) (iD ↑(n-1)) (hd:=by simp(disch:=omega) only[zE9])<|vr 1 (ix ↑(n-1) ↑(Aa A) (Ag dig A≠[])) (vp 29 (n-1) (Ag dig A)<|vrT 2<|vs 32 (iD (↑n-1)) (iD ↑(n-1)) (hd:=by simp(disch:=omega) only[zE9])<|vr 1 (ix ↑(n-1) ↑(Aa B) (Ag dig B≠[])) ?_ ⟨(by omega),⟨(by omega),(by exact zV)⟩⟩) ⟨(by omega),⟨(by omega),(by exact zV)⟩⟩;refine vp 33 (n-1) (Ag dig B)<|vr 1 (0<Aa (Ah (n-1)<|Ag dig A))<|vs 30 (AB (Ah (n-1)<|Ag dig A) Uk) (dig<|Af A (n-1) 0) (hd:=by simp(disch:=omega) only[zCf])<|vr 1 (0<Aa (Ah (n-1)<|Ag dig B))<|vs 34 (AB (Ah (n-1)<|Ag dig B) Uk) (dig<|Af B (n-1) 0) (hd:=by simp(disch:=omega) only[zCf])<|veT<|zAk (t:=(↑(Af A (n-1) 0):Int)!=(↑(Af B (n-1) 0):Int)) (by kernel_rfl) (λhc=>?_)<|λhc=>?_;simp only[bne_iff_ne]at hc;refine zA<|vd [0,1,2,4,5,6,3,7,8,9]<|vrT 2<|vs 37 (iD (↑n-1)) (iD ↑(n-1)) (hd:=by simp(disch:=omega) only[zE9])<|vr 1 (ix ↑(n-1) ↑(Aa A) (Ag dig A≠[])) (vp 38 (n-1) (Ag dig A)<|vrT 2<|vs 41 (iD (↑n-1)) (iD ↑(n-1)) (hd:=by simp(disch:=omega) only[zE9])<|vr 1 (ix ↑(n-1) ↑(Aa B) (Ag dig B≠[])) (vp 42 (n-1) (Ag dig B)<|vr 1 (0<Aa (Ah (n-1)<|Ag dig A))<|vs 39 (AB (Ah (n-1)<|Ag dig A) Uk) (dig<|Af A (n-1) 0) (hd:=by simp(disch:=omega) only[zCf])<|vr 1 (0<Aa (Ah (n-1)<|Ag dig B))<|vs 43 (AB (Ah (n-1)<|Ag dig B) Uk) (dig<|Af B (n-1) 0) (hd:=by simp(disch:=omega) only[zCf]) ?_) ⟨(by omega),⟨(by omega),(by exact zV)⟩⟩) ⟨(by omega),⟨(by omega),(by exact zV)⟩⟩;refine vca [dig<|Af A (n-1) 0,dig<|Af B (n-1) 0] (by exact zZ1 _ _)<|veT<|zG<|zH<|zE<|zE<|zH<|zE<|vre (True) (Ak<|An AA<|cmpD (↑(Af A (n-1) 0):Int) (↑(Af B (n-1) 0):Int)) (.inr rfl) ?_;rotate_left;simp only[bne_eq_false_iff_eq]at hc;refine zL<|zD<|vN<|zB rfl<|vrT 1<|vs 25 (iD (↑n-1)) (iD ↑(n-1)) (hd:=by simp(disch:=omega) only[zE9])<|vr 2 (i6 (↑(n-1)-1))<|vnil<|zC ?_;rotate_left;refine vZ2<|vAe<|zG<|vre (True) (q2_) (.inr rfl) ?_;rotate_left
 ·have h3:A.drop (n-1+1)=B.drop (n-1+1):=by rw[show n-1+1=n by omega];exact h2
  congr 2;grind [cmpD_eq,zMz]
 ·refine⟨n-1,⟨by omega,?_⟩,by omega,?_⟩
  ·grind [zXm]
  refine vk 0
 have e0:n=0:=by omega
 grind [cmpD]
theorem zQ5:(Bo #[]).toList=[]:=by rw[Cu]
theorem zVs(l:List UInt8):(l==[])=l.isEmpty:=by cases l<;>rfl
theorem vvalid_c(v:Va):Pure Aj 149 [vaD v] [] (bD (vok v)):=by
 refine zJ zCg mixed Tryz.func149 rfl ?_;focus
  refine vAu<|zA<|vA<|ve (True/\0<3)<|zF<|vAe<|zAk (t:=Va.kind v==(1:Int)) (by kernel_rfl) (λhc=>?_)<|λhc=>?_;simp only[beq_iff_eq]at hc;refine vA<|vr 3 (True/\0<1/\True)<|vs 9 (bD (ByteArray.toList (bs<|Va.str v)==ByteArray.toList (Bo #[]))) (bD (Va.str v==[])) (hd:=by simp(disch:=omega) only[zLb,zQ5])<|veT<|zG<|zH<|zE<|vre (True) (Ak<|Ay (Va.str v==[])) (.inr rfl) ?_;rotate_left;simp only[beq_eq_false_iff_ne]at hc;refine vAe<|zAk (t:=Va.kind v==(2:Int)) (by kernel_rfl) (λhc=>?_)<|λhc=>?_;simp only[beq_iff_eq]at hc;refine vA<|vr 4 (True/\0<2/\True)<|vsp 15 (Va.int v==(0:Int)) (λhc=>?_)<|λhc=>?_;simp only[beq_iff_eq]at hc;refine ve (True/\0<1)<|zG<|zH<|zE<|vre (True) (Ak<|Ay<|decide ((Aa (Va.str v):Int)<=(24:Int))) (.inr rfl) ?_;rotate_left;simp only[beq_eq_false_iff_ne]at hc;refine veT<|zG<|zH<|zE<|vre (True) (Ak<|Ay Ad) (.inr rfl) ?_;rotate_left;simp only[beq_eq_false_iff_ne]at hc;refine zL<|zD<|vN<|vAe<|zG<|vre (True) (Ak<|Ay Ad) (.inr rfl) ?_;rotate_left
 ·grind [zVs,vok]
 ·congr 2;grind [vok]
 all_goals grind [vok]
theorem zH2(a b:Va):Pure Aj 156 [vaD a,vaD b] [] (iD (vcmp a b)):=by
 refine zJ zCg mixed Tryz.func156 rfl ?_;focus
  refine vAu<|zA<|vA<|ve (True/\0<3/\True/\0<3/\True)<|zAk (t:=Va.kind a !=Va.kind b) (by kernel_rfl) (λhc=>?_)<|λhc=>?_;simp only[bne_iff_ne]at hc;refine vA<|vr 4 (True/\0<3/\True/\0<3)<|vca [iD<|Va.kind a,iD<|Va.kind b] (by exact cmpo_int _ _)<|veT<|zG<|zE<|vre (True) (Ak<|An AA<|cmpD (Va.kind a)<|Va.kind b) (.inr rfl) ?_;rotate_left;simp only[bne_eq_false_iff_eq]at hc;refine vK<|zA<|vA<|ve (True/\0<2/\True/\0<2/\True)<|zAk (t:=Va.int a !=Va.int b) (by kernel_rfl) (λhc=>?_)<|λhc=>?_;simp only[bne_iff_ne]at hc;refine vA<|vr 4 (True/\0<2/\True/\0<2)<|vca [iD<|Va.int a,iD<|Va.int b] (by exact cmpo_int64 _ _)<|veT<|zG<|zE<|vre (True) (Ak<|An AA<|cmpD (Va.int a)<|Va.int b) (.inr rfl) ?_;rotate_left;simp only[bne_eq_false_iff_eq]at hc;refine vK<|vA<|vr 4 (True/\0<1/\True/\0<1)<|vca [Ak<|AD<|bs<|Va.str a,Ak<|AD<|bs<|Va.str b] (by exact scmp_c _ _)<|veT<|zG<|vre (True) (Ak<|An AA<|AK (Va.str a)<|Va.str b) (.inr rfl) ?_;rotate_left
 all_goals simp [vcmp, *]
theorem zEd(r:List Va)(i:Nat)(h:i<r.length:=by omega):3<=(Ah (i*3) (zM r)).length:=by
 grind [BR,zB6]
theorem all_step(p:α->Bool)(d:α)(l:List α)(i:Nat)(h:i<l.length):(l.take (i+1)).all p=((l.take i).all p&&p (l.getD i d)):=by
 grind [By,AF]
theorem all_no(p:α->Bool)(d:α)(l:List α)(i:Nat)(h:i<l.length)(hp:p (l.getD i d)=Ad):l.all p=false:=by
 grind
set_option maxHeartbeats 1000000 in
theorem zSv(r:List Va)(n:Nat)(hn:r.length=n)(hl:n<=1000000000):Pure Aj 111 [.row (zM r) n] [] (bD (r.all vok)):=by
 subst hn;refine zJ zCg mixed Tryz.func111 rfl<|vAu<|zA<|vAe<|zF<|zN (λ(i:Nat)=>fr 16 [(0,Am (zM r)<|Aa r),(5,iD (Aa r:Int)),(6,iD (i:Int))]) (λ_=>[]) (λi=>r.length-i) (λi=>i<=r.length/\(r.take i).all vok=Ac) 0 ?_ ?_ ?_
 ·grind
 ·refine vk 0
 rintro i ⟨h1,h2⟩;focus
  refine vAu<|zA<|vcD ((i:Int)<↑(Aa r)) (λhc=>?_)<|λhc=>?_;refine vKB<|vAe<|vA<|vr 4 (ix ↑i ↑(Aa r) (zM r≠[])/\3<=Aa (Ah (i*3)<|zM r)) (vs 12 (Az<|Aw 3<|Ah (i*3)<|zM r) (Az<|vaC<|Af r i Ai) (hd:=by simp(disch:=omega) only[zCu])<|vca [Az [iD<|Va.kind<|Af r i Ai,iD<|Va.int<|Af r i Ai,Ak<|AD<|bs<|Va.str<|Af r i Ai]] (by exact vvalid_c _)<|veT ?_) ⟨⟨(by omega),⟨(by omega),(by exact zF1 _)⟩⟩,(by exact zEd _ _)⟩;refine zAk (t:=!vok (Af r i Ai)) (by kernel_rfl) (λhc=>?_)<|λhc=>?_;simp only[A7]at hc;refine vAe<|zG<|zH<|zE<|zE<|zH<|zE<|vre (True) (Ak<|Ay Ad) (.inr rfl) ?_;rotate_left;simp only[Bool.not_eq_false']at hc;refine zL<|zD<|vN<|zB rfl<|vr 2 (i6 (↑i+1))<|vnil<|zC ?_;rotate_left;refine vZ2<|vAe<|zG<|vre (True) (Ak<|Ay Ac) (.inr rfl) ?_;rotate_left
 ·grind
 ·refine⟨i+1,⟨by omega,?_⟩,by omega,?_⟩
  ·grind [all_step,vok]
  refine vk 0
 grind
def zN9:List Va->List Va->List Bool->Int
 |[],[],_=>0
 |[],_::_,_=>-1
 |_::_,[],_=>1
 |a::r,b::s,ds=>if vcmp a b=0 then zN9 r s ds.tail else if ds.headD Ad then-vcmp a b else vcmp a b
theorem zN8:∀(a b:List Va),zN9 a b []=rcmp a b
 |[],[]=>rfl
 |[],_::_=>rfl
 |_::_,[]=>rfl
 |a::r,b::s=>by simp only[zN9,rcmp,List.tail_nil,List.headD_nil,AS,if_false];rw[zN8 r s]
theorem zLp:∀(i:Nat)(a b:List Va)(ds:List Bool),i<=a.length->i<=b.length->a.take i=b.take i->zN9 a b ds=zN9 (a.drop i) (b.drop i) (ds.drop i)
 |0,_,_,_,_,_,_=>rfl
 |i+1,[],b,_,h,_,_=>by simp at h
 |i+1,_::_,[],_,_,h,_=>by simp at h
 |i+1,x::a,y::b,ds,h1,h2,h3=>by
  simp only[List.take_succ_cons,List.cons.injEq]at h3;obtain⟨rfl,h3⟩:=h3;rw[zN9,if_pos ((zBy x x).2.1.2 rfl),zLp i a b ds.tail (by simpa using h1) (by simpa using h2) h3];cases ds<;>simp
theorem zS5(i:Nat)(a b:List Va)(ds:List Bool)(ha:i<a.length)(hb:i<b.length)(h:a.take i=b.take i)(hv:vcmp (a.getD i Ai) (b.getD i Ai)≠0):zN9 a b ds=if ds.getD i Ad then-vcmp (a.getD i Ai) (b.getD i Ai)else vcmp (a.getD i Ai) (b.getD i Ai):=by
 rw[zLp i a b ds (by omega) (by omega) h,Bh ha,Bh hb];simp only[AT,AF ha,AF hb,BV]at hv⊢;grind [zN9,List.head?_drop]
abbrev bl(b:Bool):D:=bD b
theorem headD_bl(l:List Bool)(k:Nat)(h:k<l.length):((l.map bD).drop k).headD .unk=bD (l.getD k Ad):=zCe bD l Ad k h
theorem rcmp_end(a b:List Va)(i:Nat)(ds:List Bool)(ha:i<=a.length)(hb:i<=b.length)(h:a.take i=b.take i)(he:i=a.length\/i=b.length):zN9 a b ds=if a.length<b.length then-1 else if a.length>b.length then 1 else 0:=by
 rw[zLp i a b ds ha hb h];rcases he with rfl|rfl
 ·rw[Cq];cases hc:b.drop a.length with
  |nil=>
   have:=congrArg Aa hc
   simp at this;rw[if_neg (by omega),if_neg (by omega)];rfl
  |cons x r=>
   have:=congrArg Aa hc
   simp at this;rw[if_pos (by omega)];rfl
 rw[Cq];cases hc:a.drop b.length with
 |nil=>
  have:=congrArg Aa hc
  simp at this;rw[if_neg (by omega),if_neg (by omega)];rfl
 |cons x r=>
  have:=congrArg Aa hc
  simp at this;rw[if_neg (by omega),if_pos (by omega)];rfl
set_option maxHeartbeats 2000000 in
theorem zWb(a b:List Va)(ds:List Bool)(n m k:Nat)(hn:a.length=n)(hm:b.length=m)(hk:ds.length=k)(ln:n<=1000000000)(lm:m<=1000000000)(lk:k<=1000000000):Pure Aj 150 [.row (zM a) n, .row (zM b) m, .row (ds.map bD) k] [] (iD (zN9 a b ds)):=by
 subst hn hm hk;refine zJ zCg mixed Tryz.func150 rfl<|vAu<|zA<|vAe<|zF<|zN (λ(i:Nat)=>fr 54 [(0,Am (zM a)<|Aa a),(1,Am (zM b)<|Aa b),(2,Am (Ag bD ds)<|Aa ds),(13,iD (if(Aa b:Int)<(Aa a:Int)then(Aa b:Int)else(Aa a:Int))),(14,iD (i:Int))]) (λ_=>[]) (λi=>a.length-i) (λi=>i<=a.length/\i<=b.length/\a.take i=b.take i) 0 ?_ ?_ ?_
 ·grind
 ·refine vk 0
 rintro i ⟨h1,h2,h3⟩;have hv:=(zBy (a.getD i Ai) (b.getD i Ai)).1;focus
  refine vAu<|zA<|vcD ((i:Int)<if(Aa b:Int)<(Aa a:Int)then(Aa b:Int)else(Aa a:Int)) (λhc=>?_)<|λhc=>?_;refine vKB<|vAe<|zA<|vd [0,1,2,4,5,6,3,7,8,9]<|vr 7 (ix ↑i ↑(Aa a) (zM a≠[])/\ix ↑i ↑(Aa b) (zM b≠[])/\3<=Aa (Ah (i*3)<|zM a)) (vs 20 (Az<|Aw 3<|Ah (i*3)<|zM a) (Az<|vaC<|Af a i Ai) (hd:=by simp(disch:=omega) only[zCu])<|vr 1 (3<=Aa (Ah (i*3)<|zM b)) (vs 24 (Az<|Aw 3<|Ah (i*3)<|zM b) (Az<|vaC<|Af b i Ai) (hd:=by simp(disch:=omega) only[zCu]) ?_) (by exact zEd _ _)) ⟨⟨(by omega),⟨(by omega),(by exact zF1 _)⟩⟩,⟨(by omega),⟨(by omega),(by exact zF1 _)⟩⟩,(by exact zEd _ _)⟩;refine vca [Az [iD<|Va.kind<|Af a i Ai,iD<|Va.int<|Af a i Ai,Ak<|AD<|bs<|Va.str<|Af a i Ai],Az [iD<|Va.kind<|Af b i Ai,iD<|Va.int<|Af b i Ai,Ak<|AD<|bs<|Va.str<|Af b i Ai]] (by exact zH2 _ _)<|veT<|zA<|vAe<|zAk (t:=vcmp (Af a i Ai) (Af b i Ai)==(0:Int)) (by kernel_rfl) (λhc=>?_)<|λhc=>?_;simp only[beq_iff_eq]at hc;refine vZ<|zB rfl<|vr 2 (i6 (↑i+1))<|vnil<|zC ?_;rotate_left;simp only[beq_eq_false_iff_ne]at hc;refine vK<|zA<|vA<|vrT 5<|vspD 32 ((i:Int)<↑(Aa ds)) (λhc=>?_)<|λhc=>?_;refine vr 3 (ix ↑i ↑(Aa ds) (Ag bD ds≠[])) (vp 35 i (Ag bD ds)<|vr 1 (0<Aa (Ah i<|Ag bD ds))<|vs 36 (AB (Ah i<|Ag bD ds) Uk) (bD<|Af ds i Ad) (hd:=by simp(disch:=omega) only[headD_bl])<|veT ?_) ⟨(by omega),⟨(by omega),(by exact zV)⟩⟩;refine zAk (t:=Af ds i Ad) (by kernel_rfl) (λhc=>?_)<|λhc=>?_;refine vA<|ve (i6 ((0:Int)-vcmp (Af a i Ai) (Af b i Ai)))<|zG<|zE<|zH<|zE<|zE<|zH<|zE<|vre (True) (Ak<|An AA ((0:Int)-vcmp (Af a i Ai) (Af b i Ai))) (.inr rfl) ?_;rotate_left;refine vK<|vAe<|zG<|zH<|zE<|zE<|zH<|zE<|vre (True) (Ak<|An AA<|vcmp (Af a i Ai)<|Af b i Ai) (.inr rfl) ?_;rotate_left;refine veT<|vf<|vK<|vAe<|zG<|zH<|zE<|zE<|zH<|zE<|vre (True) (Ak<|An AA<|vcmp (Af a i Ai)<|Af b i Ai) (.inr rfl) ?_;rotate_left;refine vZ2<|vB<|vAe<|vcD ((Aa a:Int)<(Aa b:Int)) (λhc=>?_)<|λhc=>?_;refine vAe<|zG<|zH<|zE<|vre (True) (q0_) (.inr rfl) ?_;rotate_left;refine vAe<|vcD ((Aa a:Int)>(Aa b:Int)) (λhc=>?_)<|λhc=>?_;refine vAe<|zG<|zH<|zE<|vre (True) (q1_) (.inr rfl) ?_;rotate_left;refine zL<|zD<|vN<|vAe<|zG<|vre (True) (q2_) (.inr rfl) ?_;rotate_left
 ·refine⟨i+1,⟨by omega,by omega,?_⟩,by omega,?_⟩
  ·grind [zMh]
  refine vk 0
 ·grind [zS5,Int.zero_sub]
 ·grind [zS5]
 ·rw[zS5 i a b ds (by omega) (by omega) h3 (by assumption),if_neg];grind
 all_goals grind [rcmp_end]
theorem zDr(a b:List Va)(n m:Nat)(hn:a.length=n)(hm:b.length=m)(ln:n<=1000000000)(lm:m<=1000000000):Pure Aj 113 [.row (zM a) n, .row (zM b) m] [] (iD (rcmp a b)):=by
 refine zJ zCg mixed Tryz.func113 rfl<|vAu<|vA<|vrT 2<|vcl [Am (zM a) n,Am (zM b) m,nl] [Am (zM a) n,Am (zM b) m,Am [] 0] (LeL.trans (LeL.refl _)<|LeL.cons (LeD.refl _)<|LeL.cons (LeD.refl _)<|LeL.cons LeD.nil_row LeL.nil) (by exact zWb a b [] _ _ 0 hn hm rfl ln lm (by omega))<|veT<|zG<|vre (True) (Ak<|An AA<|zN9 a b []) (.inr rfl) ?_;rw[zN8]
theorem zKk(a b:List Va)(n m:Nat)(hn:a.length=n)(hm:b.length=m)(ln:n<=1000000000)(lm:m<=1000000000):Pure Aj 116 [.row (zM a) n, .row (zM b) m] [] (bD (decide (a=b))):=by
 refine zJ zCg mixed Tryz.func116 rfl<|vAu<|vA<|vrT 2<|vc (zDr a b _ _ hn hm ln lm)<|veT<|zG<|vre (True) (Ak<|Ay (rcmp a b==(0:Int))) (.inr rfl) ?_;congr 2;rw[Bool.eq_iff_iff];simp[(zD1 a b).2.1]
abbrev vaB(l:List Va):Bk:=⟨zM l,107,3,Ac,Ad, .plain⟩
theorem repL_va(n:Nat):repL n [.val (.int .i64 0), .val (.int .i64 0), .val (.string ⟨#[]⟩)]=zM (As n ⟨0,0,[]⟩):=by
 induction n with
 |zero=>rfl
 |succ n ih=>simp only[repL,B7,Cc]at ih⊢;rw[ih];rfl
def zQ(r:List Va)(cols:List Nat):List Va:=cols.map λc=>r.getD c Ai
theorem set3_va(r:List Va)(i:Nat)(v:Va)(h:i<r.length):(((zM r).set (i*3) (iD v.kind)).set (i*3+1) (iD v.int)).set (i*3+1+1) (strD v.str)=zM (r.set i v):=zR4 r i v h
theorem zVq(r:List Va)(n:Nat)(h:r.length=n):(zM r).take (n*3)=zM r:=by grind [Bl,zB6]
theorem zEr:kdOf Ad= .plain:=rfl
theorem zSs{a b:List α}(d:α)(ha:i<a.length)(hb:i<b.length)(h:a.take i=b.take i):(a.set i (b.getD i d)).take (i+1)=b.take (i+1):=by
 rw[By (by simpa using ha),By hb,List.take_set_of_le (Al _),h,List.getElem_set_self,AT,AF hb];rfl
theorem pickV_getD(r:List Va)(cols:List Nat)(i:Nat)(h:i<cols.length):(zQ r cols).getD i Ai=r.getD (cols.getD i 0) default:=by
 simp only[zQ,AT,BU,AF h,Bw,BV]
abbrev q3_(x0:List Va):=Am (zM x0) (Aa x0)
set_option maxHeartbeats 2000000 in
theorem zH8(r:List Va)(cols:List Nat)(n m:Nat)(hn:r.length=n)(hm:cols.length=m)(ln:n<=1000000000)(lm:m<=100000)(hc:∀c∈cols,c<r.length):Pure Aj 141 [.row (zM r) n, .row (cols.map λc=>iD (c:Nat)) m] [] (.tup [.row (zM (zQ r cols)) m,iD 0]):=by
 subst hn hm;have hci:∀i,i<cols.length->cols.getD i 0<r.length:=λi h=>by
  simp_all
 have hd:∀i,i<cols.length->((cols.map λc=>iD ((c:Nat):Int)).drop i).headD .unk=iD (cols.getD i 0:Nat):=λi h=>zCe (λc:Nat=>iD (c:Int)) cols 0 i h;refine zJ zCg mixed Tryz.func141 rfl<|vAu<|zA<|vAe<|zF<|zN (λ(i:Nat)=>fr 49 [(0,Am (zM r)<|Aa r),(1,Am (Ag (λ(c:Nat)=>iD (c:Int)) cols)<|Aa cols),(10,iD (Aa cols:Int)),(11,iD (i:Int))]) (λ_=>[]) (λi=>cols.length-i) (λi=>i<=cols.length) 0 ?_ ?_ ?_
 ·omega
 ·refine vk 0
 rintro i h1;have hi:=hci i;focus
  refine vAu<|zA<|vcD ((i:Int)<↑(Aa cols)) (λhc=>?_)<|λhc=>?_;refine vKB<|vAe<|vA<|vr 3 (ix ↑i ↑(Aa cols) (Ag (λ(c:Nat)=>iD c) cols≠[])) (vp 16 i (Ag (λ(c:Nat)=>iD c) cols)<|vr 1 (0<Aa (Ah i<|Ag (λ(c:Nat)=>iD c) cols))<|vs 17 (AB (Ah i<|Ag (λ(c:Nat)=>iD c) cols) Uk) (iD ↑(Af cols i 0)) ?_) ⟨(by omega),⟨(by omega),(by exact zV)⟩⟩;refine vw 5 [] [(5,Ad)] (decide ((↑(Af cols i 0):Int)<0)=Ad/\ix ↑i ↑(Aa cols) (Ag (λ(c:Nat)=>iD c) cols≠[])) (vp 22 i (Ag (λ(c:Nat)=>iD c) cols)<|vr 1 (0<Aa (Ah i<|Ag (λ(c:Nat)=>iD c) cols))<|vs 23 (AB (Ah i<|Ag (λ(c:Nat)=>iD c) cols) Uk) (iD ↑(Af cols i 0))<|veT<|vF ((↑(Af cols i 0):Int)>=(Aa r:Int))<|zL<|zD<|vN<|zB rfl<|vr 2 (i6 (↑i+1))<|vnil<|zC ?_) ⟨(by kernel_rfl),⟨(by omega),⟨(by omega),(by exact zV)⟩⟩⟩;rotate_left;refine vZ2<|vA<|ve ((0:Int)<=(Aa cols:Int)/\(Aa cols:Int)<=(Aa cols:Int)/\(↑(32:Nat):Int)*(Aa cols:Int)<=(281474976710656:Int)/\(Aa cols:Int)<=(281474976710656:Int)/\0<3/\3=3)<|zA<|vAe<|zF ?_;rotate_left
 ·refine⟨i+1,by omega,by omega,?_⟩;refine vk 0
 refine zBp (λ(i:Nat)(cur:List Va)=>fr 49 [(0,(q3_ r)),(1,Am (Ag (λ(c:Nat)=>iD c) cols)<|Aa cols),(7,AL 0 0 (Aa cols) (Aa cols*3) Ac),(33,iD<|Aa cols),(34,iD i)]) (λi cur=>[vaB cur]) (λi cur=>cols.length-i) (λi cur=>i<=cols.length/\cur.length=cols.length/\cur.take i=(zQ r cols).take i) 0 (As cols.length<|Va.mk 0 0 []) ?_ ?_ ?_
 ·grind
 ·refine wkn (fr 49 [(0,Am (zM r) (Aa r)),(1,Am (Ag (λ(c:Nat)=>iD (↑c:Int)) cols) (Aa cols)),(7,AL 0 0 (Aa cols) (Aa cols*3) Ac),(33,iD (↑(Aa cols):Int)),(34,iD 0)]) [Ao (repL (Aa cols) [iD 0,iD 0,Ak (AD (Bo #[]))]) 107 3 Ac Ad (kdOf Ad)] (zH1 [(0,1),(1,1),(7,1),(33,1),(34,1)] (Am (zM r) (Aa r)=Am (zM r) (Aa r)/\Am (Ag (λ(c:Nat)=>iD (↑c:Int)) cols) (Aa cols)=Am (Ag (λ(c:Nat)=>iD (↑c:Int)) cols) (Aa cols)/\AL 0 0 (Aa cols) (Aa cols*3) Ac=AL 0 0 (Aa cols) (Aa cols*3) Ac/\iD (↑(Aa cols):Int)=iD (↑(Aa cols):Int)/\iD 0=iD (↑(0:Nat):Int)) 1 [] (by kernel_rfl) ⟨rfl,rfl,rfl,rfl,(by kernel_rfl)⟩ (by kernel_rfl) (λ_ _=>rfl) (by simp[updB,repL_va,zEr]))
 rintro j cur ⟨k1,k2,k3⟩;have hj:=hci j;focus
  refine vAu<|zA<|vcD ((j:Int)<↑(Aa cols)) (λhc=>?_)<|λhc=>?_;refine vKB<|vAe<|zB rfl<|vr 6 (ix ↑j ↑(Aa cols) (Ag (λ(c:Nat)=>iD c) cols≠[])) (vp 42 j (Ag (λ(c:Nat)=>iD c) cols)<|vr 1 (0<Aa (Ah j<|Ag (λ(c:Nat)=>iD c) cols))<|vs 43 (AB (Ah j<|Ag (λ(c:Nat)=>iD c) cols) Uk) (iD ↑(Af cols j 0))<|vr 2 (ix ↑(Af cols j 0) ↑(Aa r) (zM r≠[])/\3<=Aa (Ah (Af cols j 0*3)<|zM r)) ?_ ⟨⟨(by omega),⟨(by omega),(by exact zF1 _)⟩⟩,(by exact zEd _ _)⟩) ⟨(by omega),⟨(by omega),(by exact zV)⟩⟩;refine vs 45 (Az<|Aw 3<|Ah (Af cols j 0*3)<|zM r) (Az<|vaC<|Af r (Af cols j 0) Ai) (hd:=by simp(disch:=omega) only[zCu])<|vr 1 ((0:Int)<=(j:Int)/\(j:Int)<↑(Aa cols))<|vo0 46 0 (j*3)<|vr 1 (Bk.fz (vaB cur)=Ad/\Ac=Ac/\3=3/\j*3+3<=Aa (Ar<|vaB cur)/\¬0∈[]) (vb 0 (Ao (setAt (Ar<|vaB cur) (j*3) [iD<|Va.kind<|Af r (Af cols j 0) Ai,iD<|Va.int<|Af r (Af cols j 0) Ai,Ak<|AD<|bs<|Va.str<|Af r (Af cols j 0) Ai]) (Bk.ty<|vaB cur) (Bk.sz<|vaB cur) Ac Ad<|Bk.kd<|vaB cur) (Ao (zM<|Aq cur j<|Af r (Af cols j 0) Ai) (107:TypeId) 3 Ac Ad Ap) (hd:=by simp(disch:=omega) only[setAt,set3_va])<|vnil<|zD<|vN<|zB rfl<|vr 2 (i6 (↑j+1))<|vnil<|zC ?_) ⟨(by kernel_rfl),⟨(by kernel_rfl),⟨(by kernel_rfl),⟨(by(simp[zB6];omega)),(by decide)⟩⟩⟩⟩;rotate_left;refine vZ2<|vAe<|zG<|zBt (True) (D.tup [Am (Aw (Aa cols*3)<|Ah 0<|Ar<|vaB cur)<|Aa cols,iD 0]) (D.tup [Am (Aw (Aa cols*3)<|zM cur)<|Aa cols,Ak<|An AA 0]) (.inr rfl) (by simp(disch:=omega) only[A1]) ?_;rotate_left
 ·refine⟨j+1,cur.set j (r.getD (cols.getD j 0) Ai),⟨by omega,by simpa using k2,?_⟩,by omega,?_⟩
  ·rw[<-pickV_getD r cols j (by omega)];grind [zSs,zQ]
  refine vk 1
 grind [zVq,BP,Bl,zQ]
end
variable{ej:Bk}
section
open Go.RowKit
theorem RelL.putAt{I:Im}{w:World}{β:Be}:∀{ds:List D}{vs:List Value}{i:Nat}{x:D},RelL I w β ds vs->(∀d v,ds[i]?=Ab d->vs[i]?=Ab v->Rel I w β d v->Rel I w β x v)->RelL I w β (ds.set i x) vs
 |[],vs,i,x,h,hx=>by simpa using h
 | d::ds,vs,i,x,h,hx=>by
  simp only[RelL]at h;obtain⟨v,us,rfl,h1,h2,h3⟩:=h;cases i with
  |zero=>simp only[List.set_cons_zero,RelL];exact⟨v,us,rfl,h1,hx d v rfl rfl h2,h3⟩
  |succ i=>
   simp only[List.set_cons_succ,RelL];exact⟨v,us,rfl,h1,h2,h3.putAt λd v hd hv=>hx d v (by simpa using hd) (by simpa using hv)⟩
section
variable{T:Par}{sl:List D}{st:List Bk}
theorem Weak.fzCell{ks:List Nat}(hj:st[j]?=Ab ej)(hm:ej.kd.isMap=Ad)(hf:ej.nob=Ad)(hi:ej.cells[i]?=Ab d)(hx:frz Ac st zAz d=Ab (x,ks))(hjk:j∉ks):Weak T sl st sl ((zA3 st ks).set j {ej with cells:=ej.cells.set i x}):=by
 intro β I w tm h;have hjl:j<st.length:=(A4.1 hj).1;have hfr:=λv hv=>zCp h.sr.weak _ _ _ _ v hx hv;have hget:∀k,((zA3 st ks).set j {ej with cells:=ej.cells.set i x})[k]?=if k=j then Ab {ej with cells:=ej.cells.set i x}else(st[k]?).map λe=>if k∈ks then{e with fz:=Ac}else e:=λk=>by
  grind [zBn,zAc]
 refine⟨β,fixI I β st ks,⟨RelT.mono (zAv ks) β β (AW _) _ _ h.rel,λk b c hk=>?_,h.inj,λk b c o e hk he hi'=>?_,λk y hk=>?_,zFw h.sr.weak h.imb ks,h.gl.mono (zAv ks)⟩,⟨zAv ks,Al _,λ_ _ _=>rfl,rfl,rfl,rfl,Al _,λk b c hk=> .inl ⟨k,c,hk⟩,λb o hb=>?_⟩,AP _ _⟩
 ·obtain⟨e,k1,k2⟩:=h.sr k b c hk;by_cases hkj:k=j
  ·subst hkj;rw[hj]at k1;cases k1;refine⟨_,(hget k).trans (if_pos rfl),?_⟩;obtain⟨cur,c1,c2,c3,c4⟩:=k2.c hm;refine OwnC.r ⟨cur,c1,by simpa using c2,?_,c4⟩ hm;have hn2:({ej with cells:=ej.cells.set i x}:Bk).nob=false:=hf;rw[hn2];rw[hf]at c3;simp only[BD,AS,if_false]at c3⊢;refine(RelL.mono (zAv ks) β β (AW _) _ _ c3).putAt λd' v hd hv hr=>?_;rw[hi]at hd;cases hd;obtain⟨v',g1,g2,g3⟩:=c3.get i d hi;grind [Rel.no]
  refine⟨if k∈ks then{e with fz:=Ac}else e,by rw[hget,if_neg hkj,k1];rfl,?_⟩;have k3:=BJ (β':=β) k2 rfl (zAv (β:=β) (st:=st) ks) (AW _);split
  ·exact k3.like rfl rfl rfl rfl rfl
  exact k3
 ·rw[hget]at he;by_cases hkj:k=j
  ·subst hkj;rw[if_pos rfl]at he;cases he;rcases hi' with hi'|⟨k',hk',c',e',m1,m2,m3⟩
   ·have:=h.fz k b c o ej hk hj hi'
    grind
   have:=h.inj k' k b c' c m1 hk
   subst this;exact absurd hk' hjk
  rw[if_neg hkj]at he;obtain⟨e0,he0,rfl⟩:=Ax.1 he;rcases hi' with hi'|⟨k',hk',c',e',m1,m2,m3⟩
  ·have:=h.fz k b c o e0 hk he0 hi'
   grind
  have:=h.inj k' k b c' c m1 hk
  grind
 ·rw[BD,zAc];exact h.dom k y hk
 rcases hb with hb|⟨k',_,c',_,m1,_⟩;all_goals grind
theorem Weak.osr{s:Nat}{k off n m:Nat}{wh:Bool}{cs:List D}(hs:sl[s]?=Ab (.osl k off n m wh))(hx:frz Ac st zAz (.osl k off n m wh)=Ab (.row cs n,[k])):Weak T sl st (sl.set s (.osr k off n m wh cs)) (zA3 st [k]):=by
 intro β I w tm h;obtain⟨v,hv,hr⟩:=h.rel.get s _ hs;have hfr:=zCp h.sr.weak _ _ _ _ v hx hr;have hget:∀j,(zA3 st [k])[j]?=(st[j]?).map λe=>if j∈[k]then{e with fz:=Ac}else e:=λj=>zBn [k] st j
 refine⟨β,fixI I β st [k],⟨?_,λj b c hj=>?_,h.inj,λj b c o e hj he hi'=>?_,λj y hj=>?_,zFw h.sr.weak h.imb [k],h.gl.mono (zAv [k])⟩,⟨zAv [k],Al _,λ_ _ _=>rfl,rfl,rfl,rfl,Al _,λj b c hj=> .inl ⟨j,c,hj⟩,λb o hb=>?_⟩,AP _ _⟩
 ·have h0:=RelT.mono (zAv (β:=β) (st:=st) [k]) β β (AW _) _ _ h.rel;refine RelT.of_get (by rw[BD,h0.length]) λi d u hd hu=>?_;rw[List.getElem?_set]at hd;split at hd
  ·rename_i e;subst e;split at hd
   ·cases hd;rw[hv]at hu;cases hu;simp only[Rel]at hr hfr⊢;exact⟨hr,hfr⟩
   cases hd
  obtain⟨u',g1,g2⟩:=h0.get i d hd;rw[hu]at g1;cases g1;exact g2
 ·obtain⟨e,k1,k2⟩:=h.sr j b c hj;refine⟨if j∈[k]then{e with fz:=Ac}else e,by rw[hget,k1];rfl,?_⟩;have k3:=BJ (β':=β) k2 rfl (zAv (β:=β) (st:=st) [k]) (AW _);split
  ·exact k3.like rfl rfl rfl rfl rfl
  exact k3
 ·rw[hget]at he;obtain⟨e0,he0,rfl⟩:=Ax.1 he;rcases hi' with hi'|⟨k',hk',c',e',m1,m2,m3⟩
  ·have:=h.fz j b c o e0 hj he0 hi'
   grind
  have:=h.inj k' j b c' c m1 hj
  grind
 ·rw[zAc];exact h.dom j y hj
 rcases hb with hb|⟨k',_,c',_,m1,_⟩;all_goals grind
theorem Weak.nilC(b:Bk)(hj:st[j]?=Ab ej)(hm:ej.kd.isMap=Ad)(hf:ej.nob=Ad)(hi:ej.cells[i]?=Ab (.val (.slice Ae 0 0))):Weak T sl st sl (st.set j {ej with cells:=ej.cells.set i (.osl st.length 0 0 0 Ac)}++[b]):=by
 intro β I w tm h;have hjl:j<st.length:=(A4.1 hj).1;have hget:∀k,k<st.length->(st.set j {ej with cells:=ej.cells.set i (.osl st.length 0 0 0 Ac)}++[b])[k]?=if k=j then Ab {ej with cells:=ej.cells.set i (.osl st.length 0 0 0 Ac)}else st[k]?:=λk hk=>by
  grind
 refine⟨β,I,⟨h.rel,λk b' c hk=>?_,h.inj,λk b' c o e hk he hi'=>?_,λk y hk=>?_,h.imb,h.gl⟩,AV _ _ _,AP _ _⟩
 ·obtain⟨e,k1,k2⟩:=h.sr k b' c hk;rw[hget k (h.dom k _ hk)];by_cases hkj:k=j
  ·subst hkj;rw[hj]at k1;cases k1;refine⟨_,if_pos rfl,?_⟩;obtain⟨cur,c1,c2,c3,c4⟩:=k2.c hm;refine OwnC.r ⟨cur,c1,by simpa using c2,?_,c4⟩ hm;have hn2:({ej with cells:=ej.cells.set i (.osl st.length 0 0 0 Ac)}:Bk).nob=false:=hf;rw[hn2];rw[hf]at c3;simp only[BD,AS,if_false]at c3⊢;refine c3.putAt λd v hd hv hr=>?_;rw[hi]at hd;cases hd;simp only[Rel]at hr⊢;grind
  grind
 ·have hlt:=h.dom k _ hk;rw[hget k hlt]at he;by_cases hkj:k=j
  ·subst hkj;rw[if_pos rfl]at he;cases he
   have:=h.fz k b' c o ej hk hj hi'
   grind
  rw[if_neg hkj]at he;exact h.fz k b' c o e hk he hi'
 rw[A5,BD]
 have:=h.dom k y hk
 omega
theorem zBh(h:Weak T sl st sl' st')(k:awp P T b Q sl' st'):zZ P T b Q sl st:=⟨_,_,h,k⟩
end
end
abbrev Tri:=List (List Va×List Nat)
def szT:Tri->Nat
 |[]=>0
 |l::_=>l.1.length
def adT:List Va->Nat->Tri->Tri
 |v::x,0,l::t=>(l.1++[v],l.2++[szT t])::adT x 0 t
 |v::x,f+1,l::t=>l::adT x f t
 |_,_,t=>t
def finT:Tri->Tri
 |[]=>[]
 |l::t=>(l.1,l.2++[szT t])::finT t
def rws:Tri->Nat->Nat->List (List Va)
 |[],_,_=>[[]]
 |l::t,a,b=>(List.range' a (b-a)).flatMap λi=>(rws t (l.2.getD i 0) (l.2.getD (i+1) 0)).map (l.1.getD i Ai::·)
def InvT:Tri->Prop
 |[]=>True
 |l::t=>l.2.length=l.1.length/\(t≠[]->∀i,i<l.1.length->l.2.getD i 0<szT t)/\InvT t
def Goes:Tri->Tri->Prop
 |[],t'=>t'=[]
 |l::t,[]=>False
 |l::t,l'::t'=>(∃p,l'.1=l.1++p)/\(∃r,l'.2=l.2++r)/\Goes t t'
theorem zBr(p r:List α)(d:α)(i:Nat)(h:i<p.length:=by omega):(p++r).getD i d=p.getD i d:=by
 grind
theorem zE8{g h:Nat->List β}(a n:Nat)(e:∀i,a<=i->i<a+n->g i=h i):(List.range' a n).flatMap g=(List.range' a n).flatMap h:=by
 induction n generalizing a with
 |zero=>rfl
 |succ n ih=>
  rw[List.range'_succ,Bc,Bc,e a (Al _) (by omega),ih (a+1) λi h1 h2=>e i (by omega) (by omega)]
variable{t:Tri}
theorem finT_nil:finT t=[]↔t=[]:=by cases t<;>simp[finT]
theorem rws_goes:∀(t t':Tri)(a b:Nat),InvT t->Goes t t'->b<szT t->rws (finT t') a b=rws (finT t) a b
 |[],t',a,b,hi,hg,hb=>by rw[show t'=[]from hg]
 |l::t,[],a,b,hi,hg,hb=>absurd hg (by simp[Goes])
 |l::t,l'::t',a,b,⟨h1,h2,h3⟩,⟨⟨p,hp⟩,⟨r,hr⟩,hg⟩,hb=>by
  simp only[finT,rws];simp only[szT]at hb;refine zE8 a _ λi i1 i2=>?_;rw[hp,hr,Cr,zBr l.1 p _ i,zBr l.2 _ _ i,zBr l.2 _ _ (i+1),zBr l.2 _ _ i,zBr l.2 _ _ (i+1)];congr 1;cases t with
  |nil=>rw[show t'=[]from hg]
  |cons m t=>exact rws_goes _ _ _ _ h3 hg (h2 (by simp) _ (by omega))
theorem rws_add0:∀(t:Tri)(x:List Va)(a b:Nat),InvT t->x.length=t.length->b<=szT t->rws (finT (adT x 0 t)) a b=rws (finT t) a b
 |[],x,a,b,hi,hx,hb=>by cases x<;>rfl
 |l::t,[],a,b,hi,hx,hb=>by simp at hx
 | l::t,v::x,a,b,⟨h1,h2,h3⟩,hx,hb=>by
  simp only[adT,finT,rws];simp only[szT]at hb;refine zE8 a _ λi i1 i2=>?_;rw[zBr l.1 _ _ i,zBr (l.2++[szT t]) _ _ i (h:=by simp;omega),zBr (l.2++[szT t]) _ _ (i+1) (h:=by simp;omega)];congr 1;cases t with
  |nil=>cases x with
   |nil=>rfl
   |cons _ _=>simp at hx
  |cons m t=>
   refine rws_add0 _ _ _ _ h3 (by simpa using hx) ?_;grind
theorem zFf(t:Tri)(x:List Va)(hx:x.length=t.length):szT (adT x 0 t)=if t=[]then 0 else szT t+1:=by
 cases t with
 |nil=>cases x<;>rfl
 |cons l t=>cases x with
  |nil=>simp at hx
  |cons v x=>simp[adT,szT]
theorem rws_new:∀(t:Tri)(x:List Va),InvT t->x.length=t.length->rws (finT (adT x 0 t)) (szT t) (szT t+1)=[x]
 |[],x,hi,hx=>by cases x with
  |nil=>rfl
  |cons _ _=>simp at hx
 |l::t,[],hi,hx=>by simp at hx
 | l::t,v::x,⟨h1,h2,h3⟩,hx=>by
  show rws (finT ((l.1++[v],l.2++[szT t])::adT x 0 t)) l.1.length (l.1.length+1)=_;simp only[finT,rws];rw[show l.1.length+1-l.1.length=1 by omega,List.range'_one,Bc,List.flatMap_nil,Cd];have e1:(l.1++[v]).getD l.1.length Ai=v:=by
   grind
  have e2:(l.2++[szT t]++[szT (adT x 0 t)]).getD l.1.length 0=szT t:=by
   grind
  have e3:(l.2++[szT t]++[szT (adT x 0 t)]).getD (l.1.length+1) 0=szT (adT x 0 t):=by
   grind
  rw[e1,e2,e3];cases t with
  |nil=>cases x with
   |nil=>rfl
   |cons _ _=>simp at hx
  |cons m t=>
   rw[zFf _ _ (by simpa using hx),if_neg (by simp),rws_new _ _ h3 (by simpa using hx)];rfl
theorem zN3(t:Tri)(a b c:Nat)(ht:t≠[])(h1:a<=b)(h2:b<=c):rws t a c=rws t a b++rws t b c:=by
 cases t with
 |nil=>exact absurd rfl ht
 |cons l t=>
  simp only[rws];rw[<-List.flatMap_append,show c-a=(b-a)+(c-b) by omega,<-List.range'_append_1,show a+(b-a)=b by omega]
theorem rws_one(l:List Va×List Nat)(t:Tri)(i:Nat):rws (l::t) i (i+1)=(rws t (l.2.getD i 0) (l.2.getD (i+1) 0)).map (l.1.getD i Ai::·):=by
 simp only[rws];simp_all
def Lst:Nat->List Va->Tri->Prop
 |0,_,_=>True
 |f+1,v::x,l::t=>0<l.1.length/\l.1.getD (l.1.length-1) Ai=v/\Lst f x t
 |_,_,_=>False
theorem zK8:∀(f:Nat)(x:List Va)(t:Tri),x.length=t.length->Goes t (adT x f t)
 |_,[],t,hx=>by
  cases t with
  |nil=>rfl
  |cons _ _=>simp at hx
 |_,v::x,[],hx=>by simp at hx
 |0,v::x,l::t,hx=>⟨⟨[v],rfl⟩,⟨[szT t],rfl⟩,zK8 0 x t (by simpa using hx)⟩
 |f+1,v::x,l::t,hx=>⟨⟨[],by simp⟩,⟨[],by simp⟩,zK8 f x t (by simpa using hx)⟩
theorem zSi(f:Nat)(x:List Va)(t:Tri)(hx:x.length=t.length):szT (adT x (f+1) t)=szT t:=by
 cases t with
 |nil=>cases x<;>rfl
 |cons l t=>cases x with
  |nil=>simp at hx
  |cons v x=>rfl
theorem zYt:∀(f:Nat)(x:List Va)(t:Tri)(a:Nat),InvT t->x.length=t.length->f<x.length->Lst f x t->(a<=szT t/\(0<f->a<szT t))->rws (finT (adT x f t)) a (szT (adT x f t))=rws (finT t) a (szT t)++[x]
 |0,x,t,a,hi,hx,hf,hl,ha=>by
  have ht:t≠[]:=λe=>by subst e;rw[hx]at hf;exact absurd hf (by simp)
  rw[zFf t x hx,if_neg ht,zN3 _ a (szT t) _ (by rw[Ne,finT_nil];intro e;have:=zK8 0 x t hx;rw[e]at this;cases t<;>simp[Goes]at this;exact ht rfl) ha.1 (by omega),rws_add0 t x a _ hi hx (Al _),rws_new t x hi hx]
 |f+1,[],t,a,hi,hx,hf,hl,ha=>by simp at hf
 |f+1,v::x,[],a,hi,hx,hf,hl,ha=>by simp at hx
 | f+1,v::x,l::t,a,⟨h1,h2,h3⟩,hx,hf,⟨hl1,hl2,hl3⟩,ha=>by
  have hx':x.length=t.length:=by simpa using hx
  have hf':f<x.length:=by simpa using hf
  have ht:t≠[]:=λe=>by subst e;rw[hx']at hf';exact absurd hf' (by simp)
  have hz:szT (l::t)=l.1.length:=rfl;have ha':a<l.1.length:=ha.2 (by omega);have hg:=zK8 (f+1) (v::x) (l::t) hx;have hzz:szT (adT (v::x) (f+1) (l::t))=l.1.length-1+1:=by rw[zSi _ _ _ hx,hz];omega
  have hzs:szT (l::t)=l.1.length-1+1:=by rw[hz];omega
  rw[hzz,hzs];rw[zN3 _ a (l.1.length-1) _ (by simp[adT,finT]) (by omega) (by omega),zN3 (finT (l::t)) a (l.1.length-1) _ (by simp[finT]) (by omega) (by omega),
   rws_goes (l::t) _ a _ ⟨h1,h2,h3⟩ hg (by rw[hz];omega),Cr]
  congr 1;simp only[adT,finT];rw[rws_one,rws_one];have g1:∀z,(l.2++[z]).getD (l.1.length-1) 0=l.2.getD (l.1.length-1) 0:=λz=>zBr _ _ _ _;have g2:∀z,(l.2++[z]).getD (l.1.length-1+1) 0=z:=λz=>by
   grind
  have hlt:=h2 ht (l.1.length-1) (by omega);rw[g1,g1,g2,g2,hl2,zYt f x t _ h3 hx' hf' hl3 ⟨Nat.le_of_lt hlt,λ_=>hlt⟩,List.map_append];rfl
theorem szT_le(f:Nat)(x:List Va)(t:Tri)(hx:x.length=t.length):szT t<=szT (adT x f t):=by
 cases f with
 |zero=>
  rw[zFf t x hx];split
  ·rename_i h;subst h;exact Al _
  omega
 |succ f=>rw[zSi f x t hx];exact Al _
theorem adT_ne{f:Nat}{x:List Va}(hx:x.length=t.length)(h:adT x f t≠[]):t≠[]:=by
 rintro rfl;cases x with
 |nil=>exact h (by cases f<;>rfl)
 |cons v x=>simp at hx
theorem zL2:∀(f:Nat)(x:List Va)(t:Tri),InvT t->x.length=t.length->InvT (adT x f t)
 |_,[],t,hi,hx=>by
  cases t with
  |nil=>exact hi
  |cons _ _=>simp at hx
 |_,v::x,[],hi,hx=>by simp at hx
 |0,v::x,l::t,⟨h1,h2,h3⟩,hx=>by
  have hx':x.length=t.length:=by simpa using hx
  refine⟨by simp[h1],λht i hi=>?_,zL2 0 x t h3 hx'⟩;have ht':=adT_ne hx' ht;rw[zFf t x hx',if_neg ht'];grind
 |f+1,v::x,l::t,⟨h1,h2,h3⟩,hx=>by
  have hx':x.length=t.length:=by simpa using hx
  exact⟨h1,λht i hi=>BZ (h2 (adT_ne hx' ht) i hi) (szT_le f x t hx'),zL2 f x t h3 hx'⟩
theorem zTh:∀(f:Nat)(x:List Va)(t:Tri),x.length=t.length->Lst f x t->Lst x.length x (adT x f t)
 |_,[],t,hx,h=>trivial
 |_,v::x,[],hx,h=>by simp at hx
 |0,v::x,l::t,hx,h=>by
  have hx':x.length=t.length:=by simpa using hx
  refine⟨by simp,?_,zTh 0 x t hx' trivial⟩;grind
 |f+1,v::x,l::t,hx,⟨h1,h2,h3⟩=>⟨h1,h2,zTh f x t (by simpa using hx) h3⟩
def shr:List Va->List Va->Nat
 |a::x,b::y=>if vcmp a b=0 then shr x y+1 else 0
 |_,_=>0
theorem zSp(y:List Va):shr [] y=0:=by cases y<;>rfl
theorem lst_shr:∀(x y:List Va)(t:Tri),x.length=y.length->Lst x.length x t->Lst (shr x y) y t
 |[],y,t,hx,h=>by rw[zSp];exact trivial
 |a::x,[],t,hx,h=>by simp at hx
 |a::x,b::y,[],hx,h=>h.elim
 | a::x,b::y,l::t,hx,⟨h1,h2,h3⟩=>by
  rw[shr];split
  ·rename_i e;obtain rfl:=(zBy a b).2.1.1 e;exact⟨h1,h2,lst_shr x y t (by simpa using hx) h3⟩
  trivial
theorem shr_lt:∀(x y:List Va),x.length=y.length->x≠y->shr x y<y.length
 |[],y,hx,h=>by
  grind
 |a::x,[],hx,h=>by simp at hx
 | a::x,b::y,hx,h=>by
  rw[shr];split
  ·rename_i e;obtain rfl:=(zBy a b).2.1.1 e
   have:=shr_lt x y (by simpa using hx) (λe=>h (by rw[e]))
   simpa using this
  simp
def bldT:List Va->List (List Va)->Tri->Tri
 |_,[],t=>t
 |last,x::L,t=>bldT x L (adT x (shr last x) t)
def Dst:List Va->List (List Va)->Prop
 |_,[]=>True
 |last,x::L=>last≠x/\Dst x L
theorem zG8:∀(f:Nat)(x:List Va)(t:Tri),(adT x f t).length=t.length
 |0,[],t=>by rfl
 |f+1,[],t=>by rfl
 |0,v::x,[]=>rfl
 |f+1,v::x,[]=>rfl
 |0,v::x,l::t=>by simp only[adT,A_,zG8 0 x t]
 |f+1,v::x,l::t=>by simp only[adT,A_,zG8 f x t]
theorem bld_spec(n:Nat):∀(L:List (List Va))(last:List Va)(t:Tri),InvT t->t.length=n->last.length=n->(∀x∈L,x.length=n)->Lst last.length last t->Dst last L->0<szT t->
  InvT (bldT last L t)/\(bldT last L t).length=n/\rws (finT (bldT last L t)) 0 (szT (bldT last L t))=rws (finT t) 0 (szT t)++L
 |[],last,t,hi,ht,hl,hL,hls,hd,hz=>⟨hi,ht,by simp[bldT]⟩
 |x::L,last,t,hi,ht,hl,hL,hls,⟨hd1,hd2⟩,hz=>by
  have hxn:=hL x (by simp);have hxt:x.length=t.length:=by omega
  have hs:=lst_shr last x t (by omega) hls;have h1:=zYt (shr last x) x t 0 hi hxt (shr_lt last x (by omega) hd1) hs ⟨A9 _,λ_=>hz⟩
  have:=bld_spec n L x (adT x (shr last x) t) (zL2 _ _ _ hi hxt) (by rw[zG8];exact ht) hxn (λy hy=>hL y (by simp[hy])) (zTh _ _ _ hxt hs) hd2 (BZ hz (szT_le _ _ _ hxt))
  rw[h1,Cr]at this;exact this
def zCn(n:Nat)(L:List (List Va)):Tri:=finT (bldT [] L (As n ([],[])))
theorem zL1:∀n,InvT (As n ([],[]))
 |0=>trivial
 |n+1=>⟨rfl,λ_ i hi=>absurd hi (by simp),zL1 n⟩
theorem zSh(n:Nat):szT (As n ([],[]))=0:=by cases n<;>rfl
theorem szT_fin(t:Tri):szT (finT t)=szT t:=by cases t<;>rfl
theorem finT_len(t:Tri):(finT t).length=t.length:=by
 induction t with
 |nil=>rfl
 |cons l t ih=>simp only[finT,A_,ih]
theorem zNi:∀(L:List (List Va))(last:List Va)(t:Tri),(bldT last L t).length=t.length
 |[],_,_=>rfl
 |x::L,last,t=>by rw[bldT,zNi L,zG8]
theorem zKf(n:Nat)(L:List (List Va)):(zCn n L).length=n:=by
 rw[zCn,finT_len,zNi,Cs]
theorem trie_rows(n:Nat)(hn:0<n)(L:List (List Va))(hL:∀x∈L,x.length=n)(hd:Dst [] L):rws (zCn n L) 0 (szT (zCn n L))=L:=by
 rw[zCn,szT_fin];cases L with
 |nil=>
  rw[bldT,zSh];cases n with
  |zero=>omega
  |succ n=>rfl
 |cons x L=>
  have hx:x.length=(As n (([],[]):List Va×List Nat)).length:=by rw[hL x (by simp),Cs]
  have hne:As n (([],[]):List Va×List Nat)≠[]:=by intro e;have:=congrArg Aa e;simp at this;omega
  rw[bldT,zSp];have h1:=zYt 0 x _ 0 (zL1 n) hx (by rw[hL x (by simp)];exact hn) trivial ⟨A9 _,λh=>absurd h (by omega)⟩;have h2:=bld_spec n L x _ (zL2 0 x _ (zL1 n) hx) (by rw[zG8,Cs]) (hL x (by simp)) (λy hy=>hL y (by simp[hy])) (zTh 0 x _ hx trivial) hd.2 (by rw[zFf _ _ hx,if_neg hne];omega);rw[h2.2.2,h1,zSh];cases n with
  |zero=>omega
  |succ n=>rfl
variable{ab:List D}
section
open Go.RowKit
attribute [local irreducible] seqW awp zY zZ zR Weak updS zAe retL Pure Acts rP setP setQ cP nP fr
set_option maxRecDepth 4096
abbrev lvC(l:List Va×List Nat):List D:=[.row (zM l.1) l.1.length, .row (l.2.map λc=>iD (c:Nat)) l.2.length]
theorem zJ0(l:List Va×List Nat):(lvC l).length=2:=rfl
abbrev triC(t:Tri):D:= .row (t.flatMap lvC) t.length
abbrev itC(t:Tri)(l p e:Int)(ab:List D)(s:Int):List D:=triC t::iD l::iD p::iD e::(ab++[iD s])
abbrev itB(t:Tri)(l p e:Int)(ab:List D)(s:Int):Bk:=⟨itC t l p e ab s,249,0,Ad,Ad, .plain⟩
def Nor(ab:List D):Prop:=∀j,zAt j ab=Ad
theorem zN7(j:Nat):∀a b:List D,zAt j (a++b)=(zAt j a||zAt j b)
 |[],b=>by simp only[BO,zAt,Bool.false_or]
 |d::a,b=>by simp only[BN,zAt,zN7 j a b,Bool.or_assoc]
theorem zW5{l p e s:Int}(h:Nor ab):Nor (itC t l p e ab s):=λj=>by
 simp only[zAt,refs,zN7,h j,A3]
theorem zBe{l p e s:Int}(h:Nor ab):(itB t l p e ab s).free:= .inr (zW5 h)
theorem zPy{l p e s:Int}(h:Nor ab)(x:D)(b:Bk)(hx:refs 1 x=Ad):zF8 [x] [itB t l p e ab s,b] 1 2=true:=by
 have h1:=zW5 (t:=t) (l:=l) (p:=p) (e:=e) (s:=s) h 1;simp_all [only,zF8,AX,List.mem_range,AC,A7,Bd,zAt,A3]
theorem refs_va(j:Nat)(v:Va):refs j (.agg (vaC v))=false:=by simp only[refs,zAt,A3]
def Ti:Par:=⟨λf=>f==157||f==160||f==176||f==132||f==131||f==133||f==129||f==159||f==80,λ_ _=>Ae,λk=>decide (k<1),λ_=>Ad,λ_=>Ad⟩
theorem zLi:zBg Aj Ti:=by intro t n f h;cases h
theorem zK5(h:st.length=1):∀k,k<st.length->Ti.keep k=true:=λk hk=>by
 show decide (k<1)=Ac;rw[decide_eq_true_eq];omega
theorem depth_c(t:Tri):Pure Aj 158 [.agg [triC t]] [] (iD (t.length:Nat)):=by
 refine zJ zFz mixed Tryz.func158 rfl<|vAu<|vA<|ve (True/\0<1)<|zG<|vret (True)<|.inr rfl
theorem size_c(t:Tri)(l:Nat):Pure Aj 128 [.agg [triC t],iD (l:Nat)] [] (iD ((t.getD l ([],[])).1.length:Nat)):=by
 rcases Bq l t.length with h|h
 ·have hg2:=zQ0 zJ0 t l h;have hne:=zEk zJ0 (by decide) t;have hd:t.getD l ([],[])=t.getD l default:=rfl;rw[hd];generalize t.getD l Ai=x at*;refine zJ zFz mixed Tryz.func128 rfl<|vAu<|zA<|vA<|ve (True/\0<1)<|vF ((l:Int)>=(Aa t:Int))<|vK<|vA<|vr 4 (True/\0<1/\ix (l:Int) (Aa t:Int) (AR lvC t≠[]))<|vs 13 (D.ptr<|Ah (Av (l:Int)*2)<|AR lvC t) (D.ptr (Am (zM<|BE x) (Aa<|BE x)::Am (Ag (λ(c:Nat)=>iD (c:Int))<|BF x) (Aa<|BF x)::AR lvC (Ah (l+1) t)))<|ve (True/\0<Aa (Am (zM<|BE x) (Aa<|BE x)::Am (Ag (λ(c:Nat)=>iD (c:Int))<|BF x) (Aa<|BF x)::AR lvC (Ah (l+1) t)))<|zG<|vret (True)<|.inr rfl
 rw[AT,Bx h];refine zJ zFz mixed Tryz.func128 rfl<|vAu<|zA<|vA<|ve (True/\0<1)<|vT ((l:Int)>=(Aa t:Int))<|vAe<|zG<|zE<|vret (True)<|.inr rfl
section
variable(t:Tri)(l p e:Int)(ab:List D)(s:Int)(hab:ab.length = 64)(hno:Nor ab)
def onV(l p e:Int):Bool:=decide (0<l)&&decide (p<e)
theorem zF7:Acts Aj 157 [.own 0 0] [itB t l p e ab s] [] (bD (onV l p e)) [itB t l p e ab s]:=by
 unfold onV;by_cases h:0<l
 ·refine zS zLi mixed Tryz.func157 rfl (zK5 rfl)<|vAu<|zA<|vd [0,1,2,3,4,5,6,7,8,9,10,11,12,13,15,16,17,18,14,19,20,21,22]<|vew [] [(9,Ac)] (ac_ (0<Aa (Ah 1<|Ar<|itB t l p e ab s)/\decide (l>(0:Int))=Ac/\True/\True/\True/\True/\0<Aa (Ah 2<|Ar<|itB t l p e ab s)/\0<Aa (Ah 3<|Ar<|itB t l p e ab s)))<|zG<|zT (True) [Ak<|Ay<|decide (p<e)] (.inr rfl) ?_;rw[decide_eq_true h,Bu];exact⟨by kernel_rfl,by kernel_rfl⟩
 refine zS zLi mixed Tryz.func157 rfl (zK5 rfl)<|vAu<|zA<|vd [0,1,2,3,4,5,6,7,8,9,10,11,12,13,15,16,17,18,14,19,20,21,22]<|vew [] [(9,Ad)] (ac_ (0<Aa (Ah 1<|Ar<|itB t l p e ab s)/\decide (l>(0:Int))=Ad))<|zG<|zT (True) [Ak<|Ay Ad] (.inr rfl) ?_;rw[decide_eq_false h,Bv];exact⟨by kernel_rfl,by kernel_rfl⟩
include hab in
theorem steps_a:Acts Aj 80 [.own 0 0] [itB t l p e ab s] [] (iD s) [itB t l p e ab s]:=by
 have h1:(ab++[iD s]).drop 64=[iD s]:=List.drop_left' hab;refine zS zLi mixed Tryz.func80 rfl (zK5 rfl)<|vAu<|zA<|vAe<|vf<|vK<|vA<|vr 4 (True/\0<Aa (Ah 68<|Ar<|itB t l p e ab s))<|vs 8 (AB (Ah 68<|Ar<|itB t l p e ab s) Uk) (iD s) (hd:=by simp(disch:=omega) only[List.drop_succ_cons,List.headD_cons,h1])<|veT<|zG<|zT (True) [Ak<|An AA s] (.inr rfl) ?_;exact⟨by kernel_rfl,by kernel_rfl⟩
theorem next_a(hp:-9223372036854775808<=p/\p<9223372036854775807):Acts Aj 131 [.own 0 0] [itB t l p e ab s] [] (bD (onV l p e&&onV l (p+1) e)) [itB t l (if onV l p e then p+1 else p) e ab s]:=by
 have h1:=zF7 t l p e ab s;have h2:=zF7 t l (p+1) e ab s;cases ho:onV l p e with
 |false=>
  rw[ho]at h1;rw[Bv,if_neg (by decide)];refine zS zLi mixed Tryz.func131 rfl (zK5 rfl)<|vAu<|zA<|vA<|vrT 1<|vnt [itB t l p e ab s]<|zAi [] [] [AE 0 0] [AE 0 0] (LeL.refl _) (by exact h1) ?_;refine v0s<|veT<|vt<|vAe<|zG<|zE<|zT (True) [Ak<|Ay Ad] (.inr rfl) ?_;exact⟨by kernel_rfl,by kernel_rfl⟩
 |true=>
  rw[ho]at h1;rw[Bu,if_pos rfl];refine zS zLi mixed Tryz.func131 rfl (zK5 rfl)<|vAu<|zA<|vA<|vrT 1<|vnt [itB t l p e ab s]<|zAi [] [] [AE 0 0] [AE 0 0] (LeL.refl _) (by exact h1) ?_;refine v0s<|veT<|vf<|vK<|vA<|ve (ac_ (0<Aa (Ah 2<|itC t l p e ab s)/\i6 (p+(1:Int))/\True/\True/\Ad=Ad/\Ac=Ac/\1=1/\3<=Aa (itC t l p e ab s)))<|vA<|vrT 1<|vnt [Ao (triC t::iD l::iD (p+(1:Int))::iD e::(ab++[iD s])) 249 0 Ad Ad Ap]<|zAi [] [] [AE 0 0] [AE 0 0] (LeL.refl _) (by exact h2) ?_;refine v0s<|veT<|zG<|zT (True) [Ak<|Ay<|onV l (p+(1:Int)) e] (.inr rfl) ?_;exact⟨by kernel_rfl,by kernel_rfl⟩
abbrev zDe(t:Tri)(k:Nat):List Va:=(t.getD k Ai).1
include hno in
theorem value_a(k:Nat)(q:Nat)(hk:k<t.length)(hq:q<(zDe t k).length)(h1:k<=1000000):Acts Aj 160 [.own 0 0,iD (q:Nat)] [itB t (k+1:Nat) p e ab s] [] (.agg (vaC ((zDe t k).getD q Ai))) [itB t (k+1:Nat) p e ab s]:=by
 have hg2:=zQ0 zJ0 t k hk;have hne:=zEk zJ0 (by decide) t;unfold zDe at hq⊢;generalize t.getD k Ai=x at*;obtain⟨ws,fs⟩:=x;simp only at hq⊢;have hx:=zCu ws q hq;have hnv:=zF1 ws;have hlv:3<=((zM ws).drop (q*3)).length:=zEd _ _ (h:=hq);have e1:((k+1:Nat):Int)-1=(k:Int):=by omega
 have key:Acts Aj 160 [.own 0 0,iD (q:Nat)] [itB t (k+1:Nat) p e ab s] [] (.agg (vaC (ws.getD q Ai))) [itB t (k+1:Nat) p e ab s,⟨vaC (ws.getD q Ai),107,0,Ad,Ad, .plain⟩]:=by
  refine zS zLi mixed Tryz.func160 rfl (zK5 rfl)<|vAu<|zA<|vd [0,1,2,3,5,6,7,13,4,8,9,10,11,12,14,15,16]<|vr 11 (ad_ (0<Aa (Ah 0<|Ar<|itB t (↑(k+1):Int) p e ab s)/\0<Aa (Ah 1<|Ar<|itB t (↑(k+1):Int) p e ab s)/\i6 ((↑(k+1):Int)-(1:Int))))<|vs 14 (iD ((↑(k+1):Int)-(1:Int))) (iD (k:Int))<|vr 1 (ix (k:Int) (Aa t:Int) (AR lvC t≠[]))<|vs 15 (D.ptr<|Ah (Av (k:Int)*2)<|AR lvC t) (D.ptr (Am (zM ws) (Aa ws)::Am (Ag (λ(c:Nat)=>iD (c:Int)) fs) (Aa fs)::AR lvC (Ah (k+1) t)))<|vr 4 (True/\0<Aa (Am (zM ws) (Aa ws)::Am (Ag (λ(c:Nat)=>iD (c:Int)) fs) (Aa fs)::AR lvC (Ah (k+1) t))/\ix (q:Int) (Aa ws:Int) (zM ws≠[])/\3<=Aa (Ah (q*3)<|zM ws))<|vs 20 (Az<|Aw 3<|Ah (q*3)<|zM ws) (Az<|vaC<|Af ws q Ai)<|ve (Ad=Ad/\Ac=Ac/\3=3/\3<=3)<|zG<|zT (3<=3) [Az [Ak<|An AA<|Va.kind<|Af ws q Ai,Ak<|An AA<|Va.int<|Af ws q Ai,Ak<|AD<|bs<|Va.str<|Af ws q Ai]] (.inr rfl) ?_ (hc:=by omega);exact⟨by kernel_rfl,by kernel_rfl⟩
 exact key.cut 1 (by simp) (zPy hno _ _ (refs_va _ _))
include hab hno in
theorem less_a(k:Nat)(q:Nat)(v:Va)(hk:k<t.length)(hq:q<(zDe t k).length)(h1:k<=1000000)(hs:-9223372036854775808<=s/\s<9223372036854775807):Acts Aj 176 [.own 0 0,iD (q:Nat), .agg (vaC v)] [itB t (k+1:Nat) p e ab s] [] (bD (decide (vcmp ((zDe t k).getD q Ai) v<0))) [itB t (k+1:Nat) p e ab (s+1)]:=by
 have hd:(ab++[iD s]).drop 64=[iD s]:=List.drop_left' hab;have hst:(ab++[iD s]).set 64 (iD (s+1))=ab++[iD (s+1)]:=by rw[List.set_append,if_neg (by omega),hab];rfl
 have hva:=(value_a t p e ab (s+1) hno k q hk hq h1).atG (args:=[.own 0 0,iD (q:Nat)]) (st:=[itB t (k+1:Nat) p e ab (s+1),⟨vaC v,107,0,Ad,Ad, .plain⟩]) 0 rfl (zBe hno) (zBe hno) (zC2 [.int .i64 (q:Nat)]);have hcm:=zH2 ((zDe t k).getD q Ai) v;generalize (zDe t k).getD q Ai=u at*;have key:Acts Aj 176 [.own 0 0,iD (q:Nat), .agg (vaC v)] [itB t (k+1:Nat) p e ab s] [] (bD (decide (vcmp u v<0))) [itB t (k+1:Nat) p e ab (s+1),⟨vaC v,107,0,Ad,Ad, .plain⟩]:=by
  refine zS zLi mixed Tryz.func176 rfl (zK5 rfl)<|vAu<|vA<|vr 4 (True/\0<Aa (Ah 68<|Ar<|itB t (↑(k+1):Int) p e ab s))<|vs 10 (AB (Ah 68<|Ar<|itB t (↑(k+1):Int) p e ab s) Uk) (iD s) (hd:=by simp(disch:=omega) only[List.drop_succ_cons,List.headD_cons,hd])<|vr 4 (i6 (s+(1:Int))/\True/\Bk.fz (itB t (↑(k+1):Int) p e ab s)=Ad/\Ac=Ac/\1=1/\69<=Aa (Ar<|itB t (↑(k+1):Int) p e ab s))<|vb 0 (Ao (setAt (Ar<|itB t (↑(k+1):Int) p e ab s) 68<|cellsOf<|iD (s+(1:Int))) (Bk.ty<|itB t (↑(k+1):Int) p e ab s) (Bk.sz<|itB t (↑(k+1):Int) p e ab s) Ad Ad<|Bk.kd<|itB t (↑(k+1):Int) p e ab s) (Ao (triC t::iD (↑(k+1):Int)::iD p::iD e::(ab++[iD (s+(1:Int))])) (249:TypeId) 0 Ad Ad Ap) (hd:=by simp(disch:=omega) only[cellsOf,setAt,List.set_cons_succ,hst])<|veT<|zA<|zDc [0,1,3] [(2,[(3,100000)],[4,5,6])] rfl ?_;refine vr 3 (3<=3)<|vnil<|zFt rfl rfl (by kernel_rfl)<|vnt [Ao (triC t::iD ↑(k+1)::iD p::iD e::(ab++[iD (s+(1:Int))])) (249:TypeId) 0 Ad Ad Ap,Ao [iD<|Va.kind v,iD<|Va.int v,Ak<|AD<|bs<|Va.str v] 107 0 Ad Ad Ap]<|zAi [] [] [AE 0 0,iD q] [AE 0 0,iD q] (LeL.refl _) (by exact hva) ?_;refine vnil<|st_late (C:=3<=3/\Ab (Az [iD (Va.kind v),iD (Va.int v),Ak (AD (bs (Va.str v)))])=Ab (Az (Aw 3 [iD (Va.kind v),iD (Va.int v),Ak (AD (bs (Va.str v)))]))) (by kernel_rfl) ⟨(by omega),(by kernel_rfl)⟩ (by kernel_rfl) ?_;refine v0s<|vc hcm<|vrT 2<|vnil<|zFh<|vN<|zG<|zT (True) [Ak<|Ay<|decide (vcmp u v<0)] (.inr rfl) ?_;exact⟨by kernel_rfl,by kernel_rfl⟩
 exact key.cut 1 (by simp) (zPy hno _ _ (by simp only[refs]))
include hno in
theorem key_a(k:Nat)(q:Nat)(hk:k<t.length)(hq:q<(zDe t k).length)(h1:k<=1000000)(hqe:(q:Int)<e):Acts Aj 132 [.own 0 0] [itB t (k+1:Nat) (q:Nat) e ab s] [] (.tup [.agg (vaC ((zDe t k).getD q Ai)),bD Ac]) [itB t (k+1:Nat) (q:Nat) e ab s]:=by
 have ho:onV (k+1:Nat) (q:Nat) e=true:=by
  grind [onV]
 have h2:=(zF7 t (k+1:Nat) (q:Nat) e ab s).atG (args:=[.own 0 0]) (st:=[itB t (k+1:Nat) (q:Nat) e ab s,⟨vaC ⟨0,0,[]⟩,107,0,Ad,Ad, .plain⟩]) 0 rfl (zBe hno) (zBe hno) (zC2 []);rw[ho]at h2;have h3:=(value_a t (q:Nat) e ab s hno k q hk hq h1).atG (args:=[.own 0 0,iD (q:Nat)]) (st:=[itB t (k+1:Nat) (q:Nat) e ab s,⟨vaC ⟨0,0,[]⟩,107,0,Ad,Ad, .plain⟩]) 0 rfl (zBe hno) (zBe hno) (zC2 [.int .i64 (q:Nat)]);generalize (zDe t k).getD q Ai=u at*;have key:Acts Aj 132 [.own 0 0] [itB t (k+1:Nat) (q:Nat) e ab s] [] (.tup [.agg (vaC u),bD Ac]) [itB t (k+1:Nat) (q:Nat) e ab s,⟨vaC u,107,0,Ad,Ad, .plain⟩]:=by
  refine zS zLi mixed Tryz.func132 rfl (zK5 rfl)<|vAu<|zA<|vA<|vrT 1<|vnt [itB t (↑(k+1):Int) (q:Int) e ab s,Ao [iD 0,iD 0,Ak<|AD (Bo #[])] 107 0 Ad Ad Ap]<|zAi [] [] [AE 0 0] [AE 0 0] (LeL.refl _) (by exact h2) ?_;refine v0s<|veT<|vf<|vK<|vA<|vr 6 (ac_ (0<Aa (Ah 2<|itC t (↑(k+1):Int) (q:Int) e ab s)))<|vnt [Ao (itC t (↑(k+1):Int) (q:Int) e ab s) 249 0 Ad Ad Ap,Ao [iD<|Va.kind<|Va.mk (0:Int) (0:Int) [],iD<|Va.int<|Va.mk (0:Int) (0:Int) [],Ak<|AD<|bs<|Va.str<|Va.mk (0:Int) (0:Int) []] 107 0 Ad Ad Ap]<|zAi [] [] [AE 0 0,iD q] [AE 0 0,iD q] (LeL.refl _) (by exact h3) ?_;refine v0s<|ve (Ad=Ad/\Ac=Ac/\3=3/\3<=3)<|zG<|zT (3<=3) [Az [Ak<|An AA<|Va.kind u,Ak<|An AA<|Va.int u,Ak<|AD<|bs<|Va.str u],Ak<|Ay Ac] (.inr rfl) ?_ (hc:=by omega);exact⟨by kernel_rfl,by kernel_rfl⟩
 exact key.cut 1 (by simp) (zPy hno _ _ (by simp only[refs,zAt,A3]))
abbrev q4_:=Ak (AD (Bo #[]))
include hno in
theorem keyNo_a(l:Int)(ho:onV l p e=Ad):Acts Aj 132 [.own 0 0] [itB t l p e ab s] [] (.tup [.agg (vaC ⟨0,0,[]⟩),bD Ad]) [itB t l p e ab s]:=by
 have h2:=(zF7 t l p e ab s).atG (args:=[.own 0 0]) (st:=[itB t l p e ab s,⟨vaC ⟨0,0,[]⟩,107,0,Ad,Ad, .plain⟩]) 0 rfl (zBe hno) (zBe hno) (zC2 []);rw[ho]at h2;have key:Acts Aj 132 [.own 0 0] [itB t l p e ab s] [] (.tup [.agg (vaC ⟨0,0,[]⟩),bD Ad]) [itB t l p e ab s,⟨vaC ⟨0,0,[]⟩,107,0,Ad,Ad, .plain⟩]:=by
  refine zS zLi mixed Tryz.func132 rfl (zK5 rfl)<|vAu<|zA<|vA<|vrT 1<|vnt [itB t l p e ab s,Ao [iD 0,iD 0,Ak<|AD (Bo #[])] 107 0 Ad Ad Ap]<|zAi [] [] [AE 0 0] [AE 0 0] (LeL.refl _) (by exact h2) ?_;refine v0s<|veT<|vt<|vA<|ve ((True/\Ac=Ac)/\Ad=Ad/\Ac=Ac/\3=3/\3<=3)<|zG<|zE<|zT (3<=3) [Az [q2_,q2_,q4_],Ak<|Ay Ad] (.inr rfl) ?_ (hc:=by omega);exact⟨by kernel_rfl,by kernel_rfl⟩
 exact key.cut 1 (by simp) (zPy hno _ _ (by simp only[refs,zAt,A3]))
abbrev frC(fr:List (Int×Int)):List D:=fr.flatMap λx=>[iD x.1,iD x.2]
theorem zBu(fr:List (Int×Int)):Nor (frC fr):=λj=>by
 induction fr with
 |nil=>simp[zAt]
 |cons x fr ih=>simp only[frC,Bc,zN7,zAt,refs,A3,Bool.false_or]at ih⊢;exact ih
theorem zP4(fr:List (Int×Int)):(frC fr).length=fr.length*2:=zHx (c:=2) (λ_=>rfl) fr
theorem fr_len(fr:List (Int×Int))(x a b c d:D)(k:Nat)(hk:k<fr.length):2<=(Ah (4+k*2) (a::b::c::d::(frC fr++[x]))).length:=by
 grind [zP4,fr,BR,only,A_,A5,AZ]
theorem fr_read(fr:List (Int×Int))(x a b c d:D)(k:Nat)(hk:k<fr.length):(Ah (4+k*2) (a::b::c::d::(frC fr++[x]))).take 2=[iD (fr.getD k (0,0)).1,iD (fr.getD k (0,0)).2]:=by
 have hg:=zDo (g:=λx:Int×Int=>[iD x.1,iD x.2]) (c:=2) (λ_=>rfl) fr k hk;have hl:=zP4 fr;grind
theorem up_a(fr:List (Int×Int))(hf:fr.length=32)(k:Nat)(hk:k<32):Acts Aj 133 [.own 0 0] [itB t (k+1:Nat) p e (frC fr) s] [] (bD Ac) [itB t (k:Nat) (fr.getD k (0,0)).1 (fr.getD k (0,0)).2 (frC fr) s]:=by
 have e1:((k+1:Nat):Int)-1=(k:Int):=by omega
 have hrd:=λa b c d=>fr_read fr (iD s) a b c d k (by omega);have hln:=λa b c d=>fr_len fr (iD s) a b c d k (by omega);refine zS zLi mixed Tryz.func133 rfl (zK5 rfl)<|vAu<|zA<|vA<|ve (ac_ (0<Aa (Ah 1<|Ar<|itB t (↑(k+1):Int) p e (frC fr) s)/\True))<|vEf ((↑(k+1):Int)) ((0:Int))<|vK<|vA<|vr 5 (True/\0<Aa (Ah 1<|Ar<|itB t (↑(k+1):Int) p e (frC fr) s)/\i6 ((↑(k+1):Int)-(1:Int)))<|vs 16 (iD ((↑(k+1):Int)-(1:Int))) (iD (k:Int))<|ve (True/\Bk.fz (itB t (↑(k+1):Int) p e (frC fr) s)=Ad/\Ac=Ac/\1=1/\2<=Aa (Ar<|itB t (↑(k+1):Int) p e (frC fr) s))<|zA<|vd [0,1,2,3,4,6,7,5,8,9,10,11,12]<|vr 10 (ac_ (0<Aa (Ah 1 (triC t::iD (k:Int)::iD p::iD e::(frC fr++[iD s])))/\((0:Int)<=(k:Int)/\(k:Int)<(↑(32:Nat):Int))/\2<=Aa (Ah (4+k*2) (triC t::iD (k:Int)::iD p::iD e::(frC fr++[iD s]))))) (vs 28 (Az<|Aw 2<|Ah (4+k*2) (triC t::iD (k:Int)::iD p::iD e::(frC fr++[iD s]))) (Az [iD<|BE<|Af fr k ((0:Int),(0:Int)),iD<|BF<|Af fr k ((0:Int),(0:Int))])<|ve (True/\Bk.fz (Ao (triC t::iD (k:Int)::iD p::iD e::(frC fr++[iD s])) 249 0 Ad Ad Ap)=Ad/\Ac=Ac/\2=2/\4<=Aa (triC t::iD (k:Int)::iD p::iD e::(frC fr++[iD s])))<|vAe<|zG ?_) ⟨trivial,trivial,(lb (by kernel_rfl)),(by omega),(by exact hln _ _ _ _)⟩;refine zT (True) [Ak<|Ay Ac] (.inr rfl) ?_;exact⟨by kernel_rfl,by kernel_rfl⟩
end
theorem frC_set(tl:List D)(p e:Int):∀(fr:List (Int×Int))(k:Nat),k<fr.length->((frC fr++tl).set (k*2) (iD p)).set (k*2+1) (iD e)=frC (fr.set k (p,e))++tl
 |[],k,h=>by simp at h
 |x::fr,0,_=>rfl
 |x::fr,k+1,h=>by
  have ih:=frC_set tl p e fr k (by simpa using h);grind
theorem fr_set(fr:List (Int×Int))(x a b c d:D)(p e:Int)(k:Nat)(hk:k<fr.length):setAt (a::b::c::d::(frC fr++[x])) (4+k*2) [iD p,iD e]=a::b::c::d::(frC (fr.set k (p,e))++[x]):=by
 have h:=frC_set [x] p e fr k hk;show((a::b::c::d::(frC fr++[x])).set (4+k*2) (iD p)).set (4+k*2+1) (iD e)=_;grind
section
variable(t:Tri)(p e s:Int)
theorem open0_a(fr:List (Int×Int))(hf:fr.length=32)(ht:0<t.length)(hn:0<(zDe t 0).length):Acts Aj 129 [.own 0 0] [itB t 0 p e (frC fr) s] [] (bD Ac) [itB t 1 0 ((zDe t 0).length:Nat) (frC (fr.set 0 (p,e))) s]:=by
 have hd:=depth_c t;have hs:Pure Aj 128 [.agg [triC t],iD (0:Nat)] [] (iD ((zDe t 0).length:Nat)):=size_c t 0;generalize (zDe t 0).length=n at*;obtain⟨x,fr,rfl⟩:∃x f,fr=x::f:=by cases fr with|nil=>simp at hf|cons x f=>exact⟨x,f,rfl⟩
 have key:Acts Aj 129 [.own 0 0] [itB t 0 p e (frC (x::fr)) s] [] (bD Ac) [itB t 1 0 (n:Nat) (frC ((p,e)::fr)) s,⟨[iD 0,iD (n:Nat)],246,0,Ad,Ad, .plain⟩]:=by
  refine zS zLi mixed Tryz.func129 rfl (zK5 rfl)<|vAu<|zA<|zA<|vd [0,1,2,3,4,5,6,7,8,9,10,11,12,13,14,15,16,17,19,20,21,18,22,23,24,25]<|vr 23 (ac_ (0<Aa (Ah 1<|Ar<|itB t (0:Int) p e (frC (x::fr)) s)/\True/\True/\0<Aa (Ah 1<|Ar<|itB t (0:Int) p e (frC (x::fr)) s)/\1<=Aa (Ah 0<|Ar<|itB t (0:Int) p e (frC (x::fr)) s)))<|vc (hd)<|veT<|vF ((0:Int)>=(Aa t:Int))<|vK<|vA<|vr 4 (True/\1<=Aa (Ah 0<|Ar<|itB t (0:Int) p e (frC (x::fr)) s))<|vc (hs)<|ve (aa_)<|zA<|vA<|ve (True/\0<Aa (Ah 1<|Ar<|itB t (0:Int) p e (frC (x::fr)) s))<|vf<|vK<|zA<|vA<|ve (ae_)<|vEf ((0:Int)) ((n:Int))<|vK<|zA<|vd [0,1,2,3,5,6,7,9,10,4,8,11,12]<|ve (ad_ (0<Aa (Ah 1<|Ar<|itB t (0:Int) p e (frC (x::fr)) s)/\2<=Aa (Ah 2<|Ar<|itB t (0:Int) p e (frC (x::fr)) s)/\((0:Int)<=(0:Int)/\(0:Int)<(↑(32:Nat):Int))/\Bk.fz (itB t (0:Int) p e (frC (x::fr)) s)=Ad/\Ac=Ac/\2=2/\6<=Aa (Ar<|itB t (0:Int) p e (frC (x::fr)) s)))<|vA<|ve (2<=2/\True/\Bk.fz (Ao (triC t::iD 0::iD p::iD e::Aq (Aq (frC (x::fr)++[iD s]) 0<|iD p) 1 (iD e)) 249 0 Ad Ad Ap)=Ad/\Ac=Ac/\2=2/\4<=Aa (triC t::iD 0::iD p::iD e::Aq (Aq (frC (x::fr)++[iD s]) 0<|iD p) 1 (iD e)))<|vA<|ve (True/\0<Aa (Ah 1 (triC t::iD 0::iD 0::iD (n:Int)::Aq (Aq (frC (x::fr)++[iD s]) 0<|iD p) 1 (iD e)))/\i6 ((0:Int)+(1:Int))/\True/\Bk.fz (Ao (triC t::iD 0::iD 0::iD (n:Int)::Aq (Aq (frC (x::fr)++[iD s]) 0<|iD p) 1 (iD e)) 249 0 Ad Ad Ap)=Ad/\Ac=Ac/\1=1/\2<=Aa (triC t::iD 0::iD 0::iD (n:Int)::Aq (Aq (frC (x::fr)++[iD s]) 0<|iD p) 1 (iD e)))<|vAe<|zG<|zT (True) [Ak<|Ay Ac] (.inr rfl) ?_;exact⟨by kernel_rfl,by kernel_rfl⟩
 exact key.cut 1 (by simp) (zPy (zBu _) _ _ (by simp only[refs]))
theorem open_a(fr:List (Int×Int))(hf:fr.length=32)(k q:Nat)(hk:k+1<t.length)(hk2:k+1<32)(hq:q+1<(t.getD k Ai).2.length)(hqe:(q:Int)<e)(hb:∀c∈(t.getD k Ai).2,c<=1000000000)(hl:(t.getD k Ai).2.length<=1000000000)(hne:(t.getD k Ai).2.getD q 0≠(t.getD k Ai).2.getD (q+1) 0):Acts Aj 129 [.own 0 0] [itB t (k+1:Nat) (q:Nat) e (frC fr) s] [] (bD Ac) [itB t (k+1+1:Nat) ((t.getD k Ai).2.getD q 0:Nat) ((t.getD k Ai).2.getD (q+1) 0:Nat) (frC (fr.set (k+1) ((q:Nat),e))) s]:=by
 have hd:=depth_c t;obtain⟨n0,hs⟩:∃n0:Nat,Pure Aj 128 [.agg [triC t],iD (0:Nat)] [] (iD (n0:Nat)):=⟨_,size_c t 0⟩;have hov:=zF7 t (k+1:Nat) (q:Nat) e (frC fr) s;have ho:onV (k+1:Nat) (q:Nat) e=true:=by
  grind [onV]
 rw[ho]at hov;have hset:=λa b c d=>fr_set fr (iD s) a b c d (q:Nat) e (k+1) (by omega);have hg2:=zQ0 zJ0 t k (by omega);have hnt:=zEk zJ0 (by decide) t;generalize t.getD k Ai=x at*;obtain⟨ws,fs⟩:=x;simp only at hq hb hl hne⊢;have ha:=zL3 fs q (by omega);have hc:=zL3 fs (q+1) (by omega);have hnf:(fs.map λc=>iD (c:Nat))≠[]:=zV;have e1:((k+1:Nat):Int)-1=(k:Int):=by omega
 have hln:4+(k+1)*2+2<=(itC t (k+1:Nat) (q:Nat) e (frC fr) s).length:=by
  grind [zP4,fr,only,A_,A5,AZ]
 generalize hA:fs.getD q 0=A at*;generalize hC:fs.getD (q+1) 0=C at*;have key:Acts Aj 129 [.own 0 0] [itB t (k+1:Nat) (q:Nat) e (frC fr) s] [] (bD Ac) [itB t (k+1+1:Nat) (A:Nat) (C:Nat) (frC (fr.set (k+1) ((q:Nat),e))) s,⟨[iD (A:Nat),iD (C:Nat)],246,0,Ad,Ad, .plain⟩]:=by
  refine zS zLi mixed Tryz.func129 rfl (zK5 rfl)<|vAu<|zA<|zA<|vd [0,1,2,3,4,5,6,7,8,9,10,11,12,13,14,15,16,17,19,20,21,18,22,23,24,25]<|vw 10 [] [(8,Ac)] (ac_ (0<Aa (Ah 1<|Ar<|itB t (↑(k+1):Int) (q:Int) e (frC fr) s)/\decide ((↑(k+1):Int)>(0:Int))=Ac))<|vnt [itB t (↑(k+1):Int) (q:Int) e (frC fr) s]<|zAi [] [] [AE 0 0] [AE 0 0] (LeL.refl _) (by exact hov) ?_;refine v0s<|vr 12 (ac_ (0<Aa (Ah 1<|itC t (↑(k+1):Int) (q:Int) e (frC fr) s)/\1<=Aa (Ah 0<|itC t (↑(k+1):Int) (q:Int) e (frC fr) s)))<|vc hd<|veT<|vF ((↑(k+1):Int)>=(Aa t:Int))<|vK<|vA<|vr 4 (True/\1<=Aa (Ah 0<|itC t (↑(k+1):Int) (q:Int) e (frC fr) s))<|vc hs<|ve (aa_)<|zA<|vA<|ve (True/\0<Aa (Ah 1<|itC t (↑(k+1):Int) (q:Int) e (frC fr) s))<|vT ((↑(k+1):Int)>(0:Int))<|zA<|vd [0,1,2,3,5,6,7,4,8,9,10,11,12,13]<|vr 10 (ad_ (0<Aa (Ah 0<|itC t (↑(k+1):Int) (q:Int) e (frC fr) s)/\0<Aa (Ah 1<|itC t (↑(k+1):Int) (q:Int) e (frC fr) s)/\i6 (↑(k+1)-1)))<|vs 51 (iD (↑(k+1)-1)) (iD k)<|vr 1 (ix ↑k ↑(Aa t) (AR lvC t≠[]))<|vs 52 (D.ptr<|Ah (Av (k:Int)*2)<|AR lvC t) (D.ptr (Am (zM ws) (Aa ws)::Am (Ag (λ(c:Nat)=>iD c) fs) (Aa fs)::AR lvC (Ah (k+1) t)))<|ve (True/\0<Aa (Am (Ag (λ(c:Nat)=>iD c) fs) (Aa fs)::AR lvC (Ah (k+1) t)))<|vd [0,1,2,3,4,8,9,10,11,12,5,6,7,13,14,15,16,17,18]<|vr 12 (True/\True/\True/\True/\0<Aa (Ah 2<|itC t (↑(k+1):Int) (q:Int) e (frC fr) s)/\ix ↑q ↑(Aa fs) (Ag (λ(c:Nat)=>iD c) fs≠[]))<|vp 61 q (Ag (λ(c:Nat)=>iD c) fs)<|vr 1 (0<Aa (Ah q<|Ag (λ(c:Nat)=>iD c) fs))<|vsh 62 ha<|vr 3 (0<Aa (Ah 2<|itC t (↑(k+1):Int) (q:Int) e (frC fr) s)/\i6 (↑q+1)/\ix ↑(q+1) ↑(Aa fs) (Ag (λ(c:Nat)=>iD c) fs≠[]))<|vp 70 (q+1) (Ag (λ(c:Nat)=>iD c) fs)<|vr 1 (0<Aa (Ah (q+1)<|Ag (λ(c:Nat)=>iD c) fs))<|vsh 71 hc<|ve (aa_)<|zA<|vA<|ve (ae_)<|vEf ((A:Int)) ((C:Int))<|zL<|zC ?_;refine zK<|zA<|vd [0,1,2,3,5,6,7,9,10,4,8,11,12]<|vr 13 (ad_ (0<Aa (Ah 1<|itC t (↑(k+1):Int) (q:Int) e (frC fr) s)/\2<=Aa (Ah 2<|itC t (↑(k+1):Int) (q:Int) e (frC fr) s)/\((0:Int)<=(↑(k+1):Int)/\(↑(k+1):Int)<(↑(32:Nat):Int))/\Ad=Ad/\Ac=Ac/\2=2/\4+(k+1)*2+2<=Aa (itC t (↑(k+1):Int) (q:Int) e (frC fr) s)))<|vb 0 (Ao (setAt (itC t (↑(k+1):Int) (q:Int) e (frC fr) s) (4+(k+1)*2)<|cellsOf<|Az [iD q,iD e]) 249 0 Ad Ad Ap) (Ao (triC t::iD ↑(k+1)::iD ↑q::iD e::(frC (Aq fr (k+1) ((q:Int),e))++[iD s])) 249 0 Ad Ad Ap)<|veT<|vA<|ve (2<=2/\True/\Ad=Ad/\Ac=Ac/\2=2/\4<=Aa (triC t::iD ↑(k+1)::iD ↑q::iD e::(frC (Aq fr (k+1) ((q:Int),e))++[iD s])))<|vA<|ve (True/\0<Aa (Ah 1 (triC t::iD ↑(k+1)::iD ↑A::iD ↑C::(frC (Aq fr (k+1) ((q:Int),e))++[iD s])))/\i6 (↑(k+1)+1)/\True/\Ad=Ad/\Ac=Ac/\1=1/\2<=Aa (triC t::iD ↑(k+1)::iD ↑A::iD ↑C::(frC (Aq fr (k+1) ((q:Int),e))++[iD s])))<|vAe<|zG<|zT (True) [Ak<|Ay Ac] (.inr rfl) ?_;exact⟨by kernel_rfl,by kernel_rfl⟩
 exact key.cut 1 (by simp) (zPy (zBu _) _ _ (by simp only[refs]))
end
end
def gal(L:Nat->Bool)(e:Nat):Nat->Nat->Nat->Nat->Nat×Nat×Nat
 |0,low,step,s=>(low,step,s)
 |n+1,low,step,s=>if low+step<e then(if L (low+step)then gal L e n (low+step) (step*2) (s+1)else(low,step,s+1))else(low,step,s)
def bis(L:Nat->Bool):Nat->Nat->Nat->Nat->Nat×Nat
 |0,_,high,s=>(high,s)
 |n+1,low,high,s=>if 1<high-low then(if L (low+(high-low)/2)then bis L n (low+(high-low)/2) high (s+1)else bis L n low (low+(high-low)/2) (s+1))else(high,s)
def sek(L:Nat->Bool)(q e s:Nat):Nat×Nat:=
 if L q then
  let g:=gal L e e q 1 (s+1)
  let h:=min (g.1+g.2.1) e
  bis L e g.1 h g.2.2
 else(q,s+1)
def Mon(L:Nat->Bool)(q e:Nat):Prop:=∀i j,q<=i->i<=j->j<e->L j=Ac->L i=Ac
def Fst(L:Nat->Bool)(q e h:Nat):Prop:=q<=h/\h<=e/\(∀i,q<=i->i<h->L i=Ac)/\(h<e->L h=Ad)
theorem gal_spec{L:Nat->Bool}{q e:Nat}(hm:Mon L q e):∀n low step s,q<=low->low<e->1<=step->e-low<=n->L low=Ac->
  q<=(gal L e n low step s).1/\(gal L e n low step s).1<e/\1<=(gal L e n low step s).2.1/\L (gal L e n low step s).1=Ac/\((gal L e n low step s).1+(gal L e n low step s).2.1<e->L ((gal L e n low step s).1+(gal L e n low step s).2.1)=Ad)
   /\s<=(gal L e n low step s).2.2/\(gal L e n low step s).2.2+(e-(gal L e n low step s).1)<=s+(e-low)+1
 |0,low,step,s,h1,h2,h3,h4,h5=>by omega
 | n+1,low,step,s,h1,h2,h3,h4,h5=>by
  unfold gal;by_cases hc:low+step<e
  ·rw[if_pos hc];cases hl:L (low+step)with
   |true=>
    rw[if_pos rfl]
    have:=gal_spec hm n (low+step) (step*2) (s+1) (by omega) hc (by omega) (by omega) hl
    refine⟨this.1,this.2.1,this.2.2.1,this.2.2.2.1,this.2.2.2.2.1,?_,?_⟩<;>omega
   |false=>
    rw[if_neg (by decide)];exact⟨h1,h2,h3,h5,λ_=>hl,by show s<=s+1;omega,by show s+1+(e-low)<=_;omega⟩
  rw[if_neg hc];exact⟨h1,h2,h3,h5,λh=>absurd h hc,Al _,by show s+(e-low)<=_;omega⟩
theorem zT9{L:Nat->Bool}{q e:Nat}(hm:Mon L q e):∀n low high s,q<=low->low<high->high<=e->high-low<=n+1->L low=Ac->(high<e->L high=Ad)->
  Fst L q e (bis L n low high s).1/\s<=(bis L n low high s).2/\(bis L n low high s).2<=s+(high-low)
 |0,low,high,s,h1,h2,h3,h4,h5,h6=>by
  obtain rfl:high=low+1:=by omega
  exact⟨⟨by show q<=low+1;omega,h3,λi hi hj=>hm i low hi (by have:i<low+1:=hj;omega) (by omega) h5,h6⟩,Al _,by show s<=_;omega⟩
 | n+1,low,high,s,h1,h2,h3,h4,h5,h6=>by
  unfold bis;by_cases hc:1<high-low
  ·rw[if_pos hc];have hlt:(high-low)/2<high-low:=Nat.div_lt_self (by omega) (by omega);have hgt:1<=(high-low)/2:=by omega
   cases hl:L (low+(high-low)/2)with
   |true=>
    rw[if_pos rfl]
    have:=zT9 hm n (low+(high-low)/2) high (s+1) (by omega) (by omega) h3 (by omega) hl h6
    refine⟨this.1,?_,?_⟩<;>omega
   |false=>
    rw[if_neg (by decide)]
    have:=zT9 hm n low (low+(high-low)/2) (s+1) h1 (by omega) (by omega) (by omega) h5 (λ_=>hl)
    refine⟨this.1,?_,?_⟩<;>omega
  rw[if_neg hc];obtain rfl:high=low+1:=by omega
  exact⟨⟨by show q<=low+1;omega,h3,λi hi hj=>hm i low hi (by have:i<low+1:=hj;omega) (by omega) h5,h6⟩,Al _,by show s<=_;omega⟩
theorem sek_spec{L:Nat->Bool}{q e s:Nat}(hm:Mon L q e)(hq:q<e):Fst L q e (sek L q e s).1/\s<=(sek L q e s).2/\(sek L q e s).2<=s+(e-q)+2:=by
 unfold sek;cases hl:L q with
 |false=>
  rw[if_neg (by decide)];exact⟨⟨Al _,by show q<=e;omega,λi h1 h2=>by have:i<q:=h2;omega,λ_=>hl⟩,by show s<=s+1;omega,by show s+1<=_;omega⟩
 | true=>
  rw[if_pos rfl];obtain⟨g1,g2,g3,g4,g5,g6,g7⟩:=gal_spec hm e q 1 (s+1) (Al _) hq (Al _) (by omega) hl;simp only;generalize gal L e e q 1 (s+1)=g at*
  have:=zT9 hm e g.1 (min (g.1+g.2.1) e) g.2.2 g1 (by omega) (by omega) (by omega) g4 (λh=>by
   have e1:min (g.1+g.2.1) e=g.1+g.2.1:=by omega
   rw[e1]at h⊢;exact g5 h)
  refine⟨this.1,?_,?_⟩<;>omega
end Go.Proofs.YtmfamhoopjeaiaaGreatDoor
