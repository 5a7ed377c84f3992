/- Texts of this claim, joined. -/
import Derived.Test.YtmfamhoopjeaiaaGreatDoorR01
import Derived.ProofKit
import Derived.Carry
import Derived.ChangeSame
import Derived.Lib.Bytealg
import Derived.Shelf.Small.Bits
import Derived.Shelf.Small.Strs
import Derived.Shelf.Small.Wraps
import Derived.Shelf.Strconv.Itoa0
import Derived.Shelf.Strconv.Itoa1
import Derived.Shelf.LaysM
import Derived.Shelf.Strconv.Itoa2
import Derived.Shelf.Sort.Plain
import Derived.Shelf.Strconv.AppendUint10
import Derived.Shelf.Strconv.AppendInt10
import Derived.Shelf.Strconv.AppendIntPublic10
import Derived.Shelf.Slices.Turned
import Derived.Shelf.Slices.Equal
import Derived.Ground.Names2Prog
import Derived.Shelf.Slices.Clone
import Derived.Shelf.Slices.CompactI
import Derived.Shelf.Slices.SearchI
import Derived.Shelf.Slices.Cells
import Derived.Shelf.Slices.In.SortNone
import Derived.Shelf.Slices.Empties2
import Derived.Test.YtmfamhoopjeaiaaGreatDoorProg
import Derived.BigQuiet
import Derived.Lib.SliceRun
import Derived.Lib.AppendZeros
import Derived.Laws.Append
import Derived.Lib.Strings
import Derived.Deep.QuietTactic
import Derived.Lib.RowBridge
import Derived.BigCall
import Derived.Lib.ItoaLen
import Derived.Lib.Walk
import Derived.WalkKit
import Derived.Lib.ItoaWalk
import Derived.Lib.LaidTab
import Derived.Lib.Hide
import Derived.Shelf.SlSortCmp.Whole1
import Derived.Ground.SlsfProg
import Derived.Lib.QuietBelow
import Derived.Sort.AssemblyPlain
set_option linter.unusedVariables false
set_option linter.unusedSimpArgs false
namespace Go.Proofs.YtmfamhoopjeaiaaGreatDoor
open _root_.List renaming length->Aa,getD->Ah,map->Ai,drop->Am,getElem?_eq_getElem->Ax,take->Ay,getD_eq_getElem?_getD->Az,replicate->AB,mem_cons_of_mem->AC,mem_cons_self->AD,mem_cons->AH,map_cons->AI,headD->AK,Pairwise->AM,set->AN,mem_map->AO,mem_filter->AP,cons_append->AR,nil_append->AZ,getElem_mem->A4,range->A6,all_eq_true->A8,drop_zero->A_,toArray->Ba,length_append->Bf,map_congr_left->Bh,cons->Bl,take_succ_eq_append_getElem->Bm,foldl_cons->Bn,map_nil->Bo,getElem?_take->Bq,length_cons->Br,pairwise_cons->Bs,getElem?_eq_some_iff->Bv,length_take->By,mem_singleton->BA,pairwise_map->BC,foldr_cons->BD,sum_cons->BE,take_of_length_le->BF,take_append_drop->BK,take_length->BL,drop_eq_getElem_cons->BM,mem_append->BN,length_nil->BQ,length_set->BU,mem_of_getElem?->BW,flatMap_cons->BX,mem_append_left->BY,mem_append_right->BZ,getElem?_eq_none->B3,drop_of_length_le->B4,eq_nil_of_length_eq_zero->B5,length_map->B7,getElem?_map->B8,Nodup->B_,idxOf_lt_length_iff->Ca,ext_getElem?->Ci,replicate_succ->Cj,flatten_cons->Cm,append_nil->Cn,length_drop->Co,getElem?_range->Cp,nodup_cons->Cr,ext_getElem->Cs,map_append->Ct,length_eraseIdx->Cu,drop_length->CB,pairwise_iff_getElem->CC,getElem?_append_left->CD,eraseIdx_eq_take_drop_succ->CF,erase_eq_eraseIdx_of_idxOf->CG
open _root_.Bool renaming true->Ab,false->Ad,and_eq_true->AL,false_eq_true->AY,or_eq_true->Bg,not_eq_true'->Bx,eq_iff_iff->Cb,false_and->Cl
open _root_.Option renaming some->Ac,none->Aj,map_eq_some_iff->AE,some->Bc,map_some->B2,getD_some->B9
open Lib renaming itoa->Ae,decDigits->Ar,nDigits->Au,compareBytes->AG,bitLen->Bt,itoa_length_le->BG,byteCells->BS,decDigits_length->Cx,nDigits_le20->Cz
open D renaming val->Af,osl->Ao,row->Av,agg->A3
open Value renaming int->Ag,string->A2,bool->A9,okWide->BB,slice->Ce
open IntKind renaming u8->Ak,u64->AA,i64->AT,u32->AV,wrap->BJ,bits->B0,signed->B1
open _root_.Inhabited renaming default->Al
open _root_.Go.Proofs.Tryz renaming prog->An
open Bk renaming mk->Ap,cells->A1
open Kd renaming plain->Aq,isMap->Bi,isSh->Bj
open _root_.Nat renaming le_refl->As,mul_one->Bp,strongRecOn->Bu,lt_or_ge->BH,shiftRight_eq_div_pow->BO,mul_assoc->BP,le_trans->BR,succ_mul->B6,min_eq_left->Cc,zero_add->Cd,lt_trichotomy->Cf,le_of_ble_eq_true->Ck,lt_of_le_of_lt->Cv,testBit_eq_decide_div_mod_eq->CH
open _root_.Int renaming toNat->Aw,toNat_natCast->A0,fdiv->Bd,natAbs->BT
open _root_.Prod renaming mk->AF
open BeLe renaming refl->AJ
open _root_.BitVec renaming ofInt->AQ
open _root_.ByteArray renaming mk->AS,data->AX,toList_eq->CE
open Kp renaming refl->AU
open _root_.Array renaming toList->AW,getElem?_eq_some_iff->A5,replicate->A7,getD_eq_getD_getElem?->Cg,getElem?_replicate->Ch,size_replicate->Cy
open Stp renaming refl->Bb
open RelT renaming mono->Bw
open OwnRel renaming mono->BI,same->BV
open World renaming cells?_some->Cq
open Digs renaming replicate->CA
section
open Go.RowKit
section
variable {P : Program} {T : Par} {ops : Array Oper} {ord : List Nat} {W : Nat → Nat → Bool} {Lt : Nat → List Nat} {S : Nat → List D} {R : Nat → List Bk} {Q : Exit → Act → World → Prop} {K : List D → List Bk → Prop}
variable {β0 : Be} {I0 : Im} {w0 : World} {df : List Deferred}
theorem any_sound(hg0:Gl I0 w0)(hM:zCe P T)(F:RegF T ops ord W Lt)(hS:ops.size=ord.length)(htr:∀(p:Nat) i o,ord[p]?=Ac i->ops[i]?=Ac o->zCd P T ops o (S p) (R p) (Eqs (S (p+1)) (R (p+1))))(hK:K (S ops.size) (R ops.size))(hL:∀t e,ord[t]?=Ac e->∀i∈Lt e,∃n,zH6 P T ops (ops.getD i Al) n (S (t+1)) (R (t+1))/\(n<(R t).length->zRq (ops.getD e Al) n (S t))/\(R t).length<=(R (t+1)).length)
  (hP:∀c a w,¬Q (.panic c) a w)(hQ:∀a' w',zXx T K β0 I0 w0 df a' w'->Q .normal a' w'):
  ∀(fuel:Nat)(listed:Array Bool)(a:Act)(w:World)(s t:Nat),Inv P T ops ord W S R β0 I0 w0 df s t listed a w->listed.toList.count Ad<=fuel->wpAny P .any ops Q fuel listed a w:=by
 have hop:∀p,p<ops.size->∃i o,ord[p]?=Ac i/\ops[i]?=Ac o:=λp hp=>by
  have h1:p<ord.length:=by omega
  refine⟨ord[p],ops[ord[p]]'((F.mem _).2 (A4 h1)),Ax h1,by simp[(F.mem _).2 (A4 h1)]⟩
 have finish:∀(listed:Array Bool)(a:Act)(w:World)(s t:Nat),Inv P T ops ord W S R β0 I0 w0 df s t listed a w->Region.ready .any ops listed=[]->Q .normal a w:=by
  intro listed a w s t h hr;have hall:∀i,i<ops.size->Ls listed i:=by
   suffices H:∀n i,pos ord i=n->i<ops.size->Ls listed i from λi=>H _ i rfl
   intro n;induction n using Bu with
   | _ n ih=>
    intro i hn hi;by_cases hl:Ls listed i
    ·exact hl
    exfalso;have:i∈Region.ready .any ops listed:=(zCt h.size).2 ⟨hl,ops[i],by simp[hi],λd hd=>by
     have:=F.dep i ops[i] (by simp[hi]) d hd
     exact ih (pos ord d) (by omega) d rfl this.1⟩
    rw[hr]at this;cases this
  have ht:t=ops.size:=by
   rcases h.atT with h1|⟨i,o,h1,h2,h3⟩
   ·exact h1
   exact absurd (hall i (A5.1 h2).1) (h.hi t i (As _) h1)
  subst ht;obtain⟨β,I,k1,⟨k2,k3⟩,_⟩:=h.full F hg0;have hX:zM0 ops ord listed ops.size=[]:=by
   rw[List.eq_nil_iff_forall_not_mem];grind [zE1,A5]
  rw[hX]at k1;exact hQ a w ⟨_,_,β,I,hK,k1,k2,h.df,k3⟩
 intro fuel;induction fuel with
 | zero=>
  intro listed a w s t h hc;have hr:Region.ready .any ops listed=[]:=by
   cases hx:Region.ready .any ops listed with
   |nil=>rfl
   | cons i l=>
    exfalso;have hi:i∈Region.ready .any ops listed:=by rw[hx];simp
    obtain⟨hn,o,ho,_⟩:=(zCt h.size).1 hi;have hlt:i<listed.size:=by rw[h.size];exact(A5.1 ho).1
    have:listed.toList[i]?=Ac false:=by
     simp_all [Ls]
    grind
  exact⟨hr,finish listed a w s t h hr⟩
 | succ fuel ih=>
  intro listed a w s t h hc;have hcount:∀i,i∈Region.ready .any ops listed->(listed.setIfInBounds i Ab).toList.count Ad<=fuel:=by
   intro i hi;obtain⟨hn,o,ho,_⟩:=(zCt h.size).1 hi;have hlt:i<listed.size:=by rw[h.size];exact(A5.1 ho).1
   have h1:listed.toList[i]?=Ac false:=by
    simp_all [Ls]
   grind
  by_cases hlight:∃i o,i∈Region.ready .any ops listed/\ops[i]?=Ac o/\zV T o.op=Ab
  ·obtain⟨i,o,hi,ho,hl⟩:=hlight;obtain⟨o',ho',hpi,hp2⟩:=h.place F hi;rw[ho]at ho';cases ho';obtain⟨hn,o2,ho2,hd⟩:=(zCt h.size).1 hi;rw[ho]at ho2;cases ho2;have hElight:isE T o.op=false:=by
    revert hl;cases o.op<;>simp[zV,isE];grind
   have hlt:pos ord i<t:=by
    rcases hp2 with h1|h1
    ·exact h1
    exfalso;rcases h.atT with h2|⟨j,oj,j1,j2,j3⟩;all_goals grind
   obtain⟨β,I,SL,k0,k1,k2,k3,k4,k5,k6,k7,k8,k9,k10⟩:=h.ex;have first:∀(v:Value),(Region.wanted o (yielded ops a.tmps)=Ab/\(∀W:World,(execOp a.eval o).run P W= .ok (.value v) W))\/(Region.wanted o (yielded ops a.tmps)=Ad/\v=undef)->Inv P T ops ord W S R β0 I0 w0 df s t (listed.setIfInBounds i Ab) (a.put o.dst v) w->wpAny P .any ops Q (fuel+1) listed a w:=by
    intro v hv hinv;refine wpAny_first ho (Region.noSelect_spec F.nosel) (λc a w hx=>absurd hx (hP c _ _)) fuel listed a w (λj oj hj hne hun hno=>?_) hi hv (ih _ _ _ s t hinv (hcount i hi));rcases F.lig i j o oj ho hj (Ne.symm hne) hl with h1|h1|h1
    ·exact h1
    ·grind [zK1]
    exfalso
    have:=zDb F h.cl i o j ho (A5.1 hj).1 hd h1
    grind [Ls,A5]
   rcases BH (pos ord i) s with hls|hp1
   ·obtain⟨o',n,ho',hE',hc',hg',hself,hlate,hok⟩:=h.lo _ i hls hpi hn;rw[ho]at ho';cases ho';have hlook:=h.lookL F ho hn hd hls hself hlate k2;obtain⟨d,news,n1,n2,n3⟩:=zJu hg' hok;obtain⟨_,rfl,v,v1,v2⟩:=(n1.look hlook).light hl k0;exact first v (.inl ⟨zGv (ops:=ops) k0 (zS9 hg' SL),v1⟩) (h.nextL (n:=n) F hi ho hls k0 k1 k2 k3 k4 k5 k6 k7 k8 k9 k10 n2 (.inl rfl) (OutN.stay β I w _) v2)
   have hlook:=h.look F ho hn hd hp1 hlt k1 k2 k3;have hst:=zQr hElight (htr (pos ord i) i o hpi ho);rcases hst with⟨g1,d,fz,news,n1,n2,n3⟩|⟨g1,n2,n3⟩
   ·obtain⟨rfl,rfl,v,v1,v2⟩:=(n1.look hlook).light hl k0;have hw:=zGv (ops:=ops) k0 ((zPv hlook).trans g1);exact first v (.inl ⟨hw,v1⟩) (h.next F hi ho hp1 hlt k0 k1 k2 k3 k4 k5 k6 k7 k8 k9 k10 n2 n3 (OutN.stay β I w _) v2)
   have hw:=zGv (ops:=ops) k0 ((zPv hlook).trans g1);exact first undef (.inr ⟨hw,rfl⟩) (h.next (fz:=[]) (news:=[]) F hi ho hp1 hlt k0 k1 k2 k3 k4 k5 k6 k7 k8 k9 k10 n2 (by rw[n3];simp[zAy]) (OutN.stay β I w _) (Rel.valI undef))
  refine⟨finish listed a w s t h,λi hi=>?_⟩;obtain⟨o,ho,hpi,hp2⟩:=h.place F hi;obtain⟨hn,o2,ho2,hd⟩:=(zCt h.size).1 hi;rw[ho]at ho2;cases ho2;have hl:zV T o.op=false:=by
   grind
  have hordl:t<=ord.length:=by rw[<-hS];exact h.tn
  have hop':∀p,p<ord.length->∃i o,ord[p]?=Ac i/\ops[i]?=Ac o:=λp hp=>hop p (by omega);rcases BH (pos ord i) s with hls|hp1
  ·obtain⟨β,I,SL,k0,k1,k2,k3,k4,k5,k6,k7,k8,k9,k10⟩:=h.ex;obtain⟨o',n,ho',hE',hc',hg',hself,hlate,hok⟩:=h.lo _ i hls hpi hn;rw[ho]at ho';cases ho';have hlook:=h.lookL F ho hn hd hls hself hlate k2;obtain⟨d,news,n1,n2,n3⟩:=zJu hg' hok;unfold wpOp;simp only[ho];rw[if_pos (zGv (ops:=ops) k0 (zS9 hg' SL))];have hsr:SRw β I w ((R s).take n):=λk b c e hk he=>by
    rw[Bq]at he;split at he
    ·obtain⟨e',m1,m2⟩:=k4 k b c hk;obtain⟨e'',n1,n2⟩:=(h.seg.store' (As _) h.seg.le (As _)).2 k e he;grind [BV]
    cases he
   have hnum:news=[]\/∃b e,news=[b]/\(R s)[n]?=Ac e/\SameB b e/\(R (pos ord i)).length=n/\(R (pos ord i+1)).length=n+1:=by
    rcases n3 with rfl|⟨b,e,x,q,fz,rfl,m1,m2,m3,m4,m5,m6⟩
    ·exact .inl rfl
    obtain⟨q1,q2⟩:=zWb F htr hop' hls (by have:=h.seg.le;omega) hpi ho hE' m3 m4 m6 m5 (Bv.1 m1).1;grind
   have hfr:∀j,j<news.length->β (((R s).take n).length+j)=none:=by
    intro j hj;rcases hnum with rfl|⟨b,e,rfl,m1,m2,q1,q2⟩;all_goals grind
   refine .inl (Oper.wp_mono (λa' w' hx=>?_) ((n1.look hlook).heavy hM hl k0 hsr k7 (hg0.mono k8.1.fix) hfr Q));obtain⟨v,β',I',rfl,o1,o2⟩:=hx;exact ih _ _ _ s t (h.nextL F hi ho hls k0 k1 k2 k3 k4 k5 k6 k7 k8 k9 k10 n2 hnum o1 o2) (hcount i hi)
  rcases hp2 with hlt|hpt
  ·have hE:isE T o.op=false:=by
    obtain⟨j,oj,j1,j2,j3,_⟩:=h.seg.step _ hp1 hlt;grind
   obtain⟨β,I,SL,k0,k1,k2,k3,k4,k5,k6,k7,k8,k9,k10⟩:=h.ex;have hlook:=h.look F ho hn hd hp1 hlt k1 k2 k3;have hst:=zQr hE (htr (pos ord i) i o hpi ho);unfold wpOp;simp only[ho];rcases hst with⟨g1,d,fz,news,n1,n2,n3⟩|⟨g1,n2,n3⟩
   ·rw [if_pos (zGv (ops:=ops) k0 ((zPv hlook).trans g1))];have hsr:SRw β I w (R (pos ord i)):=λk b c e hk he=>by
     obtain⟨e',m1,m2⟩:=k4 k b c hk;obtain⟨e'',n1,n2⟩:=(h.seg.store' hp1 (Nat.le_of_lt hlt) (As _)).2 k e he;grind [BV]
    have hfr:∀j,j<news.length->β ((R (pos ord i)).length+j)=none:=by
     intro j hj;cases hb:β ((R (pos ord i)).length+j)with
     |none=>rfl
     | some x=>
      exfalso;have hlen:(R (pos ord i+1)).length=(R (pos ord i)).length+news.length:=by rw[n3,Bf,zZ]
      rcases k9 _ x hb with h3|⟨p,j',a1,a2,a3,a4,a5,a6⟩
      ·have:=(h.seg.store' (As _) hp1 (by omega)).1
       omega
      rcases Cf p (pos ord i)with h3|h3|h3
      ·have:=(h.seg.store' (show s<=p+1 by omega) (show p+1<=pos ord i by omega) (by omega)).1
       omega
      ·grind
      have:=(h.seg.store' (show s<=pos ord i+1 by omega) (show pos ord i+1<=p by omega) (by omega)).1
      omega
    refine .inl (Oper.wp_mono (λa' w' hx=>?_) ((n1.look hlook).heavy hM hl k0 hsr k7 (hg0.mono k8.1.fix) hfr Q));obtain⟨v,β',I',rfl,o1,o2⟩:=hx;exact ih _ _ _ s t (h.next F hi ho hp1 hlt k0 k1 k2 k3 k4 k5 k6 k7 k8 k9 k10 n2 n3 o1 o2) (hcount i hi)
   rw[if_neg (by rw[zGv (ops:=ops) k0 ((zPv hlook).trans g1)];simp)];exact ih _ _ _ s t (h.next (fz:=[]) (news:=[]) F hi ho hp1 hlt k0 k1 k2 k3 k4 k5 k6 k7 k8 k9 k10 n2 (by rw[n3];simp[zAy]) (OutN.stay β I w _) (Rel.valI undef)) (hcount i hi)
  have hE:isE T o.op=true:=by
   rcases h.atT with h1|⟨j,oj,j1,j2,j3⟩;all_goals grind
  have hlates:∀x ox,ops[x]?=Ac ox->pos ord x<t->¬Ls listed x->x∈Lt i:=by
   suffices H:∀n x ox,pos ord x=n->ops[x]?=Ac ox->pos ord x<t->¬Ls listed x->x∈Lt i from λx ox=>H _ x ox rfl
   intro n;induction n using Bu with
   | _ n ihx=>
    intro x ox hn hx hp hnx;have hne:i≠x:=λe=>by rw[<-e]at hp;omega
    rcases F.eff1 i x o ox ho hx hne hE (by omega)with h1|h1|⟨h1,h2⟩
    ·exact absurd (zDb F h.cl i o x ho (A5.1 hx).1 hd h1) hnx
    ·exact h1
    exfalso;refine hlight ⟨x,ox,(zCt h.size).2 ⟨hnx,ox,hx,λd hd'=>?_⟩,hx,h1⟩;have h3:=F.dep x ox hx d hd';grind
  obtain⟨β,I,sim,⟨stp,kp⟩,hk10⟩:=h.full F hg0;have htlt:t<ops.size:=by rw[<-hpt];exact(op_at F ho).2
  obtain⟨t',t1,t2,t3⟩:=zV3 (P:=P) (T:=T) htr hop (ops.size-(t+1)) (t+1) (by omega);have hls:∀j,Ls (listed.setIfInBounds i Ab) j↔j=i\/Ls listed j:=λj=>zZe (by rw[h.size];exact(A5.1 ho).1);have hpi':ord[t]?=Ac i:=hpt▸hpi;have hod:ops.getD i Al=o:=by simp[ho]
  have hlo:∀j,¬Ls (listed.setIfInBounds i Ab) j->¬Ls listed j/\j≠i:=λj hl=>⟨λk=>hl ((hls j).2 (.inr k)),λk=>hl ((hls j).2 (.inl k))⟩;have hlt':∀p j,p<t+1->ord[p]?=Ac j->¬Ls (listed.setIfInBounds i Ab) j->p<t/\¬Ls listed j/\j∈Lt i:=λp j hp hj hl=>by
   obtain⟨l1,l2⟩:=hlo j hl;have hpt':p<t:=by
    grind
   have hjm:=(F.mem j).2 (BW hj);exact⟨hpt',l1,hlates j ops[j] (by simp[hjm]) (by rw[zBx F.nodup hj];exact hpt') l1⟩
  have hgrow:∀p j,p<t->ord[p]?=Ac j->¬Ls listed j->∀q,p<=q->q<t->(R q).length<=(R (q+1)).length:=λp j hp hj hl q h1 h2=>by
   rcases BH q s with h3|h3
   ·exact h.mo p j (by omega) hj hl q h1 h3
   exact(h.seg.store' h3 (show q<=q+1 by omega) (by omega)).1
  have hX1:∀x∈o.looksAt ops,x∉zM0 ops ord listed t:=λx hx hm=>by
   obtain⟨p,j,oj,m1,m2,m3,m4,m5⟩:=zE1.1 hm;have hpj:pos ord j=p:=zBx F.nodup m2;have hne:i≠j:=λe=>by rw[<-e]at hpj;omega
   rcases F.haz i j o oj x ho m4 hne m5 hx with hz|hz
   ·exact m3 (zDb F h.cl i o j ho (A5.1 m4).1 hd hz)
   have:=zMv F j oj i m4 (A5.1 ho).1 hz
   omega
  have hX2:∀x,o.dst=Ac x->x∉zM0 ops ord listed t:=λx hx hm=>by
   obtain⟨p,j,oj,m1,m2,m3,m4,m5⟩:=zE1.1 hm;have hpj:pos ord j=p:=zBx F.nodup m2;exact F.dst i j o oj x ho m4 (λe=>by rw[<-e]at hpj;omega) hx m5
  have cont:∀a' w' β' I',Sim β' I' w' (unkS (zM0 ops ord listed t) (S (t+1))) (R (t+1)) a'.tmps.toList->Stp β I w β' I' w'->a'.defers=a.defers->Kp T β β'->(Lt i=[]\/(R t).length<=(R (t+1)).length)->
    (∀p j,p<t->ord[p]?=Ac j->¬Ls listed j->∀k,(R p).length<=k->k<(R (p+1)).length->β' k=Aj)->wpAny P .any ops Q fuel (listed.setIfInBounds i Ab) a' w':=by
   intro a' w' β' I' q1 q2 q3 q4 q5 q6;refine ih _ _ _ (t+1) t' ⟨by rw[Array.size_setIfInBounds];exact h.size,h.cl.set hi,t1,t2,λp j hp hj hl=>?_,λp j hp hj hl'=>?_,t3,q3.trans h.df,λp j hp hj hl q h1 h2=>?_,β',I',unkS (zM0 ops ord listed t) (S (t+1)),q1.rel,zE8 _ _,λx _ hx=>?_,λp j oj x a1 a2 a3 a4 a5 a6=>?_,λk b c hk=>?_,q1.inj,λk b c j e hk he hj=>?_,q1.imb,⟨stp.trans q2,kp.trans q4⟩,λk x hk=> .inl (q1.dom k x hk),λp j hp hj hl k c1 c2=>?_⟩ (hcount i hi)
   ·obtain⟨_,_,l3⟩:=hlt' p j hp hj hl;obtain⟨oj,m1,m2,m3,m4,m5,m6⟩:=F.latE i j l3;obtain⟨n,n1,_⟩:=hL t i hpi' j l3;rw[show ops.getD j Al=oj by simp[m1]]at n1;exact⟨oj,n,m1,m2,m3,m4,m5,m6,n1⟩
   ·have:=t2.le
    rcases(hls j).1 hl' with rfl|h5
    ·have:=zBx F.nodup hj;omega
    exact h.hi p j (by omega) hj h5
   ·obtain⟨l1,l2,l3⟩:=hlt' p j hp hj hl;grind
   ·refine zVe λhm=>?_;obtain⟨p,j,oj,m1,m2,m3,m4,m5⟩:=zE1.1 hm;grind
   ·exfalso;rcases(hls j).1 a4 with rfl|h5
    ·have:=zBx F.nodup a3;omega
    exact h.hi p j (by omega) a3 h5
   ·obtain⟨e,m1,m2⟩:=q1.sr k b c hk;obtain⟨e',n1,n2⟩:=(t2.store' (As _) t2.le (As _)).2 k e m1;grind [BV]
   ·obtain⟨e0,m1,m2⟩:=q1.sr k b c hk;obtain⟨e',n1,n2⟩:=(t2.store' (As _) t2.le (As _)).2 k e0 m1;rw[he]at n1;cases n1
    have:=q1.fz k b c j e0 hk m1 hj
    exact⟨n2.2.2.2.2.2 this.1,by rw[n2.1,n2.2.2.2.2.1];exact this.2⟩
   grind
  have hst0:=htr t i o hpi' ho;have hst:=zYf hst0 hX1 hX2;unfold wpOp;simp only[ho];rcases zL9 (ops:=ops) (N:=Eqs (unkS (zM0 ops ord listed t) (S (t+1))) (R (t+1))) sim hst with⟨g1,g2⟩|⟨g1,g2,g3⟩
  ·rw [if_pos g1];cases hcv:zEh o.op with
   | true=>
    have hlen:Lt i=[]\/(R t).length<=(R (t+1)).length:=by
     rcases hx:Lt i with _|⟨j,l⟩
     ·exact .inl rfl
     obtain⟨n,_,_,n3⟩:=hL t i hpi' j (by rw[hx];exact AD);exact .inr n3
    refine .inl (Oper.wp_mono (λa' w' hx=>?_) (zNv hM o g2 sim Q));obtain⟨sl',st',β',I',⟨rfl,rfl⟩,q2,q3,q4,q5⟩:=hx;refine cont a' w' β' I' q2 q3 q4 q5 hlen λp j hp hj hl k c1 c2=>?_;have hjm:=(F.mem j).2 (BW hj);have hjl:=hlates j ops[j] (by simp[hjm]) (by rw[zBx F.nodup hj];exact hp) hl;obtain⟨oj,m1,m2,m3,m4,_⟩:=F.latE i j hjl;have hnn:=F.latA i o ho hE j hjl hcv;rw[show ops.getD j Al=oj by simp[m1]]at hnn;grind [zY1]
   | false=>
    refine .inl (Oper.wp_mono (λa' w' hx=>?_) (zXk hM o g2 hE hcv sim Q));obtain⟨β',I',q2,q3,q4,q5,q6⟩:=hx;refine cont a' w' β' I' q2 q3 q4 q5 (.inr (zYg hst0 hE hcv)) λp j hp hj hl k c1 c2=>?_;have hjm:=(F.mem j).2 (BW hj);have hjl:=hlates j ops[j] (by simp[hjm]) (by rw[zBx F.nodup hj];exact hp) hl;obtain⟨oj,m1,m2,m3,m4,_⟩:=F.latE i j hjl;obtain⟨n,n1,n2,_⟩:=hL t i hpi' j hjl;rw[show ops.getD j Al=oj by simp[m1]]at n1;rw[hod]at n2;have hrg:=zXg (s:=t+1) F htr hop' (by omega) (by omega) hj m1 m2 m3 m4 n1;have hkn:k=n:=by
     omega
    have hkt:k<(R t).length:=by
     have key:∀m,p+1+m<=t->(R (p+1)).length<=(R (p+1+m)).length:=by
      intro m;induction m with
      |zero=>intro _;exact As _
      |succ m ihm=>
       intro hm;have h2:=hgrow p j hp hj hl (p+1+m) (by omega) (by omega);grind
     have:=key (t-(p+1)) (by omega)
     rw[show p+1+(t-(p+1))=t by omega]at this;omega
    refine q6 k hkt (hk10 p j hp hj hl k c1 c2) λy hy=>?_;rw[hkn,zTn (ops:=ops) (o:=o) (sl:=S t) (λx hx=>zLa (hX1 x hx)) y hy];exact n2 (by omega) y hy
  rw[if_neg (by simp[g1])];refine cont _ _ β I ?_ (Bb _ _ _) (zAr _ _ _) (AU _ _) (.inr ?_) hk10
  ·rw[<-g2,<-g3];exact sim.skip o.dst
  grind
theorem zKi(hM:zCe P T)(hm:P.follows .mixedOrders=Ab){id:Nat}{l0:List Nat}{its:List zKa}{sl:List D}{st:List Bk}{β:Be}{I:Im}{a:Act}{w:World}(hok:zLn T ops l0 its=Ab)(hq:seqF P T ops l0 its sl st K)(h:Sim β I w sl st a.tmps.toList)
  (hP:∀c a w,¬Q (.panic c) a w)(hQ:∀a' w',zXx T K β I w a.defers a' w'->Q .normal a' w'):(Code.region id ops Ab).wp P Q a w:=by
 have F:=RegF.of hok;obtain⟨S,R,s1,s2,s3,s4,s5⟩:=traceF hq;generalize hord:zEy l0 its=ord at F s3 s4;rw[F.len]at s3;have htr:∀(p:Nat) i o,ord[p]?=Ac i->ops[i]?=Ac o->zCd P T ops o (S p) (R p) (Eqs (S (p+1)) (R (p+1))):=λp i o hp ho=>by
  have:=s4 p i hp
  simp_all
 have hL:∀t e,ord[t]?=Ac e->∀i∈zNj its e,∃n,zH6 P T ops (ops.getD i Al) n (S (t+1)) (R (t+1))/\(n<(R t).length->zRq (ops.getD e Al) n (S t))/\(R t).length<=(R (t+1)).length:=by
  intro t e ht i hi;unfold zNj at hi;split at hi
  ·rename_i x hx;obtain⟨y,hy,rfl⟩:=AO.1 hi;have hxe:x.1=e:=by have:=List.find?_some hx;simpa using this
   obtain⟨pre,post,hpp⟩:=List.append_of_mem (List.mem_of_find?_eq_some hx);obtain⟨k1,k2⟩:=s5 pre x post hpp;have ht2:ord[l0.length+(zBi pre).length]?=Ac e:=by
    rw[<-hord,zEy,List.getElem?_append_right (by omega),hpp];simp only[zBi,List.flatMap_append,BX];grind
   have e1:=zBx F.nodup ht;have e2:=zBx F.nodup ht2;have e3:t=l0.length+(zBi pre).length:=by omega
   rw[e3];exact⟨y.2,k2.2 y hy,λhlt=>by rw[<-hxe];exact k1 y hy hlt,k2.1⟩
  cases hi
 have hop:∀p,p<ops.size->∃i o,ord[p]?=Ac i/\ops[i]?=Ac o:=λp hp=>by
  have h1:p<ord.length:=by rw[F.len];exact hp
  refine⟨ord[p],ops[ord[p]]'((F.mem _).2 (A4 h1)),Ax h1,by simp[(F.mem _).2 (A4 h1)]⟩
 obtain⟨t,t1,t2,t3⟩:=zV3 (P:=P) (T:=T) htr hop ops.size 0 (by omega);refine wp_region_any hm ?_;have hfix:Fix I w I {w with drawn:=w.drawn+1}:=λb o hi=>⟨hi,λv hv=>hv,λ_ _ h=>h⟩;refine any_sound (β0:=β) (I0:=I) (w0:=w) (df:=a.defers) h.gl hM F F.len.symm htr s3 hL hP hQ ops.size _ a _ 0 t ⟨by simp,?_,t1,t2,λp i hp=>by omega,λp i _ _ hl=>?_,t3,rfl,λp i hp=>by omega,β,I,S 0,?_,rfl,λx _ _=>rfl,λp i o x _ _ _ hl=>?_,λk b c hk=>?_,h.inj,λk b c j e hk he hj=>?_,h.imb,?_,λk x hk=> .inl (by rw[s2];exact h.dom k x hk),λp i hp=>by omega⟩ ?_
 ·intro k ok _ hl;exfalso;revert hl;simp only[Cg,Ch];split<;>simp
 ·revert hl;unfold Ls;simp only[Cg,Ch];split<;>simp
 ·rw[s1];exact Bw hfix _ _ (AJ _) _ _ h.rel
 ·exfalso;revert hl;unfold Ls;simp only[Cg,Ch];split<;>simp
 ·obtain⟨e,m1,m2⟩:=h.sr k b c hk;rw[<-s2]at m1;obtain⟨e',n1,n2⟩:=(t2.store' (As _) t2.le (As _)).2 k e m1;grind [BV,BI,AJ]
 ·obtain⟨e0,m1,m2⟩:=h.sr k b c hk;have m1':=m1;rw[<-s2]at m1;obtain⟨e',n1,n2⟩:=(t2.store' (As _) t2.le (As _)).2 k e0 m1;rw[he]at n1;cases n1
  have:=h.fz k b c j e0 hk m1' hj
  exact⟨n2.2.2.2.2.2 this.1,by rw[n2.1,n2.2.2.2.2.1];exact this.2⟩
 ·exact⟨⟨hfix,As _,λ_ _ _=>rfl,rfl,rfl,rfl,Nat.le_succ _,λk b c hk=> .inl ⟨k,c,hk⟩,λ_ _ h=> .inl h⟩,AU _ _⟩
 simp
theorem zTp(hM:zCe P T)(hm:P.follows .mixedOrders=Ab){id:Nat}{sl:List D}{st:List Bk}{β:Be}{I:Im}{a:Act}{w:World}(hok:zW8 T ops ord=Ab)(hq:seqW P T ops Ab (ord.map λi=>ops.getD i Al) sl st K)(h:Sim β I w sl st a.tmps.toList)
  (hP:∀c a w,¬Q (.panic c) a w)(hQ:∀a' w',zXx T K β I w a.defers a' w'->Q .normal a' w'):(Code.region id ops Ab).wp P Q a w:=
 zKi (l0:=ord) (its:=[]) hM hm (zYl hok) hq h hP hQ
end
section
variable {P : Program} {T : Par}
def okE:Exit->Prop
 | .normal| .exit _| .ret=>True
 |_=>False
def Lift(T:Par)(Q:Exit->List D->List Bk->Prop)(β:Be)(I:Im)(w:World)(df:List Deferred):Exit->Act->World->Prop:=λe a' w'=>okE e/\zXx T (Q e) β I w df a' w'
def InLoop(P:Program)(c:Code)(Q:Exit->Act->World->Prop)(a:Act)(w:World):Prop:=∀b k cs,∃e a' w',Q e a' w'/\Arrives P (lone (b.at a (.code c:: .inLoop c::k)) cs w) b k cs e a' w'
theorem InLoop.wp{c:Code}{Q:Exit->Act->World->Prop}{a:Act}{w:World}(h:InLoop P c Q a w):(Code.loop c).wp P Q a w:=by
 intro b k cs;obtain⟨e,a',w',hq,harr⟩:=h b k cs;exact⟨e,a',w',hq, .of_steps (.one step_loop) harr⟩
theorem InLoop.of_round{c:Code}{Q:Exit->Act->World->Prop}{a:Act}{w:World}(h:c.wp P (Exit.then (InLoop P c Q) Q) a w):InLoop P c Q a w:=by
 intro b k cs;obtain⟨e,a₁,w₁,hq,harr⟩:=h b (.inLoop c::k) cs;cases e with
 |normal=>
  obtain⟨e₂,a₂,w₂,hq₂,harr₂⟩:=hq b k cs;exact⟨e₂,a₂,w₂,hq₂, .of_steps (Steps.trans harr (.one step_inLoop)) harr₂⟩
 |exit id=>exact⟨_,a₁,w₁,hq, .pass (x:= .inLoop c) rfl (λ_ _=> .inl (by simp)) harr⟩
 |goto l=>exact⟨_,a₁,w₁,hq, .pass (x:= .inLoop c) rfl (λ_ _=> .inl (by simp)) harr⟩
 |ret=>exact⟨_,a₁,w₁,hq, .pass (x:= .inLoop c) rfl (λ_ _=> .inl (by simp)) harr⟩
 |panic ch=>exact⟨_,a₁,w₁,hq, .pass (x:= .inLoop c) rfl (λ_ _=> .inl (by simp)) harr⟩
 |outgrown=>exact⟨_,a₁,w₁,hq, .pass (x:= .inLoop c) rfl (λ_ _=> .inl (by simp)) harr⟩
theorem zMq(hM:zCe P T)(hm:P.follows .mixedOrders=Ab):∀(c:Code)(Q:Exit->List D->List Bk->Prop)(sl:List D)(st:List Bk)(β:Be)(I:Im)(a:Act)(w:World),
  awp P T c Q sl st->Sim β I w sl st a.tmps.toList->c.wp P (Lift T Q β I w a.defers) a w:=by
 intro c;induction c with
 |skip=>intro Q sl st β I a w h hs;exact wp_skip ⟨trivial,sl,st,β,I,h,hs,Bb _ _ _,rfl,AU _ _⟩
 | region id ops dr=>
  intro Q sl st β I a w h hs;simp only[awp]at h;cases dr with
  |true=>
   simp only[if_true]at h;rcases h with⟨ord,h1,h2⟩|⟨l0,its,h1,h2⟩
   ·exact zTp hM hm h1 h2 hs (λc a w hx=>hx.1) (λa' w' hx=>⟨trivial,hx⟩)
   exact zKi hM hm h1 h2 hs (λc a w hx=>hx.1) (λa' w' hx=>⟨trivial,hx⟩)
  |false=>
   simp only[AY,if_false]at h;refine wp_region (zLl hM (A6 ops.size) ops.toList ?_ sl st β I a w _ h hs (λa' w' hx=>⟨trivial,hx⟩));apply Ci;grind
 | seq x y ihx ihy=>
  intro Q sl st β I a w h hs;simp only[awp]at h;refine wp_seq (wp_mono (ihx _ sl st β I a w h hs) λe a' w' hq=>?_);obtain⟨h1,sl',st',β',I',q1,q2,q3,q4,q5⟩:=hq;cases e with
  |normal=>
   obtain⟨sl1,st1,m1,m2⟩:=q1;obtain⟨β1,I1,k1,k2,k3⟩:=m1 β' I' w' _ q2;refine wp_mono (ihy Q sl1 st1 β1 I1 a' w' m2 k1) λe a'' w'' hq=>?_;obtain⟨h1,sl'',st'',β'',I'',r1,r2,r3,r4,r5⟩:=hq;exact⟨h1,sl'',st'',β'',I'',r1,r2,(q3.trans k2).trans r3,r4.trans q4,(q5.trans k3).trans r5⟩
  |exit id=>exact⟨trivial,sl',st',β',I',q1,q2,q3,q4,q5⟩
  |ret=>exact⟨trivial,sl',st',β',I',q1,q2,q3,q4,q5⟩
  |_=>exact h1.elim
 | cond c x y ihx ihy=>
  intro Q sl st β I a w h hs;simp only[awp]at h;have hc:=zAn hs.rel c;split at h
  ·rename_i t ht;rw[ht]at hc;simp only[Rel]at hc;exact wp_cond_split hc (λhx=>ihx Q sl st β I a w (h.1 hx) hs) (λhx=>ihy Q sl st β I a w (h.2 hx) hs)
  exact h.elim
 | block id b ih=>
  intro Q sl st β I a w h hs;simp only[awp]at h;refine wp_block (wp_mono (ih _ sl st β I a w h hs) λe a' w' hq=>?_);obtain⟨h1,sl',st',β',I',q1,q2,q3,q4,q5⟩:=hq;cases e with
  |normal=>exact⟨trivial,sl',st',β',I',q1,q2,q3,q4,q5⟩
  | exit j=>
   simp only[zAb]at q1;simp only[Exit.inBlock];by_cases hj:j=id
   ·rw[if_pos hj]at q1;simp only[hj,if_true];exact⟨trivial,sl',st',β',I',q1,q2,q3,q4,q5⟩
   rw[if_neg hj]at q1;simp only[hj,if_false];exact⟨trivial,sl',st',β',I',q1,q2,q3,q4,q5⟩
  |ret=>exact⟨trivial,sl',st',β',I',q1,q2,q3,q4,q5⟩
  |_=>exact h1.elim
 | loop b ih=>
  intro Q sl st β I a w h hs;simp only[awp]at h;have hX:=h (λsl1 st1=>∀β1 I1 a1 w1,Sim β1 I1 w1 sl1 st1 a1.tmps.toList->Stp β I w β1 I1 w1->a1.defers=a.defers->Kp T β β1->InLoop P b (Lift T Q β I w a.defers) a1 w1) ?_
  ·obtain⟨sl',st',h1,h2⟩:=hX;obtain⟨β',I',k1,k2,k3⟩:=h1 β I w _ hs;exact(h2 β' I' a w k1 k2 rfl k3).wp
  intro Y sl1 st1 hY hb β1 I1 a1 w1 j2 j3 j4 j5;refine InLoop.of_round (wp_mono (ih _ sl1 st1 β1 I1 a1 w1 hb j2) λe a' w' hq=>?_);obtain⟨e1,sl2,st2,β2,I2,q1,q2,q3,q4,q5⟩:=hq;cases e with
  |normal=>
   obtain⟨sl3,st3,m2,m3⟩:=hY sl2 st2 q1;obtain⟨β3,I3,k3,k4,k5⟩:=m2 β2 I2 w' _ q2;exact m3 β3 I3 a' w' k3 ((j3.trans q3).trans k4) (q4.trans j4) ((j5.trans q5).trans k5)
  |exit id=>exact⟨trivial,sl2,st2,β2,I2,q1,q2,j3.trans q3,q4.trans j4,j5.trans q5⟩
  |ret=>exact⟨trivial,sl2,st2,β2,I2,q1,q2,j3.trans q3,q4.trans j4,j5.trans q5⟩
  |_=>exact e1.elim
 |exit id=>intro Q sl st β I a w h hs;exact wp_exit ⟨trivial,sl,st,β,I,h,hs,Bb _ _ _,rfl,AU _ _⟩
 |label l=>intro Q sl st β I a w h hs;exact wp_label ⟨trivial,sl,st,β,I,h,hs,Bb _ _ _,rfl,AU _ _⟩
 |ret=>intro Q sl st β I a w h hs;exact wp_ret ⟨trivial,sl,st,β,I,h,hs,Bb _ _ _,rfl,AU _ _⟩
 |_=>intro Q sl st β I a w h hs;exact h.elim
end
def LeD(d d':D):Prop:=∀I w β v,Rel I w β d v->Rel I w β d' v
mutual
/-- nil as an empty row, throughout -/
def zGb:D->D
 | .val v=>match v with
  | .slice Aj 0 0=> .row [] 0
  |v=> .val v
 | .agg cs=> .agg (zHg cs)
 | .tup cs=> .tup (zHg cs)
 | .ifc t d=> .ifc t (zGb d)
 |d=>d
def zHg:List D->List D
 |[]=>[]
 |d::ds=>zGb d::zHg ds
end
mutual
theorem zGr{I:Im}{w:World}{β:Be}:∀(d:D)(v:Value),Rel I w β d v->Rel I w β (zGb d) v
 | .val u,v,h=>by
  simp only[zGb];split
  ·simp only[Rel]at h⊢;exact⟨Aj,0,h,As _,by decide,λ_=>rfl, .inl trivial⟩
  exact h
 | .agg cs,v,h=>by
  simp only[zGb,Rel]at h⊢;obtain⟨vs,rfl,h⟩:=h;exact⟨vs,rfl,zKf cs vs h⟩
 | .tup cs,v,h=>by
  simp only[zGb,Rel]at h⊢;obtain⟨vs,rfl,h⟩:=h;exact⟨vs,rfl,zKe cs vs h⟩
 | .ifc t d,v,h=>by
  simp only[zGb,Rel]at h⊢;obtain⟨u,rfl,h⟩:=h;exact⟨u,rfl,zGr d u h⟩
 | .unk,v,h=>h
 | .row cs n,v,h=>h
 | .ptr cs,v,h=>h
 | .clo f x y,v,h=>h
 | .own k o,v,h=>h
 | .osl k o n m b,v,h=>h
 | .mref k,v,h=>h
 | .mfz ks cs,v,h=>h
 | .fx d,v,h=>h
 | .osr ..,v,h=>h
theorem zKf{I:Im}{w:World}{β:Be}:∀(ds:List D)(vs:List Value),RelL I w β ds vs->RelL I w β (zHg ds) vs
 |[],vs,h=>h
 |d::ds,vs,h=>by
  simp only[zHg,RelL]at h⊢;obtain⟨v,us,rfl,h1,h2,h3⟩:=h;exact⟨v,us,rfl,h1,zGr d v h2,zKf ds us h3⟩
theorem zKe{I:Im}{w:World}{β:Be}:∀(ds:List D)(vs:List Value),RelT I w β ds vs->RelT I w β (zHg ds) vs
 |[],vs,h=>h
 |d::ds,vs,h=>by
  simp only[zHg,RelT]at h⊢;obtain⟨v,us,rfl,h2,h3⟩:=h;exact⟨v,us,rfl,zGr d v h2,zKe ds us h3⟩
end
theorem zY2(d:D):LeD d (zGb d):=λI w β v h=>zGr d v h
section
variable {P : Program} {T : Par}
def zM9(P:Program)(sl:List D)(st:List Bk):ResultVar->Eff
 | .tmp t=> .get True (sl.getD t .unk)
 | .cell a t=>match sl.getD a .unk with
  | .ptr cs=>ldP P t cs .get
  | .own k off=>match st[k]? with
   |some e=>if e.kd.isMap then .bad else ldP P t (e.cells.drop off) .get
   |none=> .bad
  |_=> .bad
def retL(P:Program)(sl:List D)(st:List Bk):List ResultVar->(List D->Prop)->Prop
 |[],K=>K []
 |r::rs,K=>match zM9 P sl st r with
  | .get p d=>p/\retL P sl st rs (λds=>K (d::ds))
  |_=>False
def oneD:List D->D
 |[d]=>d
 |ds=> .tup ds
theorem zQz{sl:List D}{st:List Bk}{β:Be}{I:Im}{w:World}{a:Act}(h:Sim β I w sl st a.tmps.toList)(r:ResultVar){p:Prop}{d:D}(he:zM9 P sl st r= .get p d)(hp:p):
  ∃v,(match r with
   | .tmp t=>pure (a.tmps.getD t undef)
   | .cell x t=>do loadVar t (<-asAddr (a.tmps.getD x undef)):Sem Value).run P w= .ok v w/\Rel I w β d v:=by
 cases r with
 |tmp t=>
  simp only[zM9,Eff.get.injEq]at he;obtain⟨rfl,rfl⟩:=he
  have:=zAn h.rel (.tmp t)
  exact⟨_,rfl,this⟩
 | cell x t=>
  have hx:Rel I w β (sl.getD x .unk) (a.tmps.getD x undef):=zAn h.rel (.tmp x);have key:∀(b o:Nat)(v:Value),(Instr.loadAt t (.pointer (Ac ⟨b,o,Aj⟩))).run P w= .ok v w->(loadVar t ⟨b,o,Aj⟩).run P w= .ok v w:=by
   intro b o v hl;simpa[Instr.loadAt,Instr.sureAddr]using hl
  simp only[zM9]at he;split at he
  ·rename_i cs hc;rw[hc]at hx;simp only[Rel]at hx;obtain⟨b,o,hv,hr⟩:=hx;obtain⟨v,k1,k2⟩:=zH5 (I:=I) (w:=w) (β:=β) (b:=b) (o:=o) (λj x hx=>by
    obtain⟨_,v,k1,k2,k3⟩:=hr.get j x hx;exact⟨v,k1,k2,k3.no⟩) he hp
   exact⟨v,by simp[hv,asAddr,key _ _ _ k1],k2⟩
  ·rename_i k off hc;rw[hc]at hx;simp only[Rel]at hx;obtain⟨b,c,hb,hv⟩:=hx;split at he
   ·rename_i e hk;split at he
    ·cases he
    rename_i hmap;have ho':=(h.sr.weak k b c e hb hk).c (by simpa using hmap);obtain⟨v,k1,k2⟩:=zH5 (I:=I) (w:=w) (β:=β) (b:=b) (o:=off) (λj x hx=>by
     rw[List.getElem?_drop]at hx;obtain⟨v,k1,k2,k3⟩:=ho'.cells_get hx;refine⟨v,k1,k2,?_⟩;cases ha:e.nob<;>simp only[ha,if_true,if_false,AY]at k3
     ·exact k3
     exact k3.no) he hp
    exact⟨v,by simp[hv,asAddr,key _ _ _ k1],k2⟩
   cases he
  cases he
theorem zM8{sl:List D}{st:List Bk}{β:Be}{I:Im}{w:World}{a:Act}(h:Sim β I w sl st a.tmps.toList):∀(rs:List ResultVar)(K:List D->Prop),retL P sl st rs K->∃ds vs,K ds/\RelT I w β ds vs/\vs.length=rs.length/\
  (rs.mapM (m:=Sem) λr=>match r with
   | .tmp t=>pure (a.tmps.getD t undef)
   | .cell x t=>do loadVar t (<-asAddr (a.tmps.getD x undef))).run P w= .ok vs w
 |[],K,hk=>⟨[],[],hk,by simp only[RelT],rfl,by simp⟩
 | r::rs,K,hk=>by
  simp only[retL]at hk;split at hk
  ·rename_i p d hd;obtain⟨v,k1,k2⟩:=zQz (P:=P) h r hd hk.1;obtain⟨ds,vs,m1,m2,m3,m4⟩:=zM8 h rs _ hk.2;refine⟨d::ds,v::vs,m1,by simp only[RelT];exact⟨v,vs,rfl,k2,m2⟩,by simp[m3],?_⟩;simp_all
  exact hk.elim
theorem zFg{fn:Func}{sl:List D}{st:List Bk}{β:Be}{I:Im}{w:World}{a:Act}(h:Sim β I w sl st a.tmps.toList){K:List D->Prop}(hk:retL P sl st fn.results.toList K):
  ∃ds v,K ds/\Rel I w β (oneD ds) v/\(results fn a.tmps).run P w= .ok v w:=by
 obtain⟨ds,vs,m1,m2,m3,m4⟩:=zM8 (P:=P) h _ K hk;have hl:=m2.length;refine⟨ds,if h:vs.toArray.size=1 then vs.toArray[0]else .tuple vs.toArray,m1,?_,?_⟩
 ·match ds,m2,hl with
  |[],m2,hl=>simp only[RelT]at m2;subst m2;simp[oneD,Rel,RelT]
  |[d],m2,hl=>
   simp only[RelT]at m2;grind [oneD]
  |d::d'::ds,m2,hl=>
   have:¬(vs.toArray.size=1):=by simp[<-hl]
   rw[dif_neg this];simp only[oneD,Rel];exact⟨vs,rfl,m2⟩
 unfold results;have hm:=zCk (P:=P) fn.results _ vs w m4;rw[Sem.run_bind];erw[hm];rfl
theorem zLh{I:Im}{w:World}{β:Be}{args:List D}{vs:List Value}(h:RelT I w β args vs)(n:Nat):RelT I w β (args++AB n .unk) (vs.toArray++A7 n undef).toList:=by
 have hrep:RelT I w β (AB n .unk) (AB n undef):=by
  induction n with
  |zero=>simp only[List.replicate_zero,RelT]
  |succ n ih=>simp only[Cj,RelT];exact⟨_,_,rfl,by simp only[Rel],ih⟩
 have:=h.append hrep
 simpa using this
theorem zH(hM:zCe P T)(hm:P.follows .mixedOrders=Ab){f:FuncId}{fn:Func}{c:Code}(hf:P.funcs[f]?=Ac fn)(hb:fn.body=Ac c){args:List D}{x:D}
  (h:awp P T c (λe sl st=>(e= .normal\/e= .ret)/\retL P sl st fn.results.toList (λds=>∃y ks,frz Ab st zA6 (oneD ds)=Ac (y,ks)/\LeD y x)) (args++AB (fn.ntmps-args.length) .unk) []):Pure P f args [] x:=by
 intro I w vs hr hi hg;have hlen:=hr.length;refine calls_of_wp hf hb ?_;have hsim:Sim noB I w (args++AB (fn.ntmps-args.length) .unk) [] (vs.toArray++A7 (fn.ntmps-vs.toArray.size) undef).toList:=by
  refine⟨?_,?_,?_,?_,?_,hi,hg⟩
  ·grind [zLh]
  ·intro k b c h;cases h
  ·intro k k' b c c' h;cases h
  ·intro k b c j e h;cases h
  intro k x h;cases h
 refine wp_mono (zMq hM hm c _ _ _ noB I {tmps:=vs.toArray++A7 (fn.ntmps-vs.toArray.size) undef,defers:=[]} w h hsim) λe a' w' hq=>?_;obtain⟨e1,sl',st',β',I',⟨q0,q1⟩,q2,q3,q4,q5⟩:=hq;have fin:a'.defers=[]/\∃v,(results fn a'.tmps).run P w'= .ok v w'/\∃v' I' γ,Ending.returned v= .returned v'/\Ext w w'/\ImB I' w'/\Fix I w I' w'/\(∀b o,I' b o->I b o\/w.heap.size<=b)/\
  (∀k b c,γ k=Ac (b,c)->w.heap.size<=b)/\SR γ I' w' []/\Inj γ/\FZ γ I' []/\(∀k y,γ k=Ac y->k<([]:List Bk).length)/\Rel I' w' γ x v'/\(∀e∈([]:List Bk),e.arr=Ab/\e.kd= .plain):=by
  obtain⟨ds,v,⟨y,ks,k1,kle⟩,k2,k3⟩:=zFg (P:=P) (fn:=fn) q2 q1;have k4:=zB8 q2.sr.weak _ _ _ _ _ k1 k2;refine⟨q4,v,k3,v,fixI I' β' st' ks,noB,rfl,⟨⟨q3.os,q3.tape,q3.output,q3.size,λb hb=>q3.out b hb (λk c h=>by cases h)⟩,q3.dr⟩,zEv q2.sr.weak q2.imb ks,q3.fix.trans (zAm ks),λb o hx=>?_,λk b c h=>(by cases h),λk b c h=>(by cases h),λk k' b c c' h=>(by cases h),λk b c j e h=>(by cases h),λk y h=>(by cases h),kle _ _ _ _ k4,by simp⟩;rcases hx with hx|⟨k,_,c,e,hk,_⟩
  ·rcases q3.im b o hx with h1|h1|⟨k,c,h1⟩
   ·exact .inl h1
   ·exact .inr h1
   cases h1
  rcases q3.be k b c hk with⟨k',c',h1⟩|h1
  ·cases h1
  exact .inr h1
 rcases q0 with rfl|rfl
 ·exact fin
 exact fin
theorem zLr(hM:zCe P T)(hm:P.follows .mixedOrders=Ab){f:FuncId}{fn:Func}{c:Code}(hf:P.funcs[f]?=Ac fn)(hb:fn.body=Ac c){args:List D}{b:Bk}{n m:Nat}(hba:b.arr=Ab)
  (h:awp P T c (λe sl st=>(e= .normal\/e= .ret)/\retL P sl st fn.results.toList (λds=>∃k,oneD ds= .osl k 0 n m Ab/\st[k]?=Ac b)) (args++AB (fn.ntmps-args.length) .unk) [])(hkd:b.kd= .plain:=by rfl):Pure P f args [b] (.osl 0 0 n m Ab):=by
 intro I w vs hr hi hg;have hnb:b.nob=true:=by unfold Bk.nob;rw[hba,hkd];rfl
 have hmap:b.kd.isMap=false:=by rw[hkd];rfl
 have hlen:=hr.length;refine calls_of_wp hf hb ?_;have hsim:Sim noB I w (args++AB (fn.ntmps-args.length) .unk) [] (vs.toArray++A7 (fn.ntmps-vs.toArray.size) undef).toList:=by
  refine⟨?_,?_,?_,?_,?_,hi,hg⟩
  ·grind [zLh]
  ·intro k b c h;cases h
  ·intro k k' b c c' h;cases h
  ·intro k b c j e h;cases h
  intro k x h;cases h
 refine wp_mono (zMq hM hm c _ _ _ noB I {tmps:=vs.toArray++A7 (fn.ntmps-vs.toArray.size) undef,defers:=[]} w h hsim) λe a' w' hq=>?_;obtain⟨e1,sl',st',β',I',⟨q0,q1⟩,q2,q3,q4,q5⟩:=hq;have fin:a'.defers=[]/\∃v,(results fn a'.tmps).run P w'= .ok v w'/\∃v' I' γ,Ending.returned v= .returned v'/\Ext w w'/\ImB I' w'/\Fix I w I' w'/\(∀b o,I' b o->I b o\/w.heap.size<=b)/\
  (∀k b c,γ k=Ac (b,c)->w.heap.size<=b)/\SR γ I' w' [b]/\Inj γ/\FZ γ I' [b]/\(∀k y,γ k=Ac y->k<[b].length)/\Rel I' w' γ (.osl 0 0 n m Ab) v'/\(∀e∈[b],e.arr=Ab/\e.kd= .plain):=by
  obtain⟨ds,v,⟨k,k1,k1'⟩,k2,k3⟩:=zFg (P:=P) (fn:=fn) q2 q1;have hg:∀j y,(λj=>if j=0 then β' k else Aj:Be) j=Ac y->j=0/\β' k=Ac y:=λj y hj=>by
   grind
  have hown:∀bb c,β' k=Ac (bb,c)->OwnRel I' w' (λj=>if j=0 then β' k else Aj) bb c b:=by
   intro bb c hk;obtain⟨cur,c1,c2,c3,c4⟩:=(q2.sr.weak k bb c b hk k1').c hmap;refine OwnC.r ⟨cur,c1,c2,?_,c4⟩ hmap;rw[hnb]at c3⊢;exact c3
  refine⟨q4,v,k3,v,I',λj=>if j=0 then β' k else Aj,rfl,⟨⟨q3.os,q3.tape,q3.output,q3.size,λb hb=>q3.out b hb (λk c h=>by cases h)⟩,q3.dr⟩,q2.imb,q3.fix,λb o hx=>?_,λj bb c hj=>?_,λj bb c hj=>?_,λj j' bb c c' hj hj'=>?_,λj bb c i e hj he hi=>?_,λj y hj=>?_,?_,by simpa using⟨hba,hkd⟩⟩
  ·rcases q3.im b o hx with h1|h1|⟨k,c,h1⟩
   ·exact .inl h1
   ·exact .inr h1
   cases h1
  ·rcases q3.be k bb c (hg j _ hj).2 with⟨k',c',h1⟩|h1
   ·cases h1
   exact h1
  ·grind
  ·grind
  ·obtain⟨rfl,h2⟩:=hg j _ hj;simp at he;subst he;exact q2.fz k bb c i b h2 k1' hi
  ·rw[(hg j _ hj).1];simp
  rw[k1]at k2;simp only[Rel]at k2⊢;grind
 rcases q0 with rfl|rfl
 ·exact fin
 exact fin
theorem zB1(hM:zCe P T)(hm:P.follows .mixedOrders=Ab){f:FuncId}{fn:Func}{c:Code}(hf:P.funcs[f]?=Ac fn)(hb:fn.body=Ac c){args:List D}{st st':List Bk}{x:D}{ch:List Nat}(hkeep:∀k,k<st.length->T.keep k=Ab\/k∈ch)
  (h:awp P T c (λe sl s=>(e= .normal\/e= .ret)/\retL P sl s fn.results.toList (λds=>oneD ds=x/\s=st')) (args++AB (fn.ntmps-args.length) .unk) st):Acts P f args st ch x st':=by
 intro β I w vs hr hsr hinj hfz hdom hi hg;have hlen:=hr.length;refine calls_of_wp hf hb ?_;have hsim:Sim β I w (args++AB (fn.ntmps-args.length) .unk) st (vs.toArray++A7 (fn.ntmps-vs.toArray.size) undef).toList:=by
  refine⟨?_,hsr,hinj,hfz,hdom,hi,hg⟩;grind [zLh]
 refine wp_mono (zMq hM hm c _ _ _ β I {tmps:=vs.toArray++A7 (fn.ntmps-vs.toArray.size) undef,defers:=[]} w h hsim) λe a' w' hq=>?_;obtain⟨e1,sl',s',β',I',⟨q0,q1⟩,q2,q3,q4,q5⟩:=hq;have fin:a'.defers=[]/\∃v,(results fn a'.tmps).run P w'= .ok v w'/\∃v' β' I',Ending.returned v= .returned v'/\ImB I' w'/\Stp β I w β' I' w'/\
  (∀k y,k∉ch->β k=Ac y->β' k=Ac y)/\SR β' I' w' st'/\Inj β'/\FZ β' I' st'/\(∀k y,β' k=Ac y->k<st'.length)/\Rel I' w' β' x v':=by
  obtain⟨ds,v,⟨k1,rfl⟩,k2,k3⟩:=zFg (P:=P) (fn:=fn) q2 q1;exact⟨q4,v,k3,v,β',I',rfl,q2.imb,q3,λk y hc hk=>q5 k y ((hkeep k (hdom k y hk)).resolve_right hc) hk,q2.sr,q2.inj,q2.fz,q2.dom,k1▸k2⟩
 rcases q0 with rfl|rfl
 ·exact fin
 exact fin
theorem zA8(hM:zCe P T)(hm:P.follows .mixedOrders=Ab){f:FuncId}{fn:Func}{c:Code}(hf:P.funcs[f]?=Ac fn)(hb:fn.body=Ac c){args:List D}{st st':List Bk}{x:D}(hkeep:∀k,k<st.length->T.keep k=Ab)
  (h:awp P T c (λe sl s=>(e= .normal\/e= .ret)/\retL P sl s fn.results.toList (λds=>oneD ds=x/\s=st')) (args++AB (fn.ntmps-args.length) .unk) st):Acts P f args st [] x st':=by grind [zB1]
end
theorem LeD.refl(d:D):LeD d d:=λ_ _ _ _ h=>h
theorem LeD.unk(d:D):LeD d .unk:=λ_ _ _ _ _=>by simp only[Rel]
theorem LeD.eq{d d':D}(h:d=d'):LeD d d':=h▸LeD.refl d
theorem LeD.nil(k:Nat)(b:Bool):LeD (.val (.slice Aj 0 0)) (.osl k 0 0 0 b):=λ_ _ _ v h=>by
 simp only[Rel]at h⊢;exact .inl ⟨trivial,trivial,h⟩
theorem LeD.nil_row:LeD (.val (.slice Aj 0 0)) (.row [] 0):=λ_ _ _ v h=>by
 simp only[Rel]at h⊢;exact⟨Aj,0,h,As _,by decide,λ_=>rfl, .inl trivial⟩
inductive LeL:List D->List D->Prop
 |nil:LeL [] []
 |cons {d d':D} {ds ds':List D}:LeD d d'->LeL ds ds'->LeL (d::ds) (d'::ds')
theorem LeL.rel{I:Im}{w:World}{β:Be}{ds ds':List D}(h:LeL ds ds'):∀{vs:List Value},RelT I w β ds vs->RelT I w β ds' vs:=by
 induction h with
 |nil=>exact λh=>h
 |cons h1 _ ih=>
  intro vs h;simp only[RelT]at h⊢;obtain⟨v,us,e,h2,h3⟩:=h;exact⟨v,us,e,h1 _ _ _ _ h2,ih h3⟩
theorem LeL.refl:∀ds,LeL ds ds
 |[]=> .nil
 |d::ds=> .cons (.refl d) (LeL.refl ds)
theorem LeL.of_eq{ds ds':List D}(h:ds=ds'):LeL ds ds':=h▸LeL.refl ds
section
variable {P : Program} {T : Par}
theorem Weak.refl(sl:List D)(st:List Bk):Weak T sl st sl st:=λβ I w tm h=>⟨β,I,h,Bb _ _ _,AU _ _⟩
theorem Weak.trans{sl sl' sl'':List D}{st st' st'':List Bk}(h:Weak T sl st sl' st')(k:Weak T sl' st' sl'' st''):Weak T sl st sl'' st'':=λβ I w tm hs=>by
 obtain⟨β',I',h1,h2,h3⟩:=h β I w tm hs;obtain⟨β'',I'',k1,k2,k3⟩:=k β' I' w tm h1;exact⟨β'',I'',k1,h2.trans k2,h3.trans k3⟩
theorem Weak.slots{sl sl':List D}{st:List Bk}(h:LeL sl sl'):Weak T sl st sl' st:=λβ I w tm hs=>
 ⟨β,I,⟨h.rel hs.rel,hs.sr,hs.inj,hs.fz,hs.dom,hs.imb,hs.gl⟩,Bb _ _ _,AU _ _⟩
theorem Weak.more{sl:List D}{st:List Bk}(bs:List Bk):Weak T sl st sl (st++bs):=λβ I w tm hs=>by
 refine⟨β,I,⟨hs.rel,λk b c hk=>?_,hs.inj,λk b c j e hk he hi=>?_,λk x hk=>?_,hs.imb,hs.gl⟩,Bb _ _ _,AU _ _⟩
 ·obtain⟨e,h1,h2⟩:=hs.sr k b c hk;exact⟨e,by rw[CD (hs.dom k _ hk)];exact h1,h2⟩
 ·rw[CD (hs.dom k _ hk)]at he;exact hs.fz k b c j e hk he hi
 have:=hs.dom k x hk
 rw[Bf];omega
theorem OwnRel.congr{I:Im}{w:World}{β β':Be}{b c:Nat}{e:Bk}(h:OwnRel I w β b c e)(hb:e.nob=Ad->∀k x,zC4 k e.cells=Ab->β k=Ac x->β' k=Ac x):OwnRel I w β' b c e:=by
 rcases e.kd.cases with hk|⟨ks,hk⟩
 ·obtain⟨cur,h1,h2,h3,h4⟩:=h.c hk;refine OwnC.r ⟨cur,h1,h2,?_,h4⟩ hk;grind [RelL.congr]
 obtain⟨vs,h1,h2⟩:=h.m hk;refine OwnM.r ⟨vs,h1,?_⟩ hk;grind [RelT.congr]
def zLy(sl:List D)(st:List Bk)(m n:Nat):Bool:=(A6 (n-m)).all λi=>!zC4 (m+i) sl&&(st.take m).all λe=>e.nob||!zC4 (m+i) e.cells
theorem Weak.cut{sl:List D}{st:List Bk}(m:Nat)(h:zLy sl st m st.length=Ab)(hk:∀k,m<=k->T.keep k=Ad):Weak T sl st sl (st.take m):=λβ I w tm hs=>by
 have hno:∀k,m<=k->k<st.length->zC4 k sl=Ad/\∀e∈st.take m,e.nob=Ab\/zC4 k e.cells=false:=by
  intro k h1 h2;simp only[zLy,A8,List.mem_range,AL,Bx,Bg]at h
  have:=h (k-m) (by omega)
  rw[show m+(k-m)=k by omega]at this;exact this
 have hcut:∀(k:Nat)(x:Nat×Nat),(if k<m then β k else Aj)=Ac x->β k=Ac x/\k<m:=by
  intro k x hx;split at hx
  ·exact⟨hx,by assumption⟩
  cases hx
 refine⟨λk=>if k<m then β k else Aj,I,⟨?_,λk b c hk=>?_,λk k' b c c' hk hk'=>?_,λk b c j e hk he hi=>?_,λk x hk=>?_,hs.imb,hs.gl⟩,⟨Fix.refl _ _,As _,λ_ _ _=>rfl,rfl,rfl,rfl,As _,λk b c hk=> .inl ⟨k,c,(hcut k _ hk).1⟩,λ_ _ h=> .inl h⟩,λk x hx hb=>?_⟩
 ·refine RelT.congr sl tm (λk x hr hx=>?_) hs.rel;by_cases hm:k<m
  ·simp only[hm,if_true];exact hx
  have:=(hno k (by omega) (hs.dom k x hx)).1
  rw[this]at hr;cases hr
 ·obtain⟨h1,h2⟩:=hcut k _ hk;obtain⟨e,k1,k2⟩:=hs.sr k b c h1;refine⟨e,by rw[Bq,if_pos h2];exact k1,k2.congr λha j x hr hx=>?_⟩;by_cases hm:j<m
  ·simp only[hm,if_true];exact hx
  have hmem:e∈st.take m:=BW (by rw[Bq,if_pos h2];exact k1);rcases(hno j (by omega) (hs.dom j x hx)).2 e hmem with h3|h3
  ·rw[ha]at h3;cases h3
  rw[h3]at hr;cases hr
 ·exact hs.inj k k' b c c' (hcut k _ hk).1 (hcut k' _ hk').1
 ·obtain⟨h1,h2⟩:=hcut k _ hk;rw[Bq,if_pos h2]at he;exact hs.fz k b c j e h1 he hi
 ·obtain⟨h1,h2⟩:=hcut k _ hk
  have:=hs.dom k x h1
  rw[By];omega
 simp only;by_cases hm:k<m
 ·simp only[hm,if_true];exact hb
 rw[hk k (by omega)]at hx;cases hx
theorem zR5{b:Code}{Q:Exit->List D->List Bk->Prop}{sl:List D}{st:List Bk}(Inv:Nat->List D->List Bk->Prop)(h0:∃n sl' st',Weak T sl st sl' st'/\Inv n sl' st')
  (h:∀n sl st,Inv n sl st->awp P T b (zAe (λsl' st'=>∃m sl'' st'',m<n/\Weak T sl' st' sl'' st''/\Inv m sl'' st'') Q) sl st):awp P T (.loop b) Q sl st:=by
 intro X hX;have key:∀n sl st,Inv n sl st->X sl st:=by
  intro n;induction n using Bu with
  |_ n ih=>
   grind
 grind
theorem zW{b:Code}{Q:Exit->List D->List Bk->Prop}{sl:List D}{st:List Bk}(h:awp P T b (zAe (λsl' st'=>awp P T (.loop b) Q sl' st') Q) sl st):awp P T (.loop b) Q sl st:=by
 intro X hX;exact⟨sl,st,Weak.refl _ _,hX _ sl st (λsl' st' hY=>hY X hX) h⟩
theorem zQd{α:Type}{b:Code}{Q:Exit->List D->List Bk->Prop}{sl:List D}{st:List Bk}(S:α->List D)(B:α->List Bk)(μ:α->Nat)(J:α->Prop)(x₀:α)(h₀:J x₀)(hw:Weak T sl st (S x₀) (B x₀))
  (step:∀x,J x->awp P T b (zAe (λsl' st'=>∃y,J y/\μ y<μ x/\Weak T sl' st' (S y) (B y)) Q) (S x) (B x)):awp P T (.loop b) Q sl st:=by
 refine zR5 (λn sl st=>∃x,J x/\μ x=n/\sl=S x/\st=B x) ⟨μ x₀,_,_,hw,x₀,h₀,rfl,rfl,rfl⟩ ?_;grind
end
section
variable {P : Program} {T : Par} {ops : Array Oper} {dr : Bool} {o : Oper} {r : List Oper} {sl sl' : List D} {st st' : List Bk} {K : List D → List Bk → Prop} {p : Prop} {d : D} {b : Bk} {k : Nat} {fz : List Nat} {f : FuncId} {args : List D}
def goW(P:Program)(T:Par)(ops:Array Oper)(dr:Bool)(o:Oper)(r:List Oper)(sl:List D)(st:List Bk)(K:List D->List Bk->Prop):Prop:=match aeff P T o.op o.type (evD sl) st with
   | .bad=>False
   | .lit p d=>zV T o.op=Ab/\p/\seqW P T ops dr r (putD sl o.dst d) st K
   | .get p d=>zV T o.op=Ad/\p/\seqW P T ops dr r (putD sl o.dst d) st K
   | .new p b d fz=>zV T o.op=Ad/\p/\seqW P T ops dr r (putD sl o.dst d) (zAy st fz++[b]) K
   | .call f args fz=>zV T o.op=Ad/\∃news x,Pure P f args news x/\seqW P T ops dr r (putD sl o.dst (if news.isEmpty then x else zBu st.length x)) (zAy st fz++news) K
   | .put p k b fz=>isE T o.op=Ab/\p/\seqW P T ops dr r (putD sl o.dst .unk) ((zAy st fz).set k b) K
   | .app p k b d=>isE T o.op=Ab/\(T.keep k=Ad/\p)/\seqW P T ops dr r (putD (sl.map (zBy k)) o.dst d) ((st.map (zCw k)).set k b) K
   | .act f args=>zV T o.op=Ad/\(dr=Ad\/isE T o.op=Ab)/\∃ch x st',(Acts P f args st ch x st'/\∀k∈ch,T.keep k=Ad)/\seqW P T ops dr r (putD (sl.map (zC8 ch)) o.dst x) st' K
theorem zDe(hg:o.guard=Aj)(h:goW P T ops dr o r sl st K):seqW P T ops dr (o::r) sl st K:=by
 simp only[seqW,hg];exact h
theorem seq_skip{j:Nat}{want:Bool}{x:Array Value}(hg:o.guard=Ac (j,want))(hb:((ops[j]?).bind (·.dst)).map (λt=>sl.getD t .unk)=Ac (.val (.tuple x)))(hs:putD sl o.dst (.val undef)=sl')(h:seqW P T ops dr r sl' st K):seqW P T ops dr (o::r) sl st K:=by
 subst hs;simp only[seqW,hg,hb];exact h
theorem zQv{j:Nat}{want t:Bool}(hg:o.guard=Ac (j,want))(hb:((ops[j]?).bind (·.dst)).map (λt=>sl.getD t .unk)=Ac (.val (.bool t)))(hs:putD sl o.dst (.val undef)=sl')(h:t=want->goW P T ops dr o r sl st K)(h':t=!want->seqW P T ops dr r sl' st K):seqW P T ops dr (o::r) sl st K:=by
 subst hs;simp only[seqW,hg,hb];exact⟨h,h'⟩
theorem zZu(hE:aeff P T o.op o.type (evD sl) st= .lit p d)(hl:zV T o.op=Ab)(hp:p)(hs:putD sl o.dst d=sl')(h:seqW P T ops dr r sl' st K):goW P T ops dr o r sl st K:=by
 subst hs;simp only[goW,hE];exact⟨hl,hp,h⟩
theorem go_get(hE:aeff P T o.op o.type (evD sl) st= .get p d)(hl:zV T o.op=Ad)(hp:p)(hs:putD sl o.dst d=sl')(h:seqW P T ops dr r sl' st K):goW P T ops dr o r sl st K:=by
 subst hs;simp only[goW,hE];exact⟨hl,hp,h⟩
theorem zZt(hE:aeff P T o.op o.type (evD sl) st= .new p b d fz)(hl:zV T o.op=Ad)(hp:p)(hs:putD sl o.dst d=sl')(ht:zAy st fz++[b]=st')(h:seqW P T ops dr r sl' st' K):goW P T ops dr o r sl st K:=by
 subst hs ht;simp only[goW,hE];exact⟨hl,hp,h⟩
theorem zZs(hE:aeff P T o.op o.type (evD sl) st= .put p k b fz)(hl:isE T o.op=Ab)(hp:p)(hs:putD sl o.dst .unk=sl')(ht:(zAy st fz).set k b=st')(h:seqW P T ops dr r sl' st' K):goW P T ops dr o r sl st K:=by
 subst hs ht;simp only[goW,hE];exact⟨hl,hp,h⟩
theorem go_app(hE:aeff P T o.op o.type (evD sl) st= .app p k b d)(hl:isE T o.op=Ab)(hk:T.keep k=Ad)(hp:p)(hs:putD (sl.map (zBy k)) o.dst d=sl')(ht:(st.map (zCw k)).set k b=st')(h:seqW P T ops dr r sl' st' K):goW P T ops dr o r sl st K:=by
 subst hs ht;simp only[goW,hE];exact⟨hl,⟨hk,hp⟩,h⟩
theorem go_call{x:D}(hE:aeff P T o.op o.type (evD sl) st= .call f args fz)(hl:zV T o.op=Ad)(hc:Pure P f args [] x)(hs:putD sl o.dst x=sl')(ht:zAy st fz=st')(h:seqW P T ops dr r sl' st' K):goW P T ops dr o r sl st K:=by
 subst hs ht;simp only[goW,hE];exact⟨hl,[],x,hc,by simpa using h⟩
theorem go_callN{x:D}{n:Bk}{news:List Bk}(hE:aeff P T o.op o.type (evD sl) st= .call f args fz)(hl:zV T o.op=Ad)(hc:Pure P f args (n::news) x)(hs:putD sl o.dst (zBu st.length x)=sl')(ht:zAy st fz++n::news=st')(h:seqW P T ops dr r sl' st' K):goW P T ops dr o r sl st K:=by
 subst hs ht;simp only[goW,hE];exact⟨hl,n::news,x,hc,by simpa using h⟩
theorem go_act{x:D}{st'':List Bk}(hE:aeff P T o.op o.type (evD sl) st= .act f args)(hl:zV T o.op=Ad)(hd:dr=Ad\/isE T o.op=Ab)(hc:Acts P f args st [] x st'')(hs:putD sl o.dst x=sl')(h:seqW P T ops dr r sl' st'' K):goW P T ops dr o r sl st K:=by
 subst hs;simp only[goW,hE];refine⟨hl,hd,[],x,st'',⟨hc,by simp⟩,?_⟩;have:sl.map (zC8 [])=sl:=by
  conv=>rhs;rw[<-List.map_id sl]
  exact Bh λd _=>by simp[zC8]
 rw[this];exact h
end
section
variable {P : Program} {T : Par} {sl : List D} {st : List Bk} {Q : Exit → List D → List Bk → Prop}
theorem zJ(h:Q .normal sl st):awp P T .skip Q sl st:=h
def zAh(P:Program)(T:Par)(b:Code)(Q:Exit->List D->List Bk->Prop)(sl:List D)(st:List Bk):Prop:=∃sl' st',Weak T sl st sl' st'/\awp P T b Q sl' st'
theorem zE{b:Code}(h:awp P T b Q sl st):zAh P T b Q sl st:=⟨sl,st,Weak.refl _ _,h⟩
theorem zB{a b:Code}(h:awp P T a (zAe (zAh P T b Q) Q) sl st):awp P T (.seq a b) Q sl st:=h
theorem zA{i:Nat}{ops:Array Oper}{l:List Oper}(hl:ops.toList=l)(h:seqW P T ops Ad l sl st (Q .normal)):awp P T (.region i ops Ad) Q sl st:=by subst hl;exact h
theorem awp_drawn{i:Nat}{ops:Array Oper}(ord:List Nat){l:List Oper}(hr:zW8 T ops ord=Ab)(hl:(ord.map λi=>ops.getD i Al)=l)(h:seqW P T ops Ab l sl st (Q .normal)):awp P T (.region i ops Ab) Q sl st:=by subst hl;exact .inl ⟨ord,hr,h⟩
theorem zXt{i:Nat}{ops:Array Oper}(l0:List Nat)(its:List zKa){l:List Oper}(hr:zLn T ops l0 its=Ab)(hl:(l0.map λi=>ops.getD i Al)=l)(h:seqW P T ops Ab l sl st λsl st=>seqI P T ops its sl st (Q .normal)):awp P T (.region i ops Ab) Q sl st:=by subst hl;exact .inr ⟨l0,its,hr,h⟩
theorem seqI_nil{ops:Array Oper}{K:List D->List Bk->Prop}(h:K sl st):seqI P T ops [] sl st K:=h
def freesB(o:Oper)(c:List (Nat×Nat))(sl:List D)(st:List Bk):Bool:=c.all λx=>Nat.ble st.length x.2||o.op.operands.toList.all λy=>!refs x.2 (evD sl y)
theorem st_item{ops:Array Oper}{K:List D->List Bk->Prop}{e:Nat}{c:List (Nat×Nat)}{l:List Nat}{r:List zKa}{o:Oper}{l':List Oper}(ho:ops.getD e Al=o)(hl:(l.map λi=>ops.getD i Al)=l')(hf:freesB o c sl st=Ab)
  (h:seqW P T ops Ab [o] sl st λsl' st'=>zZi P T ops c st.length sl' st'/\seqW P T ops Ab l' sl' st' λsl st=>seqI P T ops r sl st K):seqI P T ops ((e,c,l)::r) sl st K:=by
 subst ho hl;refine⟨λx hx hlt y hy=>?_,h⟩;have h1:=A8.1 hf x hx;rw[Bg]at h1;rcases h1 with h1|h1
 ·have:=Ck h1;omega
 grind
def lateL(P:Program)(T:Par)(ops:Array Oper)(o:Oper)(n:Nat)(sl:List D)(st:List Bk):Option (List Prop):=match gv ops o sl with
 | some Ab=>match aeff P T o.op o.type (evD sl) (st.take n),o.dst with
  | .lit p d,Ac x=>if zV T o.op then Ac [p,sl[x]?=Ac d]else Aj
  | .get p d,Ac x=>if zV T o.op then Aj else Ac [p,sl[x]?=Ac d]
  | .new p b d fz,Ac x=>match st[n]?,b with
   |some e,⟨cells,ty,sz,arr,Ad,kd⟩=>if zV T o.op||!fz.isEmpty then Aj else Ac [p,sl[x]?=Ac d,e.cells=cells,e.ty=ty,e.sz=sz,e.arr=arr,e.kd=kd]
   |_,_=>Aj
  |_,_=>Aj
 |_=>Aj
def zWc(P:Program)(T:Par)(ops:Array Oper)(sl:List D)(st:List Bk):List (Nat×Nat)->Option (List Prop)
 |[]=>Ac []
 |x::r=>match lateL P T ops (ops.getD x.1 Al) x.2 sl st,zWc P T ops sl st r with
  |some l,Ac m=>Ac (l++m)
  |_,_=>Aj
def AllP:List Prop->Prop
 |[]=>True
 |[p]=>p
 |p::q::r=>p/\AllP (q::r)
theorem AllP.mem:∀{l:List Prop},AllP l->∀p∈l,p
 |[],_,p,hp=>by cases hp
 |[q],h,p,hp=>by rw[BA]at hp;rw[hp];exact h
 |q::r::l,h,p,hp=>by
  rcases AH.1 hp with rfl|hp
  ·exact h.1
  exact AllP.mem (l:=r::l) h.2 p hp
theorem lateL_ok{ops:Array Oper}{o:Oper}{n:Nat}{l:List Prop}(h:lateL P T ops o n sl st=Ac l)(hl:∀p∈l,p):zH6 P T ops o n sl st:=by
 unfold lateL at h;unfold zH6;split at h
 ·rename_i hg;rw[hg];simp only;split at h
  ·rename_i p d x he hx;rw[he];split at h
   ·rename_i hli;cases h<;>simp_all
   cases h
  ·rename_i p d x he hx;rw[he];split at h
   ·cases h
   rename_i hli;cases h<;>simp_all
  ·rename_i p b d fz x he hx;rw[he];split at h
   ·rename_i e cells ty sz arr kd hst;split at h
    ·cases h
    rename_i hli;have hl1:zV T o.op=false:=by cases hq:zV T o.op<;>simp_all
    have hl2:fz=[]:=by cases fz<;>simp_all
    cases h;exact⟨hl1,hl _ (by simp),hl2,⟨x,hx,hl (sl[x]?=Ac d) (by simp)⟩,e,hst,hl (e.cells=cells) (by simp),hl (e.ty=ty) (by simp),hl (e.sz=sz) (by simp),hl (e.arr=arr) (by simp),hl (e.kd=kd) (by simp),λh=>by cases h⟩
   cases h
  cases h
 cases h
theorem zRm{ops:Array Oper}:∀{c:List (Nat×Nat)}{l:List Prop},zWc P T ops sl st c=Ac l->(∀p∈l,p)->zZj P T ops c sl st
 |[],l,h,hl=>λx hx=>by cases hx
 | y::c,l,h,hl=>by
  unfold zWc at h;split at h
  ·rename_i l1 l2 h1 h2;cases h;intro x hx;rcases AH.1 hx with rfl|hx
   ·exact lateL_ok h1 λp hp=>hl p (BY _ hp)
   exact zRm h2 (λp hp=>hl p (BZ _ hp)) x hx
  cases h
theorem st_late{ops:Array Oper}{K:List D->List Bk->Prop}{c:List (Nat×Nat)}{l:List Oper}{C:Prop}{n:Nat}(h:(zWc P T ops sl st c).map AllP=Ac C)(hc:C)(hn:Nat.ble n st.length=Ab)(k:seqW P T ops Ab l sl st K):zZi P T ops c n sl st/\seqW P T ops Ab l sl st K:=by
 obtain⟨l,h1,rfl⟩:=AE.1 h;exact⟨⟨Ck hn,zRm h1 hc.mem⟩,k⟩
theorem zAa{c:Operand}{x y:Code}{t:Bool}(hc:evD sl c= .val (.bool t))(h:t=Ab->awp P T x Q sl st)(h':t=Ad->awp P T y Q sl st):awp P T (.cond c x y) Q sl st:=by
 simp only[awp,hc];exact⟨h,h'⟩
theorem zF{i:Nat}{b:Code}(h:awp P T b (zAb i Q) sl st):awp P T (.block i b) Q sl st:=h
theorem zT{i:Nat}(h:Q (.exit i) sl st):awp P T (.exit i) Q sl st:=h
theorem zK(h:Q .ret sl st):awp P T .ret Q sl st:=h
variable {K : List D → List Bk → Prop}
theorem zC(h:K sl st):zAe K Q .normal sl st:=h
theorem zM{i:Nat}(h:Q (.exit i) sl st):zAe K Q (.exit i) sl st:=h
theorem zG(h:Q .ret sl st):zAe K Q .ret sl st:=h
theorem zD{i:Nat}(h:Q .normal sl st):zAb i Q .normal sl st:=h
theorem zL{i:Nat}(h:Q .ret sl st):zAb i Q .ret sl st:=h
theorem zR{i j:Nat}(e:j=i)(h:Q .normal sl st):zAb i Q (.exit j) sl st:=by simp only[zAb,e,if_true];exact h
end
theorem zA1{x:Int}(h1:0<=x)(h2:x<=4294967295):AV.wrap x=x:=by
 simp only[BJ,B0,B1,Bool.true_and,Cl,AY,if_false,decide_eq_true_eq,ge_iff_le];(try split)<;>omega
def hvOf(P:Program):Op->Bool
 | .convert s d _=>match P.underlying s,P.underlying d with
  |some (.slice _),Ac .string=>Ab
  |_,_=>Ad
 | .call {callee:= .builtin .len,argTypes:=t,..}=>match(t.toList.head?).bind P.underlying with
  |some (.map _ _)=>Ab
  |_=>Ad
 |_=>Ad
def shOf(P:Program)(t:TypeId):Bool:=match P.underlying t with
 |some (.map _ _)|some (.pointer _)=>Ab
 |some (.slice e)=>match P.underlying e with
  |some (.pointer _)=>Ab
  |_=>Ad
 |_=>Ad
def TM(P:Program)(imp:FuncId->Bool)(keep:Nat->Bool):Par:=⟨imp,zL4 P,keep,hvOf P,shOf P⟩
theorem zGl(P:Program)(imp:FuncId->Bool)(keep:Nat->Bool):zCe P (TM P imp keep):=λt name f h v W=>by
 obtain⟨n,hn⟩:∃n,P.types.size+Made.depth=n+1:=⟨P.types.size+Made.depth-1,by have:Made.depth=100:=rfl;omega⟩;rw[hn];exact zXc h n v W
abbrev U:D:= .unk
abbrev iD(x:Int):D:= .val (.int .i64 x)
abbrev bD(b:Bool):D:= .val (.bool b)
def updS(sl:List D):List (Nat×D)->List D
 |[]=>sl
 |(i,d)::r=>updS (sl.set i d) r
def zAs(sl:List D):List Nat->List D
 |[]=>sl
 |i::r=>zAs (sl.set i .unk) r
def Alls:List Prop->Prop
 |[]=>True
 |[p]=>p
 |p::q::r=>p/\Alls (q::r)
theorem Alls.cons{p:Prop}{r:List Prop}(h:Alls (p::r)):p/\Alls r:=by
 cases r with
 |nil=>exact⟨h,trivial⟩
 |cons q r=>exact h
theorem Alls.app:∀{l r:List Prop},Alls (l++r)->Alls l/\Alls r
 |[],r,h=>⟨trivial,h⟩
 |[p],r,h=>⟨h.cons.1,h.cons.2⟩
 |p::q::l,r,h=>by
  have h1:=Alls.cons (r:=q::l++r) h;have h2:=Alls.app (l:=q::l) h1.2;exact⟨⟨h1.1,h2.1⟩,h2.2⟩
def inK:IntKind->Int->Prop
 | .i64,x=>-9223372036854775808<=x/\x<=9223372036854775807
 | .u64,x=>0<=x/\x<=18446744073709551615
 | .i32,x=>-2147483648<=x/\x<=2147483647
 | .u32,x=>0<=x/\x<=4294967295
 | .i16,x=>-32768<=x/\x<=32767
 | .u16,x=>0<=x/\x<=65535
 | .i8,x=>-128<=x/\x<=127
 | .u8,x=>0<=x/\x<=255
theorem zD4{k:IntKind}{x:Int}(h:inK k x):k.wrap x=x:=by
 cases k<;>simp only[inK]at h<;>simp only[BJ,B0,B1,Bool.true_and,Cl,AY,if_false,decide_eq_true_eq,ge_iff_le]<;>(try split)<;>omega
def exBin:BinOp->Int->Int->Option Int
 | .add,a,b=>Ac (a+b)
 | .sub,a,b=>Ac (a-b)
 | .mul,a,b=>Ac (a*b)
 | .quo,a,b=>Ac (a.tdiv b)
 |_,_,_=>Aj
section
variable (P : Program) (T : Par)
def isQuo:BinOp->Bool
 | .quo=>Ab
 |_=>Ad
def zT9(o:Op)(ty:TypeId)(ρ:Operand->D)(st:List Bk):Eff:=match o with
 | .binOp op t x y u=>match ρ x,ρ y with
  | .val (.int k a), .val (.int k' b)=>match exBin op a b with
   |some z=>if k=k' then .lit (if isQuo op then b≠0/\inK k z else inK k z) (.val (.int k z))else .bad
   |none=>aeff P T (.binOp op t x y u) ty ρ st
  |_,_=>aeff P T (.binOp op t x y u) ty ρ st
 | .unOp .neg t x=>match ρ x with
  | .val (.int k a)=> .lit (inK k (0-a)) (.val (.int k (0-a)))
  |_=> .bad
 | .convert s d x=>match P.underlying s,P.underlying d,ρ x with
  |some (.int _),Ac (.int k), .val (.int _ n)=>if T.hv (.convert s d x)then .bad else .lit (inK k n) (.val (.int k n))
  |_,_,_=>aeff P T (.convert s d x) ty ρ st
 |o=>aeff P T o ty ρ st
theorem aeffX_lit{o:Op}{ty:TypeId}{ρ:Operand->D}{st:List Bk}{p:Prop}{d:D}(h:zT9 P T o ty ρ st= .lit p d)(hp:p):∃q,aeff P T o ty ρ st= .lit q d/\q:=by
 unfold zT9 at h;split at h
 ·rename_i op t x y u;split at h
  ·rename_i k a k' b hx hy;split at h
   ·rename_i z hz;split at h
    ·rename_i hk;subst hk;simp only[Eff.lit.injEq]at h;obtain⟨rfl,rfl⟩:=h;cases op<;>simp only[exBin,Bc.injEq,reduceCtorEq]at hz;all_goals
      subst hz;simp only[isQuo,if_true,if_false,AY]at hp
     ·exact⟨True,by simp[aeff,aBin,hx,hy,aInt,zD4 hp],trivial⟩
     ·exact⟨True,by simp[aeff,aBin,hx,hy,aInt,zD4 hp],trivial⟩
     ·exact⟨True,by simp[aeff,aBin,hx,hy,aInt,zD4 hp],trivial⟩
     exact⟨b≠0,by simp[aeff,aBin,hx,hy,aInt,zD4 hp.2],hp.1⟩
    cases h
   exact⟨p,h,hp⟩
  exact⟨p,h,hp⟩
 ·rename_i t x;split at h
  ·rename_i k a hx;simp only[Eff.lit.injEq]at h;obtain⟨rfl,rfl⟩:=h;exact⟨True,by simp only[aeff,hx,aUn,zD4 hp],trivial⟩
  cases h
 ·rename_i s t x;split at h
  ·rename_i k0 k k1 n hs hd hx;split at h
   ·cases h
   rename_i hv;simp only[Eff.lit.injEq]at h;obtain⟨rfl,rfl⟩:=h;exact⟨True,by simp only[aeff,hv,AY,if_false,aConv,hs,hd,hx,zD4 hp],trivial⟩
  exact⟨p,h,hp⟩
 exact⟨p,h,hp⟩
theorem aeffX_not{o:Op}{ty:TypeId}{ρ:Operand->D}{st:List Bk}{e:Eff}(h:zT9 P T o ty ρ st=e)(hn:∀p d,e≠ .lit p d)(hb:e≠ .bad):aeff P T o ty ρ st=e:=by
 unfold zT9 at h;grind
def zNl:Op->Bool
 | .move _| .assign _| .pick ..| .alloc _| .box ..| .nilCheck _=>Ab
 | .binOp op ..=>match op with
  | .lss| .leq| .gtr| .geq=>Ab
  |_=>Ad
 | .unOp .not ..=>Ab
 | .makeInterface ..| .makeFunc ..=>Ab
 | .call {callee:= .builtin .len,..}| .call {callee:= .builtin .min,..}| .call {callee:= .builtin .max,..}=>Ab
 |_=>Ad
def effP:Eff->Prop
 | .lit p _| .get p _| .new p _ _ _| .put p _ _ _| .app p _ _ _=>p
 |_=>True
theorem zX4{o:Op}{ty:TypeId}{ρ:Operand->D}{st:List Bk}(h:zNl o=Ab):effP (aeff P T o ty ρ st):=by
 unfold zNl at h;split at h<;>first|cases h|skip
 all_goals simp only[aeff]
 all_goals first
  |trivial
  |((repeat' split)<;>trivial)
  |skip
 ·rename_i op t x y u;cases op<;>simp only[AY]at h<;>simp only[aBin]<;>(repeat' split)<;>first|trivial|(simp only[aInt];trivial)|(simp only[aStr];trivial)|(simp only[aNil];(repeat' split)<;>trivial)|(simp only[aEqS];(repeat' split)<;>trivial)|(simp only[zKv];(repeat' split)<;>trivial)|skip
 ·unfold aUn;(repeat' split)<;>trivial
 split
 ·split
  ·unfold zXw;(repeat' split)<;>trivial
  unfold aLen;(repeat' split)<;>trivial
 trivial
end
section
variable (P : Program) (T : Par)
inductive Gd where
 |bad
 |skip(cs:List Prop)(gs:List (Nat×Bool))(sl:List D)
 |go(cs:List Prop)(gs:List (Nat×Bool))(sl:List D)
def assocB(gs:List (Nat×Bool))(j:Nat):Option Bool:=match gs with
 |[]=>Aj
 |(i,b)::r=>if i==j then Ac b else assocB r j
def gdec(ops:Array Oper)(o:Oper)(gs:List (Nat×Bool))(sl:List D):Gd:=match o.guard with
 |none=> .go [] gs sl
 | some (j,want)=>match(ops[j]?).bind (·.dst)with
  |none=> .bad
  | some t=>match sl.getD t .unk with
   | .val (.bool b)=>match assocB gs j with
    |some g=>if g==want then .go [b=g] (gs.filter λx=>x.1 !=j) (sl.set t (.val (.bool g)))else .skip [b=g] (gs.filter λx=>x.1 !=j) (sl.set t (.val (.bool g)))
    |none=>if b==want then .go [] gs sl else .skip [] gs sl
   | .val (.tuple _)=> .skip [] gs sl
   |_=> .bad
def memN(l:List Nat)(n:Nat):Bool:=match l with
 |[]=>Ad
 |i::r=>if i==n then Ab else memN r n
def rawOf(raws:List Nat)(o:Oper):Bool:=match o.dst with
 |some d=>memN raws d
 |none=>Ad
def zT8(raws:List Nat)(o:Oper)(sl:List D)(st:List Bk):Eff:=if rawOf raws o then aeff P T o.op o.type (evD sl) st else zT9 P T o.op o.type (evD sl) st
def zMl(o:Op)(p:Prop):List Prop:=if zNl o then[]else[p]
def runL(ops:Array Oper)(raws:List Nat):List Oper->List (Nat×Bool)->List D->List Bk->Option (List Prop×List D×List Bk)
 |[],_,sl,st=>Ac ([],sl,st)
 | o::r,gs,sl,st=>match gdec ops o gs sl with
  | .bad=>Aj
  | .skip cs gs sl=>(runL ops raws r gs (putD sl o.dst (.val undef)) st).map λx=>(cs++x.1,x.2)
  | .go cs gs sl=>match zT8 P T raws o sl st with
   | .lit p d=>if zV T o.op then(runL ops raws r gs (putD sl o.dst d) st).map λx=>(cs++zMl o.op p++x.1,x.2)else Aj
   | .get p d=>if zV T o.op then Aj else(runL ops raws r gs (putD sl o.dst d) st).map λx=>(cs++zMl o.op p++x.1,x.2)
   | .new p b d fz=>if zV T o.op then Aj else(runL ops raws r gs (putD sl o.dst d) (zAy st fz++[b])).map λx=>(cs++zMl o.op p++x.1,x.2)
   | .put p k b fz=>if isE T o.op then(runL ops raws r gs (putD sl o.dst .unk) ((zAy st fz).set k b)).map λx=>(cs++zMl o.op p++x.1,x.2)else Aj
   | .app p k b d=>if isE T o.op&&!T.keep k then(runL ops raws r gs (putD (sl.map (zBy k)) o.dst d) ((st.map (zCw k)).set k b)).map λx=>(cs++zMl o.op p++x.1,x.2)else Aj
   |_=>Aj
theorem zGp{sl:List D}{t:Nat}{d:D}(h:sl.getD t .unk=d)(hd:d≠ .unk):sl.set t d=sl:=by
 subst h;apply Ci;grind
variable {P T}
theorem zGf{ops:Array Oper}{o:Oper}{gs gs':List (Nat×Bool)}{sl sl':List D}{cs:List Prop}(h:gdec ops o gs sl= .go cs gs' sl')(hc:Alls cs):sl'=sl/\∀{dr:Bool}{r:List Oper}{st:List Bk}{K:List D->List Bk->Prop},goW P T ops dr o r sl st K->seqW P T ops dr (o::r) sl st K:=by
 unfold gdec at h;split at h
 ·rename_i hg;simp only[Gd.go.injEq]at h;grind [zDe]
 rename_i j want hg;split at h
 ·cases h
 rename_i t ht;split at h
 ·rename_i b hb;have key:b=want->∀{dr:Bool}{r:List Oper}{st:List Bk}{K:List D->List Bk->Prop},goW P T ops dr o r sl st K->seqW P T ops dr (o::r) sl st K:=λhbw {dr r st K} hgo=>
   zQv (t:=b) hg (by rw[ht];simp only[B2,hb]) rfl (λ_=>hgo) (λhx=>by subst hbw;cases b<;>cases hx)
  split at h
  ·rename_i g hgs;split at h
   ·rename_i hw;simp only[Gd.go.injEq]at h;obtain⟨rfl,_,rfl⟩:=h;have hbg:b=g:=hc;grind [zGp]
   cases h
  grind
 ·cases h
 cases h
theorem zZ0{ops:Array Oper}{o:Oper}{gs gs':List (Nat×Bool)}{sl sl':List D}{cs:List Prop}(h:gdec ops o gs sl= .skip cs gs' sl')(hc:Alls cs):sl'=sl/\∀{dr:Bool}{r:List Oper}{st:List Bk}{K:List D->List Bk->Prop},seqW P T ops dr r (putD sl o.dst (.val undef)) st K->seqW P T ops dr (o::r) sl st K:=by
 unfold gdec at h;split at h
 ·cases h
 rename_i j want hg;split at h
 ·cases h
 rename_i t ht;split at h
 ·rename_i b hb;have key:b=!want->∀{dr:Bool}{r:List Oper}{st:List Bk}{K:List D->List Bk->Prop},seqW P T ops dr r (putD sl o.dst (.val undef)) st K->seqW P T ops dr (o::r) sl st K:=λhbw {dr r st K} hgo=>
   zQv (t:=b) hg (by rw[ht];simp only[B2,hb]) rfl (λhx=>by subst hx;cases b<;>cases hbw) (λ_=>hgo)
  split at h
  ·rename_i g hgs;split at h
   ·cases h
   rename_i hw;simp only[Gd.skip.injEq]at h;obtain⟨rfl,_,rfl⟩:=h;have hbg:b=g:=hc;subst hbg;exact⟨zGp hb (by simp),key (by cases b<;>cases want<;>simp at hw⊢)⟩
  split at h
  ·cases h
  rename_i hw;simp only[Gd.skip.injEq]at h;exact⟨h.2.2.symm,key (by cases b<;>cases want<;>simp at hw⊢)⟩
 ·rename_i x hb;simp only[Gd.skip.injEq]at h;exact⟨h.2.2.symm,λhgo=>seq_skip (x:=x) hg (by rw[ht];simp only[B2,hb]) rfl hgo⟩
 cases h
theorem aeffY_lit{raws:List Nat}{o:Oper}{sl:List D}{st:List Bk}{p:Prop}{d:D}(h:zT8 P T raws o sl st= .lit p d)(hp:p):∃q,aeff P T o.op o.type (evD sl) st= .lit q d/\q:=by
 grind [zT8,aeffX_lit]
theorem zJd{raws:List Nat}{o:Oper}{sl:List D}{st:List Bk}{e:Eff}(h:zT8 P T raws o sl st=e)(hn:∀p d,e≠ .lit p d)(hb:e≠ .bad):aeff P T o.op o.type (evD sl) st=e:=by
 unfold zT8 at h;split at h;all_goals simp_all [aeffX_not]
theorem zXu{o:Op}{ty:TypeId}{ρ:Operand->D}{st:List Bk}(h:zNl o=Ab):effP (zT9 P T o ty ρ st):=by
 have h0:=zX4 P T (o:=o) (ty:=ty) (ρ:=ρ) (st:=st) h;unfold zT9;split
 ·rename_i op t x y u;split
  ·split
   ·rename_i z hz;cases op<;>simp only[exBin,reduceCtorEq]at hz<;>simp[zNl]at h
   exact h0
  exact h0
 all_goals grind [zNl]
theorem zMk{raws:List Nat}{o:Oper}{sl:List D}{st:List Bk}{e:Eff}{p:Prop}(h:zT8 P T raws o sl st=e)(he:effP e=p)(hc:Alls (zMl o.op p)):p:=by
 unfold zMl at hc;split at hc
 ·rename_i ht;rw[<-he,<-h];unfold zT8;split;all_goals simp_all [zX4,ht,zXu]
 exact hc
theorem zCi{ops:Array Oper}{dr:Bool}{raws:List Nat}{K:List D->List Bk->Prop}:∀(l l':List Oper)(gs:List (Nat×Bool))(sl:List D)(st:List Bk)(cs:List Prop)(sl':List D)(st':List Bk),runL P T ops raws l gs sl st=Ac (cs,sl',st')->Alls cs->seqW P T ops dr l' sl' st' K->seqW P T ops dr (l++l') sl st K
 |[],l',gs,sl,st,cs,sl',st',h,hc,k=>by
  simp only[runL,Bc.injEq,AF.injEq]at h;grind
 | o ::r,l',gs,sl,st,cs,sl',st',h,hc,k=>by
  simp only[runL]at h;split at h
  ·cases h
  ·rename_i c1 gs1 sl1 hg;simp only[AE,Prod.exists,AF.injEq]at h;obtain⟨c2,sl2,st2,h1,rfl,rfl,rfl⟩:=h;obtain⟨a1,a2⟩:=Alls.app hc;obtain⟨rfl,g2⟩:=zZ0 (P:=P) (T:=T) hg a1;exact g2 (zCi r l' _ _ _ _ _ _ h1 a2 k)
  rename_i c1 gs1 sl1 hg;split at h
  ·rename_i p d he;split at h
   ·rename_i hl;simp only[AE,Prod.exists,AF.injEq]at h;obtain⟨c2,sl2,st2,h1,rfl,rfl,rfl⟩:=h;obtain⟨a1,a2⟩:=Alls.app hc;obtain⟨a1,a3⟩:=Alls.app a1;obtain⟨rfl,g2⟩:=zGf (P:=P) (T:=T) hg a1;obtain⟨q,e1,e2⟩:=aeffY_lit he (zMk he rfl a3);exact g2 (zZu e1 hl e2 rfl (zCi r l' _ _ _ _ _ _ h1 a2 k))
   cases h
  ·rename_i p d he;split at h
   ·cases h
   rename_i hl;simp only[AE,Prod.exists,AF.injEq]at h;obtain⟨c2,sl2,st2,h1,rfl,rfl,rfl⟩:=h;obtain⟨a1,a2⟩:=Alls.app hc;obtain⟨a1,a3⟩:=Alls.app a1;obtain⟨rfl,g2⟩:=zGf (P:=P) (T:=T) hg a1;exact g2 (go_get (zJd he (by simp) (by simp)) (by simpa using hl) (zMk he rfl a3) rfl (zCi r l' _ _ _ _ _ _ h1 a2 k))
  ·rename_i p b d fz he;split at h
   ·cases h
   rename_i hl;simp only[AE,Prod.exists,AF.injEq]at h;obtain⟨c2,sl2,st2,h1,rfl,rfl,rfl⟩:=h;obtain⟨a1,a2⟩:=Alls.app hc;obtain⟨a1,a3⟩:=Alls.app a1;obtain⟨rfl,g2⟩:=zGf (P:=P) (T:=T) hg a1;exact g2 (zZt (zJd he (by simp) (by simp)) (by simpa using hl) (zMk he rfl a3) rfl rfl (zCi r l' _ _ _ _ _ _ h1 a2 k))
  ·rename_i p n b fz he;split at h
   ·rename_i hl;simp only[AE,Prod.exists,AF.injEq]at h;obtain⟨c2,sl2,st2,h1,rfl,rfl,rfl⟩:=h;obtain⟨a1,a2⟩:=Alls.app hc;obtain⟨a1,a3⟩:=Alls.app a1;obtain⟨rfl,g2⟩:=zGf (P:=P) (T:=T) hg a1;exact g2 (zZs (zJd he (by simp) (by simp)) hl (zMk he rfl a3) rfl rfl (zCi r l' _ _ _ _ _ _ h1 a2 k))
   cases h
  ·rename_i p n b d he;split at h
   ·rename_i hl;simp only[AL,Bx]at hl;simp only[AE,Prod.exists,AF.injEq]at h;obtain⟨c2,sl2,st2,h1,rfl,rfl,rfl⟩:=h;obtain⟨a1,a2⟩:=Alls.app hc;obtain⟨a1,a3⟩:=Alls.app a1;obtain⟨rfl,g2⟩:=zGf (P:=P) (T:=T) hg a1;exact g2 (go_app (zJd he (by simp) (by simp)) hl.1 hl.2 (zMk he rfl a3) rfl rfl (zCi r l' _ _ _ _ _ _ h1 a2 k))
   cases h
  cases h
end
theorem lb{a b:Nat}(h:Nat.ble a b=Ab):a<=b:=Ck h
abbrev nl:D:= .val (.slice Aj 0 0)
section
variable {P : Program} {T : Par}
theorem LeD.trans{a b c:D}(h:LeD a b)(k:LeD b c):LeD a c:=λI w β v hv=>k I w β v (h I w β v hv)
theorem LeL.trans{a b c:List D}(h:LeL a b):LeL b c->LeL a c:=by
 induction h generalizing c with
 |nil=>exact λh=>h
 |cons h1 _ ih=>
  intro k;cases k with
  |cons k1 k2=>exact .cons (h1.trans k1) (ih k2)
theorem LeL.set(sl:List D)(i:Nat):LeL sl (sl.set i .unk):=by
 induction sl generalizing i with
 |nil=>exact .nil
 |cons d ds ih=>
  cases i with
  |zero=>exact .cons (.unk _) (.refl _)
  |succ i=>exact .cons (.refl _) (ih i)
theorem LeL.dead(dead:List Nat):∀sl:List D,LeL sl (zAs sl dead):=by
 induction dead with
 |nil=>exact λsl=> .refl sl
 |cons i r ih=>exact λsl=>(LeL.set sl i).trans (ih _)
theorem Pure.frozen{f:FuncId}{args:List D}{b:Bk}{n m:Nat}{wh:Bool}{cs:List D}(h:Pure P f args [b] (.osl 0 0 n m wh))(hb:b.arr=Ab)(hc:b.cells.take m=cs):Pure P f args [] (.row cs n):=by
 intro I w vs hr hi hg;refine(h I w vs hr hi hg).mono ?_;rintro e w' ⟨v,I',γ,he,h1,h2,h3,h4,h5,h6,h7,h8,h9,h10,h11⟩;have hs:Sim γ I' w' [.osl 0 0 n m wh] [b] [v]:=⟨by simp only[RelT];exact⟨v,[],rfl,h10,rfl⟩,h6,h7,h8,h9,h2,hg.mono h3⟩;have hkd:b.kd= .plain:=(h11 b (by simp)).2;have hf:frz Ab [b] zA6 (.osl 0 0 n m wh)=Ac (.row cs n,[0]):=by simp[frz,zA6,hb,hc,hkd,Bk.nob,Bi,Bj]
 have h12:=zB8 hs.sr.weak _ _ _ _ _ hf h10;refine⟨v,fixI I' γ [b] [0],noB,he,h1,zEv hs.sr.weak h2 [0],h3.trans (zAm [0]),λx o hx=>?_,λk b c h=>(by cases h),λk b c h=>(by cases h),λk k' b c c' h=>(by cases h),λk b c j e h=>(by cases h),λk y h=>(by cases h),h12,by simp⟩;rcases hx with hx|⟨k,_,c,e,hk,_⟩;all_goals grind
theorem Pure.le{f:FuncId}{args args':List D}{news:List Bk}{x:D}(h:Pure P f args' news x)(ha:LeL args args'):Pure P f args news x:=λI w vs hr hi=>h I w vs (ha.rel hr) hi
theorem Acts.le{f:FuncId}{args args':List D}{st st':List Bk}{x:D}{ch:List Nat}(h:Acts P f args' st ch x st')(ha:LeL args args'):Acts P f args st ch x st':=λβ I w vs hr=>h β I w vs (ha.rel hr)
section
variable {ops : Array Oper} {dr : Bool} {l : List Oper} {sl : List D} {st : List Bk} {K : List D → List Bk → Prop}
theorem st_run(n:Nat)(raws:List Nat)(gs:List (Nat×Bool))(C:Prop)(ch:List (Nat×D))(st':List Bk)(h:(runL P T ops raws (l.take n) gs sl st).map (λx=>(Alls x.1,x.2.1,x.2.2))=Ac (C,updS sl ch,st'))(hc:C)(k:seqW P T ops dr (l.drop n) (updS sl ch) st' K):seqW P T ops dr l sl st K:=by
 rw[AE]at h;obtain⟨⟨c,s1,s2⟩,h1,h2⟩:=h;simp only[AF.injEq]at h2;grind [zCi,BK]
theorem st_end{b:Code}{Q Q':Exit->List D->List Bk->Prop}(raws:List Nat)(gs:List (Nat×Bool))(dead:List Nat)(C:Prop)(ch:List (Nat×D))(st':List Bk)(h:(runL P T ops raws l gs sl st).map (λx=>(Alls x.1,zAs x.2.1 dead,x.2.2))=Ac (C,updS (zAs sl dead) ch,st'))(hc:C)(k:awp P T b Q (updS (zAs sl dead) ch) st'):seqW P T ops dr l sl st (zAe (zAh P T b Q) Q' .normal):=by
 rw[AE]at h;obtain⟨⟨c,s1,s2⟩,h1,h2⟩:=h;simp only[AF.injEq]at h2;obtain⟨rfl,e,rfl⟩:=h2
 have:=zCi (P:=P) (T:=T) (dr:=dr) (K:=zAe (zAh P T b Q) Q' .normal) l [] gs sl st c s1 s2 h1 hc ?_
 ·grind
 exact⟨_,_,Weak.slots (LeL.dead dead s1),e▸k⟩
theorem zC1(n:Nat)(raws:List Nat)(gs:List (Nat×Bool))(C:Prop)(ch:List (Nat×D))(hc:C)(k:seqW P T ops dr (l.drop n) (updS sl ch) st K)(h:(runL P T ops raws (l.take n) gs sl st).map (λx=>(Alls x.1,x.2.1,x.2.2))=Ac (C,updS sl ch,st):=by kernel_rfl):seqW P T ops dr l sl st K:=by grind [st_run]
theorem zJk{b:Code}{Q Q':Exit->List D->List Bk->Prop}(raws:List Nat)(gs:List (Nat×Bool))(dead:List Nat)(C:Prop)(ch:List (Nat×D))(h:(runL P T ops raws l gs sl st).map (λx=>(Alls x.1,zAs x.2.1 dead,x.2.2))=Ac (C,updS (zAs sl dead) ch,st))(hc:C)(k:awp P T b Q (updS (zAs sl dead) ch) st):seqW P T ops dr l sl st (zAe (zAh P T b Q) Q' .normal):=by grind [st_end]
theorem zJj(i:Nat)(d0 d:D)(h:sl.getD i .unk=d0)(hd:d0=d)(hu:zGe d||zG2 d||(match d with| .tup _=>Ab|_=>Ad)=Ab)(k:seqW P T ops dr l (sl.set i d) st K):seqW P T ops dr l sl st K:=by
 subst hd;rwa[zGp h (by intro e;subst e;simp[zGe,zG2]at hu)]at k
theorem st_blk(i:Nat)(b0 b:Bk)(h:st[i]?=Ac b0)(hd:b0=b)(k:seqW P T ops dr l sl (st.set i b) K):seqW P T ops dr l sl st K:=by
 subst hd;rwa[show st.set i b0=st from by
  apply Ci;intro j;rw[List.getElem?_set];split
  ·rename_i e;subst e;rw[h];split
   ·rfl
   rename_i hx;rw[B3 (by omega)]at h;cases h
  rfl]at k
def hdst(l:List Oper):Option Nat:=(l.head?).bind (·.dst)
def zKt(P:Program)(T:Par)(ops:Array Oper)(l:List Oper)(gs:List (Nat×Bool))(sl:List D)(st:List Bk):Option (List Prop×FuncId×List D×List Bk):=match l with
 |[]=>Aj
 | o::_=>match gdec ops o gs sl with
  | .go cs _ sl=>match aeff P T o.op o.type (evD sl) st with
   | .call f args fz=>if zV T o.op then Aj else Ac (cs,f,args,zAy st fz)
   |_=>Aj
  |_=>Aj
theorem zWq{gs:List (Nat×Bool)}{cs:List Prop}{f:FuncId}{args:List D}{st':List Bk}(h:zKt P T ops l gs sl st=Ac (cs,f,args,st'))(hc:Alls cs):∃o r fz,l=o::r/\zV T o.op=Ad/\aeff P T o.op o.type (evD sl) st= .call f args fz/\st'=zAy st fz/\∀{K:List D->List Bk->Prop},goW P T ops dr o r sl st K->seqW P T ops dr (o::r) sl st K:=by
 unfold zKt at h;split at h
 ·cases h
 rename_i o r;split at h
 ·rename_i c1 g1 s1 hg;split at h
  ·rename_i f1 a1 fz he;split at h
   ·cases h
   rename_i hl;simp only[Bc.injEq,AF.injEq]at h;obtain⟨rfl,rfl,rfl,rfl⟩:=h;obtain⟨rfl,g2⟩:=zGf (P:=P) (T:=T) hg hc;exact⟨o,r,fz,rfl,by simpa using hl,he,rfl,λk=>g2 k⟩
  cases h
 cases h
theorem zSi(gs:List (Nat×Bool))(cs:List Prop){f:FuncId}(args:List D)(st':List Bk){x:D}(args':List D)(h:zKt P T ops l gs sl st=Ac (cs,f,args,st'))(hc:Alls cs)(ha:LeL args args')(hp:Pure P f args' [] x)(k:seqW P T ops dr l.tail (putD sl (hdst l) x) st' K):seqW P T ops dr l sl st K:=by
 obtain⟨o,r,fz,rfl,hl,he,rfl,g⟩:=zWq (dr:=dr) h hc;exact g (go_call he hl (hp.le ha) rfl rfl k)
theorem st_callN(gs:List (Nat×Bool))(cs:List Prop){f:FuncId}(args:List D)(st':List Bk){x:D}{n:Bk}{news:List Bk}(args':List D)(h:zKt P T ops l gs sl st=Ac (cs,f,args,st'))(hc:Alls cs)(ha:LeL args args')(hp:Pure P f args' (n::news) x)(k:seqW P T ops dr l.tail (putD sl (hdst l) (zBu st.length x)) (st'++n::news) K):seqW P T ops dr l sl st K:=by
 obtain⟨o,r,fz,rfl,hl,he,rfl,g⟩:=zWq (dr:=dr) h hc;exact g (go_callN he hl (hp.le ha) rfl rfl k)
theorem zVj{f:FuncId}(args:List D){x:D}(h:zKt P T ops l [] sl st=Ac ([],f,args,st))(hp:Pure P f args [] x)(k:seqW P T ops dr l.tail (putD sl (hdst l) x) st K):seqW P T ops dr l sl st K:=zSi [] [] args st args h trivial (LeL.refl _) hp k
theorem st_eE{b:Code}{Q Q':Exit->List D->List Bk->Prop}(dead:List Nat)(ch:List (Nat×D))(k:awp P T b Q (updS (zAs sl dead) ch) st)(h:(runL P T ops [] l [] sl st).map (λx=>(Alls x.1,zAs x.2.1 dead,x.2.2))=Ac (True,updS (zAs sl dead) ch,st):=by kernel_rfl):seqW P T ops dr l sl st (zAe (zAh P T b Q) Q' .normal):=st_end [] [] dead True ch st h trivial k
theorem st_rR(n:Nat)(ch:List (Nat×D))(k:seqW P T ops dr (l.drop n) (updS sl ch) st K)(h:(runL P T ops [] (l.take n) [] sl st).map (λx=>(Alls x.1,x.2.1,x.2.2))=Ac (True,updS sl ch,st):=by kernel_rfl):seqW P T ops dr l sl st K:=st_run n [] [] True ch st h trivial k
theorem st_cC{f:FuncId}(args:List D){x:D}(hp:Pure P f args [] x)(k:seqW P T ops dr l.tail (putD sl (hdst l) x) st K)(h:zKt P T ops l [] sl st=Ac ([],f,args,st):=by kernel_rfl):seqW P T ops dr l sl st K:=zSi [] [] args st args h trivial (LeL.refl _) hp k
def actL(P:Program)(T:Par)(ops:Array Oper)(dr:Bool)(l:List Oper)(gs:List (Nat×Bool))(sl:List D)(st:List Bk):Option (List Prop×FuncId×List D):=match l with
 |[]=>Aj
 | o::_=>match gdec ops o gs sl with
  | .go cs _ sl=>match aeff P T o.op o.type (evD sl) st with
   | .act f args=>if !zV T o.op&&(!dr||isE T o.op)then Ac (cs,f,args)else Aj
   |_=>Aj
  |_=>Aj
theorem zEw(gs:List (Nat×Bool))(cs:List Prop){f:FuncId}(args:List D){x:D}{st':List Bk}(args':List D)(ha:LeL args args')(hp:Acts P f args' st [] x st')(k:seqW P T ops dr l.tail (putD sl (hdst l) x) st' K)(h:actL P T ops dr l gs sl st=Ac (cs,f,args):=by kernel_rfl)(hc:Alls cs:=by exact trivial):seqW P T ops dr l sl st K:=by
 unfold actL at h;split at h
 ·cases h
 rename_i o r;split at h
 ·rename_i c1 g1 s1 hg;split at h
  ·rename_i f1 a1 he;split at h
   ·rename_i hl;simp only[Bc.injEq,AF.injEq]at h;obtain⟨rfl,rfl,rfl⟩:=h;obtain⟨rfl,g2⟩:=zGf (P:=P) (T:=T) hg hc;simp only[AL,Bx,Bg]at hl;exact g2 (go_act he hl.1 hl.2 (hp.le ha) rfl k)
   cases h
  cases h
 cases h
theorem zG4(k:K sl st)(e:l=[]):seqW P T ops dr l sl st K:=by subst e;exact k
def zWf(ops:Array Oper)(l:List Oper)(sl:List D):Option (Nat×Bool):=match l with
 |[]=>Aj
 | o::_=>match o.guard with
  |none=>Aj
  | some (j,_)=>match(ops[j]?).bind (·.dst)with
   |none=>Aj
   |some t=>match sl.getD t .unk with
    | .val (.bool b)=>Ac (t,b)
    |_=>Aj
theorem st_split(t:Nat)(b:Bool)(h:zWf ops l sl=Ac (t,b))(k1:b=Ab->seqW P T ops dr l (sl.set t (.val (.bool Ab))) st K)(k2:b=Ad->seqW P T ops dr l (sl.set t (.val (.bool Ad))) st K):seqW P T ops dr l sl st K:=by
 unfold zWf at h;(repeat' split at h)<;>try cases h
 rename_i hb;cases b<;>grind [zGp]
theorem zEx{K':List D->List Bk->Prop}(hK:∀sl st,K sl st->K' sl st):∀(l:List Oper)(sl:List D)(st:List Bk),seqW P T ops dr l sl st K->seqW P T ops dr l sl st K'
 |[],sl,st,h=>hK _ _ h
 | o::r,sl,st,h=>by
  have ih:=zEx hK r;have go:goW P T ops dr o r sl st K->goW P T ops dr o r sl st K':=by
   unfold goW;grind
  cases hg:o.guard with
  |none=>
   simp only[seqW,hg]at h;exact zDe hg (go h)
  |some jw=>
   obtain⟨j,want⟩:=jw;simp only[seqW,hg]at h⊢;split at h
   ·exact⟨λe=>go (h.1 e),λe=>ih _ _ (h.2 e)⟩
   all_goals grind
end
theorem zQx{ops:Array Oper}{K K':List D->List Bk->Prop}(hK:∀sl st,K sl st->K' sl st):∀(its:List zKa)(sl:List D)(st:List Bk),seqI P T ops its sl st K->seqI P T ops its sl st K'
 |[],sl,st,h=>hK _ _ h
 |(e,c,l)::r,sl,st,h=>⟨h.1,zEx (λsl st h2=>⟨h2.1,zEx (λsl st h3=>zQx hK r sl st h3) _ _ _ h2.2⟩) _ _ _ h.2⟩
theorem zQc:∀(c:Code){Q Q':Exit->List D->List Bk->Prop}(hQ:∀e sl st,Q e sl st->Q' e sl st) (sl:List D) (st:List Bk),awp P T c Q sl st->awp P T c Q' sl st:=by
 intro c;induction c with
 |skip=>intro Q Q' hQ sl st h;exact hQ _ _ _ h
 | region id ops dr=>
  intro Q Q' hQ sl st h;simp only[awp]at h⊢;split
  ·rename_i hd;rw[if_pos hd]at h;rcases h with⟨o,h1,h2⟩|⟨l0,its,h1,h2⟩
   ·grind [zEx]
   exact .inr ⟨l0,its,h1,zEx (λsl st h3=>zQx (hQ .normal) _ _ _ h3) _ _ _ h2⟩
  grind [zEx]
 |seq x y ihx ihy=>
  intro Q Q' hQ sl st h;simp only[awp]at h⊢;refine ihx (λe sl st hk=>?_) sl st h;cases e<;>simp only[zAe]at hk⊢<;>first|exact hQ _ _ _ hk|skip
  grind
 |cond c x y ihx ihy=>
  intro Q Q' hQ sl st h;simp only[awp]at h⊢;grind
 |block id b ih=>
  intro Q Q' hQ sl st h;simp only[awp]at h⊢;refine ih (λe sl st hk=>?_) sl st h;cases e<;>simp only[zAb]at hk⊢<;>first|exact hQ _ _ _ hk|skip
  grind
 |loop b ih=>
  intro Q Q' hQ sl st h;simp only[awp]at h⊢;intro X hX;refine h X λY sl st hY hb=>hX Y sl st hY (ih (λe sl st hk=>?_) sl st hb);cases e<;>simp only[zAe]at hk⊢<;>first|exact hQ _ _ _ hk|exact hk
 |exit id=>intro Q Q' hQ sl st h;exact hQ _ _ _ h
 |label l=>intro Q Q' hQ sl st h;exact hQ _ _ _ h
 |ret=>intro Q Q' hQ sl st h;exact hQ _ _ _ h
 |_=>intro Q Q' hQ sl st h;exact h.elim
variable {Q : Exit → List D → List Bk → Prop} {sl : List D} {st : List Bk}
theorem zD2{c:Operand}{x y:Code}{t:Bool}(hc:evD sl c= .val (.bool t))(ht:t=Ab)(h:awp P T x Q sl st):awp P T (.cond c x y) Q sl st:=by simp_all [zAa,ht]
theorem zG9{c:Operand}{x y:Code}{t:Bool}(hc:evD sl c= .val (.bool t))(ht:t=Ad)(h:awp P T y Q sl st):awp P T (.cond c x y) Q sl st:=by simp_all [zAa,ht]
theorem cond_T{c:Operand}{x y:Code}(h:awp P T x Q sl st)(hc:evD sl c= .val (.bool Ab):=by kernel_rfl):awp P T (.cond c x y) Q sl st:=zD2 hc rfl h
theorem cond_F{c:Operand}{x y:Code}(h:awp P T y Q sl st)(hc:evD sl c= .val (.bool Ad):=by kernel_rfl):awp P T (.cond c x y) Q sl st:=zG9 hc rfl h
def resL(P:Program)(sl:List D)(st:List Bk):List ResultVar->Option (List Prop×List D)
 |[]=>Ac ([],[])
 | .tmp t::rs=>(resL P sl st rs).map λx=>(x.1,sl.getD t .unk::x.2)
 |r::rs=>match zM9 P sl st r with
  | .get p d=>(resL P sl st rs).map λx=>(p::x.1,d::x.2)
  |_=>Aj
theorem zSo:∀{rs:List ResultVar}{cs:List Prop}{ds:List D}{K:List D->Prop},resL P sl st rs=Ac (cs,ds)->Alls cs->K ds->retL P sl st rs K
 |[],cs,ds,K,h,hc,k=>by
  simp only[resL,Bc.injEq,AF.injEq]at h;obtain⟨_,rfl⟩:=h;exact k
 | r::rs,cs,ds,K,h,hc,k=>by
  have key:∀p d,zM9 P sl st r= .get p d->(∃c1 d1,resL P sl st rs=Ac (c1,d1)/\(p/\Alls c1)/\ds=d::d1)->retL P sl st (r::rs) K:=by
   rintro p d e ⟨c1,d1,h1,⟨h2,h3⟩,rfl⟩;simp only[retL,e];exact⟨h2,zSo h1 h3 k⟩
  cases r with
  |tmp t=>
   simp only[resL,AE,Prod.exists,AF.injEq]at h;obtain⟨c1,d1,h1,rfl,rfl⟩:=h;exact key True _ rfl ⟨c1,d1,h1,⟨trivial,hc⟩,rfl⟩
  | cell a t=>
   simp only[resL]at h;split at h
   ·rename_i p d he;simp only[AE,Prod.exists,AF.injEq]at h;obtain⟨c1,d1,h1,rfl,rfl⟩:=h;exact key p d he ⟨c1,d1,h1,hc.cons,rfl⟩
   cases h
def retC(P:Program)(rs:List ResultVar)(sl:List D)(st:List Bk):Option (List Prop×D):=match resL P sl st rs with
 |none=>Aj
 |some (cs,ds)=>(frz Ab st zA6 (oneD ds)).map λy=>(cs,y.1)
theorem zBr{rs:List ResultVar}{e:Exit}{x:D}(C:Prop)(y y':D)(he:e= .normal\/e= .ret)(hy:y=y')(hx:y'=x)(h:(retC P rs sl st).map (λx=>(Alls x.1,zGb x.2))=Ac (C,y):=by kernel_rfl)(hc:C:=by exact trivial):(e= .normal\/e= .ret)/\retL P sl st rs (λds=>∃y ks,frz Ab st zA6 (oneD ds)=Ac (y,ks)/\LeD y x):=by
 subst hy;refine⟨he,?_⟩;rw[AE]at h;obtain⟨⟨c,y0⟩,h,h0⟩:=h;simp only[AF.injEq]at h0;obtain⟨rfl,rfl⟩:=h0;unfold retC at h;split at h
 ·cases h
 rename_i c1 ds h1;rw[AE]at h;obtain⟨⟨y1,ks⟩,h2,h3⟩:=h;simp only[AF.injEq]at h3;grind [zSo,zY2]
theorem zBh{rs:List ResultVar}{e:Exit}{K:List D->Prop}(C:Prop)(ds:List D)(he:e= .normal\/e= .ret)(hk:K ds)(h:(resL P sl st rs).map (λx=>(Alls x.1,x.2))=Ac (C,ds):=by kernel_rfl)(hc:C:=by exact trivial):(e= .normal\/e= .ret)/\retL P sl st rs K:=by
 rw[AE]at h;obtain⟨⟨c,y0⟩,h,h0⟩:=h;simp only[AF.injEq]at h0;grind [zSo]
theorem zQ{α:Type}{b0:Code}(S:α->List D)(B:α->List Bk)(μ:α->Nat)(J:α->Prop)(a₀:α)(h₀:J a₀)(hw:Weak T sl st (S a₀) (B a₀))
  (step:∀a,J a->awp P T b0 (zAe (λsl' st'=>∃a',J a'/\μ a'<μ a/\Weak T sl' st' (S a') (B a')) Q) (S a) (B a)):awp P T (.loop b0) Q sl st:=by
 refine zQd (α:=α) (S) (B) (μ) (J) a₀ h₀ hw ?_;rintro a hj;refine zQc b0 (λe sl st hk=>?_) _ _<|step a hj;grind
theorem zA2{α:Type}{β:Type}{b0:Code}(S:α->β->List D)(B:α->β->List Bk)(μ:α->β->Nat)(J:α->β->Prop)(a₀:α)(b₀:β)(h₀:J a₀ b₀)(hw:Weak T sl st (S a₀ b₀) (B a₀ b₀))
  (step:∀a b,J a b->awp P T b0 (zAe (λsl' st'=>∃a' b',J a' b'/\μ a' b'<μ a b/\Weak T sl' st' (S a' b') (B a' b')) Q) (S a b) (B a b)):awp P T (.loop b0) Q sl st:=by
 refine zQd (α:=α×β) (λx=>S x.1 x.2) (λx=>B x.1 x.2) (λx=>μ x.1 x.2) (λx=>J x.1 x.2) (a₀,b₀) h₀ hw ?_;rintro⟨a,b⟩ hj;refine zQc b0 (λe sl st hk=>?_) _ _<|step a b hj;simp_all
theorem zAo{α:Type}{β:Type}{γ:Type}{b0:Code}(S:α->β->γ->List D)(B:α->β->γ->List Bk)(μ:α->β->γ->Nat)(J:α->β->γ->Prop)(a₀:α)(b₀:β)(c₀:γ)(h₀:J a₀ b₀ c₀)(hw:Weak T sl st (S a₀ b₀ c₀) (B a₀ b₀ c₀))
  (step:∀a b c,J a b c->awp P T b0 (zAe (λsl' st'=>∃a' b' c',J a' b' c'/\μ a' b' c'<μ a b c/\Weak T sl' st' (S a' b' c') (B a' b' c')) Q) (S a b c) (B a b c)):awp P T (.loop b0) Q sl st:=by
 refine zQd (α:=α×β×γ) (λx=>S x.1 x.2.1 x.2.2) (λx=>B x.1 x.2.1 x.2.2) (λx=>μ x.1 x.2.1 x.2.2) (λx=>J x.1 x.2.1 x.2.2) (a₀,b₀,c₀) h₀ hw ?_;rintro⟨a,b,c⟩ hj;refine zQc b0 (λe sl st hk=>?_) _ _<|step a b c hj;simp_all
theorem Weak.all{sl':List D}{st':List Bk}(m:Nat)(bs:List Bk)(hl:LeL sl sl')(hn:zLy sl' st m st.length=Ab)(hk:∀k,m<=k->T.keep k=Ad)(e:st.take m++bs=st'):Weak T sl st sl' st':=by
 subst e;exact((Weak.slots hl).trans (Weak.cut m hn hk)).trans (Weak.more bs)
def assocN(hs:List (Nat×Nat))(i:Nat):Nat:=match hs with
 |[]=>0
 |(j,h)::r=>if i==j then h else assocN r i
def le1(h:Nat)(d d':D):List Prop:=match h with
 |0=>match d' with
  | .unk=>[]
  |_=>[False]
 |1=>[d=d']
 |2=>match d,d' with
  | .val (.slice Aj 0 0), .osl _ 0 0 0 _=>[]
  |_,_=>[False]
 |3=>match d,d' with
  | .val (.slice Aj 0 0), .row [] 0=>[]
  |_,_=>[False]
 |4=>match d with
  | .fx e=>[e=d']
  |_=>[False]
 |_=>[False]
def leC:Nat->List D->List D->List (Nat×Nat)->List Prop
 |_,[],[],_=>[]
 |i,d::ds,d'::ds',hs=>le1 (assocN hs i) d d'++leC (i+1) ds ds' hs
 |_,_,_,_=>[False]
theorem LeD.fx(d:D):LeD (.fx d) d:=λI w β v h=>by
 simp only[Rel]at h;exact Rel.no h.2
theorem leC_ok{hs:List (Nat×Nat)}:∀{i:Nat}{sl sl':List D},Alls (leC i sl sl' hs)->LeL sl sl'
 |i,[],[],_=> .nil
 |i,[],_::_,h=>h.elim
 |i,_::_,[],h=>h.elim
 | i,d::ds,d'::ds',h=>by
  simp only[leC]at h;obtain⟨h1,h2⟩:=Alls.app h;refine .cons ?_ (leC_ok h2);unfold le1 at h1;split at h1
  ·split at h1
   ·exact .unk _
   exact h1.elim
  ·exact .eq h1
  ·split at h1
   ·exact .nil _ _
   exact h1.elim
  ·split at h1
   ·exact .nil_row
   exact h1.elim
  ·split at h1
   ·rename_i e;have h3:e=d':=h1;subst h3;exact LeD.fx _
   exact h1.elim
  exact h1.elim
theorem zKw{sl':List D}{st':List Bk}(hs:List (Nat×Nat))(C:Prop)(m:Nat)(bs:List Bk)(h:Alls (leC 0 sl sl' hs)=C)(hc:C)(hn:zLy sl' st m st.length=Ab)(hk:∀k,m<=k->T.keep k=Ad)(e:st.take m++bs=st'):Weak T sl st sl' st':=by
 subst h;exact Weak.all m bs (leC_ok hc) hn hk e
end
abbrev eqDL(a b:List D):Prop:=a=b
section
variable {P : Program} {T : Par} {ops : Array Oper} {dr : Bool} {l : List Oper} {sl : List D} {st : List Bk} {K : List D → List Bk → Prop}
theorem zJl(gs:List (Nat×Bool))(cs:List Prop){f:FuncId}(args:List D){x:D}{st':List Bk}{ch:List Nat}(args':List D)(h:actL P T ops dr l gs sl st=Ac (cs,f,args))(hc:Alls cs)(ha:LeL args args')(hp:Acts P f args' st ch x st')(hk:ch.all (λk=>!T.keep k)=Ab)(k:seqW P T ops dr l.tail (putD (sl.map (zC8 ch)) (hdst l) x) st' K):seqW P T ops dr l sl st K:=by
 unfold actL at h;split at h
 ·cases h
 rename_i o r;split at h
 ·rename_i c1 g1 s1 hg;split at h
  ·rename_i f1 a1 he;split at h
   ·rename_i hl;simp only[Bc.injEq,AF.injEq]at h;obtain⟨rfl,rfl,rfl⟩:=h;obtain⟨rfl,g2⟩:=zGf (P:=P) (T:=T) hg hc;simp only[AL,Bx,Bg]at hl;refine g2 ?_;simp only[goW,he];exact⟨hl.1,hl.2,ch,x,st',⟨hp.le ha,λk hk'=>by simpa using A8.1 hk k hk'⟩,k⟩
   cases h
  cases h
 cases h
def updB(st:List Bk)(ups:List (Nat×Bk))(news:List Bk):List Bk:=ups.foldl (λs p=>s.set p.1 p.2) st++news
theorem Acts.cut{f:FuncId}{args:List D}{s:List Bk}{x:D}{ch:List Nat}(m:Nat)(h:Acts P f args st ch x s)(hm:st.length<=m)(hn:zLy [x] s m s.length=Ab):Acts P f args st ch x (s.take m):=by
 intro β I w vs hr hsr hinj hfz hdom hi hg;refine(h β I w vs hr hsr hinj hfz hdom hi hg).mono ?_;rintro e w' ⟨v,β',I',rfl,p1,p2,p3,p4,p5,p6,p7,p8⟩;have hs:Sim β' I' w' [x] s [v]:=⟨by simp only[RelT];exact⟨v,[],rfl,p8,rfl⟩,p4,p5,p6,p7,p1,hg.mono p2.fix⟩;obtain⟨β2,I2,s2,t2,k2⟩:=Weak.cut (T:=⟨λ_=>Ad,λ_ _=>Aj,λk=>decide (k<m),λ_=>Ad,λ_=>Ad⟩) m hn (λk hk=>by simp;omega) β' I' w' _ hs;have hx:=s2.rel;simp only[RelT]at hx;obtain⟨v2,us,hv,hx,_⟩:=hx;simp only[Bl.injEq]at hv;obtain⟨rfl,_⟩:=hv;refine⟨v,β2,I2,rfl,s2.imb,p2.trans t2,λk y hk hb=>k2 k y (by have:=hdom k y hb;simp;omega) (p3 k y hk hb),s2.sr,s2.inj,s2.fz,s2.dom,hx⟩
end
theorem zX{α β:Type}{f:α->β}{l:List α}(h:0<l.length:=by omega):l.map f≠[]:=by grind [List.map_eq_nil_iff]
theorem zEi{α:Type}(f:α->D)(l:List α)(d0:α)(k:Nat)(h:k<l.length):((l.map f).drop k).headD .unk=f (l.getD k d0):=by
 simp_all
theorem zEl(a:Nat)(h:1<=a):(a:Int)-1=((a-1:Nat):Int):=by omega
theorem zJ2(n:Nat):Bd (n:Int) (2^32)=((n/4294967296:Nat):Int):=by
 grind
abbrev dig(x:Nat):D:= .val (.int .u32 x)
abbrev digR(l:List Nat):D:= .row (l.map dig) l.length
theorem zBz(l:List Nat)(k:Nat)(h:k<l.length):((l.map dig).drop k).headD .unk=dig (l.getD k 0):=by
 simp_all
theorem zF6(l:List Nat)(k x:Nat):(l.map dig).set k (.val (.int .u32 (x:Int)))=(l.set k x).map dig:=by
 rw[List.map_set]
theorem zPg(n:Nat):repL n [.val (.int .u32 0)]=(AB n 0).map dig:=by
 rw[List.map_replicate];induction n with
 |zero=>rfl
 |succ n ih=>simp only[repL,Cj,Cm,AR,AZ]at ih⊢;rw[ih];rfl
theorem zHs(l:List Nat)(n:Nat):(l.map dig).take n=(l.take n).map dig:=by rw[List.map_take]
def dg(n:Nat):List Nat:=if h:n=0 then[]else n%4294967296::dg (n/4294967296)
 decreasing_by omega
theorem zB7(n:Nat):nval (dg n)=n:=by
 induction n using Bu with
 |_ n ih=>
  grind [dg,nval]
theorem zB9(n:Nat):Digs (dg n):=by
 induction n using Bu with
 | _ n ih=>
  intro i;unfold dg;split
  ·simp
  cases i with
  |zero=>simp;omega
  |succ i=>simp only[List.getD_cons_succ];exact ih _ (by omega) i
theorem zSy{x:Nat}{l:List Nat}(h:Normal (x::l)):Normal l/\(l=[]->x≠0):=by
 rcases h with h|h
 ·cases h
 cases l with
 |nil=>exact⟨.inl rfl,λ_=>by simpa using h⟩
 |cons y l=>exact⟨.inr (by simpa using h),λh=>by cases h⟩
theorem dg_nval:∀(l:List Nat),Normal l->Digs l->dg (nval l)=l
 |[],_,_=>by unfold dg;simp[nval]
 |x::l,hn,hd=>by
  obtain⟨h1,h2⟩:=zSy hn;have hx:x<4294967296:=by simpa using hd 0
  have ih:=dg_nval l h1 (λi=>by simpa using hd (i+1));grind [nval,Normal.zero,dg]
theorem zN5{l:List Nat}(hl:Digs l):l.take (zCl l l.length)=dg (nval l):=by
 have h1:=zRg l l.length (As _);have h2:=zHf l l.length (As _);rw[BL]at h1;rw[<-h1,dg_nval _ h2 (hl.take _)]
theorem zY0(n:Nat):Normal (dg n):=by
 have h:=zHf (dg n) (dg n).length (As _);grind [zN5,zB9,zB7]
theorem zMh{l:List Nat}(hl:Digs l):(dg (nval l)).length<=l.length:=by
 grind [zN5,By]
def cmpD(a b:Int):Int:=if a<b then-1 else if b<a then 1 else 0
theorem cmpD_eq{a b c d:Nat}(h1:a<b->c<d)(h2:b<a->d<c)(h3:a=b->c=d):cmpD a b=cmpD c d:=by
 grind [cmpD,Cf]
abbrev natD(n:Nat):D:=digR (dg n)
end
section
open Go.ChangeShapes Go.WideShapes Go.ChangeAt Go.RowKit
section
variable {H : Type} {enc : TypeId × Value → H} {P : Program}
theorem zLe(hl:laidOutB P=Ab){W W':World}(hb:Ext W W'):∀{ts:List TypeId}{vs:List Value}{ds:List (DataW H)}{ps:List MemPlace}(sp:Nat->Bool),
  ts.all (λt=>P.readableRec t&&decide (t<P.types.size))=Ab->DataW.TrodAll enc P W 0 (λ_=>Ab) Ab ts vs ds ps->(∀p∈ps,p.block<W.heap.size)->(∀p∈ps,sp p.block=Ab)->DataW.TrodAll enc P W' 0 sp Ab ts vs ds ps
 |[],[],[],ps,sp,_,h,_,_=>h
 |t::ts,v::vs,d::ds,ps,sp,hr,⟨p,q,h1,h2,h3⟩,hlt,hsp=>by
  subst h3;simp only[List.all_cons,AL,decide_eq_true_eq]at hr;refine⟨p,q,WideElems.Trod_stays hl hr.1.1 hr.1.2 h1 (λx hx=>Below.same hb.1 (hlt x (BY _ hx))) (λx hx=>hsp x (BY _ hx)),?_,rfl⟩;exact zLe hl hb sp hr.2 h2 (λx hx=>hlt x (BZ _ hx)) (λx hx=>hsp x (BZ _ hx))
 |[],_::_,_,_,_,_,h,_,_=>h.elim
 |[],[],_::_,_,_,_,h,_,_=>h.elim
 |_::_,[],_,_,_,_,h,_,_=>h.elim
 |_::_,_::_,[],_,_,_,h,_,_=>h.elim
theorem zYs{f:Func}{s:ChangeSpec}{W W':World}{args:Array Value}{ds:List (DataW H)}{before:List MemPlace}{bt:TypeId}
  (hl:laidOutB P=Ab)(hv:s.vars=[])(hrt:f.resultTypes=#[bt])(hbt:P.underlying bt=Ac .bool)
  (hr:f.params.toList.all (λt=>P.readableRec t&&decide (t<P.types.size))=Ab)
  (hfn:s.fn H ds={results:=[.lit (.bool Ab)],args:=ds})
  (hW:DataW.Whole enc P f.params.toList s.vars Ad W args.toList ds [] before)(hx:Ext W W'):
  s.post enc P f Ad Ab Ad Ad W args (.bool Ab) W':=by
 have hlt:∀p∈before,p.block<W.heap.size:=λp hp=>hW.lt p hp;obtain⟨p,q,hA,hV,hpq,hz,hn⟩:=id hW;rw[hv]at hV;have hq:q=[]:=hV;subst hq;rw[Cn]at hpq;subst hpq;have hfn':s.fn H (ds++[])={results:=[.lit (.bool Ab)],args:=ds}:=by rw[Cn];exact hfn
 have hstay:∀sp:Nat->Bool,(∀x∈before,sp x.block=Ab)->DataW.TrodAll enc P W' 0 sp Ab f.params.toList args.toList ds before:=λsp hsp=>zLe hl hx sp hr hA hlt hsp;have hres:∀(b:Nat)(sp:Nat->Bool)(hd:Bool),DataW.TrodAll enc P W' b sp hd f.resultTypes.toList ((A9 Ab).resultList f.resultTypes.size) [.lit (.bool Ab)] []:=by
  intro b sp hd;rw[hrt];exact⟨[],[],shut_bool hbt Ab,rfl,rfl⟩
 have hvars:∀sp:Nat->Bool,DataW.TrodVars enc P W' sp s.vars ([]:List (DataW H)) []:=λsp=>by rw[hv];exact rfl
 refine⟨ds,[],before,[],before,[],hW,by rw[hfn'];exact hres _ _ _,by rw[hfn'];exact hstay _ (λx hx=>by simpa using hlt x hx),by rw[hfn'];exact hvars _,World.keptBut_mono (λx hx=>⟨hx,Or.inr (by simpa using hx)⟩) (Below.frame hx.1 (· ∈before)),λ_=>?_⟩;grind
end
end
section
open Go.ChangeShapes Go.WideShapes Go.ChangeAt Go.RowKit
def allI(w:World):Im:=λb _=>b<w.heap.size
def ShpB(P:Program)(B:Nat):Nat->TypeId->List D->Prop
 |0,_,_=>False
 |n+1,t,ds=>match P.underlying t with
  |some .bool=>∃b,ds=[.val (.bool b)]
  |some (.int k)=>∃z,ds=[.val (.int k z)]/\(Lit.int k z).wf=Ab
  |some .string=>∃s,ds=[.val (.string s)]/\s.size<=B
  |some (.slice e)=>∃ls:List (List D),ds=[.row ls.flatten ls.length]/\(∀x∈ls,ShpB P B n e x/\x.length=P.cellsOf e)/\ls.length<=B
  |some (.struct fs)=>ds.length=P.cellsOf t/\∀f∈fs.toList,ShpB P B n f.type ((ds.drop f.offset).take (P.cellsOf f.type))
  |some (.array m e)=>ds.length=P.cellsOf t/\∀i,i<m->ShpB P B n e ((ds.drop (i*P.cellsOf e)).take (P.cellsOf e))
  |_=>False
abbrev Shp(P:Program):Nat->TypeId->List D->Prop:=ShpB P maxLen
section
variable {H : Type} {enc : TypeId × Value → H} {P : Program} {w : World}
theorem zH3{α β:Type}{f:α->Option β}:∀{l:List α}{r:List β},l.mapM f=Ac r->r.length=l.length/\∀(i:Nat) x,l[i]?=Ac x->∃y,f x=Ac y/\y∈r
 |[],r,h=>by simp at h;subst h;exact⟨rfl,by simp⟩
 | a::l,r,h=>by
  rw[List.mapM_cons]at h;cases ha:f a with
  |none=>simp[ha]at h
  | some b=>
   cases hl:l.mapM f with
   |none=>simp[ha,hl]at h
   |some bs=>
    simp[ha,hl]at h;subst h;obtain⟨h1,h2⟩:=zH3 hl;grind
theorem RelC.append{I:Im}{b:Nat}:∀{x y:List D}{o:Nat},RelC I w x b o->RelC I w y b (o+x.length)->RelC I w (x++y) b o
 |[],y,o,h,k=>by simpa using k
 |d::x,y,o,h,k=>by
  simp only[AR,RelC]at h⊢;refine⟨h.1,h.2.append ?_⟩;grind
theorem zKd{I:Im}{b sz:Nat}:∀(ls:List (List D))(o:Nat),(∀j x,ls[j]?=Ac x->RelC I w x b (o+j*sz)/\x.length=sz)->RelC I w ls.flatten b o
 |[],o,h=>by simp only[List.flatten_nil,RelC]
 |x::ls,o,h=>by
  rw[Cm];have h0:=h 0 x rfl;refine RelC.append (by simpa using h0.1) (zKd (sz:=sz) ls _ λj y hy=>?_)
  have:=h (j+1) y (by simpa using hy)
  grind
theorem zPh{b o n:Nat}{cs:List Value}{ds:List D}(h:RelL (allI w) w noB ds cs)(hc:∀j v,cs[j]?=Ac v->w.cell? ⟨b,o+j,Aj⟩=Ac v):RelC (allI w) w ds b o:=
 RelC.of_get λi d hd=>by
  obtain⟨v,k1,k2,k3⟩:=h.get i d hd;have hv:=hc i v k1;exact⟨World.block_lt_of_cell? w _ hv,v,hv,k2,k3⟩
def zGh(P:Program)(total:Nat):List Field->Nat->Bool
 |[],off=>off==total
 |f::r,off=>f.offset==off&&zGh P total r (off+P.cellsOf f.type)
theorem zRz{total:Nat}:∀{fs:List Field}{off:Nat},zGh P total fs off=Ab->off<=total
 |[],off,h=>by simp[zGh]at h;omega
 |f::r,off,h=>by
  simp only[zGh,AL,beq_iff_eq]at h
  have:=zRz h.2
  omega
theorem zR0{total:Nat}:∀{fs:List Field}{off:Nat},zGh P total fs off=Ab->∀f∈fs,off<=f.offset
 |[],off,h,f,hf=>by cases hf
 |g::r,off,h,f,hf=>by
  simp only[zGh,AL,beq_iff_eq]at h;rcases AH.1 hf with rfl|hf
  ·omega
  have:=zR0 h.2 f hf;omega
theorem zNr{total:Nat}{cs:List Value}(hl:cs.length=total){S:TypeId->List D->Prop}:∀(fs:List Field)(off:Nat),zGh P total fs off=Ab->(∀f∈fs,∃ds,RelL (allI w) w noB ds ((cs.drop f.offset).take (P.cellsOf f.type))/\S f.type ds)->
  ∃ds,RelL (allI w) w noB ds (cs.drop off)/\∀f∈fs,S f.type ((ds.drop (f.offset-off)).take (P.cellsOf f.type))
 |[],off,hc,h=>by
  simp only[zGh,beq_iff_eq]at hc;exact⟨[],by rw[B4 (by omega)];simp only[RelL],by simp⟩
 | f::r,off,hc,h=>by
  simp only[zGh,AL,beq_iff_eq]at hc;obtain⟨df,h1,h2⟩:=h f (AD ..);obtain⟨dr,h3,h4⟩:=zNr hl r _ hc.2 (λg hg=>h g (AC _ hg));have hle:=zRz hc.2;have hlen:df.length=P.cellsOf f.type:=by
   rw[h1.length,By,Co,hc.1];omega
  refine⟨df++dr,?_,λg hg=>?_⟩
  ·have:=h1.append h3
   grind [List.drop_drop,BK]
  rcases AH.1 hg with rfl|hg
  ·simp_all
  have hge:=zR0 hc.2 g hg;grind [List.drop_append,B4]
theorem zRn{sz:Nat}{S:List D->Prop}:∀(m:Nat)(cs:List Value),cs.length=m*sz->(∀i,i<m->∃ds,RelL (allI w) w noB ds ((cs.drop (i*sz)).take sz)/\S ds)->
  ∃ds,RelL (allI w) w noB ds cs/\∀i,i<m->S ((ds.drop (i*sz)).take sz)
 |0,cs,hl,h=>by
  obtain rfl:cs=[]:=B5 (by simpa using hl);exact⟨[],by simp only[RelL],by simp⟩
 | m+1,cs,hl,h=>by
  obtain⟨d0,h1,h2⟩:=h 0 (by omega);rw[Nat.zero_mul,A_]at h1;rw[B6]at hl;have hlen:d0.length=sz:=by rw[h1.length,By];omega
  obtain⟨dr,h3,h4⟩:=zRn (sz:=sz) (S:=S) m (cs.drop sz) (by rw[Co];omega) (λi hi=>by
   obtain⟨ds,k1,k2⟩:=h (i+1) (by omega);refine⟨ds,?_,k2⟩;rw[List.drop_drop,show sz+i*sz=(i+1)*sz by rw[B6];omega];exact k1)
  refine⟨d0++dr,?_,λi hi=>?_⟩
  ·have:=h1.append h3
   simp_all
  cases i with
  |zero=>
   grind
  |succ i=>
   have:=h4 i (by omega)
   rw[B6,List.drop_append,B4 (l:=d0) (by omega),AZ,show i*sz+sz-d0.length=i*sz by omega];exact this
def okT(P:Program):Nat->TypeId->Bool
 |0,_=>Ab
 |n+1,t=>match P.underlying t with
  |some .bool|some (.int _)|some .string=>Ab
  |some (.slice e)=>decide (0<P.cellsOf e)&&okT P n e
  |some (.struct fs)=>zGh P (P.cellsOf t) fs.toList 0&&fs.toList.all (λf=>okT P n f.type)
  |some (.array m e)=>P.cellsOf t==m*P.cellsOf e&&okT P n e
  |_=>Ad
section
variable {B : Nat} {Q : DataW H → Prop} (hQ : ∀ e s, Q (.slice e s) → (e.length ≤ maxLen → e.length ≤ B) ∧ ∀ x ∈ e, Q x) (hA : ∀ p, Q (.agg p) → ∀ x ∈ p, Q x) (hS : ∀ l, Q (.lit (.string l)) → l.length ≤ maxLen → l.length ≤ B)
include hQ hA hS
theorem zVh:∀(fuel:Nat)(t:TypeId)(cs:List Value)(d:DataW H)(ps:List MemPlace),DataW.trod enc P w 0 (λ_=>Ab) Ab fuel t cs=Ac (d,ps)->Q d->okT P fuel t=Ab->∃ds,RelL (allI w) w noB ds cs/\ShpB P B fuel t ds
 |0,t,cs,d,ps,h,hq,hk=>by cases h
 | n + 1,t,cs,d,ps,h,hq,hk=>by
  have ih:=zVh n;simp only[DataW.trod]at h;split at h;case h_1=>
   rename_i b hu;exact⟨[.val (.bool b)],by simp only[RelL,Rel];exact⟨_,_,rfl,rfl,rfl,rfl⟩,by simp[ShpB,hu]⟩
  case h_2=>
   rename_i k k' z hu;split at h
   ·rename_i hc;obtain⟨rfl,hw⟩:=hc;exact⟨[.val (.int k' z)],by simp only[RelL,Rel];exact⟨_,_,rfl,rfl,rfl,rfl⟩,by simp[ShpB,hu,hw]⟩
   cases h
  case h_4=>
   rename_i z hu;split at h
   ·rename_i hc;have hz:z.size<=B:=hS _ ((AF.inj (Bc.inj h)).1▸hq) hc;exact⟨[.val (.string z)],by simp only[RelL,Rel];exact⟨_,_,rfl,rfl,rfl,rfl⟩,by simp[ShpB,hu,hz]⟩
   cases h
  case h_7=>
   rename_i e hu;exact⟨[.row [] 0],by simp only[RelL,Rel];exact⟨_,_,rfl,rfl,⟨Aj,0,rfl,As _,by decide,λ_=>rfl, .inl trivial⟩,rfl⟩,by simp only[ShpB,hu];exact⟨[],rfl,by simp,Nat.zero_le _⟩⟩
  case h_8=>
   rename_i e a len cap hu;simp only[okT,hu,AL,decide_eq_true_eq]at hk;split at h
   ·rename_i hc;cases hm:(A6 len).mapM (λi=>(w.cells? 0 (a.add (i*P.cellsOf e)) (P.cellsOf e)).bind (DataW.trod enc P w 0 (λ_=>Ab) Ab n e))with
    |none=>simp[hm]at h
    | some es=>
     obtain⟨h1,h2⟩:=zH3 hm;obtain⟨rest,rfl⟩:∃rest,d= .slice (es.map (·.1)) rest:=by
      simp[hm]at h;obtain⟨rest,_,h3,_⟩:=h;exact⟨_,h3.symm⟩
     obtain⟨hq1,hq2⟩:=hQ _ _ hq;have hB:len<=B:=by
      rw[B7,h1,List.length_range]at hq1;exact hq1 (by omega)
     have key:∀i,i<len->∃ds cs,RelL (allI w) w noB ds cs/\ShpB P B n e ds/\w.cells? 0 (a.add (i*P.cellsOf e)) (P.cellsOf e)=Ac cs:=by
      intro i hi;obtain⟨y,hy,hmem⟩:=h2 i i (Cp hi);rw[Option.bind_eq_some_iff]at hy;obtain⟨cs,k1,k2⟩:=hy;obtain⟨ds,k3,k4⟩:=ih e cs y.1 y.2 k2 (hq2 _ (AO.2 ⟨y,hmem,rfl⟩)) hk.2;exact⟨ds,cs,k3,k4,k1⟩
     have hsp:0<len->a.spot=none:=by
      intro h0;obtain⟨ds,cs,k1,k2,k3⟩:=key 0 h0;obtain⟨_,hl,hcell⟩:=Cq k3
      have:=hcell 0 (by omega)
      have h5:∃v,w.cell? ((a.add (0*P.cellsOf e)).add 0)=Ac v:=by
       rw[this];exact⟨cs[0]'(by omega),by simp⟩
      obtain⟨v,hv⟩:=h5
      have:=World.cell?_spot hv
      simpa[Addr.add]using this
     have hls:∃ls:List (List D),ls.length=len/\∀j x,ls[j]?=Ac x->∃cs,RelL (allI w) w noB x cs/\ShpB P B n e x/\w.cells? 0 (a.add (j*P.cellsOf e)) (P.cellsOf e)=Ac cs:=by
      refine⟨(A6 len).map (λi=>if hi:i<len then Classical.choose (key i hi)else[]),by simp,λj x hx=>?_⟩;rw[B8,AE]at hx;obtain⟨j',hj,rfl⟩:=hx;have hjl:j<len:=by have:=(Bv.1 hj).1;simpa using this
      rw[Cp hjl]at hj;cases hj;rw[dif_pos hjl];exact Classical.choose_spec (key j hjl)
     obtain⟨ls,hl1,hl2⟩:=hls;have hlen:∀(j:Nat)(x:List D),ls[j]?=Ac x->x.length=P.cellsOf e:=by
      intro j x hx;obtain⟨cs,k1,k2,k3⟩:=hl2 j x hx;rw[k1.length];exact(Cq k3).2.1
     refine⟨[.row ls.flatten ls.length],?_,?_⟩
     ·simp only[RelL,Rel];refine⟨_,_,rfl,rfl,⟨Ac a,cap,by rw[hl1],by omega,hc.2.2,(λh=>by cases h),?_⟩,rfl⟩;rcases Nat.eq_zero_or_pos len with h0|h0
      ·left;obtain rfl:ls=[]:=B5 (by omega);rfl
      right;obtain⟨b,o,sp⟩:=a;obtain rfl:sp=none:=hsp h0;refine⟨b,o,rfl,zKd (sz:=P.cellsOf e) ls o λj x hx=>⟨?_,hlen j x hx⟩⟩;obtain⟨cs,k1,k2,k3⟩:=hl2 j x hx;obtain⟨_,k4,k5⟩:=Cq k3;refine zPh (n:=0) k1 λi v hv=>?_;have hi:i<P.cellsOf e:=by have:=(Bv.1 hv).1;omega
      have:=k5 i hi
      rw[hv]at this;rw[add_plain,add_plain]at this;exact this
     simp only[ShpB,hu];refine⟨ls,rfl,λx hx=>?_,by omega⟩;obtain⟨j,hj⟩:=List.getElem?_of_mem hx;obtain⟨cs,k1,k2,k3⟩:=hl2 j x hj;exact⟨k2,hlen j x hj⟩
   cases h
  case h_9=>
   rename_i fs hu;simp only[okT,hu,AL]at hk;split at h
   ·rename_i hl;rw[AE]at h;obtain⟨xs,hm,hd⟩:=h;obtain⟨_,h2⟩:=zH3 hm;obtain⟨rfl,_⟩:=AF.injEq ..▸hd;have hq2:=hA _ hq;obtain⟨ds,k1,k2⟩:=zNr (P:=P) (S:=ShpB P B n) hl fs.toList 0 hk.1 (λf hf=>by
     obtain⟨j,hj⟩:=List.getElem?_of_mem hf;obtain⟨y,hy,hmem⟩:=h2 j f hj;exact ih _ _ y.1 y.2 hy (hq2 _ (AO.2 ⟨y,hmem,rfl⟩)) (A8.1 hk.2 f hf))
    rw[A_]at k1;exact⟨ds,k1,by simp only[ShpB,hu];exact⟨by rw[k1.length];exact hl,λf hf=>by simpa using k2 f hf⟩⟩
   cases h
  case h_10=>
   rename_i m e hu;simp only[okT,hu,AL,beq_iff_eq]at hk;split at h
   ·rename_i hl;rw[AE]at h;obtain⟨xs,hm,hd⟩:=h;obtain⟨_,h2⟩:=zH3 hm;obtain⟨rfl,_⟩:=AF.injEq ..▸hd;have hq2:=hA _ hq;obtain⟨ds,k1,k2⟩:=zRn (sz:=P.cellsOf e) (S:=ShpB P B n e) m _ (by rw[hl,hk.1]) (λi hi=>by
     obtain⟨y,hy,hmem⟩:=h2 i i (Cp hi);exact ih _ _ y.1 y.2 hy (hq2 _ (AO.2 ⟨y,hmem,rfl⟩)) hk.2)
    exact⟨ds,k1,by simp only[ShpB,hu];exact⟨by rw[k1.length];exact hl,k2⟩⟩
   cases h
  all_goals (exfalso;simp_all [okT])
end
end
end
section
open Go.ChangeShapes Go.WideShapes Go.ChangeAt Go.RowKit
def okS(P:Program):Nat->TypeId->Bool
 |0,_=>Ad
 |n+1,t=>match P.underlying t with
  |some .bool|some (.int _)|some .string=>Ab
  |some (.slice e)=>decide (0<P.cellsOf e)&&okS P n e
  |some (.struct fs)=>zGh P (P.cellsOf t) fs.toList 0&&fs.toList.all (λf=>okS P n f.type)
  |some (.array m e)=>P.cellsOf t==m*P.cellsOf e&&okS P n e
  |_=>Ad
theorem zPq{P:Program}:∀{k:Nat}{t:TypeId},okS P k t=Ab->∀n,okT P n t=Ab
 |0,t,h,n=>by cases h
 |k+1,t,h,0=>rfl
 | k+1,t,h,n+1=>by
  simp only[okS]at h;simp only[okT];split at h<;>rename_i hu<;>(try simp only[hu])<;>try trivial
  ·simp only[AL]at h⊢;exact⟨h.1,zPq h.2 n⟩
  ·simp only[AL,A8]at h⊢;exact⟨h.1,λf hf=>zPq (h.2 f hf) n⟩
  simp only[AL]at h⊢;exact⟨h.1,zPq h.2 n⟩
section
variable {P : Program} {B n : Nat} {t : TypeId} {ds : List D}
theorem zPb{k:IntKind}(hu:P.underlying t=Ac (.int k))(h:ShpB P B n t ds):∃z,ds=[.val (.int k z)]/\inK k z:=by
 cases n with
 |zero=>exact h.elim
 |succ n=>
  simp only[ShpB,hu]at h;obtain⟨z,h1,h2⟩:=h;refine⟨z,h1,?_⟩;cases k<;>simpa[Lit.wf,IntKind.min,IntKind.max,B1,B0,inK]using h2
theorem zW7(hu:P.underlying t=Ac .string)(h:ShpB P B n t ds):∃s,ds=[.val (.string s)]/\s.size<=B:=by
 cases n with
 |zero=>exact h.elim
 |succ n=>simpa only[ShpB,hu]using h
theorem zHt{e:TypeId}(hu:P.underlying t=Ac (.slice e))(h:ShpB P B n t ds):∃m,∃ls:List (List D),ds=[.row ls.flatten ls.length]/\(∀x∈ls,ShpB P B m e x)/\ls.length<=B:=by
 cases n with
 |zero=>exact h.elim
 |succ n=>
  simp only[ShpB,hu]at h;obtain⟨ls,h1,h2,h3⟩:=h;exact⟨n,ls,h1,λx hx=>(h2 x hx).1,h3⟩
theorem zM6{fs:Array Field}(hu:P.underlying t=Ac (.struct fs))(h:ShpB P B n t ds):ds.length=P.cellsOf t/\∃m,∀f∈fs.toList,ShpB P B m f.type ((ds.drop f.offset).take (P.cellsOf f.type)):=by
 cases n with
 |zero=>exact h.elim
 |succ n=>
  simp only[ShpB,hu]at h;exact⟨h.1,n,h.2⟩
theorem zL7{β:Type}{g:β->D}{Q:β->Prop}:∀{ls:List (List D)},(∀x∈ls,∃b,x=[g b]/\Q b)->∃bs:List β,ls.flatten=bs.map g/\bs.length=ls.length/\∀b∈bs,Q b
 |[],h=>⟨[],rfl,rfl,by simp⟩
 |x::ls,h=>by
  obtain⟨b,rfl,hb⟩:=h x (AD ..);obtain⟨bs,h1,h2,h3⟩:=zL7 λy hy=>h y (AC _ hy);refine⟨b::bs,by simp[h1],by simp[h2],λc hc=>?_⟩;grind
theorem zL8{β:Type}{g:β->List D}{Q:β->Prop}:∀{ls:List (List D)},(∀x∈ls,∃b,x=g b/\Q b)->∃bs:List β,ls.flatten=(bs.map g).flatten/\bs.length=ls.length/\∀b∈bs,Q b
 |[],h=>⟨[],rfl,rfl,by simp⟩
 |x::ls,h=>by
  obtain⟨b,rfl,hb⟩:=h x (AD ..);obtain⟨bs,h1,h2,h3⟩:=zL8 λy hy=>h y (AC _ hy);refine⟨b::bs,by simp[h1],by simp[h2],λc hc=>?_⟩;grind
end
theorem zRe{P:Program}{w:World}{r:Reach}{base:Nat}{t:TypeId}{v:Value}{k:Nat}{e:TypeId}(ht:P.underlying t=Ac (.array k e))(h:BB P w r base t v):∃cs,v= .agg cs/\cs.size=P.cellsOf t:=by
 simp only[BB,ht]at h;grind
def ArgB(P:Program)(B:Nat)(t:TypeId)(d:D):Prop:=∃n,if zE9 P t then∃ds,d= .agg ds/\ShpB P B n t ds else ShpB P B n t [d]
abbrev ArgD(P:Program)(t:TypeId)(d:D):Prop:=ArgB P maxLen t d
section
variable {H : Type} {enc : TypeId × Value → H} {P : Program} {W : World} {B : Nat} {Q : DataW H → Prop} (hQ : ∀ e s, Q (.slice e s) → (e.length ≤ maxLen → e.length ≤ B) ∧ ∀ x ∈ e, Q x) (hA : ∀ p, Q (.agg p) → ∀ x ∈ p, Q x) (hS : ∀ l, Q (.lit (.string l)) → l.length ≤ maxLen → l.length ≤ B)
section
include hQ hA hS
theorem arg_rel{r:Reach}{b:Nat}{t:TypeId}{v:Value}{d:DataW H}{ps:List MemPlace}(hval:BB P W r b t v)(h:DataW.Trod enc P W 0 (λ_=>Ab) Ab t v d ps)(hq:Q d){k:Nat}(hk:okS P k t=Ab):
  ∃x,Rel (allI W) W noB x v/\ArgB P B t x:=by
 obtain⟨fuel,hf⟩:=h;obtain⟨ds,k1,k2⟩:=zVh hQ hA hS fuel t _ _ _ hf hq (zPq hk fuel);have one:v.cells=#[v]->zE9 P t=Ad->∃x,Rel (allI W) W noB x v/\ArgB P B t x:=by
  intro hc ha;rw[hc]at k1;have hl:=k1.length;match ds,hl with
  |[x],_=>
   simp only[RelL]at k1;obtain⟨u,us,e,_,k3,k4⟩:=k1;simp only[Bl.injEq]at e;obtain⟨rfl,rfl⟩:=e;exact⟨x,k3,fuel,by rw[if_neg (by simp[ha])];exact k2⟩
 have many:(∃cs,v= .agg cs)->zE9 P t=Ab->∃x,Rel (allI W) W noB x v/\ArgB P B t x:=by
  rintro⟨cs,rfl⟩ ha;refine⟨.agg ds,?_,fuel,by rw[if_pos ha];exact⟨ds,rfl,k2⟩⟩;simp only[Rel];exact⟨cs.toList,by simp,by simpa[Value.cells]using k1⟩
 cases k with
 |zero=>cases hk
 | succ k=>
  simp only[okS]at hk;split at hk<;>rename_i hu
  ·obtain⟨b,rfl⟩:=okWide_bool hu hval;exact one rfl (by simp[zE9,hu])
  ·obtain⟨b,rfl⟩:=okWide_int hu hval;exact one rfl (by simp[zE9,hu])
  ·obtain⟨b,rfl⟩:=okWide_string hu hval;exact one rfl (by simp[zE9,hu])
  ·obtain⟨a,l,c,rfl⟩:=okWide_slice hu hval;exact one rfl (by simp[zE9,hu])
  ·obtain⟨cs,rfl,_⟩:=okWide_struct hu hval;simp_all [zE9]
  ·obtain⟨cs,rfl,_⟩:=zRe hu hval;simp_all [zE9]
  cases hk
end
inductive ArgsB(P:Program)(B:Nat):List TypeId->List D->Prop
 |nil:ArgsB P B [] []
 |cons {t:TypeId} {ts:List TypeId} {d:D} {ds:List D}:ArgB P B t d->ArgsB P B ts ds->ArgsB P B (t::ts) (d::ds)
abbrev ArgsD(P:Program):List TypeId->List D->Prop:=ArgsB P maxLen
section
include hQ hA hS
theorem zWs{r:Reach}{b k:Nat}:∀{ts:List TypeId}{vs:List Value}{ds:List (DataW H)}{ps:List MemPlace},(∀(j:Nat) t v,ts[j]?=Ac t->vs[j]?=Ac v->BB P W r b t v)->DataW.TrodAll enc P W 0 (λ_=>Ab) Ab ts vs ds ps->(∀d∈ds,Q d)->ts.all (okS P k)=Ab->
  ∃xs,RelT (allI W) W noB xs vs/\ArgsB P B ts xs
 |[],vs,ds,ps,hv,h,hq,hk=>by
  obtain⟨rfl,_,_⟩:=trodAll_nil h;exact⟨[],by simp only[RelT], .nil⟩
 |t::ts,vs,ds,ps,hv,h,hq,hk=>by
  obtain⟨v,vs,d,ds,p,q,rfl,rfl,rfl,h1,h2⟩:=trodAll_cons h;simp only[List.all_cons,AL]at hk;obtain⟨x,k1,k2⟩:=arg_rel hQ hA hS (hv 0 t v rfl rfl) h1 (hq _ (AD ..)) hk.1;obtain⟨xs,k3,k4⟩:=zWs (λj t v h1 h2=>hv (j+1) t v (by simpa using h1) (by simpa using h2)) h2 (λd hd=>hq d (AC _ hd)) hk.2;exact⟨x::xs,by simp only[RelT];exact⟨v,vs,rfl,k1,k3⟩, .cons k2 k4⟩
end
theorem ArgsB.one{t:TypeId}{xs:List D}(h:ArgsB P B [t] xs):∃d,xs=[d]/\ArgB P B t d:=by
 cases h with|cons h1 h2=>cases h2;exact⟨_,rfl,h1⟩
theorem ArgsB.more{t:TypeId}{ts:List TypeId}{xs:List D}(h:ArgsB P B (t::ts) xs):∃d ds,xs=d::ds/\ArgB P B t d/\ArgsB P B ts ds:=by
 cases h<;>grind
theorem ArgB.cell{t:TypeId}{d:D}(h:ArgB P B t d)(ha:zE9 P t=Ad):∃n,ShpB P B n t [d]:=by
 obtain⟨n,h⟩:=h;grind
theorem zLd:∀{ts:List TypeId}{vs:List Value}{ds:List (DataW H)}{ps:List MemPlace},DataW.TrodAll enc P W 0 (λ_=>Ab) Ab ts vs ds ps->ds.length=ts.length
 |[],vs,ds,ps,h=>by
  obtain⟨_,rfl,_⟩:=trodAll_nil h;rfl
 |t::ts,vs,ds,ps,h=>by
  obtain⟨v,vs,d,ds,p,q,rfl,rfl,rfl,h1,h2⟩:=trodAll_cons h;rw[Br,Br,zLd h2]
section
include hQ hA hS
theorem zZh{fn:Func}{s:ChangeSpec}{f:FuncId}{bt:TypeId}{args:Array Value}{ds gs:List (DataW H)}{before:List MemPlace}{base:Nat}(k:Nat)
  (hl:laidOutB P=Ab)(hv:s.vars=[])(hrt:fn.resultTypes=#[bt])(hbt:P.underlying bt=Ac .bool)
  (hr:fn.params.toList.all (λt=>P.readableRec t&&decide (t<P.types.size))=Ab)(hfn:∀ds,ds.length=fn.params.toList.length->s.fn H ds={results:=[.lit (.bool Ab)],args:=ds})
  (hk:fn.params.toList.all (okS P k)=Ab)
  (hval:∀(j:Nat) t v,fn.params[j]?=Ac t->args[j]?=Ac v->BB P W .any base t v)
  (hW:DataW.Whole enc P fn.params.toList s.vars Ad W args.toList ds gs before)
  (hg:Gl (allI W) W)(hq:∀d∈ds,Q d)(main:∀xs,ArgsB P B fn.params.toList xs->Pure P f xs [] (.val (.bool Ab))):
  Calls P f args W λe W'=>∃v,e= .returned v/\s.post enc P fn Ad Ab Ad Ad W args v W':=by
 have hW':=hW;obtain⟨p,q,hA0,hV,rfl,hfz,hnd⟩:=hW;rw[hv]at hV;obtain⟨rfl,rfl⟩:=trodVars_none hV;obtain⟨xs,h1,h2⟩:=zWs hQ hA hS (k:=k) (r:= .any) (b:=base) (λj t v k1 k2=>hval j t v (by simpa using k1) (by simpa using k2)) hA0 hq hk;refine(main xs h2 (allI W) W args.toList h1 (λb o h=>h) hg).mono ?_;rintro e W' ⟨v,I',γ,rfl,hx,_,_,_,_,_,_,_,_,hr',_⟩;simp only[Rel]at hr';subst hr';exact⟨_,rfl,zYs (bt:=bt) hl hv hrt hbt hr (hfn ds (zLd hA0)) hW' hx⟩
end
theorem law_call{fn:Func}{s:ChangeSpec}{f:FuncId}{bt:TypeId}{args:Array Value}{ds gs:List (DataW H)}{before:List MemPlace}{base:Nat}(k:Nat)
  (hl:laidOutB P=Ab)(hv:s.vars=[])(hrt:fn.resultTypes=#[bt])(hbt:P.underlying bt=Ac .bool)
  (hr:fn.params.toList.all (λt=>P.readableRec t&&decide (t<P.types.size))=Ab)(hfn:∀ds,ds.length=fn.params.toList.length->s.fn H ds={results:=[.lit (.bool Ab)],args:=ds})
  (hk:fn.params.toList.all (okS P k)=Ab)
  (hval:∀(j:Nat) t v,fn.params[j]?=Ac t->args[j]?=Ac v->BB P W .any base t v)
  (hW:DataW.Whole enc P fn.params.toList s.vars Ad W args.toList ds gs before)
  (hg:Gl (allI W) W)(main:∀xs,ArgsD P fn.params.toList xs->Pure P f xs [] (.val (.bool Ab))):
  Calls P f args W λe W'=>∃v,e= .returned v/\s.post enc P fn Ad Ab Ad Ad W args v W':=
 zZh (B:=maxLen) (Q:=λ_=>True) (λe s _=>⟨id,λ_ _=>trivial⟩) (λ_ _ _ _=>trivial) (λ_ _ h=>h) k hl hv hrt hbt hr hfn hk hval hW hg (λ_ _=>trivial) main
end
end
section
open Go.RowKit
def bs(l:List UInt8):ByteArray:=⟨l.toArray⟩
theorem zJc(l:List UInt8):(bs l).toList=l:=by rw[CE];rfl
structure Va where
 kind:Int
 int:Int
 str:List UInt8
 deriving DecidableEq, Inhabited
abbrev strD(l:List UInt8):D:= .val (.string (bs l))
abbrev vaC(v:Va):List D:=[.val (.int .i64 v.kind), .val (.int .i64 v.int),strD v.str]
abbrev vaD(v:Va):D:= .agg (vaC v)
def zN(r:List Va):List D:=r.flatMap vaC
abbrev rowV(r:List Va):D:= .row (zN r) r.length
theorem zE4(r:List Va):(zN r).length=r.length*3:=by
 induction r with
 |nil=>rfl
 |cons v r ih=>simp only[zN,BX,Bf]at ih⊢;rw[ih];simp;omega
theorem zXr(r s:List Va):zN (r++s)=zN r++zN s:=by simp[zN]
theorem zT3(r:List Va)(i:Nat):(zN r).drop (i*3)=zN (r.drop i):=by
 induction r generalizing i with
 |nil=>simp[zN]
 | cons v r ih=>
  cases i with
  |zero=>simp
  |succ i=>
   have:zN (v::r)=vaC v++zN r:=rfl;grind
theorem zR2(r:List Va)(i:Nat)(h:i<r.length):(zN r).drop (i*3)=vaC (r.getD i Al)++zN (r.drop (i+1)):=by
 rw[zT3,BM h,Az,Ax h];rfl
theorem zDs(r:List Va)(i:Nat)(h:i<r.length):((zN r).drop (i*3)).take 3=vaC (r.getD i Al):=by rw[zR2 r i h];rfl
theorem zGz(r:List Va)(h:0<r.length:=by omega):zN r≠[]:=by grind [zE4]
theorem zXq(r:List Va)(i:Nat)(v:Va)(h:i<r.length):setAt (zN r) (i*3) (vaC v)=zN (r.set i v):=by
 induction r generalizing i with
 |nil=>simp at h
 | cons u r ih=>
  cases i with
  |zero=>rfl
  | succ i=>
   have h1:zN (u::r)=vaC u++zN r:=rfl;have h2:zN ((u::r).set (i+1) v)=vaC u++zN (r.set i v):=rfl;have key:∀(us:List D)(pre cs:List D)(k:Nat),setAt (pre++cs) (pre.length+k) us=pre++setAt cs k us:=by
    intro us;induction us<;>grind [setAt,Nat.add_assoc]
   grind
def vcmp(a b:Va):Int:=if a.kind≠b.kind then cmpD a.kind b.kind else if a.int≠b.int then cmpD a.int b.int else AG a.str b.str
def rcmp:List Va->List Va->Int
 |[],[]=>0
 |[],_::_=>-1
 |_::_,[]=>1
 |a::r,b::s=>if vcmp a b=0 then rcmp r s else vcmp a b
theorem zCj(a b:Int):(cmpD a b=-1/\a<b)\/(cmpD a b=0/\a=b)\/(cmpD a b=1/\b<a):=by
 grind [cmpD]
theorem zHj:∀(a b:List UInt8),(AG a b=-1\/AG a b=0\/AG a b=1)/\(AG a b=0↔a=b)/\AG b a=-AG a b
 |[],[]=>by simp[AG]
 |[],_::_=>by simp[AG]
 |_::_,[]=>by simp[AG]
 |a::ar0,b::bs=>by
  obtain⟨h1,h2,h3⟩:=zHj ar0 bs;simp only[AG];grind
theorem zEc(a b:Va):(vcmp a b=-1\/vcmp a b=0\/vcmp a b=1)/\(vcmp a b=0↔a=b)/\vcmp b a=-vcmp a b:=by
 obtain⟨ak,ai,ar0⟩:=a;obtain⟨bk,bi,bs⟩:=b;obtain⟨c1,c2,c3⟩:=zHj ar0 bs;simp only[vcmp];by_cases h1:ak=bk
 ·subst h1;by_cases h2:ai=bi
  ·grind
  grind [zCj,cmpD]
 grind [zCj,cmpD]
theorem zHw:∀(a b:List Va),(rcmp a b=-1\/rcmp a b=0\/rcmp a b=1)/\(rcmp a b=0↔a=b)/\rcmp b a=-rcmp a b
 |[],[]=>by simp[rcmp]
 |[],_::_=>by simp[rcmp]
 |_::_,[]=>by simp[rcmp]
 |a::r,b::s=>by
  obtain⟨h1,h2,h3⟩:=zHw r s;obtain⟨k1,k2,k3⟩:=zEc a b;simp only[rcmp,k3];grind
theorem zQ2:∀(i:Nat)(a b:List Va),i<=a.length->i<=b.length->a.take i=b.take i->rcmp a b=rcmp (a.drop i) (b.drop i)
 |0,_,_,_,_,_=>rfl
 |i+1,[],b,h,_,_=>by simp at h
 |i+1,_::_,[],_,h,_=>by simp at h
 |i+1,x::a,y::b,h1,h2,h3=>by
  simp only[List.take_succ_cons,Bl.injEq]at h3;obtain⟨rfl,h3⟩:=h3;rw[rcmp,if_pos ((zEc x x).2.1.2 rfl),zQ2 i a b (by simpa using h1) (by simpa using h2) h3];rfl
theorem rcmp_at(i:Nat)(a b:List Va)(ha:i<a.length)(hb:i<b.length)(h:a.take i=b.take i)(hv:vcmp (a.getD i Al) (b.getD i Al)≠0):rcmp a b=vcmp (a.getD i Al) (b.getD i Al):=by
 rw[zQ2 i a b (by omega) (by omega) h,BM ha,BM hb];simp only[Az,Ax ha,Ax hb,B9]at hv⊢;rw[rcmp,if_neg hv]
theorem zKb(i:Nat)(a b:List Va)(ha:i<a.length)(hb:i<b.length)(h:a.take i=b.take i)(hv:vcmp (a.getD i Al) (b.getD i Al)=0):a.take (i+1)=b.take (i+1):=by
 have:=(zEc _ _).2.1.1 hv
 rw[Bm ha,Bm hb,h];grind
def vok(v:Va):Bool:=if v.kind=1 then v.str.isEmpty else if v.kind=2 then v.int=0&&v.str.length<=24 else Ad
end
abbrev Rw:=List Va
structure Cw(c:Rw->Rw->Int):Prop where
 eq:∀a b,c a b=0↔a=b
 neg:∀a b,c b a=-c a b
 tr:∀a b d,c a b<0->c b d<0->c a d<0
structure Sr(α:Type) where
 add:α->α->α
 mul:α->α->α
 one:α
 om:∀a,mul one a=a
 ac:∀a b,add a b=add b a
 aa:∀a b c,add (add a b) c=add a (add b c)
 mc:∀a b,mul a b=mul b a
 ma:∀a b c,mul (mul a b) c=mul a (mul b c)
 dl:∀a b c,mul a (add b c)=add (mul a b) (mul a c)
section
variable {α : Type} (c : Rw → Rw → Int)
def Srt(l:List (Rw×α)):Prop:=l.Pairwise λp q=>c p.1 q.1<0
def Ndk(l:List (Rw×α)):Prop:=(l.map (·.1)).Nodup
def kv:List (Rw×α)->Rw->Option α
 |[],_=>Aj
 |(s,u)::l,r=>if s=r then Ac u else kv l r
def oadd(f:α->α->α):Option α->Option α->Option α
 |none,y=>y
 |some x,Aj=>Ac x
 |some x,Ac y=>Ac (f x y)
def omul(f:α->α->α):Option α->Option α->Option α
 |some x,Ac y=>Ac (f x y)
 |_,_=>Aj
def putP(f:α->α->α)(r:Rw)(v:α):List (Rw×α)->List (Rw×α)
 |[]=>[(r,v)]
 |(s,u)::l=>if c s r<0 then(s,u)::putP f r v l else if s=r then(s,f u v)::l else(r,v)::(s,u)::l
def acc(f:α->α->α)(l L:List (Rw×α)):List (Rw×α):=L.foldl (λl p=>putP c f p.1 p.2 l) l
def addT(f:α->α->α)(r:Rw)(v:α):List (Rw×α)->List (Rw×α)
 |[]=>[(r,v)]
 |(s,u)::l=>if s=r then(s,f u v)::l else(s,u)::addT f r v l
def ev(f:α->α->α)(o:Option α)(L:List (Rw×α))(r:Rw):Option α:=L.foldl (λo p=>if p.1=r then oadd f o (Ac p.2)else o) o
variable {c}
theorem zJv{l:List (Rw×α)}{r:Rw}:kv l r=Aj↔r∉l.map (·.1):=by
 induction l with
 |nil=>simp[kv]
 |cons p l ih=>
  obtain⟨s,u⟩:=p;simp only[kv];grind
theorem zE2{l:List (Rw×α)}(h:Ndk l){r:Rw}{u:α}:kv l r=Ac u↔(r,u)∈l:=by
 induction l with
 |nil=>simp[kv]
 |cons p l ih=>
  obtain⟨s,v⟩:=p;have h':s∉l.map (·.1)/\Ndk l:=by simpa[Ndk]using h
  simp only[kv];grind
theorem zZk{l m:List (Rw×α)}(h:Ndk l)(hp:m.Perm l)(r:Rw):kv m r=kv l r:=by
 have hm:Ndk m:=(hp.map _).nodup_iff.2 h;cases e:kv l r with
 |none=>rw[zJv]at e⊢;exact λk=>e ((hp.map _).mem_iff.1 k)
 |some u=>rw[zE2 h]at e;rw[zE2 hm];exact hp.mem_iff.2 e
theorem Cw.irr(hc:Cw c)(a:Rw):¬c a a<0:=by have:=(hc.eq a a).2 rfl;omega
theorem Cw.tri(hc:Cw c)(a b:Rw):c a b<0\/a=b\/c b a<0:=by
 have h1:=hc.eq a b;have h2:=hc.neg a b;grind
theorem Srt.ndk(hc:Cw c){l:List (Rw×α)}(h:Srt c l):Ndk l:=by
 unfold Ndk B_;rw[BC];refine h.imp λ{a b} h e=>?_;rw[e]at h;exact hc.irr _ h
theorem Srt.uniq(hc:Cw c):∀{l m:List (Rw×α)},Srt c l->Srt c m->(∀r,kv l r=kv m r)->l=m
 |[],[],_,_,_=>rfl
 |[],(s,u)::m,_,_,h=>by have:=h s;simp[kv]at this
 |(s,u)::l,[],_,_,h=>by have:=h s;simp[kv]at this
 | (a,u)::l,(b,v)::m,hl,hm,h=>by
  have nl:=Srt.ndk hc hl;have nm:=Srt.ndk hc hm;simp only[Srt,Bs]at hl hm;have e:a=b:=by
   rcases hc.tri a b with k|k|k
   ·have:=h a
    simp only[kv,if_true]at this;have hm':=(zE2 nm).1 this.symm;rcases AH.1 hm' with e|e
    ·cases e;rfl
    have:=hm.1 _ e
    exact absurd (hc.tr _ _ _ k this) (hc.irr a)
   ·exact k
   have:=h b
   simp only[kv,if_true]at this;have hl':=(zE2 nl).1 this;rcases AH.1 hl' with e|e
   ·cases e;rfl
   have:=hl.1 _ e
   exact absurd (hc.tr _ _ _ k this) (hc.irr b)
  subst e;have e2:u=v:=by have:=h a;simpa[kv]using this
  subst e2;have nl':a∉l.map (·.1):=by
   have:a∉l.map (·.1)/\Ndk l:=by simpa[Ndk]using nl
   exact this.1
  have nm':a∉m.map (·.1):=by
   have:a∉m.map (·.1)/\Ndk m:=by simpa[Ndk]using nm
   exact this.1
  rw[Srt.uniq hc hl.2 hm.2 λr=>?_];by_cases hr:a=r
  ·subst hr;rw[zJv.2 nl',zJv.2 nm']
  have:=h r
  simpa[kv,hr]using this
theorem zVs{f:α->α->α}{r:Rw}{v:α}:∀{l:List (Rw×α)}{p:Rw×α},p∈putP c f r v l->p.1=r\/p∈l
 |[],p,h=>by simp[putP]at h;subst h;exact .inl rfl
 | (s,u)::l,p,h=>by
  simp only[putP]at h;split at h
  ·rcases AH.1 h with h|h
   ·exact .inr (h▸AD ..)
   exact(zVs h).imp id λh=>AC _ h
  split at h
  ·rename_i e;rcases AH.1 h with h|h
   ·subst h;exact .inl e
   exact .inr (AC _ h)
  rcases AH.1 h with h|h
  ·subst h;exact .inl rfl
  exact .inr h
theorem zPk(hc:Cw c){f:α->α->α}{r:Rw}{v:α}:∀{l:List (Rw×α)},Srt c l->Srt c (putP c f r v l)
 |[],_=>by simp[putP,Srt]
 | (s,u)::l,h=>by
  simp only[Srt,Bs]at h;simp only[putP];split
  ·rename_i k;simp only[Srt,Bs];refine⟨λp hp=>?_,zPk hc h.2⟩;rcases zVs hp with e|e
   ·rw[e];exact k
   exact h.1 p e
  split
  ·simp only[Srt,Bs];exact h
  rename_i k1 k2;have k3:c r s<0:=by
   rcases hc.tri s r with k|k|k
   ·exact absurd k k1
   ·exact absurd k k2
   exact k
  simp only[Srt,Bs,AH];refine⟨λp hp=>?_,h⟩;rcases hp with rfl|hp
  ·exact k3
  exact hc.tr _ _ _ k3 (h.1 p hp)
theorem zYo(hc:Cw c){f:α->α->α}{r:Rw}{v:α}:∀{l:List (Rw×α)},Srt c l->∀s,kv (putP c f r v l) s=if r=s then oadd f (kv l s) (Ac v)else kv l s
 |[],_,s=>by simp[putP,kv,oadd]
 | (t,u)::l,h,s=>by
  have nl:=Srt.ndk hc h;have nt:t∉l.map (·.1):=by
   have:t∉l.map (·.1)/\Ndk l:=by simpa[Ndk]using nl
   exact this.1
  simp only[Srt,Bs]at h;simp only[putP];split
  ·rename_i k;have hne:t≠r:=λe=>hc.irr r (by rw[e]at k;exact k);simp only[kv,zYo hc h.2 s];by_cases e:r=s
   ·subst e;simp[hne]
   simp[e]
  split
  ·rename_i k e;subst e;by_cases e2:t=s
   ·subst e2;simp[kv,oadd]
   simp[kv,e2]
  rename_i k1 k2;have k3:c r t<0:=by
   rcases hc.tri t r with k|k|k
   ·exact absurd k k1
   ·exact absurd k k2
   exact k
  by_cases e:r=s
  ·subst e;have:kv l r=none:=zJv.2 λhm=>by
    obtain⟨p,hp,e⟩:=AO.1 hm
    have:=h.1 p hp
    rw[e]at this;exact hc.irr _ (hc.tr _ _ _ k3 this)
   simp[kv,k2,this,oadd]
  simp[kv,e]
theorem zFv(hc:Cw c)(f:α->α->α):∀(L l:List (Rw×α)),Srt c l->Srt c (acc c f l L)
 |[],l,h=>h
 |p::L,l,h=>zFv hc f L _ (zPk hc h)
theorem zKl(hc:Cw c)(f:α->α->α):∀(L l:List (Rw×α))(s:Rw),Srt c l->kv (acc c f l L) s=ev f (kv l s) L s
 |[],l,s,h=>rfl
 |p::L,l,s,h=>by
  have:=zKl hc f L _ s (zPk (f:=f) (r:=p.1) (v:=p.2) hc h)
  rw[zYo hc h]at this;simpa[acc,ev]using this
theorem zTm(f:α->α->α):∀(L:List (Rw×α))(o:Option α)(s:Rw),s∉L.map (·.1)->ev f o L s=o
 |[],o,s,h=>rfl
 |p::L,o,s,h=>by
  simp only[AI,AH,not_or]at h;simp only[ev,Bn,if_neg (Ne.symm h.1)];exact zTm f L o s h.2
theorem zNt(f:α->α->α):∀(L:List (Rw×α))(s:Rw),Ndk L->ev f Aj L s=kv L s
 |[],s,h=>rfl
 |(r,u)::L,s,h=>by
  have h':r∉L.map (·.1)/\Ndk L:=by simpa[Ndk]using h
  simp only[ev,Bn,kv];split
  ·rename_i e;subst e;exact zTm f L _ r h'.1
  exact zNt f L s h'.2
theorem perm_acc(hc:Cw c)(f:α->α->α){l L:List (Rw×α)}(hp:l.Perm L)(hs:Srt c l)(hn:Ndk L):l=acc c f [] L:=
 Srt.uniq hc hs (zFv hc f L [] AM.nil) λr=>by
  rw[zKl hc f L [] r AM.nil,zZk hn hp,<-zNt f L r hn];rfl
theorem zEn{f:α->α->α}{r:Rw}{v:α}:∀{l:List (Rw×α)},(addT f r v l).map (·.1)=if r∈l.map (·.1)then l.map (·.1)else l.map (·.1)++[r]
 |[]=>rfl
 | (s,u)::l=>by
  simp only[addT];split
  ·rename_i e;subst e;simp
  rename_i e;simp only[AI,zEn (l:=l),AH,Ne.symm e,false_or];split<;>simp
theorem addT_ndk{f:α->α->α}{r:Rw}{v:α}{l:List (Rw×α)}(h:Ndk l):Ndk (addT f r v l):=by
 unfold Ndk at*;rw[zEn];split
 ·exact h
 rename_i k;rw[List.nodup_append];refine⟨h,by simp,λa ha b hb=>?_⟩;simp at hb;subst hb;exact λe=>k (e▸ha)
theorem addT_kv{f:α->α->α}{r:Rw}{v:α}:∀{l:List (Rw×α)}(s:Rw),kv (addT f r v l) s=if r=s then oadd f (kv l s) (Ac v)else kv l s
 |[],s=>by simp[addT,kv,oadd]
 | (t,u)::l,s=>by
  simp only[addT];split
  ·rename_i e;subst e;by_cases e:t=s
   ·subst e;simp[kv,oadd]
   simp[kv,e]
  rename_i e;simp only[kv,addT_kv (l:=l) s];by_cases e2:r=s
  ·subst e2;simp[e]
  simp[e2]
def sumT(f:α->α->α)(l L:List (Rw×α)):List (Rw×α):=L.foldl (λl p=>addT f p.1 p.2 l) l
theorem zGm(f:α->α->α):∀(L l:List (Rw×α)),Ndk l->Ndk (sumT f l L)
 |[],l,h=>h
 |p::L,l,h=>zGm f L _ (addT_ndk h)
theorem zX9(f:α->α->α):∀(L l:List (Rw×α))(s:Rw),kv (sumT f l L) s=ev f (kv l s) L s
 |[],l,s=>rfl
 |p::L,l,s=>by
  have:=zX9 f L (addT f p.1 p.2 l) s
  rw[addT_kv]at this;simpa[sumT,ev]using this
theorem zYv(hc:Cw c)(f:α->α->α){l L:List (Rw×α)}(hp:l.Perm (sumT f [] L))(hs:Srt c l):l=acc c f [] L:=
 Srt.uniq hc hs (zFv hc f L [] AM.nil) λr=>by
  rw[zKl hc f L [] r AM.nil,zZk (zGm f L [] (by simp[Ndk])) hp,zX9]
theorem zLw(f:α->α->α)(x:Option α):oadd f x Aj=x:=by cases x<;>rfl
theorem zRh(f:α->α->α)(x:Option α):oadd f Aj x=x:=rfl
end
section
variable {α : Type} (S : Sr α)
theorem oadd_c(x y:Option α):oadd S.add x y=oadd S.add y x:=by cases x<;>cases y<;>simp[oadd,S.ac]
theorem zRf(x y z:Option α):oadd S.add (oadd S.add x y) z=oadd S.add x (oadd S.add y z):=by cases x<;>cases y<;>cases z<;>simp[oadd,S.aa]
theorem zV0(x y:Option α):omul S.mul x y=omul S.mul y x:=by cases x<;>cases y<;>simp[omul,S.mc]
theorem zRd(x y z:Option α):omul S.mul (omul S.mul x y) z=omul S.mul x (omul S.mul y z):=by cases x<;>cases y<;>cases z<;>simp[omul,S.ma]
theorem omul_d(x y z:Option α):omul S.mul x (oadd S.add y z)=oadd S.add (omul S.mul x y) (omul S.mul x z):=by cases x<;>cases y<;>cases z<;>simp[omul,oadd,S.dl]
theorem zVz(x:Option α):omul S.mul x Aj=none:=by cases x<;>rfl
def osum(l:List (Option α)):Option α:=l.foldr (oadd S.add) Aj
theorem zEz(x:Option α)(l:List (Option α)):osum S (x::l)=oadd S.add x (osum S l):=rfl
theorem zRb{β:Type}(l:List β):osum S (l.map λ_=>Aj)=none:=by
 induction l with
 |nil=>rfl
 |cons x l ih=>rw[AI,zEz,ih];rfl
theorem osum_add{β:Type}(l:List β)(f g:β->Option α):osum S (l.map λx=>oadd S.add (f x) (g x))=oadd S.add (osum S (l.map f)) (osum S (l.map g)):=by
 induction l with
 |nil=>rfl
 |cons x l ih=>simp only[AI,zEz,ih];rw[zRf,zRf,<-zRf S (g x),oadd_c S (g x),zRf]
theorem osum_mul{β:Type}(l:List β)(y:Option α)(f:β->Option α):osum S (l.map λx=>omul S.mul y (f x))=omul S.mul y (osum S (l.map f)):=by
 induction l with
 |nil=>simp[osum,zVz]
 |cons x l ih=>simp only[AI,zEz,ih,omul_d]
theorem zRa{β γ:Type}(l:List β)(m:List γ)(f:β->γ->Option α):osum S (l.map λx=>osum S (m.map λy=>f x y))=osum S (m.map λy=>osum S (l.map λx=>f x y)):=by
 induction l with
 |nil=>simp only[Bo];exact(zRb S m).symm
 |cons x l ih=>simp only[AI,zEz,ih,osum_add]
theorem zVv{β:Type}[DecidableEq β]:∀(l:List β)(x:β)(v:Option α),l.Nodup->x∈l->osum S (l.map λy=>if y=x then v else Aj)=v
 |[],x,v,_,h=>by simp at h
 | y::l,x,v,hn,h=>by
  rw[Cr]at hn;simp only[AI,zEz];by_cases e:y=x
  ·subst e;rw[if_pos rfl];have:l.map (λz=>if z=y then v else Aj)=l.map λ_=>none:=Bh λz hz=>if_neg (by intro e;subst e;exact hn.1 hz);rw[this,zRb,zLw]
  rw[if_neg e,zRh];exact zVv l x v hn.2 ((AH.1 h).resolve_left (Ne.symm e))
end
section
variable {α : Type}
def asg(A:List Nat)(x:Rw)(v:Nat):Va:=x.getD (A.idxOf v) Al
def un(A B:List Nat):List Nat:=(A6 32).filter λv=>decide (v∈A\/v∈B)
def mt(A:List Nat)(x:Rw)(B:List Nat)(y:Rw):Bool:=A.all λv=>decide (v∈B->asg A x v=asg B y v)
def sg(A:List Nat)(x:Rw)(B:List Nat)(y:Rw)(v:Nat):Va:=if v∈A then asg A x v else asg B y v
def mg(A:List Nat)(x:Rw)(B:List Nat)(y:Rw):Rw:=(un A B).map (sg A x B y)
def zBd(f:α->α->α)(A:List Nat)(la:List (Rw×α))(B:List Nat)(lb:List (Rw×α)):List (Rw×α):=
 la.flatMap λp=>(lb.filter λq=>mt A p.1 B q.1).map λq=>(mg A p.1 B q.1,f p.2 q.2)
def Asc(A:List Nat):Prop:=A.Pairwise (· <·)/\∀v∈A,v<32
def Lens(n:Nat)(l:List (Rw×α)):Prop:=∀p∈l,p.1.length=n
theorem Asc.nd{A:List Nat}(h:Asc A):A.Nodup:=h.1.imp λh=>Nat.ne_of_lt h
theorem zJ5{A:List Nat}(σ:Nat->Va){v:Nat}(h:v∈A):asg A (A.map σ) v=σ v:=by
 have hi:=Ca.2 h;unfold asg;rw[Az,B8,Ax hi];simp
theorem zHh{A:List Nat}(hn:A.Nodup){x:Rw}(hl:x.length=A.length):A.map (asg A x)=x:=by
 apply Cs (by simp[hl]);intro i h1 h2;have hi:i<A.length:=by simpa using h1
 simp only[List.getElem_map,asg];rw[B_.idxOf_getElem hn i hi,Az,Ax h2];rfl
theorem zD0{A B:List Nat}{v:Nat}:v∈un A B↔v<32/\(v∈A\/v∈B):=by simp[un]
theorem zQm(A B:List Nat):Asc (un A B):=⟨(List.pairwise_lt_range (n:=32)).filter _,λv h=>(zD0.1 h).1⟩
theorem zDy{A:List Nat}{σ τ:Nat->Va}:A.map σ=A.map τ↔∀v∈A,σ v=τ v:=List.map_inj_left
theorem zV4{A B:List Nat}(hA:Asc A)(hB:Asc B){x y:Rw}(hx:x.length=A.length)(hy:y.length=B.length){σ:Nat->Va}:
  (mt A x B y=Ab/\mg A x B y=(un A B).map σ)↔x=A.map σ/\y=B.map σ:=by
 constructor
 ·rintro⟨h1,h2⟩;simp only[mt,A8,decide_eq_true_eq]at h1;rw[mg,zDy]at h2;refine⟨?_,?_⟩
  ·rw[<-zHh hA.nd hx,zDy];intro v hv
   have:=h2 v (zD0.2 ⟨hA.2 v hv, .inl hv⟩)
   rw[sg,if_pos hv]at this;exact this
  rw[<-zHh hB.nd hy,zDy];intro v hv
  have:=h2 v (zD0.2 ⟨hB.2 v hv, .inr hv⟩)
  by_cases ha:v∈A
  ·rw[sg,if_pos ha,h1 v ha hv]at this;exact this
  rw[sg,if_neg ha]at this;exact this
 rintro⟨rfl,rfl⟩;refine⟨?_,?_⟩
 ·simp only[mt,A8,decide_eq_true_eq];intro v hv hb;rw[zJ5 σ hv,zJ5 σ hb]
 rw[mg,zDy];intro v hv;unfold sg;split
 ·rename_i h;rw[zJ5 σ h]
 rename_i h;rw[zJ5 σ ((zD0.1 hv).2.resolve_left h)]
theorem zF8{f:α->α->α}{A B:List Nat}{la lb:List (Rw×α)}{s:Rw}{u:α}:(s,u)∈zBd f A la B lb↔∃p∈la,∃q∈lb,mt A p.1 B q.1=Ab/\mg A p.1 B q.1=s/\f p.2 q.2=u:=by
 simp only[zBd,List.mem_flatMap,AO,AP,AF.injEq];constructor
 ·rintro⟨p,hp,q,⟨h1,h2⟩,h3,h4⟩;exact⟨p,hp,q,h1,h2,h3,h4⟩
 rintro⟨p,hp,q,h1,h2,h3,h4⟩;exact⟨p,hp,q,⟨h1,h2⟩,h3,h4⟩
theorem mg_inj{A B:List Nat}(hA:Asc A)(hB:Asc B){x y x' y':Rw}(hx:x.length=A.length)(hy:y.length=B.length)(hx':x'.length=A.length)(hy':y'.length=B.length)(h:mt A x B y=Ab)(h':mt A x' B y'=Ab)(he:mg A x B y=mg A x' B y'):x=x'/\y=y':=by
 have h1:=(zV4 hA hB hx hy (σ:=sg A x B y)).1 ⟨h,rfl⟩;have h2:=(zV4 hA hB hx' hy' (σ:=sg A x B y)).1 ⟨h',he.symm⟩;exact⟨h1.1.trans h2.1.symm,h1.2.trans h2.2.symm⟩
theorem zDk{f:α->α->α}{A B:List Nat}(hA:Asc A)(hB:Asc B){la lb:List (Rw×α)}(na:Ndk la)(nb:Ndk lb)(ha:Lens A.length la)(hb:Lens B.length lb):Ndk (zBd f A la B lb):=by
 unfold Ndk B_ at*;rw[BC]at*;unfold zBd;rw[List.pairwise_flatMap];refine⟨λp hp=>?_,?_⟩
 ·rw[BC];refine(nb.filter _).imp_of_mem λ{q r} hq hr hne e=>?_;rw[AP]at hq hr;exact hne (mg_inj hA hB (ha p hp) (hb q hq.1) (ha p hp) (hb r hr.1) hq.2 hr.2 e).2
 refine na.imp_of_mem λ{p r} hp hr hne=>?_;intro s hs t ht e;simp only[AO,AP]at hs ht;obtain⟨q,⟨hq,h1⟩,rfl⟩:=hs;obtain⟨q',⟨hq',h2⟩,rfl⟩:=ht;exact hne (mg_inj hA hB (ha p hp) (hb q hq) (ha r hr) (hb q' hq') h1 h2 e).1
theorem prods_kv{f:α->α->α}{A B:List Nat}(hA:Asc A)(hB:Asc B){la lb:List (Rw×α)}(na:Ndk la)(nb:Ndk lb)(ha:Lens A.length la)(hb:Lens B.length lb)(σ:Nat->Va):
  kv (zBd f A la B lb) ((un A B).map σ)=omul f (kv la (A.map σ)) (kv lb (B.map σ)):=by
 have hn:=zDk (f:=f) hA hB na nb ha hb;have key:∀u,((un A B).map σ,u)∈zBd f A la B lb↔∃p q,(A.map σ,p)∈la/\(B.map σ,q)∈lb/\f p q=u:=by
  intro u;rw[zF8];constructor
  ·rintro⟨p,hp,q,hq,h1,h2,h3⟩;obtain⟨e1,e2⟩:=(zV4 hA hB (ha p hp) (hb q hq)).1 ⟨h1,h2⟩;exact⟨p.2,q.2,by rw[<-e1];exact hp,by rw[<-e2];exact hq,h3⟩
  rintro⟨p,q,hp,hq,h3⟩;obtain⟨e1,e2⟩:=(zV4 hA hB (x:=A.map σ) (y:=B.map σ) (by simp) (by simp)).2 ⟨rfl,rfl⟩;exact⟨_,hp,_,hq,e1,e2,h3⟩
 cases e1:kv la (A.map σ)with
 | none=>
  simp only[omul];cases e:kv (zBd f A la B lb) ((un A B).map σ)with
  |none=>rfl
  |some u=>
   obtain⟨p,q,hp,hq,_⟩:=(key u).1 ((zE2 hn).1 e);rw[(zE2 na).2 hp]at e1;cases e1
 | some p=>
  cases e2:kv lb (B.map σ)with
  | none=>
   simp only[omul];cases e:kv (zBd f A la B lb) ((un A B).map σ)with
   |none=>rfl
   |some u=>
    obtain⟨p,q,hp,hq,_⟩:=(key u).1 ((zE2 hn).1 e);rw[(zE2 nb).2 hq]at e2;cases e2
  |some q=>exact(zE2 hn).2 ((key _).2 ⟨p,q,(zE2 na).1 e1,(zE2 nb).1 e2,rfl⟩)
def upd(σ:Nat->Va)(v:Nat)(x:Va)(w:Nat):Va:=if w=v then x else σ w
def zFz(A:List Nat)(v:Nat)(l:List (Rw×α)):List (Rw×α):=l.map λp=>(p.1.eraseIdx (A.idxOf v),p.2)
def less(A:List Nat)(v:Nat):List Nat:=A.filter λu=>decide (u≠v)
theorem zH2{β γ:Type}(f:β->γ)(l:List β)(i:Nat):(l.map f).eraseIdx i=(l.eraseIdx i).map f:=by
 rw[CF,CF,Ct,List.map_take,List.map_drop]
theorem zC7{A:List Nat}(h:A.Nodup)(v:Nat):A.eraseIdx (A.idxOf v)=less A v:=by
 rw[<-CG rfl,h.erase_eq_filter];unfold less;refine List.filter_congr λx _=>?_;by_cases e:x=v<;>simp[e]
theorem ev_osum(S:Sr α):∀(L:List (Rw×α))(o:Option α)(r:Rw),ev S.add o L r=oadd S.add o (osum S (L.map λp=>if p.1=r then Ac p.2 else Aj))
 |[],o,r=>(zLw _ o).symm
 |p::L,o,r=>by
  simp only[ev,Bn,AI,zEz];have ih:=ev_osum S L;simp only[ev]at ih;rw[ih,<-zRf];congr 1;split
  ·rfl
  rw[zLw]
theorem sum_ev(S:Sr α){A:List Nat}(hA:A.Nodup){v:Nat}(hv:v∈A)(Dm:List Va)(hD:Dm.Nodup){l:List (Rw×α)}(hl:Lens A.length l)(hi:∀p∈l,∀a∈p.1,a∈Dm)(σ:Nat->Va):
  ev S.add Aj (zFz A v l) ((less A v).map σ)=osum S (Dm.map λx=>ev S.add Aj l (A.map (upd σ v x))):=by
 simp only[ev_osum,zRh,zFz,List.map_map];rw[zRa];congr 1;refine Bh λp hp=>?_;have hlen:=hl p hp;have hx:A.map (asg A p.1)=p.1:=zHh hA hlen;have hin:asg A p.1 v∈Dm:=by
  have hi':=Ca.2 hv;unfold asg;rw[Az,Ax (by rw[hlen];exact hi')];exact hi p hp _ (A4 _)
 have he:p.1.eraseIdx (A.idxOf v)=(less A v).map (asg A p.1):=by
  conv=>lhs;rw[<-hx,zH2,zC7 hA]
 have key:∀x,p.1=A.map (upd σ v x)↔x=asg A p.1 v/\p.1.eraseIdx (A.idxOf v)=(less A v).map σ:=by
  intro x;rw[he,zDy];constructor
  ·intro h;rw[<-hx,zDy]at h;refine⟨?_,λw hw=>?_⟩
   ·have:=h v hv;simpa[upd]using this.symm
   simp only[less,AP,decide_eq_true_eq]at hw
   have:=h w hw.1
   rw[this,upd,if_neg hw.2]
  rintro⟨rfl,h⟩;conv=>lhs;rw[<-hx]
  rw[zDy];intro w hw;unfold upd;split
  ·rename_i e;rw[e]
  rename_i e;exact h w (by simp[less,hw,e])
 have:(Dm.map λx=>if p.1=A.map (upd σ v x)then Ac p.2 else Aj)=Dm.map λx=>if x=asg A p.1 v then(if p.1.eraseIdx (A.idxOf v)=(less A v).map σ then Ac p.2 else Aj)else none:=by
  refine Bh λx _=>?_;by_cases h1:x=asg A p.1 v
  ·rw[if_pos h1];by_cases h2:p.1.eraseIdx (A.idxOf v)=(less A v).map σ
   ·rw[if_pos h2,if_pos ((key x).2 ⟨h1,h2⟩)]
   rw[if_neg h2,if_neg λh=>h2 ((key x).1 h).2]
  rw[if_neg h1,if_neg λh=>h1 ((key x).1 h).1]
 rw[this,zVv S Dm _ _ hD hin];rfl
structure Fa(α:Type) where
 A:List Nat
 l:List (Rw×α)
structure FOk(c:Rw->Rw->Int)(Dm:List Va)(f:Fa α):Prop where
 asc:Asc f.A
 len:Lens f.A.length f.l
 srt:Srt c f.l
 dom:∀p∈f.l,∀a∈p.1,a∈Dm
def den(f:Fa α)(σ:Nat->Va):Option α:=kv f.l (f.A.map σ)
def okO(U:List Nat)(s:Rw)(o:Fa α):Bool:=o.l.any λq=>o.A.all λv=>decide (v∈U->asg o.A q.1 v=asg U s v)
def fmul(c:Rw->Rw->Int)(S:Sr α)(f g:Fa α)(os:List (Fa α)):Fa α:=
 ⟨un f.A g.A,acc c S.add [] ((zBd S.mul f.A f.l g.A g.l).filter λp=>os.all λo=>okO (un f.A g.A) p.1 o)⟩
def fsum(c:Rw->Rw->Int)(S:Sr α)(v:Nat)(f:Fa α):Fa α:=⟨less f.A v,acc c S.add [] (zFz f.A v f.l)⟩
def zB6(S:Sr α):Fa α:=⟨[],[([],S.one)]⟩
def proF(S:Sr α)(fs:List (Fa α))(σ:Nat->Va):Option α:=fs.foldr (λf o=>omul S.mul (den f σ) o) (Ac S.one)
def zBb(c:Rw->Rw->Int)(S:Sr α):Fa α->List (Fa α)->List (Fa α)->Fa α
 |p,[],os=>p
 |p,f::fs,os=>zBb c S (fmul c S p f (fs++os)) fs os
def zCg(v:Nat)(fs:List (Fa α)):List (Fa α):=fs.filter λf=>decide (v∈f.A)
def zCq(v:Nat)(fs:List (Fa α)):List (Fa α):=fs.filter λf=>decide (v∉f.A)
def elim(c:Rw->Rw->Int)(S:Sr α)(v:Nat)(fs:List (Fa α)):List (Fa α):=match zCg v fs with
 |[]=>fs
 |p::ws=>zCq v fs++[fsum c S v (zBb c S p ws (zCq v fs))]
def zKr(S:Sr α)(Dm:List Va):List Nat->((Nat->Va)->Option α)->(Nat->Va)->Option α
 |[],F=>F
 |v::vs,F=>zKr S Dm vs λσ=>osum S (Dm.map λx=>F (upd σ v x))
variable {c : Rw → Rw → Int} {S : Sr α} {Dm : List Va}
theorem zH7(q:Rw->Bool):∀(l:List (Rw×α))(r:Rw),kv (l.filter λp=>q p.1) r=if q r then kv l r else Aj
 |[],r=>by simp[kv]
 | (s,u)::l,r=>by
  rw[List.filter_cons];by_cases e:s=r
  ·subst e;cases h:q s
   ·have:=zH7 q l s
    rw[h]at this;simpa[kv]using this
   simp[kv]
  cases h:q s
  ·simp[kv,e,zH7 q l r]
  simp[kv,e,zH7 q l r]
theorem zC6(q:Rw->Bool){l:List (Rw×α)}(h:Ndk l):Ndk (l.filter λp=>q p.1):=by
 unfold Ndk B_ at*;rw[BC]at*;exact h.filter _
theorem acc_mem{c:Rw->Rw->Int}(hc:Cw c){f:α->α->α}{L:List (Rw×α)}{p:Rw×α}(h:p∈acc c f [] L):p.1∈L.map (·.1):=by
 have hs:=zFv hc f L [] AM.nil;have h1:kv (acc c f [] L) p.1=Ac p.2:=(zE2 (hs.ndk hc)).2 h;rw[zKl hc f L [] p.1 AM.nil]at h1;refine Classical.byContradiction λhn=>?_;rw[zTm f L _ _ hn]at h1;cases h1
theorem mg_dom{A B:List Nat}{x y:Rw}(hx:x.length=A.length)(hy:y.length=B.length)(h1:∀a∈x,a∈Dm)(h2:∀a∈y,a∈Dm):∀a∈mg A x B y,a∈Dm:=by
 have get:∀{A:List Nat}{x:Rw}{v:Nat},x.length=A.length->(∀a∈x,a∈Dm)->v∈A->asg A x v∈Dm:=λ{A x v} hx h hv=>by
  have hi':=Ca.2 hv;unfold asg;rw[Az,Ax (by rw[hx];exact hi')];exact h _ (A4 _)
 intro a ha;obtain⟨v,hv,rfl⟩:=AO.1 ha;unfold sg;split
 ·rename_i h;exact get hx h1 h
 rename_i h;exact get hy h2 ((zD0.1 hv).2.resolve_left h)
theorem FOk.ndk(hc:Cw c){f:Fa α}(h:FOk c Dm f):Ndk f.l:=h.srt.ndk hc
theorem zEu(hc:Cw c){f g:Fa α}(hf:FOk c Dm f)(hg:FOk c Dm g)(os:List (Fa α)):FOk c Dm (fmul c S f g os):=by
 have key:∀p∈(fmul c S f g os).l,p.1.length=(un f.A g.A).length/\∀a∈p.1,a∈Dm:=by
  intro p hp;obtain⟨q,hq,e⟩:=AO.1 (acc_mem hc hp);rw[AP]at hq;obtain⟨x,hx,y,hy,_,h2,_⟩:=(zF8 (s:=q.1) (u:=q.2)).1 hq.1;rw[<-e,<-h2];exact⟨by simp[mg],mg_dom (hf.len x hx) (hg.len y hy) (hf.dom x hx) (hg.dom y hy)⟩
 exact⟨zQm _ _,λp hp=>(key p hp).1,zFv hc _ _ _ AM.nil,λp hp=>(key p hp).2⟩
theorem zWh(hc:Cw c){f g:Fa α}(hf:FOk c Dm f)(hg:FOk c Dm g)(os:List (Fa α))(σ:Nat->Va):
  den (fmul c S f g os) σ=if(os.all λo=>okO (un f.A g.A) ((un f.A g.A).map σ) o)=Ab then omul S.mul (den f σ) (den g σ)else none:=by
 have hn:=zDk (f:=S.mul) hf.asc hg.asc (hf.ndk hc) (hg.ndk hc) hf.len hg.len;show kv (acc c S.add [] _) _=_;rw[zKl hc _ _ _ _ AM.nil,show kv ([]:List (Rw×α)) ((fmul c S f g os).A.map σ)=Aj from rfl,zNt _ _ _ (zC6 (λs=>os.all λo=>okO (un f.A g.A) s o) hn),zH7 (λs=>os.all λo=>okO (un f.A g.A) s o)];show(if _ then kv _ ((un f.A g.A).map σ)else Aj)=_;rw[prods_kv hf.asc hg.asc (hf.ndk hc) (hg.ndk hc) hf.len hg.len];rfl
theorem okO_den(hc:Cw c){o:Fa α}(ho:FOk c Dm o){U:List Nat}{σ:Nat->Va}{u:α}(h:den o σ=Ac u):okO U (U.map σ) o=true:=by
 have hm:=(zE2 (ho.ndk hc)).1 h;rw[okO,List.any_eq_true];refine⟨_,hm,?_⟩;simp only[A8,decide_eq_true_eq];intro v hv hu;rw[zJ5 σ hv,zJ5 σ hu]
theorem proF_app(fs gs:List (Fa α))(σ:Nat->Va):proF S (fs++gs) σ=omul S.mul (proF S fs σ) (proF S gs σ):=by
 induction fs with
 |nil=>simp only[AZ,proF,List.foldr_nil];cases gs.foldr (λf o=>omul S.mul (den f σ) o) (Ac S.one)<;>simp[omul,S.om]
 |cons f fs ih=>simp only[proF,AR,BD]at ih⊢;rw[ih,zRd]
theorem zYr{fs:List (Fa α)}{f:Fa α}(hf:f∈fs){σ:Nat->Va}(h:den f σ=Aj):proF S fs σ=none:=by
 induction fs with
 |nil=>simp at hf
 |cons g fs ih=>
  simp only[proF,BD]at ih⊢;rcases AH.1 hf with e|e
  ·subst e;rw[h];rfl
  rw[ih e,zVz]
theorem zYq{fs gs:List (Fa α)}(h:fs.Perm gs)(σ:Nat->Va):proF S fs σ=proF S gs σ:=by
 induction h with
 |nil=>rfl
 |cons x _ ih=>simp only[proF,BD]at ih⊢;rw[ih]
 |swap x y l=>simp only[proF,BD];rw[<-zRd,<-zRd,zV0 S (den y σ)]
 |trans _ _ h1 h2=>exact h1.trans h2
theorem fmul_pro(hc:Cw c){f g:Fa α}(hf:FOk c Dm f)(hg:FOk c Dm g){os:List (Fa α)}(ho:∀o∈os,FOk c Dm o)(σ:Nat->Va):
  omul S.mul (den (fmul c S f g os) σ) (proF S os σ)=omul S.mul (omul S.mul (den f σ) (den g σ)) (proF S os σ):=by
 rw[zWh hc hf hg];split
 ·rfl
 rename_i h;simp only[A8,Classical.not_forall]at h;obtain⟨o,hm,h⟩:=h;have:den o σ=none:=by
  cases e:den o σ with
  |none=>rfl
  |some u=>exact absurd (okO_den hc (ho o hm) e) h
 rw[zYr hm this,zVz,zVz]
theorem zK5(hc:Cw c):∀(fs:List (Fa α))(p:Fa α)(os:List (Fa α)),FOk c Dm p->(∀f∈fs,FOk c Dm f)->FOk c Dm (zBb c S p fs os)
 |[],p,os,hp,_=>hp
 |f::fs,p,os,hp,hf=>zK5 hc fs _ os (zEu hc hp (hf f (AD ..)) _) λg hg=>hf g (AC _ hg)
theorem zMg(hc:Cw c)(σ:Nat->Va):∀(fs:List (Fa α))(p:Fa α)(os:List (Fa α)),FOk c Dm p->(∀f∈fs,FOk c Dm f)->(∀f∈os,FOk c Dm f)->
  omul S.mul (den (zBb c S p fs os) σ) (proF S os σ)=omul S.mul (den p σ) (proF S (fs++os) σ)
 |[],p,os,hp,_,_=>rfl
 |f::fs,p,os,hp,hf,ho=>by
  have h1:=hf f (AD ..);have h2:∀g∈fs,FOk c Dm g:=λg hg=>hf g (AC _ hg);rw[zBb,zMg hc σ fs _ os (zEu hc hp h1 _) h2 ho,fmul_pro hc hp h1 λo hm=>(BN.1 hm).elim (h2 o) (ho o),zRd];rfl
theorem zP8:∀(fs:List (Fa α))(p:Fa α)(os:List (Fa α)),(∀v∈p.A,v<32)->(∀f∈fs,∀v∈f.A,v<32)->∀v,v∈(zBb c S p fs os).A↔v∈p.A\/∃f∈fs,v∈f.A
 |[],p,os,_,_,v=>by simp[zBb]
 | f::fs,p,os,hp,hf,v=>by
  have h1:=hf f (AD ..);rw[zBb,zP8 fs _ os (λw hw=>(zD0.1 hw).1) (λg hg=>hf g (AC _ hg))];have:v∈(fmul c S p f (fs++os)).A↔v<32/\(v∈p.A\/v∈f.A):=zD0;rw[this];constructor
  ·rintro(⟨_,h|h⟩|⟨g,hg,h⟩)
   ·exact .inl h
   ·exact .inr ⟨f,AD ..,h⟩
   exact .inr ⟨g,AC _ hg,h⟩
  rintro(h|⟨g,hg,h⟩)
  ·exact .inl ⟨hp v h, .inl h⟩
  rcases AH.1 hg with rfl|hg
  ·exact .inl ⟨h1 v h, .inr h⟩
  exact .inr ⟨g,hg,h⟩
theorem zB4{A:List Nat}{v w:Nat}:w∈less A v↔w∈A/\w≠v:=by simp[less]
theorem zFo{A:List Nat}(h:Asc A)(v:Nat):Asc (less A v):=⟨h.1.filter _,λw hw=>h.2 w (zB4.1 hw).1⟩
theorem zTb(hc:Cw c){f:Fa α}(hf:FOk c Dm f)(v:Nat):FOk c Dm (fsum c S v f):=by
 have key:∀p∈(fsum c S v f).l,p.1.length=(less f.A v).length/\∀a∈p.1,a∈Dm:=by
  intro p hp;obtain⟨q,hq,e⟩:=AO.1 (acc_mem hc hp);obtain⟨r,hr,rfl⟩:=AO.1 hq;have hl:=hf.len r hr;rw[<-e,<-zC7 hf.asc.nd];exact⟨by rw[Cu,Cu,hl],λa ha=>hf.dom r hr a (List.mem_of_mem_eraseIdx ha)⟩
 exact⟨zFo hf.asc v,λp hp=>(key p hp).1,zFv hc _ _ _ AM.nil,λp hp=>(key p hp).2⟩
theorem zWg(hc:Cw c)(hD:Dm.Nodup){f:Fa α}(hf:FOk c Dm f){v:Nat}(hv:v∈f.A)(σ:Nat->Va):den (fsum c S v f) σ=osum S (Dm.map λx=>den f (upd σ v x)):=by
 show kv (acc c S.add [] _) ((less f.A v).map σ)=_;rw[zKl hc _ _ _ _ AM.nil];refine(sum_ev S hf.asc.nd hv Dm hD hf.len hf.dom σ).trans ?_;congr 1;refine Bh λx _=>?_;exact zNt _ _ _ (hf.ndk hc)
theorem den_upd{f:Fa α}{v:Nat}(hv:v∉f.A)(σ:Nat->Va)(x:Va):den f (upd σ v x)=den f σ:=by
 unfold den;congr 1;rw[zDy];intro w hw;unfold upd;rw[if_neg (by intro e;subst e;exact hv hw)]
theorem proF_upd{fs:List (Fa α)}{v:Nat}(hv:∀f∈fs,v∉f.A)(σ:Nat->Va)(x:Va):proF S fs (upd σ v x)=proF S fs σ:=by
 induction fs with
 |nil=>rfl
 |cons f fs ih=>
  simp only[proF,BD]at ih⊢;rw[den_upd (hv f (AD ..)),ih λg hg=>hv g (AC _ hg)]
theorem zC2(v:Nat)(fs:List (Fa α)):(zCg v fs++zCq v fs).Perm fs:=by
 have:=List.filter_append_perm (λf:Fa α=>decide (v∈f.A)) fs
 simpa[zCg,zCq]using this
theorem zP5(hc:Cw c){fs:List (Fa α)}(hf:∀f∈fs,FOk c Dm f)(v:Nat):∀f∈elim c S v fs,FOk c Dm f:=by
 unfold elim;split
 ·exact hf
 rename_i p ws e;have hw:∀f∈zCg v fs,FOk c Dm f:=λf h=>hf f (AP.1 h).1;rw[e]at hw;intro f h;rcases BN.1 h with h|h
 ·exact hf f (AP.1 h).1
 simp only[BA]at h;subst h;exact zTb hc (zK5 hc ws p _ (hw p (AD ..)) λg hg=>hw g (AC _ hg)) v
theorem elim_pro(hc:Cw c)(hD:Dm.Nodup){fs:List (Fa α)}(hf:∀f∈fs,FOk c Dm f){v:Nat}(hv:∃f∈fs,v∈f.A)(σ:Nat->Va):proF S (elim c S v fs) σ=osum S (Dm.map λx=>proF S fs (upd σ v x)):=by
 have hw:∀f∈zCg v fs,FOk c Dm f/\v∈f.A:=λf h=>by
  rw[zCg,AP]at h;exact⟨hf f h.1,by simpa using h.2⟩
 have ho:∀f∈zCq v fs,FOk c Dm f:=λf h=>hf f (AP.1 h).1;have ho2:∀f∈zCq v fs,v∉f.A:=λf h=>by
  rw[zCq,AP]at h;simpa using h.2
 have hp:=zC2 v fs;unfold elim;split
 ·rename_i e;obtain⟨f,h1,h2⟩:=hv;have:f∈zCg v fs:=AP.2 ⟨h1,by simpa using h2⟩;rw[e]at this;simp at this
 rename_i p ws e;rw[e]at hw hp;have h1:=hw p (AD ..);have h2:∀g∈ws,FOk c Dm g:=λg hg=>(hw g (AC _ hg)).1;have hk:=zK5 (S:=S) hc ws p (zCq v fs) h1.1 h2;have hvA:v∈(zBb c S p ws (zCq v fs)).A:=(zP8 ws p _ h1.1.asc.2 (λg hg=>(h2 g hg).asc.2) v).2 (.inl h1.2);have e1:∀(g:Fa α),proF S [g] σ=den g σ:=λg=>by
  simp only[proF,BD,List.foldr_nil];rw[zV0];cases den g σ<;>simp[omul,S.om]
 rw[proF_app,e1,zWg hc hD hk hvA,<-osum_mul];congr 1;refine Bh λx _=>?_;rw[<-proF_upd ho2 σ x,zV0,zMg hc _ ws p _ h1.1 h2 ho,<-zYq hp];rfl
theorem zWi{fs:List (Fa α)}(hf:∀f∈fs,∀v∈f.A,v<32)(v w:Nat):(∃f∈elim c S v fs,w∈f.A)↔(∃f∈fs,w∈f.A)/\w≠v:=by
 have hw:∀f∈zCg v fs,f∈fs/\v∈f.A:=λf h=>by
  rw[zCg,AP]at h;exact⟨h.1,by simpa using h.2⟩
 have hp:=zC2 v fs;unfold elim;split
 ·rename_i e;refine⟨λh=>⟨h,λk=>?_⟩,λh=>h.1⟩;subst k;obtain⟨f,h1,h2⟩:=h;have:f∈zCg w fs:=AP.2 ⟨h1,by simpa using h2⟩;rw[e]at this;simp at this
 rename_i p ws e;rw[e]at hw hp;have h1:=hw p (AD ..);have hA:=zP8 (c:=c) (S:=S) ws p (zCq v fs) (hf p h1.1) (λg hg=>hf g (hw g (AC _ hg)).1) w;have hm:w∈(fsum c S v (zBb c S p ws (zCq v fs))).A↔w∈(zBb c S p ws (zCq v fs)).A/\w≠v:=zB4;constructor
 ·rintro⟨f,h2,h3⟩;rcases BN.1 h2 with h2|h2
  ·rw[zCq,AP]at h2;refine⟨⟨f,h2.1,h3⟩,λk=>?_⟩;subst k
   have:=h2.2
   simp at this;exact this h3
  simp only[BA]at h2;subst h2;rw[hm,hA]at h3;refine⟨?_,h3.2⟩;rcases h3.1 with h4|⟨g,hg,h4⟩
  ·exact⟨p,h1.1,h4⟩
  exact⟨g,(hw g (AC _ hg)).1,h4⟩
 rintro⟨⟨f,h2,h3⟩,h4⟩
 have:=hp.mem_iff.2 h2
 rcases BN.1 this with h5|h5
 ·refine⟨_,BZ _ (BA.2 rfl),?_⟩;rw[hm,hA];refine⟨?_,h4⟩;rcases AH.1 h5 with rfl|h5
  ·exact .inl h3
  exact .inr ⟨f,h5,h3⟩
 exact⟨f,BY _ h5,h3⟩
theorem zEg:∀(vs:List Nat){F G:(Nat->Va)->Option α},(∀σ,F σ=G σ)->∀σ,zKr S Dm vs F σ=zKr S Dm vs G σ
 |[],_,_,h,σ=>h σ
 |v::vs,F,G,h,σ=>zEg vs (λσ=>by simp only[h]) σ
theorem zNh{vs ws:List Nat}(h:vs.Perm ws):∀(F:(Nat->Va)->Option α)(σ:Nat->Va),zKr S Dm vs F σ=zKr S Dm ws F σ:=by
 induction h with
 |nil=>exact λF σ=>rfl
 |cons x _ ih=>exact λF σ=>ih _ σ
 | swap x y l=>
  intro F σ;simp only[zKr];refine zEg l (λσ=>?_) σ;by_cases e:x=y
  ·subst e;rfl
  rw[zRa];congr 1;refine Bh λa _=>?_;congr 1;refine Bh λb _=>?_;congr 1;funext w;unfold upd;by_cases h1:w=x
  ·subst h1;simp[e]
  simp[h1]
 |trans _ _ h1 h2=>exact λF σ=>(h1 F σ).trans (h2 F σ)
theorem Asc.ext{A B:List Nat}(hA:Asc A)(hB:Asc B)(h:∀v,v∈A↔v∈B):A=B:=by
 have hp:A.Perm B:=(List.perm_ext_iff_of_nodup (Asc.nd hA) (Asc.nd hB)).2 h;exact List.Perm.eq_of_pairwise (le:=(· <·)) (λa b _ _ h k=>by omega) hA.1 hB.1 hp
theorem FOk.ext(hc:Cw c){Dm':List Va}{f g:Fa α}(hf:FOk c Dm f)(hg:FOk c Dm' g)(hA:f.A=g.A)(h:∀σ,den f σ=den g σ):f=g:=by
 obtain⟨A,l⟩:=f;obtain⟨B,m⟩:=g;simp only at hA;subst hA;congr 1;refine Srt.uniq hc hf.srt hg.srt λr=>?_;by_cases e:r.length=A.length
 ·have:=h (asg A r)
  unfold den at this;simp only[zHh hf.asc.nd e]at this;exact this
 rw[zJv.2 λhm=>?_,zJv.2 λhm=>?_]
 ·obtain⟨p,hp,rfl⟩:=AO.1 hm;exact e (hg.len p hp)
 obtain⟨p,hp,rfl⟩:=AO.1 hm;exact e (hf.len p hp)
end
section
open Go.RowKit
abbrev u32D(n:Nat):D:= .val (.int .u32 (n:Nat))
abbrev nsD(l:List Nat):List D:=l.map λc=>iD (c:Nat)
def msk(A:List Nat):Nat:=A.foldl (λm v=>m|||2^v) 0
theorem mskF_bit(A:List Nat):∀(m v:Nat),(A.foldl (λm v=>m|||2^v) m).testBit v=(m.testBit v||decide (v∈A)):=by
 induction A<;>grind
theorem zB2(A:List Nat)(v:Nat):(msk A).testBit v=decide (v∈A):=by rw[msk,mskF_bit];simp
theorem bits_lt{m n:Nat}(h:∀v,n<=v->m.testBit v=Ad):m<2^n:=Nat.lt_pow_two_of_testBit m h
theorem zA3{A:List Nat}(h:∀v∈A,v<32):msk A<4294967296:=bits_lt (n:=32) λv hv=>by
 rw[zB2];simp;intro hm;have:=h v hm;omega
theorem zPs(A:List Nat)(i:Nat)(h:i<A.length):msk (A.take (i+1))=msk (A.take i)|||2^A.getD i 0:=by
 grind [Bm,msk,Ax]
theorem zY7{A B:List Nat}(hA:∀v∈A,v<32)(hB:∀v∈B,v<32):msk A|||msk B=msk (un A B):=by
 apply Nat.eq_of_testBit_eq;intro v;rw[Nat.testBit_or,zB2,zB2,zB2,Cb];simp only[Bg,decide_eq_true_eq,zD0];grind
theorem zA4{n:Nat}(h:n<4294967296):AV.wrap (n:Int)=(n:Int):=zD4 (k:= .u32) (by simp only[inK];omega)
theorem bv_nat{n:Nat}(h:n<4294967296):(AQ 32 (n:Int)).toNat=n:=by
 grind
theorem zH1{a b:Nat}(ha:a<4294967296)(hb:b<4294967296):a|||b<4294967296:=Nat.or_lt_two_pow (n:=32) ha hb
theorem zMt{a b:Nat}(ha:a<4294967296):a&&&b<4294967296:=Cv Nat.and_le_left ha
theorem u32_and{a b:Nat}(ha:a<4294967296)(hb:b<4294967296):AV.wrap ((AQ 32 (a:Int)&&&AQ 32 (b:Int)).toNat:Int)=((a&&&b:Nat):Int):=by
 grind [bv_nat,zA4,zMt]
theorem u32_shl{v:Nat}(h:v<32):AV.wrap (1*2^(min (v:Int).toNat 32))=((2^v:Nat):Int):=by
 have h2:2^v<4294967296:=Nat.pow_lt_pow_right (n:=32) (by omega) h;rw[A0,Cc (by omega),Int.one_mul,show((2:Int)^v)=((2^v:Nat):Int) by simp,zA4 h2]
theorem zX3(m:Nat){v:Nat}(h:v<32):Bd (m:Int) (2^(min (v:Int).toNat 32))=((m>>>v:Nat):Int):=by
 grind [A0,Cc,BO,Int.ofNat_fdiv]
theorem u32_bit{m:Nat}(hm:m<4294967296)(v:Nat):(AV.wrap ((AQ 32 ((m>>>v:Nat):Int)&&&AQ 32 1).toNat:Int)==1)=m.testBit v:=by
 have h1:m>>>v<4294967296:=Cv (by rw[BO];exact Nat.div_le_self _ _) hm
 have:=u32_and (b:=1) h1 (by omega)
 rw[show((1:Nat):Int)=1 from rfl]at this;rw[this,CH,Nat.and_one_is_mod,BO,Cb];grind
theorem zKu{a b:Nat}(ha:a<4294967296)(hb:b<4294967296):(AQ 32 (a:Int)|||AQ 32 (b:Int)).toNat=a|||b:=by
 grind
theorem zNy{a b:Nat}(ha:a<4294967296)(hb:b<4294967296):(AQ 32 (a:Int)&&&AQ 32 (b:Int)).toNat=a&&&b:=by
 grind
theorem zDu{v:Nat}(h:v<32):AV.wrap (1*2^(min v 32))=((2^v:Nat):Int):=u32_shl h
theorem zDt(m:Nat){v:Nat}(h:v<32):Bd (m:Int) (2^(min v 32))=((m>>>v:Nat):Int):=zX3 m h
theorem zK0{v:Nat}(h:v<32):2^v<4294967296:=Nat.pow_lt_pow_right (n:=32) (by omega) h
theorem bit_eq{m:Nat}(hm:m<4294967296)(v:Nat):((AQ 32 ((m>>>v:Nat):Int)&&&1#32).toNat:Int)=if m.testBit v then 1 else 0:=by
 have h1:m>>>v<4294967296:=Cv (by rw[BO];exact Nat.div_le_self _ _) hm;rw[BitVec.toNat_and,bv_nat h1,CH,show(1#32).toNat=1 from rfl,Nat.and_one_is_mod,BO];grind
theorem zR4{m:Nat}(hm:m<4294967296)(v:Nat):((((AQ 32 ((m>>>v:Nat):Int)&&&AQ 32 1).toNat:Nat):Int)==1)=m.testBit v:=by
 grind [bit_eq]
theorem zXs{m:Nat}(hm:m<4294967296)(v:Nat):(AV.wrap (((AQ 32 ((m>>>v:Nat):Int)&&&AQ 32 1).toNat:Nat):Int)==1)=m.testBit v:=u32_bit hm v
def Sn:Sr Nat:=⟨(· +·),(· *·),1,Nat.one_mul,Nat.add_comm,Nat.add_assoc,Nat.mul_comm,BP,Nat.left_distrib⟩
section
variable {α : Type} {c : Rw → Rw → Int}
theorem zVt(f:α->α->α)(r:Rw)(v:α):∀l:List (Rw×α),(putP c f r v l).length<=l.length+1
 |[]=>by simp[putP]
 |(s,u)::l=>by
  have:=zVt f r v l
  simp only[putP];split
  ·simp only[Br];omega
  split<;>simp
theorem zVb(f:α->α->α):∀(L l:List (Rw×α)),(acc c f l L).length<=l.length+L.length
 |[],l=>by simp[acc]
 |p::L,l=>by
  have h1:=zVb f L (putP c f p.1 p.2 l);have h2:=zVt (c:=c) f p.1 p.2 l;simp only[acc,Bn,Br]at h1⊢;omega
theorem zQ6(f:α->α->α)(A B:List Nat)(lb:List (Rw×α)):∀la:List (Rw×α),(zBd f A la B lb).length<=la.length*lb.length
 |[]=>by simp[zBd]
 |p::la=>by
  have h1:=zQ6 f A B lb la;have h2:(lb.filter λq=>mt A p.1 B q.1).length<=lb.length:=List.length_filter_le _ _;simp only[zBd,BX,Bf,B7,Br,B6]at h1⊢;omega
def rz(f:Fa α):Nat:=f.l.length+1
theorem fmul_len(S:Sr α)(f g:Fa α)(os:List (Fa α)):(fmul c S f g os).l.length<=f.l.length*g.l.length:=by
 have h1:=zVb (c:=c) S.add ((zBd S.mul f.A f.l g.A g.l).filter λp=>os.all λo=>okO (un f.A g.A) p.1 o) [];have h2:((zBd S.mul f.A f.l g.A g.l).filter λp=>os.all λo=>okO (un f.A g.A) p.1 o).length<=(zBd S.mul f.A f.l g.A g.l).length:=List.length_filter_le _ _;have h3:=zQ6 S.mul f.A g.A g.l f.l;simp only[BQ]at h1;show(acc c S.add [] _).length<=_;omega
theorem zEt(S:Sr α)(f g:Fa α)(os:List (Fa α)):rz (fmul c S f g os)<=rz f*rz g:=by
 have:=fmul_len (c:=c) S f g os
 simp only[rz,Nat.mul_add,Nat.add_mul];omega
theorem zPw(S:Sr α)(v:Nat)(f:Fa α):rz (fsum c S v f)<=rz f:=by
 have h1:=zVb (c:=c) S.add (zFz f.A v f.l) [];simp only[zFz,BQ,B7]at h1;show(acc c S.add [] _).length+1<=f.l.length+1;unfold zFz;omega
theorem zCh(f:Fa α):1<=rz f:=by unfold rz;omega
end
section
variable {c : Rw → Rw → Int}
theorem zVr(r:Rw)(v:Nat):∀l:List (Rw×Nat),((putP c (· +·) r v l).map (·.2)).sum=(l.map (·.2)).sum+v
 |[]=>by simp[putP]
 |(s,u)::l=>by
  have:=zVr r v l
  simp only[putP];split
  ·simp only[AI,BE];omega
  split<;>simp only[AI,BE]<;>omega
theorem zVa:∀(L l:List (Rw×Nat)),((acc c (· +·) l L).map (·.2)).sum=(l.map (·.2)).sum+(L.map (·.2)).sum
 |[],l=>by simp[acc]
 |p::L,l=>by
  have h1:=zVa L (putP c (· +·) p.1 p.2 l);rw[zVr]at h1;simp only[acc,Bn,AI,BE]at h1⊢;omega
theorem zJ1{α:Type}(g:α->Nat)(q:α->Bool):∀l:List α,((l.filter q).map g).sum<=(l.map g).sum
 |[]=>by simp
 |a::l=>by
  have:=zJ1 g q l
  rw[List.filter_cons];split<;>simp only[AI,BE]<;>omega
theorem zVi{α:Type}(g:α->Nat)(k:Nat):∀l:List α,(l.map λq=>k*g q).sum=k*(l.map g).sum
 |[]=>by simp
 |a::l=>by simp only[AI,BE,zVi g k l,Nat.mul_add]
theorem zQ5(A B:List Nat)(lb:List (Rw×Nat)):∀la:List (Rw×Nat),((zBd (· *·) A la B lb).map (·.2)).sum<=(la.map (·.2)).sum*(lb.map (·.2)).sum
 |[]=>by simp[zBd]
 |p::la=>by
  have h1:=zQ5 A B lb la;have h2:=Nat.mul_le_mul_left p.2 (zJ1 (λq:Rw×Nat=>q.2) (λq=>mt A p.1 B q.1) lb);rw[<-zVi]at h2;simp only[zBd,BX,Ct,List.sum_append,List.map_map,AI,BE,Nat.add_mul,Function.comp_def]at h1 h2⊢;omega
def vz(f:Fa Nat):Nat:=(f.l.map (·.2)).sum+1
theorem zZ6(f g:Fa Nat)(os:List (Fa Nat)):((fmul c Sn f g os).l.map (·.2)).sum<=(f.l.map (·.2)).sum*(g.l.map (·.2)).sum:=by
 have h1:=zVa (c:=c) ((zBd (· *·) f.A f.l g.A g.l).filter λp=>os.all λo=>okO (un f.A g.A) p.1 o) [];have h2:=zJ1 (λq:Rw×Nat=>q.2) (λp=>os.all λo=>okO (un f.A g.A) p.1 o) (zBd (· *·) f.A f.l g.A g.l);have h3:=zQ5 f.A g.A g.l f.l;simp only[Bo,List.sum_nil,Cd]at h1;refine BR (Nat.le_of_eq h1) (BR h2 h3)
theorem zMb(f g:Fa Nat)(os:List (Fa Nat)):vz (fmul c Sn f g os)<=vz f*vz g:=by
 have:=zZ6 (c:=c) f g os
 simp only[vz,Nat.mul_add,Nat.add_mul];omega
theorem zZ1(v:Nat)(f:Fa Nat):((fsum c Sn v f).l.map (·.2)).sum=(f.l.map (·.2)).sum:=by
 have h1:=zVa (c:=c) (zFz f.A v f.l) [];have e:(zFz f.A v f.l).map (·.2)=f.l.map (·.2):=by simp[zFz,Function.comp_def]
 rw[e]at h1;simp only[Bo,List.sum_nil,Cd]at h1;exact h1
theorem zTa(v:Nat)(f:Fa Nat):vz (fsum c Sn v f)=vz f:=by unfold vz;rw[zZ1]
theorem zG3(f:Fa Nat):1<=vz f:=by unfold vz;omega
end
def pz{α:Type}(z:α->Nat)(l:List α):Nat:=l.foldr (λa n=>z a*n) 1
theorem zBj{α:Type}(z:α->Nat)(a:α)(l:List α):pz z (a::l)=z a*pz z l:=rfl
theorem zHx{α:Type}(z:α->Nat):∀(l m:List α),pz z (l++m)=pz z l*pz z m
 |[],m=>by simp[pz]
 |a::l,m=>by rw[AR,zBj,zBj,zHx z l m,BP]
theorem zCo{α:Type}{z:α->Nat}(hz:∀a,1<=z a):∀l:List α,1<=pz z l
 |[]=>As 1
 |a::l=>Nat.mul_le_mul (hz a) (zCo hz l)
theorem zHd{α:Type}(z:α->Nat){l m:List α}(h:l.Perm m):pz z l=pz z m:=by
 induction h with
 |nil=>rfl
 |cons x _ ih=>rw[zBj,zBj,ih]
 |swap x y l=>simp only[zBj];rw[<-BP,Nat.mul_comm (z y),BP]
 |trans _ _ h1 h2=>exact h1.trans h2
theorem zFx{α:Type}{z:α->Nat}(hz:∀a,1<=z a){l:List α}{a:α}(h:a∈l):z a<=pz z l:=by
 induction l with
 |nil=>simp at h
 |cons b l ih=>
  rw[zBj];rcases AH.1 h with rfl|h
  ·exact Nat.le_mul_of_pos_right _ (zCo hz l)
  exact BR (ih h) (Nat.le_mul_of_pos_left _ (hz b))
section
variable {α : Type} {c : Rw → Rw → Int} {S : Sr α} {z : Fa α → Nat} (hz : ∀ a, 1 ≤ z a) (h1 : ∀ f g os, z (fmul c S f g os) ≤ z f * z g) (h2 : ∀ v f, z (fsum c S v f) ≤ z f)
include h1 in
theorem elimP_z:∀(fs:List (Fa α))(p:Fa α)(os:List (Fa α)),z (zBb c S p fs os)<=z p*pz z fs
 |[],p,os=>by simp[zBb,pz]
 |f::fs,p,os=>by
  have h3:=elimP_z fs (fmul c S p f (fs++os)) os;have h4:=Nat.mul_le_mul_right (pz z fs) (h1 p f (fs++os));rw[zBb,zBj,<-BP];exact BR h3 h4
include h1 h2 in
theorem zNu(v:Nat)(fs:List (Fa α)):pz z (elim c S v fs)<=pz z fs:=by
 have hp:=zHd z (zC2 v fs);unfold elim;split
 ·exact As _
 rename_i p ws e;rw[e,zHx,zBj]at hp;rw[<-hp,zHx];have h3:=BR (h2 v (zBb c S p ws (zCq v fs))) (elimP_z h1 ws p (zCq v fs));have e1:∀g:Fa α,pz z [g]=z g:=λg=>by simp[pz]
 rw[e1,Nat.mul_comm];exact Nat.mul_le_mul_right _ h3
end
instance {α : Type} : Inhabited (Fa α) := ⟨⟨[], []⟩⟩
section
variable {α : Type} (pop : Nat → Nat)
def uniM(v:Nat)(fs:List (Fa α)):Nat:=fs.foldl (λm f=>if v∈f.A then m|||msk f.A else m) 0
def bigL(v:Nat)(fs:List (Fa α)):Nat:=fs.foldl (λn f=>if v∈f.A then max n f.A.length else n) 0
def zDp(fs:List (Fa α))(v:Nat):Nat:=if pop (uniM v fs)=bigL v fs then 0 else pop (uniM v fs)
def zC0(fs:List (Fa α))(s:Int×Nat)(v:Nat):Int×Nat:=if s.1<0\/zDp pop fs v<s.2 then((v:Int),zDp pop fs v)else s
def zAj(fs:List (Fa α))(E:List Nat):Nat:=((E.foldl (zC0 pop fs) (-1,0)).1).toNat
theorem ch_mem(fs:List (Fa α)):∀(l:List Nat)(s:Int×Nat),((l.foldl (zC0 pop fs) s)=s/\(0<=s.1\/l=[]))\/∃v∈l,(l.foldl (zC0 pop fs) s).1=(v:Int)
 |[],s=> .inl ⟨rfl, .inr rfl⟩
 | v::l,s=>by
  rw[Bn];rcases ch_mem fs l (zC0 pop fs s v)with⟨h1,h2⟩|⟨w,hw,h⟩
  ·rw[h1];unfold zC0;split
   ·exact .inr ⟨v,AD ..,rfl⟩
   rename_i h;exact .inl ⟨rfl, .inl (by omega)⟩
  exact .inr ⟨w,AC _ hw,h⟩
theorem zEk(fs:List (Fa α)){E:List Nat}(h:E≠[]):zAj pop fs E∈E/\(E.foldl (zC0 pop fs) (-1,0)).1=(zAj pop fs E:Nat):=by
 unfold zAj;rcases ch_mem pop fs E (-1,0)with⟨_,h2⟩|⟨v,hv,e⟩
 ·rcases h2 with h2|h2
  ·exact absurd h2 (by decide)
  exact absurd h2 h
 rw[e];exact⟨by simpa using hv,by simp⟩
variable (c : Rw → Rw → Int) (S : Sr α)
def zCr:Nat->List (Fa α)->List Nat->List (Fa α)
 |0,fs,E=>fs
 |n+1,fs,E=>zCr n (elim c S (zAj pop fs E) fs) (less E (zAj pop fs E))
def zDx(fs:List (Fa α))(E:List Nat):Fa α:=zBb c S (zB6 S) (zCr pop c S E.length fs E) []
def refP(p:Fa α)(fs:List (Fa α)):Fa α:=fs.foldl (λp f=>fmul c S p f []) p
def refS(f:Fa α)(vs:List Nat):Fa α:=vs.foldl (λf v=>fsum c S v f) f
variable {pop c S} {Dm : List Va}
theorem zK2{E:List Nat}(hn:E.Nodup){v:Nat}(hv:v∈E):(less E v).length+1=E.length:=by
 rw[<-zC7 hn v,Cu,if_pos (Ca.2 hv)]
 have:=List.length_pos_of_mem hv
 omega
theorem zGt(hc:Cw c)(hD:Dm.Nodup):∀(n:Nat)(fs:List (Fa α))(E:List Nat),E.Nodup->E.length=n->(∀f∈fs,FOk c Dm f)->(∀v∈E,∃f∈fs,v∈f.A)->
  (∀f∈zCr pop c S n fs E,FOk c Dm f)/\(∃vs,vs.Perm E/\∀σ,proF S (zCr pop c S n fs E) σ=zKr S Dm vs (proF S fs) σ)/\(∀w,(∃f∈zCr pop c S n fs E,w∈f.A)↔(∃f∈fs,w∈f.A)/\w∉E)
 |0,fs,E,hn,hl,hf,hv=>by
  have e:E=[]:=List.length_eq_zero_iff.1 hl;subst e;exact⟨hf,⟨[], .refl _,λσ=>rfl⟩,λw=>by simp[zCr]⟩
 | n+1,fs,E,hn,hl,hf,hv=>by
  have hne:E≠[]:=λe=>by rw[e]at hl;cases hl
  have hm:=(zEk pop fs hne).1;have hA:=zWi (c:=c) (S:=S) (fs:=fs) (λf h=>(hf f h).asc.2) (zAj pop fs E);have hpro:=elim_pro (S:=S) hc hD hf (hv _ hm);have hok:=zP5 (S:=S) hc hf (zAj pop fs E);have hll:=zK2 hn hm;show(∀f∈zCr pop c S n (elim c S (zAj pop fs E) fs) (less E (zAj pop fs E)),_)/\_;generalize hg:zAj pop fs E=v at*;obtain⟨h1,⟨vs,hp,h2⟩,h3⟩:=zGt hc hD n (elim c S v fs) (less E v) (hn.filter _) (by omega) hok (λw hw=>(hA w).2 ⟨hv w (zB4.1 hw).1,(zB4.1 hw).2⟩);have e:zCr pop c S (n+1) fs E=zCr pop c S n (elim c S v fs) (less E v):=by rw[zCr,hg]
  refine⟨h1,⟨v::vs,?_,λσ=>?_⟩,λw=>?_⟩
  ·have h4:(v::less E v).Perm E:=by
    rw[<-zC7 hn v,<-CG rfl];exact(List.perm_cons_erase hm).symm
   exact(List.Perm.cons v hp).trans h4
  ·rw[e,h2];exact zEg vs (λσ=>hpro σ) σ
  rw[e,h3,hA,zB4];constructor
  ·rintro⟨⟨h4,h5⟩,h6⟩;exact⟨h4,λh=>h6 ⟨h,h5⟩⟩
  rintro⟨h4,h5⟩;exact⟨⟨h4,λh=>h5 (h▸hm)⟩,λh=>h5 h.1⟩
theorem zVy(x:Option α):omul S.mul x (Ac S.one)=x:=by rw[zV0];cases x<;>simp[omul,S.om]
theorem zVx(x:Option α):omul S.mul (Ac S.one) x=x:=by cases x<;>simp[omul,S.om]
theorem zF2:FOk c Dm (zB6 S):=⟨⟨AM.nil,by simp[zB6]⟩,by simp[zB6,Lens],by simp[zB6,Srt],by simp[zB6]⟩
theorem zVg(σ:Nat->Va):den (zB6 S) σ=Ac S.one:=rfl
theorem margP_ok(hc:Cw c)(hD:Dm.Nodup){fs:List (Fa α)}{E:List Nat}(hn:E.Nodup)(hf:∀f∈fs,FOk c Dm f)(hv:∀v∈E,∃f∈fs,v∈f.A):FOk c Dm (zDx pop c S fs E):=
 zK5 hc _ _ _ zF2 (zGt hc hD _ fs E hn rfl hf hv).1
theorem zZc(hc:Cw c)(hD:Dm.Nodup){fs:List (Fa α)}{E:List Nat}(hn:E.Nodup)(hf:∀f∈fs,FOk c Dm f)(hv:∀v∈E,∃f∈fs,v∈f.A)(σ:Nat->Va):
  den (zDx pop c S fs E) σ=zKr S Dm E (proF S fs) σ:=by
 obtain⟨h1,⟨vs,hp,h2⟩,_⟩:=zGt (pop:=pop) (S:=S) hc hD _ fs E hn rfl hf hv;have h:=zMg (S:=S) hc σ (zCr pop c S E.length fs E) (zB6 S) [] zF2 h1 (by simp);rw[Cn,zVg,zVx,h2 σ,zNh hp]at h;have e:proF S [] σ=Ac S.one:=rfl;rw[e,zVy]at h;exact h
theorem zZd(hc:Cw c)(hD:Dm.Nodup){fs:List (Fa α)}{E:List Nat}(hn:E.Nodup)(hf:∀f∈fs,FOk c Dm f)(hv:∀v∈E,∃f∈fs,v∈f.A)(w:Nat):w∈(zDx pop c S fs E).A↔(∃f∈fs,w∈f.A)/\w∉E:=by
 obtain⟨h1,_,h3⟩:=zGt (pop:=pop) (S:=S) hc hD _ fs E hn rfl hf hv;unfold zDx;rw[zP8 _ _ _ (by simp[zB6]) (λf h=>(h1 f h).asc.2),<-h3];simp[zB6]
theorem zSr(hc:Cw c):∀(fs:List (Fa α))(p:Fa α),FOk c Dm p->(∀f∈fs,FOk c Dm f)->FOk c Dm (refP c S p fs)
 |[],p,hp,_=>hp
 |f::fs,p,hp,hf=>zSr hc fs _ (zEu hc hp (hf f (AD ..)) []) λg hg=>hf g (AC _ hg)
theorem zVp(hc:Cw c)(σ:Nat->Va):∀(fs:List (Fa α))(p:Fa α),FOk c Dm p->(∀f∈fs,FOk c Dm f)->den (refP c S p fs) σ=omul S.mul (den p σ) (proF S fs σ)
 |[],p,hp,_=>(zVy _).symm
 |f::fs,p,hp,hf=>by
  have h1:=hf f (AD ..)
  have:=zVp hc σ fs (fmul c S p f []) (zEu hc hp h1 []) λg hg=>hf g (AC _ hg)
  rw[zWh hc hp h1]at this;simp only[List.all_nil,if_true]at this;show den (refP c S (fmul c S p f []) fs) σ=_;rw[this,zRd];rfl
theorem refP_A:∀(fs:List (Fa α))(p:Fa α),(∀v∈p.A,v<32)->(∀f∈fs,∀v∈f.A,v<32)->∀v,v∈(refP c S p fs).A↔v∈p.A\/∃f∈fs,v∈f.A
 |[],p,_,_,v=>by simp[refP]
 | f::fs,p,hp,hf,v=>by
  have h1:=hf f (AD ..);have ih:=refP_A fs (fmul c S p f []) (λw hw=>(zD0.1 hw).1) (λg hg=>hf g (AC _ hg)) v;show v∈(refP c S (fmul c S p f []) fs).A↔_;rw[ih];have:v∈(fmul c S p f []).A↔v<32/\(v∈p.A\/v∈f.A):=zD0;rw[this];constructor
  ·rintro(⟨_,h|h⟩|⟨g,hg,h⟩)
   ·exact .inl h
   ·exact .inr ⟨f,AD ..,h⟩
   exact .inr ⟨g,AC _ hg,h⟩
  rintro(h|⟨g,hg,h⟩)
  ·exact .inl ⟨hp v h, .inl h⟩
  rcases AH.1 hg with rfl|hg
  ·exact .inl ⟨h1 v h, .inr h⟩
  exact .inr ⟨g,hg,h⟩
theorem zSq(hc:Cw c):∀(vs:List Nat)(f:Fa α),FOk c Dm f->FOk c Dm (refS c S f vs)
 |[],f,hf=>hf
 |v::vs,f,hf=>zSq hc vs _ (zTb hc hf v)
theorem refS_A:∀(vs:List Nat)(f:Fa α)(w:Nat),w∈(refS c S f vs).A↔w∈f.A/\w∉vs
 |[],f,w=>by simp[refS]
 |v::vs,f,w=>by
  have ih:=refS_A vs (fsum c S v f) w;show w∈(refS c S (fsum c S v f) vs).A↔_;rw[ih];have:w∈(fsum c S v f).A↔w∈f.A/\w≠v:=zB4;rw[this,AH,not_or];exact⟨λh=>⟨h.1.1,h.1.2,h.2⟩,λh=>⟨⟨h.1,h.2.1⟩,h.2.2⟩⟩
theorem zVn(hc:Cw c)(hD:Dm.Nodup):∀(vs:List Nat)(f:Fa α)(σ:Nat->Va),FOk c Dm f->vs.Nodup->(∀v∈vs,v∈f.A)->den (refS c S f vs) σ=zKr S Dm vs (den f) σ
 |[],f,σ,hf,_,_=>rfl
 |v::vs,f,σ,hf,hn,hv=>by
  rw[Cr]at hn;have ih:=zVn hc hD vs (fsum c S v f) σ (zTb hc hf v) hn.2 λw hw=>zB4.2 ⟨hv w (AC _ hw),λe=>hn.1 (e▸hw)⟩;show den (refS c S (fsum c S v f) vs) σ=_;rw[ih];exact zEg vs (λσ=>zWg hc hD hf (hv v (AD ..)) σ) σ
theorem zV6(hc:Cw c)(hD:Dm.Nodup){fs:List (Fa α)}{E vs:List Nat}(hn:E.Nodup)(hp:vs.Perm E)(hf:∀f∈fs,FOk c Dm f)(hv:∀v∈E,∃f∈fs,v∈f.A):zDx pop c S fs E=refS c S (refP c S (zB6 S) fs) vs:=by
 have hr:=zSr (S:=S) hc fs (zB6 S) zF2 hf;have hrA:∀v,v∈(refP c S (zB6 S) fs).A↔∃f∈fs,v∈f.A:=λv=>by
  rw[refP_A fs (zB6 S) (by simp[zB6]) (λf h=>(hf f h).asc.2)];simp[zB6]
 have hm:=margP_ok (pop:=pop) (S:=S) hc hD hn hf hv;have hs:=zSq (S:=S) hc vs _ hr;refine FOk.ext hc hm hs (Asc.ext hm.asc hs.asc λw=>?_) λσ=>?_
 ·rw[zZd hc hD hn hf hv,refS_A,hrA,hp.mem_iff]
 rw[zZc hc hD hn hf hv,zVn hc hD vs _ σ hr (hp.nodup_iff.2 hn) (λv h=>(hrA v).2 (hv v (hp.mem_iff.1 h))),zNh hp];refine zEg E (λσ=>?_) σ;rw[zVp hc σ fs (zB6 S) zF2 hf,zVg,zVx]
end
section
variable {α : Type} {pop : Nat → Nat} {c : Rw → Rw → Int} {S : Sr α} {z : Fa α → Nat} (h1 : ∀ f g os, z (fmul c S f g os) ≤ z f * z g) (h2 : ∀ v f, z (fsum c S v f) ≤ z f)
end
end
section
open Go.Shelf
def Tryz.lays125_ren:Go.Shelf.Ren:=⟨λ|125=>152|128=>44|129=>173|n=>n,λ|46=>111|3=>3|51=>27|53=>52|4=>4|5=>5|9=>9|n=>n,λ|n=>n⟩
theorem Tryz.lays125:Go.Proofs.Lays.n125 An Tryz.lays125_ren:={
 mixed:=by kernel_rfl
 f125:=Tryz.func152.trans (congrArg Ac (by kernel_rfl))
 f128:=Tryz.func44.trans (congrArg Ac (by kernel_rfl))
 f129:=Tryz.func173.trans (congrArg Ac (by kernel_rfl))
 t3:=Tryz.underlying3
 a3:=Tryz.isAgg3
 z3:=Tryz.sizeOf3
 v3:=Tryz.zeroValue3
 t4:=Tryz.underlying4
 a4:=Tryz.isAgg4
 z4:=Tryz.sizeOf4
 v4:=Tryz.zeroValue4
 t5:=Tryz.underlying5
 a5:=Tryz.isAgg5
 z5:=Tryz.sizeOf5
 v5:=Tryz.zeroValue5
 t9:=Tryz.underlying9
 a9:=Tryz.isAgg9
 z9:=Tryz.sizeOf9
 v9:=Tryz.zeroValue9
 t46:=Tryz.underlying111
 a46:=Tryz.isAgg111
 z46:=Tryz.sizeOf111
 v46:=Tryz.zeroValue111
 t51:=Tryz.underlying27
 a51:=Tryz.isAgg27
 z51:=Tryz.sizeOf27
 v51:=Tryz.zeroValue27
 t53:=Tryz.underlying52
 a53:=Tryz.isAgg52
 z53:=Tryz.sizeOf52
 v53:=Tryz.zeroValue52}
theorem Tryz.bits_Len(x:Int)(w:World)(h0:0<=x)(h1:x<=18446744073709551615):
  Calls An 152 #[.int .u64 x] w λe w'=>e= .returned (.int .i64 (Bt x.toNat))/\w'=w:=Any.bits_Len Tryz.lays125 x w h0 h1
open Go.RowKit in
def Tryz.lays106_ren:Go.Shelf.Ren:=⟨λ|106=>175|213=>192|265=>198|n=>n,λ|9=>9|3=>3|n=>n,λ|n=>n⟩
theorem Tryz.lays106:Go.Proofs.Lays.n106 An Tryz.lays106_ren:={
 mixed:=by kernel_rfl
 f106:=Tryz.func175.trans (congrArg Ac (by kernel_rfl))
 f213:=Tryz.func192.trans (congrArg Ac (by kernel_rfl))
 f265:=Tryz.func198.trans (congrArg Ac (by kernel_rfl))
 t3:=Tryz.underlying3
 a3:=Tryz.isAgg3
 z3:=Tryz.sizeOf3
 v3:=Tryz.zeroValue3
 t9:=Tryz.underlying9
 a9:=Tryz.isAgg9
 z9:=Tryz.sizeOf9
 v9:=Tryz.zeroValue9}
open Go.RowKit in
theorem Tryz.strings_Compare(a b:ByteArray)(w:World):
  Calls An 175 #[.string a, .string b] w λe w'=>e= .returned (.int .i64 (AG a.data.toList b.data.toList))/\w'=w:=Any.strings_Compare Tryz.lays106 a b w
open Go.RowKit in
open Go.RowKit in
def Tryz.lays129_ren:Go.Shelf.Ren:=⟨λ|129=>173|n=>n,λ|53=>52|3=>3|4=>4|46=>111|5=>5|9=>9|n=>n,λ|n=>n⟩
theorem Tryz.lays129:Go.Proofs.Lays.n129 An Tryz.lays129_ren:={
 mixed:=by kernel_rfl
 f129:=Tryz.func173.trans (congrArg Ac (by kernel_rfl))
 t3:=Tryz.underlying3
 a3:=Tryz.isAgg3
 z3:=Tryz.sizeOf3
 v3:=Tryz.zeroValue3
 t4:=Tryz.underlying4
 a4:=Tryz.isAgg4
 z4:=Tryz.sizeOf4
 v4:=Tryz.zeroValue4
 t5:=Tryz.underlying5
 a5:=Tryz.isAgg5
 z5:=Tryz.sizeOf5
 v5:=Tryz.zeroValue5
 t9:=Tryz.underlying9
 a9:=Tryz.isAgg9
 z9:=Tryz.sizeOf9
 v9:=Tryz.zeroValue9
 t46:=Tryz.underlying111
 a46:=Tryz.isAgg111
 z46:=Tryz.sizeOf111
 v46:=Tryz.zeroValue111
 t53:=Tryz.underlying52
 a53:=Tryz.isAgg52
 z53:=Tryz.sizeOf52
 v53:=Tryz.zeroValue52}
theorem Tryz.bits_Len64(x:Int)(w:World)(h0:0<=x)(h1:x<=18446744073709551615):
  Calls An 173 #[.int .u64 x] w λe w'=>e= .returned (.int .i64 (Bt x.toNat))/\w'=w:=Any.bits_Len64 Tryz.lays129 x w h0 h1
def Tryz.lays317_ren:Go.Shelf.Ren:=⟨λ|317=>204|n=>n,λ|3=>3|46=>111|n=>n,λ|n=>n⟩
theorem Tryz.lays317:Go.Proofs.Lays.n317 An Tryz.lays317_ren:={
 mixed:=by kernel_rfl
 f317:=Tryz.func204.trans (congrArg Ac (by kernel_rfl))
 t3:=Tryz.underlying3
 a3:=Tryz.isAgg3
 z3:=Tryz.sizeOf3
 v3:=Tryz.zeroValue3
 t46:=Tryz.underlying111
 a46:=Tryz.isAgg111
 z46:=Tryz.sizeOf111
 v46:=Tryz.zeroValue111}
open Go.Lib in
theorem Tryz.internal_strconv_log10Pow2(x:Nat)(h:x<=64)(w:World):
  Calls An 204 #[.int .i64 x] w λe w'=>e= .returned (.int .i64 (Lib.l10 x))/\w'=w:=Any.internal_strconv_log10Pow2 Tryz.lays317 x h w
def Tryz.lays318_ren:Go.Shelf.Ren:=⟨λ|318=>205|n=>n,λ|3=>3|4=>4|n=>n,λ|n=>n⟩
theorem Tryz.lays318:Go.Proofs.Lays.n318 An Tryz.lays318_ren:={
 mixed:=by kernel_rfl
 f318:=Tryz.func205.trans (congrArg Ac (by kernel_rfl))
 t3:=Tryz.underlying3
 a3:=Tryz.isAgg3
 z3:=Tryz.sizeOf3
 v3:=Tryz.zeroValue3
 t4:=Tryz.underlying4
 a4:=Tryz.isAgg4
 z4:=Tryz.sizeOf4
 v4:=Tryz.zeroValue4}
open Go.Lib in
theorem Tryz.internal_strconv_bool2_int(b:Bool)(w:World):
  Calls An 205 #[.bool b] w λe w'=>e= .returned (.int .i64 (if b then 1 else 0))/\w'=w:=Any.internal_strconv_bool2_int Tryz.lays318 b w
def Tryz.lays283_ren:Go.Shelf.Ren:=⟨λ|283=>199|n=>n,λ|3=>3|9=>9|4=>4|n=>n,λ|n=>n⟩
theorem Tryz.lays283:Go.Proofs.Lays.n283 An Tryz.lays283_ren:={
 mixed:=by kernel_rfl
 f283:=Tryz.func199.trans (congrArg Ac (by kernel_rfl))
 t3:=Tryz.underlying3
 a3:=Tryz.isAgg3
 z3:=Tryz.sizeOf3
 v3:=Tryz.zeroValue3
 t4:=Tryz.underlying4
 a4:=Tryz.isAgg4
 z4:=Tryz.sizeOf4
 v4:=Tryz.zeroValue4
 t9:=Tryz.underlying9
 a9:=Tryz.isAgg9
 z9:=Tryz.sizeOf9
 v9:=Tryz.zeroValue9}
open Go.Lib in
theorem Tryz.internal_strconv_small(i:Nat)(h:i<100)(w:World):
  Calls An 199 #[.int .i64 i] w λe w'=>e= .returned (.string ⟨(Ar i).toArray⟩)/\w'=w:=Any.internal_strconv_small Tryz.lays283 i h w
open Go.Lib in
def Tryz.lays285_ren:Go.Shelf.Ren:=⟨λ|285=>201|n=>n,λ|37=>281|53=>52|3=>3|4=>4|51=>27|9=>9|5=>5|0=>0|n=>n,λ|n=>n⟩
theorem Tryz.lays285:Go.Proofs.Lays.n285 An Tryz.lays285_ren:={
 mixed:=by kernel_rfl
 f285:=Tryz.func201.trans (congrArg Ac (by kernel_rfl))
 t0:=Tryz.underlying0
 a0:=Tryz.isAgg0
 z0:=Tryz.sizeOf0
 v0:=Tryz.zeroValue0
 t3:=Tryz.underlying3
 a3:=Tryz.isAgg3
 z3:=Tryz.sizeOf3
 v3:=Tryz.zeroValue3
 t4:=Tryz.underlying4
 a4:=Tryz.isAgg4
 z4:=Tryz.sizeOf4
 v4:=Tryz.zeroValue4
 t5:=Tryz.underlying5
 a5:=Tryz.isAgg5
 z5:=Tryz.sizeOf5
 v5:=Tryz.zeroValue5
 t9:=Tryz.underlying9
 a9:=Tryz.isAgg9
 z9:=Tryz.sizeOf9
 v9:=Tryz.zeroValue9
 t37:=Tryz.underlying281
 a37:=Tryz.isAgg281
 z37:=Tryz.sizeOf281
 v37:=Tryz.zeroValue281
 t51:=Tryz.underlying27
 a51:=Tryz.isAgg27
 z51:=Tryz.sizeOf27
 v51:=Tryz.zeroValue27
 t53:=Tryz.underlying52
 a53:=Tryz.isAgg52
 z53:=Tryz.sizeOf52
 v53:=Tryz.zeroValue52}
open Go.RowKit Go.Sort Go.Lib in
theorem Tryz.internal_strconv_formatBase10(blk off cap:Nat)(u:Nat)(d:Array UInt8)(w:World)(hH:Holds (λ(b:UInt8)=>Ag .u8 (b.toNat:Int)) w blk off d)(hu:u<10^d.size)(hu64:u<18446744073709551616)(hsz:d.size<4611686018427387904):
  Calls An 201 #[.slice (Ac ⟨blk,off,Aj⟩) d.size cap, .int .u64 u] w λe w'=>
   e= .returned (.tuple #[])/\∃(n v':Nat)(dk:Array UInt8),w'=(putRow (λ(b:UInt8)=>Ag .u8 (b.toNat:Int)) w blk off dk).drewN n/\FmtInv d.size u 0 v' dk:=Any.internal_strconv_formatBase10 Tryz.lays285 blk off cap u d w hH hu hu64 hsz
open Go.RowKit Go.Sort Go.Lib in
open Go.RowKit Go.Sort Go.Lib in
open Go.RowKit Go.Sort Go.Lib in
open Go.RowKit Go.Sort Go.Lib in
open Go.RowKit Go.Sort Go.Lib in
open Go.Lib in
open Go.Lib in
open Go.Lib in
open Go.Lib in
open Go.RowKit Go.Lib in
open Go.RowKit Go.Lib in
open Go.RowKit Go.Lib in
open Go.RowKit Go.Lib in
open Go.RowKit Go.Lib in
open Go.RowKit Go.Lib Go.Sort in
open Go.RowKit Go.Lib Go.Sort in
open Go.RowKit Go.Lib Go.Sort in
open Go.RowKit Go.Lib in
open Go.RowKit Go.Lib in
open Go.RowKit Go.Lib Go.Sort in
open Go.RowKit Go.Lib in
end
section
open Go.RowKit
def Tz:Par:=⟨λ_=>Ad,λ_ _=>Aj,λ_=>Ad,λ_=>Ad,λ_=>Ad⟩
theorem zBf:zCe An Tz:=by intro t n f h;cases h
theorem mixed:An.follows .mixedOrders=true:=by kernel_rfl
theorem zFh{I:Im}{w:World}{β:Be}:∀(us vs:List Value),RelT I w β (us.map .val) vs->vs=us
 |[],vs,h=>by simpa only[Bo,RelT]using h
 |u::us,vs,h=>by
  simp only[AI,RelT,Rel]at h;obtain⟨v,vs',rfl,rfl,h⟩:=h;rw[zFh us vs' h]
theorem zC5{P:Program}{f:FuncId}{us:List Value}{v:Value}(h:∀w,Calls P f us.toArray w λe w'=>e= .returned v/\w=w'):Pure P f (us.map .val) [] (.val v):=by
 intro I w vs hr hi hg;rw[zFh us vs hr];refine(h w).mono ?_;rintro e w' ⟨rfl,rfl⟩;exact⟨v,I,noB,rfl,Ext.refl _,hi,Fix.refl _ _,λ_ _ h=> .inl h,λ_ _ _ h=>(by cases h),λ_ _ _ h=>(by cases h),λ_ _ _ _ _ h=>(by cases h),λ_ _ _ _ _ h=>(by cases h),λ_ _ h=>(by cases h),by simp only[Rel],by simp⟩
theorem zHy{P:Program}{f:FuncId}{args:List D}{e:TypeId}{sz:Nat}(h:∀I w vs,RelT I w noB args vs->Calls P f vs.toArray w λx w'=>(x= .returned (.slice Aj 0 0)/\Ext w w')\/∃(g:Nat)(cur:List Value)(cap:Nat),x= .returned (.slice (Ac ⟨g,0,Aj⟩) 0 cap)/\w.heap.size<=g/\Ext w w'/\w'.heap[g]?=Ac (.cells cur.toArray e (0,0))/\cur.length=cap*sz/\cap<=maxLen):
  Pure P f args [⟨[],e,sz,Ab,Ad, .plain⟩] (.osl 0 0 0 0 Ab):=by
 intro I w vs hr hi hg;refine(h I w vs hr).mono ?_;rintro x w' (⟨rfl,he⟩|⟨g,cur,cap,rfl,hgs,he,h1,h2,h3⟩)
 ·exact⟨_,I,noB,rfl,he,λb o hb=>Nat.lt_of_lt_of_le (hi b o hb) he.size,Fix.ext he λ_ _ h=>h,λ_ _ h=> .inl h,λ_ _ _ h=>(by cases h),λ_ _ _ h=>(by cases h),λ_ _ _ _ _ h=>(by cases h),λ_ _ _ _ _ h=>(by cases h),λ_ _ h=>(by cases h),by rw[Rel];exact .inl ⟨rfl,rfl,rfl⟩,by simp⟩
 have hg:∀k y,(if k=0 then Ac (g,cap)else Aj:Option (Nat×Nat))=Ac y->k=0/\y=(g,cap):=by
  grind
 refine⟨_,I,λk=>if k=0 then Ac (g,cap)else Aj,rfl,he,λb o hb=>Nat.lt_of_lt_of_le (hi b o hb) he.size,Fix.ext he λ_ _ h=>h,λ_ _ h=> .inl h,?_,?_,?_,?_,?_,?_,by simp⟩
 ·grind
 ·intro k b c hk;obtain⟨rfl,e⟩:=hg k _ hk;cases e;exact⟨_,rfl,OwnC.r ⟨cur,h1,Nat.zero_le _,by simp only[BQ,List.take_zero,RelL],λ_=>h2,h3⟩ rfl⟩
 ·intro k k' b c c' hk hk';grind
 ·intro k b c j e hk hE hI;obtain⟨rfl,e'⟩:=hg k _ hk;cases e';exact absurd (hi _ _ hI) (by omega)
 ·grind
 rw[Rel];grind
theorem zB3{P:Program}{w:World}{ops:Array Oper}{rest:List Oper}{o:Oper}{a:Act}{Q:Exit->Act->World->Prop}(hgd:o.guard=Aj)(s x:Operand)(t:TypeId)
  (ho:o.op= .call {callee:= .builtin .append,args:=#[s,x],argTypes:=#[t,t]})
  (base:Nat)(e:TypeId)(i:TypeInfo)(z:Value)(size bytes:Nat)(ht:P.underlying t=Ac (.slice e))(hi:P.info? e=Ac i)(hz:i.zero=Ac z)
  (hsize:i.size=size)(hby:i.bytes=bytes)(hzs:z.cells.size=size)(hsz:0<size)
  (v:Value)(n:Nat)(xs:List Value)(hs:a.eval s=v)(hown:w.ownsRow base e size v n xs)
  (ad:Addr)(m c:Nat)(news:List Value)(hx:a.eval x= .slice (Ac ad) m c)(hl:news.length=m*size)(hnews:∀j u,news[j]?=Ac u->w.cell? (ad.add j)=Ac u)(h1:∀u∈news,u.oneCell'=Ab)
  (h63:n+m<=maxLen)(hbytes:(n+m)*bytes<=140737488355328)(hbase:base<=w.heap.size)
  (h:∀v' w',w'.ownsRow base e size v' (n+m) (xs++news)->w.grownBy w' v.ownBlock->w.drawn<=w'.drawn->wpList P ops Q rest (a.put o.dst v') w'):wpList P ops Q (o::rest) a w:=by
 obtain⟨v',w',r1,r2,r3,_⟩:=run_append_own w base t o.type e i z size bytes ht hi hz hsize hby hzs hsz v n xs hown ad m c news hl hnews h1 h63 hbytes hbase;exact Lib.wpList_append_run w hgd s x t t ho _ _ hs hx v' w' r1 (h v' w' r2 r3 (zCs _ _ r1))
theorem info_nat:(An.info? 27).map (λi=>(i.zero,i.size,i.bytes))=Ac (Ac (.int .u32 0),1,4):=by kernel_rfl
set_option maxHeartbeats 400000 in
theorem zXo:Pure An 237 [.row [] 0] [⟨[],27,1,Ab,Ad, .plain⟩] (.osl 0 0 0 0 Ab):=by
 refine zHy λI w vs hr=>?_;simp only[RelT,Rel]at hr;obtain⟨v,ys,rfl,⟨a,c,rfl,_,_,hc,_⟩,rfl⟩:=hr;cases a with
 |none=>
  obtain rfl:=hc rfl;have he:=λ(w:World)=>Lib.run_eql_slice_nil (P:=An) w 50 27 Aj 0 0 0 0 Tryz.underlying50;go_enter Tryz.func237,Tryz.ntmps237;go_wp2;go_ret;exact .inl ⟨rfl,Ext.refl _⟩
 |some x=>
  obtain⟨i0,hi,hz0,hz1,hz2⟩:=info_parts info_nat;have he:=λ(w:World)=>Lib.run_eql_slice_nil (P:=An) w 50 27 (Ac x) 0 c 0 0 Tryz.underlying50;go_enter Tryz.func237,Tryz.ntmps237;go_wp2_with (at_builtin;refine zB3 rfl _ _ 50 rfl w.heap.size 27 i0 (.int .u32 0) 1 4 Tryz.underlying50 hi hz0 hz1 hz2 rfl (by decide) (.slice (Ac ⟨w.heap.size,0,Aj⟩) 0 0) 0 [] rfl (World.ownsRow_made _ #[] 0 (As _) (Nat.zero_le _) rfl) x 0 c [] rfl (by simp) (by simp) (by simp) (by simp[maxLen]) (by decide) (by simp) ?_;intro v' w' hown hgrow hdr);go_ret;have hext:Ext w w':=⟨((Below.refl _ _).alloc (As _) _).grown hgrow (by simp) (by simp[Value.ownBlock]),hdr⟩;obtain⟨_,⟨rfl,_⟩|⟨g,cap,cur,rfl,hb,hg,_,hc1,hs,_⟩⟩:=hown
  ·simp_all
  exact .inr ⟨g,cur.toList,cap,rfl,hb,hext,by rw[Array.toArray_toList];exact hg,by simpa using hs,hc1⟩
section
variable {P : Program} {I : Im} {w : World} {β : Be} {sl : List D} {st : List Bk} {tm : List Value}
theorem Fix.drew(I:Im)(w:World)(q:Nat):Fix I w I (w.drewN q):=λb o h=>⟨h,λv hv=>hv,λ_ _ h=>h⟩
theorem Sim.drew(h:Sim β I w sl st tm)(q:Nat):Sim β I (w.drewN q) sl st tm:=by
 refine⟨Bw (Fix.drew I w q) β β (AJ _) _ _ h.rel,λk b c hk=>?_,h.inj,h.fz,h.dom,h.imb,h.gl.mono (Fix.drew I w q)⟩;obtain⟨e,h1,h2⟩:=h.sr k b c hk;exact⟨e,h1,BI h2 rfl (Fix.drew I w q) (AJ _)⟩
theorem Stp.drew(β:Be)(I:Im)(w:World)(q:Nat):Stp β I w β I (w.drewN q):=⟨Fix.drew _ _ _,As _,λ_ _ _=>rfl,rfl,rfl,rfl,Nat.le_add_right _ _,λk b c h=> .inl ⟨k,c,h⟩,λ_ _ h=> .inl h⟩
theorem zQ0{β:Be}:∀{us vs:List Value},RelL I w β (us.map .val) vs->vs=us
 |[],vs,h=>by simpa only[Bo,RelL]using h
 |u::us,vs,h=>by
  simp only[AI,RelL,Rel]at h;obtain⟨v,vs',rfl,_,rfl,h⟩:=h;rw[zQ0 h]
theorem zKc{β:Be}:∀{us:List Value},(∀v∈us,v.oneCell'=Ab)->RelL I w β (us.map .val) us
 |[],h=>by simp only[Bo,RelL]
 |u::us,h=>by
  simp only[AI,RelL,Rel];exact⟨u,us,rfl,h u (AD ..),rfl,zKc λv hv=>h v (AC _ hv)⟩
end
end
section
open Go.RowKit Go.Shelf Go.Lib
theorem zQ4{P:Program}{f:FuncId}{us:List Value}{v:Value}(h:∀I w,Gl I w->Calls P f us.toArray w λe w'=>e= .returned v/\w=w'):Pure P f (us.map .val) [] (.val v):=by
 intro I w vs hr hi hg;rw[zFh us vs hr];refine(h I w hg).mono ?_;rintro e w' ⟨rfl,rfl⟩;exact⟨v,I,noB,rfl,Ext.refl _,hi,Fix.refl _ _,λ_ _ h=> .inl h,λ_ _ _ h=>(by cases h),λ_ _ _ h=>(by cases h),λ_ _ _ _ _ h=>(by cases h),λ_ _ _ _ _ h=>(by cases h),λ_ _ h=>(by cases h),by simp only[Rel],by simp⟩
section
variable {P : Program} {I : Im} {w : World} {β : Be} {st : List Bk}
theorem zJm:∀(ys xs pre zs:List D),xs.length=ys.length->setAt (pre++xs++zs) pre.length ys=pre++ys++zs
 |[],xs,pre,zs,hl=>by
  obtain rfl:xs=[]:=B5 (by simpa using hl);rfl
 |y::ys,[],pre,zs,hl=>by simp at hl
 |y::ys,x::xs,pre,zs,hl=>by
  simp only[setAt];have e1:(pre++x::xs++zs).set pre.length y=(pre++[y])++xs++zs:=by simp
  rw[e1]
  have:=zJm ys xs (pre++[y]) zs (by simpa using hl)
  grind
theorem acts_fill{f:FuncId}{k n:Nat}{e:Bk}{wh:Bool}{us vs:List Value}{zKr:List D}{more:List Value}(hmore:∀I w β vs,RelT I w β zKr vs->vs=more)(he:st[k]?=Ac e)(hkd:e.kd.isMap=Ad)(hf:e.fz=Ad)(hc:e.cells.take n=us.map .val)(hn:n<=e.cells.length)(hu:us.length=n)(hv:vs.length=n)(h1:∀v∈vs,v.oneCell'=Ab)(hpos:0<n)
  (h:∀b c w,(∀j,j<n->w.cell? ⟨b,0+j,Aj⟩=Ac (us.getD j undef))->(∀j,j<n->w.frozen? ⟨b,0+j,Aj⟩=Ad)->n<=c->Calls P f (#[.slice (Ac ⟨b,0,Aj⟩) n c]++more.toArray) w λx w'=>x= .returned (.tuple #[])/\∃q,w'=(w.drewN q).setCells b 0 vs):
  Acts P f (.osl k 0 n n wh::zKr) st [] (.val (.tuple #[])) (st.set k {e with cells:=vs.map .val++e.cells.drop n}):=by
 intro β I w xs hr hsr hinj hfz hdom hi hg;simp only[RelT]at hr;obtain⟨v,ys,rfl,hr,hys⟩:=hr;obtain rfl:=hmore _ _ _ _ hys;simp only[Rel]at hr;rcases hr with⟨e0,_,rfl⟩|⟨e0,_,_,a,c,rfl,_⟩|⟨b,c,cap,hb,rfl,k1,k2,k3⟩
 ·omega
 ·omega
 have hs0:Sim β I w ([]:List D) st ({tmps:=#[],defers:=[]}:Act).tmps.toList:=⟨by simp only[RelT],hsr,hinj,hfz,hdom,hi,hg⟩;obtain⟨e',he',hown⟩:=hsr k b c hb;rw[he]at he';cases he';obtain⟨cur,c1,c2,c3,c4⟩:=hown.c hkd;have hul:(cur.take n)=us:=by
  have hx:RelL I w (if e.nob then noB else β) (e.cells.take n) (cur.take n):=by
   refine RelL.of_get (by simp;omega) λi d v hd hv=>?_;rw[Bq]at hd hv;split at hd
   ·rename_i hi;rw[if_pos hi]at hv;obtain⟨v',k1,k2,k3⟩:=c3.get i d hd;grind
   cases hd
  rw[hc]at hx;exact zQ0 hx
 have hpre:=(hs0.put (off:=0) (cs:=e.cells) (vs:=cur.take e.cells.length) (ks:=[]) hb he hf hkd (by simp) (RelL.mono (zAm _) _ _ (AJ _) _ _ c3) (by simp) Aj undef).2.2;have hlc:(cur.take e.cells.length).length=e.cells.length:=c3.length.symm;have e1:(#[Ce (Ac ⟨b,0,Aj⟩) n cap]++ys.toArray)=(Ce (Ac ⟨b,0,Aj⟩) n cap::ys).toArray:=by apply Array.ext';simp
 rw[<-e1];refine(h b cap w (λj hj=>?_) (λj hj=>(hpre j (by omega)).2) k1).mono ?_
 ·have hlt:j<cur.length:=by omega
  rw[<-hul,Az,Bq,if_pos hj,Ax hlt];simp[World.cell?,c1,hlt]
 rintro x w' ⟨rfl,q,rfl⟩;obtain⟨s1,s2,s3⟩:=(hs0.drew q).put (off:=0) (cs:=vs.map .val) (vs:=vs) (ks:=[]) hb he hf hkd (by simp) (zKc h1) (by simp;omega) Aj undef;have hset2:setAt e.cells 0 (vs.map .val)=vs.map .val++e.cells.drop n:=by
  have:=zJm (vs.map .val) (e.cells.take n) [] (e.cells.drop n) (by simp;omega)
  grind [BK]
 rw[hset2]at s1;exact⟨_,β,_,rfl,s1.imb,(Stp.drew β I w q).trans s2,λ_ _ _ h=>h,s1.sr,s1.inj,s1.fz,s1.dom,by simp only[Rel]⟩
end
theorem small_c(n:Nat)(h:n<100):Pure An 199 [.val (.int .i64 n)] [] (.val (.string ⟨(Ar n).toArray⟩)):=
 zC5 (us:=[.int .i64 n]) λw=>(Tryz.internal_strconv_small n h w).mono λe w' h=>⟨h.1,h.2.symm⟩
theorem zSx(u:Nat)(h1:1<=u)(h2:u<18446744073709551616):Pure An 200 [.val (.int .u64 u)] [] (.val (.int .i64 (Au u))):=by
 refine zQ4 (us:=[.int .u64 u]) λI w hG=>?_;obtain⟨hnd,h19⟩:=Lib.numDigits_eq u h1 h2;have hL:Bt u<=64:=Lib.bitLen_le u 64 (As _) h2;have hcell:w.cell? ⟨1,Lib.l10 (Bt u),Aj⟩=Ac (.int .u64 ((10^Lib.l10 (Bt u):Nat):Int)):=by
  refine(hG (1,Lib.pow10Tab.map λz=>Ag .u64 z) (by simp[globT]) (Lib.l10 (Bt u)) _ ?_).2;rw[B8,<-Lib.pow10Tab_at _ (by omega)];rw[Az,Ax (by rw[Lib.pow10Tab_length];omega)];rfl
 have hto:((u:Int)).toNat=u:=by omega
 generalize hq:Lib.l10 (Bt u)=q at hnd h19 hcell;generalize hT:10^q=T at hnd hcell;have Hnd:=Lib.hid hnd;clear hnd;clear hG;go_enter Tryz.func200,Tryz.ntmps200;go_wp2_with fail;refine(Tryz.bits_Len64 (u:Int) w (by omega) (by omega)).mono ?_;rintro e w' ⟨rfl,rfl⟩;rw[hto];go_wp2_with fail;refine(Tryz.internal_strconv_log10Pow2 _ hL _).mono ?_;rintro e w' ⟨rfl,rfl⟩;rw[hq];go_wp2_with fail;all_goals (
  refine(Tryz.internal_strconv_bool2_int _ _).mono ?_;rintro e w' ⟨rfl,rfl⟩)
 all_goals go_wp2_with fail
 all_goals go_ret
 all_goals (
  refine⟨?_,rfl⟩;have hnd:=Hnd.out;congr 2;split at hnd<;>simp_all<;>omega)
open Go.Sort in
theorem zTd{st:List Bk}{k u n:Nat}{e:Bk}{wh:Bool}(hn:n=Au u)(he:st[k]?=Ac e)(hkd:e.kd.isMap=Ad)(hf:e.fz=Ad)(hc:e.cells.take n=AB n (.val (.int .u8 0)))(hl:n<=e.cells.length)(hu:u<18446744073709551616):
  Acts An 201 [.osl k 0 n n wh, .val (.int .u64 u)] st [] (.val (.tuple #[])) (st.set k {e with cells:=(BS (Ar u)).map .val++e.cells.drop n}):=by
 have hpos:0<n:=by rw[hn];unfold Au;split<;>omega
 have hdl:(Ar u).length=n:=by rw[Cx,hn]
 refine acts_fill (us:=AB n (.int .u8 0)) (more:=[.int .u64 u]) (λI w β vs h=>?_) he hkd hf (by rw[hc,List.map_replicate]) hl (by simp) (by rw[Lib.byteCells_length,hdl]) (λv hv=>?_) hpos (λb c w h1 h2 h3=>?_)
 ·exact zFh [.int .u64 u] vs h
 ·obtain⟨x,_,rfl⟩:=AO.1 hv;rfl
 have hH:Holds (λ(b:UInt8)=>Ag .u8 (b.toNat:Int)) w b 0 (A7 n (0:UInt8)):=λj hj=>by
  simp_all
 have main:=Tryz.internal_strconv_formatBase10 b 0 c u (A7 n (0:UInt8)) w hH (by
  rw[Cy,hn];exact Lib.lt_pow_nDigits u) hu (by
  rw[Cy,hn]
  have:=Cz u hu;omega)
 rw[Cy]at main;refine main.mono ?_;rintro x w' ⟨rfl,q,v',dk,rfl,hfm⟩;refine⟨rfl,q,?_⟩;have hsz:=hfm.size;have hdk:dk.toList=Ar u:=by
  apply Cs
  ·grind
  intro j a b';subst hn;rw[Lib.row_is_numeral hfm j b',Array.getElem_toList,getElem!_pos dk j (by simpa using a)]
 have:=Lib.putRow_eq_setCells (λ(b:UInt8)=>Ag .u8 (b.toNat:Int)) w b 0 (A7 n (0:UInt8)) dk.toList q hH (by simp[hsz])
 rw[hdk]at this;rw[show(Ar u).toArray=dk by rw[<-hdk]]at this;exact this
end
section
open Go.RowKit
def only(β:Be)(k:Nat):Be:=λj=>if j=0 then β k else Aj
def Bk.free(e:Bk):Prop:=e.nob=Ab\/∀j,zC4 j e.cells=Ad
theorem Bk.free.own{e:Bk}(h:e.free){I:Im}{w:World}{β β':Be}{b c:Nat}(ho:OwnRel I w β b c e):OwnRel I w β' b c e:=
 ho.congr λhn k x hr _=>by
  rcases h with h|h
  ·rw[h]at hn;cases hn
  rw[h k]at hr;cases hr
theorem Acts.atC{P:Program}{f:FuncId}{args1 args:List D}{e e':Bk}{x:D}{st:List Bk}(k:Nat)(h:Acts P f args1 [e] [0] x [e'])(he:st[k]?=Ac e)(ha:e.free)(ha':e'.free)
  (hargs:∀I w β vs,RelT I w β args vs->RelT I w (only β k) args1 vs)(hno:∀j e0,j≠k->st[j]?=Ac e0->e0.nob=Ab\/zC4 k e0.cells=Ad):Acts P f args st [k] (zBu k x) (st.set k e'):=by
 intro β I w vs hr hsr hinj hfz hdom hi hg;have o0:∀{j:Nat}{y:Nat×Nat},only β k j=Ac y->j=0/\β k=Ac y:=λ{j y} hj=>by
  grind [only]
 have hk:k<st.length:=(Bv.1 he).1;have hsr1:SR (only β k) I w [e]:=λj b c hj=>by
  obtain⟨rfl,hb⟩:=o0 hj;obtain⟨e0,h1,h2⟩:=hsr k b c hb;rw[he]at h1;cases h1;exact⟨e,rfl,ha.own h2⟩
 have hinj1:Inj (only β k):=λj j' b c c' h1 h2=>by rw[(o0 h1).1,(o0 h2).1]
 have hfz1:FZ (only β k) I [e]:=λj b c i e0 h1 h2 h3=>by
  obtain⟨rfl,hb⟩:=o0 h1;simp only[List.getElem?_cons_zero,Bc.injEq]at h2;subst h2;exact hfz k b c i e hb he h3
 refine(h (only β k) I w vs (hargs I w β vs hr) hsr1 hinj1 hfz1 (λj y hj=>by rw[(o0 hj).1];simp) hi hg).mono ?_;rintro en w' ⟨v,β1,I',rfl,p1,p2,p3,p4,p5,p6,p7,p8⟩;have d0:∀{j:Nat}{y:Nat×Nat},β1 j=Ac y->j=0:=λ{j y} hj=>by have:=p7 j y hj;simpa using this
 have old:∀{b c:Nat},β1 0=Ac (b,c)->(∃c',β k=Ac (b,c'))\/w.heap.size<=b:=λ{b c} hb=>by
  rcases p2.be 0 b c hb with⟨k',c',hk'⟩|hh;all_goals grind
 have hlt:∀{j b c:Nat},β j=Ac (b,c)->b<w.heap.size:=λ{j b c} hj=>by
  obtain⟨e0,_,h1⟩:=hsr j b c hj;exact h1.lt
 have hne:∀j y,j≠k->β j=Ac y->(λj=>if j=k then β1 0 else β j) j=Ac y:=λj y h0 hj=>by
  grind
 have heap:∀{j b c:Nat},j≠k->β j=Ac (b,c)->w'.heap[b]?=w.heap[b]?:=λ{j b c} hne hj=>p2.out b (hlt hj) λj' c' hj'=>by
  have:=(o0 hj').2
  exact hne (hinj j k b c c' hj this)
 refine⟨v,λj=>if j=k then β1 0 else β j,I',rfl,p1,⟨p2.fix,p2.size,λb hb hn=>p2.out b hb λj c hj=>hn k c (o0 hj).2,p2.os,p2.tape,p2.output,p2.dr,λj b c hj=>?_,λb o hb=>?_⟩,λj y h0 hj=>hne j y (by simpa using h0) hj,λj b c hj=>?_,λj j' b c c' hj hj'=>?_,λj b c i e0 hj h2 h3=>?_,λj y hj=>?_,?_⟩
 ·grind
 ·rcases p2.im b o hb with h1|h1|⟨j,c,h1⟩;all_goals grind
 ·try simp only at hj
  split at hj
  ·rename_i ej;subst ej;obtain⟨e0,h1,h2⟩:=p4 0 b c hj;simp only[List.getElem?_cons_zero,Bc.injEq]at h1;subst h1;exact⟨e',List.getElem?_set_self hk,ha'.own h2⟩
  rename_i ej;obtain⟨e0,h1,h2⟩:=hsr j b c hj;exact⟨e0,by rw[List.getElem?_set_ne (λh=>ej h.symm)];exact h1,(h2.congr (β':=λj=>if j=k then β1 0 else β j) λhn i y hr hi=>by
   refine hne i y (λe1=>?_) hi;subst e1;rcases hno j e0 ej h1 with h3|h3
   ·rw[h3]at hn;cases hn
   rw[h3]at hr;cases hr).mono (heap ej hj) p2.fix (AJ _)⟩
 ·try simp only at hj hj'
  split at hj<;>split at hj'
  ·rename_i a b;rw[a,b]
  ·rename_i a a';exfalso;rcases old hj with⟨c2,h1⟩|h1
   ·exact a' (hinj j' k b c' c2 hj' h1)
   have:=hlt hj';omega
  ·rename_i a a';exfalso;rcases old hj' with⟨c2,h1⟩|h1
   ·exact a (hinj j k b c c2 hj h1)
   have:=hlt hj;omega
  exact hinj j j' b c c' hj hj'
 ·try simp only at hj
  split at hj
  ·rename_i ej;subst ej;rw[List.getElem?_set_self hk]at h2;cases h2;exact p6 0 b c i e' hj rfl h3
  rename_i ej;rw[List.getElem?_set_ne (λh=>ej h.symm)]at h2;rcases p2.im b i h3 with h4|h4|⟨j',c',h4⟩
  ·exact hfz j b c i e0 hj h2 h4
  ·have:=hlt hj;omega
  exact absurd (hinj j k b c c' hj (o0 h4).2) ej
 ·grind
 refine zF4 (λj y hj=>?_) x v p8;grind
theorem zRc{I:Im}{w:World}{β β':Be}:∀{us vs:List Value},RelT I w β (us.map .val) vs->RelT I w β' (us.map .val) vs
 |[],vs,h=>by simpa only[Bo,RelT]using h
 |u::us,vs,h=>by
  simp only[AI,RelT,Rel]at h⊢;obtain⟨v,vs',h1,h2,h3⟩:=h;exact⟨v,vs',h1,h2,zRc h3⟩
theorem zVw{k off n m:Nat}{wh:Bool}(us:List Value)(I:Im)(w:World)(β:Be)(vs:List Value)(h:RelT I w β (.osl k off n m wh::us.map .val) vs):RelT I w (only β k) (.osl 0 off n m wh::us.map .val) vs:=by
 grind [only,RelT,zRc,Rel]
section
variable {P : Program} {T : Par} {ops : Array Oper} {dr : Bool} {l : List Oper} {sl : List D} {st : List Bk} {K : List D → List Bk → Prop}
mutual
/-- the own blocks that data names -/
def ownN:D->List Nat
 | .own j _=>[j]
 | .osl j _ _ _ _=>[j]
 | .osr j _ _ _ _ _=>[j]
 | .mref j=>[j]
 | .agg cs=>ownL cs
 | .tup cs=>ownL cs
 | .clo _ x y=>ownL x++ownL y
 | .ifc _ d=>ownN d
 |_=>[]
def ownL:List D->List Nat
 |[]=>[]
 |d::ds=>ownN d++ownL ds
end
mutual
theorem zQ9{k:Nat}:∀d:D,(∀j∈ownN d,j≠k)->refs k d=Ad
 | .own j o,h=>by simp only[refs,beq_eq_false_iff_ne];exact h j (by simp[ownN])
 | .osl j _ _ _ _,h=>by simp only[refs,beq_eq_false_iff_ne];exact h j (by simp[ownN])
 | .osr j _ _ _ _ _,h=>by simp only[refs,beq_eq_false_iff_ne];exact h j (by simp[ownN])
 | .mref j,h=>by simp only[refs,beq_eq_false_iff_ne];exact h j (by simp[ownN])
 | .agg cs,h=>by simp only[refs];exact zGa cs λj hj=>h j (by simpa[ownN]using hj)
 | .tup cs,h=>by simp only[refs];exact zGa cs λj hj=>h j (by simpa[ownN]using hj)
 | .clo _ x y,h=>by
  simp only[refs,zGa x λj hj=>h j (by simp[ownN,hj]),zGa y λj hj=>h j (by simp[ownN,hj]),Bool.or_false]
 | .ifc _ d,h=>by simp only[refs];exact zQ9 d λj hj=>h j (by simpa[ownN]using hj)
 | .unk,_| .val _,_| .row _ _,_| .ptr _,_| .mfz _ _,_| .fx _,_=>by simp only[refs]
theorem zGa{k:Nat}:∀ds:List D,(∀j∈ownL ds,j≠k)->zC4 k ds=Ad
 |[],_=>by simp only[zC4]
 |d::ds,h=>by
  simp only[zC4,zQ9 d λj hj=>h j (by simp[ownL,hj]),zGa ds λj hj=>h j (by simp[ownL,hj]),Bool.or_false]
end
end
section
variable {P : Program} {T : Par}
abbrev Uk:D:= .unk
abbrev i6(z:Int):Prop:=-9223372036854775808<=z/\z<=9223372036854775807
abbrev u6(z:Int):Prop:=0<=z/\z<=18446744073709551615
abbrev u3(z:Int):Prop:=0<=z/\z<=4294967295
abbrev ix(i n:Int)(R:Prop):Prop:=0<=i/\i<n/\R
abbrev Fs:=List D×List Bk
def rP(P:Program)(T:Par)(ops:Array Oper)(raws:List Nat)(l:List Oper)(gs:List (Nat×Bool))(p:Fs):Fs:=match runL P T ops raws l gs p.1 p.2 with
 |some x=>x.2
 |none=>p
def setP(p:Fs)(i:Nat)(d:D):Fs:=(p.1.set i d,p.2)
def setQ(p:Fs)(i:Nat)(b:Bk):Fs:=(p.1,p.2.set i b)
section
variable {ops : Array Oper} {dr : Bool} {l : List Oper} {p : Fs} {K : List D → List Bk → Prop}
theorem v0s{sl:List D}{st:List Bk}(k:seqW P T ops dr l (sl,st).1 (sl,st).2 K):seqW P T ops dr l sl st K:=k
theorem vw(n:Nat)(raws:List Nat)(gs:List (Nat×Bool))(C:Prop)(k:seqW P T ops dr (l.drop n) (rP P T ops raws (l.take n) gs p).1 (rP P T ops raws (l.take n) gs p).2 K)
  (hc:C:=by first|exact True.intro|omega|(repeat' first|exact True.intro|omega|apply And.intro|assumption|decide|(simp;done)|(simp;omega)|kernel_rfl))
  (h:(runL P T ops raws (l.take n) gs p.1 p.2).map (λx=>Alls x.1)=Ac C:=by kernel_rfl):seqW P T ops dr l p.1 p.2 K:=by
 rw[AE]at h;obtain⟨⟨c,s1,s2⟩,h1,rfl⟩:=h;simp only[rP,h1]at k;grind [zCi,BK]
theorem vr(n:Nat)(C:Prop)(k:seqW P T ops dr (l.drop n) (rP P T ops [] (l.take n) [] p).1 (rP P T ops [] (l.take n) [] p).2 K)
  (hc:C:=by first|exact True.intro|omega|(repeat' first|exact True.intro|omega|apply And.intro|assumption|decide|(simp;done)|(simp;omega)|kernel_rfl))
  (h:(runL P T ops [] (l.take n) [] p.1 p.2).map (λx=>Alls x.1)=Ac C:=by kernel_rfl):seqW P T ops dr l p.1 p.2 K:=vw n [] [] C k hc h
theorem vrT(n:Nat)(k:seqW P T ops dr (l.drop n) (rP P T ops [] (l.take n) [] p).1 (rP P T ops [] (l.take n) [] p).2 K)
  (h:(runL P T ops [] (l.take n) [] p.1 p.2).map (λx=>Alls x.1)=Ac True:=by kernel_rfl):seqW P T ops dr l p.1 p.2 K:=vw n [] [] True k trivial h
theorem vwh(n:Nat)(raws:List Nat)(gs:List (Nat×Bool))(C:Prop)(hc:C)(k:seqW P T ops dr (l.drop n) (rP P T ops raws (l.take n) gs p).1 (rP P T ops raws (l.take n) gs p).2 K)(h:(runL P T ops raws (l.take n) gs p.1 p.2).map (λx=>Alls x.1)=Ac C:=by kernel_rfl):seqW P T ops dr l p.1 p.2 K:=vw n raws gs C k hc h
theorem vew{b:Code}{Q Q':Exit->List D->List Bk->Prop}(raws:List Nat)(gs:List (Nat×Bool))(C:Prop)(k:awp P T b Q (rP P T ops raws l gs p).1 (rP P T ops raws l gs p).2)
  (hc:C:=by first|exact True.intro|omega|(repeat' first|exact True.intro|omega|apply And.intro|assumption|decide|(simp;done)|(simp;omega)|kernel_rfl))
  (h:(runL P T ops raws l gs p.1 p.2).map (λx=>Alls x.1)=Ac C:=by kernel_rfl):seqW P T ops dr l p.1 p.2 (zAe (zAh P T b Q) Q' .normal):=by
 rw[AE]at h;obtain⟨⟨c,s1,s2⟩,h1,rfl⟩:=h;simp only[rP,h1]at k
 have:=zCi (P:=P) (T:=T) (dr:=dr) (K:=zAe (zAh P T b Q) Q' .normal) l [] gs p.1 p.2 c s1 s2 h1 hc ?_
 ·grind
 exact⟨_,_,Weak.refl _ _,k⟩
theorem vewh{b:Code}{Q Q':Exit->List D->List Bk->Prop}(raws:List Nat)(gs:List (Nat×Bool))(C:Prop)(hc:C)(k:awp P T b Q (rP P T ops raws l gs p).1 (rP P T ops raws l gs p).2)(h:(runL P T ops raws l gs p.1 p.2).map (λx=>Alls x.1)=Ac C:=by kernel_rfl):seqW P T ops dr l p.1 p.2 (zAe (zAh P T b Q) Q' .normal):=vew raws gs C k hc h
theorem ve{b:Code}{Q Q':Exit->List D->List Bk->Prop}(C:Prop)(k:awp P T b Q (rP P T ops [] l [] p).1 (rP P T ops [] l [] p).2)
  (hc:C:=by first|exact True.intro|omega|(repeat' first|exact True.intro|omega|apply And.intro|assumption|decide|(simp;done)|(simp;omega)|kernel_rfl))
  (h:(runL P T ops [] l [] p.1 p.2).map (λx=>Alls x.1)=Ac C:=by kernel_rfl):seqW P T ops dr l p.1 p.2 (zAe (zAh P T b Q) Q' .normal):=vew [] [] C k hc h
theorem veT{b:Code}{Q Q':Exit->List D->List Bk->Prop}(k:awp P T b Q (rP P T ops [] l [] p).1 (rP P T ops [] l [] p).2)
  (h:(runL P T ops [] l [] p.1 p.2).map (λx=>Alls x.1)=Ac True:=by kernel_rfl):seqW P T ops dr l p.1 p.2 (zAe (zAh P T b Q) Q' .normal):=vew [] [] True k trivial h
def isC3(d:D):Bool:=zGe d||zG2 d||(match d with
 | .tup _=>Ab
 |_=>Ad)
theorem vsh(i:Nat){d0 d:D}(hd:d0=d)(k:seqW P T ops dr l (setP p i d).1 (setP p i d).2 K)(h:p.1.getD i .unk=d0:=by kernel_rfl)(hu:isC3 d=true:=by kernel_rfl):seqW P T ops dr l p.1 p.2 K:=by
 subst hd;simp only[setP]at k;rwa[zGp h (by intro e;subst e;simp[isC3,zGe,zG2]at hu)]at k
theorem vs(i:Nat)(d0 d:D)(k:seqW P T ops dr l (setP p i d).1 (setP p i d).2 K)(hd:d0=d:=by simp(disch:=omega) only[*,_root_.Int.toNat_natCast,_root_.Nat.mul_one,_root_.Nat.zero_add,_root_.List.drop_zero,_root_.Nat.sub_zero,_root_.List.cons_append,_root_.List.nil_append,cellsOf,setAt,_root_.List.headD_cons,_root_.Bool.not_true,_root_.List.length_map])(h:p.1.getD i .unk=d0:=by kernel_rfl)(hu:isC3 d=true:=by kernel_rfl):seqW P T ops dr l p.1 p.2 K:=vsh i hd k h hu
theorem vp(i n:Nat)(X:List D)(k:seqW P T ops dr l (setP p i (.ptr (X.drop n))).1 (setP p i (.ptr (X.drop n))).2 K)(h:p.1.getD i .unk= .ptr (X.drop (n*1)):=by kernel_rfl):seqW P T ops dr l p.1 p.2 K:=vsh i (by rw[Bp]) k h (by rfl)
theorem vo(i b n:Nat)(k:seqW P T ops dr l (setP p i (.own b n)).1 (setP p i (.own b n)).2 K)(h:p.1.getD i .unk= .own b (0+n*1):=by kernel_rfl):seqW P T ops dr l p.1 p.2 K:=vsh i (by rw[Bp,Cd]) k h (by rfl)
theorem vo0(i b n:Nat)(k:seqW P T ops dr l (setP p i (.own b n)).1 (setP p i (.own b n)).2 K)(h:p.1.getD i .unk= .own b (0+n):=by kernel_rfl):seqW P T ops dr l p.1 p.2 K:=vsh i (by rw[Cd]) k h (by rfl)
theorem vb(i:Nat)(b0 b:Bk)(k:seqW P T ops dr l (setQ p i b).1 (setQ p i b).2 K)(hd:b0=b:=by simp(disch:=omega) only[*,_root_.Int.toNat_natCast,_root_.Nat.mul_one,_root_.Nat.zero_add,_root_.List.drop_zero,_root_.Nat.sub_zero,_root_.List.cons_append,_root_.List.nil_append,cellsOf,setAt,_root_.List.headD_cons,_root_.Bool.not_true,_root_.List.length_map])(h:p.2[i]?=Ac b0:=by kernel_rfl):seqW P T ops dr l p.1 p.2 K:=st_blk i b0 b h hd k
def cSt(P:Program)(T:Par)(ops:Array Oper)(l:List Oper)(p:Fs):List Bk:=match zKt P T ops l [] p.1 p.2 with
 |some x=>x.2.2.2
 |none=>p.2
def cP(P:Program)(T:Par)(ops:Array Oper)(l:List Oper)(x:D)(p:Fs):Fs:=(putD p.1 (hdst l) x,cSt P T ops l p)
def nP(P:Program)(T:Par)(ops:Array Oper)(l:List Oper)(x:D)(bs:List Bk)(p:Fs):Fs:=(putD p.1 (hdst l) (zBu p.2.length x),cSt P T ops l p++bs)
theorem vc{f:FuncId}{args:List D}{x:D}(hp:Pure P f args [] x)(k:seqW P T ops dr l.tail (cP P T ops l x p).1 (cP P T ops l x p).2 K)(h:(zKt P T ops l [] p.1 p.2).map (λx=>(x.1,x.2.1,x.2.2.1))=Ac ([],f,args):=by kernel_rfl):seqW P T ops dr l p.1 p.2 K:=by
 rw[AE]at h;obtain⟨⟨c,g,a,s⟩,h1,h2⟩:=h;simp only[AF.injEq]at h2;obtain⟨rfl,rfl,rfl⟩:=h2;simp only[cP,cSt,h1]at k;exact zSi [] [] a s a h1 trivial (LeL.refl _) hp k
theorem vca{f:FuncId}(args:List D){x:D}(hp:Pure P f args [] x)(k:seqW P T ops dr l.tail (cP P T ops l x p).1 (cP P T ops l x p).2 K)(h:(zKt P T ops l [] p.1 p.2).map (λx=>(x.1,x.2.1,x.2.2.1))=Ac ([],f,args):=by kernel_rfl):seqW P T ops dr l p.1 p.2 K:=vc hp k h
theorem vcl{f:FuncId}(args:List D){x:D}(args':List D)(ha:LeL args args')(hp:Pure P f args' [] x)(k:seqW P T ops dr l.tail (cP P T ops l x p).1 (cP P T ops l x p).2 K)(h:(zKt P T ops l [] p.1 p.2).map (λx=>(x.1,x.2.1,x.2.2.1))=Ac ([],f,args):=by kernel_rfl):seqW P T ops dr l p.1 p.2 K:=vc (hp.le ha) k h
theorem vnl{f:FuncId}(args:List D){x:D}{n:Bk}{news:List Bk}(args':List D)(ha:LeL args args')(hp:Pure P f args' (n::news) x)(k:seqW P T ops dr l.tail (nP P T ops l x (n::news) p).1 (nP P T ops l x (n::news) p).2 K)(h:(zKt P T ops l [] p.1 p.2).map (λx=>(x.1,x.2.1,x.2.2.1))=Ac ([],f,args):=by kernel_rfl):seqW P T ops dr l p.1 p.2 K:=by
 rw[AE]at h;obtain⟨⟨c,g,a,s⟩,h1,h2⟩:=h;simp only[AF.injEq]at h2;obtain⟨rfl,rfl,rfl⟩:=h2;simp only[nP,cSt,h1]at k;exact st_callN [] [] a s args' h1 trivial ha hp k
theorem vn{f:FuncId}{args:List D}{x:D}{n:Bk}{news:List Bk}(hp:Pure P f args (n::news) x)(k:seqW P T ops dr l.tail (nP P T ops l x (n::news) p).1 (nP P T ops l x (n::news) p).2 K)(h:(zKt P T ops l [] p.1 p.2).map (λx=>(x.1,x.2.1,x.2.2.1))=Ac ([],f,args):=by kernel_rfl):seqW P T ops dr l p.1 p.2 K:=vnl args args (LeL.refl _) hp k h
theorem vnil{sl:List D}{st:List Bk}(k:K sl st)(e:l=[]:=by kernel_rfl):seqW P T ops dr l sl st K:=zG4 k e
theorem vsp(t:Nat)(b:Bool)(k1:b=Ab->seqW P T ops dr l (setP p t (.val (.bool Ab))).1 (setP p t (.val (.bool Ab))).2 K)(k2:b=Ad->seqW P T ops dr l (setP p t (.val (.bool Ad))).1 (setP p t (.val (.bool Ad))).2 K)(h:zWf ops l p.1=Ac (t,b):=by kernel_rfl):seqW P T ops dr l p.1 p.2 K:=st_split t b h k1 k2
theorem vspD(t:Nat)(q:Prop)[Decidable q](k1:q->seqW P T ops dr l (setP p t (.val (.bool Ab))).1 (setP p t (.val (.bool Ab))).2 K)(k2:¬q->seqW P T ops dr l (setP p t (.val (.bool Ad))).1 (setP p t (.val (.bool Ad))).2 K)(h:zWf ops l p.1=Ac (t,decide q):=by kernel_rfl):seqW P T ops dr l p.1 p.2 K:=vsp t (decide q) (λe=>k1 (of_decide_eq_true e)) (λe=>k2 (of_decide_eq_false e)) h
end
section
variable {Q : Exit → List D → List Bk → Prop} {sl : List D} {st : List Bk}
theorem v0{c:Code}(k:awp P T c Q (sl,st).1 (sl,st).2):awp P T c Q sl st:=k
theorem vA{i:Nat}{ops:Array Oper}{b:Code}(k:seqW P T ops Ad ops.toList sl st (zAe (zAh P T b Q) Q .normal)):awp P T (.seq (.region i ops Ad) b) Q sl st:=zB (zA rfl k)
theorem vAs{i:Nat}{ops:Array Oper}{b:Code}(k:seqW P T ops Ad ops.toList (sl,st).1 (sl,st).2 (zAe (zAh P T b Q) Q .normal)):awp P T (.seq (.region i ops Ad) b) Q sl st:=zB (zA rfl k)
theorem vAu{i:Nat}{ops:Array Oper}{b:Code}(k:awp P T b Q (rP P T ops [] ops.toList [] (sl,st)).1 (rP P T ops [] ops.toList [] (sl,st)).2)(h:(runL P T ops [] ops.toList [] (sl,st).1 (sl,st).2).map (λx=>Alls x.1)=Ac True:=by kernel_rfl):awp P T (.seq (.region i ops Ad) b) Q sl st:=zB (zA rfl (v0s (veT k h)))
theorem vAe{i:Nat}{ops:Array Oper}{b:Code}{p:Fs}(k:awp P T b Q (rP P T ops [] ops.toList [] p).1 (rP P T ops [] ops.toList [] p).2)(h:(runL P T ops [] ops.toList [] p.1 p.2).map (λx=>Alls x.1)=Ac True:=by kernel_rfl):awp P T (.seq (.region i ops Ad) b) Q p.1 p.2:=zB (zA rfl (veT k h))
theorem vN{Q':Exit->List D->List Bk->Prop}{b:Code}(h:awp P T b Q sl st):zAe (zAh P T b Q) Q' .normal sl st:=zC (zE h)
theorem vK{Q':Exit->List D->List Bk->Prop}{b:Code}(h:awp P T b Q sl st):awp P T .skip (zAe (zAh P T b Q) Q') sl st:=zJ (zC (zE h))
theorem vB{i:Nat}{a b:Code}(h:awp P T a (zAb i (zAe (zAh P T b Q) Q)) sl st):awp P T (.seq (.block i a) b) Q sl st:=zB (zF h)
theorem vY{K:List D->List Bk->Prop}{i:Nat}(h:Q .normal sl st):awp P T (.exit i) (zAe K (zAb i Q)) sl st:=zT (zM (zR rfl h))
theorem vY2{K K':List D->List Bk->Prop}{i:Nat}(h:Q .normal sl st):awp P T (.exit i) (zAe K' (zAe K (zAb i Q))) sl st:=zT (zM (zM (zR rfl h)))
theorem vZ{Q':Exit->List D->List Bk->Prop}{K:List D->List Bk->Prop}{i:Nat}{b:Code}(h:awp P T b Q sl st):awp P T (.exit i) (zAe K (zAb i (zAe (zAh P T b Q) Q'))) sl st:=vY (vN h)
theorem vZ2{Q':Exit->List D->List Bk->Prop}{K K':List D->List Bk->Prop}{i:Nat}{b:Code}(h:awp P T b Q sl st):awp P T (.exit i) (zAe K' (zAe K (zAb i (zAe (zAh P T b Q) Q')))) sl st:=vY2 (vN h)
theorem vKB{Q':Exit->List D->List Bk->Prop}{i:Nat}{a b:Code}(h:awp P T a (zAb i (zAe (zAh P T b Q) Q)) sl st):awp P T .skip (zAe (zAh P T (.seq (.block i a) b) Q) Q') sl st:=vK (vB h)
theorem vd{i:Nat}{ops:Array Oper}(ord:List Nat){l:List Oper}(h:seqW P T ops Ab l sl st (Q .normal))(hr:zW8 T ops ord=true:=by kernel_rfl)(hl:(ord.map λi=>ops.getD i Al)=l:=by rfl):awp P T (.region i ops Ab) Q sl st:=awp_drawn ord hr hl h
theorem vcD{c:Operand}{x y:Code}(q:Prop)[Decidable q](h:q->awp P T x Q sl st)(h':¬q->awp P T y Q sl st)(hc:evD sl c= .val (.bool (decide q)):=by kernel_rfl):awp P T (.cond c x y) Q sl st:=zAa hc (λe=>h (of_decide_eq_true e)) (λe=>h' (of_decide_eq_false e))
def keepL:Nat->List D->List Nat->List D
 |_,[],_=>[]
 |i,d::ds,ks=>(if ks.contains i then d else .unk)::keepL (i+1) ds ks
theorem zZn:∀(i:Nat)(ds:List D)(ks:List Nat),LeL ds (keepL i ds ks)
 |_,[],_=> .nil
 |i,d::ds,ks=> .cons (by split;exact .refl _;exact .unk _) (zZn (i+1) ds ks)
theorem vkp{sl':List D}(ks:List Nat)(h:keepL 0 sl ks=sl':=by kernel_rfl):Weak T sl st sl' st:=by
 subst h;exact Weak.slots (zZn 0 _ ks)
theorem vT{c:Operand}{x y:Code}(p:Prop)[Decidable p](h:awp P T x Q sl st)(ht:p:=by first|omega|assumption)(hc:evD sl c= .val (.bool (decide p)):=by kernel_rfl):awp P T (.cond c x y) Q sl st:=by simp_all [zD2,ht]
theorem vF{c:Operand}{x y:Code}(p:Prop)[Decidable p](h:awp P T y Q sl st)(ht:¬p:=by first|omega|assumption)(hc:evD sl c= .val (.bool (decide p)):=by kernel_rfl):awp P T (.cond c x y) Q sl st:=by simp_all [zG9,ht]
theorem vt{c:Operand}{x y:Code}(h:awp P T x Q sl st)(hc:evD sl c= .val (.bool Ab):=by kernel_rfl):awp P T (.cond c x y) Q sl st:=zD2 hc rfl h
theorem vf{c:Operand}{x y:Code}(h:awp P T y Q sl st)(hc:evD sl c= .val (.bool Ad):=by kernel_rfl):awp P T (.cond c x y) Q sl st:=zG9 hc rfl h
theorem vEt{c:Operand}{x y:Code}(a b:Int)(h:awp P T x Q sl st)(ht:a=b:=by first|omega|assumption)(hc:evD sl c= .val (.bool (a==b)):=by kernel_rfl):awp P T (.cond c x y) Q sl st:=by simp_all [zD2,ht]
theorem vEf{c:Operand}{x y:Code}(a b:Int)(h:awp P T y Q sl st)(ht:¬a=b:=by first|omega|assumption)(hc:evD sl c= .val (.bool (a==b)):=by kernel_rfl):awp P T (.cond c x y) Q sl st:=by simp_all [zG9,ht]
theorem vret{rs:List ResultVar}{e:Exit}{x:D}(C:Prop)(he:e= .normal\/e= .ret)(hc:C:=by first|exact True.intro|omega|(repeat' first|exact True.intro|omega|apply And.intro|assumption|decide|(simp;done)|(simp;omega)|kernel_rfl))
  (h:(retC P rs sl st).map (λx=>(Alls x.1,zGb x.2))=Ac (C,x):=by kernel_rfl):(e= .normal\/e= .ret)/\retL P sl st rs (λds=>∃y ks,frz Ab st zA6 (oneD ds)=Ac (y,ks)/\LeD y x):=zBr C x x he rfl rfl (h:=h) (hc:=hc)
theorem vre{rs:List ResultVar}{e:Exit}{x:D}(C:Prop)(y:D)(he:e= .normal\/e= .ret)(hx:y=x)(hc:C:=by first|exact True.intro|omega|(repeat' first|exact True.intro|omega|apply And.intro|assumption|decide|(simp;done)|(simp;omega)|kernel_rfl))
  (h:(retC P rs sl st).map (λx=>(Alls x.1,zGb x.2))=Ac (C,y):=by kernel_rfl):(e= .normal\/e= .ret)/\retL P sl st rs (λds=>∃y ks,frz Ab st zA6 (oneD ds)=Ac (y,ks)/\LeD y x):=zBr C y y he rfl hx (h:=h) (hc:=hc)
def tgt1(d d':D):D:=match d' with
 | .unk=> .unk
 | _=>match d with
  | .val (.slice Aj 0 0)=>(match d' with
   | .osl k 0 0 0 b=> .osl k 0 0 0 b
   | .row [] 0=> .row [] 0
   |_=>d)
  |_=>d
theorem tgt1_le(d d':D):LeD d (tgt1 d d'):=by
 unfold tgt1;split
 ·exact .unk _
 split
 ·split
  ·exact .nil _ _
  ·exact .nil_row
  exact .refl _
 exact .refl _
def tgtL:List D->List D->List D
 |[],_=>[]
 |d::ds,[]=>d::ds
 |d::ds,d'::ds'=>tgt1 d d'::tgtL ds ds'
theorem zN6:∀ds ds':List D,LeL ds (tgtL ds ds')
 |[],_=> .nil
 |d::ds,[]=> .refl _
 |d::ds,d'::ds'=> .cons (tgt1_le d d') (zN6 ds ds')
theorem wk(i:Nat)(d0 d:D)(hd:d0=d){sl':List D}{st':List Bk}(k:Weak T (sl.set i d) st sl' st')(h:sl.getD i .unk=d0:=by kernel_rfl)(hu:isC3 d=true:=by kernel_rfl):Weak T sl st sl' st':=by
 subst hd;rwa[zGp h (by intro e;subst e;simp[isC3,zGe,zG2]at hu)]at k
theorem vk{sl':List D}{st':List Bk}(m:Nat)(hk:∀k,m<=k->T.keep k=false:=by exact λ_ _=>rfl)(h:tgtL sl sl'=sl':=by kernel_rfl)(hn:zLy sl' st m st.length=true:=by kernel_rfl)(e:st.take m=st'.take m:=by kernel_rfl):Weak T sl st sl' st':=by grind [Weak.all,zN6,BK]
def fr(n:Nat)(ch:List (Nat×D)):List D:=updS (AB n .unk) ch
theorem vnt{ops:Array Oper}{dr:Bool}{l:List Oper}{K:List D->List Bk->Prop}(st':List Bk)(k:seqW P T ops dr l sl st' K)(h2:st=st':=by kernel_rfl):seqW P T ops dr l sl st K:=by subst h2;exact k
theorem wkn(sl0:List D)(st0:List Bk){sl':List D}{st':List Bk}(k:Weak T sl0 st0 sl' st')(h:tgtL sl sl0=sl0:=by kernel_rfl)(h2:st=st0:=by kernel_rfl):Weak T sl st sl' st':=by
 subst h2;exact(Weak.slots (h▸zN6 sl sl0)).trans k
theorem vnn{b:Code}(sl':List D)(st':List Bk)(k:zAh P T b Q sl' st')(h:tgtL sl sl'=sl':=by kernel_rfl)(h2:st=st':=by kernel_rfl):zAh P T b Q sl st:=by
 subst h2;obtain⟨a,c,h3,h4⟩:=k;exact⟨a,c,(Weak.slots (h▸zN6 sl sl')).trans h3,h4⟩
end
end
end
section
open Go.RowKit
attribute [local irreducible] seqW awp zAe zAh zAb Weak updS zAs retL Pure Acts rP setP setQ cP nP fr
set_option maxRecDepth 4096
abbrev byB(l:List UInt8):Bk:=⟨zAg l,5,1,Ab,Ad, .plain⟩
def Ta:Par:=⟨λf=>f==163||f==177||f==193||f==201,λ_ _=>Aj,λk=>k==1,λ_=>Ad,λ_=>Ad⟩
theorem Ta_ok:zCe An Ta:=by intro t n f h;cases h
theorem zDa(a b:List UInt8):zAg a++zAg b=zAg (a++b):=by simp[zAg]
theorem zBe(a:List UInt8):(zAg a).length=a.length:=by simp[zAg]
theorem zHk(l:List UInt8):(BS l).map Af=zAg l:=by simp[BS,zAg]
theorem zMn(l:List UInt8):(zAg l).map zKj=zAg l:=by simp[zAg,zKj]
theorem zW1(l:List UInt8)(r:List D)(n:Nat)(h:l.length=n):(zAg l++r).take n=zAg l:=by
 grind [zBe,BF]
theorem bs_dl(l:List UInt8):(bs l).data.toList=l:=rfl
theorem dd_len(u:Nat)(h:u<18446744073709551616):(Ar u).length<=20:=by
 rw[Cx];exact Cz u h
set_option maxHeartbeats 2000000 in
theorem zR8(l:List UInt8)(u:Nat)(n:Nat)(hn:l.length=n)(hl:n<=1000000000)(hu:u<18446744073709551616):Acts An 193 [.osl 0 0 n n Ab, .val (.int .u64 u), .val (.int .i64 10)] [byB l] [0] (.osl 0 0 (n+(Ar u).length) (n+(Ar u).length) Ab) [byB (l++Ar u)]:=by
 subst hn;have hd:=dd_len u hu;by_cases h1:u<100
 ·refine zB1 Ta_ok mixed Tryz.func193 rfl (by intro k hk;match k,hk with|0,_=>exact .inr (by simp)|1,_=>exact .inl rfl)<|vAu<|zB<|vAe<|vt<|zB<|vAe<|vT ((u:Int)<(100:Int))<|vA<|vr 3 (i6 (u:Int))<|vc (small_c u h1)<|vr 1 (Bk.arr (byB l)=Ab/\Aa (A1<|byB l)=Aa l*1/\Aa l=Aa l*1/\Bk.ty (byB l)=5/\Bk.sz (byB l)=1/\Aa (zAg<|AW<|AX<|AS<|Ba<|Ar u)=Aa (AW<|AX<|AS<|Ba<|Ar u)*1/\0<1/\0<1/\5=5/\(Aa l+Aa (AW<|AX<|AS<|Ba<|Ar u))*1<=140737488355328/\1=1/\Bi (Bk.kd<|byB l)=Ad/\(Ad=Ad\/Bj (Bk.kd<|byB l)=Ab)) (vb 0 (Ap (A1 (byB l)++zAg (AW<|AX<|AS<|Ba<|Ar u)) (Bk.ty<|byB l) (Bk.sz<|byB l) Ab Ad<|Bk.kd<|byB l) (Ap (zAg (l++Ar u)) (5:TypeId) 1 Ab Ad Aq) (hd:=by simp(disch:=omega) only[zDa])<|vrT 1<|vs 6 (Ao 0 0 (Aa l+Aa (AW<|AX<|AS<|Ba<|Ar u)) ((Aa l+Aa (AW<|AX<|AS<|Ba<|Ar u))*1) Ab) (Ao 0 0 (Aa l+Aa (Ar u)) (Aa l+Aa (Ar u)) Ab)<|veT<|zK<|zG<|zG ?_) ⟨(by kernel_rfl),⟨(by simp[zBe]),⟨(by omega),⟨(by kernel_rfl),⟨(by kernel_rfl),⟨(by simp[zBe]),⟨(by omega),⟨(by omega),⟨(by kernel_rfl),⟨(by(simp;omega)),⟨(by kernel_rfl),⟨(by kernel_rfl),(by simp)⟩⟩⟩⟩⟩⟩⟩⟩⟩⟩⟩⟩;refine zBh (True) [Ao 0 0 (Aa l+Aa (Ar u)) (Aa l+Aa (Ar u)) Ab] (.inr rfl) ?_;exact⟨by kernel_rfl,by kernel_rfl⟩
 have h2:Au u<=20:=Cz u hu;have hz:∀n,n<=20->(AB 24 (Af (.int .u8 0))).take n=AB n (.val (.int .u8 0)):=λn h=>by rw[List.take_replicate,Cc (by omega)]
 have hx:=Cx u;have hk:∀r,(zAg (Ar u)++r).take (Au u)=zAg (Ar u):=λr=>zW1 _ r _ hx;have main:Acts An 193 [.osl 0 0 l.length l.length Ab, .val (.int .u64 u), .val (.int .i64 10)] [byB l] [0] (.osl 0 0 (l.length+(Ar u).length) (l.length+(Ar u).length) Ab) [byB (l++Ar u),⟨Ai (zBy 0) (zAg (Ar u)++Am (Au u) (AB 24 (.val (.int .u8 0)))),314,0,Ad,Ad, .plain⟩]:=by
  refine zB1 Ta_ok mixed Tryz.func193 rfl (by intro k hk;match k,hk with|0,_=>exact .inr (by simp)|1,_=>exact .inl rfl)<|vAu<|zB<|vAe<|vt<|zB<|vAe<|vF ((u:Int)<(100:Int))<|vK<|vAe<|vA<|vrT 1<|vc (zSx u (by omega) hu)<|veT<|vA<|vr 2 (True/\(0:Int)<=(↑(Au u):Int)/\0<1/\Aw (↑(Au u):Int)<=24/\24<=maxLen)<|vs 21 (Ao 1 0 (Aw (↑(Au u):Int)) (Aw (↑(Au u):Int)*1) Ad) (Ao 1 0 (Au u) (Au u) Ad)<|vrT 1<|vnt [byB l,Ap [Af<|Ag Ak (0:Int),Af<|Ag Ak (0:Int),Af<|Ag Ak (0:Int),Af<|Ag Ak (0:Int),Af<|Ag Ak (0:Int),Af<|Ag Ak (0:Int),Af<|Ag Ak (0:Int),Af<|Ag Ak (0:Int),Af<|Ag Ak (0:Int),Af<|Ag Ak (0:Int),Af<|Ag Ak (0:Int),Af<|Ag Ak (0:Int),Af<|Ag Ak (0:Int),Af<|Ag Ak (0:Int),Af<|Ag Ak (0:Int),Af<|Ag Ak (0:Int),Af<|Ag Ak (0:Int),Af<|Ag Ak (0:Int),Af<|Ag Ak (0:Int),Af<|Ag Ak (0:Int),Af<|Ag Ak (0:Int),Af<|Ag Ak (0:Int),Af<|Ag Ak (0:Int),Af<|Ag Ak (0:Int)] 314 0 Ad Ad Aq]<|zEw [] [] [Ao 1 0 (Au u) (Au u) Ad,Af<|Ag AA (u:Int)] [Ao 1 0 (Au u) (Au u) Ad,Af<|Ag AA (u:Int)] (LeL.refl _) (by exact zTd (k:=1) rfl rfl rfl rfl (hz _ h2) (by simp;omega) hu) ?_;refine v0s<|veT<|vA<|vr 3 (True/\(0:Int)<=(↑(Au u):Int)/\0<1/\Aw (↑(Au u):Int)<=24/\24<=maxLen)<|vs 26 (Ao 1 0 (Aw (↑(Au u):Int)) (Aw (↑(Au u):Int)*1) Ad) (Ao 1 0 (Au u) (Au u) Ad)<|vr 1 (Ab=Ab/\Aa (zAg l)=Aa l*1/\Aa l=Aa l*1/\5=5/\1=1/\Aa (Ai zKj<|Ay (Au u)<|Am 0 (Ai Af (BS<|Ar u)++Am (Au u) [Af<|Ag Ak 0,Af<|Ag Ak 0,Af<|Ag Ak 0,Af<|Ag Ak 0,Af<|Ag Ak 0,Af<|Ag Ak 0,Af<|Ag Ak 0,Af<|Ag Ak 0,Af<|Ag Ak 0,Af<|Ag Ak 0,Af<|Ag Ak 0,Af<|Ag Ak 0,Af<|Ag Ak 0,Af<|Ag Ak 0,Af<|Ag Ak 0,Af<|Ag Ak 0,Af<|Ag Ak 0,Af<|Ag Ak 0,Af<|Ag Ak 0,Af<|Ag Ak 0,Af<|Ag Ak 0,Af<|Ag Ak 0,Af<|Ag Ak 0,Af<|Ag Ak 0]))=Au u*1/\0<1/\0<1/\5=5/\(Aa l+Au u)*1<=140737488355328/\1=1/\Bi Aq=Ad/\(Ad=Ad\/Bj Aq=Ab)) ?_ ⟨(by kernel_rfl),⟨(by simp[zBe]),⟨(by omega),⟨(by kernel_rfl),⟨(by kernel_rfl),⟨(by simp[zBe,hk,zMn,zHk,hx]),⟨(by omega),⟨(by omega),⟨(by kernel_rfl),⟨(by omega),⟨(by kernel_rfl),⟨(by kernel_rfl),(by simp)⟩⟩⟩⟩⟩⟩⟩⟩⟩⟩⟩⟩;refine vb 0 (Ap (zAg l++Ai zKj (Ay (Au u)<|Am 0 (Ai Af (BS<|Ar u)++Am (Au u) [Af<|Ag Ak 0,Af<|Ag Ak 0,Af<|Ag Ak 0,Af<|Ag Ak 0,Af<|Ag Ak 0,Af<|Ag Ak 0,Af<|Ag Ak 0,Af<|Ag Ak 0,Af<|Ag Ak 0,Af<|Ag Ak 0,Af<|Ag Ak 0,Af<|Ag Ak 0,Af<|Ag Ak 0,Af<|Ag Ak 0,Af<|Ag Ak 0,Af<|Ag Ak 0,Af<|Ag Ak 0,Af<|Ag Ak 0,Af<|Ag Ak 0,Af<|Ag Ak 0,Af<|Ag Ak 0,Af<|Ag Ak 0,Af<|Ag Ak 0,Af<|Ag Ak 0]))) 5 1 Ab Ad Aq) (Ap (zAg (l++Ar u)) 5 1 Ab Ad Aq) (hd:=by simp(disch:=omega) only[zHk,A_,zMn,zDa,hk])<|vrT 1<|vs 6 (Ao 0 0 (Aa l+Au u) ((Aa l+Au u)*1) Ab) (Ao 0 0 (Aa l+Au u) (Aa l+Au u) Ab)<|veT<|zK<|zG<|zBh (True) [Ao 0 0 (Aa l+Au u) (Aa l+Au u) Ab] (.inr rfl) ?_;exact⟨by rw[hx];rfl,by rw[<-zHk (Ar u)];kernel_rfl⟩
 exact main.cut 1 (by simp) rfl
set_option maxHeartbeats 2000000 in
theorem appIntI_c(l:List UInt8)(z:Int)(n:Nat)(hn:l.length=n)(hl:n<=900000000)(h0:-9223372036854775808<=z)(h1:z<=9223372036854775807):Acts An 177 [.osl 0 0 n n Ab,iD z,iD 10] [byB l] [0] (.osl 0 0 (n+(Ae z).length) (n+(Ae z).length) Ab) [byB (l++Ae z)]:=by
 subst hn;by_cases hz:z<0
 ·have e:Ae z=45::Ar z.natAbs:=by unfold Ae;rw[if_pos hz]
  have e1:(AA.wrap (0-AA.wrap z))=((z.natAbs:Nat):Int):=by
   simp only[BJ,B0,B1,Cl,AY,if_false];omega
  have j1:=(zR8 (l++[45]) z.natAbs (l.length+1) (by simp) (by omega) (by omega)).atC 0 (st:=[byB (l++[45]),byB [45]]) rfl (.inl rfl) (.inl rfl) (zVw [.int .u64 z.natAbs, .int .i64 10]) (λj e0 hj he=>by match j,hj,he with|0,hj,_=>exact absurd rfl hj|1,_,he=>cases he;exact .inl rfl);have main:Acts An 177 [.osl 0 0 l.length l.length Ab,iD z,iD 10] [byB l] [0] (.osl 0 0 (l.length+1+(Ar z.natAbs).length) (l.length+1+(Ar z.natAbs).length) Ab) [byB (l++[45]++Ar z.natAbs),byB [45]]:=by
   refine zB1 Ta_ok mixed Tryz.func177 rfl (by intro k hk;match k,hk with|0,_=>exact .inr (by simp)|1,_=>exact .inl rfl)<|vAu<|vA<|vew [9] [] (True)<|zB<|vAe<|vT (z<0)<|vA<|vr 3 (((1=1/\1<=1/\True)/\0<1/\1=1/\1<=16777216/\1<=9223372036854775807)/\Bk.arr (byB l)=Ab/\Aa (A1<|byB l)=Aa l*1/\Aa l=Aa l*1/\Bk.ty (byB l)=5/\Bk.sz (byB l)=1/\1=1/\0<1/\0<1/\5=5/\(Aa l+1)*1<=140737488355328/\1=1/\Bi (Bk.kd<|byB l)=Ad/\(Ad=Ad\/Bj (Bk.kd<|byB l)=Ab)) (vb 0 (Ap (A1 (byB l)++[Af<|Ag Ak (45:Int)]) (Bk.ty<|byB l) (Bk.sz<|byB l) Ab Ad<|Bk.kd<|byB l) (Ap (zAg (l++[(45:UInt8)])) (5:TypeId) 1 Ab Ad Aq) (hd:=by simp(disch:=omega) only[zDa,show([Af (Ag Ak 45)]:List D)=zAg [45]from rfl])<|vrT 1<|vs 0 (Ao 0 0 (Aa l+1) ((Aa l+1)*1) Ab) (Ao 0 0 (Aa l+1) (Aa l+1) Ab)<|veT<|zA rfl<|vw 2 [16] [] (True)<|vs 16 (Af<|Ag AA<|BJ AA ((0:Int)-BJ AA z)) (Af<|Ag AA (↑(BT z):Int))<|veT<|vA<|vrT 3<|vnt [Ap (zAg (l++[(45:UInt8)])) (5:TypeId) 1 Ab Ad Aq,Ap (zAg [(45:UInt8)]) 5 1 Ab Ad Aq] ?_) ⟨⟨⟨(by kernel_rfl),⟨(by omega),trivial⟩⟩,(by omega)⟩,⟨(by kernel_rfl),⟨(by simp[zBe]),⟨(by omega),⟨(by kernel_rfl),⟨(by kernel_rfl),⟨(by kernel_rfl),⟨(by omega),⟨(by omega),⟨(by kernel_rfl),⟨(by omega),⟨(by kernel_rfl),⟨(by kernel_rfl),(by simp)⟩⟩⟩⟩⟩⟩⟩⟩⟩⟩⟩⟩⟩;refine zJl [] [] [Ao 0 0 (Aa l+1) (Aa l+1) Ab,Af<|Ag AA (↑(BT z):Int),iD 10] [Ao 0 0 (Aa l+1) (Aa l+1) Ab,Af<|Ag AA (↑(BT z):Int),iD 10] (by kernel_rfl) trivial (LeL.refl _) (by exact j1) (by kernel_rfl) ?_;refine v0s<|veT<|zK<|zBh (True) [Ao 0 0 (Aa l+1+Aa (Ar<|BT z)) (Aa l+1+Aa (Ar<|BT z)) Ab] (.inr rfl) ?_;exact⟨by kernel_rfl,by kernel_rfl⟩
  have h2:=main.cut 1 (by simp) rfl;grind
 obtain⟨u,rfl⟩:∃u:Nat,z=u:=⟨z.toNat,by omega⟩;have e:Ae u=Ar u:=Lib.itoa_nonneg u;have j1:=zR8 l u l.length rfl (by omega) (by omega);rw[e];refine zB1 Ta_ok mixed Tryz.func177 rfl (by intro k hk;match k,hk with|0,_=>exact .inr (by simp)|1,_=>exact .inl rfl)<|vAu<|vA<|ve (u6 (u:Int))<|zB<|vAe<|vF ((u:Int)<0)<|vK<|vA<|vrT 3<|vnt [byB l]<|zJl [] [] [Ao 0 0 (Aa l) (Aa l) Ab,Af<|Ag AA (u:Int),iD 10] [Ao 0 0 (Aa l) (Aa l) Ab,Af<|Ag AA (u:Int),iD 10] (by kernel_rfl) trivial (LeL.refl _) (by exact j1) (by kernel_rfl) ?_;refine v0s<|veT<|zK<|zBh (True) [Ao 0 0 (Aa l+Aa (Ar u)) (Aa l+Aa (Ar u)) Ab] (.inr rfl) ?_;exact⟨by kernel_rfl,by kernel_rfl⟩
theorem appInt_c(l:List UInt8)(z:Int)(n:Nat)(hn:l.length=n)(hl:n<=900000000)(h0:-9223372036854775808<=z)(h1:z<=9223372036854775807):Acts An 163 [.osl 0 0 n n Ab,iD z,iD 10] [byB l] [0] (.osl 0 0 (n+(Ae z).length) (n+(Ae z).length) Ab) [byB (l++Ae z)]:=by
 refine zB1 Ta_ok mixed Tryz.func163 rfl (by intro k hk;match k,hk with|0,_=>exact .inr (by simp)|1,_=>exact .inl rfl)<|vAu<|vA<|vrT 3<|vnt [byB l]<|zJl [] [] [Ao 0 0 n n Ab,iD z,iD 10] [Ao 0 0 n n Ab,iD z,iD 10] (by kernel_rfl) trivial (LeL.refl _) (by exact appIntI_c l z n hn hl h0 h1) (by kernel_rfl) ?_;refine v0s<|veT<|zK<|zBh (True) [Ao 0 0 (n+Aa (Ae z)) (n+Aa (Ae z)) Ab] (.inr rfl) ?_;exact⟨by kernel_rfl,by kernel_rfl⟩
theorem zMs{st:List Bk}(k:Nat)(l:List UInt8)(z:Int)(n:Nat)(hn:l.length=n)(hl:n<=900000000)(h0:-9223372036854775808<=z)(h1:z<=9223372036854775807)(he:st[k]?=Ac (byB l))(hno:∀j e0,j≠k->st[j]?=Ac e0->e0.nob=Ab\/zC4 k e0.cells=Ad):Acts An 163 [.osl k 0 n n Ab,iD z,iD 10] st [k] (.osl k 0 (n+(Ae z).length) (n+(Ae z).length) Ab) (st.set k (byB (l++Ae z))):=
 (appInt_c l z n hn hl h0 h1).atC k he (.inl rfl) (.inl rfl) (zVw [.int .i64 z, .int .i64 10]) hno
end
section
open Go.RowKit
theorem scmp_c(a b:List UInt8):Pure An 175 [strD a,strD b] [] (iD (AG a b)):=
 zC5 (us:=[.string (bs a), .string (bs b)]) λw=>(Tryz.strings_Compare (bs a) (bs b) w).mono λe w' h=>⟨h.1,h.2.symm⟩
end
section
open Go.RowKit
attribute [local irreducible] seqW awp zAe zAh zAb Weak updS zAs retL Pure Acts rP setP setQ cP nP fr
set_option maxRecDepth 4096
set_option maxHeartbeats 1000000 in
theorem zF3(l:List Nat)(n:Nat)(hn:l.length=n)(hd:Digs l)(hl:n<=1000000000:=by omega):Pure An 31 [.row (l.map dig) n] [] (natD (nval l)):=by
 subst hn;refine zH zBf mixed Tryz.func31 rfl<|vAu<|vAe<|vB<|zQ (λ(n:Nat)=>fr 22 [(0,digR l),(2,nl),(3,iD (n:Int))]) (λ_=>[]) (λn=>n) (λn=>n<=l.length/\zCl l n=zCl l l.length) l.length ?_ ?_ ?_
 ·grind
 ·refine vk 0
 rintro n ⟨h1,h2⟩;focus
  refine zB<|vAs<|vrT 3<|vspD 8 ((n:Int)>(0:Int)) (λhc=>?_)<|λhc=>?_;refine vr 3 (i6 (↑n-1))<|vs 11 (iD (↑n-1)) (iD ↑(n-1)) (hd:=by simp(disch:=omega) only[zEl])<|vr 1 (ix ↑(n-1) ↑(Aa l) (Ai dig l≠[])) (vp 12 (n-1) (Ai dig l)<|vr 1 (0<Aa (Am (n-1)<|Ai dig l))<|vs 13 (AK (Am (n-1)<|Ai dig l) Uk) (dig<|Ah l (n-1) 0) (hd:=by simp(disch:=omega) only[zBz])<|veT ?_) ⟨(by omega),⟨(by omega),(by exact zX)⟩⟩;refine zAa (t:=(↑(Ah l (n-1) 0):Int)==(0:Int)) (by kernel_rfl) (λhc=>?_)<|λhc=>?_;simp only[beq_iff_eq]at hc;refine vK<|zF<|zA rfl<|vr 2 (i6 (↑n-1))<|vs 17 (iD (↑n-1)) (iD ↑(n-1)) (hd:=by simp(disch:=omega) only[zEl])<|vrT 1<|vnil<|zD<|zC ?_;rotate_left;simp only[beq_eq_false_iff_ne]at hc;refine vZ2<|vA<|vr 4 (True/\(0:Int)<=(n:Int)/\(0:Int)<=(n:Int)/\0<1/\0<=Aw (n:Int)/\Aw (n:Int)<=Aa l/\Aw (n:Int)=Aw (n:Int))<|vs 21 (Av (Ay ((Aw (n:Int)-0)*1)<|Am 0<|Ai dig l) (Aw (n:Int)-0)) (Av (Ai dig<|Ay n l) n) (hd:=by simp(disch:=omega) only[A0,Nat.sub_zero,Bp,A_,zHs])<|veT<|zK<|vre (True) (Av (Ai dig<|Ay n l) n) (.inr rfl) ?_;rotate_left;refine veT<|vf<|vZ2<|vA<|vr 4 (True/\(0:Int)<=(n:Int)/\(0:Int)<=(n:Int)/\0<1/\0<=Aw (n:Int)/\Aw (n:Int)<=Aa l/\Aw (n:Int)=Aw (n:Int))<|vs 21 (Av (Ay ((Aw (n:Int)-0)*1)<|Am 0<|Ai dig l) (Aw (n:Int)-0)) (Av (Ai dig<|Ay n l) n) (hd:=by simp(disch:=omega) only[A0,Nat.sub_zero,Bp,A_,zHs])<|veT<|zK<|vre (True) (Av (Ai dig<|Ay n l) n) (.inr rfl) ?_;rotate_left
 ·refine⟨n-1,⟨by omega,?_⟩,by omega,?_⟩
  ·rw[<-h2];obtain⟨m,rfl⟩:∃m,n=m+1:=⟨n-1,by omega⟩;simp only[zCl];grind
  refine vk 0
 all_goals
  have e:n=zCl l l.length:=by
   rw[<-h2];cases n with
   |zero=>rfl
   |succ m=>
    simp only[zCl];grind
  have e2:(dg (nval l)).length=n:=by rw[<-zN5 hd,By,Cc (zM4 _ _),e]
  rw[natD,digR,e2,e,zN5 hd]
theorem of_c(n:Nat)(hn:n<18446744073709551616):Pure An 9 [.val (.int .u64 n)] [] (natD n):=by
 refine zH zBf mixed Tryz.func9 rfl<|vAu<|vA<|vw 4 [4] [] (True/\(0:Int)<=(32:Int))<|vs 6 (Af<|Ag AA<|Bd (n:Int) ((2:Int)^32)) (Af<|Ag AA (↑(n/4294967296):Int)) (hd:=by simp(disch:=omega) only[zJ2])<|vr 2 (u3 (↑(n/4294967296):Int)/\(1=1/\1<=2/\1=1/\2<=2/\True)/\0<1/\1=1/\2<=16777216/\2<=9223372036854775807)<|vc (zF3 [n%4294967296,n/4294967296] 2 rfl<|Digs.mk (by omega)<|Digs.mk (by omega) Digs.nil)<|veT<|zK<|vre (True) (natD<|nval [n%4294967296,n/4294967296]) (.inr rfl) ?_;grind [nval]
set_option maxHeartbeats 2000000 in
theorem add_c(a b:List Nat)(n m:Nat)(hn:a.length=n)(hm:b.length=m)(hl:n<=1000000)(hl':m<=1000000)(ha:Digs a)(hb:Digs b):Pure An 229 [.row (a.map dig) n, .row (b.map dig) m] [] (natD (nval a+nval b)):=by
 subst hn hm;have la:=zMh ha;have lb:=zMh hb;refine zH zBf mixed Tryz.func229 rfl ?_;focus
  refine vAu<|vA<|vrT 1<|vc (zF3 a _ rfl ha)<|vrT 1<|vc (zF3 b _ rfl hb)<|veT<|zB<|vAe<|vcD ((Aa (dg<|nval a):Int)<(Aa (dg<|nval b):Int)) (λhc=>?_)<|λhc=>?_;refine zA rfl<|veT<|vA<|vr 4 (i6 ((Aa (dg<|nval b):Int)+(1:Int))/\(0:Int)<=(↑(Aa (dg<|nval b)+1):Int)/\(↑(Aa (dg<|nval b)+1):Int)<=(↑(Aa (dg<|nval b)+1):Int)/\(↑(4:Nat):Int)*(↑(Aa (dg<|nval b)+1):Int)<=(281474976710656:Int)/\(↑(Aa (dg<|nval b)+1):Int)<=(281474976710656:Int)/\0<1/\1=1)<|vb 0 (Ap (repL (Aw (↑(Aa (dg<|nval b)+1):Int)) [Af<|Ag AV 0]) 27 1 Ab Ad<|kdOf Ad) (Ap (Ai dig<|AB (Aa (dg<|nval b)+1) 0) 27 1 Ab Ad<|kdOf Ad) (hd:=by simp(disch:=omega) only[A0,zPg])<|vrT 1<|vs 5 (Ao 0 0 (Aw (↑(Aa (dg<|nval b)+1):Int)) (Aw (↑(Aa (dg<|nval b)+1):Int)*1) Ab) (Ao 0 0 (Aa (dg<|nval b)+1) (Aa (dg<|nval b)+1) Ab)<|veT<|vAe<|zB<|vAe<|zF ?_;rotate_left;refine vK<|vA<|vr 4 (i6 ((Aa (dg<|nval a):Int)+(1:Int))/\(0:Int)<=(↑(Aa (dg<|nval a)+1):Int)/\(↑(Aa (dg<|nval a)+1):Int)<=(↑(Aa (dg<|nval a)+1):Int)/\(↑(4:Nat):Int)*(↑(Aa (dg<|nval a)+1):Int)<=(281474976710656:Int)/\(↑(Aa (dg<|nval a)+1):Int)<=(281474976710656:Int)/\0<1/\1=1)<|vb 0 (Ap (repL (Aw (↑(Aa (dg<|nval a)+1):Int)) [Af<|Ag AV 0]) 27 1 Ab Ad<|kdOf Ad) (Ap (Ai dig<|AB (Aa (dg<|nval a)+1) 0) 27 1 Ab Ad<|kdOf Ad) (hd:=by simp(disch:=omega) only[A0,zPg])<|vrT 1<|vs 5 (Ao 0 0 (Aw (↑(Aa (dg<|nval a)+1):Int)) (Aw (↑(Aa (dg<|nval a)+1):Int)*1) Ab) (Ao 0 0 (Aa (dg<|nval a)+1) (Aa (dg<|nval a)+1) Ab)<|veT<|vAe<|zB<|vAe<|zF ?_;rotate_left
 ·have hS1:=la;have hL1:=lb;have dL:Digs (dg (nval b)):=zB9 _;have dS:Digs (dg (nval a)):=zB9 _;have ev:nval (dg (nval b))+nval (dg (nval a))=nval a+nval b:=by have:=zB7 (nval a);have:=zB7 (nval b);omega
  generalize (dg (nval b))=L at*;generalize (dg (nval a))=M at*;refine zAo (λ(k:Nat)(c:Nat)(cur:List Nat)=>fr 62 [(0,digR L),(1,digR M),(4,nl),(5,Ao 0 0 (Aa L+1) (Aa L+1) Ab),(6,Af<|Ag AA (c:Int)),(24,iD<|Aa L),(25,iD k)]) (λk c cur=>[⟨cur.map dig,27,1,Ab,Ad,.plain⟩]) (λk c cur=>L.length-k) (λk c cur=>k<=L.length/\c<=1/\cur.length=L.length+1/\Digs cur/\nval (cur.take k)+4294967296^k*c=nval (L.take k)+nval (M.take k)) 0 0 (AB (L.length+1) 0) ?_ ?_ ?_
  ·grind [CA,nval]
  ·refine vk 1
  rintro k c cur ⟨h1,h2,h3,h4,h5⟩;have hx:=dL k;have hy:=dS k;focus
   refine vAu<|zB<|vcD ((k:Int)<↑(Aa L)) (λhc=>?_)<|λhc=>?_;refine vKB<|vAe<|vA<|vr 4 (ix ↑k ↑(Aa L) (Ai dig L≠[])) (vp 31 k (Ai dig L)<|vr 1 (0<Aa (Am k<|Ai dig L))<|vs 32 (AK (Am k<|Ai dig L) Uk) (dig<|Ah L k 0) (hd:=by simp(disch:=omega) only[zBz]) ?_) ⟨(by omega),⟨(by omega),(by exact zX)⟩⟩;refine ve (u6 (↑(Ah L k 0):Int)/\u6 ((c:Int)+(↑(Ah L k 0):Int)))<|zB<|vAe<|vcD ((k:Int)<↑(Aa M)) (λhc=>?_)<|λhc=>?_;refine zA rfl<|vr 4 (ix ↑k ↑(Aa M) (Ai dig M≠[])) (vp 42 k (Ai dig M)<|vr 1 (0<Aa (Am k<|Ai dig M))<|vs 43 (AK (Am k<|Ai dig M) Uk) (dig<|Ah M k 0) (hd:=by simp(disch:=omega) only[zBz])<|ve (u6 (↑(Ah M k 0):Int)/\u6 ((↑(c+Ah L k 0):Int)+(↑(Ah M k 0):Int)))<|vA<|vw 5 [49] [] (True/\(0:Int)<=(k:Int)/\(k:Int)<↑(Aa L+1))<|vo 50 0 k<|vr 1 (Ad=Ad/\Ab=Ab/\1=1/\k+1<=Aa (Ai dig cur)/\¬0∈[])<|vb 0 (Ap (setAt (Ai dig cur) k<|cellsOf<|dig ((c+Ah L k 0+Ah M k 0)%4294967296)) 27 1 Ab Ad Aq) (Ap (Ai dig<|AN cur k ((c+Ah L k 0+Ah M k 0)%4294967296)) 27 1 Ab Ad Aq) (hd:=by simp(disch:=omega) only[cellsOf,setAt,zF6])<|veT<|zA rfl ?_) ⟨(by omega),⟨(by omega),(by exact zX)⟩⟩;refine vr 2 ((0:Int)<=(32:Int))<|vs 52 (Af<|Ag AA<|Bd (↑(c+Ah L k 0+Ah M k 0):Int) ((2:Int)^32)) (Af<|Ag AA (↑((c+Ah L k 0+Ah M k 0)/4294967296):Int)) (hd:=by simp(disch:=omega) only[zJ2])<|vrT 1<|vnil<|zD<|vN<|zA rfl<|vr 2 (i6 (↑k+1))<|vnil<|zC ?_;rotate_left;refine vK<|vA<|vw 5 [49] [] (True/\(0:Int)<=(k:Int)/\(k:Int)<↑(Aa L+1))<|vo 50 0 k<|vr 1 (Ad=Ad/\Ab=Ab/\1=1/\k+1<=Aa (Ai dig cur)/\¬0∈[])<|vb 0 (Ap (setAt (Ai dig cur) k<|cellsOf<|dig ((c+Ah L k 0)%4294967296)) 27 1 Ab Ad Aq) (Ap (Ai dig<|AN cur k ((c+Ah L k 0)%4294967296)) 27 1 Ab Ad Aq) (hd:=by simp(disch:=omega) only[cellsOf,setAt,zF6])<|veT<|zA rfl<|vr 2 ((0:Int)<=(32:Int))<|vs 52 (Af<|Ag AA<|Bd (↑(c+Ah L k 0):Int) ((2:Int)^32)) (Af<|Ag AA (↑((c+Ah L k 0)/4294967296):Int)) (hd:=by simp(disch:=omega) only[zJ2])<|vrT 1<|vnil<|zD<|vN<|zA rfl<|vr 2 (i6 (↑k+1))<|vnil<|zC ?_;rotate_left;refine vZ2<|vA<|vr 6 (u3 (c:Int)/\(0:Int)<=(Aa L:Int)/\(Aa L:Int)<(↑(Aa L+1):Int))<|vo 59 0 (Aa L)<|vr 1 (Ad=Ad/\Ab=Ab/\1=1/\Aa L+1<=Aa (Ai dig cur)/\¬0∈[])<|vb 0 (Ap (setAt (Ai dig cur) (Aa L)<|cellsOf<|dig c) 27 1 Ab Ad Aq) (Ap (Ai dig<|AN cur (Aa L) c) 27 1 Ab Ad Aq) (hd:=by simp(disch:=omega) only[cellsOf,setAt,zF6])<|veT<|vA<|vrT 1<|vcl [Av (Ay (Aa L+1)<|Am 0<|Ai dig<|AN cur (Aa L) c) (Aa L+1)] [Av (Ai dig<|Ay (Aa L+1)<|AN cur (Aa L) c) (Aa L+1)] (LeL.of_eq (by simp(disch:=omega) only[A_,zHs])) (by exact zF3 _ _ (by simp;omega) ((h4.set _ _ (by omega) (by omega)).take _))<|veT<|zK<|vre (True) (natD<|nval<|Ay (Aa L+1)<|AN cur (Aa L) c) (.inr rfl) ?_;rotate_left
  ·obtain⟨s1,s2⟩:=zK9 (by omega) h2 dL dS h5;refine⟨k+1,(c+L.getD k 0+M.getD k 0)/4294967296,cur.set k ((c+L.getD k 0+M.getD k 0)%4294967296),⟨by omega,s1,by simpa using h3,h4.set _ _ (by omega) (by omega),s2⟩,by omega,?_⟩;refine vk 1
  ·obtain⟨s1,s2⟩:=zK9 (by omega) h2 dL dS h5;have e0:M.getD k 0=0:=by rw[Az,B3 (by omega)];rfl
   rw[e0,Nat.add_zero]at s1 s2;refine⟨k+1,(c+L.getD k 0)/4294967296,cur.set k ((c+L.getD k 0)%4294967296),⟨by omega,s1,by simpa using h3,h4.set _ _ (by omega) (by omega),s2⟩,by omega,?_⟩;refine vk 1
  have ek:k=L.length:=by omega
  subst ek;have e1:nval ((cur.set L.length c).take (L.length+1))=nval a+nval b:=by
   rw[zBq,take_set,zJa _ _ _ _ (by omega),if_pos rfl,h5,BL,BF (by omega),ev]
  rw[e1]
 ·have hS1:=lb;have hL1:=la;have dL:Digs (dg (nval a)):=zB9 _;have dS:Digs (dg (nval b)):=zB9 _;have ev:nval (dg (nval a))+nval (dg (nval b))=nval a+nval b:=by have:=zB7 (nval a);have:=zB7 (nval b);omega
  generalize (dg (nval a))=L at*;generalize (dg (nval b))=M at*;refine zAo (λ(k:Nat)(c:Nat)(cur:List Nat)=>fr 62 [(0,digR L),(1,digR M),(4,nl),(5,Ao 0 0 (Aa L+1) (Aa L+1) Ab),(6,Af<|Ag AA (c:Int)),(24,iD<|Aa L),(25,iD k)]) (λk c cur=>[⟨cur.map dig,27,1,Ab,Ad,.plain⟩]) (λk c cur=>L.length-k) (λk c cur=>k<=L.length/\c<=1/\cur.length=L.length+1/\Digs cur/\nval (cur.take k)+4294967296^k*c=nval (L.take k)+nval (M.take k)) 0 0 (AB (L.length+1) 0) ?_ ?_ ?_
  ·grind [CA,nval]
  ·refine vk 1
  rintro k c cur ⟨h1,h2,h3,h4,h5⟩;have hx:=dL k;have hy:=dS k;focus
   refine vAu<|zB<|vcD ((k:Int)<↑(Aa L)) (λhc=>?_)<|λhc=>?_;refine vKB<|vAe<|vA<|vr 4 (ix ↑k ↑(Aa L) (Ai dig L≠[])) (vp 31 k (Ai dig L)<|vr 1 (0<Aa (Am k<|Ai dig L))<|vs 32 (AK (Am k<|Ai dig L) Uk) (dig<|Ah L k 0) (hd:=by simp(disch:=omega) only[zBz]) ?_) ⟨(by omega),⟨(by omega),(by exact zX)⟩⟩;refine ve (u6 (↑(Ah L k 0):Int)/\u6 ((c:Int)+(↑(Ah L k 0):Int)))<|zB<|vAe<|vcD ((k:Int)<↑(Aa M)) (λhc=>?_)<|λhc=>?_;refine zA rfl<|vr 4 (ix ↑k ↑(Aa M) (Ai dig M≠[])) (vp 42 k (Ai dig M)<|vr 1 (0<Aa (Am k<|Ai dig M))<|vs 43 (AK (Am k<|Ai dig M) Uk) (dig<|Ah M k 0) (hd:=by simp(disch:=omega) only[zBz])<|ve (u6 (↑(Ah M k 0):Int)/\u6 ((↑(c+Ah L k 0):Int)+(↑(Ah M k 0):Int)))<|vA<|vw 5 [49] [] (True/\(0:Int)<=(k:Int)/\(k:Int)<↑(Aa L+1))<|vo 50 0 k<|vr 1 (Ad=Ad/\Ab=Ab/\1=1/\k+1<=Aa (Ai dig cur)/\¬0∈[])<|vb 0 (Ap (setAt (Ai dig cur) k<|cellsOf<|dig ((c+Ah L k 0+Ah M k 0)%4294967296)) 27 1 Ab Ad Aq) (Ap (Ai dig<|AN cur k ((c+Ah L k 0+Ah M k 0)%4294967296)) 27 1 Ab Ad Aq) (hd:=by simp(disch:=omega) only[cellsOf,setAt,zF6])<|veT<|zA rfl ?_) ⟨(by omega),⟨(by omega),(by exact zX)⟩⟩;refine vr 2 ((0:Int)<=(32:Int))<|vs 52 (Af<|Ag AA<|Bd (↑(c+Ah L k 0+Ah M k 0):Int) ((2:Int)^32)) (Af<|Ag AA (↑((c+Ah L k 0+Ah M k 0)/4294967296):Int)) (hd:=by simp(disch:=omega) only[zJ2])<|vrT 1<|vnil<|zD<|vN<|zA rfl<|vr 2 (i6 (↑k+1))<|vnil<|zC ?_;rotate_left;refine vK<|vA<|vw 5 [49] [] (True/\(0:Int)<=(k:Int)/\(k:Int)<↑(Aa L+1))<|vo 50 0 k<|vr 1 (Ad=Ad/\Ab=Ab/\1=1/\k+1<=Aa (Ai dig cur)/\¬0∈[])<|vb 0 (Ap (setAt (Ai dig cur) k<|cellsOf<|dig ((c+Ah L k 0)%4294967296)) 27 1 Ab Ad Aq) (Ap (Ai dig<|AN cur k ((c+Ah L k 0)%4294967296)) 27 1 Ab Ad Aq) (hd:=by simp(disch:=omega) only[cellsOf,setAt,zF6])<|veT<|zA rfl<|vr 2 ((0:Int)<=(32:Int))<|vs 52 (Af<|Ag AA<|Bd (↑(c+Ah L k 0):Int) ((2:Int)^32)) (Af<|Ag AA (↑((c+Ah L k 0)/4294967296):Int)) (hd:=by simp(disch:=omega) only[zJ2])<|vrT 1<|vnil<|zD<|vN<|zA rfl<|vr 2 (i6 (↑k+1))<|vnil<|zC ?_;rotate_left;refine vZ2<|vA<|vr 6 (u3 (c:Int)/\(0:Int)<=(Aa L:Int)/\(Aa L:Int)<(↑(Aa L+1):Int))<|vo 59 0 (Aa L)<|vr 1 (Ad=Ad/\Ab=Ab/\1=1/\Aa L+1<=Aa (Ai dig cur)/\¬0∈[])<|vb 0 (Ap (setAt (Ai dig cur) (Aa L)<|cellsOf<|dig c) 27 1 Ab Ad Aq) (Ap (Ai dig<|AN cur (Aa L) c) 27 1 Ab Ad Aq) (hd:=by simp(disch:=omega) only[cellsOf,setAt,zF6])<|veT<|vA<|vrT 1<|vcl [Av (Ay (Aa L+1)<|Am 0<|Ai dig<|AN cur (Aa L) c) (Aa L+1)] [Av (Ai dig<|Ay (Aa L+1)<|AN cur (Aa L) c) (Aa L+1)] (LeL.of_eq (by simp(disch:=omega) only[A_,zHs])) (by exact zF3 _ _ (by simp;omega) ((h4.set _ _ (by omega) (by omega)).take _))<|veT<|zK<|vre (True) (natD<|nval<|Ay (Aa L+1)<|AN cur (Aa L) c) (.inr rfl) ?_;rotate_left
  ·obtain⟨s1,s2⟩:=zK9 (by omega) h2 dL dS h5;refine⟨k+1,(c+L.getD k 0+M.getD k 0)/4294967296,cur.set k ((c+L.getD k 0+M.getD k 0)%4294967296),⟨by omega,s1,by simpa using h3,h4.set _ _ (by omega) (by omega),s2⟩,by omega,?_⟩;refine vk 1
  ·obtain⟨s1,s2⟩:=zK9 (by omega) h2 dL dS h5;have e0:M.getD k 0=0:=by rw[Az,B3 (by omega)];rfl
   rw[e0,Nat.add_zero]at s1 s2;refine⟨k+1,(c+L.getD k 0)/4294967296,cur.set k ((c+L.getD k 0)%4294967296),⟨by omega,s1,by simpa using h3,h4.set _ _ (by omega) (by omega),s2⟩,by omega,?_⟩;refine vk 1
  have ek:k=L.length:=by omega
  subst ek;have e1:nval ((cur.set L.length c).take (L.length+1))=nval a+nval b:=by
   rw[zBq,take_set,zJa _ _ _ _ (by omega),if_pos rfl,h5,BL,BF (by omega),ev]
  rw[e1]
 all_goals omega
theorem zY4(a:Int):Pure An 63 [.val (.int .i64 a)] [] (.val (.bool Ad)):=by
 refine zH zBf mixed Tryz.func63 rfl<|vAu<|vAe<|zK<|vre (True) (Af<|A9 (a !=a)) (.inr rfl) (by simp)
abbrev q0_:=Af (Ag AT (-1))
abbrev q1_:=Af (Ag AT 1)
abbrev q2_:=Af (Ag AT 0)
theorem zWn(a b:Int):Pure An 34 [.val (.int .i64 a), .val (.int .i64 b)] [] (.val (.int .i64 (cmpD a b))):=by
 refine zH zBf mixed Tryz.func34 rfl ?_;focus
  refine vAu<|vA<|vrT 1<|vca [iD a] (by exact zY4 _)<|veT<|vA<|vrT 1<|vca [iD b] (by exact zY4 _)<|veT<|zB<|vAe<|vf<|vK<|zB<|vAe<|vf<|vK<|zB<|vAe<|vcD (a<b) (λhc=>?_)<|λhc=>?_;refine vAe<|zK<|zG<|vre (True) (q0_) (.inr rfl) ?_;rotate_left;refine vK<|zB<|vAe<|vcD (a>b) (λhc=>?_)<|λhc=>?_;refine vAe<|zK<|zG<|vre (True) (q1_) (.inr rfl) ?_;rotate_left;refine vK<|vAe<|zK<|vre (True) (q2_) (.inr rfl) ?_;rotate_left
 all_goals grind [cmpD]
theorem zNf(a:Int):Pure An 64 [.val (.int .u32 a)] [] (.val (.bool Ad)):=by
 refine zH zBf mixed Tryz.func64 rfl<|vAu<|vAe<|zK<|vre (True) (Af<|A9 (a !=a)) (.inr rfl) (by simp)
theorem zTw(a b:Int):Pure An 35 [.val (.int .u32 a), .val (.int .u32 b)] [] (.val (.int .i64 (cmpD a b))):=by
 refine zH zBf mixed Tryz.func35 rfl ?_;focus
  refine vAu<|vA<|vrT 1<|vca [Af<|Ag AV a] (by exact zNf _)<|veT<|vA<|vrT 1<|vca [Af<|Ag AV b] (by exact zNf _)<|veT<|zB<|vAe<|vf<|vK<|zB<|vAe<|vf<|vK<|zB<|vAe<|vcD (a<b) (λhc=>?_)<|λhc=>?_;refine vAe<|zK<|zG<|vre (True) (q0_) (.inr rfl) ?_;rotate_left;refine vK<|zB<|vAe<|vcD (a>b) (λhc=>?_)<|λhc=>?_;refine vAe<|zK<|zG<|vre (True) (q1_) (.inr rfl) ?_;rotate_left;refine vK<|vAe<|zK<|vre (True) (q2_) (.inr rfl) ?_;rotate_left
 all_goals grind [cmpD]
theorem zRl(a:Int):Pure An 191 [.val (.int .i64 a)] [] (.val (.bool Ad)):=by
 refine zH zBf mixed Tryz.func191 rfl<|vAu<|vAe<|zK<|vre (True) (Af<|A9 (a !=a)) (.inr rfl) (by simp)
theorem zXm(a b:Int):Pure An 174 [.val (.int .i64 a), .val (.int .i64 b)] [] (.val (.int .i64 (cmpD a b))):=by
 refine zH zBf mixed Tryz.func174 rfl ?_;focus
  refine vAu<|vA<|vrT 1<|vca [iD a] (by exact zRl _)<|veT<|vA<|vrT 1<|vca [iD b] (by exact zRl _)<|veT<|zB<|vAe<|vf<|vK<|zB<|vAe<|vf<|vK<|zB<|vAe<|vcD (a<b) (λhc=>?_)<|λhc=>?_;refine vAe<|zK<|zG<|vre (True) (q0_) (.inr rfl) ?_;rotate_left;refine vK<|zB<|vAe<|vcD (a>b) (λhc=>?_)<|λhc=>?_;refine vAe<|zK<|zG<|vre (True) (q1_) (.inr rfl) ?_;rotate_left;refine vK<|vAe<|zK<|vre (True) (q2_) (.inr rfl) ?_;rotate_left
 all_goals grind [cmpD]
set_option maxHeartbeats 2000000 in
theorem mul_c(a b:List Nat)(n m:Nat)(hn:a.length=n)(hm:b.length=m)(hl:n<=1000000)(hl':m<=1000000)(ha:Digs a)(hb:Digs b):Pure An 230 [.row (a.map dig) n, .row (b.map dig) m] [] (natD (nval a*nval b)):=by
 subst hn hm;have la:=zMh ha;have lb:=zMh hb;refine zH zBf mixed Tryz.func230 rfl<|vAu<|vA<|vrT 1<|vc (zF3 a _ rfl ha)<|vrT 1<|vc (zF3 b _ rfl hb)<|veT<|vA<|vr 6 (i6 ((Aa (dg<|nval a):Int)+(Aa (dg<|nval b):Int))/\(0:Int)<=(↑(Aa (dg<|nval a)+Aa (dg<|nval b)):Int)/\(↑(Aa (dg<|nval a)+Aa (dg<|nval b)):Int)<=(↑(Aa (dg<|nval a)+Aa (dg<|nval b)):Int)/\(↑(4:Nat):Int)*(↑(Aa (dg<|nval a)+Aa (dg<|nval b)):Int)<=(281474976710656:Int)/\(↑(Aa (dg<|nval a)+Aa (dg<|nval b)):Int)<=(281474976710656:Int)/\0<1/\1=1)<|vb 0 (Ap (repL (Aw (↑(Aa (dg<|nval a)+Aa (dg<|nval b)):Int)) [Af<|Ag AV (0:Int)]) 27 1 Ab Ad<|kdOf Ad) (Ap (Ai dig<|AB (Aa (dg<|nval a)+Aa (dg<|nval b)) 0) 27 1 Ab Ad<|kdOf Ad) (hd:=by simp(disch:=omega) only[A0,zPg])<|vrT 1<|vs 5 (Ao 0 0 (Aw (↑(Aa (dg<|nval a)+Aa (dg<|nval b)):Int)) (Aw (↑(Aa (dg<|nval a)+Aa (dg<|nval b)):Int)*1) Ab) (Ao 0 0 (Aa (dg<|nval a)+Aa (dg<|nval b)) (Aa (dg<|nval a)+Aa (dg<|nval b)) Ab)<|veT<|zB<|vAe<|zF ?_;have ev:nval a*nval b=nval (dg (nval a))*nval (dg (nval b)):=by rw[zB7,zB7]
 rw[ev];have dA:Digs (dg (nval a)):=zB9 _;have dB:Digs (dg (nval b)):=zB9 _;generalize dg (nval a)=A at*;generalize dg (nval b)=B at*;refine zA2 (λ(i:Nat)(cur:List Nat)=>fr 71 [(0,digR A),(1,digR B),(4,nl),(5,Ao 0 0 (Aa A+Aa B) (Aa A+Aa B) Ab),(20,iD<|Aa A),(21,iD i)]) (λi cur=>[⟨cur.map dig,27,1,Ab,Ad,.plain⟩]) (λi cur=>A.length-i) (λi cur=>i<=A.length/\cur.length=A.length+B.length/\Digs cur/\(∀t,i+B.length<=t->cur.getD t 0=0)/\nval cur=nval (A.take i)*nval B) 0 (AB (A.length+B.length) 0) ?_ ?_ ?_
 ·refine⟨by simp,by simp,CA _,λt _=>?_,?_⟩
  ·grind
  grind [zMz,nval]
 ·refine vk 1
 rintro i cur ⟨h1,h2,h3,h4,h5⟩;focus
  refine vAu<|zB<|vcD ((i:Int)<↑(Aa A)) (λhc=>?_)<|λhc=>?_;refine vKB<|vAe<|vAe<|zB<|vAe<|zF ?_;rotate_left;refine vZ2<|vA<|vrT 1<|vcl [Av (Ay (Aa A+Aa B)<|Am 0<|Ai dig cur) (Aa A+Aa B)] [Av (Ai dig<|Ay (Aa A+Aa B) cur) (Aa A+Aa B)] (LeL.of_eq (by simp(disch:=omega) only[A_,zHs])) (by exact zF3 _ _ (by simp;omega) (h3.take _))<|veT<|zK<|vre (True) (natD<|nval<|Ay (Aa A+Aa B) cur) (.inr rfl) ?_;rotate_left
 ·refine zAo (λ(j:Nat)(c:Nat)(cur':List Nat)=>fr 71 [(0,digR A),(1,digR B),(4,nl),(5,Ao 0 0 (Aa A+Aa B) (Aa A+Aa B) Ab),(6,iD (i:Int)),(7,Af<|Ag AA (c:Int)),(20,iD (Aa A:Int)),(21,iD (i:Int)),(25,iD (Aa B:Int)),(26,iD (j:Int))]) (λj c cur'=>[⟨cur'.map dig,27,1,Ab,Ad,.plain⟩]) (λj c cur'=>B.length-j) (λj c cur'=>j<=B.length/\c<4294967296/\zSc A B i j c cur') 0 0 cur ?_ ?_ ?_
  ·grind [zY5]
  ·refine vk 1
  rintro j c cur' ⟨k1,k2,k3⟩;have hx:=dA i;have hy:=dB j;have hz:=k3.2.1 (i+j);have hw:=k3.1;obtain⟨b1,b2,b3⟩:=zY6 hx hy k2 hz;focus
   refine vAu<|zB<|vcD ((j:Int)<↑(Aa B)) (λhc=>?_)<|λhc=>?_;refine vKB<|vAe<|zB<|vd [0,1,2,3,6,7,8,12,13,14,15,16,4,5,9,10,11,17,18,19,20,21]<|vr 4 (ix ↑i ↑(Aa A) (Ai dig A≠[])) (vp 32 i (Ai dig A)<|vr 3 (ix ↑j ↑(Aa B) (Ai dig B≠[])) (vp 37 j (Ai dig B) ?_) ⟨(by omega),⟨(by omega),(by exact zX)⟩⟩) ⟨(by omega),⟨(by omega),(by exact zX)⟩⟩;refine vr 5 (i6 ((i:Int)+(j:Int))/\(0:Int)<=(↑(i+j):Int)/\(↑(i+j):Int)<(↑(Aa A+Aa B):Int))<|vo 45 0 (i+j)<|vr 1 (0<Aa (Am i<|Ai dig A))<|vs 33 (AK (Am i<|Ai dig A) Uk) (dig<|Ah A i 0) (hd:=by simp(disch:=omega) only[zBz])<|vr 2 (u6 (↑(Ah A i 0):Int)/\0<Aa (Am j<|Ai dig B))<|vs 38 (AK (Am j<|Ai dig B) Uk) (dig<|Ah B j 0) (hd:=by simp(disch:=omega) only[zBz])<|vr 3 (u6 (↑(Ah B j 0):Int)/\u6 ((↑(Ah A i 0):Int)*(↑(Ah B j 0):Int))/\0<Aa (Am (i+j)<|Ai dig cur'))<|vs 46 (AK (Am (i+j)<|Ai dig cur') Uk) (dig<|Ah cur' (i+j) 0) (hd:=by simp(disch:=omega) only[zBz])<|ve (u6 (↑(Ah cur' (i+j) 0):Int)/\u6 ((↑(Ah A i 0*Ah B j 0):Int)+(↑(Ah cur' (i+j) 0):Int))/\u6 ((c:Int)+(↑(Ah A i 0*Ah B j 0+Ah cur' (i+j) 0):Int)))<|vA<|vw 7 [55] [] (i6 ((i:Int)+(j:Int))/\True/\(0:Int)<=(↑(i+j):Int)/\(↑(i+j):Int)<(↑(Aa A+Aa B):Int))<|vo 56 0 (i+j)<|vr 1 (Ad=Ad/\Ab=Ab/\1=1/\i+j+1<=Aa (Ai dig cur')/\¬0∈[])<|vb 0 (Ap (setAt (Ai dig cur') (i+j)<|cellsOf<|dig ((c+(Ah A i 0*Ah B j 0+Ah cur' (i+j) 0))%4294967296)) 27 1 Ab Ad Aq) (Ap (Ai dig<|AN cur' (i+j) ((c+(Ah A i 0*Ah B j 0+Ah cur' (i+j) 0))%4294967296)) 27 1 Ab Ad Aq) (hd:=by simp(disch:=omega) only[cellsOf,setAt,zF6])<|veT<|zA rfl<|vr 2 ((0:Int)<=(32:Int))<|vs 58 (Af<|Ag AA<|Bd (↑(c+(Ah A i 0*Ah B j 0+Ah cur' (i+j) 0)):Int) ((2:Int)^32)) (Af<|Ag AA (↑((c+(Ah A i 0*Ah B j 0+Ah cur' (i+j) 0))/4294967296):Int)) (hd:=by simp(disch:=omega) only[zJ2])<|vrT 1<|vnil<|zD<|vN<|zA rfl<|vr 2 (i6 (↑j+1))<|vnil<|zC ?_;rotate_left;refine vZ2<|zA rfl<|vr 8 (i6 ((i:Int)+(Aa B:Int))/\u3 (c:Int)/\(0:Int)<=(↑(i+Aa B):Int)/\(↑(i+Aa B):Int)<(↑(Aa A+Aa B):Int))<|vo 67 0 (i+Aa B)<|vr 1 (Ad=Ad/\Ab=Ab/\1=1/\i+Aa B+1<=Aa (Ai dig cur')/\¬0∈[])<|vb 0 (Ap (setAt (Ai dig cur') (i+Aa B)<|cellsOf<|dig c) 27 1 Ab Ad Aq) (Ap (Ai dig<|AN cur' (i+Aa B) c) 27 1 Ab Ad Aq) (hd:=by simp(disch:=omega) only[cellsOf,setAt,zF6])<|vnil<|zD<|vN<|zA rfl<|vr 2 (i6 (↑i+1))<|vnil<|zC ?_;rotate_left
  ·refine⟨j+1,(c+(A.getD i 0*B.getD j 0+cur'.getD (i+j) 0))/4294967296,cur'.set (i+j) ((c+(A.getD i 0*B.getD j 0+cur'.getD (i+j) 0))%4294967296),⟨by omega,b3,mul_step (by omega) (by omega) k3⟩,by omega,?_⟩;refine vk 1
  have ej:j=B.length:=by omega
  subst ej;obtain⟨m1,m2,m3,m4⟩:=mul_end (by omega) k2 k3;refine⟨i+1,cur'.set (i+B.length) c,⟨by omega,m1,m2,m3,m4⟩,by omega,?_⟩;refine vk 1
 grind
theorem cmp_c(a b:List Nat)(n m:Nat)(hn:a.length=n)(hm:b.length=m)(hl:n<=1000000)(hl':m<=1000000)(ha:Digs a)(hb:Digs b):Pure An 14 [.row (a.map dig) n, .row (b.map dig) m] [] (.val (.int .i64 (cmpD (nval a) (nval b)))):=by
 subst hn hm;have la:=zMh ha;have lb:=zMh hb;refine zH zBf mixed Tryz.func14 rfl ?_;focus
  refine vAu<|vA<|vrT 1<|vc (zF3 a _ rfl ha)<|vrT 1<|vc (zF3 b _ rfl hb)<|veT<|zB<|vAe<|zAa (t:=(Aa (dg (nval a)):Int)!=(Aa (dg (nval b)):Int)) (by kernel_rfl) (λhc=>?_)<|λhc=>?_;simp only[bne_iff_ne]at hc;refine vA<|vrT 4<|vca [iD (Aa (dg<|nval a):Int),iD (Aa (dg<|nval b):Int)] (by exact zWn _ _)<|veT<|zK<|zG<|vre (True) (Af<|Ag AT<|cmpD (Aa (dg<|nval a):Int) (Aa (dg<|nval b):Int)) (.inr rfl) ?_;rotate_left;simp only[bne_eq_false_iff_eq]at hc;refine vK<|zB<|vA<|ve (i6 ((Aa (dg<|nval a):Int)-(1:Int)))<|zF ?_;rotate_left
 ·congr 2;grind [zY0,nval,zB7,cmpD_eq,Normal.lt_of_length,zB9]
 have ev:cmpD (nval a) (nval b)=cmpD (nval (dg (nval a))) (nval (dg (nval b))):=by rw[zB7,zB7]
 rw[ev];have dA:Digs (dg (nval a)):=zB9 _;have dB:Digs (dg (nval b)):=zB9 _;generalize dg (nval a)=A at*;generalize dg (nval b)=B at*;refine zQ (λ(n:Nat)=>fr 45 [(0,digR A),(1,digR B),(5,iD (↑n-1))]) (λ_=>[]) (λn=>n) (λn=>n<=A.length/\A.drop n=B.drop n) A.length ?_ ?_ ?_
 ·exact⟨As _,by rw[CB,B4 (by omega)]⟩
 ·refine vk 0
 rintro n ⟨h1,h2⟩;focus
  refine zB<|vAu<|vcD ((n:Int)-(1:Int)>=(0:Int)) (λhc=>?_)<|λhc=>?_;refine vKB<|zB<|vd [0,1,2,4,5,6,3,7,8]<|vrT 2<|vs 28 (iD (↑n-1)) (iD ↑(n-1)) (hd:=by simp(disch:=omega) only[zEl])<|vr 1 (ix ↑(n-1) ↑(Aa A) (Ai dig A≠[])) (vp 29 (n-1) (Ai dig A)<|vrT 2<|vs 32 (iD (↑n-1)) (iD ↑(n-1)) (hd:=by simp(disch:=omega) only[zEl])<|vr 1 (ix ↑(n-1) ↑(Aa B) (Ai dig B≠[])) ?_ ⟨(by omega),⟨(by omega),(by exact zX)⟩⟩) ⟨(by omega),⟨(by omega),(by exact zX)⟩⟩;refine vp 33 (n-1) (Ai dig B)<|vr 1 (0<Aa (Am (n-1)<|Ai dig A))<|vs 30 (AK (Am (n-1)<|Ai dig A) Uk) (dig<|Ah A (n-1) 0) (hd:=by simp(disch:=omega) only[zBz])<|vr 1 (0<Aa (Am (n-1)<|Ai dig B))<|vs 34 (AK (Am (n-1)<|Ai dig B) Uk) (dig<|Ah B (n-1) 0) (hd:=by simp(disch:=omega) only[zBz])<|veT<|zAa (t:=(↑(Ah A (n-1) 0):Int)!=(↑(Ah B (n-1) 0):Int)) (by kernel_rfl) (λhc=>?_)<|λhc=>?_;simp only[bne_iff_ne]at hc;refine zB<|vd [0,1,2,4,5,6,3,7,8,9]<|vrT 2<|vs 37 (iD (↑n-1)) (iD ↑(n-1)) (hd:=by simp(disch:=omega) only[zEl])<|vr 1 (ix ↑(n-1) ↑(Aa A) (Ai dig A≠[])) (vp 38 (n-1) (Ai dig A)<|vrT 2<|vs 41 (iD (↑n-1)) (iD ↑(n-1)) (hd:=by simp(disch:=omega) only[zEl])<|vr 1 (ix ↑(n-1) ↑(Aa B) (Ai dig B≠[])) (vp 42 (n-1) (Ai dig B)<|vr 1 (0<Aa (Am (n-1)<|Ai dig A))<|vs 39 (AK (Am (n-1)<|Ai dig A) Uk) (dig<|Ah A (n-1) 0) (hd:=by simp(disch:=omega) only[zBz])<|vr 1 (0<Aa (Am (n-1)<|Ai dig B))<|vs 43 (AK (Am (n-1)<|Ai dig B) Uk) (dig<|Ah B (n-1) 0) (hd:=by simp(disch:=omega) only[zBz]) ?_) ⟨(by omega),⟨(by omega),(by exact zX)⟩⟩) ⟨(by omega),⟨(by omega),(by exact zX)⟩⟩;refine vca [dig<|Ah A (n-1) 0,dig<|Ah B (n-1) 0] (by exact zTw _ _)<|veT<|zK<|zL<|zG<|zG<|zL<|zG<|vre (True) (Af<|Ag AT<|cmpD (↑(Ah A (n-1) 0):Int) (↑(Ah B (n-1) 0):Int)) (.inr rfl) ?_;rotate_left;simp only[bne_eq_false_iff_eq]at hc;refine zJ<|zD<|vN<|zA rfl<|vrT 1<|vs 25 (iD (↑n-1)) (iD ↑(n-1)) (hd:=by simp(disch:=omega) only[zEl])<|vr 2 (i6 (↑(n-1)-1))<|vnil<|zC ?_;rotate_left;refine vZ2<|vAe<|zK<|vre (True) (q2_) (.inr rfl) ?_;rotate_left
 ·have h3:A.drop (n-1+1)=B.drop (n-1+1):=by rw[show n-1+1=n by omega];exact h2
  congr 2;grind [cmpD_eq,zKp]
 ·refine⟨n-1,⟨by omega,?_⟩,by omega,?_⟩
  ·grind [zRy]
  refine vk 0
 have e0:n=0:=by omega
 grind [cmpD]
theorem zM5:(AS #[]).toList=[]:=by rw[CE]
theorem zQo(l:List UInt8):(l==[])=l.isEmpty:=by cases l<;>rfl
theorem vvalid_c(v:Va):Pure An 149 [vaD v] [] (bD (vok v)):=by
 refine zH zBf mixed Tryz.func149 rfl ?_;focus
  refine vAu<|zB<|vA<|ve (True/\0<3)<|zF<|vAe<|zAa (t:=Va.kind v==(1:Int)) (by kernel_rfl) (λhc=>?_)<|λhc=>?_;simp only[beq_iff_eq]at hc;refine vA<|vr 3 (True/\0<1/\True)<|vs 9 (bD (ByteArray.toList (bs<|Va.str v)==ByteArray.toList (AS #[]))) (bD (Va.str v==[])) (hd:=by simp(disch:=omega) only[zJc,zM5])<|veT<|zK<|zL<|zG<|vre (True) (Af<|A9 (Va.str v==[])) (.inr rfl) ?_;rotate_left;simp only[beq_eq_false_iff_ne]at hc;refine vAe<|zAa (t:=Va.kind v==(2:Int)) (by kernel_rfl) (λhc=>?_)<|λhc=>?_;simp only[beq_iff_eq]at hc;refine vA<|vr 4 (True/\0<2/\True)<|vsp 15 (Va.int v==(0:Int)) (λhc=>?_)<|λhc=>?_;simp only[beq_iff_eq]at hc;refine ve (True/\0<1)<|zK<|zL<|zG<|vre (True) (Af<|A9<|decide ((Aa (Va.str v):Int)<=(24:Int))) (.inr rfl) ?_;rotate_left;simp only[beq_eq_false_iff_ne]at hc;refine veT<|zK<|zL<|zG<|vre (True) (Af<|A9 Ad) (.inr rfl) ?_;rotate_left;simp only[beq_eq_false_iff_ne]at hc;refine zJ<|zD<|vN<|vAe<|zK<|vre (True) (Af<|A9 Ad) (.inr rfl) ?_;rotate_left
 ·grind [zQo,vok]
 ·congr 2;grind [vok]
 all_goals grind [vok]
theorem zW0(a b:Va):Pure An 156 [vaD a,vaD b] [] (iD (vcmp a b)):=by
 refine zH zBf mixed Tryz.func156 rfl ?_;focus
  refine vAu<|zB<|vA<|ve (True/\0<3/\True/\0<3/\True)<|zAa (t:=Va.kind a !=Va.kind b) (by kernel_rfl) (λhc=>?_)<|λhc=>?_;simp only[bne_iff_ne]at hc;refine vA<|vr 4 (True/\0<3/\True/\0<3)<|vca [iD<|Va.kind a,iD<|Va.kind b] (by exact zWn _ _)<|veT<|zK<|zG<|vre (True) (Af<|Ag AT<|cmpD (Va.kind a)<|Va.kind b) (.inr rfl) ?_;rotate_left;simp only[bne_eq_false_iff_eq]at hc;refine vK<|zB<|vA<|ve (True/\0<2/\True/\0<2/\True)<|zAa (t:=Va.int a !=Va.int b) (by kernel_rfl) (λhc=>?_)<|λhc=>?_;simp only[bne_iff_ne]at hc;refine vA<|vr 4 (True/\0<2/\True/\0<2)<|vca [iD<|Va.int a,iD<|Va.int b] (by exact zXm _ _)<|veT<|zK<|zG<|vre (True) (Af<|Ag AT<|cmpD (Va.int a)<|Va.int b) (.inr rfl) ?_;rotate_left;simp only[bne_eq_false_iff_eq]at hc;refine vK<|vA<|vr 4 (True/\0<1/\True/\0<1)<|vca [Af<|A2<|bs<|Va.str a,Af<|A2<|bs<|Va.str b] (by exact scmp_c _ _)<|veT<|zK<|vre (True) (Af<|Ag AT<|AG (Va.str a)<|Va.str b) (.inr rfl) ?_;rotate_left
 all_goals simp [vcmp, *]
theorem zFw(r:List Va)(i:Nat)(h:i<r.length:=by omega):3<=(Am (i*3) (zN r)).length:=by
 grind [Co,zE4]
theorem zWu{α:Type}(p:α->Bool)(d:α)(l:List α)(i:Nat)(h:i<l.length):(l.take (i+1)).all p=((l.take i).all p&&p (l.getD i d)):=by
 grind [Bm,Ax]
theorem all_no{α:Type}(p:α->Bool)(d:α)(l:List α)(i:Nat)(h:i<l.length)(hp:p (l.getD i d)=Ad):l.all p=false:=by
 grind
set_option maxHeartbeats 1000000 in
theorem zPd(r:List Va)(n:Nat)(hn:r.length=n)(hl:n<=1000000000):Pure An 111 [.row (zN r) n] [] (bD (r.all vok)):=by
 subst hn;refine zH zBf mixed Tryz.func111 rfl<|vAu<|zB<|vAe<|zF<|zQ (λ(i:Nat)=>fr 16 [(0,Av (zN r)<|Aa r),(5,iD (Aa r:Int)),(6,iD (i:Int))]) (λ_=>[]) (λi=>r.length-i) (λi=>i<=r.length/\(r.take i).all vok=Ab) 0 ?_ ?_ ?_
 ·grind
 ·refine vk 0
 rintro i ⟨h1,h2⟩;focus
  refine vAu<|zB<|vcD ((i:Int)<↑(Aa r)) (λhc=>?_)<|λhc=>?_;refine vKB<|vAe<|vA<|vr 4 (ix ↑i ↑(Aa r) (zN r≠[])/\3<=Aa (Am (i*3)<|zN r)) (vs 12 (A3<|Ay 3<|Am (i*3)<|zN r) (A3<|vaC<|Ah r i Al) (hd:=by simp(disch:=omega) only[zDs])<|vca [A3 [iD<|Va.kind<|Ah r i Al,iD<|Va.int<|Ah r i Al,Af<|A2<|bs<|Va.str<|Ah r i Al]] (by exact vvalid_c _)<|veT ?_) ⟨⟨(by omega),⟨(by omega),(by exact zGz _)⟩⟩,(by exact zFw _ _)⟩;refine zAa (t:=!vok (Ah r i Al)) (by kernel_rfl) (λhc=>?_)<|λhc=>?_;simp only[Bx]at hc;refine vAe<|zK<|zL<|zG<|zG<|zL<|zG<|vre (True) (Af<|A9 Ad) (.inr rfl) ?_;rotate_left;simp only[Bool.not_eq_false']at hc;refine zJ<|zD<|vN<|zA rfl<|vr 2 (i6 (↑i+1))<|vnil<|zC ?_;rotate_left;refine vZ2<|vAe<|zK<|vre (True) (Af<|A9 Ab) (.inr rfl) ?_;rotate_left
 ·grind
 ·refine⟨i+1,⟨by omega,?_⟩,by omega,?_⟩
  ·grind [zWu,vok]
  refine vk 0
 grind
def zLp:List Va->List Va->List Bool->Int
 |[],[],_=>0
 |[],_::_,_=>-1
 |_::_,[],_=>1
 |a::r,b::s,ds=>if vcmp a b=0 then zLp r s ds.tail else if ds.headD Ad then-vcmp a b else vcmp a b
theorem zLo:∀(a b:List Va),zLp a b []=rcmp a b
 |[],[]=>rfl
 |[],_::_=>rfl
 |_::_,[]=>rfl
 |a::r,b::s=>by simp only[zLp,rcmp,List.tail_nil,List.headD_nil,AY,if_false];rw[zLo r s]
theorem zJn:∀(i:Nat)(a b:List Va)(ds:List Bool),i<=a.length->i<=b.length->a.take i=b.take i->zLp a b ds=zLp (a.drop i) (b.drop i) (ds.drop i)
 |0,_,_,_,_,_,_=>rfl
 |i+1,[],b,_,h,_,_=>by simp at h
 |i+1,_::_,[],_,_,h,_=>by simp at h
 |i+1,x::a,y::b,ds,h1,h2,h3=>by
  simp only[List.take_succ_cons,Bl.injEq]at h3;obtain⟨rfl,h3⟩:=h3;rw[zLp,if_pos ((zEc x x).2.1.2 rfl),zJn i a b ds.tail (by simpa using h1) (by simpa using h2) h3];cases ds<;>simp
theorem zPi(i:Nat)(a b:List Va)(ds:List Bool)(ha:i<a.length)(hb:i<b.length)(h:a.take i=b.take i)(hv:vcmp (a.getD i Al) (b.getD i Al)≠0):zLp a b ds=if ds.getD i Ad then-vcmp (a.getD i Al) (b.getD i Al)else vcmp (a.getD i Al) (b.getD i Al):=by
 rw[zJn i a b ds (by omega) (by omega) h,BM ha,BM hb];simp only[Az,Ax ha,Ax hb,B9]at hv⊢;grind [zLp,List.head?_drop]
abbrev bl(b:Bool):D:=bD b
theorem headD_bl(l:List Bool)(k:Nat)(h:k<l.length):((l.map bD).drop k).headD .unk=bD (l.getD k Ad):=zEi bD l Ad k h
theorem zVq(a b:List Va)(i:Nat)(ds:List Bool)(ha:i<=a.length)(hb:i<=b.length)(h:a.take i=b.take i)(he:i=a.length\/i=b.length):zLp a b ds=if a.length<b.length then-1 else if a.length>b.length then 1 else 0:=by
 rw[zJn i a b ds ha hb h];rcases he with rfl|rfl
 ·rw[CB];cases hc:b.drop a.length with
  |nil=>
   have:=congrArg Aa hc
   simp at this;rw[if_neg (by omega),if_neg (by omega)];rfl
  |cons x r=>
   have:=congrArg Aa hc
   simp at this;rw[if_pos (by omega)];rfl
 rw[CB];cases hc:a.drop b.length with
 |nil=>
  have:=congrArg Aa hc
  simp at this;rw[if_neg (by omega),if_neg (by omega)];rfl
 |cons x r=>
  have:=congrArg Aa hc
  simp at this;rw[if_neg (by omega),if_pos (by omega)];rfl
set_option maxHeartbeats 2000000 in
theorem zQ1(a b:List Va)(ds:List Bool)(n m k:Nat)(hn:a.length=n)(hm:b.length=m)(hk:ds.length=k)(ln:n<=1000000000)(lm:m<=1000000000)(lk:k<=1000000000):Pure An 150 [.row (zN a) n, .row (zN b) m, .row (ds.map bD) k] [] (iD (zLp a b ds)):=by
 subst hn hm hk;refine zH zBf mixed Tryz.func150 rfl<|vAu<|zB<|vAe<|zF<|zQ (λ(i:Nat)=>fr 54 [(0,Av (zN a)<|Aa a),(1,Av (zN b)<|Aa b),(2,Av (Ai bD ds)<|Aa ds),(13,iD (if(Aa b:Int)<(Aa a:Int)then(Aa b:Int)else(Aa a:Int))),(14,iD (i:Int))]) (λ_=>[]) (λi=>a.length-i) (λi=>i<=a.length/\i<=b.length/\a.take i=b.take i) 0 ?_ ?_ ?_
 ·grind
 ·refine vk 0
 rintro i ⟨h1,h2,h3⟩;have hv:=(zEc (a.getD i Al) (b.getD i Al)).1;focus
  refine vAu<|zB<|vcD ((i:Int)<if(Aa b:Int)<(Aa a:Int)then(Aa b:Int)else(Aa a:Int)) (λhc=>?_)<|λhc=>?_;refine vKB<|vAe<|zB<|vd [0,1,2,4,5,6,3,7,8,9]<|vr 7 (ix ↑i ↑(Aa a) (zN a≠[])/\ix ↑i ↑(Aa b) (zN b≠[])/\3<=Aa (Am (i*3)<|zN a)) (vs 20 (A3<|Ay 3<|Am (i*3)<|zN a) (A3<|vaC<|Ah a i Al) (hd:=by simp(disch:=omega) only[zDs])<|vr 1 (3<=Aa (Am (i*3)<|zN b)) (vs 24 (A3<|Ay 3<|Am (i*3)<|zN b) (A3<|vaC<|Ah b i Al) (hd:=by simp(disch:=omega) only[zDs]) ?_) (by exact zFw _ _)) ⟨⟨(by omega),⟨(by omega),(by exact zGz _)⟩⟩,⟨(by omega),⟨(by omega),(by exact zGz _)⟩⟩,(by exact zFw _ _)⟩;refine vca [A3 [iD<|Va.kind<|Ah a i Al,iD<|Va.int<|Ah a i Al,Af<|A2<|bs<|Va.str<|Ah a i Al],A3 [iD<|Va.kind<|Ah b i Al,iD<|Va.int<|Ah b i Al,Af<|A2<|bs<|Va.str<|Ah b i Al]] (by exact zW0 _ _)<|veT<|zB<|vAe<|zAa (t:=vcmp (Ah a i Al) (Ah b i Al)==(0:Int)) (by kernel_rfl) (λhc=>?_)<|λhc=>?_;simp only[beq_iff_eq]at hc;refine vZ<|zA rfl<|vr 2 (i6 (↑i+1))<|vnil<|zC ?_;rotate_left;simp only[beq_eq_false_iff_ne]at hc;refine vK<|zB<|vA<|vrT 5<|vspD 32 ((i:Int)<↑(Aa ds)) (λhc=>?_)<|λhc=>?_;refine vr 3 (ix ↑i ↑(Aa ds) (Ai bD ds≠[])) (vp 35 i (Ai bD ds)<|vr 1 (0<Aa (Am i<|Ai bD ds))<|vs 36 (AK (Am i<|Ai bD ds) Uk) (bD<|Ah ds i Ad) (hd:=by simp(disch:=omega) only[headD_bl])<|veT ?_) ⟨(by omega),⟨(by omega),(by exact zX)⟩⟩;refine zAa (t:=Ah ds i Ad) (by kernel_rfl) (λhc=>?_)<|λhc=>?_;refine vA<|ve (i6 ((0:Int)-vcmp (Ah a i Al) (Ah b i Al)))<|zK<|zG<|zL<|zG<|zG<|zL<|zG<|vre (True) (Af<|Ag AT ((0:Int)-vcmp (Ah a i Al) (Ah b i Al))) (.inr rfl) ?_;rotate_left;refine vK<|vAe<|zK<|zL<|zG<|zG<|zL<|zG<|vre (True) (Af<|Ag AT<|vcmp (Ah a i Al)<|Ah b i Al) (.inr rfl) ?_;rotate_left;refine veT<|vf<|vK<|vAe<|zK<|zL<|zG<|zG<|zL<|zG<|vre (True) (Af<|Ag AT<|vcmp (Ah a i Al)<|Ah b i Al) (.inr rfl) ?_;rotate_left;refine vZ2<|vB<|vAe<|vcD ((Aa a:Int)<(Aa b:Int)) (λhc=>?_)<|λhc=>?_;refine vAe<|zK<|zL<|zG<|vre (True) (q0_) (.inr rfl) ?_;rotate_left;refine vAe<|vcD ((Aa a:Int)>(Aa b:Int)) (λhc=>?_)<|λhc=>?_;refine vAe<|zK<|zL<|zG<|vre (True) (q1_) (.inr rfl) ?_;rotate_left;refine zJ<|zD<|vN<|vAe<|zK<|vre (True) (q2_) (.inr rfl) ?_;rotate_left
 ·refine⟨i+1,⟨by omega,by omega,?_⟩,by omega,?_⟩
  ·grind [zKb]
  refine vk 0
 ·grind [zPi,Int.zero_sub]
 ·grind [zPi]
 ·rw[zPi i a b ds (by omega) (by omega) h3 (by assumption),if_neg];grind
 all_goals grind [zVq]
theorem zD8(a b:List Va)(n m:Nat)(hn:a.length=n)(hm:b.length=m)(ln:n<=1000000000)(lm:m<=1000000000):Pure An 113 [.row (zN a) n, .row (zN b) m] [] (iD (rcmp a b)):=by
 refine zH zBf mixed Tryz.func113 rfl<|vAu<|vA<|vrT 2<|vcl [Av (zN a) n,Av (zN b) m,nl] [Av (zN a) n,Av (zN b) m,Av [] 0] (LeL.trans (LeL.refl _)<|LeL.cons (LeD.refl _)<|LeL.cons (LeD.refl _)<|LeL.cons LeD.nil_row LeL.nil) (by exact zQ1 a b [] _ _ 0 hn hm rfl ln lm (by omega))<|veT<|zK<|vre (True) (Af<|Ag AT<|zLp a b []) (.inr rfl) ?_;rw[zLo]
abbrev vaB(l:List Va):Bk:=⟨zN l,107,3,Ab,Ad, .plain⟩
theorem repL_va(n:Nat):repL n [.val (.int .i64 0), .val (.int .i64 0), .val (.string ⟨#[]⟩)]=zN (AB n ⟨0,0,[]⟩):=by
 induction n with
 |zero=>rfl
 |succ n ih=>simp only[repL,Cj,Cm]at ih⊢;rw[ih];rfl
def zP(r:List Va)(cols:List Nat):List Va:=cols.map λc=>r.getD c Al
theorem set3_va(r:List Va)(i:Nat)(v:Va)(h:i<r.length):(((zN r).set (i*3) (iD v.kind)).set (i*3+1) (iD v.int)).set (i*3+1+1) (strD v.str)=zN (r.set i v):=zXq r i v h
theorem zQn(r:List Va)(n:Nat)(h:r.length=n):(zN r).take (n*3)=zN r:=by grind [BF,zE4]
theorem zGu:kdOf Ad= .plain:=rfl
theorem zKz{α:Type}{a b:List α}{i:Nat}(d:α)(ha:i<a.length)(hb:i<b.length)(h:a.take i=b.take i):(a.set i (b.getD i d)).take (i+1)=b.take (i+1):=by
 rw[Bm (by simpa using ha),Bm hb,List.take_set_of_le (As _),h,List.getElem_set_self,Az,Ax hb];rfl
theorem zW9(r:List Va)(cols:List Nat)(i:Nat)(h:i<cols.length):(zP r cols).getD i Al=r.getD (cols.getD i 0) default:=by
 simp only[zP,Az,B8,Ax h,B2,B9]
abbrev q3_(x0:List Va):=Av (zN x0) (Aa x0)
set_option maxHeartbeats 2000000 in
theorem zGq(r:List Va)(cols:List Nat)(n m:Nat)(hn:r.length=n)(hm:cols.length=m)(ln:n<=1000000000)(lm:m<=100000)(hc:∀c∈cols,c<r.length):Pure An 141 [.row (zN r) n, .row (cols.map λc=>iD (c:Nat)) m] [] (.tup [.row (zN (zP r cols)) m,iD 0]):=by
 subst hn hm;have hci:∀i,i<cols.length->cols.getD i 0<r.length:=λi h=>by
  simp_all
 have hd:∀i,i<cols.length->((cols.map λc=>iD ((c:Nat):Int)).drop i).headD .unk=iD (cols.getD i 0:Nat):=λi h=>zEi (λc:Nat=>iD (c:Int)) cols 0 i h;refine zH zBf mixed Tryz.func141 rfl<|vAu<|zB<|vAe<|zF<|zQ (λ(i:Nat)=>fr 49 [(0,Av (zN r)<|Aa r),(1,Av (Ai (λ(c:Nat)=>iD (c:Int)) cols)<|Aa cols),(10,iD (Aa cols:Int)),(11,iD (i:Int))]) (λ_=>[]) (λi=>cols.length-i) (λi=>i<=cols.length) 0 ?_ ?_ ?_
 ·omega
 ·refine vk 0
 rintro i h1;have hi:=hci i;focus
  refine vAu<|zB<|vcD ((i:Int)<↑(Aa cols)) (λhc=>?_)<|λhc=>?_;refine vKB<|vAe<|vA<|vr 3 (ix ↑i ↑(Aa cols) (Ai (λ(c:Nat)=>iD c) cols≠[])) (vp 16 i (Ai (λ(c:Nat)=>iD c) cols)<|vr 1 (0<Aa (Am i<|Ai (λ(c:Nat)=>iD c) cols))<|vs 17 (AK (Am i<|Ai (λ(c:Nat)=>iD c) cols) Uk) (iD ↑(Ah cols i 0)) ?_) ⟨(by omega),⟨(by omega),(by exact zX)⟩⟩;refine vw 5 [] [(5,Ad)] (decide ((↑(Ah cols i 0):Int)<0)=Ad/\ix ↑i ↑(Aa cols) (Ai (λ(c:Nat)=>iD c) cols≠[])) (vp 22 i (Ai (λ(c:Nat)=>iD c) cols)<|vr 1 (0<Aa (Am i<|Ai (λ(c:Nat)=>iD c) cols))<|vs 23 (AK (Am i<|Ai (λ(c:Nat)=>iD c) cols) Uk) (iD ↑(Ah cols i 0))<|veT<|vF ((↑(Ah cols i 0):Int)>=(Aa r:Int))<|zJ<|zD<|vN<|zA rfl<|vr 2 (i6 (↑i+1))<|vnil<|zC ?_) ⟨(by kernel_rfl),⟨(by omega),⟨(by omega),(by exact zX)⟩⟩⟩;rotate_left;refine vZ2<|vA<|ve ((0:Int)<=(Aa cols:Int)/\(Aa cols:Int)<=(Aa cols:Int)/\(↑(32:Nat):Int)*(Aa cols:Int)<=(281474976710656:Int)/\(Aa cols:Int)<=(281474976710656:Int)/\0<3/\3=3)<|zB<|vAe<|zF ?_;rotate_left
 ·refine⟨i+1,by omega,by omega,?_⟩;refine vk 0
 refine zA2 (λ(i:Nat)(cur:List Va)=>fr 49 [(0,(q3_ r)),(1,Av (Ai (λ(c:Nat)=>iD c) cols)<|Aa cols),(7,Ao 0 0 (Aa cols) (Aa cols*3) Ab),(33,iD<|Aa cols),(34,iD i)]) (λi cur=>[vaB cur]) (λi cur=>cols.length-i) (λi cur=>i<=cols.length/\cur.length=cols.length/\cur.take i=(zP r cols).take i) 0 (AB cols.length<|Va.mk 0 0 []) ?_ ?_ ?_
 ·grind
 ·refine wkn (fr 49 [(0,Av (zN r) (Aa r)),(1,Av (Ai (λ(c:Nat)=>iD (↑c:Int)) cols) (Aa cols)),(7,Ao 0 0 (Aa cols) (Aa cols*3) Ab),(33,iD (↑(Aa cols):Int)),(34,iD 0)]) [Ap (repL (Aa cols) [iD 0,iD 0,Af (A2 (AS #[]))]) 107 3 Ab Ad (kdOf Ad)] (zKw [(0,1),(1,1),(7,1),(33,1),(34,1)] (Av (zN r) (Aa r)=Av (zN r) (Aa r)/\Av (Ai (λ(c:Nat)=>iD (↑c:Int)) cols) (Aa cols)=Av (Ai (λ(c:Nat)=>iD (↑c:Int)) cols) (Aa cols)/\Ao 0 0 (Aa cols) (Aa cols*3) Ab=Ao 0 0 (Aa cols) (Aa cols*3) Ab/\iD (↑(Aa cols):Int)=iD (↑(Aa cols):Int)/\iD 0=iD (↑(0:Nat):Int)) 1 [] (by kernel_rfl) ⟨rfl,rfl,rfl,rfl,(by kernel_rfl)⟩ (by kernel_rfl) (λ_ _=>rfl) (by simp[updB,repL_va,zGu]))
 rintro j cur ⟨k1,k2,k3⟩;have hj:=hci j;focus
  refine vAu<|zB<|vcD ((j:Int)<↑(Aa cols)) (λhc=>?_)<|λhc=>?_;refine vKB<|vAe<|zA rfl<|vr 6 (ix ↑j ↑(Aa cols) (Ai (λ(c:Nat)=>iD c) cols≠[])) (vp 42 j (Ai (λ(c:Nat)=>iD c) cols)<|vr 1 (0<Aa (Am j<|Ai (λ(c:Nat)=>iD c) cols))<|vs 43 (AK (Am j<|Ai (λ(c:Nat)=>iD c) cols) Uk) (iD ↑(Ah cols j 0))<|vr 2 (ix ↑(Ah cols j 0) ↑(Aa r) (zN r≠[])/\3<=Aa (Am (Ah cols j 0*3)<|zN r)) ?_ ⟨⟨(by omega),⟨(by omega),(by exact zGz _)⟩⟩,(by exact zFw _ _)⟩) ⟨(by omega),⟨(by omega),(by exact zX)⟩⟩;refine vs 45 (A3<|Ay 3<|Am (Ah cols j 0*3)<|zN r) (A3<|vaC<|Ah r (Ah cols j 0) Al) (hd:=by simp(disch:=omega) only[zDs])<|vr 1 ((0:Int)<=(j:Int)/\(j:Int)<↑(Aa cols))<|vo0 46 0 (j*3)<|vr 1 (Bk.fz (vaB cur)=Ad/\Ab=Ab/\3=3/\j*3+3<=Aa (A1<|vaB cur)/\¬0∈[]) (vb 0 (Ap (setAt (A1<|vaB cur) (j*3) [iD<|Va.kind<|Ah r (Ah cols j 0) Al,iD<|Va.int<|Ah r (Ah cols j 0) Al,Af<|A2<|bs<|Va.str<|Ah r (Ah cols j 0) Al]) (Bk.ty<|vaB cur) (Bk.sz<|vaB cur) Ab Ad<|Bk.kd<|vaB cur) (Ap (zN<|AN cur j<|Ah r (Ah cols j 0) Al) (107:TypeId) 3 Ab Ad Aq) (hd:=by simp(disch:=omega) only[setAt,set3_va])<|vnil<|zD<|vN<|zA rfl<|vr 2 (i6 (↑j+1))<|vnil<|zC ?_) ⟨(by kernel_rfl),⟨(by kernel_rfl),⟨(by kernel_rfl),⟨(by(simp[zE4];omega)),(by decide)⟩⟩⟩⟩;rotate_left;refine vZ2<|vAe<|zK<|zBr (True) (D.tup [Av (Ay (Aa cols*3)<|Am 0<|A1<|vaB cur)<|Aa cols,iD 0]) (D.tup [Av (Ay (Aa cols*3)<|zN cur)<|Aa cols,Af<|Ag AT 0]) (.inr rfl) (by simp(disch:=omega) only[A_]) ?_;rotate_left
 ·refine⟨j+1,cur.set j (r.getD (cols.getD j 0) Al),⟨by omega,by simpa using k2,?_⟩,by omega,?_⟩
  ·rw[<-zW9 r cols j (by omega)];grind [zKz,zP]
  refine vk 1
 grind [zQn,BL,BF,zP]
def idV(v:Va):List UInt8:=Ae v.kind++[32]++Ae v.int++[32]++Ae (v.str.length:Nat)++[32]++v.str
def idR(r:List Va):List UInt8:=r.flatMap idV
def Vs(v:Va):Prop:=(-9223372036854775808<=v.kind/\v.kind<=9223372036854775807)/\(-9223372036854775808<=v.int/\v.int<=9223372036854775807)/\v.str.length<=10000
theorem idV_len(v:Va)(h:Vs v):(idV v).length<=10100:=by
 have h1:=BG v.kind h.1.1 h.1.2;have h2:=BG v.int h.2.1.1 h.2.1.2;have h3:=BG (v.str.length:Nat) (by omega) (by have:=h.2.2;omega);have h4:=h.2.2;simp only[idV,Bf,Br,BQ];omega
theorem zWe(r:List Va)(i:Nat)(h:i<r.length):idR (r.take (i+1))=idR (r.take i)++idV (r.getD i Al):=by
 rw[Bm h,idR,List.flatMap_append,Az,Ax h];simp[idR]
theorem idR_len(r:List Va)(h:∀v∈r,Vs v)(i:Nat)(hi:i<=r.length):(idR (r.take i)).length<=10100*i:=by
 induction i with
 |zero=>simp[idR]
 |succ i ih=>
  rw[zWe r i (by omega),Bf]
  have:=ih (by omega)
  have:=idV_len (r.getD i Al) (by rw[Az,Ax (by omega)];exact h _ (A4 _))
  omega
def isConv:Op->Bool
 | .convert s d _=>s==281&&d==9
 |_=>Ad
def Tiy:Par:=⟨λf=>f==163,λ_ _=>Aj,λ_=>Ad,isConv,λ_=>Ad⟩
theorem Tiy_ok:zCe An Tiy:=by intro t n f h;cases h
theorem zR3(l:List UInt8):zFs (zAg l)=Ac l:=by
 induction l with
 |nil=>rfl
 |cons b l ih=>
  show(zFs (zAg l)).map (UInt8.ofNat ((b.toNat:Int)).toNat::·)=_;rw[ih];simp
theorem zQb(l:List UInt8):zNx (zAg l)=l:=by
 induction l with
 |nil=>rfl
 |cons b l ih=>
  show byteG (.val (.int .u8 b.toNat))::zNx (zAg l)=_;rw[ih];simp[byteG]
theorem zHb(l:List UInt8)(n:Nat)(h:l.length=n):(zAg l).take n=zAg l:=BF (by rw[zBe];omega)
def zNd(k:Nat)(st:List Bk):Bool:=st.zipIdx.all λp=>p.2==k||p.1.nob||!zC4 k p.1.cells
theorem zFk{k:Nat}{st:List Bk}(h:zNd k st=Ab):∀j e0,j≠k->st[j]?=Ac e0->e0.nob=Ab\/zC4 k e0.cells=false:=λj e0 hj he=>by
 unfold zNd at h;rw[A8]at h
 have:=h (e0,j) (List.mem_zipIdx_iff_getElem?.2 he)
 simp only[Bg,beq_iff_eq,Bx]at this;rcases this with(h1|h1)|h1
 ·exact absurd h1 hj
 ·exact .inl h1
 exact .inr h1
set_option maxHeartbeats 4000000 in
theorem rkey_c(r:List Va)(n:Nat)(hn:r.length=n)(hl:n<=10000)(hv:∀v∈r,Vs v):Pure An 142 [.row (zN r) n] [] (strD (idR r)):=by
 subst hn;refine zH Tiy_ok mixed Tryz.func142 rfl<|vAu<|vAe<|zB<|vAe<|zF<|zQ (λ(i:Nat)=>fr 51 [(0,Av (zN r)<|Aa r),(2,Af<|A2 (AS #[])),(3,Ao 0 0 (Aa<|idR<|Ay i r) (Aa<|idR<|Ay i r) Ab),(6,iD (Aa r:Int)),(7,iD (i:Int))]) (λi=>[byB<|idR<|r.take i]) (λi=>r.length-i) (λi=>i<=r.length) 0 ?_ ?_ ?_
 ·omega
 ·rw[show idR (r.take 0)=[]from rfl];refine vk 0
 rintro i h1;have hb:=idR_len r hv i (by omega);generalize ex:idR (r.take i)=x at*;rcases BH i r.length with hi|hi
 ·have hvi:Vs (r.getD i Al):=by rw[Az,Ax hi];exact hv _ (A4 _)
  have e2:=zWe r i hi;rw[ex]at e2;obtain⟨v,ev⟩:∃v,v=r.getD i default:=⟨_,rfl⟩;rw[<-ev]at e2 hvi;have l1:=BG v.kind hvi.1.1 hvi.1.2;have l2:=BG v.int hvi.2.1.1 hvi.2.1.2;have l3:=hvi.2.2;have l4:=BG (v.str.length:Nat) (by omega) (by omega);have e3:x++idV v=x++Ae v.kind++[32]++Ae v.int++[32]++Ae (v.str.length:Nat)++[32]++v.str:=by simp[idV]
  have e4:=zR2 r i hi;rw[<-ev]at e4;focus
   refine vAu<|zB<|vT ((i:Int)<↑(Aa r))<|vKB<|vAe<|vA<|vr 4 (ix ↑i ↑(Aa r) (zN r≠[])) (vs 13 (D.ptr<|Am (Aw (i:Int)*3)<|zN r) (D.ptr (iD (Va.kind v)::iD (Va.int v)::strD (Va.str v)::zN (Am (i+1) r))) (hd:=by simp(disch:=omega) only[A0,AR,AZ,e4])<|vr 2 (True/\0<Aa (iD (Va.kind v)::iD (Va.int v)::strD (Va.str v)::zN (Am (i+1) r)))<|vnt [byB x] ?_) ⟨(by omega),⟨(by omega),(by exact zGz _)⟩⟩;refine zJl [] [] [Ao 0 0 (Aa x) (Aa x) Ab,iD<|Va.kind v,iD 10] [Ao 0 0 (Aa x) (Aa x) Ab,iD<|Va.kind v,iD 10] (by kernel_rfl) trivial (LeL.refl _) (by exact zMs 0 _ v.kind _ (by simp) (by omega) hvi.1.1 hvi.1.2 rfl (zFk rfl)) (by kernel_rfl) ?_;refine v0s<|veT<|vA<|vr 3 (((1=1/\1<=1/\True)/\0<1/\1=1/\1<=16777216/\1<=9223372036854775807)/\Ab=Ab/\Aa (zAg (x++Ae (Va.kind v)))=(Aa x+Aa (Ae<|Va.kind v))*1/\Aa x+Aa (Ae<|Va.kind v)=(Aa x+Aa (Ae<|Va.kind v))*1/\5=5/\1=1/\1=1/\0<1/\0<1/\5=5/\(Aa x+Aa (Ae<|Va.kind v)+1)*1<=140737488355328/\1=1/\Bi Aq=Ad/\(Ad=Ad\/Bj Aq=Ab)) (vb 0 (Ap (zAg (x++Ae (Va.kind v))++[Af<|Ag Ak 32]) 5 1 Ab Ad Aq) (Ap (zAg (x++Ae (Va.kind v)++[(32:UInt8)])) 5 1 Ab Ad Aq) (hd:=by simp(disch:=omega) only[zDa,show([Af (Ag Ak 32)]:List D)=zAg [32]from rfl])<|vrT 1<|vs 3 (Ao 0 0 (Aa x+Aa (Ae<|Va.kind v)+1) ((Aa x+Aa (Ae<|Va.kind v)+1)*1) Ab) (Ao 0 0 (Aa x+Aa (Ae<|Va.kind v)+1) (Aa x+Aa (Ae<|Va.kind v)+1) Ab) (hd:=by simp(disch:=omega) only[Bp]) ?_) ⟨⟨⟨(by kernel_rfl),⟨(by omega),trivial⟩⟩,(by omega)⟩,⟨(by kernel_rfl),⟨(by simp[zBe]),⟨(by omega),⟨(by kernel_rfl),⟨(by kernel_rfl),⟨(by kernel_rfl),⟨(by omega),⟨(by omega),⟨(by kernel_rfl),⟨(by omega),⟨(by kernel_rfl),⟨(by kernel_rfl),(by simp)⟩⟩⟩⟩⟩⟩⟩⟩⟩⟩⟩⟩⟩;refine veT<|vA<|vr 4 (ix ↑i ↑(Aa r) (zN r≠[])) (vs 23 (D.ptr<|Am (Aw (i:Int)*3)<|zN r) (D.ptr (iD (Va.kind v)::iD (Va.int v)::strD (Va.str v)::zN (Am (i+1) r))) (hd:=by simp(disch:=omega) only[A0,AR,AZ,e4])<|vr 2 (True/\0<Aa (iD (Va.int v)::strD (Va.str v)::zN (Am (i+1) r)))<|vnt [Ap (zAg (x++Ae (Va.kind v)++[(32:UInt8)])) 5 1 Ab Ad Aq,Ap (zAg [(32:UInt8)]) 5 1 Ab Ad Aq] ?_) ⟨(by omega),⟨(by omega),(by exact zGz _)⟩⟩;refine zJl [] [] [Ao 0 0 (Aa x+Aa (Ae<|Va.kind v)+1) (Aa x+Aa (Ae<|Va.kind v)+1) Ab,iD<|Va.int v,iD 10] [Ao 0 0 (Aa x+Aa (Ae<|Va.kind v)+1) (Aa x+Aa (Ae<|Va.kind v)+1) Ab,iD<|Va.int v,iD 10] (by kernel_rfl) trivial (LeL.refl _) (by exact zMs 0 _ v.int _ (by simp;omega) (by omega) hvi.2.1.1 hvi.2.1.2 rfl (zFk rfl)) (by kernel_rfl) ?_;refine v0s<|veT<|vA<|vr 3 (((1=1/\1<=1/\True)/\0<1/\1=1/\1<=16777216/\1<=9223372036854775807)/\Ab=Ab/\Aa (zAg (x++Ae (Va.kind v)++[(32:UInt8)]++Ae (Va.int v)))=(Aa x+Aa (Ae<|Va.kind v)+1+Aa (Ae<|Va.int v))*1/\Aa x+Aa (Ae<|Va.kind v)+1+Aa (Ae<|Va.int v)=(Aa x+Aa (Ae<|Va.kind v)+1+Aa (Ae<|Va.int v))*1/\5=5/\1=1/\1=1/\0<1/\0<1/\5=5/\(Aa x+Aa (Ae<|Va.kind v)+1+Aa (Ae<|Va.int v)+1)*1<=140737488355328/\1=1/\Bi Aq=Ad/\(Ad=Ad\/Bj Aq=Ab)) (vb 0 (Ap (zAg (x++Ae (Va.kind v)++[(32:UInt8)]++Ae (Va.int v))++[Af<|Ag Ak 32]) 5 1 Ab Ad Aq) (Ap (zAg (x++Ae (Va.kind v)++[(32:UInt8)]++Ae (Va.int v)++[(32:UInt8)])) 5 1 Ab Ad Aq) (hd:=by simp(disch:=omega) only[zDa,show([Af (Ag Ak 32)]:List D)=zAg [32]from rfl]) ?_) ⟨⟨⟨(by kernel_rfl),⟨(by omega),trivial⟩⟩,(by omega)⟩,⟨(by kernel_rfl),⟨(by(simp[zBe];omega)),⟨(by omega),⟨(by kernel_rfl),⟨(by kernel_rfl),⟨(by kernel_rfl),⟨(by omega),⟨(by omega),⟨(by kernel_rfl),⟨(by omega),⟨(by kernel_rfl),⟨(by kernel_rfl),(by simp)⟩⟩⟩⟩⟩⟩⟩⟩⟩⟩⟩⟩⟩;refine vrT 1<|vs 3 (Ao 0 0 (Aa x+Aa (Ae<|Va.kind v)+1+Aa (Ae<|Va.int v)+1) ((Aa x+Aa (Ae<|Va.kind v)+1+Aa (Ae<|Va.int v)+1)*1) Ab) (Ao 0 0 (Aa x+Aa (Ae<|Va.kind v)+1+Aa (Ae<|Va.int v)+1) (Aa x+Aa (Ae<|Va.kind v)+1+Aa (Ae<|Va.int v)+1) Ab) (hd:=by simp(disch:=omega) only[Bp])<|veT<|vA<|vr 4 (ix ↑i ↑(Aa r) (zN r≠[])) (vs 33 (D.ptr<|Am (Aw (i:Int)*3)<|zN r) (D.ptr (iD (Va.kind v)::iD (Va.int v)::strD (Va.str v)::zN (Am (i+1) r))) (hd:=by simp(disch:=omega) only[A0,AR,AZ,e4])<|vr 3 (True/\0<Aa (strD (Va.str v)::zN (Am (i+1) r)))<|vnt [Ap (zAg (x++Ae (Va.kind v)++[(32:UInt8)]++Ae (Va.int v)++[(32:UInt8)])) 5 1 Ab Ad Aq,Ap [Af<|Ag Ak (↑(32:Nat):Int)] 5 1 Ab Ad Aq,Ap (zAg [(32:UInt8)]) 5 1 Ab Ad Aq] ?_) ⟨(by omega),⟨(by omega),(by exact zGz _)⟩⟩;refine zJl [] [] [Ao 0 0 (Aa x+Aa (Ae<|Va.kind v)+1+Aa (Ae<|Va.int v)+1) (Aa x+Aa (Ae<|Va.kind v)+1+Aa (Ae<|Va.int v)+1) Ab,iD (Aa (Va.str v):Int),iD 10] [Ao 0 0 (Aa x+Aa (Ae<|Va.kind v)+1+Aa (Ae<|Va.int v)+1) (Aa x+Aa (Ae<|Va.kind v)+1+Aa (Ae<|Va.int v)+1) Ab,iD (Aa (Va.str v):Int),iD 10] (by kernel_rfl) trivial (LeL.refl _) (by exact zMs 0 _ (v.str.length:Nat) _ (by simp;omega) (by omega) (by omega) (by omega) rfl (zFk rfl)) (by kernel_rfl) ?_;refine v0s<|veT<|vA<|vr 3 (((1=1/\1<=1/\True)/\0<1/\1=1/\1<=16777216/\1<=9223372036854775807)/\Ab=Ab/\Aa (zAg (x++Ae (Va.kind v)++[(32:UInt8)]++Ae (Va.int v)++[(32:UInt8)]++Ae (Aa (Va.str v):Int)))=(Aa x+Aa (Ae<|Va.kind v)+1+Aa (Ae<|Va.int v)+1+Aa (Ae (Aa (Va.str v):Int)))*1/\Aa x+Aa (Ae<|Va.kind v)+1+Aa (Ae<|Va.int v)+1+Aa (Ae (Aa (Va.str v):Int))=(Aa x+Aa (Ae<|Va.kind v)+1+Aa (Ae<|Va.int v)+1+Aa (Ae (Aa (Va.str v):Int)))*1/\5=5/\1=1/\1=1/\0<1/\0<1/\5=5/\(Aa x+Aa (Ae<|Va.kind v)+1+Aa (Ae<|Va.int v)+1+Aa (Ae (Aa (Va.str v):Int))+1)*1<=140737488355328/\1=1/\Bi Aq=Ad/\(Ad=Ad\/Bj Aq=Ab)) ?_ ⟨⟨⟨(by kernel_rfl),⟨(by omega),trivial⟩⟩,(by omega)⟩,⟨(by kernel_rfl),⟨(by(simp[zBe];omega)),⟨(by omega),⟨(by kernel_rfl),⟨(by kernel_rfl),⟨(by kernel_rfl),⟨(by omega),⟨(by omega),⟨(by kernel_rfl),⟨(by omega),⟨(by kernel_rfl),⟨(by kernel_rfl),(by simp)⟩⟩⟩⟩⟩⟩⟩⟩⟩⟩⟩⟩⟩;refine vb 0 (Ap (zAg (x++Ae (Va.kind v)++[(32:UInt8)]++Ae (Va.int v)++[(32:UInt8)]++Ae (Aa (Va.str v):Int))++[Af<|Ag Ak 32]) 5 1 Ab Ad Aq) (Ap (zAg (x++Ae (Va.kind v)++[(32:UInt8)]++Ae (Va.int v)++[(32:UInt8)]++Ae (Aa (Va.str v):Int)++[(32:UInt8)])) 5 1 Ab Ad Aq) (hd:=by simp(disch:=omega) only[zDa,show([Af (Ag Ak 32)]:List D)=zAg [32]from rfl])<|vrT 1<|vs 3 (Ao 0 0 (Aa x+Aa (Ae<|Va.kind v)+1+Aa (Ae<|Va.int v)+1+Aa (Ae (Aa (Va.str v):Int))+1) ((Aa x+Aa (Ae<|Va.kind v)+1+Aa (Ae<|Va.int v)+1+Aa (Ae (Aa (Va.str v):Int))+1)*1) Ab) (Ao 0 0 (Aa x+Aa (Ae<|Va.kind v)+1+Aa (Ae<|Va.int v)+1+Aa (Ae (Aa (Va.str v):Int))+1) (Aa x+Aa (Ae<|Va.kind v)+1+Aa (Ae<|Va.int v)+1+Aa (Ae (Aa (Va.str v):Int))+1) Ab) (hd:=by simp(disch:=omega) only[Bp])<|veT<|zA rfl<|vr 4 (ix ↑i ↑(Aa r) (zN r≠[])) (vs 44 (D.ptr<|Am (Aw (i:Int)*3)<|zN r) (D.ptr (iD (Va.kind v)::iD (Va.int v)::strD (Va.str v)::zN (Am (i+1) r))) (hd:=by simp(disch:=omega) only[A0,AR,AZ,e4]) ?_) ⟨(by omega),⟨(by omega),(by exact zGz _)⟩⟩;refine vwh 3 [] [] (True/\0<Aa (strD (Va.str v)::zN (Am (i+1) r))/\Ab=Ab/\Aa (zAg (x++Ae (Va.kind v)++[(32:UInt8)]++Ae (Va.int v)++[(32:UInt8)]++Ae (Aa (Va.str v):Int)++[(32:UInt8)]))=(Aa x+Aa (Ae<|Va.kind v)+1+Aa (Ae<|Va.int v)+1+Aa (Ae (Aa (Va.str v):Int))+1)*1/\Aa x+Aa (Ae<|Va.kind v)+1+Aa (Ae<|Va.int v)+1+Aa (Ae (Aa (Va.str v):Int))+1=(Aa x+Aa (Ae<|Va.kind v)+1+Aa (Ae<|Va.int v)+1+Aa (Ae (Aa (Va.str v):Int))+1)*1/\5=5/\1=1/\Aa (zAg<|AW<|AX<|bs<|Va.str v)=Aa (AW<|AX<|bs<|Va.str v)*1/\0<1/\0<1/\5=5/\(Aa x+Aa (Ae<|Va.kind v)+1+Aa (Ae<|Va.int v)+1+Aa (Ae (Aa (Va.str v):Int))+1+Aa (AW<|AX<|bs<|Va.str v))*1<=140737488355328/\1=1/\Bi Aq=Ad/\(Ad=Ad\/Bj Aq=Ab)) ⟨trivial,(lb (by kernel_rfl)),?_⟩ ?_;rotate_left;refine vb 0 (Ap (zAg (x++Ae (Va.kind v)++[(32:UInt8)]++Ae (Va.int v)++[(32:UInt8)]++Ae (Aa (Va.str v):Int)++[(32:UInt8)])++zAg (AW<|AX<|bs<|Va.str v)) 5 1 Ab Ad Aq) (Ap (zAg (x++Ae (Va.kind v)++[(32:UInt8)]++Ae (Va.int v)++[(32:UInt8)]++Ae (Aa (Va.str v):Int)++[(32:UInt8)]++Va.str v)) 5 1 Ab Ad Aq) (hd:=by simp(disch:=omega) only[bs_dl,zDa])<|vrT 1<|vs 3 (Ao 0 0 (Aa x+Aa (Ae<|Va.kind v)+1+Aa (Ae<|Va.int v)+1+Aa (Ae (Aa (Va.str v):Int))+1+Aa (AW<|AX<|bs<|Va.str v)) ((Aa x+Aa (Ae<|Va.kind v)+1+Aa (Ae<|Va.int v)+1+Aa (Ae (Aa (Va.str v):Int))+1+Aa (AW<|AX<|bs<|Va.str v))*1) Ab) (Ao 0 0 (Aa x+Aa (Ae<|Va.kind v)+1+Aa (Ae<|Va.int v)+1+Aa (Ae (Aa (Va.str v):Int))+1+Aa (Va.str v)) (Aa x+Aa (Ae<|Va.kind v)+1+Aa (Ae<|Va.int v)+1+Aa (Ae (Aa (Va.str v):Int))+1+Aa (Va.str v)) Ab) (hd:=by simp(disch:=omega) only[bs_dl,Bp])<|vnil<|zD<|vN<|zA rfl<|vr 2 (i6 (↑i+1))<|vnil<|zC ?_;rotate_left
  all_goals first|(refine⟨rfl,?_,?_,rfl,rfl,?_,by decide,by decide,rfl,?_,rfl,rfl, .inl rfl⟩<;>(try simp only[zBe,Bf,Br,BQ,bs_dl])<;>omega)|skip
  refine⟨i+1,by omega,by omega,?_⟩;rw[e2,e3];refine wk 3 (Ao 0 0 (Aa x+Aa (Ae (Va.kind v))+1+Aa (Ae (Va.int v))+1+Aa (Ae (↑(Aa (Va.str v)):Int))+1+Aa (Va.str v)) (Aa x+Aa (Ae (Va.kind v))+1+Aa (Ae (Va.int v))+1+Aa (Ae (↑(Aa (Va.str v)):Int))+1+Aa (Va.str v)) Ab) (Ao 0 0 (Aa (x++Ae (Va.kind v)++[(32:UInt8)]++Ae (Va.int v)++[(32:UInt8)]++Ae (↑(Aa (Va.str v)):Int)++[(32:UInt8)]++Va.str v)) (Aa (x++Ae (Va.kind v)++[(32:UInt8)]++Ae (Va.int v)++[(32:UInt8)]++Ae (↑(Aa (Va.str v)):Int)++[(32:UInt8)]++Va.str v)) Ab) (by(simp;omega)) (vk 1)
 have e:i=r.length:=by omega
 subst e;rw[BL]at ex;refine vAu<|zB<|vF ((Aa r:Int)<↑(Aa r))<|vZ2<|vA<|vr 2 (zFs (Ay (Aa x)<|Am 0<|A1<|byB x)=Ac (zNx<|Ay (Aa x)<|Am 0<|A1<|byB x)/\Aa (Ay (Aa x)<|Am 0<|A1<|byB x)=Aa x/\Program.underlying An 5=Ac (TypeDesc.int Ak)) (vs 50 (Af<|A2<|AS<|Ba<|zNx<|Ay (Aa x)<|Am 0<|A1<|byB x) (Af<|A2<|AS<|Ba x) (hd:=by simp(disch:=omega) only[A_,zHb,zQb])<|veT<|zK ?_) ⟨(by simp[zR3,zQb,zHb,zBe]),⟨(by simp[zR3,zQb,zHb,zBe]),(by kernel_rfl)⟩⟩;refine vre (True) (Af<|A2<|AS<|Ba x) (.inr rfl) ?_;rw[ex];rfl
end
def cntL(A:List Nat)(b:Nat):Nat:=(A.filter λv=>decide (v<b)).length
theorem zQa:∀{A:List Nat},A.Pairwise (· <·)->∀{v:Nat},v∈A->A.idxOf v=cntL A v
 |[],_,v,h=>by simp at h
 | a::A,hA,v,h=>by
  rw[Bs]at hA;by_cases e:a=v
  ·subst e;have:A.filter (λv=>decide (v<a))=[]:=by
    rw[List.filter_eq_nil_iff];intro x hx
    have:=hA.1 x hx
    simp;omega
   simp[cntL,this]
  have hm:=(AH.1 h).resolve_left λk=>e k.symm;have hlt:=hA.1 v hm
  have:=zQa hA.2 hm
  have e':(a==v)=false:=by simpa using e
  rw[List.idxOf_cons,e',cond_false,this];simp[cntL,hlt]
theorem zTv{A:List Nat}(hA:A.Pairwise (· <·)){v:Nat}(h:v∈A):cntL A v<A.length/\A.getD (cntL A v) 0=v:=by
 rw[<-zQa hA h];grind
theorem cntL_no{A:List Nat}{v:Nat}(h:v∉A)(hl:cntL A v<A.length):A.getD (cntL A v) 0≠v:=by grind
def bdU(U:List Nat)(t:Nat):Nat:=U.getD t 32
theorem bdU_lt{U:List Nat}(h:∀v∈U,v<32){t:Nat}(ht:t<U.length):bdU U t∈U:=by
 simp_all [bdU,Az,Ax,ht,A4]
theorem zWm{p q:Nat->Bool}:∀(A:List Nat),(∀x∈A,¬(p x=Ab/\q x=Ab))->(A.filter λx=>p x||q x).length=(A.filter p).length+(A.filter q).length
 |[],_=>rfl
 |a::A,h=>by
  have ih:=zWm A λx hx=>h x (AC _ hx);have ha:=h a (AD ..);cases h1:p a<;>cases h2:q a
  ·simp[h1,h2,ih]
  ·simp[h1,h2,ih];omega
  ·simp[h1,h2,ih];omega
  exact absurd ⟨h1,h2⟩ ha
theorem zNq:∀{A:List Nat},A.Nodup->∀v,(A.filter λx=>decide (x=v)).length=if v∈A then 1 else 0
 |[],_,v=>by simp
 |a::A,h,v=>by
  rw[Cr]at h;have ih:=zNq h.2 v;grind
theorem zR1{A U:List Nat}(hU:Asc U)(hA:A.Nodup)(hAU:∀v∈A,v∈U){t:Nat}(ht:t<U.length):cntL A (bdU U (t+1))=cntL A (bdU U t)+if bdU U t∈A then 1 else 0:=by
 have hget:bdU U t=U[t]:=by unfold bdU;rw[Az,Ax ht];rfl
 have hlt:bdU U t<bdU U (t+1):=by
  rcases BH (t+1) U.length with h|h
  ·have h2:bdU U (t+1)=U[t+1]:=by unfold bdU;rw[Az,Ax h];rfl
   rw[hget,h2];exact CC.1 hU.1 t (t+1) ht h (by omega)
  have h2:bdU U (t+1)=32:=by unfold bdU;rw[Az,B3 h];rfl
  rw[hget,h2];exact hU.2 _ (A4 ht)
 have key:∀x∈A,decide (x<bdU U (t+1))=(decide (x<bdU U t)||decide (x=bdU U t)):=by
  intro x hx;obtain⟨j,hj,rfl⟩:=List.getElem_of_mem (hAU x hx);rw[Cb];simp only[Bg,decide_eq_true_eq];have mono:∀i k (hi:i<U.length)(hk:k<U.length),i<k->U[i]<U[k]:=λi k hi hk h=>CC.1 hU.1 i k hi hk h;constructor
  ·intro h;rcases Cf j t with h1|h1|h1
   ·grind
   ·grind
   exfalso;have h3:t+1<U.length:=by omega
   have h2:bdU U (t+1)=U[t+1]:=by unfold bdU;rw[Az,Ax h3];rfl
   grind
  rintro(h|h)<;>omega
 unfold cntL;rw[List.filter_congr key,zWm A λx hx=>by simp;omega,zNq hA]
theorem cntL0{A U:List Nat}(hU:Asc U)(hAU:∀v∈A,v∈U):cntL A (bdU U 0)=0:=by
 unfold cntL;rw[List.length_eq_zero_iff,List.filter_eq_nil_iff];intro x hx;obtain⟨j,hj,rfl⟩:=List.getElem_of_mem (hAU x hx);have h2:bdU U 0=U[0]:=by unfold bdU;rw[Az,Ax (by omega)];rfl
 rw[h2];simp only[decide_eq_true_eq];rcases Nat.eq_zero_or_pos j with e|e
 ·subst e;omega
 have:=CC.1 hU.1 0 j (by omega) hj e;omega
theorem bdU_getD{U:List Nat}{t:Nat}(h:t<U.length):U.getD t 0=bdU U t:=by
 grind [bdU,Ax]
theorem mg_take(A:List Nat)(x:List Va)(B:List Nat)(y:List Va)(t:Nat)(ht:t<(un A B).length):((un A B).take (t+1)).map (sg A x B y)=((un A B).take t).map (sg A x B y)++[sg A x B y (bdU (un A B) t)]:=by
 rw[Bm ht,Ct];simp_all [bdU,Az,Ax,ht]
theorem asg_cnt{A:List Nat}(hA:A.Pairwise (· <·))(x:List Va){v:Nat}(h:v∈A):asg A x v=x.getD (cntL A v) default:=by
 rw[asg,zQa hA h]
section
open Go.RowKit
def dvl(l:List UInt8):Nat:=l.foldl (λa b=>a*10+(b.toNat-48)) 0
theorem zMi(u:Nat):dvl (Ar u)=u/\∀b∈Ar u,48<=b.toNat/\b.toNat<=57:=by
 induction u using Bu with
 | _ u ih=>
  rw[Ar];split
  ·rename_i h;have e:(UInt8.ofNat (48+u)).toNat=48+u:=by rw[UInt8.toNat_ofNat'];omega
   refine⟨by simp only[dvl,Bn,List.foldl_nil,e];omega,λb hb=>?_⟩;simp only[BA]at hb;rw[hb,e];omega
  rename_i h;obtain⟨h1,h2⟩:=ih (u/10) (by omega);have e:(UInt8.ofNat (48+u%10)).toNat=48+u%10:=by rw[UInt8.toNat_ofNat'];omega
  refine⟨?_,λb hb=>?_⟩
  ·unfold dvl at h1⊢;rw[List.foldl_append,h1];simp only[Bn,List.foldl_nil,e];omega
  rcases BN.1 hb with hb|hb
  ·exact h2 b hb
  simp only[BA]at hb;rw[hb,e];omega
theorem zPu{a b:Int}(h:Ae a=Ae b):a=b:=by
 have key:∀z:Int,z<0->∀u:Nat,Ae z≠Ar u:=λz hz u e=>by
  unfold Ae at e;rw[if_pos hz]at e
  have:=(zMi u).2 45 (by rw[<-e];simp)
  have e2:(45:UInt8).toNat=45:=rfl;omega
 by_cases ha:a<0<;>by_cases hb:b<0
 ·unfold Ae at h;rw[if_pos ha,if_pos hb]at h
  have:=congrArg dvl (Bl.inj h).2
  rw[(zMi _).1,(zMi _).1]at this;omega
 ·have e:Ae b=Ar b.toNat:=by unfold Ae;rw[if_neg hb]
  rw[e]at h;exact absurd h (key a ha _)
 ·have e:Ae a=Ar a.toNat:=by unfold Ae;rw[if_neg ha]
  rw[e]at h;exact absurd h.symm (key b hb _)
 unfold Ae at h;rw[if_neg ha,if_neg hb]at h
 have:=congrArg dvl h
 rw[(zMi _).1,(zMi _).1]at this;omega
theorem zJx(z:Int):∀b∈Ae z,b≠32:=by
 intro b hb e;subst e;have e2:(32:UInt8).toNat=32:=rfl;unfold Ae at hb;split at hb
 ·rcases AH.1 hb with h|h
  ·exact absurd h (by decide)
  have:=(zMi _).2 _ h;omega
 have:=(zMi _).2 _ hb;omega
theorem zWj:∀{a b s t:List UInt8},(∀x∈a,x≠32)->(∀x∈b,x≠32)->a++32::s=b++32::t->a=b/\s=t
 |[],[],s,t,_,_,h=>by simpa using h
 |[],y::b,s,t,_,hb,h=>by
  simp only[AZ,AR,Bl.injEq]at h;exact absurd h.1.symm (hb y (AD ..))
 |x::a,[],s,t,ha,_,h=>by
  simp only[AZ,AR,Bl.injEq]at h;exact absurd h.1 (ha x (AD ..))
 |x::a,y::b,s,t,ha,hb,h=>by
  simp only[AR,Bl.injEq]at h;obtain⟨h1,h2⟩:=zWj (λz hz=>ha z (AC _ hz)) (λz hz=>hb z (AC _ hz)) h.2;exact⟨by rw[h.1,h1],h2⟩
theorem idV_inj{v w:Va}{s t:List UInt8}(h:idV v++s=idV w++t):v=w/\s=t:=by
 simp only[idV,List.append_assoc,List.singleton_append,AR,AZ]at h;obtain⟨h1,h⟩:=zWj (zJx _) (zJx _) h;obtain⟨h2,h⟩:=zWj (zJx _) (zJx _) h;obtain⟨h3,h⟩:=zWj (zJx _) (zJx _) h;have g1:=zPu h1;have g2:=zPu h2;clear h1 h2;have h3:v.str.length=w.str.length:=by have:=zPu h3;omega
 obtain⟨h4,h5⟩:=List.append_inj h h3;obtain⟨vk,vi,vs⟩:=v;obtain⟨wk,wi,ws⟩:=w;simp only at g1 g2 h4;subst g1 g2 h4;exact⟨rfl,h5⟩
theorem idV_ne(v:Va)(s:List UInt8):idV v++s≠[]:=by
 intro h
 have:=congrArg Aa h
 simp[idV]at this
theorem zZr:∀{r s:List Va},idR r=idR s->r=s
 |[],[],_=>rfl
 |[],w::s,h=>absurd h.symm (idV_ne w (idR s))
 |v::r,[],h=>absurd h (idV_ne v (idR r))
 |v::r,w::s,h=>by
  have h:idV v++idR r=idV w++idR s:=h;obtain⟨h1,h2⟩:=idV_inj h;rw[h1,zZr h2]
abbrev kyv(r:List Va):Value:= .string (bs (idR r))
theorem vEq_ky(r s:List Va):vEq (kyv r) (kyv s)=decide (r=s):=by
 simp only[vEq,kyv,bs];rw[Cb];simp only[beq_iff_eq,decide_eq_true_eq];exact⟨λh=>zZr h,λh=>by rw[h]⟩
theorem zD3(K:List (List Va))(r:List Va):zG1 (K.map kyv) (kyv r)=K.findIdx? λs=>decide (r=s):=by
 unfold zG1;rw[List.findIdx?_map];congr 1;funext s;exact vEq_ky r s
theorem zBt(K:List (List Va)):(K.map kyv).all (zS .string)=true:=by simp[zS]
end
theorem cb_tr:∀(a b d:List UInt8),AG a b=-1->AG b d=-1->AG a d=-1
 |[],[],_,h,_=>by simp[AG]at h
 |[],_::_,[],_,k=>by simp[AG]at k
 |[],_::_,_::_,_,_=>rfl
 |_::_,[],_,h,_=>by simp[AG]at h
 |_::_,_::_,[],_,k=>by simp[AG]at k
 |x::a,y::b,z::d,h,k=>by
  have ih:=cb_tr a b d;simp only[AG]at h k⊢;grind
theorem zWo{a b:Int}:cmpD a b<0↔a<b:=by grind [zCj]
theorem vcmp_tr(a b d:Va)(h:vcmp a b<0)(k:vcmp b d<0):vcmp a d<0:=by
 obtain⟨ak,ai,as'⟩:=a;obtain⟨bk,bi,bs'⟩:=b;obtain⟨dk,di,ds⟩:=d;have t:=cb_tr as' bs' ds;have v1:=(zHj as' bs').1;have v2:=(zHj bs' ds).1;have v3:=(zHj as' ds).1;simp only[vcmp]at h k⊢;split at h<;>split at k<;>split<;>try simp only[zWo]at*
 all_goals (try split at h)<;>(try split at k)<;>(try split)<;>(try simp only[zWo]at*)<;>first|omega|(have:=t (by omega) (by omega);omega)|skip
theorem zSs:∀(a b d:List Va),rcmp a b<0->rcmp b d<0->rcmp a d<0
 |[],[],_,h,_=>by simp[rcmp]at h
 |[],_::_,[],_,k=>by simp[rcmp]at k
 |[],_::_,_::_,_,_=>by simp[rcmp]
 |_::_,[],_,h,_=>by simp[rcmp]at h
 |_::_,_::_,[],_,k=>by simp[rcmp]at k
 |x::a,y::b,z::d,h,k=>by
  have ih:=zSs a b d;simp only[rcmp]at h k⊢;grind [vcmp,zEc,vcmp_tr]
theorem rcw:Cw rcmp:=⟨λa b=>(zHw a b).2.1,λa b=>(zHw a b).2.2,zSs⟩
section
open Go.RowKit
theorem RelL.putAt{I:Im}{w:World}{β:Be}:∀{ds:List D}{vs:List Value}{i:Nat}{x:D},RelL I w β ds vs->(∀d v,ds[i]?=Ac d->vs[i]?=Ac v->Rel I w β d v->Rel I w β x v)->RelL I w β (ds.set i x) vs
 |[],vs,i,x,h,hx=>by simpa using h
 | d::ds,vs,i,x,h,hx=>by
  simp only[RelL]at h;obtain⟨v,us,rfl,h1,h2,h3⟩:=h;cases i with
  |zero=>simp only[List.set_cons_zero,RelL];exact⟨v,us,rfl,h1,hx d v rfl rfl h2,h3⟩
  |succ i=>
   simp only[List.set_cons_succ,RelL];exact⟨v,us,rfl,h1,h2,h3.putAt λd v hd hv=>hx d v (by simpa using hd) (by simpa using hv)⟩
section
variable {T : Par} {sl : List D} {st : List Bk}
theorem Weak.fzCell{j i:Nat}{ej:Bk}{d x:D}{ks:List Nat}(hj:st[j]?=Ac ej)(hm:ej.kd.isMap=Ad)(hf:ej.nob=Ad)(hi:ej.cells[i]?=Ac d)(hx:frz Ab st zA6 d=Ac (x,ks))(hjk:j∉ks):Weak T sl st sl ((zAy st ks).set j {ej with cells:=ej.cells.set i x}):=by
 intro β I w tm h;have hjl:j<st.length:=(Bv.1 hj).1;have hfr:=λv hv=>zB8 h.sr.weak _ _ _ _ v hx hv;have hget:∀k,((zAy st ks).set j {ej with cells:=ej.cells.set i x})[k]?=if k=j then Ac {ej with cells:=ej.cells.set i x}else(st[k]?).map λe=>if k∈ks then{e with fz:=Ab}else e:=λk=>by
  grind [zBm,zZ]
 refine⟨β,fixI I β st ks,⟨Bw (zAm ks) β β (AJ _) _ _ h.rel,λk b c hk=>?_,h.inj,λk b c o e hk he hi'=>?_,λk y hk=>?_,zEv h.sr.weak h.imb ks,h.gl.mono (zAm ks)⟩,⟨zAm ks,As _,λ_ _ _=>rfl,rfl,rfl,rfl,As _,λk b c hk=> .inl ⟨k,c,hk⟩,λb o hb=>?_⟩,AU _ _⟩
 ·obtain⟨e,k1,k2⟩:=h.sr k b c hk;by_cases hkj:k=j
  ·subst hkj;rw[hj]at k1;cases k1;refine⟨_,(hget k).trans (if_pos rfl),?_⟩;obtain⟨cur,c1,c2,c3,c4⟩:=k2.c hm;refine OwnC.r ⟨cur,c1,by simpa using c2,?_,c4⟩ hm;have hn2:({ej with cells:=ej.cells.set i x}:Bk).nob=false:=hf;rw[hn2];rw[hf]at c3;simp only[BU,AY,if_false]at c3⊢;refine(RelL.mono (zAm ks) β β (AJ _) _ _ c3).putAt λd' v hd hv hr=>?_;rw[hi]at hd;cases hd;obtain⟨v',g1,g2,g3⟩:=c3.get i d hi;grind [Rel.no]
  refine⟨if k∈ks then{e with fz:=Ab}else e,by rw[hget,if_neg hkj,k1];rfl,?_⟩;have k3:=BI (β':=β) k2 rfl (zAm (β:=β) (st:=st) ks) (AJ _);split
  ·exact k3.like rfl rfl rfl rfl rfl
  exact k3
 ·rw[hget]at he;by_cases hkj:k=j
  ·subst hkj;rw[if_pos rfl]at he;cases he;rcases hi' with hi'|⟨k',hk',c',e',m1,m2,m3⟩
   ·have:=h.fz k b c o ej hk hj hi'
    grind
   have:=h.inj k' k b c' c m1 hk
   subst this;exact absurd hk' hjk
  rw[if_neg hkj]at he;obtain⟨e0,he0,rfl⟩:=AE.1 he;rcases hi' with hi'|⟨k',hk',c',e',m1,m2,m3⟩
  ·have:=h.fz k b c o e0 hk he0 hi'
   grind
  have:=h.inj k' k b c' c m1 hk
  grind
 ·rw[BU,zZ];exact h.dom k y hk
 rcases hb with hb|⟨k',_,c',_,m1,_⟩;all_goals grind
theorem Weak.osr{s:Nat}{k off n m:Nat}{wh:Bool}{cs:List D}(hs:sl[s]?=Ac (.osl k off n m wh))(hx:frz Ab st zA6 (.osl k off n m wh)=Ac (.row cs n,[k])):Weak T sl st (sl.set s (.osr k off n m wh cs)) (zAy st [k]):=by
 intro β I w tm h;obtain⟨v,hv,hr⟩:=h.rel.get s _ hs;have hfr:=zB8 h.sr.weak _ _ _ _ v hx hr;have hget:∀j,(zAy st [k])[j]?=(st[j]?).map λe=>if j∈[k]then{e with fz:=Ab}else e:=λj=>zBm [k] st j
 refine⟨β,fixI I β st [k],⟨?_,λj b c hj=>?_,h.inj,λj b c o e hj he hi'=>?_,λj y hj=>?_,zEv h.sr.weak h.imb [k],h.gl.mono (zAm [k])⟩,⟨zAm [k],As _,λ_ _ _=>rfl,rfl,rfl,rfl,As _,λj b c hj=> .inl ⟨j,c,hj⟩,λb o hb=>?_⟩,AU _ _⟩
 ·have h0:=Bw (zAm (β:=β) (st:=st) [k]) β β (AJ _) _ _ h.rel;refine RelT.of_get (by rw[BU,h0.length]) λi d u hd hu=>?_;rw[List.getElem?_set]at hd;split at hd
  ·rename_i e;subst e;split at hd
   ·cases hd;rw[hv]at hu;cases hu;simp only[Rel]at hr hfr⊢;exact⟨hr,hfr⟩
   cases hd
  obtain⟨u',g1,g2⟩:=h0.get i d hd;rw[hu]at g1;cases g1;exact g2
 ·obtain⟨e,k1,k2⟩:=h.sr j b c hj;refine⟨if j∈[k]then{e with fz:=Ab}else e,by rw[hget,k1];rfl,?_⟩;have k3:=BI (β':=β) k2 rfl (zAm (β:=β) (st:=st) [k]) (AJ _);split
  ·exact k3.like rfl rfl rfl rfl rfl
  exact k3
 ·rw[hget]at he;obtain⟨e0,he0,rfl⟩:=AE.1 he;rcases hi' with hi'|⟨k',hk',c',e',m1,m2,m3⟩
  ·have:=h.fz j b c o e0 hj he0 hi'
   grind
  have:=h.inj k' j b c' c m1 hj
  grind
 ·rw[zZ];exact h.dom j y hj
 rcases hb with hb|⟨k',_,c',_,m1,_⟩;all_goals grind
theorem Weak.nilC{j i:Nat}{ej:Bk}(b:Bk)(hj:st[j]?=Ac ej)(hm:ej.kd.isMap=Ad)(hf:ej.nob=Ad)(hi:ej.cells[i]?=Ac (.val (.slice Aj 0 0))):Weak T sl st sl (st.set j {ej with cells:=ej.cells.set i (.osl st.length 0 0 0 Ab)}++[b]):=by
 intro β I w tm h;have hjl:j<st.length:=(Bv.1 hj).1;have hget:∀k,k<st.length->(st.set j {ej with cells:=ej.cells.set i (.osl st.length 0 0 0 Ab)}++[b])[k]?=if k=j then Ac {ej with cells:=ej.cells.set i (.osl st.length 0 0 0 Ab)}else st[k]?:=λk hk=>by
  grind
 refine⟨β,I,⟨h.rel,λk b' c hk=>?_,h.inj,λk b' c o e hk he hi'=>?_,λk y hk=>?_,h.imb,h.gl⟩,Bb _ _ _,AU _ _⟩
 ·obtain⟨e,k1,k2⟩:=h.sr k b' c hk;rw[hget k (h.dom k _ hk)];by_cases hkj:k=j
  ·subst hkj;rw[hj]at k1;cases k1;refine⟨_,if_pos rfl,?_⟩;obtain⟨cur,c1,c2,c3,c4⟩:=k2.c hm;refine OwnC.r ⟨cur,c1,by simpa using c2,?_,c4⟩ hm;have hn2:({ej with cells:=ej.cells.set i (.osl st.length 0 0 0 Ab)}:Bk).nob=false:=hf;rw[hn2];rw[hf]at c3;simp only[BU,AY,if_false]at c3⊢;refine c3.putAt λd v hd hv hr=>?_;rw[hi]at hd;cases hd;simp only[Rel]at hr⊢;grind
  grind
 ·have hlt:=h.dom k _ hk;rw[hget k hlt]at he;by_cases hkj:k=j
  ·subst hkj;rw[if_pos rfl]at he;cases he
   have:=h.fz k b' c o ej hk hj hi'
   grind
  rw[if_neg hkj]at he;exact h.fz k b' c o e hk he hi'
 rw[Bf,BU]
 have:=h.dom k y hk
 omega
theorem zAw{P:Program}{b:Code}{Q:Exit->List D->List Bk->Prop}{sl':List D}{st':List Bk}(h:Weak T sl st sl' st')(k:awp P T b Q sl' st'):zAh P T b Q sl st:=⟨_,_,h,k⟩
end
end
section
open Go.Shelf
open Go.Sort Go.RowKit in
open Go.RowKit Go.Sort in
def Tryz.laysSlF14_f164_ren:Go.Shelf.Ren:=⟨λ|14=>164|20=>178|21=>179|22=>180|23=>181|24=>182|25=>183|26=>184|27=>185|46=>194|47=>187|48=>188|49=>195|50=>196|15=>152|57=>203|28=>44|29=>173|n=>n,λ|24=>3|22=>39|3=>3|25=>126|4=>4|0=>0|46=>286|45=>285|50=>263|66=>300|39=>111|55=>52|70=>304|76=>310|77=>311|53=>27|5=>5|9=>9|n=>n,λ|n=>n⟩
theorem Tryz.laysSlF14_f164:Go.Proofs.SlLaysF.n14 An Tryz.laysSlF14_f164_ren:={
 mixed:=by kernel_rfl
 f14:=⟨Tryz.f164.name,by decide,Tryz.func164.trans (congrArg Ac (by kernel_rfl))⟩
 f15:=Tryz.func152.trans (congrArg Ac (by kernel_rfl))
 f20:=⟨Tryz.f178.name,by decide,Tryz.func178.trans (congrArg Ac (by kernel_rfl))⟩
 f21:=⟨Tryz.f179.name,by decide,Tryz.func179.trans (congrArg Ac (by kernel_rfl))⟩
 f22:=⟨Tryz.f180.name,by decide,Tryz.func180.trans (congrArg Ac (by kernel_rfl))⟩
 f23:=⟨Tryz.f181.name,by decide,Tryz.func181.trans (congrArg Ac (by kernel_rfl))⟩
 f24:=⟨Tryz.f182.name,by decide,Tryz.func182.trans (congrArg Ac (by kernel_rfl))⟩
 f25:=⟨Tryz.f183.name,by decide,Tryz.func183.trans (congrArg Ac (by kernel_rfl))⟩
 f26:=⟨Tryz.f184.name,by decide,Tryz.func184.trans (congrArg Ac (by kernel_rfl))⟩
 f27:=⟨Tryz.f185.name,by decide,Tryz.func185.trans (congrArg Ac (by kernel_rfl))⟩
 f28:=Tryz.func44.trans (congrArg Ac (by kernel_rfl))
 f29:=Tryz.func173.trans (congrArg Ac (by kernel_rfl))
 f46:=⟨Tryz.f194.name,by decide,Tryz.func194.trans (congrArg Ac (by kernel_rfl))⟩
 f47:=Tryz.func187.trans (congrArg Ac (by kernel_rfl))
 f48:=Tryz.func188.trans (congrArg Ac (by kernel_rfl))
 f49:=⟨Tryz.f195.name,by decide,Tryz.func195.trans (congrArg Ac (by kernel_rfl))⟩
 f50:=⟨Tryz.f196.name,by decide,Tryz.func196.trans (congrArg Ac (by kernel_rfl))⟩
 f57:=⟨Tryz.f203.name,by decide,Tryz.func203.trans (congrArg Ac (by kernel_rfl))⟩
 t0:=Tryz.underlying0
 a0:=Tryz.isAgg0
 z0:=Tryz.sizeOf0
 v0:=Tryz.zeroValue0
 t3:=Tryz.underlying3
 a3:=Tryz.isAgg3
 z3:=Tryz.sizeOf3
 v3:=Tryz.zeroValue3
 t4:=Tryz.underlying4
 a4:=Tryz.isAgg4
 z4:=Tryz.sizeOf4
 v4:=Tryz.zeroValue4
 t5:=Tryz.underlying5
 a5:=Tryz.isAgg5
 z5:=Tryz.sizeOf5
 v5:=Tryz.zeroValue5
 t9:=Tryz.underlying9
 a9:=Tryz.isAgg9
 z9:=Tryz.sizeOf9
 v9:=Tryz.zeroValue9
 t22:=Tryz.underlying39
 a22:=Tryz.isAgg39
 z22:=Tryz.sizeOf39
 v22:=Tryz.zeroValue39
 a24:=Tryz.isAgg3
 z24:=Tryz.sizeOf3
 t25:=Tryz.underlying126
 a25:=Tryz.isAgg126
 z25:=Tryz.sizeOf126
 v25:=Tryz.zeroValue126
 t39:=Tryz.underlying111
 a39:=Tryz.isAgg111
 z39:=Tryz.sizeOf111
 v39:=Tryz.zeroValue111
 t45:=Tryz.underlying285
 a45:=Tryz.isAgg285
 z45:=Tryz.sizeOf285
 v45:=Tryz.zeroValue285
 t46:=Tryz.underlying286
 a46:=Tryz.isAgg286
 z46:=Tryz.sizeOf286
 v46:=Tryz.zeroValue286
 t50:=Tryz.underlying263
 a50:=Tryz.isAgg263
 z50:=Tryz.sizeOf263
 v50:=Tryz.zeroValue263
 t53:=Tryz.underlying27
 a53:=Tryz.isAgg27
 z53:=Tryz.sizeOf27
 v53:=Tryz.zeroValue27
 t55:=Tryz.underlying52
 a55:=Tryz.isAgg52
 z55:=Tryz.sizeOf52
 v55:=Tryz.zeroValue52
 t66:=Tryz.underlying300
 a66:=Tryz.isAgg300
 z66:=Tryz.sizeOf300
 v66:=Tryz.zeroValue300
 t70:=Tryz.underlying304
 a70:=Tryz.isAgg304
 z70:=Tryz.sizeOf304
 v70:=Tryz.zeroValue304
 t76:=Tryz.underlying310
 a76:=Tryz.isAgg310
 z76:=Tryz.sizeOf310
 v76:=Tryz.zeroValue310
 t77:=Tryz.underlying311
 a77:=Tryz.isAgg311
 z77:=Tryz.sizeOf311
 v77:=Tryz.zeroValue311}
open Go.RowKit Go.Lib Go.Sort in
theorem Tryz.pdqsortCmpFunc_all_f164{α:Type}[Inhabited α](enc:α->Value)(cf:α->α->Int)(g:Nat)(cb:Array Value)(hO:SWO (ltOf cf))(blk off cap:Nat)(d0:Array α)(w0:World)(eg:∀args w,(callFunc g args).run An w= .ok (.enter g args) w)(hcmp:CmpLays1 An g cb enc cf blk off d0.size w0)(R:Row1 enc w0 blk off d0):
  ∀(N a b limit:Nat)(d:Array α)(w:World),b-a<N->d0.size=d.size->SW enc w0 blk off d w->a<=b->b<=d.size->d.size<4611686018427387904->limit<4611686018427387904->Below (ltOf cf) a b d->
  Calls An 164 #[.slice (Ac ⟨blk,off,Aj⟩) d.size cap, .int .i64 a, .int .i64 b, .int .i64 limit, .func (.func g) #[] cb] w λe w'=>e= .returned (.tuple #[])/\SW enc w0 blk off (pdq (ltOf cf) d a b limit Ab Ab) w':=Any.pdqsortCmpFunc_all Tryz.laysSlF14_f164 enc cf g cb hO blk off cap d0 w0 eg hcmp R
open Go.RowKit Go.Lib Go.Sort in
end
section
open Go.RowKit Go.Sort Go.Lib Go.Shelf
section
variable {P : Program} {I : Im} {w : World} {β : Be} {sl : List D} {st : List Bk} {tm : List Value}
theorem zE3(w:World)(os:Array Obj){b:Nat}(h:b<w.heap.size):(grow w os).heap[b]?=w.heap[b]?:=by
 simp[grow,Array.getElem?_append_left h]
theorem Fix.grow(hi:ImB I w)(os:Array Obj):Fix I w I (grow w os):=λb o h=>⟨h,λv hv=>by
 simp only[World.cell?]at hv⊢;rw[zE3 w os (hi b o h)];exact hv,λks vs hm=>hm.of_heap (zE3 w os hm.lt)⟩
theorem Sim.grow(h:Sim β I w sl st tm)(os:Array Obj):Sim β I (grow w os) sl st tm:=by
 have hf:=Fix.grow h.imb os;refine⟨Bw hf β β (AJ _) _ _ h.rel,λk b c hk=>?_,h.inj,h.fz,h.dom,λb o hb=>?_,h.gl.mono hf⟩
 ·obtain⟨e,h1,h2⟩:=h.sr k b c hk;exact⟨e,h1,h2.mono (zE3 w os h2.lt) hf (AJ _)⟩
 have:=h.imb b o hb
 simp[Go.Sort.grow];omega
theorem Stp.grow(hi:ImB I w)(β:Be)(os:Array Obj):Stp β I w β I (grow w os):=⟨Fix.grow hi os,by simp[Go.Sort.grow],λb hb _=>zE3 w os hb,rfl,rfl,rfl,As _,λk b c h=> .inl ⟨k,c,h⟩,λ_ _ h=> .inl h⟩
theorem zQu:∀(xs ys pre:List D),xs.length=ys.length->setAt (pre++xs) pre.length ys=pre++ys
 |xs,[],pre,hl=>by
  obtain rfl:xs=[]:=B5 (by simpa using hl);rfl
 |[],y::ys,pre,hl=>by simp at hl
 |x::xs,y::ys,pre,hl=>by
  simp only[setAt];have e1:(pre++x::xs).set pre.length y=(pre++[y])++xs:=by simp
  rw[e1]
  have:=zQu xs ys (pre++[y]) (by simpa using hl)
  grind
theorem Sim.fzAll(h:Sim β I w sl st tm)(ks:List Nat):Sim β (fixI I β st ks) w sl (zAy st ks) tm:=by
 refine⟨Bw (zAm ks) β β (AJ _) _ _ h.rel,λj b c hj=>?_,h.inj,λj b c o e hj he hi'=>?_,λj y hj=>?_,zEv h.sr.weak h.imb ks,h.gl.mono (zAm ks)⟩
 ·obtain⟨e,k1,k2⟩:=h.sr j b c hj;refine⟨if j∈ks then{e with fz:=Ab}else e,by rw[zBm,k1];rfl,?_⟩;have k3:=BI (β':=β) k2 rfl (zAm (β:=β) (st:=st) ks) (AJ _);split
  ·exact k3.like rfl rfl rfl rfl rfl
  exact k3
 ·rw[zBm]at he;obtain⟨e0,he0,rfl⟩:=AE.1 he;rcases hi' with hi'|⟨k',hk',c',e',m1,m2,m3⟩
  ·have:=h.fz j b c o e0 hj he0 hi'
   grind
  have:=h.inj k' j b c' c m1 hj
  grind
 rw[zZ];exact h.dom j y hj
theorem Stp.fzAll(hi:Sim β I w sl st tm)(ks:List Nat):Stp β I w β (fixI I β st ks) w:=⟨zAm ks,As _,λ_ _ _=>rfl,rfl,rfl,rfl,As _,λk b c h=> .inl ⟨k,c,h⟩,λb o hb=>by
 rcases hb with hb|⟨k',_,c',_,m1,_⟩
 ·exact .inl hb
 exact .inr (.inr ⟨k',c',m1⟩)⟩
theorem zXv{f:FuncId}{k n:Nat}{e:Bk}{wh:Bool}{ds':List D}{us3:List Value}{g:FuncId}{caps caps':List D}{ks:List Nat}(he:st[k]?=Ac e)(ha:e.arr=Ab)(hkd:e.kd= .plain)(hf:e.fz=Ad)(hlen:e.cells.length=n)(hl':ds'.length=n)(hpos:0<n)
  (hfr:frz Ab st zA6 (.clo (.func g) [] caps)=Ac (.clo (.func g) [] caps',ks))(hnk:k∉ks)
  (h:∀(I:Im) b c w us cb,ImB I w->Gl I w->(∀j,¬I b j)->RelT I w noB caps' cb->RelL I w noB e.cells us->(∃cur t,w.heap[b]?=Ac (.cells cur t (0,0)))->(∀j,j<n->w.cell? ⟨b,0+j,Aj⟩=Ac (us.getD j undef))->(∀j,j<n->w.frozen? ⟨b,0+j,Aj⟩=Ad)->n<=c->Calls P f (#[.slice (Ac ⟨b,0,Aj⟩) n c]++us3.toArray++#[.func (.func g) #[] cb.toArray]) w λx w'=>x= .returned (.tuple #[])/\∃vs q os,w'=grow ((w.drewN q).setCells b 0 vs) os/\RelL I w noB ds' vs):
  Acts P f (.osl k 0 n n wh::(us3.map .val++[.clo (.func g) [] caps])) st [] (.val (.tuple #[])) ((zAy st ks).set k {e with cells:=ds'}):=by
 intro β I w xs hr hsr hinj hfz hdom hi hg;simp only[RelT]at hr;obtain⟨v,ys,rfl,hr,hys⟩:=hr;have hsp:∀(us3:List Value)(ys:List Value),RelT I w β (us3.map .val++[.clo (.func g) [] caps]) ys->∃v3,ys=us3++[v3]/\Rel I w β (.clo (.func g) [] caps) v3:=by
  intro us3;induction us3 with
  |nil=>
   intro ys h;simp only[Bo,AZ,RelT]at h;grind
  |cons u us3 ih=>
   intro ys h;simp only[AI,AR,RelT]at h;obtain⟨v,us,rfl,h1,h2⟩:=h;simp only[Rel]at h1;grind
 obtain⟨v3,rfl,hv3⟩:=hsp us3 ys hys;simp only[Rel]at hr;rcases hr with⟨e0,_,rfl⟩|⟨e0,_,_,a,c,rfl,_⟩|⟨b,c,cap,hb,rfl,k1,k2,k3⟩
 ·omega
 ·omega
 have hs00:Sim β I w ([]:List D) st ({tmps:=#[],defers:=[]}:Act).tmps.toList:=⟨by simp only[RelT],hsr,hinj,hfz,hdom,hi,hg⟩;have hs0:=hs00.fzAll ks;have hstp0:=Stp.fzAll hs00 ks;have hv3':=zB8 hs00.sr.weak _ _ _ _ v3 hfr hv3;simp only[Rel]at hv3';obtain⟨vs0,cb,rfl,hn0,hcb⟩:=hv3';simp only[RelT]at hn0;subst hn0;have he2:(zAy st ks)[k]?=Ac e:=by rw[zBm,he];simp[hnk]
 have hni:e.kd.isMap=false:=by rw[hkd];rfl
 have hnob:e.nob=true:=by unfold Bk.nob;rw[hkd,ha];rfl
 obtain⟨e',he',ho⟩:=hs0.sr k b c hb;rw[he2]at he';cases he';obtain⟨cur,c1,c2,c3,c4⟩:=ho.c hni;rw[hnob]at c3;simp only[if_true]at c3;have hno:∀j,¬fixI I β st ks b j:=λj hij=>by
  have:=(hs0.fz k b c j e hb he2 hij).1
  rw[hf]at this;cases this
 have hlc:(cur.take e.cells.length).length=n:=by rw[<-c3.length];exact hlen
 have hcell:∀j,j<n->w.cell? ⟨b,0+j,Aj⟩=Ac ((cur.take e.cells.length).getD j undef)/\w.frozen? ⟨b,0+j,Aj⟩=false:=λj hj=>by
  have hlt:j<cur.length:=by rw[By]at hlc;omega
  refine⟨?_,frozen_of_row w b (0+j) cur.toArray e.ty c1⟩;rw[Az,Bq,if_pos (by omega),Ax hlt];simp[World.cell?,c1,hlt]
 have e1:(#[Ce (Ac ⟨b,0,Aj⟩) n cap]++us3.toArray++#[Value.func (.func g) #[] cb.toArray])=(Ce (Ac ⟨b,0,Aj⟩) n cap::(us3++[Value.func (.func g) #[] cb.toArray])).toArray:=by apply Array.ext';simp
 rw[show(Ba ([]:List Value))=#[]from rfl,<-e1];refine(h (fixI I β st ks) b cap w (cur.take e.cells.length) cb hs0.imb hs0.gl hno hcb c3 ⟨_,_,c1⟩ (λj hj=>(hcell j hj).1) (λj hj=>(hcell j hj).2) k1).mono ?_;rintro x w' ⟨rfl,vs,q,os,rfl,hvs⟩;have hvs':RelL (fixI (fixI I β st ks) β (zAy st ks) []) (w.drewN q) (if e.nob then noB else β) ds' vs:=by
  rw[hnob];simp only[if_true];exact RelL.mono ((Fix.drew (fixI I β st ks) w q).trans (zAm [])) _ _ (AJ _) _ _ hvs
 obtain⟨s1,s2,s3⟩:=(hs0.drew q).put (off:=0) (cs:=ds') (vs:=vs) (ks:=[]) hb he2 hf hni (by simp) hvs' (by omega) Aj undef;have hset2:setAt e.cells 0 ds'=ds':=zQu e.cells ds' [] (by omega);rw[hset2]at s1;have s4:=s1.grow os;exact⟨_,β,_,rfl,s4.imb,hstp0.trans ((Stp.drew β _ w q).trans (s2.trans (Stp.grow s1.imb β os))),λ_ _ _ h=>h,s4.sr,s4.inj,s4.fz,s4.dom,by simp only[Rel]⟩
end
end
section
open Go.RowKit Go.Sort Go.Lib Go.Shelf
theorem ext_grow{w w':World}(h:Ext w w'):∃q os,w'=grow (w.drewN q) os:=by
 obtain⟨p,hp⟩:=regrown_of_below h.1;have hd:=h.2;refine⟨p.d-w.drawn,p.os,?_⟩;rw[hp]at hd⊢;have:w.drawn<=p.d:=hd;congr 1;unfold redrawn World.drewN;congr 1;omega
structure On(zs:List Nat)(cf:Nat->Nat->Int):Prop where
 eq:∀x∈zs,∀y∈zs,(cf x y=0↔x=y)
 neg:∀x∈zs,∀y∈zs,cf y x=-cf x y
 tr:∀x∈zs,∀y∈zs,∀z∈zs,cf x y<0->cf y z<0->cf x z<0
def zBp(cf:Nat->Nat->Int)(zs:List Nat):List Nat:=zs.mergeSort λa b=>decide (cf a b<=0)
section
variable {zs : List Nat} {cf : Nat → Nat → Int}
theorem On.le_tr(h:On zs cf){a b d:Nat}(ha:a∈zs)(hb:b∈zs)(hd:d∈zs)(h1:cf a b<=0)(h2:cf b d<=0):cf a d<=0:=by
 by_cases e1:cf a b=0
 ·rw[(h.eq a ha b hb).1 e1];exact h2
 by_cases e2:cf b d=0
 ·rw[<-(h.eq b hb d hd).1 e2];exact h1
 have:=h.tr a ha b hb d hd (by omega) (by omega);omega
theorem zA5(cf:Nat->Nat->Int)(zs:List Nat):(zBp cf zs).Perm zs:=List.mergeSort_perm _ _
theorem On.swo(h:On zs cf):SWO (ltOf λx y:{z//z∈zs}=>cf x.1 y.1):=by
 refine⟨λx=>?_,λx y z h1 h2=>?_,λx y z h1 h2=>?_⟩
 ·simp[ltOf,(h.eq x.1 x.2 x.1 x.2).2 rfl]
 ·simp only[ltOf,decide_eq_true_eq]at*;exact h.tr _ x.2 _ y.2 _ z.2 h1 h2
 simp only[ltOf,decide_eq_false_iff_not]at*;have g1:=h.neg x.1 x.2 y.1 y.2;have g2:=h.neg y.1 y.2 z.1 z.2;have g3:=h.neg x.1 x.2 z.1 z.2
 have:=h.le_tr (a:=z.1) (b:=y.1) (d:=x.1) z.2 y.2 x.2 (by omega) (by omega)
 omega
theorem On.sorted(h:On zs cf):(zBp cf zs).Pairwise λa b=>¬cf b a<0:=by
 have key:(zs.attach.mergeSort λa b=>decide (cf a.1 b.1<=0)).Pairwise λa b=>decide (cf a.1 b.1<=0)=true:=
  List.pairwise_mergeSort (le:=λa b:{z//z∈zs}=>decide (cf a.1 b.1<=0)) (λa b d h1 h2=>by
   simp only[decide_eq_true_eq]at*;exact h.le_tr a.2 b.2 d.2 h1 h2) (λa b=>by
   have:=h.neg a.1 a.2 b.1 b.2
   simp only[Bg,decide_eq_true_eq];omega) zs.attach
 have e:zBp cf zs=(zs.attach.mergeSort λa b=>decide (cf a.1 b.1<=0)).map (·.1):=by
  grind [zBp,List.attach_map_subtype_val,List.map_mergeSort]
 rw[e,BC];refine key.imp λ{a b} h1=>?_
 have:=h.neg a.1 a.2 b.1 b.2
 grind
theorem On.uniq(h:On zs cf){m:List Nat}(hp:m.Perm zs)(hs:m.Pairwise λa b=>¬cf b a<0):m=zBp cf zs:=by
 have hp2:=zA5 cf zs;refine List.Perm.eq_of_pairwise (le:=λa b=>¬cf b a<0) (λa b ha hb h1 h2=>?_) hs h.sorted (hp.trans hp2.symm);have ha:=hp.mem_iff.1 ha;have hb:=hp2.mem_iff.1 hb
 have:=h.neg a ha b hb
 exact(h.eq a ha b hb).1 (by omega)
end
end
def zAf(rows:List (List Va))(i j:Nat):Int:=rcmp (rows.getD i []) (rows.getD j [])
theorem zPf{rows:List (List Va)}(hn:rows.Nodup):On (A6 rows.length) (zAf rows):=by
 refine⟨λx hx y hy=>?_,λx _ y _=>rcw.neg _ _,λx _ y _ z _=>rcw.tr _ _ _⟩;have hx:x<rows.length:=by simpa using hx
 have hy:y<rows.length:=by simpa using hy
 unfold zAf;rw[rcw.eq,Az,Az,Ax hx,Ax hy];simp only[B9];exact⟨λh=>(List.getElem_inj hn).1 h,λh=>by subst h;rfl⟩
section
variable {α : Type}
def srtL(l:List (Rw×α)):List (Rw×α):=acc rcmp (λa _=>a) [] l
theorem zHm(f:α->α->α){l:List (Rw×α)}(h:Ndk l):acc rcmp f [] l=srtL l:=by
 have hs:=zFv rcw (λ(a _:α)=>a) l [] AM.nil;refine Srt.uniq rcw (zFv rcw f l [] AM.nil) hs λr=>?_;rw[zKl rcw f l [] r AM.nil];unfold srtL;rw[zKl rcw _ l [] r AM.nil];have e:kv ([]:List (Rw×α)) r=none:=rfl;rw[e,zNt f l r h,zNt _ l r h]
theorem zCn[Inhabited α]{l:List (Rw×α)}(h:Ndk l):(zBp (zAf (l.map (·.1))) (A6 l.length)).map (λi=>l.getD i Al)=srtL l:=by
 have ho:=zPf (rows:=l.map (·.1)) (show(l.map (·.1)).Nodup from h);rw[B7]at ho;have hp:=zA5 (zAf (l.map (·.1))) (A6 l.length);have hr:(A6 l.length).map (λi=>l.getD i Al)=l:=by
  apply Cs (by simp);intro i h1 h2;simp[Az,h2]
 refine perm_acc rcw _ ?_ ?_ h
 ·have:=hp.map λi=>l.getD i Al
  rwa[hr]at this
 unfold Srt;rw[BC];have hs:=ho.sorted;have hnd:(zBp (zAf (l.map (·.1))) (A6 l.length)).Nodup:=hp.nodup_iff.2 List.nodup_range;refine(hs.and hnd).imp_of_mem λ{a b} ha hb hab=>?_;have ha:=hp.mem_iff.1 ha;have hb:=hp.mem_iff.1 hb;have h1:=ho.neg a ha b hb;have h2:=ho.eq a ha b hb;have ha':a<l.length:=by simpa using ha
 have hb':b<l.length:=by simpa using hb
 have e:∀i,i<l.length->(l.map (·.1)).getD i []=(l.getD i Al).1:=λi hi=>by simp[Az,hi]
 have h3:zAf (l.map (·.1)) a b≠0:=λh=>hab.2 (h2.1 h);have h4:zAf (l.map (·.1)) a b<0:=by omega
 unfold zAf at h4;rwa[e a ha',e b hb']at h4
end
end Go.Proofs.YtmfamhoopjeaiaaGreatDoor
