/- Texts of this claim, joined. -/
import Derived.Test.YthmfohpkimflhaaGreatDoorU01
import Derived.ProofKit
import Derived.Carry
import Derived.ChangeSame
import Derived.Lib.Bytealg
import Derived.Shelf.Small.Bits
import Derived.Shelf.Small.Strs
import Derived.Shelf.Small.Wraps
import Derived.Shelf.Strconv.Itoa0
import Derived.Shelf.Strconv.Itoa1
import Derived.Shelf.LaysM
import Derived.Shelf.Strconv.Itoa2
import Derived.Shelf.Sort.Plain
import Derived.Shelf.Strconv.AppendUint10
import Derived.Shelf.Strconv.AppendInt10
import Derived.Shelf.Strconv.AppendIntPublic10
import Derived.Shelf.Slices.Equal
import Derived.Ground.Names2Prog
import Derived.Shelf.Slices.Clone
import Derived.Shelf.Slices.CompactI
import Derived.Shelf.Slices.SearchI
import Derived.Shelf.Slices.Cells
import Derived.Shelf.Slices.In.SortNone
import Derived.Shelf.Slices.Empties2
import Derived.Ground.SlsfProg
import Derived.Test.YthmfohpkimflhaaGreatDoorProg
import Derived.Shelf.SlSortCmp.Whole1
import Derived.Lib.RowBridge
import Derived.Lib.QuietBelow
import Derived.Sort.AssemblyPlain
import Derived.BigQuiet
import Derived.Lib.SliceRun
import Derived.Lib.AppendZeros
import Derived.Laws.Append
import Derived.Lib.Strings
import Derived.Deep.QuietTactic
set_option linter.unusedVariables false
set_option linter.unusedSimpArgs false
namespace Go.Proofs.YthmfohpkimflhaaGreatDoor
open _root_.Bool renaming true->Aa,false->Ac,and_eq_true->AD,false_eq_true->AS,or_eq_true->AW,not_eq_true'->Br,eq_iff_iff->BP
open _root_.Option renaming some->Ab,none->Ae,map_eq_some_iff->Ar,some->AT,map_some->Ba
open _root_.List renaming length->Ad,map->Af,getD->Aj,drop->Am,getElem?_eq_getElem->Ap,range->Az,replicate->AA,mem_cons_of_mem->AF,mem_cons_self->AG,mem_cons->AH,map_cons->AI,all_eq_true->AN,getD_eq_getElem?_getD->AP,mem_map->AR,Pairwise->AU,length_map->AX,map_congr_left->AY,getElem?_eq_some_iff->AZ,eq_nil_of_length_eq_zero->A0,take_of_length_le->A2,take_succ_eq_append_getElem->A3,pairwise_cons->A4,mem_filter->A5,getElem_mem->A6,map_nil->Bb,length_set->Bc,take->Bg,ext_getElem?->Bh,length_take->Bi,getElem?_map->Bj,ext_getElem->Bl,foldr_cons->Bm,getElem?_take->Bo,length_append->Bp,take_append_drop->Bs,getElem?_range->Bu,length_cons->Bx,pairwise_map->By,mem_of_getElem?->BF,replicate_succ->BG,mem_range->BH,getElem?_eq_none->BI,cons_append->BJ,flatten_cons->BK,length_drop->BL,drop_zero->BM,drop_eq_getElem_cons->BN,mem_append->BO,pairwise_iff_getElem->BS,headD->BX,getElem?_cons_zero->BY,getElem?_set_self->BZ,getElem?_set_ne->B0,mem_singleton->B6,mem_append_left->B7,mem_append_right->B8,getElem?_set->Ca,append_nil->Cb,drop_of_length_le->Cc,drop_drop->Cd,nil_append->Ce,foldl_cons->Cg,getElem_of_mem->Ch,getElem?_append_left->Cn,idxOf_lt_length_iff->Cp
open _root_.Go.Proofs.Tryz renaming prog->Ag,func119->BB,func86->BU,func118->BV,func75->B1
open _root_.Inhabited renaming default->Ah
open D renaming osl->Ai,val->Al,row->An,clo->Ay,agg->AE,own->AK
open _root_.Nat renaming le_refl->Ak,lt_or_ge->AL,zero_le->A1,succ_mul->Bt,eq_zero_or_pos->Bv,shiftRight_eq_div_pow->BA,mul_one->BC,zero_add->BD,lt_of_le_of_lt->BQ,min_eq_left->BR,strongRecOn->B2,le_of_ble_eq_true->B5,lt_of_lt_of_le->Ci,testBit_eq_decide_div_mod_eq->Cq
open Bk renaming mk->Ao,cells->Aq,nob->A9
open _root_.Prod renaming mk->As
open Value renaming int->Au,bool->AO,string->Bf,okWide->Bw,ownBlock->Ck
open Lib renaming compareBytes->Av,bitLen->Bd,run_eql_slice_nil->Bn
open _root_.Int renaming toNat->Aw
open Kd renaming plain->Ax
open IntKind renaming i64->AB,u32->A_,bits->B9,signed->B_
open BeLe renaming refl->AC
open _root_.BitVec renaming ofInt->AJ
open Kp renaming refl->AM
open Stp renaming refl->AQ
open _root_.Array renaming getElem?_eq_some_iff->AV,replicate->A8,toArray_toList->BW,getD_eq_getD_getElem?->B3,getElem?_replicate->B4
open RelT renaming mono->A7
open OwnRel renaming mono->Bq,same->BE
open World renaming cell?->BT,cells?_some->Cf,ownsRow_made->Cj
open _root_.ByteArray renaming mk->Cl,toList_eq->Co
section
open Go.RowKit
section
variable {P : Program} {T : Par} {ops : Array Oper} {ord : List Nat} {W : Nat → Nat → Bool} {Lt : Nat → List Nat} {S : Nat → List D} {R : Nat → List Bk} {Q : Exit → Act → World → Prop} {K : List D → List Bk → Prop}
variable {β0 : Be} {I0 : Im} {w0 : World} {df : List Deferred}
theorem any_sound(hg0:Gl I0 w0)(hM:zBi P T)(F:RegF T ops ord W Lt)(hS:ops.size=ord.length)(htr:∀(p:Nat) i o,ord[p]?=Ab i->ops[i]?=Ab o->zBt P T ops o (S p) (R p) (Eqs (S (p+1)) (R (p+1))))(hK:K (S ops.size) (R ops.size))(hL:∀t e,ord[t]?=Ab e->∀i∈Lt e,∃n,zHj P T ops (ops.getD i Ah) n (S (t+1)) (R (t+1))/\(n<(R t).length->zRm (ops.getD e Ah) n (S t))/\(R t).length<=(R (t+1)).length)
  (hP:∀c a w,¬Q (.panic c) a w)(hQ:∀a' w',zYy T K β0 I0 w0 df a' w'->Q .normal a' w'):
  ∀(fuel:Nat)(listed:Array Bool)(a:Act)(w:World)(s t:Nat),Inv P T ops ord W S R β0 I0 w0 df s t listed a w->listed.toList.count Ac<=fuel->wpAny P .any ops Q fuel listed a w:=by
 have hop:∀p,p<ops.size->∃i o,ord[p]?=Ab i/\ops[i]?=Ab o:=λp hp=>by
  have h1:p<ord.length:=by omega
  refine⟨ord[p],ops[ord[p]]'((F.mem _).2 (A6 h1)),Ap h1,by simp[(F.mem _).2 (A6 h1)]⟩
 have finish:∀(listed:Array Bool)(a:Act)(w:World)(s t:Nat),Inv P T ops ord W S R β0 I0 w0 df s t listed a w->Region.ready .any ops listed=[]->Q .normal a w:=by
  intro listed a w s t h hr;have hall:∀i,i<ops.size->Ls listed i:=by
   suffices H:∀n i,pos ord i=n->i<ops.size->Ls listed i from λi=>H _ i rfl
   intro n;induction n using B2 with
   | _ n ih=>
    intro i hn hi;by_cases hl:Ls listed i
    ·exact hl
    exfalso;have:i∈Region.ready .any ops listed:=(zB8 h.size).2 ⟨hl,ops[i],by simp[hi],λd hd=>by
     have:=F.dep i ops[i] (by simp[hi]) d hd
     exact ih (pos ord d) (by omega) d rfl this.1⟩
    rw[hr]at this;cases this
  have ht:t=ops.size:=by
   rcases h.atT with h1|⟨i,o,h1,h2,h3⟩
   ·exact h1
   exact absurd (hall i (AV.1 h2).1) (h.hi t i (Ak _) h1)
  subst ht;obtain⟨β,I,k1,⟨k2,k3⟩,_⟩:=h.full F hg0;have hX:zMn ops ord listed ops.size=[]:=by
   rw[List.eq_nil_iff_forall_not_mem];grind [zD7,AV]
  rw[hX]at k1;exact hQ a w ⟨_,_,β,I,hK,k1,k2,h.df,k3⟩
 intro fuel;induction fuel with
 | zero=>
  intro listed a w s t h hc;have hr:Region.ready .any ops listed=[]:=by
   cases hx:Region.ready .any ops listed with
   |nil=>rfl
   | cons i l=>
    exfalso;have hi:i∈Region.ready .any ops listed:=by rw[hx];simp
    obtain⟨hn,o,ho,_⟩:=(zB8 h.size).1 hi;have hlt:i<listed.size:=by rw[h.size];exact(AV.1 ho).1
    have:listed.toList[i]?=Ab false:=by
     simp_all [Ls]
    grind
  exact⟨hr,finish listed a w s t h hr⟩
 | succ fuel ih=>
  intro listed a w s t h hc;have hcount:∀i,i∈Region.ready .any ops listed->(listed.setIfInBounds i Aa).toList.count Ac<=fuel:=by
   intro i hi;obtain⟨hn,o,ho,_⟩:=(zB8 h.size).1 hi;have hlt:i<listed.size:=by rw[h.size];exact(AV.1 ho).1
   have h1:listed.toList[i]?=Ab false:=by
    simp_all [Ls]
   grind
  by_cases hlight:∃i o,i∈Region.ready .any ops listed/\ops[i]?=Ab o/\zY T o.op=Aa
  ·obtain⟨i,o,hi,ho,hl⟩:=hlight;obtain⟨o',ho',hpi,hp2⟩:=h.place F hi;rw[ho]at ho';cases ho';obtain⟨hn,o2,ho2,hd⟩:=(zB8 h.size).1 hi;rw[ho]at ho2;cases ho2;have hElight:isE T o.op=false:=by
    revert hl;cases o.op<;>simp[zY,isE];grind
   have hlt:pos ord i<t:=by
    rcases hp2 with h1|h1
    ·exact h1
    exfalso;rcases h.atT with h2|⟨j,oj,j1,j2,j3⟩;all_goals grind
   obtain⟨β,I,SL,k0,k1,k2,k3,k4,k5,k6,k7,k8,k9,k10⟩:=h.ex;have first:∀(v:Value),(Region.wanted o (yielded ops a.tmps)=Aa/\(∀W:World,(execOp a.eval o).run P W= .ok (.value v) W))\/(Region.wanted o (yielded ops a.tmps)=Ac/\v=undef)->Inv P T ops ord W S R β0 I0 w0 df s t (listed.setIfInBounds i Aa) (a.put o.dst v) w->wpAny P .any ops Q (fuel+1) listed a w:=by
    intro v hv hinv;refine wpAny_first ho (Region.noSelect_spec F.nosel) (λc a w hx=>absurd hx (hP c _ _)) fuel listed a w (λj oj hj hne hun hno=>?_) hi hv (ih _ _ _ s t hinv (hcount i hi));rcases F.lig i j o oj ho hj (Ne.symm hne) hl with h1|h1|h1
    ·exact h1
    ·grind [zKg]
    exfalso
    have:=zCq F h.cl i o j ho (AV.1 hj).1 hd h1
    grind [Ls,AV]
   rcases AL (pos ord i) s with hls|hp1
   ·obtain⟨o',n,ho',hE',hc',hg',hself,hlate,hok⟩:=h.lo _ i hls hpi hn;rw[ho]at ho';cases ho';have hlook:=h.lookL F ho hn hd hls hself hlate k2;obtain⟨d,news,n1,n2,n3⟩:=zJh hg' hok;obtain⟨_,rfl,v,v1,v2⟩:=(n1.look hlook).light hl k0;exact first v (.inl ⟨zF7 (ops:=ops) k0 (zTa hg' SL),v1⟩) (h.nextL (n:=n) F hi ho hls k0 k1 k2 k3 k4 k5 k6 k7 k8 k9 k10 n2 (.inl rfl) (OutN.stay β I w _) v2)
   have hlook:=h.look F ho hn hd hp1 hlt k1 k2 k3;have hst:=zQi hElight (htr (pos ord i) i o hpi ho);rcases hst with⟨g1,d,fz,news,n1,n2,n3⟩|⟨g1,n2,n3⟩
   ·obtain⟨rfl,rfl,v,v1,v2⟩:=(n1.look hlook).light hl k0;have hw:=zF7 (ops:=ops) k0 ((zPl hlook).trans g1);exact first v (.inl ⟨hw,v1⟩) (h.next F hi ho hp1 hlt k0 k1 k2 k3 k4 k5 k6 k7 k8 k9 k10 n2 n3 (OutN.stay β I w _) v2)
   have hw:=zF7 (ops:=ops) k0 ((zPl hlook).trans g1);exact first undef (.inr ⟨hw,rfl⟩) (h.next (fz:=[]) (news:=[]) F hi ho hp1 hlt k0 k1 k2 k3 k4 k5 k6 k7 k8 k9 k10 n2 (by rw[n3];simp[zAo]) (OutN.stay β I w _) (Rel.valI undef))
  refine⟨finish listed a w s t h,λi hi=>?_⟩;obtain⟨o,ho,hpi,hp2⟩:=h.place F hi;obtain⟨hn,o2,ho2,hd⟩:=(zB8 h.size).1 hi;rw[ho]at ho2;cases ho2;have hl:zY T o.op=false:=by
   grind
  have hordl:t<=ord.length:=by rw[<-hS];exact h.tn
  have hop':∀p,p<ord.length->∃i o,ord[p]?=Ab i/\ops[i]?=Ab o:=λp hp=>hop p (by omega);rcases AL (pos ord i) s with hls|hp1
  ·obtain⟨β,I,SL,k0,k1,k2,k3,k4,k5,k6,k7,k8,k9,k10⟩:=h.ex;obtain⟨o',n,ho',hE',hc',hg',hself,hlate,hok⟩:=h.lo _ i hls hpi hn;rw[ho]at ho';cases ho';have hlook:=h.lookL F ho hn hd hls hself hlate k2;obtain⟨d,news,n1,n2,n3⟩:=zJh hg' hok;unfold wpOp;simp only[ho];rw[if_pos (zF7 (ops:=ops) k0 (zTa hg' SL))];have hsr:SRw β I w ((R s).take n):=λk b c e hk he=>by
    rw[Bo]at he;split at he
    ·obtain⟨e',m1,m2⟩:=k4 k b c hk;obtain⟨e'',n1,n2⟩:=(h.seg.store' (Ak _) h.seg.le (Ak _)).2 k e he;grind [BE]
    cases he
   have hnum:news=[]\/∃b e,news=[b]/\(R s)[n]?=Ab e/\SameB b e/\(R (pos ord i)).length=n/\(R (pos ord i+1)).length=n+1:=by
    rcases n3 with rfl|⟨b,e,x,q,fz,rfl,m1,m2,m3,m4,m5,m6⟩
    ·exact .inl rfl
    obtain⟨q1,q2⟩:=zWu F htr hop' hls (by have:=h.seg.le;omega) hpi ho hE' m3 m4 m6 m5 (AZ.1 m1).1;grind
   have hfr:∀j,j<news.length->β (((R s).take n).length+j)=none:=by
    intro j hj;rcases hnum with rfl|⟨b,e,rfl,m1,m2,q1,q2⟩;all_goals grind
   refine .inl (Oper.wp_mono (λa' w' hx=>?_) ((n1.look hlook).heavy hM hl k0 hsr k7 (hg0.mono k8.1.fix) hfr Q));obtain⟨v,β',I',rfl,o1,o2⟩:=hx;exact ih _ _ _ s t (h.nextL F hi ho hls k0 k1 k2 k3 k4 k5 k6 k7 k8 k9 k10 n2 hnum o1 o2) (hcount i hi)
  rcases hp2 with hlt|hpt
  ·have hE:isE T o.op=false:=by
    obtain⟨j,oj,j1,j2,j3,_⟩:=h.seg.step _ hp1 hlt;grind
   obtain⟨β,I,SL,k0,k1,k2,k3,k4,k5,k6,k7,k8,k9,k10⟩:=h.ex;have hlook:=h.look F ho hn hd hp1 hlt k1 k2 k3;have hst:=zQi hE (htr (pos ord i) i o hpi ho);unfold wpOp;simp only[ho];rcases hst with⟨g1,d,fz,news,n1,n2,n3⟩|⟨g1,n2,n3⟩
   ·rw [if_pos (zF7 (ops:=ops) k0 ((zPl hlook).trans g1))];have hsr:SRw β I w (R (pos ord i)):=λk b c e hk he=>by
     obtain⟨e',m1,m2⟩:=k4 k b c hk;obtain⟨e'',n1,n2⟩:=(h.seg.store' hp1 (Nat.le_of_lt hlt) (Ak _)).2 k e he;grind [BE]
    have hfr:∀j,j<news.length->β ((R (pos ord i)).length+j)=none:=by
     intro j hj;cases hb:β ((R (pos ord i)).length+j)with
     |none=>rfl
     | some x=>
      exfalso;have hlen:(R (pos ord i+1)).length=(R (pos ord i)).length+news.length:=by rw[n3,Bp,zAa]
      rcases k9 _ x hb with h3|⟨p,j',a1,a2,a3,a4,a5,a6⟩
      ·have:=(h.seg.store' (Ak _) hp1 (by omega)).1
       omega
      rcases Nat.lt_trichotomy p (pos ord i)with h3|h3|h3
      ·have:=(h.seg.store' (show s<=p+1 by omega) (show p+1<=pos ord i by omega) (by omega)).1
       omega
      ·grind
      have:=(h.seg.store' (show s<=pos ord i+1 by omega) (show pos ord i+1<=p by omega) (by omega)).1
      omega
    refine .inl (Oper.wp_mono (λa' w' hx=>?_) ((n1.look hlook).heavy hM hl k0 hsr k7 (hg0.mono k8.1.fix) hfr Q));obtain⟨v,β',I',rfl,o1,o2⟩:=hx;exact ih _ _ _ s t (h.next F hi ho hp1 hlt k0 k1 k2 k3 k4 k5 k6 k7 k8 k9 k10 n2 n3 o1 o2) (hcount i hi)
   rw[if_neg (by rw[zF7 (ops:=ops) k0 ((zPl hlook).trans g1)];simp)];exact ih _ _ _ s t (h.next (fz:=[]) (news:=[]) F hi ho hp1 hlt k0 k1 k2 k3 k4 k5 k6 k7 k8 k9 k10 n2 (by rw[n3];simp[zAo]) (OutN.stay β I w _) (Rel.valI undef)) (hcount i hi)
  have hE:isE T o.op=true:=by
   rcases h.atT with h1|⟨j,oj,j1,j2,j3⟩;all_goals grind
  have hlates:∀x ox,ops[x]?=Ab ox->pos ord x<t->¬Ls listed x->x∈Lt i:=by
   suffices H:∀n x ox,pos ord x=n->ops[x]?=Ab ox->pos ord x<t->¬Ls listed x->x∈Lt i from λx ox=>H _ x ox rfl
   intro n;induction n using B2 with
   | _ n ihx=>
    intro x ox hn hx hp hnx;have hne:i≠x:=λe=>by rw[<-e]at hp;omega
    rcases F.eff1 i x o ox ho hx hne hE (by omega)with h1|h1|⟨h1,h2⟩
    ·exact absurd (zCq F h.cl i o x ho (AV.1 hx).1 hd h1) hnx
    ·exact h1
    exfalso;refine hlight ⟨x,ox,(zB8 h.size).2 ⟨hnx,ox,hx,λd hd'=>?_⟩,hx,h1⟩;have h3:=F.dep x ox hx d hd';grind
  obtain⟨β,I,sim,⟨stp,kp⟩,hk10⟩:=h.full F hg0;have htlt:t<ops.size:=by rw[<-hpt];exact(op_at F ho).2
  obtain⟨t',t1,t2,t3⟩:=zWc (P:=P) (T:=T) htr hop (ops.size-(t+1)) (t+1) (by omega);have hls:∀j,Ls (listed.setIfInBounds i Aa) j↔j=i\/Ls listed j:=λj=>ls_set (by rw[h.size];exact(AV.1 ho).1);have hpi':ord[t]?=Ab i:=hpt▸hpi;have hod:ops.getD i Ah=o:=by simp[ho]
  have hlo:∀j,¬Ls (listed.setIfInBounds i Aa) j->¬Ls listed j/\j≠i:=λj hl=>⟨λk=>hl ((hls j).2 (.inr k)),λk=>hl ((hls j).2 (.inl k))⟩;have hlt':∀p j,p<t+1->ord[p]?=Ab j->¬Ls (listed.setIfInBounds i Aa) j->p<t/\¬Ls listed j/\j∈Lt i:=λp j hp hj hl=>by
   obtain⟨l1,l2⟩:=hlo j hl;have hpt':p<t:=by
    grind
   have hjm:=(F.mem j).2 (BF hj);exact⟨hpt',l1,hlates j ops[j] (by simp[hjm]) (by rw[zBl F.nodup hj];exact hpt') l1⟩
  have hgrow:∀p j,p<t->ord[p]?=Ab j->¬Ls listed j->∀q,p<=q->q<t->(R q).length<=(R (q+1)).length:=λp j hp hj hl q h1 h2=>by
   rcases AL q s with h3|h3
   ·exact h.mo p j (by omega) hj hl q h1 h3
   exact(h.seg.store' h3 (show q<=q+1 by omega) (by omega)).1
  have hX1:∀x∈o.looksAt ops,x∉zMn ops ord listed t:=λx hx hm=>by
   obtain⟨p,j,oj,m1,m2,m3,m4,m5⟩:=zD7.1 hm;have hpj:pos ord j=p:=zBl F.nodup m2;have hne:i≠j:=λe=>by rw[<-e]at hpj;omega
   rcases F.haz i j o oj x ho m4 hne m5 hx with hz|hz
   ·exact m3 (zCq F h.cl i o j ho (AV.1 m4).1 hd hz)
   have:=zMj F j oj i m4 (AV.1 ho).1 hz
   omega
  have hX2:∀x,o.dst=Ab x->x∉zMn ops ord listed t:=λx hx hm=>by
   obtain⟨p,j,oj,m1,m2,m3,m4,m5⟩:=zD7.1 hm;have hpj:pos ord j=p:=zBl F.nodup m2;exact F.dst i j o oj x ho m4 (λe=>by rw[<-e]at hpj;omega) hx m5
  have cont:∀a' w' β' I',Sim β' I' w' (unkS (zMn ops ord listed t) (S (t+1))) (R (t+1)) a'.tmps.toList->Stp β I w β' I' w'->a'.defers=a.defers->Kp T β β'->(Lt i=[]\/(R t).length<=(R (t+1)).length)->
    (∀p j,p<t->ord[p]?=Ab j->¬Ls listed j->∀k,(R p).length<=k->k<(R (p+1)).length->β' k=Ae)->wpAny P .any ops Q fuel (listed.setIfInBounds i Aa) a' w':=by
   intro a' w' β' I' q1 q2 q3 q4 q5 q6;refine ih _ _ _ (t+1) t' ⟨by rw[Array.size_setIfInBounds];exact h.size,h.cl.set hi,t1,t2,λp j hp hj hl=>?_,λp j hp hj hl'=>?_,t3,q3.trans h.df,λp j hp hj hl q h1 h2=>?_,β',I',unkS (zMn ops ord listed t) (S (t+1)),q1.rel,zEm _ _,λx _ hx=>?_,λp j oj x a1 a2 a3 a4 a5 a6=>?_,λk b c hk=>?_,q1.inj,λk b c j e hk he hj=>?_,q1.imb,⟨stp.trans q2,kp.trans q4⟩,λk x hk=> .inl (q1.dom k x hk),λp j hp hj hl k c1 c2=>?_⟩ (hcount i hi)
   ·obtain⟨_,_,l3⟩:=hlt' p j hp hj hl;obtain⟨oj,m1,m2,m3,m4,m5,m6⟩:=F.latE i j l3;obtain⟨n,n1,_⟩:=hL t i hpi' j l3;rw[show ops.getD j Ah=oj by simp[m1]]at n1;exact⟨oj,n,m1,m2,m3,m4,m5,m6,n1⟩
   ·have:=t2.le
    rcases(hls j).1 hl' with rfl|h5
    ·have:=zBl F.nodup hj;omega
    exact h.hi p j (by omega) hj h5
   ·obtain⟨l1,l2,l3⟩:=hlt' p j hp hj hl;grind
   ·refine zVl λhm=>?_;obtain⟨p,j,oj,m1,m2,m3,m4,m5⟩:=zD7.1 hm;grind
   ·exfalso;rcases(hls j).1 a4 with rfl|h5
    ·have:=zBl F.nodup a3;omega
    exact h.hi p j (by omega) a3 h5
   ·obtain⟨e,m1,m2⟩:=q1.sr k b c hk;obtain⟨e',n1,n2⟩:=(t2.store' (Ak _) t2.le (Ak _)).2 k e m1;grind [BE]
   ·obtain⟨e0,m1,m2⟩:=q1.sr k b c hk;obtain⟨e',n1,n2⟩:=(t2.store' (Ak _) t2.le (Ak _)).2 k e0 m1;rw[he]at n1;cases n1
    have:=q1.fz k b c j e0 hk m1 hj
    exact⟨n2.2.2.2.2.2 this.1,by rw[n2.1,n2.2.2.2.2.1];exact this.2⟩
   grind
  have hst0:=htr t i o hpi' ho;have hst:=zZo hst0 hX1 hX2;unfold wpOp;simp only[ho];rcases zLs (ops:=ops) (N:=Eqs (unkS (zMn ops ord listed t) (S (t+1))) (R (t+1))) sim hst with⟨g1,g2⟩|⟨g1,g2,g3⟩
  ·rw [if_pos g1];cases hcv:zDh o.op with
   | true=>
    have hlen:Lt i=[]\/(R t).length<=(R (t+1)).length:=by
     rcases hx:Lt i with _|⟨j,l⟩
     ·exact .inl rfl
     obtain⟨n,_,_,n3⟩:=hL t i hpi' j (by rw[hx];exact AG);exact .inr n3
    refine .inl (Oper.wp_mono (λa' w' hx=>?_) (zNb hM o g2 sim Q));obtain⟨sl',st',β',I',⟨rfl,rfl⟩,q2,q3,q4,q5⟩:=hx;refine cont a' w' β' I' q2 q3 q4 q5 hlen λp j hp hj hl k c1 c2=>?_;have hjm:=(F.mem j).2 (BF hj);have hjl:=hlates j ops[j] (by simp[hjm]) (by rw[zBl F.nodup hj];exact hp) hl;obtain⟨oj,m1,m2,m3,m4,_⟩:=F.latE i j hjl;have hnn:=F.latA i o ho hE j hjl hcv;rw[show ops.getD j Ah=oj by simp[m1]]at hnn;grind [noNew_len]
   | false=>
    refine .inl (Oper.wp_mono (λa' w' hx=>?_) (zYh hM o g2 hE hcv sim Q));obtain⟨β',I',q2,q3,q4,q5,q6⟩:=hx;refine cont a' w' β' I' q2 q3 q4 q5 (.inr (zZp hst0 hE hcv)) λp j hp hj hl k c1 c2=>?_;have hjm:=(F.mem j).2 (BF hj);have hjl:=hlates j ops[j] (by simp[hjm]) (by rw[zBl F.nodup hj];exact hp) hl;obtain⟨oj,m1,m2,m3,m4,_⟩:=F.latE i j hjl;obtain⟨n,n1,n2,_⟩:=hL t i hpi' j hjl;rw[show ops.getD j Ah=oj by simp[m1]]at n1;rw[hod]at n2;have hrg:=zYc (s:=t+1) F htr hop' (by omega) (by omega) hj m1 m2 m3 m4 n1;have hkn:k=n:=by
     omega
    have hkt:k<(R t).length:=by
     have key:∀m,p+1+m<=t->(R (p+1)).length<=(R (p+1+m)).length:=by
      intro m;induction m with
      |zero=>intro _;exact Ak _
      |succ m ihm=>
       intro hm;have h2:=hgrow p j hp hj hl (p+1+m) (by omega) (by omega);grind
     have:=key (t-(p+1)) (by omega)
     rw[show p+1+(t-(p+1))=t by omega]at this;omega
    refine q6 k hkt (hk10 p j hp hj hl k c1 c2) λy hy=>?_;rw[hkn,zTj (ops:=ops) (o:=o) (sl:=S t) (λx hx=>zKs (hX1 x hx)) y hy];exact n2 (by omega) y hy
  rw[if_neg (by simp[g1])];refine cont _ _ β I ?_ (AQ _ _ _) (zAl _ _ _) (AM _ _) (.inr ?_) hk10
  ·rw[<-g2,<-g3];exact sim.skip o.dst
  grind
theorem zJ1(hM:zBi P T)(hm:P.follows .mixedOrders=Aa){id:Nat}{l0:List Nat}{its:List zJr}{sl:List D}{st:List Bk}{β:Be}{I:Im}{a:Act}{w:World}(hok:zK7 T ops l0 its=Aa)(hq:seqF P T ops l0 its sl st K)(h:Sim β I w sl st a.tmps.toList)
  (hP:∀c a w,¬Q (.panic c) a w)(hQ:∀a' w',zYy T K β I w a.defers a' w'->Q .normal a' w'):(Code.region id ops Aa).wp P Q a w:=by
 have F:=RegF.of hok;obtain⟨S,R,s1,s2,s3,s4,s5⟩:=traceF hq;generalize hord:zD2 l0 its=ord at F s3 s4;rw[F.len]at s3;have htr:∀(p:Nat) i o,ord[p]?=Ab i->ops[i]?=Ab o->zBt P T ops o (S p) (R p) (Eqs (S (p+1)) (R (p+1))):=λp i o hp ho=>by
  have:=s4 p i hp
  simp_all
 have hL:∀t e,ord[t]?=Ab e->∀i∈zM2 its e,∃n,zHj P T ops (ops.getD i Ah) n (S (t+1)) (R (t+1))/\(n<(R t).length->zRm (ops.getD e Ah) n (S t))/\(R t).length<=(R (t+1)).length:=by
  intro t e ht i hi;unfold zM2 at hi;split at hi
  ·rename_i x hx;obtain⟨y,hy,rfl⟩:=AR.1 hi;have hxe:x.1=e:=by have:=List.find?_some hx;simpa using this
   obtain⟨pre,post,hpp⟩:=List.append_of_mem (List.mem_of_find?_eq_some hx);obtain⟨k1,k2⟩:=s5 pre x post hpp;have ht2:ord[l0.length+(zA7 pre).length]?=Ab e:=by
    rw[<-hord,zD2,List.getElem?_append_right (by omega),hpp];simp only[zA7,List.flatMap_append,List.flatMap_cons];grind
   have e1:=zBl F.nodup ht;have e2:=zBl F.nodup ht2;have e3:t=l0.length+(zA7 pre).length:=by omega
   rw[e3];exact⟨y.2,k2.2 y hy,λhlt=>by rw[<-hxe];exact k1 y hy hlt,k2.1⟩
  cases hi
 have hop:∀p,p<ops.size->∃i o,ord[p]?=Ab i/\ops[i]?=Ab o:=λp hp=>by
  have h1:p<ord.length:=by rw[F.len];exact hp
  refine⟨ord[p],ops[ord[p]]'((F.mem _).2 (A6 h1)),Ap h1,by simp[(F.mem _).2 (A6 h1)]⟩
 obtain⟨t,t1,t2,t3⟩:=zWc (P:=P) (T:=T) htr hop ops.size 0 (by omega);refine wp_region_any hm ?_;have hfix:Fix I w I {w with drawn:=w.drawn+1}:=λb o hi=>⟨hi,λv hv=>hv,λ_ _ h=>h⟩;refine any_sound (β0:=β) (I0:=I) (w0:=w) (df:=a.defers) h.gl hM F F.len.symm htr s3 hL hP hQ ops.size _ a _ 0 t ⟨by simp,?_,t1,t2,λp i hp=>by omega,λp i _ _ hl=>?_,t3,rfl,λp i hp=>by omega,β,I,S 0,?_,rfl,λx _ _=>rfl,λp i o x _ _ _ hl=>?_,λk b c hk=>?_,h.inj,λk b c j e hk he hj=>?_,h.imb,?_,λk x hk=> .inl (by rw[s2];exact h.dom k x hk),λp i hp=>by omega⟩ ?_
 ·intro k ok _ hl;exfalso;revert hl;simp only[B3,B4];split<;>simp
 ·revert hl;unfold Ls;simp only[B3,B4];split<;>simp
 ·rw[s1];exact A7 hfix _ _ (AC _) _ _ h.rel
 ·exfalso;revert hl;unfold Ls;simp only[B3,B4];split<;>simp
 ·obtain⟨e,m1,m2⟩:=h.sr k b c hk;rw[<-s2]at m1;obtain⟨e',n1,n2⟩:=(t2.store' (Ak _) t2.le (Ak _)).2 k e m1;grind [BE,Bq,AC]
 ·obtain⟨e0,m1,m2⟩:=h.sr k b c hk;have m1':=m1;rw[<-s2]at m1;obtain⟨e',n1,n2⟩:=(t2.store' (Ak _) t2.le (Ak _)).2 k e0 m1;rw[he]at n1;cases n1
  have:=h.fz k b c j e0 hk m1' hj
  exact⟨n2.2.2.2.2.2 this.1,by rw[n2.1,n2.2.2.2.2.1];exact this.2⟩
 ·exact⟨⟨hfix,Ak _,λ_ _ _=>rfl,rfl,rfl,rfl,Nat.le_succ _,λk b c hk=> .inl ⟨k,c,hk⟩,λ_ _ h=> .inl h⟩,AM _ _⟩
 simp
theorem zTk(hM:zBi P T)(hm:P.follows .mixedOrders=Aa){id:Nat}{sl:List D}{st:List Bk}{β:Be}{I:Im}{a:Act}{w:World}(hok:zX4 T ops ord=Aa)(hq:seqW P T ops Aa (ord.map λi=>ops.getD i Ah) sl st K)(h:Sim β I w sl st a.tmps.toList)
  (hP:∀c a w,¬Q (.panic c) a w)(hQ:∀a' w',zYy T K β I w a.defers a' w'->Q .normal a' w'):(Code.region id ops Aa).wp P Q a w:=
 zJ1 (l0:=ord) (its:=[]) hM hm (zZ7 hok) hq h hP hQ
end
section
variable {P : Program} {T : Par}
def okE:Exit->Prop
 | .normal| .exit _| .ret=>True
 |_=>False
def Lift(T:Par)(Q:Exit->List D->List Bk->Prop)(β:Be)(I:Im)(w:World)(df:List Deferred):Exit->Act->World->Prop:=λe a' w'=>okE e/\zYy T (Q e) β I w df a' w'
def InLoop(P:Program)(c:Code)(Q:Exit->Act->World->Prop)(a:Act)(w:World):Prop:=∀b k cs,∃e a' w',Q e a' w'/\Arrives P (lone (b.at a (.code c:: .inLoop c::k)) cs w) b k cs e a' w'
theorem InLoop.wp{c:Code}{Q:Exit->Act->World->Prop}{a:Act}{w:World}(h:InLoop P c Q a w):(Code.loop c).wp P Q a w:=by
 intro b k cs;obtain⟨e,a',w',hq,harr⟩:=h b k cs;exact⟨e,a',w',hq, .of_steps (.one step_loop) harr⟩
theorem InLoop.of_round{c:Code}{Q:Exit->Act->World->Prop}{a:Act}{w:World}(h:c.wp P (Exit.then (InLoop P c Q) Q) a w):InLoop P c Q a w:=by
 intro b k cs;obtain⟨e,a₁,w₁,hq,harr⟩:=h b (.inLoop c::k) cs;cases e with
 |normal=>
  obtain⟨e₂,a₂,w₂,hq₂,harr₂⟩:=hq b k cs;exact⟨e₂,a₂,w₂,hq₂, .of_steps (Steps.trans harr (.one step_inLoop)) harr₂⟩
 |exit id=>exact⟨_,a₁,w₁,hq, .pass (x:= .inLoop c) rfl (λ_ _=> .inl (by simp)) harr⟩
 |goto l=>exact⟨_,a₁,w₁,hq, .pass (x:= .inLoop c) rfl (λ_ _=> .inl (by simp)) harr⟩
 |ret=>exact⟨_,a₁,w₁,hq, .pass (x:= .inLoop c) rfl (λ_ _=> .inl (by simp)) harr⟩
 |panic ch=>exact⟨_,a₁,w₁,hq, .pass (x:= .inLoop c) rfl (λ_ _=> .inl (by simp)) harr⟩
 |outgrown=>exact⟨_,a₁,w₁,hq, .pass (x:= .inLoop c) rfl (λ_ _=> .inl (by simp)) harr⟩
theorem zMg(hM:zBi P T)(hm:P.follows .mixedOrders=Aa):∀(c:Code)(Q:Exit->List D->List Bk->Prop)(sl:List D)(st:List Bk)(β:Be)(I:Im)(a:Act)(w:World),
  awp P T c Q sl st->Sim β I w sl st a.tmps.toList->c.wp P (Lift T Q β I w a.defers) a w:=by
 intro c;induction c with
 |skip=>intro Q sl st β I a w h hs;exact wp_skip ⟨trivial,sl,st,β,I,h,hs,AQ _ _ _,rfl,AM _ _⟩
 | region id ops dr=>
  intro Q sl st β I a w h hs;simp only[awp]at h;cases dr with
  |true=>
   simp only[if_true]at h;rcases h with⟨ord,h1,h2⟩|⟨l0,its,h1,h2⟩
   ·exact zTk hM hm h1 h2 hs (λc a w hx=>hx.1) (λa' w' hx=>⟨trivial,hx⟩)
   exact zJ1 hM hm h1 h2 hs (λc a w hx=>hx.1) (λa' w' hx=>⟨trivial,hx⟩)
  |false=>
   simp only[AS,if_false]at h;refine wp_region (zK0 hM (Az ops.size) ops.toList ?_ sl st β I a w _ h hs (λa' w' hx=>⟨trivial,hx⟩));apply Bh;grind
 | seq x y ihx ihy=>
  intro Q sl st β I a w h hs;simp only[awp]at h;refine wp_seq (wp_mono (ihx _ sl st β I a w h hs) λe a' w' hq=>?_);obtain⟨h1,sl',st',β',I',q1,q2,q3,q4,q5⟩:=hq;cases e with
  |normal=>
   obtain⟨sl1,st1,m1,m2⟩:=q1;obtain⟨β1,I1,k1,k2,k3⟩:=m1 β' I' w' _ q2;refine wp_mono (ihy Q sl1 st1 β1 I1 a' w' m2 k1) λe a'' w'' hq=>?_;obtain⟨h1,sl'',st'',β'',I'',r1,r2,r3,r4,r5⟩:=hq;exact⟨h1,sl'',st'',β'',I'',r1,r2,(q3.trans k2).trans r3,r4.trans q4,(q5.trans k3).trans r5⟩
  |exit id=>exact⟨trivial,sl',st',β',I',q1,q2,q3,q4,q5⟩
  |ret=>exact⟨trivial,sl',st',β',I',q1,q2,q3,q4,q5⟩
  |_=>exact h1.elim
 | cond c x y ihx ihy=>
  intro Q sl st β I a w h hs;simp only[awp]at h;have hc:=zAi hs.rel c;split at h
  ·rename_i t ht;rw[ht]at hc;simp only[Rel]at hc;exact wp_cond_split hc (λhx=>ihx Q sl st β I a w (h.1 hx) hs) (λhx=>ihy Q sl st β I a w (h.2 hx) hs)
  exact h.elim
 | block id b ih=>
  intro Q sl st β I a w h hs;simp only[awp]at h;refine wp_block (wp_mono (ih _ sl st β I a w h hs) λe a' w' hq=>?_);obtain⟨h1,sl',st',β',I',q1,q2,q3,q4,q5⟩:=hq;cases e with
  |normal=>exact⟨trivial,sl',st',β',I',q1,q2,q3,q4,q5⟩
  | exit j=>
   simp only[zP]at q1;simp only[Exit.inBlock];by_cases hj:j=id
   ·rw[if_pos hj]at q1;simp only[hj,if_true];exact⟨trivial,sl',st',β',I',q1,q2,q3,q4,q5⟩
   rw[if_neg hj]at q1;simp only[hj,if_false];exact⟨trivial,sl',st',β',I',q1,q2,q3,q4,q5⟩
  |ret=>exact⟨trivial,sl',st',β',I',q1,q2,q3,q4,q5⟩
  |_=>exact h1.elim
 | loop b ih=>
  intro Q sl st β I a w h hs;simp only[awp]at h;have hX:=h (λsl1 st1=>∀β1 I1 a1 w1,Sim β1 I1 w1 sl1 st1 a1.tmps.toList->Stp β I w β1 I1 w1->a1.defers=a.defers->Kp T β β1->InLoop P b (Lift T Q β I w a.defers) a1 w1) ?_
  ·obtain⟨sl',st',h1,h2⟩:=hX;obtain⟨β',I',k1,k2,k3⟩:=h1 β I w _ hs;exact(h2 β' I' a w k1 k2 rfl k3).wp
  intro Y sl1 st1 hY hb β1 I1 a1 w1 j2 j3 j4 j5;refine InLoop.of_round (wp_mono (ih _ sl1 st1 β1 I1 a1 w1 hb j2) λe a' w' hq=>?_);obtain⟨e1,sl2,st2,β2,I2,q1,q2,q3,q4,q5⟩:=hq;cases e with
  |normal=>
   obtain⟨sl3,st3,m2,m3⟩:=hY sl2 st2 q1;obtain⟨β3,I3,k3,k4,k5⟩:=m2 β2 I2 w' _ q2;exact m3 β3 I3 a' w' k3 ((j3.trans q3).trans k4) (q4.trans j4) ((j5.trans q5).trans k5)
  |exit id=>exact⟨trivial,sl2,st2,β2,I2,q1,q2,j3.trans q3,q4.trans j4,j5.trans q5⟩
  |ret=>exact⟨trivial,sl2,st2,β2,I2,q1,q2,j3.trans q3,q4.trans j4,j5.trans q5⟩
  |_=>exact e1.elim
 |exit id=>intro Q sl st β I a w h hs;exact wp_exit ⟨trivial,sl,st,β,I,h,hs,AQ _ _ _,rfl,AM _ _⟩
 |label l=>intro Q sl st β I a w h hs;exact wp_label ⟨trivial,sl,st,β,I,h,hs,AQ _ _ _,rfl,AM _ _⟩
 |ret=>intro Q sl st β I a w h hs;exact wp_ret ⟨trivial,sl,st,β,I,h,hs,AQ _ _ _,rfl,AM _ _⟩
 |_=>intro Q sl st β I a w h hs;exact h.elim
end
def LeD(d d':D):Prop:=∀I w β v,Rel I w β d v->Rel I w β d' v
mutual
/-- nil as an empty row, throughout -/
def zFk:D->D
 | .val v=>match v with
  | .slice Ae 0 0=> .row [] 0
  |v=> .val v
 | .agg cs=> .agg (zGs cs)
 | .tup cs=> .tup (zGs cs)
 | .ifc t d=> .ifc t (zFk d)
 |d=>d
def zGs:List D->List D
 |[]=>[]
 |d::ds=>zFk d::zGs ds
end
mutual
theorem zF4{I:Im}{w:World}{β:Be}:∀(d:D)(v:Value),Rel I w β d v->Rel I w β (zFk d) v
 | .val u,v,h=>by
  simp only[zFk];split
  ·simp only[Rel]at h⊢;exact⟨Ae,0,h,Ak _,by decide,λ_=>rfl, .inl trivial⟩
  exact h
 | .agg cs,v,h=>by
  simp only[zFk,Rel]at h⊢;obtain⟨vs,rfl,h⟩:=h;exact⟨vs,rfl,zJy cs vs h⟩
 | .tup cs,v,h=>by
  simp only[zFk,Rel]at h⊢;obtain⟨vs,rfl,h⟩:=h;exact⟨vs,rfl,zJx cs vs h⟩
 | .ifc t d,v,h=>by
  simp only[zFk,Rel]at h⊢;obtain⟨u,rfl,h⟩:=h;exact⟨u,rfl,zF4 d u h⟩
 | .unk,v,h=>h
 | .row cs n,v,h=>h
 | .ptr cs,v,h=>h
 | .clo f x y,v,h=>h
 | .own k o,v,h=>h
 | .osl k o n m b,v,h=>h
 | .mref k,v,h=>h
 | .mfz ks cs,v,h=>h
 | .fx d,v,h=>h
 | .osr ..,v,h=>h
theorem zJy{I:Im}{w:World}{β:Be}:∀(ds:List D)(vs:List Value),RelL I w β ds vs->RelL I w β (zGs ds) vs
 |[],vs,h=>h
 |d::ds,vs,h=>by
  simp only[zGs,RelL]at h⊢;obtain⟨v,us,rfl,h1,h2,h3⟩:=h;exact⟨v,us,rfl,h1,zF4 d v h2,zJy ds us h3⟩
theorem zJx{I:Im}{w:World}{β:Be}:∀(ds:List D)(vs:List Value),RelT I w β ds vs->RelT I w β (zGs ds) vs
 |[],vs,h=>h
 |d::ds,vs,h=>by
  simp only[zGs,RelT]at h⊢;obtain⟨v,us,rfl,h2,h3⟩:=h;exact⟨v,us,rfl,zF4 d v h2,zJx ds us h3⟩
end
theorem nilRow_le(d:D):LeD d (zFk d):=λI w β v h=>zF4 d v h
section
variable {P : Program} {T : Par}
def zMt(P:Program)(sl:List D)(st:List Bk):ResultVar->Eff
 | .tmp t=> .get True (sl.getD t .unk)
 | .cell a t=>match sl.getD a .unk with
  | .ptr cs=>ldP P t cs .get
  | .own k off=>match st[k]? with
   |some e=>if e.kd.isMap then .bad else ldP P t (e.cells.drop off) .get
   |none=> .bad
  |_=> .bad
def retL(P:Program)(sl:List D)(st:List Bk):List ResultVar->(List D->Prop)->Prop
 |[],K=>K []
 |r::rs,K=>match zMt P sl st r with
  | .get p d=>p/\retL P sl st rs (λds=>K (d::ds))
  |_=>False
def oneD:List D->D
 |[d]=>d
 |ds=> .tup ds
theorem zQs{sl:List D}{st:List Bk}{β:Be}{I:Im}{w:World}{a:Act}(h:Sim β I w sl st a.tmps.toList)(r:ResultVar){p:Prop}{d:D}(he:zMt P sl st r= .get p d)(hp:p):
  ∃v,(match r with
   | .tmp t=>pure (a.tmps.getD t undef)
   | .cell x t=>do loadVar t (<-asAddr (a.tmps.getD x undef)):Sem Value).run P w= .ok v w/\Rel I w β d v:=by
 cases r with
 |tmp t=>
  simp only[zMt,Eff.get.injEq]at he;obtain⟨rfl,rfl⟩:=he
  have:=zAi h.rel (.tmp t)
  exact⟨_,rfl,this⟩
 | cell x t=>
  have hx:Rel I w β (sl.getD x .unk) (a.tmps.getD x undef):=zAi h.rel (.tmp x);have key:∀(b o:Nat)(v:Value),(Instr.loadAt t (.pointer (Ab ⟨b,o,Ae⟩))).run P w= .ok v w->(loadVar t ⟨b,o,Ae⟩).run P w= .ok v w:=by
   intro b o v hl;simpa[Instr.loadAt,Instr.sureAddr]using hl
  simp only[zMt]at he;split at he
  ·rename_i cs hc;rw[hc]at hx;simp only[Rel]at hx;obtain⟨b,o,hv,hr⟩:=hx;obtain⟨v,k1,k2⟩:=zHi (I:=I) (w:=w) (β:=β) (b:=b) (o:=o) (λj x hx=>by
    obtain⟨_,v,k1,k2,k3⟩:=hr.get j x hx;exact⟨v,k1,k2,k3.no⟩) he hp
   exact⟨v,by simp[hv,asAddr,key _ _ _ k1],k2⟩
  ·rename_i k off hc;rw[hc]at hx;simp only[Rel]at hx;obtain⟨b,c,hb,hv⟩:=hx;split at he
   ·rename_i e hk;split at he
    ·cases he
    rename_i hmap;have ho':=(h.sr.weak k b c e hb hk).c (by simpa using hmap);obtain⟨v,k1,k2⟩:=zHi (I:=I) (w:=w) (β:=β) (b:=b) (o:=off) (λj x hx=>by
     rw[List.getElem?_drop]at hx;obtain⟨v,k1,k2,k3⟩:=ho'.cells_get hx;refine⟨v,k1,k2,?_⟩;cases ha:e.nob<;>simp only[ha,if_true,if_false,AS]at k3
     ·exact k3
     exact k3.no) he hp
    exact⟨v,by simp[hv,asAddr,key _ _ _ k1],k2⟩
   cases he
  cases he
theorem zMs{sl:List D}{st:List Bk}{β:Be}{I:Im}{w:World}{a:Act}(h:Sim β I w sl st a.tmps.toList):∀(rs:List ResultVar)(K:List D->Prop),retL P sl st rs K->∃ds vs,K ds/\RelT I w β ds vs/\vs.length=rs.length/\
  (rs.mapM (m:=Sem) λr=>match r with
   | .tmp t=>pure (a.tmps.getD t undef)
   | .cell x t=>do loadVar t (<-asAddr (a.tmps.getD x undef))).run P w= .ok vs w
 |[],K,hk=>⟨[],[],hk,by simp only[RelT],rfl,by simp⟩
 | r::rs,K,hk=>by
  simp only[retL]at hk;split at hk
  ·rename_i p d hd;obtain⟨v,k1,k2⟩:=zQs (P:=P) h r hd hk.1;obtain⟨ds,vs,m1,m2,m3,m4⟩:=zMs h rs _ hk.2;refine⟨d::ds,v::vs,m1,by simp only[RelT];exact⟨v,vs,rfl,k2,m2⟩,by simp[m3],?_⟩;simp_all
  exact hk.elim
theorem zEs{fn:Func}{sl:List D}{st:List Bk}{β:Be}{I:Im}{w:World}{a:Act}(h:Sim β I w sl st a.tmps.toList){K:List D->Prop}(hk:retL P sl st fn.results.toList K):
  ∃ds v,K ds/\Rel I w β (oneD ds) v/\(results fn a.tmps).run P w= .ok v w:=by
 obtain⟨ds,vs,m1,m2,m3,m4⟩:=zMs (P:=P) h _ K hk;have hl:=m2.length;refine⟨ds,if h:vs.toArray.size=1 then vs.toArray[0]else .tuple vs.toArray,m1,?_,?_⟩
 ·match ds,m2,hl with
  |[],m2,hl=>simp only[RelT]at m2;subst m2;simp[oneD,Rel,RelT]
  |[d],m2,hl=>
   simp only[RelT]at m2;grind [oneD]
  |d::d'::ds,m2,hl=>
   have:¬(vs.toArray.size=1):=by simp[<-hl]
   rw[dif_neg this];simp only[oneD,Rel];exact⟨vs,rfl,m2⟩
 unfold results;have hm:=zBz (P:=P) fn.results _ vs w m4;rw[Sem.run_bind];erw[hm];rfl
theorem zKw{I:Im}{w:World}{β:Be}{args:List D}{vs:List Value}(h:RelT I w β args vs)(n:Nat):RelT I w β (args++AA n .unk) (vs.toArray++A8 n undef).toList:=by
 have hrep:RelT I w β (AA n .unk) (AA n undef):=by
  induction n with
  |zero=>simp only[List.replicate_zero,RelT]
  |succ n ih=>simp only[BG,RelT];exact⟨_,_,rfl,by simp only[Rel],ih⟩
 have:=h.append hrep
 simpa using this
theorem zG(hM:zBi P T)(hm:P.follows .mixedOrders=Aa){f:FuncId}{fn:Func}{c:Code}(hf:P.funcs[f]?=Ab fn)(hb:fn.body=Ab c){args:List D}{x:D}
  (h:awp P T c (λe sl st=>(e= .normal\/e= .ret)/\retL P sl st fn.results.toList (λds=>∃y ks,frz Aa st zAu (oneD ds)=Ab (y,ks)/\LeD y x)) (args++AA (fn.ntmps-args.length) .unk) []):Pure P f args [] x:=by
 intro I w vs hr hi hg;have hlen:=hr.length;refine calls_of_wp hf hb ?_;have hsim:Sim noB I w (args++AA (fn.ntmps-args.length) .unk) [] (vs.toArray++A8 (fn.ntmps-vs.toArray.size) undef).toList:=by
  refine⟨?_,?_,?_,?_,?_,hi,hg⟩
  ·grind [zKw]
  ·intro k b c h;cases h
  ·intro k k' b c c' h;cases h
  ·intro k b c j e h;cases h
  intro k x h;cases h
 refine wp_mono (zMg hM hm c _ _ _ noB I {tmps:=vs.toArray++A8 (fn.ntmps-vs.toArray.size) undef,defers:=[]} w h hsim) λe a' w' hq=>?_;obtain⟨e1,sl',st',β',I',⟨q0,q1⟩,q2,q3,q4,q5⟩:=hq;have fin:a'.defers=[]/\∃v,(results fn a'.tmps).run P w'= .ok v w'/\∃v' I' γ,Ending.returned v= .returned v'/\Ext w w'/\ImB I' w'/\Fix I w I' w'/\(∀b o,I' b o->I b o\/w.heap.size<=b)/\
  (∀k b c,γ k=Ab (b,c)->w.heap.size<=b)/\SR γ I' w' []/\Inj γ/\FZ γ I' []/\(∀k y,γ k=Ab y->k<([]:List Bk).length)/\Rel I' w' γ x v'/\(∀e∈([]:List Bk),e.arr=Aa/\e.kd= .plain):=by
  obtain⟨ds,v,⟨y,ks,k1,kle⟩,k2,k3⟩:=zEs (P:=P) (fn:=fn) q2 q1;have k4:=zBq q2.sr.weak _ _ _ _ _ k1 k2;refine⟨q4,v,k3,v,fixI I' β' st' ks,noB,rfl,⟨⟨q3.os,q3.tape,q3.output,q3.size,λb hb=>q3.out b hb (λk c h=>by cases h)⟩,q3.dr⟩,zDt q2.sr.weak q2.imb ks,q3.fix.trans (zAg ks),λb o hx=>?_,λk b c h=>(by cases h),λk b c h=>(by cases h),λk k' b c c' h=>(by cases h),λk b c j e h=>(by cases h),λk y h=>(by cases h),kle _ _ _ _ k4,by simp⟩;rcases hx with hx|⟨k,_,c,e,hk,_⟩
  ·rcases q3.im b o hx with h1|h1|⟨k,c,h1⟩
   ·exact .inl h1
   ·exact .inr h1
   cases h1
  rcases q3.be k b c hk with⟨k',c',h1⟩|h1
  ·cases h1
  exact .inr h1
 rcases q0 with rfl|rfl
 ·exact fin
 exact fin
theorem zBp(hM:zBi P T)(hm:P.follows .mixedOrders=Aa){f:FuncId}{fn:Func}{c:Code}(hf:P.funcs[f]?=Ab fn)(hb:fn.body=Ab c){args:List D}{b:Bk}{n m:Nat}(hba:b.arr=Aa)
  (h:awp P T c (λe sl st=>(e= .normal\/e= .ret)/\retL P sl st fn.results.toList (λds=>∃k,oneD ds= .osl k 0 n m Aa/\st[k]?=Ab b)) (args++AA (fn.ntmps-args.length) .unk) [])(hkd:b.kd= .plain:=by rfl):Pure P f args [b] (.osl 0 0 n m Aa):=by
 intro I w vs hr hi hg;have hnb:b.nob=true:=by unfold A9;rw[hba,hkd];rfl
 have hmap:b.kd.isMap=false:=by rw[hkd];rfl
 have hlen:=hr.length;refine calls_of_wp hf hb ?_;have hsim:Sim noB I w (args++AA (fn.ntmps-args.length) .unk) [] (vs.toArray++A8 (fn.ntmps-vs.toArray.size) undef).toList:=by
  refine⟨?_,?_,?_,?_,?_,hi,hg⟩
  ·grind [zKw]
  ·intro k b c h;cases h
  ·intro k k' b c c' h;cases h
  ·intro k b c j e h;cases h
  intro k x h;cases h
 refine wp_mono (zMg hM hm c _ _ _ noB I {tmps:=vs.toArray++A8 (fn.ntmps-vs.toArray.size) undef,defers:=[]} w h hsim) λe a' w' hq=>?_;obtain⟨e1,sl',st',β',I',⟨q0,q1⟩,q2,q3,q4,q5⟩:=hq;have fin:a'.defers=[]/\∃v,(results fn a'.tmps).run P w'= .ok v w'/\∃v' I' γ,Ending.returned v= .returned v'/\Ext w w'/\ImB I' w'/\Fix I w I' w'/\(∀b o,I' b o->I b o\/w.heap.size<=b)/\
  (∀k b c,γ k=Ab (b,c)->w.heap.size<=b)/\SR γ I' w' [b]/\Inj γ/\FZ γ I' [b]/\(∀k y,γ k=Ab y->k<[b].length)/\Rel I' w' γ (.osl 0 0 n m Aa) v'/\(∀e∈[b],e.arr=Aa/\e.kd= .plain):=by
  obtain⟨ds,v,⟨k,k1,k1'⟩,k2,k3⟩:=zEs (P:=P) (fn:=fn) q2 q1;have hg:∀j y,(λj=>if j=0 then β' k else Ae:Be) j=Ab y->j=0/\β' k=Ab y:=λj y hj=>by
   grind
  have hown:∀bb c,β' k=Ab (bb,c)->OwnRel I' w' (λj=>if j=0 then β' k else Ae) bb c b:=by
   intro bb c hk;obtain⟨cur,c1,c2,c3,c4⟩:=(q2.sr.weak k bb c b hk k1').c hmap;refine OwnC.r ⟨cur,c1,c2,?_,c4⟩ hmap;rw[hnb]at c3⊢;exact c3
  refine⟨q4,v,k3,v,I',λj=>if j=0 then β' k else Ae,rfl,⟨⟨q3.os,q3.tape,q3.output,q3.size,λb hb=>q3.out b hb (λk c h=>by cases h)⟩,q3.dr⟩,q2.imb,q3.fix,λb o hx=>?_,λj bb c hj=>?_,λj bb c hj=>?_,λj j' bb c c' hj hj'=>?_,λj bb c i e hj he hi=>?_,λj y hj=>?_,?_,by simpa using⟨hba,hkd⟩⟩
  ·rcases q3.im b o hx with h1|h1|⟨k,c,h1⟩
   ·exact .inl h1
   ·exact .inr h1
   cases h1
  ·rcases q3.be k bb c (hg j _ hj).2 with⟨k',c',h1⟩|h1
   ·cases h1
   exact h1
  ·grind
  ·grind
  ·obtain⟨rfl,h2⟩:=hg j _ hj;simp at he;subst he;exact q2.fz k bb c i b h2 k1' hi
  ·rw[(hg j _ hj).1];simp
  rw[k1]at k2;simp only[Rel]at k2⊢;grind
 rcases q0 with rfl|rfl
 ·exact fin
 exact fin
theorem zBn(hM:zBi P T)(hm:P.follows .mixedOrders=Aa){f:FuncId}{fn:Func}{c:Code}(hf:P.funcs[f]?=Ab fn)(hb:fn.body=Ab c){args:List D}{st st':List Bk}{x:D}{ch:List Nat}(hkeep:∀k,k<st.length->T.keep k=Aa\/k∈ch)
  (h:awp P T c (λe sl s=>(e= .normal\/e= .ret)/\retL P sl s fn.results.toList (λds=>oneD ds=x/\s=st')) (args++AA (fn.ntmps-args.length) .unk) st):Acts P f args st ch x st':=by
 intro β I w vs hr hsr hinj hfz hdom hi hg;have hlen:=hr.length;refine calls_of_wp hf hb ?_;have hsim:Sim β I w (args++AA (fn.ntmps-args.length) .unk) st (vs.toArray++A8 (fn.ntmps-vs.toArray.size) undef).toList:=by
  refine⟨?_,hsr,hinj,hfz,hdom,hi,hg⟩;grind [zKw]
 refine wp_mono (zMg hM hm c _ _ _ β I {tmps:=vs.toArray++A8 (fn.ntmps-vs.toArray.size) undef,defers:=[]} w h hsim) λe a' w' hq=>?_;obtain⟨e1,sl',s',β',I',⟨q0,q1⟩,q2,q3,q4,q5⟩:=hq;have fin:a'.defers=[]/\∃v,(results fn a'.tmps).run P w'= .ok v w'/\∃v' β' I',Ending.returned v= .returned v'/\ImB I' w'/\Stp β I w β' I' w'/\
  (∀k y,k∉ch->β k=Ab y->β' k=Ab y)/\SR β' I' w' st'/\Inj β'/\FZ β' I' st'/\(∀k y,β' k=Ab y->k<st'.length)/\Rel I' w' β' x v':=by
  obtain⟨ds,v,⟨k1,rfl⟩,k2,k3⟩:=zEs (P:=P) (fn:=fn) q2 q1;exact⟨q4,v,k3,v,β',I',rfl,q2.imb,q3,λk y hc hk=>q5 k y ((hkeep k (hdom k y hk)).resolve_right hc) hk,q2.sr,q2.inj,q2.fz,q2.dom,k1▸k2⟩
 rcases q0 with rfl|rfl
 ·exact fin
 exact fin
theorem zAk(hM:zBi P T)(hm:P.follows .mixedOrders=Aa){f:FuncId}{fn:Func}{c:Code}(hf:P.funcs[f]?=Ab fn)(hb:fn.body=Ab c){args:List D}{st st':List Bk}{x:D}(hkeep:∀k,k<st.length->T.keep k=Aa)
  (h:awp P T c (λe sl s=>(e= .normal\/e= .ret)/\retL P sl s fn.results.toList (λds=>oneD ds=x/\s=st')) (args++AA (fn.ntmps-args.length) .unk) st):Acts P f args st [] x st':=by grind [zBn]
end
theorem LeD.refl(d:D):LeD d d:=λ_ _ _ _ h=>h
theorem LeD.unk(d:D):LeD d .unk:=λ_ _ _ _ _=>by simp only[Rel]
theorem LeD.eq{d d':D}(h:d=d'):LeD d d':=h▸LeD.refl d
theorem LeD.nil(k:Nat)(b:Bool):LeD (.val (.slice Ae 0 0)) (.osl k 0 0 0 b):=λ_ _ _ v h=>by
 simp only[Rel]at h⊢;exact .inl ⟨trivial,trivial,h⟩
theorem LeD.nil_row:LeD (.val (.slice Ae 0 0)) (.row [] 0):=λ_ _ _ v h=>by
 simp only[Rel]at h⊢;exact⟨Ae,0,h,Ak _,by decide,λ_=>rfl, .inl trivial⟩
inductive LeL:List D->List D->Prop
 |nil:LeL [] []
 |cons {d d':D} {ds ds':List D}:LeD d d'->LeL ds ds'->LeL (d::ds) (d'::ds')
theorem LeL.rel{I:Im}{w:World}{β:Be}{ds ds':List D}(h:LeL ds ds'):∀{vs:List Value},RelT I w β ds vs->RelT I w β ds' vs:=by
 induction h with
 |nil=>exact λh=>h
 |cons h1 _ ih=>
  intro vs h;simp only[RelT]at h⊢;obtain⟨v,us,e,h2,h3⟩:=h;exact⟨v,us,e,h1 _ _ _ _ h2,ih h3⟩
theorem LeL.refl:∀ds,LeL ds ds
 |[]=> .nil
 |d::ds=> .cons (.refl d) (LeL.refl ds)
theorem LeL.of_eq{ds ds':List D}(h:ds=ds'):LeL ds ds':=h▸LeL.refl ds
section
variable {P : Program} {T : Par}
theorem Weak.refl(sl:List D)(st:List Bk):Weak T sl st sl st:=λβ I w tm h=>⟨β,I,h,AQ _ _ _,AM _ _⟩
theorem Weak.trans{sl sl' sl'':List D}{st st' st'':List Bk}(h:Weak T sl st sl' st')(k:Weak T sl' st' sl'' st''):Weak T sl st sl'' st'':=λβ I w tm hs=>by
 obtain⟨β',I',h1,h2,h3⟩:=h β I w tm hs;obtain⟨β'',I'',k1,k2,k3⟩:=k β' I' w tm h1;exact⟨β'',I'',k1,h2.trans k2,h3.trans k3⟩
theorem Weak.slots{sl sl':List D}{st:List Bk}(h:LeL sl sl'):Weak T sl st sl' st:=λβ I w tm hs=>
 ⟨β,I,⟨h.rel hs.rel,hs.sr,hs.inj,hs.fz,hs.dom,hs.imb,hs.gl⟩,AQ _ _ _,AM _ _⟩
theorem Weak.more{sl:List D}{st:List Bk}(bs:List Bk):Weak T sl st sl (st++bs):=λβ I w tm hs=>by
 refine⟨β,I,⟨hs.rel,λk b c hk=>?_,hs.inj,λk b c j e hk he hi=>?_,λk x hk=>?_,hs.imb,hs.gl⟩,AQ _ _ _,AM _ _⟩
 ·obtain⟨e,h1,h2⟩:=hs.sr k b c hk;exact⟨e,by rw[Cn (hs.dom k _ hk)];exact h1,h2⟩
 ·rw[Cn (hs.dom k _ hk)]at he;exact hs.fz k b c j e hk he hi
 have:=hs.dom k x hk
 rw[Bp];omega
theorem OwnRel.congr{I:Im}{w:World}{β β':Be}{b c:Nat}{e:Bk}(h:OwnRel I w β b c e)(hb:e.nob=Ac->∀k x,zBd k e.cells=Aa->β k=Ab x->β' k=Ab x):OwnRel I w β' b c e:=by
 rcases e.kd.cases with hk|⟨ks,hk⟩
 ·obtain⟨cur,h1,h2,h3,h4⟩:=h.c hk;refine OwnC.r ⟨cur,h1,h2,?_,h4⟩ hk;grind [RelL.congr]
 obtain⟨vs,h1,h2⟩:=h.m hk;refine OwnM.r ⟨vs,h1,?_⟩ hk;grind [RelT.congr]
def zJw(sl:List D)(st:List Bk)(m n:Nat):Bool:=(Az (n-m)).all λi=>!zBd (m+i) sl&&(st.take m).all λe=>e.nob||!zBd (m+i) e.cells
theorem Weak.cut{sl:List D}{st:List Bk}(m:Nat)(h:zJw sl st m st.length=Aa)(hk:∀k,m<=k->T.keep k=Ac):Weak T sl st sl (st.take m):=λβ I w tm hs=>by
 have hno:∀k,m<=k->k<st.length->zBd k sl=Ac/\∀e∈st.take m,e.nob=Aa\/zBd k e.cells=false:=by
  intro k h1 h2;simp only[zJw,AN,BH,AD,Br,AW]at h
  have:=h (k-m) (by omega)
  rw[show m+(k-m)=k by omega]at this;exact this
 have hcut:∀(k:Nat)(x:Nat×Nat),(if k<m then β k else Ae)=Ab x->β k=Ab x/\k<m:=by
  intro k x hx;split at hx
  ·exact⟨hx,by assumption⟩
  cases hx
 refine⟨λk=>if k<m then β k else Ae,I,⟨?_,λk b c hk=>?_,λk k' b c c' hk hk'=>?_,λk b c j e hk he hi=>?_,λk x hk=>?_,hs.imb,hs.gl⟩,⟨Fix.refl _ _,Ak _,λ_ _ _=>rfl,rfl,rfl,rfl,Ak _,λk b c hk=> .inl ⟨k,c,(hcut k _ hk).1⟩,λ_ _ h=> .inl h⟩,λk x hx hb=>?_⟩
 ·refine RelT.congr sl tm (λk x hr hx=>?_) hs.rel;by_cases hm:k<m
  ·simp only[hm,if_true];exact hx
  have:=(hno k (by omega) (hs.dom k x hx)).1
  rw[this]at hr;cases hr
 ·obtain⟨h1,h2⟩:=hcut k _ hk;obtain⟨e,k1,k2⟩:=hs.sr k b c h1;refine⟨e,by rw[Bo,if_pos h2];exact k1,k2.congr λha j x hr hx=>?_⟩;by_cases hm:j<m
  ·simp only[hm,if_true];exact hx
  have hmem:e∈st.take m:=BF (by rw[Bo,if_pos h2];exact k1);rcases(hno j (by omega) (hs.dom j x hx)).2 e hmem with h3|h3
  ·rw[ha]at h3;cases h3
  rw[h3]at hr;cases hr
 ·exact hs.inj k k' b c c' (hcut k _ hk).1 (hcut k' _ hk').1
 ·obtain⟨h1,h2⟩:=hcut k _ hk;rw[Bo,if_pos h2]at he;exact hs.fz k b c j e h1 he hi
 ·obtain⟨h1,h2⟩:=hcut k _ hk
  have:=hs.dom k x h1
  rw[Bi];omega
 simp only;by_cases hm:k<m
 ·simp only[hm,if_true];exact hb
 rw[hk k (by omega)]at hx;cases hx
theorem zR9{b:Code}{Q:Exit->List D->List Bk->Prop}{sl:List D}{st:List Bk}(Inv:Nat->List D->List Bk->Prop)(h0:∃n sl' st',Weak T sl st sl' st'/\Inv n sl' st')
  (h:∀n sl st,Inv n sl st->awp P T b (zW (λsl' st'=>∃m sl'' st'',m<n/\Weak T sl' st' sl'' st''/\Inv m sl'' st'') Q) sl st):awp P T (.loop b) Q sl st:=by
 intro X hX;have key:∀n sl st,Inv n sl st->X sl st:=by
  intro n;induction n using B2 with
  |_ n ih=>
   grind
 grind
theorem zA0{b:Code}{Q:Exit->List D->List Bk->Prop}{sl:List D}{st:List Bk}(h:awp P T b (zW (λsl' st'=>awp P T (.loop b) Q sl' st') Q) sl st):awp P T (.loop b) Q sl st:=by
 intro X hX;exact⟨sl,st,Weak.refl _ _,hX _ sl st (λsl' st' hY=>hY X hX) h⟩
theorem zKo{α:Type}{b:Code}{Q:Exit->List D->List Bk->Prop}{sl:List D}{st:List Bk}(S:α->List D)(B:α->List Bk)(μ:α->Nat)(J:α->Prop)(x₀:α)(h₀:J x₀)(hw:Weak T sl st (S x₀) (B x₀))
  (step:∀x,J x->awp P T b (zW (λsl' st'=>∃y,J y/\μ y<μ x/\Weak T sl' st' (S y) (B y)) Q) (S x) (B x)):awp P T (.loop b) Q sl st:=by
 refine zR9 (λn sl st=>∃x,J x/\μ x=n/\sl=S x/\st=B x) ⟨μ x₀,_,_,hw,x₀,h₀,rfl,rfl,rfl⟩ ?_;grind
end
section
variable {P : Program} {T : Par} {ops : Array Oper} {dr : Bool} {o : Oper} {r : List Oper} {sl sl' : List D} {st st' : List Bk} {K : List D → List Bk → Prop} {p : Prop} {d : D} {b : Bk} {k : Nat} {fz : List Nat} {f : FuncId} {args : List D}
def goW(P:Program)(T:Par)(ops:Array Oper)(dr:Bool)(o:Oper)(r:List Oper)(sl:List D)(st:List Bk)(K:List D->List Bk->Prop):Prop:=match aeff P T o.op o.type (evD sl) st with
   | .bad=>False
   | .lit p d=>zY T o.op=Aa/\p/\seqW P T ops dr r (putD sl o.dst d) st K
   | .get p d=>zY T o.op=Ac/\p/\seqW P T ops dr r (putD sl o.dst d) st K
   | .new p b d fz=>zY T o.op=Ac/\p/\seqW P T ops dr r (putD sl o.dst d) (zAo st fz++[b]) K
   | .call f args fz=>zY T o.op=Ac/\∃news x,Pure P f args news x/\seqW P T ops dr r (putD sl o.dst (if news.isEmpty then x else zBf st.length x)) (zAo st fz++news) K
   | .put p k b fz=>isE T o.op=Aa/\p/\seqW P T ops dr r (putD sl o.dst .unk) ((zAo st fz).set k b) K
   | .app p k b d=>isE T o.op=Aa/\(T.keep k=Ac/\p)/\seqW P T ops dr r (putD (sl.map (zA6 k)) o.dst d) ((st.map (zCg k)).set k b) K
   | .act f args=>zY T o.op=Ac/\(dr=Ac\/isE T o.op=Aa)/\∃ch x st',(Acts P f args st ch x st'/\∀k∈ch,T.keep k=Ac)/\seqW P T ops dr r (putD (sl.map (zCm ch)) o.dst x) st' K
theorem zCt(hg:o.guard=Ae)(h:goW P T ops dr o r sl st K):seqW P T ops dr (o::r) sl st K:=by
 simp only[seqW,hg];exact h
theorem seq_skip{j:Nat}{want:Bool}{x:Array Value}(hg:o.guard=Ab (j,want))(hb:((ops[j]?).bind (·.dst)).map (λt=>sl.getD t .unk)=Ab (.val (.tuple x)))(hs:putD sl o.dst (.val undef)=sl')(h:seqW P T ops dr r sl' st K):seqW P T ops dr (o::r) sl st K:=by
 subst hs;simp only[seqW,hg,hb];exact h
theorem zQn{j:Nat}{want t:Bool}(hg:o.guard=Ab (j,want))(hb:((ops[j]?).bind (·.dst)).map (λt=>sl.getD t .unk)=Ab (.val (.bool t)))(hs:putD sl o.dst (.val undef)=sl')(h:t=want->goW P T ops dr o r sl st K)(h':t=!want->seqW P T ops dr r sl' st K):seqW P T ops dr (o::r) sl st K:=by
 subst hs;simp only[seqW,hg,hb];exact⟨h,h'⟩
theorem go_lit(hE:aeff P T o.op o.type (evD sl) st= .lit p d)(hl:zY T o.op=Aa)(hp:p)(hs:putD sl o.dst d=sl')(h:seqW P T ops dr r sl' st K):goW P T ops dr o r sl st K:=by
 subst hs;simp only[goW,hE];exact⟨hl,hp,h⟩
theorem go_get(hE:aeff P T o.op o.type (evD sl) st= .get p d)(hl:zY T o.op=Ac)(hp:p)(hs:putD sl o.dst d=sl')(h:seqW P T ops dr r sl' st K):goW P T ops dr o r sl st K:=by
 subst hs;simp only[goW,hE];exact⟨hl,hp,h⟩
theorem go_new(hE:aeff P T o.op o.type (evD sl) st= .new p b d fz)(hl:zY T o.op=Ac)(hp:p)(hs:putD sl o.dst d=sl')(ht:zAo st fz++[b]=st')(h:seqW P T ops dr r sl' st' K):goW P T ops dr o r sl st K:=by
 subst hs ht;simp only[goW,hE];exact⟨hl,hp,h⟩
theorem go_put(hE:aeff P T o.op o.type (evD sl) st= .put p k b fz)(hl:isE T o.op=Aa)(hp:p)(hs:putD sl o.dst .unk=sl')(ht:(zAo st fz).set k b=st')(h:seqW P T ops dr r sl' st' K):goW P T ops dr o r sl st K:=by
 subst hs ht;simp only[goW,hE];exact⟨hl,hp,h⟩
theorem go_app(hE:aeff P T o.op o.type (evD sl) st= .app p k b d)(hl:isE T o.op=Aa)(hk:T.keep k=Ac)(hp:p)(hs:putD (sl.map (zA6 k)) o.dst d=sl')(ht:(st.map (zCg k)).set k b=st')(h:seqW P T ops dr r sl' st' K):goW P T ops dr o r sl st K:=by
 subst hs ht;simp only[goW,hE];exact⟨hl,⟨hk,hp⟩,h⟩
theorem go_call{x:D}(hE:aeff P T o.op o.type (evD sl) st= .call f args fz)(hl:zY T o.op=Ac)(hc:Pure P f args [] x)(hs:putD sl o.dst x=sl')(ht:zAo st fz=st')(h:seqW P T ops dr r sl' st' K):goW P T ops dr o r sl st K:=by
 subst hs ht;simp only[goW,hE];exact⟨hl,[],x,hc,by simpa using h⟩
theorem go_callN{x:D}{n:Bk}{news:List Bk}(hE:aeff P T o.op o.type (evD sl) st= .call f args fz)(hl:zY T o.op=Ac)(hc:Pure P f args (n::news) x)(hs:putD sl o.dst (zBf st.length x)=sl')(ht:zAo st fz++n::news=st')(h:seqW P T ops dr r sl' st' K):goW P T ops dr o r sl st K:=by
 subst hs ht;simp only[goW,hE];exact⟨hl,n::news,x,hc,by simpa using h⟩
theorem go_act{x:D}{st'':List Bk}(hE:aeff P T o.op o.type (evD sl) st= .act f args)(hl:zY T o.op=Ac)(hd:dr=Ac\/isE T o.op=Aa)(hc:Acts P f args st [] x st'')(hs:putD sl o.dst x=sl')(h:seqW P T ops dr r sl' st'' K):goW P T ops dr o r sl st K:=by
 subst hs;simp only[goW,hE];refine⟨hl,hd,[],x,st'',⟨hc,by simp⟩,?_⟩;have:sl.map (zCm [])=sl:=by
  conv=>rhs;rw[<-List.map_id sl]
  exact AY λd _=>by simp[zCm]
 rw[this];exact h
end
section
variable {P : Program} {T : Par} {sl : List D} {st : List Bk} {Q : Exit → List D → List Bk → Prop}
theorem zK(h:Q .normal sl st):awp P T .skip Q sl st:=h
def zX(P:Program)(T:Par)(b:Code)(Q:Exit->List D->List Bk->Prop)(sl:List D)(st:List Bk):Prop:=∃sl' st',Weak T sl st sl' st'/\awp P T b Q sl' st'
theorem zD{b:Code}(h:awp P T b Q sl st):zX P T b Q sl st:=⟨sl,st,Weak.refl _ _,h⟩
theorem zB{a b:Code}(h:awp P T a (zW (zX P T b Q) Q) sl st):awp P T (.seq a b) Q sl st:=h
theorem zA{i:Nat}{ops:Array Oper}{l:List Oper}(hl:ops.toList=l)(h:seqW P T ops Ac l sl st (Q .normal)):awp P T (.region i ops Ac) Q sl st:=by subst hl;exact h
theorem awp_drawn{i:Nat}{ops:Array Oper}(ord:List Nat){l:List Oper}(hr:zX4 T ops ord=Aa)(hl:(ord.map λi=>ops.getD i Ah)=l)(h:seqW P T ops Aa l sl st (Q .normal)):awp P T (.region i ops Aa) Q sl st:=by subst hl;exact .inl ⟨ord,hr,h⟩
theorem zNg{i:Nat}{ops:Array Oper}(l0:List Nat)(its:List zJr){l:List Oper}(hr:zK7 T ops l0 its=Aa)(hl:(l0.map λi=>ops.getD i Ah)=l)(h:seqW P T ops Aa l sl st λsl st=>seqI P T ops its sl st (Q .normal)):awp P T (.region i ops Aa) Q sl st:=by subst hl;exact .inr ⟨l0,its,hr,h⟩
theorem zVu{ops:Array Oper}{K:List D->List Bk->Prop}(h:K sl st):seqI P T ops [] sl st K:=h
def freesB(o:Oper)(c:List (Nat×Nat))(sl:List D)(st:List Bk):Bool:=c.all λx=>Nat.ble st.length x.2||o.op.operands.toList.all λy=>!refs x.2 (evD sl y)
theorem zZs{ops:Array Oper}{K:List D->List Bk->Prop}{e:Nat}{c:List (Nat×Nat)}{l:List Nat}{r:List zJr}{o:Oper}{l':List Oper}(ho:ops.getD e Ah=o)(hl:(l.map λi=>ops.getD i Ah)=l')(hf:freesB o c sl st=Aa)
  (h:seqW P T ops Aa [o] sl st λsl' st'=>lateN P T ops c st.length sl' st'/\seqW P T ops Aa l' sl' st' λsl st=>seqI P T ops r sl st K):seqI P T ops ((e,c,l)::r) sl st K:=by
 subst ho hl;refine⟨λx hx hlt y hy=>?_,h⟩;have h1:=AN.1 hf x hx;rw[AW]at h1;rcases h1 with h1|h1
 ·have:=B5 h1;omega
 grind
def lateL(P:Program)(T:Par)(ops:Array Oper)(o:Oper)(n:Nat)(sl:List D)(st:List Bk):Option (List Prop):=match gv ops o sl with
 | some Aa=>match aeff P T o.op o.type (evD sl) (st.take n),o.dst with
  | .lit p d,Ab x=>if zY T o.op then Ab [p,sl[x]?=Ab d]else Ae
  | .get p d,Ab x=>if zY T o.op then Ae else Ab [p,sl[x]?=Ab d]
  | .new p b d fz,Ab x=>match st[n]?,b with
   |some e,⟨cells,ty,sz,arr,Ac,kd⟩=>if zY T o.op||!fz.isEmpty then Ae else Ab [p,sl[x]?=Ab d,e.cells=cells,e.ty=ty,e.sz=sz,e.arr=arr,e.kd=kd]
   |_,_=>Ae
  |_,_=>Ae
 |_=>Ae
def zWv(P:Program)(T:Par)(ops:Array Oper)(sl:List D)(st:List Bk):List (Nat×Nat)->Option (List Prop)
 |[]=>Ab []
 |x::r=>match lateL P T ops (ops.getD x.1 Ah) x.2 sl st,zWv P T ops sl st r with
  |some l,Ab m=>Ab (l++m)
  |_,_=>Ae
def AllP:List Prop->Prop
 |[]=>True
 |[p]=>p
 |p::q::r=>p/\AllP (q::r)
theorem AllP.mem:∀{l:List Prop},AllP l->∀p∈l,p
 |[],_,p,hp=>by cases hp
 |[q],h,p,hp=>by rw[B6]at hp;rw[hp];exact h
 |q::r::l,h,p,hp=>by
  rcases AH.1 hp with rfl|hp
  ·exact h.1
  exact AllP.mem (l:=r::l) h.2 p hp
theorem lateL_ok{ops:Array Oper}{o:Oper}{n:Nat}{l:List Prop}(h:lateL P T ops o n sl st=Ab l)(hl:∀p∈l,p):zHj P T ops o n sl st:=by
 unfold lateL at h;unfold zHj;split at h
 ·rename_i hg;rw[hg];simp only;split at h
  ·rename_i p d x he hx;rw[he];split at h
   ·rename_i hli;cases h<;>simp_all
   cases h
  ·rename_i p d x he hx;rw[he];split at h
   ·cases h
   rename_i hli;cases h<;>simp_all
  ·rename_i p b d fz x he hx;rw[he];split at h
   ·rename_i e cells ty sz arr kd hst;split at h
    ·cases h
    rename_i hli;have hl1:zY T o.op=false:=by cases hq:zY T o.op<;>simp_all
    have hl2:fz=[]:=by cases fz<;>simp_all
    cases h;exact⟨hl1,hl _ (by simp),hl2,⟨x,hx,hl (sl[x]?=Ab d) (by simp)⟩,e,hst,hl (e.cells=cells) (by simp),hl (e.ty=ty) (by simp),hl (e.sz=sz) (by simp),hl (e.arr=arr) (by simp),hl (e.kd=kd) (by simp),λh=>by cases h⟩
   cases h
  cases h
 cases h
theorem zRh{ops:Array Oper}:∀{c:List (Nat×Nat)}{l:List Prop},zWv P T ops sl st c=Ab l->(∀p∈l,p)->lateAll P T ops c sl st
 |[],l,h,hl=>λx hx=>by cases hx
 | y::c,l,h,hl=>by
  unfold zWv at h;split at h
  ·rename_i l1 l2 h1 h2;cases h;intro x hx;rcases AH.1 hx with rfl|hx
   ·exact lateL_ok h1 λp hp=>hl p (B7 _ hp)
   exact zRh h2 (λp hp=>hl p (B8 _ hp)) x hx
  cases h
theorem zZr{ops:Array Oper}{K:List D->List Bk->Prop}{c:List (Nat×Nat)}{l:List Oper}{C:Prop}{n:Nat}(h:(zWv P T ops sl st c).map AllP=Ab C)(hc:C)(hn:Nat.ble n st.length=Aa)(k:seqW P T ops Aa l sl st K):lateN P T ops c n sl st/\seqW P T ops Aa l sl st K:=by
 obtain⟨l,h1,rfl⟩:=Ar.1 h;exact⟨⟨B5 hn,zRh h1 hc.mem⟩,k⟩
theorem zAr{c:Operand}{x y:Code}{t:Bool}(hc:evD sl c= .val (.bool t))(h:t=Aa->awp P T x Q sl st)(h':t=Ac->awp P T y Q sl st):awp P T (.cond c x y) Q sl st:=by
 simp only[awp,hc];exact⟨h,h'⟩
theorem zF{i:Nat}{b:Code}(h:awp P T b (zP i Q) sl st):awp P T (.block i b) Q sl st:=h
theorem zV{i:Nat}(h:Q (.exit i) sl st):awp P T (.exit i) Q sl st:=h
theorem zJ(h:Q .ret sl st):awp P T .ret Q sl st:=h
variable {K : List D → List Bk → Prop}
theorem zC(h:K sl st):zW K Q .normal sl st:=h
theorem zM{i:Nat}(h:Q (.exit i) sl st):zW K Q (.exit i) sl st:=h
theorem zH(h:Q .ret sl st):zW K Q .ret sl st:=h
theorem zE{i:Nat}(h:Q .normal sl st):zP i Q .normal sl st:=h
theorem zN{i:Nat}(h:Q .ret sl st):zP i Q .ret sl st:=h
theorem zQ{i j:Nat}(e:j=i)(h:Q .normal sl st):zP i Q (.exit j) sl st:=by simp only[zP,e,if_true];exact h
end
theorem zA5{x:Int}(h1:0<=x)(h2:x<=4294967295):A_.wrap x=x:=by
 simp only[IntKind.wrap,B9,B_,Bool.true_and,Bool.false_and,AS,if_false,decide_eq_true_eq,ge_iff_le];(try split)<;>omega
def hvOf(P:Program):Op->Bool
 | .convert s d _=>match P.underlying s,P.underlying d with
  |some (.slice _),Ab .string=>Aa
  |_,_=>Ac
 | .call {callee:= .builtin .len,argTypes:=t,..}=>match(t.toList.head?).bind P.underlying with
  |some (.map _ _)=>Aa
  |_=>Ac
 |_=>Ac
def shOf(P:Program)(t:TypeId):Bool:=match P.underlying t with
 |some (.map _ _)|some (.pointer _)=>Aa
 |some (.slice e)=>match P.underlying e with
  |some (.pointer _)=>Aa
  |_=>Ac
 |_=>Ac
def TM(P:Program)(imp:FuncId->Bool)(keep:Nat->Bool):Par:=⟨imp,zLj P,keep,hvOf P,shOf P⟩
theorem zVe(P:Program)(imp:FuncId->Bool)(keep:Nat->Bool):zBi P (TM P imp keep):=λt name f h v W=>by
 obtain⟨n,hn⟩:∃n,P.types.size+Made.depth=n+1:=⟨P.types.size+Made.depth-1,by have:Made.depth=100:=rfl;omega⟩;rw[hn];exact zX7 h n v W
abbrev U:D:= .unk
abbrev iD(x:Int):D:= .val (.int .i64 x)
abbrev bD(b:Bool):D:= .val (.bool b)
def updS(sl:List D):List (Nat×D)->List D
 |[]=>sl
 |(i,d)::r=>updS (sl.set i d) r
def zZ(sl:List D):List Nat->List D
 |[]=>sl
 |i::r=>zZ (sl.set i .unk) r
def Alls:List Prop->Prop
 |[]=>True
 |[p]=>p
 |p::q::r=>p/\Alls (q::r)
theorem Alls.cons{p:Prop}{r:List Prop}(h:Alls (p::r)):p/\Alls r:=by
 cases r with
 |nil=>exact⟨h,trivial⟩
 |cons q r=>exact h
theorem Alls.app:∀{l r:List Prop},Alls (l++r)->Alls l/\Alls r
 |[],r,h=>⟨trivial,h⟩
 |[p],r,h=>⟨h.cons.1,h.cons.2⟩
 |p::q::l,r,h=>by
  have h1:=Alls.cons (r:=q::l++r) h;have h2:=Alls.app (l:=q::l) h1.2;exact⟨⟨h1.1,h2.1⟩,h2.2⟩
def inK:IntKind->Int->Prop
 | .i64,x=>-9223372036854775808<=x/\x<=9223372036854775807
 | .u64,x=>0<=x/\x<=18446744073709551615
 | .i32,x=>-2147483648<=x/\x<=2147483647
 | .u32,x=>0<=x/\x<=4294967295
 | .i16,x=>-32768<=x/\x<=32767
 | .u16,x=>0<=x/\x<=65535
 | .i8,x=>-128<=x/\x<=127
 | .u8,x=>0<=x/\x<=255
theorem zCa{k:IntKind}{x:Int}(h:inK k x):k.wrap x=x:=by
 cases k<;>simp only[inK]at h<;>simp only[IntKind.wrap,B9,B_,Bool.true_and,Bool.false_and,AS,if_false,decide_eq_true_eq,ge_iff_le]<;>(try split)<;>omega
def exBin:BinOp->Int->Int->Option Int
 | .add,a,b=>Ab (a+b)
 | .sub,a,b=>Ab (a-b)
 | .mul,a,b=>Ab (a*b)
 | .quo,a,b=>Ab (a.tdiv b)
 |_,_,_=>Ae
section
variable (P : Program) (T : Par)
def isQuo:BinOp->Bool
 | .quo=>Aa
 |_=>Ac
def zVb(o:Op)(ty:TypeId)(ρ:Operand->D)(st:List Bk):Eff:=match o with
 | .binOp op t x y u=>match ρ x,ρ y with
  | .val (.int k a), .val (.int k' b)=>match exBin op a b with
   |some z=>if k=k' then .lit (if isQuo op then b≠0/\inK k z else inK k z) (.val (.int k z))else .bad
   |none=>aeff P T (.binOp op t x y u) ty ρ st
  |_,_=>aeff P T (.binOp op t x y u) ty ρ st
 | .unOp .neg t x=>match ρ x with
  | .val (.int k a)=> .lit (inK k (0-a)) (.val (.int k (0-a)))
  |_=> .bad
 | .convert s d x=>match P.underlying s,P.underlying d,ρ x with
  |some (.int _),Ab (.int k), .val (.int _ n)=>if T.hv (.convert s d x)then .bad else .lit (inK k n) (.val (.int k n))
  |_,_,_=>aeff P T (.convert s d x) ty ρ st
 |o=>aeff P T o ty ρ st
theorem aeffX_lit{o:Op}{ty:TypeId}{ρ:Operand->D}{st:List Bk}{p:Prop}{d:D}(h:zVb P T o ty ρ st= .lit p d)(hp:p):∃q,aeff P T o ty ρ st= .lit q d/\q:=by
 unfold zVb at h;split at h
 ·rename_i op t x y u;split at h
  ·rename_i k a k' b hx hy;split at h
   ·rename_i z hz;split at h
    ·rename_i hk;subst hk;simp only[Eff.lit.injEq]at h;obtain⟨rfl,rfl⟩:=h;cases op<;>simp only[exBin,AT.injEq,reduceCtorEq]at hz;all_goals
      subst hz;simp only[isQuo,if_true,if_false,AS]at hp
     ·exact⟨True,by simp[aeff,aBin,hx,hy,aInt,zCa hp],trivial⟩
     ·exact⟨True,by simp[aeff,aBin,hx,hy,aInt,zCa hp],trivial⟩
     ·exact⟨True,by simp[aeff,aBin,hx,hy,aInt,zCa hp],trivial⟩
     exact⟨b≠0,by simp[aeff,aBin,hx,hy,aInt,zCa hp.2],hp.1⟩
    cases h
   exact⟨p,h,hp⟩
  exact⟨p,h,hp⟩
 ·rename_i t x;split at h
  ·rename_i k a hx;simp only[Eff.lit.injEq]at h;obtain⟨rfl,rfl⟩:=h;exact⟨True,by simp only[aeff,hx,aUn,zCa hp],trivial⟩
  cases h
 ·rename_i s t x;split at h
  ·rename_i k0 k k1 n hs hd hx;split at h
   ·cases h
   rename_i hv;simp only[Eff.lit.injEq]at h;obtain⟨rfl,rfl⟩:=h;exact⟨True,by simp only[aeff,hv,AS,if_false,aConv,hs,hd,hx,zCa hp],trivial⟩
  exact⟨p,h,hp⟩
 exact⟨p,h,hp⟩
theorem aeffX_not{o:Op}{ty:TypeId}{ρ:Operand->D}{st:List Bk}{e:Eff}(h:zVb P T o ty ρ st=e)(hn:∀p d,e≠ .lit p d)(hb:e≠ .bad):aeff P T o ty ρ st=e:=by
 unfold zVb at h;grind
def zM3:Op->Bool
 | .move _| .assign _| .pick ..| .alloc _| .box ..| .nilCheck _=>Aa
 | .binOp op ..=>match op with
  | .lss| .leq| .gtr| .geq=>Aa
  |_=>Ac
 | .unOp .not ..=>Aa
 | .makeInterface ..| .makeFunc ..=>Aa
 | .call {callee:= .builtin .len,..}| .call {callee:= .builtin .min,..}| .call {callee:= .builtin .max,..}=>Aa
 |_=>Ac
def effP:Eff->Prop
 | .lit p _| .get p _| .new p _ _ _| .put p _ _ _| .app p _ _ _=>p
 |_=>True
theorem zZg{o:Op}{ty:TypeId}{ρ:Operand->D}{st:List Bk}(h:zM3 o=Aa):effP (aeff P T o ty ρ st):=by
 unfold zM3 at h;split at h<;>first|cases h|skip
 all_goals simp only[aeff]
 all_goals first
  |trivial
  |((repeat' split)<;>trivial)
  |skip
 ·rename_i op t x y u;cases op<;>simp only[AS]at h<;>simp only[aBin]<;>(repeat' split)<;>first|trivial|(simp only[aInt];trivial)|(simp only[aStr];trivial)|(simp only[aNil];(repeat' split)<;>trivial)|(simp only[aEqS];(repeat' split)<;>trivial)|(simp only[zKa];(repeat' split)<;>trivial)|skip
 ·unfold aUn;(repeat' split)<;>trivial
 split
 ·split
  ·unfold zYw;(repeat' split)<;>trivial
  unfold aLen;(repeat' split)<;>trivial
 trivial
end
section
variable (P : Program) (T : Par)
inductive Gd where
 |bad
 |skip(cs:List Prop)(gs:List (Nat×Bool))(sl:List D)
 |go(cs:List Prop)(gs:List (Nat×Bool))(sl:List D)
def assocB(gs:List (Nat×Bool))(j:Nat):Option Bool:=match gs with
 |[]=>Ae
 |(i,b)::r=>if i==j then Ab b else assocB r j
def gdec(ops:Array Oper)(o:Oper)(gs:List (Nat×Bool))(sl:List D):Gd:=match o.guard with
 |none=> .go [] gs sl
 | some (j,want)=>match(ops[j]?).bind (·.dst)with
  |none=> .bad
  | some t=>match sl.getD t .unk with
   | .val (.bool b)=>match assocB gs j with
    |some g=>if g==want then .go [b=g] (gs.filter λx=>x.1 !=j) (sl.set t (.val (.bool g)))else .skip [b=g] (gs.filter λx=>x.1 !=j) (sl.set t (.val (.bool g)))
    |none=>if b==want then .go [] gs sl else .skip [] gs sl
   | .val (.tuple _)=> .skip [] gs sl
   |_=> .bad
def memN(l:List Nat)(n:Nat):Bool:=match l with
 |[]=>Ac
 |i::r=>if i==n then Aa else memN r n
def rawOf(raws:List Nat)(o:Oper):Bool:=match o.dst with
 |some d=>memN raws d
 |none=>Ac
def zT9(raws:List Nat)(o:Oper)(sl:List D)(st:List Bk):Eff:=if rawOf raws o then aeff P T o.op o.type (evD sl) st else zVb P T o.op o.type (evD sl) st
def zL6(o:Op)(p:Prop):List Prop:=if zM3 o then[]else[p]
def runL(ops:Array Oper)(raws:List Nat):List Oper->List (Nat×Bool)->List D->List Bk->Option (List Prop×List D×List Bk)
 |[],_,sl,st=>Ab ([],sl,st)
 | o::r,gs,sl,st=>match gdec ops o gs sl with
  | .bad=>Ae
  | .skip cs gs sl=>(runL ops raws r gs (putD sl o.dst (.val undef)) st).map λx=>(cs++x.1,x.2)
  | .go cs gs sl=>match zT9 P T raws o sl st with
   | .lit p d=>if zY T o.op then(runL ops raws r gs (putD sl o.dst d) st).map λx=>(cs++zL6 o.op p++x.1,x.2)else Ae
   | .get p d=>if zY T o.op then Ae else(runL ops raws r gs (putD sl o.dst d) st).map λx=>(cs++zL6 o.op p++x.1,x.2)
   | .new p b d fz=>if zY T o.op then Ae else(runL ops raws r gs (putD sl o.dst d) (zAo st fz++[b])).map λx=>(cs++zL6 o.op p++x.1,x.2)
   | .put p k b fz=>if isE T o.op then(runL ops raws r gs (putD sl o.dst .unk) ((zAo st fz).set k b)).map λx=>(cs++zL6 o.op p++x.1,x.2)else Ae
   | .app p k b d=>if isE T o.op&&!T.keep k then(runL ops raws r gs (putD (sl.map (zA6 k)) o.dst d) ((st.map (zCg k)).set k b)).map λx=>(cs++zL6 o.op p++x.1,x.2)else Ae
   |_=>Ae
theorem zF0{sl:List D}{t:Nat}{d:D}(h:sl.getD t .unk=d)(hd:d≠ .unk):sl.set t d=sl:=by
 subst h;apply Bh;grind
variable {P T}
theorem zFn{ops:Array Oper}{o:Oper}{gs gs':List (Nat×Bool)}{sl sl':List D}{cs:List Prop}(h:gdec ops o gs sl= .go cs gs' sl')(hc:Alls cs):sl'=sl/\∀{dr:Bool}{r:List Oper}{st:List Bk}{K:List D->List Bk->Prop},goW P T ops dr o r sl st K->seqW P T ops dr (o::r) sl st K:=by
 unfold gdec at h;split at h
 ·rename_i hg;simp only[Gd.go.injEq]at h;grind [zCt]
 rename_i j want hg;split at h
 ·cases h
 rename_i t ht;split at h
 ·rename_i b hb;have key:b=want->∀{dr:Bool}{r:List Oper}{st:List Bk}{K:List D->List Bk->Prop},goW P T ops dr o r sl st K->seqW P T ops dr (o::r) sl st K:=λhbw {dr r st K} hgo=>
   zQn (t:=b) hg (by rw[ht];simp only[Ba,hb]) rfl (λ_=>hgo) (λhx=>by subst hbw;cases b<;>cases hx)
  split at h
  ·rename_i g hgs;split at h
   ·rename_i hw;simp only[Gd.go.injEq]at h;obtain⟨rfl,_,rfl⟩:=h;have hbg:b=g:=hc;grind [zF0]
   cases h
  grind
 ·cases h
 cases h
theorem gdec_skip{ops:Array Oper}{o:Oper}{gs gs':List (Nat×Bool)}{sl sl':List D}{cs:List Prop}(h:gdec ops o gs sl= .skip cs gs' sl')(hc:Alls cs):sl'=sl/\∀{dr:Bool}{r:List Oper}{st:List Bk}{K:List D->List Bk->Prop},seqW P T ops dr r (putD sl o.dst (.val undef)) st K->seqW P T ops dr (o::r) sl st K:=by
 unfold gdec at h;split at h
 ·cases h
 rename_i j want hg;split at h
 ·cases h
 rename_i t ht;split at h
 ·rename_i b hb;have key:b=!want->∀{dr:Bool}{r:List Oper}{st:List Bk}{K:List D->List Bk->Prop},seqW P T ops dr r (putD sl o.dst (.val undef)) st K->seqW P T ops dr (o::r) sl st K:=λhbw {dr r st K} hgo=>
   zQn (t:=b) hg (by rw[ht];simp only[Ba,hb]) rfl (λhx=>by subst hx;cases b<;>cases hbw) (λ_=>hgo)
  split at h
  ·rename_i g hgs;split at h
   ·cases h
   rename_i hw;simp only[Gd.skip.injEq]at h;obtain⟨rfl,_,rfl⟩:=h;have hbg:b=g:=hc;subst hbg;exact⟨zF0 hb (by simp),key (by cases b<;>cases want<;>simp at hw⊢)⟩
  split at h
  ·cases h
  rename_i hw;simp only[Gd.skip.injEq]at h;exact⟨h.2.2.symm,key (by cases b<;>cases want<;>simp at hw⊢)⟩
 ·rename_i x hb;simp only[Gd.skip.injEq]at h;exact⟨h.2.2.symm,λhgo=>seq_skip (x:=x) hg (by rw[ht];simp only[Ba,hb]) rfl hgo⟩
 cases h
theorem aeffY_lit{raws:List Nat}{o:Oper}{sl:List D}{st:List Bk}{p:Prop}{d:D}(h:zT9 P T raws o sl st= .lit p d)(hp:p):∃q,aeff P T o.op o.type (evD sl) st= .lit q d/\q:=by
 grind [zT9,aeffX_lit]
theorem zH0{raws:List Nat}{o:Oper}{sl:List D}{st:List Bk}{e:Eff}(h:zT9 P T raws o sl st=e)(hn:∀p d,e≠ .lit p d)(hb:e≠ .bad):aeff P T o.op o.type (evD sl) st=e:=by
 unfold zT9 at h;split at h;all_goals simp_all [aeffX_not]
theorem zYu{o:Op}{ty:TypeId}{ρ:Operand->D}{st:List Bk}(h:zM3 o=Aa):effP (zVb P T o ty ρ st):=by
 have h0:=zZg P T (o:=o) (ty:=ty) (ρ:=ρ) (st:=st) h;unfold zVb;split
 ·rename_i op t x y u;split
  ·split
   ·rename_i z hz;cases op<;>simp only[exBin,reduceCtorEq]at hz<;>simp[zM3]at h
   exact h0
  exact h0
 all_goals grind [zM3]
theorem zL5{raws:List Nat}{o:Oper}{sl:List D}{st:List Bk}{e:Eff}{p:Prop}(h:zT9 P T raws o sl st=e)(he:effP e=p)(hc:Alls (zL6 o.op p)):p:=by
 unfold zL6 at hc;split at hc
 ·rename_i ht;rw[<-he,<-h];unfold zT9;split;all_goals simp_all [zZg,ht,zYu]
 exact hc
theorem zBw{ops:Array Oper}{dr:Bool}{raws:List Nat}{K:List D->List Bk->Prop}:∀(l l':List Oper)(gs:List (Nat×Bool))(sl:List D)(st:List Bk)(cs:List Prop)(sl':List D)(st':List Bk),runL P T ops raws l gs sl st=Ab (cs,sl',st')->Alls cs->seqW P T ops dr l' sl' st' K->seqW P T ops dr (l++l') sl st K
 |[],l',gs,sl,st,cs,sl',st',h,hc,k=>by
  simp only[runL,AT.injEq,As.injEq]at h;grind
 | o ::r,l',gs,sl,st,cs,sl',st',h,hc,k=>by
  simp only[runL]at h;split at h
  ·cases h
  ·rename_i c1 gs1 sl1 hg;simp only[Ar,Prod.exists,As.injEq]at h;obtain⟨c2,sl2,st2,h1,rfl,rfl,rfl⟩:=h;obtain⟨a1,a2⟩:=Alls.app hc;obtain⟨rfl,g2⟩:=gdec_skip (P:=P) (T:=T) hg a1;exact g2 (zBw r l' _ _ _ _ _ _ h1 a2 k)
  rename_i c1 gs1 sl1 hg;split at h
  ·rename_i p d he;split at h
   ·rename_i hl;simp only[Ar,Prod.exists,As.injEq]at h;obtain⟨c2,sl2,st2,h1,rfl,rfl,rfl⟩:=h;obtain⟨a1,a2⟩:=Alls.app hc;obtain⟨a1,a3⟩:=Alls.app a1;obtain⟨rfl,g2⟩:=zFn (P:=P) (T:=T) hg a1;obtain⟨q,e1,e2⟩:=aeffY_lit he (zL5 he rfl a3);exact g2 (go_lit e1 hl e2 rfl (zBw r l' _ _ _ _ _ _ h1 a2 k))
   cases h
  ·rename_i p d he;split at h
   ·cases h
   rename_i hl;simp only[Ar,Prod.exists,As.injEq]at h;obtain⟨c2,sl2,st2,h1,rfl,rfl,rfl⟩:=h;obtain⟨a1,a2⟩:=Alls.app hc;obtain⟨a1,a3⟩:=Alls.app a1;obtain⟨rfl,g2⟩:=zFn (P:=P) (T:=T) hg a1;exact g2 (go_get (zH0 he (by simp) (by simp)) (by simpa using hl) (zL5 he rfl a3) rfl (zBw r l' _ _ _ _ _ _ h1 a2 k))
  ·rename_i p b d fz he;split at h
   ·cases h
   rename_i hl;simp only[Ar,Prod.exists,As.injEq]at h;obtain⟨c2,sl2,st2,h1,rfl,rfl,rfl⟩:=h;obtain⟨a1,a2⟩:=Alls.app hc;obtain⟨a1,a3⟩:=Alls.app a1;obtain⟨rfl,g2⟩:=zFn (P:=P) (T:=T) hg a1;exact g2 (go_new (zH0 he (by simp) (by simp)) (by simpa using hl) (zL5 he rfl a3) rfl rfl (zBw r l' _ _ _ _ _ _ h1 a2 k))
  ·rename_i p n b fz he;split at h
   ·rename_i hl;simp only[Ar,Prod.exists,As.injEq]at h;obtain⟨c2,sl2,st2,h1,rfl,rfl,rfl⟩:=h;obtain⟨a1,a2⟩:=Alls.app hc;obtain⟨a1,a3⟩:=Alls.app a1;obtain⟨rfl,g2⟩:=zFn (P:=P) (T:=T) hg a1;exact g2 (go_put (zH0 he (by simp) (by simp)) hl (zL5 he rfl a3) rfl rfl (zBw r l' _ _ _ _ _ _ h1 a2 k))
   cases h
  ·rename_i p n b d he;split at h
   ·rename_i hl;simp only[AD,Br]at hl;simp only[Ar,Prod.exists,As.injEq]at h;obtain⟨c2,sl2,st2,h1,rfl,rfl,rfl⟩:=h;obtain⟨a1,a2⟩:=Alls.app hc;obtain⟨a1,a3⟩:=Alls.app a1;obtain⟨rfl,g2⟩:=zFn (P:=P) (T:=T) hg a1;exact g2 (go_app (zH0 he (by simp) (by simp)) hl.1 hl.2 (zL5 he rfl a3) rfl rfl (zBw r l' _ _ _ _ _ _ h1 a2 k))
   cases h
  cases h
end
theorem lb{a b:Nat}(h:Nat.ble a b=Aa):a<=b:=B5 h
abbrev nl:D:= .val (.slice Ae 0 0)
section
variable {P : Program} {T : Par}
theorem LeD.trans{a b c:D}(h:LeD a b)(k:LeD b c):LeD a c:=λI w β v hv=>k I w β v (h I w β v hv)
theorem LeL.trans{a b c:List D}(h:LeL a b):LeL b c->LeL a c:=by
 induction h generalizing c with
 |nil=>exact λh=>h
 |cons h1 _ ih=>
  intro k;cases k with
  |cons k1 k2=>exact .cons (h1.trans k1) (ih k2)
theorem LeL.set(sl:List D)(i:Nat):LeL sl (sl.set i .unk):=by
 induction sl generalizing i with
 |nil=>exact .nil
 |cons d ds ih=>
  cases i with
  |zero=>exact .cons (.unk _) (.refl _)
  |succ i=>exact .cons (.refl _) (ih i)
theorem LeL.dead(dead:List Nat):∀sl:List D,LeL sl (zZ sl dead):=by
 induction dead with
 |nil=>exact λsl=> .refl sl
 |cons i r ih=>exact λsl=>(LeL.set sl i).trans (ih _)
theorem Pure.frozen{f:FuncId}{args:List D}{b:Bk}{n m:Nat}{wh:Bool}{cs:List D}(h:Pure P f args [b] (.osl 0 0 n m wh))(hb:b.arr=Aa)(hc:b.cells.take m=cs):Pure P f args [] (.row cs n):=by
 intro I w vs hr hi hg;refine(h I w vs hr hi hg).mono ?_;rintro e w' ⟨v,I',γ,he,h1,h2,h3,h4,h5,h6,h7,h8,h9,h10,h11⟩;have hs:Sim γ I' w' [.osl 0 0 n m wh] [b] [v]:=⟨by simp only[RelT];exact⟨v,[],rfl,h10,rfl⟩,h6,h7,h8,h9,h2,hg.mono h3⟩;have hkd:b.kd= .plain:=(h11 b (by simp)).2;have hf:frz Aa [b] zAu (.osl 0 0 n m wh)=Ab (.row cs n,[0]):=by simp[frz,zAu,hb,hc,hkd,A9,Kd.isMap,Kd.isSh]
 have h12:=zBq hs.sr.weak _ _ _ _ _ hf h10;refine⟨v,fixI I' γ [b] [0],noB,he,h1,zDt hs.sr.weak h2 [0],h3.trans (zAg [0]),λx o hx=>?_,λk b c h=>(by cases h),λk b c h=>(by cases h),λk k' b c c' h=>(by cases h),λk b c j e h=>(by cases h),λk y h=>(by cases h),h12,by simp⟩;rcases hx with hx|⟨k,_,c,e,hk,_⟩;all_goals grind
theorem Pure.le{f:FuncId}{args args':List D}{news:List Bk}{x:D}(h:Pure P f args' news x)(ha:LeL args args'):Pure P f args news x:=λI w vs hr hi=>h I w vs (ha.rel hr) hi
theorem Acts.le{f:FuncId}{args args':List D}{st st':List Bk}{x:D}{ch:List Nat}(h:Acts P f args' st ch x st')(ha:LeL args args'):Acts P f args st ch x st':=λβ I w vs hr=>h β I w vs (ha.rel hr)
section
variable {ops : Array Oper} {dr : Bool} {l : List Oper} {sl : List D} {st : List Bk} {K : List D → List Bk → Prop}
theorem st_run(n:Nat)(raws:List Nat)(gs:List (Nat×Bool))(C:Prop)(ch:List (Nat×D))(st':List Bk)(h:(runL P T ops raws (l.take n) gs sl st).map (λx=>(Alls x.1,x.2.1,x.2.2))=Ab (C,updS sl ch,st'))(hc:C)(k:seqW P T ops dr (l.drop n) (updS sl ch) st' K):seqW P T ops dr l sl st K:=by
 rw[Ar]at h;obtain⟨⟨c,s1,s2⟩,h1,h2⟩:=h;simp only[As.injEq]at h2;grind [zBw,Bs]
theorem st_end{b:Code}{Q Q':Exit->List D->List Bk->Prop}(raws:List Nat)(gs:List (Nat×Bool))(dead:List Nat)(C:Prop)(ch:List (Nat×D))(st':List Bk)(h:(runL P T ops raws l gs sl st).map (λx=>(Alls x.1,zZ x.2.1 dead,x.2.2))=Ab (C,updS (zZ sl dead) ch,st'))(hc:C)(k:awp P T b Q (updS (zZ sl dead) ch) st'):seqW P T ops dr l sl st (zW (zX P T b Q) Q' .normal):=by
 rw[Ar]at h;obtain⟨⟨c,s1,s2⟩,h1,h2⟩:=h;simp only[As.injEq]at h2;obtain⟨rfl,e,rfl⟩:=h2
 have:=zBw (P:=P) (T:=T) (dr:=dr) (K:=zW (zX P T b Q) Q' .normal) l [] gs sl st c s1 s2 h1 hc ?_
 ·grind
 exact⟨_,_,Weak.slots (LeL.dead dead s1),e▸k⟩
theorem zKx(n:Nat)(raws:List Nat)(gs:List (Nat×Bool))(C:Prop)(ch:List (Nat×D))(h:(runL P T ops raws (l.take n) gs sl st).map (λx=>(Alls x.1,x.2.1,x.2.2))=Ab (C,updS sl ch,st))(hc:C)(k:seqW P T ops dr (l.drop n) (updS sl ch) st K):seqW P T ops dr l sl st K:=by grind [st_run]
theorem zSs{b:Code}{Q Q':Exit->List D->List Bk->Prop}(raws:List Nat)(gs:List (Nat×Bool))(dead:List Nat)(C:Prop)(ch:List (Nat×D))(h:(runL P T ops raws l gs sl st).map (λx=>(Alls x.1,zZ x.2.1 dead,x.2.2))=Ab (C,updS (zZ sl dead) ch,st))(hc:C)(k:awp P T b Q (updS (zZ sl dead) ch) st):seqW P T ops dr l sl st (zW (zX P T b Q) Q' .normal):=by grind [st_end]
theorem zZq(i:Nat)(d0 d:D)(h:sl.getD i .unk=d0)(hd:d0=d)(hu:zFm d||zGg d||(match d with| .tup _=>Aa|_=>Ac)=Aa)(k:seqW P T ops dr l (sl.set i d) st K):seqW P T ops dr l sl st K:=by
 subst hd;rwa[zF0 h (by intro e;subst e;simp[zFm,zGg]at hu)]at k
theorem st_blk(i:Nat)(b0 b:Bk)(h:st[i]?=Ab b0)(hd:b0=b)(k:seqW P T ops dr l sl (st.set i b) K):seqW P T ops dr l sl st K:=by
 subst hd;rwa[show st.set i b0=st from by
  apply Bh;intro j;rw[Ca];split
  ·rename_i e;subst e;rw[h];split
   ·rfl
   rename_i hx;rw[BI (by omega)]at h;cases h
  rfl]at k
def hdst(l:List Oper):Option Nat:=(l.head?).bind (·.dst)
def zJ9(P:Program)(T:Par)(ops:Array Oper)(l:List Oper)(gs:List (Nat×Bool))(sl:List D)(st:List Bk):Option (List Prop×FuncId×List D×List Bk):=match l with
 |[]=>Ae
 | o::_=>match gdec ops o gs sl with
  | .go cs _ sl=>match aeff P T o.op o.type (evD sl) st with
   | .call f args fz=>if zY T o.op then Ae else Ab (cs,f,args,zAo st fz)
   |_=>Ae
  |_=>Ae
theorem zXl{gs:List (Nat×Bool)}{cs:List Prop}{f:FuncId}{args:List D}{st':List Bk}(h:zJ9 P T ops l gs sl st=Ab (cs,f,args,st'))(hc:Alls cs):∃o r fz,l=o::r/\zY T o.op=Ac/\aeff P T o.op o.type (evD sl) st= .call f args fz/\st'=zAo st fz/\∀{K:List D->List Bk->Prop},goW P T ops dr o r sl st K->seqW P T ops dr (o::r) sl st K:=by
 unfold zJ9 at h;split at h
 ·cases h
 rename_i o r;split at h
 ·rename_i c1 g1 s1 hg;split at h
  ·rename_i f1 a1 fz he;split at h
   ·cases h
   rename_i hl;simp only[AT.injEq,As.injEq]at h;obtain⟨rfl,rfl,rfl,rfl⟩:=h;obtain⟨rfl,g2⟩:=zFn (P:=P) (T:=T) hg hc;exact⟨o,r,fz,rfl,by simpa using hl,he,rfl,λk=>g2 k⟩
  cases h
 cases h
theorem zSt(gs:List (Nat×Bool))(cs:List Prop){f:FuncId}(args:List D)(st':List Bk){x:D}(args':List D)(h:zJ9 P T ops l gs sl st=Ab (cs,f,args,st'))(hc:Alls cs)(ha:LeL args args')(hp:Pure P f args' [] x)(k:seqW P T ops dr l.tail (putD sl (hdst l) x) st' K):seqW P T ops dr l sl st K:=by
 obtain⟨o,r,fz,rfl,hl,he,rfl,g⟩:=zXl (dr:=dr) h hc;exact g (go_call he hl (hp.le ha) rfl rfl k)
theorem st_callN(gs:List (Nat×Bool))(cs:List Prop){f:FuncId}(args:List D)(st':List Bk){x:D}{n:Bk}{news:List Bk}(args':List D)(h:zJ9 P T ops l gs sl st=Ab (cs,f,args,st'))(hc:Alls cs)(ha:LeL args args')(hp:Pure P f args' (n::news) x)(k:seqW P T ops dr l.tail (putD sl (hdst l) (zBf st.length x)) (st'++n::news) K):seqW P T ops dr l sl st K:=by
 obtain⟨o,r,fz,rfl,hl,he,rfl,g⟩:=zXl (dr:=dr) h hc;exact g (go_callN he hl (hp.le ha) rfl rfl k)
theorem st_callr{f:FuncId}(args:List D){x:D}(h:zJ9 P T ops l [] sl st=Ab ([],f,args,st))(hp:Pure P f args [] x)(k:seqW P T ops dr l.tail (putD sl (hdst l) x) st K):seqW P T ops dr l sl st K:=zSt [] [] args st args h trivial (LeL.refl _) hp k
theorem st_eE{b:Code}{Q Q':Exit->List D->List Bk->Prop}(dead:List Nat)(ch:List (Nat×D))(k:awp P T b Q (updS (zZ sl dead) ch) st)(h:(runL P T ops [] l [] sl st).map (λx=>(Alls x.1,zZ x.2.1 dead,x.2.2))=Ab (True,updS (zZ sl dead) ch,st):=by kernel_rfl):seqW P T ops dr l sl st (zW (zX P T b Q) Q' .normal):=st_end [] [] dead True ch st h trivial k
theorem st_rR(n:Nat)(ch:List (Nat×D))(k:seqW P T ops dr (l.drop n) (updS sl ch) st K)(h:(runL P T ops [] (l.take n) [] sl st).map (λx=>(Alls x.1,x.2.1,x.2.2))=Ab (True,updS sl ch,st):=by kernel_rfl):seqW P T ops dr l sl st K:=st_run n [] [] True ch st h trivial k
theorem st_cC{f:FuncId}(args:List D){x:D}(hp:Pure P f args [] x)(k:seqW P T ops dr l.tail (putD sl (hdst l) x) st K)(h:zJ9 P T ops l [] sl st=Ab ([],f,args,st):=by kernel_rfl):seqW P T ops dr l sl st K:=zSt [] [] args st args h trivial (LeL.refl _) hp k
def actL(P:Program)(T:Par)(ops:Array Oper)(dr:Bool)(l:List Oper)(gs:List (Nat×Bool))(sl:List D)(st:List Bk):Option (List Prop×FuncId×List D):=match l with
 |[]=>Ae
 | o::_=>match gdec ops o gs sl with
  | .go cs _ sl=>match aeff P T o.op o.type (evD sl) st with
   | .act f args=>if !zY T o.op&&(!dr||isE T o.op)then Ab (cs,f,args)else Ae
   |_=>Ae
  |_=>Ae
theorem zAx(gs:List (Nat×Bool))(cs:List Prop){f:FuncId}(args:List D){x:D}{st':List Bk}(args':List D)(ha:LeL args args')(hp:Acts P f args' st [] x st')(k:seqW P T ops dr l.tail (putD sl (hdst l) x) st' K)(h:actL P T ops dr l gs sl st=Ab (cs,f,args):=by kernel_rfl)(hc:Alls cs:=by exact trivial):seqW P T ops dr l sl st K:=by
 unfold actL at h;split at h
 ·cases h
 rename_i o r;split at h
 ·rename_i c1 g1 s1 hg;split at h
  ·rename_i f1 a1 he;split at h
   ·rename_i hl;simp only[AT.injEq,As.injEq]at h;obtain⟨rfl,rfl,rfl⟩:=h;obtain⟨rfl,g2⟩:=zFn (P:=P) (T:=T) hg hc;simp only[AD,Br,AW]at hl;exact g2 (go_act he hl.1 hl.2 (hp.le ha) rfl k)
   cases h
  cases h
 cases h
theorem zVr(k:K sl st)(e:l=[]):seqW P T ops dr l sl st K:=by subst e;exact k
def zW6(ops:Array Oper)(l:List Oper)(sl:List D):Option (Nat×Bool):=match l with
 |[]=>Ae
 | o::_=>match o.guard with
  |none=>Ae
  | some (j,_)=>match(ops[j]?).bind (·.dst)with
   |none=>Ae
   |some t=>match sl.getD t .unk with
    | .val (.bool b)=>Ab (t,b)
    |_=>Ae
theorem st_split(t:Nat)(b:Bool)(h:zW6 ops l sl=Ab (t,b))(k1:b=Aa->seqW P T ops dr l (sl.set t (.val (.bool Aa))) st K)(k2:b=Ac->seqW P T ops dr l (sl.set t (.val (.bool Ac))) st K):seqW P T ops dr l sl st K:=by
 unfold zW6 at h;(repeat' split at h)<;>try cases h
 rename_i hb;cases b<;>grind [zF0]
theorem zD1{K':List D->List Bk->Prop}(hK:∀sl st,K sl st->K' sl st):∀(l:List Oper)(sl:List D)(st:List Bk),seqW P T ops dr l sl st K->seqW P T ops dr l sl st K'
 |[],sl,st,h=>hK _ _ h
 | o::r,sl,st,h=>by
  have ih:=zD1 hK r;have go:goW P T ops dr o r sl st K->goW P T ops dr o r sl st K':=by
   unfold goW;grind
  cases hg:o.guard with
  |none=>
   simp only[seqW,hg]at h;exact zCt hg (go h)
  |some jw=>
   obtain⟨j,want⟩:=jw;simp only[seqW,hg]at h⊢;split at h
   ·exact⟨λe=>go (h.1 e),λe=>ih _ _ (h.2 e)⟩
   all_goals grind
end
theorem zQp{ops:Array Oper}{K K':List D->List Bk->Prop}(hK:∀sl st,K sl st->K' sl st):∀(its:List zJr)(sl:List D)(st:List Bk),seqI P T ops its sl st K->seqI P T ops its sl st K'
 |[],sl,st,h=>hK _ _ h
 |(e,c,l)::r,sl,st,h=>⟨h.1,zD1 (λsl st h2=>⟨h2.1,zD1 (λsl st h3=>zQp hK r sl st h3) _ _ _ h2.2⟩) _ _ _ h.2⟩
theorem zKn:∀(c:Code){Q Q':Exit->List D->List Bk->Prop}(hQ:∀e sl st,Q e sl st->Q' e sl st) (sl:List D) (st:List Bk),awp P T c Q sl st->awp P T c Q' sl st:=by
 intro c;induction c with
 |skip=>intro Q Q' hQ sl st h;exact hQ _ _ _ h
 | region id ops dr=>
  intro Q Q' hQ sl st h;simp only[awp]at h⊢;split
  ·rename_i hd;rw[if_pos hd]at h;rcases h with⟨o,h1,h2⟩|⟨l0,its,h1,h2⟩
   ·grind [zD1]
   exact .inr ⟨l0,its,h1,zD1 (λsl st h3=>zQp (hQ .normal) _ _ _ h3) _ _ _ h2⟩
  grind [zD1]
 |seq x y ihx ihy=>
  intro Q Q' hQ sl st h;simp only[awp]at h⊢;refine ihx (λe sl st hk=>?_) sl st h;cases e<;>simp only[zW]at hk⊢<;>first|exact hQ _ _ _ hk|skip
  grind
 |cond c x y ihx ihy=>
  intro Q Q' hQ sl st h;simp only[awp]at h⊢;grind
 |block id b ih=>
  intro Q Q' hQ sl st h;simp only[awp]at h⊢;refine ih (λe sl st hk=>?_) sl st h;cases e<;>simp only[zP]at hk⊢<;>first|exact hQ _ _ _ hk|skip
  grind
 |loop b ih=>
  intro Q Q' hQ sl st h;simp only[awp]at h⊢;intro X hX;refine h X λY sl st hY hb=>hX Y sl st hY (ih (λe sl st hk=>?_) sl st hb);cases e<;>simp only[zW]at hk⊢<;>first|exact hQ _ _ _ hk|exact hk
 |exit id=>intro Q Q' hQ sl st h;exact hQ _ _ _ h
 |label l=>intro Q Q' hQ sl st h;exact hQ _ _ _ h
 |ret=>intro Q Q' hQ sl st h;exact hQ _ _ _ h
 |_=>intro Q Q' hQ sl st h;exact h.elim
variable {Q : Exit → List D → List Bk → Prop} {sl : List D} {st : List Bk}
theorem zE9{c:Operand}{x y:Code}{t:Bool}(hc:evD sl c= .val (.bool t))(ht:t=Aa)(h:awp P T x Q sl st):awp P T (.cond c x y) Q sl st:=by simp_all [zAr,ht]
theorem zFb{c:Operand}{x y:Code}{t:Bool}(hc:evD sl c= .val (.bool t))(ht:t=Ac)(h:awp P T y Q sl st):awp P T (.cond c x y) Q sl st:=by simp_all [zAr,ht]
theorem cond_T{c:Operand}{x y:Code}(h:awp P T x Q sl st)(hc:evD sl c= .val (.bool Aa):=by kernel_rfl):awp P T (.cond c x y) Q sl st:=zE9 hc rfl h
theorem cond_F{c:Operand}{x y:Code}(h:awp P T y Q sl st)(hc:evD sl c= .val (.bool Ac):=by kernel_rfl):awp P T (.cond c x y) Q sl st:=zFb hc rfl h
def resL(P:Program)(sl:List D)(st:List Bk):List ResultVar->Option (List Prop×List D)
 |[]=>Ab ([],[])
 | .tmp t::rs=>(resL P sl st rs).map λx=>(x.1,sl.getD t .unk::x.2)
 |r::rs=>match zMt P sl st r with
  | .get p d=>(resL P sl st rs).map λx=>(p::x.1,d::x.2)
  |_=>Ae
theorem zSx:∀{rs:List ResultVar}{cs:List Prop}{ds:List D}{K:List D->Prop},resL P sl st rs=Ab (cs,ds)->Alls cs->K ds->retL P sl st rs K
 |[],cs,ds,K,h,hc,k=>by
  simp only[resL,AT.injEq,As.injEq]at h;obtain⟨_,rfl⟩:=h;exact k
 | r::rs,cs,ds,K,h,hc,k=>by
  have key:∀p d,zMt P sl st r= .get p d->(∃c1 d1,resL P sl st rs=Ab (c1,d1)/\(p/\Alls c1)/\ds=d::d1)->retL P sl st (r::rs) K:=by
   rintro p d e ⟨c1,d1,h1,⟨h2,h3⟩,rfl⟩;simp only[retL,e];exact⟨h2,zSx h1 h3 k⟩
  cases r with
  |tmp t=>
   simp only[resL,Ar,Prod.exists,As.injEq]at h;obtain⟨c1,d1,h1,rfl,rfl⟩:=h;exact key True _ rfl ⟨c1,d1,h1,⟨trivial,hc⟩,rfl⟩
  | cell a t=>
   simp only[resL]at h;split at h
   ·rename_i p d he;simp only[Ar,Prod.exists,As.injEq]at h;obtain⟨c1,d1,h1,rfl,rfl⟩:=h;exact key p d he ⟨c1,d1,h1,hc.cons,rfl⟩
   cases h
def retC(P:Program)(rs:List ResultVar)(sl:List D)(st:List Bk):Option (List Prop×D):=match resL P sl st rs with
 |none=>Ae
 |some (cs,ds)=>(frz Aa st zAu (oneD ds)).map λy=>(cs,y.1)
theorem zAy{rs:List ResultVar}{e:Exit}{x:D}(C:Prop)(y y':D)(he:e= .normal\/e= .ret)(hy:y=y')(hx:y'=x)(h:(retC P rs sl st).map (λx=>(Alls x.1,zFk x.2))=Ab (C,y):=by kernel_rfl)(hc:C:=by exact trivial):(e= .normal\/e= .ret)/\retL P sl st rs (λds=>∃y ks,frz Aa st zAu (oneD ds)=Ab (y,ks)/\LeD y x):=by
 subst hy;refine⟨he,?_⟩;rw[Ar]at h;obtain⟨⟨c,y0⟩,h,h0⟩:=h;simp only[As.injEq]at h0;obtain⟨rfl,rfl⟩:=h0;unfold retC at h;split at h
 ·cases h
 rename_i c1 ds h1;rw[Ar]at h;obtain⟨⟨y1,ks⟩,h2,h3⟩:=h;simp only[As.injEq]at h3;grind [zSx,nilRow_le]
theorem zAj{rs:List ResultVar}{e:Exit}{K:List D->Prop}(C:Prop)(ds:List D)(he:e= .normal\/e= .ret)(hk:K ds)(h:(resL P sl st rs).map (λx=>(Alls x.1,x.2))=Ab (C,ds):=by kernel_rfl)(hc:C:=by exact trivial):(e= .normal\/e= .ret)/\retL P sl st rs K:=by
 rw[Ar]at h;obtain⟨⟨c,y0⟩,h,h0⟩:=h;simp only[As.injEq]at h0;grind [zSx]
theorem zS{α:Type}{b0:Code}(S:α->List D)(B:α->List Bk)(μ:α->Nat)(J:α->Prop)(a₀:α)(h₀:J a₀)(hw:Weak T sl st (S a₀) (B a₀))
  (step:∀a,J a->awp P T b0 (zW (λsl' st'=>∃a',J a'/\μ a'<μ a/\Weak T sl' st' (S a') (B a')) Q) (S a) (B a)):awp P T (.loop b0) Q sl st:=by
 refine zKo (α:=α) (S) (B) (μ) (J) a₀ h₀ hw ?_;rintro a hj;refine zKn b0 (λe sl st hk=>?_) _ _<|step a hj;grind
theorem zAw{α:Type}{β:Type}{b0:Code}(S:α->β->List D)(B:α->β->List Bk)(μ:α->β->Nat)(J:α->β->Prop)(a₀:α)(b₀:β)(h₀:J a₀ b₀)(hw:Weak T sl st (S a₀ b₀) (B a₀ b₀))
  (step:∀a b,J a b->awp P T b0 (zW (λsl' st'=>∃a' b',J a' b'/\μ a' b'<μ a b/\Weak T sl' st' (S a' b') (B a' b')) Q) (S a b) (B a b)):awp P T (.loop b0) Q sl st:=by
 refine zKo (α:=α×β) (λx=>S x.1 x.2) (λx=>B x.1 x.2) (λx=>μ x.1 x.2) (λx=>J x.1 x.2) (a₀,b₀) h₀ hw ?_;rintro⟨a,b⟩ hj;refine zKn b0 (λe sl st hk=>?_) _ _<|step a b hj;simp_all
theorem zBh{α:Type}{β:Type}{γ:Type}{b0:Code}(S:α->β->γ->List D)(B:α->β->γ->List Bk)(μ:α->β->γ->Nat)(J:α->β->γ->Prop)(a₀:α)(b₀:β)(c₀:γ)(h₀:J a₀ b₀ c₀)(hw:Weak T sl st (S a₀ b₀ c₀) (B a₀ b₀ c₀))
  (step:∀a b c,J a b c->awp P T b0 (zW (λsl' st'=>∃a' b' c',J a' b' c'/\μ a' b' c'<μ a b c/\Weak T sl' st' (S a' b' c') (B a' b' c')) Q) (S a b c) (B a b c)):awp P T (.loop b0) Q sl st:=by
 refine zKo (α:=α×β×γ) (λx=>S x.1 x.2.1 x.2.2) (λx=>B x.1 x.2.1 x.2.2) (λx=>μ x.1 x.2.1 x.2.2) (λx=>J x.1 x.2.1 x.2.2) (a₀,b₀,c₀) h₀ hw ?_;rintro⟨a,b,c⟩ hj;refine zKn b0 (λe sl st hk=>?_) _ _<|step a b c hj;simp_all
theorem zSa{α:Type}{β:Type}{γ:Type}{δ:Type}{b0:Code}(S:α->β->γ->δ->List D)(B:α->β->γ->δ->List Bk)(μ:α->β->γ->δ->Nat)(J:α->β->γ->δ->Prop)(a₀:α)(b₀:β)(c₀:γ)(d₀:δ)(h₀:J a₀ b₀ c₀ d₀)(hw:Weak T sl st (S a₀ b₀ c₀ d₀) (B a₀ b₀ c₀ d₀))
  (step:∀a b c d,J a b c d->awp P T b0 (zW (λsl' st'=>∃a' b' c' d',J a' b' c' d'/\μ a' b' c' d'<μ a b c d/\Weak T sl' st' (S a' b' c' d') (B a' b' c' d')) Q) (S a b c d) (B a b c d)):awp P T (.loop b0) Q sl st:=by
 refine zKo (α:=α×β×γ×δ) (λx=>S x.1 x.2.1 x.2.2.1 x.2.2.2) (λx=>B x.1 x.2.1 x.2.2.1 x.2.2.2) (λx=>μ x.1 x.2.1 x.2.2.1 x.2.2.2) (λx=>J x.1 x.2.1 x.2.2.1 x.2.2.2) (a₀,b₀,c₀,d₀) h₀ hw ?_;rintro⟨a,b,c,d⟩ hj;refine zKn b0 (λe sl st hk=>?_) _ _<|step a b c d hj;simp_all
theorem Weak.all{sl':List D}{st':List Bk}(m:Nat)(bs:List Bk)(hl:LeL sl sl')(hn:zJw sl' st m st.length=Aa)(hk:∀k,m<=k->T.keep k=Ac)(e:st.take m++bs=st'):Weak T sl st sl' st':=by
 subst e;exact((Weak.slots hl).trans (Weak.cut m hn hk)).trans (Weak.more bs)
def assocN(hs:List (Nat×Nat))(i:Nat):Nat:=match hs with
 |[]=>0
 |(j,h)::r=>if i==j then h else assocN r i
def le1(h:Nat)(d d':D):List Prop:=match h with
 |0=>match d' with
  | .unk=>[]
  |_=>[False]
 |1=>[d=d']
 |2=>match d,d' with
  | .val (.slice Ae 0 0), .osl _ 0 0 0 _=>[]
  |_,_=>[False]
 |3=>match d,d' with
  | .val (.slice Ae 0 0), .row [] 0=>[]
  |_,_=>[False]
 |4=>match d with
  | .fx e=>[e=d']
  |_=>[False]
 |_=>[False]
def leC:Nat->List D->List D->List (Nat×Nat)->List Prop
 |_,[],[],_=>[]
 |i,d::ds,d'::ds',hs=>le1 (assocN hs i) d d'++leC (i+1) ds ds' hs
 |_,_,_,_=>[False]
theorem LeD.fx(d:D):LeD (.fx d) d:=λI w β v h=>by
 simp only[Rel]at h;exact Rel.no h.2
theorem leC_ok{hs:List (Nat×Nat)}:∀{i:Nat}{sl sl':List D},Alls (leC i sl sl' hs)->LeL sl sl'
 |i,[],[],_=> .nil
 |i,[],_::_,h=>h.elim
 |i,_::_,[],h=>h.elim
 | i,d::ds,d'::ds',h=>by
  simp only[leC]at h;obtain⟨h1,h2⟩:=Alls.app h;refine .cons ?_ (leC_ok h2);unfold le1 at h1;split at h1
  ·split at h1
   ·exact .unk _
   exact h1.elim
  ·exact .eq h1
  ·split at h1
   ·exact .nil _ _
   exact h1.elim
  ·split at h1
   ·exact .nil_row
   exact h1.elim
  ·split at h1
   ·rename_i e;have h3:e=d':=h1;subst h3;exact LeD.fx _
   exact h1.elim
  exact h1.elim
theorem zGz{sl':List D}{st':List Bk}(hs:List (Nat×Nat))(C:Prop)(m:Nat)(bs:List Bk)(h:Alls (leC 0 sl sl' hs)=C)(hc:C)(hn:zJw sl' st m st.length=Aa)(hk:∀k,m<=k->T.keep k=Ac)(e:st.take m++bs=st'):Weak T sl st sl' st':=by
 subst h;exact Weak.all m bs (leC_ok hc) hn hk e
end
section
variable {P : Program} {T : Par} {ops : Array Oper} {dr : Bool} {l : List Oper} {sl : List D} {st : List Bk} {K : List D → List Bk → Prop}
theorem zH6(gs:List (Nat×Bool))(cs:List Prop){f:FuncId}(args:List D){x:D}{st':List Bk}{ch:List Nat}(args':List D)(h:actL P T ops dr l gs sl st=Ab (cs,f,args))(hc:Alls cs)(ha:LeL args args')(hp:Acts P f args' st ch x st')(hk:ch.all (λk=>!T.keep k)=Aa)(k:seqW P T ops dr l.tail (putD (sl.map (zCm ch)) (hdst l) x) st' K):seqW P T ops dr l sl st K:=by
 unfold actL at h;split at h
 ·cases h
 rename_i o r;split at h
 ·rename_i c1 g1 s1 hg;split at h
  ·rename_i f1 a1 he;split at h
   ·rename_i hl;simp only[AT.injEq,As.injEq]at h;obtain⟨rfl,rfl,rfl⟩:=h;obtain⟨rfl,g2⟩:=zFn (P:=P) (T:=T) hg hc;simp only[AD,Br,AW]at hl;refine g2 ?_;simp only[goW,he];exact⟨hl.1,hl.2,ch,x,st',⟨hp.le ha,λk hk'=>by simpa using AN.1 hk k hk'⟩,k⟩
   cases h
  cases h
 cases h
def updB(st:List Bk)(ups:List (Nat×Bk))(news:List Bk):List Bk:=ups.foldl (λs p=>s.set p.1 p.2) st++news
theorem Acts.cut{f:FuncId}{args:List D}{s:List Bk}{x:D}{ch:List Nat}(m:Nat)(h:Acts P f args st ch x s)(hm:st.length<=m)(hn:zJw [x] s m s.length=Aa):Acts P f args st ch x (s.take m):=by
 intro β I w vs hr hsr hinj hfz hdom hi hg;refine(h β I w vs hr hsr hinj hfz hdom hi hg).mono ?_;rintro e w' ⟨v,β',I',rfl,p1,p2,p3,p4,p5,p6,p7,p8⟩;have hs:Sim β' I' w' [x] s [v]:=⟨by simp only[RelT];exact⟨v,[],rfl,p8,rfl⟩,p4,p5,p6,p7,p1,hg.mono p2.fix⟩;obtain⟨β2,I2,s2,t2,k2⟩:=Weak.cut (T:=⟨λ_=>Ac,λ_ _=>Ae,λk=>decide (k<m),λ_=>Ac,λ_=>Ac⟩) m hn (λk hk=>by simp;omega) β' I' w' _ hs;have hx:=s2.rel;simp only[RelT]at hx;obtain⟨v2,us,hv,hx,_⟩:=hx;simp only[List.cons.injEq]at hv;obtain⟨rfl,_⟩:=hv;refine⟨v,β2,I2,rfl,s2.imb,p2.trans t2,λk y hk hb=>k2 k y (by have:=hdom k y hb;simp;omega) (p3 k y hk hb),s2.sr,s2.inj,s2.fz,s2.dom,hx⟩
end
theorem zAb{α β:Type}{f:α->β}{l:List α}(h:0<l.length:=by omega):l.map f≠[]:=by grind [List.map_eq_nil_iff]
theorem zA2{α:Type}(f:α->D)(l:List α)(d0:α)(k:Nat)(h:k<l.length):((l.map f).drop k).headD .unk=f (l.getD k d0):=by
 simp_all
abbrev dig(x:Nat):D:= .val (.int .u32 x)
abbrev digR(l:List Nat):D:= .row (l.map dig) l.length
def dg(n:Nat):List Nat:=if h:n=0 then[]else n%4294967296::dg (n/4294967296)
 decreasing_by omega
def cmpD(a b:Int):Int:=if a<b then-1 else if b<a then 1 else 0
abbrev natD(n:Nat):D:=digR (dg n)
end
section
open Go.ChangeShapes Go.WideShapes Go.ChangeAt Go.RowKit
section
variable {H : Type} {enc : TypeId × Value → H} {P : Program}
theorem zKv(hl:laidOutB P=Aa){W W':World}(hb:Ext W W'):∀{ts:List TypeId}{vs:List Value}{ds:List (DataW H)}{ps:List MemPlace}(sp:Nat->Bool),
  ts.all (λt=>P.readableRec t&&decide (t<P.types.size))=Aa->DataW.TrodAll enc P W 0 (λ_=>Aa) Aa ts vs ds ps->(∀p∈ps,p.block<W.heap.size)->(∀p∈ps,sp p.block=Aa)->DataW.TrodAll enc P W' 0 sp Aa ts vs ds ps
 |[],[],[],ps,sp,_,h,_,_=>h
 |t::ts,v::vs,d::ds,ps,sp,hr,⟨p,q,h1,h2,h3⟩,hlt,hsp=>by
  subst h3;simp only[List.all_cons,AD,decide_eq_true_eq]at hr;refine⟨p,q,WideElems.Trod_stays hl hr.1.1 hr.1.2 h1 (λx hx=>Below.same hb.1 (hlt x (B7 _ hx))) (λx hx=>hsp x (B7 _ hx)),?_,rfl⟩;exact zKv hl hb sp hr.2 h2 (λx hx=>hlt x (B8 _ hx)) (λx hx=>hsp x (B8 _ hx))
 |[],_::_,_,_,_,_,h,_,_=>h.elim
 |[],[],_::_,_,_,_,h,_,_=>h.elim
 |_::_,[],_,_,_,_,h,_,_=>h.elim
 |_::_,_::_,[],_,_,_,h,_,_=>h.elim
theorem post_true{f:Func}{s:ChangeSpec}{W W':World}{args:Array Value}{ds:List (DataW H)}{before:List MemPlace}{bt:TypeId}
  (hl:laidOutB P=Aa)(hv:s.vars=[])(hrt:f.resultTypes=#[bt])(hbt:P.underlying bt=Ab .bool)
  (hr:f.params.toList.all (λt=>P.readableRec t&&decide (t<P.types.size))=Aa)
  (hfn:s.fn H ds={results:=[.lit (.bool Aa)],args:=ds})
  (hW:DataW.Whole enc P f.params.toList s.vars Ac W args.toList ds [] before)(hx:Ext W W'):
  s.post enc P f Ac Aa Ac Ac W args (.bool Aa) W':=by
 have hlt:∀p∈before,p.block<W.heap.size:=λp hp=>hW.lt p hp;obtain⟨p,q,hA,hV,hpq,hz,hn⟩:=id hW;rw[hv]at hV;have hq:q=[]:=hV;subst hq;rw[Cb]at hpq;subst hpq;have hfn':s.fn H (ds++[])={results:=[.lit (.bool Aa)],args:=ds}:=by rw[Cb];exact hfn
 have hstay:∀sp:Nat->Bool,(∀x∈before,sp x.block=Aa)->DataW.TrodAll enc P W' 0 sp Aa f.params.toList args.toList ds before:=λsp hsp=>zKv hl hx sp hr hA hlt hsp;have hres:∀(b:Nat)(sp:Nat->Bool)(hd:Bool),DataW.TrodAll enc P W' b sp hd f.resultTypes.toList ((AO Aa).resultList f.resultTypes.size) [.lit (.bool Aa)] []:=by
  intro b sp hd;rw[hrt];exact⟨[],[],shut_bool hbt Aa,rfl,rfl⟩
 have hvars:∀sp:Nat->Bool,DataW.TrodVars enc P W' sp s.vars ([]:List (DataW H)) []:=λsp=>by rw[hv];exact rfl
 refine⟨ds,[],before,[],before,[],hW,by rw[hfn'];exact hres _ _ _,by rw[hfn'];exact hstay _ (λx hx=>by simpa using hlt x hx),by rw[hfn'];exact hvars _,World.keptBut_mono (λx hx=>⟨hx,Or.inr (by simpa using hx)⟩) (Below.frame hx.1 (· ∈before)),λ_=>?_⟩;grind
end
end
section
open Go.ChangeShapes Go.WideShapes Go.ChangeAt Go.RowKit
def allI(w:World):Im:=λb _=>b<w.heap.size
def ShpB(P:Program)(B:Nat):Nat->TypeId->List D->Prop
 |0,_,_=>False
 |n+1,t,ds=>match P.underlying t with
  |some .bool=>∃b,ds=[.val (.bool b)]
  |some (.int k)=>∃z,ds=[.val (.int k z)]/\(Lit.int k z).wf=Aa
  |some .string=>∃s,ds=[.val (.string s)]/\s.size<=B
  |some (.slice e)=>∃ls:List (List D),ds=[.row ls.flatten ls.length]/\(∀x∈ls,ShpB P B n e x/\x.length=P.cellsOf e)/\ls.length<=B
  |some (.struct fs)=>ds.length=P.cellsOf t/\∀f∈fs.toList,ShpB P B n f.type ((ds.drop f.offset).take (P.cellsOf f.type))
  |some (.array m e)=>ds.length=P.cellsOf t/\∀i,i<m->ShpB P B n e ((ds.drop (i*P.cellsOf e)).take (P.cellsOf e))
  |_=>False
section
variable {H : Type} {enc : TypeId × Value → H} {P : Program} {w : World}
theorem zHg{α β:Type}{f:α->Option β}:∀{l:List α}{r:List β},l.mapM f=Ab r->r.length=l.length/\∀(i:Nat) x,l[i]?=Ab x->∃y,f x=Ab y/\y∈r
 |[],r,h=>by simp at h;subst h;exact⟨rfl,by simp⟩
 | a::l,r,h=>by
  rw[List.mapM_cons]at h;cases ha:f a with
  |none=>simp[ha]at h
  | some b=>
   cases hl:l.mapM f with
   |none=>simp[ha,hl]at h
   |some bs=>
    simp[ha,hl]at h;subst h;obtain⟨h1,h2⟩:=zHg hl;grind
theorem RelC.append{I:Im}{b:Nat}:∀{x y:List D}{o:Nat},RelC I w x b o->RelC I w y b (o+x.length)->RelC I w (x++y) b o
 |[],y,o,h,k=>by simpa using k
 |d::x,y,o,h,k=>by
  simp only[BJ,RelC]at h⊢;refine⟨h.1,h.2.append ?_⟩;grind
theorem zJt{I:Im}{b sz:Nat}:∀(ls:List (List D))(o:Nat),(∀j x,ls[j]?=Ab x->RelC I w x b (o+j*sz)/\x.length=sz)->RelC I w ls.flatten b o
 |[],o,h=>by simp only[List.flatten_nil,RelC]
 |x::ls,o,h=>by
  rw[BK];have h0:=h 0 x rfl;refine RelC.append (by simpa using h0.1) (zJt (sz:=sz) ls _ λj y hy=>?_)
  have:=h (j+1) y (by simpa using hy)
  grind
theorem zNz{b o n:Nat}{cs:List Value}{ds:List D}(h:RelL (allI w) w noB ds cs)(hc:∀j v,cs[j]?=Ab v->w.cell? ⟨b,o+j,Ae⟩=Ab v):RelC (allI w) w ds b o:=
 RelC.of_get λi d hd=>by
  obtain⟨v,k1,k2,k3⟩:=h.get i d hd;have hv:=hc i v k1;exact⟨World.block_lt_of_cell? w _ hv,v,hv,k2,k3⟩
def zFr(P:Program)(total:Nat):List Field->Nat->Bool
 |[],off=>off==total
 |f::r,off=>f.offset==off&&zFr P total r (off+P.cellsOf f.type)
theorem zRz{total:Nat}:∀{fs:List Field}{off:Nat},zFr P total fs off=Aa->off<=total
 |[],off,h=>by simp[zFr]at h;omega
 |f::r,off,h=>by
  simp only[zFr,AD,beq_iff_eq]at h
  have:=zRz h.2
  omega
theorem zR0{total:Nat}:∀{fs:List Field}{off:Nat},zFr P total fs off=Aa->∀f∈fs,off<=f.offset
 |[],off,h,f,hf=>by cases hf
 |g::r,off,h,f,hf=>by
  simp only[zFr,AD,beq_iff_eq]at h;rcases AH.1 hf with rfl|hf
  ·omega
  have:=zR0 h.2 f hf;omega
theorem zNa{total:Nat}{cs:List Value}(hl:cs.length=total){S:TypeId->List D->Prop}:∀(fs:List Field)(off:Nat),zFr P total fs off=Aa->(∀f∈fs,∃ds,RelL (allI w) w noB ds ((cs.drop f.offset).take (P.cellsOf f.type))/\S f.type ds)->
  ∃ds,RelL (allI w) w noB ds (cs.drop off)/\∀f∈fs,S f.type ((ds.drop (f.offset-off)).take (P.cellsOf f.type))
 |[],off,hc,h=>by
  simp only[zFr,beq_iff_eq]at hc;exact⟨[],by rw[Cc (by omega)];simp only[RelL],by simp⟩
 | f::r,off,hc,h=>by
  simp only[zFr,AD,beq_iff_eq]at hc;obtain⟨df,h1,h2⟩:=h f (AG ..);obtain⟨dr,h3,h4⟩:=zNa hl r _ hc.2 (λg hg=>h g (AF _ hg));have hle:=zRz hc.2;have hlen:df.length=P.cellsOf f.type:=by
   rw[h1.length,Bi,BL,hc.1];omega
  refine⟨df++dr,?_,λg hg=>?_⟩
  ·have:=h1.append h3
   grind [Cd,Bs]
  rcases AH.1 hg with rfl|hg
  ·simp_all
  have hge:=zR0 hc.2 g hg;grind [List.drop_append,Cc]
theorem zRi{sz:Nat}{S:List D->Prop}:∀(m:Nat)(cs:List Value),cs.length=m*sz->(∀i,i<m->∃ds,RelL (allI w) w noB ds ((cs.drop (i*sz)).take sz)/\S ds)->
  ∃ds,RelL (allI w) w noB ds cs/\∀i,i<m->S ((ds.drop (i*sz)).take sz)
 |0,cs,hl,h=>by
  obtain rfl:cs=[]:=A0 (by simpa using hl);exact⟨[],by simp only[RelL],by simp⟩
 | m+1,cs,hl,h=>by
  obtain⟨d0,h1,h2⟩:=h 0 (by omega);rw[Nat.zero_mul,BM]at h1;rw[Bt]at hl;have hlen:d0.length=sz:=by rw[h1.length,Bi];omega
  obtain⟨dr,h3,h4⟩:=zRi (sz:=sz) (S:=S) m (cs.drop sz) (by rw[BL];omega) (λi hi=>by
   obtain⟨ds,k1,k2⟩:=h (i+1) (by omega);refine⟨ds,?_,k2⟩;rw[Cd,show sz+i*sz=(i+1)*sz by rw[Bt];omega];exact k1)
  refine⟨d0++dr,?_,λi hi=>?_⟩
  ·have:=h1.append h3
   simp_all
  cases i with
  |zero=>
   grind
  |succ i=>
   have:=h4 i (by omega)
   rw[Bt,List.drop_append,Cc (l:=d0) (by omega),Ce,show i*sz+sz-d0.length=i*sz by omega];exact this
def okT(P:Program):Nat->TypeId->Bool
 |0,_=>Aa
 |n+1,t=>match P.underlying t with
  |some .bool|some (.int _)|some .string=>Aa
  |some (.slice e)=>decide (0<P.cellsOf e)&&okT P n e
  |some (.struct fs)=>zFr P (P.cellsOf t) fs.toList 0&&fs.toList.all (λf=>okT P n f.type)
  |some (.array m e)=>P.cellsOf t==m*P.cellsOf e&&okT P n e
  |_=>Ac
section
variable {B : Nat} {Q : DataW H → Prop} (hQ : ∀ e s, Q (.slice e s) → (e.length ≤ maxLen → e.length ≤ B) ∧ ∀ x ∈ e, Q x) (hA : ∀ p, Q (.agg p) → ∀ x ∈ p, Q x) (hS : ∀ l, Q (.lit (.string l)) → l.length ≤ maxLen → l.length ≤ B)
include hQ hA hS
theorem zVn:∀(fuel:Nat)(t:TypeId)(cs:List Value)(d:DataW H)(ps:List MemPlace),DataW.trod enc P w 0 (λ_=>Aa) Aa fuel t cs=Ab (d,ps)->Q d->okT P fuel t=Aa->∃ds,RelL (allI w) w noB ds cs/\ShpB P B fuel t ds
 |0,t,cs,d,ps,h,hq,hk=>by cases h
 | n + 1,t,cs,d,ps,h,hq,hk=>by
  have ih:=zVn n;simp only[DataW.trod]at h;split at h;case h_1=>
   rename_i b hu;exact⟨[.val (.bool b)],by simp only[RelL,Rel];exact⟨_,_,rfl,rfl,rfl,rfl⟩,by simp[ShpB,hu]⟩
  case h_2=>
   rename_i k k' z hu;split at h
   ·rename_i hc;obtain⟨rfl,hw⟩:=hc;exact⟨[.val (.int k' z)],by simp only[RelL,Rel];exact⟨_,_,rfl,rfl,rfl,rfl⟩,by simp[ShpB,hu,hw]⟩
   cases h
  case h_4=>
   rename_i z hu;split at h
   ·rename_i hc;have hz:z.size<=B:=hS _ ((As.inj (AT.inj h)).1▸hq) hc;exact⟨[.val (.string z)],by simp only[RelL,Rel];exact⟨_,_,rfl,rfl,rfl,rfl⟩,by simp[ShpB,hu,hz]⟩
   cases h
  case h_7=>
   rename_i e hu;exact⟨[.row [] 0],by simp only[RelL,Rel];exact⟨_,_,rfl,rfl,⟨Ae,0,rfl,Ak _,by decide,λ_=>rfl, .inl trivial⟩,rfl⟩,by simp only[ShpB,hu];exact⟨[],rfl,by simp,A1 _⟩⟩
  case h_8=>
   rename_i e a len cap hu;simp only[okT,hu,AD,decide_eq_true_eq]at hk;split at h
   ·rename_i hc;cases hm:(Az len).mapM (λi=>(w.cells? 0 (a.add (i*P.cellsOf e)) (P.cellsOf e)).bind (DataW.trod enc P w 0 (λ_=>Aa) Aa n e))with
    |none=>simp[hm]at h
    | some es=>
     obtain⟨h1,h2⟩:=zHg hm;obtain⟨rest,rfl⟩:∃rest,d= .slice (es.map (·.1)) rest:=by
      simp[hm]at h;obtain⟨rest,_,h3,_⟩:=h;exact⟨_,h3.symm⟩
     obtain⟨hq1,hq2⟩:=hQ _ _ hq;have hB:len<=B:=by
      rw[AX,h1,List.length_range]at hq1;exact hq1 (by omega)
     have key:∀i,i<len->∃ds cs,RelL (allI w) w noB ds cs/\ShpB P B n e ds/\w.cells? 0 (a.add (i*P.cellsOf e)) (P.cellsOf e)=Ab cs:=by
      intro i hi;obtain⟨y,hy,hmem⟩:=h2 i i (Bu hi);rw[Option.bind_eq_some_iff]at hy;obtain⟨cs,k1,k2⟩:=hy;obtain⟨ds,k3,k4⟩:=ih e cs y.1 y.2 k2 (hq2 _ (AR.2 ⟨y,hmem,rfl⟩)) hk.2;exact⟨ds,cs,k3,k4,k1⟩
     have hsp:0<len->a.spot=none:=by
      intro h0;obtain⟨ds,cs,k1,k2,k3⟩:=key 0 h0;obtain⟨_,hl,hcell⟩:=Cf k3
      have:=hcell 0 (by omega)
      have h5:∃v,w.cell? ((a.add (0*P.cellsOf e)).add 0)=Ab v:=by
       rw[this];exact⟨cs[0]'(by omega),by simp⟩
      obtain⟨v,hv⟩:=h5
      have:=World.cell?_spot hv
      simpa[Addr.add]using this
     have hls:∃ls:List (List D),ls.length=len/\∀j x,ls[j]?=Ab x->∃cs,RelL (allI w) w noB x cs/\ShpB P B n e x/\w.cells? 0 (a.add (j*P.cellsOf e)) (P.cellsOf e)=Ab cs:=by
      refine⟨(Az len).map (λi=>if hi:i<len then Classical.choose (key i hi)else[]),by simp,λj x hx=>?_⟩;rw[Bj,Ar]at hx;obtain⟨j',hj,rfl⟩:=hx;have hjl:j<len:=by have:=(AZ.1 hj).1;simpa using this
      rw[Bu hjl]at hj;cases hj;rw[dif_pos hjl];exact Classical.choose_spec (key j hjl)
     obtain⟨ls,hl1,hl2⟩:=hls;have hlen:∀(j:Nat)(x:List D),ls[j]?=Ab x->x.length=P.cellsOf e:=by
      intro j x hx;obtain⟨cs,k1,k2,k3⟩:=hl2 j x hx;rw[k1.length];exact(Cf k3).2.1
     refine⟨[.row ls.flatten ls.length],?_,?_⟩
     ·simp only[RelL,Rel];refine⟨_,_,rfl,rfl,⟨Ab a,cap,by rw[hl1],by omega,hc.2.2,(λh=>by cases h),?_⟩,rfl⟩;rcases Bv len with h0|h0
      ·left;obtain rfl:ls=[]:=A0 (by omega);rfl
      right;obtain⟨b,o,sp⟩:=a;obtain rfl:sp=none:=hsp h0;refine⟨b,o,rfl,zJt (sz:=P.cellsOf e) ls o λj x hx=>⟨?_,hlen j x hx⟩⟩;obtain⟨cs,k1,k2,k3⟩:=hl2 j x hx;obtain⟨_,k4,k5⟩:=Cf k3;refine zNz (n:=0) k1 λi v hv=>?_;have hi:i<P.cellsOf e:=by have:=(AZ.1 hv).1;omega
      have:=k5 i hi
      rw[hv]at this;rw[add_plain,add_plain]at this;exact this
     simp only[ShpB,hu];refine⟨ls,rfl,λx hx=>?_,by omega⟩;obtain⟨j,hj⟩:=List.getElem?_of_mem hx;obtain⟨cs,k1,k2,k3⟩:=hl2 j x hj;exact⟨k2,hlen j x hj⟩
   cases h
  case h_9=>
   rename_i fs hu;simp only[okT,hu,AD]at hk;split at h
   ·rename_i hl;rw[Ar]at h;obtain⟨xs,hm,hd⟩:=h;obtain⟨_,h2⟩:=zHg hm;obtain⟨rfl,_⟩:=As.injEq ..▸hd;have hq2:=hA _ hq;obtain⟨ds,k1,k2⟩:=zNa (P:=P) (S:=ShpB P B n) hl fs.toList 0 hk.1 (λf hf=>by
     obtain⟨j,hj⟩:=List.getElem?_of_mem hf;obtain⟨y,hy,hmem⟩:=h2 j f hj;exact ih _ _ y.1 y.2 hy (hq2 _ (AR.2 ⟨y,hmem,rfl⟩)) (AN.1 hk.2 f hf))
    rw[BM]at k1;exact⟨ds,k1,by simp only[ShpB,hu];exact⟨by rw[k1.length];exact hl,λf hf=>by simpa using k2 f hf⟩⟩
   cases h
  case h_10=>
   rename_i m e hu;simp only[okT,hu,AD,beq_iff_eq]at hk;split at h
   ·rename_i hl;rw[Ar]at h;obtain⟨xs,hm,hd⟩:=h;obtain⟨_,h2⟩:=zHg hm;obtain⟨rfl,_⟩:=As.injEq ..▸hd;have hq2:=hA _ hq;obtain⟨ds,k1,k2⟩:=zRi (sz:=P.cellsOf e) (S:=ShpB P B n e) m _ (by rw[hl,hk.1]) (λi hi=>by
     obtain⟨y,hy,hmem⟩:=h2 i i (Bu hi);exact ih _ _ y.1 y.2 hy (hq2 _ (AR.2 ⟨y,hmem,rfl⟩)) hk.2)
    exact⟨ds,k1,by simp only[ShpB,hu];exact⟨by rw[k1.length];exact hl,k2⟩⟩
   cases h
  all_goals (exfalso;simp_all [okT])
end
end
end
section
open Go.ChangeShapes Go.WideShapes Go.ChangeAt Go.RowKit
def okS(P:Program):Nat->TypeId->Bool
 |0,_=>Ac
 |n+1,t=>match P.underlying t with
  |some .bool|some (.int _)|some .string=>Aa
  |some (.slice e)=>decide (0<P.cellsOf e)&&okS P n e
  |some (.struct fs)=>zFr P (P.cellsOf t) fs.toList 0&&fs.toList.all (λf=>okS P n f.type)
  |some (.array m e)=>P.cellsOf t==m*P.cellsOf e&&okS P n e
  |_=>Ac
theorem zN6{P:Program}:∀{k:Nat}{t:TypeId},okS P k t=Aa->∀n,okT P n t=Aa
 |0,t,h,n=>by cases h
 |k+1,t,h,0=>rfl
 | k+1,t,h,n+1=>by
  simp only[okS]at h;simp only[okT];split at h<;>rename_i hu<;>(try simp only[hu])<;>try trivial
  ·simp only[AD]at h⊢;exact⟨h.1,zN6 h.2 n⟩
  ·simp only[AD,AN]at h⊢;exact⟨h.1,λf hf=>zN6 (h.2 f hf) n⟩
  simp only[AD]at h⊢;exact⟨h.1,zN6 h.2 n⟩
section
variable {P : Program} {B n : Nat} {t : TypeId} {ds : List D}
theorem shp_bool(hu:P.underlying t=Ab .bool)(h:ShpB P B n t ds):∃b,ds=[.val (.bool b)]:=by
 cases n with
 |zero=>exact h.elim
 |succ n=>simpa only[ShpB,hu]using h
theorem zH8{k:IntKind}(hu:P.underlying t=Ab (.int k))(h:ShpB P B n t ds):∃z,ds=[.val (.int k z)]/\inK k z:=by
 cases n with
 |zero=>exact h.elim
 |succ n=>
  simp only[ShpB,hu]at h;obtain⟨z,h1,h2⟩:=h;refine⟨z,h1,?_⟩;cases k<;>simpa[Lit.wf,IntKind.min,IntKind.max,B_,B9,inK]using h2
theorem zX2(hu:P.underlying t=Ab .string)(h:ShpB P B n t ds):∃s,ds=[.val (.string s)]/\s.size<=B:=by
 cases n with
 |zero=>exact h.elim
 |succ n=>simpa only[ShpB,hu]using h
theorem zDz{e:TypeId}(hu:P.underlying t=Ab (.slice e))(h:ShpB P B n t ds):∃m,∃ls:List (List D),ds=[.row ls.flatten ls.length]/\(∀x∈ls,ShpB P B m e x)/\ls.length<=B:=by
 cases n with
 |zero=>exact h.elim
 |succ n=>
  simp only[ShpB,hu]at h;obtain⟨ls,h1,h2,h3⟩:=h;exact⟨n,ls,h1,λx hx=>(h2 x hx).1,h3⟩
theorem zMq{fs:Array Field}(hu:P.underlying t=Ab (.struct fs))(h:ShpB P B n t ds):ds.length=P.cellsOf t/\∃m,∀f∈fs.toList,ShpB P B m f.type ((ds.drop f.offset).take (P.cellsOf f.type)):=by
 cases n with
 |zero=>exact h.elim
 |succ n=>
  simp only[ShpB,hu]at h;exact⟨h.1,n,h.2⟩
theorem zD8{β:Type}{g:β->D}{Q:β->Prop}:∀{ls:List (List D)},(∀x∈ls,∃b,x=[g b]/\Q b)->∃bs:List β,ls.flatten=bs.map g/\bs.length=ls.length/\∀b∈bs,Q b
 |[],h=>⟨[],rfl,rfl,by simp⟩
 |x::ls,h=>by
  obtain⟨b,rfl,hb⟩:=h x (AG ..);obtain⟨bs,h1,h2,h3⟩:=zD8 λy hy=>h y (AF _ hy);refine⟨b::bs,by simp[h1],by simp[h2],λc hc=>?_⟩;grind
theorem zRg{β:Type}{g:β->List D}{Q:β->Prop}:∀{ls:List (List D)},(∀x∈ls,∃b,x=g b/\Q b)->∃bs:List β,ls.flatten=(bs.map g).flatten/\bs.length=ls.length/\∀b∈bs,Q b
 |[],h=>⟨[],rfl,rfl,by simp⟩
 |x::ls,h=>by
  obtain⟨b,rfl,hb⟩:=h x (AG ..);obtain⟨bs,h1,h2,h3⟩:=zRg λy hy=>h y (AF _ hy);refine⟨b::bs,by simp[h1],by simp[h2],λc hc=>?_⟩;grind
end
theorem zQ7{P:Program}{w:World}{r:Reach}{base:Nat}{t:TypeId}{v:Value}{k:Nat}{e:TypeId}(ht:P.underlying t=Ab (.array k e))(h:Bw P w r base t v):∃cs,v= .agg cs/\cs.size=P.cellsOf t:=by
 simp only[Bw,ht]at h;grind
def ArgB(P:Program)(B:Nat)(t:TypeId)(d:D):Prop:=∃n,if zDw P t then∃ds,d= .agg ds/\ShpB P B n t ds else ShpB P B n t [d]
section
variable {H : Type} {enc : TypeId × Value → H} {P : Program} {W : World} {B : Nat} {Q : DataW H → Prop} (hQ : ∀ e s, Q (.slice e s) → (e.length ≤ maxLen → e.length ≤ B) ∧ ∀ x ∈ e, Q x) (hA : ∀ p, Q (.agg p) → ∀ x ∈ p, Q x) (hS : ∀ l, Q (.lit (.string l)) → l.length ≤ maxLen → l.length ≤ B)
section
include hQ hA hS
theorem arg_rel{r:Reach}{b:Nat}{t:TypeId}{v:Value}{d:DataW H}{ps:List MemPlace}(hval:Bw P W r b t v)(h:DataW.Trod enc P W 0 (λ_=>Aa) Aa t v d ps)(hq:Q d){k:Nat}(hk:okS P k t=Aa):
  ∃x,Rel (allI W) W noB x v/\ArgB P B t x:=by
 obtain⟨fuel,hf⟩:=h;obtain⟨ds,k1,k2⟩:=zVn hQ hA hS fuel t _ _ _ hf hq (zN6 hk fuel);have one:v.cells=#[v]->zDw P t=Ac->∃x,Rel (allI W) W noB x v/\ArgB P B t x:=by
  intro hc ha;rw[hc]at k1;have hl:=k1.length;match ds,hl with
  |[x],_=>
   simp only[RelL]at k1;obtain⟨u,us,e,_,k3,k4⟩:=k1;simp only[List.cons.injEq]at e;obtain⟨rfl,rfl⟩:=e;exact⟨x,k3,fuel,by rw[if_neg (by simp[ha])];exact k2⟩
 have many:(∃cs,v= .agg cs)->zDw P t=Aa->∃x,Rel (allI W) W noB x v/\ArgB P B t x:=by
  rintro⟨cs,rfl⟩ ha;refine⟨.agg ds,?_,fuel,by rw[if_pos ha];exact⟨ds,rfl,k2⟩⟩;simp only[Rel];exact⟨cs.toList,by simp,by simpa[Value.cells]using k1⟩
 cases k with
 |zero=>cases hk
 | succ k=>
  simp only[okS]at hk;split at hk<;>rename_i hu
  ·obtain⟨b,rfl⟩:=okWide_bool hu hval;exact one rfl (by simp[zDw,hu])
  ·obtain⟨b,rfl⟩:=okWide_int hu hval;exact one rfl (by simp[zDw,hu])
  ·obtain⟨b,rfl⟩:=okWide_string hu hval;exact one rfl (by simp[zDw,hu])
  ·obtain⟨a,l,c,rfl⟩:=okWide_slice hu hval;exact one rfl (by simp[zDw,hu])
  ·obtain⟨cs,rfl,_⟩:=okWide_struct hu hval;simp_all [zDw]
  ·obtain⟨cs,rfl,_⟩:=zQ7 hu hval;simp_all [zDw]
  cases hk
end
inductive ArgsB(P:Program)(B:Nat):List TypeId->List D->Prop
 |nil:ArgsB P B [] []
 |cons {t:TypeId} {ts:List TypeId} {d:D} {ds:List D}:ArgB P B t d->ArgsB P B ts ds->ArgsB P B (t::ts) (d::ds)
section
include hQ hA hS
theorem zXp{r:Reach}{b k:Nat}:∀{ts:List TypeId}{vs:List Value}{ds:List (DataW H)}{ps:List MemPlace},(∀(j:Nat) t v,ts[j]?=Ab t->vs[j]?=Ab v->Bw P W r b t v)->DataW.TrodAll enc P W 0 (λ_=>Aa) Aa ts vs ds ps->(∀d∈ds,Q d)->ts.all (okS P k)=Aa->
  ∃xs,RelT (allI W) W noB xs vs/\ArgsB P B ts xs
 |[],vs,ds,ps,hv,h,hq,hk=>by
  obtain⟨rfl,_,_⟩:=trodAll_nil h;exact⟨[],by simp only[RelT], .nil⟩
 |t::ts,vs,ds,ps,hv,h,hq,hk=>by
  obtain⟨v,vs,d,ds,p,q,rfl,rfl,rfl,h1,h2⟩:=trodAll_cons h;simp only[List.all_cons,AD]at hk;obtain⟨x,k1,k2⟩:=arg_rel hQ hA hS (hv 0 t v rfl rfl) h1 (hq _ (AG ..)) hk.1;obtain⟨xs,k3,k4⟩:=zXp (λj t v h1 h2=>hv (j+1) t v (by simpa using h1) (by simpa using h2)) h2 (λd hd=>hq d (AF _ hd)) hk.2;exact⟨x::xs,by simp only[RelT];exact⟨v,vs,rfl,k1,k3⟩, .cons k2 k4⟩
end
theorem ArgsB.one{t:TypeId}{xs:List D}(h:ArgsB P B [t] xs):∃d,xs=[d]/\ArgB P B t d:=by
 cases h with|cons h1 h2=>cases h2;exact⟨_,rfl,h1⟩
theorem ArgsB.more{t:TypeId}{ts:List TypeId}{xs:List D}(h:ArgsB P B (t::ts) xs):∃d ds,xs=d::ds/\ArgB P B t d/\ArgsB P B ts ds:=by
 cases h<;>grind
theorem ArgB.agg{t:TypeId}{d:D}(h:ArgB P B t d)(ha:zDw P t=Aa):∃n ds,d= .agg ds/\ShpB P B n t ds:=by
 obtain⟨n,h⟩:=h;grind
theorem ArgB.cell{t:TypeId}{d:D}(h:ArgB P B t d)(ha:zDw P t=Ac):∃n,ShpB P B n t [d]:=by
 obtain⟨n,h⟩:=h;grind
theorem zKu:∀{ts:List TypeId}{vs:List Value}{ds:List (DataW H)}{ps:List MemPlace},DataW.TrodAll enc P W 0 (λ_=>Aa) Aa ts vs ds ps->ds.length=ts.length
 |[],vs,ds,ps,h=>by
  obtain⟨_,rfl,_⟩:=trodAll_nil h;rfl
 |t::ts,vs,ds,ps,h=>by
  obtain⟨v,vs,d,ds,p,q,rfl,rfl,rfl,h1,h2⟩:=trodAll_cons h;rw[Bx,Bx,zKu h2]
section
include hQ hA hS
theorem law_callB{fn:Func}{s:ChangeSpec}{f:FuncId}{bt:TypeId}{args:Array Value}{ds gs:List (DataW H)}{before:List MemPlace}{base:Nat}(k:Nat)
  (hl:laidOutB P=Aa)(hv:s.vars=[])(hrt:fn.resultTypes=#[bt])(hbt:P.underlying bt=Ab .bool)
  (hr:fn.params.toList.all (λt=>P.readableRec t&&decide (t<P.types.size))=Aa)(hfn:∀ds,ds.length=fn.params.toList.length->s.fn H ds={results:=[.lit (.bool Aa)],args:=ds})
  (hk:fn.params.toList.all (okS P k)=Aa)
  (hval:∀(j:Nat) t v,fn.params[j]?=Ab t->args[j]?=Ab v->Bw P W .any base t v)
  (hW:DataW.Whole enc P fn.params.toList s.vars Ac W args.toList ds gs before)
  (hg:Gl (allI W) W)(hq:∀d∈ds,Q d)(main:∀xs,ArgsB P B fn.params.toList xs->Pure P f xs [] (.val (.bool Aa))):
  Calls P f args W λe W'=>∃v,e= .returned v/\s.post enc P fn Ac Aa Ac Ac W args v W':=by
 have hW':=hW;obtain⟨p,q,hA0,hV,rfl,hfz,hnd⟩:=hW;rw[hv]at hV;obtain⟨rfl,rfl⟩:=trodVars_none hV;obtain⟨xs,h1,h2⟩:=zXp hQ hA hS (k:=k) (r:= .any) (b:=base) (λj t v k1 k2=>hval j t v (by simpa using k1) (by simpa using k2)) hA0 hq hk;refine(main xs h2 (allI W) W args.toList h1 (λb o h=>h) hg).mono ?_;rintro e W' ⟨v,I',γ,rfl,hx,_,_,_,_,_,_,_,_,hr',_⟩;simp only[Rel]at hr';subst hr';exact⟨_,rfl,post_true (bt:=bt) hl hv hrt hbt hr (hfn ds (zKu hA0)) hW' hx⟩
end
end
end
section
open Go.RowKit
section
variable {α : Type} {g : α → List D} {c : Nat}
theorem zB5(hg:∀a,(g a).length=c)(l:List α):(l.flatMap g).length=l.length*c:=by
 induction l<;>grind
theorem zPp(hg:∀a,(g a).length=c)(l:List α)(i:Nat):(l.flatMap g).drop (i*c)=(l.drop i).flatMap g:=by
 induction l generalizing i with
 |nil=>simp
 |cons a l ih=>
  cases i<;>grind [Bt,Nat.add_comm,Cd,List.drop_left]
theorem fl_take(hg:∀a,(g a).length=c)(l:List α)(i:Nat):(l.flatMap g).take (i*c)=(l.take i).flatMap g:=by
 induction l generalizing i with
 |nil=>simp
 |cons a l ih=>
  cases i<;>grind [Bt,Nat.add_comm,List.take_append,A2]
theorem zHt[Inhabited α](hg:∀a,(g a).length=c)(l:List α)(i:Nat)(h:i<l.length):(l.flatMap g).drop (i*c)=g (l.getD i Ah)++(l.drop (i+1)).flatMap g:=by
 grind [zPp,BN,Ap]
theorem zJ0[Inhabited α](hg:∀a,(g a).length=c)(l:List α)(i:Nat)(h:i<l.length):((l.flatMap g).drop (i*c)).take c=g (l.getD i Ah):=by
 grind [zHt,A2]
theorem zFd(hg:∀a,(g a).length=c)(hc:0<c)(l:List α)(h:0<l.length:=by omega):l.flatMap g≠[]:=λe=>by
 have:=zB5 hg l
 rw[e]at this;have h2:0<l.length*c:=Nat.mul_pos h hc;simp only[List.length_nil]at this;omega
theorem zFe[Inhabited α](hg:∀a,(g a).length=c)(l:List α)(i:Nat)(h:i<l.length):c<=((l.flatMap g).drop (i*c)).length:=by
 grind [zHt,Bp]
theorem fl_app(l:List α)(a:α):l.flatMap g++g a=(l++[a]).flatMap g:=by simp
theorem zFo(hg:∀a,(g a).length=c)(l:List α)(n:Nat)(h:l.length=n):(l.flatMap g).take (n*c)=l.flatMap g:=by grind [A2,zB5]
theorem zA1[Inhabited α](l:List α)(i:Nat)(h:i<l.length):l.take (i+1)=l.take i++[l.getD i Ah]:=by
 simp_all
end
def bs(l:List UInt8):ByteArray:=⟨l.toArray⟩
theorem bs_toList(l:List UInt8):(bs l).toList=l:=by rw[Co];rfl
theorem bs_size(l:List UInt8):(bs l).size=l.length:=rfl
structure Va where
 kind:Int
 int:Int
 str:List UInt8
 deriving DecidableEq, Inhabited
abbrev strD(l:List UInt8):D:= .val (.string (bs l))
abbrev vaC(v:Va):List D:=[.val (.int .i64 v.kind), .val (.int .i64 v.int),strD v.str]
abbrev vaD(v:Va):D:= .agg (vaC v)
def zL(r:List Va):List D:=r.flatMap vaC
abbrev rowV(r:List Va):D:= .row (zL r) r.length
theorem zAp(r:List Va):(zL r).length=r.length*3:=by
 induction r with
 |nil=>rfl
 |cons v r ih=>simp only[zL,List.flatMap_cons,Bp]at ih⊢;rw[ih];simp;omega
theorem zNd(r s:List Va):zL (r++s)=zL r++zL s:=by simp[zL]
theorem zT2(r:List Va)(i:Nat):(zL r).drop (i*3)=zL (r.drop i):=by
 induction r generalizing i with
 |nil=>simp[zL]
 | cons v r ih=>
  cases i with
  |zero=>simp
  |succ i=>
   have:zL (v::r)=vaC v++zL r:=rfl;grind
theorem zMb(r:List Va)(i:Nat):(zL r).take (i*3)=zL (r.take i):=by
 induction r generalizing i with
 |nil=>simp[zL]
 | cons v r ih=>
  cases i with
  |zero=>simp[zL]
  |succ i=>
   have h1:zL (v::r)=vaC v++zL r:=rfl;have h2:zL ((v::r).take (i+1))=vaC v++zL (r.take i):=rfl;grind
theorem zHx(r:List Va)(i:Nat)(h:i<r.length):(zL r).drop (i*3)=vaC (r.getD i Ah)++zL (r.drop (i+1)):=by
 rw[zT2,BN h,AP,Ap h];rfl
theorem zCh(r:List Va)(i:Nat)(h:i<r.length):((zL r).drop (i*3)).take 3=vaC (r.getD i Ah):=by rw[zHx r i h];rfl
theorem zEk(r:List Va)(h:0<r.length):zL r≠[]:=by grind [zAp]
theorem zYs(r:List Va)(i:Nat)(v:Va)(h:i<r.length):setAt (zL r) (i*3) (vaC v)=zL (r.set i v):=by
 induction r generalizing i with
 |nil=>simp at h
 | cons u r ih=>
  cases i with
  |zero=>rfl
  | succ i=>
   have h1:zL (u::r)=vaC u++zL r:=rfl;have h2:zL ((u::r).set (i+1) v)=vaC u++zL (r.set i v):=rfl;have key:∀(us:List D)(pre cs:List D)(k:Nat),setAt (pre++cs) (pre.length+k) us=pre++setAt cs k us:=by
    intro us;induction us<;>grind [setAt,Nat.add_assoc]
   grind
def vcmp(a b:Va):Int:=if a.kind≠b.kind then cmpD a.kind b.kind else if a.int≠b.int then cmpD a.int b.int else Av a.str b.str
def rcmp:List Va->List Va->Int
 |[],[]=>0
 |[],_::_=>-1
 |_::_,[]=>1
 |a::r,b::s=>if vcmp a b=0 then rcmp r s else vcmp a b
theorem zL7(a b:Int):(cmpD a b=-1/\a<b)\/(cmpD a b=0/\a=b)\/(cmpD a b=1/\b<a):=by
 grind [cmpD]
theorem zMc:∀(a b:List UInt8),(Av a b=-1\/Av a b=0\/Av a b=1)/\(Av a b=0↔a=b)/\Av b a=-Av a b
 |[],[]=>by simp[Av]
 |[],_::_=>by simp[Av]
 |_::_,[]=>by simp[Av]
 |a::ar0,b::bs=>by
  obtain⟨h1,h2,h3⟩:=zMc ar0 bs;simp only[Av];grind
theorem zBv(a b:Va):(vcmp a b=-1\/vcmp a b=0\/vcmp a b=1)/\(vcmp a b=0↔a=b)/\vcmp b a=-vcmp a b:=by
 obtain⟨ak,ai,ar0⟩:=a;obtain⟨bk,bi,bs⟩:=b;obtain⟨c1,c2,c3⟩:=zMc ar0 bs;simp only[vcmp];by_cases h1:ak=bk
 ·subst h1;by_cases h2:ai=bi
  ·grind
  grind [zL7,cmpD]
 grind [zL7,cmpD]
theorem zBy:∀(a b:List Va),(rcmp a b=-1\/rcmp a b=0\/rcmp a b=1)/\(rcmp a b=0↔a=b)/\rcmp b a=-rcmp a b
 |[],[]=>by simp[rcmp]
 |[],_::_=>by simp[rcmp]
 |_::_,[]=>by simp[rcmp]
 |a::r,b::s=>by
  obtain⟨h1,h2,h3⟩:=zBy r s;obtain⟨k1,k2,k3⟩:=zBv a b;simp only[rcmp,k3];grind
theorem zQv:∀(i:Nat)(a b:List Va),i<=a.length->i<=b.length->a.take i=b.take i->rcmp a b=rcmp (a.drop i) (b.drop i)
 |0,_,_,_,_,_=>rfl
 |i+1,[],b,h,_,_=>by simp at h
 |i+1,_::_,[],_,h,_=>by simp at h
 |i+1,x::a,y::b,h1,h2,h3=>by
  simp only[List.take_succ_cons,List.cons.injEq]at h3;obtain⟨rfl,h3⟩:=h3;rw[rcmp,if_pos ((zBv x x).2.1.2 rfl),zQv i a b (by simpa using h1) (by simpa using h2) h3];rfl
theorem zQe(i:Nat)(a b:List Va)(ha:i<a.length)(hb:i<b.length)(h:a.take i=b.take i)(hv:vcmp (a.getD i Ah) (b.getD i Ah)=0):a.take (i+1)=b.take (i+1):=by
 have:=(zBv _ _).2.1.1 hv
 rw[A3 ha,A3 hb,h];grind
def vok(v:Va):Bool:=if v.kind=1 then v.str.isEmpty else if v.kind=2 then v.int=0&&v.str.length<=24 else Ac
def fA(N:Nat)(g:Nat->D):List D:=(Az N).map g
section
variable {N : Nat} {g g' : Nat → D} {i : Nat} {x : D}
theorem fA_len:(fA N g).length=N:=by simp[fA]
theorem fA_get(h:i<N):(fA N g)[i]?=Ab (g i):=by simp[fA,h]
theorem fA_hd(h:i<N):((fA N g).drop i).headD .unk=g i:=by
 rw[List.headD_eq_head?_getD,List.head?_drop,fA_get h];rfl
theorem fA_pos(h:i<N):0<((fA N g).drop i).length:=by rw[BL,fA_len];omega
theorem fA_ext(h:∀i,i<N->g i=g' i):fA N g=fA N g':=AY λi hi=>h i (BH.1 hi)
theorem fA_set:(fA N g).set i x=fA N λj=>if j=i then x else g j:=by
 unfold fA;apply Bh;intro u;rw[Ca,AX,List.length_range,Bj,Bj];rcases AL u N with h|h
 ·rw[Bu h];by_cases e:i=u
  ·subst e;rw[if_pos rfl,if_pos h,Ba,if_pos rfl]
  rw[if_neg e,Ba,Ba,if_neg (Ne.symm e)]
 rw[BI (by simpa using h)];split
 ·rw[if_neg (by omega)];rfl
 rfl
theorem fA_rep(d:D):AA N d=fA N λ_=>d:=by
 unfold fA;apply Bh;intro u;rw[Bj,List.getElem?_replicate];split
 ·rename_i h;rw[Bu h];rfl
 rename_i h;rw[BI (by simpa using h)];rfl
end
theorem repL1(d:D)(n:Nat):repL n [d]=fA n λ_=>d:=by
 rw[<-fA_rep];show(AA n [d]).flatten=_;induction n with
 |zero=>rfl
 |succ n ih=>rw[BG,BK,ih];rfl
theorem zHu{p:Nat->Bool}{n:Nat}(h:∃i,i<n/\p i=Aa):∃i,i<n/\p i=Aa/\∀j,j<i->p j=false:=by
 induction n with
 |zero=>obtain⟨i,h1,_⟩:=h;omega
 | succ n ih=>
  by_cases h2:∃i,i<n/\p i=Aa
  ·obtain⟨i,h3,h4,h5⟩:=ih h2;exact⟨i,by omega,h4,h5⟩
  obtain⟨i,h3,h4⟩:=h;refine⟨i,h3,h4,λj hj=>?_⟩;cases e:p j with
  |false=>rfl
  |true=>exact absurd ⟨j,by omega,e⟩ h2
abbrev nl0:D:= .val (.slice Ae 0 0)
def Vs(v:Va):Prop:=(-9223372036854775808<=v.kind/\v.kind<=9223372036854775807)/\(-9223372036854775808<=v.int/\v.int<=9223372036854775807)/\v.str.length<=10000
def Vb(B:Nat)(v:Va):Prop:=(-9223372036854775808<=v.kind/\v.kind<=9223372036854775807)/\(-9223372036854775808<=v.int/\v.int<=9223372036854775807)/\v.str.length<=B
end
abbrev Rw:=List Va
structure Cw(c:Rw->Rw->Int):Prop where
 eq:∀a b,c a b=0↔a=b
 neg:∀a b,c b a=-c a b
 tr:∀a b d,c a b<0->c b d<0->c a d<0
structure Sr(α:Type) where
 add:α->α->α
 mul:α->α->α
 one:α
 om:∀a,mul one a=a
 ac:∀a b,add a b=add b a
 aa:∀a b c,add (add a b) c=add a (add b c)
 mc:∀a b,mul a b=mul b a
 ma:∀a b c,mul (mul a b) c=mul a (mul b c)
 dl:∀a b c,mul a (add b c)=add (mul a b) (mul a c)
section
variable {α : Type} (c : Rw → Rw → Int)
def Srt(l:List (Rw×α)):Prop:=l.Pairwise λp q=>c p.1 q.1<0
def Ndk(l:List (Rw×α)):Prop:=(l.map (·.1)).Nodup
def kv:List (Rw×α)->Rw->Option α
 |[],_=>Ae
 |(s,u)::l,r=>if s=r then Ab u else kv l r
def oadd(f:α->α->α):Option α->Option α->Option α
 |none,y=>y
 |some x,Ae=>Ab x
 |some x,Ab y=>Ab (f x y)
def omul(f:α->α->α):Option α->Option α->Option α
 |some x,Ab y=>Ab (f x y)
 |_,_=>Ae
def putP(f:α->α->α)(r:Rw)(v:α):List (Rw×α)->List (Rw×α)
 |[]=>[(r,v)]
 |(s,u)::l=>if c s r<0 then(s,u)::putP f r v l else if s=r then(s,f u v)::l else(r,v)::(s,u)::l
def acc(f:α->α->α)(l L:List (Rw×α)):List (Rw×α):=L.foldl (λl p=>putP c f p.1 p.2 l) l
def addT(f:α->α->α)(r:Rw)(v:α):List (Rw×α)->List (Rw×α)
 |[]=>[(r,v)]
 |(s,u)::l=>if s=r then(s,f u v)::l else(s,u)::addT f r v l
def ev(f:α->α->α)(o:Option α)(L:List (Rw×α))(r:Rw):Option α:=L.foldl (λo p=>if p.1=r then oadd f o (Ab p.2)else o) o
variable {c}
theorem zLp{l:List (Rw×α)}{r:Rw}:kv l r=Ae↔r∉l.map (·.1):=by
 induction l with
 |nil=>simp[kv]
 |cons p l ih=>
  obtain⟨s,u⟩:=p;simp only[kv];grind
theorem zEa{l:List (Rw×α)}(h:Ndk l){r:Rw}{u:α}:kv l r=Ab u↔(r,u)∈l:=by
 induction l with
 |nil=>simp[kv]
 |cons p l ih=>
  obtain⟨s,v⟩:=p;have h':s∉l.map (·.1)/\Ndk l:=by simpa[Ndk]using h
  simp only[kv];grind
theorem kv_perm{l m:List (Rw×α)}(h:Ndk l)(hp:m.Perm l)(r:Rw):kv m r=kv l r:=by
 have hm:Ndk m:=(hp.map _).nodup_iff.2 h;cases e:kv l r with
 |none=>rw[zLp]at e⊢;exact λk=>e ((hp.map _).mem_iff.1 k)
 |some u=>rw[zEa h]at e;rw[zEa hm];exact hp.mem_iff.2 e
theorem Cw.irr(hc:Cw c)(a:Rw):¬c a a<0:=by have:=(hc.eq a a).2 rfl;omega
theorem Cw.tri(hc:Cw c)(a b:Rw):c a b<0\/a=b\/c b a<0:=by
 have h1:=hc.eq a b;have h2:=hc.neg a b;grind
theorem Srt.ndk(hc:Cw c){l:List (Rw×α)}(h:Srt c l):Ndk l:=by
 unfold Ndk List.Nodup;rw[By];refine h.imp λ{a b} h e=>?_;rw[e]at h;exact hc.irr _ h
theorem Srt.uniq(hc:Cw c):∀{l m:List (Rw×α)},Srt c l->Srt c m->(∀r,kv l r=kv m r)->l=m
 |[],[],_,_,_=>rfl
 |[],(s,u)::m,_,_,h=>by have:=h s;simp[kv]at this
 |(s,u)::l,[],_,_,h=>by have:=h s;simp[kv]at this
 | (a,u)::l,(b,v)::m,hl,hm,h=>by
  have nl:=Srt.ndk hc hl;have nm:=Srt.ndk hc hm;simp only[Srt,A4]at hl hm;have e:a=b:=by
   rcases hc.tri a b with k|k|k
   ·have:=h a
    simp only[kv,if_true]at this;have hm':=(zEa nm).1 this.symm;rcases AH.1 hm' with e|e
    ·cases e;rfl
    have:=hm.1 _ e
    exact absurd (hc.tr _ _ _ k this) (hc.irr a)
   ·exact k
   have:=h b
   simp only[kv,if_true]at this;have hl':=(zEa nl).1 this;rcases AH.1 hl' with e|e
   ·cases e;rfl
   have:=hl.1 _ e
   exact absurd (hc.tr _ _ _ k this) (hc.irr b)
  subst e;have e2:u=v:=by have:=h a;simpa[kv]using this
  subst e2;have nl':a∉l.map (·.1):=by
   simp_all [Ndk,nl]
  have nm':a∉m.map (·.1):=by
   simp_all [Ndk,nm]
  rw[Srt.uniq hc hl.2 hm.2 λr=>?_];by_cases hr:a=r
  ·grind [zLp]
  have:=h r
  simpa[kv,hr]using this
theorem zV3{f:α->α->α}{r:Rw}{v:α}:∀{l:List (Rw×α)}{p:Rw×α},p∈putP c f r v l->p.1=r\/p∈l
 |[],p,h=>by simp[putP]at h;subst h;exact .inl rfl
 | (s,u)::l,p,h=>by
  simp only[putP]at h;split at h
  ·rcases AH.1 h with h|h
   ·grind
   exact(zV3 h).imp id λh=>AF _ h
  grind
theorem zN1(hc:Cw c){f:α->α->α}{r:Rw}{v:α}:∀{l:List (Rw×α)},Srt c l->Srt c (putP c f r v l)
 |[],_=>by simp[putP,Srt]
 | (s,u)::l,h=>by
  simp only[Srt,A4]at h;simp only[putP];split
  ·rename_i k;simp only[Srt,A4];refine⟨λp hp=>?_,zN1 hc h.2⟩;grind [zV3]
  split
  ·simp only[Srt,A4];exact h
  rename_i k1 k2;have k3:c r s<0:=by
   rcases hc.tri s r with k|k|k;all_goals grind
  simp only[Srt,A4,AH];refine⟨λp hp=>?_,h⟩;rcases hp with rfl|hp
  ·exact k3
  exact hc.tr _ _ _ k3 (h.1 p hp)
theorem zZ8(hc:Cw c){f:α->α->α}{r:Rw}{v:α}:∀{l:List (Rw×α)},Srt c l->∀s,kv (putP c f r v l) s=if r=s then oadd f (kv l s) (Ab v)else kv l s
 |[],_,s=>by simp[putP,kv,oadd]
 | (t,u)::l,h,s=>by
  have nl:=Srt.ndk hc h;simp only[Srt,A4]at h;simp only[putP];split
  ·rename_i k;have hne:t≠r:=λe=>hc.irr r (by rw[e]at k;exact k);simp only[kv,zZ8 hc h.2 s];grind
  grind [kv,oadd,zLp]
theorem zE7(hc:Cw c)(f:α->α->α):∀(L l:List (Rw×α)),Srt c l->Srt c (acc c f l L)
 |[],l,h=>h
 |p::L,l,h=>zE7 hc f L _ (zN1 hc h)
theorem zJ4(hc:Cw c)(f:α->α->α):∀(L l:List (Rw×α))(s:Rw),Srt c l->kv (acc c f l L) s=ev f (kv l s) L s
 |[],l,s,h=>rfl
 |p::L,l,s,h=>by
  have:=zJ4 hc f L _ s (zN1 (f:=f) (r:=p.1) (v:=p.2) hc h)
  grind [zZ8,acc,ev]
theorem zTi(f:α->α->α):∀(L:List (Rw×α))(o:Option α)(s:Rw),s∉L.map (·.1)->ev f o L s=o
 |[],o,s,h=>rfl
 |p::L,o,s,h=>by
  simp only[AI,AH,not_or]at h;simp only[ev,Cg,if_neg (Ne.symm h.1)];exact zTi f L o s h.2
theorem zRs(f:α->α->α):∀(L:List (Rw×α))(s:Rw),Ndk L->ev f Ae L s=kv L s
 |[],s,h=>rfl
 |(r,u)::L,s,h=>by
  have h':r∉L.map (·.1)/\Ndk L:=by simpa[Ndk]using h
  simp only[ev,Cg,kv];split
  ·rename_i e;subst e;exact zTi f L _ r h'.1
  exact zRs f L s h'.2
theorem perm_acc(hc:Cw c)(f:α->α->α){l L:List (Rw×α)}(hp:l.Perm L)(hs:Srt c l)(hn:Ndk L):l=acc c f [] L:=
 Srt.uniq hc hs (zE7 hc f L [] AU.nil) λr=>by
  rw[zJ4 hc f L [] r AU.nil,kv_perm hn hp,<-zRs f L r hn];rfl
theorem zFt{f:α->α->α}{r:Rw}{v:α}:∀{l:List (Rw×α)},(addT f r v l).map (·.1)=if r∈l.map (·.1)then l.map (·.1)else l.map (·.1)++[r]
 |[]=>rfl
 | (s,u)::l=>by
  simp only[addT];split
  ·grind
  rename_i e;simp only[AI,zFt (l:=l),AH,Ne.symm e,false_or];split<;>simp
theorem addT_ndk{f:α->α->α}{r:Rw}{v:α}{l:List (Rw×α)}(h:Ndk l):Ndk (addT f r v l):=by
 grind [Ndk,zFt,List.nodup_append]
theorem addT_kv{f:α->α->α}{r:Rw}{v:α}:∀{l:List (Rw×α)}(s:Rw),kv (addT f r v l) s=if r=s then oadd f (kv l s) (Ab v)else kv l s
 |[],s=>by simp[addT,kv,oadd]
 | (t,u)::l,s=>by
  simp only[addT];split
  ·grind [kv,oadd]
  rename_i e;simp only[kv,addT_kv (l:=l) s];grind
def sumT(f:α->α->α)(l L:List (Rw×α)):List (Rw×α):=L.foldl (λl p=>addT f p.1 p.2 l) l
theorem zKb(f:α->α->α):∀(L l:List (Rw×α)),Ndk l->Ndk (sumT f l L)
 |[],l,h=>h
 |p::L,l,h=>zKb f L _ (addT_ndk h)
theorem zZj(f:α->α->α):∀(L l:List (Rw×α))(s:Rw),kv (sumT f l L) s=ev f (kv l s) L s
 |[],l,s=>rfl
 |p::L,l,s=>by
  have:=zZj f L (addT f p.1 p.2 l) s
  grind [addT_kv,sumT,ev]
theorem perm_sumT(hc:Cw c)(f:α->α->α){l L:List (Rw×α)}(hp:l.Perm (sumT f [] L))(hs:Srt c l):l=acc c f [] L:=
 Srt.uniq hc hs (zE7 hc f L [] AU.nil) λr=>by
  rw[zJ4 hc f L [] r AU.nil,kv_perm (zKb f L [] (by simp[Ndk])) hp,zZj]
theorem zLf(f:α->α->α)(x:Option α):oadd f x Ae=x:=by cases x<;>rfl
theorem zQ9(f:α->α->α)(x:Option α):oadd f Ae x=x:=rfl
end
section
variable {α : Type} (S : Sr α)
theorem oadd_c(x y:Option α):oadd S.add x y=oadd S.add y x:=by cases x<;>cases y<;>simp[oadd,S.ac]
theorem zQ8(x y z:Option α):oadd S.add (oadd S.add x y) z=oadd S.add x (oadd S.add y z):=by cases x<;>cases y<;>cases z<;>simp[oadd,S.aa]
theorem zV8(x y:Option α):omul S.mul x y=omul S.mul y x:=by cases x<;>cases y<;>simp[omul,S.mc]
theorem zV9(x y z:Option α):omul S.mul (omul S.mul x y) z=omul S.mul x (omul S.mul y z):=by cases x<;>cases y<;>cases z<;>simp[omul,S.ma]
theorem omul_d(x y z:Option α):omul S.mul x (oadd S.add y z)=oadd S.add (omul S.mul x y) (omul S.mul x z):=by cases x<;>cases y<;>cases z<;>simp[omul,oadd,S.dl]
theorem omul_n(x:Option α):omul S.mul x Ae=none:=by cases x<;>rfl
def osum(l:List (Option α)):Option α:=l.foldr (oadd S.add) Ae
theorem zDe(x:Option α)(l:List (Option α)):osum S (x::l)=oadd S.add x (osum S l):=rfl
theorem zQ5{β:Type}(l:List β):osum S (l.map λ_=>Ae)=none:=by
 induction l with
 |nil=>rfl
 |cons x l ih=>rw[AI,zDe,ih];rfl
theorem osum_add{β:Type}(l:List β)(f g:β->Option α):osum S (l.map λx=>oadd S.add (f x) (g x))=oadd S.add (osum S (l.map f)) (osum S (l.map g)):=by
 induction l with
 |nil=>rfl
 |cons x l ih=>simp only[AI,zDe,ih];rw[zQ8,zQ8,<-zQ8 S (g x),oadd_c S (g x),zQ8]
theorem osum_mul{β:Type}(l:List β)(y:Option α)(f:β->Option α):osum S (l.map λx=>omul S.mul y (f x))=omul S.mul y (osum S (l.map f)):=by
 induction l with
 |nil=>simp[osum,omul_n]
 |cons x l ih=>simp only[AI,zDe,ih,omul_d]
theorem zQ4{β γ:Type}(l:List β)(m:List γ)(f:β->γ->Option α):osum S (l.map λx=>osum S (m.map λy=>f x y))=osum S (m.map λy=>osum S (l.map λx=>f x y)):=by
 induction l with
 |nil=>simp only[Bb];exact(zQ5 S m).symm
 |cons x l ih=>simp only[AI,zDe,ih,osum_add]
theorem zV6{β:Type}[DecidableEq β]:∀(l:List β)(x:β)(v:Option α),l.Nodup->x∈l->osum S (l.map λy=>if y=x then v else Ae)=v
 |[],x,v,_,h=>by simp at h
 | y::l,x,v,hn,h=>by
  rw[List.nodup_cons]at hn;simp only[AI,zDe];by_cases e:y=x
  ·grind [AY,zQ5,zLf]
  rw[if_neg e,zQ9];exact zV6 l x v hn.2 ((AH.1 h).resolve_left (Ne.symm e))
end
section
variable {α : Type}
def asg(A:List Nat)(x:Rw)(v:Nat):Va:=x.getD (A.idxOf v) Ah
def un(A B:List Nat):List Nat:=(Az 32).filter λv=>decide (v∈A\/v∈B)
def mt(A:List Nat)(x:Rw)(B:List Nat)(y:Rw):Bool:=A.all λv=>decide (v∈B->asg A x v=asg B y v)
def sg(A:List Nat)(x:Rw)(B:List Nat)(y:Rw)(v:Nat):Va:=if v∈A then asg A x v else asg B y v
def mg(A:List Nat)(x:Rw)(B:List Nat)(y:Rw):Rw:=(un A B).map (sg A x B y)
def zDd(f:α->α->α)(A:List Nat)(la:List (Rw×α))(B:List Nat)(lb:List (Rw×α)):List (Rw×α):=
 la.flatMap λp=>(lb.filter λq=>mt A p.1 B q.1).map λq=>(mg A p.1 B q.1,f p.2 q.2)
def Asc(A:List Nat):Prop:=A.Pairwise (· <·)/\∀v∈A,v<32
def Lens(n:Nat)(l:List (Rw×α)):Prop:=∀p∈l,p.1.length=n
theorem Asc.nd{A:List Nat}(h:Asc A):A.Nodup:=h.1.imp λh=>Nat.ne_of_lt h
theorem zT5{A:List Nat}(σ:Nat->Va){v:Nat}(h:v∈A):asg A (A.map σ) v=σ v:=by
 simp_all [Cp,asg,AP,Bj,Ap]
theorem zPd{A:List Nat}(hn:A.Nodup){x:Rw}(hl:x.length=A.length):A.map (asg A x)=x:=by
 apply Bl (by simp[hl]);intro i h1 h2;simp only[List.getElem_map,asg];grind
theorem zE8{A B:List Nat}{v:Nat}:v∈un A B↔v<32/\(v∈A\/v∈B):=by simp[un]
theorem zZe(A B:List Nat):Asc (un A B):=⟨(List.pairwise_lt_range (n:=32)).filter _,λv h=>(zE8.1 h).1⟩
theorem zDr{A:List Nat}{σ τ:Nat->Va}:A.map σ=A.map τ↔∀v∈A,σ v=τ v:=List.map_inj_left
theorem zWd{A B:List Nat}(hA:Asc A)(hB:Asc B){x y:Rw}(hx:x.length=A.length)(hy:y.length=B.length){σ:Nat->Va}:
  (mt A x B y=Aa/\mg A x B y=(un A B).map σ)↔x=A.map σ/\y=B.map σ:=by
 constructor
 ·rintro⟨h1,h2⟩;simp only[mt,AN,decide_eq_true_eq]at h1;rw[mg,zDr]at h2;refine⟨?_,?_⟩
  ·rw[<-zPd hA.nd hx,zDr];intro v hv
   have:=h2 v (zE8.2 ⟨hA.2 v hv, .inl hv⟩)
   grind [sg]
  rw[<-zPd hB.nd hy,zDr];intro v hv
  have:=h2 v (zE8.2 ⟨hB.2 v hv, .inr hv⟩)
  grind [sg]
 rintro⟨rfl,rfl⟩;refine⟨?_,?_⟩
 ·simp only[mt,AN,decide_eq_true_eq];grind [zT5]
 grind [mg,zDr,sg,zT5,zE8]
theorem zLa{f:α->α->α}{A B:List Nat}{la lb:List (Rw×α)}{s:Rw}{u:α}:(s,u)∈zDd f A la B lb↔∃p∈la,∃q∈lb,mt A p.1 B q.1=Aa/\mg A p.1 B q.1=s/\f p.2 q.2=u:=by
 simp only[zDd,List.mem_flatMap,AR,A5,As.injEq];grind
theorem mg_inj{A B:List Nat}(hA:Asc A)(hB:Asc B){x y x' y':Rw}(hx:x.length=A.length)(hy:y.length=B.length)(hx':x'.length=A.length)(hy':y'.length=B.length)(h:mt A x B y=Aa)(h':mt A x' B y'=Aa)(he:mg A x B y=mg A x' B y'):x=x'/\y=y':=by
 have h1:=(zWd hA hB hx hy (σ:=sg A x B y)).1 ⟨h,rfl⟩;have h2:=(zWd hA hB hx' hy' (σ:=sg A x B y)).1 ⟨h',he.symm⟩;grind
theorem zHa{f:α->α->α}{A B:List Nat}(hA:Asc A)(hB:Asc B){la lb:List (Rw×α)}(na:Ndk la)(nb:Ndk lb)(ha:Lens A.length la)(hb:Lens B.length lb):Ndk (zDd f A la B lb):=by
 unfold Ndk List.Nodup at*;rw[By]at*;unfold zDd;rw[List.pairwise_flatMap];refine⟨λp hp=>?_,?_⟩
 ·rw[By];refine(nb.filter _).imp_of_mem λ{q r} hq hr hne e=>?_;rw[A5]at hq hr;exact hne (mg_inj hA hB (ha p hp) (hb q hq.1) (ha p hp) (hb r hr.1) hq.2 hr.2 e).2
 refine na.imp_of_mem λ{p r} hp hr hne=>?_;intro s hs t ht e;simp only[AR,A5]at hs ht;obtain⟨q,⟨hq,h1⟩,rfl⟩:=hs;obtain⟨q',⟨hq',h2⟩,rfl⟩:=ht;exact hne (mg_inj hA hB (ha p hp) (hb q hq) (ha r hr) (hb q' hq') h1 h2 e).1
theorem prods_kv{f:α->α->α}{A B:List Nat}(hA:Asc A)(hB:Asc B){la lb:List (Rw×α)}(na:Ndk la)(nb:Ndk lb)(ha:Lens A.length la)(hb:Lens B.length lb)(σ:Nat->Va):
  kv (zDd f A la B lb) ((un A B).map σ)=omul f (kv la (A.map σ)) (kv lb (B.map σ)):=by
 have hn:=zHa (f:=f) hA hB na nb ha hb;have key:∀u,((un A B).map σ,u)∈zDd f A la B lb↔∃p q,(A.map σ,p)∈la/\(B.map σ,q)∈lb/\f p q=u:=by
  intro u;rw[zLa];constructor
  ·rintro⟨p,hp,q,hq,h1,h2,h3⟩;obtain⟨e1,e2⟩:=(zWd hA hB (ha p hp) (hb q hq)).1 ⟨h1,h2⟩;grind
  grind [zWd]
 cases e1:kv la (A.map σ)with
 | none=>
  simp only[omul];cases e:kv (zDd f A la B lb) ((un A B).map σ)with
  |none=>rfl
  |some u=>
   obtain⟨p,q,hp,hq,_⟩:=(key u).1 ((zEa hn).1 e);rw[(zEa na).2 hp]at e1;cases e1
 | some p=>
  cases e2:kv lb (B.map σ)with
  | none=>
   simp only[omul];cases e:kv (zDd f A la B lb) ((un A B).map σ)with
   |none=>rfl
   |some u=>
    obtain⟨p,q,hp,hq,_⟩:=(key u).1 ((zEa hn).1 e);rw[(zEa nb).2 hq]at e2;cases e2
  |some q=>exact(zEa hn).2 ((key _).2 ⟨p,q,(zEa na).1 e1,(zEa nb).1 e2,rfl⟩)
def upd(σ:Nat->Va)(v:Nat)(x:Va)(w:Nat):Va:=if w=v then x else σ w
def zRw(A:List Nat)(v:Nat)(l:List (Rw×α)):List (Rw×α):=l.map λp=>(p.1.eraseIdx (A.idxOf v),p.2)
def less(A:List Nat)(v:Nat):List Nat:=A.filter λu=>decide (u≠v)
theorem zRe{β γ:Type}(f:β->γ)(l:List β)(i:Nat):(l.map f).eraseIdx i=(l.eraseIdx i).map f:=by
 grind [List.eraseIdx_eq_take_drop_succ,List.map_take,List.map_drop]
theorem zD9{A:List Nat}(h:A.Nodup)(v:Nat):A.eraseIdx (A.idxOf v)=less A v:=by
 rw[<-List.erase_eq_eraseIdx_of_idxOf rfl,h.erase_eq_filter];grind [less,List.filter_congr]
theorem ev_osum(S:Sr α):∀(L:List (Rw×α))(o:Option α)(r:Rw),ev S.add o L r=oadd S.add o (osum S (L.map λp=>if p.1=r then Ab p.2 else Ae))
 |[],o,r=>(zLf _ o).symm
 |p::L,o,r=>by
  simp only[ev,Cg,AI,zDe];have ih:=ev_osum S L;simp only[ev]at ih;rw[ih,<-zQ8];grind [zLf]
theorem sum_ev(S:Sr α){A:List Nat}(hA:A.Nodup){v:Nat}(hv:v∈A)(Dm:List Va)(hD:Dm.Nodup){l:List (Rw×α)}(hl:Lens A.length l)(hi:∀p∈l,∀a∈p.1,a∈Dm)(σ:Nat->Va):
  ev S.add Ae (zRw A v l) ((less A v).map σ)=osum S (Dm.map λx=>ev S.add Ae l (A.map (upd σ v x))):=by
 simp only[ev_osum,zQ9,zRw,List.map_map];rw[zQ4];congr 1;refine AY λp hp=>?_;have hlen:=hl p hp;have hx:A.map (asg A p.1)=p.1:=zPd hA hlen;have hin:asg A p.1 v∈Dm:=by
  grind
 have he:p.1.eraseIdx (A.idxOf v)=(less A v).map (asg A p.1):=by
  grind [zRe,zD9]
 have key:∀x,p.1=A.map (upd σ v x)↔x=asg A p.1 v/\p.1.eraseIdx (A.idxOf v)=(less A v).map σ:=by
  intro x;rw[he,zDr];constructor
  ·intro h;rw[<-hx,zDr]at h;refine⟨?_,λw hw=>?_⟩
   ·grind [upd]
   simp only[less,A5,decide_eq_true_eq]at hw;grind [upd]
  grind [zDr,upd,less]
 have:(Dm.map λx=>if p.1=A.map (upd σ v x)then Ab p.2 else Ae)=Dm.map λx=>if x=asg A p.1 v then(if p.1.eraseIdx (A.idxOf v)=(less A v).map σ then Ab p.2 else Ae)else none:=by
  grind
 rw[this,zV6 S Dm _ _ hD hin];rfl
structure Fa(α:Type) where
 A:List Nat
 l:List (Rw×α)
structure FOk(c:Rw->Rw->Int)(Dm:List Va)(f:Fa α):Prop where
 asc:Asc f.A
 len:Lens f.A.length f.l
 srt:Srt c f.l
 dom:∀p∈f.l,∀a∈p.1,a∈Dm
def den(f:Fa α)(σ:Nat->Va):Option α:=kv f.l (f.A.map σ)
def okO(U:List Nat)(s:Rw)(o:Fa α):Bool:=o.l.any λq=>o.A.all λv=>decide (v∈U->asg o.A q.1 v=asg U s v)
def fmul(c:Rw->Rw->Int)(S:Sr α)(f g:Fa α)(os:List (Fa α)):Fa α:=
 ⟨un f.A g.A,acc c S.add [] ((zDd S.mul f.A f.l g.A g.l).filter λp=>os.all λo=>okO (un f.A g.A) p.1 o)⟩
def fsum(c:Rw->Rw->Int)(S:Sr α)(v:Nat)(f:Fa α):Fa α:=⟨less f.A v,acc c S.add [] (zRw f.A v f.l)⟩
def zJ5(S:Sr α):Fa α:=⟨[],[([],S.one)]⟩
def proF(S:Sr α)(fs:List (Fa α))(σ:Nat->Va):Option α:=fs.foldr (λf o=>omul S.mul (den f σ) o) (Ab S.one)
def zCz(c:Rw->Rw->Int)(S:Sr α):Fa α->List (Fa α)->List (Fa α)->Fa α
 |p,[],os=>p
 |p,f::fs,os=>zCz c S (fmul c S p f (fs++os)) fs os
def zGm(v:Nat)(fs:List (Fa α)):List (Fa α):=fs.filter λf=>decide (v∈f.A)
def zEt(v:Nat)(fs:List (Fa α)):List (Fa α):=fs.filter λf=>decide (v∉f.A)
def elim(c:Rw->Rw->Int)(S:Sr α)(v:Nat)(fs:List (Fa α)):List (Fa α):=match zGm v fs with
 |[]=>fs
 |p::ws=>zEt v fs++[fsum c S v (zCz c S p ws (zEt v fs))]
def zHf(S:Sr α)(Dm:List Va):List Nat->((Nat->Va)->Option α)->(Nat->Va)->Option α
 |[],F=>F
 |v::vs,F=>zHf S Dm vs λσ=>osum S (Dm.map λx=>F (upd σ v x))
variable {c : Rw → Rw → Int} {S : Sr α} {Dm : List Va}
theorem zHk(q:Rw->Bool):∀(l:List (Rw×α))(r:Rw),kv (l.filter λp=>q p.1) r=if q r then kv l r else Ae
 |[],r=>by simp[kv]
 | (s,u)::l,r=>by
  rw[List.filter_cons];by_cases e:s=r
  ·subst e;cases h:q s
   ·have:=zHk q l s
    rw[h]at this;simpa[kv]using this
   simp[kv]
  cases h:q s
  ·simp[kv,e,zHk q l r]
  simp[kv,e,zHk q l r]
theorem zJe(q:Rw->Bool){l:List (Rw×α)}(h:Ndk l):Ndk (l.filter λp=>q p.1):=by
 grind [Ndk,List.Nodup]
theorem acc_mem{c:Rw->Rw->Int}(hc:Cw c){f:α->α->α}{L:List (Rw×α)}{p:Rw×α}(h:p∈acc c f [] L):p.1∈L.map (·.1):=by
 have hs:=zE7 hc f L [] AU.nil;have h1:kv (acc c f [] L) p.1=Ab p.2:=(zEa (hs.ndk hc)).2 h;rw[zJ4 hc f L [] p.1 AU.nil]at h1;refine Classical.byContradiction λhn=>?_;rw[zTi f L _ _ hn]at h1;cases h1
theorem mg_dom{A B:List Nat}{x y:Rw}(hx:x.length=A.length)(hy:y.length=B.length)(h1:∀a∈x,a∈Dm)(h2:∀a∈y,a∈Dm):∀a∈mg A x B y,a∈Dm:=by
 have get:∀{A:List Nat}{x:Rw}{v:Nat},x.length=A.length->(∀a∈x,a∈Dm)->v∈A->asg A x v∈Dm:=λ{A x v} hx h hv=>by
  grind [Cp,asg,Ap,A6]
 intro a ha;obtain⟨v,hv,rfl⟩:=AR.1 ha;grind [sg,zE8]
theorem FOk.ndk(hc:Cw c){f:Fa α}(h:FOk c Dm f):Ndk f.l:=h.srt.ndk hc
theorem zPo(hc:Cw c){f g:Fa α}(hf:FOk c Dm f)(hg:FOk c Dm g)(os:List (Fa α)):FOk c Dm (fmul c S f g os):=by
 have key:∀p∈(fmul c S f g os).l,p.1.length=(un f.A g.A).length/\∀a∈p.1,a∈Dm:=by
  intro p hp;obtain⟨q,hq,e⟩:=AR.1 (acc_mem hc hp);rw[A5]at hq;obtain⟨x,hx,y,hy,_,h2,_⟩:=(zLa (s:=q.1) (u:=q.2)).1 hq.1;rw[<-e,<-h2];exact⟨by simp[mg],mg_dom (hf.len x hx) (hg.len y hy) (hf.dom x hx) (hg.dom y hy)⟩
 exact⟨zZe _ _,λp hp=>(key p hp).1,zE7 hc _ _ _ AU.nil,λp hp=>(key p hp).2⟩
theorem fmul_den(hc:Cw c){f g:Fa α}(hf:FOk c Dm f)(hg:FOk c Dm g)(os:List (Fa α))(σ:Nat->Va):
  den (fmul c S f g os) σ=if(os.all λo=>okO (un f.A g.A) ((un f.A g.A).map σ) o)=Aa then omul S.mul (den f σ) (den g σ)else none:=by
 have hn:=zHa (f:=S.mul) hf.asc hg.asc (hf.ndk hc) (hg.ndk hc) hf.len hg.len;show kv (acc c S.add [] _) _=_;rw[zJ4 hc _ _ _ _ AU.nil,show kv ([]:List (Rw×α)) ((fmul c S f g os).A.map σ)=Ae from rfl,zRs _ _ _ (zJe (λs=>os.all λo=>okO (un f.A g.A) s o) hn),zHk (λs=>os.all λo=>okO (un f.A g.A) s o)];show(if _ then kv _ ((un f.A g.A).map σ)else Ae)=_;rw[prods_kv hf.asc hg.asc (hf.ndk hc) (hg.ndk hc) hf.len hg.len];rfl
theorem okO_den(hc:Cw c){o:Fa α}(ho:FOk c Dm o){U:List Nat}{σ:Nat->Va}{u:α}(h:den o σ=Ab u):okO U (U.map σ) o=true:=by
 have hm:=(zEa (ho.ndk hc)).1 h;rw[okO,List.any_eq_true];refine⟨_,hm,?_⟩;simp only[AN,decide_eq_true_eq];grind [zT5]
theorem proF_app(fs gs:List (Fa α))(σ:Nat->Va):proF S (fs++gs) σ=omul S.mul (proF S fs σ) (proF S gs σ):=by
 induction fs with
 |nil=>simp only[Ce,proF,List.foldr_nil];cases gs.foldr (λf o=>omul S.mul (den f σ) o) (Ab S.one)<;>simp[omul,S.om]
 |cons f fs ih=>simp only[proF,BJ,Bm]at ih⊢;rw[ih,zV9]
theorem proF_none{fs:List (Fa α)}{f:Fa α}(hf:f∈fs){σ:Nat->Va}(h:den f σ=Ae):proF S fs σ=none:=by
 induction fs with
 |nil=>simp at hf
 |cons g fs ih=>
  simp only[proF,Bm]at ih⊢;rcases AH.1 hf with e|e
  ·subst e;rw[h];rfl
  rw[ih e,omul_n]
theorem zZ9{fs gs:List (Fa α)}(h:fs.Perm gs)(σ:Nat->Va):proF S fs σ=proF S gs σ:=by
 induction h with
 |nil=>rfl
 |cons x _ ih=>simp only[proF,Bm]at ih⊢;rw[ih]
 |swap x y l=>simp only[proF,Bm];rw[<-zV9,<-zV9,zV8 S (den y σ)]
 |trans _ _ h1 h2=>exact h1.trans h2
theorem fmul_pro(hc:Cw c){f g:Fa α}(hf:FOk c Dm f)(hg:FOk c Dm g){os:List (Fa α)}(ho:∀o∈os,FOk c Dm o)(σ:Nat->Va):
  omul S.mul (den (fmul c S f g os) σ) (proF S os σ)=omul S.mul (omul S.mul (den f σ) (den g σ)) (proF S os σ):=by
 rw[fmul_den hc hf hg];split
 ·rfl
 rename_i h;simp only[AN,Classical.not_forall]at h;obtain⟨o,hm,h⟩:=h;have:den o σ=none:=by
  cases e:den o σ with
  |none=>rfl
  |some u=>exact absurd (okO_den hc (ho o hm) e) h
 grind [proF_none,omul_n]
theorem zKj(hc:Cw c):∀(fs:List (Fa α))(p:Fa α)(os:List (Fa α)),FOk c Dm p->(∀f∈fs,FOk c Dm f)->FOk c Dm (zCz c S p fs os)
 |[],p,os,hp,_=>hp
 |f::fs,p,os,hp,hf=>zKj hc fs _ os (zPo hc hp (hf f (AG ..)) _) λg hg=>hf g (AF _ hg)
theorem zL1(hc:Cw c)(σ:Nat->Va):∀(fs:List (Fa α))(p:Fa α)(os:List (Fa α)),FOk c Dm p->(∀f∈fs,FOk c Dm f)->(∀f∈os,FOk c Dm f)->
  omul S.mul (den (zCz c S p fs os) σ) (proF S os σ)=omul S.mul (den p σ) (proF S (fs++os) σ)
 |[],p,os,hp,_,_=>rfl
 |f::fs,p,os,hp,hf,ho=>by
  have h1:=hf f (AG ..);have h2:∀g∈fs,FOk c Dm g:=λg hg=>hf g (AF _ hg);rw[zCz,zL1 hc σ fs _ os (zPo hc hp h1 _) h2 ho,fmul_pro hc hp h1 λo hm=>(BO.1 hm).elim (h2 o) (ho o),zV9];rfl
theorem zPt:∀(fs:List (Fa α))(p:Fa α)(os:List (Fa α)),(∀v∈p.A,v<32)->(∀f∈fs,∀v∈f.A,v<32)->∀v,v∈(zCz c S p fs os).A↔v∈p.A\/∃f∈fs,v∈f.A
 |[],p,os,_,_,v=>by simp[zCz]
 |f::fs,p,os,hp,hf,v=>by
  rw[zCz,zPt fs _ os (λw hw=>(zE8.1 hw).1) (λg hg=>hf g (AF _ hg))];grind [fmul,zE8,AG,AF]
theorem zDo{A:List Nat}{v w:Nat}:w∈less A v↔w∈A/\w≠v:=by simp[less]
theorem zPe{A:List Nat}(h:Asc A)(v:Nat):Asc (less A v):=⟨h.1.filter _,λw hw=>h.2 w (zDo.1 hw).1⟩
theorem fsum_ok(hc:Cw c){f:Fa α}(hf:FOk c Dm f)(v:Nat):FOk c Dm (fsum c S v f):=by
 have key:∀p∈(fsum c S v f).l,p.1.length=(less f.A v).length/\∀a∈p.1,a∈Dm:=by
  intro p hp;obtain⟨q,hq,e⟩:=AR.1 (acc_mem hc hp);obtain⟨r,hr,rfl⟩:=AR.1 hq;have hl:=hf.len r hr;rw[<-e,<-zD9 hf.asc.nd];exact⟨by rw[List.length_eraseIdx,List.length_eraseIdx,hl],λa ha=>hf.dom r hr a (List.mem_of_mem_eraseIdx ha)⟩
 exact⟨zPe hf.asc v,λp hp=>(key p hp).1,zE7 hc _ _ _ AU.nil,λp hp=>(key p hp).2⟩
theorem fsum_den(hc:Cw c)(hD:Dm.Nodup){f:Fa α}(hf:FOk c Dm f){v:Nat}(hv:v∈f.A)(σ:Nat->Va):den (fsum c S v f) σ=osum S (Dm.map λx=>den f (upd σ v x)):=by
 show kv (acc c S.add [] _) ((less f.A v).map σ)=_;rw[zJ4 hc _ _ _ _ AU.nil];refine(sum_ev S hf.asc.nd hv Dm hD hf.len hf.dom σ).trans ?_;congr 1;refine AY λx _=>?_;exact zRs _ _ _ (hf.ndk hc)
theorem den_upd{f:Fa α}{v:Nat}(hv:v∉f.A)(σ:Nat->Va)(x:Va):den f (upd σ v x)=den f σ:=by
 grind [den,zDr,upd]
theorem proF_upd{fs:List (Fa α)}{v:Nat}(hv:∀f∈fs,v∉f.A)(σ:Nat->Va)(x:Va):proF S fs (upd σ v x)=proF S fs σ:=by
 induction fs with
 |nil=>rfl
 |cons f fs ih=>
  simp only[proF,Bm]at ih⊢;grind [den_upd,AG,AF]
theorem zDy(v:Nat)(fs:List (Fa α)):(zGm v fs++zEt v fs).Perm fs:=by
 grind [List.filter_append_perm,Fa,zGm,zEt]
theorem elim_ok(hc:Cw c){fs:List (Fa α)}(hf:∀f∈fs,FOk c Dm f)(v:Nat):∀f∈elim c S v fs,FOk c Dm f:=by
 unfold elim;split
 ·exact hf
 rename_i p ws e;have hw:∀f∈zGm v fs,FOk c Dm f:=λf h=>hf f (A5.1 h).1;rw[e]at hw;intro f h;rcases BO.1 h with h|h
 ·exact hf f (A5.1 h).1
 simp only[B6]at h;grind [fsum_ok,zKj,AG,AF]
theorem elim_pro(hc:Cw c)(hD:Dm.Nodup){fs:List (Fa α)}(hf:∀f∈fs,FOk c Dm f){v:Nat}(hv:∃f∈fs,v∈f.A)(σ:Nat->Va):proF S (elim c S v fs) σ=osum S (Dm.map λx=>proF S fs (upd σ v x)):=by
 have hw:∀f∈zGm v fs,FOk c Dm f/\v∈f.A:=λf h=>by
  grind [zGm]
 have ho:∀f∈zEt v fs,FOk c Dm f:=λf h=>hf f (A5.1 h).1;have ho2:∀f∈zEt v fs,v∉f.A:=λf h=>by
  grind [zEt]
 have hp:=zDy v fs;unfold elim;split
 ·grind
 rename_i p ws e;rw[e]at hw hp;have h1:=hw p (AG ..);have h2:∀g∈ws,FOk c Dm g:=λg hg=>(hw g (AF _ hg)).1;have hk:=zKj (S:=S) hc ws p (zEt v fs) h1.1 h2;have hvA:v∈(zCz c S p ws (zEt v fs)).A:=(zPt ws p _ h1.1.asc.2 (λg hg=>(h2 g hg).asc.2) v).2 (.inl h1.2);have e1:∀(g:Fa α),proF S [g] σ=den g σ:=λg=>by
  simp only[proF,Bm,List.foldr_nil];rw[zV8];cases den g σ<;>simp[omul,S.om]
 rw[proF_app,e1,fsum_den hc hD hk hvA,<-osum_mul];congr 1;refine AY λx _=>?_;rw[<-proF_upd ho2 σ x,zV8,zL1 hc _ ws p _ h1.1 h2 ho,<-zZ9 hp];rfl
theorem elim_A{fs:List (Fa α)}(hf:∀f∈fs,∀v∈f.A,v<32)(v w:Nat):(∃f∈elim c S v fs,w∈f.A)↔(∃f∈fs,w∈f.A)/\w≠v:=by
 have hw:∀f∈zGm v fs,f∈fs/\v∈f.A:=λf h=>by
  grind [zGm]
 have hp:=zDy v fs;unfold elim;split
 ·rename_i e;refine⟨λh=>⟨h,λk=>?_⟩,λh=>h.1⟩;subst k;obtain⟨f,h1,h2⟩:=h;grind [zGm]
 rename_i p ws e;rw[e]at hw hp;have h1:=hw p (AG ..);have hA:=zPt (c:=c) (S:=S) ws p (zEt v fs) (hf p h1.1) (λg hg=>hf g (hw g (AF _ hg)).1) w;have hm:w∈(fsum c S v (zCz c S p ws (zEt v fs))).A↔w∈(zCz c S p ws (zEt v fs)).A/\w≠v:=zDo;constructor
 ·rintro⟨f,h2,h3⟩;rcases BO.1 h2 with h2|h2
  ·grind [zEt]
  grind
 grind
theorem zGt:∀(vs:List Nat){F G:(Nat->Va)->Option α},(∀σ,F σ=G σ)->∀σ,zHf S Dm vs F σ=zHf S Dm vs G σ
 |[],_,_,h,σ=>h σ
 |v::vs,F,G,h,σ=>zGt vs (λσ=>by simp only[h]) σ
theorem zX9{vs ws:List Nat}(h:vs.Perm ws):∀(F:(Nat->Va)->Option α)(σ:Nat->Va),zHf S Dm vs F σ=zHf S Dm ws F σ:=by
 induction h with
 |nil=>exact λF σ=>rfl
 |cons x _ ih=>exact λF σ=>ih _ σ
 | swap x y l=>
  intro F σ;simp only[zHf];refine zGt l (λσ=>?_) σ;by_cases e:x=y
  ·subst e;rfl
  rw[zQ4];congr 1;refine AY λa _=>?_;congr 1;refine AY λb _=>?_;congr 1;grind [upd]
 |trans _ _ h1 h2=>exact λF σ=>(h1 F σ).trans (h2 F σ)
theorem Asc.ext{A B:List Nat}(hA:Asc A)(hB:Asc B)(h:∀v,v∈A↔v∈B):A=B:=by
 have hp:A.Perm B:=(List.perm_ext_iff_of_nodup (Asc.nd hA) (Asc.nd hB)).2 h;exact List.Perm.eq_of_pairwise (le:=(· <·)) (λa b _ _ h k=>by omega) hA.1 hB.1 hp
end
section
open Go.RowKit
abbrev u32D(n:Nat):D:= .val (.int .u32 (n:Nat))
abbrev nsD(l:List Nat):List D:=l.map λc=>iD (c:Nat)
def msk(A:List Nat):Nat:=A.foldl (λm v=>m|||2^v) 0
theorem mskF_bit(A:List Nat):∀(m v:Nat),(A.foldl (λm v=>m|||2^v) m).testBit v=(m.testBit v||decide (v∈A)):=by
 induction A<;>grind
theorem zBu(A:List Nat)(v:Nat):(msk A).testBit v=decide (v∈A):=by rw[msk,mskF_bit];simp
theorem bits_lt{m n:Nat}(h:∀v,n<=v->m.testBit v=Ac):m<2^n:=Nat.lt_pow_two_of_testBit m h
theorem zDg{A:List Nat}(h:∀v∈A,v<32):msk A<4294967296:=bits_lt (n:=32) λv hv=>by
 rw[zBu];simp;intro hm;have:=h v hm;omega
theorem zWe(A:List Nat)(i:Nat)(h:i<A.length):msk (A.take (i+1))=msk (A.take i)|||2^A.getD i 0:=by
 grind [A3,msk,Ap]
theorem msk_un{A B:List Nat}(hA:∀v∈A,v<32)(hB:∀v∈B,v<32):msk A|||msk B=msk (un A B):=by
 apply Nat.eq_of_testBit_eq;intro v;rw[Nat.testBit_or,zBu,zBu,zBu,BP];simp only[AW,decide_eq_true_eq,zE8];grind
theorem zAs{n:Nat}(h:n<4294967296):A_.wrap (n:Int)=(n:Int):=zCa (k:= .u32) (by simp only[inK];omega)
theorem bv_nat{n:Nat}(h:n<4294967296):(AJ 32 (n:Int)).toNat=n:=by
 grind
theorem zLe{a b:Nat}(ha:a<4294967296)(hb:b<4294967296):a|||b<4294967296:=Nat.or_lt_two_pow (n:=32) ha hb
theorem and_lt{a b:Nat}(ha:a<4294967296):a&&&b<4294967296:=BQ Nat.and_le_left ha
theorem u32_and{a b:Nat}(ha:a<4294967296)(hb:b<4294967296):A_.wrap ((AJ 32 (a:Int)&&&AJ 32 (b:Int)).toNat:Int)=((a&&&b:Nat):Int):=by
 grind [bv_nat,zAs,and_lt]
theorem u32_shl{v:Nat}(h:v<32):A_.wrap (1*2^(min (v:Int).toNat 32))=((2^v:Nat):Int):=by
 have h2:2^v<4294967296:=Nat.pow_lt_pow_right (n:=32) (by omega) h;rw[Int.toNat_natCast,BR (by omega),Int.one_mul,show((2:Int)^v)=((2^v:Nat):Int) by simp,zAs h2]
theorem u32_shr(m:Nat){v:Nat}(h:v<32):Int.fdiv (m:Int) (2^(min (v:Int).toNat 32))=((m>>>v:Nat):Int):=by
 grind [Int.toNat_natCast,BR,BA,Int.ofNat_fdiv]
theorem u32_bit{m:Nat}(hm:m<4294967296)(v:Nat):(A_.wrap ((AJ 32 ((m>>>v:Nat):Int)&&&AJ 32 1).toNat:Int)==1)=m.testBit v:=by
 have h1:m>>>v<4294967296:=BQ (by rw[BA];exact Nat.div_le_self _ _) hm
 have:=u32_and (b:=1) h1 (by omega)
 rw[show((1:Nat):Int)=1 from rfl]at this;rw[this,Cq,Nat.and_one_is_mod,BA,BP];grind
theorem zMo{a b:Nat}(ha:a<4294967296)(hb:b<4294967296):(AJ 32 (a:Int)|||AJ 32 (b:Int)).toNat=a|||b:=by
 grind
theorem zMf{a b:Nat}(ha:a<4294967296)(hb:b<4294967296):(AJ 32 (a:Int)&&&AJ 32 (b:Int)).toNat=a&&&b:=by
 grind
theorem zEp{v:Nat}(h:v<32):A_.wrap (1*2^(min v 32))=((2^v:Nat):Int):=u32_shl h
theorem zEo(m:Nat){v:Nat}(h:v<32):Int.fdiv (m:Int) (2^(min v 32))=((m>>>v:Nat):Int):=u32_shr m h
theorem zF3{v:Nat}(h:v<32):2^v<4294967296:=Nat.pow_lt_pow_right (n:=32) (by omega) h
theorem bit_eq{m:Nat}(hm:m<4294967296)(v:Nat):((AJ 32 ((m>>>v:Nat):Int)&&&1#32).toNat:Int)=if m.testBit v then 1 else 0:=by
 have h1:m>>>v<4294967296:=BQ (by rw[BA];exact Nat.div_le_self _ _) hm;rw[BitVec.toNat_and,bv_nat h1,Cq,show(1#32).toNat=1 from rfl,Nat.and_one_is_mod,BA];grind
theorem zR8{m:Nat}(hm:m<4294967296)(v:Nat):((((AJ 32 ((m>>>v:Nat):Int)&&&AJ 32 1).toNat:Nat):Int)==1)=m.testBit v:=by
 grind [bit_eq]
theorem bit_w{m:Nat}(hm:m<4294967296)(v:Nat):(A_.wrap (((AJ 32 ((m>>>v:Nat):Int)&&&AJ 32 1).toNat:Nat):Int)==1)=m.testBit v:=u32_bit hm v
end
theorem cb_tr:∀(a b d:List UInt8),Av a b=-1->Av b d=-1->Av a d=-1
 |[],[],_,h,_=>by simp[Av]at h
 |[],_::_,[],_,k=>by simp[Av]at k
 |[],_::_,_::_,_,_=>rfl
 |_::_,[],_,h,_=>by simp[Av]at h
 |_::_,_::_,[],_,k=>by simp[Av]at k
 |x::a,y::b,z::d,h,k=>by
  have ih:=cb_tr a b d;simp only[Av]at h k⊢;grind
theorem zXk{a b:Int}:cmpD a b<0↔a<b:=by grind [zL7]
theorem vcmp_tr(a b d:Va)(h:vcmp a b<0)(k:vcmp b d<0):vcmp a d<0:=by
 obtain⟨ak,ai,as'⟩:=a;obtain⟨bk,bi,bs'⟩:=b;obtain⟨dk,di,ds⟩:=d;have t:=cb_tr as' bs' ds;have v1:=(zMc as' bs').1;have v2:=(zMc bs' ds).1;have v3:=(zMc as' ds).1;simp only[vcmp]at h k⊢;split at h<;>split at k<;>split<;>try simp only[zXk]at*
 all_goals (try split at h)<;>(try split at k)<;>(try split)<;>(try simp only[zXk]at*)<;>first|omega|(have:=t (by omega) (by omega);omega)|skip
theorem zGp:∀(a b d:List Va),rcmp a b<0->rcmp b d<0->rcmp a d<0
 |[],[],_,h,_=>by simp[rcmp]at h
 |[],_::_,[],_,k=>by simp[rcmp]at k
 |[],_::_,_::_,_,_=>by simp[rcmp]
 |_::_,[],_,h,_=>by simp[rcmp]at h
 |_::_,_::_,[],_,k=>by simp[rcmp]at k
 |x::a,y::b,z::d,h,k=>by
  have ih:=zGp a b d;simp only[rcmp]at h k⊢;grind [vcmp,zBv,vcmp_tr]
theorem rcw:Cw rcmp:=⟨λa b=>(zBy a b).2.1,λa b=>(zBy a b).2.2,zGp⟩
def cntL(A:List Nat)(b:Nat):Nat:=(A.filter λv=>decide (v<b)).length
theorem zPy:∀{A:List Nat},A.Pairwise (· <·)->∀{v:Nat},v∈A->A.idxOf v=cntL A v
 |[],_,v,h=>by simp at h
 | a::A,hA,v,h=>by
  rw[A4]at hA;by_cases e:a=v
  ·subst e;have:A.filter (λv=>decide (v<a))=[]:=by
    rw[List.filter_eq_nil_iff];intro x hx
    have:=hA.1 x hx
    simp;omega
   simp[cntL,this]
  have hm:=(AH.1 h).resolve_left λk=>e k.symm;have hlt:=hA.1 v hm
  have:=zPy hA.2 hm
  have e':(a==v)=false:=by simpa using e
  rw[List.idxOf_cons,e',cond_false,this];simp[cntL,hlt]
theorem zTr{A:List Nat}(hA:A.Pairwise (· <·)){v:Nat}(h:v∈A):cntL A v<A.length/\A.getD (cntL A v) 0=v:=by
 rw[<-zPy hA h];grind
theorem cntL_no{A:List Nat}{v:Nat}(h:v∉A)(hl:cntL A v<A.length):A.getD (cntL A v) 0≠v:=by grind
def bdU(U:List Nat)(t:Nat):Nat:=U.getD t 32
theorem bdU_lt{U:List Nat}(h:∀v∈U,v<32){t:Nat}(ht:t<U.length):bdU U t∈U:=by
 grind [bdU,Ap,A6]
theorem zXj{p q:Nat->Bool}:∀(A:List Nat),(∀x∈A,¬(p x=Aa/\q x=Aa))->(A.filter λx=>p x||q x).length=(A.filter p).length+(A.filter q).length
 |[],_=>rfl
 |a::A,h=>by
  have ih:=zXj A λx hx=>h x (AF _ hx);have ha:=h a (AG ..);cases h1:p a<;>cases h2:q a
  ·simp[h1,h2,ih]
  ·simp[h1,h2,ih];omega
  ·simp[h1,h2,ih];omega
  exact absurd ⟨h1,h2⟩ ha
theorem zM9:∀{A:List Nat},A.Nodup->∀v,(A.filter λx=>decide (x=v)).length=if v∈A then 1 else 0
 |[],_,v=>by simp
 |a::A,h,v=>by
  rw[List.nodup_cons]at h;have ih:=zM9 h.2 v;grind
theorem zR5{A U:List Nat}(hU:Asc U)(hA:A.Nodup)(hAU:∀v∈A,v∈U){t:Nat}(ht:t<U.length):cntL A (bdU U (t+1))=cntL A (bdU U t)+if bdU U t∈A then 1 else 0:=by
 have hget:bdU U t=U[t]:=by unfold bdU;rw[AP,Ap ht];rfl
 have hlt:bdU U t<bdU U (t+1):=by
  rcases AL (t+1) U.length with h|h
  ·have h2:bdU U (t+1)=U[t+1]:=by unfold bdU;rw[AP,Ap h];rfl
   rw[hget,h2];exact BS.1 hU.1 t (t+1) ht h (by omega)
  have h2:bdU U (t+1)=32:=by unfold bdU;rw[AP,BI h];rfl
  rw[hget,h2];exact hU.2 _ (A6 ht)
 have key:∀x∈A,decide (x<bdU U (t+1))=(decide (x<bdU U t)||decide (x=bdU U t)):=by
  intro x hx;obtain⟨j,hj,rfl⟩:=Ch (hAU x hx);rw[BP];simp only[AW,decide_eq_true_eq];have mono:∀i k (hi:i<U.length)(hk:k<U.length),i<k->U[i]<U[k]:=λi k hi hk h=>BS.1 hU.1 i k hi hk h;constructor
  ·intro h;rcases Nat.lt_trichotomy j t with h1|h1|h1
   ·grind
   ·grind
   exfalso;have h3:t+1<U.length:=by omega
   have h2:bdU U (t+1)=U[t+1]:=by unfold bdU;rw[AP,Ap h3];rfl
   grind
  rintro(h|h)<;>omega
 unfold cntL;rw[List.filter_congr key,zXj A λx hx=>by simp;omega,zM9 hA]
theorem cntL0{A U:List Nat}(hU:Asc U)(hAU:∀v∈A,v∈U):cntL A (bdU U 0)=0:=by
 unfold cntL;rw[List.length_eq_zero_iff,List.filter_eq_nil_iff];intro x hx;obtain⟨j,hj,rfl⟩:=Ch (hAU x hx);have h2:bdU U 0=U[0]:=by unfold bdU;rw[AP,Ap (by omega)];rfl
 rw[h2];simp only[decide_eq_true_eq];rcases Bv j with e|e
 ·subst e;omega
 have:=BS.1 hU.1 0 j (by omega) hj e;omega
theorem bdU_getD{U:List Nat}{t:Nat}(h:t<U.length):U.getD t 0=bdU U t:=by
 grind [bdU,Ap]
theorem mg_take(A:List Nat)(x:List Va)(B:List Nat)(y:List Va)(t:Nat)(ht:t<(un A B).length):((un A B).take (t+1)).map (sg A x B y)=((un A B).take t).map (sg A x B y)++[sg A x B y (bdU (un A B) t)]:=by
 grind [A3,bdU,Ap]
theorem asg_cnt{A:List Nat}(hA:A.Pairwise (· <·))(x:List Va){v:Nat}(h:v∈A):asg A x v=x.getD (cntL A v) default:=by
 rw[asg,zPy hA h]
section
open Go.RowKit
theorem zEc(V:List Int)(i:Nat)(h:i<V.length):((V.map λz=>iD z).drop i).headD .unk=iD (V.getD i 0):=by simp_all
theorem zAf{α:Type}(l:List α)(d:α)(k:Nat)(h:k<l.length):l.getD k d∈l:=by grind
def zG1(n:Int)(V:List Int)(i:Nat):Bool:=decide (0<=V.getD i 0)&&(decide (V.getD i 0<n)&&(decide (i=0)||decide (V.getD (i-1) 0<V.getD i 0)))
def zN7(R:List Rw)(i:Nat):Bool:=decide (i=0)||decide (rcmp (R.getD (i-1) []) (R.getD i [])<0)
def chk(n:Int)(V:List Int)(R:List Rw)(m:Nat):Int:=
 if(Az V.length).all (zG1 n V)=Ac then 3 else if R.length≠m then 6 else if R.all (λx=>decide (x.length=V.length))=Ac then 6 else if R.all (λx=>x.all vok)=Ac then 4 else if(Az R.length).all (zN7 R)=Ac then 16 else 0
theorem zVw{p:Nat->Bool}{n i:Nat}(h:i<n)(hp:p i=Ac):(Az n).all p=false:=by
 grind
theorem zJb{p:Nat->Bool}{n:Nat}(h:∀j,j<n->p j=Aa):(Az n).all p=true:=by
 grind
theorem zSo{n:Int}{V:List Int}{i:Nat}(h1:0<=V.getD i 0)(h2:V.getD i 0<n)(h3:i=0\/V.getD (i-1) 0<V.getD i 0):zG1 n V i=true:=by
 simp only[zG1,AD,AW,decide_eq_true_eq];exact⟨h1,h2,h3⟩
theorem chk_v{n:Int}{V:List Int}{R:List Rw}{m i:Nat}(h:i<V.length)(hp:zG1 n V i=Ac):chk n V R m=3:=by
 grind [chk,zVw]
theorem chk_l{n:Int}{V:List Int}{R:List Rw}{m:Nat}(hv:(Az V.length).all (zG1 n V)=Aa)(h:R.length≠m):chk n V R m=6:=by
 grind [chk]
theorem chk_a{n:Int}{V:List Int}{R:List Rw}{m i:Nat}(hv:(Az V.length).all (zG1 n V)=Aa)(hl:R.length=m)(h:i<R.length)(hp:(R.getD i []).length≠V.length):chk n V R m=6:=by
 unfold chk;grind
theorem chk_o{n:Int}{V:List Int}{R:List Rw}{m i:Nat}(hv:(Az V.length).all (zG1 n V)=Aa)(hl:R.length=m)(ha:R.all (λx=>decide (x.length=V.length))=Aa)(h:i<R.length)(hp:(R.getD i []).all vok=Ac):chk n V R m=4:=by
 unfold chk;grind
theorem chk_s{n:Int}{V:List Int}{R:List Rw}{m i:Nat}(hv:(Az V.length).all (zG1 n V)=Aa)(hl:R.length=m)(ha:R.all (λx=>decide (x.length=V.length))=Aa)(ho:R.all (λx=>x.all vok)=Aa)(h:i<R.length)(hp:zN7 R i=Ac):chk n V R m=16:=by
 grind [chk,zVw]
theorem chk_0{n:Int}{V:List Int}{R:List Rw}{m:Nat}(hv:(Az V.length).all (zG1 n V)=Aa)(hl:R.length=m)(ha:R.all (λx=>decide (x.length=V.length))=Aa)(ho:R.all (λx=>x.all vok)=Aa)(hs:(Az R.length).all (zN7 R)=Aa):chk n V R m=0:=by
 grind [chk]
theorem zP5{α:Type}{p:α->Bool}{l:List α}{d:α}{i:Nat}(h:l.length<=i)(hh:∀j,j<i->j<l.length->p (l.getD j d)=Aa):l.all p=true:=by
 grind [AN,List.mem_iff_getElem,Ap]
structure Fit(n:Int)(A:List Nat)(R:List Rw)(m:Nat):Prop where
 asc:A.Pairwise (· <·)
 lt:∀v∈A,(v:Int)<n
 m:R.length=m
 len:∀r∈R,r.length=A.length
 vok:∀r∈R,r.all vok=Aa
 srt:R.Pairwise λp q=>rcmp p q<0
theorem zLd{α:Type}{q:α->α->Prop}(tr:∀a b c,q a b->q b c->q a c){d:α}:∀{l:List α},(∀i,i+1<l.length->q (l.getD i d) (l.getD (i+1) d))->l.Pairwise q
 |[],_=>AU.nil
 |[a],_=>by simp
 |a::b::l,h=>by
  have h0:q a b:=h 0 (by simp);have ih:(b::l).Pairwise q:=zLd tr (d:=d) λi hi=>h (i+1) (by simpa using hi);grind [A4]
theorem zTy{n:Int}{V:List Int}{R:List Rw}{m:Nat}(h:chk n V R m=0):∃A:List Nat,V=A.map (λv:Nat=>(v:Int))/\Fit n A R m:=by
 unfold chk at h;split at h
 ·cases h
 rename_i h1;split at h
 ·cases h
 rename_i h2;split at h
 ·cases h
 rename_i h3;split at h
 ·cases h
 rename_i h4;split at h
 ·cases h
 rename_i h5;simp only[Bool.not_eq_false,AN,BH,decide_eq_true_eq]at h1 h3 h4 h5;have hs:∀i,i<V.length->0<=V.getD i 0/\V.getD i 0<n/\(i=0\/V.getD (i-1) 0<V.getD i 0):=λi hi=>by
  have:=h1 i hi
  simpa only[zG1,AD,AW,decide_eq_true_eq]using this
 have hV:V=(V.map Aw).map (λv:Nat=>(v:Int)):=by
  apply Bl (by simp);grind
 have hget:∀i,i<V.length->(V.getD i 0)=((V.map Aw).getD i 0:Nat):=λi hi=>by
  grind
 refine⟨V.map Aw,hV,?_,λv hv=>?_,by simpa using h2,λr hr=>by simpa using h3 r hr,λr hr=>by simpa[AN]using h4 r hr,?_⟩
 ·refine zLd (q:=λa b:Nat=>a<b) (d:=0) (λa b c h k=>Nat.lt_trans h k) λi hi=>?_;grind
 ·obtain⟨u,hu,rfl⟩:=AR.1 hv;obtain⟨i,hi,rfl⟩:=List.mem_iff_getElem.1 hu
  have:=(hs i hi)
  grind
 refine zLd (d:=[]) zGp λi hi=>?_;grind [zN7]
structure At where
 V:List Int
 ar:Int
 R:List Rw
 deriving Inhabited
abbrev atC(a:At):List D:=[.row (a.V.map λz=>iD z) a.V.length,iD a.ar, .row (a.R.map rowV) a.R.length]
theorem zT4(a:At):(atC a).length=3:=rfl
def zYv(V:List Int)(i:Nat):Bool:=decide (i=0)||decide (V.getD (i-1) 0<V.getD i 0)
def ascB(V:List Int):Bool:=(Az V.length).all (zYv V)
def inB(n:Int)(v:Int):Bool:=decide (0<=v/\v<n)
def atE(n:Int)(a:At):Int:=if ascB a.V=Ac then 16 else if a.V.all (inB n)=Ac then 3 else if(a.V.length:Int)≠a.ar then 6 else 0
def atL(n:Int):List At->Int
 |[]=>0
 |a::l=>if atE n a≠0 then atE n a else atL n l
def useP(n:Nat)(ats:List At)(W:List Int):List Bool:=(Az n).map λv:Nat=>(ats.any λa=>decide ((v:Int)∈a.V))||decide ((v:Int)∈W)
def lfE(n:Int)(ats:List At):Int:=if n<0\/32<n then 3 else if 32<ats.length then 12 else if atL n ats≠0 then atL n ats else if(useP n.toNat ats []).contains Ac then 22 else 0
theorem zG2(n:Nat)(ats:List At)(W:List Int):(useP n ats W).length=n:=by simp[useP]
theorem useP_0(n:Nat):useP n [] []=AA n false:=by
 apply Bl (by simp[useP]);intro i h1 h2;simp[useP]
theorem useP_set(n:Nat)(ats:List At)(W:List Int)(v:Nat)(h:v<n):(useP n ats W).set v Aa=useP n ats (W++[(v:Int)]):=by
 apply Bl (by simp[useP]);intro i h1 h2;rw[List.getElem_set];simp only[useP,List.getElem_map,List.getElem_range,BO,B6];grind
theorem zY9(n:Nat)(ats:List At)(a:At):useP n ats a.V=useP n (ats++[a]) []:=by
 grind [useP,AY]
theorem atL_at{n:Int}:∀{L:List At}{i:Nat},(∀j,j<i->atE n (L.getD j Ah)=0)->i<L.length->atE n (L.getD i Ah)≠0->atL n L=atE n (L.getD i Ah)
 |x::l,0,_,_,h=>by
  have h:atE n x≠0:=h;simp only[atL,if_pos h];rfl
 |x::l,i+1,h,hi,he=>by
  have h0:atE n x=0:=h 0 (by omega);simp only[atL];rw[if_neg (by rw[h0];exact λk=>k rfl)]
  have:=atL_at (n:=n) (L:=l) (i:=i) (λj hj=>by have:=h (j+1) (by omega);simpa using this) (by simpa using hi) (by simpa using he)
  rw[this];simp
theorem atL_0{n:Int}:∀{L:List At},(∀j,j<L.length->atE n (L.getD j Ah)=0)->atL n L=0
 |[],_=>rfl
 |x::l,h=>by
  have h0:atE n x=0:=h 0 (by simp);simp only[atL];rw[if_neg (by rw[h0];exact λk=>k rfl)];exact atL_0 λj hj=>by have:=h (j+1) (by simpa using hj);simpa using this
section
variable {P : Program} {I : Im} {w : World} {β : Be} {sl : List D} {st : List Bk} {tm : List Value}
theorem Fix.drew(I:Im)(w:World)(q:Nat):Fix I w I (w.drewN q):=λb o h=>⟨h,λv hv=>hv,λ_ _ h=>h⟩
theorem Sim.drew(h:Sim β I w sl st tm)(q:Nat):Sim β I (w.drewN q) sl st tm:=by
 refine⟨A7 (Fix.drew I w q) β β (AC _) _ _ h.rel,λk b c hk=>?_,h.inj,h.fz,h.dom,h.imb,h.gl.mono (Fix.drew I w q)⟩;obtain⟨e,h1,h2⟩:=h.sr k b c hk;exact⟨e,h1,Bq h2 rfl (Fix.drew I w q) (AC _)⟩
theorem Stp.drew(β:Be)(I:Im)(w:World)(q:Nat):Stp β I w β I (w.drewN q):=⟨Fix.drew _ _ _,Ak _,λ_ _ _=>rfl,rfl,rfl,rfl,Nat.le_add_right _ _,λk b c h=> .inl ⟨k,c,h⟩,λ_ _ h=> .inl h⟩
theorem zG8{β:Be}:∀{us vs:List Value},RelL I w β (us.map .val) vs->vs=us
 |[],vs,h=>by simpa only[Bb,RelL]using h
 |u::us,vs,h=>by
  simp only[AI,RelL,Rel]at h;obtain⟨v,vs',rfl,_,rfl,h⟩:=h;rw[zG8 h]
theorem zB4{β:Be}:∀{us:List Value},(∀v∈us,v.oneCell'=Aa)->RelL I w β (us.map .val) us
 |[],h=>by simp only[Bb,RelL]
 |u::us,h=>by
  simp only[AI,RelL,Rel];exact⟨u,us,rfl,h u (AG ..),rfl,zB4 λv hv=>h v (AF _ hv)⟩
theorem acts_row{f:FuncId}{k n n':Nat}{e:Bk}{wh:Bool}{us vs:List Value}(he:st[k]?=Ab e)(ha:e.arr=Aa)(hkd:e.kd= .plain)(hf:e.fz=Ac)(hc:e.cells=us.map .val)(hu:us.length=n)(hv:vs.length=n)(hn:n'<=n)(h1:∀v∈vs,v.oneCell'=Aa)
  (h0:n=0->∀a c w,Calls P f #[.slice a 0 c] w λx w'=>x= .returned (.slice a 0 c)/\w'=w)
  (h:0<n->∀b c w,(∀j,j<n->w.cell? ⟨b,0+j,Ae⟩=Ab (us.getD j undef))->(∀j,j<n->w.frozen? ⟨b,0+j,Ae⟩=Ac)->n<=c->Calls P f #[.slice (Ab ⟨b,0,Ae⟩) n c] w λx w'=>x= .returned (.slice (Ab ⟨b,0,Ae⟩) n' c)/\∃q,w'=(w.drewN q).setCells b 0 vs):
  Acts P f [.osl k 0 n n wh] st [] (.osl k 0 n' n' wh) (st.set k {e with cells:=vs.map .val}):=by
 intro β I w xs hr hsr hinj hfz hdom hi hg;have hnb:e.nob=true:=by unfold A9;rw[ha,hkd];rfl
 have hmap:e.kd.isMap=false:=by rw[hkd];rfl
 simp only[RelT]at hr;obtain⟨v,ys,rfl,hr,rfl⟩:=hr;have hset:n=0->st.set k {e with cells:=vs.map .val}=st:=by
  intro e0;have e1:us=[]:=A0 (by omega);have e2:vs=[]:=A0 (by omega);have:({e with cells:=vs.map .val}:Bk)=e:=by rw[e2,<-e1,<-hc]
  rw[this];apply Bh;grind
 have zero:∀a c,n=0->v= .slice a 0 c->Calls P f #[v] w λx w'=>∃v β' I',x= .returned v/\ImB I' w'/\Stp β I w β' I' w'/\(∀k y,k∉([]:List Nat)->β k=Ab y->β' k=Ab y)/\SR β' I' w' (st.set k {e with cells:=vs.map .val})/\Inj β'/\FZ β' I' (st.set k {e with cells:=vs.map .val})/\(∀j y,β' j=Ab y->j<(st.set k {e with cells:=vs.map .val}).length)/\Rel I' w' β' (.osl k 0 n' n' wh) v:=by
  intro a c e0 ev;subst ev;refine(h0 e0 a c w).mono ?_;rintro x w' ⟨rfl,rfl⟩;obtain rfl:n'=0:=by omega
  rw[hset e0];subst e0;exact⟨_,β,I,rfl,hi,AQ _ _ _,λ_ _ _ h=>h,hsr,hinj,hfz,hdom,hr⟩
 have hr':=hr;simp only[Rel]at hr;rcases hr with⟨e0,_,rfl⟩|⟨e0,_,_,a,c,rfl,_⟩|⟨b,c,cap,hb,rfl,k1,k2,k3⟩
 ·exact zero Ae 0 e0 rfl
 ·exact zero a c e0 rfl
 rcases Bv n with e0|hpos
 ·grind
 have hs0:Sim β I w ([]:List D) st ({tmps:=#[],defers:=[]}:Act).tmps.toList:=⟨by simp only[RelT],hsr,hinj,hfz,hdom,hi,hg⟩;obtain⟨e',he',hown⟩:=hsr k b c hb;rw[he]at he';cases he';obtain⟨cur,c1,c2,c3,c4⟩:=hown.c hmap;rw[hnb,hc]at c3;simp only[if_true]at c3;have ecur:=zG8 c3;rw[AX]at ecur;have hpre:=(hs0.put (off:=0) (cs:=us.map .val) (vs:=us) (ks:=[]) hb he hf hmap (by simp) (by
   rw[hnb];simp only[if_true];have:∀v∈us,v.oneCell'=true:=by
    have:=c3.ones
    rw[AX,ecur]at this;exact this
   exact zB4 this) (by simp[hc]) Ae undef).2.2
 refine(h hpos b cap w (λj hj=>?_) (λj hj=>(hpre j (by omega)).2) k1).mono ?_
 ·have hlt:j<cur.length:=by
   grind
  have e1:us.getD j undef=cur[j]:=by
   grind
  rw[e1];simp[BT,c1,hlt]
 rintro x w' ⟨rfl,q,rfl⟩;obtain⟨s1,s2,s3⟩:=(hs0.drew q).put (off:=0) (cs:=vs.map .val) (vs:=vs) (ks:=[]) hb he hf hmap (by simp) (by
  rw[hnb];simp only[if_true];exact zB4 h1) (by simp[hc];omega) Ae undef
 have hset2:setAt e.cells 0 (vs.map .val)=vs.map .val:=by
  have key:∀(xs ys:List D)(pre:List D),xs.length=ys.length->setAt (pre++xs) pre.length ys=pre++ys:=by
   intro xs ys;induction ys generalizing xs with
   |nil=>intro pre hl;cases xs with
    |nil=>rfl
    |cons x xs=>simp at hl
   | cons y ys ih=>intro pre hl;cases xs with
    |nil=>simp at hl
    |cons x xs=>
     simp only[setAt];have e1:(pre++x::xs).set pre.length y=(pre++[y])++xs:=by simp
     grind
  exact key e.cells (vs.map .val) [] (by simp[hc];omega)
 rw[hset2]at s1;refine⟨_,β,_,rfl,s1.imb,(Stp.drew β I w q).trans s2,λ_ _ _ h=>h,s1.sr,s1.inj,s1.fz,s1.dom,?_⟩;simp only[Rel];grind
end
theorem RelL.putAt{I:Im}{w:World}{β:Be}:∀{ds:List D}{vs:List Value}{i:Nat}{x:D},RelL I w β ds vs->(∀d v,ds[i]?=Ab d->vs[i]?=Ab v->Rel I w β d v->Rel I w β x v)->RelL I w β (ds.set i x) vs
 |[],vs,i,x,h,hx=>by simpa using h
 | d::ds,vs,i,x,h,hx=>by
  simp only[RelL]at h;obtain⟨v,us,rfl,h1,h2,h3⟩:=h;cases i with
  |zero=>simp only[List.set_cons_zero,RelL];exact⟨v,us,rfl,h1,hx d v rfl rfl h2,h3⟩
  |succ i=>
   simp only[List.set_cons_succ,RelL];exact⟨v,us,rfl,h1,h2,h3.putAt λd v hd hv=>hx d v (by simpa using hd) (by simpa using hv)⟩
section
variable {T : Par} {sl : List D} {st : List Bk}
theorem Weak.fzCell{j i:Nat}{ej:Bk}{d x:D}{ks:List Nat}(hj:st[j]?=Ab ej)(hm:ej.kd.isMap=Ac)(hf:ej.nob=Ac)(hi:ej.cells[i]?=Ab d)(hx:frz Aa st zAu d=Ab (x,ks))(hjk:j∉ks):Weak T sl st sl ((zAo st ks).set j {ej with cells:=ej.cells.set i x}):=by
 intro β I w tm h;have hjl:j<st.length:=(AZ.1 hj).1;have hfr:=λv hv=>zBq h.sr.weak _ _ _ _ v hx hv;have hget:∀k,((zAo st ks).set j {ej with cells:=ej.cells.set i x})[k]?=if k=j then Ab {ej with cells:=ej.cells.set i x}else(st[k]?).map λe=>if k∈ks then{e with fz:=Aa}else e:=λk=>by
  grind [zBa,zAa]
 refine⟨β,fixI I β st ks,⟨A7 (zAg ks) β β (AC _) _ _ h.rel,λk b c hk=>?_,h.inj,λk b c o e hk he hi'=>?_,λk y hk=>?_,zDt h.sr.weak h.imb ks,h.gl.mono (zAg ks)⟩,⟨zAg ks,Ak _,λ_ _ _=>rfl,rfl,rfl,rfl,Ak _,λk b c hk=> .inl ⟨k,c,hk⟩,λb o hb=>?_⟩,AM _ _⟩
 ·obtain⟨e,k1,k2⟩:=h.sr k b c hk;by_cases hkj:k=j
  ·subst hkj;rw[hj]at k1;cases k1;refine⟨_,(hget k).trans (if_pos rfl),?_⟩;obtain⟨cur,c1,c2,c3,c4⟩:=k2.c hm;refine OwnC.r ⟨cur,c1,by simpa using c2,?_,c4⟩ hm;have hn2:({ej with cells:=ej.cells.set i x}:Bk).nob=false:=hf;rw[hn2];rw[hf]at c3;simp only[Bc,AS,if_false]at c3⊢;refine(RelL.mono (zAg ks) β β (AC _) _ _ c3).putAt λd' v hd hv hr=>?_;rw[hi]at hd;cases hd;obtain⟨v',g1,g2,g3⟩:=c3.get i d hi;grind [Rel.no]
  refine⟨if k∈ks then{e with fz:=Aa}else e,by rw[hget,if_neg hkj,k1];rfl,?_⟩;have k3:=Bq (β':=β) k2 rfl (zAg (β:=β) (st:=st) ks) (AC _);split
  ·exact k3.like rfl rfl rfl rfl rfl
  exact k3
 ·rw[hget]at he;by_cases hkj:k=j
  ·subst hkj;rw[if_pos rfl]at he;cases he;rcases hi' with hi'|⟨k',hk',c',e',m1,m2,m3⟩
   ·have:=h.fz k b c o ej hk hj hi'
    grind
   have:=h.inj k' k b c' c m1 hk
   subst this;exact absurd hk' hjk
  rw[if_neg hkj]at he;obtain⟨e0,he0,rfl⟩:=Ar.1 he;rcases hi' with hi'|⟨k',hk',c',e',m1,m2,m3⟩
  ·have:=h.fz k b c o e0 hk he0 hi'
   grind
  have:=h.inj k' k b c' c m1 hk
  grind
 ·rw[Bc,zAa];exact h.dom k y hk
 rcases hb with hb|⟨k',_,c',_,m1,_⟩;all_goals grind
theorem Weak.osr{s:Nat}{k off n m:Nat}{wh:Bool}{cs:List D}(hs:sl[s]?=Ab (.osl k off n m wh))(hx:frz Aa st zAu (.osl k off n m wh)=Ab (.row cs n,[k])):Weak T sl st (sl.set s (.osr k off n m wh cs)) (zAo st [k]):=by
 intro β I w tm h;obtain⟨v,hv,hr⟩:=h.rel.get s _ hs;have hfr:=zBq h.sr.weak _ _ _ _ v hx hr;have hget:∀j,(zAo st [k])[j]?=(st[j]?).map λe=>if j∈[k]then{e with fz:=Aa}else e:=λj=>zBa [k] st j
 refine⟨β,fixI I β st [k],⟨?_,λj b c hj=>?_,h.inj,λj b c o e hj he hi'=>?_,λj y hj=>?_,zDt h.sr.weak h.imb [k],h.gl.mono (zAg [k])⟩,⟨zAg [k],Ak _,λ_ _ _=>rfl,rfl,rfl,rfl,Ak _,λj b c hj=> .inl ⟨j,c,hj⟩,λb o hb=>?_⟩,AM _ _⟩
 ·have h0:=A7 (zAg (β:=β) (st:=st) [k]) β β (AC _) _ _ h.rel;refine RelT.of_get (by rw[Bc,h0.length]) λi d u hd hu=>?_;rw[Ca]at hd;split at hd
  ·rename_i e;subst e;split at hd
   ·cases hd;rw[hv]at hu;cases hu;simp only[Rel]at hr hfr⊢;exact⟨hr,hfr⟩
   cases hd
  obtain⟨u',g1,g2⟩:=h0.get i d hd;rw[hu]at g1;cases g1;exact g2
 ·obtain⟨e,k1,k2⟩:=h.sr j b c hj;refine⟨if j∈[k]then{e with fz:=Aa}else e,by rw[hget,k1];rfl,?_⟩;have k3:=Bq (β':=β) k2 rfl (zAg (β:=β) (st:=st) [k]) (AC _);split
  ·exact k3.like rfl rfl rfl rfl rfl
  exact k3
 ·rw[hget]at he;obtain⟨e0,he0,rfl⟩:=Ar.1 he;rcases hi' with hi'|⟨k',hk',c',e',m1,m2,m3⟩
  ·have:=h.fz j b c o e0 hj he0 hi'
   grind
  have:=h.inj k' j b c' c m1 hj
  grind
 ·rw[zAa];exact h.dom j y hj
 rcases hb with hb|⟨k',_,c',_,m1,_⟩;all_goals grind
theorem Weak.unsh{k:Nat}{e:Bk}(hk:st[k]?=Ab e)(hs:e.kd= .sh)(ha:e.arr=Aa)(hn:∀j,zBd j e.cells=Ac):Weak T sl st sl (st.set k {e with kd:= .plain}):=by
 intro β I w tm h;have hkl:k<st.length:=(AZ.1 hk).1;have hm:e.kd.isMap=false:=by rw[hs];rfl
 have hget:∀j,(st.set k {e with kd:= .plain})[j]?=if j=k then Ab {e with kd:= .plain}else st[j]?:=λj=>by
  grind
 refine⟨β,I,⟨h.rel,λj b c hj=>?_,h.inj,λj b c o e' hj he hi=>?_,λj y hj=>?_,h.imb,h.gl⟩,AQ _ _ _,AM _ _⟩
 ·obtain⟨e',k1,k2⟩:=h.sr j b c hj;by_cases hjk:j=k
  ·subst hjk;rw[hk]at k1;cases k1;refine⟨_,(hget j).trans (if_pos rfl),?_⟩;obtain⟨cur,c1,c2,c3,c4⟩:=k2.c hm;refine OwnC.r ⟨cur,c1,c2,?_,c4⟩ rfl;have e1:e.nob=false:=by unfold A9;rw[hs,ha];rfl
   have e2:({e with kd:= .plain}:Bk).nob=true:=by unfold A9;rw[ha];rfl
   rw[e1]at c3;rw[e2];simp only[if_true,AS,if_false]at c3⊢;grind [RelL.congr]
  grind
 ·rw[hget]at he;by_cases hjk:j=k
  ·subst hjk;rw[if_pos rfl]at he;cases he
   have:=h.fz j b c o e hj hk hi
   grind
  rw[if_neg hjk]at he;exact h.fz j b c o e' hj he hi
 rw[Bc];exact h.dom j y hj
theorem Weak.nilC{j i:Nat}{ej:Bk}(b:Bk)(hj:st[j]?=Ab ej)(hm:ej.kd.isMap=Ac)(hf:ej.nob=Ac)(hi:ej.cells[i]?=Ab (.val (.slice Ae 0 0))):Weak T sl st sl (st.set j {ej with cells:=ej.cells.set i (.osl st.length 0 0 0 Aa)}++[b]):=by
 intro β I w tm h;have hjl:j<st.length:=(AZ.1 hj).1;have hget:∀k,k<st.length->(st.set j {ej with cells:=ej.cells.set i (.osl st.length 0 0 0 Aa)}++[b])[k]?=if k=j then Ab {ej with cells:=ej.cells.set i (.osl st.length 0 0 0 Aa)}else st[k]?:=λk hk=>by
  grind
 refine⟨β,I,⟨h.rel,λk b' c hk=>?_,h.inj,λk b' c o e hk he hi'=>?_,λk y hk=>?_,h.imb,h.gl⟩,AQ _ _ _,AM _ _⟩
 ·obtain⟨e,k1,k2⟩:=h.sr k b' c hk;rw[hget k (h.dom k _ hk)];by_cases hkj:k=j
  ·subst hkj;rw[hj]at k1;cases k1;refine⟨_,if_pos rfl,?_⟩;obtain⟨cur,c1,c2,c3,c4⟩:=k2.c hm;refine OwnC.r ⟨cur,c1,by simpa using c2,?_,c4⟩ hm;have hn2:({ej with cells:=ej.cells.set i (.osl st.length 0 0 0 Aa)}:Bk).nob=false:=hf;rw[hn2];rw[hf]at c3;simp only[Bc,AS,if_false]at c3⊢;refine c3.putAt λd v hd hv hr=>?_;rw[hi]at hd;cases hd;simp only[Rel]at hr⊢;grind
  grind
 ·have hlt:=h.dom k _ hk;rw[hget k hlt]at he;by_cases hkj:k=j
  ·subst hkj;rw[if_pos rfl]at he;cases he
   have:=h.fz k b' c o ej hk hj hi'
   grind
  rw[if_neg hkj]at he;exact h.fz k b' c o e hk he hi'
 rw[Bp,Bc]
 have:=h.dom k y hk
 omega
theorem zB9{P:Program}{b:Code}{Q:Exit->List D->List Bk->Prop}{sl':List D}{st':List Bk}(h:Weak T sl st sl' st')(k:awp P T b Q sl' st'):zX P T b Q sl st:=⟨_,_,h,k⟩
end
end
section
open Go.Shelf
def Tryz.lays125_ren:Go.Shelf.Ren:=⟨λ|125=>86|128=>118|129=>119|n=>n,λ|46=>155|3=>3|51=>97|53=>188|4=>4|5=>5|9=>9|n=>n,λ|n=>n⟩
theorem Tryz.lays125:Go.Proofs.Lays.n125 Ag Tryz.lays125_ren:={
 mixed:=by kernel_rfl
 f125:=BU.trans (congrArg Ab (by kernel_rfl))
 f128:=BV.trans (congrArg Ab (by kernel_rfl))
 f129:=BB.trans (congrArg Ab (by kernel_rfl))
 t3:=Tryz.underlying3
 a3:=Tryz.isAgg3
 z3:=Tryz.sizeOf3
 v3:=Tryz.zeroValue3
 t4:=Tryz.underlying4
 a4:=Tryz.isAgg4
 z4:=Tryz.sizeOf4
 v4:=Tryz.zeroValue4
 t5:=Tryz.underlying5
 a5:=Tryz.isAgg5
 z5:=Tryz.sizeOf5
 v5:=Tryz.zeroValue5
 t9:=Tryz.underlying9
 a9:=Tryz.isAgg9
 z9:=Tryz.sizeOf9
 v9:=Tryz.zeroValue9
 t46:=Tryz.underlying155
 a46:=Tryz.isAgg155
 z46:=Tryz.sizeOf155
 v46:=Tryz.zeroValue155
 t51:=Tryz.underlying97
 a51:=Tryz.isAgg97
 z51:=Tryz.sizeOf97
 v51:=Tryz.zeroValue97
 t53:=Tryz.underlying188
 a53:=Tryz.isAgg188
 z53:=Tryz.sizeOf188
 v53:=Tryz.zeroValue188}
theorem Tryz.bits_Len(x:Int)(w:World)(h0:0<=x)(h1:x<=18446744073709551615):
  Calls Ag 86 #[.int .u64 x] w λe w'=>e= .returned (.int .i64 (Bd x.toNat))/\w'=w:=Any.bits_Len Tryz.lays125 x w h0 h1
open Go.RowKit in
def Tryz.lays106_ren:Go.Shelf.Ren:=⟨λ|106=>95|213=>135|265=>146|n=>n,λ|9=>9|3=>3|n=>n,λ|n=>n⟩
theorem Tryz.lays106:Go.Proofs.Lays.n106 Ag Tryz.lays106_ren:={
 mixed:=by kernel_rfl
 f106:=Tryz.func95.trans (congrArg Ab (by kernel_rfl))
 f213:=Tryz.func135.trans (congrArg Ab (by kernel_rfl))
 f265:=Tryz.func146.trans (congrArg Ab (by kernel_rfl))
 t3:=Tryz.underlying3
 a3:=Tryz.isAgg3
 z3:=Tryz.sizeOf3
 v3:=Tryz.zeroValue3
 t9:=Tryz.underlying9
 a9:=Tryz.isAgg9
 z9:=Tryz.sizeOf9
 v9:=Tryz.zeroValue9}
open Go.RowKit in
theorem Tryz.strings_Compare(a b:ByteArray)(w:World):
  Calls Ag 95 #[.string a, .string b] w λe w'=>e= .returned (.int .i64 (Av a.data.toList b.data.toList))/\w'=w:=Any.strings_Compare Tryz.lays106 a b w
open Go.RowKit in
def Tryz.lays122_ren:Go.Shelf.Ren:=⟨λ|122=>79|215=>108|n=>n,λ|3=>3|4=>4|n=>n,λ|n=>n⟩
theorem Tryz.lays122:Go.Proofs.Lays.n122 Ag Tryz.lays122_ren:={
 mixed:=by kernel_rfl
 f122:=Tryz.func79.trans (congrArg Ab (by kernel_rfl))
 f215:=Tryz.func108.trans (congrArg Ab (by kernel_rfl))
 t3:=Tryz.underlying3
 a3:=Tryz.isAgg3
 z3:=Tryz.sizeOf3
 v3:=Tryz.zeroValue3
 t4:=Tryz.underlying4
 a4:=Tryz.isAgg4
 z4:=Tryz.sizeOf4
 v4:=Tryz.zeroValue4}
open Go.RowKit in
theorem Tryz.cmp_Compare_int(x y:Int)(w:World):
  Calls Ag 79 #[.int .i64 x, .int .i64 y] w λe w'=>e= .returned (.int .i64 (Lib.compareInt x y))/\w'=w:=Any.cmp_Compare_int Tryz.lays122 x y w
def Tryz.lays129_ren:Go.Shelf.Ren:=⟨λ|129=>119|n=>n,λ|53=>188|3=>3|4=>4|46=>155|5=>5|9=>9|n=>n,λ|n=>n⟩
theorem Tryz.lays129:Go.Proofs.Lays.n129 Ag Tryz.lays129_ren:={
 mixed:=by kernel_rfl
 f129:=BB.trans (congrArg Ab (by kernel_rfl))
 t3:=Tryz.underlying3
 a3:=Tryz.isAgg3
 z3:=Tryz.sizeOf3
 v3:=Tryz.zeroValue3
 t4:=Tryz.underlying4
 a4:=Tryz.isAgg4
 z4:=Tryz.sizeOf4
 v4:=Tryz.zeroValue4
 t5:=Tryz.underlying5
 a5:=Tryz.isAgg5
 z5:=Tryz.sizeOf5
 v5:=Tryz.zeroValue5
 t9:=Tryz.underlying9
 a9:=Tryz.isAgg9
 z9:=Tryz.sizeOf9
 v9:=Tryz.zeroValue9
 t46:=Tryz.underlying155
 a46:=Tryz.isAgg155
 z46:=Tryz.sizeOf155
 v46:=Tryz.zeroValue155
 t53:=Tryz.underlying188
 a53:=Tryz.isAgg188
 z53:=Tryz.sizeOf188
 v53:=Tryz.zeroValue188}
theorem Tryz.bits_Len64(x:Int)(w:World)(h0:0<=x)(h1:x<=18446744073709551615):
  Calls Ag 119 #[.int .u64 x] w λe w'=>e= .returned (.int .i64 (Bd x.toNat))/\w'=w:=Any.bits_Len64 Tryz.lays129 x w h0 h1
def Tryz.lays317_ren:Go.Shelf.Ren:=⟨λ|317=>180|n=>n,λ|3=>3|46=>155|n=>n,λ|n=>n⟩
theorem Tryz.lays317:Go.Proofs.Lays.n317 Ag Tryz.lays317_ren:={
 mixed:=by kernel_rfl
 f317:=Tryz.func180.trans (congrArg Ab (by kernel_rfl))
 t3:=Tryz.underlying3
 a3:=Tryz.isAgg3
 z3:=Tryz.sizeOf3
 v3:=Tryz.zeroValue3
 t46:=Tryz.underlying155
 a46:=Tryz.isAgg155
 z46:=Tryz.sizeOf155
 v46:=Tryz.zeroValue155}
open Go.Lib in
theorem Tryz.internal_strconv_log10Pow2(x:Nat)(h:x<=64)(w:World):
  Calls Ag 180 #[.int .i64 x] w λe w'=>e= .returned (.int .i64 (Lib.l10 x))/\w'=w:=Any.internal_strconv_log10Pow2 Tryz.lays317 x h w
def Tryz.lays318_ren:Go.Shelf.Ren:=⟨λ|318=>181|n=>n,λ|3=>3|4=>4|n=>n,λ|n=>n⟩
theorem Tryz.lays318:Go.Proofs.Lays.n318 Ag Tryz.lays318_ren:={
 mixed:=by kernel_rfl
 f318:=Tryz.func181.trans (congrArg Ab (by kernel_rfl))
 t3:=Tryz.underlying3
 a3:=Tryz.isAgg3
 z3:=Tryz.sizeOf3
 v3:=Tryz.zeroValue3
 t4:=Tryz.underlying4
 a4:=Tryz.isAgg4
 z4:=Tryz.sizeOf4
 v4:=Tryz.zeroValue4}
open Go.Lib in
theorem Tryz.internal_strconv_bool2_int(b:Bool)(w:World):
  Calls Ag 181 #[.bool b] w λe w'=>e= .returned (.int .i64 (if b then 1 else 0))/\w'=w:=Any.internal_strconv_bool2_int Tryz.lays318 b w
def Tryz.lays283_ren:Go.Shelf.Ren:=⟨λ|283=>175|n=>n,λ|3=>3|9=>9|4=>4|n=>n,λ|n=>n⟩
theorem Tryz.lays283:Go.Proofs.Lays.n283 Ag Tryz.lays283_ren:={
 mixed:=by kernel_rfl
 f283:=Tryz.func175.trans (congrArg Ab (by kernel_rfl))
 t3:=Tryz.underlying3
 a3:=Tryz.isAgg3
 z3:=Tryz.sizeOf3
 v3:=Tryz.zeroValue3
 t4:=Tryz.underlying4
 a4:=Tryz.isAgg4
 z4:=Tryz.sizeOf4
 v4:=Tryz.zeroValue4
 t9:=Tryz.underlying9
 a9:=Tryz.isAgg9
 z9:=Tryz.sizeOf9
 v9:=Tryz.zeroValue9}
open Go.Lib in
theorem Tryz.internal_strconv_small(i:Nat)(h:i<100)(w:World):
  Calls Ag 175 #[.int .i64 i] w λe w'=>e= .returned (.string ⟨(Lib.decDigits i).toArray⟩)/\w'=w:=Any.internal_strconv_small Tryz.lays283 i h w
open Go.Lib in
def Tryz.lays285_ren:Go.Shelf.Ren:=⟨λ|285=>177|n=>n,λ|37=>227|53=>188|3=>3|4=>4|51=>97|9=>9|5=>5|0=>0|n=>n,λ|n=>n⟩
theorem Tryz.lays285:Go.Proofs.Lays.n285 Ag Tryz.lays285_ren:={
 mixed:=by kernel_rfl
 f285:=Tryz.func177.trans (congrArg Ab (by kernel_rfl))
 t0:=Tryz.underlying0
 a0:=Tryz.isAgg0
 z0:=Tryz.sizeOf0
 v0:=Tryz.zeroValue0
 t3:=Tryz.underlying3
 a3:=Tryz.isAgg3
 z3:=Tryz.sizeOf3
 v3:=Tryz.zeroValue3
 t4:=Tryz.underlying4
 a4:=Tryz.isAgg4
 z4:=Tryz.sizeOf4
 v4:=Tryz.zeroValue4
 t5:=Tryz.underlying5
 a5:=Tryz.isAgg5
 z5:=Tryz.sizeOf5
 v5:=Tryz.zeroValue5
 t9:=Tryz.underlying9
 a9:=Tryz.isAgg9
 z9:=Tryz.sizeOf9
 v9:=Tryz.zeroValue9
 t37:=Tryz.underlying227
 a37:=Tryz.isAgg227
 z37:=Tryz.sizeOf227
 v37:=Tryz.zeroValue227
 t51:=Tryz.underlying97
 a51:=Tryz.isAgg97
 z51:=Tryz.sizeOf97
 v51:=Tryz.zeroValue97
 t53:=Tryz.underlying188
 a53:=Tryz.isAgg188
 z53:=Tryz.sizeOf188
 v53:=Tryz.zeroValue188}
open Go.RowKit Go.Sort Go.Lib in
theorem Tryz.internal_strconv_formatBase10(blk off cap:Nat)(u:Nat)(d:Array UInt8)(w:World)(hH:Holds (λ(b:UInt8)=>Au .u8 (b.toNat:Int)) w blk off d)(hu:u<10^d.size)(hu64:u<18446744073709551616)(hsz:d.size<4611686018427387904):
  Calls Ag 177 #[.slice (Ab ⟨blk,off,Ae⟩) d.size cap, .int .u64 u] w λe w'=>
   e= .returned (.tuple #[])/\∃(n v':Nat)(dk:Array UInt8),w'=(putRow (λ(b:UInt8)=>Au .u8 (b.toNat:Int)) w blk off dk).drewN n/\FmtInv d.size u 0 v' dk:=Any.internal_strconv_formatBase10 Tryz.lays285 blk off cap u d w hH hu hu64 hsz
def Tryz.lays189_ren:Go.Shelf.Ren:=⟨λ|189=>65|125=>86|257=>85|128=>118|129=>119|294=>109|295=>110|296=>111|297=>112|298=>113|299=>114|216=>115|300=>116|301=>117|328=>137|329=>138|330=>139|331=>140|332=>141|215=>108|343=>155|n=>n,λ|28=>23|3=>3|46=>155|0=>0|51=>97|53=>188|4=>4|183=>180|182=>179|131=>106|5=>5|9=>9|218=>208|222=>212|228=>224|229=>225|n=>n,λ|n=>n⟩
theorem Tryz.lays189:Go.Proofs.Lays.n189 Ag Tryz.lays189_ren:={
 mixed:=by kernel_rfl
 f125:=BU.trans (congrArg Ab (by kernel_rfl))
 f128:=BV.trans (congrArg Ab (by kernel_rfl))
 f129:=BB.trans (congrArg Ab (by kernel_rfl))
 f189:=Tryz.func65.trans (congrArg Ab (by kernel_rfl))
 f215:=Tryz.func108.trans (congrArg Ab (by kernel_rfl))
 f216:=Tryz.func115.trans (congrArg Ab (by kernel_rfl))
 f257:=Tryz.func85.trans (congrArg Ab (by kernel_rfl))
 f294:=Tryz.func109.trans (congrArg Ab (by kernel_rfl))
 f295:=Tryz.func110.trans (congrArg Ab (by kernel_rfl))
 f296:=Tryz.func111.trans (congrArg Ab (by kernel_rfl))
 f297:=Tryz.func112.trans (congrArg Ab (by kernel_rfl))
 f298:=Tryz.func113.trans (congrArg Ab (by kernel_rfl))
 f299:=Tryz.func114.trans (congrArg Ab (by kernel_rfl))
 f300:=Tryz.func116.trans (congrArg Ab (by kernel_rfl))
 f301:=Tryz.func117.trans (congrArg Ab (by kernel_rfl))
 f328:=Tryz.func137.trans (congrArg Ab (by kernel_rfl))
 f329:=Tryz.func138.trans (congrArg Ab (by kernel_rfl))
 f330:=Tryz.func139.trans (congrArg Ab (by kernel_rfl))
 f331:=Tryz.func140.trans (congrArg Ab (by kernel_rfl))
 f332:=Tryz.func141.trans (congrArg Ab (by kernel_rfl))
 f343:=Tryz.func155.trans (congrArg Ab (by kernel_rfl))
 t0:=Tryz.underlying0
 a0:=Tryz.isAgg0
 z0:=Tryz.sizeOf0
 v0:=Tryz.zeroValue0
 t3:=Tryz.underlying3
 a3:=Tryz.isAgg3
 z3:=Tryz.sizeOf3
 v3:=Tryz.zeroValue3
 t4:=Tryz.underlying4
 a4:=Tryz.isAgg4
 z4:=Tryz.sizeOf4
 v4:=Tryz.zeroValue4
 t5:=Tryz.underlying5
 a5:=Tryz.isAgg5
 z5:=Tryz.sizeOf5
 v5:=Tryz.zeroValue5
 t9:=Tryz.underlying9
 a9:=Tryz.isAgg9
 z9:=Tryz.sizeOf9
 v9:=Tryz.zeroValue9
 t28:=Tryz.underlying23
 a28:=Tryz.isAgg23
 z28:=Tryz.sizeOf23
 v28:=Tryz.zeroValue23
 t46:=Tryz.underlying155
 a46:=Tryz.isAgg155
 z46:=Tryz.sizeOf155
 v46:=Tryz.zeroValue155
 t51:=Tryz.underlying97
 a51:=Tryz.isAgg97
 z51:=Tryz.sizeOf97
 v51:=Tryz.zeroValue97
 t53:=Tryz.underlying188
 a53:=Tryz.isAgg188
 z53:=Tryz.sizeOf188
 v53:=Tryz.zeroValue188
 t131:=Tryz.underlying106
 a131:=Tryz.isAgg106
 z131:=Tryz.sizeOf106
 v131:=Tryz.zeroValue106
 t182:=Tryz.underlying179
 a182:=Tryz.isAgg179
 z182:=Tryz.sizeOf179
 v182:=Tryz.zeroValue179
 t183:=Tryz.underlying180
 a183:=Tryz.isAgg180
 z183:=Tryz.sizeOf180
 v183:=Tryz.zeroValue180
 t218:=Tryz.underlying208
 a218:=Tryz.isAgg208
 z218:=Tryz.sizeOf208
 v218:=Tryz.zeroValue208
 t222:=Tryz.underlying212
 a222:=Tryz.isAgg212
 z222:=Tryz.sizeOf212
 v222:=Tryz.zeroValue212
 t228:=Tryz.underlying224
 a228:=Tryz.isAgg224
 z228:=Tryz.sizeOf224
 v228:=Tryz.zeroValue224
 t229:=Tryz.underlying225
 a229:=Tryz.isAgg225
 z229:=Tryz.sizeOf225
 v229:=Tryz.zeroValue225}
open Go.RowKit Go.Sort Go.Lib in
open Go.RowKit Go.Sort Go.Lib in
open Go.RowKit Go.Sort Go.Lib in
open Go.RowKit Go.Sort Go.Lib in
open Go.RowKit Go.Sort Go.Lib in
open Go.RowKit Go.Lib in
open Go.RowKit Go.Lib in
open Go.RowKit Go.Lib in
open Go.RowKit Go.Lib in
open Go.RowKit Go.Lib in
def Tryz.laysNm220_ren:Go.Shelf.Ren:=⟨λ|20=>66|n=>n,λ|22=>23|3=>3|4=>4|0=>0|n=>n,λ|n=>n⟩
theorem Tryz.laysNm220:Go.Proofs.Lays2.n20 Ag Tryz.laysNm220_ren:={
 mixed:=by kernel_rfl
 f20:=Tryz.func66.trans (congrArg Ab (by kernel_rfl))
 t0:=Tryz.underlying0
 a0:=Tryz.isAgg0
 z0:=Tryz.sizeOf0
 v0:=Tryz.zeroValue0
 t3:=Tryz.underlying3
 a3:=Tryz.isAgg3
 z3:=Tryz.sizeOf3
 v3:=Tryz.zeroValue3
 t4:=Tryz.underlying4
 a4:=Tryz.isAgg4
 z4:=Tryz.sizeOf4
 v4:=Tryz.zeroValue4
 t22:=Tryz.underlying23
 a22:=Tryz.isAgg23
 z22:=Tryz.sizeOf23
 v22:=Tryz.zeroValue23
 i3:=by kernel_rfl}
open Go.RowKit Go.Lib Go.Sort in
open Go.RowKit Go.Lib Go.Sort in
open Go.RowKit Go.Lib Go.Sort in
theorem Tryz.slices_Compact_int_empty(a:Option Addr)(cap:Nat)(w:World):
  Calls Ag 66 #[.slice a 0 cap] w λe w'=>e= .returned (.slice a 0 cap)/\w'=w:=Any.slices_Compact_int_empty Tryz.laysNm220 a cap w
open Go.RowKit Go.Lib in
open Go.RowKit Go.Lib in
open Go.RowKit Go.Lib Go.Sort in
theorem Tryz.slices_Compact_int_cells(b off n c:Nat)(zs:List Int)(w:World)(hz:n<=zs.length)(hbig:n<=9223372036854775807)(hcap:n<=c)(hc:∀j,j<zs.length->w.cell? ⟨b,off+j,Ae⟩=Ab (.int .i64 (zs.getD j 0)))(hf:∀j,j<n->w.frozen? ⟨b,off+j,Ae⟩=Ac):
  Calls Ag 66 #[.slice (Ab ⟨b,off,Ae⟩) n c] w λe w'=>e= .returned (.slice (Ab ⟨b,off,Ae⟩) (Lib.compact (zs.take n)).length c)/\∃q,w'=(w.drewN q).setCells b off ((Lib.compact (zs.take n)++AA (n-(Lib.compact (zs.take n)).length) 0).map (Au .i64)):=Any.slices_Compact_int_cells Tryz.laysNm220 b off n c zs w hz hbig hcap hc hf
open Go.RowKit Go.Lib in
end
section
open Go.Shelf
open Go.Sort Go.RowKit in
theorem Tryz.slices_Sort_int(blk off cap:Nat)(zs:List Int)(w:World)(hH:Holds (Au .i64) w blk off zs.toArray)(hblk:blk<w.heap.size)(hsz:zs.length<4611686018427387904):
  Calls Ag 65 #[.slice (Ab ⟨blk,off,Ae⟩) zs.length cap] w λe w'=>
   e= .returned (.tuple #[])/\∃n os,w'=grow (putRow (Au .i64) (Sort.ahead w n) blk off (zs.mergeSort λx y=>decide (x<=y)).toArray) os:=Any.slices_Sort_int Tryz.lays189 blk off cap zs w hH hblk hsz
open Go.RowKit Go.Sort in
theorem Tryz.slices_Sort_int_none(p:Option Addr)(cap:Nat)(w:World):
  Calls Ag 65 #[.slice p 0 cap] w λe w'=>e= .returned (.tuple #[])/\w'=w:=Any.slices_Sort_int_none Tryz.lays189 p cap w
def Tryz.laysSlF14_f157_ren:Go.Shelf.Ren:=⟨λ|14=>157|20=>162|21=>163|22=>164|23=>165|24=>166|25=>167|26=>168|27=>169|46=>172|47=>138|48=>139|49=>173|50=>174|15=>86|57=>179|28=>118|29=>119|n=>n,λ|24=>3|22=>23|3=>3|25=>147|4=>4|0=>0|46=>180|45=>179|50=>106|66=>208|39=>155|55=>188|70=>212|76=>224|77=>225|53=>97|5=>5|9=>9|n=>n,λ|n=>n⟩
theorem Tryz.laysSlF14_f157:Go.Proofs.SlLaysF.n14 Ag Tryz.laysSlF14_f157_ren:={
 mixed:=by kernel_rfl
 f14:=⟨Tryz.f157.name,by decide,Tryz.func157.trans (congrArg Ab (by kernel_rfl))⟩
 f15:=BU.trans (congrArg Ab (by kernel_rfl))
 f20:=⟨Tryz.f162.name,by decide,Tryz.func162.trans (congrArg Ab (by kernel_rfl))⟩
 f21:=⟨Tryz.f163.name,by decide,Tryz.func163.trans (congrArg Ab (by kernel_rfl))⟩
 f22:=⟨Tryz.f164.name,by decide,Tryz.func164.trans (congrArg Ab (by kernel_rfl))⟩
 f23:=⟨Tryz.f165.name,by decide,Tryz.func165.trans (congrArg Ab (by kernel_rfl))⟩
 f24:=⟨Tryz.f166.name,by decide,Tryz.func166.trans (congrArg Ab (by kernel_rfl))⟩
 f25:=⟨Tryz.f167.name,by decide,Tryz.func167.trans (congrArg Ab (by kernel_rfl))⟩
 f26:=⟨Tryz.f168.name,by decide,Tryz.func168.trans (congrArg Ab (by kernel_rfl))⟩
 f27:=⟨Tryz.f169.name,by decide,Tryz.func169.trans (congrArg Ab (by kernel_rfl))⟩
 f28:=BV.trans (congrArg Ab (by kernel_rfl))
 f29:=BB.trans (congrArg Ab (by kernel_rfl))
 f46:=⟨Tryz.f172.name,by decide,Tryz.func172.trans (congrArg Ab (by kernel_rfl))⟩
 f47:=Tryz.func138.trans (congrArg Ab (by kernel_rfl))
 f48:=Tryz.func139.trans (congrArg Ab (by kernel_rfl))
 f49:=⟨Tryz.f173.name,by decide,Tryz.func173.trans (congrArg Ab (by kernel_rfl))⟩
 f50:=⟨Tryz.f174.name,by decide,Tryz.func174.trans (congrArg Ab (by kernel_rfl))⟩
 f57:=⟨Tryz.f179.name,by decide,Tryz.func179.trans (congrArg Ab (by kernel_rfl))⟩
 t0:=Tryz.underlying0
 a0:=Tryz.isAgg0
 z0:=Tryz.sizeOf0
 v0:=Tryz.zeroValue0
 t3:=Tryz.underlying3
 a3:=Tryz.isAgg3
 z3:=Tryz.sizeOf3
 v3:=Tryz.zeroValue3
 t4:=Tryz.underlying4
 a4:=Tryz.isAgg4
 z4:=Tryz.sizeOf4
 v4:=Tryz.zeroValue4
 t5:=Tryz.underlying5
 a5:=Tryz.isAgg5
 z5:=Tryz.sizeOf5
 v5:=Tryz.zeroValue5
 t9:=Tryz.underlying9
 a9:=Tryz.isAgg9
 z9:=Tryz.sizeOf9
 v9:=Tryz.zeroValue9
 t22:=Tryz.underlying23
 a22:=Tryz.isAgg23
 z22:=Tryz.sizeOf23
 v22:=Tryz.zeroValue23
 a24:=Tryz.isAgg3
 z24:=Tryz.sizeOf3
 t25:=Tryz.underlying147
 a25:=Tryz.isAgg147
 z25:=Tryz.sizeOf147
 v25:=Tryz.zeroValue147
 t39:=Tryz.underlying155
 a39:=Tryz.isAgg155
 z39:=Tryz.sizeOf155
 v39:=Tryz.zeroValue155
 t45:=Tryz.underlying179
 a45:=Tryz.isAgg179
 z45:=Tryz.sizeOf179
 v45:=Tryz.zeroValue179
 t46:=Tryz.underlying180
 a46:=Tryz.isAgg180
 z46:=Tryz.sizeOf180
 v46:=Tryz.zeroValue180
 t50:=Tryz.underlying106
 a50:=Tryz.isAgg106
 z50:=Tryz.sizeOf106
 v50:=Tryz.zeroValue106
 t53:=Tryz.underlying97
 a53:=Tryz.isAgg97
 z53:=Tryz.sizeOf97
 v53:=Tryz.zeroValue97
 t55:=Tryz.underlying188
 a55:=Tryz.isAgg188
 z55:=Tryz.sizeOf188
 v55:=Tryz.zeroValue188
 t66:=Tryz.underlying208
 a66:=Tryz.isAgg208
 z66:=Tryz.sizeOf208
 v66:=Tryz.zeroValue208
 t70:=Tryz.underlying212
 a70:=Tryz.isAgg212
 z70:=Tryz.sizeOf212
 v70:=Tryz.zeroValue212
 t76:=Tryz.underlying224
 a76:=Tryz.isAgg224
 z76:=Tryz.sizeOf224
 v76:=Tryz.zeroValue224
 t77:=Tryz.underlying225
 a77:=Tryz.isAgg225
 z77:=Tryz.sizeOf225
 v77:=Tryz.zeroValue225}
open Go.RowKit Go.Lib Go.Sort in
theorem Tryz.pdqsortCmpFunc_all{α:Type}[Inhabited α](enc:α->Value)(cf:α->α->Int)(g:Nat)(cb:Array Value)(hO:SWO (ltOf cf))(blk off cap:Nat)(d0:Array α)(w0:World)(eg:∀args w,(callFunc g args).run Ag w= .ok (.enter g args) w)(hcmp:CmpLays1 Ag g cb enc cf blk off d0.size w0)(R:Row1 enc w0 blk off d0):
  ∀(N a b limit:Nat)(d:Array α)(w:World),b-a<N->d0.size=d.size->SW enc w0 blk off d w->a<=b->b<=d.size->d.size<4611686018427387904->limit<4611686018427387904->Below (ltOf cf) a b d->
  Calls Ag 157 #[.slice (Ab ⟨blk,off,Ae⟩) d.size cap, .int .i64 a, .int .i64 b, .int .i64 limit, .func (.func g) #[] cb] w λe w'=>e= .returned (.tuple #[])/\SW enc w0 blk off (pdq (ltOf cf) d a b limit Aa Aa) w':=Any.pdqsortCmpFunc_all Tryz.laysSlF14_f157 enc cf g cb hO blk off cap d0 w0 eg hcmp R
end
section
open Go.RowKit Go.Sort Go.Lib Go.Shelf
section
variable {P : Program} {I : Im} {w : World} {β : Be} {sl : List D} {st : List Bk} {tm : List Value}
theorem zCx(w:World)(os:Array Obj){b:Nat}(h:b<w.heap.size):(grow w os).heap[b]?=w.heap[b]?:=by
 simp[grow,Array.getElem?_append_left h]
theorem Fix.grow(hi:ImB I w)(os:Array Obj):Fix I w I (grow w os):=λb o h=>⟨h,λv hv=>by
 simp only[BT]at hv⊢;rw[zCx w os (hi b o h)];exact hv,λks vs hm=>hm.of_heap (zCx w os hm.lt)⟩
theorem Sim.grow(h:Sim β I w sl st tm)(os:Array Obj):Sim β I (grow w os) sl st tm:=by
 have hf:=Fix.grow h.imb os;refine⟨A7 hf β β (AC _) _ _ h.rel,λk b c hk=>?_,h.inj,h.fz,h.dom,λb o hb=>?_,h.gl.mono hf⟩
 ·obtain⟨e,h1,h2⟩:=h.sr k b c hk;exact⟨e,h1,h2.mono (zCx w os h2.lt) hf (AC _)⟩
 have:=h.imb b o hb
 simp[Go.Sort.grow];omega
theorem Stp.grow(hi:ImB I w)(β:Be)(os:Array Obj):Stp β I w β I (grow w os):=⟨Fix.grow hi os,by simp[Go.Sort.grow],λb hb _=>zCx w os hb,rfl,rfl,rfl,Ak _,λk b c h=> .inl ⟨k,c,h⟩,λ_ _ h=> .inl h⟩
theorem zG4:∀(xs ys pre:List D),xs.length=ys.length->setAt (pre++xs) pre.length ys=pre++ys
 |xs,[],pre,hl=>by
  obtain rfl:xs=[]:=A0 (by simpa using hl);rfl
 |[],y::ys,pre,hl=>by simp at hl
 |x::xs,y::ys,pre,hl=>by
  simp only[setAt];have e1:(pre++x::xs).set pre.length y=(pre++[y])++xs:=by simp
  rw[e1]
  have:=zG4 xs ys (pre++[y]) (by simpa using hl)
  grind
theorem Sim.fzAll(h:Sim β I w sl st tm)(ks:List Nat):Sim β (fixI I β st ks) w sl (zAo st ks) tm:=by
 refine⟨A7 (zAg ks) β β (AC _) _ _ h.rel,λj b c hj=>?_,h.inj,λj b c o e hj he hi'=>?_,λj y hj=>?_,zDt h.sr.weak h.imb ks,h.gl.mono (zAg ks)⟩
 ·obtain⟨e,k1,k2⟩:=h.sr j b c hj;refine⟨if j∈ks then{e with fz:=Aa}else e,by rw[zBa,k1];rfl,?_⟩;have k3:=Bq (β':=β) k2 rfl (zAg (β:=β) (st:=st) ks) (AC _);split
  ·exact k3.like rfl rfl rfl rfl rfl
  exact k3
 ·rw[zBa]at he;obtain⟨e0,he0,rfl⟩:=Ar.1 he;rcases hi' with hi'|⟨k',hk',c',e',m1,m2,m3⟩
  ·have:=h.fz j b c o e0 hj he0 hi'
   grind
  have:=h.inj k' j b c' c m1 hj
  grind
 rw[zAa];exact h.dom j y hj
theorem Stp.fzAll(hi:Sim β I w sl st tm)(ks:List Nat):Stp β I w β (fixI I β st ks) w:=⟨zAg ks,Ak _,λ_ _ _=>rfl,rfl,rfl,rfl,Ak _,λk b c h=> .inl ⟨k,c,h⟩,λb o hb=>by
 rcases hb with hb|⟨k',_,c',_,m1,_⟩
 ·exact .inl hb
 exact .inr (.inr ⟨k',c',m1⟩)⟩
theorem zNk{f:FuncId}{k n:Nat}{e:Bk}{wh:Bool}{ds':List D}{us3:List Value}{g:FuncId}{caps caps':List D}{ks:List Nat}(he:st[k]?=Ab e)(ha:e.arr=Aa)(hkd:e.kd= .plain)(hf:e.fz=Ac)(hlen:e.cells.length=n)(hl':ds'.length=n)(hpos:0<n)
  (hfr:frz Aa st zAu (.clo (.func g) [] caps)=Ab (.clo (.func g) [] caps',ks))(hnk:k∉ks)
  (h:∀(I:Im) b c w us cb,ImB I w->Gl I w->(∀j,¬I b j)->RelT I w noB caps' cb->RelL I w noB e.cells us->(∃cur t,w.heap[b]?=Ab (.cells cur t (0,0)))->(∀j,j<n->w.cell? ⟨b,0+j,Ae⟩=Ab (us.getD j undef))->(∀j,j<n->w.frozen? ⟨b,0+j,Ae⟩=Ac)->n<=c->Calls P f (#[.slice (Ab ⟨b,0,Ae⟩) n c]++us3.toArray++#[.func (.func g) #[] cb.toArray]) w λx w'=>x= .returned (.tuple #[])/\∃vs q os,w'=grow ((w.drewN q).setCells b 0 vs) os/\RelL I w noB ds' vs):
  Acts P f (.osl k 0 n n wh::(us3.map .val++[.clo (.func g) [] caps])) st [] (.val (.tuple #[])) ((zAo st ks).set k {e with cells:=ds'}):=by
 intro β I w xs hr hsr hinj hfz hdom hi hg;simp only[RelT]at hr;obtain⟨v,ys,rfl,hr,hys⟩:=hr;have hsp:∀(us3:List Value)(ys:List Value),RelT I w β (us3.map .val++[.clo (.func g) [] caps]) ys->∃v3,ys=us3++[v3]/\Rel I w β (.clo (.func g) [] caps) v3:=by
  intro us3;induction us3 with
  |nil=>
   intro ys h;simp only[Bb,Ce,RelT]at h;grind
  |cons u us3 ih=>
   intro ys h;simp only[AI,BJ,RelT]at h;obtain⟨v,us,rfl,h1,h2⟩:=h;simp only[Rel]at h1;grind
 obtain⟨v3,rfl,hv3⟩:=hsp us3 ys hys;simp only[Rel]at hr;rcases hr with⟨e0,_,rfl⟩|⟨e0,_,_,a,c,rfl,_⟩|⟨b,c,cap,hb,rfl,k1,k2,k3⟩
 ·omega
 ·omega
 have hs00:Sim β I w ([]:List D) st ({tmps:=#[],defers:=[]}:Act).tmps.toList:=⟨by simp only[RelT],hsr,hinj,hfz,hdom,hi,hg⟩;have hs0:=hs00.fzAll ks;have hstp0:=Stp.fzAll hs00 ks;have hv3':=zBq hs00.sr.weak _ _ _ _ v3 hfr hv3;simp only[Rel]at hv3';obtain⟨vs0,cb,rfl,hn0,hcb⟩:=hv3';simp only[RelT]at hn0;subst hn0;have he2:(zAo st ks)[k]?=Ab e:=by rw[zBa,he];simp[hnk]
 have hni:e.kd.isMap=false:=by rw[hkd];rfl
 have hnob:e.nob=true:=by unfold A9;rw[hkd,ha];rfl
 obtain⟨e',he',ho⟩:=hs0.sr k b c hb;rw[he2]at he';cases he';obtain⟨cur,c1,c2,c3,c4⟩:=ho.c hni;rw[hnob]at c3;simp only[if_true]at c3;have hno:∀j,¬fixI I β st ks b j:=λj hij=>by
  have:=(hs0.fz k b c j e hb he2 hij).1
  rw[hf]at this;cases this
 have hlc:(cur.take e.cells.length).length=n:=by rw[<-c3.length];exact hlen
 have hcell:∀j,j<n->w.cell? ⟨b,0+j,Ae⟩=Ab ((cur.take e.cells.length).getD j undef)/\w.frozen? ⟨b,0+j,Ae⟩=false:=λj hj=>by
  have hlt:j<cur.length:=by rw[Bi]at hlc;omega
  refine⟨?_,frozen_of_row w b (0+j) cur.toArray e.ty c1⟩;rw[AP,Bo,if_pos (by omega),Ap hlt];simp[BT,c1,hlt]
 have e1:(#[Value.slice (Ab ⟨b,0,Ae⟩) n cap]++us3.toArray++#[Value.func (.func g) #[] cb.toArray])=(Value.slice (Ab ⟨b,0,Ae⟩) n cap::(us3++[Value.func (.func g) #[] cb.toArray])).toArray:=by apply Array.ext';simp
 rw[show(List.toArray ([]:List Value))=#[]from rfl,<-e1];refine(h (fixI I β st ks) b cap w (cur.take e.cells.length) cb hs0.imb hs0.gl hno hcb c3 ⟨_,_,c1⟩ (λj hj=>(hcell j hj).1) (λj hj=>(hcell j hj).2) k1).mono ?_;rintro x w' ⟨rfl,vs,q,os,rfl,hvs⟩;have hvs':RelL (fixI (fixI I β st ks) β (zAo st ks) []) (w.drewN q) (if e.nob then noB else β) ds' vs:=by
  rw[hnob];simp only[if_true];exact RelL.mono ((Fix.drew (fixI I β st ks) w q).trans (zAg [])) _ _ (AC _) _ _ hvs
 obtain⟨s1,s2,s3⟩:=(hs0.drew q).put (off:=0) (cs:=ds') (vs:=vs) (ks:=[]) hb he2 hf hni (by simp) hvs' (by omega) Ae undef;have hset2:setAt e.cells 0 ds'=ds':=zG4 e.cells ds' [] (by omega);rw[hset2]at s1;have s4:=s1.grow os;exact⟨_,β,_,rfl,s4.imb,hstp0.trans ((Stp.drew β _ w q).trans (s2.trans (Stp.grow s1.imb β os))),λ_ _ _ h=>h,s4.sr,s4.inj,s4.fz,s4.dom,by simp only[Rel]⟩
end
end
section
open Go.RowKit Go.Sort Go.Lib Go.Shelf
theorem zW9{w w':World}(h:Ext w w'):∃q os,w'=grow (w.drewN q) os:=by
 obtain⟨p,hp⟩:=regrown_of_below h.1;have hd:=h.2;refine⟨p.d-w.drawn,p.os,?_⟩;rw[hp]at hd⊢;have:w.drawn<=p.d:=hd;congr 1;unfold redrawn World.drewN;congr 1;omega
structure On(zs:List Nat)(cf:Nat->Nat->Int):Prop where
 eq:∀x∈zs,∀y∈zs,(cf x y=0↔x=y)
 neg:∀x∈zs,∀y∈zs,cf y x=-cf x y
 tr:∀x∈zs,∀y∈zs,∀z∈zs,cf x y<0->cf y z<0->cf x z<0
def zDp(cf:Nat->Nat->Int)(zs:List Nat):List Nat:=zs.mergeSort λa b=>decide (cf a b<=0)
section
variable {zs : List Nat} {cf : Nat → Nat → Int}
theorem On.le_tr(h:On zs cf){a b d:Nat}(ha:a∈zs)(hb:b∈zs)(hd:d∈zs)(h1:cf a b<=0)(h2:cf b d<=0):cf a d<=0:=by
 by_cases e1:cf a b=0
 ·rw[(h.eq a ha b hb).1 e1];exact h2
 by_cases e2:cf b d=0
 ·rw[<-(h.eq b hb d hd).1 e2];exact h1
 have:=h.tr a ha b hb d hd (by omega) (by omega);omega
theorem zB3(cf:Nat->Nat->Int)(zs:List Nat):(zDp cf zs).Perm zs:=List.mergeSort_perm _ _
theorem On.swo(h:On zs cf):SWO (ltOf λx y:{z//z∈zs}=>cf x.1 y.1):=by
 refine⟨λx=>?_,λx y z h1 h2=>?_,λx y z h1 h2=>?_⟩
 ·simp[ltOf,(h.eq x.1 x.2 x.1 x.2).2 rfl]
 ·simp only[ltOf,decide_eq_true_eq]at*;exact h.tr _ x.2 _ y.2 _ z.2 h1 h2
 simp only[ltOf,decide_eq_false_iff_not]at*;have g1:=h.neg x.1 x.2 y.1 y.2;have g2:=h.neg y.1 y.2 z.1 z.2;have g3:=h.neg x.1 x.2 z.1 z.2
 have:=h.le_tr (a:=z.1) (b:=y.1) (d:=x.1) z.2 y.2 x.2 (by omega) (by omega)
 omega
theorem On.sorted(h:On zs cf):(zDp cf zs).Pairwise λa b=>¬cf b a<0:=by
 have key:(zs.attach.mergeSort λa b=>decide (cf a.1 b.1<=0)).Pairwise λa b=>decide (cf a.1 b.1<=0)=true:=
  List.pairwise_mergeSort (le:=λa b:{z//z∈zs}=>decide (cf a.1 b.1<=0)) (λa b d h1 h2=>by
   simp only[decide_eq_true_eq]at*;exact h.le_tr a.2 b.2 d.2 h1 h2) (λa b=>by
   have:=h.neg a.1 a.2 b.1 b.2
   simp only[AW,decide_eq_true_eq];omega) zs.attach
 have e:zDp cf zs=(zs.attach.mergeSort λa b=>decide (cf a.1 b.1<=0)).map (·.1):=by
  grind [zDp,List.attach_map_subtype_val,List.map_mergeSort]
 rw[e,By];refine key.imp λ{a b} h1=>?_
 have:=h.neg a.1 a.2 b.1 b.2
 grind
theorem On.uniq(h:On zs cf){m:List Nat}(hp:m.Perm zs)(hs:m.Pairwise λa b=>¬cf b a<0):m=zDp cf zs:=by
 have hp2:=zB3 cf zs;refine List.Perm.eq_of_pairwise (le:=λa b=>¬cf b a<0) (λa b ha hb h1 h2=>?_) hs h.sorted (hp.trans hp2.symm);have ha:=hp.mem_iff.1 ha;have hb:=hp2.mem_iff.1 hb
 have:=h.neg a ha b hb
 exact(h.eq a ha b hb).1 (by omega)
end
end
section
open Go.Shelf
def Tryz.laysRow136_ren:Go.Shelf.Ren:=⟨λ|14=>136|20=>147|21=>148|22=>149|23=>150|24=>151|25=>152|26=>153|27=>154|46=>158|47=>138|48=>139|49=>159|50=>160|15=>86|57=>170|28=>118|29=>119|n=>n,λ|24=>29|22=>41|3=>3|25=>173|4=>4|0=>0|46=>180|45=>179|50=>106|66=>208|39=>155|55=>188|70=>212|76=>224|77=>225|53=>97|5=>5|9=>9|n=>n,λ|n=>n⟩
theorem Tryz.laysRow136:Go.Proofs.SlLaysF.n14 Ag Tryz.laysRow136_ren:={
 mixed:=by kernel_rfl
 f14:=⟨Tryz.f136.name,by decide,Tryz.func136.trans (congrArg Ab (by kernel_rfl))⟩
 f15:=BU.trans (congrArg Ab (by kernel_rfl))
 f20:=⟨Tryz.f147.name,by decide,Tryz.func147.trans (congrArg Ab (by kernel_rfl))⟩
 f21:=⟨Tryz.f148.name,by decide,Tryz.func148.trans (congrArg Ab (by kernel_rfl))⟩
 f22:=⟨Tryz.f149.name,by decide,Tryz.func149.trans (congrArg Ab (by kernel_rfl))⟩
 f23:=⟨Tryz.f150.name,by decide,Tryz.func150.trans (congrArg Ab (by kernel_rfl))⟩
 f24:=⟨Tryz.f151.name,by decide,Tryz.func151.trans (congrArg Ab (by kernel_rfl))⟩
 f25:=⟨Tryz.f152.name,by decide,Tryz.func152.trans (congrArg Ab (by kernel_rfl))⟩
 f26:=⟨Tryz.f153.name,by decide,Tryz.func153.trans (congrArg Ab (by kernel_rfl))⟩
 f27:=⟨Tryz.f154.name,by decide,Tryz.func154.trans (congrArg Ab (by kernel_rfl))⟩
 f28:=BV.trans (congrArg Ab (by kernel_rfl))
 f29:=BB.trans (congrArg Ab (by kernel_rfl))
 f46:=⟨Tryz.f158.name,by decide,Tryz.func158.trans (congrArg Ab (by kernel_rfl))⟩
 f47:=Tryz.func138.trans (congrArg Ab (by kernel_rfl))
 f48:=Tryz.func139.trans (congrArg Ab (by kernel_rfl))
 f49:=⟨Tryz.f159.name,by decide,Tryz.func159.trans (congrArg Ab (by kernel_rfl))⟩
 f50:=⟨Tryz.f160.name,by decide,Tryz.func160.trans (congrArg Ab (by kernel_rfl))⟩
 f57:=⟨Tryz.f170.name,by decide,Tryz.func170.trans (congrArg Ab (by kernel_rfl))⟩
 t0:=Tryz.underlying0
 a0:=Tryz.isAgg0
 z0:=Tryz.sizeOf0
 v0:=Tryz.zeroValue0
 t3:=Tryz.underlying3
 a3:=Tryz.isAgg3
 z3:=Tryz.sizeOf3
 v3:=Tryz.zeroValue3
 t4:=Tryz.underlying4
 a4:=Tryz.isAgg4
 z4:=Tryz.sizeOf4
 v4:=Tryz.zeroValue4
 t5:=Tryz.underlying5
 a5:=Tryz.isAgg5
 z5:=Tryz.sizeOf5
 v5:=Tryz.zeroValue5
 t9:=Tryz.underlying9
 a9:=Tryz.isAgg9
 z9:=Tryz.sizeOf9
 v9:=Tryz.zeroValue9
 t22:=Tryz.underlying41
 a22:=Tryz.isAgg41
 z22:=Tryz.sizeOf41
 v22:=Tryz.zeroValue41
 a24:=Tryz.isAgg29
 z24:=Tryz.sizeOf29
 t25:=Tryz.underlying173
 a25:=Tryz.isAgg173
 z25:=Tryz.sizeOf173
 v25:=Tryz.zeroValue173
 t39:=Tryz.underlying155
 a39:=Tryz.isAgg155
 z39:=Tryz.sizeOf155
 v39:=Tryz.zeroValue155
 t45:=Tryz.underlying179
 a45:=Tryz.isAgg179
 z45:=Tryz.sizeOf179
 v45:=Tryz.zeroValue179
 t46:=Tryz.underlying180
 a46:=Tryz.isAgg180
 z46:=Tryz.sizeOf180
 v46:=Tryz.zeroValue180
 t50:=Tryz.underlying106
 a50:=Tryz.isAgg106
 z50:=Tryz.sizeOf106
 v50:=Tryz.zeroValue106
 t53:=Tryz.underlying97
 a53:=Tryz.isAgg97
 z53:=Tryz.sizeOf97
 v53:=Tryz.zeroValue97
 t55:=Tryz.underlying188
 a55:=Tryz.isAgg188
 z55:=Tryz.sizeOf188
 v55:=Tryz.zeroValue188
 t66:=Tryz.underlying208
 a66:=Tryz.isAgg208
 z66:=Tryz.sizeOf208
 v66:=Tryz.zeroValue208
 t70:=Tryz.underlying212
 a70:=Tryz.isAgg212
 z70:=Tryz.sizeOf212
 v70:=Tryz.zeroValue212
 t76:=Tryz.underlying224
 a76:=Tryz.isAgg224
 z76:=Tryz.sizeOf224
 v76:=Tryz.zeroValue224
 t77:=Tryz.underlying225
 a77:=Tryz.isAgg225
 z77:=Tryz.sizeOf225
 v77:=Tryz.zeroValue225}
end
section
open Go.RowKit Go.Sort Go.Lib Go.Shelf
def zMl(rows:List Rw):List Rw:=rows.mergeSort λa b=>decide (rcmp a b<=0)
theorem zB2(rows:List Rw):(zMl rows).Perm rows:=List.mergeSort_perm _ _
theorem zQu{a b d:Rw}(h1:rcmp a b<=0)(h2:rcmp b d<=0):rcmp a d<=0:=by
 by_cases e1:rcmp a b=0
 ·rw[(rcw.eq a b).1 e1];exact h2
 by_cases e2:rcmp b d=0
 ·rw[<-(rcw.eq b d).1 e2];exact h1
 have:=rcw.tr a b d (by omega) (by omega);omega
theorem zJs(rows:List Rw):(zMl rows).Pairwise λa b=>rcmp a b<=0:=by
 have:=List.pairwise_mergeSort (le:=λa b:Rw=>decide (rcmp a b<=0)) (λa b d h1 h2=>by
   simp only[decide_eq_true_eq]at*;exact zQu h1 h2) (λa b=>by
   have:=rcw.neg a b
   simp only[AW,decide_eq_true_eq];omega) rows
 exact this.imp λh=>by simpa using h
theorem zX0{rows m:List Rw}(hp:m.Perm rows)(hs:m.Pairwise λa b=>¬rcmp b a<0):m=zMl rows:=by
 refine List.Perm.eq_of_pairwise (le:=λa b=>rcmp a b<=0) (λa b ha hb h1 h2=>?_) (hs.imp λ{a b} h=>?_) (zJs rows) (hp.trans (zB2 rows).symm)
 ·have:=rcw.neg a b
  exact(rcw.eq a b).1 (by omega)
 have:=rcw.neg a b
 omega
theorem zV0{I:Im}{w:World}:∀{ds:List D}{us:List Value},RelL I w noB ds us->us.length=ds.length
 |[],us,h=>by simp only[RelL]at h;rw[h];rfl
 |d::ds,us,h=>by
  simp only[RelL]at h;obtain⟨v,us',rfl,_,_,h4⟩:=h;simp[zV0 h4]
theorem zV1{I:Im}{w:World}:∀{ds:List D}{us:List Value}{i:Nat}{d:D},RelL I w noB ds us->ds[i]?=Ab d->∃v,us[i]?=Ab v/\v.oneCell'=Aa/\Rel I w noB d v
 |d0::ds,us,0,d,h,e=>by
  simp only[RelL]at h;grind
 |d0::ds,us,i+1,d,h,e=>by
  simp only[RelL]at h;obtain⟨v,us',rfl,h2,h3,h4⟩:=h;exact zV1 (ds:=ds) (us:=us') (i:=i) h4 (by simpa using e)
theorem ltR_swo(rows:List Rw):SWO (ltOf λx y:{z//z<rows.length}=>rcmp (rows.getD x.1 []) (rows.getD y.1 [])):=by
 refine⟨λx=>?_,λx y z h1 h2=>?_,λx y z h1 h2=>?_⟩
 ·have:=(rcw.eq (rows.getD x.1 []) (rows.getD x.1 [])).2 rfl
  simp only[ltOf,this];decide
 ·simp only[ltOf,decide_eq_true_eq]at*;exact rcw.tr _ _ _ h1 h2
 simp only[ltOf,decide_eq_false_iff_not]at*;have g1:=rcw.neg (rows.getD x.1 []) (rows.getD y.1 []);have g2:=rcw.neg (rows.getD y.1 []) (rows.getD z.1 []);have g3:=rcw.neg (rows.getD x.1 []) (rows.getD z.1 [])
 have:=zQu (a:=rows.getD z.1 []) (b:=rows.getD y.1 []) (d:=rows.getD x.1 []) (by omega) (by omega)
 omega
theorem pdq_rows{st:List Bk}{k n lim:Nat}{e:Bk}{wh:Bool}{rows:List Rw}{g:FuncId}{caps caps':List D}{ks:List Nat}(he:st[k]?=Ab e)(ha:e.arr=Aa)(hkd:e.kd= .plain)(hf:e.fz=Ac)(hc:e.cells=rows.map rowV)(hn:rows.length=n)(hb:n<=2000000)(hpos:0<n)(hlim:lim<4611686018427387904)
  (hfr:frz Aa st zAu (.clo (.func g) [] caps)=Ab (.clo (.func g) [] caps',ks))(hnk:k∉ks)(eg:∀args w,(callFunc g args).run Ag w= .ok (.enter g args) w)
  (hcmp:∀x∈rows,∀y∈rows,Pure Ag g (rowV x::rowV y::caps') [] (iD (rcmp x y))):
  Acts Ag 136 [.osl k 0 n n wh, .val (.int .i64 (0:Nat)), .val (.int .i64 n), .val (.int .i64 lim), .clo (.func g) [] caps] st [] (.val (.tuple #[])) ((zAo st ks).set k {e with cells:=(zMl rows).map rowV}):=by
 have hsl:(zMl rows).length=n:=by rw[(zB2 rows).length_eq,hn]
 refine zNk (us3:=[.int .i64 0, .int .i64 n, .int .i64 lim]) he ha hkd hf (by rw[hc,AX,hn]) (by rw[AX,hsl]) hpos hfr hnk ?_;intro I b c w us cb hi hgl hno hcb hr hcur hcell hfz hcap;rw[hc]at hr;have hul:us.length=n:=by rw[zV0 hr,AX,hn]
 let α:={z//z<rows.length};let xs:List α:=(Az rows.length).attach.map λz=>⟨z.1,BH.1 z.2⟩;let enc:α->Value:=λx=>us.getD x.1 undef;have hxl:xs.length=n:=by
  grind
 have hxat:∀j (hj:j<xs.length),(xs[j]'hj).1=j:=λj hj=>by
  grind
 have hus:us=xs.map enc:=by
  grind [Bl,AX,Ap]
 have hrel:∀x:α,Rel I w noB (rowV (rows.getD x.1 [])) (enc x)/\(enc x).oneCell'=true:=λx=>by
  have h1:(rows.map rowV)[x.1]?=Ab (rowV (rows.getD x.1 [])):=by
   grind
  obtain⟨v,h2,h3,h4⟩:=zV1 hr h1;grind
 obtain⟨x0,hx0⟩:∃x0,xs[0]?=Ab x0:=⟨xs[0]'(by omega),Ap (by omega)⟩
 haveI:Inhabited α:=⟨x0⟩;have hH:Holds enc w b 0 xs.toArray:=λj hj=>by
  grind
 obtain⟨cur,t,hcur⟩:=hcur;have hblk:b<w.heap.size:=by
  grind
 have hone:OneCell enc:=λx=>by
  grind
 have hworld:∀(m:Nat)(os:Array Obj)(ys:List α),ys.length=n->sortWorld enc w b 0 m ys.toArray os=grow ((w.drewN m).setCells b 0 (ys.map enc)) os:=λm os ys hy=>by
  unfold sortWorld;rw[putRow_eq_setCells enc w b 0 xs.toArray ys m hH (by simp[hy,hxl])]
 have hfix:∀(m:Nat)(os:Array Obj)(dk:Array α),dk.size=n->Fix I w I (sortWorld enc w b 0 m dk os)/\w.heap.size<=(sortWorld enc w b 0 m dk os).heap.size:=λm os dk hd=>by
  have e1:=hworld m os dk.toList (by simpa using hd);simp only[BW]at e1;rw[e1];obtain⟨s1,s2,s3,s4,s5,s6⟩:=zC5 b t (dk.toList.map enc) 0 (w.drewN m) cur.toList (by simpa using hcur);refine⟨λb' o' hb'=>?_,?_⟩
  ·have hne:b'≠b:=λe=>hno o' (e▸hb');have hlt:=hi b' o' hb';refine⟨hb',λv hv=>?_,λks vs hm=>?_⟩
   ·simp only[BT]at hv⊢;rw[zCx _ os (by rw[s3];exact hlt),s2 b' hne];exact hv
   refine hm.of_heap ?_;rw[zCx _ os (by rw[s3];exact hlt),s2 b' hne];rfl
  simp_all
 have hmr:∀x:α,rows.getD x.1 []∈rows:=λx=>by
  grind
 have hcmp:CmpLays1 Ag g cb.toArray enc (λx y:α=>rcmp (rows.getD x.1 []) (rows.getD y.1 [])) b 0 xs.toArray.size w:=by
  intro m os dk hd x y;have hd':dk.size=n:=by simpa[hxl]using hd
  obtain⟨hfx,hsz⟩:=hfix m os dk hd';have hr2:RelT I (sortWorld enc w b 0 m dk os) noB (rowV (rows.getD x.1 [])::rowV (rows.getD y.1 [])::caps') (enc x::enc y::cb):=by
   simp only[RelT];exact⟨_,_,rfl,Rel.mono hfx noB noB (AC _) _ _ (hrel x).1,_,_,rfl,Rel.mono hfx noB noB (AC _) _ _ (hrel y).1,A7 hfx noB noB (AC _) _ _ hcb⟩
  have e1:(#[enc x,enc y]++cb.toArray)=(enc x::enc y::cb).toArray:=by apply Array.ext';simp
  rw[e1];refine(hcmp _ (hmr x) _ (hmr y) I _ _ hr2 (λb o h=>Ci (hi b o h) hsz) (hgl.mono hfx)).mono ?_;rintro e' w' ⟨v,I',γ,rfl,hx,_,_,_,_,_,_,_,_,hv,_⟩;simp only[Rel]at hv;simp_all [zW9]
 have hsz:xs.toArray.size=n:=by simp[hxl]
 have main:=Any.pdqsortCmpFunc_all Tryz.laysRow136 enc (λx y:α=>rcmp (rows.getD x.1 []) (rows.getD y.1 [])) g cb.toArray (ltR_swo rows) b 0 c xs.toArray w eg hcmp ⟨hone,hH,hblk⟩ (n+1) 0 n lim xs.toArray w (by omega) rfl (SW.start hH) (A1 _) (by omega) (by omega) hlim (.inl rfl);rw[hsz]at main;refine main.mono ?_;rintro x w' ⟨rfl,q,os,rfl⟩;obtain⟨hp,hso⟩:=pdq_sorts (ltOf λx y:α=>rcmp (rows.getD x.1 []) (rows.getD y.1 [])) (ltR_swo rows) xs.toArray 0 n lim Aa Aa (A1 _) (by omega) (.inl rfl);generalize pdq (ltOf λx y:α=>rcmp (rows.getD x.1 []) (rows.getD y.1 [])) xs.toArray 0 n lim Aa Aa=d' at*;have hd':d'.size=n:=by rw[hp.1,hsz]
 have hperm:d'.toList.Perm xs:=by
  have:=hp.2.2
  grind [Array.extract_size]
 have hrows:xs.map (λx=>rows.getD x.1 [])=rows:=by
  apply Bl (by rw[AX,hxl,hn]);grind
 have hl2:d'.toList.map (λx=>rows.getD x.1 [])=zMl rows:=by
  refine zX0 ?_ ?_
  ·grind
  rw[By,BS];intro i j hi' hj' hij;have hi2:i<d'.size:=by simpa using hi'
  have hj2:j<d'.size:=by simpa using hj'
  have:=hso i j (A1 _) hij (by omega)
  rw[getElem!_pos d' j hj2,getElem!_pos d' i hi2]at this;simpa[ltOf]using this
 refine⟨rfl,d'.toList.map enc,q,os,?_,?_⟩
 ·simp_all
 rw[<-hl2];have:∀(l:List α),RelL I w noB ((l.map λx=>rows.getD x.1 []).map rowV) (l.map enc):=by
  intro l;induction l with
  |nil=>simp only[Bb,RelL]
  |cons x l ih=>
   simp only[AI,RelL];grind
 exact this _
end
section
open Go.RowKit
def Tz:Par:=⟨λ_=>Ac,λ_ _=>Ae,λ_=>Ac,λ_=>Ac,λ_=>Ac⟩
theorem zAm:zBi Ag Tz:=by intro t n f h;cases h
theorem mixed:Ag.follows .mixedOrders=true:=by kernel_rfl
theorem zG7{I:Im}{w:World}{β:Be}:∀(us vs:List Value),RelT I w β (us.map .val) vs->vs=us
 |[],vs,h=>by simpa only[Bb,RelT]using h
 |u::us,vs,h=>by
  simp only[AI,RelT,Rel]at h;obtain⟨v,vs',rfl,rfl,h⟩:=h;rw[zG7 us vs' h]
theorem zCl{P:Program}{f:FuncId}{us:List Value}{v:Value}(h:∀w,Calls P f us.toArray w λe w'=>e= .returned v/\w=w'):Pure P f (us.map .val) [] (.val v):=by
 intro I w vs hr hi hg;rw[zG7 us vs hr];refine(h w).mono ?_;rintro e w' ⟨rfl,rfl⟩;exact⟨v,I,noB,rfl,Ext.refl _,hi,Fix.refl _ _,λ_ _ h=> .inl h,λ_ _ _ h=>(by cases h),λ_ _ _ h=>(by cases h),λ_ _ _ _ _ h=>(by cases h),λ_ _ _ _ _ h=>(by cases h),λ_ _ h=>(by cases h),by simp only[Rel],by simp⟩
theorem zFj{P:Program}{f:FuncId}{args:List D}{e:TypeId}{sz:Nat}(h:∀I w vs,RelT I w noB args vs->Calls P f vs.toArray w λx w'=>(x= .returned (.slice Ae 0 0)/\Ext w w')\/∃(g:Nat)(cur:List Value)(cap:Nat),x= .returned (.slice (Ab ⟨g,0,Ae⟩) 0 cap)/\w.heap.size<=g/\Ext w w'/\w'.heap[g]?=Ab (.cells cur.toArray e (0,0))/\cur.length=cap*sz/\cap<=maxLen):
  Pure P f args [⟨[],e,sz,Aa,Ac, .plain⟩] (.osl 0 0 0 0 Aa):=by
 intro I w vs hr hi hg;refine(h I w vs hr).mono ?_;rintro x w' (⟨rfl,he⟩|⟨g,cur,cap,rfl,hgs,he,h1,h2,h3⟩)
 ·exact⟨_,I,noB,rfl,he,λb o hb=>Ci (hi b o hb) he.size,Fix.ext he λ_ _ h=>h,λ_ _ h=> .inl h,λ_ _ _ h=>(by cases h),λ_ _ _ h=>(by cases h),λ_ _ _ _ _ h=>(by cases h),λ_ _ _ _ _ h=>(by cases h),λ_ _ h=>(by cases h),by rw[Rel];exact .inl ⟨rfl,rfl,rfl⟩,by simp⟩
 have hg:∀k y,(if k=0 then Ab (g,cap)else Ae:Option (Nat×Nat))=Ab y->k=0/\y=(g,cap):=by
  grind
 refine⟨_,I,λk=>if k=0 then Ab (g,cap)else Ae,rfl,he,λb o hb=>Ci (hi b o hb) he.size,Fix.ext he λ_ _ h=>h,λ_ _ h=> .inl h,?_,?_,?_,?_,?_,?_,by simp⟩
 ·grind
 ·intro k b c hk;obtain⟨rfl,e⟩:=hg k _ hk;cases e;exact⟨_,rfl,OwnC.r ⟨cur,h1,A1 _,by simp only[List.length_nil,List.take_zero,RelL],λ_=>h2,h3⟩ rfl⟩
 ·intro k k' b c c' hk hk';grind
 ·intro k b c j e hk hE hI;obtain⟨rfl,e'⟩:=hg k _ hk;cases e';exact absurd (hi _ _ hI) (by omega)
 ·grind
 rw[Rel];grind
theorem zA9{P:Program}{w:World}{ops:Array Oper}{rest:List Oper}{o:Oper}{a:Act}{Q:Exit->Act->World->Prop}(hgd:o.guard=Ae)(s x:Operand)(t:TypeId)
  (ho:o.op= .call {callee:= .builtin .append,args:=#[s,x],argTypes:=#[t,t]})
  (base:Nat)(e:TypeId)(i:TypeInfo)(z:Value)(size bytes:Nat)(ht:P.underlying t=Ab (.slice e))(hi:P.info? e=Ab i)(hz:i.zero=Ab z)
  (hsize:i.size=size)(hby:i.bytes=bytes)(hzs:z.cells.size=size)(hsz:0<size)
  (v:Value)(n:Nat)(xs:List Value)(hs:a.eval s=v)(hown:w.ownsRow base e size v n xs)
  (ad:Addr)(m c:Nat)(news:List Value)(hx:a.eval x= .slice (Ab ad) m c)(hl:news.length=m*size)(hnews:∀j u,news[j]?=Ab u->w.cell? (ad.add j)=Ab u)(h1:∀u∈news,u.oneCell'=Aa)
  (h63:n+m<=maxLen)(hbytes:(n+m)*bytes<=140737488355328)(hbase:base<=w.heap.size)
  (h:∀v' w',w'.ownsRow base e size v' (n+m) (xs++news)->w.grownBy w' v.ownBlock->w.drawn<=w'.drawn->wpList P ops Q rest (a.put o.dst v') w'):wpList P ops Q (o::rest) a w:=by
 obtain⟨v',w',r1,r2,r3,_⟩:=run_append_own w base t o.type e i z size bytes ht hi hz hsize hby hzs hsz v n xs hown ad m c news hl hnews h1 h63 hbytes hbase;exact Lib.wpList_append_run w hgd s x t t ho _ _ hs hx v' w' r1 (h v' w' r2 r3 (zB7 _ _ r1))
theorem info_ints:(Ag.info? 3).map (λi=>(i.zero,i.size,i.bytes))=Ab (Ab (.int .i64 0),1,8):=by kernel_rfl
set_option maxHeartbeats 400000 in
theorem zTw:Pure Ag 120 [.row [] 0] [⟨[],3,1,Aa,Ac, .plain⟩] (.osl 0 0 0 0 Aa):=by
 refine zFj λI w vs hr=>?_;simp only[RelT,Rel]at hr;obtain⟨v,ys,rfl,⟨a,c,rfl,_,_,hc,_⟩,rfl⟩:=hr;cases a with
 |none=>
  obtain rfl:=hc rfl;have he:=λ(w:World)=>Bn (P:=Ag) w 23 3 Ae 0 0 0 0 Tryz.underlying23;go_enter Tryz.func120,Tryz.ntmps120;go_wp2;go_ret;exact .inl ⟨rfl,Ext.refl _⟩
 |some x=>
  obtain⟨i0,hi,hz0,hz1,hz2⟩:=info_parts info_ints;have he:=λ(w:World)=>Bn (P:=Ag) w 23 3 (Ab x) 0 c 0 0 Tryz.underlying23;go_enter Tryz.func120,Tryz.ntmps120;go_wp2_with (at_builtin;refine zA9 rfl _ _ 23 rfl w.heap.size 3 i0 (.int .i64 0) 1 8 Tryz.underlying23 hi hz0 hz1 hz2 rfl (by decide) (.slice (Ab ⟨w.heap.size,0,Ae⟩) 0 0) 0 [] rfl (Cj _ #[] 0 (Ak _) (A1 _) rfl) x 0 c [] rfl (by simp) (by simp) (by simp) (by simp[maxLen]) (by decide) (by simp) ?_;intro v' w' hown hgrow hdr);go_ret;have hext:Ext w w':=⟨((Below.refl _ _).alloc (Ak _) _).grown hgrow (by simp) (by simp[Ck]),hdr⟩;obtain⟨_,⟨rfl,_⟩|⟨g,cap,cur,rfl,hb,hg,_,hc1,hs,_⟩⟩:=hown
  ·simp_all
  exact .inr ⟨g,cur.toList,cap,rfl,hb,hext,by rw[BW];exact hg,by simpa using hs,hc1⟩
theorem info_rows:(Ag.info? 29).map (λi=>(i.zero,i.size,i.bytes))=Ab (Ab (.slice Ae 0 0),1,24):=by kernel_rfl
set_option maxHeartbeats 400000 in
theorem zTv:Pure Ag 76 [.row [] 0] [⟨[],29,1,Aa,Ac, .plain⟩] (.osl 0 0 0 0 Aa):=by
 refine zFj λI w vs hr=>?_;simp only[RelT,Rel]at hr;obtain⟨v,ys,rfl,⟨a,c,rfl,_,_,hc,_⟩,rfl⟩:=hr;cases a with
 |none=>
  obtain rfl:=hc rfl;have he:=λ(w:World)=>Bn (P:=Ag) w 41 29 Ae 0 0 0 0 Tryz.underlying41;go_enter Tryz.func76,Tryz.ntmps76;go_wp2;go_ret;exact .inl ⟨rfl,Ext.refl _⟩
 |some x=>
  obtain⟨i0,hi,hz0,hz1,hz2⟩:=info_parts info_rows;have he:=λ(w:World)=>Bn (P:=Ag) w 41 29 (Ab x) 0 c 0 0 Tryz.underlying41;go_enter Tryz.func76,Tryz.ntmps76;go_wp2_with (at_builtin;refine zA9 rfl _ _ 41 rfl w.heap.size 29 i0 (.slice Ae 0 0) 1 24 Tryz.underlying41 hi hz0 hz1 hz2 rfl (by decide) (.slice (Ab ⟨w.heap.size,0,Ae⟩) 0 0) 0 [] rfl (Cj _ #[] 0 (Ak _) (A1 _) rfl) x 0 c [] rfl (by simp) (by simp) (by simp) (by simp[maxLen]) (by decide) (by simp) ?_;intro v' w' hown hgrow hdr);go_ret;have hext:Ext w w':=⟨((Below.refl _ _).alloc (Ak _) _).grown hgrow (by simp) (by simp[Ck]),hdr⟩;obtain⟨_,⟨rfl,_⟩|⟨g,cap,cur,rfl,hb,hg,_,hc1,hs,_⟩⟩:=hown
  ·simp_all
  exact .inr ⟨g,cur.toList,cap,rfl,hb,hext,by rw[BW];exact hg,by simpa using hs,hc1⟩
theorem info_row:(Ag.info? 73).map (λi=>(i.zero,i.size,i.bytes))=Ab (Ab (.agg #[.int .i64 0, .int .i64 0, .string ByteArray.empty]),3,32):=by kernel_rfl
set_option maxHeartbeats 400000 in
theorem zYr:Pure Ag 39 [.row [] 0] [⟨[],73,3,Aa,Ac, .plain⟩] (.osl 0 0 0 0 Aa):=by
 refine zFj λI w vs hr=>?_;simp only[RelT,Rel]at hr;obtain⟨v,ys,rfl,⟨a,c,rfl,_,_,hc,_⟩,rfl⟩:=hr;cases a with
 |none=>
  obtain rfl:=hc rfl;have he:=λ(w:World)=>Bn (P:=Ag) w 29 73 Ae 0 0 0 0 Tryz.underlying29;go_enter Tryz.func39,Tryz.ntmps39;go_wp2;go_ret;exact .inl ⟨rfl,Ext.refl _⟩
 |some x=>
  obtain⟨i0,hi,hz0,hz1,hz2⟩:=info_parts info_row;have he:=λ(w:World)=>Bn (P:=Ag) w 29 73 (Ab x) 0 c 0 0 Tryz.underlying29;go_enter Tryz.func39,Tryz.ntmps39;go_wp2_with (at_builtin;refine zA9 rfl _ _ 29 rfl w.heap.size 73 i0 (.agg #[.int .i64 0, .int .i64 0, .string ByteArray.empty]) 3 32 Tryz.underlying29 hi hz0 hz1 hz2 rfl (by decide) (.slice (Ab ⟨w.heap.size,0,Ae⟩) 0 0) 0 [] rfl (Cj _ #[] 0 (Ak _) (A1 _) rfl) x 0 c [] rfl (by simp) (by simp) (by simp) (by simp[maxLen]) (by decide) (by simp) ?_;intro v' w' hown hgrow hdr);go_ret;have hext:Ext w w':=⟨((Below.refl _ _).alloc (Ak _) _).grown hgrow (by simp) (by simp[Ck]),hdr⟩;obtain⟨_,⟨rfl,_⟩|⟨g,cap,cur,rfl,hb,hg,_,hc1,hs,_⟩⟩:=hown
  ·simp_all
  exact .inr ⟨g,cur.toList,cap,rfl,hb,hext,by rw[BW];exact hg,by simpa using hs,hc1⟩
theorem scmp_c(a b:List UInt8):Pure Ag 95 [strD a,strD b] [] (iD (Av a b)):=
 zCl (us:=[.string (bs a), .string (bs b)]) λw=>(Tryz.strings_Compare (bs a) (bs b) w).mono λe w' h=>⟨h.1,h.2.symm⟩
section
variable {P : Program} {T : Par} {ops : Array Oper} {dr : Bool} {l : List Oper} {sl : List D} {st : List Bk} {K : List D → List Bk → Prop}
mutual
/-- the own blocks that data names -/
def ownN:D->List Nat
 | .own j _=>[j]
 | .osl j _ _ _ _=>[j]
 | .osr j _ _ _ _ _=>[j]
 | .mref j=>[j]
 | .agg cs=>ownL cs
 | .tup cs=>ownL cs
 | .clo _ x y=>ownL x++ownL y
 | .ifc _ d=>ownN d
 |_=>[]
def ownL:List D->List Nat
 |[]=>[]
 |d::ds=>ownN d++ownL ds
end
mutual
theorem zQ3{k:Nat}:∀d:D,(∀j∈ownN d,j≠k)->refs k d=Ac
 | .own j o,h=>by simp only[refs,beq_eq_false_iff_ne];exact h j (by simp[ownN])
 | .osl j _ _ _ _,h=>by simp only[refs,beq_eq_false_iff_ne];exact h j (by simp[ownN])
 | .osr j _ _ _ _ _,h=>by simp only[refs,beq_eq_false_iff_ne];exact h j (by simp[ownN])
 | .mref j,h=>by simp only[refs,beq_eq_false_iff_ne];exact h j (by simp[ownN])
 | .agg cs,h=>by simp only[refs];exact zD6 cs λj hj=>h j (by simpa[ownN]using hj)
 | .tup cs,h=>by simp only[refs];exact zD6 cs λj hj=>h j (by simpa[ownN]using hj)
 | .clo _ x y,h=>by
  simp only[refs,zD6 x λj hj=>h j (by simp[ownN,hj]),zD6 y λj hj=>h j (by simp[ownN,hj]),Bool.or_false]
 | .ifc _ d,h=>by simp only[refs];exact zQ3 d λj hj=>h j (by simpa[ownN]using hj)
 | .unk,_| .val _,_| .row _ _,_| .ptr _,_| .mfz _ _,_| .fx _,_=>by simp only[refs]
theorem zD6{k:Nat}:∀ds:List D,(∀j∈ownL ds,j≠k)->zBd k ds=Ac
 |[],_=>by simp only[zBd]
 |d::ds,h=>by
  simp only[zBd,zQ3 d λj hj=>h j (by simp[ownL,hj]),zD6 ds λj hj=>h j (by simp[ownL,hj]),Bool.or_false]
end
end
section
variable {P : Program} {T : Par}
abbrev Uk:D:= .unk
abbrev i6(z:Int):Prop:=-9223372036854775808<=z/\z<=9223372036854775807
abbrev u6(z:Int):Prop:=0<=z/\z<=18446744073709551615
abbrev u3(z:Int):Prop:=0<=z/\z<=4294967295
abbrev ix(i n:Int)(R:Prop):Prop:=0<=i/\i<n/\R
abbrev Fs:=List D×List Bk
def rP(P:Program)(T:Par)(ops:Array Oper)(raws:List Nat)(l:List Oper)(gs:List (Nat×Bool))(p:Fs):Fs:=match runL P T ops raws l gs p.1 p.2 with
 |some x=>x.2
 |none=>p
def setP(p:Fs)(i:Nat)(d:D):Fs:=(p.1.set i d,p.2)
def setQ(p:Fs)(i:Nat)(b:Bk):Fs:=(p.1,p.2.set i b)
section
variable {ops : Array Oper} {dr : Bool} {l : List Oper} {p : Fs} {K : List D → List Bk → Prop}
theorem v0s{sl:List D}{st:List Bk}(k:seqW P T ops dr l (sl,st).1 (sl,st).2 K):seqW P T ops dr l sl st K:=k
theorem vw(n:Nat)(raws:List Nat)(gs:List (Nat×Bool))(C:Prop)(k:seqW P T ops dr (l.drop n) (rP P T ops raws (l.take n) gs p).1 (rP P T ops raws (l.take n) gs p).2 K)
  (hc:C:=by first|exact True.intro|omega|(repeat' first|exact True.intro|omega|apply And.intro|assumption|decide|(simp;done)|(simp;omega)|kernel_rfl))
  (h:(runL P T ops raws (l.take n) gs p.1 p.2).map (λx=>Alls x.1)=Ab C:=by kernel_rfl):seqW P T ops dr l p.1 p.2 K:=by
 rw[Ar]at h;obtain⟨⟨c,s1,s2⟩,h1,rfl⟩:=h;simp only[rP,h1]at k;grind [zBw,Bs]
theorem vr(n:Nat)(C:Prop)(k:seqW P T ops dr (l.drop n) (rP P T ops [] (l.take n) [] p).1 (rP P T ops [] (l.take n) [] p).2 K)
  (hc:C:=by first|exact True.intro|omega|(repeat' first|exact True.intro|omega|apply And.intro|assumption|decide|(simp;done)|(simp;omega)|kernel_rfl))
  (h:(runL P T ops [] (l.take n) [] p.1 p.2).map (λx=>Alls x.1)=Ab C:=by kernel_rfl):seqW P T ops dr l p.1 p.2 K:=vw n [] [] C k hc h
theorem vrT(n:Nat)(k:seqW P T ops dr (l.drop n) (rP P T ops [] (l.take n) [] p).1 (rP P T ops [] (l.take n) [] p).2 K)
  (h:(runL P T ops [] (l.take n) [] p.1 p.2).map (λx=>Alls x.1)=Ab True:=by kernel_rfl):seqW P T ops dr l p.1 p.2 K:=vw n [] [] True k trivial h
theorem vwh(n:Nat)(raws:List Nat)(gs:List (Nat×Bool))(C:Prop)(hc:C)(k:seqW P T ops dr (l.drop n) (rP P T ops raws (l.take n) gs p).1 (rP P T ops raws (l.take n) gs p).2 K)(h:(runL P T ops raws (l.take n) gs p.1 p.2).map (λx=>Alls x.1)=Ab C:=by kernel_rfl):seqW P T ops dr l p.1 p.2 K:=vw n raws gs C k hc h
theorem vew{b:Code}{Q Q':Exit->List D->List Bk->Prop}(raws:List Nat)(gs:List (Nat×Bool))(C:Prop)(k:awp P T b Q (rP P T ops raws l gs p).1 (rP P T ops raws l gs p).2)
  (hc:C:=by first|exact True.intro|omega|(repeat' first|exact True.intro|omega|apply And.intro|assumption|decide|(simp;done)|(simp;omega)|kernel_rfl))
  (h:(runL P T ops raws l gs p.1 p.2).map (λx=>Alls x.1)=Ab C:=by kernel_rfl):seqW P T ops dr l p.1 p.2 (zW (zX P T b Q) Q' .normal):=by
 rw[Ar]at h;obtain⟨⟨c,s1,s2⟩,h1,rfl⟩:=h;simp only[rP,h1]at k
 have:=zBw (P:=P) (T:=T) (dr:=dr) (K:=zW (zX P T b Q) Q' .normal) l [] gs p.1 p.2 c s1 s2 h1 hc ?_
 ·grind
 exact⟨_,_,Weak.refl _ _,k⟩
theorem vewh{b:Code}{Q Q':Exit->List D->List Bk->Prop}(raws:List Nat)(gs:List (Nat×Bool))(C:Prop)(hc:C)(k:awp P T b Q (rP P T ops raws l gs p).1 (rP P T ops raws l gs p).2)(h:(runL P T ops raws l gs p.1 p.2).map (λx=>Alls x.1)=Ab C:=by kernel_rfl):seqW P T ops dr l p.1 p.2 (zW (zX P T b Q) Q' .normal):=vew raws gs C k hc h
theorem ve{b:Code}{Q Q':Exit->List D->List Bk->Prop}(C:Prop)(k:awp P T b Q (rP P T ops [] l [] p).1 (rP P T ops [] l [] p).2)
  (hc:C:=by first|exact True.intro|omega|(repeat' first|exact True.intro|omega|apply And.intro|assumption|decide|(simp;done)|(simp;omega)|kernel_rfl))
  (h:(runL P T ops [] l [] p.1 p.2).map (λx=>Alls x.1)=Ab C:=by kernel_rfl):seqW P T ops dr l p.1 p.2 (zW (zX P T b Q) Q' .normal):=vew [] [] C k hc h
theorem veT{b:Code}{Q Q':Exit->List D->List Bk->Prop}(k:awp P T b Q (rP P T ops [] l [] p).1 (rP P T ops [] l [] p).2)
  (h:(runL P T ops [] l [] p.1 p.2).map (λx=>Alls x.1)=Ab True:=by kernel_rfl):seqW P T ops dr l p.1 p.2 (zW (zX P T b Q) Q' .normal):=vew [] [] True k trivial h
def isC3(d:D):Bool:=zFm d||zGg d||(match d with
 | .tup _=>Aa
 |_=>Ac)
theorem vsh(i:Nat){d0 d:D}(hd:d0=d)(k:seqW P T ops dr l (setP p i d).1 (setP p i d).2 K)(h:p.1.getD i .unk=d0:=by kernel_rfl)(hu:isC3 d=true:=by kernel_rfl):seqW P T ops dr l p.1 p.2 K:=by
 subst hd;simp only[setP]at k;rwa[zF0 h (by intro e;subst e;simp[isC3,zFm,zGg]at hu)]at k
theorem vs(i:Nat)(d0 d:D)(k:seqW P T ops dr l (setP p i d).1 (setP p i d).2 K)(hd:d0=d:=by simp(disch:=omega) only[*,_root_.Int.toNat_natCast,_root_.Nat.mul_one,_root_.Nat.zero_add,_root_.List.drop_zero,_root_.Nat.sub_zero,_root_.List.cons_append,_root_.List.nil_append,cellsOf,setAt,_root_.List.headD_cons,_root_.Bool.not_true,_root_.List.length_map])(h:p.1.getD i .unk=d0:=by kernel_rfl)(hu:isC3 d=true:=by kernel_rfl):seqW P T ops dr l p.1 p.2 K:=vsh i hd k h hu
theorem vp(i n:Nat)(X:List D)(k:seqW P T ops dr l (setP p i (.ptr (X.drop n))).1 (setP p i (.ptr (X.drop n))).2 K)(h:p.1.getD i .unk= .ptr (X.drop (n*1)):=by kernel_rfl):seqW P T ops dr l p.1 p.2 K:=vsh i (by rw[BC]) k h (by rfl)
theorem vo(i b n:Nat)(k:seqW P T ops dr l (setP p i (.own b n)).1 (setP p i (.own b n)).2 K)(h:p.1.getD i .unk= .own b (0+n*1):=by kernel_rfl):seqW P T ops dr l p.1 p.2 K:=vsh i (by rw[BC,BD]) k h (by rfl)
theorem vo0(i b n:Nat)(k:seqW P T ops dr l (setP p i (.own b n)).1 (setP p i (.own b n)).2 K)(h:p.1.getD i .unk= .own b (0+n):=by kernel_rfl):seqW P T ops dr l p.1 p.2 K:=vsh i (by rw[BD]) k h (by rfl)
theorem vb(i:Nat)(b0 b:Bk)(k:seqW P T ops dr l (setQ p i b).1 (setQ p i b).2 K)(hd:b0=b:=by simp(disch:=omega) only[*,_root_.Int.toNat_natCast,_root_.Nat.mul_one,_root_.Nat.zero_add,_root_.List.drop_zero,_root_.Nat.sub_zero,_root_.List.cons_append,_root_.List.nil_append,cellsOf,setAt,_root_.List.headD_cons,_root_.Bool.not_true,_root_.List.length_map])(h:p.2[i]?=Ab b0:=by kernel_rfl):seqW P T ops dr l p.1 p.2 K:=st_blk i b0 b h hd k
def cSt(P:Program)(T:Par)(ops:Array Oper)(l:List Oper)(p:Fs):List Bk:=match zJ9 P T ops l [] p.1 p.2 with
 |some x=>x.2.2.2
 |none=>p.2
def cP(P:Program)(T:Par)(ops:Array Oper)(l:List Oper)(x:D)(p:Fs):Fs:=(putD p.1 (hdst l) x,cSt P T ops l p)
def nP(P:Program)(T:Par)(ops:Array Oper)(l:List Oper)(x:D)(bs:List Bk)(p:Fs):Fs:=(putD p.1 (hdst l) (zBf p.2.length x),cSt P T ops l p++bs)
theorem vc{f:FuncId}{args:List D}{x:D}(hp:Pure P f args [] x)(k:seqW P T ops dr l.tail (cP P T ops l x p).1 (cP P T ops l x p).2 K)(h:(zJ9 P T ops l [] p.1 p.2).map (λx=>(x.1,x.2.1,x.2.2.1))=Ab ([],f,args):=by kernel_rfl):seqW P T ops dr l p.1 p.2 K:=by
 rw[Ar]at h;obtain⟨⟨c,g,a,s⟩,h1,h2⟩:=h;simp only[As.injEq]at h2;obtain⟨rfl,rfl,rfl⟩:=h2;simp only[cP,cSt,h1]at k;exact zSt [] [] a s a h1 trivial (LeL.refl _) hp k
theorem vca{f:FuncId}(args:List D){x:D}(hp:Pure P f args [] x)(k:seqW P T ops dr l.tail (cP P T ops l x p).1 (cP P T ops l x p).2 K)(h:(zJ9 P T ops l [] p.1 p.2).map (λx=>(x.1,x.2.1,x.2.2.1))=Ab ([],f,args):=by kernel_rfl):seqW P T ops dr l p.1 p.2 K:=vc hp k h
theorem vcl{f:FuncId}(args:List D){x:D}(args':List D)(ha:LeL args args')(hp:Pure P f args' [] x)(k:seqW P T ops dr l.tail (cP P T ops l x p).1 (cP P T ops l x p).2 K)(h:(zJ9 P T ops l [] p.1 p.2).map (λx=>(x.1,x.2.1,x.2.2.1))=Ab ([],f,args):=by kernel_rfl):seqW P T ops dr l p.1 p.2 K:=vc (hp.le ha) k h
theorem vnl{f:FuncId}(args:List D){x:D}{n:Bk}{news:List Bk}(args':List D)(ha:LeL args args')(hp:Pure P f args' (n::news) x)(k:seqW P T ops dr l.tail (nP P T ops l x (n::news) p).1 (nP P T ops l x (n::news) p).2 K)(h:(zJ9 P T ops l [] p.1 p.2).map (λx=>(x.1,x.2.1,x.2.2.1))=Ab ([],f,args):=by kernel_rfl):seqW P T ops dr l p.1 p.2 K:=by
 rw[Ar]at h;obtain⟨⟨c,g,a,s⟩,h1,h2⟩:=h;simp only[As.injEq]at h2;obtain⟨rfl,rfl,rfl⟩:=h2;simp only[nP,cSt,h1]at k;exact st_callN [] [] a s args' h1 trivial ha hp k
theorem vn{f:FuncId}{args:List D}{x:D}{n:Bk}{news:List Bk}(hp:Pure P f args (n::news) x)(k:seqW P T ops dr l.tail (nP P T ops l x (n::news) p).1 (nP P T ops l x (n::news) p).2 K)(h:(zJ9 P T ops l [] p.1 p.2).map (λx=>(x.1,x.2.1,x.2.2.1))=Ab ([],f,args):=by kernel_rfl):seqW P T ops dr l p.1 p.2 K:=vnl args args (LeL.refl _) hp k h
theorem vnil{sl:List D}{st:List Bk}(k:K sl st)(e:l=[]:=by kernel_rfl):seqW P T ops dr l sl st K:=zVr k e
theorem vsp(t:Nat)(b:Bool)(k1:b=Aa->seqW P T ops dr l (setP p t (.val (.bool Aa))).1 (setP p t (.val (.bool Aa))).2 K)(k2:b=Ac->seqW P T ops dr l (setP p t (.val (.bool Ac))).1 (setP p t (.val (.bool Ac))).2 K)(h:zW6 ops l p.1=Ab (t,b):=by kernel_rfl):seqW P T ops dr l p.1 p.2 K:=st_split t b h k1 k2
theorem vspD(t:Nat)(q:Prop)[Decidable q](k1:q->seqW P T ops dr l (setP p t (.val (.bool Aa))).1 (setP p t (.val (.bool Aa))).2 K)(k2:¬q->seqW P T ops dr l (setP p t (.val (.bool Ac))).1 (setP p t (.val (.bool Ac))).2 K)(h:zW6 ops l p.1=Ab (t,decide q):=by kernel_rfl):seqW P T ops dr l p.1 p.2 K:=vsp t (decide q) (λe=>k1 (of_decide_eq_true e)) (λe=>k2 (of_decide_eq_false e)) h
end
section
variable {Q : Exit → List D → List Bk → Prop} {sl : List D} {st : List Bk}
theorem v0{c:Code}(k:awp P T c Q (sl,st).1 (sl,st).2):awp P T c Q sl st:=k
theorem vA{i:Nat}{ops:Array Oper}{b:Code}(k:seqW P T ops Ac ops.toList sl st (zW (zX P T b Q) Q .normal)):awp P T (.seq (.region i ops Ac) b) Q sl st:=zB (zA rfl k)
theorem vAs{i:Nat}{ops:Array Oper}{b:Code}(k:seqW P T ops Ac ops.toList (sl,st).1 (sl,st).2 (zW (zX P T b Q) Q .normal)):awp P T (.seq (.region i ops Ac) b) Q sl st:=zB (zA rfl k)
theorem vAu{i:Nat}{ops:Array Oper}{b:Code}(k:awp P T b Q (rP P T ops [] ops.toList [] (sl,st)).1 (rP P T ops [] ops.toList [] (sl,st)).2)(h:(runL P T ops [] ops.toList [] (sl,st).1 (sl,st).2).map (λx=>Alls x.1)=Ab True:=by kernel_rfl):awp P T (.seq (.region i ops Ac) b) Q sl st:=zB (zA rfl (v0s (veT k h)))
theorem vAe{i:Nat}{ops:Array Oper}{b:Code}{p:Fs}(k:awp P T b Q (rP P T ops [] ops.toList [] p).1 (rP P T ops [] ops.toList [] p).2)(h:(runL P T ops [] ops.toList [] p.1 p.2).map (λx=>Alls x.1)=Ab True:=by kernel_rfl):awp P T (.seq (.region i ops Ac) b) Q p.1 p.2:=zB (zA rfl (veT k h))
theorem vN{Q':Exit->List D->List Bk->Prop}{b:Code}(h:awp P T b Q sl st):zW (zX P T b Q) Q' .normal sl st:=zC (zD h)
theorem vK{Q':Exit->List D->List Bk->Prop}{b:Code}(h:awp P T b Q sl st):awp P T .skip (zW (zX P T b Q) Q') sl st:=zK (zC (zD h))
theorem vB{i:Nat}{a b:Code}(h:awp P T a (zP i (zW (zX P T b Q) Q)) sl st):awp P T (.seq (.block i a) b) Q sl st:=zB (zF h)
theorem vY{K:List D->List Bk->Prop}{i:Nat}(h:Q .normal sl st):awp P T (.exit i) (zW K (zP i Q)) sl st:=zV (zM (zQ rfl h))
theorem vY2{K K':List D->List Bk->Prop}{i:Nat}(h:Q .normal sl st):awp P T (.exit i) (zW K' (zW K (zP i Q))) sl st:=zV (zM (zM (zQ rfl h)))
theorem vZ{Q':Exit->List D->List Bk->Prop}{K:List D->List Bk->Prop}{i:Nat}{b:Code}(h:awp P T b Q sl st):awp P T (.exit i) (zW K (zP i (zW (zX P T b Q) Q'))) sl st:=vY (vN h)
theorem vZ2{Q':Exit->List D->List Bk->Prop}{K K':List D->List Bk->Prop}{i:Nat}{b:Code}(h:awp P T b Q sl st):awp P T (.exit i) (zW K' (zW K (zP i (zW (zX P T b Q) Q')))) sl st:=vY2 (vN h)
theorem vKB{Q':Exit->List D->List Bk->Prop}{i:Nat}{a b:Code}(h:awp P T a (zP i (zW (zX P T b Q) Q)) sl st):awp P T .skip (zW (zX P T (.seq (.block i a) b) Q) Q') sl st:=vK (vB h)
theorem vd{i:Nat}{ops:Array Oper}(ord:List Nat){l:List Oper}(h:seqW P T ops Aa l sl st (Q .normal))(hr:zX4 T ops ord=true:=by kernel_rfl)(hl:(ord.map λi=>ops.getD i Ah)=l:=by rfl):awp P T (.region i ops Aa) Q sl st:=awp_drawn ord hr hl h
theorem vcD{c:Operand}{x y:Code}(q:Prop)[Decidable q](h:q->awp P T x Q sl st)(h':¬q->awp P T y Q sl st)(hc:evD sl c= .val (.bool (decide q)):=by kernel_rfl):awp P T (.cond c x y) Q sl st:=zAr hc (λe=>h (of_decide_eq_true e)) (λe=>h' (of_decide_eq_false e))
def keepL:Nat->List D->List Nat->List D
 |_,[],_=>[]
 |i,d::ds,ks=>(if ks.contains i then d else .unk)::keepL (i+1) ds ks
theorem keep_le:∀(i:Nat)(ds:List D)(ks:List Nat),LeL ds (keepL i ds ks)
 |_,[],_=> .nil
 |i,d::ds,ks=> .cons (by split;exact .refl _;exact .unk _) (keep_le (i+1) ds ks)
theorem vkp{sl':List D}(ks:List Nat)(h:keepL 0 sl ks=sl':=by kernel_rfl):Weak T sl st sl' st:=by
 subst h;exact Weak.slots (keep_le 0 _ ks)
theorem vT{c:Operand}{x y:Code}(p:Prop)[Decidable p](h:awp P T x Q sl st)(ht:p:=by first|omega|assumption)(hc:evD sl c= .val (.bool (decide p)):=by kernel_rfl):awp P T (.cond c x y) Q sl st:=by simp_all [zE9,ht]
theorem vF{c:Operand}{x y:Code}(p:Prop)[Decidable p](h:awp P T y Q sl st)(ht:¬p:=by first|omega|assumption)(hc:evD sl c= .val (.bool (decide p)):=by kernel_rfl):awp P T (.cond c x y) Q sl st:=by simp_all [zFb,ht]
theorem vt{c:Operand}{x y:Code}(h:awp P T x Q sl st)(hc:evD sl c= .val (.bool Aa):=by kernel_rfl):awp P T (.cond c x y) Q sl st:=zE9 hc rfl h
theorem vf{c:Operand}{x y:Code}(h:awp P T y Q sl st)(hc:evD sl c= .val (.bool Ac):=by kernel_rfl):awp P T (.cond c x y) Q sl st:=zFb hc rfl h
theorem vEt{c:Operand}{x y:Code}(a b:Int)(h:awp P T x Q sl st)(ht:a=b:=by first|omega|assumption)(hc:evD sl c= .val (.bool (a==b)):=by kernel_rfl):awp P T (.cond c x y) Q sl st:=by simp_all [zE9,ht]
theorem vEf{c:Operand}{x y:Code}(a b:Int)(h:awp P T y Q sl st)(ht:¬a=b:=by first|omega|assumption)(hc:evD sl c= .val (.bool (a==b)):=by kernel_rfl):awp P T (.cond c x y) Q sl st:=by simp_all [zFb,ht]
theorem vret{rs:List ResultVar}{e:Exit}{x:D}(C:Prop)(he:e= .normal\/e= .ret)(hc:C:=by first|exact True.intro|omega|(repeat' first|exact True.intro|omega|apply And.intro|assumption|decide|(simp;done)|(simp;omega)|kernel_rfl))
  (h:(retC P rs sl st).map (λx=>(Alls x.1,zFk x.2))=Ab (C,x):=by kernel_rfl):(e= .normal\/e= .ret)/\retL P sl st rs (λds=>∃y ks,frz Aa st zAu (oneD ds)=Ab (y,ks)/\LeD y x):=zAy C x x he rfl rfl (h:=h) (hc:=hc)
theorem vre{rs:List ResultVar}{e:Exit}{x:D}(C:Prop)(y:D)(he:e= .normal\/e= .ret)(hx:y=x)(hc:C:=by first|exact True.intro|omega|(repeat' first|exact True.intro|omega|apply And.intro|assumption|decide|(simp;done)|(simp;omega)|kernel_rfl))
  (h:(retC P rs sl st).map (λx=>(Alls x.1,zFk x.2))=Ab (C,y):=by kernel_rfl):(e= .normal\/e= .ret)/\retL P sl st rs (λds=>∃y ks,frz Aa st zAu (oneD ds)=Ab (y,ks)/\LeD y x):=zAy C y y he rfl hx (h:=h) (hc:=hc)
def tgt1(d d':D):D:=match d' with
 | .unk=> .unk
 | _=>match d with
  | .val (.slice Ae 0 0)=>(match d' with
   | .osl k 0 0 0 b=> .osl k 0 0 0 b
   | .row [] 0=> .row [] 0
   |_=>d)
  |_=>d
theorem tgt1_le(d d':D):LeD d (tgt1 d d'):=by
 unfold tgt1;split
 ·exact .unk _
 split
 ·split
  ·exact .nil _ _
  ·exact .nil_row
  exact .refl _
 exact .refl _
def tgtL:List D->List D->List D
 |[],_=>[]
 |d::ds,[]=>d::ds
 |d::ds,d'::ds'=>tgt1 d d'::tgtL ds ds'
theorem zNm:∀ds ds':List D,LeL ds (tgtL ds ds')
 |[],_=> .nil
 |d::ds,[]=> .refl _
 |d::ds,d'::ds'=> .cons (tgt1_le d d') (zNm ds ds')
theorem wk(i:Nat)(d0 d:D)(hd:d0=d){sl':List D}{st':List Bk}(k:Weak T (sl.set i d) st sl' st')(h:sl.getD i .unk=d0:=by kernel_rfl)(hu:isC3 d=true:=by kernel_rfl):Weak T sl st sl' st':=by
 subst hd;rwa[zF0 h (by intro e;subst e;simp[isC3,zFm,zGg]at hu)]at k
theorem vk{sl':List D}{st':List Bk}(m:Nat)(hk:∀k,m<=k->T.keep k=false:=by exact λ_ _=>rfl)(h:tgtL sl sl'=sl':=by kernel_rfl)(hn:zJw sl' st m st.length=true:=by kernel_rfl)(e:st.take m=st'.take m:=by kernel_rfl):Weak T sl st sl' st':=by grind [Weak.all,zNm,Bs]
def fr(n:Nat)(ch:List (Nat×D)):List D:=updS (AA n .unk) ch
theorem vnt{ops:Array Oper}{dr:Bool}{l:List Oper}{K:List D->List Bk->Prop}(st':List Bk)(k:seqW P T ops dr l sl st' K)(h2:st=st':=by kernel_rfl):seqW P T ops dr l sl st K:=by subst h2;exact k
theorem wkn(sl0:List D)(st0:List Bk){sl':List D}{st':List Bk}(k:Weak T sl0 st0 sl' st')(h:tgtL sl sl0=sl0:=by kernel_rfl)(h2:st=st0:=by kernel_rfl):Weak T sl st sl' st':=by
 subst h2;exact(Weak.slots (h▸zNm sl sl0)).trans k
theorem vnn{b:Code}(sl':List D)(st':List Bk)(k:zX P T b Q sl' st')(h:tgtL sl sl'=sl':=by kernel_rfl)(h2:st=st':=by kernel_rfl):zX P T b Q sl st:=by
 subst h2;obtain⟨a,c,h3,h4⟩:=k;exact⟨a,c,(Weak.slots (h▸zNm sl sl')).trans h3,h4⟩
end
end
end
section
open Go.RowKit
attribute [local irreducible] seqW awp zW zX zP Weak updS zZ retL Pure Acts rP setP setQ cP nP fr
set_option maxRecDepth 4096
theorem nan_int(a:Int):Pure Ag 108 [.val (.int .i64 a)] [] (.val (.bool Ac)):=by
 refine zG zAm mixed Tryz.func108 rfl<|vAu<|vAe<|zJ<|vre (True) (Al<|AO (a !=a)) (.inr rfl) (by simp)
abbrev q0_:=Al (Au AB (-1))
abbrev q1_:=Al (Au AB 1)
abbrev q2_:=Al (Au AB 0)
theorem cmpo_int(a b:Int):Pure Ag 79 [.val (.int .i64 a), .val (.int .i64 b)] [] (.val (.int .i64 (cmpD a b))):=by
 refine zG zAm mixed Tryz.func79 rfl ?_;focus
  refine vAu<|vA<|vrT 1<|vca [iD a] (by exact nan_int _)<|veT<|vA<|vrT 1<|vca [iD b] (by exact nan_int _)<|veT<|zB<|vAe<|vf<|vK<|zB<|vAe<|vf<|vK<|zB<|vAe<|vcD (a<b) (λhc=>?_)<|λhc=>?_;refine vAe<|zJ<|zH<|vre (True) (q0_) (.inr rfl) ?_;rotate_left;refine vK<|zB<|vAe<|vcD (a>b) (λhc=>?_)<|λhc=>?_;refine vAe<|zJ<|zH<|vre (True) (q1_) (.inr rfl) ?_;rotate_left;refine vK<|vAe<|zJ<|vre (True) (q2_) (.inr rfl) ?_;rotate_left
 all_goals (unfold cmpD;(repeat' split)<;>first|rfl|omega)
theorem zRb(a:Int):Pure Ag 134 [.val (.int .i64 a)] [] (.val (.bool Ac)):=by
 refine zG zAm mixed Tryz.func134 rfl<|vAu<|vAe<|zJ<|vre (True) (Al<|AO (a !=a)) (.inr rfl) (by simp)
theorem zYn(a b:Int):Pure Ag 94 [.val (.int .i64 a), .val (.int .i64 b)] [] (.val (.int .i64 (cmpD a b))):=by
 refine zG zAm mixed Tryz.func94 rfl ?_;focus
  refine vAu<|vA<|vrT 1<|vca [iD a] (by exact zRb _)<|veT<|vA<|vrT 1<|vca [iD b] (by exact zRb _)<|veT<|zB<|vAe<|vf<|vK<|zB<|vAe<|vf<|vK<|zB<|vAe<|vcD (a<b) (λhc=>?_)<|λhc=>?_;refine vAe<|zJ<|zH<|vre (True) (q0_) (.inr rfl) ?_;rotate_left;refine vK<|zB<|vAe<|vcD (a>b) (λhc=>?_)<|λhc=>?_;refine vAe<|zJ<|zH<|vre (True) (q1_) (.inr rfl) ?_;rotate_left;refine vK<|vAe<|zJ<|vre (True) (q2_) (.inr rfl) ?_;rotate_left
 all_goals (unfold cmpD;(repeat' split)<;>first|rfl|omega)
theorem zXx:(Cl #[]).toList=[]:=by rw[Co]
theorem zZl(l:List UInt8):(l==[])=l.isEmpty:=by cases l<;>rfl
theorem zNl(v:Va):Pure Ag 96 [vaD v] [] (bD (vok v)):=by
 refine zG zAm mixed Tryz.func96 rfl ?_;focus
  refine vAu<|zB<|vA<|ve (True/\0<3)<|zF<|vAe<|zAr (t:=Va.kind v==(1:Int)) (by kernel_rfl) (λhc=>?_)<|λhc=>?_;simp only[beq_iff_eq]at hc;refine vA<|vr 3 (True/\0<1/\True)<|vs 9 (bD (ByteArray.toList (bs<|Va.str v)==ByteArray.toList (Cl #[]))) (bD (Va.str v==[])) (hd:=by simp(disch:=omega) only[bs_toList,zXx])<|veT<|zJ<|zN<|zH<|vre (True) (Al<|AO (Va.str v==[])) (.inr rfl) ?_;rotate_left;simp only[beq_eq_false_iff_ne]at hc;refine vAe<|zAr (t:=Va.kind v==(2:Int)) (by kernel_rfl) (λhc=>?_)<|λhc=>?_;simp only[beq_iff_eq]at hc;refine vA<|vr 4 (True/\0<2/\True)<|vsp 15 (Va.int v==(0:Int)) (λhc=>?_)<|λhc=>?_;simp only[beq_iff_eq]at hc;refine ve (True/\0<1)<|zJ<|zN<|zH<|vre (True) (Al<|AO<|decide ((Ad (Va.str v):Int)<=(24:Int))) (.inr rfl) ?_;rotate_left;simp only[beq_eq_false_iff_ne]at hc;refine veT<|zJ<|zN<|zH<|vre (True) (Al<|AO Ac) (.inr rfl) ?_;rotate_left;simp only[beq_eq_false_iff_ne]at hc;refine zK<|zE<|vN<|vAe<|zJ<|vre (True) (Al<|AO Ac) (.inr rfl) ?_;rotate_left
 ·grind [zZl,vok]
 ·congr 2;grind [vok]
 all_goals grind [vok]
theorem zH4(a b:Va):Pure Ag 71 [vaD a,vaD b] [] (iD (vcmp a b)):=by
 refine zG zAm mixed Tryz.func71 rfl ?_;focus
  refine vAu<|zB<|vA<|ve (True/\0<3/\True/\0<3/\True)<|zAr (t:=Va.kind a !=Va.kind b) (by kernel_rfl) (λhc=>?_)<|λhc=>?_;simp only[bne_iff_ne]at hc;refine vA<|vr 4 (True/\0<3/\True/\0<3)<|vca [iD<|Va.kind a,iD<|Va.kind b] (by exact cmpo_int _ _)<|veT<|zJ<|zH<|vre (True) (Al<|Au AB<|cmpD (Va.kind a)<|Va.kind b) (.inr rfl) ?_;rotate_left;simp only[bne_eq_false_iff_eq]at hc;refine vK<|zB<|vA<|ve (True/\0<2/\True/\0<2/\True)<|zAr (t:=Va.int a !=Va.int b) (by kernel_rfl) (λhc=>?_)<|λhc=>?_;simp only[bne_iff_ne]at hc;refine vA<|vr 4 (True/\0<2/\True/\0<2)<|vca [iD<|Va.int a,iD<|Va.int b] (by exact zYn _ _)<|veT<|zJ<|zH<|vre (True) (Al<|Au AB<|cmpD (Va.int a)<|Va.int b) (.inr rfl) ?_;rotate_left;simp only[bne_eq_false_iff_eq]at hc;refine vK<|vA<|vr 4 (True/\0<1/\True/\0<1)<|vca [Al<|Bf<|bs<|Va.str a,Al<|Bf<|bs<|Va.str b] (by exact scmp_c _ _)<|veT<|zJ<|vre (True) (Al<|Au AB<|Av (Va.str a)<|Va.str b) (.inr rfl) ?_;rotate_left
 all_goals simp [vcmp, *]
theorem zDv(r:List Va)(i:Nat)(h:i<r.length):3<=(Am (i*3) (zL r)).length:=by
 grind [BL,zAp]
theorem zXr{α:Type}(p:α->Bool)(d:α)(l:List α)(i:Nat)(h:i<l.length):(l.take (i+1)).all p=((l.take i).all p&&p (l.getD i d)):=by
 grind [A3,Ap]
set_option maxHeartbeats 1000000 in
theorem zNs(r:List Va)(n:Nat)(hn:r.length=n)(hl:n<=1000000000):Pure Ag 73 [.row (zL r) n] [] (bD (r.all vok)):=by
 subst hn;refine zG zAm mixed Tryz.func73 rfl<|vAu<|zB<|vAe<|zF<|zS (λ(i:Nat)=>fr 16 [(0,An (zL r)<|Ad r),(5,iD (Ad r:Int)),(6,iD (i:Int))]) (λ_=>[]) (λi=>r.length-i) (λi=>i<=r.length/\(r.take i).all vok=Aa) 0 ?_ ?_ ?_
 ·grind
 ·refine vk 0
 rintro i ⟨h1,h2⟩;focus
  refine vAu<|zB<|vcD ((i:Int)<↑(Ad r)) (λhc=>?_)<|λhc=>?_;refine vKB<|vAe<|vA<|vr 4 (ix ↑i ↑(Ad r) (zL r≠[])/\3<=Ad (Am (i*3)<|zL r)) (vs 12 (AE<|Bg 3<|Am (i*3)<|zL r) (AE<|vaC<|Aj r i Ah) (hd:=by simp(disch:=omega) only[zCh])<|vca [AE [iD<|Va.kind<|Aj r i Ah,iD<|Va.int<|Aj r i Ah,Al<|Bf<|bs<|Va.str<|Aj r i Ah]] (by exact zNl _)<|veT ?_) ⟨⟨(by omega),⟨(by omega),(by exact zEk _ (by omega))⟩⟩,(by exact zDv _ _ (by omega))⟩;refine zAr (t:=!vok (Aj r i Ah)) (by kernel_rfl) (λhc=>?_)<|λhc=>?_;simp only[Br]at hc;refine vAe<|zJ<|zN<|zH<|zH<|zN<|zH<|vre (True) (Al<|AO Ac) (.inr rfl) ?_;rotate_left;simp only[Bool.not_eq_false']at hc;refine zK<|zE<|vN<|zA rfl<|vr 2 (i6 (↑i+1))<|vnil<|zC ?_;rotate_left;refine vZ2<|vAe<|zJ<|vre (True) (Al<|AO Aa) (.inr rfl) ?_;rotate_left
 ·grind
 ·refine⟨i+1,⟨by omega,?_⟩,by omega,?_⟩
  ·grind [zXr,vok]
  refine vk 0
 grind
def zJ7:List Va->List Va->List Bool->Int
 |[],[],_=>0
 |[],_::_,_=>-1
 |_::_,[],_=>1
 |a::r,b::s,ds=>if vcmp a b=0 then zJ7 r s ds.tail else if ds.headD Ac then-vcmp a b else vcmp a b
theorem zK9:∀(a b:List Va),zJ7 a b []=rcmp a b
 |[],[]=>rfl
 |[],_::_=>rfl
 |_::_,[]=>rfl
 |a::r,b::s=>by simp only[zJ7,rcmp,List.tail_nil,List.headD_nil,AS,if_false];rw[zK9 r s]
theorem zJc:∀(i:Nat)(a b:List Va)(ds:List Bool),i<=a.length->i<=b.length->a.take i=b.take i->zJ7 a b ds=zJ7 (a.drop i) (b.drop i) (ds.drop i)
 |0,_,_,_,_,_,_=>rfl
 |i+1,[],b,_,h,_,_=>by simp at h
 |i+1,_::_,[],_,_,h,_=>by simp at h
 |i+1,x::a,y::b,ds,h1,h2,h3=>by
  simp only[List.take_succ_cons,List.cons.injEq]at h3;obtain⟨rfl,h3⟩:=h3;rw[zJ7,if_pos ((zBv x x).2.1.2 rfl),zJc i a b ds.tail (by simpa using h1) (by simpa using h2) h3];cases ds<;>simp
theorem zN0(i:Nat)(a b:List Va)(ds:List Bool)(ha:i<a.length)(hb:i<b.length)(h:a.take i=b.take i)(hv:vcmp (a.getD i Ah) (b.getD i Ah)≠0):zJ7 a b ds=if ds.getD i Ac then-vcmp (a.getD i Ah) (b.getD i Ah)else vcmp (a.getD i Ah) (b.getD i Ah):=by
 rw[zJc i a b ds (by omega) (by omega) h,BN ha,BN hb];simp only[AP,Ap ha,Ap hb,Option.getD_some]at hv⊢;grind [zJ7,List.head?_drop]
abbrev bl(b:Bool):D:=bD b
theorem headD_bl(l:List Bool)(k:Nat)(h:k<l.length):((l.map bD).drop k).headD .unk=bD (l.getD k Ac):=zA2 bD l Ac k h
theorem rcmp_end(a b:List Va)(i:Nat)(ds:List Bool)(ha:i<=a.length)(hb:i<=b.length)(h:a.take i=b.take i)(he:i=a.length\/i=b.length):zJ7 a b ds=if a.length<b.length then-1 else if a.length>b.length then 1 else 0:=by
 rw[zJc i a b ds ha hb h];rcases he with rfl|rfl
 ·rw[List.drop_length];cases hc:b.drop a.length with
  |nil=>
   have:=congrArg Ad hc
   simp at this;rw[if_neg (by omega),if_neg (by omega)];rfl
  |cons x r=>
   have:=congrArg Ad hc
   simp at this;rw[if_pos (by omega)];rfl
 rw[List.drop_length];cases hc:a.drop b.length with
 |nil=>
  have:=congrArg Ad hc
  simp at this;rw[if_neg (by omega),if_neg (by omega)];rfl
 |cons x r=>
  have:=congrArg Ad hc
  simp at this;rw[if_neg (by omega),if_pos (by omega)];rfl
set_option maxHeartbeats 2000000 in
theorem zJu(a b:List Va)(ds:List Bool)(n m k:Nat)(hn:a.length=n)(hm:b.length=m)(hk:ds.length=k)(ln:n<=1000000000)(lm:m<=1000000000)(lk:k<=1000000000):Pure Ag 99 [.row (zL a) n, .row (zL b) m, .row (ds.map bD) k] [] (iD (zJ7 a b ds)):=by
 subst hn hm hk;refine zG zAm mixed Tryz.func99 rfl<|vAu<|zB<|vAe<|zF<|zS (λ(i:Nat)=>fr 54 [(0,An (zL a)<|Ad a),(1,An (zL b)<|Ad b),(2,An (Af bD ds)<|Ad ds),(13,iD (if(Ad b:Int)<(Ad a:Int)then(Ad b:Int)else(Ad a:Int))),(14,iD (i:Int))]) (λ_=>[]) (λi=>a.length-i) (λi=>i<=a.length/\i<=b.length/\a.take i=b.take i) 0 ?_ ?_ ?_
 ·grind
 ·refine vk 0
 rintro i ⟨h1,h2,h3⟩;have hv:=(zBv (a.getD i Ah) (b.getD i Ah)).1;focus
  refine vAu<|zB<|vcD ((i:Int)<if(Ad b:Int)<(Ad a:Int)then(Ad b:Int)else(Ad a:Int)) (λhc=>?_)<|λhc=>?_;refine vKB<|vAe<|zB<|vd [0,1,2,4,5,6,3,7,8,9]<|vr 7 (ix ↑i ↑(Ad a) (zL a≠[])/\ix ↑i ↑(Ad b) (zL b≠[])/\3<=Ad (Am (i*3)<|zL a)) (vs 20 (AE<|Bg 3<|Am (i*3)<|zL a) (AE<|vaC<|Aj a i Ah) (hd:=by simp(disch:=omega) only[zCh])<|vr 1 (3<=Ad (Am (i*3)<|zL b)) (vs 24 (AE<|Bg 3<|Am (i*3)<|zL b) (AE<|vaC<|Aj b i Ah) (hd:=by simp(disch:=omega) only[zCh]) ?_) (by exact zDv _ _ (by omega))) ⟨⟨(by omega),⟨(by omega),(by exact zEk _ (by omega))⟩⟩,⟨(by omega),⟨(by omega),(by exact zEk _ (by omega))⟩⟩,(by exact zDv _ _ (by omega))⟩;refine vca [AE [iD<|Va.kind<|Aj a i Ah,iD<|Va.int<|Aj a i Ah,Al<|Bf<|bs<|Va.str<|Aj a i Ah],AE [iD<|Va.kind<|Aj b i Ah,iD<|Va.int<|Aj b i Ah,Al<|Bf<|bs<|Va.str<|Aj b i Ah]] (by exact zH4 _ _)<|veT<|zB<|vAe<|zAr (t:=vcmp (Aj a i Ah) (Aj b i Ah)==(0:Int)) (by kernel_rfl) (λhc=>?_)<|λhc=>?_;simp only[beq_iff_eq]at hc;refine vZ<|zA rfl<|vr 2 (i6 (↑i+1))<|vnil<|zC ?_;rotate_left;simp only[beq_eq_false_iff_ne]at hc;refine vK<|zB<|vA<|vrT 5<|vspD 32 ((i:Int)<↑(Ad ds)) (λhc=>?_)<|λhc=>?_;refine vr 3 (ix ↑i ↑(Ad ds) (Af bD ds≠[])) (vp 35 i (Af bD ds)<|vr 1 (0<Ad (Am i<|Af bD ds))<|vs 36 (BX (Am i<|Af bD ds) Uk) (bD<|Aj ds i Ac) (hd:=by simp(disch:=omega) only[headD_bl])<|veT ?_) ⟨(by omega),⟨(by omega),(by exact zAb)⟩⟩;refine zAr (t:=Aj ds i Ac) (by kernel_rfl) (λhc=>?_)<|λhc=>?_;refine vA<|ve (i6 ((0:Int)-vcmp (Aj a i Ah) (Aj b i Ah)))<|zJ<|zH<|zN<|zH<|zH<|zN<|zH<|vre (True) (Al<|Au AB ((0:Int)-vcmp (Aj a i Ah) (Aj b i Ah))) (.inr rfl) ?_;rotate_left;refine vK<|vAe<|zJ<|zN<|zH<|zH<|zN<|zH<|vre (True) (Al<|Au AB<|vcmp (Aj a i Ah)<|Aj b i Ah) (.inr rfl) ?_;rotate_left;refine veT<|vf<|vK<|vAe<|zJ<|zN<|zH<|zH<|zN<|zH<|vre (True) (Al<|Au AB<|vcmp (Aj a i Ah)<|Aj b i Ah) (.inr rfl) ?_;rotate_left;refine vZ2<|vB<|vAe<|vcD ((Ad a:Int)<(Ad b:Int)) (λhc=>?_)<|λhc=>?_;refine vAe<|zJ<|zN<|zH<|vre (True) (q0_) (.inr rfl) ?_;rotate_left;refine vAe<|vcD ((Ad a:Int)>(Ad b:Int)) (λhc=>?_)<|λhc=>?_;refine vAe<|zJ<|zN<|zH<|vre (True) (q1_) (.inr rfl) ?_;rotate_left;refine zK<|zE<|vN<|vAe<|zJ<|vre (True) (q2_) (.inr rfl) ?_;rotate_left
 ·refine⟨i+1,⟨by omega,by omega,?_⟩,by omega,?_⟩
  ·grind [zQe]
  refine vk 0
 ·grind [zN0,Int.zero_sub]
 ·grind [zN0]
 ·rw[zN0 i a b ds (by omega) (by omega) h3 (by assumption),if_neg];grind
 all_goals grind [rcmp_end]
theorem zD5(a b:List Va)(n m:Nat)(hn:a.length=n)(hm:b.length=m)(ln:n<=1000000000)(lm:m<=1000000000):Pure Ag 102 [.row (zL a) n, .row (zL b) m] [] (iD (rcmp a b)):=by
 refine zG zAm mixed Tryz.func102 rfl<|vAu<|vA<|vrT 2<|vcl [An (zL a) n,An (zL b) m,nl] [An (zL a) n,An (zL b) m,An [] 0] (LeL.trans (LeL.refl _)<|LeL.cons (LeD.refl _)<|LeL.cons (LeD.refl _)<|LeL.cons LeD.nil_row LeL.nil) (by exact zJu a b [] _ _ 0 hn hm rfl ln lm (by omega))<|veT<|zJ<|vre (True) (Al<|Au AB<|zJ7 a b []) (.inr rfl) ?_;rw[zK9]
theorem zF2(a b:List Va)(n m:Nat)(hn:a.length=n)(hm:b.length=m)(ln:n<=1000000000)(lm:m<=1000000000):Pure Ag 100 [.row (zL a) n, .row (zL b) m] [] (bD (decide (a=b))):=by
 refine zG zAm mixed Tryz.func100 rfl<|vAu<|vA<|vrT 2<|vc (zD5 a b _ _ hn hm ln lm)<|veT<|zJ<|vre (True) (Al<|AO (rcmp a b==(0:Int))) (.inr rfl) ?_;congr 2;rw[BP];simp[(zBy a b).2.1]
abbrev vaB(l:List Va):Bk:=⟨zL l,73,3,Aa,Ac, .plain⟩
theorem repL_va(n:Nat):repL n [.val (.int .i64 0), .val (.int .i64 0), .val (.string ⟨#[]⟩)]=zL (AA n ⟨0,0,[]⟩):=by
 induction n with
 |zero=>rfl
 |succ n ih=>simp only[repL,BG,BK]at ih⊢;rw[ih];rfl
def zR(r:List Va)(cols:List Nat):List Va:=cols.map λc=>r.getD c Ah
theorem set3_va(r:List Va)(i:Nat)(v:Va)(h:i<r.length):(((zL r).set (i*3) (iD v.kind)).set (i*3+1) (iD v.int)).set (i*3+1+1) (strD v.str)=zL (r.set i v):=zYs r i v h
theorem zQf(r:List Va)(n:Nat)(h:r.length=n):(zL r).take (n*3)=zL r:=by grind [A2,zAp]
theorem zEb:kdOf Ac= .plain:=rfl
theorem zVs{α:Type}{a b:List α}{i:Nat}(d:α)(ha:i<a.length)(hb:i<b.length)(h:a.take i=b.take i):(a.set i (b.getD i d)).take (i+1)=b.take (i+1):=by
 rw[A3 (by simpa using ha),A3 hb,List.take_set_of_le (Ak _),h,List.getElem_set_self,AP,Ap hb];rfl
theorem zMv(r:List Va)(cols:List Nat)(i:Nat)(h:i<cols.length):(zR r cols).getD i Ah=r.getD (cols.getD i 0) default:=by
 simp only[zR,AP,Bj,Ap h,Ba,Option.getD_some]
abbrev q3_(x0:List Va):=An (zL x0) (Ad x0)
set_option maxHeartbeats 2000000 in
theorem zJa(r:List Va)(cols:List Nat)(n m:Nat)(hn:r.length=n)(hm:cols.length=m)(ln:n<=1000000000)(lm:m<=100000)(hc:∀c∈cols,c<r.length):Pure Ag 83 [.row (zL r) n, .row (cols.map λc=>iD (c:Nat)) m] [] (.tup [.row (zL (zR r cols)) m,iD 0]):=by
 subst hn hm;have hci:∀i,i<cols.length->cols.getD i 0<r.length:=λi h=>by
  simp_all
 have hd:∀i,i<cols.length->((cols.map λc=>iD ((c:Nat):Int)).drop i).headD .unk=iD (cols.getD i 0:Nat):=λi h=>zA2 (λc:Nat=>iD (c:Int)) cols 0 i h;refine zG zAm mixed Tryz.func83 rfl<|vAu<|zB<|vAe<|zF<|zS (λ(i:Nat)=>fr 49 [(0,An (zL r)<|Ad r),(1,An (Af (λ(c:Nat)=>iD (c:Int)) cols)<|Ad cols),(10,iD (Ad cols:Int)),(11,iD (i:Int))]) (λ_=>[]) (λi=>cols.length-i) (λi=>i<=cols.length) 0 ?_ ?_ ?_
 ·omega
 ·refine vk 0
 rintro i h1;have hi:=hci i;focus
  refine vAu<|zB<|vcD ((i:Int)<↑(Ad cols)) (λhc=>?_)<|λhc=>?_;refine vKB<|vAe<|vA<|vr 3 (ix ↑i ↑(Ad cols) (Af (λ(c:Nat)=>iD c) cols≠[])) (vp 16 i (Af (λ(c:Nat)=>iD c) cols)<|vr 1 (0<Ad (Am i<|Af (λ(c:Nat)=>iD c) cols))<|vs 17 (BX (Am i<|Af (λ(c:Nat)=>iD c) cols) Uk) (iD ↑(Aj cols i 0)) ?_) ⟨(by omega),⟨(by omega),(by exact zAb)⟩⟩;refine vw 5 [] [(5,Ac)] (decide ((↑(Aj cols i 0):Int)<0)=Ac/\ix ↑i ↑(Ad cols) (Af (λ(c:Nat)=>iD c) cols≠[])) (vp 22 i (Af (λ(c:Nat)=>iD c) cols)<|vr 1 (0<Ad (Am i<|Af (λ(c:Nat)=>iD c) cols))<|vs 23 (BX (Am i<|Af (λ(c:Nat)=>iD c) cols) Uk) (iD ↑(Aj cols i 0))<|veT<|vF ((↑(Aj cols i 0):Int)>=(Ad r:Int))<|zK<|zE<|vN<|zA rfl<|vr 2 (i6 (↑i+1))<|vnil<|zC ?_) ⟨(by kernel_rfl),⟨(by omega),⟨(by omega),(by exact zAb)⟩⟩⟩;rotate_left;refine vZ2<|vA<|ve ((0:Int)<=(Ad cols:Int)/\(Ad cols:Int)<=(Ad cols:Int)/\(↑(32:Nat):Int)*(Ad cols:Int)<=(281474976710656:Int)/\(Ad cols:Int)<=(281474976710656:Int)/\0<3/\3=3)<|zB<|vAe<|zF ?_;rotate_left
 ·refine⟨i+1,by omega,by omega,?_⟩;refine vk 0
 refine zAw (λ(i:Nat)(cur:List Va)=>fr 49 [(0,(q3_ r)),(1,An (Af (λ(c:Nat)=>iD c) cols)<|Ad cols),(7,Ai 0 0 (Ad cols) (Ad cols*3) Aa),(33,iD<|Ad cols),(34,iD i)]) (λi cur=>[vaB cur]) (λi cur=>cols.length-i) (λi cur=>i<=cols.length/\cur.length=cols.length/\cur.take i=(zR r cols).take i) 0 (AA cols.length<|Va.mk 0 0 []) ?_ ?_ ?_
 ·grind
 ·refine wkn (fr 49 [(0,An (zL r) (Ad r)),(1,An (Af (λ(c:Nat)=>iD (↑c:Int)) cols) (Ad cols)),(7,Ai 0 0 (Ad cols) (Ad cols*3) Aa),(33,iD (↑(Ad cols):Int)),(34,iD 0)]) [Ao (repL (Ad cols) [iD 0,iD 0,Al (Bf (Cl #[]))]) 73 3 Aa Ac (kdOf Ac)] (zGz [(0,1),(1,1),(7,1),(33,1),(34,1)] (An (zL r) (Ad r)=An (zL r) (Ad r)/\An (Af (λ(c:Nat)=>iD (↑c:Int)) cols) (Ad cols)=An (Af (λ(c:Nat)=>iD (↑c:Int)) cols) (Ad cols)/\Ai 0 0 (Ad cols) (Ad cols*3) Aa=Ai 0 0 (Ad cols) (Ad cols*3) Aa/\iD (↑(Ad cols):Int)=iD (↑(Ad cols):Int)/\iD 0=iD (↑(0:Nat):Int)) 1 [] (by kernel_rfl) ⟨rfl,rfl,rfl,rfl,(by kernel_rfl)⟩ (by kernel_rfl) (λ_ _=>rfl) (by simp[updB,repL_va,zEb]))
 rintro j cur ⟨k1,k2,k3⟩;have hj:=hci j;focus
  refine vAu<|zB<|vcD ((j:Int)<↑(Ad cols)) (λhc=>?_)<|λhc=>?_;refine vKB<|vAe<|zA rfl<|vr 6 (ix ↑j ↑(Ad cols) (Af (λ(c:Nat)=>iD c) cols≠[])) (vp 42 j (Af (λ(c:Nat)=>iD c) cols)<|vr 1 (0<Ad (Am j<|Af (λ(c:Nat)=>iD c) cols))<|vs 43 (BX (Am j<|Af (λ(c:Nat)=>iD c) cols) Uk) (iD ↑(Aj cols j 0))<|vr 2 (ix ↑(Aj cols j 0) ↑(Ad r) (zL r≠[])/\3<=Ad (Am (Aj cols j 0*3)<|zL r)) ?_ ⟨⟨(by omega),⟨(by omega),(by exact zEk _ (by omega))⟩⟩,(by exact zDv _ _ (by omega))⟩) ⟨(by omega),⟨(by omega),(by exact zAb)⟩⟩;refine vs 45 (AE<|Bg 3<|Am (Aj cols j 0*3)<|zL r) (AE<|vaC<|Aj r (Aj cols j 0) Ah) (hd:=by simp(disch:=omega) only[zCh])<|vr 1 ((0:Int)<=(j:Int)/\(j:Int)<↑(Ad cols))<|vo0 46 0 (j*3)<|vr 1 (Bk.fz (vaB cur)=Ac/\Aa=Aa/\3=3/\j*3+3<=Ad (Aq<|vaB cur)/\¬0∈[]) (vb 0 (Ao (setAt (Aq<|vaB cur) (j*3) [iD<|Va.kind<|Aj r (Aj cols j 0) Ah,iD<|Va.int<|Aj r (Aj cols j 0) Ah,Al<|Bf<|bs<|Va.str<|Aj r (Aj cols j 0) Ah]) (Bk.ty<|vaB cur) (Bk.sz<|vaB cur) Aa Ac<|Bk.kd<|vaB cur) (Ao (zL<|List.set cur j<|Aj r (Aj cols j 0) Ah) (73:TypeId) 3 Aa Ac Ax) (hd:=by simp(disch:=omega) only[setAt,set3_va])<|vnil<|zE<|vN<|zA rfl<|vr 2 (i6 (↑j+1))<|vnil<|zC ?_) ⟨(by kernel_rfl),⟨(by kernel_rfl),⟨(by kernel_rfl),⟨(by(simp[zAp];omega)),(by decide)⟩⟩⟩⟩;rotate_left;refine vZ2<|vAe<|zJ<|zAy (True) (D.tup [An (Bg (Ad cols*3)<|Am 0<|Aq<|vaB cur)<|Ad cols,iD 0]) (D.tup [An (Bg (Ad cols*3)<|zL cur)<|Ad cols,Al<|Au AB 0]) (.inr rfl) (by simp(disch:=omega) only[BM]) ?_;rotate_left
 ·refine⟨j+1,cur.set j (r.getD (cols.getD j 0) Ah),⟨by omega,by simpa using k2,?_⟩,by omega,?_⟩
  ·rw[<-zMv r cols j (by omega)];grind [zVs,zR]
  refine vk 1
 grind [zQf,List.take_length,A2,zR]
theorem zTu(cs:List D)(n:Nat)(hl:cs.length=n*1)(hn:n<=1000000000):Pure Ag 120 [.row cs n] [⟨cs,3,1,Aa,Ac, .plain⟩] (.osl 0 0 n (n*1) Aa):=by
 by_cases h0:n=0
 ·subst h0;obtain rfl:cs=[]:=A0 (by omega);exact zTw
 have h1:0<n:=by omega
 refine zBp zAm mixed Tryz.func120 rfl rfl<|vAu<|zB<|vA<|ve (0<n)<|vf<|vK<|vA<|vr 4 ((True/\0<1/\1=1/\0<=16777216/\0<=9223372036854775807)/\Aa=Aa/\0=0/\0=0/\3=3/\1=1/\Ad cs=n*1/\0<1/\0<8/\3=3/\(0+n)*8<=140737488355328/\1=1/\Ac=Ac/\(Ac=Ac\/Ac=Aa))<|vs 2 (Ai 0 0 (0+n) ((0+n)*1) Aa) (Ai 0 0 n n Aa) (hd:=by simp(disch:=omega) only[BD,BC])<|veT<|zJ<|zAj (True) [Ai 0 0 n n Aa] (.inr rfl) ?_;exact⟨0,by simp[oneD],by kernel_rfl⟩
theorem zYo(cs:List D)(n:Nat)(hl:cs.length=n*1)(hn:n<=1000000000):Pure Ag 120 [.row cs n] [] (.row cs n):=(zTu cs n hl hn).frozen rfl (A2 (by show cs.length<=_;omega))
theorem zTt(cs:List D)(n:Nat)(hl:cs.length=n*1)(hn:n<=100000000):Pure Ag 76 [.row cs n] [⟨cs,29,1,Aa,Ac, .plain⟩] (.osl 0 0 n (n*1) Aa):=by
 by_cases h0:n=0
 ·subst h0;obtain rfl:cs=[]:=A0 (by omega);exact zTv
 have h1:0<n:=by omega
 refine zBp zAm mixed Tryz.func76 rfl rfl<|vAu<|zB<|vA<|ve (0<n)<|vf<|vK<|vA<|vr 4 ((True/\0<1/\1=1/\0<=16777216/\0<=9223372036854775807)/\Aa=Aa/\0=0/\0=0/\29=29/\1=1/\Ad cs=n*1/\0<1/\0<24/\29=29/\(0+n)*24<=140737488355328/\1=1/\Ac=Ac/\(Ac=Ac\/Ac=Aa))<|vs 2 (Ai 0 0 (0+n) ((0+n)*1) Aa) (Ai 0 0 n n Aa) (hd:=by simp(disch:=omega) only[BD,BC])<|veT<|zJ<|zAj (True) [Ai 0 0 n n Aa] (.inr rfl) ?_;exact⟨0,by simp[oneD],by kernel_rfl⟩
theorem zNc(cs:List D)(n:Nat)(hl:cs.length=n*3)(hn:n<=100000000):Pure Ag 39 [.row cs n] [⟨cs,73,3,Aa,Ac, .plain⟩] (.osl 0 0 n (n*3) Aa):=by
 by_cases h0:n=0
 ·subst h0;obtain rfl:cs=[]:=A0 (by omega);exact zYr
 have h1:0<n:=by omega
 refine zBp zAm mixed Tryz.func39 rfl rfl<|vAu<|zB<|vA<|ve (0<n)<|vf<|vK<|vA<|vr 4 ((True/\0<3/\3=3/\0<=16777216/\0<=9223372036854775807)/\Aa=Aa/\0=0/\0=0/\73=73/\3=3/\Ad cs=n*3/\0<3/\0<32/\73=73/\(0+n)*32<=140737488355328/\3=3/\Ac=Ac/\(Ac=Ac\/Ac=Aa))<|vs 2 (Ai 0 0 (0+n) ((0+n)*3) Aa) (Ai 0 0 n (n*3) Aa) (hd:=by simp(disch:=omega) only[BD])<|veT<|zJ<|zAj (True) [Ai 0 0 n (n*3) Aa] (.inr rfl) ?_;exact⟨0,by simp[oneD],by kernel_rfl⟩
theorem zHw(cs:List D)(n:Nat)(hl:cs.length=n*3)(hn:n<=100000000):Pure Ag 39 [.row cs n] [] (.row cs n):=(zNc cs n hl hn).frozen rfl (A2 (by show cs.length<=_;omega))
def Sm(n:Nat):Prop:=(dg n).length<=1000
abbrev rwB(l:List D):Bk:=⟨l,29,1,Aa,Ac, .plain⟩
def Tr:Par:=⟨λf=>f==103||f==136||f==101||f==104,λ_ _=>Ae,λk=>decide (k<1),λ_=>Ac,λ_=>Ac⟩
theorem Tr_ok:zBi Ag Tr:=by intro t n f h;cases h
theorem keepR{st:List Bk}(h:st.length=1):∀k,k<st.length->Tr.keep k=true:=λk hk=>by
 show decide (k<1)=Aa;rw[decide_eq_true_eq];omega
theorem zHn:∀k,1<=k->Tr.keep k=false:=λk hk=>by
 show decide (k<1)=Ac;rw[decide_eq_false_iff_not];omega
theorem blenR_c(n:Nat)(hn:n<18446744073709551616):Pure Ag 86 [.val (.int .u64 n)] [] (.val (.int .i64 (Bd n))):=
 zCl (us:=[.int .u64 n]) (λw=>(Tryz.bits_Len n w (by omega) (by omega)).mono λe w' h=>⟨by rw[h.1];simp,h.2.symm⟩)
theorem zBm(l:List (List Va))(k:Nat)(h:k<l.length:=by omega):((l.map rowV).drop k).headD .unk=rowV (l.getD k []):=zA2 rowV l [] k h
def zXw(R:List Rw)(j:Nat):Bool:=decide (j=0)||!decide (rcmp (R.getD j []) (R.getD (j-1) [])<0)
def srtB(R:List Rw):Bool:=(Az R.length).all (zXw R)
abbrev cmpF:D:= .clo (.func 102) [] []
set_option maxHeartbeats 1000000 in
theorem zM4(rows:List Rw)(n:Nat)(hn:rows.length=n)(hb:n<=2000000)(hl:∀r∈rows,r.length<=2000000):Acts Ag 101 [.osl 0 0 n n Aa,cmpF] [rwB (rows.map rowV)] [] (bD (srtB rows)) [rwB (rows.map rowV)]:=by
 subst hn;refine zAk Tr_ok mixed Tryz.func101 rfl (keepR rfl)<|vAu<|zB<|vA<|ve (i6 ((Ad rows:Int)-(1:Int)))<|zF<|zS (λ(k:Nat)=>fr 25 [(0,Ai 0 0 (Ad rows) (Ad rows) Aa),(1,cmpF),(5,iD ((k:Int)-(1:Int)))]) (λ(k:Nat)=>[rwB<|rows.map rowV]) (λ(k:Nat)=>k) (λ(k:Nat)=>k<=rows.length/\∀j,k<=j->j<rows.length->zXw rows j=Aa) rows.length ?_ ?_ ?_
 ·grind
 ·refine vk 1 ?_;exact zHn
 rintro k ⟨h1,h2⟩;rcases AL 1 k with h3|h3
 ·obtain⟨m,rfl⟩:∃m,k=m+2:=⟨k-2,by omega⟩;have hx:=zBm rows (m+1);have hy:=zBm rows m;have e1:((m+2:Nat):Int)-1=((m+1:Nat):Int):=by omega
  have e2:((m+1:Nat):Int)-1=(m:Int):=by omega
  have l1:=hl _ (zAf rows [] (m+1) (by omega));have l2:=hl _ (zAf rows [] m (by omega));have hw:zXw rows (m+1)=!decide (rcmp (rows.getD (m+1) []) (rows.getD m [])<0):=by simp[zXw]
  have hno:zXw rows (m+1)=Ac->srtB rows=false:=λh=>zVw (by omega) h;generalize rows.getD (m+1) []=r at*;generalize rows.getD m []=s at*;have hcm:=zD5 r s _ _ rfl rfl (by omega) (by omega);focus
   refine zB<|vAs<|vrT 1<|vs 9 (iD (↑(m+2)-1)) (iD ↑(m+1))<|veT<|vT ((↑(m+1):Int)>(0:Int))<|vKB<|zB<|vd [0,1,2,3,5,6,7,8,4,9,10,11]<|vrT 3<|vs 15 (iD (↑(m+2)-1)) (iD ↑(m+1))<|vr 1 ((0:Int)<=(↑(m+1):Int)/\(↑(m+1):Int)<(Ad rows:Int))<|vo 16 0 (m+1)<|vrT 2<|vs 19 (iD (↑(m+2)-1)) (iD ↑(m+1))<|vr 1 (i6 (↑(m+1)-1))<|vs 20 (iD (↑(m+1)-1)) (iD m)<|vr 1 ((0:Int)<=(m:Int)/\(m:Int)<↑(Ad rows))<|vo 21 0 m<|vr 1 (0<Ad (Am (m+1)<|Aq<|rwB<|Af rowV rows))<|vsh 17 hx<|vr 1 (0<Ad (Am m<|Aq<|rwB<|Af rowV rows))<|vsh 22 hy<|vc hcm<|veT<|vcD (rcmp r s<0) (λhc=>?_)<|λhc=>?_;refine vAe<|zJ<|zN<|zH<|zH<|zN<|zH<|zAj (True) [Al<|AO Ac] (.inr rfl) ?_;rotate_left;refine zK<|zE<|vN<|zA rfl<|vrT 1<|vs 11 (iD (↑(m+2)-1)) (iD ↑(m+1))<|vr 1 (i6 (↑(m+1)-1))<|vs 12 (iD (↑(m+1)-1)) (iD m)<|vrT 1<|vnil<|zC ?_;rotate_left
  ·rw[hno (by rw[hw];simpa using hc)];exact⟨by kernel_rfl,by kernel_rfl⟩
  refine⟨m+1,⟨by omega,λj j1 j2=>?_⟩,by omega,?_⟩
  ·grind
  refine wk 5 (iD (↑m:Int)) (iD ((↑(m+1):Int)-(1:Int))) (by simp) (vk 1 ?_);exact zHn
 have hy:srtB rows=true:=zJb λj hj=>by
  rcases Bv j with h|h
  ·subst h;rfl
  exact h2 j (by omega) hj
 rw[hy];refine zB<|vAu<|vF ((k:Int)-(1:Int)>(0:Int))<|vZ2<|vAe<|zJ<|zAj (True) [Al<|AO Aa] (.inr rfl) ?_;exact⟨by kernel_rfl,by kernel_rfl⟩
set_option maxHeartbeats 1000000 in
theorem zZv(rows:List Rw)(n:Nat)(hn:rows.length=n)(hb:n<=2000000)(hpos:0<n)(hl:∀r∈rows,r.length<=2000000):Acts Ag 103 [.osl 0 0 n n Aa,cmpF] [rwB (rows.map rowV)] [] (.tup []) [rwB ((zMl rows).map rowV)]:=by
 have hlim:Bd n<4611686018427387904:=BQ (Lib.bitLen_le n 62 (by omega) (by omega)) (by omega);have hp:=pdq_rows (st:=[rwB (rows.map rowV)]) (k:=0) (lim:=Bd n) (wh:=Aa) (g:=102) (caps:=[]) (caps':=[]) (ks:=[]) rfl rfl rfl rfl rfl hn hb hpos hlim rfl (by simp) (enters_of Tryz.func102 (by kernel_rfl) rfl)
  (λx hx y hy=>zD5 x y _ _ rfl rfl (by have:=hl x hx;omega) (by have:=hl y hy;omega))
 refine zAk Tr_ok mixed Tryz.func103 rfl (keepR rfl)<|vAu<|zA rfl<|vr 4 (u6 (n:Int))<|vc (blenR_c n (by omega))<|vrT 1<|vnt [rwB<|Af rowV rows]<|zAx [] [] [Ai 0 0 n n Aa,iD 0,iD (n:Int),iD (↑(Bd n):Int),Ay (Fn.func 102) [] []] [Ai 0 0 n n Aa,iD 0,iD (n:Int),iD (↑(Bd n):Int),Ay (Fn.func 102) [] []] (LeL.refl _) (by exact hp) ?_;refine vnil<|zAj (True) [] (.inl rfl) ?_;exact⟨by kernel_rfl,by kernel_rfl⟩
end
section
open Go.RowKit
def uqA(p:Rw):List Rw->List Rw
 |[]=>[]
 |b::l=>if b=p then uqA b l else b::uqA b l
def uq:List Rw->List Rw
 |[]=>[]
 |a::l=>a::uqA a l
theorem zVk(b:Rw):∀(l:List Rw)(p:Rw),uqA p (l++[b])=if b=l.getLastD p then uqA p l else uqA p l++[b]
 |[],p=>by
  grind [uqA]
 |c::l,p=>by
  have ih:=zVk b l c;rw[BJ,List.getLastD_cons];simp only[uqA,ih];split<;>split<;>simp
theorem uq_snoc(a b:Rw)(l:List Rw):uq (a::l++[b])=if b=l.getLastD a then uq (a::l)else uq (a::l)++[b]:=by
 show a::uqA a (l++[b])=_;rw[zVk];split<;>rfl
theorem zZa(rows:List Rw){p:Nat}(h0:0<p)(h:p<rows.length):uq (rows.take (p+1))=if rows.getD p []=rows.getD (p-1) []then uq (rows.take p)else uq (rows.take p)++[rows.getD p []]:=by
 obtain⟨q,rfl⟩:∃q,p=q+1:=⟨p-1,by omega⟩;match rows,h with
 | a::l,h=>
  simp only[Bx]at h;have e1:(a::l).take (q+1+1)=a::l.take q++[(a::l).getD (q+1) []]:=by
   simp_all
  have e2:(l.take q).getLastD a=(a::l).getD (q+1-1) []:=by
   grind
  grind [uq_snoc]
theorem zZb{l:List Rw}{x:Rw}(h:x∈uq l):x∈l:=by
 have key:∀(l:List Rw)(p:Rw),x∈uqA p l->x∈l:=by
  intro l;induction l with
  |nil=>intro p h;simp[uqA]at h
  |cons b l ih=>
   intro p h;simp only[uqA]at h;grind
 match l,h with
 |a::l,h=>
  rcases AH.1 h with rfl|h;all_goals grind
theorem zVj(l:List Rw):(uq l).length<=l.length:=by
 have key:∀(l:List Rw)(p:Rw),(uqA p l).length<=l.length:=by
  intro l;induction l with
  |nil=>intro p;simp[uqA]
  |cons b l ih=>
   intro p
   have:=ih b
   simp only[uqA];grind
 cases l with
 |nil=>simp[uq]
 |cons a l=>
  have:=key l a
  simp only[uq,Bx];omega
theorem uq_one{l:List Rw}(h:l.length<2):uq l=l:=by
 match l,h with
 |[],_=>rfl
 |[a],_=>rfl
theorem uq_adj{rows:List Rw}(h:uq rows=rows){p:Nat}(h0:0<p)(hp:p<rows.length):¬rows.getD p []=rows.getD (p-1) []:=by
 have key:∀(l:List Rw)(a:Rw),uqA a l=l->(a::l).Pairwise (λ_ _=>True)->∀q,q<l.length->l.getD q []≠(a::l).getD q []:=by
  intro l;induction l with
  |nil=>intro a _ _ q hq;simp at hq
  | cons b l ih=>
   intro a h _ q hq;simp only[uqA]at h;have hba:b≠a:=λe=>by
    rw[if_pos e]at h;have:(uqA b l).length<=l.length:=by
     have:=zVj (b::l)
     simp only[uq,Bx]at this;omega
    grind
   grind
 match rows,h,hp with
 |a::l,h,hp=>
  grind [uq,List.pairwise_iff_forall_sublist]
end
section
open Go.RowKit
attribute [local irreducible] seqW awp zW zX zP Weak updS zZ retL Pure Acts rP setP setQ cP nP fr
set_option maxRecDepth 4096
abbrev eqlF:D:= .clo (.func 100) [] []
theorem set_rwV(l:List Rw)(i:Nat)(r:Rw):(l.map rowV).set i (rowV r)=(l.set i r).map rowV:=by simp
theorem zKe(n:Nat)(d:D):repL n [d]=AA n d:=by
 induction n with
 |zero=>rfl
 |succ n ih=>simp only[repL,BG,BK]at ih⊢;rw[ih];rfl
theorem getD_setR(l:List Rw)(i j:Nat)(r:Rw)(h:i<j):(l.set i r).getD j []=l.getD j []:=by
 grind
theorem zZh(l:List Rw)(i:Nat)(r:Rw)(h:i<l.length):(l.set i r).take (i+1)=l.take i++[r]:=by
 rw[List.take_set,A3 h,List.set_append];simp[BR (Nat.le_of_lt h)]
set_option maxHeartbeats 4000000 in
theorem zR3(rows:List Rw)(n:Nat)(hn:rows.length=n)(hb:n<=2000000)(hl:∀r∈rows,r.length<=2000000):∃t:List D,Acts Ag 104 [.osl 0 0 n n Aa,eqlF] [rwB (rows.map rowV)] [] (.osl 0 0 (uq rows).length (uq rows).length Aa) [rwB ((uq rows).map rowV++t)]:=by
 subst hn;by_cases hu:uq rows=rows
 ·refine⟨[],?_⟩;rw[hu,Cb];refine zAk Tr_ok mixed Tryz.func104 rfl (keepR rfl) ?_;by_cases h2:rows.length<2
  ·refine vAu<|zB<|vAe<|vT ((Ad rows:Int)<(2:Int))<|vAe<|zJ<|zH<|zAj (True) [Ai 0 0 (Ad rows) (Ad rows) Aa] (.inr rfl) ?_;exact⟨by kernel_rfl,by kernel_rfl⟩
  refine vAu<|zB<|vAe<|vF ((Ad rows:Int)<(2:Int))<|vK<|zB<|vAe<|zF<|zS (λ(k:Nat)=>fr 66 [(0,Ai 0 0 (Ad rows) (Ad rows) Aa),(1,eqlF),(5,iD k)]) (λ(k:Nat)=>[rwB<|rows.map rowV]) (λ(k:Nat)=>rows.length-k) (λ(k:Nat)=>0<k/\k<=rows.length) 1 ?_ ?_ ?_
  ·omega
  ·refine vk 1 ?_;exact zHn
  rintro k ⟨k0,k1⟩;rcases AL k rows.length with k3|k3
  ·obtain⟨m,rfl⟩:∃m,k=m+1:=⟨k-1,by omega⟩;have hx:=zBm rows (m+1);have hy:=zBm rows m;have e2:((m+1:Nat):Int)-1=(m:Int):=by omega
   have l1:=hl _ (zAf rows [] (m+1) (by omega));have l2:=hl _ (zAf rows [] m (by omega));have hne:=uq_adj hu (by omega) k3;rw[Nat.add_sub_cancel]at hne;generalize rows.getD (m+1) []=r at*;generalize rows.getD m []=s at*;have hcm:=zF2 r s _ _ rfl rfl (by omega) (by omega);rw[decide_eq_false hne]at hcm;refine zB<|vAu<|vT ((↑(m+1):Int)<↑(Ad rows))<|vKB<|zB<|vd [0,1,2,3,5,6,7,8,4,9,10]<|vr 4 ((0:Int)<=(↑(m+1):Int)/\(↑(m+1):Int)<(Ad rows:Int))<|vo 21 0 (m+1)<|vr 3 (i6 (↑(m+1)-1))<|vs 25 (iD (↑(m+1)-1)) (iD m)<|vr 1 ((0:Int)<=(m:Int)/\(m:Int)<↑(Ad rows))<|vo 26 0 m<|vr 1 (0<Ad (Am (m+1)<|Aq<|rwB<|Af rowV rows))<|vsh 22 hx<|vr 1 (0<Ad (Am m<|Aq<|rwB<|Af rowV rows))<|vsh 27 hy<|vc hcm<|veT<|vf<|zK<|zE<|vN<|zA rfl<|vr 3 (i6 (↑(m+1)+1))<|vnil<|zC<|⟨m+1+1,⟨by omega,by omega⟩,by omega,?_⟩;refine vk 1 ?_;exact zHn
  refine zB<|vAu<|vF ((k:Int)<(Ad rows:Int))<|vZ2<|vAe<|zJ<|zAj (True) [Ai 0 0 (Ad rows) (Ad rows) Aa] (.inr rfl) ?_;exact⟨by kernel_rfl,by kernel_rfl⟩
 have h2:¬rows.length<2:=λh=>hu (uq_one h);refine⟨AA (rows.length-(uq rows).length) (.val (.slice Ae 0 0)),?_⟩;refine zAk Tr_ok mixed Tryz.func104 rfl (keepR rfl)<|vAu<|zB<|vAe<|vF ((Ad rows:Int)<(2:Int))<|vK<|zB<|vAe<|zF<|zS (λ(k:Nat)=>fr 66 [(0,Ai 0 0 (Ad rows) (Ad rows) Aa),(1,eqlF),(5,iD (k:Int))]) (λ(k:Nat)=>[rwB<|rows.map rowV]) (λ(k:Nat)=>rows.length-k) (λ(k:Nat)=>0<k/\k<=rows.length/\uq (rows.take k)=rows.take k) 1 ?_ ?_ ?_
 ·grind [uq_one]
 ·refine vk 1 ?_;exact zHn
 rintro k ⟨k0,k1,k2⟩;rcases AL k rows.length with k3|k3;case inr=>exact absurd (by rw[A2 k3]at k2;exact k2) hu
 obtain⟨m,rfl⟩:∃m,k=m+1:=⟨k-1,by omega⟩;have hx:=zBm rows (m+1);have hy:=zBm rows m;have e2:((m+1:Nat):Int)-1=(m:Int):=by omega
 have l1:=hl _ (zAf rows [] (m+1) (by omega));have l2:=hl _ (zAf rows [] m (by omega));have ht:=zZa rows (p:=m+1) (by omega) k3;rw[Nat.add_sub_cancel]at ht;by_cases he:rows.getD (m+1) []=rows.getD m [];case neg=>
  rw[if_neg he,k2]at ht;have ht2:uq (rows.take (m+1+1))=rows.take (m+1+1):=by
   simp_all
  generalize rows.getD (m+1) []=r at*;generalize rows.getD m []=s at*;have hcm:=zF2 r s _ _ rfl rfl (by omega) (by omega);rw[decide_eq_false he]at hcm;refine zB<|vAu<|vT ((↑(m+1):Int)<↑(Ad rows))<|vKB<|zB<|vd [0,1,2,3,5,6,7,8,4,9,10]<|vr 4 ((0:Int)<=(↑(m+1):Int)/\(↑(m+1):Int)<(Ad rows:Int))<|vo 21 0 (m+1)<|vr 3 (i6 (↑(m+1)-1))<|vs 25 (iD (↑(m+1)-1)) (iD m)<|vr 1 ((0:Int)<=(m:Int)/\(m:Int)<↑(Ad rows))<|vo 26 0 m<|vr 1 (0<Ad (Am (m+1)<|Aq<|rwB<|Af rowV rows))<|vsh 22 hx<|vr 1 (0<Ad (Am m<|Aq<|rwB<|Af rowV rows))<|vsh 27 hy<|vc hcm<|veT<|vf<|zK<|zE<|vN<|zA rfl<|vr 3 (i6 (↑(m+1)+1))<|vnil<|zC<|⟨m+1+1,⟨by omega,by omega,ht2⟩,by omega,?_⟩;refine vk 1 ?_;exact zHn
 rw[if_pos he,k2]at ht;have hcm:=zF2 (rows.getD (m+1) []) (rows.getD m []) _ _ rfl rfl (by omega) (by omega);rw[decide_eq_true he]at hcm;refine zB<|vAu<|vT ((↑(m+1):Int)<↑(Ad rows))<|vKB<|zB<|vd [0,1,2,3,5,6,7,8,4,9,10]<|vr 4 ((0:Int)<=(↑(m+1):Int)/\(↑(m+1):Int)<(Ad rows:Int))<|vo 21 0 (m+1)<|vr 3 (i6 (↑(m+1)-1))<|vs 25 (iD (↑(m+1)-1)) (iD m)<|vr 1 ((0:Int)<=(m:Int)/\(m:Int)<↑(Ad rows))<|vo 26 0 m<|vr 1 (0<Ad (Am (m+1)<|Aq<|rwB<|Af rowV rows))<|vsh 22 hx<|vr 1 (0<Ad (Am m<|Aq<|rwB<|Af rowV rows))<|vsh 27 hy<|vc hcm<|veT<|vt<|vA<|vr 3 ((0:Int)<=(↑(m+1):Int)/\True/\True/\0<1/\Aw (↑(m+1):Int)<=Ad rows/\Ad rows<=Ad rows/\Ad rows=Ad rows)<|vs 31 (Ai 0 (0+Aw (↑(m+1):Int)*1) (Ad rows-Aw (↑(m+1):Int)) ((Ad rows-Aw (↑(m+1):Int))*1) Ac) (Ai 0 (m+1) (Ad rows-(m+1)) (Ad rows-(m+1)) Ac)<|veT<|zB<|vAe<|zF<|zBh (λ(q:Nat)(k:Nat)(R:List Rw)=>fr 66 [(0,Ai 0 0 (Ad rows) (Ad rows) Aa),(1,eqlF),(5,iD k),(6,Ai 0 (m+1) (Ad rows-(m+1)) (Ad rows-(m+1)) Ac),(7,iD q)]) (λ(q k:Nat)(R:List Rw)=>[rwB<|R.map rowV]) (λ(q k:Nat)(R:List Rw)=>rows.length-(m+1)-q) (λ(q k:Nat)(R:List Rw)=>0<q/\m+1+q<=rows.length/\k<=m+q/\0<k/\R.length=rows.length/\R.take k=uq (rows.take (m+1+q))/\(∀r∈R,r.length<=2000000)/\∀j,m+q<=j->R.getD j []=rows.getD j []) 1 (m+1) rows ?_ ?_ ?_
 ·grind
 ·refine vk 1 ?_;exact zHn
 clear hx hy e2 l1 l2 ht he hcm;rintro q k R ⟨q0,q1,q2,q3,q4,q5,q6,q7⟩;rcases AL q (rows.length-(m+1))with q8|q8
 ·obtain⟨p,rfl⟩:∃p,q=p+1:=⟨q-1,by omega⟩;have hx:=zBm R (m+1+(p+1));have hy:=zBm R (m+1+p);have e2:((p+1:Nat):Int)-1=(p:Int):=by omega
  have l1:=q6 _ (zAf R [] (m+1+(p+1)) (by omega));have l2:=q6 _ (zAf R [] (m+1+p) (by omega));have ht:=zZa rows (p:=m+1+(p+1)) (by omega) (by omega);rw[show m+1+(p+1)-1=m+1+p by omega,<-q7 (m+1+(p+1)) (by omega),<-q7 (m+1+p) (by omega),<-q5]at ht;have ht2:=zZh R k (R.getD (m+1+(p+1)) []) (by omega);have hst:=set_rwV R k (R.getD (m+1+(p+1)) []);have hgs:=λj (h:k<j)=>getD_setR R k j (R.getD (m+1+(p+1)) []) h;have hms:∀r∈R.set k (R.getD (m+1+(p+1)) []),r.length<=2000000:=λr hr=>by
   grind
  by_cases he:R.getD (m+1+(p+1)) []=R.getD (m+1+p) []
  ·rw[if_pos he]at ht;have hcm:=zF2 (R.getD (m+1+(p+1)) []) (R.getD (m+1+p) []) _ _ rfl rfl (by omega) (by omega);rw[decide_eq_true he]at hcm;refine zB<|vAu<|vT ((↑(p+1):Int)<(↑(Ad rows-(m+1)):Int))<|vKB<|zB<|vd [0,1,2,3,5,6,7,8,4,9,10,11]<|vr 4 ((0:Int)<=(↑(p+1):Int)/\(↑(p+1):Int)<(↑(Ad rows-(m+1)):Int))<|vs 41 (AK 0 (m+1+Aw (↑(p+1):Int)*1)) (AK 0 (m+1+(p+1)))<|vr 3 (i6 (↑(p+1)-1))<|vs 45 (iD (↑(p+1)-1)) (iD p)<|vr 1 ((0:Int)<=(p:Int)/\(p:Int)<(↑(Ad rows-(m+1)):Int))<|vs 46 (AK 0 (m+1+Aw (p:Int)*1)) (AK 0 (m+1+p))<|vr 1 (0<Ad (Am (m+1+(p+1))<|Aq<|rwB<|Af rowV R))<|vsh 42 hx<|vr 1 (0<Ad (Am (m+1+p)<|Aq<|rwB<|Af rowV R))<|vsh 47 hy<|vc hcm<|veT<|vf<|zK<|zE<|vN<|zA rfl<|vr 3 (i6 (↑(p+1)+1))<|vnil<|zC<|⟨p+1+1,k,R,⟨by omega,by omega,by omega,by omega,q4,ht.symm,q6,λj hj=>q7 j (by omega)⟩,by omega,?_⟩;refine vk 1 ?_;exact zHn
  rw[if_neg he]at ht;have hcm:=zF2 (R.getD (m+1+(p+1)) []) (R.getD (m+1+p) []) _ _ rfl rfl (by omega) (by omega);rw[decide_eq_false he]at hcm;refine zB<|vAu<|vT ((↑(p+1):Int)<(↑(Ad rows-(m+1)):Int))<|vKB<|zB<|vd [0,1,2,3,5,6,7,8,4,9,10,11]<|vr 4 ((0:Int)<=(↑(p+1):Int)/\(↑(p+1):Int)<(↑(Ad rows-(m+1)):Int))<|vs 41 (AK 0 (m+1+Aw (↑(p+1):Int)*1)) (AK 0 (m+1+(p+1)))<|vr 3 (i6 (↑(p+1)-1))<|vs 45 (iD (↑(p+1)-1)) (iD p)<|vr 1 ((0:Int)<=(p:Int)/\(p:Int)<(↑(Ad rows-(m+1)):Int))<|vs 46 (AK 0 (m+1+Aw (p:Int)*1)) (AK 0 (m+1+p))<|vr 1 (0<Ad (Am (m+1+(p+1))<|Aq<|rwB<|Af rowV R))<|vsh 42 hx<|vr 1 (0<Ad (Am (m+1+p)<|Aq<|rwB<|Af rowV R))<|vsh 47 hy<|vc hcm<|veT<|vt<|vA<|vr 5 ((0:Int)<=(↑(p+1):Int)/\(↑(p+1):Int)<(↑(Ad rows-(m+1)):Int))<|vs 54 (AK 0 (m+1+Aw (↑(p+1):Int)*1)) (AK 0 (m+1+(p+1)))<|vr 1 (0<Ad (Am (m+1+(p+1))<|Aq<|rwB<|Af rowV R))<|vsh 55 hx<|vr 1 ((0:Int)<=(k:Int)/\(k:Int)<↑(Ad rows))<|vo 56 0 k<|vr 1 (Bk.fz (rwB<|Af rowV R)=Ac/\Aa=Aa/\1=1/\k+1<=Ad (Aq<|rwB<|Af rowV R)/\¬0∈[])<|vb 0 (Ao (setAt (Aq<|rwB<|Af rowV R) k<|cellsOf<|An (zL<|Aj R (m+1+(p+1)) [])<|Ad<|Aj R (m+1+(p+1)) []) (Bk.ty<|rwB<|Af rowV R) (Bk.sz<|rwB<|Af rowV R) Aa Ac<|Bk.kd<|rwB<|Af rowV R) (Ao (Af rowV<|List.set R k<|Aj R (m+1+(p+1)) []) (29:TypeId) 1 Aa Ac Ax) (hd:=by simp(disch:=omega) only[cellsOf,setAt,hst])<|veT<|zA rfl<|vr 3 (i6 (↑k+1))<|vnil<|zE<|vN<|zA rfl<|vr 3 (i6 (↑(p+1)+1))<|vnil<|zC<|⟨p+1+1,k+1,R.set k<|R.getD (m+1+(p+1)) [],⟨by omega,by omega,by omega,by omega,by rw[Bc];exact q4,by rw[ht2];exact ht.symm,hms,λj hj=>by rw[hgs j (by omega)];exact q7 j (by omega)⟩,by omega,?_⟩;refine vk 1 ?_;exact zHn
 obtain rfl:q=rows.length-(m+1):=by omega
 rw[show m+1+(rows.length-(m+1))=rows.length by omega,List.take_length]at q5;have hkl:(uq rows).length=k:=by rw[<-q5,Bi];omega
 rw[hkl,<-q5];have hcl:setAt (R.map rowV) k (repL (rows.length-k) [.val (.slice Ae 0 0)])=(R.take k).map rowV++AA (rows.length-k) (.val (.slice Ae 0 0)):=by
  have h1:=zG4 ((R.drop k).map rowV) (repL (rows.length-k) [.val (.slice Ae 0 0)]) ((R.take k).map rowV) (by rw[zKe];simp[q4]);grind [Bs,AX,Bi,BR,zKe]
 refine zB<|vAu<|vF ((↑(Ad rows-(m+1)):Int)<(↑(Ad rows-(m+1)):Int))<|vZ2<|vA<|vr 3 ((0:Int)<=(k:Int)/\True/\True/\0<1/\Aw (k:Int)<=Ad rows/\Ad rows<=Ad rows/\Ad rows=Ad rows)<|vs 61 (Ai 0 (0+Aw (k:Int)*1) (Ad rows-Aw (k:Int)) ((Ad rows-Aw (k:Int))*1) Ac) (Ai 0 k (Ad rows-k) (Ad rows-k) Ac)<|ve (Bk.fz (rwB<|Af rowV R)=Ac/\Kd.isMap (Bk.kd<|rwB<|Af rowV R)=Ac/\0<1/\k+(Ad rows-k)*1<=Ad (Aq<|rwB<|Af rowV R))<|vA<|vr 3 (True/\(0:Int)<=(k:Int)/\True/\0<1/\0<=Aw (k:Int)/\Aw (k:Int)<=Ad rows/\Aw (k:Int)=Aw (k:Int))<|vs 64 (Ai 0 0 (Aw (k:Int)-0) ((Aw (k:Int)-0)*1) Aa) (Ai 0 0 k k Aa)<|veT<|zJ<|zN<|zH<|zH<|zN<|zH<|zAj (True) [Ai 0 0 k k Aa] (.inr rfl) ?_;rw[<-hcl];exact⟨by kernel_rfl,by kernel_rfl⟩
end
section
open Go.RowKit
def only(β:Be)(k:Nat):Be:=λj=>if j=0 then β k else Ae
def Bk.free(e:Bk):Prop:=e.nob=Aa\/∀j,zBd j e.cells=Ac
theorem Bk.free.own{e:Bk}(h:e.free){I:Im}{w:World}{β β':Be}{b c:Nat}(ho:OwnRel I w β b c e):OwnRel I w β' b c e:=
 ho.congr λhn k x hr _=>by
  rcases h with h|h
  ·rw[h]at hn;cases hn
  rw[h k]at hr;cases hr
theorem Acts.atG{P:Program}{f:FuncId}{args1 args:List D}{e e':Bk}{x:D}{st:List Bk}(k:Nat)(h:Acts P f args1 [e] [] x [e'])(he:st[k]?=Ab e)(ha:e.free)(ha':e'.free)
  (hargs:∀I w β vs,RelT I w β args vs->RelT I w (only β k) args1 vs):Acts P f args st [] (zBf k x) (st.set k e'):=by
 intro β I w vs hr hsr hinj hfz hdom hi hg;have o0:∀{j:Nat}{y:Nat×Nat},only β k j=Ab y->j=0/\β k=Ab y:=λ{j y} hj=>by
  grind [only]
 have hk:k<st.length:=(AZ.1 he).1;have hsr1:SR (only β k) I w [e]:=λj b c hj=>by
  obtain⟨rfl,hb⟩:=o0 hj;obtain⟨e0,h1,h2⟩:=hsr k b c hb;rw[he]at h1;cases h1;exact⟨e,rfl,ha.own h2⟩
 have hinj1:Inj (only β k):=λj j' b c c' h1 h2=>by rw[(o0 h1).1,(o0 h2).1]
 have hfz1:FZ (only β k) I [e]:=λj b c i e0 h1 h2 h3=>by
  obtain⟨rfl,hb⟩:=o0 h1;simp only[BY,AT.injEq]at h2;subst h2;exact hfz k b c i e hb he h3
 refine(h (only β k) I w vs (hargs I w β vs hr) hsr1 hinj1 hfz1 (λj y hj=>by rw[(o0 hj).1];simp) hi hg).mono ?_;rintro en w' ⟨v,β1,I',rfl,p1,p2,p3,p4,p5,p6,p7,p8⟩;have d0:∀{j:Nat}{y:Nat×Nat},β1 j=Ab y->j=0:=λ{j y} hj=>by have:=p7 j y hj;simpa using this
 have old:∀{b c:Nat},β1 0=Ab (b,c)->(∃c',β k=Ab (b,c'))\/w.heap.size<=b:=λ{b c} hb=>by
  rcases p2.be 0 b c hb with⟨k',c',hk'⟩|hh;all_goals grind
 have hlt:∀{j b c:Nat},β j=Ab (b,c)->b<w.heap.size:=λ{j b c} hj=>by
  obtain⟨e0,_,h1⟩:=hsr j b c hj;exact h1.lt
 have keepk:∀y,β k=Ab y->β1 0=Ab y:=λy hy=>p3 0 y (by simp) (by simp only[only,if_true];exact hy);have hle:BeLe β (λj=>if j=k then β1 0 else β j):=λj y hj=>by
  grind
 have heap:∀{j b c:Nat},j≠k->β j=Ab (b,c)->w'.heap[b]?=w.heap[b]?:=λ{j b c} hne hj=>p2.out b (hlt hj) λj' c' hj'=>by
  have:=(o0 hj').2
  exact hne (hinj j k b c c' hj this)
 refine⟨v,λj=>if j=k then β1 0 else β j,I',rfl,p1,⟨p2.fix,p2.size,λb hb hn=>p2.out b hb λj c hj=>hn k c (o0 hj).2,p2.os,p2.tape,p2.output,p2.dr,λj b c hj=>?_,λb o hb=>?_⟩,λj y _ hj=>hle j y hj,λj b c hj=>?_,λj j' b c c' hj hj'=>?_,λj b c i e0 hj h2 h3=>?_,λj y hj=>?_,?_⟩
 ·grind
 ·rcases p2.im b o hb with h1|h1|⟨j,c,h1⟩;all_goals grind
 ·try simp only at hj
  split at hj
  ·rename_i ej;subst ej;obtain⟨e0,h1,h2⟩:=p4 0 b c hj;simp only[BY,AT.injEq]at h1;subst h1;exact⟨e',BZ hk,ha'.own h2⟩
  rename_i ej;obtain⟨e0,h1,h2⟩:=hsr j b c hj;exact⟨e0,by rw[B0 (λh=>ej h.symm)];exact h1,h2.mono (heap ej hj) p2.fix hle⟩
 ·try simp only at hj hj'
  split at hj<;>split at hj'
  ·rename_i a b;rw[a,b]
  ·rename_i a a';exfalso;rcases old hj with⟨c2,h1⟩|h1
   ·exact a' (hinj j' k b c' c2 hj' h1)
   have:=hlt hj';omega
  ·rename_i a a';exfalso;rcases old hj' with⟨c2,h1⟩|h1
   ·exact a (hinj j k b c c2 hj h1)
   have:=hlt hj;omega
  exact hinj j j' b c c' hj hj'
 ·try simp only at hj
  split at hj
  ·rename_i ej;subst ej;rw[BZ hk]at h2;cases h2;exact p6 0 b c i e' hj rfl h3
  rename_i ej;rw[B0 (λh=>ej h.symm)]at h2;rcases p2.im b i h3 with h4|h4|⟨j',c',h4⟩
  ·exact hfz j b c i e0 hj h2 h4
  ·have:=hlt hj;omega
  exact absurd (hinj j k b c c' hj (o0 h4).2) ej
 ·grind
 refine zD0 (λj y hj=>?_) x v p8;grind
theorem Acts.atC{P:Program}{f:FuncId}{args1 args:List D}{e e':Bk}{x:D}{st:List Bk}(k:Nat)(h:Acts P f args1 [e] [0] x [e'])(he:st[k]?=Ab e)(ha:e.free)(ha':e'.free)
  (hargs:∀I w β vs,RelT I w β args vs->RelT I w (only β k) args1 vs)(hno:∀j e0,j≠k->st[j]?=Ab e0->e0.nob=Aa\/zBd k e0.cells=Ac):Acts P f args st [k] (zBf k x) (st.set k e'):=by
 intro β I w vs hr hsr hinj hfz hdom hi hg;have o0:∀{j:Nat}{y:Nat×Nat},only β k j=Ab y->j=0/\β k=Ab y:=λ{j y} hj=>by
  grind [only]
 have hk:k<st.length:=(AZ.1 he).1;have hsr1:SR (only β k) I w [e]:=λj b c hj=>by
  obtain⟨rfl,hb⟩:=o0 hj;obtain⟨e0,h1,h2⟩:=hsr k b c hb;rw[he]at h1;cases h1;exact⟨e,rfl,ha.own h2⟩
 have hinj1:Inj (only β k):=λj j' b c c' h1 h2=>by rw[(o0 h1).1,(o0 h2).1]
 have hfz1:FZ (only β k) I [e]:=λj b c i e0 h1 h2 h3=>by
  obtain⟨rfl,hb⟩:=o0 h1;simp only[BY,AT.injEq]at h2;subst h2;exact hfz k b c i e hb he h3
 refine(h (only β k) I w vs (hargs I w β vs hr) hsr1 hinj1 hfz1 (λj y hj=>by rw[(o0 hj).1];simp) hi hg).mono ?_;rintro en w' ⟨v,β1,I',rfl,p1,p2,p3,p4,p5,p6,p7,p8⟩;have d0:∀{j:Nat}{y:Nat×Nat},β1 j=Ab y->j=0:=λ{j y} hj=>by have:=p7 j y hj;simpa using this
 have old:∀{b c:Nat},β1 0=Ab (b,c)->(∃c',β k=Ab (b,c'))\/w.heap.size<=b:=λ{b c} hb=>by
  rcases p2.be 0 b c hb with⟨k',c',hk'⟩|hh;all_goals grind
 have hlt:∀{j b c:Nat},β j=Ab (b,c)->b<w.heap.size:=λ{j b c} hj=>by
  obtain⟨e0,_,h1⟩:=hsr j b c hj;exact h1.lt
 have hne:∀j y,j≠k->β j=Ab y->(λj=>if j=k then β1 0 else β j) j=Ab y:=λj y h0 hj=>by
  grind
 have heap:∀{j b c:Nat},j≠k->β j=Ab (b,c)->w'.heap[b]?=w.heap[b]?:=λ{j b c} hne hj=>p2.out b (hlt hj) λj' c' hj'=>by
  have:=(o0 hj').2
  exact hne (hinj j k b c c' hj this)
 refine⟨v,λj=>if j=k then β1 0 else β j,I',rfl,p1,⟨p2.fix,p2.size,λb hb hn=>p2.out b hb λj c hj=>hn k c (o0 hj).2,p2.os,p2.tape,p2.output,p2.dr,λj b c hj=>?_,λb o hb=>?_⟩,λj y h0 hj=>hne j y (by simpa using h0) hj,λj b c hj=>?_,λj j' b c c' hj hj'=>?_,λj b c i e0 hj h2 h3=>?_,λj y hj=>?_,?_⟩
 ·grind
 ·rcases p2.im b o hb with h1|h1|⟨j,c,h1⟩;all_goals grind
 ·try simp only at hj
  split at hj
  ·rename_i ej;subst ej;obtain⟨e0,h1,h2⟩:=p4 0 b c hj;simp only[BY,AT.injEq]at h1;subst h1;exact⟨e',BZ hk,ha'.own h2⟩
  rename_i ej;obtain⟨e0,h1,h2⟩:=hsr j b c hj;exact⟨e0,by rw[B0 (λh=>ej h.symm)];exact h1,(h2.congr (β':=λj=>if j=k then β1 0 else β j) λhn i y hr hi=>by
   refine hne i y (λe1=>?_) hi;subst e1;rcases hno j e0 ej h1 with h3|h3
   ·rw[h3]at hn;cases hn
   rw[h3]at hr;cases hr).mono (heap ej hj) p2.fix (AC _)⟩
 ·try simp only at hj hj'
  split at hj<;>split at hj'
  ·rename_i a b;rw[a,b]
  ·rename_i a a';exfalso;rcases old hj with⟨c2,h1⟩|h1
   ·exact a' (hinj j' k b c' c2 hj' h1)
   have:=hlt hj';omega
  ·rename_i a a';exfalso;rcases old hj' with⟨c2,h1⟩|h1
   ·exact a (hinj j k b c c2 hj h1)
   have:=hlt hj;omega
  exact hinj j j' b c c' hj hj'
 ·try simp only at hj
  split at hj
  ·rename_i ej;subst ej;rw[BZ hk]at h2;cases h2;exact p6 0 b c i e' hj rfl h3
  rename_i ej;rw[B0 (λh=>ej h.symm)]at h2;rcases p2.im b i h3 with h4|h4|⟨j',c',h4⟩
  ·exact hfz j b c i e0 hj h2 h4
  ·have:=hlt hj;omega
  exact absurd (hinj j k b c c' hj (o0 h4).2) ej
 ·grind
 refine zD0 (λj y hj=>?_) x v p8;grind
theorem zQ6{I:Im}{w:World}{β β':Be}:∀{us vs:List Value},RelT I w β (us.map .val) vs->RelT I w β' (us.map .val) vs
 |[],vs,h=>by simpa only[Bb,RelT]using h
 |u::us,vs,h=>by
  simp only[AI,RelT,Rel]at h⊢;obtain⟨v,vs',h1,h2,h3⟩:=h;exact⟨v,vs',h1,h2,zQ6 h3⟩
theorem zV7{k off n m:Nat}{wh:Bool}(us:List Value)(I:Im)(w:World)(β:Be)(vs:List Value)(h:RelT I w β (.osl k off n m wh::us.map .val) vs):RelT I w (only β k) (.osl 0 off n m wh::us.map .val) vs:=by
 grind [only,RelT,zQ6,Rel]
theorem Bk.free_arr{e:Bk}(ha:e.arr=Aa)(hk:e.kd= .plain):e.free:= .inl (by unfold A9;rw[ha,hk];rfl)
end
section
open Go.RowKit
attribute [local irreducible] seqW awp zW zX zP Weak updS zZ retL Pure Acts rP setP setQ cP nP fr
set_option maxRecDepth 4096
def relR(rows:List Rw):List Rw:=uq (if srtB rows then rows else zMl rows)
theorem zKf(rows:List Rw):(relR rows).length<=rows.length:=by
 unfold relR;refine Nat.le_trans (zVj _) ?_;split
 ·exact Ak _
 rw[(zB2 rows).length_eq];exact Ak _
abbrev relB(a b:D):Bk:=⟨[a,b],43,0,Ac,Ac, .plain⟩
def Tb:Par:=⟨λf=>f==103||f==101||f==104||f==75,λ_ _=>Ae,λk=>decide (k<1),λ_=>Ac,λ_=>Ac⟩
theorem Tb_ok:zBi Ag Tb:=by intro t n f h;cases h
theorem keepB{st:List Bk}(h:st.length=1):∀k,k<st.length->Tb.keep k=true:=λk hk=>by
 show decide (k<1)=Aa;rw[decide_eq_true_eq];omega
theorem zWw:∀k,1<=k->Tb.keep k=false:=λk hk=>by
 show decide (k<1)=Ac;rw[decide_eq_false_iff_not];omega
theorem zJd{k n m:Nat}{g:FuncId}{wh:Bool}(I:Im)(w:World)(β:Be)(vs:List Value)(h:RelT I w β [.osl k 0 n m wh, .clo (.func g) [] []] vs):RelT I w (only β k) [.osl 0 0 n m wh, .clo (.func g) [] []] vs:=by
 grind [only,RelT,Rel]
theorem zN5{k n m:Nat}{z:Int}{wh:Bool}(I:Im)(w:World)(β:Be)(vs:List Value)(h:RelT I w β [iD z, .osl k 0 n m wh] vs):RelT I w (only β k) [iD z, .osl 0 0 n m wh] vs:=by
 grind [only,RelT,Rel]
theorem zVt(L:List Rw)(t:List D)(i:Nat)(h:i<L.length):(L.map rowV++t).set i (rowV (L.getD i []))=L.map rowV++t:=by
 grind [List.map_set,Ap,List.set_getElem_self]
theorem zM5(L:List Rw)(t:List D)(i:Nat)(h:i<L.length):((L.map rowV++t).drop i).headD .unk=rowV (L.getD i []):=by
 rw[List.drop_append_of_le_length (by simp;omega)];simp_all
set_option maxHeartbeats 2000000 in
theorem build_a(ar:Int)(rows:List Rw)(n:Nat)(hn:rows.length=n)(hb:n<=2000000)(hU65:(relR rows).length<=65536)(hl:∀r∈rows,r.length<=2000000):∃t:List D,Acts Ag 75 [iD ar, .osl 0 0 n n Aa] [rwB (rows.map rowV)] [] (.tup [.agg [iD ar, .osl 0 0 (relR rows).length (relR rows).length Aa],iD 0]) [rwB ((relR rows).map rowV++t)]:=by
 obtain⟨S,hS⟩:∃S,S=if srtB rows then rows else zMl rows:=⟨_,rfl⟩
 have hSl:S.length=n:=by
  rw[hS];split
  ·exact hn
  rw[(zB2 rows).length_eq,hn]
 have hSm:∀r∈S,r.length<=2000000:=λr hr=>by
  grind [zB2]
 obtain⟨t,hc⟩:=zR3 S n hSl (by omega) hSm;refine⟨t,?_⟩;have hu:=zVj S;have hum:∀r∈uq S,r.length<=2000000:=λr hr=>hSm r (zZb hr);have hrel:relR rows=uq S:=by rw[hS];rfl
 rw[hrel]at hU65⊢;have hs:=zM4 rows n hn (by omega) hl;have a1:=hs.atG (st:=[rwB (rows.map rowV),relB (iD 0) nl]) 0 rfl (Bk.free_arr rfl rfl) (Bk.free_arr rfl rfl) zJd;have a3:=hc.atG (st:=[rwB (S.map rowV),relB (iD 0) nl]) 0 rfl (Bk.free_arr rfl rfl) (Bk.free_arr rfl rfl) zJd;generalize hU:uq S=U at*;have key:Acts Ag 75 [iD ar, .osl 0 0 n n Aa] [rwB (rows.map rowV)] [] (.tup [.agg [iD ar, .osl 0 0 U.length U.length Aa],iD 0]) [rwB (U.map rowV++t),relB (iD ar) (.osl 0 0 U.length U.length Aa)]:=by
  cases hsb:srtB rows with
  | true=>
   rw[hsb]at hS a1;rw[if_pos rfl]at hS;subst hS;refine zAk Tb_ok mixed B1 rfl (keepB rfl)<|vAu<|zB<|vA<|vrT 1<|vnt [rwB<|Af rowV S,Ao [iD 0,nl] 43 0 Ac Ac Ax]<|zAx [] [] [Ai 0 0 n n Aa,Ay (Fn.func 102) [] []] [Ai 0 0 n n Aa,Ay (Fn.func 102) [] []] (LeL.refl _) (by exact a1) ?_;refine v0s<|veT<|vf<|vK<|vA<|vrT 1<|vnt [Ao (Af rowV S) 29 1 Aa Ac Ax,Ao [iD 0,nl] 43 0 Ac Ac Ax]<|zAx [] [] [Ai 0 0 n n Aa,Ay (Fn.func 100) [] []] [Ai 0 0 n n Aa,Ay (Fn.func 100) [] []] (LeL.refl _) (by exact a3) ?_;refine v0s<|veT<|zB<|vAe<|vF ((Ad U:Int)>(65536:Int))<|vK<|zB<|vAe<|zF<|zS (λ(i:Nat)=>fr 35 [(0,iD ar),(1,Ai 0 0 (Ad U) (Ad U) Aa),(4,AK 1 0),(5,iD 0),(19,iD<|Ad U),(20,iD i)]) (λ(i:Nat)=>[rwB (U.map rowV++t),relB (iD 0) nl]) (λ(i:Nat)=>U.length-i) (λ(i:Nat)=>i<=U.length) 0 ?_ ?_ ?_
   ·omega
   ·refine vk 2 ?_;grind [zWw]
   rintro i h1;rcases AL i U.length with h2|h2
   ·have hx:=zM5 U t i h2;have hst:=zVt U t i h2;have hlr:=hum _ (zAf U [] i h2);have hlc:i<(U.map rowV++t).length:=by simp;omega
    have hcl:=zHw (zL (U.getD i [])) (U.getD i []).length (zAp _) (by omega);refine vAu<|zB<|vT ((i:Int)<↑(Ad U))<|vKB<|vAe<|zA rfl<|vr 5 ((0:Int)<=(i:Int)/\(i:Int)<↑(Ad U))<|vo 27 0 i<|vr 1 (0<Ad (Am i<|Aq<|rwB (Af rowV U++t)))<|vsh 28 hx<|vc hcl<|vr 1 ((0:Int)<=(i:Int)/\(i:Int)<↑(Ad U))<|vo 30 0 i<|vr 1 (Bk.fz (rwB (Af rowV U++t))=Ac/\Aa=Aa/\1=1/\i+1<=Ad (Aq<|rwB (Af rowV U++t))/\¬0∈[])<|vb 0 (Ao (setAt (Aq<|rwB (Af rowV U++t)) i<|cellsOf<|An (zL<|Aj U i [])<|Ad<|Aj U i []) (Bk.ty<|rwB (Af rowV U++t)) (Bk.sz<|rwB (Af rowV U++t)) Aa Ac<|Bk.kd<|rwB (Af rowV U++t)) (Ao (Af rowV U++t) (29:TypeId) 1 Aa Ac Ax)<|vnil<|zE<|vN<|zA rfl<|vr 2 (i6 (↑i+1))<|vnil<|zC<|⟨i+1,by omega,by omega,?_⟩;refine vk 2 ?_;grind [zWw]
   refine vAu<|zB<|vF ((i:Int)<(Ad U:Int))<|vZ2<|vA<|ve (((1=1/\1<=2/\1=1/\2<=2/\True)/\Aa=Aa)/\Ac=Ac/\Aa=Aa/\2=2/\2<=2)<|zJ<|zAj (2<=2) [AE [Al<|Au AB ar,Ai 0 0 (Ad U) (Ad U) Aa],Al<|Au AB (0:Int)] (.inr rfl) ?_ (hc:=by omega);exact⟨by kernel_rfl,by kernel_rfl⟩
  | false=>
   rw[hsb]at hS a1;rw[if_neg (by decide)]at hS;have hpos:0<n:=by
    rcases Bv n with h|h
    ·subst hn;rw[List.length_eq_zero_iff.1 h]at hsb;cases hsb
    exact h
   have a2:=(zZv rows n hn (by omega) hpos hl).atG (st:=[rwB (rows.map rowV),relB (iD 0) nl]) 0 rfl (Bk.free_arr rfl rfl) (Bk.free_arr rfl rfl) zJd;rw[<-hS]at a2;refine zAk Tb_ok mixed B1 rfl (keepB rfl)<|vAu<|zB<|vA<|vrT 1<|vnt [rwB<|Af rowV rows,Ao [iD 0,nl] 43 0 Ac Ac Ax]<|zAx [] [] [Ai 0 0 n n Aa,Ay (Fn.func 102) [] []] [Ai 0 0 n n Aa,Ay (Fn.func 102) [] []] (LeL.refl _) (by exact a1) ?_;refine v0s<|veT<|vt<|zA rfl<|vrT 1<|vnt [Ao (Af rowV rows) 29 1 Aa Ac Ax,Ao [iD 0,nl] 43 0 Ac Ac Ax]<|zAx [] [] [Ai 0 0 n n Aa,Ay (Fn.func 102) [] []] [Ai 0 0 n n Aa,Ay (Fn.func 102) [] []] (LeL.refl _) (by exact a2) ?_;refine v0s<|veT<|vA<|vrT 1<|vnt [Ao (Af rowV S) 29 1 Aa Ac Ax,Ao [iD 0,nl] 43 0 Ac Ac Ax]<|zAx [] [] [Ai 0 0 n n Aa,Ay (Fn.func 100) [] []] [Ai 0 0 n n Aa,Ay (Fn.func 100) [] []] (LeL.refl _) (by exact a3) ?_;refine v0s<|veT<|zB<|vAe<|vF ((Ad U:Int)>(65536:Int))<|vK<|zB<|vAe<|zF<|zS (λ(i:Nat)=>fr 35 [(0,iD ar),(1,Ai 0 0 (Ad U) (Ad U) Aa),(4,AK 1 0),(5,iD 0),(19,iD<|Ad U),(20,iD i)]) (λ(i:Nat)=>[rwB (U.map rowV++t),relB (iD 0) nl]) (λ(i:Nat)=>U.length-i) (λ(i:Nat)=>i<=U.length) 0 ?_ ?_ ?_
   ·omega
   ·refine vk 2 ?_;grind [zWw]
   rintro i h1;rcases AL i U.length with h2|h2
   ·have hx:=zM5 U t i h2;have hst:=zVt U t i h2;have hlr:=hum _ (zAf U [] i h2);have hlc:i<(U.map rowV++t).length:=by simp;omega
    have hcl:=zHw (zL (U.getD i [])) (U.getD i []).length (zAp _) (by omega);refine vAu<|zB<|vT ((i:Int)<↑(Ad U))<|vKB<|vAe<|zA rfl<|vr 5 ((0:Int)<=(i:Int)/\(i:Int)<↑(Ad U))<|vo 27 0 i<|vr 1 (0<Ad (Am i<|Aq<|rwB (Af rowV U++t)))<|vsh 28 hx<|vc hcl<|vr 1 ((0:Int)<=(i:Int)/\(i:Int)<↑(Ad U))<|vo 30 0 i<|vr 1 (Bk.fz (rwB (Af rowV U++t))=Ac/\Aa=Aa/\1=1/\i+1<=Ad (Aq<|rwB (Af rowV U++t))/\¬0∈[])<|vb 0 (Ao (setAt (Aq<|rwB (Af rowV U++t)) i<|cellsOf<|An (zL<|Aj U i [])<|Ad<|Aj U i []) (Bk.ty<|rwB (Af rowV U++t)) (Bk.sz<|rwB (Af rowV U++t)) Aa Ac<|Bk.kd<|rwB (Af rowV U++t)) (Ao (Af rowV U++t) (29:TypeId) 1 Aa Ac Ax)<|vnil<|zE<|vN<|zA rfl<|vr 2 (i6 (↑i+1))<|vnil<|zC<|⟨i+1,by omega,by omega,?_⟩;refine vk 2 ?_;grind [zWw]
   refine vAu<|zB<|vF ((i:Int)<(Ad U:Int))<|vZ2<|vA<|ve (((1=1/\1<=2/\1=1/\2<=2/\True)/\Aa=Aa)/\Ac=Ac/\Aa=Aa/\2=2/\2<=2)<|zJ<|zAj (2<=2) [AE [Al<|Au AB ar,Ai 0 0 (Ad U) (Ad U) Aa],Al<|Au AB (0:Int)] (.inr rfl) ?_ (hc:=by omega);exact⟨by kernel_rfl,by kernel_rfl⟩
 exact key.cut 1 (by simp) rfl
set_option maxHeartbeats 2000000 in
theorem buildF_a(ar:Int)(rows:List Rw)(n:Nat)(hn:rows.length=n)(hb:n<=2000000)(hU65:65536<(relR rows).length)(hl:∀r∈rows,r.length<=2000000):∃t:List D,Acts Ag 75 [iD ar, .osl 0 0 n n Aa] [rwB (rows.map rowV)] [] (.tup [.agg [iD 0,nl],iD 11]) [rwB ((relR rows).map rowV++t)]:=by
 obtain⟨S,hS⟩:∃S,S=if srtB rows then rows else zMl rows:=⟨_,rfl⟩
 have hSl:S.length=n:=by
  rw[hS];split
  ·exact hn
  rw[(zB2 rows).length_eq,hn]
 have hSm:∀r∈S,r.length<=2000000:=λr hr=>by
  grind [zB2]
 obtain⟨t,hc⟩:=zR3 S n hSl (by omega) hSm;refine⟨t,?_⟩;have hu:=zVj S;have hum:∀r∈uq S,r.length<=2000000:=λr hr=>hSm r (zZb hr);have hrel:relR rows=uq S:=by rw[hS];rfl
 rw[hrel]at hU65⊢;have hs:=zM4 rows n hn (by omega) hl;have a1:=hs.atG (st:=[rwB (rows.map rowV),relB (iD 0) nl]) 0 rfl (Bk.free_arr rfl rfl) (Bk.free_arr rfl rfl) zJd;have a3:=hc.atG (st:=[rwB (S.map rowV),relB (iD 0) nl]) 0 rfl (Bk.free_arr rfl rfl) (Bk.free_arr rfl rfl) zJd;generalize hU:uq S=U at*;have key:Acts Ag 75 [iD ar, .osl 0 0 n n Aa] [rwB (rows.map rowV)] [] (.tup [.agg [iD 0,nl],iD 11]) [rwB (U.map rowV++t),relB (iD 0) nl]:=by
  cases hsb:srtB rows with
  |true=>
   rw[hsb]at hS a1;rw[if_pos rfl]at hS;subst hS;refine zAk Tb_ok mixed B1 rfl (keepB rfl)<|vAu<|zB<|vA<|vrT 1<|vnt [rwB<|Af rowV S,Ao [iD 0,nl] 43 0 Ac Ac Ax]<|zAx [] [] [Ai 0 0 n n Aa,Ay (Fn.func 102) [] []] [Ai 0 0 n n Aa,Ay (Fn.func 102) [] []] (LeL.refl _) (by exact a1) ?_;refine v0s<|veT<|vf<|vK<|vA<|vrT 1<|vnt [Ao (Af rowV S) 29 1 Aa Ac Ax,Ao [iD 0,nl] 43 0 Ac Ac Ax]<|zAx [] [] [Ai 0 0 n n Aa,Ay (Fn.func 100) [] []] [Ai 0 0 n n Aa,Ay (Fn.func 100) [] []] (LeL.refl _) (by exact a3) ?_;refine v0s<|veT<|zB<|vAe<|vT ((Ad U:Int)>(65536:Int))<|vA<|ve ((True/\Aa=Aa)/\Ac=Ac/\Aa=Aa/\2=2/\2<=2)<|zJ<|zH<|zAj (2<=2) [AE [q2_,nl],Al<|Au AB 11] (.inr rfl) ?_ (hc:=by omega);exact⟨by kernel_rfl,by kernel_rfl⟩
  | false=>
   rw[hsb]at hS a1;rw[if_neg (by decide)]at hS;have hpos:0<n:=by
    grind
   have a2:=(zZv rows n hn (by omega) hpos hl).atG (st:=[rwB (rows.map rowV),relB (iD 0) nl]) 0 rfl (Bk.free_arr rfl rfl) (Bk.free_arr rfl rfl) zJd;rw[<-hS]at a2;refine zAk Tb_ok mixed B1 rfl (keepB rfl)<|vAu<|zB<|vA<|vrT 1<|vnt [rwB<|Af rowV rows,Ao [iD 0,nl] 43 0 Ac Ac Ax]<|zAx [] [] [Ai 0 0 n n Aa,Ay (Fn.func 102) [] []] [Ai 0 0 n n Aa,Ay (Fn.func 102) [] []] (LeL.refl _) (by exact a1) ?_;refine v0s<|veT<|vt<|zA rfl<|vrT 1<|vnt [Ao (Af rowV rows) 29 1 Aa Ac Ax,Ao [iD 0,nl] 43 0 Ac Ac Ax]<|zAx [] [] [Ai 0 0 n n Aa,Ay (Fn.func 102) [] []] [Ai 0 0 n n Aa,Ay (Fn.func 102) [] []] (LeL.refl _) (by exact a2) ?_;refine v0s<|veT<|vA<|vrT 1<|vnt [Ao (Af rowV S) 29 1 Aa Ac Ax,Ao [iD 0,nl] 43 0 Ac Ac Ax]<|zAx [] [] [Ai 0 0 n n Aa,Ay (Fn.func 100) [] []] [Ai 0 0 n n Aa,Ay (Fn.func 100) [] []] (LeL.refl _) (by exact a3) ?_;refine v0s<|veT<|zB<|vAe<|vT ((Ad U:Int)>(65536:Int))<|vA<|ve ((True/\Aa=Aa)/\Ac=Ac/\Aa=Aa/\2=2/\2<=2)<|zJ<|zH<|zAj (2<=2) [AE [q2_,nl],Al<|Au AB 11] (.inr rfl) ?_ (hc:=by omega);exact⟨by kernel_rfl,by kernel_rfl⟩
 exact key.cut 1 (by simp) rfl
end
section
open Go.RowKit
def To:Par:=⟨λf=>f==75,λ_ _=>Ae,λ_=>Ac,λ_=>Ac,λ_=>Ac⟩
theorem zBs:zBi Ag To:=by intro t n f h;cases h
theorem zYe(cols:List Nat)(i:Nat)(h:i<cols.length):((cols.map λc=>iD (c:Nat)).drop i).headD .unk=iD (cols.getD i 0:Nat):=by simp_all
end
section
open Go.RowKit
attribute [local irreducible] seqW awp zW zX zP Weak updS zZ retL Pure Acts rP setP setQ cP nP fr
set_option maxRecDepth 4096
abbrev relD(ar:Int)(L:List Rw):D:= .agg [iD ar, .row (L.map rowV) L.length]
abbrev relZ:D:= .agg [iD 0, .row [] 0]
theorem rarity_c(ar:Int)(L:List D)(n:Nat):Pure Ag 62 [.agg [iD ar, .row L n]] [] (iD ar):=by
 refine zG zBs mixed Tryz.func62 rfl<|vAu<|vA<|ve (True/\0<2)<|zJ<|vret (True)<|.inr rfl
theorem new_c(ar:Int)(h0:0<=ar)(h1:ar<=32):Pure Ag 61 [iD ar] [] (.tup [.agg [iD ar, .row [] 0],iD 0]):=by
 refine zG zBs mixed Tryz.func61 rfl<|vAu<|zB<|vA<|vew [] [(2,Ac)] (decide (ar<0)=Ac)<|vF (ar>(32:Int))<|vK<|vA<|ve (((1=1/\1<=2/\True)/\Aa=Aa)/\Ac=Ac/\Aa=Aa/\2=2/\2<=2)<|zJ<|vret (2<=2)<|.inr rfl
theorem newBad_c(ar:Int)(h:ar<0\/32<ar):Pure Ag 61 [iD ar] [] (.tup [relZ,iD 3]):=by
 by_cases h0:ar<0
 ·refine zG zBs mixed Tryz.func61 rfl<|vAu<|zB<|vA<|vew [] [(2,Aa)] (decide (ar<0)=Aa)<|vt<|vA<|ve ((True/\Aa=Aa)/\Ac=Ac/\Aa=Aa/\2=2/\2<=2)<|zJ<|zH<|vret (2<=2)<|.inr rfl
 have h1:32<ar:=by omega
 refine zG zBs mixed Tryz.func61 rfl<|vAu<|zB<|vA<|vew [] [(2,Ac)] (decide (ar<0)=Ac)<|vT (ar>(32:Int))<|vA<|ve ((True/\Aa=Aa)/\Ac=Ac/\Aa=Aa/\2=2/\2<=2)<|zJ<|zH<|vret (2<=2)<|.inr rfl
def accE(ar:Int)(x:Rw):Int:=if(x.length:Int)≠ar then 6 else if x.all vok then 0 else 4
theorem accepts_c(ar:Int)(x:Rw)(hx:(x.length:Int)=ar->x.length<=2000000):Pure Ag 52 [.agg [iD ar, .row [] 0],rowV x] [] (iD (accE ar x)):=by
 unfold accE;by_cases h:(x.length:Int)=ar
 ·have hv:=zNs x _ rfl (by have:=hx h;omega);subst h;rw[if_neg (λk=>k rfl)];cases hb:x.all vok
  ·rw[hb]at hv;refine zG zBs mixed Tryz.func52 rfl<|vAu<|zB<|vA<|ve (True/\0<2/\True)<|zFb (t:=(Ad x:Int)!=(Ad x:Int)) (by kernel_rfl) (by simp)<|vK<|zB<|vA<|vrT 1<|vc (hv)<|veT<|vt<|vAe<|zJ<|zH<|vret (True)<|.inr rfl
  rw[hb]at hv;refine zG zBs mixed Tryz.func52 rfl<|vAu<|zB<|vA<|ve (True/\0<2/\True)<|zFb (t:=(Ad x:Int)!=(Ad x:Int)) (by kernel_rfl) (by simp)<|vK<|zB<|vA<|vrT 1<|vc (hv)<|veT<|vf<|vK<|vAe<|zJ<|vret (True)<|.inr rfl
 rw[if_pos h];refine zG zBs mixed Tryz.func52 rfl<|vAu<|zB<|vA<|ve (True/\0<2/\True)<|zE9 (t:=(Ad x:Int)!=ar) (by kernel_rfl) (by simpa using by omega)<|vAe<|zJ<|zH<|vret (True)<|.inr rfl
def accL(ar:Int):List Rw->Int
 |[]=>0
 |x::l=>if accE ar x≠0 then accE ar x else accL ar l
theorem accL_at{ar:Int}:∀{L:List Rw}{i:Nat},(∀j,j<i->accE ar (L.getD j [])=0)->i<L.length->accE ar (L.getD i [])≠0->accL ar L=accE ar (L.getD i [])
 |x::l,0,_,_,h=>by
  have h:accE ar x≠0:=h;simp only[accL,if_pos h];rfl
 |x::l,i+1,h,hi,he=>by
  have h0:accE ar x=0:=h 0 (by omega);simp only[accL];rw[if_neg (by rw[h0];exact λk=>k rfl)]
  have:=accL_at (ar:=ar) (L:=l) (i:=i) (λj hj=>by have:=h (j+1) (by omega);simpa using this) (by simpa using hi) (by simpa using he)
  rw[this];simp
theorem accL_0{ar:Int}:∀{L:List Rw},(∀j,j<L.length->accE ar (L.getD j [])=0)->accL ar L=0
 |[],_=>rfl
 |x::l,h=>by
  have h0:accE ar x=0:=h 0 (by simp);simp only[accL];rw[if_neg (by rw[h0];exact λk=>k rfl)];exact accL_0 λj hj=>by have:=h (j+1) (by simpa using hj);simpa using this
def rofE(ar:Int)(rows:List Rw):Int:=if accL ar rows≠0 then accL ar rows else if 65536<(relR rows).length then 11 else 0
set_option maxHeartbeats 2000000 in
theorem relOf2_c(ar:Int)(rows:List Rw)(n:Nat)(h0:0<=ar)(h32:ar<=32)(hn:rows.length=n)(hb:n<=2000000):Pure Ag 54 [iD ar, .row (rows.map rowV) n] [] (if rofE ar rows=0 then .tup [relD ar (relR rows),iD 0]else .tup [relZ,iD (rofE ar rows)]):=by
 subst hn;have hnew:=new_c ar h0 h32;have hcl:=zTt (rows.map rowV) rows.length (by simp) (by omega);rw[BC]at hcl;refine zG zBs mixed Tryz.func54 rfl<|vAu<|vA<|vrT 1<|vc (hnew)<|ve (0<2/\1<2/\Ac=Ac/\Aa=Aa/\2=2/\2<=2)<|zB<|vAe<|vf<|vK<|zB<|vAe<|zF<|zS (λ(i:Nat)=>fr 41 [(0,iD ar),(1,An (Af rowV rows)<|Ad rows),(4,AK 0 0),(6,AK 1 0),(20,iD (Ad rows:Int)),(21,iD (i:Int))]) (λ(i:Nat)=>[relB (iD 0) nl,relB (iD ar)<|.row [] 0]) (λ(i:Nat)=>rows.length-i) (λ(i:Nat)=>i<=rows.length/\∀j,j<i->accE ar (rows.getD j [])=0) 0 ?_ ?_ ?_
 ·exact⟨by omega,λj h=>by omega⟩
 ·refine vk 2
 rintro i ⟨h1,h2⟩;rcases AL i rows.length with h3|h3
 ·have hx:=zBm rows i (h:=h3);have hne:rows.map rowV≠[]:=zAb;have hac:=accepts_c ar (rows.getD i []) (λh=>by omega);have hat:=accL_at h2 h3;by_cases he:accE ar (rows.getD i [])=0
  ·rw[he]at hac;refine vAu<|zB<|vT ((i:Int)<↑(Ad rows))<|vKB<|vAe<|zB<|vd [1,2,3,0,4,5,6]<|vr 3 (ix ↑i ↑(Ad rows) (Af rowV rows≠[]))<|vp 27 i (Af rowV rows)<|vr 2 (2<=2/\0<Ad (Am i<|Af rowV rows))<|vsh 28 hx<|vc hac<|veT<|vAe<|vf<|zK<|zE<|vN<|zA rfl<|vr 2 (i6 (↑i+1))<|vnil<|zC<|⟨i+1,⟨by omega,λj hj=>?_⟩,by omega,?_⟩
   ·rcases AL j i with h|h
    ·exact h2 j h
    obtain rfl:j=i:=by omega
    exact he
   refine vk 2
  have hat:=hat he;have hro:rofE ar rows=accE ar (rows.getD i []):=by unfold rofE;rw[if_pos (by rw[hat];exact he),hat]
  rw[hro,if_neg he];generalize accE ar (rows.getD i [])=e at*;refine vAu<|zB<|vT ((i:Int)<↑(Ad rows))<|vKB<|vAe<|zB<|vd [1,2,3,0,4,5,6]<|vr 3 (ix ↑i ↑(Ad rows) (Af rowV rows≠[]))<|vp 27 i (Af rowV rows)<|vr 2 (2<=2/\0<Ad (Am i<|Af rowV rows))<|vsh 28 hx<|vc hac<|veT<|vAe<|zE9 (t:=e !=(0:Int)) (by kernel_rfl) (by simpa using by omega)<|vA<|ve ((True/\Aa=Aa)/\Ac=Ac/\Aa=Aa/\2=2/\2<=2)<|zJ<|zN<|zH<|zH<|zN<|zH<|vret (2<=2)<|.inr rfl
 have ha0:accL ar rows=0:=accL_0 λj hj=>h2 j (by omega);have hl:∀r∈rows,r.length<=2000000:=λr hr=>by
  obtain⟨j,hj,rfl⟩:=Ch hr;have h4:=h2 j (by omega);rw[AP,Ap hj]at h4;have h4:accE ar rows[j]=0:=h4;unfold accE at h4;split at h4
  ·omega
  omega
 by_cases hU:(relR rows).length<=65536
 ·have hro:rofE ar rows=0:=by unfold rofE;rw[if_neg (by rw[ha0];exact λk=>k rfl),if_neg (by omega)]
  obtain⟨t,hbu⟩:=build_a ar rows _ rfl hb hU hl;have hbk:∀(b0 b1:Bk),Acts Ag 75 [iD ar, .osl 2 0 rows.length rows.length Aa] [b0,b1,rwB (rows.map rowV)] [] (.tup [.agg [iD ar, .osl 2 0 (relR rows).length (relR rows).length Aa],iD 0]) [b0,b1,rwB ((relR rows).map rowV++t)]:=λb0 b1=>
   hbu.atG (st:=[b0,b1,rwB (rows.map rowV)]) 2 rfl (Bk.free_arr rfl rfl) (Bk.free_arr rfl rfl) zN5
  have htk:((relR rows).map rowV++t).take (relR rows).length=(relR rows).map rowV:=List.take_left' (by simp);rw[hro,if_pos rfl];refine vAu<|zB<|vF ((i:Int)<↑(Ad rows))<|vZ2<|vA<|vrT 2<|vn hcl<|vnt [relB (iD 0) nl,relB (iD ar)<|An [] 0,Ao (Af rowV rows) (29:TypeId) 1 Aa Ac Ax]<|zAx [] [] [iD ar,Ai 2 0 (Ad rows) (Ad rows) Aa] [iD ar,Ai 2 0 (Ad rows) (Ad rows) Aa] (LeL.refl _) (by exact hbk _ _) ?_;refine v0s<|ve (0<2/\1<2/\Ac=Ac/\Aa=Aa/\2=2/\2<=2)<|zJ<|zAy (2<=2) (D.tup [AE [iD ar,An (Bg (Ad<|relR rows)<|Am 0 (Af rowV (relR rows)++t))<|Ad<|relR rows],iD 0]) (D.tup [AE [Al<|Au AB ar,An (Af rowV<|relR rows)<|Ad<|relR rows],Al<|Au AB 0]) (.inr rfl) (by simp(disch:=omega) only[BM,htk]) rfl (hc:=by omega)
 have hro:rofE ar rows=11:=by unfold rofE;rw[if_neg (by rw[ha0];exact λk=>k rfl),if_pos (by omega)]
 obtain⟨t,hbu⟩:=buildF_a ar rows _ rfl hb (by omega) hl;have hbk:∀(b0 b1:Bk),Acts Ag 75 [iD ar, .osl 2 0 rows.length rows.length Aa] [b0,b1,rwB (rows.map rowV)] [] (.tup [.agg [iD 0,nl],iD 11]) [b0,b1,rwB ((relR rows).map rowV++t)]:=λb0 b1=>
  hbu.atG (st:=[b0,b1,rwB (rows.map rowV)]) 2 rfl (Bk.free_arr rfl rfl) (Bk.free_arr rfl rfl) zN5
 rw[hro,if_neg (by decide)];refine vAu<|zB<|vF ((i:Int)<↑(Ad rows))<|vZ2<|vA<|vrT 2<|vn hcl<|vnt [relB (iD 0) nl,relB (iD ar)<|An [] 0,Ao (Af rowV rows) (29:TypeId) 1 Aa Ac Ax]<|zAx [] [] [iD ar,Ai 2 0 (Ad rows) (Ad rows) Aa] [iD ar,Ai 2 0 (Ad rows) (Ad rows) Aa] (LeL.refl _) (by exact hbk _ _) ?_;refine v0s<|ve (0<2/\1<2/\Ac=Ac/\Aa=Aa/\2=2/\2<=2)<|zJ<|vret (2<=2)<|.inr rfl
end
end Go.Proofs.YthmfohpkimflhaaGreatDoor
